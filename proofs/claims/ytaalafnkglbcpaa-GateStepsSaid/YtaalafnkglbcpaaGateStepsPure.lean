/- The plain law of GateSteps: a run is done step by step. No condition beyond the given statement. -/
import Derived.Test.YtaalafnkglbcpaaGatePlain
namespace Go.Proofs.Ytaalafnkglbcpaa.Pure
open Go.RowKit Go.Proofs.Ytaalafnkglbcpaa.PG Go.Proofs.YtaalafnkglbcpaaW.PrintWords Go.Proofs.YtaalafnkglbcpaaW.PrintLast Go.Proofs.YtaalafnkglbcpaaW.PrintMore
set_option linter.unusedVariables false

theorem ev_shift {α : Type} {g f : Nat → Option α} {r : α} (h : ∀ k, g (k + 1) = f k) (k : Ev g r) : Ev f r := by
  obtain ⟨K, hK⟩ := k
  exact ⟨K, fun n hn => by rw [← h n]; exact hK (n + 1) (by omega)⟩
theorem ev_some {α : Type} {a r : α} (k : Ev (fun _ => some a) r) : a = r := by
  obtain ⟨K, hK⟩ := k
  exact Option.some.inj (hK K (Nat.le_refl _))

def afterBits (x7 : List Int) (x8 x9 : Int) (x10 : List Int) (x12 : Int) (w : List Int) (wl i35 ins : Int) (gates : List S50) (outs next init : List Int) (n : Int) (k : Nat) : Option Bool :=
  (gate_Step.f k ins gates outs next init x9 x12).bind fun bt249 => (if bt249.1 = n then (if x10.length < 17592186044416 then (bakekeep3_GateSteps.l0 k x7 x8 bt249.2 (x10 ++ [bt249.1]) w wl (wrap64 (i35 + 1)) ins gates outs next init) else (none)) else (some false))

theorem law_l1 (x7 : List Int) (x8 x9 : Int) (x10 : List Int) (x12 : Int) (v w : List Int) (wl i35 ins : Int) (gates : List S50) (outs next init : List Int) (h : InR v.length outs) (hl : outs.length ≤ 1000) (R : Bool) :
    ∀ d i : Nat, ∀ acc n : Int, i + d = outs.length → Ev (fun k => gate_bits.l0 k v acc outs (outs.length : Int) (i : Int)) n → Ev (afterBits x7 x8 x9 x10 x12 w wl i35 ins gates outs next init n) R →
      Ev (fun k => bakekeep3_GateSteps.l1 k x7 x8 x9 x10 x12 v acc w wl i35 outs (outs.length : Int) (i : Int) ins gates outs next init) R := by
  intro d
  induction d with
  | zero =>
    intro i acc n hi hb hR
    have : acc = n := ev_some (ev_shift (f := fun _ => some acc) (fun k => by simp only [gate_bits.l0]; rw [if_neg (by omega)]) hb)
    subst this
    refine Ev.step (fun k => ?_) hR
    simp only [bakekeep3_GateSteps.l1]; rw [if_neg (by omega)]; rfl
  | succ d ih =>
    intro i acc n hi hb hR
    have hr := rd_in h i (by omega)
    refine Ev.step (fun k => ?_) (ih (i + 1) (Go.bits .or .i64 acc (shl .i64 (rd v (rd outs (i : Int))) (i : Int))) n (by omega) ?_ hR)
    · simp only [bakekeep3_GateSteps.l1]; rw [if_pos (by omega), if_pos (by omega), if_pos (by omega), if_pos hr.1, if_pos hr.2, wnext (by omega)]
    · exact ev_shift (fun k => by simp only [gate_bits.l0]; rw [if_pos (by omega), if_pos (by omega), if_pos (by omega), if_pos hr.1, if_pos hr.2, wnext (by omega)]) hb

section
variable {ins : Int} {gates : List S50} {outs next init : List Int}

theorem stepped (v : ValidC ins gates outs next init) (s x : Int) : ∃ (u : List Int) (o t : Int), u.length = gates.length ∧ Ev (fun k => gate_values.f k ins gates outs next init s x) u ∧ Ev (fun k => gate_bits.f k u outs) o ∧ Ev (fun k => gate_bits.f k u next) t := by
  obtain ⟨u, hu, hl⟩ := values_is v s x
  have v3 := v.o1; have v4 := v.n1
  obtain ⟨o, ho⟩ := bits_is u outs (by rw [hl]; exact v.ook) (by omega)
  obtain ⟨t, ht⟩ := bits_is u next (by rw [hl]; exact v.nok) (by omega)
  exact ⟨u, o, t, hl, hu, ho, ht⟩

theorem Values_is (v : ValidC ins gates outs next init) {s x : Int} {u : List Int} (hu : Ev (fun k => gate_values.f k ins gates outs next init s x) u) : Ev (fun k => gate_Values.f k ins gates outs next init s x) (u, 0) := by
  unfold gate_Values.f
  refine Ev.bind (check_is v) ?_
  refine Ev.congr (f := fun k => (gate_values.f k ins gates outs next init s x).bind fun t185 => some (t185, 0)) (fun k => by rw [if_pos rfl]) ?_
  exact Ev.bind hu (Ev.now _)

theorem Step_is (v : ValidC ins gates outs next init) {s x o t : Int} {u : List Int} (hu : Ev (fun k => gate_values.f k ins gates outs next init s x) u) (ho : Ev (fun k => gate_bits.f k u outs) o) (ht : Ev (fun k => gate_bits.f k u next) t) : Ev (fun k => gate_Step.f k ins gates outs next init s x) (o, t) := by
  unfold gate_Step.f
  refine Ev.bind (check_is v) ?_
  refine Ev.congr (f := fun k => (gate_values.f k ins gates outs next init s x).bind fun t190 => ((gate_bits.f k t190 outs).bind fun t193 => ((gate_bits.f k t190 next).bind fun t194 => (some (t193, t194))))) (fun k => by rw [if_pos rfl]) ?_
  exact Ev.bind hu (Ev.bind ho (Ev.bind ht (Ev.now _)))

theorem rounds_are (v : ValidC ins gates outs next init) (w : List Int) (hw : w.length ≤ 60) (hb : InR (shl .i64 1 ins) w) : ∀ d i : Nat, ∀ (acc : List Int) (s : Int), i + d = w.length → acc.length = i →
    ∃ res, Ev (fun k => gate_Run.l0 k acc s w (w.length : Int) (i : Int) ins gates outs next init) (res, 0) ∧ Ev (fun k => bakekeep3_GateSteps.l0 k res 0 s acc w (w.length : Int) (i : Int) ins gates outs next init) true := by
  intro d
  induction d with
  | zero =>
    intro i acc s hi ha
    refine ⟨acc, Ev.step (fun k => ?_) (Ev.now _), ?_⟩
    · simp only [gate_Run.l0]; rw [if_neg (by omega)]
    · refine Ev.step (f := fun k => (bakekeep3_gated.f k).bind fun t240 => (if t240 = true then ((slices_Equal_int_int.f k acc acc).bind fun t241 => (some t241)) else (some false))) (fun k => ?_) ?_
      · simp only [bakekeep3_GateSteps.l0]; rw [if_neg (by omega)]; simp only [if_true]
      · refine Ev.bind gated_is (Ev.congr (f := fun k => (slices_Equal_int_int.f k acc acc).bind fun t241 => (some t241)) (fun k => by rw [if_pos rfl]) ?_)
        exact Ev.bind (equal_self acc (by omega)) (Ev.now _)
  | succ d ih =>
    intro i acc s hi ha
    have hr := rd_in hb i (by omega)
    have i0 := v.i0
    obtain ⟨u, o, t, hl, hu, ho, ht⟩ := stepped v s (rd w (i : Int))
    obtain ⟨res, h1, h2⟩ := ih (i + 1) (acc ++ [o]) t (by omega) (by simp; omega)
    refine ⟨res, ?_, ?_⟩
    · refine Ev.step (f := fun k => gate_Run.j1 k acc s (rd w (i : Int)) w (w.length : Int) (i : Int) false ins gates outs next init) (fun k => ?_) ?_
      · have hd : decide ((rd w (i : Int)) ≥ (shl .i64 1 ins)) = false := decide_eq_false (by omega)
        simp only [gate_Run.l0]; rw [if_pos (by omega), if_pos (by omega), if_pos (by omega), if_neg (by omega), if_pos (by omega), hd]
      · refine Ev.step (f := fun k => (gate_values.f k ins gates outs next init s (rd w (i : Int))).bind fun t175 => ((gate_bits.f k t175 outs).bind fun t178 => (if acc.length < 17592186044416 then ((gate_bits.f k t175 next).bind fun t182 => (gate_Run.l0 k (acc ++ [t178]) t182 w (w.length : Int) (wrap64 ((i : Int) + 1)) ins gates outs next init)) else (none)))) (fun k => ?_) ?_
        · simp only [gate_Run.j1]; rw [if_neg (by decide)]
        · refine Ev.bind hu (Ev.bind ho ?_)
          refine Ev.congr (f := fun k => (gate_bits.f k u next).bind fun t182 => (gate_Run.l0 k (acc ++ [o]) t182 w (w.length : Int) (wrap64 ((i : Int) + 1)) ins gates outs next init)) (fun k => by rw [if_pos (by omega)]) ?_
          refine Ev.bind ht (Ev.congr (fun k => ?_) h1)
          rw [wnext (by omega)]
    · refine Ev.step (f := fun k => (gate_Values.f k ins gates outs next init s (rd w (i : Int))).bind fun bt243 => (if bt243.2 = 0 then (bakekeep3_GateSteps.j1 k res 0 s acc (rd w (i : Int)) bt243.1 w (w.length : Int) (i : Int) ((bt243.1.length : Int) != (gates.length : Int)) ins gates outs next init) else (bakekeep3_GateSteps.j1 k res 0 s acc (rd w (i : Int)) bt243.1 w (w.length : Int) (i : Int) true ins gates outs next init))) (fun k => ?_) ?_
      · simp only [bakekeep3_GateSteps.l0]; rw [if_pos (by omega), if_pos (by omega), if_pos (by omega)]
      · refine Ev.bind (Values_is v hu) ?_
        refine Ev.congr (f := fun k => bakekeep3_GateSteps.j1 k res 0 s acc (rd w (i : Int)) u w (w.length : Int) (i : Int) false ins gates outs next init) (fun k => by simp only [if_true, hl, bne_self_eq_false]) ?_
        refine Ev.step (f := fun k => bakekeep3_GateSteps.l1 k res 0 s acc (rd w (i : Int)) u 0 w (w.length : Int) (i : Int) outs (outs.length : Int) 0 ins gates outs next init) (fun k => ?_) ?_
        · simp only [bakekeep3_GateSteps.j1]; rw [if_neg (by decide)]
        · have v3 := v.o1
          refine law_l1 res 0 s acc (rd w (i : Int)) u w (w.length : Int) (i : Int) ins gates outs next init (by rw [hl]; exact v.ook) (by omega) true outs.length 0 0 o (by omega) (Ev.congr (fun k => by unfold gate_bits.f; rfl) ho) ?_
          unfold afterBits
          refine Ev.bind (Step_is v hu ho ht) ?_
          refine Ev.congr (fun k => ?_) h2
          rw [if_pos rfl, if_pos (by omega), wnext (by omega)]
end

theorem gateSteps_pure : bakekeep3_GateSteps.Pure := by
  intro ⟨ins, gates, outs, next, init⟩ v l1 hm hy hwf
  simp only at v
  have v4 := v.n1; have v5 := v.il
  obtain ⟨w, hw, hw1, hw2⟩ := word_is ins v.i0 v.i1 l1
  obtain ⟨s, hs⟩ := start_is ins gates outs next init (by omega)
  obtain ⟨res, h1, h2⟩ := rounds_are v w hw1 hw2 w.length 0 [] s (by omega) rfl
  have hrun : Ev (fun k => gate_Run.f k ins gates outs next init w) (res, 0) := by
    unfold gate_Run.f
    refine Ev.bind (check_is v) ?_
    refine Ev.congr (f := fun k => (gate_Start.f k ins gates outs next init).bind fun t173 => (gate_Run.l0 k ([] : List Int) t173 w (w.length : Int) 0 ins gates outs next init)) (fun k => by rw [if_pos rfl]) ?_
    exact Ev.bind hs h1
  refine Ev.rounds (g := fun k => bakekeep3_GateSteps.f k (ins, gates, outs, next, init) l1) ?_
  unfold bakekeep3_GateSteps.f
  exact Ev.bind hw (Ev.bind hrun (Ev.bind hs h2))
end Go.Proofs.Ytaalafnkglbcpaa.Pure
