/- Own texts of this claim, part E: contracts of the functions that the law reaches, and plain lemmas. -/
import Derived.Test.YtaalafnkglbcpaaSBD
/- What the table of a circuit says, plain; a circuit of a table does as the table. Own text of this claim. -/
section
namespace Go.Proofs.Ytaalafnkglbcpaa.SY
open Go.RowKit Go.WideMaps Go.Maps Go.Proofs.YtaalafnkglbcpaaW.PrintWords Go.Proofs.YtaalafnkglbcpaaW.PrintLast Go.Proofs.YtaalafnkglbcpaaW.PrintMore
open Go.Proofs.Ytaalafnkglbcpaa.PL (S77 z77 k77 Tab TabR roww cel pre_getD)
set_option linter.unusedVariables false
/-- A row tells state s. -/
structure RowP (c : Cir) (reps : List Nat) (s : Nat) (xs : List Nat) (row : List S77) : Prop where
  len : row.length = xs.length
  at_ : ∀ a, a < xs.length → ∃ k : Nat, row.getD a z77 = ⟨(c.out s (xs.getD a 0) : Nat), (k : Nat)⟩ ∧ k < reps.length ∧ reps.getD k 0 = c.nxt s (xs.getD a 0)
theorem RowP.mono {c : Cir} {reps reps' : List Nat} {s : Nat} {xs : List Nat} {row : List S77} (h : RowP c reps s xs row) (hp : reps <+: reps') : RowP c reps' s xs row :=
  ⟨h.len, fun a ha => by
    obtain ⟨k, h1, h2, h3⟩ := h.at_ a ha
    exact ⟨k, h1, Nat.lt_of_lt_of_le h2 hp.length_le, by rw [pre_getD hp h2]; exact h3⟩⟩
theorem getD_app_lt {α : Type} (l m : List α) (z : α) {i : Nat} (h : i < l.length) : (l ++ m).getD i z = l.getD i z := by
  rw [List.getD_eq_getElem?_getD, List.getElem?_append_left h, ← List.getD_eq_getElem?_getD]
theorem getD_app_at {α : Type} (l : List α) (z x : α) : (l ++ [x]).getD l.length z = x := by
  rw [List.getD_eq_getElem?_getD, List.getElem?_append_right (Nat.le_refl _), Nat.sub_self]; rfl
theorem RowP.add {c : Cir} {reps : List Nat} {s x k : Nat} {xs : List Nat} {row : List S77} (h : RowP c reps s xs row) (hk : k < reps.length) (hx : reps.getD k 0 = c.nxt s x) : RowP c reps s (xs ++ [x]) (row ++ [⟨(c.out s x : Nat), (k : Nat)⟩]) :=
  ⟨by simp [h.len], fun a ha => by
    rw [List.length_append, List.length_singleton] at ha
    rcases Nat.lt_or_ge a xs.length with h1 | h1
    · rw [getD_app_lt xs _ _ h1, getD_app_lt row _ _ (by rw [h.len]; exact h1)]
      exact h.at_ a h1
    · have e : a = xs.length := by omega
      subst e
      rw [getD_app_at, ← h.len, getD_app_at]
      exact ⟨k, rfl, hk, hx⟩⟩
/-- What may be reached. -/
def Clo (c : Cir) (P : Nat → Prop) : Prop := ∀ s x, P s → x < 2 ^ c.ins → P (c.nxt s x)
theorem trow_inv (c : Cir) (s N : Nat) (hN : ∀ s x, c.nxt s x < N) : ∀ (xs reps done : List Nat) (row : List S77), RchS N reps → RowP c reps s done row →
    reps <+: (tRow c s xs reps row).1 ∧ RchS N (tRow c s xs reps row).1 ∧ RowP c (tRow c s xs reps row).1 s (done ++ xs) (tRow c s xs reps row).2 ∧ (∀ P, Clo c P → P s → (∀ x ∈ xs, x < 2 ^ c.ins) → (∀ p ∈ reps, P p) → ∀ p ∈ (tRow c s xs reps row).1, P p) := by
  intro xs
  induction xs with
  | nil => intro reps done row hr h; exact ⟨List.prefix_refl _, hr, by rw [List.append_nil]; exact h, fun P _ _ _ h => h⟩
  | cons x xs ih =>
    intro reps done row hr h
    simp only [tRow]
    by_cases hi : idxS reps (c.nxt s x) < reps.length
    · rw [if_pos hi]
      obtain ⟨a, b, d, e⟩ := ih reps (done ++ [x]) _ hr (h.add hi (idxS_lt hi))
      rw [List.append_assoc] at d
      exact ⟨a, b, d, fun P hc hs hx hp => e P hc hs (fun y hy => hx y (List.mem_cons_of_mem _ hy)) hp⟩
    · rw [if_neg hi]
      obtain ⟨h1, h2⟩ := idxS_not hi
      have hp : reps <+: reps ++ [c.nxt s x] := List.prefix_append _ _
      have h3 := (h.mono hp).add (x := x) (k := idxS reps (c.nxt s x)) (by rw [h1]; simp) (by rw [h1, getD_app_at])
      obtain ⟨a, b, d, e⟩ := ih (reps ++ [c.nxt s x]) (done ++ [x]) _ (hr.add (hN s x) h2) h3
      rw [List.append_assoc] at d
      exact ⟨hp.trans a, b, d, fun P hc hs hx hq => e P hc hs (fun y hy => hx y (List.mem_cons_of_mem _ hy)) (fun p hpm => by
        rcases List.mem_append.1 hpm with hpm | hpm
        · exact hq p hpm
        · rw [List.mem_singleton.1 hpm]; exact hc s x hs (hx x List.mem_cons_self))⟩
structure SofS (c : Cir) (N i : Nat) (reps : List Nat) (out : Tab) : Prop where
  len : out.length = i
  le : i ≤ reps.length
  rc : RchS N reps
  row : ∀ k, k < i → RowP c reps (reps.getD k 0) (List.range (2 ^ c.ins)) (out.getD k [])
theorem tgo_inv (c : Cir) (N : Nat) (hN : ∀ s x, c.nxt s x < N) : ∀ (n i : Nat) (reps : List Nat) (out : Tab), SofS c N i reps out → N < n + i →
    ∃ R, reps <+: R ∧ SofS c N R.length R (tGo c n i reps out) ∧ (∀ P, Clo c P → (∀ p ∈ reps, P p) → ∀ p ∈ R, P p) := by
  intro n
  induction n with
  | zero => intro i reps out h hn; have := h.rc.le; have := h.le; omega
  | succ n ih =>
    intro i reps out h hn
    simp only [tGo]
    by_cases hi : i < reps.length
    · rw [if_pos hi]
      obtain ⟨a, b, d, e⟩ := trow_inv c (reps.getD i 0) N hN (List.range (2 ^ c.ins)) reps [] [] h.rc ⟨rfl, fun a ha => by simp at ha⟩
      have al := a.length_le
      obtain ⟨R, r1, r2, r3⟩ := ih (i + 1) _ (out ++ [(tRow c (reps.getD i 0) (List.range (2 ^ c.ins)) reps []).2]) ⟨by simp [h.len], by omega, b, fun k hk => by
        rw [pre_getD a (by omega)]
        by_cases ek : k = i
        · subst ek
          have hl := h.len
          have h2 : (out ++ [(tRow c (reps.getD k 0) (List.range (2 ^ c.ins)) reps []).2]).getD k [] = (tRow c (reps.getD k 0) (List.range (2 ^ c.ins)) reps []).2 := by
            have := getD_app_at out [] (tRow c (reps.getD k 0) (List.range (2 ^ c.ins)) reps []).2
            rw [hl] at this; exact this
          rw [h2]; exact d
        · rw [getD_app_lt out _ _ (by rw [h.len]; omega)]
          exact (h.row k (by omega)).mono a⟩ (by omega)
      exact ⟨R, a.trans r1, r2, fun P hc hp => r3 P hc (e P hc (hp _ (getD_mem' hi)) (fun x hx => List.mem_range.1 hx) hp)⟩
    · rw [if_neg hi]
      have : i = reps.length := by have := h.le; omega
      subst this
      exact ⟨reps, List.prefix_refl _, h, fun P _ hp => hp⟩
/-- The table of a circuit: the states that are reached, and what is told of each. -/
theorem tab_spec (c : Cir) (hs : c.init.length = c.next.length) : ∃ reps : List Nat, 1 ≤ reps.length ∧ reps.length ≤ 2 ^ c.next.length ∧ reps.getD 0 0 = c.start ∧ (tabOf c).length = reps.length ∧
    (∀ k, k < reps.length → RowP c reps (reps.getD k 0) (List.range (2 ^ c.ins)) (roww (tabOf c) k)) ∧ (∀ P, Clo c P → P c.start → ∀ p ∈ reps, P p) := by
  have hN : ∀ s x, c.nxt s x < 2 ^ c.next.length := fun s x => by
    unfold Cir.nxt
    have h := bitsN_lt (c.next.map (val c.gs s x))
    rwa [List.length_map] at h
  obtain ⟨R, r1, r2, r3⟩ := tgo_inv c (2 ^ c.next.length) hN (2 ^ c.next.length + 1) 0 [c.start] [] ⟨rfl, by simp, ⟨by
    intro p hp; simp at hp; subst hp
    unfold Cir.start
    have := bitsN_lt c.init
    rwa [hs] at this, by simp⟩, fun k hk => by omega⟩ (by omega)
  have hl := r1.length_le
  simp at hl
  exact ⟨R, hl, r2.rc.le, by rw [pre_getD r1 (by simp)]; rfl, r2.len, fun k hk => r2.row k hk, fun P hc hp => r3 P hc (fun p hpm => by simp at hpm; subst hpm; exact hp)⟩
theorem rowP_cel {c : Cir} {reps : List Nat} {s k a : Nat} {T : Tab} (h : RowP c reps s (List.range (2 ^ c.ins)) (roww T k)) (ha : a < 2 ^ c.ins) :
    (cel T k a).f0 = (c.out s a : Nat) ∧ 0 ≤ (cel T k a).f1 ∧ (cel T k a).f1.toNat < reps.length ∧ reps.getD (cel T k a).f1.toNat 0 = c.nxt s a := by
  obtain ⟨j, h1, h2, h3⟩ := h.at_ a (by simpa using ha)
  rw [getD_range _ _ ha] at h1 h3
  unfold cel
  rw [h1]
  exact ⟨rfl, by simp, by simpa using h2, by simpa using h3⟩
/-- A circuit does as table t (of I inputs): from state s on, as the table from its state s. -/
structure Does (c : Cir) (t : Tab) : Prop where
  start : c.start = 0
  out : ∀ s x, s < t.length → x < 2 ^ c.ins → c.out s x = (cel t s x).f0.toNat
  nxt : ∀ s x, s < t.length → x < 2 ^ c.ins → c.nxt s x = (cel t s x).f1.toNat
theorem does_alike {c : Cir} {t : Tab} (hs : c.init.length = c.next.length) (ht : TabR t) (hl : ∀ s, s < t.length → (roww t s).length = 2 ^ c.ins) (h : Does c t) : PL.Alike t (tabOf c) 0 0 := by
  obtain ⟨reps, r1, r2, r3, r4, r5, r6⟩ := tab_spec c hs
  have hlt : ∀ p ∈ reps, p < t.length := r6 (fun p => p < t.length) (fun s x hp hx => by
    rw [h.nxt s x hp hx]
    have := ht.cel hp (a := x) (by rw [hl s hp]; exact hx)
    omega) (by rw [h.start]; exact ht.n1)
  refine ⟨fun x y => y < reps.length ∧ reps.getD y 0 = x, ⟨by omega, by rw [r3, h.start]⟩, ?_⟩
  rintro x y ⟨hy, rfl⟩
  have hx := hlt _ (getD_mem' hy)
  have hr := r5 y hy
  refine ⟨by rw [hl _ hx, hr.len, List.length_range], fun a ha => ?_⟩
  rw [hl _ hx] at ha
  obtain ⟨c1, c2, c3, c4⟩ := rowP_cel hr ha
  have hc := ht.cel hx (a := a) (by rw [hl _ hx]; exact ha)
  refine ⟨?_, c3, ?_⟩
  · rw [c1, h.out _ _ hx ha]; omega
  · rw [c4, h.nxt _ _ hx ha]
end Go.Proofs.Ytaalafnkglbcpaa.SY
end

/- own text -/
section
namespace Go.Proofs.Ytaalafnkglbcpaa.PL
open Go.RowKit Go.Proofs.YtaalafnkglbcpaaW.PrintWords Go.Proofs.YtaalafnkglbcpaaW.PrintLast Go.Proofs.YtaalafnkglbcpaaW.PrintMore
attribute [local go_sem] max2_int min2_int max_two min_two max_three min_three max_four min_four   -- for this text's walks alone
set_option linter.unusedVariables false
set_option linter.unusedSimpArgs false

/-! ### bakemake_Below: function 12 -/
def bakemake_Below.f (a0 : Int) (a1 : Int) : Option (Int) := if a1 = 0 then (none) else (if (Int.tmod a0 a1) < 0 then (some (wrap64 ((Int.tmod a0 a1) + a1))) else (some (Int.tmod a0 a1)))
set_option maxHeartbeats 8000000 in
set_option maxRecDepth 100000 in
theorem bakemake_Below.calls (a0 : Int) (a1 : Int) (r : Int) (w : World) (h : bakemake_Below.f a0 a1 = some r) :
    Calls Try.prog 12 #[.int .i64 a0, .int .i64 a1] w fun e w' => e = .returned (.int .i64 r) ∧ Drawn0 w w' := by
  have H : (if a1 = 0 then (none) else (if (Int.tmod a0 a1) < 0 then (some (wrap64 ((Int.tmod a0 a1) + a1))) else (some (Int.tmod a0 a1)))) = some r := h
  clear h
  by_cases c3 : a1 = 0
  · rw [if_pos c3] at H
    exact absurd H (by simp)
  · rw [if_neg c3] at H
    have c3b0 : (a1 == 0) = false := beq_eq_false_iff_ne.mpr c3
    have c3b1 : (a1 != 0) = true := bne_iff_ne.mpr c3
    by_cases c4 : (Int.tmod a0 a1) < 0
    · rw [if_pos c4] at H
      have c4b0 : decide ((Int.tmod a0 a1) < 0) = true := decide_eq_true c4
      clear c4
      obtain rfl := Option.some.inj H
      go_enter Try.func12, Try.ntmps12
      go_wp2
      go_ret
      exact ⟨by first | rfl | (simp; done) | (simp [*]; done), by repeat (first | exact Drawn0.refl _ | apply Drawn0.step)⟩
    · rw [if_neg c4] at H
      have c4b0 : decide ((Int.tmod a0 a1) < 0) = false := decide_eq_false c4
      clear c4
      obtain rfl := Option.some.inj H
      go_enter Try.func12, Try.ntmps12
      go_wp2
      go_ret
      exact ⟨by first | rfl | (simp; done) | (simp [*]; done), by repeat (first | exact Drawn0.refl _ | apply Drawn0.step)⟩

end Go.Proofs.Ytaalafnkglbcpaa.PL
end

/- learn.Min, walked by hand. -/
section
namespace Go.Proofs.Ytaalafnkglbcpaa.PL
open Go.RowKit Go.WideMaps Go.Maps Go.Proofs.YtaalafnkglbcpaaW.PrintWords Go.Proofs.YtaalafnkglbcpaaW.PrintLast Go.Proofs.YtaalafnkglbcpaaW.PrintMore
set_option linter.unusedVariables false

theorem add_zero' (a : Addr) : a.add 0 = a := by unfold Addr.add; split <;> simp_all
def kapp (c : List Int) (p : Nat) : Lit := .int .i64 (cl c p)
def ints (l : List Nat) : List Int := l.map Int.ofNat

set_option maxRecDepth 100000 in
set_option maxHeartbeats 8000000 in
theorem min_calls (k : Nat) (A0 : Option Addr) (c0 : Nat) (t : Tab) (ins outs : Int) (w : World) (hr0 : Kd.C (Kd.slice 77 k77) w A0 t.length t) (hc0 : t.length ≤ c0) (hk : learn_Check.f k ins outs t = some 0) (ht : TabR t) :
    Calls Try.prog 13 #[.agg #[.int .i64 ins, .int .i64 outs, .slice A0 t.length c0]] w fun e w' => ∃ v : Value, e = .returned (.tuple #[.agg #[.int .i64 ins, .int .i64 outs, v], .int .i64 0]) ∧ Kd.S (Kd.slice 77 k77) 75 w' w.heap.size (fun _ => True) v (minRows t) ∧ Below w.heap.size w w' := by
  have HR0 := Aside0.mk hr0
  have HC0 := Aside0.mk hc0
  have HT := Aside0.mk ht
  have HK := Aside0.mk hk
  have n1 := ht.n1
  have n2 := ht.n2
  clear hr0 hc0 ht hk
  have HB := Aside0.mk (Below.refl w.heap.size w)
  go_enter Try.func13, Try.ntmps13
  go_upto_region 1 with (first
    | ((with_reducible refine gate_dst (N := 1) rfl ?_); refine box_event ?hg (N := 1) ?hd (cs := #[.int .i64 ins, .int .i64 outs, .slice A0 t.length c0]) (t := 25) ?hr ?_; (case hd => rfl); (case hg => rfl); (case hr => first | (go_simp; done) | (go_simp; rfl)); intro gb hg w3 hbox hb; have n0_ := Aside0.mk (below_step HB.out hb); have BK := Aside0.mk hbox; have GE := Aside0.mk ((by rw [hg]; exact Nat.le_refl _) : w.heap.size ≤ gb); have GL := Aside0.mk (blk_lt hbox); clear HB; have HB := n0_; clear n0_; clear hb hbox hg)
    | fail)
  have hz0 : w3.heap.size < (w3.alloc (Obj.cells #[Value.int .i64 0, Value.int .i64 0, Value.slice none 0 0] 25)).heap.size := by simp
  have RB : Aside0 ((w3.alloc (Obj.cells #[Value.int .i64 0, Value.int .i64 0, Value.slice none 0 0] 25)).heap[w3.heap.size]? = some (.cells #[.int .i64 0, .int .i64 0, .slice none 0 0] 25 (0, 0))) := ⟨blk_new _ _⟩
  have BK1 : Aside0 ((w3.alloc (Obj.cells #[Value.int .i64 0, Value.int .i64 0, Value.slice none 0 0] 25)).heap[gb]? = some (.cells #[.int .i64 ins, .int .i64 outs, .slice A0 t.length c0] 25 (0, 0))) := ⟨blk_alloc BK.out _⟩
  have HB1 : Aside0 (Below w.heap.size w (w3.alloc (Obj.cells #[Value.int .i64 0, Value.int .i64 0, Value.slice none 0 0] 25))) := ⟨below_alloc HB.out _⟩
  have hgr : gb < w3.heap.size := GL.out
  have RL : Aside0 (w.heap.size ≤ w3.heap.size) := ⟨HB.out.size⟩
  obtain ⟨rb, hrb⟩ : ∃ rb, w3.heap.size = rb := ⟨_, rfl⟩
  rw [hrb] at RB hz0 hgr RL ⊢
  generalize w3.alloc (Obj.cells #[Value.int .i64 0, Value.int .i64 0, Value.slice none 0 0] 25) = w4 at *
  clear hrb BK HB GL
  have hcz0 : w4.cell? ⟨gb, 0, none⟩ = some (.int .i64 ins) := (blk_cell BK1.out 0).trans rfl
  have hcz1 : w4.cell? ⟨gb, 1, none⟩ = some (.int .i64 outs) := (blk_cell BK1.out 1).trans rfl
  have hcz2 : w4.cell? ⟨gb, 2, none⟩ = some (.slice A0 t.length c0) := (blk_cell BK1.out 2).trans rfl
  go_wp2_with fail
  (with_reducible refine (learn_Check.calls k ins outs A0 c0 t 0 w4 (Kd.C_below HR0.out HB1.out) HC0.out HK.out).mono ?_)
  rintro e w5 ⟨rfl, hb5⟩
  have HB5 : Aside0 (Below w.heap.size w w5) := ⟨HB1.out.trans (hb5.mono HB1.out.size)⟩
  have RB5 : Aside0 (w5.heap[rb]? = some (.cells #[.int .i64 0, .int .i64 0, .slice none 0 0] 25 (0, 0))) := ⟨(hb5.block rb hz0).trans RB.out⟩
  have BK5 : Aside0 (w5.heap[gb]? = some (.cells #[.int .i64 ins, .int .i64 outs, .slice A0 t.length c0] 25 (0, 0))) := ⟨(hb5.block gb (by omega)).trans BK1.out⟩
  clear hcz0 hcz1 hcz2 hb5 HB1 RB BK1 hz0
  have hcz0 : w5.cell? ⟨gb, 0, none⟩ = some (.int .i64 ins) := (blk_cell BK5.out 0).trans rfl
  have hcz1 : w5.cell? ⟨gb, 1, none⟩ = some (.int .i64 outs) := (blk_cell BK5.out 1).trans rfl
  have hcz2 : w5.cell? ⟨gb, 2, none⟩ = some (.slice A0 t.length c0) := (blk_cell BK5.out 2).trans rfl
  go_wp2_with fail
  (with_reducible refine (classes_calls A0 c0 t ins outs w5 (Kd.C_below HR0.out HB5.out) HC0.out HT.out).mono ?_)
  rintro e w1 ⟨v5, c, rfl, hr5, hb6, hcl, hcr, hci⟩
  have hz0 := blk_lt RB5.out
  have HB6 : Aside0 (Below w.heap.size w w1) := ⟨HB5.out.trans (hb6.mono HB5.out.size)⟩
  have RB6 : Aside0 (w1.heap[rb]? = some (.cells #[.int .i64 0, .int .i64 0, .slice none 0 0] 25 (0, 0))) := ⟨(hb6.block rb hz0).trans RB5.out⟩
  have BK6 : Aside0 (w1.heap[gb]? = some (.cells #[.int .i64 ins, .int .i64 outs, .slice A0 t.length c0] 25 (0, 0))) := ⟨(hb6.block gb (by omega)).trans BK5.out⟩
  clear hcz0 hcz1 hcz2 hb6 HB5 RB5 BK5 hz0
  obtain ⟨A5, q5, hv5, hl5, hq5⟩ := Kd.R_reads hr5
  rw [hcl] at hv5
  subst hv5
  have H5 := Aside0.mk hq5
  have HCR := Aside0.mk hcr
  have HCI := Aside0.mk hci
  clear hr5 hq5 hl5 hcr hci
  have hcz0 : w1.cell? ⟨gb, 0, none⟩ = some (.int .i64 ins) := (blk_cell BK6.out 0).trans rfl
  have hcz1 : w1.cell? ⟨gb, 1, none⟩ = some (.int .i64 outs) := (blk_cell BK6.out 1).trans rfl
  have hmm := @run_makeMap Try.prog
  go_upto_region 6 with fail
  have hz1 : (w1.alloc (Obj.cells #[Value.int .i64 ins, Value.int .i64 outs, Value.slice none 0 0] 25)).heap.size = w1.heap.size + 1 := by simp
  have BO : Aside0 ((w1.alloc (Obj.cells #[Value.int .i64 ins, Value.int .i64 outs, Value.slice none 0 0] 25)).heap[w1.heap.size]? = some (.cells #[.int .i64 ins, .int .i64 outs, .slice none 0 0] 25 (0, 0))) := ⟨blk_new _ _⟩
  have HBo : Aside0 (Below w1.heap.size w1 (w1.alloc (Obj.cells #[Value.int .i64 ins, Value.int .i64 outs, Value.slice none 0 0] 25))) := ⟨below_alloc (Below.refl _ _) _⟩
  generalize w1.alloc (Obj.cells #[Value.int .i64 ins, Value.int .i64 outs, Value.slice none 0 0] 25) = w6 at *
  clear hcz0 hcz1
  obtain ⟨a5, e5, hy5⟩ := Kd.at_int (Kd.C_below H5.out HBo.out) 0 (by omega) (by omega)
  subst e5
  have hy : w6.cell? a5 = some (.int .i64 (cl c 0)) := by
    have h : w6.cell? (a5.add 0) = some (.int .i64 (cl c 0)) := hy5
    rwa [show a5.add 0 = a5 from add_zero' a5] at h
  have hy' : (w6.alloc (Obj.map #[] 0)).cell? a5 = some (.int .i64 (cl c 0)) := (World.cell?_alloc_lt _ _ _ (World.block_lt_of_cell? _ _ hy)).trans hy
  clear hy hy5
  have hc0 := HCR.out 0 n1
  have OM0 : Aside0 ((w6.alloc (Obj.map #[] 0)).ownsMap Try.prog 3 (plainElem (H := Unit) Try.prog 3) w6.heap.size 0 (.map [])) := ⟨World.ownsMap_made w6 _ _ _⟩
  have BO' : Aside0 ((w6.alloc (Obj.map #[] 0)).heap[w1.heap.size]? = some (.cells #[.int .i64 ins, .int .i64 outs, .slice none 0 0] 25 (0, 0))) := ⟨blk_alloc BO.out _⟩
  have HBo' : Aside0 (Below w1.heap.size w1 (w6.alloc (Obj.map #[] 0))) := ⟨below_alloc HBo.out _⟩
  rw [hz1] at OM0
  have hz1' : (w6.alloc (Obj.map #[] 0)).heap.size = w1.heap.size + 2 := by simp; omega
  have HWF := fun (n : Nat) (h : n ≤ 1000) => wf_small n h
  have hkc : (Lit.int .i64 (cl c 0)).wf = true := by
    have h := wf_small (cl c 0).toNat (by omega)
    rwa [Int.toNat_of_nonneg hc0.1] at h
  go_wp2_with (first
    | (refine wpList_insert_own _ rfl (.tmp 27) (.tmp 30) (.const (.int .i64 0)) 80 rfl 3 3 lawI Try.underlying80 _ (w1.heap.size + 1) 0 (.map []) (by rw [← hz1]; rfl) OM0.out (by unfold maxLen; omega) (.int .i64 (cl c 0)) (.int .i64 0) _ rfl rfl (keyOf_int_mk Try.underlying3 hkc) (.lit (.int .i64 0)) [] (plainElem_int Try.underlying3 (wf_small 0 (by omega))) ?_; intro w7 hown7 hgrow7; have OM7 := Aside0.mk hown7; have HB7 : Aside0 (Below w1.heap.size w1 w7) := ⟨HBo'.out.grown hgrow7 HBo'.out.size (fun k hk => by cases hk; omega)⟩; have BO7 : Aside0 (w7.heap[w1.heap.size]? = some (.cells #[.int .i64 ins, .int .i64 outs, .slice none 0 0] 25 (0, 0))) := ⟨blk_grown BO'.out hgrow7 (by simp)⟩; clear hown7 hgrow7 hy')
    | ((with_reducible refine gate_dst (N := 32) rfl ?_); refine Kd.R_lit (Kd.int .i64) (w0 := w7) w7.heap.size 3 ?hg (N := 32) ?hd (xs := ([0] : List Int)) (inner := [.int .i64 0]) (ok := fun _ => True) (okp := fun _ => True) ?hr ?hp (fun _ hk => hk) trivial (Below.refl _ _) (Nat.le_refl _) (by simp) ?_; (case hd => rfl); (case hg => rfl); (case hr => first | (go_simp; done) | (go_simp; rfl)); (case hp => exact (Reps.one (show Kd.M (Kd.int .i64) _ _ _ 0 [.int .i64 0] from rfl) (Reps.none _ _))); intro v8 w8 ho hb hg_ hnew_; have HQ8 := Aside0.mk ho; have HB8 := Aside0.mk hb; clear ho hb hg_ hnew_))
  have HZ7 : Aside0 (w1.heap.size + 2 ≤ w7.heap.size) := ⟨by have := OM7.out.lt; omega⟩
  have MI0 : Aside0 (MapIs (DataW.put (.map []) (kapp c 0) (.lit (.int .i64 0))) ([0].map (kapp c))) := ⟨MapIs.start.put (k := kapp c 0) (lawI.key (keyOf_int_mk Try.underlying3 hkc)) (by simp)⟩
  have I0 : Aside0 (MInv w1 w8 ins outs (.slice none 0 0) [] v8 (ints ([0].drop 0)) (.slice none 0 0) [] 1 (DataW.put (.map []) (kapp c 0) (.lit (.int .i64 0)))) := ⟨{
    hb := HB7.out.trans (HB8.out.mono (by have := HZ7.out; omega)), blk := (HB8.out.block _ (blk_lt BO7.out)).trans BO7.out, om := owns_below OM7.out OM7.out.lt HB8.out, rr := Kd.S_nil _ _ _ _ _,
    td := Kd.Q_of_R (Kd.R_lower HQ8.out HZ7.out), r9 := Kd.R_nil _ _ _ _ _ }⟩
  have RC0 : Aside0 (Rchd t [0]) := ⟨Rchd.one n1⟩
  (try rw [hz1])
  clear HZ7 OM7 BO7 HB7 HB8 HQ8 OM0 BO BO' HBo HBo' hz1 hz1' HWF hkc hc0
  go_loopg [8] (t.length + 1) (fun kq v8 wr => ∃ (i m : Nat) (reps : List Nat) (out : Tab) (vr : Value) (D : DataW Unit), kq + i = t.length + 1 ∧ i ≤ reps.length ∧ m ≤ reps.length ∧ Aside0 (MInv w1 wr ins outs vr out v8 (ints (reps.drop i)) (.slice none 0 0) [] m D) ∧ Aside0 (MapIs D (reps.map (kapp c))) ∧ Aside0 (Rchd t reps) ∧ Aside0 (out.length = i) ∧ Aside0 (minGo t kq i reps out = minRows t))
  case atStart => exact ⟨0, 1, [0], [], _, _, by omega, by simp, by simp, I0, MI0, RC0, ⟨rfl⟩, ⟨rfl⟩⟩
  case round =>
    obtain ⟨i, m, reps, out, vr, D, hki, hi, hm, HM, MI, RC, HL, HG⟩ := hrel
    obtain ⟨w9, rfl⟩ : ∃ w9 : World, w9 = wr := ⟨_, rfl⟩
    clear I0 MI0 RC0
    have hrl := RC.out.le
    obtain ⟨A8, q8, hv8, hq8⟩ := Kd.Q_slice HM.out.td
    have hl8 : (ints (reps.drop i)).length = reps.length - i := by unfold ints; rw [List.length_map, List.length_drop]
    rw [hl8] at hv8
    subst hv8
    by_cases hlt : i < reps.length
    · have hp : reps.getD i 0 < t.length := RC.out.lt _ (by rw [List.getD_eq_getElem?_getD, List.getElem?_eq_getElem hlt]; exact List.getElem_mem _)
      have hc8 := (Kd.Q_reads' HM.out.td).2.2
      obtain ⟨a8, e8, hx8⟩ := Kd.at_int hc8 0 (by omega) (by rw [hl8]; omega)
      subst e8
      have hx : w9.cell? a8 = some (.int .i64 (reps.getD i 0 : Nat)) := by
        have h : w9.cell? (a8.add 0) = some (.int .i64 ((ints (reps.drop i)).getD 0 0)) := hx8
        rw [show a8.add 0 = a8 from add_zero' a8] at h
        rw [h]
        unfold ints
        rw [List.drop_eq_getElem_cons hlt]
        simp [List.getD_eq_getElem?_getD, List.getElem?_eq_getElem hlt]
      have hbk : w9.cell? ⟨gb, 2, none⟩ = some (.slice A0 t.length c0) := (HM.out.hb.cell (p := ⟨gb, 2, none⟩) (by show gb < _; have := blk_lt BK6.out; omega)).trans ((blk_cell BK6.out 2).trans rfl)
      have HM9 := HM
      clear hc8 hx8 HM
      generalize hpp : reps.getD i 0 = p at *
      have HP := Aside0.mk hpp
      obtain ⟨k1, hk1⟩ : ∃ k1, gk = k1 + 1 := ⟨gk - 1, by omega⟩
      clear hpp
      obtain ⟨ad, A1, c1, e1, hx1w, hl1, hi1⟩ := at_L2 HR0.out (p : Int) (by omega) (by omega)
      subst e1
      have hrow : rd_L2 t (p : Int) = roww t p := rfl
      rw [Int.toNat_natCast, hrow] at hx1w
      rw [hrow] at hl1 hi1
      have hx1 : w9.cell? (ad.add p) = some (.slice A1 (roww t p).length c1) := (HM9.out.hb.cell (p := ad.add p) (Nat.lt_of_lt_of_le (World.block_lt_of_cell? w _ hx1w) HB6.out.size)).trans ((HB6.out.cell (p := ad.add p) (World.block_lt_of_cell? w _ hx1w)).trans hx1w)
      clear hx1w
      have hlr := HT.out.len_le hp
      have HI1 := Aside0.mk hi1
      clear hrow hi1
      have b1 : 0 < ((reps.length - i : Nat) : Int) := by omega
      have b1n : 0 < reps.length - i := by omega
      have b1d : decide (0 < reps.length - i) = true := decide_eq_true b1n
      go_wp2_with fail
      go_quiet (fail)
      have HM10 : Aside0 (MInv w1 (w9.drewN nq) ins outs vr out (.slice (some a8) (reps.length - i) q8) (ints (reps.drop i)) (.slice none 0 0) [] m D) := ⟨HM9.out.drewN nq⟩
      clear HM9 hx1 hbk hx
      go_wp2_with fail
      generalize w9.drewN nq = w10 at *
      generalize hrw : roww t p = row at *
      have HRW := Aside0.mk hrw
      clear hrw
      have HRT : Aside0 (∀ (W : World), Below w1.heap.size w1 W → Kd.C k77 W A1 row.length row) := ⟨fun W hW => Kd.C_below (Kd.C_below HI1.out HB6.out) hW⟩
      go_loopw [8, 9, 44] (fun v8 v9 v44 wr => ∃ (j m : Nat) (reps' : List Nat) (rw' : List S77) (D : DataW Unit), j ≤ row.length ∧ v44 = .int .i64 j ∧ i < reps'.length ∧ m ≤ reps'.length ∧ Aside0 (MInv w1 wr ins outs vr out v8 (ints (reps'.drop i)) v9 rw' m D) ∧ Aside0 (MapIs D (reps'.map (kapp c))) ∧ Aside0 (Rchd t reps') ∧ Aside0 (rw'.length = j) ∧ Aside0 (minRow t (row.drop j) reps' rw' = minRow t row reps [])) (fun _ _ v44 _ => row.length - (intOf v44).toNat)
      case atStart => exact ⟨0, m, reps, [], D, by omega, rfl, hlt, hm, HM10, MI, RC, ⟨rfl⟩, ⟨rfl⟩⟩
      case round =>
        clear HM10 MI RC hm hrl hl8
        obtain ⟨j, m, reps', rw', D, hj, rfl, hir, hm, HM, MI, RC, HLr, HGr⟩ := hrel
        obtain ⟨w11, rfl⟩ : ∃ w11 : World, w11 = wr := ⟨_, rfl⟩
        by_cases hjl : j < row.length
        · obtain ⟨ad2, e2, g0, g1⟩ := at_T77 (HRT.out w11 HM.out.hb) (j : Int) (by omega) (by omega)
          subst e2
          rw [Int.toNat_natCast] at g0 g1
          have hrd : rd_T77 row (j : Int) = cel t p j := by rw [← HRW.out]; rfl
          rw [hrd] at g0 g1
          have hcel := HT.out.cel hp (a := j) (by rw [HRW.out]; exact hjl)
          have hdr : row.drop j = cel t p j :: row.drop (j + 1) := by
            rw [List.drop_eq_getElem_cons hjl, ← hrd]
            simp [rd_T77, List.getD_eq_getElem?_getD, List.getElem?_eq_getElem hjl]
          have hg := HGr.out
          rw [hdr] at hg
          have HG2 := Aside0.mk hg
          clear hrd hdr hg HGr
          generalize cel t p j = r at *
          obtain ⟨f0, f1⟩ := r
          dsimp only at hcel g0 g1
          have HCE := Aside0.mk hcel
          have h10 := hcel.2.2.1
          have h11 := hcel.2.2.2
          clear hcel
          go_upto_region 13 with fail
          have HM12 : Aside0 (MInv w1 (w11.alloc (Obj.cells #[Value.int .i64 f0, Value.int .i64 f1] 77)) ins outs vr out u8 (ints (reps'.drop i)) u9 rw' m D) := ⟨HM.out.alloc _⟩
          have BT : Aside0 ((w11.alloc (Obj.cells #[Value.int .i64 f0, Value.int .i64 f1] 77)).heap[w11.heap.size]? = some (.cells #[.int .i64 f0, .int .i64 f1] 77 (0, 0))) := ⟨blk_new _ _⟩
          have TL : Aside0 (w1.heap.size + 2 ≤ w11.heap.size) := ⟨HM.out.size⟩
          have TN8 : Aside0 (some w11.heap.size ≠ u8.ownBlock) := ⟨fun e => by have := Kd.Q_lt HM.out.td _ e.symm; omega⟩
          have TN9 : Aside0 (some w11.heap.size ≠ u9.ownBlock) := ⟨fun e => by have := Kd.R_lt HM.out.r9 _ e.symm; omega⟩
          clear HM g0 g1
          generalize w11.alloc (Obj.cells #[Value.int .i64 f0, Value.int .i64 f1] 77) = w12 at *
          obtain ⟨tb, htb⟩ : ∃ tb, w11.heap.size = tb := ⟨_, rfl⟩
          rw [htb] at BT TL TN8 TN9 ⊢
          clear htb
          obtain ⟨a55, e55, hy55⟩ := Kd.at_int (Kd.C_below H5.out HM12.out.hb) f1 (by omega) (by omega)
          obtain rfl : a5 = a55 := by injection e55
          have hy : w12.cell? (a5.add f1.toNat) = some (.int .i64 (cl c f1.toNat)) := hy55
          have A5L : Aside0 (a5.block < w1.heap.size) := ⟨Kd.C_lt H5.out (by omega) (by decide)⟩
          have hq0 : w12.cell? ⟨tb, 0, none⟩ = some (.int .i64 f0) := (blk_cell BT.out 0).trans rfl
          have hq1 : w12.cell? ⟨tb, 1, none⟩ = some (.int .i64 f1) := (blk_cell BT.out 1).trans rfl
          have hcrr := HCR.out f1.toNat (by omega)
          have hwk : (Lit.int .i64 (cl c f1.toNat)).wf = true := by
            have h := wf_small (cl c f1.toNat).toNat (by omega)
            rwa [Int.toNat_of_nonneg hcrr.1] at h
          have HKey := Aside0.mk (keyOf_int_mk (P := Try.prog) Try.underlying3 hwk)
          have HKl := Aside0.mk (lawI.key (keyOf_int_mk (P := Try.prog) Try.underlying3 hwk))
          have hrl := RC.out.le
          clear e55 hy55 hwk hcrr
          by_cases hin : idxB t reps' f1.toNat < reps'.length
          · have hbis := idxB_lt hin
            have hmem : (reps'.map (kapp c))[idxB t reps' f1.toNat]? = some (kapp c f1.toNat) := by
              have h2 : reps'.getD (idxB t reps' f1.toNat) 0 = reps'[idxB t reps' f1.toNat] := by rw [List.getD_eq_getElem?_getD, List.getElem?_eq_getElem hin]; rfl
              rw [List.getElem?_map, List.getElem?_eq_getElem hin, Option.map_some, ← h2]
              unfold kapp
              rw [(HCI.out _ _ (by rw [h2]; exact RC.out.lt _ (List.getElem_mem hin)) (by omega)).2 hbis]
            have HHas : Aside0 (Maps.has D (kapp c f1.toNat) = true) := ⟨(MI.out.has _).2 (List.mem_of_getElem? hmem)⟩
            have HVal : Aside0 (∀ z, D.atKey (kapp c f1.toNat) z = .lit (.int .i64 (idxB t reps' f1.toNat : Nat))) := ⟨MI.out.at' _ _ hmem⟩
            have hstep := HG2.out
            simp only [minRow, if_pos hin] at hstep
            have HST := Aside0.mk hstep
            clear hbis hmem hstep HG2
            obtain ⟨ix, hix⟩ : ∃ ix, idxB t reps' f1.toNat = ix := ⟨_, rfl⟩
            rw [hix] at HVal HST hin
            clear hix
            go_wp2_with (first
              | (at_lookup; refine wpList_lookup_own_ok_int _ rfl (.tmp 49) (.tmp 54) 80 rfl 3 3 .i64 lawI Try.underlying80 Try.underlying3 (zero3 _) (w1.heap.size + 1) m D rfl HM12.out.om (.int .i64 (cl c f1.toNat)) _ rfl HKey.out ?_; intro cc hat hwf; rw [show Lit.int .i64 (cl c f1.toNat) = kapp c f1.toNat from rfl, HHas.out]; have hcv : cc = ix := (by have h := hat.symm.trans (HVal.out _); simpa using h); clear hat hwf; subst hcv)
              | ((with_reducible refine gate_builtin (b := .append) (xs := #[.tmp 74, .tmp 79]) rfl ?_); at_builtin; refine Kd.R_append k77 (w0 := w12) (w1.heap.size + 2) rfl (.tmp 74) (.tmp 79) 75 77 (.agg #[.int .i64 0, .int .i64 0]) 16 rfl Try.underlying75 info77 rfl (by decide) (by omega) u9 rw' ⟨f0, (ix : Int)⟩ [.int .i64 f0, .int .i64 (ix : Int)] (fun _ => True) (fun _ => False) rfl ?aX ?aP (fun _ hk => hk.elim) (fun _ _ => trivial) HM12.out.r9 (Below.refl _ _) ?aS ?aL ?_; (case aX => first | rfl | (simp; done)); (case aP => first | exact rfl | exact k77_mkM _ _ _ _); (case aS => exact HM12.out.size); (case aL => have h1_ := HLr.out; first | omega | (simp; omega)); intro v20 w20 ho hb hg hat; have HR20 := Aside0.mk ho; have HG20 := Aside0.mk hg; have HA20 := Aside0.mk hat; clear ho hb hg hat))
            go_roundw
            case rel => exact ⟨j + 1, m, reps', _, D, by omega, by go_num, hir, hm, ⟨HM12.out.addRow HR20.out HG20.out HA20.out⟩, MI, RC, ⟨by simp [HLr.out]⟩, HST⟩
            case measure => simp [intOf]; omega
          · have hno := idxB_not hin
            have hnm : kapp c f1.toNat ∉ reps'.map (kapp c) := fun hmem => by
              obtain ⟨p', h1, h2⟩ := List.mem_map.1 hmem
              have h3 : cl c p' = cl c f1.toNat := by unfold kapp at h2; injection h2
              exact hno.2 p' h1 ((HCI.out _ _ (RC.out.lt _ h1) (by omega)).1 h3)
            have HHas : Aside0 (Maps.has D (kapp c f1.toNat) = false) := ⟨by
              cases h : Maps.has D (kapp c f1.toNat)
              · rfl
              · exact absurd ((MI.out.has _).1 h) hnm⟩
            have MI2 : Aside0 (MapIs (D.put (kapp c f1.toNat) (.lit (.int .i64 (reps'.length : Nat)))) ((reps' ++ [f1.toNat]).map (kapp c))) := ⟨by
              have h := MI.out.put HKl.out hnm
              rw [List.length_map] at h
              rw [List.map_append]; exact h⟩
            have RC2 : Aside0 (Rchd t (reps' ++ [f1.toNat])) := ⟨RC.out.add (by omega) hno.2⟩
            have hstep := HG2.out
            simp only [minRow, if_neg hin] at hstep
            rw [hno.1] at hstep
            have HST := Aside0.mk hstep
            have HWF : Aside0 ((Lit.int .i64 (reps'.length : Nat)).wf = true) := ⟨wf_small _ (by omega)⟩
            have HLT : Aside0 ((ints (reps'.drop i)).length ≤ 64) := ⟨by unfold ints; rw [List.length_map, List.length_drop]; omega⟩
            have HDR : Aside0 (ints ((reps' ++ [f1.toNat]).drop i) = ints (reps'.drop i) ++ [f1]) := ⟨by
              unfold ints
              rw [List.drop_append_of_le_length (by omega), List.map_append]
              simp [Int.toNat_of_nonneg h10]⟩
            clear hstep HG2 hno hnm hin
            go_wp2_with (first
              | (at_lookup; refine wpList_lookup_own_ok_int _ rfl (.tmp 49) (.tmp 54) 80 rfl 3 3 .i64 lawI Try.underlying80 Try.underlying3 (zero3 _) (w1.heap.size + 1) m D rfl HM12.out.om (.int .i64 (cl c f1.toNat)) _ rfl HKey.out ?_; intro cc hat hwf; rw [show Lit.int .i64 (cl c f1.toNat) = kapp c f1.toNat from rfl, HHas.out]; clear hat hwf)
              | (at_len; first | (refine wpList_len_own _ rfl (.tmp 60) 80 rfl 3 3 Try.underlying80 _ (w1.heap.size + 1) m D rfl HM12.out.om ?_; rw [MI.out.size, List.length_map]))
              | (at_mapUpdate; refine wpList_mapUpdate_own _ rfl (.tmp 62) (.tmp 67) (.tmp 68) 80 rfl 3 3 lawI Try.underlying80 _ (w1.heap.size + 1) m D rfl HM12.out.om (by unfold maxLen; omega) (.int .i64 (cl c f1.toNat)) (.int .i64 (reps'.length : Nat)) _ rfl rfl HKey.out _ [] (plainElem_int Try.underlying3 HWF.out) ?_; intro w13 hown13 hgrow13; have HM13 := Aside0.mk (HM12.out.putMap hown13 hgrow13); have BT13 : Aside0 (w13.heap[tb]? = some (.cells #[.int .i64 f0, .int .i64 f1] 77 (0, 0))) := ⟨blk_grown BT.out hgrow13 (by have := TL.out; simp; omega)⟩; have hq1' : w13.cell? ⟨tb, 1, none⟩ = some (.int .i64 f1) := (blk_cell BT13.out 1).trans rfl; clear hown13 hgrow13)
              | ((with_reducible refine gate_builtin (b := .append) (xs := #[.tmp 69, .tmp 72]) rfl ?_); at_builtin; refine Kd.Q_append (Kd.int .i64) (w0 := w13) (w1.heap.size + 2) rfl (.tmp 69) (.tmp 72) 22 3 (.int .i64 0) 8 rfl Try.underlying22 info3 rfl (by decide) (by omega) u8 (ints (reps'.drop i)) f1 [.int .i64 f1] (fun _ => True) (fun _ => False) rfl ?aX ?aP (fun _ hk => hk.elim) (fun _ _ => trivial) HM13.out.td (Below.refl _ _) ?aS ?aL ?_; (case aX => first | rfl | (simp; done)); (case aP => first | exact rfl); (case aS => exact HM13.out.size); (case aL => have h1_ := HLT.out; first | omega | (simp; omega)); intro v14 w14 ho hb hg hat; have HM14 := Aside0.mk (HM13.out.addTodo ho hg); have BT14 : Aside0 (w14.heap[tb]? = some (.cells #[.int .i64 f0, .int .i64 f1] 77 (0, 0))) := ⟨blk_grown BT13.out hg TN8.out⟩; have hq0' : w14.cell? ⟨tb, 0, none⟩ = some (.int .i64 f0) := (blk_cell BT14.out 0).trans rfl; clear ho hb hg hat)
              | ((with_reducible refine gate_builtin (b := .append) (xs := #[.tmp 74, .tmp 79]) rfl ?_); at_builtin; refine Kd.R_append k77 (w0 := w14) (w1.heap.size + 2) rfl (.tmp 74) (.tmp 79) 75 77 (.agg #[.int .i64 0, .int .i64 0]) 16 rfl Try.underlying75 info77 rfl (by decide) (by omega) u9 rw' ⟨f0, ((reps'.length : Nat) : Int)⟩ [.int .i64 f0, .int .i64 ((reps'.length : Nat) : Int)] (fun _ => True) (fun _ => False) rfl ?aX ?aP (fun _ hk => hk.elim) (fun _ _ => trivial) HM14.out.r9 (Below.refl _ _) ?aS ?aL ?_; (case aX => first | rfl | (simp; done)); (case aP => first | exact rfl | exact k77_mkM _ _ _ _); (case aS => exact HM14.out.size); (case aL => have h1_ := HLr.out; first | omega | (simp; omega)); intro v20 w20 ho hb hg hat; have HR20 := Aside0.mk ho; have HG20 := Aside0.mk hg; have HA20 := Aside0.mk hat; clear ho hb hg hat))
            go_roundw
            case rel => exact ⟨j + 1, m + 1, reps' ++ [f1.toNat], _, _, by omega, by go_num, by simp; omega, by simp; omega, ⟨by rw [HDR.out]; exact HM14.out.addRow HR20.out HG20.out HA20.out⟩, MI2, RC2, ⟨by simp [HLr.out]⟩, HST⟩
            case measure => simp [intOf]; omega
        · have hje : j = row.length := by omega
          have hg := HGr.out
          rw [hje, List.drop_length] at hg
          simp only [minRow] at hg
          have HG3 := Aside0.mk hg
          have hlj : rw'.length = row.length := by rw [← hje]; exact HLr.out
          clear hg HGr
          have hl8 : (ints (reps'.drop i)).length = reps'.length - i := by unfold ints; rw [List.length_map, List.length_drop]
          obtain ⟨A9, q9, hv9, hl9, hq9⟩ := Kd.R_reads HM.out.r9
          subst hv9
          clear hl9 hq9
          obtain ⟨AR, qR, hvR⟩ := Kd.S_slice HM.out.rr
          subst hvR
          obtain ⟨g88, o88, q88, hv88, hg88, hg89, _⟩ := Kd.Q_form HM.out.td (by rw [hl8]; omega)
          rw [hl8] at hv88
          clear hg88 hg89
          subst hv88
          have hQD := Kd.Q_drop HM.out.td (k := 1) (by rw [hl8]; omega)
          have HQD := Aside0.mk hQD
          have hrl := RC.out.le
          have hc2 := (blk_cell HM.out.blk 2).trans (show _ = some (.slice AR out.length qR) from rfl)
          have HT6 := Aside0.mk (Kd.R_typed HM.out.r9)
          clear hQD
          have HLJ := Aside0.mk hlj
          clear hlj
          have HNX : Aside0 (minGo t k1 (i + 1) reps' (out ++ [rw']) = minRows t) := ⟨by
            have h := HG.out
            rw [hk1] at h
            simp only [minGo, if_pos hlt] at h
            rw [HP.out, HRW.out, ← HG3.out] at h
            exact h⟩
          have HDR : Aside0 ((ints (reps'.drop i)).drop 1 = ints (reps'.drop (i + 1))) := ⟨by unfold ints; rw [← List.map_drop, List.drop_drop]⟩
          go_wp2_with ((with_reducible refine gate_builtin (b := .append) (xs := #[.tmp 83, .tmp 85]) rfl ?_); at_builtin; refine Kd.S_append (Kd.slice 77 k77) (w0 := w11) (w1.heap.size + 2) rfl (.tmp 83) (.tmp 85) 23 75 (.slice none 0 0) 24 rfl Try.underlying23 info75 rfl (by decide) (by omega) (.slice AR out.length qR) out rw' [.slice A9 rw'.length q9] (fun _ => True) (fun k => some k = (Value.slice A9 rw'.length q9).ownBlock) rfl ?aX ⟨_, rfl, Kd.R_flat (fun h => h) HM.out.r9 (fun k hk _ => hk.symm)⟩ ?aO (fun _ _ => trivial) ?aR (Below.refl _ _) ?aS ?aL ?_; (case aX => first | rfl | (simp; done)); (case aO => exact (fun k hk => ⟨trivial, by obtain ⟨cells, hc⟩ := HT6.out k hk.symm; exact Kd.S_ne HM.out.rr hc (by decide)⟩)); (case aR => exact Kd.S_mono HM.out.rr (fun k hk => ⟨trivial, hk⟩)); (case aS => exact HM.out.size); (case aL => have h1_ := HL.out; omega); intro v7 w7 ho hb hg hat; obtain ⟨A7, q7, hv7⟩ := Kd.S_slice ho; rw [List.length_append, List.length_singleton] at hv7; subst hv7; have HR7 := Aside0.mk ho; have HG7 := Aside0.mk hg; have hne_ : ∀ g, g < w1.heap.size + 2 → some g ≠ (Value.slice AR out.length qR).ownBlock := (fun g hg2 e => by have := Kd.S_base HM.out.rr g e.symm; omega); have hb7 := blk_grown HM.out.blk hg (hne_ _ (by omega)); have hc7 := (blk_cell hb7 2).trans (show _ = some (.slice AR out.length qR) from rfl); have hf7 := blk_frozen hb7 2; clear ho hb hg hat hne_ hb7)
          all_goals
            have HMF := Aside0.mk (MInv.addState HM.out HR7.out HG7.out)
            have hQ := Kd.Q_drop HMF.out.td (k := 1) (by rw [hl8]; omega)
            rw [HDR.out] at hQ
          all_goals
            go_roundg k1
            case measure => omega
            case rel => exact ⟨i + 1, m, reps', out ++ [rw'], _, D, by omega, by omega, hm, ⟨MInv.dropTodo HMF.out (by first | (rw [if_pos (by assumption)] at hQ; exact hQ) | (rw [if_neg (by assumption)] at hQ; exact hQ) | (simpa [*] using hQ))⟩, MI, RC, ⟨by simp [HL.out]⟩, HNX⟩
    · have hout : out = minRows t := by
        have h := HG.out
        cases gk with
        | zero => exact h
        | succ n => simp only [minGo, if_neg hlt] at h; exact h
      have HOUT := Aside0.mk hout
      clear hout
      obtain ⟨AR, qR, hvR⟩ := Kd.S_slice HM.out.rr
      subst hvR
      have hrb1 : rb < w1.heap.size := blk_lt RB6.out
      have hb0 : w9.heap[rb]? = some (.cells #[.int .i64 0, .int .i64 0, .slice none 0 0] 25 (0, 0)) := (HM.out.hb.block rb hrb1).trans RB6.out
      have hrc0 := (blk_cell hb0 0).trans (show _ = some (.int .i64 0) from rfl)
      have hrf0 := blk_frozen hb0 0
      have hb1 : (w9.setCell ⟨rb, 0, none⟩ (.int .i64 ins)).heap[rb]? = some (.cells #[.int .i64 ins, .int .i64 0, .slice none 0 0] 25 (0, 0)) := blk_put hb0 0 _ rfl
      have hrc1 := (blk_cell hb1 1).trans (show _ = some (.int .i64 0) from rfl)
      have hrf1 := blk_frozen hb1 1
      have hb2 : ((w9.setCell ⟨rb, 0, none⟩ (.int .i64 ins)).setCell ⟨rb, 1, none⟩ (.int .i64 outs)).heap[rb]? = some (.cells #[.int .i64 ins, .int .i64 outs, .slice none 0 0] 25 (0, 0)) := blk_put hb1 1 _ rfl
      have hrc2 := (blk_cell hb2 2).trans (show _ = some (.slice none 0 0) from rfl)
      have hrf2 := blk_frozen hb2 2
      have hb3 : (((w9.setCell ⟨rb, 0, none⟩ (.int .i64 ins)).setCell ⟨rb, 1, none⟩ (.int .i64 outs)).setCell ⟨rb, 2, none⟩ (.slice AR out.length qR)).heap[rb]? = some (.cells #[.int .i64 ins, .int .i64 outs, .slice AR out.length qR] 25 (0, 0)) := blk_put hb2 2 _ rfl
      have HB3 := Aside0.mk hb3
      have hl0 := (blk_cell HM.out.blk 0).trans (show _ = some (.int .i64 ins) from rfl)
      have hl1 := (blk_cell HM.out.blk 1).trans (show _ = some (.int .i64 outs) from rfl)
      have hl2 := (blk_cell HM.out.blk 2).trans (show _ = some (.slice AR out.length qR) from rfl)
      have hN : ¬ 0 < reps.length - i := by omega
      have hN2 : reps.length - i = 0 := by omega
      have hN3 : decide (0 < reps.length - i) = false := decide_eq_false hN
      clear hb0 hb1 hb2 hb3
      go_wp2_with fail
      refine bodyPost_ret (results_ct (fn := Try.f13) rfl _ _ rb 25 #[.int .i64 ins, .int .i64 outs, .slice AR out.length qR] (0, 0) _ rfl HB3.out Try.underlying25 rfl (by kernel_rfl)) rfl ?_
      have hS : Kd.S (Kd.slice 77 k77) 75 w9 w.heap.size (fun _ => True) (.slice AR out.length qR) out := Kd.S_lower (Kd.S_mono HM.out.rr (fun _ _ => trivial)) (by have := HB6.out.size; omega)
      have hS1 : Kd.S (Kd.slice 77 k77) 75 w9 (w1.heap.size + 2) (fun _ => True) (.slice AR out.length qR) out := Kd.S_mono HM.out.rr (fun _ _ => trivial)
      exact ⟨_, rfl, by rw [← HOUT.out]; exact Kd.S_lower (S_putU (p := ⟨rb, 2, none⟩) (S_putU (p := ⟨rb, 1, none⟩) (S_putU (p := ⟨rb, 0, none⟩) hS1 (by show rb < _; omega) _) (by show rb < _; omega) _) (by show rb < _; omega) _) (by have := HB6.out.size; omega),
        (((HB6.out.trans (HM.out.hb.mono HB6.out.size)).setCell RL.out _).setCell RL.out _).setCell RL.out _⟩
end Go.Proofs.Ytaalafnkglbcpaa.PL
end

/- learn.Min: what it gives, as the law's text calls it. -/
section
namespace Go.Proofs.Ytaalafnkglbcpaa.PL
open Go.RowKit Go.Proofs.YtaalafnkglbcpaaW.PrintWords Go.Proofs.YtaalafnkglbcpaaW.PrintLast Go.Proofs.YtaalafnkglbcpaaW.PrintMore
set_option linter.unusedVariables false

/-- A table that Check passes. -/
def TabOK (a0 a1 : Int) (l : List (List S77)) : Prop := (∃ k, learn_Check.f k a0 a1 l = some 0) ∧ TabR l
open Classical in
noncomputable def learn_Min.f (a0_0 : Int) (a0_1 : Int) (l0_2 : List (List (S77))) : Option (Int × Int × (List (List (S77))) × Int) := if TabOK a0_0 a0_1 l0_2 then some (a0_0, a0_1, minRows l0_2, 0) else none
theorem learn_Min.ok {a0 a1 : Int} {l : List (List S77)} (h : TabOK a0 a1 l) : learn_Min.f a0 a1 l = some (a0, a1, minRows l, 0) := by unfold learn_Min.f; rw [if_pos h]
theorem learn_Min.calls (a0_0 : Int) (a0_1 : Int) (A0_2 : Option Addr) (c0_2 : Nat) (l0_2 : List (List (S77))) (r1 : Int) (r2 : Int) (r3 : List (List (S77))) (r4 : Int) (w : World) (hr0_2 : Kd.C (Kd.slice 77 k77) w A0_2 l0_2.length l0_2) (hc0_2 : l0_2.length ≤ c0_2) (h : learn_Min.f a0_0 a0_1 l0_2 = some (r1, r2, r3, r4)) :
    Calls Try.prog 13 #[.agg #[.int .i64 a0_0, .int .i64 a0_1, .slice A0_2 l0_2.length c0_2]] w fun e w' => ∃ v2_ : Value, e = .returned (.tuple #[.agg #[.int .i64 r1, .int .i64 r2, v2_], .int .i64 r4]) ∧ Kd.S (Kd.slice 77 k77) 75 w' w.heap.size (fun _ => True) v2_ r3 ∧ Below w.heap.size w w' := by
  unfold learn_Min.f at h
  split at h
  case isFalse => cases h
  case isTrue hh =>
  simp only [Option.some.injEq, Prod.mk.injEq] at h
  obtain ⟨rfl, rfl, rfl, rfl⟩ := h
  obtain ⟨⟨k, hk⟩, ht⟩ := hh
  exact min_calls k A0_2 c0_2 l0_2 _ _ w hr0_2 hc0_2 hk ht
end Go.Proofs.Ytaalafnkglbcpaa.PL
end

/- own text -/
section
namespace Go.Proofs.Ytaalafnkglbcpaa.PL
open Go.RowKit Go.Proofs.YtaalafnkglbcpaaW.PrintWords Go.Proofs.YtaalafnkglbcpaaW.PrintLast Go.Proofs.YtaalafnkglbcpaaW.PrintMore
attribute [local go_sem] max2_int min2_int max_two min_two max_three min_three max_four min_four   -- for this text's walks alone
set_option linter.unusedVariables false
set_option linter.unusedSimpArgs false

/-! ### bakekeep3_learned: function 15 -/
noncomputable def bakekeep3_learned.f  : Option (Bool) := (learn_Min.f 1 1 (([(([(⟨0, 0⟩ : S77), (⟨0, 1⟩ : S77)] : List (S77))), (([(⟨0, 0⟩ : S77), (⟨0, 0⟩ : S77)] : List (S77)))] : List (List (S77))))).bind fun bt130 => (if bt130.2.2.2 = 0 then (some ((bt130.2.2.1.length : Int) == 1)) else (some false))
set_option maxHeartbeats 8000000 in
set_option maxRecDepth 100000 in
theorem bakekeep3_learned.calls  (r : Bool) (w : World) (h : bakekeep3_learned.f  = some r) :
    Calls Try.prog 15 #[] w fun e w' => e = .returned (.bool r) ∧ Below w.heap.size w w' := by
  have hu77 := Try.underlying77
  have hu25 := Try.underlying25
  have HB := Aside0.mk (Below.refl w.heap.size w)
  have H : ((learn_Min.f 1 1 (([(([(⟨0, 0⟩ : S77), (⟨0, 1⟩ : S77)] : List (S77))), (([(⟨0, 0⟩ : S77), (⟨0, 0⟩ : S77)] : List (S77)))] : List (List (S77))))).bind fun bt130 => (if bt130.2.2.2 = 0 then (some ((bt130.2.2.1.length : Int) == 1)) else (some false))) = some r := h
  clear h
  obtain ⟨y121, hy121⟩ : ∃ y_ : List (S77), y_ = (([(⟨0, 0⟩ : S77), (⟨0, 1⟩ : S77)] : List (S77))) := ⟨_, rfl⟩
  replace H : ((learn_Min.f 1 1 (([y121, (([(⟨0, 0⟩ : S77), (⟨0, 0⟩ : S77)] : List (S77)))] : List (List (S77))))).bind fun bt130 => (if bt130.2.2.2 = 0 then (some ((bt130.2.2.1.length : Int) == 1)) else (some false))) = some r := by first | (rw [hy121]; with_reducible exact H) | (have H2_ := (Option.bind_some _ _).symm.trans H; rw [hy121]; with_reducible exact H2_) | (have H2_ := (Option.bind_some _ _).symm.trans H; with_reducible exact H2_) | with_reducible exact H | (rw [hy121]; exact H) | exact H
  have Ny121 := Aside0.mk hy121
  clear hy121
  obtain ⟨y124, hy124⟩ : ∃ y_ : List (S77), y_ = (([(⟨0, 0⟩ : S77), (⟨0, 0⟩ : S77)] : List (S77))) := ⟨_, rfl⟩
  replace H : ((learn_Min.f 1 1 (([y121, y124] : List (List (S77))))).bind fun bt130 => (if bt130.2.2.2 = 0 then (some ((bt130.2.2.1.length : Int) == 1)) else (some false))) = some r := by first | (rw [hy124]; with_reducible exact H) | (have H2_ := (Option.bind_some _ _).symm.trans H; rw [hy124]; with_reducible exact H2_) | (have H2_ := (Option.bind_some _ _).symm.trans H; with_reducible exact H2_) | with_reducible exact H | (rw [hy124]; exact H) | exact H
  have Ny124 := Aside0.mk hy124
  clear hy124
  obtain ⟨y127, hy127⟩ : ∃ y_ : List (List (S77)), y_ = (([y121, y124] : List (List (S77)))) := ⟨_, rfl⟩
  replace H : ((learn_Min.f 1 1 y127).bind fun bt130 => (if bt130.2.2.2 = 0 then (some ((bt130.2.2.1.length : Int) == 1)) else (some false))) = some r := by first | (rw [hy127]; with_reducible exact H) | (have H2_ := (Option.bind_some _ _).symm.trans H; rw [hy127]; with_reducible exact H2_) | (have H2_ := (Option.bind_some _ _).symm.trans H; with_reducible exact H2_) | with_reducible exact H | (rw [hy127]; exact H) | exact H
  have Ny127 := Aside0.mk hy127
  clear hy127
  replace H := Option.bind_eq_some_iff.mp H
  obtain ⟨⟨t130, t131, t132, t135⟩, A10, H⟩ := H
  replace H : (if t135 = 0 then (some ((t132.length : Int) == 1)) else (some false)) = some r := H
  have A1 := Aside0.mk A10
  clear A10
  by_cases c2 : t135 = 0
  · rw [if_pos c2] at H
    have c2b0 : (t135 == 0) = true := beq_iff_eq.mpr c2
    have c2b1 : (t135 != 0) = false := bne_eq_false_iff_eq.mpr c2
    clear c2
    obtain rfl := Option.some.inj H
    go_enter Try.func15, Try.ntmps15
    go_wp2_with (first | ((with_reducible refine gate_dst (N := 6) rfl ?_); (try (refine gate_guard (by rfl) ?_; dsimp only)); refine Kd.R_lit k77 _ 77 ?hg (N := 6) ?hd (xs := ([(⟨0, 0⟩ : S77), (⟨0, 1⟩ : S77)] : List (S77))) (inner := [.int .i64 0, .int .i64 0, .int .i64 0, .int .i64 1]) (ok := fun _ => True) (okp := fun _ => True) ?hr ?hp (fun _ hk => hk) trivial (Below.refl _ _) (Nat.le_refl _) (by simp) ?_; (case hd => rfl); (case hg => rfl); (case hr => first | (go_simp; done) | (go_simp; rfl)); (case hp => exact (Reps.c2 (show Kd.M k77 _ _ _ (⟨0, 0⟩ : S77) [.int .i64 0, .int .i64 0] from (k77_mkM _ _ _ (⟨0, 0⟩ : S77) )) (Reps.c2 (show Kd.M k77 _ _ _ (⟨0, 1⟩ : S77) [.int .i64 0, .int .i64 1] from (k77_mkM _ _ _ (⟨0, 1⟩ : S77) )) (Reps.none _ _)))); intro v122 w3 ho4 hb hg_ hnew_; clear hg_ hnew_; (first | rw [← Ny121.out] at ho4 | (simp only [Int.reduceToNat] at ho4; rw [← Ny121.out] at ho4)); have n0_ := Aside0.mk (Kd.R_lower ho4 (below_size (by repeat (first | (with_reducible first | exact HB.out | apply below_alloc | apply pw_below_drewN | apply below_drew1) | exact HB.out)))); have n1_ := Aside0.mk (below_step (by repeat (first | (with_reducible first | exact HB.out | apply below_alloc | apply pw_below_drewN | apply below_drew1) | exact HB.out)) hb); clear HB; have HO123 := n0_; have HB := n1_; clear n0_ n1_; clear hb ho4) | ((with_reducible refine gate_dst (N := 9) rfl ?_); (try (refine gate_guard (by rfl) ?_; dsimp only)); refine Kd.R_lit k77 _ 77 ?hg (N := 9) ?hd (xs := ([(⟨0, 0⟩ : S77), (⟨0, 0⟩ : S77)] : List (S77))) (inner := [.int .i64 0, .int .i64 0, .int .i64 0, .int .i64 0]) (ok := fun _ => True) (okp := fun _ => True) ?hr ?hp (fun _ hk => hk) trivial (Below.refl _ _) (Nat.le_refl _) (by simp) ?_; (case hd => rfl); (case hg => rfl); (case hr => first | (go_simp; done) | (go_simp; rfl)); (case hp => exact (Reps.c2 (show Kd.M k77 _ _ _ (⟨0, 0⟩ : S77) [.int .i64 0, .int .i64 0] from (k77_mkM _ _ _ (⟨0, 0⟩ : S77) )) (Reps.c2 (show Kd.M k77 _ _ _ (⟨0, 0⟩ : S77) [.int .i64 0, .int .i64 0] from (k77_mkM _ _ _ (⟨0, 0⟩ : S77) )) (Reps.none _ _)))); intro v125 w5 ho6 hb hg_ hnew_; clear hg_ hnew_; (first | rw [← Ny124.out] at ho6 | (simp only [Int.reduceToNat] at ho6; rw [← Ny124.out] at ho6)); have n0_ := Aside0.mk (Kd.R_elder' (by (with_reducible repeat (first | apply Kd.R_alloc | apply Kd.R_drewN | apply Kd.R_drew)); exact HO123.out) (Kd.R_base ho6) hb); have n1_ := Aside0.mk (Kd.R_lower (Kd.R_new' ho6 (Kd.R_lt (by (with_reducible repeat (first | apply Kd.R_alloc | apply Kd.R_drewN | apply Kd.R_drew)); exact HO123.out))) (below_size (by repeat (first | (with_reducible first | exact HB.out | apply below_alloc | apply pw_below_drewN | apply below_drew1) | exact HB.out)))); have n2_ := Aside0.mk (below_step (by repeat (first | (with_reducible first | exact HB.out | apply below_alloc | apply pw_below_drewN | apply below_drew1) | exact HB.out)) hb); clear HO123; clear HB; have HO123 := n0_; have HO126 := n1_; have HB := n2_; clear n0_ n1_ n2_; clear hb ho6; obtain ⟨Ao7, co7, eo7⟩ := Kd.R_slice HO123.out; subst eo7; obtain ⟨Ao8, co8, eo8⟩ := Kd.R_slice HO126.out; subst eo8) | ((with_reducible refine gate_dst (N := 10) rfl ?_); (try (refine gate_guard (by rfl) ?_; dsimp only)); refine Kd.N_lit (Kd.slice 77 k77) _ 75 ?hg (N' := 10) ?hd (xs := ([y121, y124] : List (List (S77)))) (inner := [.slice Ao7 y121.length co7, .slice Ao8 y124.length co8]) (ok := (fun _ => True)) (okp := (fun _ => True)) ?hr ?hp (fun _ hk => hk) ((show ∀ k_, w5.heap.size ≤ k_ → (fun _ => True) k_ from fun k_ hk => trivial) _ (Nat.le_refl _)) (Below.refl _ _) (Nat.le_refl _) (by simp) ?_; (case hd => rfl); (case hg => rfl); (case hr => first | (go_simp; done) | (go_simp; rfl)); (case hp => exact (Reps.one (show Kd.FK (Kd.slice 77 k77) _ _ y121 [.slice Ao7 y121.length co7] from (Kd.FK_slice_mk (Kd.R_reads' (Kd.R_mono (ok' := (fun _ => True)) (HO123.out) (fun k_ hk => trivial))).2.1 (Kd.R_F (Kd.R_mono (ok' := (fun _ => True)) (HO123.out) (fun k_ hk => trivial))))) (Reps.one (show Kd.FK (Kd.slice 77 k77) _ _ y124 [.slice Ao8 y124.length co8] from (Kd.FK_slice_mk (Kd.R_reads' (Kd.R_mono (ok' := (fun _ => True)) (HO126.out) (fun k_ hk => trivial))).2.1 (Kd.R_F (Kd.R_mono (ok' := (fun _ => True)) (HO126.out) (fun k_ hk => trivial))))) (Reps.none _ _)))); intro v128 w9 ho10 hb hg_ hnew_; clear hg_ hnew_; (first | rw [← Ny127.out] at ho10 | (simp only [Int.reduceToNat] at ho10; rw [← Ny127.out] at ho10)); have n0_ := Aside0.mk (Kd.N_lower ho10 (below_size (by repeat (first | (with_reducible first | exact HB.out | apply below_alloc | apply pw_below_drewN | apply below_drew1) | exact HB.out)))); have n1_ := Aside0.mk (below_step (by repeat (first | (with_reducible first | exact HB.out | apply below_alloc | apply pw_below_drewN | apply below_drew1) | exact HB.out)) hb); clear HB; clear HO123; clear HO126; have HO129 := n0_; have HB := n1_; clear n0_ n1_; clear hb ho10; obtain ⟨Ao11, co11, eo11⟩ := Kd.N_slice HO129.out; subst eo11) | ((with_reducible refine gate_callee (f := 13) rfl ?_); refine goesL_ (some 12) rfl rfl Try.func13 (by kernel_rfl) rfl #[.agg #[.int .i64 1, .int .i64 1, .slice Ao11 y127.length co11]] rfl (by (try simp only [List.map_toArray, List.map_cons, List.map_nil]); first | done | rfl | (simp only [List.length_drop, List.length_take]; rfl)) ?_; (with_reducible refine (learn_Min.calls 1 1 _ _ y127 t130 t131 t132 t135 _ ?side1 ?side2 A1.out).mono ?_); (case side1 => repeat (first | exact (Kd.N_reads' HO129.out).2.2 | (with_reducible refine Kd.C_alloc ?_ _) | (with_reducible refine Kd.C_drewN ?_ _) | (with_reducible refine Kd.C_drew ?_))); (case side2 => exact (Kd.N_reads' HO129.out).2.1); rintro e w12 ⟨v133, rfl, ho0, hb⟩; refine ⟨_, rfl, ?_⟩; have n0_ := Aside0.mk (Kd.N_elder' (by (with_reducible repeat (first | apply Kd.N_alloc | apply Kd.N_drewN | apply Kd.N_drew)); exact HO129.out) (Kd.S_base ho0) hb); have n1_ := Aside0.mk (Kd.N_lower (Kd.N_mono (ok' := fun k_ => some k_ ≠ (.slice Ao11 y127.length co11 : Value).ownBlock) (Kd.S_N (Kd.S_bound ho0)) (fun k_ hk_ => (Kd.fresh' (Kd.N_lt (by (with_reducible repeat (first | apply Kd.N_alloc | apply Kd.N_drewN | apply Kd.N_drew)); exact HO129.out)) k_ hk_.2.1))) (below_size (by repeat (first | (with_reducible first | exact HB.out | apply below_alloc | apply pw_below_drewN | apply below_drew1) | exact HB.out)))); have n2_ := Aside0.mk (below_step (by repeat (first | (with_reducible first | exact HB.out | apply below_alloc | apply pw_below_drewN | apply below_drew1) | exact HB.out)) hb); clear HO129; clear HB; have HO129 := n0_; have HO134 := n1_; have HB := n2_; clear n0_ n1_ n2_; (try clear hb); (try clear hb2); (try clear hk); (try clear hi); (try clear ho0)) | ((with_reducible refine gate_dst (N := 1) rfl ?_); (try (refine gate_guard (by rfl) ?_; dsimp only)); refine box_event ?hg (N := 1) ?hd (cs := #[.int .i64 0, .int .i64 0, .slice none 0 0]) (t := 25) ?hr ?_; (case hd => rfl); (case hg => rfl); (case hr => first | (go_simp; done) | (go_simp; rfl)); intro gb136 hg w13 hbox hb; have n0_ := Aside0.mk (Kd.N_below (Kd.N_elderB (by (with_reducible repeat (first | apply Kd.N_alloc | apply Kd.N_drewN | apply Kd.N_drew)); exact HO129.out) gb136 (Nat.le_of_eq hg.symm)) hb); have n1_ := Aside0.mk (Kd.N_below (Kd.N_elderB (by (with_reducible repeat (first | apply Kd.N_alloc | apply Kd.N_drewN | apply Kd.N_drew)); exact HO134.out) gb136 (Nat.le_of_eq hg.symm)) hb); have n2_ := Aside0.mk (below_step (by repeat (first | (with_reducible first | exact HB.out | apply below_alloc | apply pw_below_drewN | apply below_drew1) | exact HB.out)) hb); have n3_ := Aside0.mk (hbox); have n4_ := Aside0.mk ((by rw [hg]; exact (below_size (by repeat (first | (with_reducible first | exact HB.out | apply below_alloc | apply pw_below_drewN | apply below_drew1) | exact HB.out))) : w.heap.size ≤ gb136)); have n5_ := Aside0.mk ((by rw [hg]; exact (below_size (by repeat (first | (with_reducible first | exact HB.out | apply below_alloc | apply pw_below_drewN | apply below_drew1) | exact HB.out))) : w.heap.size ≤ gb136)); clear HO129; clear HO134; clear HB; have HO129 := n0_; have HO134 := n1_; have HB := n2_; have BK136 := n3_; have GW136 := n4_; have GE136 := n5_; clear n0_ n1_ n2_ n3_ n4_ n5_; clear hb hbox hg; have hcz14_0 : w13.cell? ⟨gb136, 0, none⟩ = some (.int .i64 0) := (blk_cell BK136.out 0).trans rfl; have hcz14_1 : w13.cell? ⟨gb136, 1, none⟩ = some (.int .i64 0) := (blk_cell BK136.out 1).trans rfl; have hcz14_2 : w13.cell? ⟨gb136, 2, none⟩ = some (.slice none 0 0) := (blk_cell BK136.out 2).trans rfl; have hfz14_0 := blk_frozen BK136.out 0; have hfz14_1 := blk_frozen BK136.out 1; have hfz14_2 := blk_frozen BK136.out 2; obtain ⟨Ao15, co15, eo15⟩ := Kd.N_slice HO134.out; subst eo15))
    go_ret
    exact ⟨by first | rfl | (simp [errW_none, errW_some] <;> rfl) | (simp [*, errW_none, errW_some] <;> rfl), by repeat (first | (with_reducible first | exact HB.out | apply below_alloc | apply pw_below_drewN | apply below_drew1 | refine below_set ?_ GE136.out) | exact HB.out)⟩
  · rw [if_neg c2] at H
    have c2b0 : (t135 == 0) = false := beq_eq_false_iff_ne.mpr c2
    have c2b1 : (t135 != 0) = true := bne_iff_ne.mpr c2
    obtain rfl := Option.some.inj H
    go_enter Try.func15, Try.ntmps15
    go_wp2_with (first | ((with_reducible refine gate_dst (N := 6) rfl ?_); (try (refine gate_guard (by rfl) ?_; dsimp only)); refine Kd.R_lit k77 _ 77 ?hg (N := 6) ?hd (xs := ([(⟨0, 0⟩ : S77), (⟨0, 1⟩ : S77)] : List (S77))) (inner := [.int .i64 0, .int .i64 0, .int .i64 0, .int .i64 1]) (ok := fun _ => True) (okp := fun _ => True) ?hr ?hp (fun _ hk => hk) trivial (Below.refl _ _) (Nat.le_refl _) (by simp) ?_; (case hd => rfl); (case hg => rfl); (case hr => first | (go_simp; done) | (go_simp; rfl)); (case hp => exact (Reps.c2 (show Kd.M k77 _ _ _ (⟨0, 0⟩ : S77) [.int .i64 0, .int .i64 0] from (k77_mkM _ _ _ (⟨0, 0⟩ : S77) )) (Reps.c2 (show Kd.M k77 _ _ _ (⟨0, 1⟩ : S77) [.int .i64 0, .int .i64 1] from (k77_mkM _ _ _ (⟨0, 1⟩ : S77) )) (Reps.none _ _)))); intro v122 w16 ho17 hb hg_ hnew_; clear hg_ hnew_; (first | rw [← Ny121.out] at ho17 | (simp only [Int.reduceToNat] at ho17; rw [← Ny121.out] at ho17)); have n0_ := Aside0.mk (Kd.R_lower ho17 (below_size (by repeat (first | (with_reducible first | exact HB.out | apply below_alloc | apply pw_below_drewN | apply below_drew1) | exact HB.out)))); have n1_ := Aside0.mk (below_step (by repeat (first | (with_reducible first | exact HB.out | apply below_alloc | apply pw_below_drewN | apply below_drew1) | exact HB.out)) hb); clear HB; have HO123 := n0_; have HB := n1_; clear n0_ n1_; clear hb ho17) | ((with_reducible refine gate_dst (N := 9) rfl ?_); (try (refine gate_guard (by rfl) ?_; dsimp only)); refine Kd.R_lit k77 _ 77 ?hg (N := 9) ?hd (xs := ([(⟨0, 0⟩ : S77), (⟨0, 0⟩ : S77)] : List (S77))) (inner := [.int .i64 0, .int .i64 0, .int .i64 0, .int .i64 0]) (ok := fun _ => True) (okp := fun _ => True) ?hr ?hp (fun _ hk => hk) trivial (Below.refl _ _) (Nat.le_refl _) (by simp) ?_; (case hd => rfl); (case hg => rfl); (case hr => first | (go_simp; done) | (go_simp; rfl)); (case hp => exact (Reps.c2 (show Kd.M k77 _ _ _ (⟨0, 0⟩ : S77) [.int .i64 0, .int .i64 0] from (k77_mkM _ _ _ (⟨0, 0⟩ : S77) )) (Reps.c2 (show Kd.M k77 _ _ _ (⟨0, 0⟩ : S77) [.int .i64 0, .int .i64 0] from (k77_mkM _ _ _ (⟨0, 0⟩ : S77) )) (Reps.none _ _)))); intro v125 w18 ho19 hb hg_ hnew_; clear hg_ hnew_; (first | rw [← Ny124.out] at ho19 | (simp only [Int.reduceToNat] at ho19; rw [← Ny124.out] at ho19)); have n0_ := Aside0.mk (Kd.R_elder' (by (with_reducible repeat (first | apply Kd.R_alloc | apply Kd.R_drewN | apply Kd.R_drew)); exact HO123.out) (Kd.R_base ho19) hb); have n1_ := Aside0.mk (Kd.R_lower (Kd.R_new' ho19 (Kd.R_lt (by (with_reducible repeat (first | apply Kd.R_alloc | apply Kd.R_drewN | apply Kd.R_drew)); exact HO123.out))) (below_size (by repeat (first | (with_reducible first | exact HB.out | apply below_alloc | apply pw_below_drewN | apply below_drew1) | exact HB.out)))); have n2_ := Aside0.mk (below_step (by repeat (first | (with_reducible first | exact HB.out | apply below_alloc | apply pw_below_drewN | apply below_drew1) | exact HB.out)) hb); clear HO123; clear HB; have HO123 := n0_; have HO126 := n1_; have HB := n2_; clear n0_ n1_ n2_; clear hb ho19; obtain ⟨Ao20, co20, eo20⟩ := Kd.R_slice HO123.out; subst eo20; obtain ⟨Ao21, co21, eo21⟩ := Kd.R_slice HO126.out; subst eo21) | ((with_reducible refine gate_dst (N := 10) rfl ?_); (try (refine gate_guard (by rfl) ?_; dsimp only)); refine Kd.N_lit (Kd.slice 77 k77) _ 75 ?hg (N' := 10) ?hd (xs := ([y121, y124] : List (List (S77)))) (inner := [.slice Ao20 y121.length co20, .slice Ao21 y124.length co21]) (ok := (fun _ => True)) (okp := (fun _ => True)) ?hr ?hp (fun _ hk => hk) ((show ∀ k_, w18.heap.size ≤ k_ → (fun _ => True) k_ from fun k_ hk => trivial) _ (Nat.le_refl _)) (Below.refl _ _) (Nat.le_refl _) (by simp) ?_; (case hd => rfl); (case hg => rfl); (case hr => first | (go_simp; done) | (go_simp; rfl)); (case hp => exact (Reps.one (show Kd.FK (Kd.slice 77 k77) _ _ y121 [.slice Ao20 y121.length co20] from (Kd.FK_slice_mk (Kd.R_reads' (Kd.R_mono (ok' := (fun _ => True)) (HO123.out) (fun k_ hk => trivial))).2.1 (Kd.R_F (Kd.R_mono (ok' := (fun _ => True)) (HO123.out) (fun k_ hk => trivial))))) (Reps.one (show Kd.FK (Kd.slice 77 k77) _ _ y124 [.slice Ao21 y124.length co21] from (Kd.FK_slice_mk (Kd.R_reads' (Kd.R_mono (ok' := (fun _ => True)) (HO126.out) (fun k_ hk => trivial))).2.1 (Kd.R_F (Kd.R_mono (ok' := (fun _ => True)) (HO126.out) (fun k_ hk => trivial))))) (Reps.none _ _)))); intro v128 w22 ho23 hb hg_ hnew_; clear hg_ hnew_; (first | rw [← Ny127.out] at ho23 | (simp only [Int.reduceToNat] at ho23; rw [← Ny127.out] at ho23)); have n0_ := Aside0.mk (Kd.N_lower ho23 (below_size (by repeat (first | (with_reducible first | exact HB.out | apply below_alloc | apply pw_below_drewN | apply below_drew1) | exact HB.out)))); have n1_ := Aside0.mk (below_step (by repeat (first | (with_reducible first | exact HB.out | apply below_alloc | apply pw_below_drewN | apply below_drew1) | exact HB.out)) hb); clear HB; clear HO123; clear HO126; have HO129 := n0_; have HB := n1_; clear n0_ n1_; clear hb ho23; obtain ⟨Ao24, co24, eo24⟩ := Kd.N_slice HO129.out; subst eo24) | ((with_reducible refine gate_callee (f := 13) rfl ?_); refine goesL_ (some 12) rfl rfl Try.func13 (by kernel_rfl) rfl #[.agg #[.int .i64 1, .int .i64 1, .slice Ao24 y127.length co24]] rfl (by (try simp only [List.map_toArray, List.map_cons, List.map_nil]); first | done | rfl | (simp only [List.length_drop, List.length_take]; rfl)) ?_; (with_reducible refine (learn_Min.calls 1 1 _ _ y127 t130 t131 t132 t135 _ ?side1 ?side2 A1.out).mono ?_); (case side1 => repeat (first | exact (Kd.N_reads' HO129.out).2.2 | (with_reducible refine Kd.C_alloc ?_ _) | (with_reducible refine Kd.C_drewN ?_ _) | (with_reducible refine Kd.C_drew ?_))); (case side2 => exact (Kd.N_reads' HO129.out).2.1); rintro e w25 ⟨v133, rfl, ho0, hb⟩; refine ⟨_, rfl, ?_⟩; have n0_ := Aside0.mk (Kd.N_elder' (by (with_reducible repeat (first | apply Kd.N_alloc | apply Kd.N_drewN | apply Kd.N_drew)); exact HO129.out) (Kd.S_base ho0) hb); have n1_ := Aside0.mk (Kd.N_lower (Kd.N_mono (ok' := fun k_ => some k_ ≠ (.slice Ao24 y127.length co24 : Value).ownBlock) (Kd.S_N (Kd.S_bound ho0)) (fun k_ hk_ => (Kd.fresh' (Kd.N_lt (by (with_reducible repeat (first | apply Kd.N_alloc | apply Kd.N_drewN | apply Kd.N_drew)); exact HO129.out)) k_ hk_.2.1))) (below_size (by repeat (first | (with_reducible first | exact HB.out | apply below_alloc | apply pw_below_drewN | apply below_drew1) | exact HB.out)))); have n2_ := Aside0.mk (below_step (by repeat (first | (with_reducible first | exact HB.out | apply below_alloc | apply pw_below_drewN | apply below_drew1) | exact HB.out)) hb); clear HO129; clear HB; have HO129 := n0_; have HO134 := n1_; have HB := n2_; clear n0_ n1_ n2_; (try clear hb); (try clear hb2); (try clear hk); (try clear hi); (try clear ho0)) | ((with_reducible refine gate_dst (N := 1) rfl ?_); (try (refine gate_guard (by rfl) ?_; dsimp only)); refine box_event ?hg (N := 1) ?hd (cs := #[.int .i64 0, .int .i64 0, .slice none 0 0]) (t := 25) ?hr ?_; (case hd => rfl); (case hg => rfl); (case hr => first | (go_simp; done) | (go_simp; rfl)); intro gb136 hg w26 hbox hb; have n0_ := Aside0.mk (Kd.N_below (Kd.N_elderB (by (with_reducible repeat (first | apply Kd.N_alloc | apply Kd.N_drewN | apply Kd.N_drew)); exact HO129.out) gb136 (Nat.le_of_eq hg.symm)) hb); have n1_ := Aside0.mk (Kd.N_below (Kd.N_elderB (by (with_reducible repeat (first | apply Kd.N_alloc | apply Kd.N_drewN | apply Kd.N_drew)); exact HO134.out) gb136 (Nat.le_of_eq hg.symm)) hb); have n2_ := Aside0.mk (below_step (by repeat (first | (with_reducible first | exact HB.out | apply below_alloc | apply pw_below_drewN | apply below_drew1) | exact HB.out)) hb); have n3_ := Aside0.mk (hbox); have n4_ := Aside0.mk ((by rw [hg]; exact (below_size (by repeat (first | (with_reducible first | exact HB.out | apply below_alloc | apply pw_below_drewN | apply below_drew1) | exact HB.out))) : w.heap.size ≤ gb136)); have n5_ := Aside0.mk ((by rw [hg]; exact (below_size (by repeat (first | (with_reducible first | exact HB.out | apply below_alloc | apply pw_below_drewN | apply below_drew1) | exact HB.out))) : w.heap.size ≤ gb136)); clear HO129; clear HO134; clear HB; have HO129 := n0_; have HO134 := n1_; have HB := n2_; have BK136 := n3_; have GW136 := n4_; have GE136 := n5_; clear n0_ n1_ n2_ n3_ n4_ n5_; clear hb hbox hg; have hcz27_0 : w26.cell? ⟨gb136, 0, none⟩ = some (.int .i64 0) := (blk_cell BK136.out 0).trans rfl; have hcz27_1 : w26.cell? ⟨gb136, 1, none⟩ = some (.int .i64 0) := (blk_cell BK136.out 1).trans rfl; have hcz27_2 : w26.cell? ⟨gb136, 2, none⟩ = some (.slice none 0 0) := (blk_cell BK136.out 2).trans rfl; have hfz27_0 := blk_frozen BK136.out 0; have hfz27_1 := blk_frozen BK136.out 1; have hfz27_2 := blk_frozen BK136.out 2; obtain ⟨Ao28, co28, eo28⟩ := Kd.N_slice HO134.out; subst eo28))
    go_ret
    exact ⟨by first | rfl | (simp [errW_none, errW_some] <;> rfl) | (simp [*, errW_none, errW_some] <;> rfl), by repeat (first | (with_reducible first | exact HB.out | apply below_alloc | apply pw_below_drewN | apply below_drew1 | refine below_set ?_ GE136.out) | exact HB.out)⟩

end Go.Proofs.Ytaalafnkglbcpaa.PL
end

/- learn.Same of a table and itself (read at two places): true. -/
section
namespace Go.Proofs.Ytaalafnkglbcpaa.PL
open Go.RowKit Go.Proofs.YtaalafnkglbcpaaW.PrintWords Go.Proofs.YtaalafnkglbcpaaW.PrintLast Go.Proofs.YtaalafnkglbcpaaW.PrintMore
set_option linter.unusedVariables false

set_option maxRecDepth 100000 in
set_option maxHeartbeats 4000000 in
theorem eqrow_calls (A B : Option Addr) (c d : Nat) (row : List S77) (w : World) (hA : Kd.C k77 w A row.length row) (hB : Kd.C k77 w B row.length row) :
    Calls Try.prog 45 #[.slice A row.length c, .slice B row.length d] w fun e w' => e = .returned (.bool true) ∧ Below w.heap.size w w' := by
  have HA := Aside0.mk hA
  have HB := Aside0.mk hB
  have hl : row.length ≤ 9223372036854775807 := hA.2.1
  clear hA hB
  go_enter Try.func45, Try.ntmps45
  go_wp2
  go_loopw [13] (fun v13 wr => ∃ j : Nat, j ≤ row.length ∧ v13 = .int .i64 j ∧ Aside0 (Below w.heap.size w wr)) (fun v13 _ => row.length - (intOf v13).toNat)
  case atStart => exact ⟨0, by omega, rfl, ⟨Below.refl _ _⟩⟩
  case round =>
    obtain ⟨j, hj, rfl, HW⟩ := hrel
    obtain ⟨w1, rfl⟩ : ∃ w1 : World, w1 = wr := ⟨_, rfl⟩
    by_cases hlt : j < row.length
    · obtain ⟨a, ea, g0, g1⟩ := at_T77 (Kd.C_below HA.out HW.out) (j : Int) (by omega) (by omega)
      obtain ⟨b, eb, k0, k1⟩ := at_T77 (Kd.C_below HB.out HW.out) (j : Int) (by omega) (by omega)
      subst ea eb
      generalize rd_T77 row (j : Int) = r at *
      obtain ⟨f0, f1⟩ := r
      dsimp only at g0 g1 k0 k1
      rw [Int.toNat_natCast] at g0 g1 k0 k1
      go_wp2_with fail
      go_quiet (fail)
      go_wp2
      exact ⟨⟨j + 1, by omega, by go_num, ⟨pw_below_drewN HW.out nq⟩⟩, by simp [intOf]; omega⟩
    · have hje : j = row.length := by omega
      go_wp2
      go_ret
      exact ⟨rfl, HW.out⟩

set_option maxRecDepth 100000 in
set_option maxHeartbeats 4000000 in
theorem eqlit_calls (A B : Option Addr) (c d : Nat) (row : List S77) (w : World) (hA : Kd.C k77 w A row.length row) (hB : Kd.C k77 w B row.length row) :
    Calls Try.prog 44 #[.slice A row.length c, .slice B row.length d] w fun e w' => e = .returned (.bool true) ∧ Below w.heap.size w w' := by
  have C1 := Aside0.mk (eqrow_calls A B c d row w hA hB)
  clear hA hB
  go_enter Try.func44, Try.ntmps44
  go_wp2_with fail
  (with_reducible refine C1.out.mono ?_)
  rintro e w1 ⟨rfl, hb⟩
  have HB := Aside0.mk hb
  clear hb
  go_wp2
  go_ret
  exact ⟨rfl, HB.out⟩

set_option maxRecDepth 100000 in
set_option maxHeartbeats 4000000 in
theorem eqfunc_calls (A B : Option Addr) (c d : Nat) (t : List (List S77)) (w : World) (hA : Kd.C (Kd.slice 77 k77) w A t.length t) (hB : Kd.C (Kd.slice 77 k77) w B t.length t) :
    Calls Try.prog 43 #[.slice A t.length c, .slice B t.length d, .func (.func 44) #[] #[]] w fun e w' => e = .returned (.bool true) ∧ Below w.heap.size w w' := by
  have HA := Aside0.mk hA
  have HB := Aside0.mk hB
  have hl : t.length ≤ 9223372036854775807 := hA.2.1
  clear hA hB
  go_enter Try.func43, Try.ntmps43
  go_wp2
  go_loopw [17] (fun v17 wr => ∃ j : Nat, j ≤ t.length ∧ v17 = .int .i64 j ∧ Aside0 (Below w.heap.size w wr)) (fun v17 _ => t.length - (intOf v17).toNat)
  case atStart => exact ⟨0, by omega, rfl, ⟨Below.refl _ _⟩⟩
  case round =>
    obtain ⟨j, hj, rfl, HW⟩ := hrel
    obtain ⟨w1, rfl⟩ : ∃ w1 : World, w1 = wr := ⟨_, rfl⟩
    by_cases hlt : j < t.length
    · obtain ⟨a, A1, c1, ea, g0, g1, g2⟩ := at_L2 (Kd.C_below HA.out HW.out) (j : Int) (by omega) (by omega)
      obtain ⟨b, B1, d1, eb, k0, k1, k2⟩ := at_L2 (Kd.C_below HB.out HW.out) (j : Int) (by omega) (by omega)
      subst ea eb
      generalize rd_L2 t (j : Int) = r at *
      rw [Int.toNat_natCast] at g0 k0
      have C1 := Aside0.mk (eqlit_calls A1 B1 c1 d1 r w1 g2 k2)
      clear g1 g2 k1 k2
      go_wp2_with fail
      (with_reducible refine C1.out.mono ?_)
      rintro e w2 ⟨rfl, hb⟩
      have HW2 : Aside0 (Below w.heap.size w w2) := ⟨HW.out.trans (hb.mono HW.out.size)⟩
      clear hb g0 k0 C1 HW
      go_wp2
      go_roundw
      case rel => exact ⟨j + 1, by omega, by go_num, HW2⟩
      case measure => simp [intOf]; omega
    · have hje : j = t.length := by omega
      go_wp2
      go_ret
      exact ⟨rfl, HW.out⟩

open Classical in
noncomputable def learn_Same.f (a0_0 : Int) (a0_1 : Int) (l0_2 : List (List (S77))) (a1_0 : Int) (a1_1 : Int) (l1_2 : List (List (S77))) : Option (Bool) := if a0_0 = a1_0 ∧ a0_1 = a1_1 ∧ l0_2 = l1_2 then some true else none
set_option maxHeartbeats 8000000 in
set_option maxRecDepth 100000 in
theorem learn_Same.calls (a0_0 : Int) (a0_1 : Int) (A0_2 : Option Addr) (c0_2 : Nat) (l0_2 : List (List (S77))) (a1_0 : Int) (a1_1 : Int) (A1_2 : Option Addr) (c1_2 : Nat) (l1_2 : List (List (S77))) (r : Bool) (w : World) (hr0_2 : Kd.C (Kd.slice 77 k77) w A0_2 l0_2.length l0_2) (hc0_2 : l0_2.length ≤ c0_2) (hr1_2 : Kd.C (Kd.slice 77 k77) w A1_2 l1_2.length l1_2) (hc1_2 : l1_2.length ≤ c1_2) (h : learn_Same.f a0_0 a0_1 l0_2 a1_0 a1_1 l1_2 = some r) :
    Calls Try.prog 16 #[.agg #[.int .i64 a0_0, .int .i64 a0_1, .slice A0_2 l0_2.length c0_2], .agg #[.int .i64 a1_0, .int .i64 a1_1, .slice A1_2 l1_2.length c1_2]] w fun e w' => e = .returned (.bool r) ∧ Below w.heap.size w w' := by
  unfold learn_Same.f at h
  split at h
  case isFalse => cases h
  case isTrue hh =>
  obtain ⟨rfl, rfl, rfl⟩ := hh
  obtain rfl := Option.some.inj h
  clear h hc0_2 hc1_2
  have C1 := Aside0.mk (fun (W : World) (hW : Below w.heap.size w W) => eqfunc_calls A0_2 A1_2 c0_2 c1_2 l0_2 W (Kd.C_below hr0_2 hW) (Kd.C_below hr1_2 hW))
  clear hr0_2 hr1_2
  go_enter Try.func16, Try.ntmps16
  go_upto_region 1 with fail
  go_wp2_with fail
  (with_reducible refine (C1.out _ ?b).mono ?_)
  case b => exact below_alloc (below_alloc (Below.refl _ _) _) _
  rintro e w2 ⟨rfl, hb⟩
  have HB : Aside0 (Below w.heap.size w w2) := ⟨(below_alloc (below_alloc (Below.refl _ _) _) _).trans (hb.mono (by simp; omega))⟩
  clear hb
  go_wp2
  go_ret
  exact ⟨rfl, HB.out⟩
end Go.Proofs.Ytaalafnkglbcpaa.PL
end

/- own text -/
section
namespace Go.Proofs.Ytaalafnkglbcpaa.PL
open Go.RowKit Go.Proofs.YtaalafnkglbcpaaW.PrintWords Go.Proofs.YtaalafnkglbcpaaW.PrintLast Go.Proofs.YtaalafnkglbcpaaW.PrintMore
attribute [local go_sem] max2_int min2_int max_two min_two max_three min_three max_four min_four   -- for this text's walks alone
set_option linter.unusedVariables false
set_option linter.unusedSimpArgs false

/-! ### slices_Equal_int_int: function 17 -/
def slices_Equal_int_int.l0 : Nat → List Int → List Int → Int → Int → Option (Bool)
  | 0, _, _, _, _ => none
  | k + 1, x0, x1, x12, x13 => if x13 < x12 then (if 0 ≤ x13 then (if x13 < (x0.length : Int) then (if x13 < (x1.length : Int) then (if (rd x0 x13) = (rd x1 x13) then (slices_Equal_int_int.l0 k x0 x1 x12 (wrap64 (x13 + 1))) else (some false)) else (none)) else (none)) else (none)) else (some true)
def slices_Equal_int_int.f (k : Nat) (l0 : List Int) (l1 : List Int) : Option (Bool) := if (l0.length : Int) = (l1.length : Int) then (slices_Equal_int_int.l0 k l0 l1 (l0.length : Int) 0) else (some false)
theorem slices_Equal_int_int.mono_l : ∀ k, (∀ y0 y1 y2 y3, LeO (slices_Equal_int_int.l0 k y0 y1 y2 y3) (slices_Equal_int_int.l0 (k + 1) y0 y1 y2 y3))
  | 0 => fun _ _ _ _ r h => by simp [slices_Equal_int_int.l0] at h
  | k + 1 => by
    have ih0 := slices_Equal_int_int.mono_l k
    · intro y0 y1 y2 y3
      unfold slices_Equal_int_int.l0
      repeat' first
      | (with_reducible exact ih0 _ _ _ _)
      | (with_reducible exact LeO.refl _)
      | (with_reducible exact LeO.none _)
      | (with_reducible refine LeO.ite ?_ ?_)
      | (with_reducible refine LeO.bind ?_ (fun _ => ?_))
      | exact ih0 _ _ _ _
      | exact LeO.none _
      | refine LeO.ite ?_ ?_
      | refine LeO.bind ?_ (fun _ => ?_)
theorem slices_Equal_int_int.mono : ∀ a0 a1 k, LeO (slices_Equal_int_int.f k a0 a1) (slices_Equal_int_int.f (k + 1) a0 a1) := by
  intro a0 a1 k
  have ih0 := slices_Equal_int_int.mono_l k
  unfold slices_Equal_int_int.f
  repeat' first
      | (with_reducible exact ih0 _ _ _ _)
      | (with_reducible exact LeO.refl _)
      | (with_reducible exact LeO.none _)
      | (with_reducible refine LeO.ite ?_ ?_)
      | (with_reducible refine LeO.bind ?_ (fun _ => ?_))
      | exact ih0 _ _ _ _
      | exact LeO.none _
      | refine LeO.ite ?_ ?_
      | refine LeO.bind ?_ (fun _ => ?_)
set_option maxHeartbeats 8000000 in
set_option maxRecDepth 100000 in
theorem slices_Equal_int_int.calls (k : Nat) (A0 : Option Addr) (c0 : Nat) (l0 : List Int) (A1 : Option Addr) (c1 : Nat) (l1 : List Int) (r : Bool) (w : World) (hr0 : Kd.C (Kd.int .i64) w A0 l0.length l0) (hc0 : l0.length ≤ c0) (hr1 : Kd.C (Kd.int .i64) w A1 l1.length l1) (hc1 : l1.length ≤ c1) (h : slices_Equal_int_int.f k l0 l1 = some r) :
    Calls Try.prog 17 #[.slice A0 l0.length c0, .slice A1 l1.length c1] w fun e w' => e = .returned (.bool r) ∧ Drawn0 w w' := by
  have HR0 := Aside0.mk hr0
  have HC0 := Aside0.mk hc0
  clear hr0 hc0
  have HR1 := Aside0.mk hr1
  have HC1 := Aside0.mk hc1
  clear hr1 hc1
  have H : (if (l0.length : Int) = (l1.length : Int) then (slices_Equal_int_int.l0 k l0 l1 (l0.length : Int) 0) else (some false)) = some r := h
  clear h
  by_cases c3 : (l0.length : Int) = (l1.length : Int)
  · rw [if_pos c3] at H
    have c3b0 : ((l0.length : Int) == (l1.length : Int)) = true := beq_iff_eq.mpr c3
    have c3b1 : ((l0.length : Int) != (l1.length : Int)) = false := bne_eq_false_iff_eq.mpr c3
    have c3b2 : (l0.length == l1.length) = true := by first | simpa using c3 | (simp at c3 ⊢; omega)
    clear c3
    have H' := Aside0.mk H
    clear H
    go_enter Try.func17, Try.ntmps17
    go_wp2
    repeat (go_quiet (fail); try go_wp2)
    go_loopg [13] k (fun kq v13 w' => ∃ (x13_1 : Int), v13 = .int .i64 x13_1 ∧ Aside0 (slices_Equal_int_int.l0 kq l0 l1 (l0.length : Int) x13_1 = some r) ∧ Aside0 (kq ≤ k) ∧ Drawn0 w w')
    case atStart => exact ⟨(0), (by first | rfl | (simp; done) | (simp [*]; done)), H', ⟨Nat.le_refl _⟩, by repeat (first | exact Drawn0.refl _ | apply Drawn0.step)⟩
    case round =>
      clear H'
      try clear c1
      try clear p2
      try clear c3
      try clear c3b0
      try clear c3b1
      try clear c3b2
      obtain ⟨x13_1, rfl, HA, HK1, ⟨m1, rfl⟩⟩ := hrel
      cases gk with
      | zero => exact absurd HA.out (by simp [slices_Equal_int_int.l0])
      | succ k1 =>
        have H := HA.out
        clear HA
        simp only [slices_Equal_int_int.l0] at H
        by_cases c4 : x13_1 < (l0.length : Int)
        · rw [if_pos c4] at H
          have c4b0 : decide (x13_1 < (l0.length : Int)) = true := decide_eq_true c4
          clear c4
          by_cases c5 : 0 ≤ x13_1
          · rw [if_pos c5] at H
            have c5b0 : decide (0 ≤ x13_1) = true := decide_eq_true c5
            clear c5
            by_cases c6 : x13_1 < (l0.length : Int)
            · rw [if_pos c6] at H
              have c6b0 : decide (x13_1 < (l0.length : Int)) = true := decide_eq_true c6
              clear c6
              by_cases c7 : x13_1 < (l1.length : Int)
              · rw [if_pos c7] at H
                have c7b0 : decide (x13_1 < (l1.length : Int)) = true := decide_eq_true c7
                clear c7
                by_cases c8 : (rd l0 x13_1) = (rd l1 x13_1)
                · rw [if_pos c8] at H
                  have c8b0 : ((rd l0 x13_1) == (rd l1 x13_1)) = true := beq_iff_eq.mpr c8
                  have c8b1 : ((rd l0 x13_1) != (rd l1 x13_1)) = false := bne_eq_false_iff_eq.mpr c8
                  clear c8
                  have H' := Aside0.mk H
                  clear H
                  have p140 : 0 ≤ (x13_1 : Int) := of_decide_eq_true (by first | (with_reducible assumption) | assumption)
                  have q140 : x13_1 < (l0.length : Int) := of_decide_eq_true (by first | (with_reducible assumption) | assumption)
                  obtain ⟨ad140, e140, hx140_0⟩ := Kd.at_int HR0.out x13_1 p140 q140
                  cases e140
                  replace p140 := eq_true p140
                  replace q140 := eq_true q140
                  have p141 : 0 ≤ (x13_1 : Int) := of_decide_eq_true (by first | (with_reducible assumption) | assumption)
                  have q141 : x13_1 < (l1.length : Int) := of_decide_eq_true (by first | (with_reducible assumption) | assumption)
                  obtain ⟨ad141, e141, hx141_0⟩ := Kd.at_int HR1.out x13_1 p141 q141
                  cases e141
                  replace p141 := eq_true p141
                  replace q141 := eq_true q141
                  go_wp2
                  repeat (go_quiet (fail); try go_wp2)
                  go_roundg k1
                  case measure => have := HK1.out; omega
                  case rel => exact ⟨(wrap64 (x13_1 + 1)), (by first | rfl | (simp; done) | (simp [*]; done)), H', ⟨by have := HK1.out; omega⟩, by repeat (first | exact Drawn0.refl _ | apply Drawn0.step)⟩
                · rw [if_neg c8] at H
                  have c8b0 : ((rd l0 x13_1) == (rd l1 x13_1)) = false := beq_eq_false_iff_ne.mpr c8
                  have c8b1 : ((rd l0 x13_1) != (rd l1 x13_1)) = true := bne_iff_ne.mpr c8
                  obtain rfl := Option.some.inj H
                  have p140 : 0 ≤ (x13_1 : Int) := of_decide_eq_true (by first | (with_reducible assumption) | assumption)
                  have q140 : x13_1 < (l0.length : Int) := of_decide_eq_true (by first | (with_reducible assumption) | assumption)
                  obtain ⟨ad140, e140, hx140_0⟩ := Kd.at_int HR0.out x13_1 p140 q140
                  cases e140
                  replace p140 := eq_true p140
                  replace q140 := eq_true q140
                  have p141 : 0 ≤ (x13_1 : Int) := of_decide_eq_true (by first | (with_reducible assumption) | assumption)
                  have q141 : x13_1 < (l1.length : Int) := of_decide_eq_true (by first | (with_reducible assumption) | assumption)
                  obtain ⟨ad141, e141, hx141_0⟩ := Kd.at_int HR1.out x13_1 p141 q141
                  cases e141
                  replace p141 := eq_true p141
                  replace q141 := eq_true q141
                  go_wp2
                  repeat (go_quiet (fail); try go_wp2)
                  go_ret
                  exact ⟨by first | rfl | (simp; done) | (simp [*]; done), by repeat (first | exact Drawn0.refl _ | apply Drawn0.step)⟩
              · rw [if_neg c7] at H
                exact absurd H (by simp)
            · rw [if_neg c6] at H
              exact absurd H (by simp)
          · rw [if_neg c5] at H
            exact absurd H (by simp)
        · rw [if_neg c4] at H
          have c4b0 : decide (x13_1 < (l0.length : Int)) = false := decide_eq_false c4
          clear c4
          obtain rfl := Option.some.inj H
          go_wp2
          repeat (go_quiet (fail); try go_wp2)
          go_ret
          exact ⟨by first | rfl | (simp; done) | (simp [*]; done), by repeat (first | exact Drawn0.refl _ | apply Drawn0.step)⟩
  · rw [if_neg c3] at H
    have c3b0 : ((l0.length : Int) == (l1.length : Int)) = false := beq_eq_false_iff_ne.mpr c3
    have c3b1 : ((l0.length : Int) != (l1.length : Int)) = true := bne_iff_ne.mpr c3
    have c3b2 : (l0.length == l1.length) = false := by first | simpa using c3 | (simp at c3 ⊢; omega)
    obtain rfl := Option.some.inj H
    go_enter Try.func17, Try.ntmps17
    go_wp2
    repeat (go_quiet (fail); try go_wp2)
    go_ret
    exact ⟨by first | rfl | (simp; done) | (simp [*]; done), by repeat (first | exact Drawn0.refl _ | apply Drawn0.step)⟩

end Go.Proofs.Ytaalafnkglbcpaa.PL
end

/- The plain law of LearnMin. No condition beyond the given statement. -/
section
namespace Go.Proofs.Ytaalafnkglbcpaa.PL
open Go.RowKit Go.Proofs.YtaalafnkglbcpaaW.PrintWords Go.Proofs.YtaalafnkglbcpaaW.PrintLast Go.Proofs.YtaalafnkglbcpaaW.PrintMore
set_option linter.unusedVariables false

theorem w64 {n : Int} (h0 : -9223372036854775808 ≤ n) (h1 : n ≤ 9223372036854775807) : wrap64 n = n := by unfold wrap64; omega
theorem wnext {i : Nat} (h : i ≤ 1000000) : wrap64 ((i : Int) + 1) = ((i + 1 : Nat) : Int) := by rw [w64 (by omega) (by omega)]; omega

theorem shl_ins {n : Int} (h0 : 0 ≤ n) (h1 : n ≤ 4) : 1 ≤ shl .i64 1 n ∧ shl .i64 1 n ≤ 16 := by
  have : n = 0 ∨ n = 1 ∨ n = 2 ∨ n = 3 ∨ n = 4 := by omega
  rcases this with rfl | rfl | rfl | rfl | rfl <;> decide +kernel
theorem shl_outs {n : Int} (h0 : 0 ≤ n) (h1 : n ≤ 10) : 1 ≤ shl .i64 1 n ∧ shl .i64 1 n ≤ 1024 := by
  have : n = 0 ∨ n = 1 ∨ n = 2 ∨ n = 3 ∨ n = 4 ∨ n = 5 ∨ n = 6 ∨ n = 7 ∨ n = 8 ∨ n = 9 ∨ n = 10 := by omega
  rcases this with rfl | rfl | rfl | rfl | rfl | rfl | rfl | rfl | rfl | rfl | rfl <;> decide +kernel

/-- A table that Check passes. -/
structure OKT (ins outs : Int) (t : Tab) : Prop where
  i0 : 0 ≤ ins
  i1 : ins ≤ 4
  o0 : 0 ≤ outs
  o1 : outs ≤ 10
  n1 : 1 ≤ t.length
  n2 : t.length ≤ 64
  row : ∀ row ∈ t, (row.length : Int) = shl .i64 1 ins
  ok : ∀ row ∈ t, ∀ r ∈ row, 0 ≤ r.f0 ∧ r.f0 < shl .i64 1 outs ∧ 0 ≤ r.f1 ∧ r.f1 < t.length

section
variable {ins outs : Int} {t : Tab}
theorem OKT.tab (h : OKT ins outs t) : TabR t := by
  have h1 := shl_ins h.i0 h.i1
  have h2 := shl_outs h.o0 h.o1
  refine ⟨h.n1, h.n2, ⟨(shl .i64 1 ins).toNat, by omega, fun row hr => by have := h.row row hr; omega⟩, fun row hr r hr' => ?_⟩
  have := h.ok row hr r hr'
  omega
theorem OKT.cel (h : OKT ins outs t) {s a : Nat} (hs : s < t.length) (ha : a < (roww t s).length) : 0 ≤ (cel t s a).f0 ∧ (cel t s a).f0 < shl .i64 1 outs ∧ 0 ≤ (cel t s a).f1 ∧ (cel t s a).f1 < t.length := h.ok _ (roww_mem hs) _ (cel_mem ha)
theorem OKT.min (h : OKT ins outs t) : OKT ins outs (minRows t) := by
  have hT := h.tab
  have hM := min_tabR hT
  have key : ∀ row ∈ minRows t, ∃ x, x < (fin t).length ∧ row = roww (minRows t) x := fun row hr => by
    obtain ⟨x, hx, e⟩ := List.getElem_of_mem hr
    exact ⟨x, by rw [← min_len hT]; exact hx, by unfold roww; rw [getD_of_lt _ _ hx, e]⟩
  refine ⟨h.i0, h.i1, h.o0, h.o1, hM.n1, hM.n2, fun row hr => ?_, fun row hr r hr' => ?_⟩
  · obtain ⟨x, hx, rfl⟩ := key row hr
    rw [min_rlen hT hx]
    exact h.row _ (roww_mem (reps_lt (fin_is hT).2.1 hx))
  · have h1 := hM.ok row hr r hr'
    obtain ⟨x, hx, rfl⟩ := key row hr
    obtain ⟨a, ha, rfl⟩ := List.getElem_of_mem hr'
    have ha' : a < (roww t ((fin t).getD x 0)).length := by rw [← min_rlen hT hx]; exact ha
    have e : (roww (minRows t) x)[a] = PL.cel (minRows t) x a := by unfold PL.cel; rw [getD_of_lt _ _ ha]
    rw [e] at h1 ⊢
    refine ⟨h1.1, ?_, h1.2.2.1, h1.2.2.2⟩
    rw [min_out hT hx ha']
    exact (h.cel (reps_lt (fin_is hT).2.1 hx) ha').2.1

theorem chk_l1 (h : OKT ins outs t) (s : Nat) (hs : s < t.length) (R : Int) (hR : Ev (fun k => learn_Check.l0 k t (t.length : Int) ((s + 1 : Nat) : Int) ins outs t) R) : ∀ d a : Nat, a + d = (roww t s).length →
    Ev (fun k => learn_Check.l1 k t (t.length : Int) (s : Int) (roww t s) ((roww t s).length : Int) (a : Int) ins outs t) R := by
  have hn := h.n2
  have hl := h.tab.len_le hs
  intro d
  induction d with
  | zero => intro a ha; refine Ev.step (fun k => ?_) hR; simp only [learn_Check.l1]; rw [if_neg (by omega), wnext (by omega)]
  | succ d ih =>
    intro a ha
    have hc := h.cel hs (a := a) (by omega)
    have e : rd_T77 (roww t s) (a : Int) = PL.cel t s a := rfl
    refine Ev.step (f := fun k => learn_Check.j3 k t (t.length : Int) (s : Int) (roww t s) ((roww t s).length : Int) (a : Int) false ins outs t (PL.cel t s a).f0 (PL.cel t s a).f1) (fun k => ?_) ?_
    · simp only [learn_Check.l1, e]; rw [if_pos (by omega), if_pos (by omega), if_pos (by omega), if_neg (by omega), if_pos h.o0, decide_eq_false (by omega)]
    · refine Ev.step (fun k => ?_) (ih (a + 1) (by omega))
      simp only [learn_Check.j3]; rw [if_neg (by simp), if_neg (by omega), if_neg (by omega), wnext (by omega)]
theorem chk_l0 (h : OKT ins outs t) : ∀ d s : Nat, s + d = t.length → Ev (fun k => learn_Check.l0 k t (t.length : Int) (s : Int) ins outs t) 0 := by
  have hn := h.n2
  intro d
  induction d with
  | zero => intro s hs; refine Ev.step (fun k => ?_) (Ev.now _); simp only [learn_Check.l0]; rw [if_neg (by omega)]
  | succ d ih =>
    intro s hs
    have e : rd_L2 t (s : Int) = roww t s := rfl
    refine Ev.step (fun k => ?_) (chk_l1 h s (by omega) 0 (ih (s + 1) (by omega)) (roww t s).length 0 (by omega))
    simp only [learn_Check.l0, e]; rw [if_pos (by omega), if_pos (by omega), if_pos (by omega), if_pos h.i0, if_pos (h.row _ (roww_mem (by omega)))]; rfl
theorem chk_is (h : OKT ins outs t) : Ev (fun k => learn_Check.f k ins outs t) 0 := by
  have h1 := h.i0; have h2 := h.i1; have h3 := h.o0; have h4 := h.o1; have h5 := h.n1; have h6 := h.n2
  refine Ev.congr (f := fun k => learn_Check.j0 k false ins outs t) (fun k => ?_) ?_
  · unfold learn_Check.f; rw [if_neg (by omega), if_neg (by omega), if_neg (by omega), if_neg (by omega), decide_eq_false (by omega)]
  · refine Ev.step (fun k => ?_) (chk_l0 h t.length 0 (by omega))
    simp only [learn_Check.j0]; rw [if_neg (by simp), if_neg (by omega)]; rfl
theorem OKT.tabOK (h : OKT ins outs t) : TabOK ins outs t := ⟨(chk_is h).rounds, h.tab⟩

/-! ### runs -/
def runO (t : Tab) : Nat → List Int → List Int
  | _, [] => []
  | s, a :: w => (PL.cel t s a.toNat).f0 :: runO t (PL.cel t s a.toNat).f1.toNat w
theorem runO_len (t : Tab) : ∀ (w : List Int) (s : Nat), (runO t s w).length = w.length
  | [], _ => rfl
  | a :: w, s => by simp [runO, runO_len t w]
def InW (ins : Int) (w : List Int) : Prop := ∀ x ∈ w, 0 ≤ x ∧ x < shl .i64 1 ins

theorem run_min (h : OKT ins outs t) : ∀ (w : List Int) (j s : Nat), InW ins w → j < (fin t).length → s < t.length → Bis t ((fin t).getD j 0) s → runO (minRows t) j w = runO t s w
  | [], _, _, _, _, _, _ => rfl
  | a :: w, j, s, hw, hj, hs, hb => by
    have hT := h.tab
    have ha := hw a (by simp)
    have hjl := reps_lt (fin_is hT).2.1 hj
    have r1 := h.row _ (roww_mem hjl)
    have r2 := h.row _ (roww_mem hs)
    have h1 : a.toNat < (roww t ((fin t).getD j 0)).length := by omega
    have h2 : a.toNat < (roww t s).length := by omega
    have hl := hb.like.2 _ h1
    have hm := min_to hT hj h1
    have hc := h.cel hs h2
    simp only [runO]
    rw [min_out hT hj h1, hl.1, run_min h w _ (PL.cel t s a.toNat).f1.toNat (fun x hx => hw x (by simp [hx])) hm.2.1 (by omega) (hm.2.2.trans hl.2)]

theorem rd_natl (l : List Int) (i : Nat) (h : i < l.length) : l.drop i = rd l (i : Int) :: l.drop (i + 1) := by
  rw [List.drop_eq_getElem_cons h]; simp [rd, List.getD_eq_getElem?_getD, List.getElem?_eq_getElem h]
theorem rd_memw {l : List Int} {i : Nat} (h : i < l.length) : rd l (i : Int) ∈ l := List.mem_of_mem_drop (i := i) (by rw [rd_natl l i h]; simp)

theorem run_l0 (h : OKT ins outs t) (w : List Int) (hw : InW ins w) (hwl : w.length ≤ 60) : ∀ d i : Nat, ∀ (acc : List Int) (s : Int), i + d = w.length → acc.length = i → 0 ≤ s → s < t.length →
    Ev (fun k => learn_Run.l0 k acc s w (w.length : Int) (i : Int) ins outs t) (acc ++ runO t s.toNat (w.drop i), 0) := by
  intro d
  induction d with
  | zero =>
    intro i acc s hi ha hs0 hs1
    refine Ev.step (f := fun _ => some (acc, 0)) (fun k => ?_) ?_
    · simp only [learn_Run.l0]; rw [if_neg (by omega)]
    · rw [List.drop_of_length_le (by omega)]; simp only [runO, List.append_nil]; exact Ev.now _
  | succ d ih =>
    intro i acc s hi ha hs0 hs1
    have hr := hw _ (rd_memw (l := w) (i := i) (by omega))
    rw [rd_natl w i (by omega)]
    obtain ⟨x, hx⟩ : ∃ x, rd w (i : Int) = x := ⟨_, rfl⟩
    rw [hx] at hr ⊢
    have e1 : rd_L2 t s = roww t s.toNat := rfl
    have e2 : rd_T77 (roww t s.toNat) x = PL.cel t s.toNat x.toNat := rfl
    have hrow := h.row _ (roww_mem (t := t) (s := s.toNat) (by omega))
    have hc := h.cel (t := t) (s := s.toNat) (a := x.toNat) (by omega) (by omega)
    have hn := ih (i + 1) (acc ++ [(PL.cel t s.toNat x.toNat).f0]) (PL.cel t s.toNat x.toNat).f1 (by omega) (by simp [ha]) hc.2.2.1 hc.2.2.2
    rw [List.append_assoc] at hn
    refine Ev.step (fun k => ?_) hn
    simp only [learn_Run.l0, hx, e1, e2]
    rw [if_pos (by omega), if_pos (by omega), if_pos (by omega), if_neg (by omega), if_pos h.i0, if_neg (by omega), if_pos hs0, if_pos hs1, if_pos hr.1, if_pos (by omega), if_pos (by omega), wnext (by omega)]
theorem run_is (h : OKT ins outs t) (w : List Int) (hw : InW ins w) (hwl : w.length ≤ 60) : Ev (fun k => learn_Run.f k ins outs t w) (runO t 0 w, 0) := by
  unfold learn_Run.f
  refine Ev.bind (chk_is h) ?_
  refine Ev.congr (f := fun k => learn_Run.l0 k ([] : List Int) 0 w (w.length : Int) 0 ins outs t) (fun k => by rw [if_pos rfl]) ?_
  have := run_l0 h w hw hwl w.length 0 [] 0 (by omega) rfl (by omega) (by have := h.n1; omega)
  simpa using this

theorem eq_l0 (l : List Int) (hl : l.length ≤ 1000) : ∀ d i : Nat, i + d = l.length → Ev (fun k => slices_Equal_int_int.l0 k l l (l.length : Int) (i : Int)) true := by
  intro d
  induction d with
  | zero => intro i hi; refine Ev.step (fun k => ?_) (Ev.now _); simp only [slices_Equal_int_int.l0]; rw [if_neg (by omega)]
  | succ d ih =>
    intro i hi
    refine Ev.step (fun k => ?_) (ih (i + 1) (by omega))
    simp only [slices_Equal_int_int.l0]; rw [if_pos (by omega), if_pos (by omega), if_pos (by omega), if_pos (by omega), if_pos trivial, wnext (by omega)]
theorem eq_is (l : List Int) (hl : l.length ≤ 1000) : Ev (fun k => slices_Equal_int_int.f k l l) true :=
  Ev.congr (fun k => by unfold slices_Equal_int_int.f; rw [if_pos rfl]; rfl) (eq_l0 l hl l.length 0 (by omega))

theorem below_is (x n : Int) (hn : 0 < n) (h16 : n ≤ 16) : ∃ v, bakemake_Below.f x n = some v ∧ 0 ≤ v ∧ v < n := by
  have h1 := Int.tmod_lt_of_pos x hn
  have h2 := Int.lt_tmod_of_pos x hn
  unfold bakemake_Below.f
  rw [if_neg (by omega)]
  by_cases h : Int.tmod x n < 0
  · rw [if_pos h, w64 (by omega) (by omega)]; exact ⟨_, rfl, by omega, by omega⟩
  · rw [if_neg h]; exact ⟨_, rfl, by omega, h1⟩

/-! ### a fact about tables -/
def T0 : Tab := [[⟨0, 0⟩, ⟨0, 1⟩], [⟨0, 0⟩, ⟨0, 0⟩]]
theorem T0_ok : OKT 1 1 T0 := by
  refine ⟨by decide, by decide, by decide, by decide, by decide, by decide, ?_, ?_⟩
  · intro row hr
    simp only [T0, List.mem_cons, List.not_mem_nil, or_false] at hr
    rcases hr with rfl | rfl <;> decide +kernel
  · have e : shl .i64 1 1 = 2 := by decide +kernel
    intro row hr r hr'
    simp only [T0, List.mem_cons, List.not_mem_nil, or_false] at hr
    rcases hr with rfl | rfl <;> (simp only [List.mem_cons, List.not_mem_nil, or_false] at hr'; rcases hr' with rfl | rfl <;> simp [T0, e])
theorem T0_bis (x y : Nat) (hx : x < 2) (hy : y < 2) : Bis T0 x y := by
  refine ⟨fun x y => x < 2 ∧ y < 2, ⟨hx, hy⟩, ?_⟩
  rintro x y ⟨hx, hy⟩
  have h1 : x = 0 ∨ x = 1 := by omega
  have h2 : y = 0 ∨ y = 1 := by omega
  rcases h1 with rfl | rfl <;> rcases h2 with rfl | rfl <;> (refine ⟨rfl, fun a ha => ?_⟩; have h3 : a = 0 ∨ a = 1 := (by simp only [roww, T0, List.getD_cons_zero, List.getD_cons_succ, List.length_cons, List.length_nil] at ha; omega); rcases h3 with rfl | rfl <;> exact ⟨rfl, by decide, by decide⟩)
theorem T0_idx (q : Nat) (hq : q < 2) : idxB T0 [0] q = 0 := idxB_eq (Rchd.one (by decide)) (by simp) (T0_bis _ _ (by decide) hq)
theorem T0_min : (minRows T0).length = 1 := by
  have e : minRow T0 (roww T0 (([0] : List Nat).getD 0 0)) [0] [] = ([0], [⟨0, (0 : Nat)⟩, ⟨0, (0 : Nat)⟩]) := by
    show minRow T0 [⟨0, 0⟩, ⟨0, 1⟩] [0] [] = _
    have h0 : idxB T0 [0] (⟨0, 0⟩ : S77).f1.toNat = 0 := T0_idx _ (by decide)
    have h1 : idxB T0 [0] (⟨0, 1⟩ : S77).f1.toNat = 0 := T0_idx _ (by decide)
    rw [minRow, h0, if_pos (by decide), minRow, h1, if_pos (by decide), minRow]
    rfl
  show (minGo T0 3 0 [0] []).length = 1
  rw [minGo, if_pos (by decide), e, minGo, if_neg (by decide)]
  rfl
theorem learned_is : bakekeep3_learned.f = some true := by
  unfold bakekeep3_learned.f
  have h := learn_Min.ok (T0_ok.tabOK)
  have e : learn_Min.f 1 1 (([(([(⟨0, 0⟩ : S77), (⟨0, 1⟩ : S77)] : List (S77))), (([(⟨0, 0⟩ : S77), (⟨0, 0⟩ : S77)] : List (S77)))] : List (List (S77)))) = some (1, 1, minRows T0, 0) := h
  rw [e, Option.bind_some, if_pos rfl, T0_min]
  rfl

end

theorem valid_ok {ins outs : Int} {t : Tab} (h : ValidT ins outs t) : OKT ins outs t := by
  have h1 := h.i0; have h2 := h.i1; have h3 := h.o0; have h4 := h.o1; have h5 := h.r0; have h6 := h.r1
  have e1 : shl .i64 1 ins = wrap64 (2 ^ ins.toNat) := by
    have : ins = 1 ∨ ins = 2 := by omega
    rcases this with rfl | rfl <;> decide +kernel
  have e2 : shl .i64 1 outs = wrap64 (2 ^ outs.toNat) := by
    have : outs = 1 ∨ outs = 2 ∨ outs = 3 := by omega
    rcases this with rfl | rfl | rfl <;> decide +kernel
  refine ⟨by omega, by omega, by omega, by omega, h5, by omega, fun row hr => by rw [e1]; exact (h.ok row hr).1, fun row hr r hr' => ?_⟩
  have := (h.ok row hr).2 r hr'
  rw [e2]
  exact this
end Go.Proofs.Ytaalafnkglbcpaa.PL
end

/- synth.Of of a valid table gives a circuit that does as the table (30, 58). Own text of this claim. -/
section
namespace Go.Proofs.Ytaalafnkglbcpaa.SY
open Go.RowKit Go.WideMaps Go.Maps Go.Proofs.YtaalafnkglbcpaaW.PrintWords Go.Proofs.YtaalafnkglbcpaaW.PrintLast Go.Proofs.YtaalafnkglbcpaaW.PrintMore
open Go.Proofs.Ytaalafnkglbcpaa.PL (S77 z77 k77 Tab TabR roww cel OKT chk_is)
open Go.Proofs.Ytaalafnkglbcpaa.PG (S50 z50 k50 GateOk GatesOk)
set_option linter.unusedVariables false
set_option linter.unusedSimpArgs false
set_option maxHeartbeats 4000000 in
set_option maxRecDepth 100000 in
theorem width_calls (n : Nat) (h0 : 1 ≤ n) (h6 : n ≤ 6) (w : World) : Calls Try.prog 58 #[.int .i64 (n : Int)] w fun e w' => e = .returned (.int .i64 (widthN n : Nat)) ∧ Drawn0 w w' := by
  have HW : Aside0 (∀ k : Nat, k ≤ 3 → (∀ j, j < k → 2 ^ j < n) → ¬ 2 ^ k < n → widthN n = k) := ⟨fun k hk h1 h2 => by
    have : n = 1 ∨ n = 2 ∨ n = 3 ∨ n = 4 ∨ n = 5 ∨ n = 6 := by omega
    have hk' : k = 0 ∨ k = 1 ∨ k = 2 ∨ k = 3 := by omega
    have g0 := h1 0
    have g1 := h1 1
    have g2 := h1 2
    rcases this with rfl | rfl | rfl | rfl | rfl | rfl <;> rcases hk' with rfl | rfl | rfl | rfl <;> simp [widthN] at * ⟩
  have W64 : Aside0 (∀ k : Nat, k ≤ 3 → wrap64 ((2 : Int) ^ k) = ((2 ^ k : Nat) : Int)) := ⟨fun k hk => by
    have hk' : k = 0 ∨ k = 1 ∨ k = 2 ∨ k = 3 := by omega
    rcases hk' with rfl | rfl | rfl | rfl <;> decide +kernel⟩
  go_enter Try.func58, Try.ntmps58
  go_wp2
  go_loopw [3] (fun v3 wr => wr = w ∧ ∃ k : Nat, k ≤ 3 ∧ v3 = .int .i64 (k : Int) ∧ Aside0 (∀ j, j < k → 2 ^ j < n)) (fun v3 _ => 3 - (intOf v3).toNat)
  case atStart => exact ⟨rfl, 0, by omega, rfl, ⟨fun j hj => by omega⟩⟩
  case round =>
    obtain ⟨rfl, k, hk, rfl, HJ⟩ := hrel
    have hw := Aside0.mk (W64.out k hk)
    by_cases hlt : 2 ^ k < n
    · have hk3 : k < 3 := by
        rcases Nat.lt_or_ge k 3 with h | h
        · exact h
        · have e : k = 3 := by omega
          subst e; have h8 : (2 : Nat) ^ 3 = 8 := rfl; omega
      have ht : wrap64 ((2 : Int) ^ k) < (n : Int) := by rw [hw.out]; exact_mod_cast hlt
      have HJ2 : Aside0 (∀ j, j < k + 1 → 2 ^ j < n) := ⟨fun j hj => by
        rcases Nat.lt_or_ge j k with h | h
        · exact HJ.out j h
        · have e : j = k := by omega
          subst e; exact hlt⟩
      clear hlt HJ
      go_wp2
      go_roundw
      case rel => exact ⟨trivial, k + 1, by omega, by go_num, HJ2⟩
      case measure => simp [intOf]; omega
    · have ht : ¬ wrap64 ((2 : Int) ^ k) < (n : Int) := by rw [hw.out]; exact_mod_cast hlt
      have HR := Aside0.mk (HW.out k hk HJ.out hlt)
      clear hlt
      go_wp2
      go_ret
      exact ⟨by rw [HR.out]; rfl, Drawn0.refl _⟩
theorem shl_nat (n : Nat) (h : n ≤ 10) : shl .i64 1 (n : Int) = ((2 ^ n : Nat) : Int) := by
  have : n = 0 ∨ n = 1 ∨ n = 2 ∨ n = 3 ∨ n = 4 ∨ n = 5 ∨ n = 6 ∨ n = 7 ∨ n = 8 ∨ n = 9 ∨ n = 10 := by omega
  rcases this with rfl | rfl | rfl | rfl | rfl | rfl | rfl | rfl | rfl | rfl | rfl <;> decide +kernel
/-- A table that Check lets pass, over plain numbers. -/
structure TabN (I O : Nat) (t : Tab) : Prop where
  n1 : 1 ≤ t.length
  row : ∀ s, s < t.length → (roww t s).length = 2 ^ I
  ok : ∀ s a, s < t.length → a < 2 ^ I → 0 ≤ (cel t s a).f0 ∧ (cel t s a).f0.toNat < 2 ^ O ∧ 0 ≤ (cel t s a).f1 ∧ (cel t s a).f1.toNat < t.length
theorem TabN.of {I O : Nat} {t : Tab} (h : OKT (I : Int) (O : Int) t) : TabN I O t := by
  have h1 := h.i1
  have h2 := h.o1
  have e1 := shl_nat I (by omega)
  have e2 := shl_nat O (by omega)
  have hr : ∀ s, s < t.length → (roww t s).length = 2 ^ I := fun s hs => by
    have := h.row _ (PL.roww_mem hs)
    rw [e1] at this
    exact_mod_cast this
  refine ⟨h.n1, hr, fun s a hs ha => ?_⟩
  have := h.cel hs (a := a) (by rw [hr s hs]; exact ha)
  rw [e2] at this
  exact ⟨this.1, by omega, this.2.2.1, by omega⟩
theorem TabN.okt {I O : Nat} {t : Tab} (h : TabN I O t) (hI : I ≤ 4) (hO : O ≤ 10) (hl : t.length ≤ 64) : OKT (I : Int) (O : Int) t := by
  have e1 := shl_nat I (by omega)
  have e2 := shl_nat O (by omega)
  refine ⟨by omega, by omega, by omega, by omega, h.n1, hl, fun row hr => ?_, fun row hr r hr' => ?_⟩
  · obtain ⟨s, hs, e⟩ := List.getElem_of_mem hr
    have := h.row s hs
    unfold roww at this
    rw [List.getD_eq_getElem?_getD, List.getElem?_eq_getElem hs] at this
    have h3 : t[s].length = 2 ^ I := this
    rw [← e, h3, e1]
  · obtain ⟨s, hs, e⟩ := List.getElem_of_mem hr
    obtain ⟨a, ha, e3⟩ := List.getElem_of_mem hr'
    have hrw : roww t s = row := by
      unfold roww
      rw [List.getD_eq_getElem?_getD, List.getElem?_eq_getElem hs]; exact e
    have hc : cel t s a = r := by
      unfold cel
      rw [hrw, List.getD_eq_getElem?_getD, List.getElem?_eq_getElem ha]; exact e3
    have h4 := h.row s hs
    rw [hrw] at h4
    have h5 := h.ok s a hs (by omega)
    rw [hc] at h5
    rw [e2]
    exact ⟨h5.1, by omega, h5.2.2.1, by omega⟩
theorem map_testBit (n y : Nat) (h : y < 2 ^ n) : bitsN ((List.range n).map y.testBit) = y := bitsN_test n y h
/-- What synth.Of gives, over plain circuits. -/
def OfC (t : Tab) (I O : Nat) (w : World) (e : Ending) (w' : World) : Prop :=
  ∃ (c : Cir) (Ag Ao An Ai : Option Addr) (cg co cn ci : Nat), e = .returned (.tuple #[c.V Ag Ao An Ai cg co cn ci, .int .i64 0]) ∧ c.In w' Ag Ao An Ai cg co cn ci ∧ Below w.heap.size w w' ∧ c.Ok ∧ Does c t ∧ c.ins = I ∧ c.outs.length = O ∧ c.next.length ≤ 3
theorem of_does {t : Tab} {I O : Nat} {gs : List S50} {outs next : List Nat} (hT : TabN I O t) (h6 : t.length ≤ 6)
    (ho : ∀ s x, outs.map (val gs s x) = (List.range O).map (fun b => ofBit t I O b (pack I (I + widthN t.length) s x))) (hn : ∀ s x, next.map (val gs s x) = (List.range (widthN t.length)).map (fun b => ofBit t I O (O + b) (pack I (I + widthN t.length) s x))) :
    Does ⟨I, gs, outs, next, List.replicate (widthN t.length) false⟩ t := by
  refine ⟨?_, fun s x hs hx => ?_, fun s x hs hx => ?_⟩
  · show bitsN (List.replicate _ false) = 0
    generalize widthN t.length = n
    induction n with
    | zero => rfl
    | succ n ih => rw [List.replicate_succ]; simp [bitsN, ih]
  · show bitsN (outs.map (val gs s x)) = _
    have hc := hT.ok s x hs hx
    rw [ho]
    rw [show (List.range O).map (fun b => ofBit t I O b (pack I (I + widthN t.length) s x)) = (List.range O).map (cel t s x).f0.toNat.testBit from List.map_congr_left (fun b hb => by
      unfold ofBit
      rw [if_pos (List.mem_range.1 hb), rowAt_pack h6 hs hx])]
    exact map_testBit O _ hc.2.1
  · show bitsN (next.map (val gs s x)) = _
    have hc := hT.ok s x hs hx
    rw [hn]
    rw [show (List.range (widthN t.length)).map (fun b => ofBit t I O (O + b) (pack I (I + widthN t.length) s x)) = (List.range (widthN t.length)).map (cel t s x).f1.toNat.testBit from List.map_congr_left (fun b hb => by
      unfold ofBit
      rw [if_neg (by omega), rowAt_pack h6 hs hx, Nat.add_sub_cancel_left])]
    exact map_testBit _ _ (widthN_lt h6 hc.2.2.2)
theorem of2_calls (w : World) (I O : Nat) (Ar : Option Addr) (cr : Nat) (t : Tab) (hI : I = 1 ∨ I = 2) (hO0 : 1 ≤ O) (hO : O ≤ 3) (h6 : t.length ≤ 6) (hT : OKT (I : Int) (O : Int) t) (hR : Kd.C (Kd.slice 77 k77) w Ar t.length t) (hcr : t.length ≤ cr) :
    Calls Try.prog 30 #[.agg #[.int .i64 (I : Int), .int .i64 (O : Int), .slice Ar t.length cr]] w (OfC t I O w) := by
  have hN := TabN.of hT
  have h1 := hT.n1
  refine (of_calls w I O Ar cr t hI hO0 hO h1 h6 hN.row (fun X => ?_) hR hcr (chk_is hT).rounds (fun W => width_calls t.length h1 h6 W)).mono ?_
  · have hp := Nat.two_pow_pos I
    unfold rowAt
    have hO8 : 2 ^ O ≤ 2 ^ 3 := Nat.pow_le_pow_right (by omega) hO
    by_cases h : X / 2 ^ I < t.length
    · rw [if_pos h]
      have := hN.ok _ (X % 2 ^ I) h (Nat.mod_lt _ hp)
      omega
    · rw [if_neg h]
      have := hN.ok 0 (X % 2 ^ I) (by omega) (Nat.mod_lt _ hp)
      omega
  · rintro e w' ⟨ug, uo, un, ui, gs, outs, next, rfl, rg, ro, rn, ri, hb, gok, g1, ook, nok, ol, nl, hO2, hN2⟩
    have ew : I + widthN t.length - I = widthN t.length := by omega
    rw [ew] at ri gok nl hN2
    have hw3 := widthN_le t.length
    obtain ⟨Ag, cg, rfl⟩ := Kd.R_slice rg
    obtain ⟨Ao, co, rfl⟩ := Kd.R_slice ro
    obtain ⟨An, cn, rfl⟩ := Kd.R_slice rn
    obtain ⟨Ai, ci, rfl⟩ := Kd.R_slice ri
    have eo : (natsI outs).length = outs.length := by simp [natsI]
    have en : (natsI next).length = next.length := by simp [natsI]
    have ei : bI (List.replicate (widthN t.length) false) = List.replicate (widthN t.length) 0 := by unfold bI; simp
    have ei2 : (List.replicate (widthN t.length) (0 : Int)).length = (List.replicate (widthN t.length) false).length := by simp
    rw [eo] at ro
    rw [en] at rn
    rw [ei2] at ri
    have g := (Kd.R_reads' rg).2
    have o := (Kd.R_reads' ro).2
    have n := (Kd.R_reads' rn).2
    have i := (Kd.R_reads' ri).2
    rw [eo] at o
    rw [en] at n
    rw [← ei, ← ei2] at i
    rw [eo, en, ei2]
    refine ⟨⟨I, gs, outs, next, List.replicate (widthN t.length) false⟩, Ag, Ao, An, Ai, cg, co, cn, ci, rfl, ⟨g.2, o.2, n.2, ?_, g.1, o.1, n.1, ?_⟩, hb, ⟨?_, ?_, g1, by show I ≤ 10; omega, by show outs.length ≤ 10; omega, by show next.length ≤ 10; omega, ook, nok, by simp [nl]⟩, of_does hN h6 hO2 hN2, rfl, ol, by show next.length ≤ 3; omega⟩
    · have h := i.2
      rw [bI_len] at h
      exact h
    · have h := i.1; simpa using h
    · show GatesOk _ _ _
      rw [nl]; exact gok
    · have h2 := ook (outs.getD 0 0) (getD_mem' (by omega))
      show 1 ≤ gs.length
      omega
end Go.Proofs.Ytaalafnkglbcpaa.SY
end

/- bakekeep3.built (33): a fact about circuits of tables, walked by hand. Own text of this claim. -/
section
namespace Go.Proofs.Ytaalafnkglbcpaa.SY
open Go.RowKit Go.WideMaps Go.Maps Go.Proofs.YtaalafnkglbcpaaW.PrintWords Go.Proofs.YtaalafnkglbcpaaW.PrintLast Go.Proofs.YtaalafnkglbcpaaW.PrintMore
open Go.Proofs.Ytaalafnkglbcpaa.PL (S77 z77 k77 Tab TabR roww cel OKT chk_is)
open Go.Proofs.Ytaalafnkglbcpaa.PG (S50 z50 k50 GateOk GatesOk)
set_option linter.unusedVariables false
set_option linter.unusedSimpArgs false
def TB1 : Tab := [[⟨0, 0⟩, ⟨1, 0⟩]]
theorem TB1_ok : OKT ((1 : Nat) : Int) ((1 : Nat) : Int) TB1 := by
  refine TabN.okt ⟨by decide, fun s hs => ?_, fun s a hs ha => ?_⟩ (by decide) (by decide) (by decide)
  · have e : s = 0 := by simp [TB1] at hs; omega
    subst e; rfl
  · have e : s = 0 := by simp [TB1] at hs; omega
    subst e
    have : a = 0 ∨ a = 1 := by omega
    rcases this with rfl | rfl <;> decide
theorem C_TB1 {W : World} {g h : Nat} (h1 : W.heap[g]? = some (.cells #[.int .i64 0, .int .i64 0, .int .i64 1, .int .i64 0] 77 (0, 0))) (h2 : W.heap[h]? = some (.cells #[.slice (some ⟨g, 0, none⟩) 2 2] 75 (0, 0))) : (Kd.slice 77 k77).C W (some ⟨h, 0, none⟩) 1 TB1 := by
  have hrow : k77.C W (some ⟨g, 0, none⟩) 2 [⟨0, 0⟩, ⟨1, 0⟩] := by
    refine ⟨rfl, by decide, fun _ => ⟨_, rfl, fun j p hj => ?_⟩⟩
    match j, hj with
    | 0, hj =>
      simp at hj; subst hj
      refine ⟨[.int .i64 0, .int .i64 0], rfl, PL.k77_mk W ⟨0, 0⟩, fun i u hi => ?_⟩
      match i, hi with
      | 0, hi => simp at hi; subst hi; exact (blk_cell h1 0).trans rfl
      | 1, hi => simp at hi; subst hi; exact (blk_cell h1 1).trans rfl
      | i + 2, hi => simp at hi
    | 1, hj =>
      simp at hj; subst hj
      refine ⟨[.int .i64 1, .int .i64 0], rfl, PL.k77_mk W ⟨1, 0⟩, fun i u hi => ?_⟩
      match i, hi with
      | 0, hi => simp at hi; subst hi; exact (blk_cell h1 2).trans rfl
      | 1, hi => simp at hi; subst hi; exact (blk_cell h1 3).trans rfl
      | i + 2, hi => simp at hi
    | j + 2, hj => simp at hj
  refine ⟨rfl, by decide, fun _ => ⟨_, rfl, fun j p hj => ?_⟩⟩
  match j, hj with
  | 0, hj =>
    simp [TB1] at hj; subst hj
    refine ⟨[.slice (some ⟨g, 0, none⟩) 2 2], rfl, ⟨_, _, rfl, by decide, hrow⟩, fun i u hi => ?_⟩
    match i, hi with
    | 0, hi => simp at hi; subst hi; exact (blk_cell h2 0).trans rfl
    | i + 1, hi => simp at hi
  | j + 1, hj => simp [TB1] at hj
theorem C_lit2 {W : World} {g : Nat} {a b : Int} (h : W.heap[g]? = some (.cells #[.int .i64 a, .int .i64 b] 3 (0, 0))) : (Kd.int .i64).C W (some ⟨g, 0, none⟩) 2 [a, b] := by
  refine Kd.C_of_reads (enc := Value.int .i64) (d := (0 : Int)) ⟨rfl, by decide, fun _ => ⟨_, rfl, fun i hi => ?_⟩⟩
  have : i = 0 ∨ i = 1 := by omega
  rcases this with rfl | rfl
  · exact (blk_cell h 0).trans rfl
  · exact (blk_cell h 1).trans rfl
theorem run_TB1 {c : Cir} (h : Does c TB1) (hi : c.ins = 1) : natsI (c.runO c.start [0, 1]) = [0, 1] := by
  have h1 := h.out 0 0 (by decide) (by rw [hi]; decide)
  have h2 := h.nxt 0 0 (by decide) (by rw [hi]; decide)
  have h3 := h.out 0 1 (by decide) (by rw [hi]; decide)
  rw [h.start]
  simp only [Cir.runO]
  rw [h1, h2, show (cel TB1 0 0).f1.toNat = 0 from rfl, h3]
  rfl
set_option maxHeartbeats 8000000 in
set_option maxRecDepth 100000 in
theorem built_calls (w : World) : Calls Try.prog 33 #[] w fun e w' => e = .returned (.bool true) ∧ Below w.heap.size w w' := by
  have B1 := Aside0.mk (blk_alloc (blk_new w (Obj.cells #[.int .i64 0, .int .i64 0, .int .i64 1, .int .i64 0] 77)) (Obj.cells #[.slice (some ⟨w.heap.size, 0, none⟩) 2 2] 75))
  have B2 : Aside0 (((w.alloc (Obj.cells #[.int .i64 0, .int .i64 0, .int .i64 1, .int .i64 0] 77)).alloc (Obj.cells #[.slice (some ⟨w.heap.size, 0, none⟩) 2 2] 75)).heap[w.heap.size + 1]? = some (.cells #[.slice (some ⟨w.heap.size, 0, none⟩) 2 2] 75 (0, 0))) := ⟨by
    have h := blk_new (w.alloc (Obj.cells #[.int .i64 0, .int .i64 0, .int .i64 1, .int .i64 0] 77)) (Obj.cells #[.slice (some ⟨w.heap.size, 0, none⟩) 2 2] 75)
    rwa [show (w.alloc (Obj.cells #[.int .i64 0, .int .i64 0, .int .i64 1, .int .i64 0] 77)).heap.size = w.heap.size + 1 by simp] at h⟩
  have HB := Aside0.mk (below_alloc (below_alloc (Below.refl w.heap.size w) (Obj.cells #[.int .i64 0, .int .i64 0, .int .i64 1, .int .i64 0] 77)) (Obj.cells #[.slice (some ⟨w.heap.size, 0, none⟩) 2 2] 75))
  have OC := Aside0.mk (of2_calls ((w.alloc (Obj.cells #[.int .i64 0, .int .i64 0, .int .i64 1, .int .i64 0] 77)).alloc (Obj.cells #[.slice (some ⟨w.heap.size, 0, none⟩) 2 2] 75)) 1 1 (some ⟨w.heap.size + 1, 0, none⟩) 1 TB1 (.inl rfl) (by decide) (by decide) (by decide) TB1_ok (C_TB1 B1.out B2.out) (Nat.le_refl 1))
  rw [show TB1.length = 1 from rfl, show ((1 : Nat) : Int) = 1 from rfl] at OC
  go_enter Try.func33, Try.ntmps33
  go_wp2_with fail
  (with_reducible refine OC.out.mono ?_)
  rintro e w2 ⟨c, Ag, Ao, An, Ai, cg, co, cn, ci, rfl, hin, hb, ok, hd, hi, ho, hn⟩
  have HB2 := Aside0.mk (HB.out.trans (hb.mono HB.out.size))
  have HIN := Aside0.mk hin
  have OK := Aside0.mk ok
  have RT := Aside0.mk (run_TB1 hd hi)
  have HI := Aside0.mk hi
  clear OC hb HB B1 B2 hin ok hd ho hn hi
  have RC := Aside0.mk (fun W (hb : Below w2.heap.size w2 W) A cw (hw : Kd.C (Kd.int .i64) W A 2 [0, 1]) => run_calls W c Ag Ao An Ai cg co cn ci A cw [0, 1] OK.out (HIN.out.below hb) hw (fun x hx => by
    rw [HI.out]; simp at hx; omega) (by decide))
  rw [RT.out] at RC
  clear RT HIN OK HI
  obtain ⟨ins, gs, outs, next, init⟩ := c
  dsimp only [Cir.V] at RC ⊢
  have C1 := Aside0.mk (blk_alloc (blk_new w2 (Obj.cells #[.int .i64 (ins : Int), .slice Ag gs.length cg, .slice Ao outs.length co, .slice An next.length cn, .slice Ai init.length ci] 38)) (Obj.cells #[.int .i64 0, .int .i64 1] 3))
  have C2 : Aside0 (((w2.alloc (Obj.cells #[.int .i64 (ins : Int), .slice Ag gs.length cg, .slice Ao outs.length co, .slice An next.length cn, .slice Ai init.length ci] 38)).alloc (Obj.cells #[.int .i64 0, .int .i64 1] 3)).heap[w2.heap.size + 1]? = some (.cells #[.int .i64 0, .int .i64 1] 3 (0, 0))) := ⟨by
    have h := blk_new (w2.alloc (Obj.cells #[.int .i64 (ins : Int), .slice Ag gs.length cg, .slice Ao outs.length co, .slice An next.length cn, .slice Ai init.length ci] 38)) (Obj.cells #[.int .i64 0, .int .i64 1] 3)
    rwa [show (w2.alloc (Obj.cells #[.int .i64 (ins : Int), .slice Ag gs.length cg, .slice Ao outs.length co, .slice An next.length cn, .slice Ai init.length ci] 38)).heap.size = w2.heap.size + 1 by simp] at h⟩
  have HBa := Aside0.mk (below_alloc (below_alloc (Below.refl w2.heap.size w2) (Obj.cells #[.int .i64 (ins : Int), .slice Ag gs.length cg, .slice Ao outs.length co, .slice An next.length cn, .slice Ai init.length ci] 38)) (Obj.cells #[.int .i64 0, .int .i64 1] 3))
  have RC2 := Aside0.mk (RC.out _ HBa.out (some ⟨w2.heap.size + 1, 0, none⟩) 2 (C_lit2 C2.out))
  rw [show ([0, 1] : List Nat).length = 2 from rfl] at RC2
  go_wp2_with fail
  (with_reducible refine RC2.out.mono ?_)
  rintro e w3 ⟨v3, rfl, hr3, hb3⟩
  obtain ⟨A3, c3, rfl⟩ := Kd.R_slice hr3
  have HB3 := Aside0.mk ((HB2.out.trans (HBa.out.mono HB2.out.size)).trans (hb3.mono (HB2.out.trans (HBa.out.mono HB2.out.size)).size))
  have hC3 := (Kd.R_reads' hr3).2
  obtain ⟨k, hk⟩ := (PL.eq_is [0, 1] (by decide)).rounds
  have EQ := Aside0.mk (PL.slices_Equal_int_int.calls k A3 c3 [0, 1] (some ⟨w3.heap.size, 0, none⟩) 2 [0, 1] true (w3.alloc (Obj.cells #[.int .i64 0, .int .i64 1] 3)) (Kd.C_alloc hC3.2 _) hC3.1 (C_lit2 (blk_new w3 _)) (Nat.le_refl 2) hk)
  rw [show ([0, 1] : List Int).length = 2 from rfl] at EQ ⊢
  have HB4 := Aside0.mk (below_alloc HB3.out (Obj.cells #[.int .i64 0, .int .i64 1] 3))
  clear RC RC2 hr3 hb3 hC3 hk C1 C2 HBa HB2 HB3
  go_wp2_with fail
  (with_reducible refine EQ.out.mono ?_)
  rintro e w4 ⟨rfl, hd4⟩
  have HB5 := Aside0.mk (HB4.out.trans (hd4.below.mono HB4.out.size))
  clear EQ hd4 HB4
  go_wp2_with fail
  go_ret
  exact ⟨rfl, HB5.out⟩
end Go.Proofs.Ytaalafnkglbcpaa.SY
end

/- synth.Table (34), walked by hand: the table of a circuit. Own text of this claim. -/
section
namespace Go.Proofs.Ytaalafnkglbcpaa.SY
open Go.RowKit Go.WideMaps Go.Maps Go.Proofs.YtaalafnkglbcpaaW.PrintWords Go.Proofs.YtaalafnkglbcpaaW.PrintLast Go.Proofs.YtaalafnkglbcpaaW.PrintMore
open Go.Proofs.Ytaalafnkglbcpaa.PL (S77 z77 k77 Tab TabR MInv MapIs lawI wpList_insert_own zero3 info3 info75 info77 k77_mkM S_putU)
open Go.Proofs.Ytaalafnkglbcpaa.PG (S50 z50 k50 GateOk GatesOk)
set_option linter.unusedVariables false
set_option linter.unusedSimpArgs false
def kst (s : Nat) : Lit := .int .i64 (s : Int)
theorem MInv_below {w1 W W' : World} {ins outs : Int} {vr v8 v9 : Value} {rows : Tab} {todo : List Int} {row : List S77} {m : Nat} {D : DataW Unit} (h : MInv w1 W ins outs vr rows v8 todo v9 row m D) (hb : Below W.heap.size W W') : MInv w1 W' ins outs vr rows v8 todo v9 row m D :=
  { hb := h.hb.trans (hb.mono h.hb.size), blk := blk_below h.blk hb, om := PL.owns_below h.om h.om.lt hb, rr := Kd.S_below h.rr hb, td := Kd.Q_below h.td hb, r9 := Kd.R_below h.r9 hb }
theorem add_zero0 (a : Addr) : a.add 0 = a := by unfold Addr.add; split <;> simp_all
set_option maxRecDepth 100000 in
set_option maxHeartbeats 8000000 in
theorem tab_calls (w : World) (c : Cir) (Ag Ao An Ai : Option Addr) (cg co cn ci : Nat) (ok : c.Ok) (hin : c.In w Ag Ao An Ai cg co cn ci) (h4 : c.ins ≤ 4) (h6 : c.next.length ≤ 6) :
    Calls Try.prog 34 #[c.V Ag Ao An Ai cg co cn ci] w fun e w' => ∃ v : Value, e = .returned (.tuple #[.agg #[.int .i64 (c.ins : Int), .int .i64 (c.outs.length : Int), v], .int .i64 0]) ∧ Kd.S (Kd.slice 77 k77) 75 w' w.heap.size (fun _ => True) v (tabOf c) ∧ Below w.heap.size w w' := by
  obtain ⟨N, hN⟩ : ∃ N, 2 ^ c.next.length = N := ⟨_, rfl⟩
  have hNle : N ≤ 64 := by
    rw [← hN]; exact Nat.le_trans (Nat.pow_le_pow_right (by omega) h6) (by decide)
  have RS0 : Aside0 (RchS N [c.start]) := ⟨⟨by
    intro p hp; simp at hp; subst hp; rw [← hN]
    unfold Cir.start
    exact Nat.lt_of_lt_of_le (bitsN_lt _) (by rw [ok.il]; exact Nat.le_refl _), by simp⟩⟩
  have NXL : Aside0 (∀ s x, c.nxt s x < N) := ⟨fun s x => by
    rw [← hN]; unfold Cir.nxt
    have h := bitsN_lt (c.next.map (val c.gs s x))
    rwa [List.length_map] at h⟩
  have OUL : Aside0 (∀ s x, c.out s x < 2 ^ 20) := ⟨fun s x => Cir.out_lt ok s x⟩
  obtain ⟨M, hM⟩ : ∃ M, 2 ^ c.ins = M := ⟨_, rfl⟩
  have hMle : M ≤ 16 := by
    rw [← hM]; exact Nat.le_trans (Nat.pow_le_pow_right (by omega) h4) (by decide)
  have hM1 : 1 ≤ M := by rw [← hM]; exact Nat.one_le_two_pow
  have HM2 : Aside0 (wrap64 ((2 : Int) ^ c.ins) = (M : Int)) := ⟨by
    rw [show (2 : Int) ^ c.ins = ((2 ^ c.ins : Nat) : Int) from by simp, hM]
    unfold wrap64; omega⟩
  obtain ⟨TB, hTB⟩ : ∃ TB, tabOf c = TB := ⟨_, rfl⟩
  have HTB : Aside0 (tGo c (N + 1) 0 [c.start] [] = TB) := ⟨by rw [← hTB, ← hN]; rfl⟩
  have STEPG : Aside0 (∀ n i reps out, i < reps.length → tGo c (n + 1) i reps out = tGo c n (i + 1) (tRow c (reps.getD i 0) (List.range M) reps []).1 (out ++ [(tRow c (reps.getD i 0) (List.range M) reps []).2])) := ⟨fun n i reps out h => by
    rw [← hM]; simp only [tGo, if_pos h]⟩
  have ENDG : Aside0 (∀ n i reps out, ¬ i < reps.length → tGo c n i reps out = out) := ⟨fun n i reps out h => by
    cases n with
    | zero => rfl
    | succ n => simp only [tGo, if_neg h]⟩
  rw [hTB]
  clear hTB hN hM
  have HIN := Aside0.mk hin
  have SC := Aside0.mk (fun W (hb : Below w.heap.size w W) => start_calls W c Ag Ao An Ai cg co cn ci ok (hin.below hb))
  have CCK := Aside0.mk (fun W (hb : Below w.heap.size w W) => check_calls W c Ag Ao An Ai cg co cn ci ok (hin.below hb))
  have STP := Aside0.mk (fun W (hb : Below w.heap.size w W) s x (hs : s < 2 ^ 20) (hx : x < 2 ^ 20) => step_calls W c Ag Ao An Ai cg co cn ci s x ok (hin.below hb) hs hx)
  have O1 := ok.o1
  clear ok hin
  generalize hst0 : c.start = s0 at *
  have HS0 := RS0.out.lt s0 (by simp)
  clear hst0
  obtain ⟨nx, hnx⟩ : ∃ nx, c.nxt = nx := ⟨_, rfl⟩
  obtain ⟨ou, hou⟩ : ∃ ou, c.out = ou := ⟨_, rfl⟩
  have TRW : Aside0 (∀ s x xs reps row, tRow c s (x :: xs) reps row = tRow c s xs (if idxS reps (nx s x) < reps.length then reps else reps ++ [nx s x]) (row ++ [⟨(ou s x : Nat), (idxS reps (nx s x) : Nat)⟩])) := ⟨fun s x xs reps row => by rw [← hnx, ← hou]; rfl⟩
  have TRN : Aside0 (∀ s reps row, tRow c s [] reps row = (reps, row)) := ⟨fun s reps row => rfl⟩
  rw [hnx] at NXL STP
  rw [hou] at OUL STP
  clear hnx hou
  generalize tRow c = tr at *
  generalize tGo c = tg at *
  obtain ⟨ins, gs, outs, next, init⟩ := c
  dsimp only [Cir.V] at SC CCK STP ⊢
  dsimp only at h4 HM2 O1
  clear h6
  have X1 := Aside0.mk (blk_alloc (blk_new w (Obj.cells #[.int .i64 (ins : Int), .slice Ag gs.length cg, .slice Ao outs.length co, .slice An next.length cn, .slice Ai init.length ci] 38)) (Obj.cells #[.int .i64 0, .int .i64 0, .slice none 0 0] 25))
  have Y1 : Aside0 (((w.alloc (Obj.cells #[.int .i64 (ins : Int), .slice Ag gs.length cg, .slice Ao outs.length co, .slice An next.length cn, .slice Ai init.length ci] 38)).alloc (Obj.cells #[.int .i64 0, .int .i64 0, .slice none 0 0] 25)).heap[w.heap.size + 1]? = some (.cells #[.int .i64 0, .int .i64 0, .slice none 0 0] 25 (0, 0))) := ⟨by
    have h := blk_new (w.alloc (Obj.cells #[.int .i64 (ins : Int), .slice Ag gs.length cg, .slice Ao outs.length co, .slice An next.length cn, .slice Ai init.length ci] 38)) (Obj.cells #[.int .i64 0, .int .i64 0, .slice none 0 0] 25)
    rwa [show (w.alloc (Obj.cells #[.int .i64 (ins : Int), .slice Ag gs.length cg, .slice Ao outs.length co, .slice An next.length cn, .slice Ai init.length ci] 38)).heap.size = w.heap.size + 1 by simp] at h⟩
  have HB1 := Aside0.mk (below_alloc (below_alloc (Below.refl w.heap.size w) (Obj.cells #[.int .i64 (ins : Int), .slice Ag gs.length cg, .slice Ao outs.length co, .slice An next.length cn, .slice Ai init.length ci] 38)) (Obj.cells #[.int .i64 0, .int .i64 0, .slice none 0 0] 25))
  have KEEP : Aside0 (∀ wr : World, Aside0 (wr.heap[w.heap.size]? = some (Obj.cells #[.int .i64 (ins : Int), .slice Ag gs.length cg, .slice Ao outs.length co, .slice An next.length cn, .slice Ai init.length ci] 38 (0, 0))) →
      wr.cell? ⟨w.heap.size, 0, none⟩ = some (.int .i64 (ins : Int)) ∧ wr.cell? ⟨w.heap.size, 1, none⟩ = some (.slice Ag gs.length cg) ∧ wr.cell? ⟨w.heap.size, 2, none⟩ = some (.slice Ao outs.length co) ∧ wr.cell? ⟨w.heap.size, 3, none⟩ = some (.slice An next.length cn) ∧ wr.cell? ⟨w.heap.size, 4, none⟩ = some (.slice Ai init.length ci)) :=
    ⟨fun wr X => ⟨(blk_cell X.out 0).trans rfl, (blk_cell X.out 1).trans rfl, (blk_cell X.out 2).trans rfl, (blk_cell X.out 3).trans rfl, (blk_cell X.out 4).trans rfl⟩⟩
  go_enter Try.func34, Try.ntmps34
  go_upto_region 1 with (fail)
  generalize (w.alloc (Obj.cells #[.int .i64 (ins : Int), .slice Ag gs.length cg, .slice Ao outs.length co, .slice An next.length cn, .slice Ai init.length ci] 38)).alloc (Obj.cells #[.int .i64 0, .int .i64 0, .slice none 0 0] 25) = w1 at *
  obtain ⟨q0, q1, q2, q3, q4⟩ := KEEP.out w1 X1
  have CC := Aside0.mk (CCK.out w1 HB1.out)
  go_wp2_with fail
  (with_reducible refine CC.out.mono ?_)
  rintro e w2 ⟨rfl, hb2⟩
  have X2 := Aside0.mk (blk_below X1.out hb2)
  have Y2 := Aside0.mk (blk_below Y1.out hb2)
  have HB2 := Aside0.mk (HB1.out.trans (hb2.mono HB1.out.size))
  clear CC hb2 X1 Y1 HB1 q0 q1 q2 q3 q4 CCK
  obtain ⟨q0, q1, q2, q3, q4⟩ := KEEP.out w2 X2
  have hmm := @run_makeMap Try.prog
  go_upto_region 7 with (fail)
  have BO : Aside0 ((w2.alloc (Obj.cells #[Value.int .i64 (ins : Int), Value.int .i64 (outs.length : Int), Value.slice none 0 0] 25)).heap[w2.heap.size]? = some (.cells #[.int .i64 (ins : Int), .int .i64 (outs.length : Int), .slice none 0 0] 25 (0, 0))) := ⟨blk_new _ _⟩
  have hz1 : (w2.alloc (Obj.cells #[Value.int .i64 (ins : Int), Value.int .i64 (outs.length : Int), Value.slice none 0 0] 25)).heap.size = w2.heap.size + 1 := by simp
  have HBo : Aside0 (Below w2.heap.size w2 (w2.alloc (Obj.cells #[Value.int .i64 (ins : Int), Value.int .i64 (outs.length : Int), Value.slice none 0 0] 25))) := ⟨below_alloc (Below.refl _ _) _⟩
  generalize w2.alloc (Obj.cells #[Value.int .i64 (ins : Int), Value.int .i64 (outs.length : Int), Value.slice none 0 0] 25) = w3 at *
  have OM0 : Aside0 ((w3.alloc (Obj.map #[] 0)).ownsMap Try.prog 3 (plainElem (H := Unit) Try.prog 3) w3.heap.size 0 (.map [])) := ⟨World.ownsMap_made w3 _ _ _⟩
  have BO' : Aside0 ((w3.alloc (Obj.map #[] 0)).heap[w2.heap.size]? = some (.cells #[.int .i64 (ins : Int), .int .i64 (outs.length : Int), .slice none 0 0] 25 (0, 0))) := ⟨blk_alloc BO.out _⟩
  have HBo' : Aside0 (Below w2.heap.size w2 (w3.alloc (Obj.map #[] 0))) := ⟨below_alloc HBo.out _⟩
  rw [hz1] at OM0
  obtain ⟨w4, hw4⟩ : ∃ w4, w3.alloc (Obj.map #[] 0) = w4 := ⟨_, rfl⟩
  rw [hw4] at OM0 BO' HBo'
  have X4 := Aside0.mk (blk_below X2.out HBo'.out)
  have HB4 := Aside0.mk (HB2.out.trans (HBo'.out.mono HB2.out.size))
  clear q0 q1 q2 q3 q4
  obtain ⟨q0, q1, q2, q3, q4⟩ := KEEP.out w4 X4
  have SC4 := Aside0.mk (SC.out w4 HB4.out)
  have hwz : w3.heap.size = w2.heap.size + 1 := hz1
  go_wp2_with fail
  clear hw4 BO HBo hz1 hwz
  (with_reducible refine SC4.out.mono ?_)
  rintro e w5 ⟨rfl, hb5⟩
  have OM5 := Aside0.mk (PL.owns_below OM0.out OM0.out.lt hb5)
  have BO5 := Aside0.mk (blk_below BO'.out hb5)
  have HBo5 := Aside0.mk (HBo'.out.trans (hb5.mono HBo'.out.size))
  have X5 := Aside0.mk (blk_below X4.out hb5)
  have HB5 := Aside0.mk (HB4.out.trans (hb5.mono HB4.out.size))
  clear SC4 hb5 OM0 BO' HBo' X4 HB4 q0 q1 q2 q3 q4
  obtain ⟨q0, q1, q2, q3, q4⟩ := KEEP.out w5 X5
  have hkc : (Lit.int .i64 (s0 : Int)).wf = true := wf_small (by omega) (by omega)
  go_upto_region 8 with (first
    | (refine wpList_insert_own _ rfl (.tmp 30) (.tmp 32) (.const (.int .i64 0)) 80 rfl 3 3 lawI Try.underlying80 _ (w2.heap.size + 1) 0 (.map []) rfl OM5.out (by unfold maxLen; omega) (.int .i64 (s0 : Int)) (.int .i64 0) _ rfl rfl (keyOf_int_mk Try.underlying3 hkc) (.lit (.int .i64 0)) [] (plainElem_int Try.underlying3 (PL.wf_small 0 (by omega))) ?_; intro w6 hown6 hgrow6; have OM6 := Aside0.mk hown6; have HBo6 : Aside0 (Below w2.heap.size w2 w6) := ⟨HBo5.out.grown hgrow6 HBo5.out.size (fun k hk => by cases hk; omega)⟩; have BO6 : Aside0 (w6.heap[w2.heap.size]? = some (.cells #[.int .i64 (ins : Int), .int .i64 (outs.length : Int), .slice none 0 0] 25 (0, 0))) := ⟨blk_grown BO5.out hgrow6 (by simp)⟩; have X6 := Aside0.mk (blk_grown X5.out hgrow6 (by have := blk_lt X2.out; simp; omega)); clear hown6 hgrow6 q0 q1 q2 q3 q4))
  have HB6 := Aside0.mk (HB2.out.trans (HBo6.out.mono HB2.out.size))
  clear OM5 BO5 HBo5 X5 HB5
  obtain ⟨q0, q1, q2, q3, q4⟩ := KEEP.out w6 X6
  have SC6 := Aside0.mk (SC.out w6 HB6.out)
  go_wp2_with fail
  (with_reducible refine SC6.out.mono ?_)
  rintro e w7 ⟨rfl, hb7⟩
  have OM7 := Aside0.mk (PL.owns_below OM6.out OM6.out.lt hb7)
  have BO7 := Aside0.mk (blk_below BO6.out hb7)
  have HBo7 := Aside0.mk (HBo6.out.trans (hb7.mono HBo6.out.size))
  clear SC6 hb7 OM6 BO6 HBo6 X6 HB6 q0 q1 q2 q3 q4
  have HZ7 : Aside0 (w2.heap.size + 2 ≤ w7.heap.size) := ⟨by have := OM7.out.lt; omega⟩
  go_wp2_with (first
    | ((with_reducible refine gate_dst (N := 36) rfl ?_); refine Kd.R_lit (Kd.int .i64) (w0 := w7) w7.heap.size 3 ?hg (N := 36) ?hd (xs := ([(s0 : Int)] : List Int)) (inner := [.int .i64 (s0 : Int)]) (ok := fun _ => True) (okp := fun _ => True) ?hr ?hp (fun _ hk => hk) trivial (Below.refl _ _) (Nat.le_refl _) (by simp) ?_; (case hd => rfl); (case hg => rfl); (case hr => first | (go_simp; done) | (go_simp; rfl)); (case hp => exact (Reps.one (show Kd.M (Kd.int .i64) _ _ _ (s0 : Int) [.int .i64 (s0 : Int)] from rfl) (Reps.none _ _))); intro v8 w8 ho hb hg_ hnew_; have HQ8 := Aside0.mk ho; have HB8 := Aside0.mk hb; clear ho hb hg_ hnew_))
  have MI0 : Aside0 (MapIs (DataW.put (.map []) (kst s0) (.lit (.int .i64 0))) ([s0].map kst)) := ⟨MapIs.start.put (k := kst s0) (lawI.key (keyOf_int_mk Try.underlying3 hkc)) (by simp)⟩
  have I0 : Aside0 (MInv w2 w8 (ins : Int) (outs.length : Int) (.slice none 0 0) [] v8 (natsI ([s0].drop 0)) (.slice none 0 0) [] 1 (DataW.put (.map []) (kst s0) (.lit (.int .i64 0)))) := ⟨{
    hb := HBo7.out.trans (HB8.out.mono (by have := HZ7.out; omega)), blk := (HB8.out.block _ (blk_lt BO7.out)).trans BO7.out, om := PL.owns_below OM7.out OM7.out.lt HB8.out, rr := Kd.S_nil _ _ _ _ _,
    td := Kd.Q_of_R (Kd.R_lower HQ8.out HZ7.out), r9 := Kd.R_nil _ _ _ _ _ }⟩
  clear HZ7 OM7 BO7 HBo7 HB8 HQ8 hkc
  clear SC
  go_loopg [7] (N + 1) (fun kq v7 wr => ∃ (i m : Nat) (reps : List Nat) (out : Tab) (vr : Value) (D : DataW Unit), kq + i = N + 1 ∧ i ≤ reps.length ∧ m ≤ reps.length ∧ Aside0 (MInv w2 wr (ins : Int) (outs.length : Int) vr out v7 (natsI (reps.drop i)) (.slice none 0 0) [] m D) ∧ Aside0 (MapIs D (reps.map kst)) ∧ Aside0 (RchS N reps) ∧ Aside0 (out.length = i) ∧ Aside0 (tg kq i reps out = TB))
  case atStart => exact ⟨0, 1, [s0], [], _, _, by omega, by simp, by simp, I0, MI0, RS0, ⟨rfl⟩, HTB⟩
  case round =>
    obtain ⟨i, m, reps, out, vr, D, hki, hi, hm, HM, MI, RC, HL, HG⟩ := hrel
    obtain ⟨w9, rfl⟩ : ∃ w9 : World, w9 = wr := ⟨_, rfl⟩
    clear I0 MI0 RS0 HTB
    have hrl := RC.out.le
    obtain ⟨A8, q8, hv8, hq8⟩ := Kd.Q_slice HM.out.td
    have hl8 : (natsI (reps.drop i)).length = reps.length - i := by unfold natsI; rw [List.length_map, List.length_drop]
    rw [hl8] at hv8
    subst hv8
    by_cases hlt : i < reps.length
    · obtain ⟨k1, hk1⟩ : ∃ k1, gk = k1 + 1 := ⟨gk - 1, by omega⟩
      have hp : reps.getD i 0 < N := RC.out.lt _ (getD_mem' hlt)
      have PH := Aside0.mk (STEPG.out k1 i reps out hlt)
      generalize hpp : reps.getD i 0 = p at *
      have HP := Aside0.mk hpp
      clear hpp
      have X9 := Aside0.mk (blk_below X2.out HM.out.hb)
      obtain ⟨q0, q1, q2, q3, q4⟩ := KEEP.out w9 X9
      have b1 : 0 < ((reps.length - i : Nat) : Int) := by omega
      have b1n : 0 < reps.length - i := by omega
      have b1d : decide (0 < reps.length - i) = true := decide_eq_true b1n
      go_wp2_with fail
      rw [HM2.out]
      clear q0 q1 q2 q3 q4 X9
      go_loopw [7, 8, 43] (fun v7 v8 v43 wr => ∃ (j m : Nat) (reps' : List Nat) (rw' : List S77) (D : DataW Unit), j ≤ M ∧ v43 = .int .i64 (j : Int) ∧ i < reps'.length ∧ m ≤ reps'.length ∧ Aside0 (reps'.getD i 0 = p) ∧ Aside0 (MInv w2 wr (ins : Int) (outs.length : Int) vr out v7 (natsI (reps'.drop i)) v8 rw' m D) ∧ Aside0 (MapIs D (reps'.map kst)) ∧ Aside0 (RchS N reps') ∧ Aside0 (rw'.length = j) ∧ Aside0 (tr p ((List.range M).drop j) reps' rw' = tr p (List.range M) reps [])) (fun _ _ v43 _ => M - (intOf v43).toNat)
      case atStart => exact ⟨0, m, reps, [], D, by omega, rfl, hlt, hm, HP, HM, MI, RC, ⟨rfl⟩, ⟨rfl⟩⟩
      case round =>
        clear HM MI RC hm hrl hl8 hq8 HP
        obtain ⟨j, m, reps', rw', D, hj, rfl, hir, hm, HP, HM, MI, RC, HLr, HGr⟩ := hrel
        obtain ⟨w11, rfl⟩ : ∃ w11 : World, w11 = wr := ⟨_, rfl⟩
        have hrl := RC.out.le
        by_cases hjl : j < M
        · obtain ⟨A8, q8, hv8, hq8⟩ := Kd.Q_slice HM.out.td
          have hl8 : (natsI (reps'.drop i)).length = reps'.length - i := by unfold natsI; rw [List.length_map, List.length_drop]
          rw [hl8] at hv8
          subst hv8
          have hc8 := (Kd.Q_reads' HM.out.td).2.2
          obtain ⟨a8, e8, hx8⟩ := Kd.at_int hc8 0 (by omega) (by rw [hl8]; omega)
          subst e8
          have hx : w11.cell? a8 = some (.int .i64 (p : Int)) := by
            have h : w11.cell? (a8.add 0) = some (.int .i64 ((natsI (reps'.drop i)).getD 0 0)) := hx8
            rw [show a8.add 0 = a8 from add_zero0 a8] at h
            rw [h, ← HP.out]
            unfold natsI
            rw [List.drop_eq_getElem_cons hir]
            simp [List.getD_eq_getElem?_getD, List.getElem?_eq_getElem hir]
          clear hc8 hx8 hl8 hq8
          have X11 := Aside0.mk (blk_below X2.out HM.out.hb)
          have HB11 := Aside0.mk (HB2.out.trans (HM.out.hb.mono HB2.out.size))
          obtain ⟨q0, q1, q2, q3, q4⟩ := KEEP.out w11 X11
          have PB : Aside0 (p < 2 ^ 20) := ⟨Nat.lt_of_lt_of_le hp (Nat.le_trans hNle (by decide))⟩
          have JB : Aside0 (j < 2 ^ 20) := ⟨Nat.lt_of_lt_of_le hjl (Nat.le_trans hMle (by decide))⟩
          have b2n : 0 < reps'.length - i := by omega
          have b2 : 0 < ((reps'.length - i : Nat) : Int) := by omega
          go_upto_region 14 with (fail)
          refine start_ (n := 11) (S := fun w' => (w'.cell? ⟨w.heap.size, 0, none⟩ = some (.int .i64 (ins : Int)) ∧ w'.cell? ⟨w.heap.size, 1, none⟩ = some (.slice Ag gs.length cg) ∧ w'.cell? ⟨w.heap.size, 2, none⟩ = some (.slice Ao outs.length co) ∧ w'.cell? ⟨w.heap.size, 3, none⟩ = some (.slice An next.length cn) ∧ w'.cell? ⟨w.heap.size, 4, none⟩ = some (.slice Ai init.length ci)) ∧ w'.cell? a8 = some (.int .i64 (p : Int))) (ds := []) #[false, false, false, false, false, false, false, false, false, false, false] (by kernel_rfl) rfl rfl ⟨KEEP.out _ X11, hx⟩ (fun hHeld => ?_)
          have HM12 := Aside0.mk (MInv.drewN HM.out 1)
          rw [show w11.drewN 1 = w11.drew from rfl] at HM12
          have X12 := Aside0.mk (blk_drew X11.out)
          have HB12 := Aside0.mk (below_drew HB11.out)
          have CX := Aside0.mk hx
          clear HM X11 HB11 hx q0 q1 q2 q3 q4
          have CX12 : Aside0 (w11.drew.cell? a8 = some (.int .i64 (p : Int))) := ⟨CX.out⟩
          clear CX
          generalize w11.drew = w12 at *
          refine take_ (i := 0) (N := (some 47)) (v := ?_) (a' := ?_) #[true, false, false, false, false, false, false, false, false, false, false] rfl rfl (by kernel_rfl) (fun _ _ _ h => h) (Or.inl ⟨by rfl, ?_⟩) hHeld ?_ ?_
          rotate_left
          · rintro w' ⟨⟨s0, s1, s2, s3, s4⟩, s5⟩
            go_simp
            with_reducible rfl
          rotate_left
          · simp only [Act.put, List.setIfInBounds_toArray, List.set_cons_zero, List.set_cons_succ, i64_w, i32_w]
            rfl
          refine pure_ (i := 1) (N := (some 48)) (v := ?_) (a' := ?_) #[true, true, false, false, false, false, false, false, false, false, false] rfl rfl (by kernel_rfl) (fun _ _ _ h => h) (Or.inl ⟨by rfl, ?_⟩) ?_ ?_
          rotate_left
          · intro w'
            go_simp
            with_reducible rfl
          rotate_left
          · simp only [Act.put, List.setIfInBounds_toArray, List.set_cons_zero, List.set_cons_succ, i64_w, i32_w]
            rfl
          refine pure_ (i := 2) (N := (some 49)) (v := ?_) (a' := ?_) #[true, true, true, false, false, false, false, false, false, false, false] rfl rfl (by kernel_rfl) (fun _ _ _ h => h) (Or.inl ⟨by rfl, ?_⟩) ?_ ?_
          rotate_left
          · intro w'
            go_simp
            with_reducible rfl
          rotate_left
          · simp only [Act.put, List.setIfInBounds_toArray, List.set_cons_zero, List.set_cons_succ, i64_w, i32_w]
            rfl
          refine take_ (i := 3) (N := (some 50)) (v := ?_) (a' := ?_) #[true, true, true, true, false, false, false, false, false, false, false] rfl rfl (by kernel_rfl) (fun _ _ _ h => h) (Or.inl ⟨by rfl, ?_⟩) hHeld ?_ ?_
          rotate_left
          · rintro w' ⟨⟨s0, s1, s2, s3, s4⟩, s5⟩
            go_simp
            with_reducible rfl
          rotate_left
          · simp only [Act.put, List.setIfInBounds_toArray, List.set_cons_zero, List.set_cons_succ, i64_w, i32_w]
            rfl
          refine pure_ (i := 4) (N := (some 51)) (v := ?_) (a' := ?_) #[true, true, true, true, true, false, false, false, false, false, false] rfl rfl (by kernel_rfl) (fun _ _ _ h => h) (Or.inl ⟨by rfl, ?_⟩) ?_ ?_
          rotate_left
          · intro w'
            go_simp
            with_reducible rfl
          rotate_left
          · simp only [Act.put, List.setIfInBounds_toArray, List.set_cons_zero, List.set_cons_succ, i64_w, i32_w]
            rfl
          refine one_ (i := 5) (N := (some 52)) #[true, true, true, true, true, true, false, false, false, false, false] rfl rfl (by kernel_rfl) (by decide) (fun K hK => ?_)
          refine goes_ Try.func23 (by kernel_rfl) rfl #[.agg #[.int .i64 (ins : Int), .slice Ag gs.length cg, .slice Ao outs.length co, .slice An next.length cn, .slice Ai init.length ci], .int .i64 (p : Int), .int .i64 (j : Int)] (by rfl) rfl rfl (by (try simp only [List.map_toArray, List.map_cons, List.map_nil]); first | done | rfl) ?_
          refine (STP.out w12 HB12.out p j PB.out JB.out).mono ?_
          rintro e w13 ⟨rfl, hb13⟩
          refine ⟨_, rfl, ?_⟩
          have HM13 := Aside0.mk (MInv_below HM12.out hb13)
          have X13 := Aside0.mk (blk_below X12.out hb13)
          have HB13 := Aside0.mk (HB12.out.trans (hb13.mono HB12.out.size))
          have CX13 := Aside0.mk (pw_cell_below hb13 CX12.out)
          clear hb13 HM12 X12 HB12 CX12
          refine hK.out _ _ ⟨KEEP.out _ X13, CX13.out⟩ (fun hHeld => ?_)
          clear hK K
          refine norm_ (a' := ?_) ?_ ?_
          rotate_left
          · show Act.put _ (some 52) _ = _
            simp only [Act.put, List.setIfInBounds_toArray, List.set_cons_zero, List.set_cons_succ, i64_w, i32_w]
            rfl
          refine pure_ (i := 6) (N := (some 46)) (v := ?_) (a' := ?_) #[true, true, true, true, true, true, true, false, false, false, false] rfl rfl (by kernel_rfl) (fun _ _ _ h => h) (Or.inl ⟨by rfl, ?_⟩) ?_ ?_
          rotate_left
          · intro w'
            go_simp
            with_reducible rfl
          rotate_left
          · simp only [Act.put, List.setIfInBounds_toArray, List.set_cons_zero, List.set_cons_succ, i64_w, i32_w]
            rfl
          refine pure_ (i := 7) (N := (some 53)) (v := ?_) (a' := ?_) #[true, true, true, true, true, true, true, true, false, false, false] rfl rfl (by kernel_rfl) (fun _ _ _ h => h) (Or.inl ⟨by rfl, ?_⟩) ?_ ?_
          rotate_left
          · intro w'
            go_simp
            with_reducible rfl
          rotate_left
          · simp only [Act.put, List.setIfInBounds_toArray, List.set_cons_zero, List.set_cons_succ, i64_w, i32_w]
            rfl
          refine pure_ (i := 8) (N := (some 54)) (v := ?_) (a' := ?_) #[true, true, true, true, true, true, true, true, true, false, false] rfl rfl (by kernel_rfl) (fun _ _ _ h => h) (Or.inl ⟨by rfl, ?_⟩) ?_ ?_
          rotate_left
          · intro w'
            go_simp
            with_reducible rfl
          rotate_left
          · simp only [Act.put, List.setIfInBounds_toArray, List.set_cons_zero, List.set_cons_succ, i64_w, i32_w]
            rfl
          refine pure_ (i := 9) (N := (some 10)) (v := ?_) (a' := ?_) #[true, true, true, true, true, true, true, true, true, true, false] rfl rfl (by kernel_rfl) (fun _ _ _ h => h) (Or.inl ⟨by rfl, ?_⟩) ?_ ?_
          rotate_left
          · intro w'
            go_simp
            with_reducible rfl
          rotate_left
          · simp only [Act.put, List.setIfInBounds_toArray, List.set_cons_zero, List.set_cons_succ, i64_w, i32_w]
            rfl
          refine pure_ (i := 10) (N := (some 11)) (v := ?_) (a' := ?_) #[true, true, true, true, true, true, true, true, true, true, true] rfl rfl (by kernel_rfl) (fun _ _ _ h => h) (Or.inl ⟨by rfl, ?_⟩) ?_ ?_
          rotate_left
          · intro w'
            go_simp
            with_reducible rfl
          rotate_left
          · simp only [Act.put, List.setIfInBounds_toArray, List.set_cons_zero, List.set_cons_succ, i64_w, i32_w]
            rfl
          refine done_ (by kernel_rfl) ?_
          clear hHeld CX13
          have HKW : (Lit.int .i64 ((nx p j : Nat) : Int)).wf = true := wf_small (by omega) (by have := NXL.out p j; omega)
          have HKey := Aside0.mk (keyOf_int_mk (P := Try.prog) Try.underlying3 HKW)
          have HKl := Aside0.mk (lawI.key (keyOf_int_mk (P := Try.prog) Try.underlying3 HKW))
          have hnq := NXL.out p j
          have HG2 := HGr.out
          rw [range_drop hjl, TRW.out] at HG2
          have HG2 := Aside0.mk HG2
          clear HKW HGr
          generalize nx p j = q at *
          have HOU := Aside0.mk (OUL.out p j)
          generalize ou p j = o at *
          by_cases hin : idxS reps' q < reps'.length
          · have hqq := idxS_lt hin
            have hmem : (reps'.map kst)[idxS reps' q]? = some (kst q) := by
              rw [List.getElem?_map, List.getElem?_eq_getElem hin, Option.map_some]
              rw [List.getD_eq_getElem?_getD, List.getElem?_eq_getElem hin] at hqq
              have h3 : reps'[idxS reps' q] = q := hqq
              rw [h3]
            have HHas : Aside0 (Maps.has D (kst q) = true) := ⟨(MI.out.has _).2 (List.mem_of_getElem? hmem)⟩
            have HVal : Aside0 (∀ z, D.atKey (kst q) z = .lit (.int .i64 (idxS reps' q : Nat))) := ⟨MI.out.at' _ _ hmem⟩
            have hstep := HG2.out
            rw [if_pos hin] at hstep
            have HST := Aside0.mk hstep
            clear hqq hmem hstep HG2
            obtain ⟨ix, hix⟩ : ∃ ix, idxS reps' q = ix := ⟨_, rfl⟩
            rw [hix] at HVal HST hin
            clear hix
            go_wp2_with (first
              | (at_lookup; refine wpList_lookup_own_ok_int _ rfl (.tmp 56) (.tmp 57) 80 rfl 3 3 .i64 lawI Try.underlying80 Try.underlying3 (zero3 _) (w2.heap.size + 1) m D rfl HM13.out.om (.int .i64 (q : Int)) _ rfl HKey.out ?_; intro cc hat hwf; rw [show Lit.int .i64 (q : Int) = kst q from rfl, HHas.out]; have hcv : cc = ix := (by have h := hat.symm.trans (HVal.out _); simpa using h); clear hat hwf; subst hcv)
              | ((with_reducible refine gate_builtin (b := .append) (xs := #[.tmp 72, .tmp 76]) rfl ?_); at_builtin; refine Kd.R_append k77 (w0 := w13) (w2.heap.size + 2) rfl (.tmp 72) (.tmp 76) 75 77 (.agg #[.int .i64 0, .int .i64 0]) 16 rfl Try.underlying75 info77 rfl (by decide) (by omega) u8 rw' ⟨(o : Int), (ix : Int)⟩ [.int .i64 (o : Int), .int .i64 (ix : Int)] (fun _ => True) (fun _ => False) rfl ?aX ?aP (fun _ hk => hk.elim) (fun _ _ => trivial) HM13.out.r9 (Below.refl _ _) ?aS ?aL ?_; (case aX => first | rfl | (simp; done)); (case aP => first | exact rfl | exact k77_mkM _ _ _ _); (case aS => exact HM13.out.size); (case aL => have h1_ := HLr.out; first | omega | (simp; omega)); intro v20 w20 ho hb hg hat; have HR20 := Aside0.mk ho; have HG20 := Aside0.mk hg; have HA20 := Aside0.mk hat; clear ho hb hg hat))
            go_roundw
            case rel => exact ⟨j + 1, m, reps', _, D, by omega, by go_num, hir, hm, HP, ⟨HM13.out.addRow HR20.out HG20.out HA20.out⟩, MI, RC, ⟨by simp [HLr.out]⟩, HST⟩
            case measure => simp [intOf]; omega
          · have hno := idxS_not hin
            have hnm : kst q ∉ reps'.map kst := fun hmem => by
              obtain ⟨p', h1, h2⟩ := List.mem_map.1 hmem
              have h3 : p' = q := by unfold kst at h2; injection h2 with _ h2; omega
              exact hno.2 (h3 ▸ h1)
            have HHas : Aside0 (Maps.has D (kst q) = false) := ⟨by
              cases h : Maps.has D (kst q)
              · rfl
              · exact absurd ((MI.out.has _).1 h) hnm⟩
            have MI2 : Aside0 (MapIs (D.put (kst q) (.lit (.int .i64 (reps'.length : Nat)))) ((reps' ++ [q]).map kst)) := ⟨by
              have h := MI.out.put HKl.out hnm
              rw [List.length_map] at h
              rw [List.map_append]; exact h⟩
            have RC2 : Aside0 (RchS N (reps' ++ [q])) := ⟨RC.out.add hnq hno.2⟩
            have HP2 : Aside0 ((reps' ++ [q]).getD i 0 = p) := ⟨by
              rw [← HP.out, List.getD_eq_getElem?_getD, List.getElem?_append_left hir, ← List.getD_eq_getElem?_getD]⟩
            have hstep := HG2.out
            rw [if_neg hin, hno.1] at hstep
            have HST := Aside0.mk hstep
            have HWF : Aside0 ((Lit.int .i64 (reps'.length : Nat)).wf = true) := ⟨wf_small (by omega) (by omega)⟩
            have HLT : Aside0 ((natsI (reps'.drop i)).length ≤ 64) := ⟨by unfold natsI; rw [List.length_map, List.length_drop]; omega⟩
            have HDR : Aside0 (natsI ((reps' ++ [q]).drop i) = natsI (reps'.drop i) ++ [(q : Int)]) := ⟨by
              unfold natsI
              rw [List.drop_append_of_le_length (by omega), List.map_append]; rfl⟩
            clear hstep HG2 hno hnm hin
            go_wp2_with (first
              | (at_lookup; refine wpList_lookup_own_ok_int _ rfl (.tmp 56) (.tmp 57) 80 rfl 3 3 .i64 lawI Try.underlying80 Try.underlying3 (zero3 _) (w2.heap.size + 1) m D rfl HM13.out.om (.int .i64 (q : Int)) _ rfl HKey.out ?_; intro cc hat hwf; rw [show Lit.int .i64 (q : Int) = kst q from rfl, HHas.out]; clear hat hwf)
              | (at_len; first | (refine wpList_len_own _ rfl (.tmp 63) 80 rfl 3 3 Try.underlying80 _ (w2.heap.size + 1) m D rfl HM13.out.om ?_; rw [MI.out.size, List.length_map]))
              | (at_mapUpdate; refine wpList_mapUpdate_own _ rfl (.tmp 65) (.tmp 66) (.tmp 67) 80 rfl 3 3 lawI Try.underlying80 _ (w2.heap.size + 1) m D rfl HM13.out.om (by unfold maxLen; omega) (.int .i64 (q : Int)) (.int .i64 (reps'.length : Nat)) _ rfl rfl HKey.out _ [] (plainElem_int Try.underlying3 HWF.out) ?_; intro w14 hown14 hgrow14; have HM14 := Aside0.mk (HM13.out.putMap hown14 hgrow14); clear hown14 hgrow14)
              | ((with_reducible refine gate_builtin (b := .append) (xs := #[.tmp 68, .tmp 70]) rfl ?_); at_builtin; refine Kd.Q_append (Kd.int .i64) (w0 := w14) (w2.heap.size + 2) rfl (.tmp 68) (.tmp 70) 22 3 (.int .i64 0) 8 rfl Try.underlying22 info3 rfl (by decide) (by omega) (.slice (some a8) (reps'.length - i) q8) (natsI (reps'.drop i)) (q : Int) [.int .i64 (q : Int)] (fun _ => True) (fun _ => False) rfl ?aX ?aP (fun _ hk => hk.elim) (fun _ _ => trivial) HM14.out.td (Below.refl _ _) ?aS ?aL ?_; (case aX => first | rfl | (simp; done)); (case aP => first | exact rfl); (case aS => exact HM14.out.size); (case aL => have h1_ := HLT.out; first | omega | (simp; omega)); intro v15 w15 ho hb hg hat; have HM15 := Aside0.mk (HM14.out.addTodo ho hg); clear ho hb hg hat)
              | ((with_reducible refine gate_builtin (b := .append) (xs := #[.tmp 72, .tmp 76]) rfl ?_); at_builtin; refine Kd.R_append k77 (w0 := w15) (w2.heap.size + 2) rfl (.tmp 72) (.tmp 76) 75 77 (.agg #[.int .i64 0, .int .i64 0]) 16 rfl Try.underlying75 info77 rfl (by decide) (by omega) u8 rw' ⟨(o : Int), ((reps'.length : Nat) : Int)⟩ [.int .i64 (o : Int), .int .i64 ((reps'.length : Nat) : Int)] (fun _ => True) (fun _ => False) rfl ?aX ?aP (fun _ hk => hk.elim) (fun _ _ => trivial) HM15.out.r9 (Below.refl _ _) ?aS ?aL ?_; (case aX => first | rfl | (simp; done)); (case aP => first | exact rfl | exact k77_mkM _ _ _ _); (case aS => exact HM15.out.size); (case aL => have h1_ := HLr.out; first | omega | (simp; omega)); intro v20 w20 ho hb hg hat; have HR20 := Aside0.mk ho; have HG20 := Aside0.mk hg; have HA20 := Aside0.mk hat; clear ho hb hg hat))
            go_roundw
            case rel => exact ⟨j + 1, m + 1, reps' ++ [q], _, _, by omega, by go_num, by simp; omega, by simp; omega, HP2, ⟨by rw [HDR.out]; exact HM15.out.addRow HR20.out HG20.out HA20.out⟩, MI2, RC2, ⟨by simp [HLr.out]⟩, HST⟩
            case measure => simp [intOf]; omega
        · have hje : j = M := by omega
          have hg := HGr.out
          rw [hje, List.drop_eq_nil_of_le (by simp), TRN.out] at hg
          have HG3 := Aside0.mk hg
          have HLJ : Aside0 (rw'.length ≤ 16) := ⟨by have := HLr.out; omega⟩
          clear hg HGr
          have hl8 : (natsI (reps'.drop i)).length = reps'.length - i := by unfold natsI; rw [List.length_map, List.length_drop]
          obtain ⟨A9, q9, hv9, hl9, hq9⟩ := Kd.R_reads HM.out.r9
          subst hv9
          clear hl9 hq9
          obtain ⟨AR, qR, hvR⟩ := Kd.S_slice HM.out.rr
          subst hvR
          obtain ⟨g88, o88, q88, hv88, hg88, hg89, _⟩ := Kd.Q_form HM.out.td (by rw [hl8]; omega)
          rw [hl8] at hv88
          clear hg88 hg89
          subst hv88
          have hQD := Kd.Q_drop HM.out.td (k := 1) (by rw [hl8]; omega)
          have HQD := Aside0.mk hQD
          have hc2 := (blk_cell HM.out.blk 2).trans (show _ = some (.slice AR out.length qR) from rfl)
          have HT6 := Aside0.mk (Kd.R_typed HM.out.r9)
          clear hQD
          have HNX : Aside0 (tg k1 (i + 1) reps' (out ++ [rw']) = TB) := ⟨by
            have h := HG.out
            rw [hk1, PH.out, ← HG3.out] at h
            exact h⟩
          have HDR : Aside0 ((natsI (reps'.drop i)).drop 1 = natsI (reps'.drop (i + 1))) := ⟨by unfold natsI; rw [← List.map_drop, List.drop_drop]⟩
          have h64 : ¬ (64 : Int) < (reps'.length : Int) := by omega
          have h64n : ¬ 64 < reps'.length := by omega
          have h64d : decide (64 < reps'.length) = false := decide_eq_false h64n
          go_wp2_with (first
            | ((with_reducible refine gate_builtin (b := .append) (xs := #[.tmp 80, .tmp 82]) rfl ?_); at_builtin; refine Kd.S_append (Kd.slice 77 k77) (w0 := w11) (w2.heap.size + 2) rfl (.tmp 80) (.tmp 82) 23 75 (.slice none 0 0) 24 rfl Try.underlying23 info75 rfl (by decide) (by omega) (.slice AR out.length qR) out rw' [.slice A9 rw'.length q9] (fun _ => True) (fun k => some k = (Value.slice A9 rw'.length q9).ownBlock) rfl ?aX ⟨_, rfl, Kd.R_flat (fun h => h) HM.out.r9 (fun k hk _ => hk.symm)⟩ ?aO (fun _ _ => trivial) ?aR (Below.refl _ _) ?aS ?aL ?_; (case aX => first | rfl | (simp; done)); (case aO => exact (fun k hk => ⟨trivial, by obtain ⟨cells, hc⟩ := HT6.out k hk.symm; exact Kd.S_ne HM.out.rr hc (by decide)⟩)); (case aR => exact Kd.S_mono HM.out.rr (fun k hk => ⟨trivial, hk⟩)); (case aS => exact HM.out.size); (case aL => have h1_ := HL.out; omega); intro v7 w7 ho hb hg hat; obtain ⟨A7, q7, hv7⟩ := Kd.S_slice ho; rw [List.length_append, List.length_singleton] at hv7; subst hv7; have HR7 := Aside0.mk ho; have HG7 := Aside0.mk hg; have hne_ : ∀ g, g < w2.heap.size + 2 → some g ≠ (Value.slice AR out.length qR).ownBlock := (fun g hg2 e => by have := Kd.S_base HM.out.rr g e.symm; omega); have hb7 := blk_grown HM.out.blk hg (hne_ _ (by omega)); have hc7 := (blk_cell hb7 2).trans (show _ = some (.slice AR out.length qR) from rfl); have hf7 := blk_frozen hb7 2; have HMF := Aside0.mk (MInv.addState HM.out HR7.out HG7.out); clear ho hb hg hat hne_ hb7)
            | (at_len; refine wpList_len_own _ rfl (.tmp 87) 80 rfl 3 3 Try.underlying80 _ (w2.heap.size + 1) m D rfl HMF.out.om ?_; rw [MI.out.size, List.length_map]))
          all_goals
            have hQ := Kd.Q_drop HMF.out.td (k := 1) (by rw [hl8]; omega)
            rw [HDR.out] at hQ
          all_goals
            go_roundg k1
            case measure => omega
            case rel => exact ⟨i + 1, m, reps', out ++ [rw'], _, D, by omega, by omega, hm, ⟨MInv.dropTodo HMF.out (by first | (rw [if_pos (by assumption)] at hQ; exact hQ) | (rw [if_neg (by assumption)] at hQ; exact hQ) | (simpa [*] using hQ))⟩, MI, RC, ⟨by simp [HL.out]⟩, HNX⟩
    · have hout : out = TB := by
        have h := HG.out
        rw [ENDG.out _ _ _ _ hlt] at h
        exact h
      have HOUT := Aside0.mk hout
      clear hout
      obtain ⟨AR, qR, hvR⟩ := Kd.S_slice HM.out.rr
      subst hvR
      have hrb1 : w.heap.size + 1 < w2.heap.size := blk_lt Y2.out
      have hb0 : w9.heap[w.heap.size + 1]? = some (.cells #[.int .i64 0, .int .i64 0, .slice none 0 0] 25 (0, 0)) := (HM.out.hb.block _ hrb1).trans Y2.out
      have hrc0 := (blk_cell hb0 0).trans (show _ = some (.int .i64 0) from rfl)
      have hrf0 := blk_frozen hb0 0
      have hb1 : (w9.setCell ⟨w.heap.size + 1, 0, none⟩ (.int .i64 (ins : Int))).heap[w.heap.size + 1]? = some (.cells #[.int .i64 (ins : Int), .int .i64 0, .slice none 0 0] 25 (0, 0)) := blk_put hb0 0 _ rfl
      have hrc1 := (blk_cell hb1 1).trans (show _ = some (.int .i64 0) from rfl)
      have hrf1 := blk_frozen hb1 1
      have hb2 : ((w9.setCell ⟨w.heap.size + 1, 0, none⟩ (.int .i64 (ins : Int))).setCell ⟨w.heap.size + 1, 1, none⟩ (.int .i64 (outs.length : Int))).heap[w.heap.size + 1]? = some (.cells #[.int .i64 (ins : Int), .int .i64 (outs.length : Int), .slice none 0 0] 25 (0, 0)) := blk_put hb1 1 _ rfl
      have hrc2 := (blk_cell hb2 2).trans (show _ = some (.slice none 0 0) from rfl)
      have hrf2 := blk_frozen hb2 2
      have hb3 : (((w9.setCell ⟨w.heap.size + 1, 0, none⟩ (.int .i64 (ins : Int))).setCell ⟨w.heap.size + 1, 1, none⟩ (.int .i64 (outs.length : Int))).setCell ⟨w.heap.size + 1, 2, none⟩ (.slice AR out.length qR)).heap[w.heap.size + 1]? = some (.cells #[.int .i64 (ins : Int), .int .i64 (outs.length : Int), .slice AR out.length qR] 25 (0, 0)) := blk_put hb2 2 _ rfl
      have HB3 := Aside0.mk hb3
      have hl0 := (blk_cell HM.out.blk 0).trans (show _ = some (.int .i64 (ins : Int)) from rfl)
      have hl1 := (blk_cell HM.out.blk 1).trans (show _ = some (.int .i64 (outs.length : Int)) from rfl)
      have hl2 := (blk_cell HM.out.blk 2).trans (show _ = some (.slice AR out.length qR) from rfl)
      have hN : ¬ 0 < reps.length - i := by omega
      have hN2 : reps.length - i = 0 := by omega
      have hN3 : decide (0 < reps.length - i) = false := decide_eq_false hN
      clear hb0 hb1 hb2 hb3
      go_wp2_with fail

      refine bodyPost_ret (results_ct (fn := Try.f34) rfl _ _ (w.heap.size + 1) 25 #[.int .i64 (ins : Int), .int .i64 (outs.length : Int), .slice AR out.length qR] (0, 0) _ rfl HB3.out Try.underlying25 rfl (by kernel_rfl)) rfl ?_
      have hS1 : Kd.S (Kd.slice 77 k77) 75 w9 (w2.heap.size + 2) (fun _ => True) (.slice AR out.length qR) out := Kd.S_mono HM.out.rr (fun _ _ => trivial)
      have hz2 := HB2.out.size
      exact ⟨_, rfl, by rw [← HOUT.out]; exact Kd.S_lower (S_putU (p := ⟨w.heap.size + 1, 2, none⟩) (S_putU (p := ⟨w.heap.size + 1, 1, none⟩) (S_putU (p := ⟨w.heap.size + 1, 0, none⟩) hS1 (by show w.heap.size + 1 < _; omega) _) (by show w.heap.size + 1 < _; omega) _) (by show w.heap.size + 1 < _; omega) _) (by omega),
        (((HB2.out.trans (HM.out.hb.mono HB2.out.size)).setCell (by show w.heap.size ≤ w.heap.size + 1; omega) _).setCell (by show w.heap.size ≤ w.heap.size + 1; omega) _).setCell (by show w.heap.size ≤ w.heap.size + 1; omega) _⟩
end Go.Proofs.Ytaalafnkglbcpaa.SY
end

/- The contract of the function SynthBack (8): it answers true. Own text of this claim. -/
section
namespace Go.Proofs.Ytaalafnkglbcpaa.SY
open Go.RowKit Go.WideMaps Go.Maps Go.Proofs.YtaalafnkglbcpaaW.PrintWords Go.Proofs.YtaalafnkglbcpaaW.PrintLast Go.Proofs.YtaalafnkglbcpaaW.PrintMore
open Go.Proofs.Ytaalafnkglbcpaa.PL (S77 z77 k77 Tab TabR roww cel OKT chk_is minRows)
open Go.Proofs.Ytaalafnkglbcpaa.PG (S50 z50 k50 GateOk GatesOk)
set_option linter.unusedVariables false
set_option linter.unusedSimpArgs false
/-- The table of a circuit is right. -/
theorem tabOf_ok {c : Cir} (ok : c.Ok) (h4 : c.ins ≤ 4) (h6 : c.next.length ≤ 6) : OKT (c.ins : Int) (c.outs.length : Int) (tabOf c) := by
  obtain ⟨reps, r1, r2, r3, r4, r5, r6⟩ := tab_spec c ok.il
  refine TabN.okt ⟨by omega, fun s hs => ?_, fun s a hs ha => ?_⟩ h4 ok.o1 ?_
  · rw [(r5 s (by omega)).len, List.length_range]
  · obtain ⟨c1, c2, c3, c4⟩ := rowP_cel (r5 s (by omega)) ha
    refine ⟨by omega, ?_, c2, by omega⟩
    rw [c1, Int.toNat_natCast]
    have h := bitsN_lt (c.outs.map (val c.gs (reps.getD s 0) a))
    rwa [List.length_map] at h
  · have : 2 ^ c.next.length ≤ 2 ^ 6 := Nat.pow_le_pow_right (by omega) h6
    omega
set_option maxHeartbeats 8000000 in
set_option maxRecDepth 100000 in
theorem back_calls (w : World) (A0 : Option Addr) (c0 : Nat) (l0 : List Int) (hr0 : Kd.C (Kd.int .i64) w A0 l0.length l0) (hc0 : l0.length ≤ c0) :
    Calls Try.prog 8 #[.slice A0 l0.length c0] w fun e w' => e = .returned (.bool true) ∧ Below w.heap.size w w' := by
  have TC := Aside0.mk (PL.table_calls A0 c0 l0 w hr0 hc0)
  clear hr0 hc0
  go_enter Try.func8, Try.ntmps8
  go_wp2_with fail
  (with_reducible refine TC.out.mono ?_)
  rintro e w1 ⟨insI, outsI, vr, t, rfl, hv, hS, hb1⟩
  obtain ⟨I, rfl⟩ : ∃ I : Nat, insI = (I : Int) := ⟨insI.toNat, by have := hv.i0; omega⟩
  obtain ⟨O, rfl⟩ : ∃ O : Nat, outsI = (O : Int) := ⟨outsI.toNat, by have := hv.o0; omega⟩
  have OKt := Aside0.mk (PL.valid_ok hv)
  have hI : I = 1 ∨ I = 2 := by have := hv.i0; have := hv.i1; omega
  have hO0 : 1 ≤ O := by have := hv.o0; omega
  have hO : O ≤ 3 := by have := hv.o1; omega
  have h6 := hv.r1
  obtain ⟨Ar, cr, rfl, hcr, hCr⟩ := Kd.S_reads hS
  have CR := Aside0.mk hCr
  have HB1 := Aside0.mk hb1
  clear TC hv hS hb1 hCr
  have ALH := Aside0.mk (below_alloc (Below.refl w1.heap.size w1) (Obj.cells #[.int .i64 (I : Int), .int .i64 (O : Int), .slice Ar t.length cr] 25))
  have T1 := Aside0.mk (blk_new w1 (Obj.cells #[.int .i64 (I : Int), .int .i64 (O : Int), .slice Ar t.length cr] 25))
  have OC := Aside0.mk (of2_calls (w1.alloc (Obj.cells #[.int .i64 (I : Int), .int .i64 (O : Int), .slice Ar t.length cr] 25)) I O Ar cr t hI hO0 hO h6 OKt.out (Kd.C_below CR.out ALH.out) hcr)
  go_wp2_with fail
  (with_reducible refine OC.out.mono ?_)
  rintro e w2 ⟨c, Ag, Ao, An, Ai, cg, co, cn, ci, rfl, hin, hb, ok, hd, hi, ho, hn⟩
  have HB2w := Aside0.mk (ALH.out.trans (hb.mono ALH.out.size))
  have HB2 := Aside0.mk (HB1.out.trans (HB2w.out.mono HB1.out.size))
  have T2 := Aside0.mk (blk_below T1.out hb)
  have HIN := Aside0.mk hin
  have OK := Aside0.mk ok
  have MT : Aside0 (minRows t = minRows (tabOf c)) := ⟨PL.min_two OKt.out.tab (tabOf_ok ok (by omega) (by omega)).tab (does_alike ok.il OKt.out.tab (fun s hs => by rw [hi]; exact (TabN.of OKt.out).row s hs) hd)⟩
  have OKT2 := Aside0.mk (tabOf_ok ok (by omega) (by omega))
  have TBC := Aside0.mk (fun W (hb : Below w2.heap.size w2 W) => tab_calls W c Ag Ao An Ai cg co cn ci OK.out (HIN.out.below hb) (by omega) (by omega))
  rw [hi, ho] at TBC OKT2
  generalize tabOf c = T at *
  clear OC hb ALH T1 hin ok hd HIN OK
  obtain ⟨ins, gs, outs, next, init⟩ := c
  dsimp only at hi ho hn
  subst hi
  subst ho
  dsimp only [Cir.V] at TBC ⊢
  have ALH := Aside0.mk (below_alloc (Below.refl w2.heap.size w2) (Obj.cells #[.int .i64 (ins : Int), .slice Ag gs.length cg, .slice Ao outs.length co, .slice An next.length cn, .slice Ai init.length ci] 38))
  have T2' := Aside0.mk (blk_alloc T2.out (Obj.cells #[.int .i64 (ins : Int), .slice Ag gs.length cg, .slice Ao outs.length co, .slice An next.length cn, .slice Ai init.length ci] 38))
  have TB2 := Aside0.mk (TBC.out _ ALH.out)
  go_wp2_with fail
  (with_reducible refine TB2.out.mono ?_)
  rintro e w3 ⟨vT, rfl, hS, hb⟩
  have HB3w := Aside0.mk (HB2w.out.trans ((ALH.out.trans (hb.mono ALH.out.size)).mono HB2w.out.size))
  have T3 := Aside0.mk (blk_below T2'.out hb)
  obtain ⟨AT, cT, rfl, hcT, hCT⟩ := Kd.S_reads hS
  have CT := Aside0.mk hCT
  clear TB2 TBC ALH hb T2 T2' HB2w HB2 hS hCT
  have ALH := Aside0.mk (below_alloc (Below.refl w3.heap.size w3) (Obj.cells #[.int .i64 (ins : Int), .int .i64 (outs.length : Int), .slice AT T.length cT] 25))
  have T3' := Aside0.mk (blk_alloc T3.out (Obj.cells #[.int .i64 (ins : Int), .int .i64 (outs.length : Int), .slice AT T.length cT] 25))
  have U3 := Aside0.mk (blk_new w3 (Obj.cells #[.int .i64 (ins : Int), .int .i64 (outs.length : Int), .slice AT T.length cT] 25))
  have HB3a := Aside0.mk (HB3w.out.trans (ALH.out.mono HB3w.out.size))
  have CTa := Aside0.mk (Kd.C_below CT.out ALH.out)
  clear T3 CT HB3w
  obtain ⟨kt, hkt⟩ := (chk_is OKt.out).rounds
  obtain ⟨kT, hkT⟩ := (chk_is OKT2.out).rounds
  have MC1 := Aside0.mk (PL.min_calls kt Ar cr t (ins : Int) (outs.length : Int) (w3.alloc (Obj.cells #[.int .i64 (ins : Int), .int .i64 (outs.length : Int), .slice AT T.length cT] 25)) (Kd.C_below CR.out HB3a.out) hcr hkt OKt.out.tab)
  have HKT := Aside0.mk hkT
  clear hkt hkT
  have q0 : (w3.alloc (Obj.cells #[.int .i64 (ins : Int), .int .i64 (outs.length : Int), .slice AT T.length cT] 25)).cell? ⟨w1.heap.size, 0, none⟩ = some (.int .i64 (ins : Int)) := (blk_cell T3'.out 0).trans rfl
  have q1 : (w3.alloc (Obj.cells #[.int .i64 (ins : Int), .int .i64 (outs.length : Int), .slice AT T.length cT] 25)).cell? ⟨w1.heap.size, 1, none⟩ = some (.int .i64 (outs.length : Int)) := (blk_cell T3'.out 1).trans rfl
  have q2 : (w3.alloc (Obj.cells #[.int .i64 (ins : Int), .int .i64 (outs.length : Int), .slice AT T.length cT] 25)).cell? ⟨w1.heap.size, 2, none⟩ = some (.slice Ar t.length cr) := (blk_cell T3'.out 2).trans rfl
  go_wp2_with fail
  (with_reducible refine MC1.out.mono ?_)
  rintro e w4 ⟨vm, rfl, hS, hb⟩
  have U4 := Aside0.mk (blk_below U3.out hb)
  have CT4 := Aside0.mk (Kd.C_below CTa.out hb)
  have HB4 := Aside0.mk (HB3a.out.trans (hb.mono HB3a.out.size))
  obtain ⟨AM, cM, rfl, hcM, hCM⟩ := Kd.S_reads hS
  have CM := Aside0.mk hCM
  clear MC1 ALH T3' U3 CTa HB3a hb hS hCM q0 q1 q2
  have ALH := Aside0.mk (below_alloc (Below.refl w4.heap.size w4) (Obj.cells #[.int .i64 (ins : Int), .int .i64 (outs.length : Int), .slice AM (minRows t).length cM] 25))
  have M4 := Aside0.mk (blk_new w4 (Obj.cells #[.int .i64 (ins : Int), .int .i64 (outs.length : Int), .slice AM (minRows t).length cM] 25))
  have U4' := Aside0.mk (blk_alloc U4.out (Obj.cells #[.int .i64 (ins : Int), .int .i64 (outs.length : Int), .slice AM (minRows t).length cM] 25))
  have CM4 := Aside0.mk (Kd.C_below CM.out ALH.out)
  have HB4a := Aside0.mk (HB4.out.trans (ALH.out.mono HB4.out.size))
  have MC2 := Aside0.mk (PL.min_calls kT AT cT T (ins : Int) (outs.length : Int) (w4.alloc (Obj.cells #[.int .i64 (ins : Int), .int .i64 (outs.length : Int), .slice AM (minRows t).length cM] 25)) (Kd.C_below CT4.out ALH.out) hcT HKT.out OKT2.out.tab)
  have q0 : (w4.alloc (Obj.cells #[.int .i64 (ins : Int), .int .i64 (outs.length : Int), .slice AM (minRows t).length cM] 25)).cell? ⟨w3.heap.size, 0, none⟩ = some (.int .i64 (ins : Int)) := (blk_cell U4'.out 0).trans rfl
  have q1 : (w4.alloc (Obj.cells #[.int .i64 (ins : Int), .int .i64 (outs.length : Int), .slice AM (minRows t).length cM] 25)).cell? ⟨w3.heap.size, 1, none⟩ = some (.int .i64 (outs.length : Int)) := (blk_cell U4'.out 1).trans rfl
  have q2 : (w4.alloc (Obj.cells #[.int .i64 (ins : Int), .int .i64 (outs.length : Int), .slice AM (minRows t).length cM] 25)).cell? ⟨w3.heap.size, 2, none⟩ = some (.slice AT T.length cT) := (blk_cell U4'.out 2).trans rfl
  go_wp2_with fail
  (with_reducible refine MC2.out.mono ?_)
  rintro e w5 ⟨vn, rfl, hS, hb⟩
  rw [← MT.out] at hS
  have M5 := Aside0.mk (blk_below M4.out hb)
  have CM5 := Aside0.mk (Kd.C_below CM4.out hb)
  have HB5 := Aside0.mk (HB4a.out.trans (hb.mono HB4a.out.size))
  obtain ⟨AN, cN, rfl, hcN, hCN⟩ := Kd.S_reads hS
  have CN := Aside0.mk hCN
  clear MC2 ALH M4 U4 U4' CM CM4 CT4 HB4 HB4a hb hS hCN q0 q1 q2
  have ALH := Aside0.mk (below_alloc (Below.refl w5.heap.size w5) (Obj.cells #[.int .i64 (ins : Int), .int .i64 (outs.length : Int), .slice AN (minRows t).length cN] 25))
  have N5 := Aside0.mk (blk_new w5 (Obj.cells #[.int .i64 (ins : Int), .int .i64 (outs.length : Int), .slice AN (minRows t).length cN] 25))
  have M5' := Aside0.mk (blk_alloc M5.out (Obj.cells #[.int .i64 (ins : Int), .int .i64 (outs.length : Int), .slice AN (minRows t).length cN] 25))
  have HB5a := Aside0.mk (HB5.out.trans (ALH.out.mono HB5.out.size))
  have CM5' := Aside0.mk (Kd.C_below CM5.out ALH.out)
  have CN5' := Aside0.mk (Kd.C_below CN.out ALH.out)
  have BC := Aside0.mk (built_calls (w5.alloc (Obj.cells #[.int .i64 (ins : Int), .int .i64 (outs.length : Int), .slice AN (minRows t).length cN] 25)))
  clear M5 HB5 CM5 CN
  go_wp2_with fail
  (with_reducible refine BC.out.mono ?_)
  rintro e w6 ⟨rfl, hb⟩
  have M6 := Aside0.mk (blk_below M5'.out hb)
  have N6 := Aside0.mk (blk_below N5.out hb)
  have SM := Aside0.mk (PL.learn_Same.calls (ins : Int) (outs.length : Int) AM cM (minRows t) (ins : Int) (outs.length : Int) AN cN (minRows t) true w6 (Kd.C_below CM5'.out hb) hcM (Kd.C_below CN5'.out hb) hcN (by unfold PL.learn_Same.f; rw [if_pos ⟨rfl, rfl, rfl⟩]))
  have HB6 := Aside0.mk (HB5a.out.trans (hb.mono HB5a.out.size))
  clear BC ALH N5 M5' HB5a CM5' CN5' hb
  have q0 : w6.cell? ⟨w4.heap.size, 0, none⟩ = some (.int .i64 (ins : Int)) := (blk_cell M6.out 0).trans rfl
  have q1 : w6.cell? ⟨w4.heap.size, 1, none⟩ = some (.int .i64 (outs.length : Int)) := (blk_cell M6.out 1).trans rfl
  have q2 : w6.cell? ⟨w4.heap.size, 2, none⟩ = some (.slice AM (minRows t).length cM) := (blk_cell M6.out 2).trans rfl
  have p0 : w6.cell? ⟨w5.heap.size, 0, none⟩ = some (.int .i64 (ins : Int)) := (blk_cell N6.out 0).trans rfl
  have p1 : w6.cell? ⟨w5.heap.size, 1, none⟩ = some (.int .i64 (outs.length : Int)) := (blk_cell N6.out 1).trans rfl
  have p2 : w6.cell? ⟨w5.heap.size, 2, none⟩ = some (.slice AN (minRows t).length cN) := (blk_cell N6.out 2).trans rfl
  go_wp2_with fail
  (with_reducible refine SM.out.mono ?_)
  rintro e w7 ⟨rfl, hb⟩
  have HB7 := Aside0.mk ((HB1.out.trans (HB6.out.mono HB1.out.size)).trans (hb.mono (HB1.out.trans (HB6.out.mono HB1.out.size)).size))
  clear SM hb HB6 M6 N6 q0 q1 q2 p0 p1 p2
  go_wp2_with fail
  go_ret
  exact ⟨rfl, HB7.out⟩
theorem back_walk (a0 : Option Addr) (len0 cap0 : Nat) (z0 : List Int) (w : World) (w0 : (a0 = none ∧ len0 = 0 ∧ cap0 = 0 ∧ z0 = []) ∨ ∃ x, a0 = some x ∧ len0 ≤ cap0 ∧ cap0 ≤ maxLen ∧ z0.length = cap0 ∧ (∀ i, i < z0.length → w.cell? (x.add i) = some (.int .i64 (z0.getD i 0))) ∧ ∀ n ∈ z0, (Lit.int .i64 n).wf = true) :
    Calls Try.prog 8 #[.slice a0 len0 cap0] w fun e w' => e = .returned (.bool true) ∧ Below w.heap.size w w' := by
  obtain ⟨l0, rfl, hr0, hm0, hw0, hc0⟩ := ReadsInt.ofRowC w0
  exact back_calls w _ _ l0 (Kd.C_of_reads (d := (0 : Int)) (h1 := fun _ => rfl) hr0) hc0
end Go.Proofs.Ytaalafnkglbcpaa.SY
end
