/- Own texts of this claim, part E: contracts of the functions that the law reaches, and plain lemmas. -/
import Derived.Test.YtaalafnkglbcpaaETD
import Derived.WalkSpells
/- What the table of a circuit says, plain; a circuit of a table does as the table. Own text of this claim. -/
section
namespace Go.Proofs.Ytaalafnkglbcpaa.SY
open Go.RowKit Go.WideMaps Go.Maps Go.Proofs.YtaalafnkglbcpaaW.PrintWords Go.Proofs.YtaalafnkglbcpaaW.PrintLast Go.Proofs.YtaalafnkglbcpaaW.PrintMore
open Go.Proofs.Ytaalafnkglbcpaa.PL (S77 z77 k77 Tab TabR roww cel pre_getD)
set_option linter.unusedVariables false
/-- A row tells state s. -/
structure RowP (c : Cir) (reps : List Nat) (s : Nat) (xs : List Nat) (row : List S77) : Prop where
  len : row.length = xs.length
  at_ : ∀ a, a < xs.length → ∃ k : Nat, row.getD a z77 = ⟨(c.out s (xs.getD a 0) : Nat), (k : Nat)⟩ ∧ k < reps.length ∧ reps.getD k 0 = c.nxt s (xs.getD a 0)
theorem RowP.mono {c : Cir} {reps reps' : List Nat} {s : Nat} {xs : List Nat} {row : List S77} (h : RowP c reps s xs row) (hp : reps <+: reps') : RowP c reps' s xs row :=
  ⟨h.len, fun a ha => by
    obtain ⟨k, h1, h2, h3⟩ := h.at_ a ha
    exact ⟨k, h1, Nat.lt_of_lt_of_le h2 hp.length_le, by rw [pre_getD hp h2]; exact h3⟩⟩
theorem getD_app_lt {α : Type} (l m : List α) (z : α) {i : Nat} (h : i < l.length) : (l ++ m).getD i z = l.getD i z := by
  rw [List.getD_eq_getElem?_getD, List.getElem?_append_left h, ← List.getD_eq_getElem?_getD]
theorem getD_app_at {α : Type} (l : List α) (z x : α) : (l ++ [x]).getD l.length z = x := by
  rw [List.getD_eq_getElem?_getD, List.getElem?_append_right (Nat.le_refl _), Nat.sub_self]; rfl
theorem RowP.add {c : Cir} {reps : List Nat} {s x k : Nat} {xs : List Nat} {row : List S77} (h : RowP c reps s xs row) (hk : k < reps.length) (hx : reps.getD k 0 = c.nxt s x) : RowP c reps s (xs ++ [x]) (row ++ [⟨(c.out s x : Nat), (k : Nat)⟩]) :=
  ⟨by simp [h.len], fun a ha => by
    rw [List.length_append, List.length_singleton] at ha
    rcases Nat.lt_or_ge a xs.length with h1 | h1
    · rw [getD_app_lt xs _ _ h1, getD_app_lt row _ _ (by rw [h.len]; exact h1)]
      exact h.at_ a h1
    · have e : a = xs.length := by omega
      subst e
      rw [getD_app_at, ← h.len, getD_app_at]
      exact ⟨k, rfl, hk, hx⟩⟩
/-- What may be reached. -/
def Clo (c : Cir) (P : Nat → Prop) : Prop := ∀ s x, P s → x < 2 ^ c.ins → P (c.nxt s x)
theorem trow_inv (c : Cir) (s N : Nat) (hN : ∀ s x, c.nxt s x < N) : ∀ (xs reps done : List Nat) (row : List S77), RchS N reps → RowP c reps s done row →
    reps <+: (tRow c s xs reps row).1 ∧ RchS N (tRow c s xs reps row).1 ∧ RowP c (tRow c s xs reps row).1 s (done ++ xs) (tRow c s xs reps row).2 ∧ (∀ P, Clo c P → P s → (∀ x ∈ xs, x < 2 ^ c.ins) → (∀ p ∈ reps, P p) → ∀ p ∈ (tRow c s xs reps row).1, P p) := by
  intro xs
  induction xs with
  | nil => intro reps done row hr h; exact ⟨List.prefix_refl _, hr, by rw [List.append_nil]; exact h, fun P _ _ _ h => h⟩
  | cons x xs ih =>
    intro reps done row hr h
    simp only [tRow]
    by_cases hi : idxS reps (c.nxt s x) < reps.length
    · rw [if_pos hi]
      obtain ⟨a, b, d, e⟩ := ih reps (done ++ [x]) _ hr (h.add hi (idxS_lt hi))
      rw [List.append_assoc] at d
      exact ⟨a, b, d, fun P hc hs hx hp => e P hc hs (fun y hy => hx y (List.mem_cons_of_mem _ hy)) hp⟩
    · rw [if_neg hi]
      obtain ⟨h1, h2⟩ := idxS_not hi
      have hp : reps <+: reps ++ [c.nxt s x] := List.prefix_append _ _
      have h3 := (h.mono hp).add (x := x) (k := idxS reps (c.nxt s x)) (by rw [h1]; simp) (by rw [h1, getD_app_at])
      obtain ⟨a, b, d, e⟩ := ih (reps ++ [c.nxt s x]) (done ++ [x]) _ (hr.add (hN s x) h2) h3
      rw [List.append_assoc] at d
      exact ⟨hp.trans a, b, d, fun P hc hs hx hq => e P hc hs (fun y hy => hx y (List.mem_cons_of_mem _ hy)) (fun p hpm => by
        rcases List.mem_append.1 hpm with hpm | hpm
        · exact hq p hpm
        · rw [List.mem_singleton.1 hpm]; exact hc s x hs (hx x List.mem_cons_self))⟩
structure SofS (c : Cir) (N i : Nat) (reps : List Nat) (out : Tab) : Prop where
  len : out.length = i
  le : i ≤ reps.length
  rc : RchS N reps
  row : ∀ k, k < i → RowP c reps (reps.getD k 0) (List.range (2 ^ c.ins)) (out.getD k [])
theorem tgo_inv (c : Cir) (N : Nat) (hN : ∀ s x, c.nxt s x < N) : ∀ (n i : Nat) (reps : List Nat) (out : Tab), SofS c N i reps out → N < n + i →
    ∃ R, reps <+: R ∧ SofS c N R.length R (tGo c n i reps out) ∧ (∀ P, Clo c P → (∀ p ∈ reps, P p) → ∀ p ∈ R, P p) := by
  intro n
  induction n with
  | zero => intro i reps out h hn; have := h.rc.le; have := h.le; omega
  | succ n ih =>
    intro i reps out h hn
    simp only [tGo]
    by_cases hi : i < reps.length
    · rw [if_pos hi]
      obtain ⟨a, b, d, e⟩ := trow_inv c (reps.getD i 0) N hN (List.range (2 ^ c.ins)) reps [] [] h.rc ⟨rfl, fun a ha => by simp at ha⟩
      have al := a.length_le
      obtain ⟨R, r1, r2, r3⟩ := ih (i + 1) _ (out ++ [(tRow c (reps.getD i 0) (List.range (2 ^ c.ins)) reps []).2]) ⟨by simp [h.len], by omega, b, fun k hk => by
        rw [pre_getD a (by omega)]
        by_cases ek : k = i
        · subst ek
          have hl := h.len
          have h2 : (out ++ [(tRow c (reps.getD k 0) (List.range (2 ^ c.ins)) reps []).2]).getD k [] = (tRow c (reps.getD k 0) (List.range (2 ^ c.ins)) reps []).2 := by
            have := getD_app_at out [] (tRow c (reps.getD k 0) (List.range (2 ^ c.ins)) reps []).2
            rw [hl] at this; exact this
          rw [h2]; exact d
        · rw [getD_app_lt out _ _ (by rw [h.len]; omega)]
          exact (h.row k (by omega)).mono a⟩ (by omega)
      exact ⟨R, a.trans r1, r2, fun P hc hp => r3 P hc (e P hc (hp _ (getD_mem' hi)) (fun x hx => List.mem_range.1 hx) hp)⟩
    · rw [if_neg hi]
      have : i = reps.length := by have := h.le; omega
      subst this
      exact ⟨reps, List.prefix_refl _, h, fun P _ hp => hp⟩
/-- The table of a circuit: the states that are reached, and what is told of each. -/
theorem tab_spec (c : Cir) (hs : c.init.length = c.next.length) : ∃ reps : List Nat, 1 ≤ reps.length ∧ reps.length ≤ 2 ^ c.next.length ∧ reps.getD 0 0 = c.start ∧ (tabOf c).length = reps.length ∧
    (∀ k, k < reps.length → RowP c reps (reps.getD k 0) (List.range (2 ^ c.ins)) (roww (tabOf c) k)) ∧ (∀ P, Clo c P → P c.start → ∀ p ∈ reps, P p) := by
  have hN : ∀ s x, c.nxt s x < 2 ^ c.next.length := fun s x => by
    unfold Cir.nxt
    have h := bitsN_lt (c.next.map (val c.gs s x))
    rwa [List.length_map] at h
  obtain ⟨R, r1, r2, r3⟩ := tgo_inv c (2 ^ c.next.length) hN (2 ^ c.next.length + 1) 0 [c.start] [] ⟨rfl, by simp, ⟨by
    intro p hp; simp at hp; subst hp
    unfold Cir.start
    have := bitsN_lt c.init
    rwa [hs] at this, by simp⟩, fun k hk => by omega⟩ (by omega)
  have hl := r1.length_le
  simp at hl
  exact ⟨R, hl, r2.rc.le, by rw [pre_getD r1 (by simp)]; rfl, r2.len, fun k hk => r2.row k hk, fun P hc hp => r3 P hc (fun p hpm => by simp at hpm; subst hpm; exact hp)⟩
theorem rowP_cel {c : Cir} {reps : List Nat} {s k a : Nat} {T : Tab} (h : RowP c reps s (List.range (2 ^ c.ins)) (roww T k)) (ha : a < 2 ^ c.ins) :
    (cel T k a).f0 = (c.out s a : Nat) ∧ 0 ≤ (cel T k a).f1 ∧ (cel T k a).f1.toNat < reps.length ∧ reps.getD (cel T k a).f1.toNat 0 = c.nxt s a := by
  obtain ⟨j, h1, h2, h3⟩ := h.at_ a (by simpa using ha)
  rw [getD_range _ _ ha] at h1 h3
  unfold cel
  rw [h1]
  exact ⟨rfl, by simp, by simpa using h2, by simpa using h3⟩
/-- A circuit does as table t (of I inputs): from state s on, as the table from its state s. -/
structure Does (c : Cir) (t : Tab) : Prop where
  start : c.start = 0
  out : ∀ s x, s < t.length → x < 2 ^ c.ins → c.out s x = (cel t s x).f0.toNat
  nxt : ∀ s x, s < t.length → x < 2 ^ c.ins → c.nxt s x = (cel t s x).f1.toNat
theorem does_alike {c : Cir} {t : Tab} (hs : c.init.length = c.next.length) (ht : TabR t) (hl : ∀ s, s < t.length → (roww t s).length = 2 ^ c.ins) (h : Does c t) : PL.Alike t (tabOf c) 0 0 := by
  obtain ⟨reps, r1, r2, r3, r4, r5, r6⟩ := tab_spec c hs
  have hlt : ∀ p ∈ reps, p < t.length := r6 (fun p => p < t.length) (fun s x hp hx => by
    rw [h.nxt s x hp hx]
    have := ht.cel hp (a := x) (by rw [hl s hp]; exact hx)
    omega) (by rw [h.start]; exact ht.n1)
  refine ⟨fun x y => y < reps.length ∧ reps.getD y 0 = x, ⟨by omega, by rw [r3, h.start]⟩, ?_⟩
  rintro x y ⟨hy, rfl⟩
  have hx := hlt _ (getD_mem' hy)
  have hr := r5 y hy
  refine ⟨by rw [hl _ hx, hr.len, List.length_range], fun a ha => ?_⟩
  rw [hl _ hx] at ha
  obtain ⟨c1, c2, c3, c4⟩ := rowP_cel hr ha
  have hc := ht.cel hx (a := a) (by rw [hl _ hx]; exact ha)
  refine ⟨?_, c3, ?_⟩
  · rw [c1, h.out _ _ hx ha]; omega
  · rw [c4, h.nxt _ _ hx ha]
end Go.Proofs.Ytaalafnkglbcpaa.SY
end

/- own text -/
section
namespace Go.Proofs.Ytaalafnkglbcpaa.PL
open Go.RowKit Go.Proofs.YtaalafnkglbcpaaW.PrintWords Go.Proofs.YtaalafnkglbcpaaW.PrintLast Go.Proofs.YtaalafnkglbcpaaW.PrintMore
attribute [local go_sem] max2_int min2_int max_two min_two max_three min_three max_four min_four   -- for this text's walks alone
set_option linter.unusedVariables false
set_option linter.unusedSimpArgs false

/-! ### bakemake_Below: function 12 -/
def bakemake_Below.f (a0 : Int) (a1 : Int) : Option (Int) := if a1 = 0 then (none) else (if (Int.tmod a0 a1) < 0 then (some (wrap64 ((Int.tmod a0 a1) + a1))) else (some (Int.tmod a0 a1)))
set_option maxHeartbeats 8000000 in
set_option maxRecDepth 100000 in
theorem bakemake_Below.calls (a0 : Int) (a1 : Int) (r : Int) (w : World) (h : bakemake_Below.f a0 a1 = some r) :
    Calls Try.prog 12 #[.int .i64 a0, .int .i64 a1] w fun e w' => e = .returned (.int .i64 r) ∧ Drawn0 w w' := by
  have H : (if a1 = 0 then (none) else (if (Int.tmod a0 a1) < 0 then (some (wrap64 ((Int.tmod a0 a1) + a1))) else (some (Int.tmod a0 a1)))) = some r := h
  clear h
  by_cases c3 : a1 = 0
  · rw [if_pos c3] at H
    exact absurd H (by simp)
  · rw [if_neg c3] at H
    have c3b0 : (a1 == 0) = false := beq_eq_false_iff_ne.mpr c3
    have c3b1 : (a1 != 0) = true := bne_iff_ne.mpr c3
    by_cases c4 : (Int.tmod a0 a1) < 0
    · rw [if_pos c4] at H
      have c4b0 : decide ((Int.tmod a0 a1) < 0) = true := decide_eq_true c4
      clear c4
      obtain rfl := Option.some.inj H
      go_enter Try.func12, Try.ntmps12
      go_wp2
      go_ret
      exact ⟨by first | rfl | (simp; done) | (simp [*]; done), by repeat (first | exact Drawn0.refl _ | apply Drawn0.step)⟩
    · rw [if_neg c4] at H
      have c4b0 : decide ((Int.tmod a0 a1) < 0) = false := decide_eq_false c4
      clear c4
      obtain rfl := Option.some.inj H
      go_enter Try.func12, Try.ntmps12
      go_wp2
      go_ret
      exact ⟨by first | rfl | (simp; done) | (simp [*]; done), by repeat (first | exact Drawn0.refl _ | apply Drawn0.step)⟩

end Go.Proofs.Ytaalafnkglbcpaa.PL
end

/- learn.Min, walked by hand. -/
section
namespace Go.Proofs.Ytaalafnkglbcpaa.PL
open Go.RowKit Go.WideMaps Go.Maps Go.Proofs.YtaalafnkglbcpaaW.PrintWords Go.Proofs.YtaalafnkglbcpaaW.PrintLast Go.Proofs.YtaalafnkglbcpaaW.PrintMore
set_option linter.unusedVariables false

theorem add_zero' (a : Addr) : a.add 0 = a := by unfold Addr.add; split <;> simp_all
def kapp (c : List Int) (p : Nat) : Lit := .int .i64 (cl c p)
def ints (l : List Nat) : List Int := l.map Int.ofNat

set_option maxRecDepth 100000 in
set_option maxHeartbeats 8000000 in
theorem min_calls (k : Nat) (A0 : Option Addr) (c0 : Nat) (t : Tab) (ins outs : Int) (w : World) (hr0 : Kd.C (Kd.slice 77 k77) w A0 t.length t) (hc0 : t.length ≤ c0) (hk : learn_Check.f k ins outs t = some 0) (ht : TabR t) :
    Calls Try.prog 13 #[.agg #[.int .i64 ins, .int .i64 outs, .slice A0 t.length c0]] w fun e w' => ∃ v : Value, e = .returned (.tuple #[.agg #[.int .i64 ins, .int .i64 outs, v], .int .i64 0]) ∧ Kd.S (Kd.slice 77 k77) 75 w' w.heap.size (fun _ => True) v (minRows t) ∧ Below w.heap.size w w' := by
  have HR0 := Aside0.mk hr0
  have HC0 := Aside0.mk hc0
  have HT := Aside0.mk ht
  have HK := Aside0.mk hk
  have n1 := ht.n1
  have n2 := ht.n2
  clear hr0 hc0 ht hk
  have HB := Aside0.mk (Below.refl w.heap.size w)
  go_enter Try.func13, Try.ntmps13
  go_upto_region 1 with (first
    | ((with_reducible refine gate_dst (N := 1) rfl ?_); refine box_event ?hg (N := 1) ?hd (cs := #[.int .i64 ins, .int .i64 outs, .slice A0 t.length c0]) (t := 25) ?hr ?_; (case hd => rfl); (case hg => rfl); (case hr => first | (go_simp; done) | (go_simp; rfl)); intro gb hg w3 hbox hb; have n0_ := Aside0.mk (below_step HB.out hb); have BK := Aside0.mk hbox; have GE := Aside0.mk ((by rw [hg]; exact Nat.le_refl _) : w.heap.size ≤ gb); have GL := Aside0.mk (blk_lt hbox); clear HB; have HB := n0_; clear n0_; clear hb hbox hg)
    | fail)
  have hz0 : w3.heap.size < (w3.alloc (Obj.cells #[Value.int .i64 0, Value.int .i64 0, Value.slice none 0 0] 25)).heap.size := by simp
  have RB : Aside0 ((w3.alloc (Obj.cells #[Value.int .i64 0, Value.int .i64 0, Value.slice none 0 0] 25)).heap[w3.heap.size]? = some (.cells #[.int .i64 0, .int .i64 0, .slice none 0 0] 25 (0, 0))) := ⟨blk_new _ _⟩
  have BK1 : Aside0 ((w3.alloc (Obj.cells #[Value.int .i64 0, Value.int .i64 0, Value.slice none 0 0] 25)).heap[gb]? = some (.cells #[.int .i64 ins, .int .i64 outs, .slice A0 t.length c0] 25 (0, 0))) := ⟨blk_alloc BK.out _⟩
  have HB1 : Aside0 (Below w.heap.size w (w3.alloc (Obj.cells #[Value.int .i64 0, Value.int .i64 0, Value.slice none 0 0] 25))) := ⟨below_alloc HB.out _⟩
  have hgr : gb < w3.heap.size := GL.out
  have RL : Aside0 (w.heap.size ≤ w3.heap.size) := ⟨HB.out.size⟩
  obtain ⟨rb, hrb⟩ : ∃ rb, w3.heap.size = rb := ⟨_, rfl⟩
  rw [hrb] at RB hz0 hgr RL ⊢
  generalize w3.alloc (Obj.cells #[Value.int .i64 0, Value.int .i64 0, Value.slice none 0 0] 25) = w4 at *
  clear hrb BK HB GL
  have hcz0 : w4.cell? ⟨gb, 0, none⟩ = some (.int .i64 ins) := (blk_cell BK1.out 0).trans rfl
  have hcz1 : w4.cell? ⟨gb, 1, none⟩ = some (.int .i64 outs) := (blk_cell BK1.out 1).trans rfl
  have hcz2 : w4.cell? ⟨gb, 2, none⟩ = some (.slice A0 t.length c0) := (blk_cell BK1.out 2).trans rfl
  go_wp2_with fail
  (with_reducible refine (learn_Check.calls k ins outs A0 c0 t 0 w4 (Kd.C_below HR0.out HB1.out) HC0.out HK.out).mono ?_)
  rintro e w5 ⟨rfl, hb5⟩
  have HB5 : Aside0 (Below w.heap.size w w5) := ⟨HB1.out.trans (hb5.mono HB1.out.size)⟩
  have RB5 : Aside0 (w5.heap[rb]? = some (.cells #[.int .i64 0, .int .i64 0, .slice none 0 0] 25 (0, 0))) := ⟨(hb5.block rb hz0).trans RB.out⟩
  have BK5 : Aside0 (w5.heap[gb]? = some (.cells #[.int .i64 ins, .int .i64 outs, .slice A0 t.length c0] 25 (0, 0))) := ⟨(hb5.block gb (by omega)).trans BK1.out⟩
  clear hcz0 hcz1 hcz2 hb5 HB1 RB BK1 hz0
  have hcz0 : w5.cell? ⟨gb, 0, none⟩ = some (.int .i64 ins) := (blk_cell BK5.out 0).trans rfl
  have hcz1 : w5.cell? ⟨gb, 1, none⟩ = some (.int .i64 outs) := (blk_cell BK5.out 1).trans rfl
  have hcz2 : w5.cell? ⟨gb, 2, none⟩ = some (.slice A0 t.length c0) := (blk_cell BK5.out 2).trans rfl
  go_wp2_with fail
  (with_reducible refine (classes_calls A0 c0 t ins outs w5 (Kd.C_below HR0.out HB5.out) HC0.out HT.out).mono ?_)
  rintro e w1 ⟨v5, c, rfl, hr5, hb6, hcl, hcr, hci⟩
  have hz0 := blk_lt RB5.out
  have HB6 : Aside0 (Below w.heap.size w w1) := ⟨HB5.out.trans (hb6.mono HB5.out.size)⟩
  have RB6 : Aside0 (w1.heap[rb]? = some (.cells #[.int .i64 0, .int .i64 0, .slice none 0 0] 25 (0, 0))) := ⟨(hb6.block rb hz0).trans RB5.out⟩
  have BK6 : Aside0 (w1.heap[gb]? = some (.cells #[.int .i64 ins, .int .i64 outs, .slice A0 t.length c0] 25 (0, 0))) := ⟨(hb6.block gb (by omega)).trans BK5.out⟩
  clear hcz0 hcz1 hcz2 hb6 HB5 RB5 BK5 hz0
  obtain ⟨A5, q5, hv5, hl5, hq5⟩ := Kd.R_reads hr5
  rw [hcl] at hv5
  subst hv5
  have H5 := Aside0.mk hq5
  have HCR := Aside0.mk hcr
  have HCI := Aside0.mk hci
  clear hr5 hq5 hl5 hcr hci
  have hcz0 : w1.cell? ⟨gb, 0, none⟩ = some (.int .i64 ins) := (blk_cell BK6.out 0).trans rfl
  have hcz1 : w1.cell? ⟨gb, 1, none⟩ = some (.int .i64 outs) := (blk_cell BK6.out 1).trans rfl
  have hmm := @run_makeMap Try.prog
  go_upto_region 6 with fail
  have hz1 : (w1.alloc (Obj.cells #[Value.int .i64 ins, Value.int .i64 outs, Value.slice none 0 0] 25)).heap.size = w1.heap.size + 1 := by simp
  have BO : Aside0 ((w1.alloc (Obj.cells #[Value.int .i64 ins, Value.int .i64 outs, Value.slice none 0 0] 25)).heap[w1.heap.size]? = some (.cells #[.int .i64 ins, .int .i64 outs, .slice none 0 0] 25 (0, 0))) := ⟨blk_new _ _⟩
  have HBo : Aside0 (Below w1.heap.size w1 (w1.alloc (Obj.cells #[Value.int .i64 ins, Value.int .i64 outs, Value.slice none 0 0] 25))) := ⟨below_alloc (Below.refl _ _) _⟩
  generalize w1.alloc (Obj.cells #[Value.int .i64 ins, Value.int .i64 outs, Value.slice none 0 0] 25) = w6 at *
  clear hcz0 hcz1
  obtain ⟨a5, e5, hy5⟩ := Kd.at_int (Kd.C_below H5.out HBo.out) 0 (by omega) (by omega)
  subst e5
  have hy : w6.cell? a5 = some (.int .i64 (cl c 0)) := by
    have h : w6.cell? (a5.add 0) = some (.int .i64 (cl c 0)) := hy5
    rwa [show a5.add 0 = a5 from add_zero' a5] at h
  have hy' : (w6.alloc (Obj.map #[] 0)).cell? a5 = some (.int .i64 (cl c 0)) := (World.cell?_alloc_lt _ _ _ (World.block_lt_of_cell? _ _ hy)).trans hy
  clear hy hy5
  have hc0 := HCR.out 0 n1
  have OM0 : Aside0 ((w6.alloc (Obj.map #[] 0)).ownsMap Try.prog 3 (plainElem (H := Unit) Try.prog 3) w6.heap.size 0 (.map [])) := ⟨World.ownsMap_made w6 _ _ _⟩
  have BO' : Aside0 ((w6.alloc (Obj.map #[] 0)).heap[w1.heap.size]? = some (.cells #[.int .i64 ins, .int .i64 outs, .slice none 0 0] 25 (0, 0))) := ⟨blk_alloc BO.out _⟩
  have HBo' : Aside0 (Below w1.heap.size w1 (w6.alloc (Obj.map #[] 0))) := ⟨below_alloc HBo.out _⟩
  rw [hz1] at OM0
  have hz1' : (w6.alloc (Obj.map #[] 0)).heap.size = w1.heap.size + 2 := by simp; omega
  have HWF := fun (n : Nat) (h : n ≤ 1000) => wf_small n h
  have hkc : (Lit.int .i64 (cl c 0)).wf = true := by
    have h := wf_small (cl c 0).toNat (by omega)
    rwa [Int.toNat_of_nonneg hc0.1] at h
  go_wp2_with (first
    | (refine wpList_insert_own _ rfl (.tmp 27) (.tmp 30) (.const (.int .i64 0)) 80 rfl 3 3 lawI Try.underlying80 _ (w1.heap.size + 1) 0 (.map []) (by rw [← hz1]; rfl) OM0.out (by unfold maxLen; omega) (.int .i64 (cl c 0)) (.int .i64 0) _ rfl rfl (keyOf_int_mk Try.underlying3 hkc) (.lit (.int .i64 0)) [] (plainElem_int Try.underlying3 (wf_small 0 (by omega))) ?_; intro w7 hown7 hgrow7; have OM7 := Aside0.mk hown7; have HB7 : Aside0 (Below w1.heap.size w1 w7) := ⟨HBo'.out.grown hgrow7 HBo'.out.size (fun k hk => by cases hk; omega)⟩; have BO7 : Aside0 (w7.heap[w1.heap.size]? = some (.cells #[.int .i64 ins, .int .i64 outs, .slice none 0 0] 25 (0, 0))) := ⟨blk_grown BO'.out hgrow7 (by simp)⟩; clear hown7 hgrow7 hy')
    | ((with_reducible refine gate_dst (N := 32) rfl ?_); refine Kd.R_lit (Kd.int .i64) (w0 := w7) w7.heap.size 3 ?hg (N := 32) ?hd (xs := ([0] : List Int)) (inner := [.int .i64 0]) (ok := fun _ => True) (okp := fun _ => True) ?hr ?hp (fun _ hk => hk) trivial (Below.refl _ _) (Nat.le_refl _) (by simp) ?_; (case hd => rfl); (case hg => rfl); (case hr => first | (go_simp; done) | (go_simp; rfl)); (case hp => exact (Reps.one (show Kd.M (Kd.int .i64) _ _ _ 0 [.int .i64 0] from rfl) (Reps.none _ _))); intro v8 w8 ho hb hg_ hnew_; have HQ8 := Aside0.mk ho; have HB8 := Aside0.mk hb; clear ho hb hg_ hnew_))
  have HZ7 : Aside0 (w1.heap.size + 2 ≤ w7.heap.size) := ⟨by have := OM7.out.lt; omega⟩
  have MI0 : Aside0 (MapIs (DataW.put (.map []) (kapp c 0) (.lit (.int .i64 0))) ([0].map (kapp c))) := ⟨MapIs.start.put (k := kapp c 0) (lawI.key (keyOf_int_mk Try.underlying3 hkc)) (by simp)⟩
  have I0 : Aside0 (MInv w1 w8 ins outs (.slice none 0 0) [] v8 (ints ([0].drop 0)) (.slice none 0 0) [] 1 (DataW.put (.map []) (kapp c 0) (.lit (.int .i64 0)))) := ⟨{
    hb := HB7.out.trans (HB8.out.mono (by have := HZ7.out; omega)), blk := (HB8.out.block _ (blk_lt BO7.out)).trans BO7.out, om := owns_below OM7.out OM7.out.lt HB8.out, rr := Kd.S_nil _ _ _ _ _,
    td := Kd.Q_of_R (Kd.R_lower HQ8.out HZ7.out), r9 := Kd.R_nil _ _ _ _ _ }⟩
  have RC0 : Aside0 (Rchd t [0]) := ⟨Rchd.one n1⟩
  (try rw [hz1])
  clear HZ7 OM7 BO7 HB7 HB8 HQ8 OM0 BO BO' HBo HBo' hz1 hz1' HWF hkc hc0
  go_loopg [8] (t.length + 1) (fun kq v8 wr => ∃ (i m : Nat) (reps : List Nat) (out : Tab) (vr : Value) (D : DataW Unit), kq + i = t.length + 1 ∧ i ≤ reps.length ∧ m ≤ reps.length ∧ Aside0 (MInv w1 wr ins outs vr out v8 (ints (reps.drop i)) (.slice none 0 0) [] m D) ∧ Aside0 (MapIs D (reps.map (kapp c))) ∧ Aside0 (Rchd t reps) ∧ Aside0 (out.length = i) ∧ Aside0 (minGo t kq i reps out = minRows t))
  case atStart => exact ⟨0, 1, [0], [], _, _, by omega, by simp, by simp, I0, MI0, RC0, ⟨rfl⟩, ⟨rfl⟩⟩
  case round =>
    obtain ⟨i, m, reps, out, vr, D, hki, hi, hm, HM, MI, RC, HL, HG⟩ := hrel
    obtain ⟨w9, rfl⟩ : ∃ w9 : World, w9 = wr := ⟨_, rfl⟩
    clear I0 MI0 RC0
    have hrl := RC.out.le
    obtain ⟨A8, q8, hv8, hq8⟩ := Kd.Q_slice HM.out.td
    have hl8 : (ints (reps.drop i)).length = reps.length - i := by unfold ints; rw [List.length_map, List.length_drop]
    rw [hl8] at hv8
    subst hv8
    by_cases hlt : i < reps.length
    · have hp : reps.getD i 0 < t.length := RC.out.lt _ (by rw [List.getD_eq_getElem?_getD, List.getElem?_eq_getElem hlt]; exact List.getElem_mem _)
      have hc8 := (Kd.Q_reads' HM.out.td).2.2
      obtain ⟨a8, e8, hx8⟩ := Kd.at_int hc8 0 (by omega) (by rw [hl8]; omega)
      subst e8
      have hx : w9.cell? a8 = some (.int .i64 (reps.getD i 0 : Nat)) := by
        have h : w9.cell? (a8.add 0) = some (.int .i64 ((ints (reps.drop i)).getD 0 0)) := hx8
        rw [show a8.add 0 = a8 from add_zero' a8] at h
        rw [h]
        unfold ints
        rw [List.drop_eq_getElem_cons hlt]
        simp [List.getD_eq_getElem?_getD, List.getElem?_eq_getElem hlt]
      have hbk : w9.cell? ⟨gb, 2, none⟩ = some (.slice A0 t.length c0) := (HM.out.hb.cell (p := ⟨gb, 2, none⟩) (by show gb < _; have := blk_lt BK6.out; omega)).trans ((blk_cell BK6.out 2).trans rfl)
      have HM9 := HM
      clear hc8 hx8 HM
      generalize hpp : reps.getD i 0 = p at *
      have HP := Aside0.mk hpp
      obtain ⟨k1, hk1⟩ : ∃ k1, gk = k1 + 1 := ⟨gk - 1, by omega⟩
      clear hpp
      obtain ⟨ad, A1, c1, e1, hx1w, hl1, hi1⟩ := at_L2 HR0.out (p : Int) (by omega) (by omega)
      subst e1
      have hrow : rd_L2 t (p : Int) = roww t p := rfl
      rw [Int.toNat_natCast, hrow] at hx1w
      rw [hrow] at hl1 hi1
      have hx1 : w9.cell? (ad.add p) = some (.slice A1 (roww t p).length c1) := (HM9.out.hb.cell (p := ad.add p) (Nat.lt_of_lt_of_le (World.block_lt_of_cell? w _ hx1w) HB6.out.size)).trans ((HB6.out.cell (p := ad.add p) (World.block_lt_of_cell? w _ hx1w)).trans hx1w)
      clear hx1w
      have hlr := HT.out.len_le hp
      have HI1 := Aside0.mk hi1
      clear hrow hi1
      have b1 : 0 < ((reps.length - i : Nat) : Int) := by omega
      have b1n : 0 < reps.length - i := by omega
      have b1d : decide (0 < reps.length - i) = true := decide_eq_true b1n
      go_wp2_with fail
      go_quiet (fail)
      have HM10 : Aside0 (MInv w1 (w9.drewN nq) ins outs vr out (.slice (some a8) (reps.length - i) q8) (ints (reps.drop i)) (.slice none 0 0) [] m D) := ⟨HM9.out.drewN nq⟩
      clear HM9 hx1 hbk hx
      go_wp2_with fail
      generalize w9.drewN nq = w10 at *
      generalize hrw : roww t p = row at *
      have HRW := Aside0.mk hrw
      clear hrw
      have HRT : Aside0 (∀ (W : World), Below w1.heap.size w1 W → Kd.C k77 W A1 row.length row) := ⟨fun W hW => Kd.C_below (Kd.C_below HI1.out HB6.out) hW⟩
      go_loopw [8, 9, 44] (fun v8 v9 v44 wr => ∃ (j m : Nat) (reps' : List Nat) (rw' : List S77) (D : DataW Unit), j ≤ row.length ∧ v44 = .int .i64 j ∧ i < reps'.length ∧ m ≤ reps'.length ∧ Aside0 (MInv w1 wr ins outs vr out v8 (ints (reps'.drop i)) v9 rw' m D) ∧ Aside0 (MapIs D (reps'.map (kapp c))) ∧ Aside0 (Rchd t reps') ∧ Aside0 (rw'.length = j) ∧ Aside0 (minRow t (row.drop j) reps' rw' = minRow t row reps [])) (fun _ _ v44 _ => row.length - (intOf v44).toNat)
      case atStart => exact ⟨0, m, reps, [], D, by omega, rfl, hlt, hm, HM10, MI, RC, ⟨rfl⟩, ⟨rfl⟩⟩
      case round =>
        clear HM10 MI RC hm hrl hl8
        obtain ⟨j, m, reps', rw', D, hj, rfl, hir, hm, HM, MI, RC, HLr, HGr⟩ := hrel
        obtain ⟨w11, rfl⟩ : ∃ w11 : World, w11 = wr := ⟨_, rfl⟩
        by_cases hjl : j < row.length
        · obtain ⟨ad2, e2, g0, g1⟩ := at_T77 (HRT.out w11 HM.out.hb) (j : Int) (by omega) (by omega)
          subst e2
          rw [Int.toNat_natCast] at g0 g1
          have hrd : rd_T77 row (j : Int) = cel t p j := by rw [← HRW.out]; rfl
          rw [hrd] at g0 g1
          have hcel := HT.out.cel hp (a := j) (by rw [HRW.out]; exact hjl)
          have hdr : row.drop j = cel t p j :: row.drop (j + 1) := by
            rw [List.drop_eq_getElem_cons hjl, ← hrd]
            simp [rd_T77, List.getD_eq_getElem?_getD, List.getElem?_eq_getElem hjl]
          have hg := HGr.out
          rw [hdr] at hg
          have HG2 := Aside0.mk hg
          clear hrd hdr hg HGr
          generalize cel t p j = r at *
          obtain ⟨f0, f1⟩ := r
          dsimp only at hcel g0 g1
          have HCE := Aside0.mk hcel
          have h10 := hcel.2.2.1
          have h11 := hcel.2.2.2
          clear hcel
          go_upto_region 13 with fail
          have HM12 : Aside0 (MInv w1 (w11.alloc (Obj.cells #[Value.int .i64 f0, Value.int .i64 f1] 77)) ins outs vr out u8 (ints (reps'.drop i)) u9 rw' m D) := ⟨HM.out.alloc _⟩
          have BT : Aside0 ((w11.alloc (Obj.cells #[Value.int .i64 f0, Value.int .i64 f1] 77)).heap[w11.heap.size]? = some (.cells #[.int .i64 f0, .int .i64 f1] 77 (0, 0))) := ⟨blk_new _ _⟩
          have TL : Aside0 (w1.heap.size + 2 ≤ w11.heap.size) := ⟨HM.out.size⟩
          have TN8 : Aside0 (some w11.heap.size ≠ u8.ownBlock) := ⟨fun e => by have := Kd.Q_lt HM.out.td _ e.symm; omega⟩
          have TN9 : Aside0 (some w11.heap.size ≠ u9.ownBlock) := ⟨fun e => by have := Kd.R_lt HM.out.r9 _ e.symm; omega⟩
          clear HM g0 g1
          generalize w11.alloc (Obj.cells #[Value.int .i64 f0, Value.int .i64 f1] 77) = w12 at *
          obtain ⟨tb, htb⟩ : ∃ tb, w11.heap.size = tb := ⟨_, rfl⟩
          rw [htb] at BT TL TN8 TN9 ⊢
          clear htb
          obtain ⟨a55, e55, hy55⟩ := Kd.at_int (Kd.C_below H5.out HM12.out.hb) f1 (by omega) (by omega)
          obtain rfl : a5 = a55 := by injection e55
          have hy : w12.cell? (a5.add f1.toNat) = some (.int .i64 (cl c f1.toNat)) := hy55
          have A5L : Aside0 (a5.block < w1.heap.size) := ⟨Kd.C_lt H5.out (by omega) (by decide)⟩
          have hq0 : w12.cell? ⟨tb, 0, none⟩ = some (.int .i64 f0) := (blk_cell BT.out 0).trans rfl
          have hq1 : w12.cell? ⟨tb, 1, none⟩ = some (.int .i64 f1) := (blk_cell BT.out 1).trans rfl
          have hcrr := HCR.out f1.toNat (by omega)
          have hwk : (Lit.int .i64 (cl c f1.toNat)).wf = true := by
            have h := wf_small (cl c f1.toNat).toNat (by omega)
            rwa [Int.toNat_of_nonneg hcrr.1] at h
          have HKey := Aside0.mk (keyOf_int_mk (P := Try.prog) Try.underlying3 hwk)
          have HKl := Aside0.mk (lawI.key (keyOf_int_mk (P := Try.prog) Try.underlying3 hwk))
          have hrl := RC.out.le
          clear e55 hy55 hwk hcrr
          by_cases hin : idxB t reps' f1.toNat < reps'.length
          · have hbis := idxB_lt hin
            have hmem : (reps'.map (kapp c))[idxB t reps' f1.toNat]? = some (kapp c f1.toNat) := by
              have h2 : reps'.getD (idxB t reps' f1.toNat) 0 = reps'[idxB t reps' f1.toNat] := by rw [List.getD_eq_getElem?_getD, List.getElem?_eq_getElem hin]; rfl
              rw [List.getElem?_map, List.getElem?_eq_getElem hin, Option.map_some, ← h2]
              unfold kapp
              rw [(HCI.out _ _ (by rw [h2]; exact RC.out.lt _ (List.getElem_mem hin)) (by omega)).2 hbis]
            have HHas : Aside0 (Maps.has D (kapp c f1.toNat) = true) := ⟨(MI.out.has _).2 (List.mem_of_getElem? hmem)⟩
            have HVal : Aside0 (∀ z, D.atKey (kapp c f1.toNat) z = .lit (.int .i64 (idxB t reps' f1.toNat : Nat))) := ⟨MI.out.at' _ _ hmem⟩
            have hstep := HG2.out
            simp only [minRow, if_pos hin] at hstep
            have HST := Aside0.mk hstep
            clear hbis hmem hstep HG2
            obtain ⟨ix, hix⟩ : ∃ ix, idxB t reps' f1.toNat = ix := ⟨_, rfl⟩
            rw [hix] at HVal HST hin
            clear hix
            go_wp2_with (first
              | (at_lookup; refine wpList_lookup_own_ok_int _ rfl (.tmp 49) (.tmp 54) 80 rfl 3 3 .i64 lawI Try.underlying80 Try.underlying3 (zero3 _) (w1.heap.size + 1) m D rfl HM12.out.om (.int .i64 (cl c f1.toNat)) _ rfl HKey.out ?_; intro cc hat hwf; rw [show Lit.int .i64 (cl c f1.toNat) = kapp c f1.toNat from rfl, HHas.out]; have hcv : cc = ix := (by have h := hat.symm.trans (HVal.out _); simpa using h); clear hat hwf; subst hcv)
              | ((with_reducible refine gate_builtin (b := .append) (xs := #[.tmp 74, .tmp 79]) rfl ?_); at_builtin; refine Kd.R_append k77 (w0 := w12) (w1.heap.size + 2) rfl (.tmp 74) (.tmp 79) 75 77 (.agg #[.int .i64 0, .int .i64 0]) 16 rfl Try.underlying75 info77 rfl (by decide) (by omega) u9 rw' ⟨f0, (ix : Int)⟩ [.int .i64 f0, .int .i64 (ix : Int)] (fun _ => True) (fun _ => False) rfl ?aX ?aP (fun _ hk => hk.elim) (fun _ _ => trivial) HM12.out.r9 (Below.refl _ _) ?aS ?aL ?_; (case aX => first | rfl | (simp; done)); (case aP => first | exact rfl | exact k77_mkM _ _ _ _); (case aS => exact HM12.out.size); (case aL => have h1_ := HLr.out; first | omega | (simp; omega)); intro v20 w20 ho hb hg hat; have HR20 := Aside0.mk ho; have HG20 := Aside0.mk hg; have HA20 := Aside0.mk hat; clear ho hb hg hat))
            go_roundw
            case rel => exact ⟨j + 1, m, reps', _, D, by omega, by go_num, hir, hm, ⟨HM12.out.addRow HR20.out HG20.out HA20.out⟩, MI, RC, ⟨by simp [HLr.out]⟩, HST⟩
            case measure => simp [intOf]; omega
          · have hno := idxB_not hin
            have hnm : kapp c f1.toNat ∉ reps'.map (kapp c) := fun hmem => by
              obtain ⟨p', h1, h2⟩ := List.mem_map.1 hmem
              have h3 : cl c p' = cl c f1.toNat := by unfold kapp at h2; injection h2
              exact hno.2 p' h1 ((HCI.out _ _ (RC.out.lt _ h1) (by omega)).1 h3)
            have HHas : Aside0 (Maps.has D (kapp c f1.toNat) = false) := ⟨by
              cases h : Maps.has D (kapp c f1.toNat)
              · rfl
              · exact absurd ((MI.out.has _).1 h) hnm⟩
            have MI2 : Aside0 (MapIs (D.put (kapp c f1.toNat) (.lit (.int .i64 (reps'.length : Nat)))) ((reps' ++ [f1.toNat]).map (kapp c))) := ⟨by
              have h := MI.out.put HKl.out hnm
              rw [List.length_map] at h
              rw [List.map_append]; exact h⟩
            have RC2 : Aside0 (Rchd t (reps' ++ [f1.toNat])) := ⟨RC.out.add (by omega) hno.2⟩
            have hstep := HG2.out
            simp only [minRow, if_neg hin] at hstep
            rw [hno.1] at hstep
            have HST := Aside0.mk hstep
            have HWF : Aside0 ((Lit.int .i64 (reps'.length : Nat)).wf = true) := ⟨wf_small _ (by omega)⟩
            have HLT : Aside0 ((ints (reps'.drop i)).length ≤ 64) := ⟨by unfold ints; rw [List.length_map, List.length_drop]; omega⟩
            have HDR : Aside0 (ints ((reps' ++ [f1.toNat]).drop i) = ints (reps'.drop i) ++ [f1]) := ⟨by
              unfold ints
              rw [List.drop_append_of_le_length (by omega), List.map_append]
              simp [Int.toNat_of_nonneg h10]⟩
            clear hstep HG2 hno hnm hin
            go_wp2_with (first
              | (at_lookup; refine wpList_lookup_own_ok_int _ rfl (.tmp 49) (.tmp 54) 80 rfl 3 3 .i64 lawI Try.underlying80 Try.underlying3 (zero3 _) (w1.heap.size + 1) m D rfl HM12.out.om (.int .i64 (cl c f1.toNat)) _ rfl HKey.out ?_; intro cc hat hwf; rw [show Lit.int .i64 (cl c f1.toNat) = kapp c f1.toNat from rfl, HHas.out]; clear hat hwf)
              | (at_len; first | (refine wpList_len_own _ rfl (.tmp 60) 80 rfl 3 3 Try.underlying80 _ (w1.heap.size + 1) m D rfl HM12.out.om ?_; rw [MI.out.size, List.length_map]))
              | (at_mapUpdate; refine wpList_mapUpdate_own _ rfl (.tmp 62) (.tmp 67) (.tmp 68) 80 rfl 3 3 lawI Try.underlying80 _ (w1.heap.size + 1) m D rfl HM12.out.om (by unfold maxLen; omega) (.int .i64 (cl c f1.toNat)) (.int .i64 (reps'.length : Nat)) _ rfl rfl HKey.out _ [] (plainElem_int Try.underlying3 HWF.out) ?_; intro w13 hown13 hgrow13; have HM13 := Aside0.mk (HM12.out.putMap hown13 hgrow13); have BT13 : Aside0 (w13.heap[tb]? = some (.cells #[.int .i64 f0, .int .i64 f1] 77 (0, 0))) := ⟨blk_grown BT.out hgrow13 (by have := TL.out; simp; omega)⟩; have hq1' : w13.cell? ⟨tb, 1, none⟩ = some (.int .i64 f1) := (blk_cell BT13.out 1).trans rfl; clear hown13 hgrow13)
              | ((with_reducible refine gate_builtin (b := .append) (xs := #[.tmp 69, .tmp 72]) rfl ?_); at_builtin; refine Kd.Q_append (Kd.int .i64) (w0 := w13) (w1.heap.size + 2) rfl (.tmp 69) (.tmp 72) 22 3 (.int .i64 0) 8 rfl Try.underlying22 info3 rfl (by decide) (by omega) u8 (ints (reps'.drop i)) f1 [.int .i64 f1] (fun _ => True) (fun _ => False) rfl ?aX ?aP (fun _ hk => hk.elim) (fun _ _ => trivial) HM13.out.td (Below.refl _ _) ?aS ?aL ?_; (case aX => first | rfl | (simp; done)); (case aP => first | exact rfl); (case aS => exact HM13.out.size); (case aL => have h1_ := HLT.out; first | omega | (simp; omega)); intro v14 w14 ho hb hg hat; have HM14 := Aside0.mk (HM13.out.addTodo ho hg); have BT14 : Aside0 (w14.heap[tb]? = some (.cells #[.int .i64 f0, .int .i64 f1] 77 (0, 0))) := ⟨blk_grown BT13.out hg TN8.out⟩; have hq0' : w14.cell? ⟨tb, 0, none⟩ = some (.int .i64 f0) := (blk_cell BT14.out 0).trans rfl; clear ho hb hg hat)
              | ((with_reducible refine gate_builtin (b := .append) (xs := #[.tmp 74, .tmp 79]) rfl ?_); at_builtin; refine Kd.R_append k77 (w0 := w14) (w1.heap.size + 2) rfl (.tmp 74) (.tmp 79) 75 77 (.agg #[.int .i64 0, .int .i64 0]) 16 rfl Try.underlying75 info77 rfl (by decide) (by omega) u9 rw' ⟨f0, ((reps'.length : Nat) : Int)⟩ [.int .i64 f0, .int .i64 ((reps'.length : Nat) : Int)] (fun _ => True) (fun _ => False) rfl ?aX ?aP (fun _ hk => hk.elim) (fun _ _ => trivial) HM14.out.r9 (Below.refl _ _) ?aS ?aL ?_; (case aX => first | rfl | (simp; done)); (case aP => first | exact rfl | exact k77_mkM _ _ _ _); (case aS => exact HM14.out.size); (case aL => have h1_ := HLr.out; first | omega | (simp; omega)); intro v20 w20 ho hb hg hat; have HR20 := Aside0.mk ho; have HG20 := Aside0.mk hg; have HA20 := Aside0.mk hat; clear ho hb hg hat))
            go_roundw
            case rel => exact ⟨j + 1, m + 1, reps' ++ [f1.toNat], _, _, by omega, by go_num, by simp; omega, by simp; omega, ⟨by rw [HDR.out]; exact HM14.out.addRow HR20.out HG20.out HA20.out⟩, MI2, RC2, ⟨by simp [HLr.out]⟩, HST⟩
            case measure => simp [intOf]; omega
        · have hje : j = row.length := by omega
          have hg := HGr.out
          rw [hje, List.drop_length] at hg
          simp only [minRow] at hg
          have HG3 := Aside0.mk hg
          have hlj : rw'.length = row.length := by rw [← hje]; exact HLr.out
          clear hg HGr
          have hl8 : (ints (reps'.drop i)).length = reps'.length - i := by unfold ints; rw [List.length_map, List.length_drop]
          obtain ⟨A9, q9, hv9, hl9, hq9⟩ := Kd.R_reads HM.out.r9
          subst hv9
          clear hl9 hq9
          obtain ⟨AR, qR, hvR⟩ := Kd.S_slice HM.out.rr
          subst hvR
          obtain ⟨g88, o88, q88, hv88, hg88, hg89, _⟩ := Kd.Q_form HM.out.td (by rw [hl8]; omega)
          rw [hl8] at hv88
          clear hg88 hg89
          subst hv88
          have hQD := Kd.Q_drop HM.out.td (k := 1) (by rw [hl8]; omega)
          have HQD := Aside0.mk hQD
          have hrl := RC.out.le
          have hc2 := (blk_cell HM.out.blk 2).trans (show _ = some (.slice AR out.length qR) from rfl)
          have HT6 := Aside0.mk (Kd.R_typed HM.out.r9)
          clear hQD
          have HLJ := Aside0.mk hlj
          clear hlj
          have HNX : Aside0 (minGo t k1 (i + 1) reps' (out ++ [rw']) = minRows t) := ⟨by
            have h := HG.out
            rw [hk1] at h
            simp only [minGo, if_pos hlt] at h
            rw [HP.out, HRW.out, ← HG3.out] at h
            exact h⟩
          have HDR : Aside0 ((ints (reps'.drop i)).drop 1 = ints (reps'.drop (i + 1))) := ⟨by unfold ints; rw [← List.map_drop, List.drop_drop]⟩
          go_wp2_with ((with_reducible refine gate_builtin (b := .append) (xs := #[.tmp 83, .tmp 85]) rfl ?_); at_builtin; refine Kd.S_append (Kd.slice 77 k77) (w0 := w11) (w1.heap.size + 2) rfl (.tmp 83) (.tmp 85) 23 75 (.slice none 0 0) 24 rfl Try.underlying23 info75 rfl (by decide) (by omega) (.slice AR out.length qR) out rw' [.slice A9 rw'.length q9] (fun _ => True) (fun k => some k = (Value.slice A9 rw'.length q9).ownBlock) rfl ?aX ⟨_, rfl, Kd.R_flat (fun h => h) HM.out.r9 (fun k hk _ => hk.symm)⟩ ?aO (fun _ _ => trivial) ?aR (Below.refl _ _) ?aS ?aL ?_; (case aX => first | rfl | (simp; done)); (case aO => exact (fun k hk => ⟨trivial, by obtain ⟨cells, hc⟩ := HT6.out k hk.symm; exact Kd.S_ne HM.out.rr hc (by decide)⟩)); (case aR => exact Kd.S_mono HM.out.rr (fun k hk => ⟨trivial, hk⟩)); (case aS => exact HM.out.size); (case aL => have h1_ := HL.out; omega); intro v7 w7 ho hb hg hat; obtain ⟨A7, q7, hv7⟩ := Kd.S_slice ho; rw [List.length_append, List.length_singleton] at hv7; subst hv7; have HR7 := Aside0.mk ho; have HG7 := Aside0.mk hg; have hne_ : ∀ g, g < w1.heap.size + 2 → some g ≠ (Value.slice AR out.length qR).ownBlock := (fun g hg2 e => by have := Kd.S_base HM.out.rr g e.symm; omega); have hb7 := blk_grown HM.out.blk hg (hne_ _ (by omega)); have hc7 := (blk_cell hb7 2).trans (show _ = some (.slice AR out.length qR) from rfl); have hf7 := blk_frozen hb7 2; clear ho hb hg hat hne_ hb7)
          all_goals
            have HMF := Aside0.mk (MInv.addState HM.out HR7.out HG7.out)
            have hQ := Kd.Q_drop HMF.out.td (k := 1) (by rw [hl8]; omega)
            rw [HDR.out] at hQ
          all_goals
            go_roundg k1
            case measure => omega
            case rel => exact ⟨i + 1, m, reps', out ++ [rw'], _, D, by omega, by omega, hm, ⟨MInv.dropTodo HMF.out (by first | (rw [if_pos (by assumption)] at hQ; exact hQ) | (rw [if_neg (by assumption)] at hQ; exact hQ) | (simpa [*] using hQ))⟩, MI, RC, ⟨by simp [HL.out]⟩, HNX⟩
    · have hout : out = minRows t := by
        have h := HG.out
        cases gk with
        | zero => exact h
        | succ n => simp only [minGo, if_neg hlt] at h; exact h
      have HOUT := Aside0.mk hout
      clear hout
      obtain ⟨AR, qR, hvR⟩ := Kd.S_slice HM.out.rr
      subst hvR
      have hrb1 : rb < w1.heap.size := blk_lt RB6.out
      have hb0 : w9.heap[rb]? = some (.cells #[.int .i64 0, .int .i64 0, .slice none 0 0] 25 (0, 0)) := (HM.out.hb.block rb hrb1).trans RB6.out
      have hrc0 := (blk_cell hb0 0).trans (show _ = some (.int .i64 0) from rfl)
      have hrf0 := blk_frozen hb0 0
      have hb1 : (w9.setCell ⟨rb, 0, none⟩ (.int .i64 ins)).heap[rb]? = some (.cells #[.int .i64 ins, .int .i64 0, .slice none 0 0] 25 (0, 0)) := blk_put hb0 0 _ rfl
      have hrc1 := (blk_cell hb1 1).trans (show _ = some (.int .i64 0) from rfl)
      have hrf1 := blk_frozen hb1 1
      have hb2 : ((w9.setCell ⟨rb, 0, none⟩ (.int .i64 ins)).setCell ⟨rb, 1, none⟩ (.int .i64 outs)).heap[rb]? = some (.cells #[.int .i64 ins, .int .i64 outs, .slice none 0 0] 25 (0, 0)) := blk_put hb1 1 _ rfl
      have hrc2 := (blk_cell hb2 2).trans (show _ = some (.slice none 0 0) from rfl)
      have hrf2 := blk_frozen hb2 2
      have hb3 : (((w9.setCell ⟨rb, 0, none⟩ (.int .i64 ins)).setCell ⟨rb, 1, none⟩ (.int .i64 outs)).setCell ⟨rb, 2, none⟩ (.slice AR out.length qR)).heap[rb]? = some (.cells #[.int .i64 ins, .int .i64 outs, .slice AR out.length qR] 25 (0, 0)) := blk_put hb2 2 _ rfl
      have HB3 := Aside0.mk hb3
      have hl0 := (blk_cell HM.out.blk 0).trans (show _ = some (.int .i64 ins) from rfl)
      have hl1 := (blk_cell HM.out.blk 1).trans (show _ = some (.int .i64 outs) from rfl)
      have hl2 := (blk_cell HM.out.blk 2).trans (show _ = some (.slice AR out.length qR) from rfl)
      have hN : ¬ 0 < reps.length - i := by omega
      have hN2 : reps.length - i = 0 := by omega
      have hN3 : decide (0 < reps.length - i) = false := decide_eq_false hN
      clear hb0 hb1 hb2 hb3
      go_wp2_with fail
      refine bodyPost_ret (results_ct (fn := Try.f13) rfl _ _ rb 25 #[.int .i64 ins, .int .i64 outs, .slice AR out.length qR] (0, 0) _ rfl HB3.out Try.underlying25 rfl (by kernel_rfl)) rfl ?_
      have hS : Kd.S (Kd.slice 77 k77) 75 w9 w.heap.size (fun _ => True) (.slice AR out.length qR) out := Kd.S_lower (Kd.S_mono HM.out.rr (fun _ _ => trivial)) (by have := HB6.out.size; omega)
      have hS1 : Kd.S (Kd.slice 77 k77) 75 w9 (w1.heap.size + 2) (fun _ => True) (.slice AR out.length qR) out := Kd.S_mono HM.out.rr (fun _ _ => trivial)
      exact ⟨_, rfl, by rw [← HOUT.out]; exact Kd.S_lower (S_putU (p := ⟨rb, 2, none⟩) (S_putU (p := ⟨rb, 1, none⟩) (S_putU (p := ⟨rb, 0, none⟩) hS1 (by show rb < _; omega) _) (by show rb < _; omega) _) (by show rb < _; omega) _) (by have := HB6.out.size; omega),
        (((HB6.out.trans (HM.out.hb.mono HB6.out.size)).setCell RL.out _).setCell RL.out _).setCell RL.out _⟩
end Go.Proofs.Ytaalafnkglbcpaa.PL
end

/- learn.Min: what it gives, as the law's text calls it. -/
section
namespace Go.Proofs.Ytaalafnkglbcpaa.PL
open Go.RowKit Go.Proofs.YtaalafnkglbcpaaW.PrintWords Go.Proofs.YtaalafnkglbcpaaW.PrintLast Go.Proofs.YtaalafnkglbcpaaW.PrintMore
set_option linter.unusedVariables false

/-- A table that Check passes. -/
def TabOK (a0 a1 : Int) (l : List (List S77)) : Prop := (∃ k, learn_Check.f k a0 a1 l = some 0) ∧ TabR l
open Classical in
noncomputable def learn_Min.f (a0_0 : Int) (a0_1 : Int) (l0_2 : List (List (S77))) : Option (Int × Int × (List (List (S77))) × Int) := if TabOK a0_0 a0_1 l0_2 then some (a0_0, a0_1, minRows l0_2, 0) else none
theorem learn_Min.ok {a0 a1 : Int} {l : List (List S77)} (h : TabOK a0 a1 l) : learn_Min.f a0 a1 l = some (a0, a1, minRows l, 0) := by unfold learn_Min.f; rw [if_pos h]
theorem learn_Min.calls (a0_0 : Int) (a0_1 : Int) (A0_2 : Option Addr) (c0_2 : Nat) (l0_2 : List (List (S77))) (r1 : Int) (r2 : Int) (r3 : List (List (S77))) (r4 : Int) (w : World) (hr0_2 : Kd.C (Kd.slice 77 k77) w A0_2 l0_2.length l0_2) (hc0_2 : l0_2.length ≤ c0_2) (h : learn_Min.f a0_0 a0_1 l0_2 = some (r1, r2, r3, r4)) :
    Calls Try.prog 13 #[.agg #[.int .i64 a0_0, .int .i64 a0_1, .slice A0_2 l0_2.length c0_2]] w fun e w' => ∃ v2_ : Value, e = .returned (.tuple #[.agg #[.int .i64 r1, .int .i64 r2, v2_], .int .i64 r4]) ∧ Kd.S (Kd.slice 77 k77) 75 w' w.heap.size (fun _ => True) v2_ r3 ∧ Below w.heap.size w w' := by
  unfold learn_Min.f at h
  split at h
  case isFalse => cases h
  case isTrue hh =>
  simp only [Option.some.injEq, Prod.mk.injEq] at h
  obtain ⟨rfl, rfl, rfl, rfl⟩ := h
  obtain ⟨⟨k, hk⟩, ht⟩ := hh
  exact min_calls k A0_2 c0_2 l0_2 _ _ w hr0_2 hc0_2 hk ht
end Go.Proofs.Ytaalafnkglbcpaa.PL
end

/- own text -/
section
namespace Go.Proofs.Ytaalafnkglbcpaa.PL
open Go.RowKit Go.Proofs.YtaalafnkglbcpaaW.PrintWords Go.Proofs.YtaalafnkglbcpaaW.PrintLast Go.Proofs.YtaalafnkglbcpaaW.PrintMore
attribute [local go_sem] max2_int min2_int max_two min_two max_three min_three max_four min_four   -- for this text's walks alone
set_option linter.unusedVariables false
set_option linter.unusedSimpArgs false

/-! ### bakekeep3_learned: function 15 -/
noncomputable def bakekeep3_learned.f  : Option (Bool) := (learn_Min.f 1 1 (([(([(⟨0, 0⟩ : S77), (⟨0, 1⟩ : S77)] : List (S77))), (([(⟨0, 0⟩ : S77), (⟨0, 0⟩ : S77)] : List (S77)))] : List (List (S77))))).bind fun bt130 => (if bt130.2.2.2 = 0 then (some ((bt130.2.2.1.length : Int) == 1)) else (some false))
set_option maxHeartbeats 8000000 in
set_option maxRecDepth 100000 in
theorem bakekeep3_learned.calls  (r : Bool) (w : World) (h : bakekeep3_learned.f  = some r) :
    Calls Try.prog 15 #[] w fun e w' => e = .returned (.bool r) ∧ Below w.heap.size w w' := by
  have hu77 := Try.underlying77
  have hu25 := Try.underlying25
  have HB := Aside0.mk (Below.refl w.heap.size w)
  have H : ((learn_Min.f 1 1 (([(([(⟨0, 0⟩ : S77), (⟨0, 1⟩ : S77)] : List (S77))), (([(⟨0, 0⟩ : S77), (⟨0, 0⟩ : S77)] : List (S77)))] : List (List (S77))))).bind fun bt130 => (if bt130.2.2.2 = 0 then (some ((bt130.2.2.1.length : Int) == 1)) else (some false))) = some r := h
  clear h
  obtain ⟨y121, hy121⟩ : ∃ y_ : List (S77), y_ = (([(⟨0, 0⟩ : S77), (⟨0, 1⟩ : S77)] : List (S77))) := ⟨_, rfl⟩
  replace H : ((learn_Min.f 1 1 (([y121, (([(⟨0, 0⟩ : S77), (⟨0, 0⟩ : S77)] : List (S77)))] : List (List (S77))))).bind fun bt130 => (if bt130.2.2.2 = 0 then (some ((bt130.2.2.1.length : Int) == 1)) else (some false))) = some r := by first | (rw [hy121]; with_reducible exact H) | (have H2_ := (Option.bind_some _ _).symm.trans H; rw [hy121]; with_reducible exact H2_) | (have H2_ := (Option.bind_some _ _).symm.trans H; with_reducible exact H2_) | with_reducible exact H | (rw [hy121]; exact H) | exact H
  have Ny121 := Aside0.mk hy121
  clear hy121
  obtain ⟨y124, hy124⟩ : ∃ y_ : List (S77), y_ = (([(⟨0, 0⟩ : S77), (⟨0, 0⟩ : S77)] : List (S77))) := ⟨_, rfl⟩
  replace H : ((learn_Min.f 1 1 (([y121, y124] : List (List (S77))))).bind fun bt130 => (if bt130.2.2.2 = 0 then (some ((bt130.2.2.1.length : Int) == 1)) else (some false))) = some r := by first | (rw [hy124]; with_reducible exact H) | (have H2_ := (Option.bind_some _ _).symm.trans H; rw [hy124]; with_reducible exact H2_) | (have H2_ := (Option.bind_some _ _).symm.trans H; with_reducible exact H2_) | with_reducible exact H | (rw [hy124]; exact H) | exact H
  have Ny124 := Aside0.mk hy124
  clear hy124
  obtain ⟨y127, hy127⟩ : ∃ y_ : List (List (S77)), y_ = (([y121, y124] : List (List (S77)))) := ⟨_, rfl⟩
  replace H : ((learn_Min.f 1 1 y127).bind fun bt130 => (if bt130.2.2.2 = 0 then (some ((bt130.2.2.1.length : Int) == 1)) else (some false))) = some r := by first | (rw [hy127]; with_reducible exact H) | (have H2_ := (Option.bind_some _ _).symm.trans H; rw [hy127]; with_reducible exact H2_) | (have H2_ := (Option.bind_some _ _).symm.trans H; with_reducible exact H2_) | with_reducible exact H | (rw [hy127]; exact H) | exact H
  have Ny127 := Aside0.mk hy127
  clear hy127
  replace H := Option.bind_eq_some_iff.mp H
  obtain ⟨⟨t130, t131, t132, t135⟩, A10, H⟩ := H
  replace H : (if t135 = 0 then (some ((t132.length : Int) == 1)) else (some false)) = some r := H
  have A1 := Aside0.mk A10
  clear A10
  by_cases c2 : t135 = 0
  · rw [if_pos c2] at H
    have c2b0 : (t135 == 0) = true := beq_iff_eq.mpr c2
    have c2b1 : (t135 != 0) = false := bne_eq_false_iff_eq.mpr c2
    clear c2
    obtain rfl := Option.some.inj H
    go_enter Try.func15, Try.ntmps15
    go_wp2_with (first | ((with_reducible refine gate_dst (N := 6) rfl ?_); (try (refine gate_guard (by rfl) ?_; dsimp only)); refine Kd.R_lit k77 _ 77 ?hg (N := 6) ?hd (xs := ([(⟨0, 0⟩ : S77), (⟨0, 1⟩ : S77)] : List (S77))) (inner := [.int .i64 0, .int .i64 0, .int .i64 0, .int .i64 1]) (ok := fun _ => True) (okp := fun _ => True) ?hr ?hp (fun _ hk => hk) trivial (Below.refl _ _) (Nat.le_refl _) (by simp) ?_; (case hd => rfl); (case hg => rfl); (case hr => first | (go_simp; done) | (go_simp; rfl)); (case hp => exact (Reps.c2 (show Kd.M k77 _ _ _ (⟨0, 0⟩ : S77) [.int .i64 0, .int .i64 0] from (k77_mkM _ _ _ (⟨0, 0⟩ : S77) )) (Reps.c2 (show Kd.M k77 _ _ _ (⟨0, 1⟩ : S77) [.int .i64 0, .int .i64 1] from (k77_mkM _ _ _ (⟨0, 1⟩ : S77) )) (Reps.none _ _)))); intro v122 w3 ho4 hb hg_ hnew_; clear hg_ hnew_; (first | rw [← Ny121.out] at ho4 | (simp only [Int.reduceToNat] at ho4; rw [← Ny121.out] at ho4)); have n0_ := Aside0.mk (Kd.R_lower ho4 (below_size (by repeat (first | (with_reducible first | exact HB.out | apply below_alloc | apply pw_below_drewN | apply below_drew1) | exact HB.out)))); have n1_ := Aside0.mk (below_step (by repeat (first | (with_reducible first | exact HB.out | apply below_alloc | apply pw_below_drewN | apply below_drew1) | exact HB.out)) hb); clear HB; have HO123 := n0_; have HB := n1_; clear n0_ n1_; clear hb ho4) | ((with_reducible refine gate_dst (N := 9) rfl ?_); (try (refine gate_guard (by rfl) ?_; dsimp only)); refine Kd.R_lit k77 _ 77 ?hg (N := 9) ?hd (xs := ([(⟨0, 0⟩ : S77), (⟨0, 0⟩ : S77)] : List (S77))) (inner := [.int .i64 0, .int .i64 0, .int .i64 0, .int .i64 0]) (ok := fun _ => True) (okp := fun _ => True) ?hr ?hp (fun _ hk => hk) trivial (Below.refl _ _) (Nat.le_refl _) (by simp) ?_; (case hd => rfl); (case hg => rfl); (case hr => first | (go_simp; done) | (go_simp; rfl)); (case hp => exact (Reps.c2 (show Kd.M k77 _ _ _ (⟨0, 0⟩ : S77) [.int .i64 0, .int .i64 0] from (k77_mkM _ _ _ (⟨0, 0⟩ : S77) )) (Reps.c2 (show Kd.M k77 _ _ _ (⟨0, 0⟩ : S77) [.int .i64 0, .int .i64 0] from (k77_mkM _ _ _ (⟨0, 0⟩ : S77) )) (Reps.none _ _)))); intro v125 w5 ho6 hb hg_ hnew_; clear hg_ hnew_; (first | rw [← Ny124.out] at ho6 | (simp only [Int.reduceToNat] at ho6; rw [← Ny124.out] at ho6)); have n0_ := Aside0.mk (Kd.R_elder' (by (with_reducible repeat (first | apply Kd.R_alloc | apply Kd.R_drewN | apply Kd.R_drew)); exact HO123.out) (Kd.R_base ho6) hb); have n1_ := Aside0.mk (Kd.R_lower (Kd.R_new' ho6 (Kd.R_lt (by (with_reducible repeat (first | apply Kd.R_alloc | apply Kd.R_drewN | apply Kd.R_drew)); exact HO123.out))) (below_size (by repeat (first | (with_reducible first | exact HB.out | apply below_alloc | apply pw_below_drewN | apply below_drew1) | exact HB.out)))); have n2_ := Aside0.mk (below_step (by repeat (first | (with_reducible first | exact HB.out | apply below_alloc | apply pw_below_drewN | apply below_drew1) | exact HB.out)) hb); clear HO123; clear HB; have HO123 := n0_; have HO126 := n1_; have HB := n2_; clear n0_ n1_ n2_; clear hb ho6; obtain ⟨Ao7, co7, eo7⟩ := Kd.R_slice HO123.out; subst eo7; obtain ⟨Ao8, co8, eo8⟩ := Kd.R_slice HO126.out; subst eo8) | ((with_reducible refine gate_dst (N := 10) rfl ?_); (try (refine gate_guard (by rfl) ?_; dsimp only)); refine Kd.N_lit (Kd.slice 77 k77) _ 75 ?hg (N' := 10) ?hd (xs := ([y121, y124] : List (List (S77)))) (inner := [.slice Ao7 y121.length co7, .slice Ao8 y124.length co8]) (ok := (fun _ => True)) (okp := (fun _ => True)) ?hr ?hp (fun _ hk => hk) ((show ∀ k_, w5.heap.size ≤ k_ → (fun _ => True) k_ from fun k_ hk => trivial) _ (Nat.le_refl _)) (Below.refl _ _) (Nat.le_refl _) (by simp) ?_; (case hd => rfl); (case hg => rfl); (case hr => first | (go_simp; done) | (go_simp; rfl)); (case hp => exact (Reps.one (show Kd.FK (Kd.slice 77 k77) _ _ y121 [.slice Ao7 y121.length co7] from (Kd.FK_slice_mk (Kd.R_reads' (Kd.R_mono (ok' := (fun _ => True)) (HO123.out) (fun k_ hk => trivial))).2.1 (Kd.R_F (Kd.R_mono (ok' := (fun _ => True)) (HO123.out) (fun k_ hk => trivial))))) (Reps.one (show Kd.FK (Kd.slice 77 k77) _ _ y124 [.slice Ao8 y124.length co8] from (Kd.FK_slice_mk (Kd.R_reads' (Kd.R_mono (ok' := (fun _ => True)) (HO126.out) (fun k_ hk => trivial))).2.1 (Kd.R_F (Kd.R_mono (ok' := (fun _ => True)) (HO126.out) (fun k_ hk => trivial))))) (Reps.none _ _)))); intro v128 w9 ho10 hb hg_ hnew_; clear hg_ hnew_; (first | rw [← Ny127.out] at ho10 | (simp only [Int.reduceToNat] at ho10; rw [← Ny127.out] at ho10)); have n0_ := Aside0.mk (Kd.N_lower ho10 (below_size (by repeat (first | (with_reducible first | exact HB.out | apply below_alloc | apply pw_below_drewN | apply below_drew1) | exact HB.out)))); have n1_ := Aside0.mk (below_step (by repeat (first | (with_reducible first | exact HB.out | apply below_alloc | apply pw_below_drewN | apply below_drew1) | exact HB.out)) hb); clear HB; clear HO123; clear HO126; have HO129 := n0_; have HB := n1_; clear n0_ n1_; clear hb ho10; obtain ⟨Ao11, co11, eo11⟩ := Kd.N_slice HO129.out; subst eo11) | ((with_reducible refine gate_callee (f := 13) rfl ?_); refine goesL_ (some 12) rfl rfl Try.func13 (by kernel_rfl) rfl #[.agg #[.int .i64 1, .int .i64 1, .slice Ao11 y127.length co11]] rfl (by (try simp only [List.map_toArray, List.map_cons, List.map_nil]); first | done | rfl | (simp only [List.length_drop, List.length_take]; rfl)) ?_; (with_reducible refine (learn_Min.calls 1 1 _ _ y127 t130 t131 t132 t135 _ ?side1 ?side2 A1.out).mono ?_); (case side1 => repeat (first | exact (Kd.N_reads' HO129.out).2.2 | (with_reducible refine Kd.C_alloc ?_ _) | (with_reducible refine Kd.C_drewN ?_ _) | (with_reducible refine Kd.C_drew ?_))); (case side2 => exact (Kd.N_reads' HO129.out).2.1); rintro e w12 ⟨v133, rfl, ho0, hb⟩; refine ⟨_, rfl, ?_⟩; have n0_ := Aside0.mk (Kd.N_elder' (by (with_reducible repeat (first | apply Kd.N_alloc | apply Kd.N_drewN | apply Kd.N_drew)); exact HO129.out) (Kd.S_base ho0) hb); have n1_ := Aside0.mk (Kd.N_lower (Kd.N_mono (ok' := fun k_ => some k_ ≠ (.slice Ao11 y127.length co11 : Value).ownBlock) (Kd.S_N (Kd.S_bound ho0)) (fun k_ hk_ => (Kd.fresh' (Kd.N_lt (by (with_reducible repeat (first | apply Kd.N_alloc | apply Kd.N_drewN | apply Kd.N_drew)); exact HO129.out)) k_ hk_.2.1))) (below_size (by repeat (first | (with_reducible first | exact HB.out | apply below_alloc | apply pw_below_drewN | apply below_drew1) | exact HB.out)))); have n2_ := Aside0.mk (below_step (by repeat (first | (with_reducible first | exact HB.out | apply below_alloc | apply pw_below_drewN | apply below_drew1) | exact HB.out)) hb); clear HO129; clear HB; have HO129 := n0_; have HO134 := n1_; have HB := n2_; clear n0_ n1_ n2_; (try clear hb); (try clear hb2); (try clear hk); (try clear hi); (try clear ho0)) | ((with_reducible refine gate_dst (N := 1) rfl ?_); (try (refine gate_guard (by rfl) ?_; dsimp only)); refine box_event ?hg (N := 1) ?hd (cs := #[.int .i64 0, .int .i64 0, .slice none 0 0]) (t := 25) ?hr ?_; (case hd => rfl); (case hg => rfl); (case hr => first | (go_simp; done) | (go_simp; rfl)); intro gb136 hg w13 hbox hb; have n0_ := Aside0.mk (Kd.N_below (Kd.N_elderB (by (with_reducible repeat (first | apply Kd.N_alloc | apply Kd.N_drewN | apply Kd.N_drew)); exact HO129.out) gb136 (Nat.le_of_eq hg.symm)) hb); have n1_ := Aside0.mk (Kd.N_below (Kd.N_elderB (by (with_reducible repeat (first | apply Kd.N_alloc | apply Kd.N_drewN | apply Kd.N_drew)); exact HO134.out) gb136 (Nat.le_of_eq hg.symm)) hb); have n2_ := Aside0.mk (below_step (by repeat (first | (with_reducible first | exact HB.out | apply below_alloc | apply pw_below_drewN | apply below_drew1) | exact HB.out)) hb); have n3_ := Aside0.mk (hbox); have n4_ := Aside0.mk ((by rw [hg]; exact (below_size (by repeat (first | (with_reducible first | exact HB.out | apply below_alloc | apply pw_below_drewN | apply below_drew1) | exact HB.out))) : w.heap.size ≤ gb136)); have n5_ := Aside0.mk ((by rw [hg]; exact (below_size (by repeat (first | (with_reducible first | exact HB.out | apply below_alloc | apply pw_below_drewN | apply below_drew1) | exact HB.out))) : w.heap.size ≤ gb136)); clear HO129; clear HO134; clear HB; have HO129 := n0_; have HO134 := n1_; have HB := n2_; have BK136 := n3_; have GW136 := n4_; have GE136 := n5_; clear n0_ n1_ n2_ n3_ n4_ n5_; clear hb hbox hg; have hcz14_0 : w13.cell? ⟨gb136, 0, none⟩ = some (.int .i64 0) := (blk_cell BK136.out 0).trans rfl; have hcz14_1 : w13.cell? ⟨gb136, 1, none⟩ = some (.int .i64 0) := (blk_cell BK136.out 1).trans rfl; have hcz14_2 : w13.cell? ⟨gb136, 2, none⟩ = some (.slice none 0 0) := (blk_cell BK136.out 2).trans rfl; have hfz14_0 := blk_frozen BK136.out 0; have hfz14_1 := blk_frozen BK136.out 1; have hfz14_2 := blk_frozen BK136.out 2; obtain ⟨Ao15, co15, eo15⟩ := Kd.N_slice HO134.out; subst eo15))
    go_ret
    exact ⟨by first | rfl | (simp [errW_none, errW_some] <;> rfl) | (simp [*, errW_none, errW_some] <;> rfl), by repeat (first | (with_reducible first | exact HB.out | apply below_alloc | apply pw_below_drewN | apply below_drew1 | refine below_set ?_ GE136.out) | exact HB.out)⟩
  · rw [if_neg c2] at H
    have c2b0 : (t135 == 0) = false := beq_eq_false_iff_ne.mpr c2
    have c2b1 : (t135 != 0) = true := bne_iff_ne.mpr c2
    obtain rfl := Option.some.inj H
    go_enter Try.func15, Try.ntmps15
    go_wp2_with (first | ((with_reducible refine gate_dst (N := 6) rfl ?_); (try (refine gate_guard (by rfl) ?_; dsimp only)); refine Kd.R_lit k77 _ 77 ?hg (N := 6) ?hd (xs := ([(⟨0, 0⟩ : S77), (⟨0, 1⟩ : S77)] : List (S77))) (inner := [.int .i64 0, .int .i64 0, .int .i64 0, .int .i64 1]) (ok := fun _ => True) (okp := fun _ => True) ?hr ?hp (fun _ hk => hk) trivial (Below.refl _ _) (Nat.le_refl _) (by simp) ?_; (case hd => rfl); (case hg => rfl); (case hr => first | (go_simp; done) | (go_simp; rfl)); (case hp => exact (Reps.c2 (show Kd.M k77 _ _ _ (⟨0, 0⟩ : S77) [.int .i64 0, .int .i64 0] from (k77_mkM _ _ _ (⟨0, 0⟩ : S77) )) (Reps.c2 (show Kd.M k77 _ _ _ (⟨0, 1⟩ : S77) [.int .i64 0, .int .i64 1] from (k77_mkM _ _ _ (⟨0, 1⟩ : S77) )) (Reps.none _ _)))); intro v122 w16 ho17 hb hg_ hnew_; clear hg_ hnew_; (first | rw [← Ny121.out] at ho17 | (simp only [Int.reduceToNat] at ho17; rw [← Ny121.out] at ho17)); have n0_ := Aside0.mk (Kd.R_lower ho17 (below_size (by repeat (first | (with_reducible first | exact HB.out | apply below_alloc | apply pw_below_drewN | apply below_drew1) | exact HB.out)))); have n1_ := Aside0.mk (below_step (by repeat (first | (with_reducible first | exact HB.out | apply below_alloc | apply pw_below_drewN | apply below_drew1) | exact HB.out)) hb); clear HB; have HO123 := n0_; have HB := n1_; clear n0_ n1_; clear hb ho17) | ((with_reducible refine gate_dst (N := 9) rfl ?_); (try (refine gate_guard (by rfl) ?_; dsimp only)); refine Kd.R_lit k77 _ 77 ?hg (N := 9) ?hd (xs := ([(⟨0, 0⟩ : S77), (⟨0, 0⟩ : S77)] : List (S77))) (inner := [.int .i64 0, .int .i64 0, .int .i64 0, .int .i64 0]) (ok := fun _ => True) (okp := fun _ => True) ?hr ?hp (fun _ hk => hk) trivial (Below.refl _ _) (Nat.le_refl _) (by simp) ?_; (case hd => rfl); (case hg => rfl); (case hr => first | (go_simp; done) | (go_simp; rfl)); (case hp => exact (Reps.c2 (show Kd.M k77 _ _ _ (⟨0, 0⟩ : S77) [.int .i64 0, .int .i64 0] from (k77_mkM _ _ _ (⟨0, 0⟩ : S77) )) (Reps.c2 (show Kd.M k77 _ _ _ (⟨0, 0⟩ : S77) [.int .i64 0, .int .i64 0] from (k77_mkM _ _ _ (⟨0, 0⟩ : S77) )) (Reps.none _ _)))); intro v125 w18 ho19 hb hg_ hnew_; clear hg_ hnew_; (first | rw [← Ny124.out] at ho19 | (simp only [Int.reduceToNat] at ho19; rw [← Ny124.out] at ho19)); have n0_ := Aside0.mk (Kd.R_elder' (by (with_reducible repeat (first | apply Kd.R_alloc | apply Kd.R_drewN | apply Kd.R_drew)); exact HO123.out) (Kd.R_base ho19) hb); have n1_ := Aside0.mk (Kd.R_lower (Kd.R_new' ho19 (Kd.R_lt (by (with_reducible repeat (first | apply Kd.R_alloc | apply Kd.R_drewN | apply Kd.R_drew)); exact HO123.out))) (below_size (by repeat (first | (with_reducible first | exact HB.out | apply below_alloc | apply pw_below_drewN | apply below_drew1) | exact HB.out)))); have n2_ := Aside0.mk (below_step (by repeat (first | (with_reducible first | exact HB.out | apply below_alloc | apply pw_below_drewN | apply below_drew1) | exact HB.out)) hb); clear HO123; clear HB; have HO123 := n0_; have HO126 := n1_; have HB := n2_; clear n0_ n1_ n2_; clear hb ho19; obtain ⟨Ao20, co20, eo20⟩ := Kd.R_slice HO123.out; subst eo20; obtain ⟨Ao21, co21, eo21⟩ := Kd.R_slice HO126.out; subst eo21) | ((with_reducible refine gate_dst (N := 10) rfl ?_); (try (refine gate_guard (by rfl) ?_; dsimp only)); refine Kd.N_lit (Kd.slice 77 k77) _ 75 ?hg (N' := 10) ?hd (xs := ([y121, y124] : List (List (S77)))) (inner := [.slice Ao20 y121.length co20, .slice Ao21 y124.length co21]) (ok := (fun _ => True)) (okp := (fun _ => True)) ?hr ?hp (fun _ hk => hk) ((show ∀ k_, w18.heap.size ≤ k_ → (fun _ => True) k_ from fun k_ hk => trivial) _ (Nat.le_refl _)) (Below.refl _ _) (Nat.le_refl _) (by simp) ?_; (case hd => rfl); (case hg => rfl); (case hr => first | (go_simp; done) | (go_simp; rfl)); (case hp => exact (Reps.one (show Kd.FK (Kd.slice 77 k77) _ _ y121 [.slice Ao20 y121.length co20] from (Kd.FK_slice_mk (Kd.R_reads' (Kd.R_mono (ok' := (fun _ => True)) (HO123.out) (fun k_ hk => trivial))).2.1 (Kd.R_F (Kd.R_mono (ok' := (fun _ => True)) (HO123.out) (fun k_ hk => trivial))))) (Reps.one (show Kd.FK (Kd.slice 77 k77) _ _ y124 [.slice Ao21 y124.length co21] from (Kd.FK_slice_mk (Kd.R_reads' (Kd.R_mono (ok' := (fun _ => True)) (HO126.out) (fun k_ hk => trivial))).2.1 (Kd.R_F (Kd.R_mono (ok' := (fun _ => True)) (HO126.out) (fun k_ hk => trivial))))) (Reps.none _ _)))); intro v128 w22 ho23 hb hg_ hnew_; clear hg_ hnew_; (first | rw [← Ny127.out] at ho23 | (simp only [Int.reduceToNat] at ho23; rw [← Ny127.out] at ho23)); have n0_ := Aside0.mk (Kd.N_lower ho23 (below_size (by repeat (first | (with_reducible first | exact HB.out | apply below_alloc | apply pw_below_drewN | apply below_drew1) | exact HB.out)))); have n1_ := Aside0.mk (below_step (by repeat (first | (with_reducible first | exact HB.out | apply below_alloc | apply pw_below_drewN | apply below_drew1) | exact HB.out)) hb); clear HB; clear HO123; clear HO126; have HO129 := n0_; have HB := n1_; clear n0_ n1_; clear hb ho23; obtain ⟨Ao24, co24, eo24⟩ := Kd.N_slice HO129.out; subst eo24) | ((with_reducible refine gate_callee (f := 13) rfl ?_); refine goesL_ (some 12) rfl rfl Try.func13 (by kernel_rfl) rfl #[.agg #[.int .i64 1, .int .i64 1, .slice Ao24 y127.length co24]] rfl (by (try simp only [List.map_toArray, List.map_cons, List.map_nil]); first | done | rfl | (simp only [List.length_drop, List.length_take]; rfl)) ?_; (with_reducible refine (learn_Min.calls 1 1 _ _ y127 t130 t131 t132 t135 _ ?side1 ?side2 A1.out).mono ?_); (case side1 => repeat (first | exact (Kd.N_reads' HO129.out).2.2 | (with_reducible refine Kd.C_alloc ?_ _) | (with_reducible refine Kd.C_drewN ?_ _) | (with_reducible refine Kd.C_drew ?_))); (case side2 => exact (Kd.N_reads' HO129.out).2.1); rintro e w25 ⟨v133, rfl, ho0, hb⟩; refine ⟨_, rfl, ?_⟩; have n0_ := Aside0.mk (Kd.N_elder' (by (with_reducible repeat (first | apply Kd.N_alloc | apply Kd.N_drewN | apply Kd.N_drew)); exact HO129.out) (Kd.S_base ho0) hb); have n1_ := Aside0.mk (Kd.N_lower (Kd.N_mono (ok' := fun k_ => some k_ ≠ (.slice Ao24 y127.length co24 : Value).ownBlock) (Kd.S_N (Kd.S_bound ho0)) (fun k_ hk_ => (Kd.fresh' (Kd.N_lt (by (with_reducible repeat (first | apply Kd.N_alloc | apply Kd.N_drewN | apply Kd.N_drew)); exact HO129.out)) k_ hk_.2.1))) (below_size (by repeat (first | (with_reducible first | exact HB.out | apply below_alloc | apply pw_below_drewN | apply below_drew1) | exact HB.out)))); have n2_ := Aside0.mk (below_step (by repeat (first | (with_reducible first | exact HB.out | apply below_alloc | apply pw_below_drewN | apply below_drew1) | exact HB.out)) hb); clear HO129; clear HB; have HO129 := n0_; have HO134 := n1_; have HB := n2_; clear n0_ n1_ n2_; (try clear hb); (try clear hb2); (try clear hk); (try clear hi); (try clear ho0)) | ((with_reducible refine gate_dst (N := 1) rfl ?_); (try (refine gate_guard (by rfl) ?_; dsimp only)); refine box_event ?hg (N := 1) ?hd (cs := #[.int .i64 0, .int .i64 0, .slice none 0 0]) (t := 25) ?hr ?_; (case hd => rfl); (case hg => rfl); (case hr => first | (go_simp; done) | (go_simp; rfl)); intro gb136 hg w26 hbox hb; have n0_ := Aside0.mk (Kd.N_below (Kd.N_elderB (by (with_reducible repeat (first | apply Kd.N_alloc | apply Kd.N_drewN | apply Kd.N_drew)); exact HO129.out) gb136 (Nat.le_of_eq hg.symm)) hb); have n1_ := Aside0.mk (Kd.N_below (Kd.N_elderB (by (with_reducible repeat (first | apply Kd.N_alloc | apply Kd.N_drewN | apply Kd.N_drew)); exact HO134.out) gb136 (Nat.le_of_eq hg.symm)) hb); have n2_ := Aside0.mk (below_step (by repeat (first | (with_reducible first | exact HB.out | apply below_alloc | apply pw_below_drewN | apply below_drew1) | exact HB.out)) hb); have n3_ := Aside0.mk (hbox); have n4_ := Aside0.mk ((by rw [hg]; exact (below_size (by repeat (first | (with_reducible first | exact HB.out | apply below_alloc | apply pw_below_drewN | apply below_drew1) | exact HB.out))) : w.heap.size ≤ gb136)); have n5_ := Aside0.mk ((by rw [hg]; exact (below_size (by repeat (first | (with_reducible first | exact HB.out | apply below_alloc | apply pw_below_drewN | apply below_drew1) | exact HB.out))) : w.heap.size ≤ gb136)); clear HO129; clear HO134; clear HB; have HO129 := n0_; have HO134 := n1_; have HB := n2_; have BK136 := n3_; have GW136 := n4_; have GE136 := n5_; clear n0_ n1_ n2_ n3_ n4_ n5_; clear hb hbox hg; have hcz27_0 : w26.cell? ⟨gb136, 0, none⟩ = some (.int .i64 0) := (blk_cell BK136.out 0).trans rfl; have hcz27_1 : w26.cell? ⟨gb136, 1, none⟩ = some (.int .i64 0) := (blk_cell BK136.out 1).trans rfl; have hcz27_2 : w26.cell? ⟨gb136, 2, none⟩ = some (.slice none 0 0) := (blk_cell BK136.out 2).trans rfl; have hfz27_0 := blk_frozen BK136.out 0; have hfz27_1 := blk_frozen BK136.out 1; have hfz27_2 := blk_frozen BK136.out 2; obtain ⟨Ao28, co28, eo28⟩ := Kd.N_slice HO134.out; subst eo28))
    go_ret
    exact ⟨by first | rfl | (simp [errW_none, errW_some] <;> rfl) | (simp [*, errW_none, errW_some] <;> rfl), by repeat (first | (with_reducible first | exact HB.out | apply below_alloc | apply pw_below_drewN | apply below_drew1 | refine below_set ?_ GE136.out) | exact HB.out)⟩

end Go.Proofs.Ytaalafnkglbcpaa.PL
end

/- learn.Same of a table and itself (read at two places): true. -/
section
namespace Go.Proofs.Ytaalafnkglbcpaa.PL
open Go.RowKit Go.Proofs.YtaalafnkglbcpaaW.PrintWords Go.Proofs.YtaalafnkglbcpaaW.PrintLast Go.Proofs.YtaalafnkglbcpaaW.PrintMore
set_option linter.unusedVariables false

set_option maxRecDepth 100000 in
set_option maxHeartbeats 4000000 in
theorem eqrow_calls (A B : Option Addr) (c d : Nat) (row : List S77) (w : World) (hA : Kd.C k77 w A row.length row) (hB : Kd.C k77 w B row.length row) :
    Calls Try.prog 45 #[.slice A row.length c, .slice B row.length d] w fun e w' => e = .returned (.bool true) ∧ Below w.heap.size w w' := by
  have HA := Aside0.mk hA
  have HB := Aside0.mk hB
  have hl : row.length ≤ 9223372036854775807 := hA.2.1
  clear hA hB
  go_enter Try.func45, Try.ntmps45
  go_wp2
  go_loopw [13] (fun v13 wr => ∃ j : Nat, j ≤ row.length ∧ v13 = .int .i64 j ∧ Aside0 (Below w.heap.size w wr)) (fun v13 _ => row.length - (intOf v13).toNat)
  case atStart => exact ⟨0, by omega, rfl, ⟨Below.refl _ _⟩⟩
  case round =>
    obtain ⟨j, hj, rfl, HW⟩ := hrel
    obtain ⟨w1, rfl⟩ : ∃ w1 : World, w1 = wr := ⟨_, rfl⟩
    by_cases hlt : j < row.length
    · obtain ⟨a, ea, g0, g1⟩ := at_T77 (Kd.C_below HA.out HW.out) (j : Int) (by omega) (by omega)
      obtain ⟨b, eb, k0, k1⟩ := at_T77 (Kd.C_below HB.out HW.out) (j : Int) (by omega) (by omega)
      subst ea eb
      generalize rd_T77 row (j : Int) = r at *
      obtain ⟨f0, f1⟩ := r
      dsimp only at g0 g1 k0 k1
      rw [Int.toNat_natCast] at g0 g1 k0 k1
      go_wp2_with fail
      go_quiet (fail)
      go_wp2
      exact ⟨⟨j + 1, by omega, by go_num, ⟨pw_below_drewN HW.out nq⟩⟩, by simp [intOf]; omega⟩
    · have hje : j = row.length := by omega
      go_wp2
      go_ret
      exact ⟨rfl, HW.out⟩

set_option maxRecDepth 100000 in
set_option maxHeartbeats 4000000 in
theorem eqlit_calls (A B : Option Addr) (c d : Nat) (row : List S77) (w : World) (hA : Kd.C k77 w A row.length row) (hB : Kd.C k77 w B row.length row) :
    Calls Try.prog 44 #[.slice A row.length c, .slice B row.length d] w fun e w' => e = .returned (.bool true) ∧ Below w.heap.size w w' := by
  have C1 := Aside0.mk (eqrow_calls A B c d row w hA hB)
  clear hA hB
  go_enter Try.func44, Try.ntmps44
  go_wp2_with fail
  (with_reducible refine C1.out.mono ?_)
  rintro e w1 ⟨rfl, hb⟩
  have HB := Aside0.mk hb
  clear hb
  go_wp2
  go_ret
  exact ⟨rfl, HB.out⟩

set_option maxRecDepth 100000 in
set_option maxHeartbeats 4000000 in
theorem eqfunc_calls (A B : Option Addr) (c d : Nat) (t : List (List S77)) (w : World) (hA : Kd.C (Kd.slice 77 k77) w A t.length t) (hB : Kd.C (Kd.slice 77 k77) w B t.length t) :
    Calls Try.prog 43 #[.slice A t.length c, .slice B t.length d, .func (.func 44) #[] #[]] w fun e w' => e = .returned (.bool true) ∧ Below w.heap.size w w' := by
  have HA := Aside0.mk hA
  have HB := Aside0.mk hB
  have hl : t.length ≤ 9223372036854775807 := hA.2.1
  clear hA hB
  go_enter Try.func43, Try.ntmps43
  go_wp2
  go_loopw [17] (fun v17 wr => ∃ j : Nat, j ≤ t.length ∧ v17 = .int .i64 j ∧ Aside0 (Below w.heap.size w wr)) (fun v17 _ => t.length - (intOf v17).toNat)
  case atStart => exact ⟨0, by omega, rfl, ⟨Below.refl _ _⟩⟩
  case round =>
    obtain ⟨j, hj, rfl, HW⟩ := hrel
    obtain ⟨w1, rfl⟩ : ∃ w1 : World, w1 = wr := ⟨_, rfl⟩
    by_cases hlt : j < t.length
    · obtain ⟨a, A1, c1, ea, g0, g1, g2⟩ := at_L2 (Kd.C_below HA.out HW.out) (j : Int) (by omega) (by omega)
      obtain ⟨b, B1, d1, eb, k0, k1, k2⟩ := at_L2 (Kd.C_below HB.out HW.out) (j : Int) (by omega) (by omega)
      subst ea eb
      generalize rd_L2 t (j : Int) = r at *
      rw [Int.toNat_natCast] at g0 k0
      have C1 := Aside0.mk (eqlit_calls A1 B1 c1 d1 r w1 g2 k2)
      clear g1 g2 k1 k2
      go_wp2_with fail
      (with_reducible refine C1.out.mono ?_)
      rintro e w2 ⟨rfl, hb⟩
      have HW2 : Aside0 (Below w.heap.size w w2) := ⟨HW.out.trans (hb.mono HW.out.size)⟩
      clear hb g0 k0 C1 HW
      go_wp2
      go_roundw
      case rel => exact ⟨j + 1, by omega, by go_num, HW2⟩
      case measure => simp [intOf]; omega
    · have hje : j = t.length := by omega
      go_wp2
      go_ret
      exact ⟨rfl, HW.out⟩

open Classical in
noncomputable def learn_Same.f (a0_0 : Int) (a0_1 : Int) (l0_2 : List (List (S77))) (a1_0 : Int) (a1_1 : Int) (l1_2 : List (List (S77))) : Option (Bool) := if a0_0 = a1_0 ∧ a0_1 = a1_1 ∧ l0_2 = l1_2 then some true else none
set_option maxHeartbeats 8000000 in
set_option maxRecDepth 100000 in
theorem learn_Same.calls (a0_0 : Int) (a0_1 : Int) (A0_2 : Option Addr) (c0_2 : Nat) (l0_2 : List (List (S77))) (a1_0 : Int) (a1_1 : Int) (A1_2 : Option Addr) (c1_2 : Nat) (l1_2 : List (List (S77))) (r : Bool) (w : World) (hr0_2 : Kd.C (Kd.slice 77 k77) w A0_2 l0_2.length l0_2) (hc0_2 : l0_2.length ≤ c0_2) (hr1_2 : Kd.C (Kd.slice 77 k77) w A1_2 l1_2.length l1_2) (hc1_2 : l1_2.length ≤ c1_2) (h : learn_Same.f a0_0 a0_1 l0_2 a1_0 a1_1 l1_2 = some r) :
    Calls Try.prog 16 #[.agg #[.int .i64 a0_0, .int .i64 a0_1, .slice A0_2 l0_2.length c0_2], .agg #[.int .i64 a1_0, .int .i64 a1_1, .slice A1_2 l1_2.length c1_2]] w fun e w' => e = .returned (.bool r) ∧ Below w.heap.size w w' := by
  unfold learn_Same.f at h
  split at h
  case isFalse => cases h
  case isTrue hh =>
  obtain ⟨rfl, rfl, rfl⟩ := hh
  obtain rfl := Option.some.inj h
  clear h hc0_2 hc1_2
  have C1 := Aside0.mk (fun (W : World) (hW : Below w.heap.size w W) => eqfunc_calls A0_2 A1_2 c0_2 c1_2 l0_2 W (Kd.C_below hr0_2 hW) (Kd.C_below hr1_2 hW))
  clear hr0_2 hr1_2
  go_enter Try.func16, Try.ntmps16
  go_upto_region 1 with fail
  go_wp2_with fail
  (with_reducible refine (C1.out _ ?b).mono ?_)
  case b => exact below_alloc (below_alloc (Below.refl _ _) _) _
  rintro e w2 ⟨rfl, hb⟩
  have HB : Aside0 (Below w.heap.size w w2) := ⟨(below_alloc (below_alloc (Below.refl _ _) _) _).trans (hb.mono (by simp; omega))⟩
  clear hb
  go_wp2
  go_ret
  exact ⟨rfl, HB.out⟩
end Go.Proofs.Ytaalafnkglbcpaa.PL
end

/- own text -/
section
namespace Go.Proofs.Ytaalafnkglbcpaa.PL
open Go.RowKit Go.Proofs.YtaalafnkglbcpaaW.PrintWords Go.Proofs.YtaalafnkglbcpaaW.PrintLast Go.Proofs.YtaalafnkglbcpaaW.PrintMore
attribute [local go_sem] max2_int min2_int max_two min_two max_three min_three max_four min_four   -- for this text's walks alone
set_option linter.unusedVariables false
set_option linter.unusedSimpArgs false

/-! ### slices_Equal_int_int: function 17 -/
def slices_Equal_int_int.l0 : Nat → List Int → List Int → Int → Int → Option (Bool)
  | 0, _, _, _, _ => none
  | k + 1, x0, x1, x12, x13 => if x13 < x12 then (if 0 ≤ x13 then (if x13 < (x0.length : Int) then (if x13 < (x1.length : Int) then (if (rd x0 x13) = (rd x1 x13) then (slices_Equal_int_int.l0 k x0 x1 x12 (wrap64 (x13 + 1))) else (some false)) else (none)) else (none)) else (none)) else (some true)
def slices_Equal_int_int.f (k : Nat) (l0 : List Int) (l1 : List Int) : Option (Bool) := if (l0.length : Int) = (l1.length : Int) then (slices_Equal_int_int.l0 k l0 l1 (l0.length : Int) 0) else (some false)
theorem slices_Equal_int_int.mono_l : ∀ k, (∀ y0 y1 y2 y3, LeO (slices_Equal_int_int.l0 k y0 y1 y2 y3) (slices_Equal_int_int.l0 (k + 1) y0 y1 y2 y3))
  | 0 => fun _ _ _ _ r h => by simp [slices_Equal_int_int.l0] at h
  | k + 1 => by
    have ih0 := slices_Equal_int_int.mono_l k
    · intro y0 y1 y2 y3
      unfold slices_Equal_int_int.l0
      repeat' first
      | (with_reducible exact ih0 _ _ _ _)
      | (with_reducible exact LeO.refl _)
      | (with_reducible exact LeO.none _)
      | (with_reducible refine LeO.ite ?_ ?_)
      | (with_reducible refine LeO.bind ?_ (fun _ => ?_))
      | exact ih0 _ _ _ _
      | exact LeO.none _
      | refine LeO.ite ?_ ?_
      | refine LeO.bind ?_ (fun _ => ?_)
theorem slices_Equal_int_int.mono : ∀ a0 a1 k, LeO (slices_Equal_int_int.f k a0 a1) (slices_Equal_int_int.f (k + 1) a0 a1) := by
  intro a0 a1 k
  have ih0 := slices_Equal_int_int.mono_l k
  unfold slices_Equal_int_int.f
  repeat' first
      | (with_reducible exact ih0 _ _ _ _)
      | (with_reducible exact LeO.refl _)
      | (with_reducible exact LeO.none _)
      | (with_reducible refine LeO.ite ?_ ?_)
      | (with_reducible refine LeO.bind ?_ (fun _ => ?_))
      | exact ih0 _ _ _ _
      | exact LeO.none _
      | refine LeO.ite ?_ ?_
      | refine LeO.bind ?_ (fun _ => ?_)
set_option maxHeartbeats 8000000 in
set_option maxRecDepth 100000 in
theorem slices_Equal_int_int.calls (k : Nat) (A0 : Option Addr) (c0 : Nat) (l0 : List Int) (A1 : Option Addr) (c1 : Nat) (l1 : List Int) (r : Bool) (w : World) (hr0 : Kd.C (Kd.int .i64) w A0 l0.length l0) (hc0 : l0.length ≤ c0) (hr1 : Kd.C (Kd.int .i64) w A1 l1.length l1) (hc1 : l1.length ≤ c1) (h : slices_Equal_int_int.f k l0 l1 = some r) :
    Calls Try.prog 17 #[.slice A0 l0.length c0, .slice A1 l1.length c1] w fun e w' => e = .returned (.bool r) ∧ Drawn0 w w' := by
  have HR0 := Aside0.mk hr0
  have HC0 := Aside0.mk hc0
  clear hr0 hc0
  have HR1 := Aside0.mk hr1
  have HC1 := Aside0.mk hc1
  clear hr1 hc1
  have H : (if (l0.length : Int) = (l1.length : Int) then (slices_Equal_int_int.l0 k l0 l1 (l0.length : Int) 0) else (some false)) = some r := h
  clear h
  by_cases c3 : (l0.length : Int) = (l1.length : Int)
  · rw [if_pos c3] at H
    have c3b0 : ((l0.length : Int) == (l1.length : Int)) = true := beq_iff_eq.mpr c3
    have c3b1 : ((l0.length : Int) != (l1.length : Int)) = false := bne_eq_false_iff_eq.mpr c3
    have c3b2 : (l0.length == l1.length) = true := by first | simpa using c3 | (simp at c3 ⊢; omega)
    clear c3
    have H' := Aside0.mk H
    clear H
    go_enter Try.func17, Try.ntmps17
    go_wp2
    repeat (go_quiet (fail); try go_wp2)
    go_loopg [13] k (fun kq v13 w' => ∃ (x13_1 : Int), v13 = .int .i64 x13_1 ∧ Aside0 (slices_Equal_int_int.l0 kq l0 l1 (l0.length : Int) x13_1 = some r) ∧ Aside0 (kq ≤ k) ∧ Drawn0 w w')
    case atStart => exact ⟨(0), (by first | rfl | (simp; done) | (simp [*]; done)), H', ⟨Nat.le_refl _⟩, by repeat (first | exact Drawn0.refl _ | apply Drawn0.step)⟩
    case round =>
      clear H'
      try clear c1
      try clear p2
      try clear c3
      try clear c3b0
      try clear c3b1
      try clear c3b2
      obtain ⟨x13_1, rfl, HA, HK1, ⟨m1, rfl⟩⟩ := hrel
      cases gk with
      | zero => exact absurd HA.out (by simp [slices_Equal_int_int.l0])
      | succ k1 =>
        have H := HA.out
        clear HA
        simp only [slices_Equal_int_int.l0] at H
        by_cases c4 : x13_1 < (l0.length : Int)
        · rw [if_pos c4] at H
          have c4b0 : decide (x13_1 < (l0.length : Int)) = true := decide_eq_true c4
          clear c4
          by_cases c5 : 0 ≤ x13_1
          · rw [if_pos c5] at H
            have c5b0 : decide (0 ≤ x13_1) = true := decide_eq_true c5
            clear c5
            by_cases c6 : x13_1 < (l0.length : Int)
            · rw [if_pos c6] at H
              have c6b0 : decide (x13_1 < (l0.length : Int)) = true := decide_eq_true c6
              clear c6
              by_cases c7 : x13_1 < (l1.length : Int)
              · rw [if_pos c7] at H
                have c7b0 : decide (x13_1 < (l1.length : Int)) = true := decide_eq_true c7
                clear c7
                by_cases c8 : (rd l0 x13_1) = (rd l1 x13_1)
                · rw [if_pos c8] at H
                  have c8b0 : ((rd l0 x13_1) == (rd l1 x13_1)) = true := beq_iff_eq.mpr c8
                  have c8b1 : ((rd l0 x13_1) != (rd l1 x13_1)) = false := bne_eq_false_iff_eq.mpr c8
                  clear c8
                  have H' := Aside0.mk H
                  clear H
                  have p140 : 0 ≤ (x13_1 : Int) := of_decide_eq_true (by first | (with_reducible assumption) | assumption)
                  have q140 : x13_1 < (l0.length : Int) := of_decide_eq_true (by first | (with_reducible assumption) | assumption)
                  obtain ⟨ad140, e140, hx140_0⟩ := Kd.at_int HR0.out x13_1 p140 q140
                  cases e140
                  replace p140 := eq_true p140
                  replace q140 := eq_true q140
                  have p141 : 0 ≤ (x13_1 : Int) := of_decide_eq_true (by first | (with_reducible assumption) | assumption)
                  have q141 : x13_1 < (l1.length : Int) := of_decide_eq_true (by first | (with_reducible assumption) | assumption)
                  obtain ⟨ad141, e141, hx141_0⟩ := Kd.at_int HR1.out x13_1 p141 q141
                  cases e141
                  replace p141 := eq_true p141
                  replace q141 := eq_true q141
                  go_wp2
                  repeat (go_quiet (fail); try go_wp2)
                  go_roundg k1
                  case measure => have := HK1.out; omega
                  case rel => exact ⟨(wrap64 (x13_1 + 1)), (by first | rfl | (simp; done) | (simp [*]; done)), H', ⟨by have := HK1.out; omega⟩, by repeat (first | exact Drawn0.refl _ | apply Drawn0.step)⟩
                · rw [if_neg c8] at H
                  have c8b0 : ((rd l0 x13_1) == (rd l1 x13_1)) = false := beq_eq_false_iff_ne.mpr c8
                  have c8b1 : ((rd l0 x13_1) != (rd l1 x13_1)) = true := bne_iff_ne.mpr c8
                  obtain rfl := Option.some.inj H
                  have p140 : 0 ≤ (x13_1 : Int) := of_decide_eq_true (by first | (with_reducible assumption) | assumption)
                  have q140 : x13_1 < (l0.length : Int) := of_decide_eq_true (by first | (with_reducible assumption) | assumption)
                  obtain ⟨ad140, e140, hx140_0⟩ := Kd.at_int HR0.out x13_1 p140 q140
                  cases e140
                  replace p140 := eq_true p140
                  replace q140 := eq_true q140
                  have p141 : 0 ≤ (x13_1 : Int) := of_decide_eq_true (by first | (with_reducible assumption) | assumption)
                  have q141 : x13_1 < (l1.length : Int) := of_decide_eq_true (by first | (with_reducible assumption) | assumption)
                  obtain ⟨ad141, e141, hx141_0⟩ := Kd.at_int HR1.out x13_1 p141 q141
                  cases e141
                  replace p141 := eq_true p141
                  replace q141 := eq_true q141
                  go_wp2
                  repeat (go_quiet (fail); try go_wp2)
                  go_ret
                  exact ⟨by first | rfl | (simp; done) | (simp [*]; done), by repeat (first | exact Drawn0.refl _ | apply Drawn0.step)⟩
              · rw [if_neg c7] at H
                exact absurd H (by simp)
            · rw [if_neg c6] at H
              exact absurd H (by simp)
          · rw [if_neg c5] at H
            exact absurd H (by simp)
        · rw [if_neg c4] at H
          have c4b0 : decide (x13_1 < (l0.length : Int)) = false := decide_eq_false c4
          clear c4
          obtain rfl := Option.some.inj H
          go_wp2
          repeat (go_quiet (fail); try go_wp2)
          go_ret
          exact ⟨by first | rfl | (simp; done) | (simp [*]; done), by repeat (first | exact Drawn0.refl _ | apply Drawn0.step)⟩
  · rw [if_neg c3] at H
    have c3b0 : ((l0.length : Int) == (l1.length : Int)) = false := beq_eq_false_iff_ne.mpr c3
    have c3b1 : ((l0.length : Int) != (l1.length : Int)) = true := bne_iff_ne.mpr c3
    have c3b2 : (l0.length == l1.length) = false := by first | simpa using c3 | (simp at c3 ⊢; omega)
    obtain rfl := Option.some.inj H
    go_enter Try.func17, Try.ntmps17
    go_wp2
    repeat (go_quiet (fail); try go_wp2)
    go_ret
    exact ⟨by first | rfl | (simp; done) | (simp [*]; done), by repeat (first | exact Drawn0.refl _ | apply Drawn0.step)⟩

end Go.Proofs.Ytaalafnkglbcpaa.PL
end

/- The plain law of LearnMin. No condition beyond the given statement. -/
section
namespace Go.Proofs.Ytaalafnkglbcpaa.PL
open Go.RowKit Go.Proofs.YtaalafnkglbcpaaW.PrintWords Go.Proofs.YtaalafnkglbcpaaW.PrintLast Go.Proofs.YtaalafnkglbcpaaW.PrintMore
set_option linter.unusedVariables false

theorem w64 {n : Int} (h0 : -9223372036854775808 ≤ n) (h1 : n ≤ 9223372036854775807) : wrap64 n = n := by unfold wrap64; omega
theorem wnext {i : Nat} (h : i ≤ 1000000) : wrap64 ((i : Int) + 1) = ((i + 1 : Nat) : Int) := by rw [w64 (by omega) (by omega)]; omega

theorem shl_ins {n : Int} (h0 : 0 ≤ n) (h1 : n ≤ 4) : 1 ≤ shl .i64 1 n ∧ shl .i64 1 n ≤ 16 := by
  have : n = 0 ∨ n = 1 ∨ n = 2 ∨ n = 3 ∨ n = 4 := by omega
  rcases this with rfl | rfl | rfl | rfl | rfl <;> decide +kernel
theorem shl_outs {n : Int} (h0 : 0 ≤ n) (h1 : n ≤ 10) : 1 ≤ shl .i64 1 n ∧ shl .i64 1 n ≤ 1024 := by
  have : n = 0 ∨ n = 1 ∨ n = 2 ∨ n = 3 ∨ n = 4 ∨ n = 5 ∨ n = 6 ∨ n = 7 ∨ n = 8 ∨ n = 9 ∨ n = 10 := by omega
  rcases this with rfl | rfl | rfl | rfl | rfl | rfl | rfl | rfl | rfl | rfl | rfl <;> decide +kernel

/-- A table that Check passes. -/
structure OKT (ins outs : Int) (t : Tab) : Prop where
  i0 : 0 ≤ ins
  i1 : ins ≤ 4
  o0 : 0 ≤ outs
  o1 : outs ≤ 10
  n1 : 1 ≤ t.length
  n2 : t.length ≤ 64
  row : ∀ row ∈ t, (row.length : Int) = shl .i64 1 ins
  ok : ∀ row ∈ t, ∀ r ∈ row, 0 ≤ r.f0 ∧ r.f0 < shl .i64 1 outs ∧ 0 ≤ r.f1 ∧ r.f1 < t.length

section
variable {ins outs : Int} {t : Tab}
theorem OKT.tab (h : OKT ins outs t) : TabR t := by
  have h1 := shl_ins h.i0 h.i1
  have h2 := shl_outs h.o0 h.o1
  refine ⟨h.n1, h.n2, ⟨(shl .i64 1 ins).toNat, by omega, fun row hr => by have := h.row row hr; omega⟩, fun row hr r hr' => ?_⟩
  have := h.ok row hr r hr'
  omega
theorem OKT.cel (h : OKT ins outs t) {s a : Nat} (hs : s < t.length) (ha : a < (roww t s).length) : 0 ≤ (cel t s a).f0 ∧ (cel t s a).f0 < shl .i64 1 outs ∧ 0 ≤ (cel t s a).f1 ∧ (cel t s a).f1 < t.length := h.ok _ (roww_mem hs) _ (cel_mem ha)
theorem OKT.min (h : OKT ins outs t) : OKT ins outs (minRows t) := by
  have hT := h.tab
  have hM := min_tabR hT
  have key : ∀ row ∈ minRows t, ∃ x, x < (fin t).length ∧ row = roww (minRows t) x := fun row hr => by
    obtain ⟨x, hx, e⟩ := List.getElem_of_mem hr
    exact ⟨x, by rw [← min_len hT]; exact hx, by unfold roww; rw [getD_of_lt _ _ hx, e]⟩
  refine ⟨h.i0, h.i1, h.o0, h.o1, hM.n1, hM.n2, fun row hr => ?_, fun row hr r hr' => ?_⟩
  · obtain ⟨x, hx, rfl⟩ := key row hr
    rw [min_rlen hT hx]
    exact h.row _ (roww_mem (reps_lt (fin_is hT).2.1 hx))
  · have h1 := hM.ok row hr r hr'
    obtain ⟨x, hx, rfl⟩ := key row hr
    obtain ⟨a, ha, rfl⟩ := List.getElem_of_mem hr'
    have ha' : a < (roww t ((fin t).getD x 0)).length := by rw [← min_rlen hT hx]; exact ha
    have e : (roww (minRows t) x)[a] = PL.cel (minRows t) x a := by unfold PL.cel; rw [getD_of_lt _ _ ha]
    rw [e] at h1 ⊢
    refine ⟨h1.1, ?_, h1.2.2.1, h1.2.2.2⟩
    rw [min_out hT hx ha']
    exact (h.cel (reps_lt (fin_is hT).2.1 hx) ha').2.1

theorem chk_l1 (h : OKT ins outs t) (s : Nat) (hs : s < t.length) (R : Int) (hR : Ev (fun k => learn_Check.l0 k t (t.length : Int) ((s + 1 : Nat) : Int) ins outs t) R) : ∀ d a : Nat, a + d = (roww t s).length →
    Ev (fun k => learn_Check.l1 k t (t.length : Int) (s : Int) (roww t s) ((roww t s).length : Int) (a : Int) ins outs t) R := by
  have hn := h.n2
  have hl := h.tab.len_le hs
  intro d
  induction d with
  | zero => intro a ha; refine Ev.step (fun k => ?_) hR; simp only [learn_Check.l1]; rw [if_neg (by omega), wnext (by omega)]
  | succ d ih =>
    intro a ha
    have hc := h.cel hs (a := a) (by omega)
    have e : rd_T77 (roww t s) (a : Int) = PL.cel t s a := rfl
    refine Ev.step (f := fun k => learn_Check.j3 k t (t.length : Int) (s : Int) (roww t s) ((roww t s).length : Int) (a : Int) false ins outs t (PL.cel t s a).f0 (PL.cel t s a).f1) (fun k => ?_) ?_
    · simp only [learn_Check.l1, e]; rw [if_pos (by omega), if_pos (by omega), if_pos (by omega), if_neg (by omega), if_pos h.o0, decide_eq_false (by omega)]
    · refine Ev.step (fun k => ?_) (ih (a + 1) (by omega))
      simp only [learn_Check.j3]; rw [if_neg (by simp), if_neg (by omega), if_neg (by omega), wnext (by omega)]
theorem chk_l0 (h : OKT ins outs t) : ∀ d s : Nat, s + d = t.length → Ev (fun k => learn_Check.l0 k t (t.length : Int) (s : Int) ins outs t) 0 := by
  have hn := h.n2
  intro d
  induction d with
  | zero => intro s hs; refine Ev.step (fun k => ?_) (Ev.now _); simp only [learn_Check.l0]; rw [if_neg (by omega)]
  | succ d ih =>
    intro s hs
    have e : rd_L2 t (s : Int) = roww t s := rfl
    refine Ev.step (fun k => ?_) (chk_l1 h s (by omega) 0 (ih (s + 1) (by omega)) (roww t s).length 0 (by omega))
    simp only [learn_Check.l0, e]; rw [if_pos (by omega), if_pos (by omega), if_pos (by omega), if_pos h.i0, if_pos (h.row _ (roww_mem (by omega)))]; rfl
theorem chk_is (h : OKT ins outs t) : Ev (fun k => learn_Check.f k ins outs t) 0 := by
  have h1 := h.i0; have h2 := h.i1; have h3 := h.o0; have h4 := h.o1; have h5 := h.n1; have h6 := h.n2
  refine Ev.congr (f := fun k => learn_Check.j0 k false ins outs t) (fun k => ?_) ?_
  · unfold learn_Check.f; rw [if_neg (by omega), if_neg (by omega), if_neg (by omega), if_neg (by omega), decide_eq_false (by omega)]
  · refine Ev.step (fun k => ?_) (chk_l0 h t.length 0 (by omega))
    simp only [learn_Check.j0]; rw [if_neg (by simp), if_neg (by omega)]; rfl
theorem OKT.tabOK (h : OKT ins outs t) : TabOK ins outs t := ⟨(chk_is h).rounds, h.tab⟩

/-! ### runs -/
def runO (t : Tab) : Nat → List Int → List Int
  | _, [] => []
  | s, a :: w => (PL.cel t s a.toNat).f0 :: runO t (PL.cel t s a.toNat).f1.toNat w
theorem runO_len (t : Tab) : ∀ (w : List Int) (s : Nat), (runO t s w).length = w.length
  | [], _ => rfl
  | a :: w, s => by simp [runO, runO_len t w]
def InW (ins : Int) (w : List Int) : Prop := ∀ x ∈ w, 0 ≤ x ∧ x < shl .i64 1 ins

theorem run_min (h : OKT ins outs t) : ∀ (w : List Int) (j s : Nat), InW ins w → j < (fin t).length → s < t.length → Bis t ((fin t).getD j 0) s → runO (minRows t) j w = runO t s w
  | [], _, _, _, _, _, _ => rfl
  | a :: w, j, s, hw, hj, hs, hb => by
    have hT := h.tab
    have ha := hw a (by simp)
    have hjl := reps_lt (fin_is hT).2.1 hj
    have r1 := h.row _ (roww_mem hjl)
    have r2 := h.row _ (roww_mem hs)
    have h1 : a.toNat < (roww t ((fin t).getD j 0)).length := by omega
    have h2 : a.toNat < (roww t s).length := by omega
    have hl := hb.like.2 _ h1
    have hm := min_to hT hj h1
    have hc := h.cel hs h2
    simp only [runO]
    rw [min_out hT hj h1, hl.1, run_min h w _ (PL.cel t s a.toNat).f1.toNat (fun x hx => hw x (by simp [hx])) hm.2.1 (by omega) (hm.2.2.trans hl.2)]

theorem rd_natl (l : List Int) (i : Nat) (h : i < l.length) : l.drop i = rd l (i : Int) :: l.drop (i + 1) := by
  rw [List.drop_eq_getElem_cons h]; simp [rd, List.getD_eq_getElem?_getD, List.getElem?_eq_getElem h]
theorem rd_memw {l : List Int} {i : Nat} (h : i < l.length) : rd l (i : Int) ∈ l := List.mem_of_mem_drop (i := i) (by rw [rd_natl l i h]; simp)

theorem run_l0 (h : OKT ins outs t) (w : List Int) (hw : InW ins w) (hwl : w.length ≤ 60) : ∀ d i : Nat, ∀ (acc : List Int) (s : Int), i + d = w.length → acc.length = i → 0 ≤ s → s < t.length →
    Ev (fun k => learn_Run.l0 k acc s w (w.length : Int) (i : Int) ins outs t) (acc ++ runO t s.toNat (w.drop i), 0) := by
  intro d
  induction d with
  | zero =>
    intro i acc s hi ha hs0 hs1
    refine Ev.step (f := fun _ => some (acc, 0)) (fun k => ?_) ?_
    · simp only [learn_Run.l0]; rw [if_neg (by omega)]
    · rw [List.drop_of_length_le (by omega)]; simp only [runO, List.append_nil]; exact Ev.now _
  | succ d ih =>
    intro i acc s hi ha hs0 hs1
    have hr := hw _ (rd_memw (l := w) (i := i) (by omega))
    rw [rd_natl w i (by omega)]
    obtain ⟨x, hx⟩ : ∃ x, rd w (i : Int) = x := ⟨_, rfl⟩
    rw [hx] at hr ⊢
    have e1 : rd_L2 t s = roww t s.toNat := rfl
    have e2 : rd_T77 (roww t s.toNat) x = PL.cel t s.toNat x.toNat := rfl
    have hrow := h.row _ (roww_mem (t := t) (s := s.toNat) (by omega))
    have hc := h.cel (t := t) (s := s.toNat) (a := x.toNat) (by omega) (by omega)
    have hn := ih (i + 1) (acc ++ [(PL.cel t s.toNat x.toNat).f0]) (PL.cel t s.toNat x.toNat).f1 (by omega) (by simp [ha]) hc.2.2.1 hc.2.2.2
    rw [List.append_assoc] at hn
    refine Ev.step (fun k => ?_) hn
    simp only [learn_Run.l0, hx, e1, e2]
    rw [if_pos (by omega), if_pos (by omega), if_pos (by omega), if_neg (by omega), if_pos h.i0, if_neg (by omega), if_pos hs0, if_pos hs1, if_pos hr.1, if_pos (by omega), if_pos (by omega), wnext (by omega)]
theorem run_is (h : OKT ins outs t) (w : List Int) (hw : InW ins w) (hwl : w.length ≤ 60) : Ev (fun k => learn_Run.f k ins outs t w) (runO t 0 w, 0) := by
  unfold learn_Run.f
  refine Ev.bind (chk_is h) ?_
  refine Ev.congr (f := fun k => learn_Run.l0 k ([] : List Int) 0 w (w.length : Int) 0 ins outs t) (fun k => by rw [if_pos rfl]) ?_
  have := run_l0 h w hw hwl w.length 0 [] 0 (by omega) rfl (by omega) (by have := h.n1; omega)
  simpa using this

theorem eq_l0 (l : List Int) (hl : l.length ≤ 1000) : ∀ d i : Nat, i + d = l.length → Ev (fun k => slices_Equal_int_int.l0 k l l (l.length : Int) (i : Int)) true := by
  intro d
  induction d with
  | zero => intro i hi; refine Ev.step (fun k => ?_) (Ev.now _); simp only [slices_Equal_int_int.l0]; rw [if_neg (by omega)]
  | succ d ih =>
    intro i hi
    refine Ev.step (fun k => ?_) (ih (i + 1) (by omega))
    simp only [slices_Equal_int_int.l0]; rw [if_pos (by omega), if_pos (by omega), if_pos (by omega), if_pos (by omega), if_pos trivial, wnext (by omega)]
theorem eq_is (l : List Int) (hl : l.length ≤ 1000) : Ev (fun k => slices_Equal_int_int.f k l l) true :=
  Ev.congr (fun k => by unfold slices_Equal_int_int.f; rw [if_pos rfl]; rfl) (eq_l0 l hl l.length 0 (by omega))

theorem below_is (x n : Int) (hn : 0 < n) (h16 : n ≤ 16) : ∃ v, bakemake_Below.f x n = some v ∧ 0 ≤ v ∧ v < n := by
  have h1 := Int.tmod_lt_of_pos x hn
  have h2 := Int.lt_tmod_of_pos x hn
  unfold bakemake_Below.f
  rw [if_neg (by omega)]
  by_cases h : Int.tmod x n < 0
  · rw [if_pos h, w64 (by omega) (by omega)]; exact ⟨_, rfl, by omega, by omega⟩
  · rw [if_neg h]; exact ⟨_, rfl, by omega, h1⟩

/-! ### a fact about tables -/
def T0 : Tab := [[⟨0, 0⟩, ⟨0, 1⟩], [⟨0, 0⟩, ⟨0, 0⟩]]
theorem T0_ok : OKT 1 1 T0 := by
  refine ⟨by decide, by decide, by decide, by decide, by decide, by decide, ?_, ?_⟩
  · intro row hr
    simp only [T0, List.mem_cons, List.not_mem_nil, or_false] at hr
    rcases hr with rfl | rfl <;> decide +kernel
  · have e : shl .i64 1 1 = 2 := by decide +kernel
    intro row hr r hr'
    simp only [T0, List.mem_cons, List.not_mem_nil, or_false] at hr
    rcases hr with rfl | rfl <;> (simp only [List.mem_cons, List.not_mem_nil, or_false] at hr'; rcases hr' with rfl | rfl <;> simp [T0, e])
theorem T0_bis (x y : Nat) (hx : x < 2) (hy : y < 2) : Bis T0 x y := by
  refine ⟨fun x y => x < 2 ∧ y < 2, ⟨hx, hy⟩, ?_⟩
  rintro x y ⟨hx, hy⟩
  have h1 : x = 0 ∨ x = 1 := by omega
  have h2 : y = 0 ∨ y = 1 := by omega
  rcases h1 with rfl | rfl <;> rcases h2 with rfl | rfl <;> (refine ⟨rfl, fun a ha => ?_⟩; have h3 : a = 0 ∨ a = 1 := (by simp only [roww, T0, List.getD_cons_zero, List.getD_cons_succ, List.length_cons, List.length_nil] at ha; omega); rcases h3 with rfl | rfl <;> exact ⟨rfl, by decide, by decide⟩)
theorem T0_idx (q : Nat) (hq : q < 2) : idxB T0 [0] q = 0 := idxB_eq (Rchd.one (by decide)) (by simp) (T0_bis _ _ (by decide) hq)
theorem T0_min : (minRows T0).length = 1 := by
  have e : minRow T0 (roww T0 (([0] : List Nat).getD 0 0)) [0] [] = ([0], [⟨0, (0 : Nat)⟩, ⟨0, (0 : Nat)⟩]) := by
    show minRow T0 [⟨0, 0⟩, ⟨0, 1⟩] [0] [] = _
    have h0 : idxB T0 [0] (⟨0, 0⟩ : S77).f1.toNat = 0 := T0_idx _ (by decide)
    have h1 : idxB T0 [0] (⟨0, 1⟩ : S77).f1.toNat = 0 := T0_idx _ (by decide)
    rw [minRow, h0, if_pos (by decide), minRow, h1, if_pos (by decide), minRow]
    rfl
  show (minGo T0 3 0 [0] []).length = 1
  rw [minGo, if_pos (by decide), e, minGo, if_neg (by decide)]
  rfl
theorem learned_is : bakekeep3_learned.f = some true := by
  unfold bakekeep3_learned.f
  have h := learn_Min.ok (T0_ok.tabOK)
  have e : learn_Min.f 1 1 (([(([(⟨0, 0⟩ : S77), (⟨0, 1⟩ : S77)] : List (S77))), (([(⟨0, 0⟩ : S77), (⟨0, 0⟩ : S77)] : List (S77)))] : List (List (S77)))) = some (1, 1, minRows T0, 0) := h
  rw [e, Option.bind_some, if_pos rfl, T0_min]
  rfl

end

theorem valid_ok {ins outs : Int} {t : Tab} (h : ValidT ins outs t) : OKT ins outs t := by
  have h1 := h.i0; have h2 := h.i1; have h3 := h.o0; have h4 := h.o1; have h5 := h.r0; have h6 := h.r1
  have e1 : shl .i64 1 ins = wrap64 (2 ^ ins.toNat) := by
    have : ins = 1 ∨ ins = 2 := by omega
    rcases this with rfl | rfl <;> decide +kernel
  have e2 : shl .i64 1 outs = wrap64 (2 ^ outs.toNat) := by
    have : outs = 1 ∨ outs = 2 ∨ outs = 3 := by omega
    rcases this with rfl | rfl | rfl <;> decide +kernel
  refine ⟨by omega, by omega, by omega, by omega, h5, by omega, fun row hr => by rw [e1]; exact (h.ok row hr).1, fun row hr r hr' => ?_⟩
  have := (h.ok row hr).2 r hr'
  rw [e2]
  exact this
end Go.Proofs.Ytaalafnkglbcpaa.PL
end

/- synth.Of of a valid table gives a circuit that does as the table (30, 58). Own text of this claim. -/
section
namespace Go.Proofs.Ytaalafnkglbcpaa.SY
open Go.RowKit Go.WideMaps Go.Maps Go.Proofs.YtaalafnkglbcpaaW.PrintWords Go.Proofs.YtaalafnkglbcpaaW.PrintLast Go.Proofs.YtaalafnkglbcpaaW.PrintMore
open Go.Proofs.Ytaalafnkglbcpaa.PL (S77 z77 k77 Tab TabR roww cel OKT chk_is)
open Go.Proofs.Ytaalafnkglbcpaa.PG (S50 z50 k50 GateOk GatesOk)
set_option linter.unusedVariables false
set_option linter.unusedSimpArgs false
set_option maxHeartbeats 4000000 in
set_option maxRecDepth 100000 in
theorem width_calls (n : Nat) (h0 : 1 ≤ n) (h6 : n ≤ 6) (w : World) : Calls Try.prog 58 #[.int .i64 (n : Int)] w fun e w' => e = .returned (.int .i64 (widthN n : Nat)) ∧ Drawn0 w w' := by
  have HW : Aside0 (∀ k : Nat, k ≤ 3 → (∀ j, j < k → 2 ^ j < n) → ¬ 2 ^ k < n → widthN n = k) := ⟨fun k hk h1 h2 => by
    have : n = 1 ∨ n = 2 ∨ n = 3 ∨ n = 4 ∨ n = 5 ∨ n = 6 := by omega
    have hk' : k = 0 ∨ k = 1 ∨ k = 2 ∨ k = 3 := by omega
    have g0 := h1 0
    have g1 := h1 1
    have g2 := h1 2
    rcases this with rfl | rfl | rfl | rfl | rfl | rfl <;> rcases hk' with rfl | rfl | rfl | rfl <;> simp [widthN] at * ⟩
  have W64 : Aside0 (∀ k : Nat, k ≤ 3 → wrap64 ((2 : Int) ^ k) = ((2 ^ k : Nat) : Int)) := ⟨fun k hk => by
    have hk' : k = 0 ∨ k = 1 ∨ k = 2 ∨ k = 3 := by omega
    rcases hk' with rfl | rfl | rfl | rfl <;> decide +kernel⟩
  go_enter Try.func58, Try.ntmps58
  go_wp2
  go_loopw [3] (fun v3 wr => wr = w ∧ ∃ k : Nat, k ≤ 3 ∧ v3 = .int .i64 (k : Int) ∧ Aside0 (∀ j, j < k → 2 ^ j < n)) (fun v3 _ => 3 - (intOf v3).toNat)
  case atStart => exact ⟨rfl, 0, by omega, rfl, ⟨fun j hj => by omega⟩⟩
  case round =>
    obtain ⟨rfl, k, hk, rfl, HJ⟩ := hrel
    have hw := Aside0.mk (W64.out k hk)
    by_cases hlt : 2 ^ k < n
    · have hk3 : k < 3 := by
        rcases Nat.lt_or_ge k 3 with h | h
        · exact h
        · have e : k = 3 := by omega
          subst e; have h8 : (2 : Nat) ^ 3 = 8 := rfl; omega
      have ht : wrap64 ((2 : Int) ^ k) < (n : Int) := by rw [hw.out]; exact_mod_cast hlt
      have HJ2 : Aside0 (∀ j, j < k + 1 → 2 ^ j < n) := ⟨fun j hj => by
        rcases Nat.lt_or_ge j k with h | h
        · exact HJ.out j h
        · have e : j = k := by omega
          subst e; exact hlt⟩
      clear hlt HJ
      go_wp2
      go_roundw
      case rel => exact ⟨trivial, k + 1, by omega, by go_num, HJ2⟩
      case measure => simp [intOf]; omega
    · have ht : ¬ wrap64 ((2 : Int) ^ k) < (n : Int) := by rw [hw.out]; exact_mod_cast hlt
      have HR := Aside0.mk (HW.out k hk HJ.out hlt)
      clear hlt
      go_wp2
      go_ret
      exact ⟨by rw [HR.out]; rfl, Drawn0.refl _⟩
theorem shl_nat (n : Nat) (h : n ≤ 10) : shl .i64 1 (n : Int) = ((2 ^ n : Nat) : Int) := by
  have : n = 0 ∨ n = 1 ∨ n = 2 ∨ n = 3 ∨ n = 4 ∨ n = 5 ∨ n = 6 ∨ n = 7 ∨ n = 8 ∨ n = 9 ∨ n = 10 := by omega
  rcases this with rfl | rfl | rfl | rfl | rfl | rfl | rfl | rfl | rfl | rfl | rfl <;> decide +kernel
/-- A table that Check lets pass, over plain numbers. -/
structure TabN (I O : Nat) (t : Tab) : Prop where
  n1 : 1 ≤ t.length
  row : ∀ s, s < t.length → (roww t s).length = 2 ^ I
  ok : ∀ s a, s < t.length → a < 2 ^ I → 0 ≤ (cel t s a).f0 ∧ (cel t s a).f0.toNat < 2 ^ O ∧ 0 ≤ (cel t s a).f1 ∧ (cel t s a).f1.toNat < t.length
theorem TabN.of {I O : Nat} {t : Tab} (h : OKT (I : Int) (O : Int) t) : TabN I O t := by
  have h1 := h.i1
  have h2 := h.o1
  have e1 := shl_nat I (by omega)
  have e2 := shl_nat O (by omega)
  have hr : ∀ s, s < t.length → (roww t s).length = 2 ^ I := fun s hs => by
    have := h.row _ (PL.roww_mem hs)
    rw [e1] at this
    exact_mod_cast this
  refine ⟨h.n1, hr, fun s a hs ha => ?_⟩
  have := h.cel hs (a := a) (by rw [hr s hs]; exact ha)
  rw [e2] at this
  exact ⟨this.1, by omega, this.2.2.1, by omega⟩
theorem TabN.okt {I O : Nat} {t : Tab} (h : TabN I O t) (hI : I ≤ 4) (hO : O ≤ 10) (hl : t.length ≤ 64) : OKT (I : Int) (O : Int) t := by
  have e1 := shl_nat I (by omega)
  have e2 := shl_nat O (by omega)
  refine ⟨by omega, by omega, by omega, by omega, h.n1, hl, fun row hr => ?_, fun row hr r hr' => ?_⟩
  · obtain ⟨s, hs, e⟩ := List.getElem_of_mem hr
    have := h.row s hs
    unfold roww at this
    rw [List.getD_eq_getElem?_getD, List.getElem?_eq_getElem hs] at this
    have h3 : t[s].length = 2 ^ I := this
    rw [← e, h3, e1]
  · obtain ⟨s, hs, e⟩ := List.getElem_of_mem hr
    obtain ⟨a, ha, e3⟩ := List.getElem_of_mem hr'
    have hrw : roww t s = row := by
      unfold roww
      rw [List.getD_eq_getElem?_getD, List.getElem?_eq_getElem hs]; exact e
    have hc : cel t s a = r := by
      unfold cel
      rw [hrw, List.getD_eq_getElem?_getD, List.getElem?_eq_getElem ha]; exact e3
    have h4 := h.row s hs
    rw [hrw] at h4
    have h5 := h.ok s a hs (by omega)
    rw [hc] at h5
    rw [e2]
    exact ⟨h5.1, by omega, h5.2.2.1, by omega⟩
theorem map_testBit (n y : Nat) (h : y < 2 ^ n) : bitsN ((List.range n).map y.testBit) = y := bitsN_test n y h
/-- What synth.Of gives, over plain circuits. -/
def OfC (t : Tab) (I O : Nat) (w : World) (e : Ending) (w' : World) : Prop :=
  ∃ (c : Cir) (Ag Ao An Ai : Option Addr) (cg co cn ci : Nat), e = .returned (.tuple #[c.V Ag Ao An Ai cg co cn ci, .int .i64 0]) ∧ c.In w' Ag Ao An Ai cg co cn ci ∧ Below w.heap.size w w' ∧ c.Ok ∧ Does c t ∧ c.ins = I ∧ c.outs.length = O ∧ c.next.length ≤ 3
theorem of_does {t : Tab} {I O : Nat} {gs : List S50} {outs next : List Nat} (hT : TabN I O t) (h6 : t.length ≤ 6)
    (ho : ∀ s x, outs.map (val gs s x) = (List.range O).map (fun b => ofBit t I O b (pack I (I + widthN t.length) s x))) (hn : ∀ s x, next.map (val gs s x) = (List.range (widthN t.length)).map (fun b => ofBit t I O (O + b) (pack I (I + widthN t.length) s x))) :
    Does ⟨I, gs, outs, next, List.replicate (widthN t.length) false⟩ t := by
  refine ⟨?_, fun s x hs hx => ?_, fun s x hs hx => ?_⟩
  · show bitsN (List.replicate _ false) = 0
    generalize widthN t.length = n
    induction n with
    | zero => rfl
    | succ n ih => rw [List.replicate_succ]; simp [bitsN, ih]
  · show bitsN (outs.map (val gs s x)) = _
    have hc := hT.ok s x hs hx
    rw [ho]
    rw [show (List.range O).map (fun b => ofBit t I O b (pack I (I + widthN t.length) s x)) = (List.range O).map (cel t s x).f0.toNat.testBit from List.map_congr_left (fun b hb => by
      unfold ofBit
      rw [if_pos (List.mem_range.1 hb), rowAt_pack h6 hs hx])]
    exact map_testBit O _ hc.2.1
  · show bitsN (next.map (val gs s x)) = _
    have hc := hT.ok s x hs hx
    rw [hn]
    rw [show (List.range (widthN t.length)).map (fun b => ofBit t I O (O + b) (pack I (I + widthN t.length) s x)) = (List.range (widthN t.length)).map (cel t s x).f1.toNat.testBit from List.map_congr_left (fun b hb => by
      unfold ofBit
      rw [if_neg (by omega), rowAt_pack h6 hs hx, Nat.add_sub_cancel_left])]
    exact map_testBit _ _ (widthN_lt h6 hc.2.2.2)
theorem of2_calls (w : World) (I O : Nat) (Ar : Option Addr) (cr : Nat) (t : Tab) (hI : I = 1 ∨ I = 2) (hO0 : 1 ≤ O) (hO : O ≤ 3) (h6 : t.length ≤ 6) (hT : OKT (I : Int) (O : Int) t) (hR : Kd.C (Kd.slice 77 k77) w Ar t.length t) (hcr : t.length ≤ cr) :
    Calls Try.prog 30 #[.agg #[.int .i64 (I : Int), .int .i64 (O : Int), .slice Ar t.length cr]] w (OfC t I O w) := by
  have hN := TabN.of hT
  have h1 := hT.n1
  refine (of_calls w I O Ar cr t hI hO0 hO h1 h6 hN.row (fun X => ?_) hR hcr (chk_is hT).rounds (fun W => width_calls t.length h1 h6 W)).mono ?_
  · have hp := Nat.two_pow_pos I
    unfold rowAt
    have hO8 : 2 ^ O ≤ 2 ^ 3 := Nat.pow_le_pow_right (by omega) hO
    by_cases h : X / 2 ^ I < t.length
    · rw [if_pos h]
      have := hN.ok _ (X % 2 ^ I) h (Nat.mod_lt _ hp)
      omega
    · rw [if_neg h]
      have := hN.ok 0 (X % 2 ^ I) (by omega) (Nat.mod_lt _ hp)
      omega
  · rintro e w' ⟨ug, uo, un, ui, gs, outs, next, rfl, rg, ro, rn, ri, hb, gok, g1, ook, nok, ol, nl, hO2, hN2⟩
    have ew : I + widthN t.length - I = widthN t.length := by omega
    rw [ew] at ri gok nl hN2
    have hw3 := widthN_le t.length
    obtain ⟨Ag, cg, rfl⟩ := Kd.R_slice rg
    obtain ⟨Ao, co, rfl⟩ := Kd.R_slice ro
    obtain ⟨An, cn, rfl⟩ := Kd.R_slice rn
    obtain ⟨Ai, ci, rfl⟩ := Kd.R_slice ri
    have eo : (natsI outs).length = outs.length := by simp [natsI]
    have en : (natsI next).length = next.length := by simp [natsI]
    have ei : bI (List.replicate (widthN t.length) false) = List.replicate (widthN t.length) 0 := by unfold bI; simp
    have ei2 : (List.replicate (widthN t.length) (0 : Int)).length = (List.replicate (widthN t.length) false).length := by simp
    rw [eo] at ro
    rw [en] at rn
    rw [ei2] at ri
    have g := (Kd.R_reads' rg).2
    have o := (Kd.R_reads' ro).2
    have n := (Kd.R_reads' rn).2
    have i := (Kd.R_reads' ri).2
    rw [eo] at o
    rw [en] at n
    rw [← ei, ← ei2] at i
    rw [eo, en, ei2]
    refine ⟨⟨I, gs, outs, next, List.replicate (widthN t.length) false⟩, Ag, Ao, An, Ai, cg, co, cn, ci, rfl, ⟨g.2, o.2, n.2, ?_, g.1, o.1, n.1, ?_⟩, hb, ⟨?_, ?_, g1, by show I ≤ 10; omega, by show outs.length ≤ 10; omega, by show next.length ≤ 10; omega, ook, nok, by simp [nl]⟩, of_does hN h6 hO2 hN2, rfl, ol, by show next.length ≤ 3; omega⟩
    · have h := i.2
      rw [bI_len] at h
      exact h
    · have h := i.1; simpa using h
    · show GatesOk _ _ _
      rw [nl]; exact gok
    · have h2 := ook (outs.getD 0 0) (getD_mem' (by omega))
      show 1 ≤ gs.length
      omega
end Go.Proofs.Ytaalafnkglbcpaa.SY
end

/- Pairs of numbers as keys of a map, as elements of a row; maps whose elements are held as they are. Own text of this claim. -/
section
namespace Go.Proofs.Ytaalafnkglbcpaa.SY
open Go.RowKit Go.WideMaps Go.Maps Go.Proofs.YtaalafnkglbcpaaW.PrintWords Go.Proofs.YtaalafnkglbcpaaW.PrintLast Go.Proofs.YtaalafnkglbcpaaW.PrintMore
set_option linter.unusedVariables false
set_option linter.unusedSimpArgs false
abbrev P2 := Nat × Nat
theorem lawP : Maps.Keyed Try.prog 69 := Maps.Keyed.of_law (deep_law_gate laidOut (of_decide_eq_true (by kernel_rfl)) (of_decide_eq_true (by kernel_rfl)) (by kernel_rfl) (by kernel_rfl))
def pval (p : P2) : Value := .agg #[.int .i64 (p.1 : Int), .int .i64 (p.2 : Int)]
def litP (p : P2) : Lit := .string (keyBytes [.int .i64 (p.1 : Int), .int .i64 (p.2 : Int)])
theorem lits69 (d : Nat) (p : P2) (h0 : (Lit.int .i64 (p.1 : Int)).wf = true) (h1 : (Lit.int .i64 (p.2 : Int)).wf = true) :
    Try.prog.keyLits (d + 2) 69 [.int .i64 (p.1 : Int), .int .i64 (p.2 : Int)] = some [.int .i64 (p.1 : Int), .int .i64 (p.2 : Int)] := by
  have c69 : Try.prog.cellsOf 69 = 2 := by kernel_rfl
  have c3 : Try.prog.cellsOf 3 = 1 := by kernel_rfl
  unfold Program.keyLits
  rw [Try.underlying69]
  simp [c69, c3, lits3, h0, h1, show List.range 2 = [0, 1] from rfl]
set_option maxRecDepth 10000 in
theorem key_p (p : P2) (h0 : p.1 ≤ 100000) (h1 : p.2 ≤ 100000) : keyOf Try.prog 69 (pval p) = some (litP p) := by
  have w0 : (Lit.int .i64 (p.1 : Int)).wf = true := wf_small (by omega) (by omega)
  have w1 : (Lit.int .i64 (p.2 : Int)).wf = true := wf_small (by omega) (by omega)
  have hk : Try.prog.keyType 69 = true := by kernel_rfl
  obtain ⟨m, hm⟩ : ∃ m, Try.prog.types.size + 1 = m + 2 := ⟨Try.prog.types.size - 1, by have : 1 ≤ Try.prog.types.size := of_decide_eq_true (by kernel_rfl); omega⟩
  have hf : (pval p).formed Try.prog 69 = true := by
    have c69 : Try.prog.cellsOf 69 = 2 := by kernel_rfl
    unfold pval Value.formed
    rw [Try.underlying69]
    simp [c69]
  unfold keyOf
  rw [Try.underlying69]
  simp only [hk, hf, hm, Bool.and_self, if_true]
  have hc : (pval p).cells.toList = [.int .i64 (p.1 : Int), .int .i64 (p.2 : Int)] := by unfold pval; simp [Value.cells]
  rw [hc, lits69 m p w0 w1]
  rfl
theorem litP_inj {p q : P2} (hp : p.1 ≤ 100000 ∧ p.2 ≤ 100000) (hq : q.1 ≤ 100000 ∧ q.2 ≤ 100000) (e : litP p = litP q) : p = q := by
  have h : pval p = pval q := lawP.inj (key_p p hp.1 hp.2) (by rw [e]; exact key_p q hq.1 hq.2)
  obtain ⟨a, b⟩ := p
  obtain ⟨a', b'⟩ := q
  simp only [pval, Value.agg.injEq, Array.mk.injEq, List.cons.injEq, Value.int.injEq, true_and, and_true] at h
  have h1 : a = a' := by omega
  have h2 : b = b' := by omega
  rw [h1, h2]
/-- An element that is held as it is. -/
def heldE (v : Value) : Option (DataW Value × List MemPlace) := some (.held v, [])
/-- A map over keys in the order of their coming, with what stands at each. -/
structure MapV (D : DataW Value) (ks : List Lit) (vs : List Value) : Prop where
  tidy : Tidy D
  size : Maps.size D = ks.length
  has : ∀ k, Maps.has D k = true ↔ k ∈ ks
  at' : ∀ (i : Nat) (k : Lit) (v : Value), ks[i]? = some k → vs[i]? = some v → ∀ z, D.atKey k z = .held v
  len : vs.length = ks.length
theorem MapV.start : MapV (.map []) [] [] := ⟨tidy_empty, rfl, fun k => by simp [Maps.has], fun i k v h => by simp at h, rfl⟩
theorem MapV.put {D : DataW Value} {ks : List Lit} {vs : List Value} (h : MapV D ks vs) {k : Lit} (hk : WideAt.IsKeyLit k) (hn : k ∉ ks) (v : Value) : MapV (D.put k (.held v)) (ks ++ [k]) (vs ++ [v]) := by
  refine ⟨h.tidy.put hk _, ?_, fun k' => ?_, fun i k' v' hi hv z => ?_, by simp [h.len]⟩
  · rw [Maps.size_put h.tidy, if_neg (fun e => hn ((h.has k).1 e)), h.size, List.length_append, List.length_singleton]
  · by_cases e : k' = k
    · subst e; simp [Maps.has_put_same h.tidy.isMap hk]
    · rw [Maps.has_put_other e, h.has]; simp [e]
  · rcases Nat.lt_or_ge i ks.length with q | q
    · rw [List.getElem?_append_left q] at hi
      rw [List.getElem?_append_left (by rw [h.len]; exact q)] at hv
      have hne : k' ≠ k := fun e => hn (e ▸ List.mem_of_getElem? hi)
      rw [Maps.atKey_put_other hne]
      exact h.at' i k' v' hi hv z
    · rw [List.getElem?_append_right q] at hi
      rw [List.getElem?_append_right (by rw [h.len]; exact q)] at hv
      have h0 : i - ks.length = 0 := by
        rcases Nat.eq_zero_or_pos (i - ks.length) with e | e
        · exact e
        · rw [List.getElem?_eq_none (by simp; omega)] at hi; cases hi
      rw [h0] at hi
      rw [h.len, h0] at hv
      simp at hi hv
      subst hi
      subst hv
      exact Maps.atKey_put_same h.tidy.isMap hk _ _
/-! ### pairs as elements -/
theorem info69 : (Try.prog.info? 69).map (fun i => (i.zero, i.size, i.bytes)) = some (some (.agg #[.int .i64 0, .int .i64 0]), 2, 16) := by kernel_rfl
def k69 : Kd P2 := Kd.iso (Kd.pair (Kd.int .i64) (Kd.int .i64)) (fun x : P2 => ((x.1 : Int), (x.2 : Int)))
theorem k69_open {w : World} {x : P2} {cs : List Value} (h : k69.K w x cs) : cs = [.int .i64 (x.1 : Int), .int .i64 (x.2 : Int)] := by
  obtain ⟨_, _, rfl, rfl, rfl⟩ := h
  exact rfl
theorem k69_mk (w : World) (x : P2) : k69.K w x [.int .i64 (x.1 : Int), .int .i64 (x.2 : Int)] := ⟨[.int .i64 (x.1 : Int)], [.int .i64 (x.2 : Int)], rfl, rfl, rfl⟩
theorem k69_mkM (w : World) (base : Nat) (ok : Nat → Prop) (x : P2) : k69.M w base ok x [.int .i64 (x.1 : Int), .int .i64 (x.2 : Int)] := ⟨[.int .i64 (x.1 : Int)], [.int .i64 (x.2 : Int)], rfl, rfl, rfl⟩
theorem at_P2 {w : World} {A : Option Addr} {n : Nat} {xs : List P2} (h : Kd.C k69 w A n xs) (i : Nat) (h1 : i < n) : ∃ ad , A = some ad ∧ w.cell? (ad.add (i * 2)) = some (.int .i64 ((xs.getD i (0, 0)).1 : Int)) ∧ w.cell? ⟨(ad.add (i * 2)).block, (ad.add (i * 2)).off + 1, none⟩ = some (.int .i64 ((xs.getD i (0, 0)).2 : Int)) := by
  obtain ⟨ad, c, e, _, hK, hc0⟩ := Kd.C_get h ((0, 0) : P2) (i : Int) (by omega) (by omega)
  rw [Int.toNat_natCast] at hK hc0
  have hc : ∀ j u, c[j]? = some u → w.cell? (ad.add (i * 2 + j)) = some u := hc0
  obtain rfl := k69_open hK
  exact ⟨ad, e, hc 0 _ rfl, by rw [← add_field _ _ 1 (by omega)]; exact hc 1 _ rfl⟩
end Go.Proofs.Ytaalafnkglbcpaa.SY
end

/- Inputs that tell a circuit from a table, plain: paths, pairs that are reached, what is done. Own text of this claim. -/
section
namespace Go.Proofs.Ytaalafnkglbcpaa.SY
open Go.RowKit Go.WideMaps Go.Maps Go.Proofs.YtaalafnkglbcpaaW.PrintWords Go.Proofs.YtaalafnkglbcpaaW.PrintLast Go.Proofs.YtaalafnkglbcpaaW.PrintMore
open Go.Proofs.Ytaalafnkglbcpaa.PL (S77 z77 k77 Tab TabR roww cel)
set_option linter.unusedVariables false
def stT (t : Tab) (s : Nat) (l : List Nat) : Nat := l.foldl (fun s x => (cel t s x).f1.toNat) s
def runT (t : Tab) : Nat → List Nat → List Int
  | _, [] => []
  | s, x :: l => (cel t s x).f0 :: runT t (cel t s x).f1.toNat l
theorem runT_app (t : Tab) (l m : List Nat) : ∀ s, runT t s (l ++ m) = runT t s l ++ runT t (stT t s l) m := by
  induction l with
  | nil => intro s; rfl
  | cons x l ih => intro s; simp [runT, stT, ih]
theorem runT_len (t : Tab) (l : List Nat) : ∀ s, (runT t s l).length = l.length := by
  induction l with
  | nil => intro s; rfl
  | cons x l ih => intro s; simp [runT, ih]
theorem stT_app (t : Tab) (l m : List Nat) (s : Nat) : stT t s (l ++ m) = stT t (stT t s l) m := by unfold stT; rw [List.foldl_append]
/-- The pair behind p and input x. -/
def nx2 (c : Cir) (t : Tab) (p : P2) (x : Nat) : P2 := (c.nxt p.1 x, (cel t p.2 x).f1.toNat)
def Eq2 (c : Cir) (t : Tab) (p : P2) (x : Nat) : Prop := ((c.out p.1 x : Nat) : Int) = (cel t p.2 x).f0
structure Path (c : Cir) (t : Tab) (l : List Nat) (p : P2) : Prop where
  st : p.1 = c.stN c.start l
  tt : p.2 = stT t 0 l
  eq : natsI (c.runO c.start l) = runT t 0 l
  lt : ∀ x ∈ l, x < 2 ^ c.ins
section
variable {c : Cir} {t : Tab} {l : List Nat} {p : P2}
theorem Path.nil : Path c t [] (c.start, 0) := ⟨rfl, rfl, rfl, fun x h => by simp at h⟩
theorem run_snoc (h1 : p.1 = c.stN c.start l) (h2 : p.2 = stT t 0 l) (x : Nat) : natsI (c.runO c.start (l ++ [x])) = natsI (c.runO c.start l) ++ [((c.out p.1 x : Nat) : Int)] ∧ runT t 0 (l ++ [x]) = runT t 0 l ++ [(cel t p.2 x).f0] := by
  rw [Cir.runO_app, runT_app, ← h1, ← h2]
  exact ⟨by simp [natsI, Cir.runO], rfl⟩
theorem Path.snoc (h : Path c t l p) {x : Nat} (hx : x < 2 ^ c.ins) (e : Eq2 c t p x) : Path c t (l ++ [x]) (nx2 c t p x) := by
  obtain ⟨h1, h2⟩ := run_snoc (t := t) h.st h.tt x
  refine ⟨?_, ?_, ?_, fun y hy => ?_⟩
  · rw [Cir.stN_app, ← h.st]; rfl
  · rw [stT_app, ← h.tt]; rfl
  · rw [h1, h2, h.eq]; unfold Eq2 at e; rw [e]
  · rcases List.mem_append.1 hy with hy | hy
    · exact h.lt y hy
    · rw [List.mem_singleton.1 hy]; exact hx
end
/-- Inputs l tell c from t, at their last place. -/
def Tells (c : Cir) (t : Tab) (l : List Nat) : Prop := ∃ (l0 : List Nat) (x : Nat) (p : P2), l = l0 ++ [x] ∧ Path c t l0 p ∧ x < 2 ^ c.ins ∧ ¬ Eq2 c t p x
def NoneTells (c : Cir) (t : Tab) : Prop := ∃ R : P2 → Prop, R (c.start, 0) ∧ ∀ p, R p → ∀ x, x < 2 ^ c.ins → Eq2 c t p x ∧ R (nx2 c t p x)
theorem NoneTells.run {c : Cir} {t : Tab} (h : NoneTells c t) : ∀ l : List Nat, (∀ x ∈ l, x < 2 ^ c.ins) → natsI (c.runO c.start l) = runT t 0 l := by
  obtain ⟨R, h0, h1⟩ := h
  have key : ∀ (l : List Nat) (p : P2), R p → (∀ x ∈ l, x < 2 ^ c.ins) → natsI (c.runO p.1 l) = runT t p.2 l := by
    intro l
    induction l with
    | nil => intro p _ _; rfl
    | cons x l ih =>
      intro p hp hl
      obtain ⟨e, hn⟩ := h1 p hp x (hl x List.mem_cons_self)
      have h2 := ih _ hn (fun y hy => hl y (List.mem_cons_of_mem _ hy))
      unfold Eq2 at e
      show ((c.out p.1 x : Nat) : Int) :: natsI (c.runO (c.nxt p.1 x) l) = (cel t p.2 x).f0 :: runT t _ l
      rw [e]
      exact congrArg _ h2
  exact fun l hl => key l _ h0 hl
/-- What is reached while pairs are looked at: i of them are done. -/
structure FS (c : Cir) (t : Tab) (i : Nat) (reps : List P2) (ws : List (List Nat)) : Prop where
  le : i ≤ reps.length
  len : ws.length = reps.length
  nd : reps.Nodup
  bd : ∀ p ∈ reps, p.1 < 2 ^ c.next.length ∧ p.2 < t.length
  path : ∀ k, k < reps.length → Path c t (ws.getD k []) (reps.getD k (0, 0))
  wl : ∀ k, k < reps.length → (ws.getD k []).length ≤ k
  hd : reps.getD 0 (0, 0) = (c.start, 0)
  pos : 1 ≤ reps.length
  done : ∀ k, k < i → ∀ x, x < 2 ^ c.ins → Eq2 c t (reps.getD k (0, 0)) x ∧ nx2 c t (reps.getD k (0, 0)) x ∈ reps
theorem getD_mem2 {α : Type} {l : List α} {z : α} {i : Nat} (h : i < l.length) : l.getD i z ∈ l := by
  rw [List.getD_eq_getElem?_getD, List.getElem?_eq_getElem h]; exact List.getElem_mem _
section
variable {c : Cir} {t : Tab} {i : Nat} {reps : List P2} {ws : List (List Nat)}
theorem FS.start (hi : c.init.length = c.next.length) (ht : 1 ≤ t.length) : FS c t 0 [(c.start, 0)] [[]] := by
  refine ⟨by simp, rfl, by simp, fun p hp => ?_, fun k hk => ?_, fun k hk => ?_, rfl, by simp, fun k hk => by omega⟩
  · simp at hp; subst hp
    have h := bitsN_lt c.init
    rw [hi] at h
    exact ⟨h, by show 0 < t.length; omega⟩
  · have e : k = 0 := by simp at hk; omega
    subst e; exact Path.nil
  · have e : k = 0 := by simp at hk; omega
    subst e; simp
theorem FS.card (h : FS c t i reps ws) : reps.length ≤ 2 ^ c.next.length * t.length := by
  have hn : (reps.map (fun p => p.1 * t.length + p.2)).Nodup := by
    rw [List.nodup_iff_pairwise_ne, List.pairwise_map]
    have h0 := h.nd
    rw [List.nodup_iff_pairwise_ne] at h0
    refine h0.imp_of_mem (fun {a b} ha hb hab e => hab ?_)
    have h1 := (h.bd a ha).2
    have h2 := (h.bd b hb).2
    have e1 : a.2 = b.2 := by
      have := congrArg (· % t.length) e
      simpa [Nat.mul_add_mod_self_right, Nat.mod_eq_of_lt h1, Nat.mod_eq_of_lt h2] using this
    have e2 : a.1 = b.1 := by
      have hp : 0 < t.length := by omega
      have := congrArg (· / t.length) e
      simpa [Nat.mul_comm _ t.length, Nat.mul_add_div hp, Nat.div_eq_of_lt h1, Nat.div_eq_of_lt h2] using this
    exact Prod.ext e2 e1
  have := nodup_le (2 ^ c.next.length * t.length) _ hn (fun y hy => by
    obtain ⟨p, hp, rfl⟩ := List.mem_map.1 hy
    obtain ⟨h1, h2⟩ := h.bd p hp
    have : (p.1 + 1) * t.length ≤ 2 ^ c.next.length * t.length := Nat.mul_le_mul_right _ h1
    rw [Nat.add_mul, Nat.one_mul] at this
    omega)
  rwa [List.length_map] at this
theorem FS.add (h : FS c t i reps ws) (hi : i < reps.length) {x : Nat} (hx : x < 2 ^ c.ins) (e : Eq2 c t (reps.getD i (0, 0)) x) (hb : (nx2 c t (reps.getD i (0, 0)) x).1 < 2 ^ c.next.length ∧ (nx2 c t (reps.getD i (0, 0)) x).2 < t.length) (hn : nx2 c t (reps.getD i (0, 0)) x ∉ reps) :
    FS c t i (reps ++ [nx2 c t (reps.getD i (0, 0)) x]) (ws ++ [ws.getD i [] ++ [x]]) := by
  have hl := h.len
  refine ⟨by simp; omega, by simp [hl], ?_, fun p hp => ?_, fun k hk => ?_, fun k hk => ?_, ?_, by simp, fun k hk y hy => ?_⟩
  · refine List.nodup_append.2 ⟨h.nd, by simp, fun a ha b hb' => ?_⟩
    rw [List.mem_singleton.1 hb']
    exact fun e => hn (e ▸ ha)
  · rcases List.mem_append.1 hp with hp | hp
    · exact h.bd p hp
    · rw [List.mem_singleton.1 hp]; exact hb
  · rw [List.length_append, List.length_singleton] at hk
    rcases Nat.lt_or_ge k reps.length with q | q
    · rw [getD_app_lt _ _ _ q, getD_app_lt _ _ _ (by omega)]
      exact h.path k q
    · have ek : k = reps.length := by omega
      subst ek
      rw [getD_app_at, ← hl, getD_app_at]
      exact (h.path i hi).snoc hx e
  · rw [List.length_append, List.length_singleton] at hk
    rcases Nat.lt_or_ge k reps.length with q | q
    · rw [getD_app_lt _ _ _ (by omega)]
      exact h.wl k q
    · have ek : k = reps.length := by omega
      subst ek
      rw [← hl, getD_app_at, List.length_append, List.length_singleton]
      have := h.wl i hi
      omega
  · rw [getD_app_lt _ _ _ (by have := h.pos; omega)]; exact h.hd
  · rw [getD_app_lt _ _ _ (by have := h.le; omega)]
    obtain ⟨a, b⟩ := h.done k hk y hy
    exact ⟨a, List.mem_append_left _ b⟩
theorem FS.next (h : FS c t i reps ws) (hi : i < reps.length) (hd : ∀ x, x < 2 ^ c.ins → Eq2 c t (reps.getD i (0, 0)) x ∧ nx2 c t (reps.getD i (0, 0)) x ∈ reps) : FS c t (i + 1) reps ws :=
  ⟨by omega, h.len, h.nd, h.bd, h.path, h.wl, h.hd, h.pos, fun k hk => by
    rcases Nat.lt_or_ge k i with q | q
    · exact h.done k q
    · have e : k = i := by omega
      subst e; exact hd⟩
theorem FS.fin (h : FS c t i reps ws) (hi : i = reps.length) : NoneTells c t := by
  subst hi
  refine ⟨fun p => p ∈ reps, ?_, fun p hp x hx => ?_⟩
  · rw [← h.hd]; exact getD_mem2 (by have := h.pos; omega)
  · obtain ⟨k, hk, rfl⟩ := List.getElem_of_mem hp
    have h1 := h.done k hk x hx
    rw [List.getD_eq_getElem?_getD, List.getElem?_eq_getElem hk] at h1
    exact h1
theorem FS.tells (h : FS c t i reps ws) (hi : i < reps.length) {x : Nat} (hx : x < 2 ^ c.ins) (e : ¬ Eq2 c t (reps.getD i (0, 0)) x) : Tells c t (ws.getD i [] ++ [x]) ∧ ((ws.getD i [] ++ [x]).length = 1 ∨ ∀ a, a < 2 ^ c.ins → Eq2 c t (c.start, 0) a) := by
  refine ⟨⟨_, x, _, rfl, h.path i hi, hx, e⟩, ?_⟩
  rcases Nat.eq_zero_or_pos i with q | q
  · subst q
    have := h.wl 0 hi
    exact .inl (by rw [List.length_append, List.length_singleton]; omega)
  · refine .inr (fun a ha => ?_)
    have := (h.done 0 q a ha).1
    rwa [h.hd] at this
end
end Go.Proofs.Ytaalafnkglbcpaa.SY
end

/- equal.Check (63) and equal.step (64), walked by hand. Own text of this claim. -/
section
namespace Go.Proofs.Ytaalafnkglbcpaa.SY
open Go.RowKit Go.WideMaps Go.Maps Go.Proofs.YtaalafnkglbcpaaW.PrintWords Go.Proofs.YtaalafnkglbcpaaW.PrintLast Go.Proofs.YtaalafnkglbcpaaW.PrintMore
open Go.Proofs.Ytaalafnkglbcpaa.PL (S77 z77 k77 Tab TabR roww cel OKT chk_is)
open Go.Proofs.Ytaalafnkglbcpaa.PG (S50 z50 k50 GateOk GatesOk)
set_option linter.unusedVariables false
set_option linter.unusedSimpArgs false
theorem results_ttc {P : Program} {fn : Func} {p u v : Tmp} {ty : TypeId} (h : fn.results = #[.tmp u, .tmp v, .cell p ty]) (tmps : Array Value) (w : World) (g : Nat) (t : TypeId) (cs : Array Value) (fr : Nat × Nat) (d : TypeDesc)
    (hp : tmps.getD p undef = .pointer (some ⟨g, 0, none⟩)) (hg : w.heap[g]? = some (.cells cs t fr))
    (hu : P.underlying ty = some d) (hd : (match d with | .struct _ | .array _ _ => true | _ => false) = true) (hi : (P.info? ty).map (·.size) = some cs.size) :
    (results fn tmps).run P w = .ok (.tuple #[tmps.getD u undef, tmps.getD v undef, .agg cs]) w := by
  have hp' : tmps[p]?.getD undef = .pointer (some ⟨g, 0, none⟩) := by simpa using hp
  simp [results, h, hp', asAddr, run_loadVar_row w g t ty cs fr d hg hu hd hi]
/-- The two boxes: the circuit's at b, the table's at b'. -/
theorem box5 {wr : World} {b : Nat} {v0 v1 v2 v3 v4 : Value} (X : wr.heap[b]? = some (Obj.cells #[v0, v1, v2, v3, v4] 38 (0, 0))) :
    wr.cell? ⟨b, 0, none⟩ = some v0 ∧ wr.cell? ⟨b, 1, none⟩ = some v1 ∧ wr.cell? ⟨b, 2, none⟩ = some v2 ∧ wr.cell? ⟨b, 3, none⟩ = some v3 ∧ wr.cell? ⟨b, 4, none⟩ = some v4 :=
  ⟨(blk_cell X 0).trans rfl, (blk_cell X 1).trans rfl, (blk_cell X 2).trans rfl, (blk_cell X 3).trans rfl, (blk_cell X 4).trans rfl⟩
theorem box3 {wr : World} {b : Nat} {v0 v1 v2 : Value} (X : wr.heap[b]? = some (Obj.cells #[v0, v1, v2] 25 (0, 0))) :
    wr.cell? ⟨b, 0, none⟩ = some v0 ∧ wr.cell? ⟨b, 1, none⟩ = some v1 ∧ wr.cell? ⟨b, 2, none⟩ = some v2 :=
  ⟨(blk_cell X 0).trans rfl, (blk_cell X 1).trans rfl, (blk_cell X 2).trans rfl⟩
theorem blk_next (w : World) (o p : Obj) : ((w.alloc o).alloc p).heap[w.heap.size + 1]? = some p := by
  have h := blk_new (w.alloc o) p
  rwa [show (w.alloc o).heap.size = w.heap.size + 1 by simp] at h
theorem four_new (w : World) (o p q r : Obj) : ((((w.alloc o).alloc p).alloc q).alloc r).heap[w.heap.size]? = some o ∧ ((((w.alloc o).alloc p).alloc q).alloc r).heap[w.heap.size + 1]? = some p ∧ ((((w.alloc o).alloc p).alloc q).alloc r).heap[w.heap.size + 2]? = some q ∧ ((((w.alloc o).alloc p).alloc q).alloc r).heap[w.heap.size + 3]? = some r ∧ Below w.heap.size w ((((w.alloc o).alloc p).alloc q).alloc r) := by
  have h2 := blk_new ((w.alloc o).alloc p) q
  rw [show ((w.alloc o).alloc p).heap.size = w.heap.size + 2 by simp] at h2
  have h3 := blk_new (((w.alloc o).alloc p).alloc q) r
  rw [show (((w.alloc o).alloc p).alloc q).heap.size = w.heap.size + 3 by simp] at h3
  exact ⟨blk_alloc (blk_alloc (blk_alloc (blk_new w o) p) q) r, blk_alloc (blk_alloc (blk_next w o p) q) r, blk_alloc h2 r, h3, below_alloc (below_alloc (below_alloc (below_alloc (Below.refl _ _) o) p) q) r⟩
set_option maxHeartbeats 8000000 in
set_option maxRecDepth 100000 in
theorem echeck_calls (w : World) (c : Cir) (Ag Ao An Ai : Option Addr) (cg co cn ci : Nat) (Ar : Option Addr) (cr : Nat) (t : Tab) (ok : c.Ok) (hin : c.In w Ag Ao An Ai cg co cn ci) (hT : OKT (c.ins : Int) (c.outs.length : Int) t) (hR : Kd.C (Kd.slice 77 k77) w Ar t.length t) (hcr : t.length ≤ cr) :
    Calls Try.prog 63 #[c.V Ag Ao An Ai cg co cn ci, .agg #[.int .i64 (c.ins : Int), .int .i64 (c.outs.length : Int), .slice Ar t.length cr]] w fun e w' => e = .returned (.int .i64 0) ∧ Below w.heap.size w w' := by
  have CK := Aside0.mk (fun W (hb : Below w.heap.size w W) => check_calls W c Ag Ao An Ai cg co cn ci ok (hin.below hb))
  obtain ⟨k, hk⟩ := (chk_is hT).rounds
  have LK := Aside0.mk (fun W (hb : Below w.heap.size w W) => PL.learn_Check.calls k (c.ins : Int) (c.outs.length : Int) Ar cr t 0 W (Kd.C_below hR hb) hcr hk)
  clear ok hin hT hR hk
  obtain ⟨ins, gs, outs, next, init⟩ := c
  dsimp only [Cir.V] at CK LK ⊢
  have X1 := Aside0.mk (blk_alloc (blk_new w (Obj.cells #[.int .i64 (ins : Int), .slice Ag gs.length cg, .slice Ao outs.length co, .slice An next.length cn, .slice Ai init.length ci] 38)) (Obj.cells #[.int .i64 (ins : Int), .int .i64 (outs.length : Int), .slice Ar t.length cr] 25))
  have Y1 := Aside0.mk (blk_next w (Obj.cells #[.int .i64 (ins : Int), .slice Ag gs.length cg, .slice Ao outs.length co, .slice An next.length cn, .slice Ai init.length ci] 38) (Obj.cells #[.int .i64 (ins : Int), .int .i64 (outs.length : Int), .slice Ar t.length cr] 25))
  have HB1 := Aside0.mk (below_alloc (below_alloc (Below.refl w.heap.size w) (Obj.cells #[.int .i64 (ins : Int), .slice Ag gs.length cg, .slice Ao outs.length co, .slice An next.length cn, .slice Ai init.length ci] 38)) (Obj.cells #[.int .i64 (ins : Int), .int .i64 (outs.length : Int), .slice Ar t.length cr] 25))
  go_enter Try.func63, Try.ntmps63
  go_upto_region 1 with (fail)
  generalize (w.alloc (Obj.cells #[.int .i64 (ins : Int), .slice Ag gs.length cg, .slice Ao outs.length co, .slice An next.length cn, .slice Ai init.length ci] 38)).alloc (Obj.cells #[.int .i64 (ins : Int), .int .i64 (outs.length : Int), .slice Ar t.length cr] 25) = w1 at *
  obtain ⟨q0, q1, q2, q3, q4⟩ := box5 X1.out
  have CC := Aside0.mk (CK.out w1 HB1.out)
  go_wp2_with fail
  (with_reducible refine CC.out.mono ?_)
  rintro e w2 ⟨rfl, hb2⟩
  have X2 := Aside0.mk (blk_below X1.out hb2)
  have Y2 := Aside0.mk (blk_below Y1.out hb2)
  have HB2 := Aside0.mk (HB1.out.trans (hb2.mono HB1.out.size))
  clear CC hb2 X1 Y1 HB1 q0 q1 q2 q3 q4 CK
  obtain ⟨p0, p1, p2⟩ := box3 Y2.out
  have CC := Aside0.mk (LK.out w2 HB2.out)
  go_wp2_with fail
  (with_reducible refine CC.out.mono ?_)
  rintro e w3 ⟨rfl, hb3⟩
  have X3 := Aside0.mk (blk_below X2.out hb3)
  have Y3 := Aside0.mk (blk_below Y2.out hb3)
  have HB3 := Aside0.mk (HB2.out.trans (hb3.mono HB2.out.size))
  clear CC hb3 X2 Y2 HB2 p0 p1 p2 LK
  obtain ⟨p0, p1, p2⟩ := box3 Y3.out
  obtain ⟨q0, q1, q2, q3, q4⟩ := box5 X3.out
  go_wp2_with fail
  go_ret
  exact ⟨rfl, HB3.out⟩
set_option maxHeartbeats 8000000 in
set_option maxRecDepth 100000 in
theorem estep_calls (w : World) (c : Cir) (Ag Ao An Ai : Option Addr) (cg co cn ci : Nat) (Ar : Option Addr) (cr : Nat) (I O : Int) (t : Tab) (p : P2) (x : Nat) (ok : c.Ok) (hin : c.In w Ag Ao An Ai cg co cn ci) (hR : Kd.C (Kd.slice 77 k77) w Ar t.length t) (hcr : t.length ≤ cr)
    (hp : p.1 < 2 ^ 20) (hx : x < 2 ^ 20) (hpt : p.2 < t.length) (hxr : x < (roww t p.2).length) (hf : 0 ≤ (cel t p.2 x).f1) :
    Calls Try.prog 64 #[c.V Ag Ao An Ai cg co cn ci, .agg #[I |> Value.int .i64, .int .i64 O, .slice Ar t.length cr], pval p, .int .i64 (x : Nat)] w fun e w' => e = .returned (.tuple #[.int .i64 (c.out p.1 x : Nat), .int .i64 (cel t p.2 x).f0, pval (nx2 c t p x)]) ∧ Below w.heap.size w w' := by
  have SC := Aside0.mk (fun W (hb : Below w.heap.size w W) => step_calls W c Ag Ao An Ai cg co cn ci p.1 x ok (hin.below hb) hp hx)
  have HR := Aside0.mk hR
  have HF := Aside0.mk hf
  obtain ⟨s, u⟩ := p
  dsimp only at hp hpt hxr hf SC HF
  show Calls Try.prog 64 #[_, _, .agg #[.int .i64 (s : Int), .int .i64 (u : Int)], _] w fun e w' => e = .returned (.tuple #[.int .i64 (c.out s x : Nat), .int .i64 (cel t u x).f0, .agg #[.int .i64 (c.nxt s x : Nat), .int .i64 ((cel t u x).f1.toNat : Nat)]]) ∧ Below w.heap.size w w'
  obtain ⟨f0, n1, hr⟩ : ∃ (f0 : Int) (n1 : Nat), cel t u x = ⟨f0, (n1 : Int)⟩ := ⟨(cel t u x).f0, (cel t u x).f1.toNat, by
    have h := HF.out
    generalize cel t u x = r at *
    obtain ⟨a, b⟩ := r
    simp only at h ⊢
    rw [Int.toNat_of_nonneg h]⟩
  have HRR := Aside0.mk hr
  rw [hr]
  dsimp only
  rw [Int.toNat_natCast]
  clear hr HF
  generalize c.out s x = ov at *
  generalize c.nxt s x = nv at *
  obtain ⟨ins, gs, outs, next, init⟩ := c
  dsimp only [Cir.V] at SC ⊢
  clear ok hin hR hp hx hf
  have FB := Aside0.mk (four_new w (Obj.cells #[.int .i64 (ins : Int), .slice Ag gs.length cg, .slice Ao outs.length co, .slice An next.length cn, .slice Ai init.length ci] 38) (Obj.cells #[.int .i64 I, .int .i64 O, .slice Ar t.length cr] 25) (Obj.cells #[.int .i64 (s : Int), .int .i64 (u : Int)] 69) (Obj.cells #[.int .i64 0, .int .i64 0] 69))
  go_enter Try.func64, Try.ntmps64
  go_upto_region 1 with (fail)
  generalize (((w.alloc (Obj.cells #[.int .i64 (ins : Int), .slice Ag gs.length cg, .slice Ao outs.length co, .slice An next.length cn, .slice Ai init.length ci] 38)).alloc (Obj.cells #[.int .i64 I, .int .i64 O, .slice Ar t.length cr] 25)).alloc (Obj.cells #[.int .i64 (s : Int), .int .i64 (u : Int)] 69)).alloc (Obj.cells #[.int .i64 0, .int .i64 0] 69) = w1 at *
  obtain ⟨hx1, hy1, hp1, hz1, hb1⟩ := FB.out
  have X1 := Aside0.mk hx1
  have Y1 := Aside0.mk hy1
  have P1 := Aside0.mk hp1
  have Z1 := Aside0.mk hz1
  have HB1 := Aside0.mk hb1
  clear FB hx1 hy1 hp1 hz1 hb1
  obtain ⟨q0, q1, q2, q3, q4⟩ := box5 X1.out
  have pp0 : w1.cell? ⟨w.heap.size + 2, 0, none⟩ = some (.int .i64 (s : Int)) := (blk_cell P1.out 0).trans rfl
  have CC := Aside0.mk (SC.out w1 HB1.out)
  go_wp2_with fail
  (with_reducible refine CC.out.mono ?_)
  rintro e w2 ⟨rfl, hb2⟩
  have Y2 := Aside0.mk (blk_below Y1.out hb2)
  have P2 := Aside0.mk (blk_below P1.out hb2)
  have Z2 := Aside0.mk (blk_below Z1.out hb2)
  have HB2 := Aside0.mk (HB1.out.trans (hb2.mono HB1.out.size))
  clear CC hb2 X1 Y1 P1 Z1 HB1 q0 q1 q2 q3 q4 SC pp0
  obtain ⟨p0, p1, p2⟩ := box3 Y2.out
  have pp1 : w2.cell? ⟨w.heap.size + 2, 1, none⟩ = some (.int .i64 (u : Int)) := (blk_cell P2.out 1).trans rfl
  obtain ⟨ad, A1, c1, e1, hx1, hl1, hi1⟩ := PL.at_L2 (Kd.C_below HR.out HB2.out) (u : Int) (by omega) (by omega)
  subst e1
  have hrow : PL.rd_L2 t (u : Int) = roww t u := rfl
  rw [Int.toNat_natCast, hrow] at hx1
  rw [hrow] at hl1 hi1
  obtain ⟨ad2, e2, g0, g1⟩ := PL.at_T77 hi1 (x : Int) (by omega) (by omega)
  subst e2
  rw [Int.toNat_natCast] at g0 g1
  have hrd : PL.rd_T77 (roww t u) (x : Int) = cel t u x := by unfold PL.rd_T77 cel; rw [Int.toNat_natCast]
  rw [hrd] at g0 g1
  clear hi1 hrow hrd
  rw [HRR.out] at g0 g1
  dsimp only at g0 g1
  generalize roww t u = row at *
  go_upto_region 3 with (fail)
  have Z3 := Aside0.mk (blk_alloc Z2.out (Obj.cells #[.int .i64 f0, .int .i64 (n1 : Int)] 77))
  have R3 := Aside0.mk (blk_new w2 (Obj.cells #[.int .i64 f0, .int .i64 (n1 : Int)] 77))
  have HB3 := Aside0.mk (below_alloc HB2.out (Obj.cells #[.int .i64 f0, .int .i64 (n1 : Int)] 77))
  clear Y2 P2 Z2 HB2 p0 p1 p2 pp1 g0 g1 hx1
  generalize w2.alloc (Obj.cells #[.int .i64 f0, .int .i64 (n1 : Int)] 77) = w3 at *
  have r0 : w3.cell? ⟨w2.heap.size, 0, none⟩ = some (.int .i64 f0) := (blk_cell R3.out 0).trans rfl
  have r1 : w3.cell? ⟨w2.heap.size, 1, none⟩ = some (.int .i64 (n1 : Int)) := (blk_cell R3.out 1).trans rfl
  go_still_tail 9, (by kernel_rfl)
  change wpList _ _ _ _ _ w3.drew
  have Z4 := Aside0.mk (blk_drew Z3.out)
  have HB4 := Aside0.mk (below_drew HB3.out)
  clear r0 r1 Z3 HB3 R3
  generalize w3.drew = w4 at *
  have z0 : w4.cell? ⟨w.heap.size + 3, 0, none⟩ = some (.int .i64 0) := (blk_cell Z4.out 0).trans rfl
  have zf0 : w4.frozen? ⟨w.heap.size + 3, 0, none⟩ = false := blk_frozen Z4.out 0
  have Z5 : (w4.setCell ⟨w.heap.size + 3, 0, none⟩ (.int .i64 (nv : Int))).heap[w.heap.size + 3]? = some (.cells #[.int .i64 (nv : Int), .int .i64 0] 69 (0, 0)) := blk_put Z4.out 0 _ rfl
  have z1 : (w4.setCell ⟨w.heap.size + 3, 0, none⟩ (.int .i64 (nv : Int))).cell? ⟨w.heap.size + 3, 1, none⟩ = some (.int .i64 0) := (blk_cell Z5 1).trans rfl
  have zf1 : (w4.setCell ⟨w.heap.size + 3, 0, none⟩ (.int .i64 (nv : Int))).frozen? ⟨w.heap.size + 3, 1, none⟩ = false := blk_frozen Z5 1
  have Z6 := Aside0.mk (show ((w4.setCell ⟨w.heap.size + 3, 0, none⟩ (.int .i64 (nv : Int))).setCell ⟨w.heap.size + 3, 1, none⟩ (.int .i64 (n1 : Int))).heap[w.heap.size + 3]? = some (.cells #[.int .i64 (nv : Int), .int .i64 (n1 : Int)] 69 (0, 0)) from blk_put Z5 1 _ rfl)
  clear Z5
  go_wp2
  refine bodyPost_ret (results_ttc (fn := Try.f64) rfl _ _ (w.heap.size + 3) 69 #[.int .i64 (nv : Int), .int .i64 (n1 : Int)] (0, 0) _ rfl Z6.out Try.underlying69 rfl (by kernel_rfl)) rfl ?_
  exact ⟨rfl, (HB4.out.setCell (by show w.heap.size ≤ w.heap.size + 3; omega) _).setCell (by show w.heap.size ≤ w.heap.size + 3; omega) _⟩
end Go.Proofs.Ytaalafnkglbcpaa.SY
end

/- slices.Clone of numbers, walked by hand: the same numbers in a row of its own. -/
section
namespace Go.Proofs.Ytaalafnkglbcpaa.PL
open Go.RowKit Go.Proofs.YtaalafnkglbcpaaW.PrintWords Go.Proofs.YtaalafnkglbcpaaW.PrintLast Go.Proofs.YtaalafnkglbcpaaW.PrintMore
set_option linter.unusedVariables false

/-- A literal without elements. -/
theorem R_empty {α : Type} (d : Kd α) (e : Nat) (W : World) (base : Nat) (hb : base ≤ W.heap.size) : d.R e (W.alloc (.cells #[] e)) base (fun _ => True) (.slice (some ⟨W.heap.size, 0, none⟩) 0 0) [] :=
  ⟨fun _ _ => trivial, [], World.ownsRow_lit (base := base) (e := e) (size := d.sz) W #[] 0 hb (by simp [maxLen]) (by simp), Reps.none _ _⟩
def clone_I.f (l0 : List Int) : Option (List Int) := if l0.length ≤ 1000000 then some l0 else none
set_option maxHeartbeats 2000000 in
set_option maxRecDepth 100000 in
theorem clone_I.calls (A0 : Option Addr) (c0 : Nat) (l0 : List (Int)) (r : List (Int)) (w : World) (hr0 : Kd.C (Kd.int .i64) w A0 l0.length l0) (hc0 : l0.length ≤ c0) (h : clone_I.f l0 = some r) :
    Calls Try.prog 56 #[.slice A0 l0.length c0] w fun e w' => ∃ v0_ : Value, e = .returned (v0_) ∧ Kd.R (Kd.int .i64) 3 w' w.heap.size (fun _ => True) v0_ r ∧ Below w.heap.size w w' := by
  unfold clone_I.f at h
  split at h
  · rename_i h1
    obtain rfl := Option.some.inj h
    clear h
    have HR0 := Aside0.mk hr0
    have HC0 := Aside0.mk hc0
    have HL := Aside0.mk h1
    clear hr0 hc0 h1
    cases A0 with
    | none =>
      have h0 : l0 = [] := by
        cases l0 with
        | nil => rfl
        | cons x t => obtain ⟨ad, c, e, _⟩ := Kd.C_get HR0.out (0 : Int) 0 (by omega) (by simp); cases e
      subst h0
      have hq := fun (W : World) => Lib.run_eql_slice_nil (P := Try.prog) W 22 3 none 0 c0 0 0 Try.underlying22
      go_enter Try.func56, Try.ntmps56
      go_wp2
      go_ret
      exact ⟨_, rfl, Kd.R_nil _ _ _ _ _, Below.refl _ _⟩
    | some ad =>
      have hq := fun (W : World) => Lib.run_eql_slice_nil (P := Try.prog) W 22 3 (some ad) l0.length c0 0 0 Try.underlying22
      go_enter Try.func56, Try.ntmps56
      go_wp2_with ((with_reducible refine gate_builtin (b := .append) (xs := #[.tmp 5, .tmp 6]) rfl ?_); at_builtin; refine Kd.R_append_rows (Kd.int .i64) (w0 := w) w.heap.size rfl (.tmp 5) (.tmp 6) 22 3 (.int .i64 0) 8 rfl Try.underlying22 info3 rfl (by decide) (by omega) (.slice (some ⟨w.heap.size, 0, none⟩) 0 0) [] l0 _ _ _ (fun _ => True) (fun _ => False) rfl rfl ?aO ?aR (fun _ _ h => h) (fun _ h => h.elim) ?aF ?aB ?aS ?aL ?_; (case aO => exact R_empty _ _ _ _ (Nat.le_refl _)); (case aR => exact Kd.C_alloc HR0.out _); (case aF => exact (fun _ _ => trivial)); (case aB => exact below_alloc (Below.refl _ _) _); (case aS => simp); (case aL => have := HL.out; simp; omega); intro v7 w7 ho hb hg hat; have HR7 := Aside0.mk ho; have HB7 := Aside0.mk hb; clear ho hb hg hat)
      go_ret
      exact ⟨_, rfl, by simpa using HR7.out, HB7.out⟩
  · cases h
end Go.Proofs.Ytaalafnkglbcpaa.PL
end

/- equal.Find (32), walked by hand: inputs that tell a circuit from a table, if there are any. Own text of this claim. -/
section
namespace Go.Proofs.Ytaalafnkglbcpaa.SY
open Go.RowKit Go.WideMaps Go.Maps Go.Proofs.YtaalafnkglbcpaaW.PrintWords Go.Proofs.YtaalafnkglbcpaaW.PrintLast Go.Proofs.YtaalafnkglbcpaaW.PrintMore
open Go.Proofs.Ytaalafnkglbcpaa.PL (S77 z77 k77 Tab TabR roww cel OKT wpList_insert_own info3)
set_option linter.unusedVariables false
set_option linter.unusedSimpArgs false
/-- What equal.Find gives. -/
def FindPost (c : Cir) (t : Tab) (w : World) (e : Ending) (w' : World) : Prop :=
  ∃ (v : Value) (b : Bool), e = .returned (.tuple #[v, .bool b, .int .i64 0]) ∧ Below w.heap.size w w' ∧
    ((b = false ∧ v = .slice none 0 0 ∧ NoneTells c t) ∨ (b = true ∧ ∃ (l : List Nat) (A : Option Addr) (cap : Nat), v = .slice A l.length cap ∧ l.length ≤ cap ∧ Kd.C (Kd.int .i64) w' A l.length (natsI l) ∧ Tells c t l ∧ l.length ≤ 49 ∧ (l.length = 1 ∨ ∀ a, a < 2 ^ c.ins → Eq2 c t (c.start, 0) a)))
structure FInv (w1 W : World) (vs : List Value) (ws : List (List Nat)) (m : Nat) (D : DataW Value) (v10 : Value) (todo : List P2) : Prop where
  hb : Below w1.heap.size w1 W
  om : W.ownsMap Try.prog 69 heldE (w1.heap.size + 1) m D
  td : Kd.Q k69 69 W (w1.heap.size + 2) (fun _ => True) v10 todo
  wr : ∀ k, k < vs.length → Kd.R (Kd.int .i64) 3 W (w1.heap.size + 2) Yes (vs.getD k undef) (natsI (ws.getD k []))
section
variable {w1 W W' : World} {vs : List Value} {ws : List (List Nat)} {m m' : Nat} {D D' : DataW Value} {v10 v10' v : Value} {todo todo' : List P2} {x : List Nat}
theorem FInv.size (h : FInv w1 W vs ws m D v10 todo) : w1.heap.size + 2 ≤ W.heap.size := by have := h.om.lt; omega
theorem owns_below' {k n b : Nat} {R : Value → Option (DataW Value × List MemPlace)} (h : W.ownsMap Try.prog k R b n D) (hb : Below W.heap.size W W') : W'.ownsMap Try.prog k R b n D := by
  have hl := h.lt
  obtain ⟨es, clock, h1, h2⟩ := h
  exact ⟨es, clock, (hb.block b hl).trans h1, h2⟩
theorem FInv.below (h : FInv w1 W vs ws m D v10 todo) (hb : Below W.heap.size W W') : FInv w1 W' vs ws m D v10 todo :=
  ⟨h.hb.trans (hb.mono h.hb.size), owns_below' h.om hb, Kd.Q_below h.td hb, fun k hk => Kd.R_below (h.wr k hk) hb⟩
theorem FInv.popTodo (h : FInv w1 W vs ws m D v10 todo) (hq : Kd.Q k69 69 W (w1.heap.size + 2) (fun _ => True) v10' todo') : FInv w1 W vs ws m D v10' todo' := ⟨h.hb, h.om, hq, h.wr⟩
theorem FInv.addTodo (h : FInv w1 W vs ws m D v10 todo) (hq : Kd.Q k69 69 W' (w1.heap.size + 2) (fun _ => True) v10' todo') (hg : W.grownBy W' v10.ownBlock) : FInv w1 W' vs ws m D v10' todo' := by
  have hz := h.size
  have lo : ∀ k, v10.ownBlock = some k → w1.heap.size + 2 ≤ k := fun k hk => Kd.Q_base h.td k hk
  exact ⟨h.hb.grown hg h.hb.size (fun k hk => by have := lo k hk; omega), h.om.kept hg (fun e => by have := lo _ e.symm; omega), hq,
    fun k hk => Kd.R_over' (h.wr k hk) (Kd.Q_typed h.td) (by intro q hq; simp [Kd.int, Kd.scalar] at hq; omega) hg⟩
theorem FInv.putMap (h : FInv w1 W vs ws m D v10 todo) (hv : Kd.R (Kd.int .i64) 3 W (w1.heap.size + 2) Yes v (natsI x)) (hl : ws.length = vs.length) (ho : W'.ownsMap Try.prog 69 heldE (w1.heap.size + 1) m' D') (hg : W.grownBy W' (some (w1.heap.size + 1))) : FInv w1 W' (vs ++ [v]) (ws ++ [x]) m' D' v10 todo := by
  have hz := h.size
  refine ⟨h.hb.grown hg h.hb.size (fun k hk => by injection hk with hk; omega), ho, Kd.Q_grown1 h.td rfl hg (fun e => by have := Kd.Q_base h.td _ e.symm; omega), fun k hk => ?_⟩
  rw [List.length_append, List.length_singleton] at hk
  rcases Nat.lt_or_ge k vs.length with q | q
  · rw [getD_app_lt _ _ _ q, getD_app_lt _ _ _ (by omega)]
    exact Kd.R_grown1 (h.wr k q) rfl hg (fun e => by have := Kd.R_base (h.wr k q) _ e.symm; omega)
  · have e : k = vs.length := by omega
    subst e
    rw [getD_app_at, ← hl, getD_app_at]
    exact Kd.R_grown1 hv rfl hg (fun e => by have := Kd.R_base hv _ e.symm; omega)
end
theorem own_ne_step {tb n : Nat} {v v' : Value} (h : some tb ≠ v.ownBlock) (hat : v'.ownBlock = v.ownBlock ∨ ∃ b, v'.ownBlock = some b ∧ n ≤ b) (hl : tb < n) : some tb ≠ v'.ownBlock := by
  rcases hat with e | ⟨b, e, hb⟩
  · rw [e]; exact h
  · rw [e]; intro h2; injection h2 with h2; omega
theorem zero22 (w : World) : (zeroValue 22).run Try.prog w = .ok (.slice none 0 0) w := by kernel_rfl
set_option maxHeartbeats 8000000 in
set_option maxRecDepth 100000 in
theorem find_calls (w : World) (c : Cir) (Ag Ao An Ai : Option Addr) (cg co cn ci : Nat) (Ar : Option Addr) (cr : Nat) (t : Tab) (ok : c.Ok) (hin : c.In w Ag Ao An Ai cg co cn ci) (hT : OKT (c.ins : Int) (c.outs.length : Int) t) (hR : Kd.C (Kd.slice 77 k77) w Ar t.length t) (hcr : t.length ≤ cr) (hn3 : c.next.length ≤ 3) (h6 : t.length ≤ 6) :
    Calls Try.prog 32 #[c.V Ag Ao An Ai cg co cn ci, .agg #[.int .i64 (c.ins : Int), .int .i64 (c.outs.length : Int), .slice Ar t.length cr]] w (FindPost c t w) := by
  have EC := Aside0.mk (fun W (hb : Below w.heap.size w W) => echeck_calls W c Ag Ao An Ai cg co cn ci Ar cr t ok (hin.below hb) hT (Kd.C_below hR hb) hcr)
  have SC := Aside0.mk (fun W (hb : Below w.heap.size w W) => start_calls W c Ag Ao An Ai cg co cn ci ok (hin.below hb))
  have hN := TabN.of hT
  have hi4 : c.ins ≤ 4 := by have := hT.i1; omega
  obtain ⟨M, hM⟩ : ∃ M, 2 ^ c.ins = M := ⟨_, rfl⟩
  have hMle : M ≤ 16 := by
    rw [← hM]; exact Nat.le_trans (Nat.pow_le_pow_right (by omega) hi4) (by decide)
  have HM2 : Aside0 (wrap64 ((2 : Int) ^ c.ins) = (M : Int)) := ⟨by
    rw [show (2 : Int) ^ c.ins = ((2 ^ c.ins : Nat) : Int) from by simp, hM]
    unfold wrap64; omega⟩
  have hnn : 2 ^ c.next.length ≤ 8 := Nat.le_trans (Nat.pow_le_pow_right (by omega) hn3) (by decide)
  have NXB : Aside0 (∀ (p : P2) (x : Nat), p.2 < t.length → x < M → (nx2 c t p x).1 < 2 ^ c.next.length ∧ (nx2 c t p x).2 < t.length) := ⟨fun p x hp hx => by
    refine ⟨?_, (hN.ok p.2 x hp (by omega)).2.2.2⟩
    show bitsN (c.next.map (val c.gs p.1 x)) < _
    have h := bitsN_lt (c.next.map (val c.gs p.1 x))
    rwa [List.length_map] at h⟩
  have ST := Aside0.mk (fun W (hb : Below w.heap.size w W) (p : P2) (x : Nat) (h1 : p.1 < 2 ^ c.next.length) (h2 : p.2 < t.length) (hx : x < M) => estep_calls W c Ag Ao An Ai cg co cn ci Ar cr (c.ins : Int) (c.outs.length : Int) t p x ok (hin.below hb) (Kd.C_below hR hb) hcr
    (Nat.lt_of_lt_of_le h1 (Nat.le_trans hnn (by decide))) (Nat.lt_of_lt_of_le hx (Nat.le_trans hMle (by decide))) h2 (by rw [hN.row _ h2, hM]; exact hx) (hN.ok p.2 x h2 (by omega)).2.2.1)
  have FS0 : Aside0 (FS c t 0 [(c.start, 0)] [[]]) := ⟨FS.start ok.il hT.n1⟩
  obtain ⟨NB, hNB⟩ : ∃ NB, 2 ^ c.next.length * t.length = NB := ⟨_, rfl⟩
  have hNBle : NB ≤ 48 := by
    rw [← hNB]; exact Nat.le_trans (Nat.mul_le_mul hnn h6) (by decide)
  have CARD : Aside0 (∀ i reps ws, FS c t i reps ws → reps.length ≤ NB) := ⟨fun i reps ws h => by rw [← hNB]; exact h.card⟩
  have hs0 : c.start ≤ 100000 := by
    have := (FS0.out.bd (c.start, 0) (by simp)).1
    simp only at this
    omega
  have SMALL : Aside0 (∀ (i : Nat) (reps : List P2) (ws : List (List Nat)), FS c t i reps ws → ∀ p ∈ reps, p.1 ≤ 100000 ∧ p.2 ≤ 100000) := ⟨fun i reps ws h p hp => by have := h.bd p hp; omega⟩
  have HMM := Aside0.mk hM
  have NN := Aside0.mk hnn
  clear ok hin hT hR hN hnn hNB hM
  dsimp only [Cir.V] at EC SC ST ⊢
  have X1 := Aside0.mk (blk_alloc (blk_new w (Obj.cells #[.int .i64 (c.ins : Int), .slice Ag c.gs.length cg, .slice Ao c.outs.length co, .slice An c.next.length cn, .slice Ai c.init.length ci] 38)) (Obj.cells #[.int .i64 (c.ins : Int), .int .i64 (c.outs.length : Int), .slice Ar t.length cr] 25))
  have Y1 := Aside0.mk (blk_next w (Obj.cells #[.int .i64 (c.ins : Int), .slice Ag c.gs.length cg, .slice Ao c.outs.length co, .slice An c.next.length cn, .slice Ai c.init.length ci] 38) (Obj.cells #[.int .i64 (c.ins : Int), .int .i64 (c.outs.length : Int), .slice Ar t.length cr] 25))
  have HB1 := Aside0.mk (below_alloc (below_alloc (Below.refl w.heap.size w) (Obj.cells #[.int .i64 (c.ins : Int), .slice Ag c.gs.length cg, .slice Ao c.outs.length co, .slice An c.next.length cn, .slice Ai c.init.length ci] 38)) (Obj.cells #[.int .i64 (c.ins : Int), .int .i64 (c.outs.length : Int), .slice Ar t.length cr] 25))
  go_enter Try.func32, Try.ntmps32
  go_upto_region 1 with (fail)
  generalize (w.alloc (Obj.cells #[.int .i64 (c.ins : Int), .slice Ag c.gs.length cg, .slice Ao c.outs.length co, .slice An c.next.length cn, .slice Ai c.init.length ci] 38)).alloc (Obj.cells #[.int .i64 (c.ins : Int), .int .i64 (c.outs.length : Int), .slice Ar t.length cr] 25) = w2 at *
  obtain ⟨q0, q1, q2, q3, q4⟩ := box5 X1.out
  obtain ⟨p0, p1, p2⟩ := box3 Y1.out
  have CC := Aside0.mk (EC.out w2 HB1.out)
  go_wp2_with fail
  (with_reducible refine CC.out.mono ?_)
  rintro e w3 ⟨rfl, hb3⟩
  have X3 := Aside0.mk (blk_below X1.out hb3)
  have Y3 := Aside0.mk (blk_below Y1.out hb3)
  have HB3 := Aside0.mk (HB1.out.trans (hb3.mono HB1.out.size))
  clear CC hb3 X1 Y1 HB1 q0 q1 q2 q3 q4 p0 p1 p2 EC
  obtain ⟨q0, q1, q2, q3, q4⟩ := box5 X3.out
  have CC := Aside0.mk (SC.out w3 HB3.out)
  go_wp2_with fail
  (with_reducible refine CC.out.mono ?_)
  rintro e w1 ⟨rfl, hb1⟩
  have X4 := Aside0.mk (blk_below X3.out hb1)
  have Y4 := Aside0.mk (blk_below Y3.out hb1)
  have HB4 := Aside0.mk (HB3.out.trans (hb1.mono HB3.out.size))
  clear CC hb1 X3 Y3 HB3 q0 q1 q2 q3 q4 SC
  generalize hs00 : c.start = s0 at *
  have HS0 := Aside0.mk hs00
  clear hs00
  have hmm := @run_makeMap Try.prog
  go_upto_region 5 with (fail)
  have B8 := Aside0.mk (blk_new w1 (Obj.cells #[.int .i64 (s0 : Int), .int .i64 0] 69))
  have HBo := Aside0.mk (below_alloc (Below.refl w1.heap.size w1) (Obj.cells #[.int .i64 (s0 : Int), .int .i64 0] 69))
  have hz1 : (w1.alloc (Obj.cells #[.int .i64 (s0 : Int), .int .i64 0] 69)).heap.size = w1.heap.size + 1 := by simp
  generalize w1.alloc (Obj.cells #[.int .i64 (s0 : Int), .int .i64 0] 69) = w5 at *
  have OM0 : Aside0 ((w5.alloc (Obj.map #[] 0)).ownsMap Try.prog 69 heldE w5.heap.size 0 (.map [])) := ⟨World.ownsMap_made w5 _ _ _⟩
  have B8' := Aside0.mk (blk_alloc B8.out (Obj.map #[] 0))
  have HBo' := Aside0.mk (below_alloc HBo.out (Obj.map #[] 0))
  rw [hz1] at OM0
  obtain ⟨w6, hw6⟩ : ∃ w6, w5.alloc (Obj.map #[] 0) = w6 := ⟨_, rfl⟩
  rw [hw6] at OM0 B8' HBo'
  have q0 : w6.cell? ⟨w1.heap.size, 0, none⟩ = some (.int .i64 (s0 : Int)) := (blk_cell B8'.out 0).trans rfl
  have q1 : w6.cell? ⟨w1.heap.size, 1, none⟩ = some (.int .i64 0) := (blk_cell B8'.out 1).trans rfl
  have hky := key_p (s0, 0) hs0 (by show 0 ≤ 100000; omega)
  have HKY := Aside0.mk hky
  have HKL := Aside0.mk (lawP.key hky)
  clear hky
  go_upto_region 6 with (first
    | (refine wpList_insert_own _ rfl (.tmp 28) (.tmp 29) (.const (.slice none 0 0)) 106 rfl 69 22 lawP Try.underlying106 heldE (w1.heap.size + 1) 0 (.map []) (by rw [← hz1]; rfl) OM0.out (by unfold maxLen; omega) (.agg #[.int .i64 (s0 : Int), .int .i64 0]) (.slice none 0 0) _ rfl rfl HKY.out (.held (.slice none 0 0)) [] rfl ?_; intro w7 hown7 hgrow7; have OM7 := Aside0.mk hown7; have HB7 : Aside0 (Below w1.heap.size w1 w7) := ⟨HBo'.out.grown hgrow7 HBo'.out.size (fun k hk => by cases hk; omega)⟩; have B87 := Aside0.mk (blk_grown B8'.out hgrow7 (by simp)); clear hown7 hgrow7 q0 q1))
  clear hw6 B8 HBo hz1 HBo' B8' OM0
  have HZ7 : Aside0 (w1.heap.size + 2 ≤ w7.heap.size) := ⟨by have := OM7.out.lt; omega⟩
  have q0 : w7.cell? ⟨w1.heap.size, 0, none⟩ = some (.int .i64 (s0 : Int)) := (blk_cell B87.out 0).trans rfl
  have q1 : w7.cell? ⟨w1.heap.size, 1, none⟩ = some (.int .i64 0) := (blk_cell B87.out 1).trans rfl
  go_wp2_with (first
    | ((with_reducible refine gate_dst (N := 32) rfl ?_); refine Kd.R_lit k69 (w0 := w7) w7.heap.size 69 ?hg (N := 32) ?hd (xs := ([(s0, 0)] : List P2)) (inner := [.int .i64 (s0 : Int), .int .i64 0]) (ok := fun _ => True) (okp := fun _ => True) ?hr ?hp (fun _ hk => hk) trivial (Below.refl _ _) (Nat.le_refl _) (by simp) ?_; (case hd => rfl); (case hg => rfl); (case hr => first | (go_simp; done) | (go_simp; rfl)); (case hp => exact (Reps.c2 (k69_mkM _ _ _ (s0, 0)) (Reps.none _ _))); intro v8 w8 ho hb hg_ hnew_; have HQ8 := Aside0.mk ho; have HB8 := Aside0.mk hb; clear ho hb hg_ hnew_))
  have MV0 : Aside0 (MapV (DataW.put (.map []) (litP (s0, 0)) (.held (.slice none 0 0))) ([(s0, 0)].map litP) [.slice none 0 0]) := ⟨MapV.start.put (k := litP (s0, 0)) HKL.out (by simp) _⟩
  have I0 : Aside0 (FInv w1 w8 [.slice none 0 0] [[]] 1 (DataW.put (.map []) (litP (s0, 0)) (.held (.slice none 0 0))) v8 ([(s0, 0)].drop 0)) := ⟨{
    hb := HB7.out.trans (HB8.out.mono (by have := HZ7.out; omega)), om := owns_below' OM7.out HB8.out, td := Kd.Q_of_R (Kd.R_lower HQ8.out HZ7.out), wr := fun k hk => by
      have e : k = 0 := by simp at hk; omega
      subst e; exact Kd.R_nil _ _ _ _ _ }⟩
  clear HZ7 OM7 B87 HB7 HB8 HQ8 q0 q1 HKY HKL
  go_loopg [10] (NB + 1) (fun kq v10 wr => ∃ (i m : Nat) (reps : List P2) (ws : List (List Nat)) (vs : List Value) (D : DataW Value), kq + i = NB + 1 ∧ m ≤ reps.length ∧ Aside0 (FInv w1 wr vs ws m D v10 (reps.drop i)) ∧ Aside0 (MapV D (reps.map litP) vs) ∧ Aside0 (FS c t i reps ws)) 
  case atStart => exact ⟨0, 1, [(s0, 0)], [[]], [.slice none 0 0], _, by omega, by simp, I0, MV0, FS0⟩
  case round =>
    obtain ⟨i, m, reps, ws, vs, D, hki, hm, HM, MV, HF⟩ := hrel
    obtain ⟨w9, rfl⟩ : ∃ w9 : World, w9 = wr := ⟨_, rfl⟩
    clear I0 MV0 FS0
    have hrl := CARD.out _ _ _ HF.out
    have hir := HF.out.le
    obtain ⟨A8, q8, hv8, hq8⟩ := Kd.Q_slice HM.out.td
    have hl8 : (reps.drop i).length = reps.length - i := by rw [List.length_drop]
    rw [hl8] at hv8
    subst hv8
    by_cases hlt : i < reps.length
    · obtain ⟨k1, hk1⟩ : ∃ k1, gk = k1 + 1 := ⟨gk - 1, by omega⟩
      obtain ⟨g8, o8, q88, hv8, _⟩ := Kd.Q_form HM.out.td (by rw [hl8]; omega)
      rw [hl8] at hv8
      injection hv8 with e8 e87 e88
      clear e87
      subst e8
      subst e88
      have hc8 := (Kd.Q_reads' HM.out.td).2.2
      obtain ⟨a8, e8, hx0, hx1⟩ := at_P2 hc8 0 (by rw [hl8]; omega)
      obtain rfl : a8 = ⟨g8, o8, none⟩ := by injection e8 with e8; exact e8.symm
      rw [show (reps.drop i).getD 0 (0, 0) = reps.getD i (0, 0) from by rw [List.getD_eq_getElem?_getD, List.getElem?_drop, Nat.add_zero, ← List.getD_eq_getElem?_getD]] at hx0 hx1
      have hpt := HF.out.bd _ (getD_mem2 (z := (0, 0)) hlt)
      generalize hpp : reps.getD i (0, 0) = p at *
      have HP := Aside0.mk hpp
      clear hpp e8
      obtain ⟨s, u⟩ := p
      have HPT := Aside0.mk hpt
      dsimp only at hx0 hx1
      have y0 : w9.cell? ⟨g8, o8, none⟩ = some (.int .i64 (s : Int)) := hx0
      have y1 : w9.cell? ⟨g8, o8 + 1, none⟩ = some (.int .i64 (u : Int)) := hx1
      have b1 : 0 < ((reps.length - i : Nat) : Int) := by omega
      have b1n : 0 < reps.length - i := by omega
      have b1d : decide (0 < reps.length - i) = true := decide_eq_true b1n
      clear hc8 hx0 hx1 hpt
      go_upto_region 9 with (fail)
      obtain ⟨vq, hvq⟩ : ∃ vq, Value.slice (if q8 = 1 then some (⟨g8, o8, none⟩ : Addr) else (some (⟨g8, o8, none⟩ : Addr)).map (·.add (1 * 2))) (reps.length - i - 1) (q8 - 1) = vq := ⟨_, rfl⟩
      have hq9 : Kd.Q k69 69 w9 (w1.heap.size + 2) (fun _ => True) vq (reps.drop (i + 1)) := by
        have h := Kd.Q_drop HM.out.td (k := 1) (by rw [hl8]; omega)
        rw [List.drop_drop] at h
        rw [← hvq]; exact h
      have TN : Aside0 (some w9.heap.size ≠ vq.ownBlock) := ⟨fun e => by have := Kd.Q_lt hq9 _ e.symm; omega⟩
      have HMp := Aside0.mk ((HM.out.popTodo hq9).below (below_alloc (Below.refl w9.heap.size w9) (Obj.cells #[.int .i64 (s : Int), .int .i64 (u : Int)] 69)))
      have BP := Aside0.mk (blk_new w9 (Obj.cells #[.int .i64 (s : Int), .int .i64 (u : Int)] 69))
      have TL : Aside0 (w1.heap.size + 2 ≤ w9.heap.size) := ⟨HM.out.size⟩
      have hcut : ∀ W : World, (Instr.slice 65 (.slice (some ⟨g8, o8, none⟩) (reps.length - i) q8) (some (.int .i64 1)) none none).run Try.prog W = .ok vq W := fun W => by
        obtain ⟨i0, hi0, hi1⟩ := Option.map_eq_some_iff.1 info69
        simp only [Prod.mk.injEq] at hi1
        rw [← hvq]
        exact cut_from (P := Try.prog) 65 69 .i64 Try.underlying65 hi0 2 hi1.2.1 (some ⟨g8, o8, none⟩) (reps.length - i) q8 1 (by decide) (by omega) W
      clear hvq hq9 HM y0 y1 hl8 hq8
      generalize w9.alloc (Obj.cells #[.int .i64 (s : Int), .int .i64 (u : Int)] 69) = w10 at *
      obtain ⟨tb, htb⟩ : ∃ tb, w9.heap.size = tb := ⟨_, rfl⟩
      rw [htb] at TN BP TL ⊢
      clear htb
      have X10 := Aside0.mk (blk_below X4.out HMp.out.hb)
      obtain ⟨q0, q1, q2, q3, q4⟩ := box5 X10.out
      go_upto_region 10 with (fail)
      clear hcut b1 b1n b1d
      go_wp2_with fail
      rw [HM2.out]
      clear q0 q1 q2 q3 q4 X10
      go_loopw [10, 44] (fun v10 v44 wr => ∃ (j m : Nat) (reps' : List P2) (ws' : List (List Nat)) (vs' : List Value) (D : DataW Value), j ≤ M ∧ v44 = .int .i64 (j : Int) ∧ i < reps'.length ∧ m ≤ reps'.length ∧ Aside0 (reps'.getD i (0, 0) = (s, u)) ∧ Aside0 (FInv w1 wr vs' ws' m D v10 (reps'.drop (i + 1))) ∧ Aside0 (MapV D (reps'.map litP) vs') ∧ Aside0 (FS c t i reps' ws') ∧ Aside0 (∀ x, x < j → Eq2 c t (s, u) x ∧ nx2 c t (s, u) x ∈ reps') ∧ Aside0 (wr.heap[tb]? = some (Obj.cells #[.int .i64 (s : Int), .int .i64 (u : Int)] 69 (0, 0))) ∧ Aside0 (some tb ≠ v10.ownBlock)) (fun _ v44 _ => M - (intOf v44).toNat)
      case atStart => exact ⟨0, m, reps, ws, vs, D, by omega, rfl, hlt, hm, HP, HMp, MV, HF, ⟨fun x hx => by omega⟩, BP, TN⟩
      case round =>
        clear HMp MV HF BP TN hm hrl HP hir
        obtain ⟨j, m, reps', ws', vs', D, hj, rfl, hir, hm, HP, HM, MV, HF, HD, BP, TN⟩ := hrel
        obtain ⟨w11, rfl⟩ : ∃ w11 : World, w11 = wr := ⟨_, rfl⟩
        have hrl := CARD.out _ _ _ HF.out
        by_cases hjl : j < M
        · have HB11 := Aside0.mk (HB4.out.trans (HM.out.hb.mono HB4.out.size))
          have X11 := Aside0.mk (blk_below X4.out HM.out.hb)
          have Y11 := Aside0.mk (blk_below Y4.out HM.out.hb)
          obtain ⟨q0, q1, q2, q3, q4⟩ := box5 X11.out
          obtain ⟨p0, p1, p2⟩ := box3 Y11.out
          have r0 : w11.cell? ⟨tb, 0, none⟩ = some (.int .i64 (s : Int)) := (blk_cell BP.out 0).trans rfl
          have r1 : w11.cell? ⟨tb, 1, none⟩ = some (.int .i64 (u : Int)) := (blk_cell BP.out 1).trans rfl
          have ES := Aside0.mk (ST.out w11 HB11.out (s, u) j HPT.out.1 HPT.out.2 hjl)
          have NB2 := NXB.out (s, u) j HPT.out.2 hjl
          obtain ⟨⟨a, b⟩, hq⟩ : ∃ q, nx2 c t (s, u) j = q := ⟨_, rfl⟩
          rw [hq] at ES NB2
          have HQ := Aside0.mk hq
          obtain ⟨ov, hov⟩ : ∃ ov, c.out s j = ov := ⟨_, rfl⟩
          obtain ⟨fv, hfv⟩ : ∃ fv, (cel t u j).f0 = fv := ⟨_, rfl⟩
          have EQI : Aside0 (Eq2 c t (s, u) j ↔ (ov : Int) = fv) := ⟨by unfold Eq2; rw [← hov, ← hfv]⟩
          dsimp only [pval] at ES
          rw [hov, hfv] at ES
          clear hq hov hfv
          go_wp2_with fail
          (with_reducible refine ES.out.mono ?_)
          rintro e w12 ⟨rfl, hb⟩
          have BP12 := Aside0.mk (blk_alloc (blk_below BP.out hb) (Obj.cells #[.int .i64 (a : Int), .int .i64 (b : Int)] 69))
          have BQ12 := Aside0.mk (blk_new w12 (Obj.cells #[.int .i64 (a : Int), .int .i64 (b : Int)] 69))
          have HM12 := Aside0.mk ((HM.out.below hb).below (below_alloc (Below.refl w12.heap.size w12) (Obj.cells #[.int .i64 (a : Int), .int .i64 (b : Int)] 69)))
          have TQ : Aside0 (some w12.heap.size ≠ u10.ownBlock ∧ w1.heap.size + 2 ≤ w12.heap.size) := ⟨fun e => by have := Kd.Q_lt HM.out.td _ e.symm; have := hb.size; omega, by have := HM.out.size; have := hb.size; omega⟩
          clear ES hb HM BP X11 Y11 HB11 q0 q1 q2 q3 q4 p0 p1 p2 r0 r1
          go_upto_region 14 with (fail)
          generalize w12.alloc (Obj.cells #[.int .i64 (a : Int), .int .i64 (b : Int)] 69) = w13 at *
          obtain ⟨tq, htq⟩ : ∃ tq, w12.heap.size = tq := ⟨_, rfl⟩
          rw [htq] at BQ12 TQ ⊢
          clear htq
          have r0 : w13.cell? ⟨tb, 0, none⟩ = some (.int .i64 (s : Int)) := (blk_cell BP12.out 0).trans rfl
          have r1 : w13.cell? ⟨tb, 1, none⟩ = some (.int .i64 (u : Int)) := (blk_cell BP12.out 1).trans rfl
          have hvl : i < vs'.length := by rw [MV.out.len, List.length_map]; exact hir
          have hR := HM12.out.wr i hvl
          obtain ⟨A3, c3, hv3, hlc3, hC3⟩ := Kd.R_reads hR
          have hwl := HF.out.wl i hir
          obtain ⟨wd, hwd⟩ : ∃ wd, ws'.getD i [] = wd := ⟨_, rfl⟩
          rw [hwd] at hC3 hlc3 hv3 hwl
          have HWD := Aside0.mk hwd
          have hsm := SMALL.out _ _ _ HF.out (s, u) (by rw [← HP.out]; exact getD_mem2 hir)
          have hlk : (Instr.lookup 106 (.map (some (w1.heap.size + 1))) (.agg #[.int .i64 (s : Int), .int .i64 (u : Int)]) false).run Try.prog w13 = .ok (.slice A3 (natsI wd).length c3) w13 := by
            obtain ⟨v, ps, h1, h2⟩ := HM12.out.om.lookup lawP Try.underlying106 (zero22 _) (zd := .held (.slice none 0 0)) (zp := []) rfl (key_p (s, u) hsm.1 hsm.2)
            have h3 := MV.out.at' i (litP (s, u)) (.slice A3 (natsI wd).length c3) (by
              have h4 := HP.out
              rw [List.getD_eq_getElem?_getD, List.getElem?_eq_getElem hir] at h4
              have h5 : reps'[i] = (s, u) := h4
              rw [List.getElem?_map, List.getElem?_eq_getElem hir, Option.map_some, h5]) (by
              rw [← hv3, List.getD_eq_getElem?_getD, List.getElem?_eq_getElem hvl]; rfl)
            rw [h3] at h2
            unfold heldE at h2
            injection h2 with h2
            injection h2 with h2 _
            injection h2 with h2
            subst h2
            exact h1
          have CL := Aside0.mk (PL.clone_I.calls A3 c3 (natsI wd) (natsI wd) w13 hC3 hlc3 (by unfold PL.clone_I.f; rw [if_pos (by simp [natsI]; omega)]))
          clear hwd hv3 hlc3 hC3 hR hsm hvl
          go_wp2_with fail
          (with_reducible refine CL.out.mono ?_)
          rintro e w14 ⟨v59, rfl, hr59, hb14⟩
          have R59 := Aside0.mk hr59
          have B14 := Aside0.mk hb14
          have WL : Aside0 ((natsI wd).length ≤ 100) := ⟨by simp [natsI]; omega⟩
          clear CL hlk r0 r1 hr59 hb14
          go_upto_region 15 with (first
            | ((with_reducible refine gate_builtin (b := .append) (xs := #[.tmp 59, .tmp 61]) rfl ?_); at_builtin; refine Kd.R_append (Kd.int .i64) (w0 := w13) w13.heap.size rfl (.tmp 59) (.tmp 61) 22 3 (.int .i64 0) 8 rfl Try.underlying22 info3 rfl (by decide) (by omega) v59 (natsI wd) (j : Int) [.int .i64 (j : Int)] (fun _ => True) (fun _ => False) rfl ?aX ?aP (fun _ hk => hk.elim) (fun _ _ => trivial) R59.out B14.out ?aS ?aL ?_; (case aX => first | rfl | (simp; done)); (case aP => exact rfl); (case aS => exact B14.out.size); (case aL => have h1_ := WL.out; omega); intro v16 w16 ho hb hg hat; have R16 := Aside0.mk ho; have B16 := Aside0.mk hb; clear ho hb hg hat))
          have HM16 := Aside0.mk (HM12.out.below B16.out)
          have BP16 := Aside0.mk (blk_below BP12.out B16.out)
          have BQ16 := Aside0.mk (blk_below BQ12.out B16.out)
          have HBX : Aside0 (w1.heap.size + 2 ≤ w13.heap.size) := ⟨HM12.out.size⟩
          have ENI : Aside0 (natsI (wd ++ [j]) = natsI wd ++ [(j : Int)]) := ⟨by simp [natsI]⟩
          clear HM12 BP12 BQ12 B14 R59 B16
          by_cases he : (ov : Int) = fv
          · have EQ2 : Aside0 (Eq2 c t (s, u) j) := ⟨EQI.out.2 he⟩
            subst he
            have q0 : w16.cell? ⟨tq, 0, none⟩ = some (.int .i64 (a : Int)) := (blk_cell BQ16.out 0).trans rfl
            have q1 : w16.cell? ⟨tq, 1, none⟩ = some (.int .i64 (b : Int)) := (blk_cell BQ16.out 1).trans rfl
            have hsa : a ≤ 100000 ∧ b ≤ 100000 := by have := NB2.1; have := NB2.2; have := NN.out; constructor <;> omega
            have HKY := Aside0.mk (key_p (a, b) hsa.1 hsa.2)
            have HKL := Aside0.mk (lawP.key HKY.out)
            by_cases hmem : (a, b) ∈ reps'
            · obtain ⟨v, hlk⟩ : ∃ v, (Instr.lookup 106 (.map (some (w1.heap.size + 1))) (.agg #[.int .i64 (a : Int), .int .i64 (b : Int)]) true).run Try.prog w16 = .ok (.tuple #[v, .bool true]) w16 := by
                obtain ⟨v, ps, h1, h2⟩ := HM16.out.om.look_ok lawP Try.underlying106 (zero22 _) (zd := .held (.slice none 0 0)) (zp := []) rfl HKY.out
                rw [(MV.out.has _).2 (List.mem_map_of_mem hmem)] at h1
                exact ⟨v, h1⟩
              have HD2 : Aside0 (∀ x, x < j + 1 → Eq2 c t (s, u) x ∧ nx2 c t (s, u) x ∈ reps') := ⟨fun x hx => by
                rcases Nat.lt_or_ge x j with q | q
                · exact HD.out x q
                · have e : x = j := by omega
                  subst e; exact ⟨EQ2.out, by rw [HQ.out]; exact hmem⟩⟩
              clear hmem
              go_wp2_with fail
              go_roundw
              case rel => exact ⟨j + 1, m, reps', ws', vs', D, by omega, by go_num, hir, hm, HP, HM16, MV, HF, HD2, BP16, TN⟩
              case measure => simp [intOf]; omega
            · have hnm : litP (a, b) ∉ reps'.map litP := fun h => by
                obtain ⟨p', h1, h2⟩ := List.mem_map.1 h
                have := litP_inj (SMALL.out _ _ _ HF.out p' h1) hsa h2
                exact hmem (this ▸ h1)
              obtain ⟨v, hlk⟩ : ∃ v, (Instr.lookup 106 (.map (some (w1.heap.size + 1))) (.agg #[.int .i64 (a : Int), .int .i64 (b : Int)]) true).run Try.prog w16 = .ok (.tuple #[v, .bool false]) w16 := by
                obtain ⟨v, ps, h1, h2⟩ := HM16.out.om.look_ok lawP Try.underlying106 (zero22 _) (zd := .held (.slice none 0 0)) (zp := []) rfl HKY.out
                have hh : Maps.has D (litP (a, b)) = false := by
                  cases h : Maps.has D (litP (a, b))
                  · rfl
                  · exact absurd ((MV.out.has _).1 h) hnm
                rw [hh] at h1
                exact ⟨v, h1⟩
              have MV2 : Aside0 (MapV (D.put (litP (a, b)) (.held v16)) ((reps' ++ [(a, b)]).map litP) (vs' ++ [v16])) := ⟨by
                rw [List.map_append]; exact MV.out.put HKL.out hnm v16⟩
              have HF2 : Aside0 (FS c t i (reps' ++ [(a, b)]) (ws' ++ [wd ++ [j]])) := ⟨by
                have h := HF.out.add hir (x := j) (by rw [HMM.out]; exact hjl)
                rw [HP.out, HQ.out, HWD.out] at h
                exact h EQ2.out NB2 hmem⟩
              have HD2 : Aside0 (∀ x, x < j + 1 → Eq2 c t (s, u) x ∧ nx2 c t (s, u) x ∈ reps' ++ [(a, b)]) := ⟨fun x hx => by
                rcases Nat.lt_or_ge x j with q | q
                · exact ⟨(HD.out x q).1, List.mem_append_left _ (HD.out x q).2⟩
                · have e : x = j := by omega
                  subst e; exact ⟨EQ2.out, by rw [HQ.out]; simp⟩⟩
              have HP2 : Aside0 ((reps' ++ [(a, b)]).getD i (0, 0) = (s, u)) := ⟨by rw [getD_app_lt _ _ _ hir]; exact HP.out⟩
              have HDR : Aside0 ((reps' ++ [(a, b)]).drop (i + 1) = reps'.drop (i + 1) ++ [(a, b)]) := ⟨List.drop_append_of_le_length (by omega)⟩
              have HRL : Aside0 ((reps'.drop (i + 1)).length ≤ 100) := ⟨by rw [List.length_drop]; omega⟩
              have HVL : Aside0 (ws'.length = vs'.length) := ⟨by rw [HF.out.len, MV.out.len, List.length_map]⟩
              clear hmem hnm hsa
              go_wp2_with (first
                | (at_mapUpdate; refine wpList_mapUpdate_own _ rfl (.tmp 75) (.tmp 76) (.tmp 77) 106 rfl 69 22 lawP Try.underlying106 heldE (w1.heap.size + 1) m D rfl HM16.out.om (by unfold maxLen; omega) (.agg #[.int .i64 (a : Int), .int .i64 (b : Int)]) v16 _ rfl rfl HKY.out (.held v16) [] rfl ?_; intro w17 hown17 hgrow17; have HM17 := Aside0.mk (HM16.out.putMap (x := wd ++ [j]) (by rw [ENI.out]; exact Kd.R_lower R16.out HBX.out) HVL.out hown17 hgrow17); have BP17 := Aside0.mk (blk_grown BP16.out hgrow17 (by have := TL.out; simp; omega)); have BQ17 := Aside0.mk (blk_grown BQ16.out hgrow17 (by have := TQ.out.2; simp; omega)); have z0 := (blk_cell BQ17.out 0).trans (show _ = some (Value.int .i64 (a : Int)) from rfl); have z1 := (blk_cell BQ17.out 1).trans (show _ = some (Value.int .i64 (b : Int)) from rfl); clear hown17 hgrow17 hlk q0 q1)
                | ((with_reducible refine gate_builtin (b := .append) (xs := #[.tmp 78, .tmp 80]) rfl ?_); at_builtin; refine Kd.Q_append k69 (w0 := w17) (w1.heap.size + 2) rfl (.tmp 78) (.tmp 80) 65 69 (.agg #[.int .i64 0, .int .i64 0]) 16 rfl Try.underlying65 info69 rfl (by decide) (by omega) u10 (reps'.drop (i + 1)) (a, b) [.int .i64 (a : Int), .int .i64 (b : Int)] (fun _ => True) (fun _ => False) rfl ?aX ?aP (fun _ hk => hk.elim) (fun _ _ => trivial) HM17.out.td (Below.refl _ _) ?aS ?aL ?_; (case aX => first | rfl | (simp; done)); (case aP => exact k69_mkM _ _ _ (a, b)); (case aS => exact HM17.out.size); (case aL => have h1_ := HRL.out; omega); intro v18 w18 ho hb hg hat; have HM18 := Aside0.mk (HM17.out.addTodo ho hg); have BP18 := Aside0.mk (blk_grown BP17.out hg TN.out); have TN18 := Aside0.mk (own_ne_step TN.out hat (blk_lt BP17.out)); clear ho hb hg hat))
              go_roundw
              case rel => exact ⟨j + 1, m + 1, reps' ++ [(a, b)], ws' ++ [wd ++ [j]], vs' ++ [v16], _, by omega, by go_num, by simp; omega, by simp; omega, HP2, ⟨by rw [HDR.out]; exact HM18.out⟩, MV2, HF2, HD2, BP18, TN18⟩
              case measure => simp [intOf]; omega
          · have HTL : Aside0 (Tells c t (wd ++ [j]) ∧ ((wd ++ [j]).length = 1 ∨ ∀ a, a < 2 ^ c.ins → Eq2 c t (c.start, 0) a)) := ⟨by
              have h := HF.out.tells hir (x := j) (by rw [HMM.out]; exact hjl)
              rw [HP.out, HWD.out] at h
              exact h (fun e => he (EQI.out.1 e))⟩
            obtain ⟨A16, c16, hv16, hl16, hC16⟩ := Kd.R_reads R16.out
            have C16 := Aside0.mk hC16
            have L16 : Aside0 ((natsI wd ++ [(j : Int)]).length = (wd ++ [j]).length) := ⟨by simp [natsI]⟩
            have HBW := Aside0.mk (HB4.out.trans (HM16.out.hb.mono HB4.out.size))
            have hlw : (wd ++ [j]).length ≤ 49 := by simp; omega
            subst hv16
            rw [L16.out] at hl16
            clear hC16
            go_wp2_with fail
            go_ret3
            rw [L16.out]
            exact ⟨_, true, rfl, HBW.out, .inr ⟨rfl, wd ++ [j], A16, c16, rfl, hl16, by
              have h := C16.out
              rw [L16.out] at h
              rw [ENI.out]; exact h, HTL.out.1, hlw, HTL.out.2⟩⟩
        · have HF2 : Aside0 (FS c t (i + 1) reps' ws') := ⟨HF.out.next hir (fun x hx => by
            rw [HMM.out] at hx
            have h := HD.out x (by omega)
            rw [HP.out]; exact h)⟩
          clear HF HD HP
          go_wp2_with fail
          go_roundg k1
          case measure => omega
          case rel => exact ⟨i + 1, m, reps', ws', vs', D, by omega, hm, HM, MV, HF2⟩
    · have NT := Aside0.mk (HF.out.fin (by omega))
      have HBW := Aside0.mk (HB4.out.trans (HM.out.hb.mono HB4.out.size))
      have hN : ¬ 0 < reps.length - i := by omega
      have hN2 : reps.length - i = 0 := by omega
      have hN3 : decide (0 < reps.length - i) = false := decide_eq_false hN
      clear HF HM MV
      go_wp2_with fail
      go_ret3
      exact ⟨_, false, rfl, HBW.out, .inl ⟨rfl, rfl, NT.out⟩⟩
end Go.Proofs.Ytaalafnkglbcpaa.SY
end

/- bakekeep3.built (33): a fact about circuits of tables, walked by hand. Own text of this claim. -/
section
namespace Go.Proofs.Ytaalafnkglbcpaa.SY
open Go.RowKit Go.WideMaps Go.Maps Go.Proofs.YtaalafnkglbcpaaW.PrintWords Go.Proofs.YtaalafnkglbcpaaW.PrintLast Go.Proofs.YtaalafnkglbcpaaW.PrintMore
open Go.Proofs.Ytaalafnkglbcpaa.PL (S77 z77 k77 Tab TabR roww cel OKT chk_is)
open Go.Proofs.Ytaalafnkglbcpaa.PG (S50 z50 k50 GateOk GatesOk)
set_option linter.unusedVariables false
set_option linter.unusedSimpArgs false
def TB1 : Tab := [[⟨0, 0⟩, ⟨1, 0⟩]]
theorem TB1_ok : OKT ((1 : Nat) : Int) ((1 : Nat) : Int) TB1 := by
  refine TabN.okt ⟨by decide, fun s hs => ?_, fun s a hs ha => ?_⟩ (by decide) (by decide) (by decide)
  · have e : s = 0 := by simp [TB1] at hs; omega
    subst e; rfl
  · have e : s = 0 := by simp [TB1] at hs; omega
    subst e
    have : a = 0 ∨ a = 1 := by omega
    rcases this with rfl | rfl <;> decide
theorem C_TB1 {W : World} {g h : Nat} (h1 : W.heap[g]? = some (.cells #[.int .i64 0, .int .i64 0, .int .i64 1, .int .i64 0] 77 (0, 0))) (h2 : W.heap[h]? = some (.cells #[.slice (some ⟨g, 0, none⟩) 2 2] 75 (0, 0))) : (Kd.slice 77 k77).C W (some ⟨h, 0, none⟩) 1 TB1 := by
  have hrow : k77.C W (some ⟨g, 0, none⟩) 2 [⟨0, 0⟩, ⟨1, 0⟩] := by
    refine ⟨rfl, by decide, fun _ => ⟨_, rfl, fun j p hj => ?_⟩⟩
    match j, hj with
    | 0, hj =>
      simp at hj; subst hj
      refine ⟨[.int .i64 0, .int .i64 0], rfl, PL.k77_mk W ⟨0, 0⟩, fun i u hi => ?_⟩
      match i, hi with
      | 0, hi => simp at hi; subst hi; exact (blk_cell h1 0).trans rfl
      | 1, hi => simp at hi; subst hi; exact (blk_cell h1 1).trans rfl
      | i + 2, hi => simp at hi
    | 1, hj =>
      simp at hj; subst hj
      refine ⟨[.int .i64 1, .int .i64 0], rfl, PL.k77_mk W ⟨1, 0⟩, fun i u hi => ?_⟩
      match i, hi with
      | 0, hi => simp at hi; subst hi; exact (blk_cell h1 2).trans rfl
      | 1, hi => simp at hi; subst hi; exact (blk_cell h1 3).trans rfl
      | i + 2, hi => simp at hi
    | j + 2, hj => simp at hj
  refine ⟨rfl, by decide, fun _ => ⟨_, rfl, fun j p hj => ?_⟩⟩
  match j, hj with
  | 0, hj =>
    simp [TB1] at hj; subst hj
    refine ⟨[.slice (some ⟨g, 0, none⟩) 2 2], rfl, ⟨_, _, rfl, by decide, hrow⟩, fun i u hi => ?_⟩
    match i, hi with
    | 0, hi => simp at hi; subst hi; exact (blk_cell h2 0).trans rfl
    | i + 1, hi => simp at hi
  | j + 1, hj => simp [TB1] at hj
theorem C_lit2 {W : World} {g : Nat} {a b : Int} (h : W.heap[g]? = some (.cells #[.int .i64 a, .int .i64 b] 3 (0, 0))) : (Kd.int .i64).C W (some ⟨g, 0, none⟩) 2 [a, b] := by
  refine Kd.C_of_reads (enc := Value.int .i64) (d := (0 : Int)) ⟨rfl, by decide, fun _ => ⟨_, rfl, fun i hi => ?_⟩⟩
  have : i = 0 ∨ i = 1 := by omega
  rcases this with rfl | rfl
  · exact (blk_cell h 0).trans rfl
  · exact (blk_cell h 1).trans rfl
theorem run_TB1 {c : Cir} (h : Does c TB1) (hi : c.ins = 1) : natsI (c.runO c.start [0, 1]) = [0, 1] := by
  have h1 := h.out 0 0 (by decide) (by rw [hi]; decide)
  have h2 := h.nxt 0 0 (by decide) (by rw [hi]; decide)
  have h3 := h.out 0 1 (by decide) (by rw [hi]; decide)
  rw [h.start]
  simp only [Cir.runO]
  rw [h1, h2, show (cel TB1 0 0).f1.toNat = 0 from rfl, h3]
  rfl
set_option maxHeartbeats 8000000 in
set_option maxRecDepth 100000 in
theorem built_calls (w : World) : Calls Try.prog 33 #[] w fun e w' => e = .returned (.bool true) ∧ Below w.heap.size w w' := by
  have B1 := Aside0.mk (blk_alloc (blk_new w (Obj.cells #[.int .i64 0, .int .i64 0, .int .i64 1, .int .i64 0] 77)) (Obj.cells #[.slice (some ⟨w.heap.size, 0, none⟩) 2 2] 75))
  have B2 : Aside0 (((w.alloc (Obj.cells #[.int .i64 0, .int .i64 0, .int .i64 1, .int .i64 0] 77)).alloc (Obj.cells #[.slice (some ⟨w.heap.size, 0, none⟩) 2 2] 75)).heap[w.heap.size + 1]? = some (.cells #[.slice (some ⟨w.heap.size, 0, none⟩) 2 2] 75 (0, 0))) := ⟨by
    have h := blk_new (w.alloc (Obj.cells #[.int .i64 0, .int .i64 0, .int .i64 1, .int .i64 0] 77)) (Obj.cells #[.slice (some ⟨w.heap.size, 0, none⟩) 2 2] 75)
    rwa [show (w.alloc (Obj.cells #[.int .i64 0, .int .i64 0, .int .i64 1, .int .i64 0] 77)).heap.size = w.heap.size + 1 by simp] at h⟩
  have HB := Aside0.mk (below_alloc (below_alloc (Below.refl w.heap.size w) (Obj.cells #[.int .i64 0, .int .i64 0, .int .i64 1, .int .i64 0] 77)) (Obj.cells #[.slice (some ⟨w.heap.size, 0, none⟩) 2 2] 75))
  have OC := Aside0.mk (of2_calls ((w.alloc (Obj.cells #[.int .i64 0, .int .i64 0, .int .i64 1, .int .i64 0] 77)).alloc (Obj.cells #[.slice (some ⟨w.heap.size, 0, none⟩) 2 2] 75)) 1 1 (some ⟨w.heap.size + 1, 0, none⟩) 1 TB1 (.inl rfl) (by decide) (by decide) (by decide) TB1_ok (C_TB1 B1.out B2.out) (Nat.le_refl 1))
  rw [show TB1.length = 1 from rfl, show ((1 : Nat) : Int) = 1 from rfl] at OC
  go_enter Try.func33, Try.ntmps33
  go_wp2_with fail
  (with_reducible refine OC.out.mono ?_)
  rintro e w2 ⟨c, Ag, Ao, An, Ai, cg, co, cn, ci, rfl, hin, hb, ok, hd, hi, ho, hn⟩
  have HB2 := Aside0.mk (HB.out.trans (hb.mono HB.out.size))
  have HIN := Aside0.mk hin
  have OK := Aside0.mk ok
  have RT := Aside0.mk (run_TB1 hd hi)
  have HI := Aside0.mk hi
  clear OC hb HB B1 B2 hin ok hd ho hn hi
  have RC := Aside0.mk (fun W (hb : Below w2.heap.size w2 W) A cw (hw : Kd.C (Kd.int .i64) W A 2 [0, 1]) => run_calls W c Ag Ao An Ai cg co cn ci A cw [0, 1] OK.out (HIN.out.below hb) hw (fun x hx => by
    rw [HI.out]; simp at hx; omega) (by decide))
  rw [RT.out] at RC
  clear RT HIN OK HI
  obtain ⟨ins, gs, outs, next, init⟩ := c
  dsimp only [Cir.V] at RC ⊢
  have C1 := Aside0.mk (blk_alloc (blk_new w2 (Obj.cells #[.int .i64 (ins : Int), .slice Ag gs.length cg, .slice Ao outs.length co, .slice An next.length cn, .slice Ai init.length ci] 38)) (Obj.cells #[.int .i64 0, .int .i64 1] 3))
  have C2 : Aside0 (((w2.alloc (Obj.cells #[.int .i64 (ins : Int), .slice Ag gs.length cg, .slice Ao outs.length co, .slice An next.length cn, .slice Ai init.length ci] 38)).alloc (Obj.cells #[.int .i64 0, .int .i64 1] 3)).heap[w2.heap.size + 1]? = some (.cells #[.int .i64 0, .int .i64 1] 3 (0, 0))) := ⟨by
    have h := blk_new (w2.alloc (Obj.cells #[.int .i64 (ins : Int), .slice Ag gs.length cg, .slice Ao outs.length co, .slice An next.length cn, .slice Ai init.length ci] 38)) (Obj.cells #[.int .i64 0, .int .i64 1] 3)
    rwa [show (w2.alloc (Obj.cells #[.int .i64 (ins : Int), .slice Ag gs.length cg, .slice Ao outs.length co, .slice An next.length cn, .slice Ai init.length ci] 38)).heap.size = w2.heap.size + 1 by simp] at h⟩
  have HBa := Aside0.mk (below_alloc (below_alloc (Below.refl w2.heap.size w2) (Obj.cells #[.int .i64 (ins : Int), .slice Ag gs.length cg, .slice Ao outs.length co, .slice An next.length cn, .slice Ai init.length ci] 38)) (Obj.cells #[.int .i64 0, .int .i64 1] 3))
  have RC2 := Aside0.mk (RC.out _ HBa.out (some ⟨w2.heap.size + 1, 0, none⟩) 2 (C_lit2 C2.out))
  rw [show ([0, 1] : List Nat).length = 2 from rfl] at RC2
  go_wp2_with fail
  (with_reducible refine RC2.out.mono ?_)
  rintro e w3 ⟨v3, rfl, hr3, hb3⟩
  obtain ⟨A3, c3, rfl⟩ := Kd.R_slice hr3
  have HB3 := Aside0.mk ((HB2.out.trans (HBa.out.mono HB2.out.size)).trans (hb3.mono (HB2.out.trans (HBa.out.mono HB2.out.size)).size))
  have hC3 := (Kd.R_reads' hr3).2
  obtain ⟨k, hk⟩ := (PL.eq_is [0, 1] (by decide)).rounds
  have EQ := Aside0.mk (PL.slices_Equal_int_int.calls k A3 c3 [0, 1] (some ⟨w3.heap.size, 0, none⟩) 2 [0, 1] true (w3.alloc (Obj.cells #[.int .i64 0, .int .i64 1] 3)) (Kd.C_alloc hC3.2 _) hC3.1 (C_lit2 (blk_new w3 _)) (Nat.le_refl 2) hk)
  rw [show ([0, 1] : List Int).length = 2 from rfl] at EQ ⊢
  have HB4 := Aside0.mk (below_alloc HB3.out (Obj.cells #[.int .i64 0, .int .i64 1] 3))
  clear RC RC2 hr3 hb3 hC3 hk C1 C2 HBa HB2 HB3
  go_wp2_with fail
  (with_reducible refine EQ.out.mono ?_)
  rintro e w4 ⟨rfl, hd4⟩
  have HB5 := Aside0.mk (HB4.out.trans (hd4.below.mono HB4.out.size))
  clear EQ hd4 HB4
  go_wp2_with fail
  go_ret
  exact ⟨rfl, HB5.out⟩
end Go.Proofs.Ytaalafnkglbcpaa.SY
end

/- bakekeep3.same (31) and bakekeep3.word (19), walked by hand. Own text of this claim. -/
section
namespace Go.Proofs.Ytaalafnkglbcpaa.SY
open Go.RowKit Go.WideMaps Go.Maps Go.Proofs.YtaalafnkglbcpaaW.PrintWords Go.Proofs.YtaalafnkglbcpaaW.PrintLast Go.Proofs.YtaalafnkglbcpaaW.PrintMore
open Go.Proofs.Ytaalafnkglbcpaa.PL (S77 z77 k77 Tab TabR roww cel OKT info3)
open Go.Proofs.Ytaalafnkglbcpaa.PG (S50 z50 k50 GateOk GatesOk)
set_option linter.unusedVariables false
set_option linter.unusedSimpArgs false
/-- The circuit of one gate that is 0. -/
def C1 : Cir := ⟨1, [⟨0, 0, 0, 0, 0⟩], [0], [], []⟩
theorem C1_ok : C1.Ok := ⟨fun i hi => by
  have e : i = 0 := by simp [C1] at hi; omega
  subst e
  exact .inl ⟨rfl, rfl, rfl, rfl, by decide, by decide⟩, by decide, by decide, by decide, by decide, by decide, by simp [C1], by simp [C1], rfl⟩
theorem C1_eq (a : Nat) (h : a < 2) : Eq2 C1 TB1 (C1.start, 0) a ↔ a = 0 := by
  have : a = 0 ∨ a = 1 := by omega
  rcases this with rfl | rfl
  · exact ⟨fun _ => rfl, fun _ => by unfold Eq2; decide⟩
  · exact ⟨fun h => absurd h (by unfold Eq2; decide), fun h => by omega⟩
theorem C1_none : ¬ NoneTells C1 TB1 := by
  rintro ⟨R, h0, h1⟩
  have h := (h1 _ h0 1 (by decide)).1
  exact absurd ((C1_eq 1 (by decide)).1 h) (by decide)
theorem C1_tells {l : List Nat} (h : Tells C1 TB1 l) (h1 : l.length = 1 ∨ ∀ a, a < 2 ^ C1.ins → Eq2 C1 TB1 (C1.start, 0) a) : l = [1] := by
  rcases h1 with h1 | h1
  · obtain ⟨l0, x, p, rfl, hp, hx, he⟩ := h
    have e0 : l0 = [] := by
      rw [List.length_append, List.length_singleton] at h1
      exact List.eq_nil_of_length_eq_zero (by omega)
    subst e0
    have ep : p = (C1.start, 0) := Prod.ext hp.st hp.tt
    subst ep
    have hx2 : x < 2 := hx
    have : x ≠ 0 := fun e => he ((C1_eq x hx2).2 e)
    have e1 : x = 1 := by omega
    subst e1; rfl
  · have h := h1 1 (by decide)
    exact absurd ((C1_eq 1 (by decide)).1 h) (by decide)
theorem C_lit1 {W : World} {g : Nat} {a : Int} (h : W.heap[g]? = some (.cells #[.int .i64 a] 3 (0, 0))) : (Kd.int .i64).C W (some ⟨g, 0, none⟩) 1 [a] := by
  refine Kd.C_of_reads (enc := Value.int .i64) (d := (0 : Int)) ⟨rfl, by decide, fun _ => ⟨_, rfl, fun i hi => ?_⟩⟩
  have : i = 0 := by omega
  subst this
  exact (blk_cell h 0).trans rfl
theorem C_gate1 {W : World} {g : Nat} (h : W.heap[g]? = some (.cells #[.int .i64 0, .int .i64 0, .int .i64 0, .int .i64 0, .int .i64 0] 50 (0, 0))) : k50.C W (some ⟨g, 0, none⟩) 1 [⟨0, 0, 0, 0, 0⟩] := by
  refine ⟨rfl, by decide, fun _ => ⟨_, rfl, fun j p hj => ?_⟩⟩
  match j, hj with
  | 0, hj =>
    simp at hj; subst hj
    refine ⟨[.int .i64 0, .int .i64 0, .int .i64 0, .int .i64 0, .int .i64 0], rfl, PG.k50_mk W ⟨0, 0, 0, 0, 0⟩, fun i u hi => ?_⟩
    match i, hi with
    | 0, hi => simp at hi; subst hi; exact (blk_cell h 0).trans rfl
    | 1, hi => simp at hi; subst hi; exact (blk_cell h 1).trans rfl
    | 2, hi => simp at hi; subst hi; exact (blk_cell h 2).trans rfl
    | 3, hi => simp at hi; subst hi; exact (blk_cell h 3).trans rfl
    | 4, hi => simp at hi; subst hi; exact (blk_cell h 4).trans rfl
    | i + 5, hi => simp at hi
  | j + 1, hj => simp at hj
set_option maxHeartbeats 8000000 in
set_option maxRecDepth 100000 in
theorem same_calls (w : World) : Calls Try.prog 31 #[] w fun e w' => e = .returned (.bool true) ∧ Below w.heap.size w w' := by
  obtain ⟨h0, h1, h2, h3, hb⟩ := four_new w (Obj.cells #[.int .i64 0, .int .i64 0, .int .i64 0, .int .i64 0, .int .i64 0] 50) (Obj.cells #[.int .i64 0] 3) (Obj.cells #[.int .i64 0, .int .i64 0, .int .i64 1, .int .i64 0] 77) (Obj.cells #[.slice (some ⟨w.heap.size + 2, 0, none⟩) 2 2] 75)
  have FC := Aside0.mk (find_calls ((((w.alloc (Obj.cells #[.int .i64 0, .int .i64 0, .int .i64 0, .int .i64 0, .int .i64 0] 50)).alloc (Obj.cells #[.int .i64 0] 3)).alloc (Obj.cells #[.int .i64 0, .int .i64 0, .int .i64 1, .int .i64 0] 77)).alloc (Obj.cells #[.slice (some ⟨w.heap.size + 2, 0, none⟩) 2 2] 75)) C1 (some ⟨w.heap.size, 0, none⟩) (some ⟨w.heap.size + 1, 0, none⟩) none none 1 1 0 0 (some ⟨w.heap.size + 3, 0, none⟩) 1 TB1 C1_ok
    ⟨C_gate1 h0, C_lit1 h1, Kd.C_nil _ _, Kd.C_nil _ _, by decide, by decide, by decide, by decide⟩ TB1_ok (C_TB1 h2 h3) (Nat.le_refl 1) (by decide) (by decide))
  have HB := Aside0.mk hb
  clear h0 h1 h2 h3 hb
  rw [show C1.V (some ⟨w.heap.size, 0, none⟩) (some ⟨w.heap.size + 1, 0, none⟩) none none 1 1 0 0 = .agg #[.int .i64 1, .slice (some ⟨w.heap.size, 0, none⟩) 1 1, .slice (some ⟨w.heap.size + 1, 0, none⟩) 1 1, .slice none 0 0, .slice none 0 0] from rfl, show TB1.length = 1 from rfl, show ((C1.ins : Nat) : Int) = 1 from rfl, show ((C1.outs.length : Nat) : Int) = 1 from rfl] at FC
  go_enter Try.func31, Try.ntmps31
  go_wp2_with fail
  (with_reducible refine FC.out.mono ?_)
  rintro e w2 ⟨v, b, rfl, hb, hc⟩
  have HB2 := Aside0.mk (HB.out.trans (hb.mono HB.out.size))
  obtain ⟨A, cap, rfl, rfl, hcap, hC⟩ : ∃ A cap, b = true ∧ v = .slice A 1 cap ∧ 1 ≤ cap ∧ Kd.C (Kd.int .i64) w2 A 1 [1] := by
    rcases hc with ⟨_, _, hn⟩ | ⟨hb1, l, A, cap, hv, hl, hC, ht, _, h1⟩
    · exact absurd hn C1_none
    · have e := C1_tells ht h1
      subst e
      exact ⟨A, cap, hb1, hv, hl, hC⟩
  obtain ⟨k, hk⟩ := (PL.eq_is [1] (by decide)).rounds
  have EQ := Aside0.mk (PL.slices_Equal_int_int.calls k A cap [1] (some ⟨w2.heap.size, 0, none⟩) 1 [1] true (w2.alloc (Obj.cells #[.int .i64 1] 3)) (Kd.C_alloc hC _) hcap (C_lit1 (blk_new w2 _)) (Nat.le_refl 1) hk)
  rw [show ([1] : List Int).length = 1 from rfl] at EQ
  have HB4 := Aside0.mk (below_alloc HB2.out (Obj.cells #[.int .i64 1] 3))
  clear FC hb HB HB2 hC hc hk
  go_wp2_with fail
  (with_reducible refine EQ.out.mono ?_)
  rintro e w4 ⟨rfl, hd4⟩
  have HB5 := Aside0.mk (HB4.out.trans (hd4.below.mono HB4.out.size))
  clear EQ hd4 HB4
  go_wp2_with fail
  go_ret
  exact ⟨rfl, HB5.out⟩
set_option maxHeartbeats 8000000 in
set_option maxRecDepth 100000 in
theorem word_calls (w : World) (A0 : Option Addr) (c0 : Nat) (l0 : List Int) (I : Nat) (hI : I ≤ 4) (hr0 : Kd.C (Kd.int .i64) w A0 l0.length l0) (hc0 : l0.length ≤ c0) :
    Calls Try.prog 19 #[.slice A0 l0.length c0, .int .i64 (I : Int)] w fun e w' => ∃ (v : Value) (wd : List Nat), e = .returned v ∧ Kd.R (Kd.int .i64) 3 w' w.heap.size Yes v (natsI wd) ∧ wd.length ≤ 60 ∧ (∀ x ∈ wd, x < 2 ^ I) ∧ Below w.heap.size w w' := by
  have HR := Aside0.mk hr0
  obtain ⟨M, hM⟩ : ∃ M, 2 ^ I = M := ⟨_, rfl⟩
  have hMle : M ≤ 16 := by
    rw [← hM]; exact Nat.le_trans (Nat.pow_le_pow_right (by omega) hI) (by decide)
  have hM1 : 1 ≤ M := by rw [← hM]; exact Nat.one_le_two_pow
  have HM2 : Aside0 (wrap64 ((2 : Int) ^ I) = (M : Int)) := ⟨by
    rw [show (2 : Int) ^ I = ((2 ^ I : Nat) : Int) from by simp, hM]
    unfold wrap64; omega⟩
  rw [hM]
  clear hr0 hM
  have HLM := Aside0.mk HR.out.2.1
  go_enter Try.func19, Try.ntmps19
  rcases Nat.lt_or_ge 60 l0.length with h60 | h60
  · go_wp2_with fail
    go_loopw [5, 7, 14] (fun v5 _ v14 wr => ∃ (i : Nat) (wd : List Nat), i ≤ 60 ∧ v14 = .int .i64 (i : Int) ∧ wd.length = i ∧ Aside0 (Kd.R (Kd.int .i64) 3 wr w.heap.size Yes v5 (natsI wd)) ∧ Aside0 (∀ x ∈ wd, x < M) ∧ Aside0 (Below w.heap.size w wr)) (fun _ _ v14 _ => 60 - (intOf v14).toNat)
    case atStart => exact ⟨0, [], by omega, rfl, rfl, ⟨Kd.R_nil _ _ _ _ _⟩, ⟨fun x hx => by simp at hx⟩, ⟨Below.refl _ _⟩⟩
    case round =>
      obtain ⟨i, wd, hi, rfl, hwl, R5, LT, HB⟩ := hrel
      obtain ⟨w2, rfl⟩ : ∃ w2 : World, w2 = wr := ⟨_, rfl⟩
      have HWL := Aside0.mk hwl
      clear hwl
      by_cases hil : i < 60
      · obtain ⟨ad, e1, hx⟩ := Kd.at_int (Kd.C_below HR.out HB.out) (i : Int) (by omega) (by omega)
        subst e1
        rw [Int.toNat_natCast] at hx
        generalize rd l0 (i : Int) = x at *
        obtain ⟨y, hy, y0, y1⟩ := PL.below_is x (M : Int) (by omega) (by omega)
        obtain ⟨z, rfl⟩ : ∃ z : Nat, y = (z : Int) := ⟨y.toNat, by omega⟩
        have BC := Aside0.mk (PL.bakemake_Below.calls x (M : Int) (z : Int) w2 hy)
        rw [← HM2.out] at BC
        have hz : z < M := by omega
        clear hy y0 y1
        go_wp2_with fail
        (with_reducible refine BC.out.mono ?_)
        rintro e w3 ⟨rfl, hd⟩
        have R53 := Aside0.mk (Kd.R_below R5.out hd.below)
        have HB3 := Aside0.mk (HB.out.trans (hd.below.mono HB.out.size))
        have NL : Aside0 ((natsI wd).length ≤ 60) := ⟨by have := HWL.out; simp [natsI]; omega⟩
        clear BC hd R5 HB hx
        go_wp2_with (first
          | ((with_reducible refine gate_builtin (b := .append) (xs := #[.tmp 18, .tmp 23]) rfl ?_); at_builtin; refine Kd.R_append (Kd.int .i64) (w0 := w) w.heap.size rfl (.tmp 18) (.tmp 23) 22 3 (.int .i64 0) 8 rfl Try.underlying22 info3 rfl (by decide) (by omega) u5 (natsI wd) (z : Int) [.int .i64 (z : Int)] (fun _ => True) (fun _ => False) rfl ?aX ?aP (fun _ hk => hk.elim) (fun _ _ => trivial) R53.out HB3.out ?aS ?aL ?_; (case aX => first | rfl | (simp; done)); (case aP => exact rfl); (case aS => exact HB3.out.size); (case aL => have h1_ := NL.out; omega); intro v4 w4 ho hb hg hat; have R4 := Aside0.mk ho; have B4 := Aside0.mk hb; clear ho hb hg hat))
        go_roundw
        case rel => exact ⟨i + 1, wd ++ [z], by omega, by go_num, by simp [HWL.out], ⟨by
          rw [show natsI (wd ++ [z]) = natsI wd ++ [(z : Int)] from by simp [natsI]]; exact R4.out⟩, ⟨fun y hy => by
          rcases List.mem_append.1 hy with hy | hy
          · exact LT.out y hy
          · rw [List.mem_singleton.1 hy]; exact hz⟩, B4⟩
        case measure => simp [intOf]; omega
      · have HWL2 : Aside0 (wd.length ≤ 60) := ⟨by have := HWL.out; omega⟩
        go_wp2_with fail
        go_ret
        exact ⟨_, wd, rfl, R5.out, HWL2.out, LT.out, HB.out⟩
  · go_wp2_with fail
    go_loopw [5, 7, 14] (fun v5 _ v14 wr => ∃ (i : Nat) (wd : List Nat), i ≤ l0.length ∧ v14 = .int .i64 (i : Int) ∧ wd.length = i ∧ Aside0 (Kd.R (Kd.int .i64) 3 wr w.heap.size Yes v5 (natsI wd)) ∧ Aside0 (∀ x ∈ wd, x < M) ∧ Aside0 (Below w.heap.size w wr)) (fun _ _ v14 _ => l0.length - (intOf v14).toNat)
    case atStart => exact ⟨0, [], by omega, rfl, rfl, ⟨Kd.R_nil _ _ _ _ _⟩, ⟨fun x hx => by simp at hx⟩, ⟨Below.refl _ _⟩⟩
    case round =>
      obtain ⟨i, wd, hi, rfl, hwl, R5, LT, HB⟩ := hrel
      obtain ⟨w2, rfl⟩ : ∃ w2 : World, w2 = wr := ⟨_, rfl⟩
      have HWL := Aside0.mk hwl
      clear hwl
      by_cases hil : i < l0.length
      · obtain ⟨ad, e1, hx⟩ := Kd.at_int (Kd.C_below HR.out HB.out) (i : Int) (by omega) (by omega)
        subst e1
        rw [Int.toNat_natCast] at hx
        generalize rd l0 (i : Int) = x at *
        obtain ⟨y, hy, y0, y1⟩ := PL.below_is x (M : Int) (by omega) (by omega)
        obtain ⟨z, rfl⟩ : ∃ z : Nat, y = (z : Int) := ⟨y.toNat, by omega⟩
        have BC := Aside0.mk (PL.bakemake_Below.calls x (M : Int) (z : Int) w2 hy)
        rw [← HM2.out] at BC
        have hz : z < M := by omega
        clear hy y0 y1
        go_wp2_with fail
        (with_reducible refine BC.out.mono ?_)
        rintro e w3 ⟨rfl, hd⟩
        have R53 := Aside0.mk (Kd.R_below R5.out hd.below)
        have HB3 := Aside0.mk (HB.out.trans (hd.below.mono HB.out.size))
        have NL : Aside0 ((natsI wd).length ≤ 60) := ⟨by have := HWL.out; simp [natsI]; omega⟩
        clear BC hd R5 HB hx
        go_wp2_with (first
          | ((with_reducible refine gate_builtin (b := .append) (xs := #[.tmp 18, .tmp 23]) rfl ?_); at_builtin; refine Kd.R_append (Kd.int .i64) (w0 := w) w.heap.size rfl (.tmp 18) (.tmp 23) 22 3 (.int .i64 0) 8 rfl Try.underlying22 info3 rfl (by decide) (by omega) u5 (natsI wd) (z : Int) [.int .i64 (z : Int)] (fun _ => True) (fun _ => False) rfl ?aX ?aP (fun _ hk => hk.elim) (fun _ _ => trivial) R53.out HB3.out ?aS ?aL ?_; (case aX => first | rfl | (simp; done)); (case aP => exact rfl); (case aS => exact HB3.out.size); (case aL => have h1_ := NL.out; omega); intro v4 w4 ho hb hg hat; have R4 := Aside0.mk ho; have B4 := Aside0.mk hb; clear ho hb hg hat))
        go_roundw
        case rel => exact ⟨i + 1, wd ++ [z], by omega, by go_num, by simp [HWL.out], ⟨by
          rw [show natsI (wd ++ [z]) = natsI wd ++ [(z : Int)] from by simp [natsI]]; exact R4.out⟩, ⟨fun y hy => by
          rcases List.mem_append.1 hy with hy | hy
          · exact LT.out y hy
          · rw [List.mem_singleton.1 hy]; exact hz⟩, B4⟩
        case measure => simp [intOf]; omega
      · have HWL2 : Aside0 (wd.length ≤ 60) := ⟨by have := HWL.out; omega⟩
        go_wp2_with fail
        go_ret
        exact ⟨_, wd, rfl, R5.out, HWL2.out, LT.out, HB.out⟩
end Go.Proofs.Ytaalafnkglbcpaa.SY
end
