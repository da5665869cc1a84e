/- The plain side of learning: runs of tables, machines, the law of learning. Own text of this claim. -/
import Derived.Test.YtaalafnkglbcpaaPLx0
import Derived.Test.YtaalafnkglbcpaaPLx1
import Derived.Test.YtaalafnkglbcpaaTable
import Derived.Test.YtaalafnkglbcpaaPLx6
import Derived.Test.YtaalafnkglbcpaaPLx7
import Derived.Test.YtaalafnkglbcpaaPLx8
import Derived.Test.YtaalafnkglbcpaaPLx10
import Derived.Test.YtaalafnkglbcpaaPLx11
import Derived.Test.YtaalafnkglbcpaaMinPlain
import Derived.Test.YtaalafnkglbcpaaProg
namespace Go.Proofs.Ytaalafnkglbcpaa.PL
open Go.RowKit Go.Proofs.YtaalafnkglbcpaaW.PrintWords Go.Proofs.YtaalafnkglbcpaaW.PrintLast Go.Proofs.YtaalafnkglbcpaaW.PrintMore
set_option linter.unusedVariables false

theorem w64 {n : Int} (h0 : -9223372036854775808 ≤ n) (h1 : n ≤ 9223372036854775807) : wrap64 n = n := by unfold wrap64; omega
theorem wnext {i : Nat} (h : i ≤ 1000000) : wrap64 ((i : Int) + 1) = ((i + 1 : Nat) : Int) := by rw [w64 (by omega) (by omega)]; omega

theorem shl_ins {n : Int} (h0 : 0 ≤ n) (h1 : n ≤ 4) : 1 ≤ shl .i64 1 n ∧ shl .i64 1 n ≤ 16 := by
  have : n = 0 ∨ n = 1 ∨ n = 2 ∨ n = 3 ∨ n = 4 := by omega
  rcases this with rfl | rfl | rfl | rfl | rfl <;> decide +kernel
theorem shl_outs {n : Int} (h0 : 0 ≤ n) (h1 : n ≤ 10) : 1 ≤ shl .i64 1 n ∧ shl .i64 1 n ≤ 1024 := by
  have : n = 0 ∨ n = 1 ∨ n = 2 ∨ n = 3 ∨ n = 4 ∨ n = 5 ∨ n = 6 ∨ n = 7 ∨ n = 8 ∨ n = 9 ∨ n = 10 := by omega
  rcases this with rfl | rfl | rfl | rfl | rfl | rfl | rfl | rfl | rfl | rfl | rfl <;> decide +kernel

/-- A table that Check passes. -/
structure OKT (ins outs : Int) (t : Tab) : Prop where
  i0 : 0 ≤ ins
  i1 : ins ≤ 4
  o0 : 0 ≤ outs
  o1 : outs ≤ 10
  n1 : 1 ≤ t.length
  n2 : t.length ≤ 64
  row : ∀ row ∈ t, (row.length : Int) = shl .i64 1 ins
  ok : ∀ row ∈ t, ∀ r ∈ row, 0 ≤ r.f0 ∧ r.f0 < shl .i64 1 outs ∧ 0 ≤ r.f1 ∧ r.f1 < t.length

section
variable {ins outs : Int} {t : Tab}
theorem OKT.tab (h : OKT ins outs t) : TabR t := by
  have h1 := shl_ins h.i0 h.i1
  have h2 := shl_outs h.o0 h.o1
  refine ⟨h.n1, h.n2, ⟨(shl .i64 1 ins).toNat, by omega, fun row hr => by have := h.row row hr; omega⟩, fun row hr r hr' => ?_⟩
  have := h.ok row hr r hr'
  omega
theorem OKT.cel (h : OKT ins outs t) {s a : Nat} (hs : s < t.length) (ha : a < (roww t s).length) : 0 ≤ (cel t s a).f0 ∧ (cel t s a).f0 < shl .i64 1 outs ∧ 0 ≤ (cel t s a).f1 ∧ (cel t s a).f1 < t.length := h.ok _ (roww_mem hs) _ (cel_mem ha)
theorem OKT.min (h : OKT ins outs t) : OKT ins outs (minRows t) := by
  have hT := h.tab
  have hM := min_tabR hT
  have key : ∀ row ∈ minRows t, ∃ x, x < (fin t).length ∧ row = roww (minRows t) x := fun row hr => by
    obtain ⟨x, hx, e⟩ := List.getElem_of_mem hr
    exact ⟨x, by rw [← min_len hT]; exact hx, by unfold roww; rw [getD_of_lt _ _ hx, e]⟩
  refine ⟨h.i0, h.i1, h.o0, h.o1, hM.n1, hM.n2, fun row hr => ?_, fun row hr r hr' => ?_⟩
  · obtain ⟨x, hx, rfl⟩ := key row hr
    rw [min_rlen hT hx]
    exact h.row _ (roww_mem (reps_lt (fin_is hT).2.1 hx))
  · have h1 := hM.ok row hr r hr'
    obtain ⟨x, hx, rfl⟩ := key row hr
    obtain ⟨a, ha, rfl⟩ := List.getElem_of_mem hr'
    have ha' : a < (roww t ((fin t).getD x 0)).length := by rw [← min_rlen hT hx]; exact ha
    have e : (roww (minRows t) x)[a] = PL.cel (minRows t) x a := by unfold PL.cel; rw [getD_of_lt _ _ ha]
    rw [e] at h1 ⊢
    refine ⟨h1.1, ?_, h1.2.2.1, h1.2.2.2⟩
    rw [min_out hT hx ha']
    exact (h.cel (reps_lt (fin_is hT).2.1 hx) ha').2.1

theorem chk_l1 (h : OKT ins outs t) (s : Nat) (hs : s < t.length) (R : Int) (hR : Ev (fun k => learn_Check.l0 k t (t.length : Int) ((s + 1 : Nat) : Int) ins outs t) R) : ∀ d a : Nat, a + d = (roww t s).length →
    Ev (fun k => learn_Check.l1 k t (t.length : Int) (s : Int) (roww t s) ((roww t s).length : Int) (a : Int) ins outs t) R := by
  have hn := h.n2
  have hl := h.tab.len_le hs
  intro d
  induction d with
  | zero => intro a ha; refine Ev.step (fun k => ?_) hR; simp only [learn_Check.l1]; rw [if_neg (by omega), wnext (by omega)]
  | succ d ih =>
    intro a ha
    have hc := h.cel hs (a := a) (by omega)
    have e : rd_T77 (roww t s) (a : Int) = PL.cel t s a := rfl
    refine Ev.step (f := fun k => learn_Check.j3 k t (t.length : Int) (s : Int) (roww t s) ((roww t s).length : Int) (a : Int) false ins outs t (PL.cel t s a).f0 (PL.cel t s a).f1) (fun k => ?_) ?_
    · simp only [learn_Check.l1, e]; rw [if_pos (by omega), if_pos (by omega), if_pos (by omega), if_neg (by omega), if_pos h.o0, decide_eq_false (by omega)]
    · refine Ev.step (fun k => ?_) (ih (a + 1) (by omega))
      simp only [learn_Check.j3]; rw [if_neg (by simp), if_neg (by omega), if_neg (by omega), wnext (by omega)]
theorem chk_l0 (h : OKT ins outs t) : ∀ d s : Nat, s + d = t.length → Ev (fun k => learn_Check.l0 k t (t.length : Int) (s : Int) ins outs t) 0 := by
  have hn := h.n2
  intro d
  induction d with
  | zero => intro s hs; refine Ev.step (fun k => ?_) (Ev.now _); simp only [learn_Check.l0]; rw [if_neg (by omega)]
  | succ d ih =>
    intro s hs
    have e : rd_L2 t (s : Int) = roww t s := rfl
    refine Ev.step (fun k => ?_) (chk_l1 h s (by omega) 0 (ih (s + 1) (by omega)) (roww t s).length 0 (by omega))
    simp only [learn_Check.l0, e]; rw [if_pos (by omega), if_pos (by omega), if_pos (by omega), if_pos h.i0, if_pos (h.row _ (roww_mem (by omega)))]; rfl
theorem chk_is (h : OKT ins outs t) : Ev (fun k => learn_Check.f k ins outs t) 0 := by
  have h1 := h.i0; have h2 := h.i1; have h3 := h.o0; have h4 := h.o1; have h5 := h.n1; have h6 := h.n2
  refine Ev.congr (f := fun k => learn_Check.j0 k false ins outs t) (fun k => ?_) ?_
  · unfold learn_Check.f; rw [if_neg (by omega), if_neg (by omega), if_neg (by omega), if_neg (by omega), decide_eq_false (by omega)]
  · refine Ev.step (fun k => ?_) (chk_l0 h t.length 0 (by omega))
    simp only [learn_Check.j0]; rw [if_neg (by simp), if_neg (by omega)]; rfl
theorem OKT.tabOK (h : OKT ins outs t) : TabOK ins outs t := ⟨(chk_is h).rounds, h.tab⟩

/-! ### runs -/
def runO (t : Tab) : Nat → List Int → List Int
  | _, [] => []
  | s, a :: w => (PL.cel t s a.toNat).f0 :: runO t (PL.cel t s a.toNat).f1.toNat w
theorem runO_len (t : Tab) : ∀ (w : List Int) (s : Nat), (runO t s w).length = w.length
  | [], _ => rfl
  | a :: w, s => by simp [runO, runO_len t w]
def InW (ins : Int) (w : List Int) : Prop := ∀ x ∈ w, 0 ≤ x ∧ x < shl .i64 1 ins

theorem run_min (h : OKT ins outs t) : ∀ (w : List Int) (j s : Nat), InW ins w → j < (fin t).length → s < t.length → Bis t ((fin t).getD j 0) s → runO (minRows t) j w = runO t s w
  | [], _, _, _, _, _, _ => rfl
  | a :: w, j, s, hw, hj, hs, hb => by
    have hT := h.tab
    have ha := hw a (by simp)
    have hjl := reps_lt (fin_is hT).2.1 hj
    have r1 := h.row _ (roww_mem hjl)
    have r2 := h.row _ (roww_mem hs)
    have h1 : a.toNat < (roww t ((fin t).getD j 0)).length := by omega
    have h2 : a.toNat < (roww t s).length := by omega
    have hl := hb.like.2 _ h1
    have hm := min_to hT hj h1
    have hc := h.cel hs h2
    simp only [runO]
    rw [min_out hT hj h1, hl.1, run_min h w _ (PL.cel t s a.toNat).f1.toNat (fun x hx => hw x (by simp [hx])) hm.2.1 (by omega) (hm.2.2.trans hl.2)]

theorem rd_natl (l : List Int) (i : Nat) (h : i < l.length) : l.drop i = rd l (i : Int) :: l.drop (i + 1) := by
  rw [List.drop_eq_getElem_cons h]; simp [rd, List.getD_eq_getElem?_getD, List.getElem?_eq_getElem h]
theorem rd_memw {l : List Int} {i : Nat} (h : i < l.length) : rd l (i : Int) ∈ l := List.mem_of_mem_drop (i := i) (by rw [rd_natl l i h]; simp)

theorem run_l0 (h : OKT ins outs t) (w : List Int) (hw : InW ins w) (hwl : w.length ≤ 60) : ∀ d i : Nat, ∀ (acc : List Int) (s : Int), i + d = w.length → acc.length = i → 0 ≤ s → s < t.length →
    Ev (fun k => learn_Run.l0 k acc s w (w.length : Int) (i : Int) ins outs t) (acc ++ runO t s.toNat (w.drop i), 0) := by
  intro d
  induction d with
  | zero =>
    intro i acc s hi ha hs0 hs1
    refine Ev.step (f := fun _ => some (acc, 0)) (fun k => ?_) ?_
    · simp only [learn_Run.l0]; rw [if_neg (by omega)]
    · rw [List.drop_of_length_le (by omega)]; simp only [runO, List.append_nil]; exact Ev.now _
  | succ d ih =>
    intro i acc s hi ha hs0 hs1
    have hr := hw _ (rd_memw (l := w) (i := i) (by omega))
    rw [rd_natl w i (by omega)]
    obtain ⟨x, hx⟩ : ∃ x, rd w (i : Int) = x := ⟨_, rfl⟩
    rw [hx] at hr ⊢
    have e1 : rd_L2 t s = roww t s.toNat := rfl
    have e2 : rd_T77 (roww t s.toNat) x = PL.cel t s.toNat x.toNat := rfl
    have hrow := h.row _ (roww_mem (t := t) (s := s.toNat) (by omega))
    have hc := h.cel (t := t) (s := s.toNat) (a := x.toNat) (by omega) (by omega)
    have hn := ih (i + 1) (acc ++ [(PL.cel t s.toNat x.toNat).f0]) (PL.cel t s.toNat x.toNat).f1 (by omega) (by simp [ha]) hc.2.2.1 hc.2.2.2
    rw [List.append_assoc] at hn
    refine Ev.step (fun k => ?_) hn
    simp only [learn_Run.l0, hx, e1, e2]
    rw [if_pos (by omega), if_pos (by omega), if_pos (by omega), if_neg (by omega), if_pos h.i0, if_neg (by omega), if_pos hs0, if_pos hs1, if_pos hr.1, if_pos (by omega), if_pos (by omega), wnext (by omega)]
theorem run_is (h : OKT ins outs t) (w : List Int) (hw : InW ins w) (hwl : w.length ≤ 60) : Ev (fun k => learn_Run.f k ins outs t w) (runO t 0 w, 0) := by
  unfold learn_Run.f
  refine Ev.bind (chk_is h) ?_
  refine Ev.congr (f := fun k => learn_Run.l0 k ([] : List Int) 0 w (w.length : Int) 0 ins outs t) (fun k => by rw [if_pos rfl]) ?_
  have := run_l0 h w hw hwl w.length 0 [] 0 (by omega) rfl (by omega) (by have := h.n1; omega)
  simpa using this

theorem eq_l0 (l : List Int) (hl : l.length ≤ 1000) : ∀ d i : Nat, i + d = l.length → Ev (fun k => slices_Equal_int_int.l0 k l l (l.length : Int) (i : Int)) true := by
  intro d
  induction d with
  | zero => intro i hi; refine Ev.step (fun k => ?_) (Ev.now _); simp only [slices_Equal_int_int.l0]; rw [if_neg (by omega)]
  | succ d ih =>
    intro i hi
    refine Ev.step (fun k => ?_) (ih (i + 1) (by omega))
    simp only [slices_Equal_int_int.l0]; rw [if_pos (by omega), if_pos (by omega), if_pos (by omega), if_pos (by omega), if_pos trivial, wnext (by omega)]
theorem eq_is (l : List Int) (hl : l.length ≤ 1000) : Ev (fun k => slices_Equal_int_int.f k l l) true :=
  Ev.congr (fun k => by unfold slices_Equal_int_int.f; rw [if_pos rfl]; rfl) (eq_l0 l hl l.length 0 (by omega))

theorem below_is (x n : Int) (hn : 0 < n) (h16 : n ≤ 16) : ∃ v, bakemake_Below.f x n = some v ∧ 0 ≤ v ∧ v < n := by
  have h1 := Int.tmod_lt_of_pos x hn
  have h2 := Int.lt_tmod_of_pos x hn
  unfold bakemake_Below.f
  rw [if_neg (by omega)]
  by_cases h : Int.tmod x n < 0
  · rw [if_pos h, w64 (by omega) (by omega)]; exact ⟨_, rfl, by omega, by omega⟩
  · rw [if_neg h]; exact ⟨_, rfl, by omega, h1⟩

/-! ### a fact about tables -/
def T0 : Tab := [[⟨0, 0⟩, ⟨0, 1⟩], [⟨0, 0⟩, ⟨0, 0⟩]]
theorem T0_ok : OKT 1 1 T0 := by
  refine ⟨by decide, by decide, by decide, by decide, by decide, by decide, ?_, ?_⟩
  · intro row hr
    simp only [T0, List.mem_cons, List.not_mem_nil, or_false] at hr
    rcases hr with rfl | rfl <;> decide +kernel
  · have e : shl .i64 1 1 = 2 := by decide +kernel
    intro row hr r hr'
    simp only [T0, List.mem_cons, List.not_mem_nil, or_false] at hr
    rcases hr with rfl | rfl <;> (simp only [List.mem_cons, List.not_mem_nil, or_false] at hr'; rcases hr' with rfl | rfl <;> simp [T0, e])
theorem T0_bis (x y : Nat) (hx : x < 2) (hy : y < 2) : Bis T0 x y := by
  refine ⟨fun x y => x < 2 ∧ y < 2, ⟨hx, hy⟩, ?_⟩
  rintro x y ⟨hx, hy⟩
  have h1 : x = 0 ∨ x = 1 := by omega
  have h2 : y = 0 ∨ y = 1 := by omega
  rcases h1 with rfl | rfl <;> rcases h2 with rfl | rfl <;> (refine ⟨rfl, fun a ha => ?_⟩; have h3 : a = 0 ∨ a = 1 := (by simp only [roww, T0, List.getD_cons_zero, List.getD_cons_succ, List.length_cons, List.length_nil] at ha; omega); rcases h3 with rfl | rfl <;> exact ⟨rfl, by decide, by decide⟩)
theorem T0_idx (q : Nat) (hq : q < 2) : idxB T0 [0] q = 0 := idxB_eq (Rchd.one (by decide)) (by simp) (T0_bis _ _ (by decide) hq)
theorem T0_min : (minRows T0).length = 1 := by
  have e : minRow T0 (roww T0 (([0] : List Nat).getD 0 0)) [0] [] = ([0], [⟨0, (0 : Nat)⟩, ⟨0, (0 : Nat)⟩]) := by
    show minRow T0 [⟨0, 0⟩, ⟨0, 1⟩] [0] [] = _
    have h0 : idxB T0 [0] (⟨0, 0⟩ : S77).f1.toNat = 0 := T0_idx _ (by decide)
    have h1 : idxB T0 [0] (⟨0, 1⟩ : S77).f1.toNat = 0 := T0_idx _ (by decide)
    rw [minRow, h0, if_pos (by decide), minRow, h1, if_pos (by decide), minRow]
    rfl
  show (minGo T0 3 0 [0] []).length = 1
  rw [minGo, if_pos (by decide), e, minGo, if_neg (by decide)]
  rfl
theorem learned_is : bakekeep3_learned.f = some true := by
  unfold bakekeep3_learned.f
  have h := learn_Min.ok (T0_ok.tabOK)
  have e : learn_Min.f 1 1 (([(([(⟨0, 0⟩ : S77), (⟨0, 1⟩ : S77)] : List (S77))), (([(⟨0, 0⟩ : S77), (⟨0, 0⟩ : S77)] : List (S77)))] : List (List (S77)))) = some (1, 1, minRows T0, 0) := h
  rw [e, Option.bind_some, if_pos rfl, T0_min]
  rfl

end

theorem valid_ok {ins outs : Int} {t : Tab} (h : ValidT ins outs t) : OKT ins outs t := by
  have h1 := h.i0; have h2 := h.i1; have h3 := h.o0; have h4 := h.o1; have h5 := h.r0; have h6 := h.r1
  have e1 : shl .i64 1 ins = wrap64 (2 ^ ins.toNat) := by
    have : ins = 1 ∨ ins = 2 := by omega
    rcases this with rfl | rfl <;> decide +kernel
  have e2 : shl .i64 1 outs = wrap64 (2 ^ outs.toNat) := by
    have : outs = 1 ∨ outs = 2 ∨ outs = 3 := by omega
    rcases this with rfl | rfl | rfl <;> decide +kernel
  refine ⟨by omega, by omega, by omega, by omega, h5, by omega, fun row hr => by rw [e1]; exact (h.ok row hr).1, fun row hr r hr' => ?_⟩
  have := (h.ok row hr).2 r hr'
  rw [e2]
  exact this
end Go.Proofs.Ytaalafnkglbcpaa.PL

namespace Go.Proofs.Ytaalafnkglbcpaa.PL
open Go.RowKit Go.Proofs.YtaalafnkglbcpaaW.PrintWords Go.Proofs.YtaalafnkglbcpaaW.PrintLast Go.Proofs.YtaalafnkglbcpaaW.PrintMore
set_option linter.unusedVariables false
variable {ins outs : Int} {t : Tab}
theorem run_l0b (h : OKT ins outs t) (w : List Int) (hw : InW ins w) (hwl : w.length ≤ 100000) : ∀ d i : Nat, ∀ (acc : List Int) (s : Int), i + d = w.length → acc.length = i → 0 ≤ s → s < t.length →
    Ev (fun k => learn_Run.l0 k acc s w (w.length : Int) (i : Int) ins outs t) (acc ++ runO t s.toNat (w.drop i), 0) := by
  intro d
  induction d with
  | zero =>
    intro i acc s hi ha hs0 hs1
    refine Ev.step (f := fun _ => some (acc, 0)) (fun k => ?_) ?_
    · simp only [learn_Run.l0]; rw [if_neg (by omega)]
    · rw [List.drop_of_length_le (by omega)]; simp only [runO, List.append_nil]; exact Ev.now _
  | succ d ih =>
    intro i acc s hi ha hs0 hs1
    have hr := hw _ (rd_memw (l := w) (i := i) (by omega))
    rw [rd_natl w i (by omega)]
    obtain ⟨x, hx⟩ : ∃ x, rd w (i : Int) = x := ⟨_, rfl⟩
    rw [hx] at hr ⊢
    have e1 : rd_L2 t s = roww t s.toNat := rfl
    have e2 : rd_T77 (roww t s.toNat) x = PL.cel t s.toNat x.toNat := rfl
    have hrow := h.row _ (roww_mem (t := t) (s := s.toNat) (by omega))
    have hc := h.cel (t := t) (s := s.toNat) (a := x.toNat) (by omega) (by omega)
    have hn := ih (i + 1) (acc ++ [(PL.cel t s.toNat x.toNat).f0]) (PL.cel t s.toNat x.toNat).f1 (by omega) (by simp [ha]) hc.2.2.1 hc.2.2.2
    rw [List.append_assoc] at hn
    refine Ev.step (fun k => ?_) hn
    simp only [learn_Run.l0, hx, e1, e2]
    rw [if_pos (by omega), if_pos (by omega), if_pos (by omega), if_neg (by omega), if_pos h.i0, if_neg (by omega), if_pos hs0, if_pos hs1, if_pos hr.1, if_pos (by omega), if_pos (by omega), wnext (by omega)]
theorem run_isb (h : OKT ins outs t) (w : List Int) (hw : InW ins w) (hwl : w.length ≤ 100000) : Ev (fun k => learn_Run.f k ins outs t w) (runO t 0 w, 0) := by
  unfold learn_Run.f
  refine Ev.bind (chk_is h) ?_
  refine Ev.congr (f := fun k => learn_Run.l0 k ([] : List Int) 0 w (w.length : Int) 0 ins outs t) (fun k => by rw [if_pos rfl]) ?_
  have := run_l0b h w hw hwl w.length 0 [] 0 (by omega) rfl (by omega) (by have := h.n1; omega)
  simpa using this

end Go.Proofs.Ytaalafnkglbcpaa.PL

namespace Go.Proofs.Ytaalafnkglbcpaa.Box
set_option linter.unusedVariables false

structure Mach where
  nx : Nat → Nat → Nat
  ot : Nat → Nat → Int
def outW (M : Mach) : Nat → List Nat → List Int
  | _, [] => []
  | s, a :: w => M.ot s a :: outW M (M.nx s a) w
def endW (M : Mach) : Nat → List Nat → Nat
  | s, [] => s
  | s, a :: w => endW M (M.nx s a) w
theorem outW_len (M : Mach) : ∀ (w : List Nat) (s : Nat), (outW M s w).length = w.length
  | [], _ => rfl
  | a :: w, s => by simp [outW, outW_len M w]
theorem outW_append (M : Mach) : ∀ (u v : List Nat) (s : Nat), outW M s (u ++ v) = outW M s u ++ outW M (endW M s u) v
  | [], _, _ => rfl
  | a :: u, v, s => by simp [outW, endW, outW_append M u v]
theorem endW_append (M : Mach) : ∀ (u v : List Nat) (s : Nat), endW M s (u ++ v) = endW M (endW M s u) v
  | [], _, _ => rfl
  | a :: u, v, s => by simp [endW, endW_append M u v]
/-- A word over K letters. -/
def Wd (K : Nat) (w : List Nat) : Prop := ∀ a ∈ w, a < K
theorem Wd.append {K : Nat} {u v : List Nat} (hu : Wd K u) (hv : Wd K v) : Wd K (u ++ v) := fun a ha => by
  rcases List.mem_append.1 ha with h | h
  · exact hu a h
  · exact hv a h
/-- The tests W show the same behind s and s'. -/
def rowEq (B : Mach) (W : List (List Nat)) (s s' : Nat) : Prop := ∀ x ∈ W, outW B s x = outW B s' x
theorem rowEq.refl (B : Mach) (W : List (List Nat)) (s : Nat) : rowEq B W s s := fun _ _ => rfl
theorem rowEq.symm {B : Mach} {W : List (List Nat)} {s s' : Nat} (h : rowEq B W s s') : rowEq B W s' s := fun x hx => (h x hx).symm
theorem rowEq.trans {B : Mach} {W : List (List Nat)} {s s' s'' : Nat} (h : rowEq B W s s') (g : rowEq B W s' s'') : rowEq B W s s'' := fun x hx => (h x hx).trans (g x hx)
theorem rowEq.sub {B : Mach} {W W' : List (List Nat)} {s s' : Nat} (h : rowEq B W' s s') (hs : ∀ x ∈ W, x ∈ W') : rowEq B W s s' := fun x hx => h x (hs x hx)
def st (B : Mach) (ways : List (List Nat)) (i : Nat) : Nat := endW B 0 (ways.getD i [])

/-- What 'close' makes: ways that the tests tell apart, and a table whose every row leads to one of them. -/
structure Closed (B : Mach) (K N : Nat) (W ways : List (List Nat)) (T : Mach) : Prop where
  pos : ways[0]? = some []
  words : ∀ w ∈ ways, Wd K w
  dist : ∀ i j, i < ways.length → j < ways.length → rowEq B W (st B ways i) (st B ways j) → i = j
  cell : ∀ s a, s < ways.length → a < K → T.ot s a = B.ot (st B ways s) a ∧ T.nx s a < ways.length ∧ rowEq B W (B.nx (st B ways s) a) (st B ways (T.nx s a))
  tree : ∀ s, s < ways.length → endW T 0 (ways.getD s []) = s
/-- The machine has N states and K letters. -/
def In (B : Mach) (K N : Nat) : Prop := 0 < N ∧ ∀ s a, s < N → a < K → B.nx s a < N
theorem In.endW {B : Mach} {K N : Nat} (h : In B K N) : ∀ (w : List Nat) (s : Nat), Wd K w → s < N → endW B s w < N
  | [], _, _, hs => hs
  | a :: w, s, hw, hs => In.endW h w _ (fun b hb => hw b (by simp [hb])) (h.2 s a hs (hw a (by simp)))
variable {B T : Mach} {K N : Nat} {W ways : List (List Nat)}
theorem getD_mem {i : Nat} (hi : i < ways.length) : ways.getD i [] ∈ ways := by
  rw [List.getD_eq_getElem?_getD, List.getElem?_eq_getElem hi]; exact List.getElem_mem hi
theorem Closed.pos' (h : Closed B K N W ways T) : 0 < ways.length := by
  have := h.pos
  rcases Nat.eq_zero_or_pos ways.length with h0 | h0
  · rw [List.getElem?_eq_none (by omega)] at this; cases this
  · exact h0
theorem Closed.nil_mem (h : Closed B K N W ways T) : [] ∈ ways := List.mem_of_getElem? h.pos
theorem Closed.st_lt (h : Closed B K N W ways T) (hB : In B K N) {i : Nat} (hi : i < ways.length) : st B ways i < N := hB.endW _ _ (h.words _ (getD_mem hi)) hB.1
theorem Closed.end_lt (h : Closed B K N W ways T) : ∀ (w : List Nat) (s : Nat), Wd K w → s < ways.length → endW T s w < ways.length
  | [], _, _, hs => hs
  | a :: w, s, hw, hs => Closed.end_lt h w _ (fun b hb => hw b (by simp [hb])) (h.cell s a hs (hw a (by simp))).2.1

/-! ### a word whose ends are all tests is told rightly -/
theorem told (h : Closed B K N W ways T) : ∀ (x : List Nat) (s : Nat), Wd K x → s < ways.length → (∀ y, y <:+ x → y ≠ [] → y ∈ W) → outW T s x = outW B (st B ways s) x
  | [], _, _, _, _ => rfl
  | a :: y, s, hw, hs, hW => by
    obtain ⟨h1, h2, h3⟩ := h.cell s a hs (hw a (by simp))
    have ih := told h y (T.nx s a) (fun b hb => hw b (by simp [hb])) h2 (fun z hz hn => hW z (hz.trans (List.suffix_cons a y)) hn)
    simp only [outW]
    rw [h1, ih]
    by_cases hy : y = []
    · subst hy; rfl
    · rw [h3 y (hW y (List.suffix_cons a y) hy)]
theorem Closed.start (h : Closed B K N W ways T) : st B ways 0 = 0 := by
  unfold st
  rw [List.getD_eq_getElem?_getD, h.pos]; rfl
/-- A word that the table tells wrongly parts two states of the machine that the elder tests did not tell apart. -/
theorem parts (h : Closed B K N W ways T) (hB : In B K N) {u : List Nat} (hu : Wd K u) (hne : outW T 0 u ≠ outW B 0 u) {W' : List (List Nat)} (hs : ∀ x ∈ W, x ∈ W') (hW : ∀ y, y <:+ u → y ≠ [] → y ∈ W') :
    ∃ s s', s < N ∧ s' < N ∧ rowEq B W s s' ∧ ¬ rowEq B W' s s' := by
  apply Classical.byContradiction
  intro hno
  have hall : ∀ s s', s < N → s' < N → rowEq B W s s' → rowEq B W' s s' := fun s s' h1 h2 h3 => Classical.byContradiction fun h4 => hno ⟨s, s', h1, h2, h3, h4⟩
  have h' : Closed B K N W' ways T := ⟨h.pos, h.words, fun i j hi hj hr => h.dist i j hi hj (hr.sub hs),
    fun s a hs' ha => ⟨(h.cell s a hs' ha).1, (h.cell s a hs' ha).2.1, hall _ _ (hB.2 _ _ (h.st_lt hB hs') ha) (h.st_lt hB (h.cell s a hs' ha).2.1) (h.cell s a hs' ha).2.2⟩, h.tree⟩
  have := told h' u 0 hu h'.pos' hW
  rw [h'.start] at this
  exact hne this

/-! ### how often that can be -/
def Lead (B : Mach) (W : List (List Nat)) (s : Nat) : Prop := ∀ s', s' < s → ¬ rowEq B W s' s
open Classical in
noncomputable def cnt (B : Mach) (N : Nat) (W : List (List Nat)) : Nat := (List.range N).countP fun s => decide (Lead B W s)
theorem countP_lt {α : Type} {p q : α → Bool} : ∀ {l : List α}, (∀ x ∈ l, p x = true → q x = true) → (∃ x ∈ l, q x = true ∧ p x = false) → l.countP p < l.countP q
  | [], _, h => by obtain ⟨x, hx, _⟩ := h; cases hx
  | a :: l, hpq, h => by
    have hle : l.countP p ≤ l.countP q := List.countP_mono_left (fun x hx => hpq x (by simp [hx]))
    rw [List.countP_cons, List.countP_cons]
    obtain ⟨x, hx, h1, h2⟩ := h
    rcases List.mem_cons.1 hx with rfl | hx
    · rw [h1, h2]; simp; omega
    · have := countP_lt (l := l) (fun x hx => hpq x (by simp [hx])) ⟨x, hx, h1, h2⟩
      have ha := hpq a (by simp)
      cases hp : p a with
      | false => simp; omega
      | true => rw [ha hp]; simp; omega
theorem lead_of (B : Mach) (W : List (List Nat)) : ∀ s, ∃ l, l ≤ s ∧ Lead B W l ∧ rowEq B W l s := by
  intro s
  induction s using Nat.strongRecOn with
  | ind s ih =>
    by_cases h : Lead B W s
    · exact ⟨s, Nat.le_refl _, h, rowEq.refl _ _ _⟩
    · unfold Lead at h
      have : ∃ s', s' < s ∧ rowEq B W s' s := Classical.byContradiction fun hno => h fun s' h1 h2 => hno ⟨s', h1, h2⟩
      obtain ⟨s', h1, h2⟩ := this
      obtain ⟨l, g1, g2, g3⟩ := ih s' h1
      exact ⟨l, by omega, g2, g3.trans h2⟩
open Classical in
theorem cnt_lt {W' : List (List Nat)} (hs : ∀ x ∈ W, x ∈ W') (h : ∃ s s', s < N ∧ s' < N ∧ rowEq B W s s' ∧ ¬ rowEq B W' s s') : cnt B N W < cnt B N W' := by
  obtain ⟨s, s', hsN, hsN', hr, hn⟩ := h
  refine countP_lt (fun x _ hp => ?_) ?_
  · have hp' : Lead B W x := of_decide_eq_true hp
    exact decide_eq_true fun y hy hrow => hp' y hy (hrow.sub hs)
  · obtain ⟨l, h1, h2, h3⟩ := lead_of B W' s
    obtain ⟨l', h1', h2', h3'⟩ := lead_of B W' s'
    have hne : l ≠ l' := fun e => by subst e; exact hn (h3.symm.trans h3')
    have hll : rowEq B W l l' := ((h3.sub hs).trans hr).trans (h3'.sub hs).symm
    rcases Nat.lt_or_gt_of_ne hne with hlt | hlt
    · exact ⟨l', List.mem_range.2 (by omega), decide_eq_true h2', decide_eq_false fun hl => hl l hlt hll⟩
    · exact ⟨l, List.mem_range.2 (by omega), decide_eq_true h2, decide_eq_false fun hl => hl l' hlt hll.symm⟩
theorem cnt_le (B : Mach) (N : Nat) (W : List (List Nat)) : cnt B N W ≤ N := by
  have := List.countP_le_length (p := fun s => @decide (Lead B W s) (Classical.propDecidable _)) (l := List.range N)
  rw [List.length_range] at this
  exact this

/-! ### there are no more ways than states -/
theorem nodup_le : ∀ (N : Nat) (L : List Nat), L.Nodup → (∀ x ∈ L, x < N) → L.length ≤ N := by
  intro N
  induction N with
  | zero =>
    intro L _ h
    cases L with
    | nil => exact Nat.le_refl _
    | cons a L => exact absurd (h a (by simp)) (by omega)
  | succ N ih =>
    intro L hn h
    have h1 := ih (L.erase N) (hn.erase N) (fun x hx => by
      have := (hn.mem_erase_iff).1 hx
      have := h x this.2
      omega)
    rw [List.length_erase] at h1
    split at h1 <;> omega
theorem nodup_all {N : Nat} {L : List Nat} (hn : L.Nodup) (h : ∀ x ∈ L, x < N) (hl : N ≤ L.length) {v : Nat} (hv : v < N) : v ∈ L := by
  apply Classical.byContradiction
  intro hno
  have := nodup_le N (v :: L) (List.nodup_cons.2 ⟨hno, hn⟩) (fun x hx => by
    rcases List.mem_cons.1 hx with rfl | hx
    · exact hv
    · exact h x hx)
  simp at this
  omega

/-- No more ways than states. -/
theorem Closed.len_le (h : Closed B K N W ways T) (hB : In B K N) : ways.length ≤ N := by
  have hn : ((List.range ways.length).map (st B ways)).Nodup := by
    refine List.pairwise_map.2 (List.Pairwise.imp_of_mem (fun {a b} ha hb hab he => ?_) List.nodup_range)
    exact hab (h.dist a b (List.mem_range.1 ha) (List.mem_range.1 hb) (by rw [he]; exact rowEq.refl _ _ _))
  have := nodup_le N _ hn (fun x hx => by
    obtain ⟨i, hi, rfl⟩ := List.mem_map.1 hx
    exact h.st_lt hB (List.mem_range.1 hi))
  simpa using this

/-! ### a table that stands all the tests behind all the words is the machine -/
/-- The states reached by a way and at most k letters. -/
def Got (B : Mach) (K : Nat) (ways : List (List Nat)) (k s : Nat) : Prop := ∃ p ∈ ways, ∃ w, Wd K w ∧ w.length ≤ k ∧ endW B 0 (p ++ w) = s
theorem Got.mono {k k' s : Nat} (h : Got B K ways k s) (hk : k ≤ k') : Got B K ways k' s := by
  obtain ⟨p, hp, w, h1, h2, h3⟩ := h
  exact ⟨p, hp, w, h1, by omega, h3⟩
theorem Got.next {k s a : Nat} (h : Got B K ways k s) (ha : a < K) : Got B K ways (k + 1) (B.nx s a) := by
  obtain ⟨p, hp, w, h1, h2, rfl⟩ := h
  refine ⟨p, hp, w ++ [a], h1.append (fun b hb => by rcases List.mem_singleton.1 hb with rfl; exact ha), by simp; omega, ?_⟩
  rw [← List.append_assoc, endW_append]; rfl
theorem Got.lt (h : Closed B K N W ways T) (hB : In B K N) {k s : Nat} (hg : Got B K ways k s) : s < N := by
  obtain ⟨p, hp, w, h1, h2, rfl⟩ := hg
  exact hB.endW _ _ ((h.words p hp).append h1) hB.1
def Reach (B : Mach) (K s : Nat) : Prop := ∃ w, Wd K w ∧ endW B 0 w = s
theorem shut_all (h : Closed B K N W ways T) {k : Nat} (hs : ∀ s a, Got B K ways k s → a < K → Got B K ways k (B.nx s a)) : ∀ s, Reach B K s → Got B K ways k s := by
  have key : ∀ (w : List Nat) (s : Nat), Wd K w → Got B K ways k s → Got B K ways k (endW B s w) := by
    intro w
    induction w with
    | nil => intro s _ hg; exact hg
    | cons a w ih => intro s hw hg; exact ih _ (fun b hb => hw b (by simp [hb])) (hs s a hg (hw a (by simp)))
  rintro s ⟨w, hw, rfl⟩
  exact key w 0 hw ⟨[], h.nil_mem, [], fun _ hx => (by cases hx), by simp, rfl⟩
theorem got_all (h : Closed B K N W ways T) (hB : In B K N) : ∀ k, (∀ s, Reach B K s → Got B K ways k s) ∨ ∃ L : List Nat, L.Nodup ∧ (∀ s ∈ L, Got B K ways k s) ∧ L.length = ways.length + k := by
  intro k
  induction k with
  | zero =>
    right
    refine ⟨(List.range ways.length).map (st B ways), ?_, ?_, by simp⟩
    · refine List.pairwise_map.2 (List.Pairwise.imp_of_mem (fun {a b} ha hb hab he => ?_) List.nodup_range)
      exact hab (h.dist a b (List.mem_range.1 ha) (List.mem_range.1 hb) (by rw [he]; exact rowEq.refl _ _ _))
    · intro s hs
      obtain ⟨i, hi, rfl⟩ := List.mem_map.1 hs
      exact ⟨ways.getD i [], getD_mem (List.mem_range.1 hi), [], fun _ hx => (by cases hx), Nat.le_refl _, by rw [List.append_nil]; rfl⟩
  | succ k ih =>
    rcases ih with ih | ⟨L, h1, h2, h3⟩
    · exact .inl fun s hs => (ih s hs).mono (by omega)
    · by_cases hc : ∀ s a, Got B K ways k s → a < K → Got B K ways k (B.nx s a)
      · exact .inl fun s hs => (shut_all h hc s hs).mono (by omega)
      · right
        have : ∃ s a, Got B K ways k s ∧ a < K ∧ ¬ Got B K ways k (B.nx s a) := Classical.byContradiction fun hno => hc fun s a g1 g2 => Classical.byContradiction fun g3 => hno ⟨s, a, g1, g2, g3⟩
        obtain ⟨s, a, g1, g2, g3⟩ := this
        refine ⟨B.nx s a :: L, List.nodup_cons.2 ⟨fun hm => g3 (h2 _ hm), h1⟩, fun x hx => ?_, by simp; omega⟩
        rcases List.mem_cons.1 hx with rfl | hx
        · exact g1.next g2
        · exact (h2 x hx).mono (by omega)
theorem got_reach (h : Closed B K N W ways T) (hB : In B K N) {d : Nat} (hd : N ≤ ways.length + d) {s : Nat} (hs : Reach B K s) : Got B K ways d s := by
  rcases got_all h hB d with g | ⟨L, h1, h2, h3⟩
  · exact g s hs
  · obtain ⟨w, hw, rfl⟩ := hs
    exact h2 _ (nodup_all h1 (fun x hx => (h2 x hx).lt h hB) (by omega) (hB.endW w 0 hw hB.1))
/-- What the search for a test asks. -/
def Stands (B T : Mach) (K : Nat) (W ways : List (List Nat)) (d : Nat) : Prop := ∀ p ∈ ways, ∀ w, Wd K w → w.length ≤ d + 1 → ∀ x ∈ W, outW T 0 (p ++ w ++ x) = outW B 0 (p ++ w ++ x)
theorem Stands.behind {d : Nat} (h : Stands B T K W ways d) {p w x : List Nat} (hp : p ∈ ways) (hw : Wd K w) (hl : w.length ≤ d + 1) (hx : x ∈ W) : outW T (endW T 0 (p ++ w)) x = outW B (endW B 0 (p ++ w)) x := by
  have := h p hp w hw hl x hx
  rw [outW_append T (p ++ w) x 0, outW_append B (p ++ w) x 0] at this
  exact (List.append_inj this (by rw [outW_len, outW_len])).2
theorem is_box (h : Closed B K N W ways T) (hB : In B K N) {d : Nat} (hd : N ≤ ways.length + d) (hW : ∀ a, a < K → [a] ∈ W) (hs : Stands B T K W ways d) : ∀ u, Wd K u → outW T 0 u = outW B 0 u := by
  have uniq : ∀ i j, i < ways.length → j < ways.length → (∀ x ∈ W, outW T i x = outW T j x) → i = j := by
    intro i j hi hj he
    refine h.dist i j hi hj fun x hx => ?_
    have e1 := hs.behind (p := ways.getD i []) (w := []) (x := x) (getD_mem hi) (fun _ hx => (by cases hx)) (by simp) hx
    have e2 := hs.behind (p := ways.getD j []) (w := []) (x := x) (getD_mem hj) (fun _ hx => (by cases hx)) (by simp) hx
    rw [List.append_nil, h.tree i hi] at e1
    rw [List.append_nil, h.tree j hj] at e2
    exact e1.symm.trans ((he x hx).trans e2)
  have key : ∀ (u : List Nat) (b t : Nat), Wd K u → Reach B K b → t < ways.length → (∀ x ∈ W, outW T t x = outW B b x) → outW T t u = outW B b u := by
    intro u
    induction u with
    | nil => intro b t _ _ _ _; rfl
    | cons a u ih =>
      intro b t hu hb ht hr
      have ha := hu a (by simp)
      have h1 := hr [a] (hW a ha)
      simp only [outW, List.cons.injEq, and_true] at h1
      obtain ⟨p, hp, w, hw, hl, he⟩ := got_reach h hB hd hb
      have ht' : endW T 0 (p ++ w) < ways.length := h.end_lt _ _ ((h.words p hp).append hw) h.pos'
      have htt : t = endW T 0 (p ++ w) := by
        refine uniq _ _ ht ht' fun x hx => ?_
        rw [hs.behind hp hw (by omega) hx, he]; exact hr x hx
      have hwa : Wd K (w ++ [a]) := hw.append (fun c hc => by rcases List.mem_singleton.1 hc with rfl; exact ha)
      have hn : ∀ x ∈ W, outW T (T.nx t a) x = outW B (B.nx b a) x := by
        intro x hx
        have := hs.behind hp hwa (by simp; omega) hx
        rw [← List.append_assoc, endW_append, endW_append (M := B), ← htt, he] at this
        exact this
      simp only [outW]
      obtain ⟨v, hv, rfl⟩ := hb
      rw [h1, ih (B.nx (endW B 0 v) a) (T.nx t a) (fun c hc => hu c (by simp [hc])) ⟨v ++ [a], hv.append (fun c hc => by rcases List.mem_singleton.1 hc with rfl; exact ha), by rw [endW_append]; rfl⟩ (h.cell t a ht ha).2.1 hn]
  intro u hu
  refine key u 0 0 hu ⟨[], fun _ hx => (by cases hx), rfl⟩ h.pos' fun x hx => ?_
  have := hs.behind (p := []) (w := []) (x := x) h.nil_mem (fun _ hx => (by cases hx)) (by simp) hx
  exact this
end Go.Proofs.Ytaalafnkglbcpaa.Box

namespace Go.Proofs.Ytaalafnkglbcpaa.PL
set_option linter.unusedVariables false

def LikeX (t T : Tab) (R : Nat → Nat → Prop) (x y : Nat) : Prop := (roww t x).length = (roww T y).length ∧ ∀ a, a < (roww t x).length → (cel t x a).f0 = (cel T y a).f0 ∧ R (cel t x a).f1.toNat (cel T y a).f1.toNat
/-- State x of t and state y of T answer alike. -/
def Alike (t T : Tab) (x y : Nat) : Prop := ∃ R : Nat → Nat → Prop, R x y ∧ ∀ x y, R x y → LikeX t T R x y
variable {t T : Tab}
theorem Alike.like {x y : Nat} (h : Alike t T x y) : LikeX t T (Alike t T) x y := by
  obtain ⟨R, h0, h1⟩ := h
  obtain ⟨a, b⟩ := h1 x y h0
  exact ⟨a, fun i hi => ⟨(b i hi).1, R, (b i hi).2, h1⟩⟩
theorem Alike.left {x x' y : Nat} (h : Bis t x' x) (g : Alike t T x y) : Alike t T x' y := by
  refine ⟨fun u v => ∃ w, Bis t u w ∧ Alike t T w v, ⟨x, h, g⟩, ?_⟩
  rintro u v ⟨w, h1, h2⟩
  obtain ⟨a, b⟩ := h1.like
  obtain ⟨c, d⟩ := h2.like
  exact ⟨a.trans c, fun i hi => ⟨(b i hi).1.trans (d i (by omega)).1, _, (b i hi).2, (d i (by omega)).2⟩⟩
theorem Alike.right {x y y' : Nat} (h : Alike t T x y) (g : Bis T y y') : Alike t T x y' := by
  refine ⟨fun u v => ∃ w, Alike t T u w ∧ Bis T w v, ⟨y, h, g⟩, ?_⟩
  rintro u v ⟨w, h1, h2⟩
  obtain ⟨a, b⟩ := h1.like
  obtain ⟨c, d⟩ := h2.like
  exact ⟨a.trans c, fun i hi => ⟨(b i hi).1.trans (d i (by omega)).1, _, (b i hi).2, (d i (by omega)).2⟩⟩
theorem Alike.bis {x x' y : Nat} (h : Alike t T x y) (g : Alike t T x' y) : Bis t x x' := by
  refine ⟨fun u v => ∃ w, Alike t T u w ∧ Alike t T v w, ⟨y, h, g⟩, ?_⟩
  rintro u v ⟨w, h1, h2⟩
  obtain ⟨a, b⟩ := h1.like
  obtain ⟨c, d⟩ := h2.like
  exact ⟨a.trans c.symm, fun i hi => ⟨(b i hi).1.trans (d i (by omega)).1.symm, _, (b i hi).2, (d i (by omega)).2⟩⟩
theorem Alike.bis' {x y y' : Nat} (h : Alike t T x y) (g : Alike t T x y') : Bis T y y' := by
  refine ⟨fun u v => ∃ w, Alike t T w u ∧ Alike t T w v, ⟨x, h, g⟩, ?_⟩
  rintro u v ⟨w, h1, h2⟩
  obtain ⟨a, b⟩ := h1.like
  obtain ⟨c, d⟩ := h2.like
  exact ⟨a.symm.trans c, fun i hi => ⟨(b i (by omega)).1.symm.trans (d i (by omega)).1, _, (b i (by omega)).2, (d i (by omega)).2⟩⟩

/-- Pairwise alike. -/
inductive Pr (t T : Tab) : List Nat → List Nat → Prop
  | nil : Pr t T [] []
  | cons {x y : Nat} {l m : List Nat} : Alike t T x y → Pr t T l m → Pr t T (x :: l) (y :: m)
inductive PrR (t T : Tab) : List S77 → List S77 → Prop
  | nil : PrR t T [] []
  | cons {r s : S77} {l m : List S77} : r.f0 = s.f0 → Alike t T r.f1.toNat s.f1.toNat → PrR t T l m → PrR t T (r :: l) (s :: m)
theorem Pr.len {l m : List Nat} (h : Pr t T l m) : l.length = m.length := by
  induction h with
  | nil => rfl
  | cons _ _ ih => simp [ih]
theorem Pr.get {l m : List Nat} (h : Pr t T l m) : ∀ i, i < l.length → Alike t T (l.getD i 0) (m.getD i 0) := by
  induction h with
  | nil => intro i hi; simp at hi
  | cons h _ ih =>
    intro i hi
    cases i with
    | zero => exact h
    | succ i => exact ih i (by simpa using hi)
theorem Pr.add {l m : List Nat} (h : Pr t T l m) {x y : Nat} (g : Alike t T x y) : Pr t T (l ++ [x]) (m ++ [y]) := by
  induction h with
  | nil => exact .cons g .nil
  | cons h _ ih => exact .cons h ih
theorem idx_two {l m : List Nat} (h : Pr t T l m) {x y : Nat} (g : Alike t T x y) : idxB t l x = idxB T m y := by
  unfold idxB
  induction h with
  | nil => rfl
  | @cons u v l m hxy _ ih =>
    rw [List.findIdx_cons, List.findIdx_cons, ih]
    have : Bis t u x ↔ Bis T v y := ⟨fun hb => hxy.bis' (Alike.left hb g), fun hb => (hxy.right hb).bis g⟩
    by_cases hb : Bis t u x
    · simp [hb, this.1 hb]
    · have hb' : ¬ Bis T v y := fun h' => hb (this.2 h')
      simp [hb, hb']
theorem row_two : ∀ {rs ss : List S77}, PrR t T rs ss → ∀ (l m : List Nat) (row : List S77), Pr t T l m → Pr t T (minRow t rs l row).1 (minRow T ss m row).1 ∧ (minRow t rs l row).2 = (minRow T ss m row).2 := by
  intro rs ss h
  induction h with
  | nil => intro l m row hp; exact ⟨hp, rfl⟩
  | cons h1 h2 _ ih =>
    intro l m row hp
    have e := idx_two hp h2
    have el := hp.len
    simp only [minRow]
    rw [h1, e, el]
    split
    · exact ih l m _ hp
    · exact ih _ _ _ (hp.add h2)
theorem prr_of : ∀ (rs ss : List S77), rs.length = ss.length → (∀ a, a < rs.length → (rs.getD a z77).f0 = (ss.getD a z77).f0 ∧ Alike t T (rs.getD a z77).f1.toNat (ss.getD a z77).f1.toNat) → PrR t T rs ss
  | [], [], _, _ => .nil
  | [], _ :: _, h, _ => by simp at h
  | _ :: _, [], h, _ => by simp at h
  | r :: rs, s :: ss, h, g => .cons (g 0 (by simp)).1 (g 0 (by simp)).2 (prr_of rs ss (by simpa using h) (fun a ha => by simpa using g (a + 1) (by simpa using ha)))
theorem go_two : ∀ (n i : Nat) (l m : List Nat) (out : Tab), Pr t T l m → minGo t n i l out = minGo T n i m out := by
  intro n
  induction n with
  | zero => intro i l m out _; rfl
  | succ n ih =>
    intro i l m out hp
    simp only [minGo]
    by_cases hi : i < l.length
    · have hi' : i < m.length := by rw [← hp.len]; exact hi
      rw [if_pos hi, if_pos hi']
      obtain ⟨a, b⟩ := (hp.get i hi).like
      obtain ⟨c, d⟩ := row_two (prr_of (roww t (l.getD i 0)) (roww T (m.getD i 0)) a b) l m [] hp
      rw [d]
      exact ih _ _ _ _ c
    · rw [if_neg hi, if_neg (by rw [← hp.len]; exact hi)]
theorem go_fuel (ht : TabR t) : ∀ (n n' i : Nat) (l : List Nat) (out : Tab), Rchd t l → t.length < n + i → t.length < n' + i → minGo t n i l out = minGo t n' i l out := by
  intro n
  induction n with
  | zero =>
    intro n' i l out hr h1 h2
    have := hr.le
    cases n' with
    | zero => rfl
    | succ n' => simp only [minGo]; rw [if_neg (by omega)]
  | succ n ih =>
    intro n' i l out hr h1 h2
    have := hr.le
    cases n' with
    | zero => simp only [minGo]; rw [if_neg (by omega)]
    | succ n' =>
      simp only [minGo]
      by_cases hi : i < l.length
      · rw [if_pos hi, if_pos hi]
        exact ih n' (i + 1) _ _ (row_inv t _ l [] hr (ht.tgt (reps_lt hr hi))).2.1 (by omega) (by omega)
      · rw [if_neg hi, if_neg hi]
/-- Tables that answer alike have the same least table. -/
theorem min_two (ht : TabR t) (hT : TabR T) (h : Alike t T 0 0) : minRows t = minRows T := by
  unfold minRows
  rw [go_fuel ht (t.length + 1) (t.length + T.length + 1) 0 [0] [] (Rchd.one ht.n1) (by omega) (by omega), go_fuel hT (T.length + 1) (t.length + T.length + 1) 0 [0] [] (Rchd.one hT.n1) (by omega) (by omega)]
  exact go_two _ 0 [0] [0] [] (.cons h .nil)
end Go.Proofs.Ytaalafnkglbcpaa.PL

namespace Go.Proofs.Ytaalafnkglbcpaa.PL
open Go.RowKit Go.Proofs.YtaalafnkglbcpaaW.PrintWords Go.Proofs.YtaalafnkglbcpaaW.PrintLast Go.Proofs.YtaalafnkglbcpaaW.PrintMore
set_option linter.unusedVariables false

/-- A table as a machine: what it tells at state s and letter a. -/
def mach (t : Tab) : Box.Mach := ⟨fun s a => (PL.cel t s a).f1.toNat, fun s a => (PL.cel t s a).f0⟩
def lets (u : List Int) : List Nat := u.map Int.toNat
theorem mach_run (t : Tab) : ∀ (u : List Int) (s : Nat), runO t s u = Box.outW (mach t) s (lets u)
  | [], _ => rfl
  | a :: u, s => by
    simp only [runO, lets, List.map_cons, Box.outW]
    rw [mach_run t u]; rfl
/-- Answering alike to every word is being alike. -/
theorem alike_of_runs {t T : Tab} (ht : TabR t) (hT : TabR T) (hl : (roww t 0).length = (roww T 0).length) (h : ∀ w : List Nat, Box.Wd (roww t 0).length w → Box.outW (mach t) 0 w = Box.outW (mach T) 0 w) : Alike t T 0 0 := by
  have n1 := ht.n1
  have n2 := hT.n1
  refine ⟨fun x y => x < t.length ∧ y < T.length ∧ ∀ w, Box.Wd (roww t 0).length w → Box.outW (mach t) x w = Box.outW (mach T) y w, ⟨by omega, by omega, h⟩, ?_⟩
  rintro x y ⟨hx, hy, hr⟩
  have e1 : (roww t x).length = (roww t 0).length := ht.len hx (by omega)
  have e2 : (roww T y).length = (roww T 0).length := hT.len hy (by omega)
  refine ⟨by omega, fun a ha => ?_⟩
  have hw : ∀ w, Box.Wd (roww t 0).length w → Box.outW (mach t) x (a :: w) = Box.outW (mach T) y (a :: w) := fun w hw => hr _ (fun b hb => by
    rcases List.mem_cons.1 hb with rfl | hb
    · omega
    · exact hw b hb)
  have h1 := hw [] (fun b hb => by cases hb)
  have c1 := ht.cel hx ha
  have c2 := hT.cel hy (show a < (roww T y).length by omega)
  refine ⟨by simpa [Box.outW, mach] using h1, by omega, by omega, fun w hww => ?_⟩
  have h2 := hw w hww
  simp only [Box.outW, List.cons.injEq] at h2
  exact h2.2
theorem mach_in {t : Tab} (ht : TabR t) : Box.In (mach t) (roww t 0).length t.length := by
  have n1 := ht.n1
  refine ⟨by omega, fun s a hs ha => ?_⟩
  have e : (roww t s).length = (roww t 0).length := ht.len hs (by omega)
  have c := ht.cel hs (show a < (roww t s).length by omega)
  show (PL.cel t s a).f1.toNat < t.length
  omega
end Go.Proofs.Ytaalafnkglbcpaa.PL
