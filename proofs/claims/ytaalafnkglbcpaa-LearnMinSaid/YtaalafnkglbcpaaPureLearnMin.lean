/- The plain law of LearnMin. No condition beyond the given statement. -/
import Derived.Test.YtaalafnkglbcpaaLearnWalk
import Derived.Test.YtaalafnkglbcpaaMinPlain
namespace Go.Proofs.Ytaalafnkglbcpaa.PL
open Go.RowKit Go.Proofs.YtaalafnkglbcpaaW.PrintWords Go.Proofs.YtaalafnkglbcpaaW.PrintLast Go.Proofs.YtaalafnkglbcpaaW.PrintMore
set_option linter.unusedVariables false

theorem w64 {n : Int} (h0 : -9223372036854775808 ≤ n) (h1 : n ≤ 9223372036854775807) : wrap64 n = n := by unfold wrap64; omega
theorem wnext {i : Nat} (h : i ≤ 1000000) : wrap64 ((i : Int) + 1) = ((i + 1 : Nat) : Int) := by rw [w64 (by omega) (by omega)]; omega

theorem shl_ins {n : Int} (h0 : 0 ≤ n) (h1 : n ≤ 4) : 1 ≤ shl .i64 1 n ∧ shl .i64 1 n ≤ 16 := by
  have : n = 0 ∨ n = 1 ∨ n = 2 ∨ n = 3 ∨ n = 4 := by omega
  rcases this with rfl | rfl | rfl | rfl | rfl <;> decide +kernel
theorem shl_outs {n : Int} (h0 : 0 ≤ n) (h1 : n ≤ 10) : 1 ≤ shl .i64 1 n ∧ shl .i64 1 n ≤ 1024 := by
  have : n = 0 ∨ n = 1 ∨ n = 2 ∨ n = 3 ∨ n = 4 ∨ n = 5 ∨ n = 6 ∨ n = 7 ∨ n = 8 ∨ n = 9 ∨ n = 10 := by omega
  rcases this with rfl | rfl | rfl | rfl | rfl | rfl | rfl | rfl | rfl | rfl | rfl <;> decide +kernel

/-- A table that Check passes. -/
structure OKT (ins outs : Int) (t : Tab) : Prop where
  i0 : 0 ≤ ins
  i1 : ins ≤ 4
  o0 : 0 ≤ outs
  o1 : outs ≤ 10
  n1 : 1 ≤ t.length
  n2 : t.length ≤ 64
  row : ∀ row ∈ t, (row.length : Int) = shl .i64 1 ins
  ok : ∀ row ∈ t, ∀ r ∈ row, 0 ≤ r.f0 ∧ r.f0 < shl .i64 1 outs ∧ 0 ≤ r.f1 ∧ r.f1 < t.length

section
variable {ins outs : Int} {t : Tab}
theorem OKT.tab (h : OKT ins outs t) : TabR t := by
  have h1 := shl_ins h.i0 h.i1
  have h2 := shl_outs h.o0 h.o1
  refine ⟨h.n1, h.n2, ⟨(shl .i64 1 ins).toNat, by omega, fun row hr => by have := h.row row hr; omega⟩, fun row hr r hr' => ?_⟩
  have := h.ok row hr r hr'
  omega
theorem OKT.cel (h : OKT ins outs t) {s a : Nat} (hs : s < t.length) (ha : a < (roww t s).length) : 0 ≤ (cel t s a).f0 ∧ (cel t s a).f0 < shl .i64 1 outs ∧ 0 ≤ (cel t s a).f1 ∧ (cel t s a).f1 < t.length := h.ok _ (roww_mem hs) _ (cel_mem ha)
theorem OKT.min (h : OKT ins outs t) : OKT ins outs (minRows t) := by
  have hT := h.tab
  have hM := min_tabR hT
  have key : ∀ row ∈ minRows t, ∃ x, x < (fin t).length ∧ row = roww (minRows t) x := fun row hr => by
    obtain ⟨x, hx, e⟩ := List.getElem_of_mem hr
    exact ⟨x, by rw [← min_len hT]; exact hx, by unfold roww; rw [getD_of_lt _ _ hx, e]⟩
  refine ⟨h.i0, h.i1, h.o0, h.o1, hM.n1, hM.n2, fun row hr => ?_, fun row hr r hr' => ?_⟩
  · obtain ⟨x, hx, rfl⟩ := key row hr
    rw [min_rlen hT hx]
    exact h.row _ (roww_mem (reps_lt (fin_is hT).2.1 hx))
  · have h1 := hM.ok row hr r hr'
    obtain ⟨x, hx, rfl⟩ := key row hr
    obtain ⟨a, ha, rfl⟩ := List.getElem_of_mem hr'
    have ha' : a < (roww t ((fin t).getD x 0)).length := by rw [← min_rlen hT hx]; exact ha
    have e : (roww (minRows t) x)[a] = PL.cel (minRows t) x a := by unfold PL.cel; rw [getD_of_lt _ _ ha]
    rw [e] at h1 ⊢
    refine ⟨h1.1, ?_, h1.2.2.1, h1.2.2.2⟩
    rw [min_out hT hx ha']
    exact (h.cel (reps_lt (fin_is hT).2.1 hx) ha').2.1

theorem chk_l1 (h : OKT ins outs t) (s : Nat) (hs : s < t.length) (R : Int) (hR : Ev (fun k => learn_Check.l0 k t (t.length : Int) ((s + 1 : Nat) : Int) ins outs t) R) : ∀ d a : Nat, a + d = (roww t s).length →
    Ev (fun k => learn_Check.l1 k t (t.length : Int) (s : Int) (roww t s) ((roww t s).length : Int) (a : Int) ins outs t) R := by
  have hn := h.n2
  have hl := h.tab.len_le hs
  intro d
  induction d with
  | zero => intro a ha; refine Ev.step (fun k => ?_) hR; simp only [learn_Check.l1]; rw [if_neg (by omega), wnext (by omega)]
  | succ d ih =>
    intro a ha
    have hc := h.cel hs (a := a) (by omega)
    have e : rd_T77 (roww t s) (a : Int) = PL.cel t s a := rfl
    refine Ev.step (f := fun k => learn_Check.j3 k t (t.length : Int) (s : Int) (roww t s) ((roww t s).length : Int) (a : Int) false ins outs t (PL.cel t s a).f0 (PL.cel t s a).f1) (fun k => ?_) ?_
    · simp only [learn_Check.l1, e]; rw [if_pos (by omega), if_pos (by omega), if_pos (by omega), if_neg (by omega), if_pos h.o0, decide_eq_false (by omega)]
    · refine Ev.step (fun k => ?_) (ih (a + 1) (by omega))
      simp only [learn_Check.j3]; rw [if_neg (by simp), if_neg (by omega), if_neg (by omega), wnext (by omega)]
theorem chk_l0 (h : OKT ins outs t) : ∀ d s : Nat, s + d = t.length → Ev (fun k => learn_Check.l0 k t (t.length : Int) (s : Int) ins outs t) 0 := by
  have hn := h.n2
  intro d
  induction d with
  | zero => intro s hs; refine Ev.step (fun k => ?_) (Ev.now _); simp only [learn_Check.l0]; rw [if_neg (by omega)]
  | succ d ih =>
    intro s hs
    have e : rd_L2 t (s : Int) = roww t s := rfl
    refine Ev.step (fun k => ?_) (chk_l1 h s (by omega) 0 (ih (s + 1) (by omega)) (roww t s).length 0 (by omega))
    simp only [learn_Check.l0, e]; rw [if_pos (by omega), if_pos (by omega), if_pos (by omega), if_pos h.i0, if_pos (h.row _ (roww_mem (by omega)))]; rfl
theorem chk_is (h : OKT ins outs t) : Ev (fun k => learn_Check.f k ins outs t) 0 := by
  have h1 := h.i0; have h2 := h.i1; have h3 := h.o0; have h4 := h.o1; have h5 := h.n1; have h6 := h.n2
  refine Ev.congr (f := fun k => learn_Check.j0 k false ins outs t) (fun k => ?_) ?_
  · unfold learn_Check.f; rw [if_neg (by omega), if_neg (by omega), if_neg (by omega), if_neg (by omega), decide_eq_false (by omega)]
  · refine Ev.step (fun k => ?_) (chk_l0 h t.length 0 (by omega))
    simp only [learn_Check.j0]; rw [if_neg (by simp), if_neg (by omega)]; rfl
theorem OKT.tabOK (h : OKT ins outs t) : TabOK ins outs t := ⟨(chk_is h).rounds, h.tab⟩

/-! ### runs -/
def runO (t : Tab) : Nat → List Int → List Int
  | _, [] => []
  | s, a :: w => (PL.cel t s a.toNat).f0 :: runO t (PL.cel t s a.toNat).f1.toNat w
theorem runO_len (t : Tab) : ∀ (w : List Int) (s : Nat), (runO t s w).length = w.length
  | [], _ => rfl
  | a :: w, s => by simp [runO, runO_len t w]
def InW (ins : Int) (w : List Int) : Prop := ∀ x ∈ w, 0 ≤ x ∧ x < shl .i64 1 ins

theorem run_min (h : OKT ins outs t) : ∀ (w : List Int) (j s : Nat), InW ins w → j < (fin t).length → s < t.length → Bis t ((fin t).getD j 0) s → runO (minRows t) j w = runO t s w
  | [], _, _, _, _, _, _ => rfl
  | a :: w, j, s, hw, hj, hs, hb => by
    have hT := h.tab
    have ha := hw a (by simp)
    have hjl := reps_lt (fin_is hT).2.1 hj
    have r1 := h.row _ (roww_mem hjl)
    have r2 := h.row _ (roww_mem hs)
    have h1 : a.toNat < (roww t ((fin t).getD j 0)).length := by omega
    have h2 : a.toNat < (roww t s).length := by omega
    have hl := hb.like.2 _ h1
    have hm := min_to hT hj h1
    have hc := h.cel hs h2
    simp only [runO]
    rw [min_out hT hj h1, hl.1, run_min h w _ (PL.cel t s a.toNat).f1.toNat (fun x hx => hw x (by simp [hx])) hm.2.1 (by omega) (hm.2.2.trans hl.2)]

theorem rd_natl (l : List Int) (i : Nat) (h : i < l.length) : l.drop i = rd l (i : Int) :: l.drop (i + 1) := by
  rw [List.drop_eq_getElem_cons h]; simp [rd, List.getD_eq_getElem?_getD, List.getElem?_eq_getElem h]
theorem rd_memw {l : List Int} {i : Nat} (h : i < l.length) : rd l (i : Int) ∈ l := List.mem_of_mem_drop (i := i) (by rw [rd_natl l i h]; simp)

theorem run_l0 (h : OKT ins outs t) (w : List Int) (hw : InW ins w) (hwl : w.length ≤ 60) : ∀ d i : Nat, ∀ (acc : List Int) (s : Int), i + d = w.length → acc.length = i → 0 ≤ s → s < t.length →
    Ev (fun k => learn_Run.l0 k acc s w (w.length : Int) (i : Int) ins outs t) (acc ++ runO t s.toNat (w.drop i), 0) := by
  intro d
  induction d with
  | zero =>
    intro i acc s hi ha hs0 hs1
    refine Ev.step (f := fun _ => some (acc, 0)) (fun k => ?_) ?_
    · simp only [learn_Run.l0]; rw [if_neg (by omega)]
    · rw [List.drop_of_length_le (by omega)]; simp only [runO, List.append_nil]; exact Ev.now _
  | succ d ih =>
    intro i acc s hi ha hs0 hs1
    have hr := hw _ (rd_memw (l := w) (i := i) (by omega))
    rw [rd_natl w i (by omega)]
    obtain ⟨x, hx⟩ : ∃ x, rd w (i : Int) = x := ⟨_, rfl⟩
    rw [hx] at hr ⊢
    have e1 : rd_L2 t s = roww t s.toNat := rfl
    have e2 : rd_T77 (roww t s.toNat) x = PL.cel t s.toNat x.toNat := rfl
    have hrow := h.row _ (roww_mem (t := t) (s := s.toNat) (by omega))
    have hc := h.cel (t := t) (s := s.toNat) (a := x.toNat) (by omega) (by omega)
    have hn := ih (i + 1) (acc ++ [(PL.cel t s.toNat x.toNat).f0]) (PL.cel t s.toNat x.toNat).f1 (by omega) (by simp [ha]) hc.2.2.1 hc.2.2.2
    rw [List.append_assoc] at hn
    refine Ev.step (fun k => ?_) hn
    simp only [learn_Run.l0, hx, e1, e2]
    rw [if_pos (by omega), if_pos (by omega), if_pos (by omega), if_neg (by omega), if_pos h.i0, if_neg (by omega), if_pos hs0, if_pos hs1, if_pos hr.1, if_pos (by omega), if_pos (by omega), wnext (by omega)]
theorem run_is (h : OKT ins outs t) (w : List Int) (hw : InW ins w) (hwl : w.length ≤ 60) : Ev (fun k => learn_Run.f k ins outs t w) (runO t 0 w, 0) := by
  unfold learn_Run.f
  refine Ev.bind (chk_is h) ?_
  refine Ev.congr (f := fun k => learn_Run.l0 k ([] : List Int) 0 w (w.length : Int) 0 ins outs t) (fun k => by rw [if_pos rfl]) ?_
  have := run_l0 h w hw hwl w.length 0 [] 0 (by omega) rfl (by omega) (by have := h.n1; omega)
  simpa using this

theorem eq_l0 (l : List Int) (hl : l.length ≤ 1000) : ∀ d i : Nat, i + d = l.length → Ev (fun k => slices_Equal_int_int.l0 k l l (l.length : Int) (i : Int)) true := by
  intro d
  induction d with
  | zero => intro i hi; refine Ev.step (fun k => ?_) (Ev.now _); simp only [slices_Equal_int_int.l0]; rw [if_neg (by omega)]
  | succ d ih =>
    intro i hi
    refine Ev.step (fun k => ?_) (ih (i + 1) (by omega))
    simp only [slices_Equal_int_int.l0]; rw [if_pos (by omega), if_pos (by omega), if_pos (by omega), if_pos (by omega), if_pos trivial, wnext (by omega)]
theorem eq_is (l : List Int) (hl : l.length ≤ 1000) : Ev (fun k => slices_Equal_int_int.f k l l) true :=
  Ev.congr (fun k => by unfold slices_Equal_int_int.f; rw [if_pos rfl]; rfl) (eq_l0 l hl l.length 0 (by omega))

theorem below_is (x n : Int) (hn : 0 < n) (h16 : n ≤ 16) : ∃ v, bakemake_Below.f x n = some v ∧ 0 ≤ v ∧ v < n := by
  have h1 := Int.tmod_lt_of_pos x hn
  have h2 := Int.lt_tmod_of_pos x hn
  unfold bakemake_Below.f
  rw [if_neg (by omega)]
  by_cases h : Int.tmod x n < 0
  · rw [if_pos h, w64 (by omega) (by omega)]; exact ⟨_, rfl, by omega, by omega⟩
  · rw [if_neg h]; exact ⟨_, rfl, by omega, h1⟩

/-! ### a fact about tables -/
def T0 : Tab := [[⟨0, 0⟩, ⟨0, 1⟩], [⟨0, 0⟩, ⟨0, 0⟩]]
theorem T0_ok : OKT 1 1 T0 := by
  refine ⟨by decide, by decide, by decide, by decide, by decide, by decide, ?_, ?_⟩
  · intro row hr
    simp only [T0, List.mem_cons, List.not_mem_nil, or_false] at hr
    rcases hr with rfl | rfl <;> decide +kernel
  · have e : shl .i64 1 1 = 2 := by decide +kernel
    intro row hr r hr'
    simp only [T0, List.mem_cons, List.not_mem_nil, or_false] at hr
    rcases hr with rfl | rfl <;> (simp only [List.mem_cons, List.not_mem_nil, or_false] at hr'; rcases hr' with rfl | rfl <;> simp [T0, e])
theorem T0_bis (x y : Nat) (hx : x < 2) (hy : y < 2) : Bis T0 x y := by
  refine ⟨fun x y => x < 2 ∧ y < 2, ⟨hx, hy⟩, ?_⟩
  rintro x y ⟨hx, hy⟩
  have h1 : x = 0 ∨ x = 1 := by omega
  have h2 : y = 0 ∨ y = 1 := by omega
  rcases h1 with rfl | rfl <;> rcases h2 with rfl | rfl <;> (refine ⟨rfl, fun a ha => ?_⟩; have h3 : a = 0 ∨ a = 1 := (by simp only [roww, T0, List.getD_cons_zero, List.getD_cons_succ, List.length_cons, List.length_nil] at ha; omega); rcases h3 with rfl | rfl <;> exact ⟨rfl, by decide, by decide⟩)
theorem T0_idx (q : Nat) (hq : q < 2) : idxB T0 [0] q = 0 := idxB_eq (Rchd.one (by decide)) (by simp) (T0_bis _ _ (by decide) hq)
theorem T0_min : (minRows T0).length = 1 := by
  have e : minRow T0 (roww T0 (([0] : List Nat).getD 0 0)) [0] [] = ([0], [⟨0, (0 : Nat)⟩, ⟨0, (0 : Nat)⟩]) := by
    show minRow T0 [⟨0, 0⟩, ⟨0, 1⟩] [0] [] = _
    have h0 : idxB T0 [0] (⟨0, 0⟩ : S77).f1.toNat = 0 := T0_idx _ (by decide)
    have h1 : idxB T0 [0] (⟨0, 1⟩ : S77).f1.toNat = 0 := T0_idx _ (by decide)
    rw [minRow, h0, if_pos (by decide), minRow, h1, if_pos (by decide), minRow]
    rfl
  show (minGo T0 3 0 [0] []).length = 1
  rw [minGo, if_pos (by decide), e, minGo, if_neg (by decide)]
  rfl
theorem learned_is : bakekeep3_learned.f = some true := by
  unfold bakekeep3_learned.f
  have h := learn_Min.ok (T0_ok.tabOK)
  have e : learn_Min.f 1 1 (([(([(⟨0, 0⟩ : S77), (⟨0, 1⟩ : S77)] : List (S77))), (([(⟨0, 0⟩ : S77), (⟨0, 0⟩ : S77)] : List (S77)))] : List (List (S77)))) = some (1, 1, minRows T0, 0) := h
  rw [e, Option.bind_some, if_pos rfl, T0_min]
  rfl

/-! ### the law -/
theorem fin_l0 (h : OKT ins outs t) (w : List Int) (hw : InW ins w) (hwl : w.length ≤ 60) (x23 : List Int) (x24 x25 : Int) (hx : ¬ x25 < x24) : Ev (fun k => bakekeep3_LearnMin.l0 k w x23 x24 x25 ins outs t) true := by
  have hM := h.min
  have hT := h.tab
  have ha := run_is h w hw hwl
  have hb := run_is hM w hw hwl
  have hrun := run_min h w 0 0 hw (fin_pos hT) (by have := h.n1; omega) (by rw [fin_zero hT]; exact Bis.refl _ _)
  rw [hrun] at hb
  have hmm := min_min hT
  refine Ev.step (f := fun k => (learn_Run.f k ins outs t w).bind fun bt168 => ((learn_Run.f k ins outs (minRows t) w).bind fun bt172 => (if bt168.2 = 0 then (if bt172.2 = 0 then ((slices_Equal_int_int.f k bt168.1 bt172.1).bind fun t178 => (if t178 = true then (some ((bt168.1.length : Int) == (w.length : Int))) else (some false))) else (some false)) else (some false)))) (fun k => ?_) ?_
  · simp only [bakekeep3_LearnMin.l0]
    rw [if_neg hx, learn_Min.ok h.tabOK, Option.bind_some, learn_Min.ok hM.tabOK, Option.bind_some, hmm]
    have hs : learn_Same.f ins outs (minRows t) ins outs (minRows t) = some true := by unfold learn_Same.f; rw [if_pos ⟨rfl, rfl, rfl⟩]
    simp only [learned_is, Option.bind_some, if_true, hs]
  · refine Ev.bind ha (Ev.bind hb ?_)
    refine Ev.congr (f := fun k => (slices_Equal_int_int.f k (runO t 0 w) (runO t 0 w)).bind fun t178 => (if t178 = true then (some (((runO t 0 w).length : Int) == (w.length : Int))) else (some false))) (fun k => by rw [if_pos rfl, if_pos rfl]) ?_
    refine Ev.bind (eq_is _ (by rw [runO_len]; omega)) ?_
    refine Ev.congr (f := fun _ => some true) (fun k => by rw [if_pos rfl, runO_len]; simp) (Ev.now _)

theorem law_l0 (h : OKT ins outs t) (l : List Int) (hl : l.length ≤ 60) : ∀ d i : Nat, ∀ acc : List Int, i + d = l.length → acc.length = i → InW ins acc → Ev (fun k => bakekeep3_LearnMin.l0 k acc l (l.length : Int) (i : Int) ins outs t) true := by
  intro d
  induction d with
  | zero => intro i acc hi ha hw; exact fin_l0 h acc hw (by omega) _ _ _ (by omega)
  | succ d ih =>
    intro i acc hi ha hw
    have h1 := shl_ins h.i0 h.i1
    obtain ⟨v, hv, v0, v1⟩ := below_is (rd l (i : Int)) (shl .i64 1 ins) (by omega) h1.2
    refine Ev.step (fun k => ?_) (ih (i + 1) (acc ++ [v]) (by omega) (by simp [ha]) (fun x hx => ?_))
    · simp only [bakekeep3_LearnMin.l0]
      rw [if_pos (by omega), if_pos (by omega), if_pos (by omega), if_pos h.i0, hv, Option.bind_some, if_pos (by omega), wnext (by omega)]
    · rcases List.mem_append.1 hx with hx | hx
      · exact hw x hx
      · simp at hx; subst hx; exact ⟨v0, v1⟩
end

theorem valid_ok {ins outs : Int} {t : Tab} (h : ValidT ins outs t) : OKT ins outs t := by
  have h1 := h.i0; have h2 := h.i1; have h3 := h.o0; have h4 := h.o1; have h5 := h.r0; have h6 := h.r1
  have e1 : shl .i64 1 ins = wrap64 (2 ^ ins.toNat) := by
    have : ins = 1 ∨ ins = 2 := by omega
    rcases this with rfl | rfl <;> decide +kernel
  have e2 : shl .i64 1 outs = wrap64 (2 ^ outs.toNat) := by
    have : outs = 1 ∨ outs = 2 ∨ outs = 3 := by omega
    rcases this with rfl | rfl | rfl <;> decide +kernel
  refine ⟨by omega, by omega, by omega, by omega, h5, by omega, fun row hr => by rw [e1]; exact (h.ok row hr).1, fun row hr r hr' => ?_⟩
  have := (h.ok row hr).2 r hr'
  rw [e2]
  exact this

theorem pure_learnMin : bakekeep3_LearnMin.Pure := by
  intro c hc l1 _ _ _
  obtain ⟨ins, outs, t⟩ := c
  have h := valid_ok hc
  have hm : 0 ≤ mn (l1.length : Int) 60 ∧ mn (l1.length : Int) 60 ≤ (l1.length : Int) ∧ mn (l1.length : Int) 60 ≤ 60 := by unfold mn; split <;> omega
  have hl : (l1.take ((mn (l1.length : Int) 60) : Int).toNat).length ≤ 60 := by rw [List.length_take]; omega
  have := law_l0 h (l1.take ((mn (l1.length : Int) 60) : Int).toNat) hl _ 0 [] (by rw [Nat.zero_add]) rfl (fun x hx => by cases hx)
  refine (Ev.congr (fun k => ?_) this).rounds
  unfold bakekeep3_LearnMin.f
  rw [if_pos hm.1, if_pos hm.2.1]
  rfl
end Go.Proofs.Ytaalafnkglbcpaa.PL
