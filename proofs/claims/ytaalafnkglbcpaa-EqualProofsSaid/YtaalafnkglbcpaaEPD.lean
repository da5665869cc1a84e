/- Own texts of this claim, part D: contracts of the functions that the law reaches, and plain lemmas. -/
import Derived.Test.YtaalafnkglbcpaaEPC
import Derived.WalkSpells
/- The plain law of LearnMin. No condition beyond the given statement. -/
section
namespace Go.Proofs.Ytaalafnkglbcpaa.PL
open Go.RowKit Go.Proofs.YtaalafnkglbcpaaW.PrintWords Go.Proofs.YtaalafnkglbcpaaW.PrintLast Go.Proofs.YtaalafnkglbcpaaW.PrintMore
set_option linter.unusedVariables false

theorem w64 {n : Int} (h0 : -9223372036854775808 ≤ n) (h1 : n ≤ 9223372036854775807) : wrap64 n = n := by unfold wrap64; omega
theorem wnext {i : Nat} (h : i ≤ 1000000) : wrap64 ((i : Int) + 1) = ((i + 1 : Nat) : Int) := by rw [w64 (by omega) (by omega)]; omega

theorem shl_ins {n : Int} (h0 : 0 ≤ n) (h1 : n ≤ 4) : 1 ≤ shl .i64 1 n ∧ shl .i64 1 n ≤ 16 := by
  have : n = 0 ∨ n = 1 ∨ n = 2 ∨ n = 3 ∨ n = 4 := by omega
  rcases this with rfl | rfl | rfl | rfl | rfl <;> decide +kernel
theorem shl_outs {n : Int} (h0 : 0 ≤ n) (h1 : n ≤ 10) : 1 ≤ shl .i64 1 n ∧ shl .i64 1 n ≤ 1024 := by
  have : n = 0 ∨ n = 1 ∨ n = 2 ∨ n = 3 ∨ n = 4 ∨ n = 5 ∨ n = 6 ∨ n = 7 ∨ n = 8 ∨ n = 9 ∨ n = 10 := by omega
  rcases this with rfl | rfl | rfl | rfl | rfl | rfl | rfl | rfl | rfl | rfl | rfl <;> decide +kernel

/-- A table that Check passes. -/
structure OKT (ins outs : Int) (t : Tab) : Prop where
  i0 : 0 ≤ ins
  i1 : ins ≤ 4
  o0 : 0 ≤ outs
  o1 : outs ≤ 10
  n1 : 1 ≤ t.length
  n2 : t.length ≤ 64
  row : ∀ row ∈ t, (row.length : Int) = shl .i64 1 ins
  ok : ∀ row ∈ t, ∀ r ∈ row, 0 ≤ r.f0 ∧ r.f0 < shl .i64 1 outs ∧ 0 ≤ r.f1 ∧ r.f1 < t.length

section
variable {ins outs : Int} {t : Tab}
theorem OKT.tab (h : OKT ins outs t) : TabR t := by
  have h1 := shl_ins h.i0 h.i1
  have h2 := shl_outs h.o0 h.o1
  refine ⟨h.n1, h.n2, ⟨(shl .i64 1 ins).toNat, by omega, fun row hr => by have := h.row row hr; omega⟩, fun row hr r hr' => ?_⟩
  have := h.ok row hr r hr'
  omega
theorem OKT.cel (h : OKT ins outs t) {s a : Nat} (hs : s < t.length) (ha : a < (roww t s).length) : 0 ≤ (cel t s a).f0 ∧ (cel t s a).f0 < shl .i64 1 outs ∧ 0 ≤ (cel t s a).f1 ∧ (cel t s a).f1 < t.length := h.ok _ (roww_mem hs) _ (cel_mem ha)
theorem OKT.min (h : OKT ins outs t) : OKT ins outs (minRows t) := by
  have hT := h.tab
  have hM := min_tabR hT
  have key : ∀ row ∈ minRows t, ∃ x, x < (fin t).length ∧ row = roww (minRows t) x := fun row hr => by
    obtain ⟨x, hx, e⟩ := List.getElem_of_mem hr
    exact ⟨x, by rw [← min_len hT]; exact hx, by unfold roww; rw [getD_of_lt _ _ hx, e]⟩
  refine ⟨h.i0, h.i1, h.o0, h.o1, hM.n1, hM.n2, fun row hr => ?_, fun row hr r hr' => ?_⟩
  · obtain ⟨x, hx, rfl⟩ := key row hr
    rw [min_rlen hT hx]
    exact h.row _ (roww_mem (reps_lt (fin_is hT).2.1 hx))
  · have h1 := hM.ok row hr r hr'
    obtain ⟨x, hx, rfl⟩ := key row hr
    obtain ⟨a, ha, rfl⟩ := List.getElem_of_mem hr'
    have ha' : a < (roww t ((fin t).getD x 0)).length := by rw [← min_rlen hT hx]; exact ha
    have e : (roww (minRows t) x)[a] = PL.cel (minRows t) x a := by unfold PL.cel; rw [getD_of_lt _ _ ha]
    rw [e] at h1 ⊢
    refine ⟨h1.1, ?_, h1.2.2.1, h1.2.2.2⟩
    rw [min_out hT hx ha']
    exact (h.cel (reps_lt (fin_is hT).2.1 hx) ha').2.1

theorem chk_l1 (h : OKT ins outs t) (s : Nat) (hs : s < t.length) (R : Int) (hR : Ev (fun k => learn_Check.l0 k t (t.length : Int) ((s + 1 : Nat) : Int) ins outs t) R) : ∀ d a : Nat, a + d = (roww t s).length →
    Ev (fun k => learn_Check.l1 k t (t.length : Int) (s : Int) (roww t s) ((roww t s).length : Int) (a : Int) ins outs t) R := by
  have hn := h.n2
  have hl := h.tab.len_le hs
  intro d
  induction d with
  | zero => intro a ha; refine Ev.step (fun k => ?_) hR; simp only [learn_Check.l1]; rw [if_neg (by omega), wnext (by omega)]
  | succ d ih =>
    intro a ha
    have hc := h.cel hs (a := a) (by omega)
    have e : rd_T77 (roww t s) (a : Int) = PL.cel t s a := rfl
    refine Ev.step (f := fun k => learn_Check.j3 k t (t.length : Int) (s : Int) (roww t s) ((roww t s).length : Int) (a : Int) false ins outs t (PL.cel t s a).f0 (PL.cel t s a).f1) (fun k => ?_) ?_
    · simp only [learn_Check.l1, e]; rw [if_pos (by omega), if_pos (by omega), if_pos (by omega), if_neg (by omega), if_pos h.o0, decide_eq_false (by omega)]
    · refine Ev.step (fun k => ?_) (ih (a + 1) (by omega))
      simp only [learn_Check.j3]; rw [if_neg (by simp), if_neg (by omega), if_neg (by omega), wnext (by omega)]
theorem chk_l0 (h : OKT ins outs t) : ∀ d s : Nat, s + d = t.length → Ev (fun k => learn_Check.l0 k t (t.length : Int) (s : Int) ins outs t) 0 := by
  have hn := h.n2
  intro d
  induction d with
  | zero => intro s hs; refine Ev.step (fun k => ?_) (Ev.now _); simp only [learn_Check.l0]; rw [if_neg (by omega)]
  | succ d ih =>
    intro s hs
    have e : rd_L2 t (s : Int) = roww t s := rfl
    refine Ev.step (fun k => ?_) (chk_l1 h s (by omega) 0 (ih (s + 1) (by omega)) (roww t s).length 0 (by omega))
    simp only [learn_Check.l0, e]; rw [if_pos (by omega), if_pos (by omega), if_pos (by omega), if_pos h.i0, if_pos (h.row _ (roww_mem (by omega)))]; rfl
theorem chk_is (h : OKT ins outs t) : Ev (fun k => learn_Check.f k ins outs t) 0 := by
  have h1 := h.i0; have h2 := h.i1; have h3 := h.o0; have h4 := h.o1; have h5 := h.n1; have h6 := h.n2
  refine Ev.congr (f := fun k => learn_Check.j0 k false ins outs t) (fun k => ?_) ?_
  · unfold learn_Check.f; rw [if_neg (by omega), if_neg (by omega), if_neg (by omega), if_neg (by omega), decide_eq_false (by omega)]
  · refine Ev.step (fun k => ?_) (chk_l0 h t.length 0 (by omega))
    simp only [learn_Check.j0]; rw [if_neg (by simp), if_neg (by omega)]; rfl
/-! ### runs -/
def runO (t : Tab) : Nat → List Int → List Int
  | _, [] => []
  | s, a :: w => (PL.cel t s a.toNat).f0 :: runO t (PL.cel t s a.toNat).f1.toNat w
theorem eq_l0 (l : List Int) (hl : l.length ≤ 1000) : ∀ d i : Nat, i + d = l.length → Ev (fun k => slices_Equal_int_int.l0 k l l (l.length : Int) (i : Int)) true := by
  intro d
  induction d with
  | zero => intro i hi; refine Ev.step (fun k => ?_) (Ev.now _); simp only [slices_Equal_int_int.l0]; rw [if_neg (by omega)]
  | succ d ih =>
    intro i hi
    refine Ev.step (fun k => ?_) (ih (i + 1) (by omega))
    simp only [slices_Equal_int_int.l0]; rw [if_pos (by omega), if_pos (by omega), if_pos (by omega), if_pos (by omega), if_pos trivial, wnext (by omega)]
theorem eq_is (l : List Int) (hl : l.length ≤ 1000) : Ev (fun k => slices_Equal_int_int.f k l l) true :=
  Ev.congr (fun k => by unfold slices_Equal_int_int.f; rw [if_pos rfl]; rfl) (eq_l0 l hl l.length 0 (by omega))

theorem below_is (x n : Int) (hn : 0 < n) (h16 : n ≤ 16) : ∃ v, bakemake_Below.f x n = some v ∧ 0 ≤ v ∧ v < n := by
  have h1 := Int.tmod_lt_of_pos x hn
  have h2 := Int.lt_tmod_of_pos x hn
  unfold bakemake_Below.f
  rw [if_neg (by omega)]
  by_cases h : Int.tmod x n < 0
  · rw [if_pos h, w64 (by omega) (by omega)]; exact ⟨_, rfl, by omega, by omega⟩
  · rw [if_neg h]; exact ⟨_, rfl, by omega, h1⟩

/-! ### a fact about tables -/
end

theorem valid_ok {ins outs : Int} {t : Tab} (h : ValidT ins outs t) : OKT ins outs t := by
  have h1 := h.i0; have h2 := h.i1; have h3 := h.o0; have h4 := h.o1; have h5 := h.r0; have h6 := h.r1
  have e1 : shl .i64 1 ins = wrap64 (2 ^ ins.toNat) := by
    have : ins = 1 ∨ ins = 2 := by omega
    rcases this with rfl | rfl <;> decide +kernel
  have e2 : shl .i64 1 outs = wrap64 (2 ^ outs.toNat) := by
    have : outs = 1 ∨ outs = 2 ∨ outs = 3 := by omega
    rcases this with rfl | rfl | rfl <;> decide +kernel
  refine ⟨by omega, by omega, by omega, by omega, h5, by omega, fun row hr => by rw [e1]; exact (h.ok row hr).1, fun row hr r hr' => ?_⟩
  have := (h.ok row hr).2 r hr'
  rw [e2]
  exact this
end Go.Proofs.Ytaalafnkglbcpaa.PL
end

/- synth.Of of a valid table gives a circuit that does as the table (30, 58). Own text of this claim. -/
section
namespace Go.Proofs.Ytaalafnkglbcpaa.SY
open Go.RowKit Go.WideMaps Go.Maps Go.Proofs.YtaalafnkglbcpaaW.PrintWords Go.Proofs.YtaalafnkglbcpaaW.PrintLast Go.Proofs.YtaalafnkglbcpaaW.PrintMore
open Go.Proofs.Ytaalafnkglbcpaa.PL (S77 z77 k77 Tab TabR roww cel OKT chk_is)
open Go.Proofs.Ytaalafnkglbcpaa.PG (S50 z50 k50 GateOk GatesOk)
set_option linter.unusedVariables false
set_option linter.unusedSimpArgs false
set_option maxHeartbeats 4000000 in
set_option maxRecDepth 100000 in
theorem width_calls (n : Nat) (h0 : 1 ≤ n) (h6 : n ≤ 6) (w : World) : Calls Try.prog 58 #[.int .i64 (n : Int)] w fun e w' => e = .returned (.int .i64 (widthN n : Nat)) ∧ Drawn0 w w' := by
  have HW : Aside0 (∀ k : Nat, k ≤ 3 → (∀ j, j < k → 2 ^ j < n) → ¬ 2 ^ k < n → widthN n = k) := ⟨fun k hk h1 h2 => by
    have : n = 1 ∨ n = 2 ∨ n = 3 ∨ n = 4 ∨ n = 5 ∨ n = 6 := by omega
    have hk' : k = 0 ∨ k = 1 ∨ k = 2 ∨ k = 3 := by omega
    have g0 := h1 0
    have g1 := h1 1
    have g2 := h1 2
    rcases this with rfl | rfl | rfl | rfl | rfl | rfl <;> rcases hk' with rfl | rfl | rfl | rfl <;> simp [widthN] at * ⟩
  have W64 : Aside0 (∀ k : Nat, k ≤ 3 → wrap64 ((2 : Int) ^ k) = ((2 ^ k : Nat) : Int)) := ⟨fun k hk => by
    have hk' : k = 0 ∨ k = 1 ∨ k = 2 ∨ k = 3 := by omega
    rcases hk' with rfl | rfl | rfl | rfl <;> decide +kernel⟩
  go_enter Try.func58, Try.ntmps58
  go_wp2
  go_loopw [3] (fun v3 wr => wr = w ∧ ∃ k : Nat, k ≤ 3 ∧ v3 = .int .i64 (k : Int) ∧ Aside0 (∀ j, j < k → 2 ^ j < n)) (fun v3 _ => 3 - (intOf v3).toNat)
  case atStart => exact ⟨rfl, 0, by omega, rfl, ⟨fun j hj => by omega⟩⟩
  case round =>
    obtain ⟨rfl, k, hk, rfl, HJ⟩ := hrel
    have hw := Aside0.mk (W64.out k hk)
    by_cases hlt : 2 ^ k < n
    · have hk3 : k < 3 := by
        rcases Nat.lt_or_ge k 3 with h | h
        · exact h
        · have e : k = 3 := by omega
          subst e; have h8 : (2 : Nat) ^ 3 = 8 := rfl; omega
      have ht : wrap64 ((2 : Int) ^ k) < (n : Int) := by rw [hw.out]; exact_mod_cast hlt
      have HJ2 : Aside0 (∀ j, j < k + 1 → 2 ^ j < n) := ⟨fun j hj => by
        rcases Nat.lt_or_ge j k with h | h
        · exact HJ.out j h
        · have e : j = k := by omega
          subst e; exact hlt⟩
      clear hlt HJ
      go_wp2
      go_roundw
      case rel => exact ⟨trivial, k + 1, by omega, by go_num, HJ2⟩
      case measure => simp [intOf]; omega
    · have ht : ¬ wrap64 ((2 : Int) ^ k) < (n : Int) := by rw [hw.out]; exact_mod_cast hlt
      have HR := Aside0.mk (HW.out k hk HJ.out hlt)
      clear hlt
      go_wp2
      go_ret
      exact ⟨by rw [HR.out]; rfl, Drawn0.refl _⟩
theorem shl_nat (n : Nat) (h : n ≤ 10) : shl .i64 1 (n : Int) = ((2 ^ n : Nat) : Int) := by
  have : n = 0 ∨ n = 1 ∨ n = 2 ∨ n = 3 ∨ n = 4 ∨ n = 5 ∨ n = 6 ∨ n = 7 ∨ n = 8 ∨ n = 9 ∨ n = 10 := by omega
  rcases this with rfl | rfl | rfl | rfl | rfl | rfl | rfl | rfl | rfl | rfl | rfl <;> decide +kernel
/-- A table that Check lets pass, over plain numbers. -/
structure TabN (I O : Nat) (t : Tab) : Prop where
  n1 : 1 ≤ t.length
  row : ∀ s, s < t.length → (roww t s).length = 2 ^ I
  ok : ∀ s a, s < t.length → a < 2 ^ I → 0 ≤ (cel t s a).f0 ∧ (cel t s a).f0.toNat < 2 ^ O ∧ 0 ≤ (cel t s a).f1 ∧ (cel t s a).f1.toNat < t.length
theorem TabN.of {I O : Nat} {t : Tab} (h : OKT (I : Int) (O : Int) t) : TabN I O t := by
  have h1 := h.i1
  have h2 := h.o1
  have e1 := shl_nat I (by omega)
  have e2 := shl_nat O (by omega)
  have hr : ∀ s, s < t.length → (roww t s).length = 2 ^ I := fun s hs => by
    have := h.row _ (PL.roww_mem hs)
    rw [e1] at this
    exact_mod_cast this
  refine ⟨h.n1, hr, fun s a hs ha => ?_⟩
  have := h.cel hs (a := a) (by rw [hr s hs]; exact ha)
  rw [e2] at this
  exact ⟨this.1, by omega, this.2.2.1, by omega⟩
theorem TabN.okt {I O : Nat} {t : Tab} (h : TabN I O t) (hI : I ≤ 4) (hO : O ≤ 10) (hl : t.length ≤ 64) : OKT (I : Int) (O : Int) t := by
  have e1 := shl_nat I (by omega)
  have e2 := shl_nat O (by omega)
  refine ⟨by omega, by omega, by omega, by omega, h.n1, hl, fun row hr => ?_, fun row hr r hr' => ?_⟩
  · obtain ⟨s, hs, e⟩ := List.getElem_of_mem hr
    have := h.row s hs
    unfold roww at this
    rw [List.getD_eq_getElem?_getD, List.getElem?_eq_getElem hs] at this
    have h3 : t[s].length = 2 ^ I := this
    rw [← e, h3, e1]
  · obtain ⟨s, hs, e⟩ := List.getElem_of_mem hr
    obtain ⟨a, ha, e3⟩ := List.getElem_of_mem hr'
    have hrw : roww t s = row := by
      unfold roww
      rw [List.getD_eq_getElem?_getD, List.getElem?_eq_getElem hs]; exact e
    have hc : cel t s a = r := by
      unfold cel
      rw [hrw, List.getD_eq_getElem?_getD, List.getElem?_eq_getElem ha]; exact e3
    have h4 := h.row s hs
    rw [hrw] at h4
    have h5 := h.ok s a hs (by omega)
    rw [hc] at h5
    rw [e2]
    exact ⟨h5.1, by omega, h5.2.2.1, by omega⟩
theorem map_testBit (n y : Nat) (h : y < 2 ^ n) : bitsN ((List.range n).map y.testBit) = y := bitsN_test n y h
/-- What synth.Of gives, over plain circuits. -/
def OfC (t : Tab) (I O : Nat) (w : World) (e : Ending) (w' : World) : Prop :=
  ∃ (c : Cir) (Ag Ao An Ai : Option Addr) (cg co cn ci : Nat), e = .returned (.tuple #[c.V Ag Ao An Ai cg co cn ci, .int .i64 0]) ∧ c.In w' Ag Ao An Ai cg co cn ci ∧ Below w.heap.size w w' ∧ c.Ok ∧ Does c t ∧ c.ins = I ∧ c.outs.length = O ∧ c.next.length ≤ 3
theorem of_does {t : Tab} {I O : Nat} {gs : List S50} {outs next : List Nat} (hT : TabN I O t) (h6 : t.length ≤ 6)
    (ho : ∀ s x, outs.map (val gs s x) = (List.range O).map (fun b => ofBit t I O b (pack I (I + widthN t.length) s x))) (hn : ∀ s x, next.map (val gs s x) = (List.range (widthN t.length)).map (fun b => ofBit t I O (O + b) (pack I (I + widthN t.length) s x))) :
    Does ⟨I, gs, outs, next, List.replicate (widthN t.length) false⟩ t := by
  refine ⟨?_, fun s x hs hx => ?_, fun s x hs hx => ?_⟩
  · show bitsN (List.replicate _ false) = 0
    generalize widthN t.length = n
    induction n with
    | zero => rfl
    | succ n ih => rw [List.replicate_succ]; simp [bitsN, ih]
  · show bitsN (outs.map (val gs s x)) = _
    have hc := hT.ok s x hs hx
    rw [ho]
    rw [show (List.range O).map (fun b => ofBit t I O b (pack I (I + widthN t.length) s x)) = (List.range O).map (cel t s x).f0.toNat.testBit from List.map_congr_left (fun b hb => by
      unfold ofBit
      rw [if_pos (List.mem_range.1 hb), rowAt_pack h6 hs hx])]
    exact map_testBit O _ hc.2.1
  · show bitsN (next.map (val gs s x)) = _
    have hc := hT.ok s x hs hx
    rw [hn]
    rw [show (List.range (widthN t.length)).map (fun b => ofBit t I O (O + b) (pack I (I + widthN t.length) s x)) = (List.range (widthN t.length)).map (cel t s x).f1.toNat.testBit from List.map_congr_left (fun b hb => by
      unfold ofBit
      rw [if_neg (by omega), rowAt_pack h6 hs hx, Nat.add_sub_cancel_left])]
    exact map_testBit _ _ (widthN_lt h6 hc.2.2.2)
theorem of2_calls (w : World) (I O : Nat) (Ar : Option Addr) (cr : Nat) (t : Tab) (hI : I = 1 ∨ I = 2) (hO0 : 1 ≤ O) (hO : O ≤ 3) (h6 : t.length ≤ 6) (hT : OKT (I : Int) (O : Int) t) (hR : Kd.C (Kd.slice 77 k77) w Ar t.length t) (hcr : t.length ≤ cr) :
    Calls Try.prog 30 #[.agg #[.int .i64 (I : Int), .int .i64 (O : Int), .slice Ar t.length cr]] w (OfC t I O w) := by
  have hN := TabN.of hT
  have h1 := hT.n1
  refine (of_calls w I O Ar cr t hI hO0 hO h1 h6 hN.row (fun X => ?_) hR hcr (chk_is hT).rounds (fun W => width_calls t.length h1 h6 W)).mono ?_
  · have hp := Nat.two_pow_pos I
    unfold rowAt
    have hO8 : 2 ^ O ≤ 2 ^ 3 := Nat.pow_le_pow_right (by omega) hO
    by_cases h : X / 2 ^ I < t.length
    · rw [if_pos h]
      have := hN.ok _ (X % 2 ^ I) h (Nat.mod_lt _ hp)
      omega
    · rw [if_neg h]
      have := hN.ok 0 (X % 2 ^ I) (by omega) (Nat.mod_lt _ hp)
      omega
  · rintro e w' ⟨ug, uo, un, ui, gs, outs, next, rfl, rg, ro, rn, ri, hb, gok, g1, ook, nok, ol, nl, hO2, hN2⟩
    have ew : I + widthN t.length - I = widthN t.length := by omega
    rw [ew] at ri gok nl hN2
    have hw3 := widthN_le t.length
    obtain ⟨Ag, cg, rfl⟩ := Kd.R_slice rg
    obtain ⟨Ao, co, rfl⟩ := Kd.R_slice ro
    obtain ⟨An, cn, rfl⟩ := Kd.R_slice rn
    obtain ⟨Ai, ci, rfl⟩ := Kd.R_slice ri
    have eo : (natsI outs).length = outs.length := by simp [natsI]
    have en : (natsI next).length = next.length := by simp [natsI]
    have ei : bI (List.replicate (widthN t.length) false) = List.replicate (widthN t.length) 0 := by unfold bI; simp
    have ei2 : (List.replicate (widthN t.length) (0 : Int)).length = (List.replicate (widthN t.length) false).length := by simp
    rw [eo] at ro
    rw [en] at rn
    rw [ei2] at ri
    have g := (Kd.R_reads' rg).2
    have o := (Kd.R_reads' ro).2
    have n := (Kd.R_reads' rn).2
    have i := (Kd.R_reads' ri).2
    rw [eo] at o
    rw [en] at n
    rw [← ei, ← ei2] at i
    rw [eo, en, ei2]
    refine ⟨⟨I, gs, outs, next, List.replicate (widthN t.length) false⟩, Ag, Ao, An, Ai, cg, co, cn, ci, rfl, ⟨g.2, o.2, n.2, ?_, g.1, o.1, n.1, ?_⟩, hb, ⟨?_, ?_, g1, by show I ≤ 10; omega, by show outs.length ≤ 10; omega, by show next.length ≤ 10; omega, ook, nok, by simp [nl]⟩, of_does hN h6 hO2 hN2, rfl, ol, by show next.length ≤ 3; omega⟩
    · have h := i.2
      rw [bI_len] at h
      exact h
    · have h := i.1; simpa using h
    · show GatesOk _ _ _
      rw [nl]; exact gok
    · have h2 := ook (outs.getD 0 0) (getD_mem' (by omega))
      show 1 ≤ gs.length
      omega
end Go.Proofs.Ytaalafnkglbcpaa.SY
end

/- Pairs of numbers as keys of a map, as elements of a row; maps whose elements are held as they are. Own text of this claim. -/
section
namespace Go.Proofs.Ytaalafnkglbcpaa.SY
open Go.RowKit Go.WideMaps Go.Maps Go.Proofs.YtaalafnkglbcpaaW.PrintWords Go.Proofs.YtaalafnkglbcpaaW.PrintLast Go.Proofs.YtaalafnkglbcpaaW.PrintMore
set_option linter.unusedVariables false
set_option linter.unusedSimpArgs false
abbrev P2 := Nat × Nat
theorem lawP : Maps.Keyed Try.prog 69 := Maps.Keyed.of_law (deep_law_gate laidOut (of_decide_eq_true (by kernel_rfl)) (of_decide_eq_true (by kernel_rfl)) (by kernel_rfl) (by kernel_rfl))
def pval (p : P2) : Value := .agg #[.int .i64 (p.1 : Int), .int .i64 (p.2 : Int)]
def litP (p : P2) : Lit := .string (keyBytes [.int .i64 (p.1 : Int), .int .i64 (p.2 : Int)])
theorem lits69 (d : Nat) (p : P2) (h0 : (Lit.int .i64 (p.1 : Int)).wf = true) (h1 : (Lit.int .i64 (p.2 : Int)).wf = true) :
    Try.prog.keyLits (d + 2) 69 [.int .i64 (p.1 : Int), .int .i64 (p.2 : Int)] = some [.int .i64 (p.1 : Int), .int .i64 (p.2 : Int)] := by
  have c69 : Try.prog.cellsOf 69 = 2 := by kernel_rfl
  have c3 : Try.prog.cellsOf 3 = 1 := by kernel_rfl
  unfold Program.keyLits
  rw [Try.underlying69]
  simp [c69, c3, lits3, h0, h1, show List.range 2 = [0, 1] from rfl]
set_option maxRecDepth 10000 in
theorem key_p (p : P2) (h0 : p.1 ≤ 100000) (h1 : p.2 ≤ 100000) : keyOf Try.prog 69 (pval p) = some (litP p) := by
  have w0 : (Lit.int .i64 (p.1 : Int)).wf = true := wf_small (by omega) (by omega)
  have w1 : (Lit.int .i64 (p.2 : Int)).wf = true := wf_small (by omega) (by omega)
  have hk : Try.prog.keyType 69 = true := by kernel_rfl
  obtain ⟨m, hm⟩ : ∃ m, Try.prog.types.size + 1 = m + 2 := ⟨Try.prog.types.size - 1, by have : 1 ≤ Try.prog.types.size := of_decide_eq_true (by kernel_rfl); omega⟩
  have hf : (pval p).formed Try.prog 69 = true := by
    have c69 : Try.prog.cellsOf 69 = 2 := by kernel_rfl
    unfold pval Value.formed
    rw [Try.underlying69]
    simp [c69]
  unfold keyOf
  rw [Try.underlying69]
  simp only [hk, hf, hm, Bool.and_self, if_true]
  have hc : (pval p).cells.toList = [.int .i64 (p.1 : Int), .int .i64 (p.2 : Int)] := by unfold pval; simp [Value.cells]
  rw [hc, lits69 m p w0 w1]
  rfl
theorem litP_inj {p q : P2} (hp : p.1 ≤ 100000 ∧ p.2 ≤ 100000) (hq : q.1 ≤ 100000 ∧ q.2 ≤ 100000) (e : litP p = litP q) : p = q := by
  have h : pval p = pval q := lawP.inj (key_p p hp.1 hp.2) (by rw [e]; exact key_p q hq.1 hq.2)
  obtain ⟨a, b⟩ := p
  obtain ⟨a', b'⟩ := q
  simp only [pval, Value.agg.injEq, Array.mk.injEq, List.cons.injEq, Value.int.injEq, true_and, and_true] at h
  have h1 : a = a' := by omega
  have h2 : b = b' := by omega
  rw [h1, h2]
/-- An element that is held as it is. -/
def heldE (v : Value) : Option (DataW Value × List MemPlace) := some (.held v, [])
/-- A map over keys in the order of their coming, with what stands at each. -/
structure MapV (D : DataW Value) (ks : List Lit) (vs : List Value) : Prop where
  tidy : Tidy D
  size : Maps.size D = ks.length
  has : ∀ k, Maps.has D k = true ↔ k ∈ ks
  at' : ∀ (i : Nat) (k : Lit) (v : Value), ks[i]? = some k → vs[i]? = some v → ∀ z, D.atKey k z = .held v
  len : vs.length = ks.length
theorem MapV.start : MapV (.map []) [] [] := ⟨tidy_empty, rfl, fun k => by simp [Maps.has], fun i k v h => by simp at h, rfl⟩
theorem MapV.put {D : DataW Value} {ks : List Lit} {vs : List Value} (h : MapV D ks vs) {k : Lit} (hk : WideAt.IsKeyLit k) (hn : k ∉ ks) (v : Value) : MapV (D.put k (.held v)) (ks ++ [k]) (vs ++ [v]) := by
  refine ⟨h.tidy.put hk _, ?_, fun k' => ?_, fun i k' v' hi hv z => ?_, by simp [h.len]⟩
  · rw [Maps.size_put h.tidy, if_neg (fun e => hn ((h.has k).1 e)), h.size, List.length_append, List.length_singleton]
  · by_cases e : k' = k
    · subst e; simp [Maps.has_put_same h.tidy.isMap hk]
    · rw [Maps.has_put_other e, h.has]; simp [e]
  · rcases Nat.lt_or_ge i ks.length with q | q
    · rw [List.getElem?_append_left q] at hi
      rw [List.getElem?_append_left (by rw [h.len]; exact q)] at hv
      have hne : k' ≠ k := fun e => hn (e ▸ List.mem_of_getElem? hi)
      rw [Maps.atKey_put_other hne]
      exact h.at' i k' v' hi hv z
    · rw [List.getElem?_append_right q] at hi
      rw [List.getElem?_append_right (by rw [h.len]; exact q)] at hv
      have h0 : i - ks.length = 0 := by
        rcases Nat.eq_zero_or_pos (i - ks.length) with e | e
        · exact e
        · rw [List.getElem?_eq_none (by simp; omega)] at hi; cases hi
      rw [h0] at hi
      rw [h.len, h0] at hv
      simp at hi hv
      subst hi
      subst hv
      exact Maps.atKey_put_same h.tidy.isMap hk _ _
/-! ### pairs as elements -/
theorem info69 : (Try.prog.info? 69).map (fun i => (i.zero, i.size, i.bytes)) = some (some (.agg #[.int .i64 0, .int .i64 0]), 2, 16) := by kernel_rfl
def k69 : Kd P2 := Kd.iso (Kd.pair (Kd.int .i64) (Kd.int .i64)) (fun x : P2 => ((x.1 : Int), (x.2 : Int)))
theorem k69_open {w : World} {x : P2} {cs : List Value} (h : k69.K w x cs) : cs = [.int .i64 (x.1 : Int), .int .i64 (x.2 : Int)] := by
  obtain ⟨_, _, rfl, rfl, rfl⟩ := h
  exact rfl
theorem k69_mkM (w : World) (base : Nat) (ok : Nat → Prop) (x : P2) : k69.M w base ok x [.int .i64 (x.1 : Int), .int .i64 (x.2 : Int)] := ⟨[.int .i64 (x.1 : Int)], [.int .i64 (x.2 : Int)], rfl, rfl, rfl⟩
theorem at_P2 {w : World} {A : Option Addr} {n : Nat} {xs : List P2} (h : Kd.C k69 w A n xs) (i : Nat) (h1 : i < n) : ∃ ad , A = some ad ∧ w.cell? (ad.add (i * 2)) = some (.int .i64 ((xs.getD i (0, 0)).1 : Int)) ∧ w.cell? ⟨(ad.add (i * 2)).block, (ad.add (i * 2)).off + 1, none⟩ = some (.int .i64 ((xs.getD i (0, 0)).2 : Int)) := by
  obtain ⟨ad, c, e, _, hK, hc0⟩ := Kd.C_get h ((0, 0) : P2) (i : Int) (by omega) (by omega)
  rw [Int.toNat_natCast] at hK hc0
  have hc : ∀ j u, c[j]? = some u → w.cell? (ad.add (i * 2 + j)) = some u := hc0
  obtain rfl := k69_open hK
  exact ⟨ad, e, hc 0 _ rfl, by rw [← add_field _ _ 1 (by omega)]; exact hc 1 _ rfl⟩
end Go.Proofs.Ytaalafnkglbcpaa.SY
end

/- Inputs that tell a circuit from a table, plain: paths, pairs that are reached, what is done. Own text of this claim. -/
section
namespace Go.Proofs.Ytaalafnkglbcpaa.SY
open Go.RowKit Go.WideMaps Go.Maps Go.Proofs.YtaalafnkglbcpaaW.PrintWords Go.Proofs.YtaalafnkglbcpaaW.PrintLast Go.Proofs.YtaalafnkglbcpaaW.PrintMore
open Go.Proofs.Ytaalafnkglbcpaa.PL (S77 z77 k77 Tab TabR roww cel)
set_option linter.unusedVariables false
def stT (t : Tab) (s : Nat) (l : List Nat) : Nat := l.foldl (fun s x => (cel t s x).f1.toNat) s
def runT (t : Tab) : Nat → List Nat → List Int
  | _, [] => []
  | s, x :: l => (cel t s x).f0 :: runT t (cel t s x).f1.toNat l
theorem runT_app (t : Tab) (l m : List Nat) : ∀ s, runT t s (l ++ m) = runT t s l ++ runT t (stT t s l) m := by
  induction l with
  | nil => intro s; rfl
  | cons x l ih => intro s; simp [runT, stT, ih]
theorem stT_app (t : Tab) (l m : List Nat) (s : Nat) : stT t s (l ++ m) = stT t (stT t s l) m := by unfold stT; rw [List.foldl_append]
/-- The pair behind p and input x. -/
def nx2 (c : Cir) (t : Tab) (p : P2) (x : Nat) : P2 := (c.nxt p.1 x, (cel t p.2 x).f1.toNat)
def Eq2 (c : Cir) (t : Tab) (p : P2) (x : Nat) : Prop := ((c.out p.1 x : Nat) : Int) = (cel t p.2 x).f0
structure Path (c : Cir) (t : Tab) (l : List Nat) (p : P2) : Prop where
  st : p.1 = c.stN c.start l
  tt : p.2 = stT t 0 l
  eq : natsI (c.runO c.start l) = runT t 0 l
  lt : ∀ x ∈ l, x < 2 ^ c.ins
section
variable {c : Cir} {t : Tab} {l : List Nat} {p : P2}
theorem Path.nil : Path c t [] (c.start, 0) := ⟨rfl, rfl, rfl, fun x h => by simp at h⟩
theorem run_snoc (h1 : p.1 = c.stN c.start l) (h2 : p.2 = stT t 0 l) (x : Nat) : natsI (c.runO c.start (l ++ [x])) = natsI (c.runO c.start l) ++ [((c.out p.1 x : Nat) : Int)] ∧ runT t 0 (l ++ [x]) = runT t 0 l ++ [(cel t p.2 x).f0] := by
  rw [Cir.runO_app, runT_app, ← h1, ← h2]
  exact ⟨by simp [natsI, Cir.runO], rfl⟩
theorem Path.snoc (h : Path c t l p) {x : Nat} (hx : x < 2 ^ c.ins) (e : Eq2 c t p x) : Path c t (l ++ [x]) (nx2 c t p x) := by
  obtain ⟨h1, h2⟩ := run_snoc (t := t) h.st h.tt x
  refine ⟨?_, ?_, ?_, fun y hy => ?_⟩
  · rw [Cir.stN_app, ← h.st]; rfl
  · rw [stT_app, ← h.tt]; rfl
  · rw [h1, h2, h.eq]; unfold Eq2 at e; rw [e]
  · rcases List.mem_append.1 hy with hy | hy
    · exact h.lt y hy
    · rw [List.mem_singleton.1 hy]; exact hx
end
/-- Inputs l tell c from t, at their last place. -/
def Tells (c : Cir) (t : Tab) (l : List Nat) : Prop := ∃ (l0 : List Nat) (x : Nat) (p : P2), l = l0 ++ [x] ∧ Path c t l0 p ∧ x < 2 ^ c.ins ∧ ¬ Eq2 c t p x
def NoneTells (c : Cir) (t : Tab) : Prop := ∃ R : P2 → Prop, R (c.start, 0) ∧ ∀ p, R p → ∀ x, x < 2 ^ c.ins → Eq2 c t p x ∧ R (nx2 c t p x)
theorem NoneTells.run {c : Cir} {t : Tab} (h : NoneTells c t) : ∀ l : List Nat, (∀ x ∈ l, x < 2 ^ c.ins) → natsI (c.runO c.start l) = runT t 0 l := by
  obtain ⟨R, h0, h1⟩ := h
  have key : ∀ (l : List Nat) (p : P2), R p → (∀ x ∈ l, x < 2 ^ c.ins) → natsI (c.runO p.1 l) = runT t p.2 l := by
    intro l
    induction l with
    | nil => intro p _ _; rfl
    | cons x l ih =>
      intro p hp hl
      obtain ⟨e, hn⟩ := h1 p hp x (hl x List.mem_cons_self)
      have h2 := ih _ hn (fun y hy => hl y (List.mem_cons_of_mem _ hy))
      unfold Eq2 at e
      show ((c.out p.1 x : Nat) : Int) :: natsI (c.runO (c.nxt p.1 x) l) = (cel t p.2 x).f0 :: runT t _ l
      rw [e]
      exact congrArg _ h2
  exact fun l hl => key l _ h0 hl
/-- What is reached while pairs are looked at: i of them are done. -/
structure FS (c : Cir) (t : Tab) (i : Nat) (reps : List P2) (ws : List (List Nat)) : Prop where
  le : i ≤ reps.length
  len : ws.length = reps.length
  nd : reps.Nodup
  bd : ∀ p ∈ reps, p.1 < 2 ^ c.next.length ∧ p.2 < t.length
  path : ∀ k, k < reps.length → Path c t (ws.getD k []) (reps.getD k (0, 0))
  wl : ∀ k, k < reps.length → (ws.getD k []).length ≤ k
  hd : reps.getD 0 (0, 0) = (c.start, 0)
  pos : 1 ≤ reps.length
  done : ∀ k, k < i → ∀ x, x < 2 ^ c.ins → Eq2 c t (reps.getD k (0, 0)) x ∧ nx2 c t (reps.getD k (0, 0)) x ∈ reps
theorem getD_mem2 {α : Type} {l : List α} {z : α} {i : Nat} (h : i < l.length) : l.getD i z ∈ l := by
  rw [List.getD_eq_getElem?_getD, List.getElem?_eq_getElem h]; exact List.getElem_mem _
section
variable {c : Cir} {t : Tab} {i : Nat} {reps : List P2} {ws : List (List Nat)}
theorem FS.start (hi : c.init.length = c.next.length) (ht : 1 ≤ t.length) : FS c t 0 [(c.start, 0)] [[]] := by
  refine ⟨by simp, rfl, by simp, fun p hp => ?_, fun k hk => ?_, fun k hk => ?_, rfl, by simp, fun k hk => by omega⟩
  · simp at hp; subst hp
    have h := bitsN_lt c.init
    rw [hi] at h
    exact ⟨h, by show 0 < t.length; omega⟩
  · have e : k = 0 := by simp at hk; omega
    subst e; exact Path.nil
  · have e : k = 0 := by simp at hk; omega
    subst e; simp
theorem FS.card (h : FS c t i reps ws) : reps.length ≤ 2 ^ c.next.length * t.length := by
  have hn : (reps.map (fun p => p.1 * t.length + p.2)).Nodup := by
    rw [List.nodup_iff_pairwise_ne, List.pairwise_map]
    have h0 := h.nd
    rw [List.nodup_iff_pairwise_ne] at h0
    refine h0.imp_of_mem (fun {a b} ha hb hab e => hab ?_)
    have h1 := (h.bd a ha).2
    have h2 := (h.bd b hb).2
    have e1 : a.2 = b.2 := by
      have := congrArg (· % t.length) e
      simpa [Nat.mul_add_mod_self_right, Nat.mod_eq_of_lt h1, Nat.mod_eq_of_lt h2] using this
    have e2 : a.1 = b.1 := by
      have hp : 0 < t.length := by omega
      have := congrArg (· / t.length) e
      simpa [Nat.mul_comm _ t.length, Nat.mul_add_div hp, Nat.div_eq_of_lt h1, Nat.div_eq_of_lt h2] using this
    exact Prod.ext e2 e1
  have := nodup_le (2 ^ c.next.length * t.length) _ hn (fun y hy => by
    obtain ⟨p, hp, rfl⟩ := List.mem_map.1 hy
    obtain ⟨h1, h2⟩ := h.bd p hp
    have : (p.1 + 1) * t.length ≤ 2 ^ c.next.length * t.length := Nat.mul_le_mul_right _ h1
    rw [Nat.add_mul, Nat.one_mul] at this
    omega)
  rwa [List.length_map] at this
theorem FS.add (h : FS c t i reps ws) (hi : i < reps.length) {x : Nat} (hx : x < 2 ^ c.ins) (e : Eq2 c t (reps.getD i (0, 0)) x) (hb : (nx2 c t (reps.getD i (0, 0)) x).1 < 2 ^ c.next.length ∧ (nx2 c t (reps.getD i (0, 0)) x).2 < t.length) (hn : nx2 c t (reps.getD i (0, 0)) x ∉ reps) :
    FS c t i (reps ++ [nx2 c t (reps.getD i (0, 0)) x]) (ws ++ [ws.getD i [] ++ [x]]) := by
  have hl := h.len
  refine ⟨by simp; omega, by simp [hl], ?_, fun p hp => ?_, fun k hk => ?_, fun k hk => ?_, ?_, by simp, fun k hk y hy => ?_⟩
  · refine List.nodup_append.2 ⟨h.nd, by simp, fun a ha b hb' => ?_⟩
    rw [List.mem_singleton.1 hb']
    exact fun e => hn (e ▸ ha)
  · rcases List.mem_append.1 hp with hp | hp
    · exact h.bd p hp
    · rw [List.mem_singleton.1 hp]; exact hb
  · rw [List.length_append, List.length_singleton] at hk
    rcases Nat.lt_or_ge k reps.length with q | q
    · rw [getD_app_lt _ _ _ q, getD_app_lt _ _ _ (by omega)]
      exact h.path k q
    · have ek : k = reps.length := by omega
      subst ek
      rw [getD_app_at, ← hl, getD_app_at]
      exact (h.path i hi).snoc hx e
  · rw [List.length_append, List.length_singleton] at hk
    rcases Nat.lt_or_ge k reps.length with q | q
    · rw [getD_app_lt _ _ _ (by omega)]
      exact h.wl k q
    · have ek : k = reps.length := by omega
      subst ek
      rw [← hl, getD_app_at, List.length_append, List.length_singleton]
      have := h.wl i hi
      omega
  · rw [getD_app_lt _ _ _ (by have := h.pos; omega)]; exact h.hd
  · rw [getD_app_lt _ _ _ (by have := h.le; omega)]
    obtain ⟨a, b⟩ := h.done k hk y hy
    exact ⟨a, List.mem_append_left _ b⟩
theorem FS.next (h : FS c t i reps ws) (hi : i < reps.length) (hd : ∀ x, x < 2 ^ c.ins → Eq2 c t (reps.getD i (0, 0)) x ∧ nx2 c t (reps.getD i (0, 0)) x ∈ reps) : FS c t (i + 1) reps ws :=
  ⟨by omega, h.len, h.nd, h.bd, h.path, h.wl, h.hd, h.pos, fun k hk => by
    rcases Nat.lt_or_ge k i with q | q
    · exact h.done k q
    · have e : k = i := by omega
      subst e; exact hd⟩
theorem FS.fin (h : FS c t i reps ws) (hi : i = reps.length) : NoneTells c t := by
  subst hi
  refine ⟨fun p => p ∈ reps, ?_, fun p hp x hx => ?_⟩
  · rw [← h.hd]; exact getD_mem2 (by have := h.pos; omega)
  · obtain ⟨k, hk, rfl⟩ := List.getElem_of_mem hp
    have h1 := h.done k hk x hx
    rw [List.getD_eq_getElem?_getD, List.getElem?_eq_getElem hk] at h1
    exact h1
theorem FS.tells (h : FS c t i reps ws) (hi : i < reps.length) {x : Nat} (hx : x < 2 ^ c.ins) (e : ¬ Eq2 c t (reps.getD i (0, 0)) x) : Tells c t (ws.getD i [] ++ [x]) ∧ ((ws.getD i [] ++ [x]).length = 1 ∨ ∀ a, a < 2 ^ c.ins → Eq2 c t (c.start, 0) a) := by
  refine ⟨⟨_, x, _, rfl, h.path i hi, hx, e⟩, ?_⟩
  rcases Nat.eq_zero_or_pos i with q | q
  · subst q
    have := h.wl 0 hi
    exact .inl (by rw [List.length_append, List.length_singleton]; omega)
  · refine .inr (fun a ha => ?_)
    have := (h.done 0 q a ha).1
    rwa [h.hd] at this
end
end Go.Proofs.Ytaalafnkglbcpaa.SY
end

/- equal.Check (63) and equal.step (64), walked by hand. Own text of this claim. -/
section
namespace Go.Proofs.Ytaalafnkglbcpaa.SY
open Go.RowKit Go.WideMaps Go.Maps Go.Proofs.YtaalafnkglbcpaaW.PrintWords Go.Proofs.YtaalafnkglbcpaaW.PrintLast Go.Proofs.YtaalafnkglbcpaaW.PrintMore
open Go.Proofs.Ytaalafnkglbcpaa.PL (S77 z77 k77 Tab TabR roww cel OKT chk_is)
open Go.Proofs.Ytaalafnkglbcpaa.PG (S50 z50 k50 GateOk GatesOk)
set_option linter.unusedVariables false
set_option linter.unusedSimpArgs false
theorem results_ttc {P : Program} {fn : Func} {p u v : Tmp} {ty : TypeId} (h : fn.results = #[.tmp u, .tmp v, .cell p ty]) (tmps : Array Value) (w : World) (g : Nat) (t : TypeId) (cs : Array Value) (fr : Nat × Nat) (d : TypeDesc)
    (hp : tmps.getD p undef = .pointer (some ⟨g, 0, none⟩)) (hg : w.heap[g]? = some (.cells cs t fr))
    (hu : P.underlying ty = some d) (hd : (match d with | .struct _ | .array _ _ => true | _ => false) = true) (hi : (P.info? ty).map (·.size) = some cs.size) :
    (results fn tmps).run P w = .ok (.tuple #[tmps.getD u undef, tmps.getD v undef, .agg cs]) w := by
  have hp' : tmps[p]?.getD undef = .pointer (some ⟨g, 0, none⟩) := by simpa using hp
  simp [results, h, hp', asAddr, run_loadVar_row w g t ty cs fr d hg hu hd hi]
/-- The two boxes: the circuit's at b, the table's at b'. -/
theorem box5 {wr : World} {b : Nat} {v0 v1 v2 v3 v4 : Value} (X : wr.heap[b]? = some (Obj.cells #[v0, v1, v2, v3, v4] 38 (0, 0))) :
    wr.cell? ⟨b, 0, none⟩ = some v0 ∧ wr.cell? ⟨b, 1, none⟩ = some v1 ∧ wr.cell? ⟨b, 2, none⟩ = some v2 ∧ wr.cell? ⟨b, 3, none⟩ = some v3 ∧ wr.cell? ⟨b, 4, none⟩ = some v4 :=
  ⟨(blk_cell X 0).trans rfl, (blk_cell X 1).trans rfl, (blk_cell X 2).trans rfl, (blk_cell X 3).trans rfl, (blk_cell X 4).trans rfl⟩
theorem box3 {wr : World} {b : Nat} {v0 v1 v2 : Value} (X : wr.heap[b]? = some (Obj.cells #[v0, v1, v2] 25 (0, 0))) :
    wr.cell? ⟨b, 0, none⟩ = some v0 ∧ wr.cell? ⟨b, 1, none⟩ = some v1 ∧ wr.cell? ⟨b, 2, none⟩ = some v2 :=
  ⟨(blk_cell X 0).trans rfl, (blk_cell X 1).trans rfl, (blk_cell X 2).trans rfl⟩
theorem blk_next (w : World) (o p : Obj) : ((w.alloc o).alloc p).heap[w.heap.size + 1]? = some p := by
  have h := blk_new (w.alloc o) p
  rwa [show (w.alloc o).heap.size = w.heap.size + 1 by simp] at h
theorem four_new (w : World) (o p q r : Obj) : ((((w.alloc o).alloc p).alloc q).alloc r).heap[w.heap.size]? = some o ∧ ((((w.alloc o).alloc p).alloc q).alloc r).heap[w.heap.size + 1]? = some p ∧ ((((w.alloc o).alloc p).alloc q).alloc r).heap[w.heap.size + 2]? = some q ∧ ((((w.alloc o).alloc p).alloc q).alloc r).heap[w.heap.size + 3]? = some r ∧ Below w.heap.size w ((((w.alloc o).alloc p).alloc q).alloc r) := by
  have h2 := blk_new ((w.alloc o).alloc p) q
  rw [show ((w.alloc o).alloc p).heap.size = w.heap.size + 2 by simp] at h2
  have h3 := blk_new (((w.alloc o).alloc p).alloc q) r
  rw [show (((w.alloc o).alloc p).alloc q).heap.size = w.heap.size + 3 by simp] at h3
  exact ⟨blk_alloc (blk_alloc (blk_alloc (blk_new w o) p) q) r, blk_alloc (blk_alloc (blk_next w o p) q) r, blk_alloc h2 r, h3, below_alloc (below_alloc (below_alloc (below_alloc (Below.refl _ _) o) p) q) r⟩
set_option maxHeartbeats 8000000 in
set_option maxRecDepth 100000 in
theorem echeck_calls (w : World) (c : Cir) (Ag Ao An Ai : Option Addr) (cg co cn ci : Nat) (Ar : Option Addr) (cr : Nat) (t : Tab) (ok : c.Ok) (hin : c.In w Ag Ao An Ai cg co cn ci) (hT : OKT (c.ins : Int) (c.outs.length : Int) t) (hR : Kd.C (Kd.slice 77 k77) w Ar t.length t) (hcr : t.length ≤ cr) :
    Calls Try.prog 63 #[c.V Ag Ao An Ai cg co cn ci, .agg #[.int .i64 (c.ins : Int), .int .i64 (c.outs.length : Int), .slice Ar t.length cr]] w fun e w' => e = .returned (.int .i64 0) ∧ Below w.heap.size w w' := by
  have CK := Aside0.mk (fun W (hb : Below w.heap.size w W) => check_calls W c Ag Ao An Ai cg co cn ci ok (hin.below hb))
  obtain ⟨k, hk⟩ := (chk_is hT).rounds
  have LK := Aside0.mk (fun W (hb : Below w.heap.size w W) => PL.learn_Check.calls k (c.ins : Int) (c.outs.length : Int) Ar cr t 0 W (Kd.C_below hR hb) hcr hk)
  clear ok hin hT hR hk
  obtain ⟨ins, gs, outs, next, init⟩ := c
  dsimp only [Cir.V] at CK LK ⊢
  have X1 := Aside0.mk (blk_alloc (blk_new w (Obj.cells #[.int .i64 (ins : Int), .slice Ag gs.length cg, .slice Ao outs.length co, .slice An next.length cn, .slice Ai init.length ci] 38)) (Obj.cells #[.int .i64 (ins : Int), .int .i64 (outs.length : Int), .slice Ar t.length cr] 25))
  have Y1 := Aside0.mk (blk_next w (Obj.cells #[.int .i64 (ins : Int), .slice Ag gs.length cg, .slice Ao outs.length co, .slice An next.length cn, .slice Ai init.length ci] 38) (Obj.cells #[.int .i64 (ins : Int), .int .i64 (outs.length : Int), .slice Ar t.length cr] 25))
  have HB1 := Aside0.mk (below_alloc (below_alloc (Below.refl w.heap.size w) (Obj.cells #[.int .i64 (ins : Int), .slice Ag gs.length cg, .slice Ao outs.length co, .slice An next.length cn, .slice Ai init.length ci] 38)) (Obj.cells #[.int .i64 (ins : Int), .int .i64 (outs.length : Int), .slice Ar t.length cr] 25))
  go_enter Try.func63, Try.ntmps63
  go_upto_region 1 with (fail)
  generalize (w.alloc (Obj.cells #[.int .i64 (ins : Int), .slice Ag gs.length cg, .slice Ao outs.length co, .slice An next.length cn, .slice Ai init.length ci] 38)).alloc (Obj.cells #[.int .i64 (ins : Int), .int .i64 (outs.length : Int), .slice Ar t.length cr] 25) = w1 at *
  obtain ⟨q0, q1, q2, q3, q4⟩ := box5 X1.out
  have CC := Aside0.mk (CK.out w1 HB1.out)
  go_wp2_with fail
  (with_reducible refine CC.out.mono ?_)
  rintro e w2 ⟨rfl, hb2⟩
  have X2 := Aside0.mk (blk_below X1.out hb2)
  have Y2 := Aside0.mk (blk_below Y1.out hb2)
  have HB2 := Aside0.mk (HB1.out.trans (hb2.mono HB1.out.size))
  clear CC hb2 X1 Y1 HB1 q0 q1 q2 q3 q4 CK
  obtain ⟨p0, p1, p2⟩ := box3 Y2.out
  have CC := Aside0.mk (LK.out w2 HB2.out)
  go_wp2_with fail
  (with_reducible refine CC.out.mono ?_)
  rintro e w3 ⟨rfl, hb3⟩
  have X3 := Aside0.mk (blk_below X2.out hb3)
  have Y3 := Aside0.mk (blk_below Y2.out hb3)
  have HB3 := Aside0.mk (HB2.out.trans (hb3.mono HB2.out.size))
  clear CC hb3 X2 Y2 HB2 p0 p1 p2 LK
  obtain ⟨p0, p1, p2⟩ := box3 Y3.out
  obtain ⟨q0, q1, q2, q3, q4⟩ := box5 X3.out
  go_wp2_with fail
  go_ret
  exact ⟨rfl, HB3.out⟩
set_option maxHeartbeats 8000000 in
set_option maxRecDepth 100000 in
theorem estep_calls (w : World) (c : Cir) (Ag Ao An Ai : Option Addr) (cg co cn ci : Nat) (Ar : Option Addr) (cr : Nat) (I O : Int) (t : Tab) (p : P2) (x : Nat) (ok : c.Ok) (hin : c.In w Ag Ao An Ai cg co cn ci) (hR : Kd.C (Kd.slice 77 k77) w Ar t.length t) (hcr : t.length ≤ cr)
    (hp : p.1 < 2 ^ 20) (hx : x < 2 ^ 20) (hpt : p.2 < t.length) (hxr : x < (roww t p.2).length) (hf : 0 ≤ (cel t p.2 x).f1) :
    Calls Try.prog 64 #[c.V Ag Ao An Ai cg co cn ci, .agg #[I |> Value.int .i64, .int .i64 O, .slice Ar t.length cr], pval p, .int .i64 (x : Nat)] w fun e w' => e = .returned (.tuple #[.int .i64 (c.out p.1 x : Nat), .int .i64 (cel t p.2 x).f0, pval (nx2 c t p x)]) ∧ Below w.heap.size w w' := by
  have SC := Aside0.mk (fun W (hb : Below w.heap.size w W) => step_calls W c Ag Ao An Ai cg co cn ci p.1 x ok (hin.below hb) hp hx)
  have HR := Aside0.mk hR
  have HF := Aside0.mk hf
  obtain ⟨s, u⟩ := p
  dsimp only at hp hpt hxr hf SC HF
  show Calls Try.prog 64 #[_, _, .agg #[.int .i64 (s : Int), .int .i64 (u : Int)], _] w fun e w' => e = .returned (.tuple #[.int .i64 (c.out s x : Nat), .int .i64 (cel t u x).f0, .agg #[.int .i64 (c.nxt s x : Nat), .int .i64 ((cel t u x).f1.toNat : Nat)]]) ∧ Below w.heap.size w w'
  obtain ⟨f0, n1, hr⟩ : ∃ (f0 : Int) (n1 : Nat), cel t u x = ⟨f0, (n1 : Int)⟩ := ⟨(cel t u x).f0, (cel t u x).f1.toNat, by
    have h := HF.out
    generalize cel t u x = r at *
    obtain ⟨a, b⟩ := r
    simp only at h ⊢
    rw [Int.toNat_of_nonneg h]⟩
  have HRR := Aside0.mk hr
  rw [hr]
  dsimp only
  rw [Int.toNat_natCast]
  clear hr HF
  generalize c.out s x = ov at *
  generalize c.nxt s x = nv at *
  obtain ⟨ins, gs, outs, next, init⟩ := c
  dsimp only [Cir.V] at SC ⊢
  clear ok hin hR hp hx hf
  have FB := Aside0.mk (four_new w (Obj.cells #[.int .i64 (ins : Int), .slice Ag gs.length cg, .slice Ao outs.length co, .slice An next.length cn, .slice Ai init.length ci] 38) (Obj.cells #[.int .i64 I, .int .i64 O, .slice Ar t.length cr] 25) (Obj.cells #[.int .i64 (s : Int), .int .i64 (u : Int)] 69) (Obj.cells #[.int .i64 0, .int .i64 0] 69))
  go_enter Try.func64, Try.ntmps64
  go_upto_region 1 with (fail)
  generalize (((w.alloc (Obj.cells #[.int .i64 (ins : Int), .slice Ag gs.length cg, .slice Ao outs.length co, .slice An next.length cn, .slice Ai init.length ci] 38)).alloc (Obj.cells #[.int .i64 I, .int .i64 O, .slice Ar t.length cr] 25)).alloc (Obj.cells #[.int .i64 (s : Int), .int .i64 (u : Int)] 69)).alloc (Obj.cells #[.int .i64 0, .int .i64 0] 69) = w1 at *
  obtain ⟨hx1, hy1, hp1, hz1, hb1⟩ := FB.out
  have X1 := Aside0.mk hx1
  have Y1 := Aside0.mk hy1
  have P1 := Aside0.mk hp1
  have Z1 := Aside0.mk hz1
  have HB1 := Aside0.mk hb1
  clear FB hx1 hy1 hp1 hz1 hb1
  obtain ⟨q0, q1, q2, q3, q4⟩ := box5 X1.out
  have pp0 : w1.cell? ⟨w.heap.size + 2, 0, none⟩ = some (.int .i64 (s : Int)) := (blk_cell P1.out 0).trans rfl
  have CC := Aside0.mk (SC.out w1 HB1.out)
  go_wp2_with fail
  (with_reducible refine CC.out.mono ?_)
  rintro e w2 ⟨rfl, hb2⟩
  have Y2 := Aside0.mk (blk_below Y1.out hb2)
  have P2 := Aside0.mk (blk_below P1.out hb2)
  have Z2 := Aside0.mk (blk_below Z1.out hb2)
  have HB2 := Aside0.mk (HB1.out.trans (hb2.mono HB1.out.size))
  clear CC hb2 X1 Y1 P1 Z1 HB1 q0 q1 q2 q3 q4 SC pp0
  obtain ⟨p0, p1, p2⟩ := box3 Y2.out
  have pp1 : w2.cell? ⟨w.heap.size + 2, 1, none⟩ = some (.int .i64 (u : Int)) := (blk_cell P2.out 1).trans rfl
  obtain ⟨ad, A1, c1, e1, hx1, hl1, hi1⟩ := PL.at_L2 (Kd.C_below HR.out HB2.out) (u : Int) (by omega) (by omega)
  subst e1
  have hrow : PL.rd_L2 t (u : Int) = roww t u := rfl
  rw [Int.toNat_natCast, hrow] at hx1
  rw [hrow] at hl1 hi1
  obtain ⟨ad2, e2, g0, g1⟩ := PL.at_T77 hi1 (x : Int) (by omega) (by omega)
  subst e2
  rw [Int.toNat_natCast] at g0 g1
  have hrd : PL.rd_T77 (roww t u) (x : Int) = cel t u x := by unfold PL.rd_T77 cel; rw [Int.toNat_natCast]
  rw [hrd] at g0 g1
  clear hi1 hrow hrd
  rw [HRR.out] at g0 g1
  dsimp only at g0 g1
  generalize roww t u = row at *
  go_upto_region 3 with (fail)
  have Z3 := Aside0.mk (blk_alloc Z2.out (Obj.cells #[.int .i64 f0, .int .i64 (n1 : Int)] 77))
  have R3 := Aside0.mk (blk_new w2 (Obj.cells #[.int .i64 f0, .int .i64 (n1 : Int)] 77))
  have HB3 := Aside0.mk (below_alloc HB2.out (Obj.cells #[.int .i64 f0, .int .i64 (n1 : Int)] 77))
  clear Y2 P2 Z2 HB2 p0 p1 p2 pp1 g0 g1 hx1
  generalize w2.alloc (Obj.cells #[.int .i64 f0, .int .i64 (n1 : Int)] 77) = w3 at *
  have r0 : w3.cell? ⟨w2.heap.size, 0, none⟩ = some (.int .i64 f0) := (blk_cell R3.out 0).trans rfl
  have r1 : w3.cell? ⟨w2.heap.size, 1, none⟩ = some (.int .i64 (n1 : Int)) := (blk_cell R3.out 1).trans rfl
  go_still_tail 9, (by kernel_rfl)
  change wpList _ _ _ _ _ w3.drew
  have Z4 := Aside0.mk (blk_drew Z3.out)
  have HB4 := Aside0.mk (below_drew HB3.out)
  clear r0 r1 Z3 HB3 R3
  generalize w3.drew = w4 at *
  have z0 : w4.cell? ⟨w.heap.size + 3, 0, none⟩ = some (.int .i64 0) := (blk_cell Z4.out 0).trans rfl
  have zf0 : w4.frozen? ⟨w.heap.size + 3, 0, none⟩ = false := blk_frozen Z4.out 0
  have Z5 : (w4.setCell ⟨w.heap.size + 3, 0, none⟩ (.int .i64 (nv : Int))).heap[w.heap.size + 3]? = some (.cells #[.int .i64 (nv : Int), .int .i64 0] 69 (0, 0)) := blk_put Z4.out 0 _ rfl
  have z1 : (w4.setCell ⟨w.heap.size + 3, 0, none⟩ (.int .i64 (nv : Int))).cell? ⟨w.heap.size + 3, 1, none⟩ = some (.int .i64 0) := (blk_cell Z5 1).trans rfl
  have zf1 : (w4.setCell ⟨w.heap.size + 3, 0, none⟩ (.int .i64 (nv : Int))).frozen? ⟨w.heap.size + 3, 1, none⟩ = false := blk_frozen Z5 1
  have Z6 := Aside0.mk (show ((w4.setCell ⟨w.heap.size + 3, 0, none⟩ (.int .i64 (nv : Int))).setCell ⟨w.heap.size + 3, 1, none⟩ (.int .i64 (n1 : Int))).heap[w.heap.size + 3]? = some (.cells #[.int .i64 (nv : Int), .int .i64 (n1 : Int)] 69 (0, 0)) from blk_put Z5 1 _ rfl)
  clear Z5
  go_wp2
  refine bodyPost_ret (results_ttc (fn := Try.f64) rfl _ _ (w.heap.size + 3) 69 #[.int .i64 (nv : Int), .int .i64 (n1 : Int)] (0, 0) _ rfl Z6.out Try.underlying69 rfl (by kernel_rfl)) rfl ?_
  exact ⟨rfl, (HB4.out.setCell (by show w.heap.size ≤ w.heap.size + 3; omega) _).setCell (by show w.heap.size ≤ w.heap.size + 3; omega) _⟩
end Go.Proofs.Ytaalafnkglbcpaa.SY
end

/- slices.Clone of numbers, walked by hand: the same numbers in a row of its own. -/
section
namespace Go.Proofs.Ytaalafnkglbcpaa.PL
open Go.RowKit Go.Proofs.YtaalafnkglbcpaaW.PrintWords Go.Proofs.YtaalafnkglbcpaaW.PrintLast Go.Proofs.YtaalafnkglbcpaaW.PrintMore
set_option linter.unusedVariables false

/-- A literal without elements. -/
theorem R_empty {α : Type} (d : Kd α) (e : Nat) (W : World) (base : Nat) (hb : base ≤ W.heap.size) : d.R e (W.alloc (.cells #[] e)) base (fun _ => True) (.slice (some ⟨W.heap.size, 0, none⟩) 0 0) [] :=
  ⟨fun _ _ => trivial, [], World.ownsRow_lit (base := base) (e := e) (size := d.sz) W #[] 0 hb (by simp [maxLen]) (by simp), Reps.none _ _⟩
def clone_I.f (l0 : List Int) : Option (List Int) := if l0.length ≤ 1000000 then some l0 else none
set_option maxHeartbeats 2000000 in
set_option maxRecDepth 100000 in
theorem clone_I.calls (A0 : Option Addr) (c0 : Nat) (l0 : List (Int)) (r : List (Int)) (w : World) (hr0 : Kd.C (Kd.int .i64) w A0 l0.length l0) (hc0 : l0.length ≤ c0) (h : clone_I.f l0 = some r) :
    Calls Try.prog 56 #[.slice A0 l0.length c0] w fun e w' => ∃ v0_ : Value, e = .returned (v0_) ∧ Kd.R (Kd.int .i64) 3 w' w.heap.size (fun _ => True) v0_ r ∧ Below w.heap.size w w' := by
  unfold clone_I.f at h
  split at h
  · rename_i h1
    obtain rfl := Option.some.inj h
    clear h
    have HR0 := Aside0.mk hr0
    have HC0 := Aside0.mk hc0
    have HL := Aside0.mk h1
    clear hr0 hc0 h1
    cases A0 with
    | none =>
      have h0 : l0 = [] := by
        cases l0 with
        | nil => rfl
        | cons x t => obtain ⟨ad, c, e, _⟩ := Kd.C_get HR0.out (0 : Int) 0 (by omega) (by simp); cases e
      subst h0
      have hq := fun (W : World) => Lib.run_eql_slice_nil (P := Try.prog) W 22 3 none 0 c0 0 0 Try.underlying22
      go_enter Try.func56, Try.ntmps56
      go_wp2
      go_ret
      exact ⟨_, rfl, Kd.R_nil _ _ _ _ _, Below.refl _ _⟩
    | some ad =>
      have hq := fun (W : World) => Lib.run_eql_slice_nil (P := Try.prog) W 22 3 (some ad) l0.length c0 0 0 Try.underlying22
      go_enter Try.func56, Try.ntmps56
      go_wp2_with ((with_reducible refine gate_builtin (b := .append) (xs := #[.tmp 5, .tmp 6]) rfl ?_); at_builtin; refine Kd.R_append_rows (Kd.int .i64) (w0 := w) w.heap.size rfl (.tmp 5) (.tmp 6) 22 3 (.int .i64 0) 8 rfl Try.underlying22 info3 rfl (by decide) (by omega) (.slice (some ⟨w.heap.size, 0, none⟩) 0 0) [] l0 _ _ _ (fun _ => True) (fun _ => False) rfl rfl ?aO ?aR (fun _ _ h => h) (fun _ h => h.elim) ?aF ?aB ?aS ?aL ?_; (case aO => exact R_empty _ _ _ _ (Nat.le_refl _)); (case aR => exact Kd.C_alloc HR0.out _); (case aF => exact (fun _ _ => trivial)); (case aB => exact below_alloc (Below.refl _ _) _); (case aS => simp); (case aL => have := HL.out; simp; omega); intro v7 w7 ho hb hg hat; have HR7 := Aside0.mk ho; have HB7 := Aside0.mk hb; clear ho hb hg hat)
      go_ret
      exact ⟨_, rfl, by simpa using HR7.out, HB7.out⟩
  · cases h
end Go.Proofs.Ytaalafnkglbcpaa.PL
end

/- equal.Find (32), walked by hand: inputs that tell a circuit from a table, if there are any. Own text of this claim. -/
section
namespace Go.Proofs.Ytaalafnkglbcpaa.SY
open Go.RowKit Go.WideMaps Go.Maps Go.Proofs.YtaalafnkglbcpaaW.PrintWords Go.Proofs.YtaalafnkglbcpaaW.PrintLast Go.Proofs.YtaalafnkglbcpaaW.PrintMore
open Go.Proofs.Ytaalafnkglbcpaa.PL (S77 z77 k77 Tab TabR roww cel OKT wpList_insert_own info3)
set_option linter.unusedVariables false
set_option linter.unusedSimpArgs false
/-- What equal.Find gives. -/
def FindPost (c : Cir) (t : Tab) (w : World) (e : Ending) (w' : World) : Prop :=
  ∃ (v : Value) (b : Bool), e = .returned (.tuple #[v, .bool b, .int .i64 0]) ∧ Below w.heap.size w w' ∧
    ((b = false ∧ v = .slice none 0 0 ∧ NoneTells c t) ∨ (b = true ∧ ∃ (l : List Nat) (A : Option Addr) (cap : Nat), v = .slice A l.length cap ∧ l.length ≤ cap ∧ Kd.C (Kd.int .i64) w' A l.length (natsI l) ∧ Tells c t l ∧ l.length ≤ 49 ∧ (l.length = 1 ∨ ∀ a, a < 2 ^ c.ins → Eq2 c t (c.start, 0) a)))
structure FInv (w1 W : World) (vs : List Value) (ws : List (List Nat)) (m : Nat) (D : DataW Value) (v10 : Value) (todo : List P2) : Prop where
  hb : Below w1.heap.size w1 W
  om : W.ownsMap Try.prog 69 heldE (w1.heap.size + 1) m D
  td : Kd.Q k69 69 W (w1.heap.size + 2) (fun _ => True) v10 todo
  wr : ∀ k, k < vs.length → Kd.R (Kd.int .i64) 3 W (w1.heap.size + 2) Yes (vs.getD k undef) (natsI (ws.getD k []))
section
variable {w1 W W' : World} {vs : List Value} {ws : List (List Nat)} {m m' : Nat} {D D' : DataW Value} {v10 v10' v : Value} {todo todo' : List P2} {x : List Nat}
theorem FInv.size (h : FInv w1 W vs ws m D v10 todo) : w1.heap.size + 2 ≤ W.heap.size := by have := h.om.lt; omega
theorem owns_below' {k n b : Nat} {R : Value → Option (DataW Value × List MemPlace)} (h : W.ownsMap Try.prog k R b n D) (hb : Below W.heap.size W W') : W'.ownsMap Try.prog k R b n D := by
  have hl := h.lt
  obtain ⟨es, clock, h1, h2⟩ := h
  exact ⟨es, clock, (hb.block b hl).trans h1, h2⟩
theorem FInv.below (h : FInv w1 W vs ws m D v10 todo) (hb : Below W.heap.size W W') : FInv w1 W' vs ws m D v10 todo :=
  ⟨h.hb.trans (hb.mono h.hb.size), owns_below' h.om hb, Kd.Q_below h.td hb, fun k hk => Kd.R_below (h.wr k hk) hb⟩
theorem FInv.popTodo (h : FInv w1 W vs ws m D v10 todo) (hq : Kd.Q k69 69 W (w1.heap.size + 2) (fun _ => True) v10' todo') : FInv w1 W vs ws m D v10' todo' := ⟨h.hb, h.om, hq, h.wr⟩
theorem FInv.addTodo (h : FInv w1 W vs ws m D v10 todo) (hq : Kd.Q k69 69 W' (w1.heap.size + 2) (fun _ => True) v10' todo') (hg : W.grownBy W' v10.ownBlock) : FInv w1 W' vs ws m D v10' todo' := by
  have hz := h.size
  have lo : ∀ k, v10.ownBlock = some k → w1.heap.size + 2 ≤ k := fun k hk => Kd.Q_base h.td k hk
  exact ⟨h.hb.grown hg h.hb.size (fun k hk => by have := lo k hk; omega), h.om.kept hg (fun e => by have := lo _ e.symm; omega), hq,
    fun k hk => Kd.R_over' (h.wr k hk) (Kd.Q_typed h.td) (by intro q hq; simp [Kd.int, Kd.scalar] at hq; omega) hg⟩
theorem FInv.putMap (h : FInv w1 W vs ws m D v10 todo) (hv : Kd.R (Kd.int .i64) 3 W (w1.heap.size + 2) Yes v (natsI x)) (hl : ws.length = vs.length) (ho : W'.ownsMap Try.prog 69 heldE (w1.heap.size + 1) m' D') (hg : W.grownBy W' (some (w1.heap.size + 1))) : FInv w1 W' (vs ++ [v]) (ws ++ [x]) m' D' v10 todo := by
  have hz := h.size
  refine ⟨h.hb.grown hg h.hb.size (fun k hk => by injection hk with hk; omega), ho, Kd.Q_grown1 h.td rfl hg (fun e => by have := Kd.Q_base h.td _ e.symm; omega), fun k hk => ?_⟩
  rw [List.length_append, List.length_singleton] at hk
  rcases Nat.lt_or_ge k vs.length with q | q
  · rw [getD_app_lt _ _ _ q, getD_app_lt _ _ _ (by omega)]
    exact Kd.R_grown1 (h.wr k q) rfl hg (fun e => by have := Kd.R_base (h.wr k q) _ e.symm; omega)
  · have e : k = vs.length := by omega
    subst e
    rw [getD_app_at, ← hl, getD_app_at]
    exact Kd.R_grown1 hv rfl hg (fun e => by have := Kd.R_base hv _ e.symm; omega)
end
theorem own_ne_step {tb n : Nat} {v v' : Value} (h : some tb ≠ v.ownBlock) (hat : v'.ownBlock = v.ownBlock ∨ ∃ b, v'.ownBlock = some b ∧ n ≤ b) (hl : tb < n) : some tb ≠ v'.ownBlock := by
  rcases hat with e | ⟨b, e, hb⟩
  · rw [e]; exact h
  · rw [e]; intro h2; injection h2 with h2; omega
theorem zero22 (w : World) : (zeroValue 22).run Try.prog w = .ok (.slice none 0 0) w := by kernel_rfl
set_option maxHeartbeats 8000000 in
set_option maxRecDepth 100000 in
theorem find_calls (w : World) (c : Cir) (Ag Ao An Ai : Option Addr) (cg co cn ci : Nat) (Ar : Option Addr) (cr : Nat) (t : Tab) (ok : c.Ok) (hin : c.In w Ag Ao An Ai cg co cn ci) (hT : OKT (c.ins : Int) (c.outs.length : Int) t) (hR : Kd.C (Kd.slice 77 k77) w Ar t.length t) (hcr : t.length ≤ cr) (hn3 : c.next.length ≤ 3) (h6 : t.length ≤ 6) :
    Calls Try.prog 32 #[c.V Ag Ao An Ai cg co cn ci, .agg #[.int .i64 (c.ins : Int), .int .i64 (c.outs.length : Int), .slice Ar t.length cr]] w (FindPost c t w) := by
  have EC := Aside0.mk (fun W (hb : Below w.heap.size w W) => echeck_calls W c Ag Ao An Ai cg co cn ci Ar cr t ok (hin.below hb) hT (Kd.C_below hR hb) hcr)
  have SC := Aside0.mk (fun W (hb : Below w.heap.size w W) => start_calls W c Ag Ao An Ai cg co cn ci ok (hin.below hb))
  have hN := TabN.of hT
  have hi4 : c.ins ≤ 4 := by have := hT.i1; omega
  obtain ⟨M, hM⟩ : ∃ M, 2 ^ c.ins = M := ⟨_, rfl⟩
  have hMle : M ≤ 16 := by
    rw [← hM]; exact Nat.le_trans (Nat.pow_le_pow_right (by omega) hi4) (by decide)
  have HM2 : Aside0 (wrap64 ((2 : Int) ^ c.ins) = (M : Int)) := ⟨by
    rw [show (2 : Int) ^ c.ins = ((2 ^ c.ins : Nat) : Int) from by simp, hM]
    unfold wrap64; omega⟩
  have hnn : 2 ^ c.next.length ≤ 8 := Nat.le_trans (Nat.pow_le_pow_right (by omega) hn3) (by decide)
  have NXB : Aside0 (∀ (p : P2) (x : Nat), p.2 < t.length → x < M → (nx2 c t p x).1 < 2 ^ c.next.length ∧ (nx2 c t p x).2 < t.length) := ⟨fun p x hp hx => by
    refine ⟨?_, (hN.ok p.2 x hp (by omega)).2.2.2⟩
    show bitsN (c.next.map (val c.gs p.1 x)) < _
    have h := bitsN_lt (c.next.map (val c.gs p.1 x))
    rwa [List.length_map] at h⟩
  have ST := Aside0.mk (fun W (hb : Below w.heap.size w W) (p : P2) (x : Nat) (h1 : p.1 < 2 ^ c.next.length) (h2 : p.2 < t.length) (hx : x < M) => estep_calls W c Ag Ao An Ai cg co cn ci Ar cr (c.ins : Int) (c.outs.length : Int) t p x ok (hin.below hb) (Kd.C_below hR hb) hcr
    (Nat.lt_of_lt_of_le h1 (Nat.le_trans hnn (by decide))) (Nat.lt_of_lt_of_le hx (Nat.le_trans hMle (by decide))) h2 (by rw [hN.row _ h2, hM]; exact hx) (hN.ok p.2 x h2 (by omega)).2.2.1)
  have FS0 : Aside0 (FS c t 0 [(c.start, 0)] [[]]) := ⟨FS.start ok.il hT.n1⟩
  obtain ⟨NB, hNB⟩ : ∃ NB, 2 ^ c.next.length * t.length = NB := ⟨_, rfl⟩
  have hNBle : NB ≤ 48 := by
    rw [← hNB]; exact Nat.le_trans (Nat.mul_le_mul hnn h6) (by decide)
  have CARD : Aside0 (∀ i reps ws, FS c t i reps ws → reps.length ≤ NB) := ⟨fun i reps ws h => by rw [← hNB]; exact h.card⟩
  have hs0 : c.start ≤ 100000 := by
    have := (FS0.out.bd (c.start, 0) (by simp)).1
    simp only at this
    omega
  have SMALL : Aside0 (∀ (i : Nat) (reps : List P2) (ws : List (List Nat)), FS c t i reps ws → ∀ p ∈ reps, p.1 ≤ 100000 ∧ p.2 ≤ 100000) := ⟨fun i reps ws h p hp => by have := h.bd p hp; omega⟩
  have HMM := Aside0.mk hM
  have NN := Aside0.mk hnn
  clear ok hin hT hR hN hnn hNB hM
  dsimp only [Cir.V] at EC SC ST ⊢
  have X1 := Aside0.mk (blk_alloc (blk_new w (Obj.cells #[.int .i64 (c.ins : Int), .slice Ag c.gs.length cg, .slice Ao c.outs.length co, .slice An c.next.length cn, .slice Ai c.init.length ci] 38)) (Obj.cells #[.int .i64 (c.ins : Int), .int .i64 (c.outs.length : Int), .slice Ar t.length cr] 25))
  have Y1 := Aside0.mk (blk_next w (Obj.cells #[.int .i64 (c.ins : Int), .slice Ag c.gs.length cg, .slice Ao c.outs.length co, .slice An c.next.length cn, .slice Ai c.init.length ci] 38) (Obj.cells #[.int .i64 (c.ins : Int), .int .i64 (c.outs.length : Int), .slice Ar t.length cr] 25))
  have HB1 := Aside0.mk (below_alloc (below_alloc (Below.refl w.heap.size w) (Obj.cells #[.int .i64 (c.ins : Int), .slice Ag c.gs.length cg, .slice Ao c.outs.length co, .slice An c.next.length cn, .slice Ai c.init.length ci] 38)) (Obj.cells #[.int .i64 (c.ins : Int), .int .i64 (c.outs.length : Int), .slice Ar t.length cr] 25))
  go_enter Try.func32, Try.ntmps32
  go_upto_region 1 with (fail)
  generalize (w.alloc (Obj.cells #[.int .i64 (c.ins : Int), .slice Ag c.gs.length cg, .slice Ao c.outs.length co, .slice An c.next.length cn, .slice Ai c.init.length ci] 38)).alloc (Obj.cells #[.int .i64 (c.ins : Int), .int .i64 (c.outs.length : Int), .slice Ar t.length cr] 25) = w2 at *
  obtain ⟨q0, q1, q2, q3, q4⟩ := box5 X1.out
  obtain ⟨p0, p1, p2⟩ := box3 Y1.out
  have CC := Aside0.mk (EC.out w2 HB1.out)
  go_wp2_with fail
  (with_reducible refine CC.out.mono ?_)
  rintro e w3 ⟨rfl, hb3⟩
  have X3 := Aside0.mk (blk_below X1.out hb3)
  have Y3 := Aside0.mk (blk_below Y1.out hb3)
  have HB3 := Aside0.mk (HB1.out.trans (hb3.mono HB1.out.size))
  clear CC hb3 X1 Y1 HB1 q0 q1 q2 q3 q4 p0 p1 p2 EC
  obtain ⟨q0, q1, q2, q3, q4⟩ := box5 X3.out
  have CC := Aside0.mk (SC.out w3 HB3.out)
  go_wp2_with fail
  (with_reducible refine CC.out.mono ?_)
  rintro e w1 ⟨rfl, hb1⟩
  have X4 := Aside0.mk (blk_below X3.out hb1)
  have Y4 := Aside0.mk (blk_below Y3.out hb1)
  have HB4 := Aside0.mk (HB3.out.trans (hb1.mono HB3.out.size))
  clear CC hb1 X3 Y3 HB3 q0 q1 q2 q3 q4 SC
  generalize hs00 : c.start = s0 at *
  have HS0 := Aside0.mk hs00
  clear hs00
  have hmm := @run_makeMap Try.prog
  go_upto_region 5 with (fail)
  have B8 := Aside0.mk (blk_new w1 (Obj.cells #[.int .i64 (s0 : Int), .int .i64 0] 69))
  have HBo := Aside0.mk (below_alloc (Below.refl w1.heap.size w1) (Obj.cells #[.int .i64 (s0 : Int), .int .i64 0] 69))
  have hz1 : (w1.alloc (Obj.cells #[.int .i64 (s0 : Int), .int .i64 0] 69)).heap.size = w1.heap.size + 1 := by simp
  generalize w1.alloc (Obj.cells #[.int .i64 (s0 : Int), .int .i64 0] 69) = w5 at *
  have OM0 : Aside0 ((w5.alloc (Obj.map #[] 0)).ownsMap Try.prog 69 heldE w5.heap.size 0 (.map [])) := ⟨World.ownsMap_made w5 _ _ _⟩
  have B8' := Aside0.mk (blk_alloc B8.out (Obj.map #[] 0))
  have HBo' := Aside0.mk (below_alloc HBo.out (Obj.map #[] 0))
  rw [hz1] at OM0
  obtain ⟨w6, hw6⟩ : ∃ w6, w5.alloc (Obj.map #[] 0) = w6 := ⟨_, rfl⟩
  rw [hw6] at OM0 B8' HBo'
  have q0 : w6.cell? ⟨w1.heap.size, 0, none⟩ = some (.int .i64 (s0 : Int)) := (blk_cell B8'.out 0).trans rfl
  have q1 : w6.cell? ⟨w1.heap.size, 1, none⟩ = some (.int .i64 0) := (blk_cell B8'.out 1).trans rfl
  have hky := key_p (s0, 0) hs0 (by show 0 ≤ 100000; omega)
  have HKY := Aside0.mk hky
  have HKL := Aside0.mk (lawP.key hky)
  clear hky
  go_upto_region 6 with (first
    | (refine wpList_insert_own _ rfl (.tmp 28) (.tmp 29) (.const (.slice none 0 0)) 106 rfl 69 22 lawP Try.underlying106 heldE (w1.heap.size + 1) 0 (.map []) (by rw [← hz1]; rfl) OM0.out (by unfold maxLen; omega) (.agg #[.int .i64 (s0 : Int), .int .i64 0]) (.slice none 0 0) _ rfl rfl HKY.out (.held (.slice none 0 0)) [] rfl ?_; intro w7 hown7 hgrow7; have OM7 := Aside0.mk hown7; have HB7 : Aside0 (Below w1.heap.size w1 w7) := ⟨HBo'.out.grown hgrow7 HBo'.out.size (fun k hk => by cases hk; omega)⟩; have B87 := Aside0.mk (blk_grown B8'.out hgrow7 (by simp)); clear hown7 hgrow7 q0 q1))
  clear hw6 B8 HBo hz1 HBo' B8' OM0
  have HZ7 : Aside0 (w1.heap.size + 2 ≤ w7.heap.size) := ⟨by have := OM7.out.lt; omega⟩
  have q0 : w7.cell? ⟨w1.heap.size, 0, none⟩ = some (.int .i64 (s0 : Int)) := (blk_cell B87.out 0).trans rfl
  have q1 : w7.cell? ⟨w1.heap.size, 1, none⟩ = some (.int .i64 0) := (blk_cell B87.out 1).trans rfl
  go_wp2_with (first
    | ((with_reducible refine gate_dst (N := 32) rfl ?_); refine Kd.R_lit k69 (w0 := w7) w7.heap.size 69 ?hg (N := 32) ?hd (xs := ([(s0, 0)] : List P2)) (inner := [.int .i64 (s0 : Int), .int .i64 0]) (ok := fun _ => True) (okp := fun _ => True) ?hr ?hp (fun _ hk => hk) trivial (Below.refl _ _) (Nat.le_refl _) (by simp) ?_; (case hd => rfl); (case hg => rfl); (case hr => first | (go_simp; done) | (go_simp; rfl)); (case hp => exact (Reps.c2 (k69_mkM _ _ _ (s0, 0)) (Reps.none _ _))); intro v8 w8 ho hb hg_ hnew_; have HQ8 := Aside0.mk ho; have HB8 := Aside0.mk hb; clear ho hb hg_ hnew_))
  have MV0 : Aside0 (MapV (DataW.put (.map []) (litP (s0, 0)) (.held (.slice none 0 0))) ([(s0, 0)].map litP) [.slice none 0 0]) := ⟨MapV.start.put (k := litP (s0, 0)) HKL.out (by simp) _⟩
  have I0 : Aside0 (FInv w1 w8 [.slice none 0 0] [[]] 1 (DataW.put (.map []) (litP (s0, 0)) (.held (.slice none 0 0))) v8 ([(s0, 0)].drop 0)) := ⟨{
    hb := HB7.out.trans (HB8.out.mono (by have := HZ7.out; omega)), om := owns_below' OM7.out HB8.out, td := Kd.Q_of_R (Kd.R_lower HQ8.out HZ7.out), wr := fun k hk => by
      have e : k = 0 := by simp at hk; omega
      subst e; exact Kd.R_nil _ _ _ _ _ }⟩
  clear HZ7 OM7 B87 HB7 HB8 HQ8 q0 q1 HKY HKL
  go_loopg [10] (NB + 1) (fun kq v10 wr => ∃ (i m : Nat) (reps : List P2) (ws : List (List Nat)) (vs : List Value) (D : DataW Value), kq + i = NB + 1 ∧ m ≤ reps.length ∧ Aside0 (FInv w1 wr vs ws m D v10 (reps.drop i)) ∧ Aside0 (MapV D (reps.map litP) vs) ∧ Aside0 (FS c t i reps ws)) 
  case atStart => exact ⟨0, 1, [(s0, 0)], [[]], [.slice none 0 0], _, by omega, by simp, I0, MV0, FS0⟩
  case round =>
    obtain ⟨i, m, reps, ws, vs, D, hki, hm, HM, MV, HF⟩ := hrel
    obtain ⟨w9, rfl⟩ : ∃ w9 : World, w9 = wr := ⟨_, rfl⟩
    clear I0 MV0 FS0
    have hrl := CARD.out _ _ _ HF.out
    have hir := HF.out.le
    obtain ⟨A8, q8, hv8, hq8⟩ := Kd.Q_slice HM.out.td
    have hl8 : (reps.drop i).length = reps.length - i := by rw [List.length_drop]
    rw [hl8] at hv8
    subst hv8
    by_cases hlt : i < reps.length
    · obtain ⟨k1, hk1⟩ : ∃ k1, gk = k1 + 1 := ⟨gk - 1, by omega⟩
      obtain ⟨g8, o8, q88, hv8, _⟩ := Kd.Q_form HM.out.td (by rw [hl8]; omega)
      rw [hl8] at hv8
      injection hv8 with e8 e87 e88
      clear e87
      subst e8
      subst e88
      have hc8 := (Kd.Q_reads' HM.out.td).2.2
      obtain ⟨a8, e8, hx0, hx1⟩ := at_P2 hc8 0 (by rw [hl8]; omega)
      obtain rfl : a8 = ⟨g8, o8, none⟩ := by injection e8 with e8; exact e8.symm
      rw [show (reps.drop i).getD 0 (0, 0) = reps.getD i (0, 0) from by rw [List.getD_eq_getElem?_getD, List.getElem?_drop, Nat.add_zero, ← List.getD_eq_getElem?_getD]] at hx0 hx1
      have hpt := HF.out.bd _ (getD_mem2 (z := (0, 0)) hlt)
      generalize hpp : reps.getD i (0, 0) = p at *
      have HP := Aside0.mk hpp
      clear hpp e8
      obtain ⟨s, u⟩ := p
      have HPT := Aside0.mk hpt
      dsimp only at hx0 hx1
      have y0 : w9.cell? ⟨g8, o8, none⟩ = some (.int .i64 (s : Int)) := hx0
      have y1 : w9.cell? ⟨g8, o8 + 1, none⟩ = some (.int .i64 (u : Int)) := hx1
      have b1 : 0 < ((reps.length - i : Nat) : Int) := by omega
      have b1n : 0 < reps.length - i := by omega
      have b1d : decide (0 < reps.length - i) = true := decide_eq_true b1n
      clear hc8 hx0 hx1 hpt
      go_upto_region 9 with (fail)
      obtain ⟨vq, hvq⟩ : ∃ vq, Value.slice (if q8 = 1 then some (⟨g8, o8, none⟩ : Addr) else (some (⟨g8, o8, none⟩ : Addr)).map (·.add (1 * 2))) (reps.length - i - 1) (q8 - 1) = vq := ⟨_, rfl⟩
      have hq9 : Kd.Q k69 69 w9 (w1.heap.size + 2) (fun _ => True) vq (reps.drop (i + 1)) := by
        have h := Kd.Q_drop HM.out.td (k := 1) (by rw [hl8]; omega)
        rw [List.drop_drop] at h
        rw [← hvq]; exact h
      have TN : Aside0 (some w9.heap.size ≠ vq.ownBlock) := ⟨fun e => by have := Kd.Q_lt hq9 _ e.symm; omega⟩
      have HMp := Aside0.mk ((HM.out.popTodo hq9).below (below_alloc (Below.refl w9.heap.size w9) (Obj.cells #[.int .i64 (s : Int), .int .i64 (u : Int)] 69)))
      have BP := Aside0.mk (blk_new w9 (Obj.cells #[.int .i64 (s : Int), .int .i64 (u : Int)] 69))
      have TL : Aside0 (w1.heap.size + 2 ≤ w9.heap.size) := ⟨HM.out.size⟩
      have hcut : ∀ W : World, (Instr.slice 65 (.slice (some ⟨g8, o8, none⟩) (reps.length - i) q8) (some (.int .i64 1)) none none).run Try.prog W = .ok vq W := fun W => by
        obtain ⟨i0, hi0, hi1⟩ := Option.map_eq_some_iff.1 info69
        simp only [Prod.mk.injEq] at hi1
        rw [← hvq]
        exact cut_from (P := Try.prog) 65 69 .i64 Try.underlying65 hi0 2 hi1.2.1 (some ⟨g8, o8, none⟩) (reps.length - i) q8 1 (by decide) (by omega) W
      clear hvq hq9 HM y0 y1 hl8 hq8
      generalize w9.alloc (Obj.cells #[.int .i64 (s : Int), .int .i64 (u : Int)] 69) = w10 at *
      obtain ⟨tb, htb⟩ : ∃ tb, w9.heap.size = tb := ⟨_, rfl⟩
      rw [htb] at TN BP TL ⊢
      clear htb
      have X10 := Aside0.mk (blk_below X4.out HMp.out.hb)
      obtain ⟨q0, q1, q2, q3, q4⟩ := box5 X10.out
      go_upto_region 10 with (fail)
      clear hcut b1 b1n b1d
      go_wp2_with fail
      rw [HM2.out]
      clear q0 q1 q2 q3 q4 X10
      go_loopw [10, 44] (fun v10 v44 wr => ∃ (j m : Nat) (reps' : List P2) (ws' : List (List Nat)) (vs' : List Value) (D : DataW Value), j ≤ M ∧ v44 = .int .i64 (j : Int) ∧ i < reps'.length ∧ m ≤ reps'.length ∧ Aside0 (reps'.getD i (0, 0) = (s, u)) ∧ Aside0 (FInv w1 wr vs' ws' m D v10 (reps'.drop (i + 1))) ∧ Aside0 (MapV D (reps'.map litP) vs') ∧ Aside0 (FS c t i reps' ws') ∧ Aside0 (∀ x, x < j → Eq2 c t (s, u) x ∧ nx2 c t (s, u) x ∈ reps') ∧ Aside0 (wr.heap[tb]? = some (Obj.cells #[.int .i64 (s : Int), .int .i64 (u : Int)] 69 (0, 0))) ∧ Aside0 (some tb ≠ v10.ownBlock)) (fun _ v44 _ => M - (intOf v44).toNat)
      case atStart => exact ⟨0, m, reps, ws, vs, D, by omega, rfl, hlt, hm, HP, HMp, MV, HF, ⟨fun x hx => by omega⟩, BP, TN⟩
      case round =>
        clear HMp MV HF BP TN hm hrl HP hir
        obtain ⟨j, m, reps', ws', vs', D, hj, rfl, hir, hm, HP, HM, MV, HF, HD, BP, TN⟩ := hrel
        obtain ⟨w11, rfl⟩ : ∃ w11 : World, w11 = wr := ⟨_, rfl⟩
        have hrl := CARD.out _ _ _ HF.out
        by_cases hjl : j < M
        · have HB11 := Aside0.mk (HB4.out.trans (HM.out.hb.mono HB4.out.size))
          have X11 := Aside0.mk (blk_below X4.out HM.out.hb)
          have Y11 := Aside0.mk (blk_below Y4.out HM.out.hb)
          obtain ⟨q0, q1, q2, q3, q4⟩ := box5 X11.out
          obtain ⟨p0, p1, p2⟩ := box3 Y11.out
          have r0 : w11.cell? ⟨tb, 0, none⟩ = some (.int .i64 (s : Int)) := (blk_cell BP.out 0).trans rfl
          have r1 : w11.cell? ⟨tb, 1, none⟩ = some (.int .i64 (u : Int)) := (blk_cell BP.out 1).trans rfl
          have ES := Aside0.mk (ST.out w11 HB11.out (s, u) j HPT.out.1 HPT.out.2 hjl)
          have NB2 := NXB.out (s, u) j HPT.out.2 hjl
          obtain ⟨⟨a, b⟩, hq⟩ : ∃ q, nx2 c t (s, u) j = q := ⟨_, rfl⟩
          rw [hq] at ES NB2
          have HQ := Aside0.mk hq
          obtain ⟨ov, hov⟩ : ∃ ov, c.out s j = ov := ⟨_, rfl⟩
          obtain ⟨fv, hfv⟩ : ∃ fv, (cel t u j).f0 = fv := ⟨_, rfl⟩
          have EQI : Aside0 (Eq2 c t (s, u) j ↔ (ov : Int) = fv) := ⟨by unfold Eq2; rw [← hov, ← hfv]⟩
          dsimp only [pval] at ES
          rw [hov, hfv] at ES
          clear hq hov hfv
          go_wp2_with fail
          (with_reducible refine ES.out.mono ?_)
          rintro e w12 ⟨rfl, hb⟩
          have BP12 := Aside0.mk (blk_alloc (blk_below BP.out hb) (Obj.cells #[.int .i64 (a : Int), .int .i64 (b : Int)] 69))
          have BQ12 := Aside0.mk (blk_new w12 (Obj.cells #[.int .i64 (a : Int), .int .i64 (b : Int)] 69))
          have HM12 := Aside0.mk ((HM.out.below hb).below (below_alloc (Below.refl w12.heap.size w12) (Obj.cells #[.int .i64 (a : Int), .int .i64 (b : Int)] 69)))
          have TQ : Aside0 (some w12.heap.size ≠ u10.ownBlock ∧ w1.heap.size + 2 ≤ w12.heap.size) := ⟨fun e => by have := Kd.Q_lt HM.out.td _ e.symm; have := hb.size; omega, by have := HM.out.size; have := hb.size; omega⟩
          clear ES hb HM BP X11 Y11 HB11 q0 q1 q2 q3 q4 p0 p1 p2 r0 r1
          go_upto_region 14 with (fail)
          generalize w12.alloc (Obj.cells #[.int .i64 (a : Int), .int .i64 (b : Int)] 69) = w13 at *
          obtain ⟨tq, htq⟩ : ∃ tq, w12.heap.size = tq := ⟨_, rfl⟩
          rw [htq] at BQ12 TQ ⊢
          clear htq
          have r0 : w13.cell? ⟨tb, 0, none⟩ = some (.int .i64 (s : Int)) := (blk_cell BP12.out 0).trans rfl
          have r1 : w13.cell? ⟨tb, 1, none⟩ = some (.int .i64 (u : Int)) := (blk_cell BP12.out 1).trans rfl
          have hvl : i < vs'.length := by rw [MV.out.len, List.length_map]; exact hir
          have hR := HM12.out.wr i hvl
          obtain ⟨A3, c3, hv3, hlc3, hC3⟩ := Kd.R_reads hR
          have hwl := HF.out.wl i hir
          obtain ⟨wd, hwd⟩ : ∃ wd, ws'.getD i [] = wd := ⟨_, rfl⟩
          rw [hwd] at hC3 hlc3 hv3 hwl
          have HWD := Aside0.mk hwd
          have hsm := SMALL.out _ _ _ HF.out (s, u) (by rw [← HP.out]; exact getD_mem2 hir)
          have hlk : (Instr.lookup 106 (.map (some (w1.heap.size + 1))) (.agg #[.int .i64 (s : Int), .int .i64 (u : Int)]) false).run Try.prog w13 = .ok (.slice A3 (natsI wd).length c3) w13 := by
            obtain ⟨v, ps, h1, h2⟩ := HM12.out.om.lookup lawP Try.underlying106 (zero22 _) (zd := .held (.slice none 0 0)) (zp := []) rfl (key_p (s, u) hsm.1 hsm.2)
            have h3 := MV.out.at' i (litP (s, u)) (.slice A3 (natsI wd).length c3) (by
              have h4 := HP.out
              rw [List.getD_eq_getElem?_getD, List.getElem?_eq_getElem hir] at h4
              have h5 : reps'[i] = (s, u) := h4
              rw [List.getElem?_map, List.getElem?_eq_getElem hir, Option.map_some, h5]) (by
              rw [← hv3, List.getD_eq_getElem?_getD, List.getElem?_eq_getElem hvl]; rfl)
            rw [h3] at h2
            unfold heldE at h2
            injection h2 with h2
            injection h2 with h2 _
            injection h2 with h2
            subst h2
            exact h1
          have CL := Aside0.mk (PL.clone_I.calls A3 c3 (natsI wd) (natsI wd) w13 hC3 hlc3 (by unfold PL.clone_I.f; rw [if_pos (by simp [natsI]; omega)]))
          clear hwd hv3 hlc3 hC3 hR hsm hvl
          go_wp2_with fail
          (with_reducible refine CL.out.mono ?_)
          rintro e w14 ⟨v59, rfl, hr59, hb14⟩
          have R59 := Aside0.mk hr59
          have B14 := Aside0.mk hb14
          have WL : Aside0 ((natsI wd).length ≤ 100) := ⟨by simp [natsI]; omega⟩
          clear CL hlk r0 r1 hr59 hb14
          go_upto_region 15 with (first
            | ((with_reducible refine gate_builtin (b := .append) (xs := #[.tmp 59, .tmp 61]) rfl ?_); at_builtin; refine Kd.R_append (Kd.int .i64) (w0 := w13) w13.heap.size rfl (.tmp 59) (.tmp 61) 22 3 (.int .i64 0) 8 rfl Try.underlying22 info3 rfl (by decide) (by omega) v59 (natsI wd) (j : Int) [.int .i64 (j : Int)] (fun _ => True) (fun _ => False) rfl ?aX ?aP (fun _ hk => hk.elim) (fun _ _ => trivial) R59.out B14.out ?aS ?aL ?_; (case aX => first | rfl | (simp; done)); (case aP => exact rfl); (case aS => exact B14.out.size); (case aL => have h1_ := WL.out; omega); intro v16 w16 ho hb hg hat; have R16 := Aside0.mk ho; have B16 := Aside0.mk hb; clear ho hb hg hat))
          have HM16 := Aside0.mk (HM12.out.below B16.out)
          have BP16 := Aside0.mk (blk_below BP12.out B16.out)
          have BQ16 := Aside0.mk (blk_below BQ12.out B16.out)
          have HBX : Aside0 (w1.heap.size + 2 ≤ w13.heap.size) := ⟨HM12.out.size⟩
          have ENI : Aside0 (natsI (wd ++ [j]) = natsI wd ++ [(j : Int)]) := ⟨by simp [natsI]⟩
          clear HM12 BP12 BQ12 B14 R59 B16
          by_cases he : (ov : Int) = fv
          · have EQ2 : Aside0 (Eq2 c t (s, u) j) := ⟨EQI.out.2 he⟩
            subst he
            have q0 : w16.cell? ⟨tq, 0, none⟩ = some (.int .i64 (a : Int)) := (blk_cell BQ16.out 0).trans rfl
            have q1 : w16.cell? ⟨tq, 1, none⟩ = some (.int .i64 (b : Int)) := (blk_cell BQ16.out 1).trans rfl
            have hsa : a ≤ 100000 ∧ b ≤ 100000 := by have := NB2.1; have := NB2.2; have := NN.out; constructor <;> omega
            have HKY := Aside0.mk (key_p (a, b) hsa.1 hsa.2)
            have HKL := Aside0.mk (lawP.key HKY.out)
            by_cases hmem : (a, b) ∈ reps'
            · obtain ⟨v, hlk⟩ : ∃ v, (Instr.lookup 106 (.map (some (w1.heap.size + 1))) (.agg #[.int .i64 (a : Int), .int .i64 (b : Int)]) true).run Try.prog w16 = .ok (.tuple #[v, .bool true]) w16 := by
                obtain ⟨v, ps, h1, h2⟩ := HM16.out.om.look_ok lawP Try.underlying106 (zero22 _) (zd := .held (.slice none 0 0)) (zp := []) rfl HKY.out
                rw [(MV.out.has _).2 (List.mem_map_of_mem hmem)] at h1
                exact ⟨v, h1⟩
              have HD2 : Aside0 (∀ x, x < j + 1 → Eq2 c t (s, u) x ∧ nx2 c t (s, u) x ∈ reps') := ⟨fun x hx => by
                rcases Nat.lt_or_ge x j with q | q
                · exact HD.out x q
                · have e : x = j := by omega
                  subst e; exact ⟨EQ2.out, by rw [HQ.out]; exact hmem⟩⟩
              clear hmem
              go_wp2_with fail
              go_roundw
              case rel => exact ⟨j + 1, m, reps', ws', vs', D, by omega, by go_num, hir, hm, HP, HM16, MV, HF, HD2, BP16, TN⟩
              case measure => simp [intOf]; omega
            · have hnm : litP (a, b) ∉ reps'.map litP := fun h => by
                obtain ⟨p', h1, h2⟩ := List.mem_map.1 h
                have := litP_inj (SMALL.out _ _ _ HF.out p' h1) hsa h2
                exact hmem (this ▸ h1)
              obtain ⟨v, hlk⟩ : ∃ v, (Instr.lookup 106 (.map (some (w1.heap.size + 1))) (.agg #[.int .i64 (a : Int), .int .i64 (b : Int)]) true).run Try.prog w16 = .ok (.tuple #[v, .bool false]) w16 := by
                obtain ⟨v, ps, h1, h2⟩ := HM16.out.om.look_ok lawP Try.underlying106 (zero22 _) (zd := .held (.slice none 0 0)) (zp := []) rfl HKY.out
                have hh : Maps.has D (litP (a, b)) = false := by
                  cases h : Maps.has D (litP (a, b))
                  · rfl
                  · exact absurd ((MV.out.has _).1 h) hnm
                rw [hh] at h1
                exact ⟨v, h1⟩
              have MV2 : Aside0 (MapV (D.put (litP (a, b)) (.held v16)) ((reps' ++ [(a, b)]).map litP) (vs' ++ [v16])) := ⟨by
                rw [List.map_append]; exact MV.out.put HKL.out hnm v16⟩
              have HF2 : Aside0 (FS c t i (reps' ++ [(a, b)]) (ws' ++ [wd ++ [j]])) := ⟨by
                have h := HF.out.add hir (x := j) (by rw [HMM.out]; exact hjl)
                rw [HP.out, HQ.out, HWD.out] at h
                exact h EQ2.out NB2 hmem⟩
              have HD2 : Aside0 (∀ x, x < j + 1 → Eq2 c t (s, u) x ∧ nx2 c t (s, u) x ∈ reps' ++ [(a, b)]) := ⟨fun x hx => by
                rcases Nat.lt_or_ge x j with q | q
                · exact ⟨(HD.out x q).1, List.mem_append_left _ (HD.out x q).2⟩
                · have e : x = j := by omega
                  subst e; exact ⟨EQ2.out, by rw [HQ.out]; simp⟩⟩
              have HP2 : Aside0 ((reps' ++ [(a, b)]).getD i (0, 0) = (s, u)) := ⟨by rw [getD_app_lt _ _ _ hir]; exact HP.out⟩
              have HDR : Aside0 ((reps' ++ [(a, b)]).drop (i + 1) = reps'.drop (i + 1) ++ [(a, b)]) := ⟨List.drop_append_of_le_length (by omega)⟩
              have HRL : Aside0 ((reps'.drop (i + 1)).length ≤ 100) := ⟨by rw [List.length_drop]; omega⟩
              have HVL : Aside0 (ws'.length = vs'.length) := ⟨by rw [HF.out.len, MV.out.len, List.length_map]⟩
              clear hmem hnm hsa
              go_wp2_with (first
                | (at_mapUpdate; refine wpList_mapUpdate_own _ rfl (.tmp 75) (.tmp 76) (.tmp 77) 106 rfl 69 22 lawP Try.underlying106 heldE (w1.heap.size + 1) m D rfl HM16.out.om (by unfold maxLen; omega) (.agg #[.int .i64 (a : Int), .int .i64 (b : Int)]) v16 _ rfl rfl HKY.out (.held v16) [] rfl ?_; intro w17 hown17 hgrow17; have HM17 := Aside0.mk (HM16.out.putMap (x := wd ++ [j]) (by rw [ENI.out]; exact Kd.R_lower R16.out HBX.out) HVL.out hown17 hgrow17); have BP17 := Aside0.mk (blk_grown BP16.out hgrow17 (by have := TL.out; simp; omega)); have BQ17 := Aside0.mk (blk_grown BQ16.out hgrow17 (by have := TQ.out.2; simp; omega)); have z0 := (blk_cell BQ17.out 0).trans (show _ = some (Value.int .i64 (a : Int)) from rfl); have z1 := (blk_cell BQ17.out 1).trans (show _ = some (Value.int .i64 (b : Int)) from rfl); clear hown17 hgrow17 hlk q0 q1)
                | ((with_reducible refine gate_builtin (b := .append) (xs := #[.tmp 78, .tmp 80]) rfl ?_); at_builtin; refine Kd.Q_append k69 (w0 := w17) (w1.heap.size + 2) rfl (.tmp 78) (.tmp 80) 65 69 (.agg #[.int .i64 0, .int .i64 0]) 16 rfl Try.underlying65 info69 rfl (by decide) (by omega) u10 (reps'.drop (i + 1)) (a, b) [.int .i64 (a : Int), .int .i64 (b : Int)] (fun _ => True) (fun _ => False) rfl ?aX ?aP (fun _ hk => hk.elim) (fun _ _ => trivial) HM17.out.td (Below.refl _ _) ?aS ?aL ?_; (case aX => first | rfl | (simp; done)); (case aP => exact k69_mkM _ _ _ (a, b)); (case aS => exact HM17.out.size); (case aL => have h1_ := HRL.out; omega); intro v18 w18 ho hb hg hat; have HM18 := Aside0.mk (HM17.out.addTodo ho hg); have BP18 := Aside0.mk (blk_grown BP17.out hg TN.out); have TN18 := Aside0.mk (own_ne_step TN.out hat (blk_lt BP17.out)); clear ho hb hg hat))
              go_roundw
              case rel => exact ⟨j + 1, m + 1, reps' ++ [(a, b)], ws' ++ [wd ++ [j]], vs' ++ [v16], _, by omega, by go_num, by simp; omega, by simp; omega, HP2, ⟨by rw [HDR.out]; exact HM18.out⟩, MV2, HF2, HD2, BP18, TN18⟩
              case measure => simp [intOf]; omega
          · have HTL : Aside0 (Tells c t (wd ++ [j]) ∧ ((wd ++ [j]).length = 1 ∨ ∀ a, a < 2 ^ c.ins → Eq2 c t (c.start, 0) a)) := ⟨by
              have h := HF.out.tells hir (x := j) (by rw [HMM.out]; exact hjl)
              rw [HP.out, HWD.out] at h
              exact h (fun e => he (EQI.out.1 e))⟩
            obtain ⟨A16, c16, hv16, hl16, hC16⟩ := Kd.R_reads R16.out
            have C16 := Aside0.mk hC16
            have L16 : Aside0 ((natsI wd ++ [(j : Int)]).length = (wd ++ [j]).length) := ⟨by simp [natsI]⟩
            have HBW := Aside0.mk (HB4.out.trans (HM16.out.hb.mono HB4.out.size))
            have hlw : (wd ++ [j]).length ≤ 49 := by simp; omega
            subst hv16
            rw [L16.out] at hl16
            clear hC16
            go_wp2_with fail
            go_ret3
            rw [L16.out]
            exact ⟨_, true, rfl, HBW.out, .inr ⟨rfl, wd ++ [j], A16, c16, rfl, hl16, by
              have h := C16.out
              rw [L16.out] at h
              rw [ENI.out]; exact h, HTL.out.1, hlw, HTL.out.2⟩⟩
        · have HF2 : Aside0 (FS c t (i + 1) reps' ws') := ⟨HF.out.next hir (fun x hx => by
            rw [HMM.out] at hx
            have h := HD.out x (by omega)
            rw [HP.out]; exact h)⟩
          clear HF HD HP
          go_wp2_with fail
          go_roundg k1
          case measure => omega
          case rel => exact ⟨i + 1, m, reps', ws', vs', D, by omega, hm, HM, MV, HF2⟩
    · have NT := Aside0.mk (HF.out.fin (by omega))
      have HBW := Aside0.mk (HB4.out.trans (HM.out.hb.mono HB4.out.size))
      have hN : ¬ 0 < reps.length - i := by omega
      have hN2 : reps.length - i = 0 := by omega
      have hN3 : decide (0 < reps.length - i) = false := decide_eq_false hN
      clear HF HM MV
      go_wp2_with fail
      go_ret3
      exact ⟨_, false, rfl, HBW.out, .inl ⟨rfl, rfl, NT.out⟩⟩
end Go.Proofs.Ytaalafnkglbcpaa.SY
end

/- Certificates, plain: pairs that are reached together, and are all. Own text of this claim. -/
section
namespace Go.Proofs.Ytaalafnkglbcpaa.SY
open Go.RowKit Go.WideMaps Go.Maps Go.Proofs.YtaalafnkglbcpaaW.PrintWords Go.Proofs.YtaalafnkglbcpaaW.PrintLast Go.Proofs.YtaalafnkglbcpaaW.PrintMore
open Go.Proofs.Ytaalafnkglbcpaa.PL (S77 z77 k77 Tab TabR roww cel OKT)
set_option linter.unusedVariables false
set_option linter.unusedSimpArgs false
section
variable {c : Cir} {t : Tab} {O : Nat}
/-- From a circuit that does as the table no inputs tell it. -/
theorem does_eq (h : Does c t) (hN : TabN c.ins O t) {p : P2} (hp : p.1 = p.2 ∧ p.2 < t.length) {x : Nat} (hx : x < 2 ^ c.ins) : Eq2 c t p x ∧ (nx2 c t p x).1 = (nx2 c t p x).2 ∧ (nx2 c t p x).2 < t.length := by
  have hc := hN.ok p.2 x hp.2 hx
  have h1 := h.out p.2 x hp.2 hx
  have h2 := h.nxt p.2 x hp.2 hx
  refine ⟨?_, ?_, hc.2.2.2⟩
  · unfold Eq2
    rw [hp.1, h1]; omega
  · show c.nxt p.1 x = _
    rw [hp.1, h2]; rfl
theorem does_none (h : Does c t) (hN : TabN c.ins O t) : NoneTells c t :=
  ⟨fun p => p.1 = p.2 ∧ p.2 < t.length, ⟨h.start, hN.n1⟩, fun p hp x hx => by
    obtain ⟨a, b⟩ := does_eq h hN hp hx
    exact ⟨a, b⟩⟩
theorem NoneTells.no (h : NoneTells c t) {l : List Nat} (ht : Tells c t l) : False := by
  obtain ⟨l0, x, p, rfl, hp, hx, he⟩ := ht
  have h2 := h.run (l0 ++ [x]) (fun y hy => by
    rcases List.mem_append.1 hy with hy | hy
    · exact hp.lt y hy
    · rw [List.mem_singleton.1 hy]; exact hx)
  obtain ⟨h3, h4⟩ := run_snoc (t := t) hp.st hp.tt x
  rw [h3, h4, hp.eq] at h2
  have h5 := List.append_cancel_left h2
  injection h5 with h5
  exact he h5
end
/-- What is reached while pairs are gathered: i of them are done. -/
structure FB (c : Cir) (t : Tab) (i : Nat) (reps : List P2) : Prop where
  le : i ≤ reps.length
  nd : reps.Nodup
  hd : (c.start, 0) ∈ reps
  done : ∀ k, k < i → ∀ x, x < 2 ^ c.ins → nx2 c t (reps.getD k (0, 0)) x ∈ reps
  reach : ∀ P : P2 → Prop, P (c.start, 0) → (∀ p x, P p → x < 2 ^ c.ins → P (nx2 c t p x)) → ∀ p ∈ reps, P p
/-- All pairs that are reached, each once. -/
structure CertOk (c : Cir) (t : Tab) (ps : List P2) : Prop where
  nd : ps.Nodup
  hd : (c.start, 0) ∈ ps
  done : ∀ p ∈ ps, ∀ x, x < 2 ^ c.ins → nx2 c t p x ∈ ps
  reach : ∀ P : P2 → Prop, P (c.start, 0) → (∀ p x, P p → x < 2 ^ c.ins → P (nx2 c t p x)) → ∀ p ∈ ps, P p
section
variable {c : Cir} {t : Tab} {i : Nat} {reps : List P2} {O : Nat}
theorem FB.start : FB c t 0 [(c.start, 0)] := ⟨by simp, by simp, by simp, fun k hk => by omega, fun P h _ p hp => by simp at hp; subst hp; exact h⟩
theorem FB.diag (h : FB c t i reps) (hd : Does c t) (hN : TabN c.ins O t) : ∀ p ∈ reps, p.1 = p.2 ∧ p.2 < t.length := by
  refine h.reach (fun p => p.1 = p.2 ∧ p.2 < t.length) ⟨hd.start, hN.n1⟩ (fun p x hp hx => (does_eq hd hN hp hx).2)
theorem diag_card {reps : List P2} {n : Nat} (nd : reps.Nodup) (h : ∀ p ∈ reps, p.1 = p.2 ∧ p.2 < n) : reps.length ≤ n := by
  have hn : (reps.map (fun p => p.2)).Nodup := by
    rw [List.nodup_iff_pairwise_ne, List.pairwise_map]
    have h0 := nd
    rw [List.nodup_iff_pairwise_ne] at h0
    refine h0.imp_of_mem (fun {a b} ha hb hab e => hab ?_)
    have h1 := (h a ha).1
    have h2 := (h b hb).1
    exact Prod.ext (by rw [h1, h2]; exact e) e
  have := nodup_le n _ hn (fun y hy => by
    obtain ⟨p, hp, rfl⟩ := List.mem_map.1 hy
    exact (h p hp).2)
  rwa [List.length_map] at this
theorem FB.add (h : FB c t i reps) (hi : i < reps.length) {x : Nat} (hx : x < 2 ^ c.ins) (hn : nx2 c t (reps.getD i (0, 0)) x ∉ reps) : FB c t i (reps ++ [nx2 c t (reps.getD i (0, 0)) x]) := by
  refine ⟨by simp; omega, ?_, List.mem_append_left _ h.hd, fun k hk y hy => ?_, fun P h0 h1 p hp => ?_⟩
  · refine List.nodup_append.2 ⟨h.nd, by simp, fun a ha b hb' => ?_⟩
    rw [List.mem_singleton.1 hb']
    exact fun e => hn (e ▸ ha)
  · rw [getD_app_lt _ _ _ (by have := h.le; omega)]
    exact List.mem_append_left _ (h.done k hk y hy)
  · rcases List.mem_append.1 hp with hp | hp
    · exact h.reach P h0 h1 p hp
    · rw [List.mem_singleton.1 hp]
      exact h1 _ x (h.reach P h0 h1 _ (getD_mem2 hi)) hx
theorem FB.next (h : FB c t i reps) (hi : i < reps.length) (hd : ∀ x, x < 2 ^ c.ins → nx2 c t (reps.getD i (0, 0)) x ∈ reps) : FB c t (i + 1) reps :=
  ⟨by omega, h.nd, h.hd, fun k hk => by
    rcases Nat.lt_or_ge k i with q | q
    · exact h.done k q
    · have e : k = i := by omega
      subst e; exact hd, h.reach⟩
theorem FB.fin (h : FB c t i reps) (hi : i = reps.length) : CertOk c t reps := by
  subst hi
  refine ⟨h.nd, h.hd, fun p hp x hx => ?_, h.reach⟩
  obtain ⟨k, hk, rfl⟩ := List.getElem_of_mem hp
  have h1 := h.done k hk x hx
  rw [List.getD_eq_getElem?_getD, List.getElem?_eq_getElem hk] at h1
  exact h1
end
/-- A list of pairs from which no step leads away. -/
def Closed (c : Cir) (t : Tab) (ps : List P2) : Prop := (c.start, 0) ∈ ps ∧ ∀ p ∈ ps, ∀ x, x < 2 ^ c.ins → nx2 c t p x ∈ ps
theorem CertOk.closed {c : Cir} {t : Tab} {ps : List P2} (h : CertOk c t ps) : Closed c t ps := ⟨h.hd, h.done⟩
theorem CertOk.perm {c : Cir} {t : Tab} {ps qs : List P2} (h : CertOk c t ps) (hp : qs.Perm ps) : CertOk c t qs :=
  ⟨hp.symm.nodup h.nd, hp.mem_iff.2 h.hd, fun p hq x hx => hp.mem_iff.2 (h.done p (hp.mem_iff.1 hq) x hx), fun P h0 h1 p hq => h.reach P h0 h1 p (hp.mem_iff.1 hq)⟩
/-- With one pair less it is not closed. -/
theorem CertOk.less {c : Cir} {t : Tab} {ps : List P2} (h : CertOk c t ps) {k : Nat} (hk : k < ps.length) : ¬ Closed c t (ps.take k ++ ps.drop (k + 1)) := by
  rintro ⟨h1, h2⟩
  have hx := h.reach (fun p => p ∈ ps.take k ++ ps.drop (k + 1)) h1 (fun p x hp hx => h2 p hp x hx) _ (List.getElem_mem hk)
  have e : ps = ps.take k ++ ps[k] :: ps.drop (k + 1) := by
    rw [← List.drop_eq_getElem_cons hk, List.take_append_drop]
  have hn := h.nd
  rw [e] at hn
  have h3 := List.nodup_append.1 hn
  rcases List.mem_append.1 hx with hx | hx
  · exact h3.2.2 _ hx _ List.mem_cons_self rfl
  · exact (List.nodup_cons.1 h3.2.1).1 hx
end Go.Proofs.Ytaalafnkglbcpaa.SY
end

/- cmp.Compare, cmp.Or, and the closure of equal.Cert that compares two pairs: some number each. Own text of this claim. -/
section
namespace Go.Proofs.Ytaalafnkglbcpaa.SY
open Go.RowKit Go.WideMaps Go.Maps Go.Proofs.YtaalafnkglbcpaaW.PrintWords Go.Proofs.YtaalafnkglbcpaaW.PrintLast Go.Proofs.YtaalafnkglbcpaaW.PrintMore
set_option linter.unusedVariables false
set_option linter.unusedSimpArgs false
set_option maxRecDepth 100000 in
set_option maxHeartbeats 1000000 in
theorem nan_calls (x : Int) (w : World) : Calls Try.prog 87 #[.int .i64 x] w fun e w' => e = .returned (.bool false) ∧ w' = w := by
  go_enter Try.func87, Try.ntmps87
  go_wp2
  go_ret
  exact ⟨rfl, rfl⟩
set_option maxRecDepth 100000 in
set_option maxHeartbeats 1000000 in
theorem compare_calls (x y : Int) (w : World) : Calls Try.prog 69 #[.int .i64 x, .int .i64 y] w fun e w' => (∃ r : Int, e = .returned (.int .i64 r)) ∧ w' = w := by
  by_cases h1 : x < y
  · have e1 : decide (x < y) = true := decide_eq_true h1
    go_enter Try.func69, Try.ntmps69
    go_wp2_with fail
    (with_reducible refine (nan_calls x _).mono ?_)
    rintro e w1 ⟨rfl, rfl⟩
    go_wp2_with fail
    (with_reducible refine (nan_calls y _).mono ?_)
    rintro e w1 ⟨rfl, rfl⟩
    go_wp2
    go_ret
    exact ⟨⟨_, rfl⟩, rfl⟩
  · have e1 : decide (x < y) = false := decide_eq_false h1
    by_cases h2 : x > y
    · have e2 : decide (y < x) = true := decide_eq_true h2
      go_enter Try.func69, Try.ntmps69
      go_wp2_with fail
      (with_reducible refine (nan_calls x _).mono ?_)
      rintro e w1 ⟨rfl, rfl⟩
      go_wp2_with fail
      (with_reducible refine (nan_calls y _).mono ?_)
      rintro e w1 ⟨rfl, rfl⟩
      go_wp2
      go_ret
      exact ⟨⟨_, rfl⟩, rfl⟩
    · have e2 : decide (y < x) = false := decide_eq_false h2
      go_enter Try.func69, Try.ntmps69
      go_wp2_with fail
      (with_reducible refine (nan_calls x _).mono ?_)
      rintro e w1 ⟨rfl, rfl⟩
      go_wp2_with fail
      (with_reducible refine (nan_calls y _).mono ?_)
      rintro e w1 ⟨rfl, rfl⟩
      go_wp2
      go_ret
      exact ⟨⟨_, rfl⟩, rfl⟩
set_option maxRecDepth 100000 in
set_option maxHeartbeats 2000000 in
theorem or_calls (a b : Int) (g : Nat) (w : World) (h0 : w.cell? ⟨g, 0, none⟩ = some (.int .i64 a)) (h1 : w.cell? ⟨g, 1, none⟩ = some (.int .i64 b)) : Calls Try.prog 68 #[.slice (some ⟨g, 0, none⟩) 2 2] w fun e w' => (∃ r : Int, e = .returned (.int .i64 r)) ∧ w' = w := by
  have H0 := Aside0.mk h0
  have H1 := Aside0.mk h1
  clear h0 h1
  go_enter Try.func68, Try.ntmps68
  go_wp2
  go_loopw [5, 8] (fun _ v8 wr => ∃ (i : Nat), i ≤ 2 ∧ v8 = .int .i64 i ∧ wr = w) (fun _ v8 _ => 2 - (intOf v8).toNat)
  case atStart => exact ⟨0, by omega, rfl, rfl⟩
  case round =>
    obtain ⟨i, hi, rfl, rfl⟩ := hrel
    by_cases hlt : i < 2
    · obtain ⟨x, hx⟩ : ∃ x : Int, wr.cell? ⟨g, i, none⟩ = some (.int .i64 x) := by
        rcases (by omega : i = 0 ∨ i = 1) with rfl | rfl
        · exact ⟨_, H0.out⟩
        · exact ⟨_, H1.out⟩
      have hic : (i : Int) < 2 := by omega
      by_cases hz : x = 0
      · subst hz
        go_wp2
        go_roundw
        case rel => exact ⟨i + 1, by omega, by go_num, trivial⟩
        case measure => simp [intOf]; omega
      · go_wp2
        go_ret
        first | exact ⟨⟨_, rfl⟩, rfl⟩ | exact ⟨⟨_, trivial⟩, rfl⟩ | simp
    · go_wp2
      go_ret
      exact ⟨⟨_, rfl⟩, rfl⟩
end Go.Proofs.Ytaalafnkglbcpaa.SY
end

/- The closure of equal.Cert that compares two pairs: some number. Own text of this claim (mksort.py). -/
section
namespace Go.Proofs.Ytaalafnkglbcpaa.SY
open Go.RowKit Go.WideMaps Go.Maps Go.Proofs.YtaalafnkglbcpaaW.PrintWords Go.Proofs.YtaalafnkglbcpaaW.PrintLast Go.Proofs.YtaalafnkglbcpaaW.PrintMore
set_option linter.unusedVariables false
set_option linter.unusedSimpArgs false
set_option maxRecDepth 100000 in
set_option maxHeartbeats 4000000 in
theorem clo_calls (x y : P2) (w : World) : Calls Try.prog 67 #[.agg #[.int .i64 (x.1 : Int), .int .i64 (x.2 : Int)], .agg #[.int .i64 (y.1 : Int), .int .i64 (y.2 : Int)]] w fun e w' => (∃ r : Int, e = .returned (.int .i64 r)) ∧ Below w.heap.size w w' := by
  have X1 := Aside0.mk (blk_alloc (blk_new w (Obj.cells #[.int .i64 (x.1 : Int), .int .i64 (x.2 : Int)] 69)) (Obj.cells #[.int .i64 (y.1 : Int), .int .i64 (y.2 : Int)] 69))
  have Y1 := Aside0.mk (blk_next w (Obj.cells #[.int .i64 (x.1 : Int), .int .i64 (x.2 : Int)] 69) (Obj.cells #[.int .i64 (y.1 : Int), .int .i64 (y.2 : Int)] 69))
  have HB1 := Aside0.mk (below_alloc (below_alloc (Below.refl w.heap.size w) (Obj.cells #[.int .i64 (x.1 : Int), .int .i64 (x.2 : Int)] 69)) (Obj.cells #[.int .i64 (y.1 : Int), .int .i64 (y.2 : Int)] 69))
  go_enter Try.func67, Try.ntmps67
  go_upto_region 1 with (fail)
  generalize (w.alloc (Obj.cells #[.int .i64 (x.1 : Int), .int .i64 (x.2 : Int)] 69)).alloc (Obj.cells #[.int .i64 (y.1 : Int), .int .i64 (y.2 : Int)] 69) = w1 at *
  obtain ⟨bx, hbx⟩ : ∃ bx, w.heap.size = bx := ⟨_, rfl⟩
  obtain ⟨by', hby⟩ : ∃ by', w.heap.size + 1 = by' := ⟨_, rfl⟩
  have HBX := Aside0.mk hbx
  rw [hbx] at X1 
  rw [hby] at Y1
  rw [hby, hbx]
  clear hbx hby
  refine start_ (n := 13) (S := fun w' => w'.cell? ⟨bx, 0, none⟩ = some (.int .i64 (x.1 : Int)) ∧ w'.cell? ⟨bx, 1, none⟩ = some (.int .i64 (x.2 : Int)) ∧ w'.cell? ⟨by', 0, none⟩ = some (.int .i64 (y.1 : Int)) ∧ w'.cell? ⟨by', 1, none⟩ = some (.int .i64 (y.2 : Int))) (ds := []) #[false, false, false, false, false, false, false, false, false, false, false, false, false] (by kernel_rfl) rfl rfl ⟨(blk_cell X1.out 0).trans rfl, (blk_cell X1.out 1).trans rfl, (blk_cell Y1.out 0).trans rfl, (blk_cell Y1.out 1).trans rfl⟩ (fun hHeld => ?_)
  have X2 := Aside0.mk (blk_drew X1.out)
  have Y2 := Aside0.mk (blk_drew Y1.out)
  have HB2 := Aside0.mk (below_drew HB1.out)
  clear X1 Y1 HB1
  generalize w1.drew = w2 at *
  refine pure_ (i := 0) (N := (some 5)) (v := ?_) (a' := ?_) #[true, false, false, false, false, false, false, false, false, false, false, false, false] rfl rfl (by kernel_rfl) (fun _ _ _ h => h) (Or.inl ⟨by rfl, ?_⟩) ?_ ?_
  rotate_left
  · intro w'
    go_simp
    with_reducible rfl
  rotate_left
  · simp only [Act.put, List.setIfInBounds_toArray, List.set_cons_zero, List.set_cons_succ, i64_w, i32_w]
    rfl
  refine pure_ (i := 2) (N := (some 7)) (v := ?_) (a' := ?_) #[true, false, true, false, false, false, false, false, false, false, false, false, false] rfl rfl (by kernel_rfl) (fun _ _ _ h => h) (Or.inl ⟨by rfl, ?_⟩) ?_ ?_
  rotate_left
  · intro w'
    go_simp
    with_reducible rfl
  rotate_left
  · simp only [Act.put, List.setIfInBounds_toArray, List.set_cons_zero, List.set_cons_succ, i64_w, i32_w]
    rfl
  refine pure_ (i := 5) (N := (some 10)) (v := ?_) (a' := ?_) #[true, false, true, false, false, true, false, false, false, false, false, false, false] rfl rfl (by kernel_rfl) (fun _ _ _ h => h) (Or.inl ⟨by rfl, ?_⟩) ?_ ?_
  rotate_left
  · intro w'
    go_simp
    with_reducible rfl
  rotate_left
  · simp only [Act.put, List.setIfInBounds_toArray, List.set_cons_zero, List.set_cons_succ, i64_w, i32_w]
    rfl
  refine pure_ (i := 7) (N := (some 12)) (v := ?_) (a' := ?_) #[true, false, true, false, false, true, false, true, false, false, false, false, false] rfl rfl (by kernel_rfl) (fun _ _ _ h => h) (Or.inl ⟨by rfl, ?_⟩) ?_ ?_
  rotate_left
  · intro w'
    go_simp
    with_reducible rfl
  rotate_left
  · simp only [Act.put, List.setIfInBounds_toArray, List.set_cons_zero, List.set_cons_succ, i64_w, i32_w]
    rfl
  refine take_ (i := 1) (N := (some 6)) (v := ?_) (a' := ?_) #[true, true, true, false, false, true, false, true, false, false, false, false, false] rfl rfl (by kernel_rfl) (fun _ _ _ h => h) (Or.inl ⟨by rfl, ?_⟩) hHeld ?_ ?_
  rotate_left
  · rintro w' ⟨s0, s1, s2, s3⟩
    go_simp
    with_reducible rfl
  rotate_left
  · simp only [Act.put, List.setIfInBounds_toArray, List.set_cons_zero, List.set_cons_succ, i64_w, i32_w]
    rfl
  refine take_ (i := 3) (N := (some 8)) (v := ?_) (a' := ?_) #[true, true, true, true, false, true, false, true, false, false, false, false, false] rfl rfl (by kernel_rfl) (fun _ _ _ h => h) (Or.inl ⟨by rfl, ?_⟩) hHeld ?_ ?_
  rotate_left
  · rintro w' ⟨s0, s1, s2, s3⟩
    go_simp
    with_reducible rfl
  rotate_left
  · simp only [Act.put, List.setIfInBounds_toArray, List.set_cons_zero, List.set_cons_succ, i64_w, i32_w]
    rfl
  refine take_ (i := 6) (N := (some 11)) (v := ?_) (a' := ?_) #[true, true, true, true, false, true, true, true, false, false, false, false, false] rfl rfl (by kernel_rfl) (fun _ _ _ h => h) (Or.inl ⟨by rfl, ?_⟩) hHeld ?_ ?_
  rotate_left
  · rintro w' ⟨s0, s1, s2, s3⟩
    go_simp
    with_reducible rfl
  rotate_left
  · simp only [Act.put, List.setIfInBounds_toArray, List.set_cons_zero, List.set_cons_succ, i64_w, i32_w]
    rfl
  refine take_ (i := 8) (N := (some 13)) (v := ?_) (a' := ?_) #[true, true, true, true, false, true, true, true, true, false, false, false, false] rfl rfl (by kernel_rfl) (fun _ _ _ h => h) (Or.inl ⟨by rfl, ?_⟩) hHeld ?_ ?_
  rotate_left
  · rintro w' ⟨s0, s1, s2, s3⟩
    go_simp
    with_reducible rfl
  rotate_left
  · simp only [Act.put, List.setIfInBounds_toArray, List.set_cons_zero, List.set_cons_succ, i64_w, i32_w]
    rfl
  refine one_ (i := 4) (N := (some 9)) #[true, true, true, true, true, true, true, true, true, false, false, false, false] rfl rfl (by kernel_rfl) (by decide) (fun K hK => ?_)
  refine goes_ Try.func69 (by kernel_rfl) rfl #[.int .i64 (x.1 : Int), .int .i64 (y.1 : Int)] (by rfl) rfl rfl (by (try simp only [List.map_toArray, List.map_cons, List.map_nil]); first | done | rfl) ?_
  refine (compare_calls (x.1 : Int) (y.1 : Int) _).mono ?_
  rintro e wz ⟨⟨r1, rfl⟩, rfl⟩
  refine ⟨_, rfl, ?_⟩
  refine hK.out _ _ ⟨(blk_cell X2.out 0).trans rfl, (blk_cell X2.out 1).trans rfl, (blk_cell Y2.out 0).trans rfl, (blk_cell Y2.out 1).trans rfl⟩ (fun hHeld => ?_)
  clear hK K
  refine norm_ (a' := ?_) ?_ ?_
  rotate_left
  · show Act.put _ (some 9) _ = _
    simp only [Act.put, List.setIfInBounds_toArray, List.set_cons_zero, List.set_cons_succ, i64_w, i32_w]
    rfl
  refine one_ (i := 9) (N := (some 14)) #[true, true, true, true, true, true, true, true, true, true, false, false, false] rfl rfl (by kernel_rfl) (by decide) (fun K hK => ?_)
  refine goes_ Try.func69 (by kernel_rfl) rfl #[.int .i64 (x.2 : Int), .int .i64 (y.2 : Int)] (by rfl) rfl rfl (by (try simp only [List.map_toArray, List.map_cons, List.map_nil]); first | done | rfl) ?_
  refine (compare_calls (x.2 : Int) (y.2 : Int) _).mono ?_
  rintro e wz ⟨⟨r2, rfl⟩, rfl⟩
  refine ⟨_, rfl, ?_⟩
  refine hK.out _ _ ⟨(blk_cell X2.out 0).trans rfl, (blk_cell X2.out 1).trans rfl, (blk_cell Y2.out 0).trans rfl, (blk_cell Y2.out 1).trans rfl⟩ (fun hHeld => ?_)
  clear hK K
  refine norm_ (a' := ?_) ?_ ?_
  rotate_left
  · show Act.put _ (some 14) _ = _
    simp only [Act.put, List.setIfInBounds_toArray, List.set_cons_zero, List.set_cons_succ, i64_w, i32_w]
    rfl
  refine one_ (i := 10) (N := (some 15)) #[true, true, true, true, true, true, true, true, true, true, true, false, false] rfl rfl (by kernel_rfl) (by decide) (fun K hK => ?_)
  refine value_ (w1 := ?_) (v := ?_) (by rfl) rfl ?_ ?_
  rotate_left 2
  · go_simp
    constructor
    · rfl
    · rfl
  refine hK.out _ _ ⟨(World.cell?_alloc_lt _ _ _ (World.block_lt_of_cell? _ _ hHeld.1)).trans hHeld.1, (World.cell?_alloc_lt _ _ _ (World.block_lt_of_cell? _ _ hHeld.2.1)).trans hHeld.2.1, (World.cell?_alloc_lt _ _ _ (World.block_lt_of_cell? _ _ hHeld.2.2.1)).trans hHeld.2.2.1, (World.cell?_alloc_lt _ _ _ (World.block_lt_of_cell? _ _ hHeld.2.2.2)).trans hHeld.2.2.2⟩ (fun hHeld => ?_)
  clear hK K
  refine norm_ (a' := ?_) ?_ ?_
  rotate_left
  · show Act.put _ (some 15) _ = _
    simp only [Act.put, List.setIfInBounds_toArray, List.set_cons_zero, List.set_cons_succ, i64_w, i32_w]
    rfl
  have Z3 := Aside0.mk (blk_new wz (Obj.cells #[.int .i64 r1, .int .i64 r2] 3))
  have HB3 := Aside0.mk (below_alloc HB2.out (Obj.cells #[.int .i64 r1, .int .i64 r2] 3))
  generalize wz.alloc (Obj.cells #[.int .i64 r1, .int .i64 r2] 3) = w3 at *
  refine one_ (i := 11) (N := (some 16)) #[true, true, true, true, true, true, true, true, true, true, true, true, false] rfl rfl (by kernel_rfl) (by decide) (fun K hK => ?_)
  refine goes_ Try.func68 (by kernel_rfl) rfl #[.slice (some ⟨wz.heap.size, 0, none⟩) 2 2] (by rfl) rfl rfl (by (try simp only [List.map_toArray, List.map_cons, List.map_nil]); first | done | rfl) ?_
  refine (or_calls r1 r2 wz.heap.size _ ((blk_cell Z3.out 0).trans rfl) ((blk_cell Z3.out 1).trans rfl)).mono ?_
  rintro e wz ⟨⟨r3, rfl⟩, rfl⟩
  refine ⟨_, rfl, ?_⟩
  refine hK.out _ _ hHeld (fun hHeld => ?_)
  clear hK K
  refine norm_ (a' := ?_) ?_ ?_
  rotate_left
  · show Act.put _ (some 16) _ = _
    simp only [Act.put, List.setIfInBounds_toArray, List.set_cons_zero, List.set_cons_succ, i64_w, i32_w]
    rfl
  refine pure_ (i := 12) (N := (some 4)) (v := ?_) (a' := ?_) #[true, true, true, true, true, true, true, true, true, true, true, true, true] rfl rfl (by kernel_rfl) (fun _ _ _ h => h) (Or.inl ⟨by rfl, ?_⟩) ?_ ?_
  rotate_left
  · intro w'
    go_simp
    with_reducible rfl
  rotate_left
  · simp only [Act.put, List.setIfInBounds_toArray, List.set_cons_zero, List.set_cons_succ, i64_w, i32_w]
    rfl
  refine done_ (by kernel_rfl) ?_
  go_wp2
  go_ret
  exact ⟨⟨_, rfl⟩, HB3.out⟩
end Go.Proofs.Ytaalafnkglbcpaa.SY
end

/- slices.insertionSortCmpFunc of pairs, whatever the closure answers: a permutation. Own text of this claim (mkins.py). -/
section
namespace Go.Proofs.Ytaalafnkglbcpaa.SY
open Go.RowKit Go.WideMaps Go.Maps Go.Proofs.YtaalafnkglbcpaaW.PrintWords Go.Proofs.YtaalafnkglbcpaaW.PrintLast Go.Proofs.YtaalafnkglbcpaaW.PrintMore
set_option linter.unusedVariables false
set_option linter.unusedSimpArgs false
def gtd (l : List P2) (j : Nat) : P2 := l.getD j (0, 0)
/-- Two neighbours change places. -/
def swp (l : List P2) (j : Nat) : List P2 := (l.set (j + 1) (gtd l j)).set j (gtd l (j + 1))
theorem swp_len (l : List P2) (j : Nat) : (swp l j).length = l.length := by unfold swp; rw [List.length_set, List.length_set]
theorem swp_perm : ∀ (j : Nat) (l : List P2), j + 1 < l.length → (swp l j).Perm l
  | 0, a :: b :: l, _ => List.Perm.swap a b l
  | j + 1, a :: l, h => by
    have h2 := swp_perm j l (by simpa using h)
    exact h2.cons a
  | 0, [], h => by simp at h
  | 0, [_], h => by simp at h
  | j + 1, [], h => by simp at h
def ins_T6 : Bool × List (List Nat × List Nat) := (true, [([], []), ([], []), ([], []), ([], []), ([3], [3]), ([], []), ([], []), ([6], [6]), ([5, 7], [5, 7]), ([8], [8]), ([], []), ([], []), ([10, 11], [10, 11]), ([12], [12]), ([0, 1, 0, 1, 5, 6, 7, 8, 9, 13], [0, 1]), ([14, 9, 0, 1, 5, 6, 7, 8, 9, 13], [9, 14]), ([2, 4, 0, 1, 2, 3, 4, 5, 6, 7, 8, 9, 10, 11, 12, 13, 14, 15], [2, 4]), ([16, 13, 15, 0, 1, 2, 3, 4, 5, 6, 7, 8, 9, 10, 11, 12, 13, 14, 15], [13, 16])])
def ins_B6 : List Nat := [0, 0, 0, 0, 8, 0, 0, 64, 224, 480, 0, 0, 3072, 7168, 16355, 32739, 65535, 131071]
theorem ins_tab6 : rtab .any (opsOf Try.f94 6) = ins_T6 := by kernel_rfl
theorem ins_bits6 : waitsOk ins_T6.2 ins_B6 = true := by kernel_rfl
theorem set2 (W : World) (g k : Nat) (a b : Value) : W.setCells g k [a, b] = (W.setCell ⟨g, k, none⟩ a).setCell ⟨g, k + 1, none⟩ b := rfl
theorem cell2 (W : World) (g k m : Nat) (a b : Value) (h : m < k ∨ k + 2 ≤ m) : ((W.setCell ⟨g, k, none⟩ a).setCell ⟨g, k + 1, none⟩ b).cell? ⟨g, m, none⟩ = W.cell? ⟨g, m, none⟩ := by
  rw [← set2]
  exact World.cell?_setCells_out g [a, b] k W ⟨g, m, none⟩ (fun _ _ => by simpa using h)
theorem R_set2 {W : World} {base g n cap : Nat} {y : List P2} (h : Kd.R k69 69 W base (fun _ => True) (.slice (some ⟨g, 0, none⟩) n cap) y) (i : Nat) (hi : i < n) (c : P2)
    (c0 : W.cell? ⟨g, i * 2, none⟩ = some (.int .i64 (c.1 : Int))) (c1 : W.cell? ⟨g, i * 2 + 1, none⟩ = some (.int .i64 (c.2 : Int))) (v : P2) :
    Kd.R k69 69 ((W.setCell ⟨g, i * 2, none⟩ (.int .i64 (v.1 : Int))).setCell ⟨g, i * 2 + 1, none⟩ (.int .i64 (v.2 : Int))) base (fun _ => True) (.slice (some ⟨g, 0, none⟩) n cap) (y.set i v) := by
  have h2 := (Kd.R_seg (okp := fun _ => False) h (i : Int) (by omega) (by omega) (c := [.int .i64 (c.1 : Int), .int .i64 (c.2 : Int)]) (seg := [.int .i64 (v.1 : Int), .int .i64 (v.2 : Int)]) (j := 0) rfl (fun j u hj => by
    rw [Int.toNat_natCast]
    show W.cell? ⟨g, i * 2 + j, none⟩ = some u
    match j, hj with
    | 0, hj => simp at hj; subst hj; exact c0
    | 1, hj => simp at hj; subst hj; exact c1
    | j + 2, hj => simp at hj) (by show 0 + 2 ≤ 2; omega) (x' := v) (k69_mkM _ _ _ v) (fun _ hk => hk.elim)).1
  rw [Int.toNat_natCast] at h2
  exact h2
theorem add0 (g n : Nat) : (⟨g, 0, none⟩ : Addr).add n = ⟨g, n, none⟩ := by unfold Addr.add; split <;> simp_all
set_option maxRecDepth 100000 in
set_option maxHeartbeats 16000000 in
theorem ins_calls (g cap : Nat) (l : List P2) (w0 w : World) (hr : Kd.R k69 69 w w0.heap.size (fun _ => True) (.slice (some ⟨g, 0, none⟩) l.length cap) l) (hB : Below w0.heap.size w0 w) (h1 : 1 ≤ l.length) (h2 : l.length ≤ 20) :
    Calls Try.prog 94 #[.slice (some ⟨g, 0, none⟩) l.length cap, .int .i64 0, .int .i64 l.length, .func (.func 67) #[] #[]] w fun e w' => ∃ l', e = .returned (.tuple #[]) ∧ l'.Perm l ∧ Kd.R k69 69 w' w0.heap.size (fun _ => True) (.slice (some ⟨g, 0, none⟩) l.length cap) l' ∧ Below w0.heap.size w0 w' := by
  have HR := Aside0.mk hr
  have HB := Aside0.mk hB
  clear hr hB
  obtain ⟨n, hn⟩ : ∃ n, l.length = n := ⟨_, rfl⟩
  have HN := Aside0.mk hn
  rw [hn] at HR h1 h2 ⊢
  clear hn
  go_enter Try.func94, Try.ntmps94
  go_wp2
  go_loopw [8] (fun v8 wr => ∃ (i : Nat) (x : List P2), 1 ≤ i ∧ i ≤ n ∧ v8 = .int .i64 i ∧ Aside0 (x.length = n) ∧ Aside0 (x.Perm l) ∧ Aside0 (Kd.R k69 69 wr w0.heap.size (fun _ => True) (.slice (some ⟨g, 0, none⟩) n cap) x) ∧ Aside0 (Below w0.heap.size w0 wr)) (fun v8 _ => n - (intOf v8).toNat)
  case atStart => exact ⟨1, l, by omega, by omega, by go_num, HN, ⟨List.Perm.refl _⟩, HR, HB⟩
  case round =>
    clear HR HB
    obtain ⟨i, x, hi1, hi2, rfl, HX, HI, HR, HB⟩ := hrel
    obtain ⟨w1, rfl⟩ : ∃ w1 : World, w1 = wr := ⟨_, rfl⟩
    by_cases hlt : i < n
    · go_wp2
      go_loopw [9] (fun v9 wr => ∃ (j : Nat) (y : List P2), j ≤ i ∧ v9 = .int .i64 j ∧ Aside0 (y.length = n) ∧ Aside0 (y.Perm l) ∧ Aside0 (Kd.R k69 69 wr w0.heap.size (fun _ => True) (.slice (some ⟨g, 0, none⟩) n cap) y) ∧ Aside0 (Below w0.heap.size w0 wr)) (fun v9 _ => (intOf v9).toNat)
      case atStart => exact ⟨i, x, Nat.le_refl _, rfl, HX, HI, HR, HB⟩
      case round =>
        clear HR HB HX HI
        obtain ⟨j, y, hj, rfl, HY, HD, HR, HB⟩ := hrel
        obtain ⟨w2, rfl⟩ : ∃ w2 : World, w2 = wr := ⟨_, rfl⟩
        cases j with
        | zero =>
          have hz0 : ((0 : Nat) : Int) = 0 := rfl
          rw [hz0]
          go_wp2_with fail
          go_quiet (fail)
          go_wp2
          go_roundw
          case rel => exact ⟨i + 1, y, by omega, by omega, by go_num, HY, HD, ⟨Kd.R_drewN HR.out nq⟩, ⟨pw_below_drewN HB.out nq⟩⟩
          case measure => simp [intOf]; omega
        | succ j =>
          have hyl := HY.out
          have hC := (Kd.R_reads' HR.out).2.2
          obtain ⟨a, ea, p0, p1⟩ := at_P2 hC (j + 1) (by omega)
          obtain ⟨b, eb, q0, q1⟩ := at_P2 hC j (by omega)
          clear hyl hC
          obtain rfl : (⟨g, 0, none⟩ : Addr) = a := by injection ea
          obtain rfl : (⟨g, 0, none⟩ : Addr) = b := by injection eb
          clear ea eb
          rw [add0] at p0 p1 q0 q1
          have e3 : IntKind.i64.wrap ((j : Int) + 1 - 1) = (j : Int) := by rw [IntWalk.i64_in _ (by omega)]; omega
          have e4 : IntKind.i64.wrap (j : Int) = (j : Int) := IntWalk.i64_in _ (by omega)
          have hji : (j : Int) + 1 < (n : Int) := by omega
          have hjk : 0 ≤ (j : Int) + 1 := by omega
          have hjj : (j : Int) < (n : Int) := by omega
          have hj0 : 0 < (j : Int) + 1 := by omega
          have hjt : ((j : Int) + 1).toNat = j + 1 := by omega
          have ht0 : ((j + 1 : Nat) : Int) = (j : Int) + 1 := by omega
          have HP : Aside0 (w2.cell? ⟨g, (j + 1) * 2, none⟩ = some (.int .i64 ((gtd y (j + 1)).1 : Int)) ∧ w2.cell? ⟨g, (j + 1) * 2 + 1, none⟩ = some (.int .i64 ((gtd y (j + 1)).2 : Int))) := ⟨p0, p1⟩
          have HQ : Aside0 (w2.cell? ⟨g, j * 2, none⟩ = some (.int .i64 ((gtd y j).1 : Int)) ∧ w2.cell? ⟨g, j * 2 + 1, none⟩ = some (.int .i64 ((gtd y j).2 : Int))) := ⟨q0, q1⟩
          clear p0 p1 q0 q1
          obtain ⟨u, hu⟩ : ∃ u, gtd y (j + 1) = u := ⟨_, rfl⟩
          obtain ⟨v, hv⟩ : ∃ v, gtd y j = v := ⟨_, rfl⟩
          have HU := Aside0.mk hu
          have HV := Aside0.mk hv
          rw [hu] at HP
          rw [hv] at HQ
          clear hu hv
          have C := Aside0.mk (fun (W : World) => clo_calls u v W)
          obtain ⟨u1, u2⟩ := u
          obtain ⟨v1, v2⟩ := v
          dsimp only at HP HQ C
          rw [ht0]
          have p0 := HP.out.1
          have p1 := HP.out.2
          have q0 := HQ.out.1
          have q1 := HQ.out.2
          have HRI : Aside0 (Kd.R k69 69 w2 w0.heap.size (fun _ => True) (.slice (some ⟨g, 0, none⟩) n cap) y) := HR
          go_upto_region 4 with (fail)
          go_region_held3 (fun w' => w'.cell? ⟨g, (j + 1) * 2, none⟩ = some (.int .i64 (u1 : Int)) ∧ w'.cell? ⟨g, (j + 1) * 2 + 1, none⟩ = some (.int .i64 (u2 : Int)) ∧ w'.cell? ⟨g, j * 2, none⟩ = some (.int .i64 (v1 : Int)) ∧ w'.cell? ⟨g, j * 2 + 1, none⟩ = some (.int .i64 (v2 : Int)))
              (first
                | go_keep
                | (refine ⟨?_, ?_, ?_, ?_⟩
                   · exact (hbI.out.cell (World.block_lt_of_cell? _ _ HP.out.1)).trans HP.out.1
                   · exact (hbI.out.cell (World.block_lt_of_cell? _ _ HP.out.2)).trans HP.out.2
                   · exact (hbI.out.cell (World.block_lt_of_cell? _ _ HQ.out.1)).trans HQ.out.1
                   · exact (hbI.out.cell (World.block_lt_of_cell? _ _ HQ.out.2)).trans HQ.out.2))
              (first | (go_at_call 67; refine (C.out _).mono ?_; rintro e wI ⟨⟨r, rfl⟩, hbI0⟩; have hbI := Aside0.mk hbI0; clear hbI0))
          clear C p0 p1 q0 q1
          by_cases hc : r < 0
          · have hcd : decide (r < 0) = true := decide_eq_true hc
            go_wp2
            clear hc hcd
            have p0 := (hbI.out.cell (World.block_lt_of_cell? _ _ HP.out.1)).trans HP.out.1
            have p1 := (hbI.out.cell (World.block_lt_of_cell? _ _ HP.out.2)).trans HP.out.2
            have q0 := (hbI.out.cell (World.block_lt_of_cell? _ _ HQ.out.1)).trans HQ.out.1
            have q1 := (hbI.out.cell (World.block_lt_of_cell? _ _ HQ.out.2)).trans HQ.out.2
            have HR17 : Kd.R k69 69 wI.drew w0.heap.size (fun _ => True) (.slice (some ⟨g, 0, none⟩) n cap) y := Kd.R_drew (Kd.R_below (Kd.R_drew HRI.out) hbI.out)
            have HB17 : Below w0.heap.size w0 wI.drew := below_drew ((below_drew HB.out).trans (hbI.out.mono (below_drew HB.out).size))
            have hgb : w0.heap.size ≤ g := Kd.R_base HR17 g rfl
            obtain ⟨g', q', hv', _, _, cells, hcells⟩ := Kd.R_form HR17 (by rw [HY.out]; omega)
            obtain rfl : g = g' := by injection hv' with h1 h2 h3; injection h1 with h1; injection h1
            have f0 := blk_frozen hcells ((j + 1) * 2)
            have f1 := blk_frozen hcells ((j + 1) * 2 + 1)
            have f3 := blk_frozen hcells (j * 2)
            have f4 := blk_frozen hcells (j * 2 + 1)
            have P0 : wI.drew.cell? ⟨g, (j + 1) * 2, none⟩ = some (.int .i64 (u1 : Int)) := p0
            have P1 : wI.drew.cell? ⟨g, (j + 1) * 2 + 1, none⟩ = some (.int .i64 (u2 : Int)) := p1
            have Q0 : wI.drew.cell? ⟨g, j * 2, none⟩ = some (.int .i64 (v1 : Int)) := q0
            have Q1 : wI.drew.cell? ⟨g, j * 2 + 1, none⟩ = some (.int .i64 (v2 : Int)) := q1
            have HR18 := R_set2 HR17 (j + 1) (by omega) (u1, u2) P0 P1 (v1, v2)
            have R0 := (cell2 wI.drew g ((j + 1) * 2) (j * 2) (.int .i64 (v1 : Int)) (.int .i64 (v2 : Int)) (by omega)).trans Q0
            have R1 := (cell2 wI.drew g ((j + 1) * 2) (j * 2 + 1) (.int .i64 (v1 : Int)) (.int .i64 (v2 : Int)) (by omega)).trans Q1
            have HR19 := R_set2 HR18 j (by omega) (v1, v2) R0 R1 (u1, u2)
            have eswp : (y.set (j + 1) (v1, v2)).set j (u1, u2) = swp y j := by unfold swp; rw [HU.out, HV.out]
            rw [eswp] at HR19
            have HRF := Aside0.mk HR19
            have HDN : Aside0 ((swp y j).Perm l) := ⟨(swp_perm j y (by rw [HY.out]; omega)).trans HD.out⟩
            have HYS : Aside0 ((swp y j).length = n) := ⟨by rw [swp_len, HY.out]⟩
            clear eswp
            have HBF := Aside0.mk HB17
            clear HR17 HR18 HR19 HB17 hcells hv'
            refine start_ (n := 18) (S := fun w' => w'.cell? ⟨g, (j + 1) * 2, none⟩ = some (.int .i64 (u1 : Int)) ∧ w'.cell? ⟨g, (j + 1) * 2 + 1, none⟩ = some (.int .i64 (u2 : Int)) ∧ w'.cell? ⟨g, j * 2, none⟩ = some (.int .i64 (v1 : Int)) ∧ w'.cell? ⟨g, j * 2 + 1, none⟩ = some (.int .i64 (v2 : Int))) (ds := [15, 17]) #[false, false, false, false, false, false, false, false, false, false, false, false, false, false, false, false, false, false] (by kernel_rfl) rfl rfl ⟨p0, p1, q0, q1⟩ (fun hHeld => ?_); refine with_tabW ins_tab6 ins_bits6 (fun HT_ HW_ => ?_)
            generalize wI.drew = w17 at *
            refine pure_ (i := 0) (N := some 37) (v := ?_) (a' := ?_) #[true, false, false, false, false, false, false, false, false, false, false, false, false, false, false, false, false, false] rfl rfl (any_of HT_.out (by kernel_rfl)) (fun _ _ _ h => h) (Or.inl ⟨by rfl, ?_⟩) ?_ ?_
            rotate_left
            · intro w'
              go_simp
              with_reducible rfl
            rotate_left
            · simp only [Act.put, List.setIfInBounds_toArray, List.set_cons_zero, List.set_cons_succ, i64_w, i32_w]
              rfl
            refine pure_ (i := 1) (N := some 38) (v := ?_) (a' := ?_) #[true, true, false, false, false, false, false, false, false, false, false, false, false, false, false, false, false, false] rfl rfl (any_of HT_.out (by kernel_rfl)) (fun _ _ _ h => h) (Or.inl ⟨by rfl, ?_⟩) ?_ ?_
            rotate_left
            · intro w'
              go_simp
              with_reducible rfl
            rotate_left
            · simp only [Act.put, List.setIfInBounds_toArray, List.set_cons_zero, List.set_cons_succ, i64_w, i32_w]
              rfl
            refine pure_ (i := 2) (N := some 39) (v := ?_) (a' := ?_) #[true, true, true, false, false, false, false, false, false, false, false, false, false, false, false, false, false, false] rfl rfl (any_of HT_.out (by kernel_rfl)) (fun _ _ _ h => h) (Or.inl ⟨by rfl, ?_⟩) ?_ ?_
            rotate_left
            · intro w'
              go_simp
              with_reducible rfl
            rotate_left
            · simp only [Act.put, List.setIfInBounds_toArray, List.set_cons_zero, List.set_cons_succ, i64_w, i32_w]
              rfl
            refine pure_ (i := 3) (N := some 40) (v := ?_) (a' := ?_) #[true, true, true, true, false, false, false, false, false, false, false, false, false, false, false, false, false, false] rfl rfl (any_of HT_.out (by kernel_rfl)) (fun _ _ _ h => h) (Or.inl ⟨by rfl, ?_⟩) ?_ ?_
            rotate_left
            · intro w'
              go_simp
              with_reducible rfl
            rotate_left
            · simp only [Act.put, List.setIfInBounds_toArray, List.set_cons_zero, List.set_cons_succ, i64_w, i32_w]
              rfl
            refine pure_ (i := 4) (N := some 41) (v := ?_) (a' := ?_) #[true, true, true, true, true, false, false, false, false, false, false, false, false, false, false, false, false, false] rfl rfl (any_of HT_.out (by kernel_rfl)) (fun _ _ _ h => h) (Or.inl ⟨by rfl, ?_⟩) ?_ ?_
            rotate_left
            · intro w'
              go_simp
              with_reducible rfl
            rotate_left
            · simp only [Act.put, List.setIfInBounds_toArray, List.set_cons_zero, List.set_cons_succ, i64_w, i32_w]
              rfl
            refine pure_ (i := 5) (N := some 42) (v := ?_) (a' := ?_) #[true, true, true, true, true, true, false, false, false, false, false, false, false, false, false, false, false, false] rfl rfl (any_of HT_.out (by kernel_rfl)) (fun _ _ _ h => h) (Or.inl ⟨by rfl, ?_⟩) ?_ ?_
            rotate_left
            · intro w'
              go_simp
              with_reducible rfl
            rotate_left
            · simp only [Act.put, List.setIfInBounds_toArray, List.set_cons_zero, List.set_cons_succ, i64_w, i32_w]
              rfl
            refine pure_ (i := 6) (N := some 43) (v := ?_) (a' := ?_) #[true, true, true, true, true, true, true, false, false, false, false, false, false, false, false, false, false, false] rfl rfl (any_of HT_.out (by kernel_rfl)) (fun _ _ _ h => h) (Or.inl ⟨by rfl, ?_⟩) ?_ ?_
            rotate_left
            · intro w'
              go_simp
              with_reducible rfl
            rotate_left
            · simp only [Act.put, List.setIfInBounds_toArray, List.set_cons_zero, List.set_cons_succ, i64_w, i32_w]
              rfl
            refine pure_ (i := 7) (N := some 44) (v := ?_) (a' := ?_) #[true, true, true, true, true, true, true, true, false, false, false, false, false, false, false, false, false, false] rfl rfl (any_of HT_.out (by kernel_rfl)) (fun _ _ _ h => h) (Or.inl ⟨by rfl, ?_⟩) ?_ ?_
            rotate_left
            · intro w'
              go_simp
              with_reducible rfl
            rotate_left
            · simp only [Act.put, List.setIfInBounds_toArray, List.set_cons_zero, List.set_cons_succ, i64_w, i32_w]
              rfl
            refine pure_ (i := 8) (N := some 45) (v := ?_) (a' := ?_) #[true, true, true, true, true, true, true, true, true, false, false, false, false, false, false, false, false, false] rfl rfl (any_of HT_.out (by kernel_rfl)) (fun _ _ _ h => h) (Or.inl ⟨by rfl, ?_⟩) ?_ ?_
            rotate_left
            · intro w'
              go_simp
              with_reducible rfl
            rotate_left
            · simp only [Act.put, List.setIfInBounds_toArray, List.set_cons_zero, List.set_cons_succ, i64_w, i32_w]
              rfl
            refine pure_ (i := 10) (N := some 47) (v := ?_) (a' := ?_) #[true, true, true, true, true, true, true, true, true, false, true, false, false, false, false, false, false, false] rfl rfl (any_of HT_.out (by kernel_rfl)) (fun _ _ _ h => h) (Or.inl ⟨by rfl, ?_⟩) ?_ ?_
            rotate_left
            · intro w'
              go_simp
              with_reducible rfl
            rotate_left
            · simp only [Act.put, List.setIfInBounds_toArray, List.set_cons_zero, List.set_cons_succ, i64_w, i32_w]
              rfl
            refine pure_ (i := 11) (N := some 48) (v := ?_) (a' := ?_) #[true, true, true, true, true, true, true, true, true, false, true, true, false, false, false, false, false, false] rfl rfl (any_of HT_.out (by kernel_rfl)) (fun _ _ _ h => h) (Or.inl ⟨by rfl, ?_⟩) ?_ ?_
            rotate_left
            · intro w'
              go_simp
              with_reducible rfl
            rotate_left
            · simp only [Act.put, List.setIfInBounds_toArray, List.set_cons_zero, List.set_cons_succ, i64_w, i32_w]
              rfl
            refine pure_ (i := 12) (N := some 49) (v := ?_) (a' := ?_) #[true, true, true, true, true, true, true, true, true, false, true, true, true, false, false, false, false, false] rfl rfl (any_of HT_.out (by kernel_rfl)) (fun _ _ _ h => h) (Or.inl ⟨by rfl, ?_⟩) ?_ ?_
            rotate_left
            · intro w'
              go_simp
              with_reducible rfl
            rotate_left
            · simp only [Act.put, List.setIfInBounds_toArray, List.set_cons_zero, List.set_cons_succ, i64_w, i32_w]
              rfl
            refine take_ (i := 9) (N := some 46) (v := ?_) (a' := ?_) #[true, true, true, true, true, true, true, true, true, true, true, true, true, false, false, false, false, false] rfl rfl (take_ofW HT_.out HW_.out (by kernel_rfl)) (fun _ _ _ h => h) (Or.inl ⟨by rfl, ?_⟩) hHeld ?_ ?_
            rotate_left
            · rintro w' ⟨s0, s1, s2, s3⟩
              go_simp
              with_reducible rfl
            rotate_left
            · simp only [Act.put, List.setIfInBounds_toArray, List.set_cons_zero, List.set_cons_succ, i64_w, i32_w]
              rfl
            refine take_ (i := 13) (N := some 50) (v := ?_) (a' := ?_) #[true, true, true, true, true, true, true, true, true, true, true, true, true, true, false, false, false, false] rfl rfl (take_ofW HT_.out HW_.out (by kernel_rfl)) (fun _ _ _ h => h) (Or.inl ⟨by rfl, ?_⟩) hHeld ?_ ?_
            rotate_left
            · rintro w' ⟨s0, s1, s2, s3⟩
              go_simp
              with_reducible rfl
            rotate_left
            · simp only [Act.put, List.setIfInBounds_toArray, List.set_cons_zero, List.set_cons_succ, i64_w, i32_w]
              rfl
            refine pure_ (i := 14) (N := some 51) (v := ?_) (a' := ?_) #[true, true, true, true, true, true, true, true, true, true, true, true, true, true, true, false, false, false] rfl rfl (any_of HT_.out (by kernel_rfl)) (fun _ _ _ h => h) (Or.inl ⟨by rfl, ?_⟩) ?_ ?_
            rotate_left
            · intro w'
              go_simp
              with_reducible rfl
            rotate_left
            · simp only [Act.put, List.setIfInBounds_toArray, List.set_cons_zero, List.set_cons_succ, i64_w, i32_w]
              rfl
            refine last_ (i := 15) (N := none) #[true, true, true, true, true, true, true, true, true, true, true, true, true, true, true, true, false, false] rfl rfl (one_of HT_.out (by kernel_rfl)) (by decide) (fun K hK => ?_)
            refine skip_ (w1 := ?_) (by rfl) rfl ?_ ?_
            rotate_left
            · go_simp
              rfl
            refine hK.out _ _ ?_
            clear hK K
            refine pure_ (i := 16) (N := some 52) (v := ?_) (a' := ?_) #[true, true, true, true, true, true, true, true, true, true, true, true, true, true, true, true, true, false] rfl rfl (any_of HT_.out (by kernel_rfl)) (fun _ _ _ h => h) (Or.inl ⟨by rfl, ?_⟩) ?_ ?_
            rotate_left
            · intro w'
              go_simp
              with_reducible rfl
            rotate_left
            · simp only [Act.put, List.setIfInBounds_toArray, List.set_cons_zero, List.set_cons_succ, i64_w, i32_w]
              rfl
            refine last_ (i := 17) (N := none) #[true, true, true, true, true, true, true, true, true, true, true, true, true, true, true, true, true, true] rfl rfl (one_of HT_.out (by kernel_rfl)) (by decide) (fun K hK => ?_)
            refine skip_ (w1 := ?_) (by rfl) rfl ?_ ?_
            rotate_left
            · go_simp
              rfl
            refine hK.out _ _ ?_
            clear hK K
            refine done_ (done_of HT_.out (by kernel_rfl)) ?_
            try go_wp2
            go_roundw
            case rel => exact ⟨j, swp y j, by omega, rfl, HYS, HDN, HRF, ⟨(((HBF.out.setCell hgb _).setCell hgb _).setCell hgb _).setCell hgb _⟩⟩
            case measure => simp [intOf]
          · have hcd : decide (r < 0) = false := decide_eq_false hc
            go_wp2
            go_roundw
            case rel => exact ⟨i + 1, y, by omega, by omega, by go_num, HY, HD, ⟨Kd.R_below (Kd.R_drew HRI.out) hbI.out⟩, ⟨(below_drew HB.out).trans (hbI.out.mono (below_drew HB.out).size)⟩⟩
            case measure => simp [intOf]; omega
    · go_wp2
      exact bodyPost_end (results_none rfl _ _ _) rfl ⟨x, rfl, HI.out, HR.out, HB.out⟩
end Go.Proofs.Ytaalafnkglbcpaa.SY
end

/- slices.SortFunc of at most 12 pairs: the insertion sort alone. Own text of this claim. -/
section
namespace Go.Proofs.Ytaalafnkglbcpaa.SY
open Go.RowKit Go.WideMaps Go.Maps Go.Proofs.YtaalafnkglbcpaaW.PrintWords Go.Proofs.YtaalafnkglbcpaaW.PrintLast Go.Proofs.YtaalafnkglbcpaaW.PrintMore
set_option linter.unusedVariables false
set_option linter.unusedSimpArgs false
set_option maxRecDepth 100000 in
set_option maxHeartbeats 1000000 in
theorem len64_calls (n : Nat) (h : n ≤ 12) (w : World) : Calls Try.prog 103 #[.int .u64 (n : Int)] w fun e w' => (∃ r : Int, e = .returned (.int .i64 r)) ∧ w' = w := by
  have hn : n = 0 ∨ n = 1 ∨ n = 2 ∨ n = 3 ∨ n = 4 ∨ n = 5 ∨ n = 6 ∨ n = 7 ∨ n = 8 ∨ n = 9 ∨ n = 10 ∨ n = 11 ∨ n = 12 := by omega
  rcases hn with rfl | rfl | rfl | rfl | rfl | rfl | rfl | rfl | rfl | rfl | rfl | rfl | rfl
  all_goals
    go_enter Try.func103, Try.ntmps103
    go_wp2
    go_ret
    exact ⟨⟨_, rfl⟩, rfl⟩
set_option maxRecDepth 100000 in
set_option maxHeartbeats 1000000 in
theorem len_calls (n : Nat) (h : n ≤ 12) (w : World) : Calls Try.prog 86 #[.int .u64 (n : Int)] w fun e w' => (∃ r : Int, e = .returned (.int .i64 r)) ∧ w' = w := by
  have hw : IntKind.u64.wrap (n : Int) = n := IntWalk.u64_in _ (by omega)
  go_enter Try.func86, Try.ntmps86
  go_wp2_with fail
  (with_reducible refine (len64_calls n h _).mono ?_)
  rintro e w1 ⟨⟨r, rfl⟩, rfl⟩
  go_wp2
  go_ret
  exact ⟨⟨_, rfl⟩, rfl⟩
set_option maxRecDepth 100000 in
set_option maxHeartbeats 4000000 in
theorem pdq_calls (g cap : Nat) (l : List P2) (lim : Int) (w0 w : World) (hr : Kd.R k69 69 w w0.heap.size (fun _ => True) (.slice (some ⟨g, 0, none⟩) l.length cap) l) (hB : Below w0.heap.size w0 w) (h1 : 1 ≤ l.length) (h12 : l.length ≤ 12) :
    Calls Try.prog 85 #[.slice (some ⟨g, 0, none⟩) l.length cap, .int .i64 0, .int .i64 l.length, .int .i64 lim, .func (.func 67) #[] #[]] w fun e w' => ∃ l', e = .returned (.tuple #[]) ∧ l'.Perm l ∧ Kd.R k69 69 w' w0.heap.size (fun _ => True) (.slice (some ⟨g, 0, none⟩) l.length cap) l' ∧ Below w0.heap.size w0 w' := by
  have C1 := Aside0.mk (ins_calls g cap l w0 w hr hB h1 (by omega))
  clear hr hB
  obtain ⟨n, hn⟩ : ∃ n, l.length = n := ⟨_, rfl⟩
  rw [hn] at C1 h1 h12 ⊢
  clear hn
  have b1 : (n : Int) ≤ 12 := by omega
  have b3 : decide ((n : Int) ≤ 12) = true := decide_eq_true b1
  go_enter Try.func85, Try.ntmps85
  go_wp2
  refine wp_loop_rounds 1 ?_
  rw [rounds_succ]
  go_wp2_with fail
  (with_reducible refine C1.out.mono ?_)
  rintro e w1 ⟨l', rfl, hp, hr, hb⟩
  have HP := Aside0.mk hp
  have HR := Aside0.mk hr
  have HB := Aside0.mk hb
  clear hp hr hb
  go_wp2
  exact bodyPost_ret (results_none rfl _ _ _) rfl ⟨l', rfl, HP.out, HR.out, HB.out⟩
set_option maxRecDepth 100000 in
set_option maxHeartbeats 4000000 in
theorem sort_calls (g cap : Nat) (l : List P2) (w0 w : World) (hr : Kd.R k69 69 w w0.heap.size (fun _ => True) (.slice (some ⟨g, 0, none⟩) l.length cap) l) (hB : Below w0.heap.size w0 w) (h1 : 1 ≤ l.length) (h12 : l.length ≤ 12) :
    Calls Try.prog 66 #[.slice (some ⟨g, 0, none⟩) l.length cap, .func (.func 67) #[] #[]] w fun e w' => ∃ l', e = .returned (.tuple #[]) ∧ l'.Perm l ∧ Kd.R k69 69 w' w0.heap.size (fun _ => True) (.slice (some ⟨g, 0, none⟩) l.length cap) l' ∧ Below w0.heap.size w0 w' := by
  have C1 := Aside0.mk (fun (lim : Int) => pdq_calls g cap l lim w0 w hr hB h1 h12)
  have C2 := Aside0.mk (len_calls l.length h12)
  clear hr hB
  obtain ⟨n, hn⟩ : ∃ n, l.length = n := ⟨_, rfl⟩
  rw [hn] at C1 C2 h1 h12 ⊢
  clear hn
  have hw : IntKind.u64.wrap (n : Int) = n := IntWalk.u64_in _ (by omega)
  go_enter Try.func66, Try.ntmps66
  go_wp2_with fail
  (with_reducible refine (C2.out _).mono ?_)
  rintro e w1 ⟨⟨r, rfl⟩, rfl⟩
  go_wp2_with fail
  (with_reducible refine (C1.out _).mono ?_)
  rintro e w2 ⟨l', rfl, hp, hr, hb⟩
  have HP := Aside0.mk hp
  have HR := Aside0.mk hr
  have HB := Aside0.mk hb
  clear hp hr hb
  go_wp2
  exact bodyPost_end (results_none rfl _ _ _) rfl ⟨l', rfl, HP.out, HR.out, HB.out⟩
end Go.Proofs.Ytaalafnkglbcpaa.SY
end

/- equal.Cert (37), walked by hand up to the sort: all pairs that are reached. Own text of this claim. -/
section
namespace Go.Proofs.Ytaalafnkglbcpaa.SY
open Go.RowKit Go.WideMaps Go.Maps Go.Proofs.YtaalafnkglbcpaaW.PrintWords Go.Proofs.YtaalafnkglbcpaaW.PrintLast Go.Proofs.YtaalafnkglbcpaaW.PrintMore
open Go.Proofs.Ytaalafnkglbcpaa.PL (S77 z77 k77 Tab TabR roww cel OKT wpList_insert_own info3)
open Go.Proofs.Ytaalafnkglbcpaa.PG (Apart)
set_option linter.unusedVariables false
set_option linter.unusedSimpArgs false
theorem zero4 (w : World) : (zeroValue 4).run Try.prog w = .ok (.bool false) w := by kernel_rfl
set_option maxRecDepth 100000 in
/-- A set of pairs that the call made: what a look-up says. -/
theorem set_look {W : World} {b m : Nat} {D : DataW Value} {reps : List P2} (hom : W.ownsMap Try.prog 69 heldE b m D) (hv : MapV D (reps.map litP) (reps.map fun _ => .bool true)) (hs : ∀ p ∈ reps, p.1 ≤ 100000 ∧ p.2 ≤ 100000) {q : P2} (hq : q.1 ≤ 100000 ∧ q.2 ≤ 100000) :
    (Instr.lookup 111 (.map (some b)) (pval q) false).run Try.prog W = .ok (.bool (decide (q ∈ reps))) W := by
  obtain ⟨v, ps, h1, h2⟩ := hom.lookup lawP Try.underlying111 (zero4 _) (zd := .held (.bool false)) (zp := []) rfl (key_p q hq.1 hq.2)
  by_cases hm : q ∈ reps
  · rw [decide_eq_true hm]
    obtain ⟨k, hk, rfl⟩ := List.getElem_of_mem hm
    have h3 := hv.at' k (litP reps[k]) (.bool true) (by rw [List.getElem?_map, List.getElem?_eq_getElem hk]; rfl) (by rw [List.getElem?_map, List.getElem?_eq_getElem hk]; rfl)
    rw [h3] at h2
    unfold heldE at h2
    injection h2 with h2
    injection h2 with h2 _
    injection h2 with h2
    subst h2
    exact h1
  · rw [decide_eq_false hm]
    have hh : Maps.has D (litP q) = false := by
      cases h : Maps.has D (litP q)
      · rfl
      · obtain ⟨p', h3, h4⟩ := List.mem_map.1 ((hv.has _).1 h)
        exact absurd (litP_inj (hs p' h3) hq h4 ▸ h3) hm
    rw [Maps.atKey_of_not_has hh] at h2
    unfold heldE at h2
    injection h2 with h2
    injection h2 with h2 _
    injection h2 with h2
    subst h2
    exact h1
structure BInv (w1 W : World) (m : Nat) (D : DataW Value) (v10 : Value) (todo : List P2) (v11 : Value) (out : List P2) : Prop where
  hb : Below w1.heap.size w1 W
  om : W.ownsMap Try.prog 69 heldE w1.heap.size m D
  td : Kd.Q k69 69 W (w1.heap.size + 1) (fun _ => True) v10 todo
  ro : Kd.R k69 69 W (w1.heap.size + 1) (fun _ => True) v11 out
  ap : Apart v10 v11
section
variable {w1 W W' : World} {m m' : Nat} {D D' : DataW Value} {v10 v10' v11 v11' : Value} {todo todo' out out' : List P2}
theorem BInv.size (h : BInv w1 W m D v10 todo v11 out) : w1.heap.size + 1 ≤ W.heap.size := by have := h.om.lt; omega
theorem BInv.below (h : BInv w1 W m D v10 todo v11 out) (hb : Below W.heap.size W W') : BInv w1 W' m D v10 todo v11 out :=
  ⟨h.hb.trans (hb.mono h.hb.size), owns_below' h.om hb, Kd.Q_below h.td hb, Kd.R_below h.ro hb, h.ap⟩
theorem BInv.popTodo (h : BInv w1 W m D v10 todo v11 out) (hq : Kd.Q k69 69 W (w1.heap.size + 1) (fun _ => True) v10' todo') (he : v10'.ownBlock = v10.ownBlock) : BInv w1 W m D v10' todo' v11 out :=
  ⟨h.hb, h.om, hq, h.ro, fun k hk => h.ap k (by rw [← he]; exact hk)⟩
theorem BInv.addTodo (h : BInv w1 W m D v10 todo v11 out) (hq : Kd.Q k69 69 W' (w1.heap.size + 1) (fun _ => True) v10' todo') (hg : W.grownBy W' v10.ownBlock) (hat : v10'.ownBlock = v10.ownBlock ∨ ∃ b, v10'.ownBlock = some b ∧ W.heap.size ≤ b) : BInv w1 W' m D v10' todo' v11 out := by
  have hz := h.size
  have lo : ∀ k, v10.ownBlock = some k → w1.heap.size + 1 ≤ k := fun k hk => Kd.Q_base h.td k hk
  refine ⟨h.hb.grown hg h.hb.size (fun k hk => by have := lo k hk; omega), h.om.kept hg (fun e => by have := lo _ e.symm; omega), hq,
    Kd.R_mono (Kd.R_grown (Kd.R_tight rfl h.ro) hg (fun k hk e => h.ap k e.symm hk.symm)) (fun _ _ => trivial), fun k hk hk' => ?_⟩
  rcases hat with e | ⟨b, e, hb⟩
  · exact h.ap k (by rw [← e]; exact hk) hk'
  · rw [e] at hk; injection hk with hk
    have := Kd.R_lt h.ro k hk'
    omega
theorem BInv.addOut (h : BInv w1 W m D v10 todo v11 out) (hr : Kd.R k69 69 W' (w1.heap.size + 1) (fun _ => True) v11' out') (hg : W.grownBy W' v11.ownBlock) (hat : v11'.ownBlock = v11.ownBlock ∨ ∃ b, v11'.ownBlock = some b ∧ W.heap.size ≤ b) : BInv w1 W' m D v10 todo v11' out' := by
  have hz := h.size
  have lo : ∀ k, v11.ownBlock = some k → w1.heap.size + 1 ≤ k := fun k hk => Kd.R_base h.ro k hk
  refine ⟨h.hb.grown hg h.hb.size (fun k hk => by have := lo k hk; omega), h.om.kept hg (fun e => by have := lo _ e.symm; omega),
    Kd.Q_mono (Kd.Q_grown (Kd.Q_tight rfl h.td) hg (fun k hk e => h.ap k hk.symm e.symm)) (fun _ _ => trivial), hr, fun k hk hk' => ?_⟩
  rcases hat with e | ⟨b, e, hb⟩
  · exact h.ap k hk (by rw [← e]; exact hk')
  · rw [e] at hk'; injection hk' with hk'
    have := Kd.Q_lt h.td k hk
    omega
theorem BInv.putMap (h : BInv w1 W m D v10 todo v11 out) (ho : W'.ownsMap Try.prog 69 heldE w1.heap.size m' D') (hg : W.grownBy W' (some w1.heap.size)) : BInv w1 W' m' D' v10 todo v11 out := by
  have hz := h.size
  exact ⟨h.hb.grown hg h.hb.size (fun k hk => by injection hk with hk; omega), ho, Kd.Q_grown1 h.td rfl hg (fun e => by have := Kd.Q_base h.td _ e.symm; omega), Kd.R_grown1 h.ro rfl hg (fun e => by have := Kd.R_base h.ro _ e.symm; omega), h.ap⟩
end
/-- What equal.Cert gives. -/
def CertPost (c : Cir) (t : Tab) (w : World) (e : Ending) (w' : World) : Prop :=
  ∃ (v : Value) (ps : List P2), e = .returned (.tuple #[v, .int .i64 0]) ∧ Below w.heap.size w w' ∧ Kd.R k69 69 w' w.heap.size (fun _ => True) v ps ∧ CertOk c t ps ∧ ps.length ≤ t.length ∧ (∀ p ∈ ps, p.1 = p.2 ∧ p.2 < t.length)
set_option maxHeartbeats 8000000 in
set_option maxRecDepth 100000 in
theorem cert_calls (w : World) (c : Cir) (Ag Ao An Ai : Option Addr) (cg co cn ci : Nat) (Ar : Option Addr) (cr : Nat) (t : Tab) (ok : c.Ok) (hin : c.In w Ag Ao An Ai cg co cn ci) (hT : OKT (c.ins : Int) (c.outs.length : Int) t) (hR : Kd.C (Kd.slice 77 k77) w Ar t.length t) (hcr : t.length ≤ cr) (hn3 : c.next.length ≤ 3) (h6 : t.length ≤ 6) (hd : Does c t) :
    Calls Try.prog 37 #[c.V Ag Ao An Ai cg co cn ci, .agg #[.int .i64 (c.ins : Int), .int .i64 (c.outs.length : Int), .slice Ar t.length cr]] w (CertPost c t w) := by
  have EC := Aside0.mk (fun W (hb : Below w.heap.size w W) => find_calls W c Ag Ao An Ai cg co cn ci Ar cr t ok (hin.below hb) hT (Kd.C_below hR hb) hcr hn3 h6)
  have SC := Aside0.mk (fun W (hb : Below w.heap.size w W) => start_calls W c Ag Ao An Ai cg co cn ci ok (hin.below hb))
  have hN := TabN.of hT
  have NON := Aside0.mk (does_none hd hN)
  have hi4 : c.ins ≤ 4 := by have := hT.i1; omega
  obtain ⟨M, hM⟩ : ∃ M, 2 ^ c.ins = M := ⟨_, rfl⟩
  have hMle : M ≤ 16 := by
    rw [← hM]; exact Nat.le_trans (Nat.pow_le_pow_right (by omega) hi4) (by decide)
  have HM2_ : Aside0 (wrap64 ((2 : Int) ^ c.ins) = (M : Int)) := ⟨by
    rw [show (2 : Int) ^ c.ins = ((2 ^ c.ins : Nat) : Int) from by simp, hM]
    unfold wrap64; omega⟩
  have NXB : Aside0 (∀ (p : P2) (x : Nat), p.1 = p.2 ∧ p.2 < t.length → x < M → (nx2 c t p x).1 = (nx2 c t p x).2 ∧ (nx2 c t p x).2 < t.length) := ⟨fun p x hp hx => (does_eq hd hN hp (by omega)).2⟩
  have ST := Aside0.mk (fun W (hb : Below w.heap.size w W) (p : P2) (x : Nat) (h1 : p.1 = p.2 ∧ p.2 < t.length) (hx : x < M) => estep_calls W c Ag Ao An Ai cg co cn ci Ar cr (c.ins : Int) (c.outs.length : Int) t p x ok (hin.below hb) (Kd.C_below hR hb) hcr
    (by have := h1.1; have := h1.2; have h20 : 6 < 2 ^ 20 := by decide
        omega) (Nat.lt_of_lt_of_le hx (Nat.le_trans hMle (by decide))) h1.2 (by rw [hN.row _ h1.2, hM]; exact hx) (hN.ok p.2 x h1.2 (by omega)).2.2.1)
  have FB0 : Aside0 (FB c t 0 [(c.start, 0)]) := ⟨FB.start⟩
  have DIAG : Aside0 (∀ i reps, FB c t i reps → ∀ p ∈ reps, p.1 = p.2 ∧ p.2 < t.length) := ⟨fun i reps h => h.diag hd hN⟩
  have CARD : Aside0 (∀ i reps, FB c t i reps → reps.length ≤ t.length) := ⟨fun i reps h => diag_card h.nd (DIAG.out i reps h)⟩
  have hs0 : c.start ≤ 100000 := by rw [hd.start]; omega
  have SMALL : Aside0 (∀ (i : Nat) (reps : List P2), FB c t i reps → ∀ p ∈ reps, p.1 ≤ 100000 ∧ p.2 ≤ 100000) := ⟨fun i reps h p hp => by have := DIAG.out i reps h p hp; omega⟩
  have HMM := Aside0.mk hM
  clear ok hin hT hR hN hM hd
  dsimp only [Cir.V] at EC SC ST ⊢
  have X1 := Aside0.mk (blk_alloc (blk_new w (Obj.cells #[.int .i64 (c.ins : Int), .slice Ag c.gs.length cg, .slice Ao c.outs.length co, .slice An c.next.length cn, .slice Ai c.init.length ci] 38)) (Obj.cells #[.int .i64 (c.ins : Int), .int .i64 (c.outs.length : Int), .slice Ar t.length cr] 25))
  have Y1 := Aside0.mk (blk_next w (Obj.cells #[.int .i64 (c.ins : Int), .slice Ag c.gs.length cg, .slice Ao c.outs.length co, .slice An c.next.length cn, .slice Ai c.init.length ci] 38) (Obj.cells #[.int .i64 (c.ins : Int), .int .i64 (c.outs.length : Int), .slice Ar t.length cr] 25))
  have HB1 := Aside0.mk (below_alloc (below_alloc (Below.refl w.heap.size w) (Obj.cells #[.int .i64 (c.ins : Int), .slice Ag c.gs.length cg, .slice Ao c.outs.length co, .slice An c.next.length cn, .slice Ai c.init.length ci] 38)) (Obj.cells #[.int .i64 (c.ins : Int), .int .i64 (c.outs.length : Int), .slice Ar t.length cr] 25))
  go_enter Try.func37, Try.ntmps37
  go_upto_region 1 with (fail)
  generalize (w.alloc (Obj.cells #[.int .i64 (c.ins : Int), .slice Ag c.gs.length cg, .slice Ao c.outs.length co, .slice An c.next.length cn, .slice Ai c.init.length ci] 38)).alloc (Obj.cells #[.int .i64 (c.ins : Int), .int .i64 (c.outs.length : Int), .slice Ar t.length cr] 25) = w2 at *
  obtain ⟨q0, q1, q2, q3, q4⟩ := box5 X1.out
  obtain ⟨p0, p1, p2⟩ := box3 Y1.out
  have CC := Aside0.mk (EC.out w2 HB1.out)
  go_wp2_with fail
  (with_reducible refine CC.out.mono ?_)
  rintro e w1 ⟨vf, bf, rfl, hb3, hcase⟩
  obtain ⟨rfl, rfl⟩ : bf = false ∧ vf = .slice none 0 0 := by
    rcases hcase with ⟨h1, h2, _⟩ | ⟨_, l, _, _, _, _, _, ht, _⟩
    · exact ⟨h1, h2⟩
    · exact (NON.out.no ht).elim
  have X4 := Aside0.mk (blk_below X1.out hb3)
  have Y4 := Aside0.mk (blk_below Y1.out hb3)
  have HB4 := Aside0.mk (HB1.out.trans (hb3.mono HB1.out.size))
  clear CC hb3 X1 Y1 HB1 q0 q1 q2 q3 q4 p0 p1 p2 EC hcase NON
  generalize hs00 : c.start = s0 at *
  have HS0 := Aside0.mk hs00
  clear hs00
  have hmm := @run_makeMap Try.prog
  have OM0 : Aside0 ((w1.alloc (Obj.map #[] 0)).ownsMap Try.prog 69 heldE w1.heap.size 0 (.map [])) := ⟨World.ownsMap_made w1 _ _ _⟩
  have HBo := Aside0.mk (below_alloc (Below.refl w1.heap.size w1) (Obj.map #[] 0))
  obtain ⟨w6, hw6⟩ : ∃ w6, w1.alloc (Obj.map #[] 0) = w6 := ⟨_, rfl⟩
  rw [hw6] at OM0 HBo
  have X6 := Aside0.mk (blk_below X4.out HBo.out)
  have HB6 := Aside0.mk (HB4.out.trans (HBo.out.mono HB4.out.size))
  obtain ⟨q0, q1, q2, q3, q4⟩ := box5 X6.out
  have SC6 := Aside0.mk (SC.out w6 HB6.out)
  go_wp2_with fail
  clear hw6
  (with_reducible refine SC6.out.mono ?_)
  rintro e w7 ⟨rfl, hb⟩
  have OM7 := Aside0.mk (owns_below' OM0.out hb)
  have HB7 := Aside0.mk (HBo.out.trans (hb.mono HBo.out.size))
  clear SC6 hb OM0 HBo X6 HB6 q0 q1 q2 q3 q4
  have hky := key_p (s0, 0) hs0 (by show 0 ≤ 100000; omega)
  have HKY := Aside0.mk hky
  have HKL := Aside0.mk (lawP.key hky)
  clear hky
  go_upto_region 7 with (first
    | (refine wpList_insert_own _ rfl (.tmp 28) (.tmp 31) (.const (.bool true)) 111 rfl 69 4 lawP Try.underlying111 heldE w1.heap.size 0 (.map []) rfl OM7.out (by unfold maxLen; omega) (.agg #[.int .i64 (s0 : Int), .int .i64 0]) (.bool true) _ rfl rfl HKY.out (.held (.bool true)) [] rfl ?_; intro w8 hown8 hgrow8; have OM8 := Aside0.mk hown8; have HB8 : Aside0 (Below w1.heap.size w1 w8) := ⟨HB7.out.grown hgrow8 HB7.out.size (fun k hk => by cases hk; omega)⟩; clear hown8 hgrow8))
  clear OM7 HB7
  have X8 := Aside0.mk (blk_below X4.out HB8.out)
  obtain ⟨q0, q1, q2, q3, q4⟩ := box5 X8.out
  have SC8 := Aside0.mk (SC.out w8 (HB4.out.trans (HB8.out.mono HB4.out.size)))
  go_wp2_with fail
  (with_reducible refine SC8.out.mono ?_)
  rintro e w9 ⟨rfl, hb⟩
  have OM9 := Aside0.mk (owns_below' OM8.out hb)
  have HB9 := Aside0.mk (HB8.out.trans (hb.mono HB8.out.size))
  clear SC8 SC hb OM8 HB8 X8 q0 q1 q2 q3 q4
  have HZ9 : Aside0 (w1.heap.size + 1 ≤ w9.heap.size) := ⟨by have := OM9.out.lt; omega⟩
  go_wp2_with (first
    | ((with_reducible refine gate_dst (N := 36) rfl ?_); refine Kd.R_lit k69 (w0 := w9) w9.heap.size 69 ?hg (N := 36) ?hd (xs := ([(s0, 0)] : List P2)) (inner := [.int .i64 (s0 : Int), .int .i64 0]) (ok := fun _ => True) (okp := fun _ => True) ?hr ?hp (fun _ hk => hk) trivial (Below.refl _ _) (Nat.le_refl _) (by simp) ?_; (case hd => rfl); (case hg => rfl); (case hr => first | (go_simp; done) | (go_simp; rfl)); (case hp => exact (Reps.c2 (k69_mkM _ _ _ (s0, 0)) (Reps.none _ _))); intro v8 w10 ho hb hg_ hnew_; have HQ8 := Aside0.mk ho; have HB8 := Aside0.mk hb; clear ho hb hg_ hnew_))
  have MV0 : Aside0 (MapV (DataW.put (.map []) (litP (s0, 0)) (.held (.bool true))) ([(s0, 0)].map litP) ([(s0, 0)].map fun _ => .bool true)) := ⟨MapV.start.put (k := litP (s0, 0)) HKL.out (by simp) _⟩
  have I0 : Aside0 (BInv w1 w10 1 (DataW.put (.map []) (litP (s0, 0)) (.held (.bool true))) v8 ([(s0, 0)].drop 0) (.slice none 0 0) ([(s0, 0)].take 0)) := ⟨{
    hb := HB9.out.trans (HB8.out.mono (by have := HZ9.out; omega)), om := owns_below' OM9.out HB8.out, td := Kd.Q_of_R (Kd.R_lower HQ8.out HZ9.out), ro := Kd.R_nil _ _ _ _ _, ap := fun k _ hk => by simp [Value.ownBlock] at hk }⟩
  clear HZ9 OM9 HB9 HB8 HQ8 HKY HKL
  go_loopg [10, 11] (t.length + 1) (fun kq v10 v11 wr => ∃ (i m : Nat) (reps : List P2) (D : DataW Value), kq + i = t.length + 1 ∧ m ≤ reps.length ∧ Aside0 (BInv w1 wr m D v10 (reps.drop i) v11 (reps.take i)) ∧ Aside0 (MapV D (reps.map litP) (reps.map fun _ => .bool true)) ∧ Aside0 (FB c t i reps))
  case atStart => exact ⟨0, 1, [(s0, 0)], _, by omega, by simp, I0, MV0, FB0⟩
  case round =>
    obtain ⟨i, m, reps, D, hki, hm, HM, MV, HF⟩ := hrel
    obtain ⟨w9, rfl⟩ : ∃ w9 : World, w9 = wr := ⟨_, rfl⟩
    clear I0 MV0 FB0
    have hrl := CARD.out _ _ HF.out
    have hir := HF.out.le
    obtain ⟨A8, q8, hv8, hq8⟩ := Kd.Q_slice HM.out.td
    have hl8 : (reps.drop i).length = reps.length - i := by rw [List.length_drop]
    rw [hl8] at hv8
    subst hv8
    by_cases hlt : i < reps.length
    · obtain ⟨k1, hk1⟩ : ∃ k1, gk = k1 + 1 := ⟨gk - 1, by omega⟩
      obtain ⟨g8, o8, q88, hv8, _⟩ := Kd.Q_form HM.out.td (by rw [hl8]; omega)
      rw [hl8] at hv8
      injection hv8 with e8 e87 e88
      clear e87
      subst e8
      subst e88
      have hc8 := (Kd.Q_reads' HM.out.td).2.2
      obtain ⟨a8, e8, hx0, hx1⟩ := at_P2 hc8 0 (by rw [hl8]; omega)
      obtain rfl : a8 = ⟨g8, o8, none⟩ := by injection e8 with e8; exact e8.symm
      rw [show (reps.drop i).getD 0 (0, 0) = reps.getD i (0, 0) from by rw [List.getD_eq_getElem?_getD, List.getElem?_drop, Nat.add_zero, ← List.getD_eq_getElem?_getD]] at hx0 hx1
      have hpt := DIAG.out _ _ HF.out _ (getD_mem2 (z := (0, 0)) hlt)
      have HTK : Aside0 (reps.take i ++ [reps.getD i (0, 0)] = reps.take (i + 1)) := ⟨by
        rw [List.take_succ_eq_append_getElem hlt, List.getD_eq_getElem?_getD, List.getElem?_eq_getElem hlt]; rfl⟩
      generalize hpp : reps.getD i (0, 0) = p at *
      have HP := Aside0.mk hpp
      clear hpp e8
      obtain ⟨s, u⟩ := p
      have HPT := Aside0.mk hpt
      dsimp only at hx0 hx1
      have y0 : w9.cell? ⟨g8, o8, none⟩ = some (.int .i64 (s : Int)) := hx0
      have y1 : w9.cell? ⟨g8, o8 + 1, none⟩ = some (.int .i64 (u : Int)) := hx1
      have b1 : 0 < ((reps.length - i : Nat) : Int) := by omega
      have b1n : 0 < reps.length - i := by omega
      have b1d : decide (0 < reps.length - i) = true := decide_eq_true b1n
      clear hc8 hx0 hx1 hpt
      go_upto_region 11 with (fail)
      obtain ⟨vq, hvq⟩ : ∃ vq, Value.slice (if q8 = 1 then some (⟨g8, o8, none⟩ : Addr) else (some (⟨g8, o8, none⟩ : Addr)).map (·.add (1 * 2))) (reps.length - i - 1) (q8 - 1) = vq := ⟨_, rfl⟩
      have hq9 : Kd.Q k69 69 w9 (w1.heap.size + 1) (fun _ => True) vq (reps.drop (i + 1)) := by
        have h := Kd.Q_drop HM.out.td (k := 1) (by rw [hl8]; omega)
        rw [List.drop_drop] at h
        rw [← hvq]; exact h
      have hob : vq.ownBlock = (Value.slice (some ⟨g8, o8, none⟩) (reps.length - i) q8).ownBlock := by
        rw [← hvq]
        split
        · rfl
        · simp [Value.ownBlock, Addr.add]
      have TN : Aside0 (some w9.heap.size ≠ vq.ownBlock ∧ some w9.heap.size ≠ u11.ownBlock) := ⟨fun e => by have := Kd.Q_lt hq9 _ e.symm; omega, fun e => by have := Kd.R_lt HM.out.ro _ e.symm; omega⟩
      have HMp := Aside0.mk ((HM.out.popTodo hq9 hob).below (below_alloc (Below.refl w9.heap.size w9) (Obj.cells #[.int .i64 (s : Int), .int .i64 (u : Int)] 69)))
      have BP := Aside0.mk (blk_new w9 (Obj.cells #[.int .i64 (s : Int), .int .i64 (u : Int)] 69))
      have TL : Aside0 (w1.heap.size + 1 ≤ w9.heap.size) := ⟨HM.out.size⟩
      have hcut : ∀ W : World, (Instr.slice 65 (.slice (some ⟨g8, o8, none⟩) (reps.length - i) q8) (some (.int .i64 1)) none none).run Try.prog W = .ok vq W := fun W => by
        obtain ⟨i0, hi0, hi1⟩ := Option.map_eq_some_iff.1 info69
        simp only [Prod.mk.injEq] at hi1
        rw [← hvq]
        exact cut_from (P := Try.prog) 65 69 .i64 Try.underlying65 hi0 2 hi1.2.1 (some ⟨g8, o8, none⟩) (reps.length - i) q8 1 (by decide) (by omega) W
      clear hvq hq9 HM y0 y1 hl8 hq8 hob
      generalize w9.alloc (Obj.cells #[.int .i64 (s : Int), .int .i64 (u : Int)] 69) = w10 at *
      obtain ⟨tb, htb⟩ : ∃ tb, w9.heap.size = tb := ⟨_, rfl⟩
      rw [htb] at TN BP TL ⊢
      clear htb
      refine start_ (n := 8) (S := fun w' => w'.cell? ⟨tb, 0, none⟩ = some (.int .i64 (s : Int)) ∧ w'.cell? ⟨tb, 1, none⟩ = some (.int .i64 (u : Int))) (ds := []) #[false, false, false, false, false, false, false, false] (by kernel_rfl) rfl rfl ⟨(blk_cell BP.out 0).trans rfl, (blk_cell BP.out 1).trans rfl⟩ (fun hHeld => ?_)
      have HM1 := Aside0.mk (HMp.out.below (below_drew (Below.refl w10.heap.size w10)))
      have BP1 := Aside0.mk (blk_drew BP.out)
      have TN1 : Aside0 (some tb ≠ vq.ownBlock ∧ some tb ≠ u11.ownBlock) := TN
      clear HMp BP TN
      generalize w10.drew = w11 at *
      refine pure_ (i := 0) (N := (some 43)) (v := ?_) (a' := ?_) #[true, false, false, false, false, false, false, false] rfl rfl (by kernel_rfl) (fun _ _ _ h => h) (Or.inl ⟨by rfl, ?_⟩) ?_ ?_
      rotate_left
      · intro w'
        go_simp
        with_reducible rfl
      rotate_left
      · simp only [Act.put, List.setIfInBounds_toArray, List.set_cons_zero, List.set_cons_succ, i64_w, i32_w]
        rfl
      refine pure_ (i := 1) (N := (some 44)) (v := ?_) (a' := ?_) #[true, true, false, false, false, false, false, false] rfl rfl (by kernel_rfl) (fun _ _ _ h => h) (Or.inl ⟨by rfl, ?_⟩) ?_ ?_
      rotate_left
      · intro w'
        go_simp
        with_reducible rfl
      rotate_left
      · simp only [Act.put, List.setIfInBounds_toArray, List.set_cons_zero, List.set_cons_succ, i64_w, i32_w]
        rfl
      refine pure_ (i := 2) (N := (some 45)) (v := ?_) (a' := ?_) #[true, true, true, false, false, false, false, false] rfl rfl (by kernel_rfl) (fun _ _ _ h => h) (Or.inl ⟨by rfl, ?_⟩) ?_ ?_
      rotate_left
      · intro w'
        go_simp
        with_reducible rfl
      rotate_left
      · simp only [Act.put, List.setIfInBounds_toArray, List.set_cons_zero, List.set_cons_succ, i64_w, i32_w]
        rfl
      refine take_ (i := 3) (N := (some 46)) (v := ?_) (a' := ?_) #[true, true, true, true, false, false, false, false] rfl rfl (by kernel_rfl) (fun _ _ _ h => h) (Or.inl ⟨by rfl, ?_⟩) hHeld ?_ ?_
      rotate_left
      · rintro w' ⟨z0, z1⟩
        go_simp
        with_reducible rfl
      rotate_left
      · simp only [Act.put, List.setIfInBounds_toArray, List.set_cons_zero, List.set_cons_succ, i64_w, i32_w]
        rfl
      refine one_ (i := 4) (N := (some 47)) #[true, true, true, true, true, false, false, false] rfl rfl (by kernel_rfl) (by decide) (fun K hK => ?_)
      refine value_ (w1 := ?_) (v := ?_) (by rfl) rfl ?_ ?_
      rotate_left 2
      · go_simp
        constructor
        · rfl
        · rfl
      refine hK.out _ _ ⟨(World.cell?_alloc_lt _ _ _ (World.block_lt_of_cell? _ _ hHeld.1)).trans hHeld.1, (World.cell?_alloc_lt _ _ _ (World.block_lt_of_cell? _ _ hHeld.2)).trans hHeld.2⟩ (fun hHeld => ?_)
      clear hK K
      refine norm_ (a' := ?_) ?_ ?_
      rotate_left
      · show Act.put _ (some 47) _ = _
        simp only [Act.put, List.setIfInBounds_toArray, List.set_cons_zero, List.set_cons_succ, i64_w, i32_w]
        rfl
      refine one_ (i := 5) (N := (some 48)) #[true, true, true, true, true, true, false, false] rfl rfl (by kernel_rfl) (by decide) (fun K hK => ?_)
      refine Kd.R_append_step k69 (w0 := w11) (w1.heap.size + 1) (by rfl) (.tmp 45) (.tmp 47) 65 69 (.agg #[.int .i64 0, .int .i64 0]) 16 rfl Try.underlying65 info69 rfl (by decide) (by omega) u11 (reps.take i) (s, u) [.int .i64 (s : Int), .int .i64 (u : Int)] (fun _ => True) (fun _ => False) rfl rfl ?aP ?aK ?aF ?aO ?aB ?aS ?aL ?_
      (case aP => exact k69_mkM _ _ _ (s, u))
      (case aK => exact fun _ hk => hk.elim)
      (case aF => exact fun _ _ => trivial)
      (case aO => exact HM1.out.ro)
      (case aB => exact Below.refl _ _)
      (case aS => exact HM1.out.size)
      (case aL => rw [List.length_take]; omega)
      intro v12 w12 ho hb hg hat
      have HM2 := Aside0.mk (HM1.out.addOut ho hg hat)
      have BP2 := Aside0.mk (blk_grown BP1.out hg TN1.out.2)
      have TN2 := Aside0.mk (own_ne_step TN1.out.2 hat (blk_lt BP1.out))
      clear ho hb hg hat
      refine hK.out _ _ ⟨(blk_cell BP2.out 0).trans rfl, (blk_cell BP2.out 1).trans rfl⟩ (fun hHeld => ?_)
      clear hK K
      refine norm_ (a' := ?_) ?_ ?_
      rotate_left
      · show Act.put _ (some 48) _ = _
        simp only [Act.put, List.setIfInBounds_toArray, List.set_cons_zero, List.set_cons_succ, i64_w, i32_w]
        rfl
      refine pure_ (i := 6) (N := (some 10)) (v := ?_) (a' := ?_) #[true, true, true, true, true, true, true, false] rfl rfl (by kernel_rfl) (fun _ _ _ h => h) (Or.inl ⟨by rfl, ?_⟩) ?_ ?_
      rotate_left
      · intro w'
        go_simp
        with_reducible rfl
      rotate_left
      · simp only [Act.put, List.setIfInBounds_toArray, List.set_cons_zero, List.set_cons_succ, i64_w, i32_w]
        rfl
      refine pure_ (i := 7) (N := (some 11)) (v := ?_) (a' := ?_) #[true, true, true, true, true, true, true, true] rfl rfl (by kernel_rfl) (fun _ _ _ h => h) (Or.inl ⟨by rfl, ?_⟩) ?_ ?_
      rotate_left
      · intro w'
        go_simp
        with_reducible rfl
      rotate_left
      · simp only [Act.put, List.setIfInBounds_toArray, List.set_cons_zero, List.set_cons_succ, i64_w, i32_w]
        rfl
      refine done_ (by kernel_rfl) ?_
      rw [HTK.out] at HM2
      clear hHeld HM1 BP1
      obtain ⟨TK, hTK⟩ : ∃ TK, reps.take (i + 1) = TK := ⟨_, rfl⟩
      rw [hTK] at HM2
      have HTK2 := Aside0.mk hTK
      clear hTK hcut HTK
      have X10 := Aside0.mk (blk_below X4.out HM2.out.hb)
      obtain ⟨q0, q1, q2, q3, q4⟩ := box5 X10.out
      clear b1 b1n b1d
      go_wp2_with fail
      rw [HM2_.out]
      clear q0 q1 q2 q3 q4 X10
      have TN0 := Aside0.mk TN1.out.1
      go_loopw [10, 52] (fun v10 v52 wr => ∃ (j m : Nat) (reps' : List P2) (D : DataW Value), j ≤ M ∧ v52 = .int .i64 (j : Int) ∧ i < reps'.length ∧ m ≤ reps'.length ∧ Aside0 (reps'.getD i (0, 0) = (s, u)) ∧ Aside0 (reps'.take (i + 1) = TK) ∧ Aside0 (BInv w1 wr m D v10 (reps'.drop (i + 1)) v12 TK) ∧ Aside0 (MapV D (reps'.map litP) (reps'.map fun _ => .bool true)) ∧ Aside0 (FB c t i reps') ∧ Aside0 (∀ x, x < j → nx2 c t (s, u) x ∈ reps') ∧ Aside0 (wr.heap[tb]? = some (Obj.cells #[.int .i64 (s : Int), .int .i64 (u : Int)] 69 (0, 0))) ∧ Aside0 (some tb ≠ v10.ownBlock)) (fun _ v52 _ => M - (intOf v52).toNat)
      case atStart => exact ⟨0, m, reps, D, by omega, rfl, hlt, hm, HP, HTK2, HM2, MV, HF, ⟨fun x hx => by omega⟩, BP2, TN0⟩
      case round =>
        clear HM2 MV HF BP2 TN0 TN1 TN2 hm hrl HP hir HTK2
        obtain ⟨j, m, reps', D, hj, rfl, hir, hm, HP, HTK, HM, MV, HF, HD, BP, TN⟩ := hrel
        obtain ⟨w11, rfl⟩ : ∃ w11 : World, w11 = wr := ⟨_, rfl⟩
        have hrl := CARD.out _ _ HF.out
        by_cases hjl : j < M
        · have HB11 := Aside0.mk (HB4.out.trans (HM.out.hb.mono HB4.out.size))
          have X11 := Aside0.mk (blk_below X4.out HM.out.hb)
          have Y11 := Aside0.mk (blk_below Y4.out HM.out.hb)
          obtain ⟨q0, q1, q2, q3, q4⟩ := box5 X11.out
          obtain ⟨p0, p1, p2⟩ := box3 Y11.out
          have r0 : w11.cell? ⟨tb, 0, none⟩ = some (.int .i64 (s : Int)) := (blk_cell BP.out 0).trans rfl
          have r1 : w11.cell? ⟨tb, 1, none⟩ = some (.int .i64 (u : Int)) := (blk_cell BP.out 1).trans rfl
          have ES := Aside0.mk (ST.out w11 HB11.out (s, u) j HPT.out hjl)
          have NB2 := Aside0.mk (NXB.out (s, u) j HPT.out hjl)
          obtain ⟨⟨a, b⟩, hq⟩ : ∃ q, nx2 c t (s, u) j = q := ⟨_, rfl⟩
          rw [hq] at ES NB2
          have HQ := Aside0.mk hq
          obtain ⟨ov, hov⟩ : ∃ ov, c.out s j = ov := ⟨_, rfl⟩
          obtain ⟨fv, hfv⟩ : ∃ fv, (cel t u j).f0 = fv := ⟨_, rfl⟩
          dsimp only [pval] at ES
          rw [hov, hfv] at ES
          clear hq hov hfv
          go_wp2_with fail
          (with_reducible refine ES.out.mono ?_)
          rintro e w12 ⟨rfl, hb⟩
          have BP12 := Aside0.mk (blk_alloc (blk_below BP.out hb) (Obj.cells #[.int .i64 (a : Int), .int .i64 (b : Int)] 69))
          have BQ12 := Aside0.mk (blk_new w12 (Obj.cells #[.int .i64 (a : Int), .int .i64 (b : Int)] 69))
          have HM12 := Aside0.mk ((HM.out.below hb).below (below_alloc (Below.refl w12.heap.size w12) (Obj.cells #[.int .i64 (a : Int), .int .i64 (b : Int)] 69)))
          have TQ : Aside0 (w1.heap.size + 1 ≤ w12.heap.size) := ⟨by have := HM.out.size; have := hb.size; omega⟩
          clear ES hb HM BP X11 Y11 HB11 q0 q1 q2 q3 q4 p0 p1 p2 r0 r1
          go_upto_region 16 with (fail)
          generalize w12.alloc (Obj.cells #[.int .i64 (a : Int), .int .i64 (b : Int)] 69) = w13 at *
          obtain ⟨tq, htq⟩ : ∃ tq, w12.heap.size = tq := ⟨_, rfl⟩
          rw [htq] at BQ12 TQ ⊢
          clear htq
          have q0 : w13.cell? ⟨tq, 0, none⟩ = some (.int .i64 (a : Int)) := (blk_cell BQ12.out 0).trans rfl
          have q1 : w13.cell? ⟨tq, 1, none⟩ = some (.int .i64 (b : Int)) := (blk_cell BQ12.out 1).trans rfl
          have hsa : a ≤ 100000 ∧ b ≤ 100000 := by
            have h1 : a = b := NB2.out.1
            have h2 : b < t.length := NB2.out.2
            omega
          have HKY := Aside0.mk (key_p (a, b) hsa.1 hsa.2)
          have HKL := Aside0.mk (lawP.key HKY.out)
          have hlk := set_look HM12.out.om MV.out (SMALL.out _ _ HF.out) (q := (a, b)) hsa
          rw [show pval (a, b) = .agg #[.int .i64 (a : Int), .int .i64 (b : Int)] from rfl] at hlk
          by_cases hmem : (a, b) ∈ reps'
          · rw [decide_eq_true hmem] at hlk
            have HD2 : Aside0 (∀ x, x < j + 1 → nx2 c t (s, u) x ∈ reps') := ⟨fun x hx => by
              rcases Nat.lt_or_ge x j with q | q
              · exact HD.out x q
              · have e : x = j := by omega
                subst e; rw [HQ.out]; exact hmem⟩
            clear hmem hsa
            go_wp2_with fail
            go_roundw
            case rel => exact ⟨j + 1, m, reps', D, by omega, by go_num, hir, hm, HP, HTK, HM12, MV, HF, HD2, BP12, TN⟩
            case measure => simp [intOf]; omega
          · rw [decide_eq_false hmem] at hlk
            have hnm : litP (a, b) ∉ reps'.map litP := fun h => by
              obtain ⟨p', h1, h2⟩ := List.mem_map.1 h
              have := litP_inj (SMALL.out _ _ HF.out p' h1) hsa h2
              exact hmem (this ▸ h1)
            have MV2 : Aside0 (MapV (D.put (litP (a, b)) (.held (.bool true))) ((reps' ++ [(a, b)]).map litP) ((reps' ++ [(a, b)]).map fun _ => .bool true)) := ⟨by
              rw [List.map_append, List.map_append]; exact MV.out.put HKL.out hnm _⟩
            have HF2 : Aside0 (FB c t i (reps' ++ [(a, b)])) := ⟨by
              have h := HF.out.add hir (x := j) (by rw [HMM.out]; exact hjl)
              rw [HP.out, HQ.out] at h
              exact h hmem⟩
            have HD2 : Aside0 (∀ x, x < j + 1 → nx2 c t (s, u) x ∈ reps' ++ [(a, b)]) := ⟨fun x hx => by
              rcases Nat.lt_or_ge x j with q | q
              · exact List.mem_append_left _ (HD.out x q)
              · have e : x = j := by omega
                subst e; rw [HQ.out]; simp⟩
            have HP2 : Aside0 ((reps' ++ [(a, b)]).getD i (0, 0) = (s, u)) := ⟨by rw [getD_app_lt _ _ _ hir]; exact HP.out⟩
            have HDR : Aside0 ((reps' ++ [(a, b)]).drop (i + 1) = reps'.drop (i + 1) ++ [(a, b)]) := ⟨List.drop_append_of_le_length (by omega)⟩
            have HTK3 : Aside0 ((reps' ++ [(a, b)]).take (i + 1) = TK) := ⟨by rw [List.take_append_of_le_length (by omega)]; exact HTK.out⟩
            have HRL : Aside0 ((reps'.drop (i + 1)).length ≤ 100) := ⟨by rw [List.length_drop]; omega⟩
            clear hmem hnm hsa
            go_wp2_with (first
              | (at_mapUpdate; refine wpList_mapUpdate_own _ rfl (.tmp 68) (.tmp 69) (.const (.bool true)) 111 rfl 69 4 lawP Try.underlying111 heldE w1.heap.size m D rfl HM12.out.om (by unfold maxLen; omega) (.agg #[.int .i64 (a : Int), .int .i64 (b : Int)]) (.bool true) _ rfl rfl HKY.out (.held (.bool true)) [] rfl ?_; intro w17 hown17 hgrow17; have HM17 := Aside0.mk (HM12.out.putMap hown17 hgrow17); have BP17 := Aside0.mk (blk_grown BP12.out hgrow17 (by have := TL.out; simp; omega)); have BQ17 := Aside0.mk (blk_grown BQ12.out hgrow17 (by have := TQ.out; simp; omega)); have z0 := (blk_cell BQ17.out 0).trans (show _ = some (Value.int .i64 (a : Int)) from rfl); have z1 := (blk_cell BQ17.out 1).trans (show _ = some (Value.int .i64 (b : Int)) from rfl); clear hown17 hgrow17 hlk q0 q1)
              | ((with_reducible refine gate_builtin (b := .append) (xs := #[.tmp 70, .tmp 72]) rfl ?_); at_builtin; refine Kd.Q_append k69 (w0 := w17) (w1.heap.size + 1) rfl (.tmp 70) (.tmp 72) 65 69 (.agg #[.int .i64 0, .int .i64 0]) 16 rfl Try.underlying65 info69 rfl (by decide) (by omega) u10 (reps'.drop (i + 1)) (a, b) [.int .i64 (a : Int), .int .i64 (b : Int)] (fun _ => True) (fun _ => False) rfl ?aX ?aP (fun _ hk => hk.elim) (fun _ _ => trivial) HM17.out.td (Below.refl _ _) ?aS ?aL ?_; (case aX => first | rfl | (simp; done)); (case aP => exact k69_mkM _ _ _ (a, b)); (case aS => exact HM17.out.size); (case aL => have h1_ := HRL.out; omega); intro v18 w18 ho hb hg hat; have HM18 := Aside0.mk (HM17.out.addTodo ho hg hat); have BP18 := Aside0.mk (blk_grown BP17.out hg TN.out); have TN18 := Aside0.mk (own_ne_step TN.out hat (blk_lt BP17.out)); clear ho hb hg hat))
            go_roundw
            case rel => exact ⟨j + 1, m + 1, reps' ++ [(a, b)], _, by omega, by go_num, by simp; omega, by simp; omega, HP2, HTK3, ⟨by rw [HDR.out]; exact HM18.out⟩, MV2, HF2, HD2, BP18, TN18⟩
            case measure => simp [intOf]; omega
        · have HF2 : Aside0 (FB c t (i + 1) reps') := ⟨HF.out.next hir (fun x hx => by
            rw [HMM.out] at hx
            have h := HD.out x (by omega)
            rw [HP.out]; exact h)⟩
          clear HF HD HP
          go_wp2_with fail
          go_roundg k1
          case measure => omega
          case rel => exact ⟨i + 1, m, reps', D, by omega, hm, ⟨by rw [HTK.out]; exact HM.out⟩, MV, HF2⟩
    · have NT := Aside0.mk (HF.out.fin (by omega))
      have HBW := Aside0.mk (HB4.out.trans (HM.out.hb.mono HB4.out.size))
      have DG := Aside0.mk (DIAG.out _ _ HF.out)
      have RO : Aside0 (Kd.R k69 69 w9 (w1.heap.size + 1) (fun _ => True) u11 reps) := ⟨by
        have h := HM.out.ro
        rwa [List.take_of_length_le (by omega)] at h⟩
      have hN : ¬ 0 < reps.length - i := by omega
      have hN2 : reps.length - i = 0 := by omega
      have hN3 : decide (0 < reps.length - i) = false := decide_eq_false hN
      clear HF HM MV
      have h1 : 1 ≤ reps.length := by have := NT.out.hd; exact List.length_pos_of_mem this
      obtain ⟨g, cap, hv, hgb, hgl, _⟩ := Kd.R_form RO.out h1
      subst hv
      have SO := Aside0.mk (sort_calls g cap reps w w9 (Kd.R_lower RO.out (by have := HB4.out.size; omega)) HBW.out h1 (by omega))
      clear hgb hgl
      go_wp2_with fail
      (with_reducible refine SO.out.mono ?_)
      rintro e w10 ⟨l', rfl, hpm, hr, hb⟩
      have HRR := Aside0.mk hr
      have HPM := Aside0.mk hpm
      have HB10 := Aside0.mk hb
      have HLL := Aside0.mk hpm.length_eq
      clear SO hr hpm hb
      go_wp2_with fail
      go_ret2
      exact ⟨_, l', rfl, HB10.out, HRR.out, NT.out.perm HPM.out, by rw [HLL.out]; exact hrl, fun p hp => DG.out p (HPM.out.mem_iff.1 hp)⟩
end Go.Proofs.Ytaalafnkglbcpaa.SY
end

/- equal.Accept (39), walked by hand: 0 where the pairs are closed, 13 where they are not. Own text of this claim. -/
section
namespace Go.Proofs.Ytaalafnkglbcpaa.SY
open Go.RowKit Go.WideMaps Go.Maps Go.Proofs.YtaalafnkglbcpaaW.PrintWords Go.Proofs.YtaalafnkglbcpaaW.PrintLast Go.Proofs.YtaalafnkglbcpaaW.PrintMore
open Go.Proofs.Ytaalafnkglbcpaa.PL (S77 z77 k77 Tab TabR roww cel OKT wpList_insert_own info3)
set_option linter.unusedVariables false
set_option linter.unusedSimpArgs false
/-- The set, and what was made. -/
structure AInv (w1 W : World) (m : Nat) (D : DataW Value) : Prop where
  hb : Below w1.heap.size w1 W
  om : W.ownsMap Try.prog 69 heldE w1.heap.size m D
theorem AInv.below {w1 W W' : World} {m : Nat} {D : DataW Value} (h : AInv w1 W m D) (hb : Below W.heap.size W W') : AInv w1 W' m D := ⟨h.hb.trans (hb.mono h.hb.size), owns_below' h.om hb⟩
def AcceptPost (c : Cir) (t : Tab) (l : List P2) (w : World) (e : Ending) (w' : World) : Prop :=
  ∃ r : Int, e = .returned (.int .i64 r) ∧ Below w.heap.size w w' ∧ (r = 0 ∧ Closed c t l ∨ r = 13 ∧ ¬ Closed c t l)
set_option maxHeartbeats 8000000 in
set_option maxRecDepth 100000 in
theorem accept_calls (w : World) (c : Cir) (Ag Ao An Ai : Option Addr) (cg co cn ci : Nat) (Ar : Option Addr) (cr : Nat) (t : Tab) (l : List P2) (Al : Option Addr) (cl : Nat) (ok : c.Ok) (hin : c.In w Ag Ao An Ai cg co cn ci) (hT : OKT (c.ins : Int) (c.outs.length : Int) t) (hR : Kd.C (Kd.slice 77 k77) w Ar t.length t) (hcr : t.length ≤ cr) (h6 : t.length ≤ 6) (hd : Does c t)
    (hl : Kd.C k69 w Al l.length l) (hl12 : l.length ≤ 12) (hln : l.Nodup) (hld : ∀ p ∈ l, p.1 = p.2 ∧ p.2 < t.length) (hl2 : ∀ p ∈ l, p.1 < 2 ^ c.next.length) :
    Calls Try.prog 39 #[c.V Ag Ao An Ai cg co cn ci, .agg #[.int .i64 (c.ins : Int), .int .i64 (c.outs.length : Int), .slice Ar t.length cr], .slice Al l.length cl] w (AcceptPost c t l w) := by
  have EK := Aside0.mk (fun W (hb : Below w.heap.size w W) => echeck_calls W c Ag Ao An Ai cg co cn ci Ar cr t ok (hin.below hb) hT (Kd.C_below hR hb) hcr)
  have SC := Aside0.mk (fun W (hb : Below w.heap.size w W) => start_calls W c Ag Ao An Ai cg co cn ci ok (hin.below hb))
  have hN := TabN.of hT
  have hi4 : c.ins ≤ 4 := by have := hT.i1; omega
  obtain ⟨M, hM⟩ : ∃ M, 2 ^ c.ins = M := ⟨_, rfl⟩
  have hMle : M ≤ 16 := by
    rw [← hM]; exact Nat.le_trans (Nat.pow_le_pow_right (by omega) hi4) (by decide)
  have HM2_ : Aside0 (wrap64 ((2 : Int) ^ c.ins) = (M : Int)) := ⟨by
    rw [show (2 : Int) ^ c.ins = ((2 ^ c.ins : Nat) : Int) from by simp, hM]
    unfold wrap64; omega⟩
  have hn10 := ok.n1
  obtain ⟨N, hNn⟩ : ∃ N, 2 ^ c.next.length = N := ⟨_, rfl⟩
  have hNle : N ≤ 1024 := by
    rw [← hNn]; exact Nat.le_trans (Nat.pow_le_pow_right (by omega) hn10) (by decide)
  have HN2_ : Aside0 (wrap64 ((2 : Int) ^ c.next.length) = (N : Int)) := ⟨by
    rw [show (2 : Int) ^ c.next.length = ((2 ^ c.next.length : Nat) : Int) from by simp, hNn]
    unfold wrap64; omega⟩
  rw [hNn] at hl2
  have NXB : Aside0 (∀ (p : P2) (x : Nat), p.1 = p.2 ∧ p.2 < t.length → x < M → (cel t p.2 x).f0 = (c.out p.1 x : Int) ∧ (nx2 c t p x).1 = (nx2 c t p x).2 ∧ (nx2 c t p x).2 < t.length) := ⟨fun p x hp hx => by
    have h := does_eq hd hN hp (x := x) (by omega)
    exact ⟨h.1.symm, h.2⟩⟩
  have ST := Aside0.mk (fun W (hb : Below w.heap.size w W) (p : P2) (x : Nat) (h1 : p.1 = p.2 ∧ p.2 < t.length) (hx : x < M) => estep_calls W c Ag Ao An Ai cg co cn ci Ar cr (c.ins : Int) (c.outs.length : Int) t p x ok (hin.below hb) (Kd.C_below hR hb) hcr
    (by have := h1.1; have := h1.2; have h20 : 6 < 2 ^ 20 := by decide
        omega) (Nat.lt_of_lt_of_le hx (Nat.le_trans hMle (by decide))) h1.2 (by rw [hN.row _ h1.2, hM]; exact hx) (hN.ok p.2 x h1.2 (by omega)).2.2.1)
  have hs0 : c.start ≤ 100000 := by rw [hd.start]; omega
  have SMALL : Aside0 (∀ p ∈ l, p.1 ≤ 100000 ∧ p.2 ≤ 100000) := ⟨fun p hp => by have := hld p hp; omega⟩
  have HMM := Aside0.mk hM
  have CL := Aside0.mk (fun W (hb : Below w.heap.size w W) => Kd.C_below hl hb)
  have LND := Aside0.mk hln
  have LD := Aside0.mk hld
  have L2 := Aside0.mk hl2
  clear ok hin hT hR hN hM hd hl hln hld hl2 hNn
  obtain ⟨n, hn⟩ : ∃ n, l.length = n := ⟨_, rfl⟩
  have HLN := Aside0.mk hn
  rw [hn] at CL hl12 ⊢
  clear hn
  dsimp only [Cir.V] at EK SC ST ⊢
  have X1 := Aside0.mk (blk_alloc (blk_new w (Obj.cells #[.int .i64 (c.ins : Int), .slice Ag c.gs.length cg, .slice Ao c.outs.length co, .slice An c.next.length cn, .slice Ai c.init.length ci] 38)) (Obj.cells #[.int .i64 (c.ins : Int), .int .i64 (c.outs.length : Int), .slice Ar t.length cr] 25))
  have Y1 := Aside0.mk (blk_next w (Obj.cells #[.int .i64 (c.ins : Int), .slice Ag c.gs.length cg, .slice Ao c.outs.length co, .slice An c.next.length cn, .slice Ai c.init.length ci] 38) (Obj.cells #[.int .i64 (c.ins : Int), .int .i64 (c.outs.length : Int), .slice Ar t.length cr] 25))
  have HB1 := Aside0.mk (below_alloc (below_alloc (Below.refl w.heap.size w) (Obj.cells #[.int .i64 (c.ins : Int), .slice Ag c.gs.length cg, .slice Ao c.outs.length co, .slice An c.next.length cn, .slice Ai c.init.length ci] 38)) (Obj.cells #[.int .i64 (c.ins : Int), .int .i64 (c.outs.length : Int), .slice Ar t.length cr] 25))
  go_enter Try.func39, Try.ntmps39
  go_upto_region 1 with (fail)
  generalize (w.alloc (Obj.cells #[.int .i64 (c.ins : Int), .slice Ag c.gs.length cg, .slice Ao c.outs.length co, .slice An c.next.length cn, .slice Ai c.init.length ci] 38)).alloc (Obj.cells #[.int .i64 (c.ins : Int), .int .i64 (c.outs.length : Int), .slice Ar t.length cr] 25) = w2 at *
  obtain ⟨q0, q1, q2, q3, q4⟩ := box5 X1.out
  obtain ⟨p0, p1, p2⟩ := box3 Y1.out
  have CC := Aside0.mk (EK.out w2 HB1.out)
  go_wp2_with fail
  (with_reducible refine CC.out.mono ?_)
  rintro e w1 ⟨rfl, hb3⟩
  have X4 := Aside0.mk (blk_below X1.out hb3)
  have Y4 := Aside0.mk (blk_below Y1.out hb3)
  have HB4 := Aside0.mk (HB1.out.trans (hb3.mono HB1.out.size))
  clear CC hb3 X1 Y1 HB1 q0 q1 q2 q3 q4 p0 p1 p2 EK
  generalize hs00 : c.start = s0 at *
  have HS0 := Aside0.mk hs00
  clear hs00
  have hmm := @run_makeMap Try.prog
  have I0 : Aside0 (AInv w1 (w1.alloc (Obj.map #[] 0)) 0 (.map [])) := ⟨⟨below_alloc (Below.refl w1.heap.size w1) (Obj.map #[] 0), World.ownsMap_made w1 _ _ _⟩⟩
  go_wp2_with fail
  clear hmm
  generalize w1.alloc (Obj.map #[] 0) = w6 at *
  go_loopw [26] (fun v26 wr => ∃ (i m : Nat) (D : DataW Value), i ≤ n ∧ v26 = .int .i64 (i : Int) ∧ m ≤ i ∧ Aside0 (AInv w1 wr m D) ∧ Aside0 (MapV D ((l.take i).map litP) ((l.take i).map fun _ => .bool true))) (fun v26 _ => n - (intOf v26).toNat)
  case atStart => exact ⟨0, 0, _, by omega, rfl, by omega, I0, ⟨MapV.start⟩⟩
  case round =>
    clear I0
    obtain ⟨i, m, D, hi, rfl, hm, HA, MV⟩ := hrel
    obtain ⟨w7, rfl⟩ : ∃ w7 : World, w7 = wr := ⟨_, rfl⟩
    by_cases hlt : i < n
    · have HB7 := Aside0.mk (HB4.out.trans (HA.out.hb.mono HB4.out.size))
      obtain ⟨a8, e8, hx0, hx1⟩ := at_P2 (CL.out w7 HB7.out) i hlt
      have hmem : l.getD i (0, 0) ∈ l := getD_mem2 (by rw [HLN.out]; exact hlt)
      have hpt := LD.out _ hmem
      have hp2 := L2.out _ hmem
      have HTK : Aside0 (l.take i ++ [l.getD i (0, 0)] = l.take (i + 1)) := ⟨by
        have hlt2 : i < l.length := by rw [HLN.out]; exact hlt
        rw [List.take_succ_eq_append_getElem hlt2, List.getD_eq_getElem?_getD, List.getElem?_eq_getElem hlt2]; rfl⟩
      have HNM : Aside0 (l.getD i (0, 0) ∉ l.take i) := ⟨fun h => by
        have hlt2 : i < l.length := by rw [HLN.out]; exact hlt
        have hnd := LND.out
        rw [← List.take_append_drop i l] at hnd
        have h3 := (List.nodup_append.1 hnd).2.2 _ h
        refine h3 (l.getD i (0, 0)) ?_ rfl
        rw [List.getD_eq_getElem?_getD, List.getElem?_eq_getElem hlt2, List.drop_eq_getElem_cons hlt2]
        exact List.mem_cons_self⟩
      generalize hpp : l.getD i (0, 0) = p at *
      clear hpp
      obtain ⟨s, u⟩ := p
      dsimp only at hx0 hx1 hpt hp2
      have hsu := SMALL.out _ hmem
      have HKY := Aside0.mk (key_p (s, u) hsu.1 hsu.2)
      have HKL := Aside0.mk (lawP.key HKY.out)
      have MV2 : Aside0 (MapV (D.put (litP (s, u)) (.held (.bool true))) ((l.take (i + 1)).map litP) ((l.take (i + 1)).map fun _ => .bool true)) := ⟨by
        rw [← HTK.out, List.map_append, List.map_append]
        refine MV.out.put HKL.out (fun h => ?_) _
        obtain ⟨p', h1, h2⟩ := List.mem_map.1 h
        have := litP_inj (SMALL.out _ (List.mem_of_mem_take h1)) hsu h2
        exact HNM.out (this ▸ h1)⟩
      have hsN : (s : Int) < (N : Int) := by have := hp2; omega
      have htn : (u : Int) < (t.length : Int) := by have := hpt.2; omega
      have hs0' : ¬ (s : Int) < 0 := by omega
      have hu0' : ¬ (u : Int) < 0 := by omega
      subst e8
      have BP := Aside0.mk (blk_new w7 (Obj.cells #[.int .i64 (s : Int), .int .i64 (u : Int)] 69))
      have HA8 := Aside0.mk (HA.out.below (below_alloc (Below.refl w7.heap.size w7) (Obj.cells #[.int .i64 (s : Int), .int .i64 (u : Int)] 69)))
      clear hmem hpt hp2 hsu HA MV HB7 HTK HNM
      go_upto_region 8 with (fail)
      generalize w7.alloc (Obj.cells #[.int .i64 (s : Int), .int .i64 (u : Int)] 69) = w8 at *
      obtain ⟨tb, htb⟩ : ∃ tb, w7.heap.size = tb := ⟨_, rfl⟩
      rw [htb] at BP ⊢
      clear htb hx0 hx1
      have X8 := Aside0.mk (blk_below X4.out HA8.out.hb)
      have Y8 := Aside0.mk (blk_below Y4.out HA8.out.hb)
      obtain ⟨q0, q1, q2, q3, q4⟩ := box5 X8.out
      obtain ⟨p0, p1, p2⟩ := box3 Y8.out
      have r0 : w8.cell? ⟨tb, 0, none⟩ = some (.int .i64 (s : Int)) := (blk_cell BP.out 0).trans rfl
      have r1 : w8.cell? ⟨tb, 1, none⟩ = some (.int .i64 (u : Int)) := (blk_cell BP.out 1).trans rfl
      have c1 : decide ((s : Int) < 0) = false := decide_eq_false hs0'
      have c2 : decide (wrap64 ((2 : Int) ^ c.next.length) ≤ (s : Int)) = false := decide_eq_false (by rw [HN2_.out]; omega)
      have c3 : decide ((u : Int) < 0) = false := decide_eq_false hu0'
      have c4 : decide ((t.length : Int) ≤ (u : Int)) = false := decide_eq_false (by omega)
      go_quiet (fail)
      have HA9 := Aside0.mk (HA8.out.below (pw_below_drewN (Below.refl w8.heap.size w8) nq))
      have BP9 := Aside0.mk (blk_drewN BP.out nq)
      clear HA8 BP X8 Y8 q0 q1 q2 q3 q4 p0 p1 p2 r0 r1 c1 c2 c3 c4
      generalize w8.drewN nq = w9 at *
      have r0 : w9.cell? ⟨tb, 0, none⟩ = some (.int .i64 (s : Int)) := (blk_cell BP9.out 0).trans rfl
      have r1 : w9.cell? ⟨tb, 1, none⟩ = some (.int .i64 (u : Int)) := (blk_cell BP9.out 1).trans rfl
      go_wp2_with (first
        | (at_mapUpdate; refine wpList_mapUpdate_own _ rfl (.tmp 55) (.tmp 56) (.const (.bool true)) 111 rfl 69 4 lawP Try.underlying111 heldE w1.heap.size m D rfl HA9.out.om (by unfold maxLen; omega) (.agg #[.int .i64 (s : Int), .int .i64 (u : Int)]) (.bool true) _ rfl rfl HKY.out (.held (.bool true)) [] rfl ?_; intro w17 hown17 hgrow17; have HA17 : Aside0 (AInv w1 w17 (m + 1) (D.put (litP (s, u)) (.held (.bool true)))) := ⟨⟨HA9.out.hb.grown hgrow17 HA9.out.hb.size (fun k hk => by cases hk; omega), hown17⟩⟩; clear hown17 hgrow17))
      go_roundw
      case rel => exact ⟨i + 1, m + 1, _, by omega, by go_num, by omega, HA17, MV2⟩
      case measure => simp [intOf]; omega
    · have MV2 : Aside0 (MapV D (l.map litP) (l.map fun _ => .bool true)) := ⟨by
        have h := MV.out
        rwa [List.take_of_length_le (by rw [HLN.out]; omega)] at h⟩
      have HB7 := Aside0.mk (HB4.out.trans (HA.out.hb.mono HB4.out.size))
      have X7 := Aside0.mk (blk_below X4.out HA.out.hb)
      obtain ⟨q0, q1, q2, q3, q4⟩ := box5 X7.out
      have SC7 := Aside0.mk (SC.out w7 HB7.out)
      clear MV
      go_wp2_with fail
      (with_reducible refine SC7.out.mono ?_)
      rintro e w8 ⟨rfl, hb⟩
      have HA8 := Aside0.mk (HA.out.below hb)
      clear SC7 SC HA hb X7 HB7 q0 q1 q2 q3 q4
      have hlk := set_look HA8.out.om MV2.out SMALL.out (q := (s0, 0)) ⟨hs0, by show 0 ≤ 100000; omega⟩
      rw [show pval (s0, 0) = .agg #[.int .i64 (s0 : Int), .int .i64 0] from rfl] at hlk
      by_cases hst : (s0, 0) ∈ l
      · rw [decide_eq_true hst] at hlk
        have HST := Aside0.mk hst
        clear hst
        go_wp2_with fail
        clear hlk
        go_loopw [66] (fun v66 wr => ∃ (i : Nat), i ≤ n ∧ v66 = .int .i64 (i : Int) ∧ Aside0 (AInv w1 wr m D) ∧ Aside0 (∀ k, k < i → ∀ x, x < M → nx2 c t (l.getD k (0, 0)) x ∈ l)) (fun v66 _ => n - (intOf v66).toNat)
        case atStart => exact ⟨0, by omega, rfl, HA8, ⟨fun k hk => by omega⟩⟩
        case round =>
          clear HA8
          obtain ⟨i, hi, rfl, HA, DN⟩ := hrel
          obtain ⟨w7, rfl⟩ : ∃ w7 : World, w7 = wr := ⟨_, rfl⟩
          by_cases hlt : i < n
          · have HB7 := Aside0.mk (HB4.out.trans (HA.out.hb.mono HB4.out.size))
            obtain ⟨a8, e8, hx0, hx1⟩ := at_P2 (CL.out w7 HB7.out) i hlt
            have hmem : l.getD i (0, 0) ∈ l := getD_mem2 (by rw [HLN.out]; exact hlt)
            have hpt := LD.out _ hmem
            generalize hpp : l.getD i (0, 0) = p at *
            have HP := Aside0.mk hpp
            have HMEM := Aside0.mk hmem
            clear hpp
            obtain ⟨s, u⟩ := p
            dsimp only at hx0 hx1
            have HPT := Aside0.mk hpt
            subst e8
            have BP := Aside0.mk (blk_new w7 (Obj.cells #[.int .i64 (s : Int), .int .i64 (u : Int)] 69))
            have HA8 := Aside0.mk (HA.out.below (below_alloc (Below.refl w7.heap.size w7) (Obj.cells #[.int .i64 (s : Int), .int .i64 (u : Int)] 69)))
            clear hmem hpt HA HB7
            go_upto_region 17 with (fail)
            generalize w7.alloc (Obj.cells #[.int .i64 (s : Int), .int .i64 (u : Int)] 69) = w8 at *
            obtain ⟨tb, htb⟩ : ∃ tb, w7.heap.size = tb := ⟨_, rfl⟩
            rw [htb] at BP ⊢
            clear htb hx0 hx1
            have X8 := Aside0.mk (blk_below X4.out HA8.out.hb)
            obtain ⟨q0, q1, q2, q3, q4⟩ := box5 X8.out
            go_wp2_with fail
            rw [HM2_.out]
            clear q0 q1 q2 q3 q4 X8
            go_loopw [73] (fun v73 wr => ∃ (j : Nat), j ≤ M ∧ v73 = .int .i64 (j : Int) ∧ Aside0 (AInv w1 wr m D) ∧ Aside0 (wr.heap[tb]? = some (Obj.cells #[.int .i64 (s : Int), .int .i64 (u : Int)] 69 (0, 0))) ∧ Aside0 (∀ x, x < j → nx2 c t (s, u) x ∈ l)) (fun v73 _ => M - (intOf v73).toNat)
            case atStart => exact ⟨0, by omega, rfl, HA8, BP, ⟨fun x hx => by omega⟩⟩
            case round =>
              clear HA8 BP
              obtain ⟨j, hj, rfl, HA, BP, HD⟩ := hrel
              obtain ⟨w11, rfl⟩ : ∃ w11 : World, w11 = wr := ⟨_, rfl⟩
              by_cases hjl : j < M
              · have HB11 := Aside0.mk (HB4.out.trans (HA.out.hb.mono HB4.out.size))
                have X11 := Aside0.mk (blk_below X4.out HA.out.hb)
                have Y11 := Aside0.mk (blk_below Y4.out HA.out.hb)
                obtain ⟨q0, q1, q2, q3, q4⟩ := box5 X11.out
                obtain ⟨p0, p1, p2⟩ := box3 Y11.out
                have r0 : w11.cell? ⟨tb, 0, none⟩ = some (.int .i64 (s : Int)) := (blk_cell BP.out 0).trans rfl
                have r1 : w11.cell? ⟨tb, 1, none⟩ = some (.int .i64 (u : Int)) := (blk_cell BP.out 1).trans rfl
                have ES := Aside0.mk (ST.out w11 HB11.out (s, u) j HPT.out hjl)
                have NB2 := Aside0.mk (NXB.out (s, u) j HPT.out hjl)
                obtain ⟨⟨a, b⟩, hq⟩ : ∃ q, nx2 c t (s, u) j = q := ⟨_, rfl⟩
                dsimp only [pval] at ES
                rw [show (cel t u j).f0 = (c.out s j : Int) from NB2.out.1] at ES
                rw [hq] at ES NB2
                have HQ := Aside0.mk hq
                obtain ⟨ov, hov⟩ : ∃ ov, c.out s j = ov := ⟨_, rfl⟩
                dsimp only at ES
                rw [hov] at ES
                clear hq hov
                go_wp2_with fail
                (with_reducible refine ES.out.mono ?_)
                rintro e w12 ⟨rfl, hb⟩
                have BP12 := Aside0.mk (blk_alloc (blk_below BP.out hb) (Obj.cells #[.int .i64 (a : Int), .int .i64 (b : Int)] 69))
                have BQ12 := Aside0.mk (blk_new w12 (Obj.cells #[.int .i64 (a : Int), .int .i64 (b : Int)] 69))
                have HA12 := Aside0.mk ((HA.out.below hb).below (below_alloc (Below.refl w12.heap.size w12) (Obj.cells #[.int .i64 (a : Int), .int .i64 (b : Int)] 69)))
                clear ES hb HA BP X11 Y11 HB11 q0 q1 q2 q3 q4 p0 p1 p2 r0 r1
                go_upto_region 23 with (fail)
                generalize w12.alloc (Obj.cells #[.int .i64 (a : Int), .int .i64 (b : Int)] 69) = w13 at *
                obtain ⟨tq, htq⟩ : ∃ tq, w12.heap.size = tq := ⟨_, rfl⟩
                rw [htq] at BQ12 ⊢
                clear htq
                have q0 : w13.cell? ⟨tq, 0, none⟩ = some (.int .i64 (a : Int)) := (blk_cell BQ12.out 0).trans rfl
                have q1 : w13.cell? ⟨tq, 1, none⟩ = some (.int .i64 (b : Int)) := (blk_cell BQ12.out 1).trans rfl
                have hsa : a ≤ 100000 ∧ b ≤ 100000 := by
                  have h1 : a = b := NB2.out.2.1
                  have h2 : b < t.length := NB2.out.2.2
                  omega
                have hlk := set_look HA12.out.om MV2.out SMALL.out (q := (a, b)) hsa
                rw [show pval (a, b) = .agg #[.int .i64 (a : Int), .int .i64 (b : Int)] from rfl] at hlk
                by_cases hmem : (a, b) ∈ l
                · rw [decide_eq_true hmem] at hlk
                  have HD2 : Aside0 (∀ x, x < j + 1 → nx2 c t (s, u) x ∈ l) := ⟨fun x hx => by
                    rcases Nat.lt_or_ge x j with q | q
                    · exact HD.out x q
                    · have e : x = j := by omega
                      subst e; rw [HQ.out]; exact hmem⟩
                  clear hmem hsa
                  go_wp2_with fail
                  go_roundw
                  case rel => exact ⟨j + 1, by omega, by go_num, HA12, BP12, HD2⟩
                  case measure => simp [intOf]; omega
                · rw [decide_eq_false hmem] at hlk
                  have HNC : Aside0 (¬ Closed c t l) := ⟨fun h => hmem (by rw [← HQ.out]; exact h.2 _ HMEM.out j (by rw [HMM.out]; exact hjl))⟩
                  clear hmem hsa
                  go_wp2_with fail
                  go_ret
                  exact ⟨13, rfl, HB4.out.trans (HA12.out.hb.mono HB4.out.size), .inr ⟨rfl, HNC.out⟩⟩
              · go_wp2_with fail
                go_roundw
                case rel => exact ⟨i + 1, by omega, by go_num, HA, ⟨fun k hk x hx => by
                  rcases Nat.lt_or_ge k i with q | q
                  · exact DN.out k q x hx
                  · have e : k = i := by omega
                    subst e; rw [HP.out]; exact HD.out x (by omega)⟩⟩
                case measure => simp [intOf]; omega
          · have HC : Aside0 (Closed c t l) := ⟨⟨by rw [HS0.out]; exact HST.out, fun p hp x hx => by
              obtain ⟨k, hk, rfl⟩ := List.getElem_of_mem hp
              have h1 := DN.out k (by have := HLN.out; omega) x (by rw [← HMM.out]; exact hx)
              rw [List.getD_eq_getElem?_getD, List.getElem?_eq_getElem hk] at h1
              exact h1⟩⟩
            go_wp2_with fail
            go_ret
            exact ⟨0, rfl, HB4.out.trans (HA.out.hb.mono HB4.out.size), .inl ⟨rfl, HC.out⟩⟩
      · rw [decide_eq_false hst] at hlk
        have HNC : Aside0 (¬ Closed c t l) := ⟨fun h => hst (by have := h.1; rwa [HS0.out] at this)⟩
        clear hst
        go_wp2_with fail
        go_ret
        exact ⟨13, rfl, HB4.out.trans (HA8.out.hb.mono HB4.out.size), .inr ⟨rfl, HNC.out⟩⟩
end Go.Proofs.Ytaalafnkglbcpaa.SY
end

/- slices.Grow and slices.Concat of pairs (70, 38), turned from those of the pen's inputs by mkconc.py. -/
section
namespace Go.Proofs.Ytaalafnkglbcpaa.SY.CP
open Go.RowKit Go.Proofs.YtaalafnkglbcpaaW.PrintWords Go.Proofs.YtaalafnkglbcpaaW.PrintLast Go.Proofs.YtaalafnkglbcpaaW.PrintMore
set_option linter.unusedVariables false


set_option maxRecDepth 100000 in
set_option maxHeartbeats 1000000 in
theorem grow_nil (n : Int) (w : World) (h0 : 0 ≤ n) (h1 : n ≤ 1000000) :
    Calls Try.prog 70 #[.slice none 0 0, .int .i64 n] w fun e w' => ∃ v0_ : Value, e = .returned v0_ ∧ Kd.R k69 69 w' w.heap.size (fun _ => True) v0_ [] ∧ Below w.heap.size w w' := by
  by_cases hz : n = 0
  · subst hz
    go_enter Try.func70, Try.ntmps70
    go_wp2
    go_ret
    exact ⟨_, rfl, Kd.R_nil _ _ _ _ _, Below.refl _ _⟩
  · have hpos : 0 < n := by omega
    clear hz
    go_enter Try.func70, Try.ntmps70
    go_wp2_with ((with_reducible refine gate_builtin (b := .append) (xs := #[.tmp 20, .tmp 21]) rfl ?_); at_builtin; refine Kd.R_append_zeros k69 (w0 := w) w.heap.size rfl (.tmp 20) (.tmp 21) 65 3 69 (.agg #[.int .i64 0, .int .i64 0]) 16 rfl Try.underlying65 Try.underlying3 info69 rfl (by decide) (by omega) (.slice none 0 0) [] (0, 0) n (fun _ => True) rfl rfl ?aZ (fun _ _ => trivial) (Kd.R_nil _ _ _ _ _) h0 (Below.refl _ _) (Nat.le_refl _) ?aL ?_; (case aZ => first | exact rfl | exact k69_mkM _ _ _ (0, 0)); (case aL => simp; omega); intro v1 w1 ho hb hg hat; obtain ⟨A1, c1, he, hl1, hC1⟩ := Kd.R_reads ho; subst he; have HO := Aside0.mk ho; have HB := Aside0.mk hb; clear ho hb hg hat hC1 hl1)
    go_ret
    exact ⟨_, rfl, by simpa using Kd.R_take HO.out (Nat.zero_le _), HB.out⟩


def lens (l : List (List P2)) (i : Nat) : Nat := ((l.take i).map List.length).sum

theorem lens_succ (l : List (List P2)) (i : Nat) (h : i < l.length) : lens l (i + 1) = lens l i + (l.getD i []).length := by
  unfold lens
  rw [List.take_succ_eq_append_getElem h, List.map_append, List.sum_append_nat]
  simp [List.getD_eq_getElem?_getD, List.getElem?_eq_getElem h]
theorem lens_le (l : List (List P2)) : ∀ d i : Nat, i + d = l.length → lens l i ≤ lens l l.length := by
  intro d
  induction d with
  | zero => intro i h; rw [show i = l.length by omega]; exact Nat.le_refl _
  | succ d ih =>
    intro i h
    have h1 := ih (i + 1) (by omega)
    have h2 := lens_succ l i (by omega)
    omega
theorem flat_succ (l : List (List P2)) (i : Nat) (h : i < l.length) : (l.take (i + 1)).flatten = (l.take i).flatten ++ l.getD i [] := by
  rw [List.take_succ_eq_append_getElem h, List.flatten_append]
  simp [List.getD_eq_getElem?_getD, List.getElem?_eq_getElem h]
theorem flat_len (l : List (List P2)) (i : Nat) : (l.take i).flatten.length = lens l i := by
  unfold lens; rw [List.length_flatten]

theorem row_at {w : World} {A : Option Addr} {n : Nat} {xs : List (List P2)} (h : Kd.C (Kd.slice 69 k69) w A n xs) (i : Nat) (h1 : i < n) :
    ∃ ad B c, A = some ad ∧ w.cell? (ad.add i) = some (.slice B (xs.getD i []).length c) ∧ (xs.getD i []).length ≤ c ∧ Kd.C k69 w B (xs.getD i []).length (xs.getD i []) := by
  obtain ⟨ad, c, e, _, hK, hc⟩ := Kd.C_get h [] (i : Int) (by omega) (by omega)
  obtain ⟨B, q, hcs, hl, hC⟩ := hK
  rw [Int.toNat_natCast] at hcs hl hC hc
  subst hcs
  have h2 := hc 0 _ rfl
  rw [show i * (Kd.slice 69 k69).sz + 0 = i from by show i * 1 + 0 = i; omega] at h2
  exact ⟨ad, B, q, e, h2, hl, hC⟩

set_option maxRecDepth 100000 in
set_option maxHeartbeats 2000000 in
theorem concat_walk (A0 : Option Addr) (c0 : Nat) (l0 : List (List P2)) (w : World) (hr0 : Kd.C (Kd.slice 69 k69) w A0 l0.length l0) (hc0 : l0.length ≤ c0) (h1 : l0.length ≤ 1000) (h2 : lens l0 l0.length ≤ 1000000) :
    Calls Try.prog 38 #[.slice A0 l0.length c0] w fun e w' => ∃ v0_ : Value, e = .returned (v0_) ∧ Kd.R k69 69 w' w.heap.size (fun _ => True) v0_ l0.flatten ∧ Below w.heap.size w w' := by
  have HR0 := Aside0.mk hr0
  have H2 := Aside0.mk h2
  clear hr0 h2
  go_enter Try.func38, Try.ntmps38
  go_wp2
  go_loop [3, 11] (fun v3 v11 => ∃ i : Nat, i ≤ l0.length ∧ v11 = .int .i64 i ∧ v3 = .int .i64 ((lens l0 i : Nat) : Int)) (fun _ v11 => l0.length - (intOf v11).toNat)
  case atStart => exact ⟨0, by omega, rfl, by simp [lens]⟩
  case round =>
    obtain ⟨i, hi, rfl, rfl⟩ := hrel
    by_cases hlt : i < l0.length
    · obtain ⟨ad, B, q, rfl, g0, g1, _⟩ := row_at HR0.out i (by omega)
      have hs := lens_succ l0 i hlt
      have hle := lens_le l0 (l0.length - (i + 1)) (i + 1) (by omega)
      have hb : lens l0 i + (l0.getD i []).length ≤ 1000000 := by have := H2.out; omega
      have HS := Aside0.mk hs
      have hnn : 0 ≤ ((lens l0 i : Nat) : Int) + (((l0.getD i []).length : Nat) : Int) := by omega
      have hnn2 : decide (((lens l0 i : Nat) : Int) + (((l0.getD i []).length : Nat) : Int) < 0) = false := decide_eq_false (by omega)
      generalize hx : l0.getD i [] = x at *
      clear hx hs hle
      go_wp2
      go_round
      case rel => exact ⟨i + 1, by omega, by go_num, by rw [HS.out]; push_cast; rfl⟩
      case measure => simp [intOf]; omega
    · have hie : i = l0.length := by omega
      have G := Aside0.mk (grow_nil ((lens l0 i : Nat) : Int) w (by omega) (by have := H2.out; rw [hie]; omega))
      clear hie
      go_wp2_with fail
      (with_reducible refine G.out.mono ?_)
      rintro e w1 ⟨v1, rfl, hr1, hb1⟩
      have HR1 := Aside0.mk hr1
      have HB1 := Aside0.mk hb1
      clear hr1 hb1 G
      go_wp2
      go_loopw [6, 27] (fun v6 v27 wr => ∃ i : Nat, i ≤ l0.length ∧ v27 = .int .i64 i ∧ Aside0 (Kd.R k69 69 wr w.heap.size (fun _ => True) v6 (l0.take i).flatten) ∧ Aside0 (Below w.heap.size w wr)) (fun _ v27 _ => l0.length - (intOf v27).toNat)
      case atStart => exact ⟨0, by omega, rfl, by simpa using HR1, HB1⟩
      case round =>
        obtain ⟨j, hj, rfl, HR, HB⟩ := hrel
        by_cases hjl : j < l0.length
        · obtain ⟨ad, B, q, rfl, g0, g1, g2⟩ := row_at (Kd.C_below HR0.out HB.out) j (by omega)
          have hs := lens_succ l0 j hjl
          have hle := lens_le l0 (l0.length - (j + 1)) (j + 1) (by omega)
          have hf := flat_succ l0 j hjl
          have hfl := flat_len l0 j
          have SL : Aside0 ((l0.take j).flatten.length + (l0.getD j []).length ≤ 1000000) := ⟨by have := H2.out; omega⟩
          have HF := Aside0.mk hf
          generalize hx : l0.getD j [] = x at *
          have G2 := Aside0.mk g2
          clear hx hs hle hf hfl g2
          go_wp2_with ((with_reducible refine gate_builtin (b := .append) (xs := #[.tmp 31, .tmp 32]) rfl ?_); at_builtin; refine Kd.R_append_rows k69 (w0 := w) w.heap.size rfl (.tmp 31) (.tmp 32) 65 69 (.agg #[.int .i64 0, .int .i64 0]) 16 rfl Try.underlying65 info69 rfl (by decide) (by omega) u6 (l0.take j).flatten x _ _ _ (fun _ => True) (fun _ => False) rfl rfl ?aO ?aR (fun _ _ h => h) (fun _ h => h.elim) ?aF ?aB ?aS ?aL ?_; (case aO => exact HR.out); (case aR => exact G2.out); (case aF => exact (fun _ _ => trivial)); (case aB => exact HB.out); (case aS => exact HB.out.size); (case aL => have := SL.out; omega); intro v7 w7 ho hb hg hat; have HR7 := Aside0.mk ho; have HB7 := Aside0.mk hb; clear ho hb hg hat)
          go_roundw
          case rel => exact ⟨j + 1, by omega, by go_num, ⟨by rw [HF.out]; exact HR7.out⟩, HB7⟩
          case measure => simp [intOf]; omega
        · have hje : (l0.take j).flatten = l0.flatten := by rw [List.take_of_length_le (by omega)]
          have HR' := HR.out
          rw [hje] at HR'
          have HR2 := Aside0.mk HR'
          clear hje HR'
          go_wp2
          go_ret
          exact ⟨_, rfl, HR2.out, HB.out⟩

end Go.Proofs.Ytaalafnkglbcpaa.SY.CP
end

/- bakekeep3.built (33): a fact about circuits of tables, walked by hand. Own text of this claim. -/
section
namespace Go.Proofs.Ytaalafnkglbcpaa.SY
open Go.RowKit Go.WideMaps Go.Maps Go.Proofs.YtaalafnkglbcpaaW.PrintWords Go.Proofs.YtaalafnkglbcpaaW.PrintLast Go.Proofs.YtaalafnkglbcpaaW.PrintMore
open Go.Proofs.Ytaalafnkglbcpaa.PL (S77 z77 k77 Tab TabR roww cel OKT chk_is)
open Go.Proofs.Ytaalafnkglbcpaa.PG (S50 z50 k50 GateOk GatesOk)
set_option linter.unusedVariables false
set_option linter.unusedSimpArgs false
def TB1 : Tab := [[⟨0, 0⟩, ⟨1, 0⟩]]
theorem TB1_ok : OKT ((1 : Nat) : Int) ((1 : Nat) : Int) TB1 := by
  refine TabN.okt ⟨by decide, fun s hs => ?_, fun s a hs ha => ?_⟩ (by decide) (by decide) (by decide)
  · have e : s = 0 := by simp [TB1] at hs; omega
    subst e; rfl
  · have e : s = 0 := by simp [TB1] at hs; omega
    subst e
    have : a = 0 ∨ a = 1 := by omega
    rcases this with rfl | rfl <;> decide
theorem C_TB1 {W : World} {g h : Nat} (h1 : W.heap[g]? = some (.cells #[.int .i64 0, .int .i64 0, .int .i64 1, .int .i64 0] 77 (0, 0))) (h2 : W.heap[h]? = some (.cells #[.slice (some ⟨g, 0, none⟩) 2 2] 75 (0, 0))) : (Kd.slice 77 k77).C W (some ⟨h, 0, none⟩) 1 TB1 := by
  have hrow : k77.C W (some ⟨g, 0, none⟩) 2 [⟨0, 0⟩, ⟨1, 0⟩] := by
    refine ⟨rfl, by decide, fun _ => ⟨_, rfl, fun j p hj => ?_⟩⟩
    match j, hj with
    | 0, hj =>
      simp at hj; subst hj
      refine ⟨[.int .i64 0, .int .i64 0], rfl, PL.k77_mk W ⟨0, 0⟩, fun i u hi => ?_⟩
      match i, hi with
      | 0, hi => simp at hi; subst hi; exact (blk_cell h1 0).trans rfl
      | 1, hi => simp at hi; subst hi; exact (blk_cell h1 1).trans rfl
      | i + 2, hi => simp at hi
    | 1, hj =>
      simp at hj; subst hj
      refine ⟨[.int .i64 1, .int .i64 0], rfl, PL.k77_mk W ⟨1, 0⟩, fun i u hi => ?_⟩
      match i, hi with
      | 0, hi => simp at hi; subst hi; exact (blk_cell h1 2).trans rfl
      | 1, hi => simp at hi; subst hi; exact (blk_cell h1 3).trans rfl
      | i + 2, hi => simp at hi
    | j + 2, hj => simp at hj
  refine ⟨rfl, by decide, fun _ => ⟨_, rfl, fun j p hj => ?_⟩⟩
  match j, hj with
  | 0, hj =>
    simp [TB1] at hj; subst hj
    refine ⟨[.slice (some ⟨g, 0, none⟩) 2 2], rfl, ⟨_, _, rfl, by decide, hrow⟩, fun i u hi => ?_⟩
    match i, hi with
    | 0, hi => simp at hi; subst hi; exact (blk_cell h2 0).trans rfl
    | i + 1, hi => simp at hi
  | j + 1, hj => simp [TB1] at hj
end Go.Proofs.Ytaalafnkglbcpaa.SY
end

/- bakekeep3.same (31) and bakekeep3.word (19), walked by hand. Own text of this claim. -/
section
namespace Go.Proofs.Ytaalafnkglbcpaa.SY
open Go.RowKit Go.WideMaps Go.Maps Go.Proofs.YtaalafnkglbcpaaW.PrintWords Go.Proofs.YtaalafnkglbcpaaW.PrintLast Go.Proofs.YtaalafnkglbcpaaW.PrintMore
open Go.Proofs.Ytaalafnkglbcpaa.PL (S77 z77 k77 Tab TabR roww cel OKT info3)
open Go.Proofs.Ytaalafnkglbcpaa.PG (S50 z50 k50 GateOk GatesOk)
set_option linter.unusedVariables false
set_option linter.unusedSimpArgs false
/-- The circuit of one gate that is 0. -/
def C1 : Cir := ⟨1, [⟨0, 0, 0, 0, 0⟩], [0], [], []⟩
theorem C1_ok : C1.Ok := ⟨fun i hi => by
  have e : i = 0 := by simp [C1] at hi; omega
  subst e
  exact .inl ⟨rfl, rfl, rfl, rfl, by decide, by decide⟩, by decide, by decide, by decide, by decide, by decide, by simp [C1], by simp [C1], rfl⟩
theorem C1_eq (a : Nat) (h : a < 2) : Eq2 C1 TB1 (C1.start, 0) a ↔ a = 0 := by
  have : a = 0 ∨ a = 1 := by omega
  rcases this with rfl | rfl
  · exact ⟨fun _ => rfl, fun _ => by unfold Eq2; decide⟩
  · exact ⟨fun h => absurd h (by unfold Eq2; decide), fun h => by omega⟩
theorem C1_none : ¬ NoneTells C1 TB1 := by
  rintro ⟨R, h0, h1⟩
  have h := (h1 _ h0 1 (by decide)).1
  exact absurd ((C1_eq 1 (by decide)).1 h) (by decide)
theorem C1_tells {l : List Nat} (h : Tells C1 TB1 l) (h1 : l.length = 1 ∨ ∀ a, a < 2 ^ C1.ins → Eq2 C1 TB1 (C1.start, 0) a) : l = [1] := by
  rcases h1 with h1 | h1
  · obtain ⟨l0, x, p, rfl, hp, hx, he⟩ := h
    have e0 : l0 = [] := by
      rw [List.length_append, List.length_singleton] at h1
      exact List.eq_nil_of_length_eq_zero (by omega)
    subst e0
    have ep : p = (C1.start, 0) := Prod.ext hp.st hp.tt
    subst ep
    have hx2 : x < 2 := hx
    have : x ≠ 0 := fun e => he ((C1_eq x hx2).2 e)
    have e1 : x = 1 := by omega
    subst e1; rfl
  · have h := h1 1 (by decide)
    exact absurd ((C1_eq 1 (by decide)).1 h) (by decide)
theorem C_lit1 {W : World} {g : Nat} {a : Int} (h : W.heap[g]? = some (.cells #[.int .i64 a] 3 (0, 0))) : (Kd.int .i64).C W (some ⟨g, 0, none⟩) 1 [a] := by
  refine Kd.C_of_reads (enc := Value.int .i64) (d := (0 : Int)) ⟨rfl, by decide, fun _ => ⟨_, rfl, fun i hi => ?_⟩⟩
  have : i = 0 := by omega
  subst this
  exact (blk_cell h 0).trans rfl
theorem C_gate1 {W : World} {g : Nat} (h : W.heap[g]? = some (.cells #[.int .i64 0, .int .i64 0, .int .i64 0, .int .i64 0, .int .i64 0] 50 (0, 0))) : k50.C W (some ⟨g, 0, none⟩) 1 [⟨0, 0, 0, 0, 0⟩] := by
  refine ⟨rfl, by decide, fun _ => ⟨_, rfl, fun j p hj => ?_⟩⟩
  match j, hj with
  | 0, hj =>
    simp at hj; subst hj
    refine ⟨[.int .i64 0, .int .i64 0, .int .i64 0, .int .i64 0, .int .i64 0], rfl, PG.k50_mk W ⟨0, 0, 0, 0, 0⟩, fun i u hi => ?_⟩
    match i, hi with
    | 0, hi => simp at hi; subst hi; exact (blk_cell h 0).trans rfl
    | 1, hi => simp at hi; subst hi; exact (blk_cell h 1).trans rfl
    | 2, hi => simp at hi; subst hi; exact (blk_cell h 2).trans rfl
    | 3, hi => simp at hi; subst hi; exact (blk_cell h 3).trans rfl
    | 4, hi => simp at hi; subst hi; exact (blk_cell h 4).trans rfl
    | i + 5, hi => simp at hi
  | j + 1, hj => simp at hj
set_option maxHeartbeats 8000000 in
set_option maxRecDepth 100000 in
theorem same_calls (w : World) : Calls Try.prog 31 #[] w fun e w' => e = .returned (.bool true) ∧ Below w.heap.size w w' := by
  obtain ⟨h0, h1, h2, h3, hb⟩ := four_new w (Obj.cells #[.int .i64 0, .int .i64 0, .int .i64 0, .int .i64 0, .int .i64 0] 50) (Obj.cells #[.int .i64 0] 3) (Obj.cells #[.int .i64 0, .int .i64 0, .int .i64 1, .int .i64 0] 77) (Obj.cells #[.slice (some ⟨w.heap.size + 2, 0, none⟩) 2 2] 75)
  have FC := Aside0.mk (find_calls ((((w.alloc (Obj.cells #[.int .i64 0, .int .i64 0, .int .i64 0, .int .i64 0, .int .i64 0] 50)).alloc (Obj.cells #[.int .i64 0] 3)).alloc (Obj.cells #[.int .i64 0, .int .i64 0, .int .i64 1, .int .i64 0] 77)).alloc (Obj.cells #[.slice (some ⟨w.heap.size + 2, 0, none⟩) 2 2] 75)) C1 (some ⟨w.heap.size, 0, none⟩) (some ⟨w.heap.size + 1, 0, none⟩) none none 1 1 0 0 (some ⟨w.heap.size + 3, 0, none⟩) 1 TB1 C1_ok
    ⟨C_gate1 h0, C_lit1 h1, Kd.C_nil _ _, Kd.C_nil _ _, by decide, by decide, by decide, by decide⟩ TB1_ok (C_TB1 h2 h3) (Nat.le_refl 1) (by decide) (by decide))
  have HB := Aside0.mk hb
  clear h0 h1 h2 h3 hb
  rw [show C1.V (some ⟨w.heap.size, 0, none⟩) (some ⟨w.heap.size + 1, 0, none⟩) none none 1 1 0 0 = .agg #[.int .i64 1, .slice (some ⟨w.heap.size, 0, none⟩) 1 1, .slice (some ⟨w.heap.size + 1, 0, none⟩) 1 1, .slice none 0 0, .slice none 0 0] from rfl, show TB1.length = 1 from rfl, show ((C1.ins : Nat) : Int) = 1 from rfl, show ((C1.outs.length : Nat) : Int) = 1 from rfl] at FC
  go_enter Try.func31, Try.ntmps31
  go_wp2_with fail
  (with_reducible refine FC.out.mono ?_)
  rintro e w2 ⟨v, b, rfl, hb, hc⟩
  have HB2 := Aside0.mk (HB.out.trans (hb.mono HB.out.size))
  obtain ⟨A, cap, rfl, rfl, hcap, hC⟩ : ∃ A cap, b = true ∧ v = .slice A 1 cap ∧ 1 ≤ cap ∧ Kd.C (Kd.int .i64) w2 A 1 [1] := by
    rcases hc with ⟨_, _, hn⟩ | ⟨hb1, l, A, cap, hv, hl, hC, ht, _, h1⟩
    · exact absurd hn C1_none
    · have e := C1_tells ht h1
      subst e
      exact ⟨A, cap, hb1, hv, hl, hC⟩
  obtain ⟨k, hk⟩ := (PL.eq_is [1] (by decide)).rounds
  have EQ := Aside0.mk (PL.slices_Equal_int_int.calls k A cap [1] (some ⟨w2.heap.size, 0, none⟩) 1 [1] true (w2.alloc (Obj.cells #[.int .i64 1] 3)) (Kd.C_alloc hC _) hcap (C_lit1 (blk_new w2 _)) (Nat.le_refl 1) hk)
  rw [show ([1] : List Int).length = 1 from rfl] at EQ
  have HB4 := Aside0.mk (below_alloc HB2.out (Obj.cells #[.int .i64 1] 3))
  clear FC hb HB HB2 hC hc hk
  go_wp2_with fail
  (with_reducible refine EQ.out.mono ?_)
  rintro e w4 ⟨rfl, hd4⟩
  have HB5 := Aside0.mk (HB4.out.trans (hd4.below.mono HB4.out.size))
  clear EQ hd4 HB4
  go_wp2_with fail
  go_ret
  exact ⟨rfl, HB5.out⟩
end Go.Proofs.Ytaalafnkglbcpaa.SY
end
