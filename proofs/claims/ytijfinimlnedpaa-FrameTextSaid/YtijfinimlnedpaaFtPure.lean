/- The plain law of FrameText. No condition beyond the given statement. Own text of this claim. -/
import Derived.Test.YtijfinimlnedpaaPFTx21
import Derived.Test.YtijfinimlnedpaaFtPureA
namespace Go.Proofs.Ytijfinimlnedpaa.FtPure
open Go.RowKit Go.Proofs.Ytijfinimlnedpaa.PFT Go.Proofs.YtijfinimlnedpaaW.PrintWords Go.Proofs.YtijfinimlnedpaaW.PrintLast Go.Proofs.YtijfinimlnedpaaW.PrintMore
set_option linter.unusedVariables false
set_option linter.unusedSimpArgs false

theorem step_eq (x7 : List (List Int)) (any : Bool) (a b : List Int) (i : Nat) (hi : i < 1536) (ha : a.length = 1536) (hb : b.length = 1536) (L T R M : Int)
    (h : rd a (i : Int) ≠ rd b (i : Int) → any = true ∧ InBox L T R M i) (k : Nat) :
    bakekeep3_FrameText.l0 (k + 1) x7 any a b (1536 : Int) (i : Int) L T R M = bakekeep3_FrameText.l0 k x7 any a b (1536 : Int) ((i + 1 : Nat) : Int) L T R M := by
  have e1 : wrap64 ((i : Int) + 1) = ((i + 1 : Nat) : Int) := by rw [w64 (by omega) (by omega)]; omega
  have e4 : wrap64 ((i / 48 : Nat) : Int) = ((i / 48 : Nat) : Int) := w64 (by omega) (by omega)
  have q1 : (i : Int) < 1536 := by omega
  have q2 : (0 : Int) ≤ (i : Int) := by omega
  have q3 : (i : Int) < (a.length : Int) := by omega
  have q4 : (i : Int) < (b.length : Int) := by omega
  have e2 : Int.tmod (i : Int) 48 = ((i % 48 : Nat) : Int) := rfl
  have e3 : Int.tdiv (i : Int) 48 = ((i / 48 : Nat) : Int) := rfl
  simp only [bakekeep3_FrameText.l0]
  rw [if_pos q1, e2, e3, e4, e1]
  by_cases hq : rd a (i : Int) = rd b (i : Int)
  · simp only [if_pos q2, if_pos q3, if_pos q4, if_pos hq]
    repeat' (first | rfl | split)
  · obtain ⟨h0, h1, h2, h3, h4⟩ := h hq
    rw [if_pos h1, if_pos h2, if_pos h3, if_pos q2, if_pos q3, if_pos q4, if_neg hq, if_pos h0, if_pos h4]
theorem loop_is (x7 : List (List Int)) (any : Bool) (a b : List Int) (ha : a.length = 1536) (hb : b.length = 1536) (L T R M : Int)
    (h : ∀ j : Nat, j < 1536 → rd a (j : Int) ≠ rd b (j : Int) → any = true ∧ InBox L T R M j) (h7 : 0 < (x7.length : Int)) (hx : (rd_L3 x7 0).length = 2560) (hr : Rng (rd_L3 x7 0)) : ∀ d i : Nat, i + d = 1536 →
    Ev (fun k => bakekeep3_FrameText.l0 k x7 any a b (1536 : Int) (i : Int) L T R M) true := by
  intro d
  induction d with
  | zero =>
    intro i hi
    have hi' : i = 1536 := hi
    have hn : ¬ (i : Int) < 1536 := by rw [hi']; decide
    refine Ev.step (f := fun k => (frame_Right.f k (rd_L3 x7 0)).bind fun t209 => (some (t209 == 0))) (fun k => ?_) (Ev.bind (f := fun k t209 => some (t209 == 0)) (right_is (rd_L3 x7 0) hx hr) (Ev.now _))
    simp only [bakekeep3_FrameText.l0]; rw [if_neg hn, if_pos h7]
  | succ d ih =>
    intro i hi
    have hi1 : i + 1 + d = 1536 := by omega
    have hil : i < 1536 := by omega
    exact Ev.step (fun k => step_eq x7 any a b i hil ha hb L T R M (h i hil) k) (ih (i + 1) hi1)

theorem cols_of {l : List Int} (h : Rng l) : cols l = true := List.all_eq_true.2 fun a ha => decide_eq_true (h a ha)
theorem FrameText : bakekeep3_FrameText.Pure := by
  intro l0 l1 a2 hm _ _ hm1 _ _ _
  obtain ⟨c, hc, c0, c1⟩ := below_is a2 16 (by omega) (by omega)
  obtain ⟨O, hO, O1, O2⟩ := draw_is l0 (by unfold maxLen at hm; omega)
  obtain ⟨Q, hQ, Q1, Q2⟩ := draw_is l1 (by unfold maxLen at hm1; omega)
  apply Ev.rounds
  have k1 : frame_Of.f O (⟨#[118]⟩ : ByteArray) 0 1 = some (pieces (all 0 O 1) 1, 0) := by
    unfold frame_Of.f
    rw [if_pos ⟨by omega, O2, by omega, by omega, by omega, by omega⟩]; rfl
  have k2 : frame_Of.f Q (⟨#[118]⟩ : ByteArray) 0 1 = some (pieces (all 0 Q 1) 1, 0) := by
    unfold frame_Of.f
    rw [if_pos ⟨by omega, Q2, by omega, by omega, by omega, by omega⟩]; rfl
  have rx := all_range (⟨#[118]⟩ : ByteArray) 0 O 1 O2 (by omega) (by omega)
  have ry := all_range (⟨#[118]⟩ : ByteArray) 0 Q 1 Q2 (by omega) (by omega)
  have lx := all_len 0 O 1
  have ly := all_len 0 Q 1
  have one : ∀ A : List Int, A.length = 1 * 2560 → rd_L3 (pieces A 1) 0 = A := by
    intro A hA
    have := pieces_at A 1 0 (by omega)
    rw [show ((0 : Nat) : Int) = 0 from rfl] at this
    rw [this, Nat.zero_mul, List.drop_zero, List.take_of_length_le (by rw [hA]; exact Nat.le_refl _)]
  have ex := one _ lx
  have ey := one _ ly
  have px : (pieces (all 0 O 1) 1).length = 1 := by simp [pieces]
  have py : (pieces (all 0 Q 1) 1).length = 1 := by simp [pieces]
  rw [Nat.one_mul] at lx ly
  generalize all 0 O 1 = x at *
  generalize all 0 Q 1 = y at *
  generalize pieces x 1 = X at *
  generalize pieces y 1 = Y at *
  subst ex
  subst ey
  obtain ⟨B, bl, br, bv, hB⟩ := read_is (rd_L3 X 0) rx c c0 (by omega)
  have hsame := chd_same (rd_L3 X 0) B lx bl rx br bv
  obtain ⟨L, T, R, M, any, hch, hbox⟩ := chd_is (rd_L3 X 0) (rd_L3 Y 0) lx ly rx ry
  have hloop := loop_is X any (vis (rd_L3 X 0)) (vis (rd_L3 Y 0)) (vis_l _) (vis_l _) L T R M hbox (by omega) lx rx 1536 0 rfl
  have hx := seen_is' (rd_L3 X 0) lx rx
  have hy := seen_is' (rd_L3 Y 0) ly ry
  have ht : frame_Text.f (rd_L3 X 0) = some (strB (txtL (rd_L3 X 0)), 0) := by
    unfold frame_Text.f; rw [if_pos ⟨lx, cols_of rx⟩]
  have p1 : 0 < (X.length : Int) := by omega
  have p2 : 0 < (Y.length : Int) := by omega
  have v1 : ((vis (rd_L3 X 0)).length : Int) = 1536 := by rw [vis_l]; rfl
  have v2 : (((vis (rd_L3 Y 0)).length : Int) != 1536) = false := by rw [vis_l]; rfl
  -- the loop
  have E2 : Ev (fun k => bakekeep3_FrameText.j2 k X any (vis (rd_L3 X 0)) (vis (rd_L3 Y 0)) false L T R M) true := by
    refine Ev.step (fun k => ?_) hloop
    simp only [bakekeep3_FrameText.j2]
    rw [if_neg (by simp), v1]; rfl
  have E1 : Ev (fun k => bakekeep3_FrameText.j1 k X Y false) true := by
    refine Ev.step (f := fun k => (frame_Changed.f k (rd_L3 X 0) (rd_L3 Y 0)).bind fun bt183 => ((frame_Seen.f k (rd_L3 X 0)).bind fun bt191 => ((frame_Seen.f k (rd_L3 Y 0)).bind fun bt196 => (if bt183.2.2.2.2.2 = 0 then (if bt191.2 = 0 then (if bt196.2 = 0 then (if (bt191.1.length : Int) = 1536 then (bakekeep3_FrameText.j2 k X bt183.2.2.2.2.1 bt191.1 bt196.1 ((bt196.1.length : Int) != 1536) bt183.1 bt183.2.1 bt183.2.2.1 bt183.2.2.2.1) else (bakekeep3_FrameText.j2 k X bt183.2.2.2.2.1 bt191.1 bt196.1 true bt183.1 bt183.2.1 bt183.2.2.1 bt183.2.2.2.1)) else (bakekeep3_FrameText.j2 k X bt183.2.2.2.2.1 bt191.1 bt196.1 true bt183.1 bt183.2.1 bt183.2.2.1 bt183.2.2.2.1)) else (bakekeep3_FrameText.j2 k X bt183.2.2.2.2.1 bt191.1 bt196.1 true bt183.1 bt183.2.1 bt183.2.2.1 bt183.2.2.2.1)) else (bakekeep3_FrameText.j2 k X bt183.2.2.2.2.1 bt191.1 bt196.1 true bt183.1 bt183.2.1 bt183.2.2.1 bt183.2.2.2.1))))) (fun k => ?_) ?_
    · simp only [bakekeep3_FrameText.j1]
      rw [if_neg (by simp), if_pos p1, if_pos p2]
    · refine Ev.bind (f := fun k bt183 => _) hch ?_
      refine Ev.bind (f := fun k bt191 => _) hx ?_
      refine Ev.bind (f := fun k bt196 => _) hy ?_
      refine Ev.congr (fun k => ?_) E2
      rw [if_pos rfl, if_pos rfl, if_pos rfl, if_pos v1, v2]
  have E0 : Ev (fun k => bakekeep3_FrameText.j0 k a2 X Y false) true := by
    refine Ev.step (f := fun k => (frame_Read.f k (strB (txtL (rd_L3 X 0))) c).bind fun bt169 => ((frame_Changed.f k (rd_L3 X 0) bt169.1).bind fun bt174 => (if (0 : Int) = 0 then (if bt169.2 = 0 then (if bt174.2.2.2.2.2 = 0 then (bakekeep3_FrameText.j1 k X Y bt174.2.2.2.2.1) else (bakekeep3_FrameText.j1 k X Y true)) else (bakekeep3_FrameText.j1 k X Y true)) else (bakekeep3_FrameText.j1 k X Y true)))) (fun k => ?_) ?_
    · simp only [bakekeep3_FrameText.j0]
      rw [if_neg (by simp), if_pos p1, ht, hc]; rfl
    · refine Ev.bind (f := fun k bt169 => _) hB ?_
      refine Ev.bind (f := fun k bt174 => _) hsame ?_
      refine Ev.congr (fun k => ?_) E1
      rw [if_pos rfl, if_pos rfl, if_pos rfl]
  unfold bakekeep3_FrameText.f
  refine Ev.bind (f := fun k t150 => _) hO ?_
  simp only [k1, Option.bind_some]
  refine Ev.bind (f := fun k t157 => _) hQ ?_
  simp only [k2, seen_is, Option.bind_some, if_true]
  refine Ev.congr (fun k => ?_) E0
  rw [if_pos (by omega), show (((Y.length : Nat) : Int) != 1) = false by rw [py]; rfl]
end Go.Proofs.Ytijfinimlnedpaa.FtPure
