-- An own text of this claim, written by wip/tools/surro.py over the kit's print.
import Derived.Test.YtijfinimlnedpaaPFBx0
import Derived.Test.YtijfinimlnedpaaPFBx7
namespace Go.Proofs.Ytijfinimlnedpaa.PFB
open Go.RowKit Go.Proofs.YtijfinimlnedpaaW.PrintWords Go.Proofs.YtijfinimlnedpaaW.PrintLast Go.Proofs.YtijfinimlnedpaaW.PrintMore
attribute [local go_sem] max2_int min2_int max_two min_two max_three min_three max_four min_four   -- for this text's walks alone
set_option linter.unusedVariables false
set_option linter.unusedSimpArgs false

/-! ### frame_Outs: function 38 -/
mutual
def frame_Outs.l0 : Nat → ByteArray → Int → List (S126) → List (List Int) → Int → Int → Option ((List (S126)) × Int)
  | 0, _, _, _, _, _, _ => none
  | k + 1, x1, x2, x8, x17, x18, x19 => if x19 < x18 then (if 0 ≤ x19 then (if x19 < (x17.length : Int) then ((frame_Right.f k (rd_L3 x17 x19)).bind fun t115 => (if t115 = 0 then (frame_Outs.l1 k x1 x2 x8 x19 x17 x18 x19 (rd_L3 x17 x19) ((rd_L3 x17 x19).length : Int) 0) else (some (([] : List (S126)), t115)))) else (none)) else (none)) else (some (x8, 0))
def frame_Outs.l1 : Nat → ByteArray → Int → List (S126) → Int → List (List Int) → Int → Int → List Int → Int → Int → Option ((List (S126)) × Int)
  | 0, _, _, _, _, _, _, _, _, _, _ => none
  | k + 1, x1, x2, x8, x9, x17, x18, x19, x29, x30, x31 => if x31 < x30 then (if 0 ≤ x31 then (if x31 < (x29.length : Int) then (if (rd x29 x31) = x2 then (frame_Outs.l1 k x1 x2 x8 x9 x17 x18 x19 x29 x30 (wrap64 (x31 + 1))) else (if x8.length < 4398046511104 then (frame_Outs.l1 k x1 (rd x29 x31) (x8 ++ [(⟨wrap64 ((wrap64 ((wrap64 (x9 * 64)) * 40)) + x31), x1, rd x29 x31⟩ : S126)]) x9 x17 x18 x19 x29 x30 (wrap64 (x31 + 1))) else (none))) else (none)) else (none)) else (frame_Outs.l0 k x1 x2 x8 x17 x18 (wrap64 (x19 + 1)))
end
def frame_Outs.f (k : Nat) (l0 : List (List Int)) (a1 : ByteArray) (a2 : Int) : Option ((List (S126)) × Int) := if (l0.length : Int) > 40 then (some (([] : List (S126)), 2)) else (frame_Outs.l0 k a1 a2 ([] : List (S126)) l0 (l0.length : Int) 0)
theorem frame_Outs.mono_l : ∀ k, (∀ y0 y1 y2 y3 y4 y5, LeO (frame_Outs.l0 k y0 y1 y2 y3 y4 y5) (frame_Outs.l0 (k + 1) y0 y1 y2 y3 y4 y5)) ∧ (∀ y0 y1 y2 y3 y4 y5 y6 y7 y8 y9, LeO (frame_Outs.l1 k y0 y1 y2 y3 y4 y5 y6 y7 y8 y9) (frame_Outs.l1 (k + 1) y0 y1 y2 y3 y4 y5 y6 y7 y8 y9))
  | 0 => ⟨fun _ _ _ _ _ _ r h => by simp [frame_Outs.l0] at h, fun _ _ _ _ _ _ _ _ _ _ r h => by simp [frame_Outs.l1] at h⟩
  | k + 1 => by
    obtain ⟨ih0, ih1⟩ := frame_Outs.mono_l k
    refine ⟨?_, ?_⟩
    · intro y0 y1 y2 y3 y4 y5
      unfold frame_Outs.l0
      repeat' first
      | (with_reducible exact ih0 _ _ _ _ _ _)
      | (with_reducible exact ih1 _ _ _ _ _ _ _ _ _ _)
      | (with_reducible exact frame_Right.mono _ _)
      | (with_reducible exact LeO.refl _)
      | (with_reducible exact LeO.none _)
      | (with_reducible refine LeO.ite ?_ ?_)
      | (with_reducible refine LeO.bind ?_ (fun _ => ?_))
      | exact ih0 _ _ _ _ _ _
      | exact ih1 _ _ _ _ _ _ _ _ _ _
      | exact frame_Right.mono _ _
      | exact LeO.none _
      | refine LeO.ite ?_ ?_
      | refine LeO.bind ?_ (fun _ => ?_)
    · intro y0 y1 y2 y3 y4 y5 y6 y7 y8 y9
      unfold frame_Outs.l1
      repeat' first
      | (with_reducible exact ih0 _ _ _ _ _ _)
      | (with_reducible exact ih1 _ _ _ _ _ _ _ _ _ _)
      | (with_reducible exact frame_Right.mono _ _)
      | (with_reducible exact LeO.refl _)
      | (with_reducible exact LeO.none _)
      | (with_reducible refine LeO.ite ?_ ?_)
      | (with_reducible refine LeO.bind ?_ (fun _ => ?_))
      | exact ih0 _ _ _ _ _ _
      | exact ih1 _ _ _ _ _ _ _ _ _ _
      | exact frame_Right.mono _ _
      | exact LeO.none _
      | refine LeO.ite ?_ ?_
      | refine LeO.bind ?_ (fun _ => ?_)
theorem frame_Outs.mono : ∀ a0 a1 a2 k, LeO (frame_Outs.f k a0 a1 a2) (frame_Outs.f (k + 1) a0 a1 a2) := by
  intro a0 a1 a2 k
  obtain ⟨ih0, ih1⟩ := frame_Outs.mono_l k
  unfold frame_Outs.f
  repeat' first
      | (with_reducible exact ih0 _ _ _ _ _ _)
      | (with_reducible exact ih1 _ _ _ _ _ _ _ _ _ _)
      | (with_reducible exact frame_Right.mono _ _)
      | (with_reducible exact LeO.refl _)
      | (with_reducible exact LeO.none _)
      | (with_reducible refine LeO.ite ?_ ?_)
      | (with_reducible refine LeO.bind ?_ (fun _ => ?_))
      | exact ih0 _ _ _ _ _ _
      | exact ih1 _ _ _ _ _ _ _ _ _ _
      | exact frame_Right.mono _ _
      | exact LeO.none _
      | refine LeO.ite ?_ ?_
      | refine LeO.bind ?_ (fun _ => ?_)
set_option maxHeartbeats 8000000 in
set_option maxRecDepth 100000 in
theorem frame_Outs.calls (k : Nat) (A0 : Option Addr) (c0 : Nat) (l0 : List (List Int)) (a1 : ByteArray) (a2 : Int) (r1 : List (S126)) (r2 : Int) (w : World) (hr0 : Kd.C (Kd.slice 3 (Kd.int .i64)) w A0 l0.length l0) (hc0 : l0.length ≤ c0) (h : frame_Outs.f k l0 a1 a2 = some (r1, r2)) :
    Calls Try.prog 38 #[.slice A0 l0.length c0, .string a1, .int .i64 a2] w fun e w' => ∃ v0_ : Value, e = .returned (.tuple #[v0_, .int .i64 r2]) ∧ Kd.R k126 126 w' w.heap.size (fun _ => True) v0_ r1 ∧ Below w.heap.size w w' := by
  have hu126 := Try.underlying126
  have HR0 := Aside0.mk hr0
  have HC0 := Aside0.mk hc0
  clear hr0 hc0
  have HB := Aside0.mk (Below.refl w.heap.size w)
  have H : (if (l0.length : Int) > 40 then (some (([] : List (S126)), 2)) else (frame_Outs.l0 k a1 a2 ([] : List (S126)) l0 (l0.length : Int) 0)) = some (r1, r2) := h
  clear h
  by_cases c4 : (l0.length : Int) > 40
  · rw [if_pos c4] at H
    have c4b0 : decide (40 < (l0.length : Int)) = true := decide_eq_true c4
    have c4b1 : decide (40 < l0.length) = true := decide_eq_true (by omega)
    clear c4
    simp only [Option.some.injEq, Prod.mk.injEq] at H
    obtain ⟨rfl, rfl⟩ := H
    go_enter Try.func38, Try.ntmps38
    go_wp2
    go_ret2
    exact ⟨_, by first | rfl | (simp [errW_none, errW_some] <;> rfl) | (simp [*, errW_none, errW_some] <;> rfl), by first | exact Kd.R_nil _ _ _ _ _ | exact Kd.N_nil _ _ _ _ _ | exact Kd.V_nil _ _ _ _ _ | exact Kd.Q_nil _ _ _ _ _ | exact Kd.S_nil _ _ _ _ _, by repeat (first | (with_reducible first | exact HB.out | apply below_alloc | apply pw_below_drewN | apply below_drew1) | exact HB.out)⟩
  · rw [if_neg c4] at H
    have c4b0 : decide (40 < (l0.length : Int)) = false := decide_eq_false c4
    have c4b1 : decide (40 < l0.length) = false := decide_eq_false (by omega)
    clear c4
    have H' := Aside0.mk H
    clear H
    go_enter Try.func38, Try.ntmps38
    go_wp2
    go_loopg [2, 8, 19] k (fun kq v2 v8 v19 w' => ∃ (x2_1 : Int) (x8_1 : List (S126)) (x19_1 : Int), v2 = .int .i64 x2_1 ∧ v19 = .int .i64 x19_1 ∧ Aside0 (frame_Outs.l0 kq a1 x2_1 x8_1 l0 (l0.length : Int) x19_1 = some (r1, r2)) ∧ Aside0 (kq ≤ k) ∧ Aside0 (Kd.R k126 126 w' w.heap.size (fun _ => True) v8 x8_1) ∧ Aside0 (Below w.heap.size w w'))
    case atStart => exact ⟨(a2), (([] : List (S126))), (0), (by first | rfl | (simp; done) | (simp [*]; done)), (by first | rfl | (simp; done) | (simp [*]; done)), H', ⟨Nat.le_refl _⟩, ⟨by first | exact Kd.R_nil _ _ _ _ _ | exact Kd.N_nil _ _ _ _ _ | exact Kd.V_nil _ _ _ _ _ | exact Kd.Q_nil _ _ _ _ _ | exact Kd.S_nil _ _ _ _ _⟩, ⟨by repeat (first | (with_reducible first | exact HB.out | apply below_alloc | apply pw_below_drewN | apply below_drew1) | exact HB.out)⟩⟩
    case round =>
      clear H'
      try clear p2
      try clear c3
      try clear c4
      try clear c4b0
      try clear c4b1
      obtain ⟨x2_1, x8_1, x19_1, rfl, rfl, HA, HK1, HO_8, HB⟩ := hrel
      cases gk with
      | zero => exact absurd HA.out (by simp [frame_Outs.l0])
      | succ k1 =>
        have H := HA.out
        clear HA
        simp only [frame_Outs.l0] at H
        by_cases c5 : x19_1 < (l0.length : Int)
        · rw [if_pos c5] at H
          have c5b0 : decide (x19_1 < (l0.length : Int)) = true := decide_eq_true c5
          clear c5
          by_cases c6 : 0 ≤ x19_1
          · rw [if_pos c6] at H
            have c6b0 : decide (0 ≤ x19_1) = true := decide_eq_true c6
            clear c6
            by_cases c7 : x19_1 < (l0.length : Int)
            · rw [if_pos c7] at H
              have c7b0 : decide (x19_1 < (l0.length : Int)) = true := decide_eq_true c7
              clear c7
              replace H := Option.bind_eq_some_iff.mp H
              obtain ⟨t115, A80, H⟩ := H
              replace H : (if t115 = 0 then (frame_Outs.l1 k1 a1 x2_1 x8_1 x19_1 l0 (l0.length : Int) x19_1 (rd_L3 l0 x19_1) ((rd_L3 l0 x19_1).length : Int) 0) else (some (([] : List (S126)), t115))) = some (r1, r2) := H
              have A8 := Aside0.mk A80
              clear A80
              by_cases c9 : t115 = 0
              · rw [if_pos c9] at H
                have c9b0 : (t115 == 0) = true := beq_iff_eq.mpr c9
                have c9b1 : (t115 != 0) = false := bne_eq_false_iff_eq.mpr c9
                clear c9
                have H' := Aside0.mk H
                clear H
                have p114 : 0 ≤ (x19_1 : Int) := of_decide_eq_true (by first | (with_reducible assumption) | assumption)
                have q114 : x19_1 < (l0.length : Int) := of_decide_eq_true (by first | (with_reducible assumption) | assumption)
                obtain ⟨ad114, A114_0, c114_0, e114, hx114_0, hl114_0, hi114_0⟩ := at_L3 HR0.out x19_1 p114 q114
                cases e114
                replace hx114_0 := (HB.out.cell (World.block_lt_of_cell? w _ hx114_0)).trans hx114_0
                have HR114_0 := Aside0.mk hi114_0
                have HC114_0 := Aside0.mk hl114_0
                clear hi114_0 hl114_0
                replace p114 := eq_true p114
                replace q114 := eq_true q114
                go_wp2_with (first | ((with_reducible refine gate_callee (f := 77) rfl ?_); refine goesL_ (some 25) rfl rfl Try.func77 (by kernel_rfl) rfl #[.slice A114_0 (rd_L3 l0 x19_1).length c114_0] rfl (by (try simp only [List.map_toArray, List.map_cons, List.map_nil]); first | done | rfl | (simp only [List.length_drop, List.length_take]; rfl)) ?_; (with_reducible refine (frame_Right.calls k1 _ _ (rd_L3 l0 x19_1) t115 _ ?side1 ?side2 A8.out).mono ?_); (case side1 => repeat (first | exact (Kd.C_below HR114_0.out HB.out) | (with_reducible refine Kd.C_alloc ?_ _) | (with_reducible refine Kd.C_drewN ?_ _) | (with_reducible refine Kd.C_drew ?_))); (case side2 => exact HC114_0.out); rintro e w' ⟨rfl, ⟨nd, rfl⟩⟩; refine ⟨_, rfl, ?_⟩))
                go_loopg [2, 8, 31] k1 (fun kq v2 v8 v31 w' => ∃ (x2_2 : Int) (x8_2 : List (S126)) (x31_2 : Int), v2 = .int .i64 x2_2 ∧ v31 = .int .i64 x31_2 ∧ Aside0 (frame_Outs.l1 kq a1 x2_2 x8_2 x19_1 l0 (l0.length : Int) x19_1 (rd_L3 l0 x19_1) ((rd_L3 l0 x19_1).length : Int) x31_2 = some (r1, r2)) ∧ Aside0 (kq ≤ k1) ∧ Aside0 (Kd.R k126 126 w' w.heap.size (fun _ => True) v8 x8_2) ∧ Aside0 (Below w.heap.size w w'))
                case atStart => exact ⟨(x2_1), (x8_1), (0), (by first | rfl | (simp; done) | (simp [*]; done)), (by first | rfl | (simp; done) | (simp [*]; done)), H', ⟨Nat.le_refl _⟩, ⟨by (with_reducible repeat (first | apply Kd.R_alloc | apply Kd.R_drewN | apply Kd.R_drew)); exact HO_8.out⟩, ⟨by repeat (first | (with_reducible first | exact HB.out | apply below_alloc | apply pw_below_drewN | apply below_drew1) | exact HB.out)⟩⟩
                case round =>
                  clear H'
                  try clear c1
                  try clear p1
                  try clear q1
                  try clear hx1
                  try clear p2
                  try clear c3
                  try clear c4
                  try clear c4b0
                  try clear c4b1
                  try clear c5
                  try clear c5b0
                  try clear c6
                  try clear c6b0
                  try clear c7
                  try clear c7b0
                  try clear c9
                  try clear c9b0
                  try clear c9b1
                  try clear hx114_0
                  try clear p114
                  try clear p2
                  try clear q114
                  obtain ⟨x2_2, x8_2, x31_2, rfl, rfl, HA, HK2, HO_8, HB⟩ := hrel
                  cases gk with
                  | zero => exact absurd HA.out (by simp [frame_Outs.l1])
                  | succ k2 =>
                    have H := HA.out
                    clear HA
                    simp only [frame_Outs.l1] at H
                    by_cases c10 : x31_2 < ((rd_L3 l0 x19_1).length : Int)
                    · rw [if_pos c10] at H
                      have c10b0 : decide (x31_2 < ((rd_L3 l0 x19_1).length : Int)) = true := decide_eq_true c10
                      clear c10
                      by_cases c11 : 0 ≤ x31_2
                      · rw [if_pos c11] at H
                        have c11b0 : decide (0 ≤ x31_2) = true := decide_eq_true c11
                        clear c11
                        by_cases c12 : x31_2 < ((rd_L3 l0 x19_1).length : Int)
                        · rw [if_pos c12] at H
                          have c12b0 : decide (x31_2 < ((rd_L3 l0 x19_1).length : Int)) = true := decide_eq_true c12
                          clear c12
                          by_cases c13 : (rd (rd_L3 l0 x19_1) x31_2) = x2_2
                          · rw [if_pos c13] at H
                            have c13b0 : ((rd (rd_L3 l0 x19_1) x31_2) == x2_2) = true := beq_iff_eq.mpr c13
                            have c13b1 : ((rd (rd_L3 l0 x19_1) x31_2) != x2_2) = false := bne_eq_false_iff_eq.mpr c13
                            clear c13
                            have H' := Aside0.mk H
                            clear H
                            have p116 : 0 ≤ (x31_2 : Int) := of_decide_eq_true (by first | (with_reducible assumption) | assumption)
                            have q116 : x31_2 < ((rd_L3 l0 x19_1).length : Int) := of_decide_eq_true (by first | (with_reducible assumption) | assumption)
                            obtain ⟨ad116, e116, hx116_0⟩ := Kd.at_int HR114_0.out x31_2 p116 q116
                            cases e116
                            replace hx116_0 := (HB.out.cell (World.block_lt_of_cell? w _ hx116_0)).trans hx116_0
                            replace p116 := eq_true p116
                            replace q116 := eq_true q116
                            go_wp2
                            go_roundg k2
                            case measure => have := HK1.out; have := HK2.out; omega
                            case rel => exact ⟨(x2_2), (x8_2), (wrap64 (x31_2 + 1)), (by first | rfl | (simp; done) | (simp [*]; done)), (by first | rfl | (simp; done) | (simp [*]; done)), H', ⟨by have := HK1.out; have := HK2.out; omega⟩, ⟨by (with_reducible repeat (first | apply Kd.R_alloc | apply Kd.R_drewN | apply Kd.R_drew)); exact HO_8.out⟩, ⟨by repeat (first | (with_reducible first | exact HB.out | apply below_alloc | apply pw_below_drewN | apply below_drew1) | exact HB.out)⟩⟩
                          · rw [if_neg c13] at H
                            have c13b0 : ((rd (rd_L3 l0 x19_1) x31_2) == x2_2) = false := beq_eq_false_iff_ne.mpr c13
                            have c13b1 : ((rd (rd_L3 l0 x19_1) x31_2) != x2_2) = true := bne_iff_ne.mpr c13
                            by_cases c14 : x8_2.length < 4398046511104
                            · rw [if_pos c14] at H
                              have LMc14 := Aside0.mk c14
                              clear c14
                              obtain ⟨y117, hy117⟩ : ∃ y_ : List (S126), y_ = (x8_2 ++ [(⟨wrap64 ((wrap64 ((wrap64 (x19_1 * 64)) * 40)) + x31_2), a1, rd (rd_L3 l0 x19_1) x31_2⟩ : S126)]) := ⟨_, rfl⟩
                              replace H : (frame_Outs.l1 k2 a1 (rd (rd_L3 l0 x19_1) x31_2) y117 x19_1 l0 (l0.length : Int) x19_1 (rd_L3 l0 x19_1) ((rd_L3 l0 x19_1).length : Int) (wrap64 (x31_2 + 1))) = some (r1, r2) := by first | (rw [hy117]; with_reducible exact H) | (have H2_ := (Option.bind_some _ _).symm.trans H; rw [hy117]; with_reducible exact H2_) | (have H2_ := (Option.bind_some _ _).symm.trans H; with_reducible exact H2_) | with_reducible exact H | (rw [hy117]; exact H) | exact H
                              have Ny117 := Aside0.mk hy117
                              clear hy117
                              have H' := Aside0.mk H
                              clear H
                              have p116 : 0 ≤ (x31_2 : Int) := of_decide_eq_true (by first | (with_reducible assumption) | assumption)
                              have q116 : x31_2 < ((rd_L3 l0 x19_1).length : Int) := of_decide_eq_true (by first | (with_reducible assumption) | assumption)
                              obtain ⟨ad116, e116, hx116_0⟩ := Kd.at_int HR114_0.out x31_2 p116 q116
                              cases e116
                              replace hx116_0 := (HB.out.cell (World.block_lt_of_cell? w _ hx116_0)).trans hx116_0
                              replace p116 := eq_true p116
                              replace q116 := eq_true q116
                              go_wp2_with (first | ((with_reducible refine gate_builtin (b := .append) (xs := #[.tmp 40, .tmp 49]) rfl ?_); at_builtin; refine Kd.R_append k126 (w0 := w) w.heap.size rfl (.tmp 40) (.tmp 49) 65 126 (.agg #[(.int .i64 0), (.string ⟨#[]⟩), (.int .i64 0)]) 32 rfl Try.underlying65 info126 rfl (by decide) (by omega) u8 x8_2 (⟨wrap64 ((wrap64 ((wrap64 (x19_1 * 64)) * 40)) + x31_2), a1, rd (rd_L3 l0 x19_1) x31_2⟩ : S126) [.int .i64 (wrap64 ((wrap64 ((wrap64 (x19_1 * 64)) * 40)) + x31_2)), .string a1, .int .i64 (rd (rd_L3 l0 x19_1) x31_2)] (fun _ => True) (fun _ => False) rfl rfl ?aP (fun _ hk => hk.elim) ?aF ?aO ?aB ?aS ?aL ?_; (case aP => exact k126_mkM _ _ _ (⟨wrap64 ((wrap64 ((wrap64 (x19_1 * 64)) * 40)) + x31_2), a1, rd (rd_L3 l0 x19_1) x31_2⟩ : S126)); (case aB => exact (by repeat (first | (with_reducible first | exact HB.out | apply below_alloc | apply pw_below_drewN | apply below_drew1) | exact HB.out))); (case aF => exact (fun _ _ => trivial)); (case aO => exact (by (with_reducible repeat (first | apply Kd.R_alloc | apply Kd.R_drewN | apply Kd.R_drew)); exact HO_8.out)); (case aS => exact (below_size (by repeat (first | (with_reducible first | exact HB.out | apply below_alloc | apply pw_below_drewN | apply below_drew1) | exact HB.out)))); (case aL => have := LMc14.out; omega); intro v118 w15 ho hb hg hat; rw [← Ny117.out] at ho; have n0_ := Aside0.mk (hb); have n1_ := Aside0.mk (ho); clear HB; clear HO_8; have HB := n0_; have HO119 := n1_; clear n0_ n1_; clear ho hb hg hat))
                              go_roundg k2
                              case measure => have := HK1.out; have := HK2.out; omega
                              case rel => exact ⟨(rd (rd_L3 l0 x19_1) x31_2), (y117), (wrap64 (x31_2 + 1)), (by first | rfl | (simp; done) | (simp [*]; done)), (by first | rfl | (simp; done) | (simp [*]; done)), H', ⟨by have := HK1.out; have := HK2.out; omega⟩, ⟨by (with_reducible repeat (first | apply Kd.R_alloc | apply Kd.R_drewN | apply Kd.R_drew)); exact HO119.out⟩, ⟨by repeat (first | (with_reducible first | exact HB.out | apply below_alloc | apply pw_below_drewN | apply below_drew1) | exact HB.out)⟩⟩
                            · rw [if_neg c14] at H
                              exact absurd H (by simp)
                        · rw [if_neg c12] at H
                          exact absurd H (by simp)
                      · rw [if_neg c11] at H
                        exact absurd H (by simp)
                    · rw [if_neg c10] at H
                      have c10b0 : decide (x31_2 < ((rd_L3 l0 x19_1).length : Int)) = false := decide_eq_false c10
                      clear c10
                      have H' := Aside0.mk H
                      clear H
                      go_wp2
                      go_roundg k2
                      case measure => have := HK1.out; have := HK2.out; omega
                      case rel => exact ⟨(x2_2), (x8_2), (wrap64 (x19_1 + 1)), (by first | rfl | (simp; done) | (simp [*]; done)), (by first | rfl | (simp; done) | (simp [*]; done)), H', ⟨by have := HK1.out; have := HK2.out; omega⟩, ⟨by (with_reducible repeat (first | apply Kd.R_alloc | apply Kd.R_drewN | apply Kd.R_drew)); exact HO_8.out⟩, ⟨by repeat (first | (with_reducible first | exact HB.out | apply below_alloc | apply pw_below_drewN | apply below_drew1) | exact HB.out)⟩⟩
              · rw [if_neg c9] at H
                have c9b0 : (t115 == 0) = false := beq_eq_false_iff_ne.mpr c9
                have c9b1 : (t115 != 0) = true := bne_iff_ne.mpr c9
                simp only [Option.some.injEq, Prod.mk.injEq] at H
                obtain ⟨rfl, rfl⟩ := H
                have p114 : 0 ≤ (x19_1 : Int) := of_decide_eq_true (by first | (with_reducible assumption) | assumption)
                have q114 : x19_1 < (l0.length : Int) := of_decide_eq_true (by first | (with_reducible assumption) | assumption)
                obtain ⟨ad114, A114_0, c114_0, e114, hx114_0, hl114_0, hi114_0⟩ := at_L3 HR0.out x19_1 p114 q114
                cases e114
                replace hx114_0 := (HB.out.cell (World.block_lt_of_cell? w _ hx114_0)).trans hx114_0
                have HR114_0 := Aside0.mk hi114_0
                have HC114_0 := Aside0.mk hl114_0
                clear hi114_0 hl114_0
                replace p114 := eq_true p114
                replace q114 := eq_true q114
                go_wp2_with (first | ((with_reducible refine gate_callee (f := 77) rfl ?_); refine goesL_ (some 25) rfl rfl Try.func77 (by kernel_rfl) rfl #[.slice A114_0 (rd_L3 l0 x19_1).length c114_0] rfl (by (try simp only [List.map_toArray, List.map_cons, List.map_nil]); first | done | rfl | (simp only [List.length_drop, List.length_take]; rfl)) ?_; (with_reducible refine (frame_Right.calls k1 _ _ (rd_L3 l0 x19_1) t115 _ ?side1 ?side2 A8.out).mono ?_); (case side1 => repeat (first | exact (Kd.C_below HR114_0.out HB.out) | (with_reducible refine Kd.C_alloc ?_ _) | (with_reducible refine Kd.C_drewN ?_ _) | (with_reducible refine Kd.C_drew ?_))); (case side2 => exact HC114_0.out); rintro e w' ⟨rfl, ⟨nd, rfl⟩⟩; refine ⟨_, rfl, ?_⟩))
                go_ret2
                exact ⟨_, by first | rfl | (simp [errW_none, errW_some] <;> rfl) | (simp [*, errW_none, errW_some] <;> rfl), by first | exact Kd.R_nil _ _ _ _ _ | exact Kd.N_nil _ _ _ _ _ | exact Kd.V_nil _ _ _ _ _ | exact Kd.Q_nil _ _ _ _ _ | exact Kd.S_nil _ _ _ _ _, by repeat (first | (with_reducible first | exact HB.out | apply below_alloc | apply pw_below_drewN | apply below_drew1) | exact HB.out)⟩
            · rw [if_neg c7] at H
              exact absurd H (by simp)
          · rw [if_neg c6] at H
            exact absurd H (by simp)
        · rw [if_neg c5] at H
          have c5b0 : decide (x19_1 < (l0.length : Int)) = false := decide_eq_false c5
          clear c5
          simp only [Option.some.injEq, Prod.mk.injEq] at H
          obtain ⟨rfl, rfl⟩ := H
          go_wp2
          go_ret2
          exact ⟨_, by first | rfl | (simp [errW_none, errW_some] <;> rfl) | (simp [*, errW_none, errW_some] <;> rfl), by (with_reducible repeat (first | apply Kd.R_alloc | apply Kd.R_drewN | apply Kd.R_drew)); exact HO_8.out, by repeat (first | (with_reducible first | exact HB.out | apply below_alloc | apply pw_below_drewN | apply below_drew1) | exact HB.out)⟩

end Go.Proofs.Ytijfinimlnedpaa.PFB
