-- An own text of this claim, written by wip/tools/surro.py over the kit's print.
import Derived.Test.YtaalafnkglbcpaaPLx0
import Derived.Test.YtaalafnkglbcpaaPLx4
namespace Go.Proofs.Ytaalafnkglbcpaa.PL
open Go.RowKit Go.Proofs.YtaalafnkglbcpaaW.PrintWords Go.Proofs.YtaalafnkglbcpaaW.PrintLast Go.Proofs.YtaalafnkglbcpaaW.PrintMore
attribute [local go_sem] max2_int min2_int max_two min_two max_three min_three max_four min_four   -- for this text's walks alone
set_option linter.unusedVariables false
set_option linter.unusedSimpArgs false

/-! ### learn_Run: function 14 -/
def learn_Run.l0 : Nat → List Int → Int → List Int → Int → Int → Int → Int → List (List (S77)) → Option (List Int × Int)
  | 0, _, _, _, _, _, _, _, _ => none
  | k + 1, x7, x8, x17, x18, x19, x113000, x113001, x113002 => if x19 < x18 then (if 0 ≤ x19 then (if x19 < (x17.length : Int) then (if (rd x17 x19) < 0 then (some (([] : List Int), 1)) else (if 0 ≤ x113000 then (if (rd x17 x19) ≥ (shl .i64 1 x113000) then (some (([] : List Int), 1)) else (if 0 ≤ x8 then (if x8 < (x113002.length : Int) then (if 0 ≤ (rd x17 x19) then (if (rd x17 x19) < ((rd_L2 x113002 x8).length : Int) then (if x7.length < 17592186044416 then (learn_Run.l0 k (x7 ++ [(rd_T77 (rd_L2 x113002 x8) (rd x17 x19)).f0]) ((rd_T77 (rd_L2 x113002 x8) (rd x17 x19)).f1) x17 x18 (wrap64 (x19 + 1)) x113000 x113001 x113002) else (none)) else (none)) else (none)) else (none)) else (none))) else (none))) else (none)) else (none)) else (some (x7, 0))
def learn_Run.f (k : Nat) (a0_0 : Int) (a0_1 : Int) (l0_2 : List (List (S77))) (l1 : List Int) : Option (List Int × Int) := (learn_Check.f k a0_0 a0_1 l0_2).bind fun t113 => (if t113 = 0 then (learn_Run.l0 k ([] : List Int) 0 l1 (l1.length : Int) 0 a0_0 a0_1 l0_2) else (some (([] : List Int), t113)))
theorem learn_Run.mono_l : ∀ k, (∀ y0 y1 y2 y3 y4 y5 y6 y7, LeO (learn_Run.l0 k y0 y1 y2 y3 y4 y5 y6 y7) (learn_Run.l0 (k + 1) y0 y1 y2 y3 y4 y5 y6 y7))
  | 0 => fun _ _ _ _ _ _ _ _ r h => by simp [learn_Run.l0] at h
  | k + 1 => by
    have ih0 := learn_Run.mono_l k
    · intro y0 y1 y2 y3 y4 y5 y6 y7
      unfold learn_Run.l0
      repeat' first
      | (with_reducible exact ih0 _ _ _ _ _ _ _ _)
      | (with_reducible exact learn_Check.mono _ _ _ _)
      | (with_reducible exact LeO.refl _)
      | (with_reducible exact LeO.none _)
      | (with_reducible refine LeO.ite ?_ ?_)
      | (with_reducible refine LeO.bind ?_ (fun _ => ?_))
      | exact ih0 _ _ _ _ _ _ _ _
      | exact learn_Check.mono _ _ _ _
      | exact LeO.none _
      | refine LeO.ite ?_ ?_
      | refine LeO.bind ?_ (fun _ => ?_)
theorem learn_Run.mono : ∀ a0 a1 a2 a3 k, LeO (learn_Run.f k a0 a1 a2 a3) (learn_Run.f (k + 1) a0 a1 a2 a3) := by
  intro a0 a1 a2 a3 k
  have ih0 := learn_Run.mono_l k
  unfold learn_Run.f
  repeat' first
      | (with_reducible exact ih0 _ _ _ _ _ _ _ _)
      | (with_reducible exact learn_Check.mono _ _ _ _)
      | (with_reducible exact LeO.refl _)
      | (with_reducible exact LeO.none _)
      | (with_reducible refine LeO.ite ?_ ?_)
      | (with_reducible refine LeO.bind ?_ (fun _ => ?_))
      | exact ih0 _ _ _ _ _ _ _ _
      | exact learn_Check.mono _ _ _ _
      | exact LeO.none _
      | refine LeO.ite ?_ ?_
      | refine LeO.bind ?_ (fun _ => ?_)
def learn_Run.T12 : Bool × List (List Nat × List Nat) := (true, [([], []), ([], []), ([1], [1]), ([2], [2]), ([0, 3], [0, 3]), ([], []), ([5], [5]), ([4, 4, 0, 1, 2, 3, 4], [0, 4]), ([6, 7, 0, 1, 2, 3, 4, 5, 6, 7], [6])])
def learn_Run.B12 : List Nat := [0, 0, 2, 6, 15, 0, 32, 31, 255]
theorem learn_Run.tab12 : rtab .any (opsOf Try.f14 12) = learn_Run.T12 := by kernel_rfl
theorem learn_Run.bits12 : waitsOk learn_Run.T12.2 learn_Run.B12 = true := by kernel_rfl
set_option maxHeartbeats 8000000 in
set_option maxRecDepth 100000 in
theorem learn_Run.calls (k : Nat) (a0_0 : Int) (a0_1 : Int) (A0_2 : Option Addr) (c0_2 : Nat) (l0_2 : List (List (S77))) (A1 : Option Addr) (c1 : Nat) (l1 : List Int) (r1 : List Int) (r2 : Int) (w : World) (hr0_2 : Kd.C (Kd.slice 77 k77) w A0_2 l0_2.length l0_2) (hc0_2 : l0_2.length ≤ c0_2) (hr1 : Kd.C (Kd.int .i64) w A1 l1.length l1) (hc1 : l1.length ≤ c1) (h : learn_Run.f k a0_0 a0_1 l0_2 l1 = some (r1, r2)) :
    Calls Try.prog 14 #[.agg #[.int .i64 a0_0, .int .i64 a0_1, .slice A0_2 l0_2.length c0_2], .slice A1 l1.length c1] w fun e w' => ∃ v0_ : Value, e = .returned (.tuple #[v0_, .int .i64 r2]) ∧ Kd.R (Kd.int .i64) 3 w' w.heap.size (fun _ => True) v0_ r1 ∧ Below w.heap.size w w' := by
  have hu25 := Try.underlying25
  have hu77 := Try.underlying77
  have HR0_2 := Aside0.mk hr0_2
  have HC0_2 := Aside0.mk hc0_2
  clear hr0_2 hc0_2
  have HR1 := Aside0.mk hr1
  have HC1 := Aside0.mk hc1
  clear hr1 hc1
  have HB := Aside0.mk (Below.refl w.heap.size w)
  have H : ((learn_Check.f k a0_0 a0_1 l0_2).bind fun t113 => (if t113 = 0 then (learn_Run.l0 k ([] : List Int) 0 l1 (l1.length : Int) 0 a0_0 a0_1 l0_2) else (some (([] : List Int), t113)))) = some (r1, r2) := h
  clear h
  replace H := Option.bind_eq_some_iff.mp H
  obtain ⟨t113, A30, H⟩ := H
  replace H : (if t113 = 0 then (learn_Run.l0 k ([] : List Int) 0 l1 (l1.length : Int) 0 a0_0 a0_1 l0_2) else (some (([] : List Int), t113))) = some (r1, r2) := H
  have A3 := Aside0.mk A30
  clear A30
  by_cases c4 : t113 = 0
  · rw [if_pos c4] at H
    have c4b0 : (t113 == 0) = true := beq_iff_eq.mpr c4
    have c4b1 : (t113 != 0) = false := bne_eq_false_iff_eq.mpr c4
    clear c4
    have H' := Aside0.mk H
    clear H
    go_enter Try.func14, Try.ntmps14
    go_wp2_with (first | ((with_reducible refine gate_dst (N := 2) rfl ?_); refine box_event ?hg (N := 2) ?hd (cs := #[.int .i64 a0_0, .int .i64 a0_1, .slice A0_2 l0_2.length c0_2]) (t := 25) ?hr ?_; (case hd => rfl); (case hg => rfl); (case hr => first | (go_simp; done) | (go_simp; rfl)); intro gb112 hg w5 hbox hb; have n0_ := Aside0.mk (below_step (by repeat (first | (with_reducible first | exact HB.out | apply below_alloc | apply pw_below_drewN | apply below_drew1) | exact HB.out)) hb); have n1_ := Aside0.mk (hbox); have n2_ := Aside0.mk ((by rw [hg]; exact (below_size (by repeat (first | (with_reducible first | exact HB.out | apply below_alloc | apply pw_below_drewN | apply below_drew1) | exact HB.out))) : w.heap.size ≤ gb112)); have n3_ := Aside0.mk ((by rw [hg]; exact (below_size (by repeat (first | (with_reducible first | exact HB.out | apply below_alloc | apply pw_below_drewN | apply below_drew1) | exact HB.out))) : w.heap.size ≤ gb112)); clear HB; have HB := n0_; have BK112 := n1_; have GW112 := n2_; have GE112 := n3_; clear n0_ n1_ n2_ n3_; clear hb hbox hg; have hcz6_0 : w5.cell? ⟨gb112, 0, none⟩ = some (.int .i64 a0_0) := (blk_cell BK112.out 0).trans rfl; have hcz6_1 : w5.cell? ⟨gb112, 1, none⟩ = some (.int .i64 a0_1) := (blk_cell BK112.out 1).trans rfl; have hcz6_2 : w5.cell? ⟨gb112, 2, none⟩ = some (.slice A0_2 l0_2.length c0_2) := (blk_cell BK112.out 2).trans rfl; have hfz6_0 := blk_frozen BK112.out 0; have hfz6_1 := blk_frozen BK112.out 1; have hfz6_2 := blk_frozen BK112.out 2) | ((with_reducible refine gate_callee (f := 41) rfl ?_); refine goesL_ (some 13) rfl rfl Try.func41 (by kernel_rfl) rfl #[.agg #[.int .i64 a0_0, .int .i64 a0_1, .slice A0_2 l0_2.length c0_2]] rfl (by (try simp only [List.map_toArray, List.map_cons, List.map_nil]); first | done | rfl | (simp only [List.length_drop, List.length_take]; rfl)) ?_; (with_reducible refine (learn_Check.calls k a0_0 a0_1 _ _ l0_2 t113 _ ?side1 ?side2 A3.out).mono ?_); (case side1 => repeat (first | exact (Kd.C_below HR0_2.out HB.out) | (with_reducible refine Kd.C_alloc ?_ _) | (with_reducible refine Kd.C_drewN ?_ _) | (with_reducible refine Kd.C_drew ?_))); (case side2 => exact HC0_2.out); rintro e w7 ⟨rfl, hb⟩; refine ⟨_, rfl, ?_⟩; have n0_ := Aside0.mk (blk_below (g := gb112) (o := .cells #[.int .i64 a0_0, .int .i64 a0_1, .slice A0_2 l0_2.length c0_2] 25 (0, 0)) (by (with_reducible repeat (first | refine blk_drewN ?_ _ | refine blk_drew ?_ | refine blk_alloc ?_ _)); exact BK112.out) hb); have n1_ := Aside0.mk (below_step (by repeat (first | (with_reducible first | exact HB.out | apply below_alloc | apply pw_below_drewN | apply below_drew1 | refine below_set ?_ GE112.out) | exact HB.out)) hb); clear BK112; clear HB; have BK112 := n0_; have HB := n1_; clear n0_ n1_; (try clear hb); (try clear hb2); (try clear hk); (try clear hi)))
    go_loopg [7, 8, 19] k (fun kq v7 v8 v19 w' => ∃ (x7_1 : List Int) (x8_1 : Int) (x19_1 : Int), v8 = .int .i64 x8_1 ∧ v19 = .int .i64 x19_1 ∧ Aside0 (learn_Run.l0 kq x7_1 x8_1 l1 (l1.length : Int) x19_1 a0_0 a0_1 l0_2 = some (r1, r2)) ∧ Aside0 (kq ≤ k) ∧ Aside0 (Kd.R (Kd.int .i64) 3 w' w.heap.size (fun _ => True) v7 x7_1) ∧ Aside0 (w'.heap[gb112]? = some (.cells #[.int .i64 a0_0, .int .i64 a0_1, (.slice A0_2 l0_2.length c0_2)] 25 (0, 0))) ∧ Aside0 (Below w.heap.size w w'))
    case atStart => exact ⟨(([] : List Int)), (0), (0), (by first | rfl | (simp; done) | (simp [*]; done)), (by first | rfl | (simp; done) | (simp [*]; done)), H', ⟨Nat.le_refl _⟩, ⟨by first | exact Kd.R_nil _ _ _ _ _ | exact Kd.N_nil _ _ _ _ _ | exact Kd.V_nil _ _ _ _ _ | exact Kd.Q_nil _ _ _ _ _ | exact Kd.S_nil _ _ _ _ _⟩, ⟨by (with_reducible repeat (first | refine blk_drewN ?_ _ | refine blk_drew ?_ | refine blk_alloc ?_ _)); exact BK112.out⟩, ⟨by repeat (first | (with_reducible first | exact HB.out | apply below_alloc | apply pw_below_drewN | apply below_drew1 | refine below_set ?_ GE112.out) | exact HB.out)⟩⟩
    case round =>
      clear H'
      try clear c1
      try clear p2
      try clear c4
      try clear c4b0
      try clear c4b1
      try clear hcz6_0
      try clear hcz6_1
      try clear hcz6_2
      try clear hfz6_0
      try clear hfz6_1
      try clear hfz6_2
      obtain ⟨x7_1, x8_1, x19_1, rfl, rfl, HA, HK1, HO_7, BK112, HB⟩ := hrel
      cases gk with
      | zero => exact absurd HA.out (by simp [learn_Run.l0])
      | succ k1 =>
        have H := HA.out
        clear HA
        simp only [learn_Run.l0] at H
        by_cases c8 : x19_1 < (l1.length : Int)
        · rw [if_pos c8] at H
          have c8b0 : decide (x19_1 < (l1.length : Int)) = true := decide_eq_true c8
          clear c8
          by_cases c9 : 0 ≤ x19_1
          · rw [if_pos c9] at H
            have c9b0 : decide (0 ≤ x19_1) = true := decide_eq_true c9
            clear c9
            by_cases c10 : x19_1 < (l1.length : Int)
            · rw [if_pos c10] at H
              have c10b0 : decide (x19_1 < (l1.length : Int)) = true := decide_eq_true c10
              clear c10
              by_cases c11 : (rd l1 x19_1) < 0
              · rw [if_pos c11] at H
                have c11b0 : decide ((rd l1 x19_1) < 0) = true := decide_eq_true c11
                clear c11
                simp only [Option.some.injEq, Prod.mk.injEq] at H
                obtain ⟨rfl, rfl⟩ := H
                have p114 : 0 ≤ (x19_1 : Int) := of_decide_eq_true (by first | (with_reducible assumption) | assumption)
                have q114 : x19_1 < (l1.length : Int) := of_decide_eq_true (by first | (with_reducible assumption) | assumption)
                obtain ⟨ad114, e114, hx114_0⟩ := Kd.at_int HR1.out x19_1 p114 q114
                cases e114
                replace hx114_0 := (HB.out.cell (World.block_lt_of_cell? w _ hx114_0)).trans hx114_0
                replace p114 := eq_true p114
                replace q114 := eq_true q114
                go_wp2
                go_ret2
                exact ⟨_, by first | rfl | (simp [errW_none, errW_some] <;> rfl) | (simp [*, errW_none, errW_some] <;> rfl), by first | exact Kd.R_nil _ _ _ _ _ | exact Kd.N_nil _ _ _ _ _ | exact Kd.V_nil _ _ _ _ _ | exact Kd.Q_nil _ _ _ _ _ | exact Kd.S_nil _ _ _ _ _, by repeat (first | (with_reducible first | exact HB.out | apply below_alloc | apply pw_below_drewN | apply below_drew1 | refine below_set ?_ GE112.out) | exact HB.out)⟩
              · rw [if_neg c11] at H
                have c11b0 : decide ((rd l1 x19_1) < 0) = false := decide_eq_false c11
                clear c11
                by_cases c12 : 0 ≤ a0_0
                · rw [if_pos c12] at H
                  have c12b0 := eq_true c12
                  have c12b1 : decide (0 ≤ a0_0) = true := decide_eq_true c12
                  clear c12
                  obtain ⟨ji13, hji13⟩ : ∃ j_ : Int, (shl .i64 1 a0_0) = j_ := ⟨_, rfl⟩
                  replace H : (if (rd l1 x19_1) ≥ (ji13) then (some (([] : List Int), 1)) else (if 0 ≤ x8_1 then (if x8_1 < (l0_2.length : Int) then (if 0 ≤ (rd l1 x19_1) then (if (rd l1 x19_1) < ((rd_L2 l0_2 x8_1).length : Int) then (if x7_1.length < 17592186044416 then (learn_Run.l0 k1 (x7_1 ++ [(rd_T77 (rd_L2 l0_2 x8_1) (rd l1 x19_1)).f0]) ((rd_T77 (rd_L2 l0_2 x8_1) (rd l1 x19_1)).f1) l1 (l1.length : Int) (wrap64 (x19_1 + 1)) a0_0 a0_1 l0_2) else (none)) else (none)) else (none)) else (none)) else (none))) = some (r1, r2) := by first | (rw [hji13] at H; exact H) | (simp only [hji13] at H ⊢; exact H)
                  have hji13_ : (IntKind.i64.wrap (1 * 2 ^ min a0_0.toNat 64)) = ji13 := hji13
                  have hji13z : a0_0 ≤ 64 → (IntKind.i64.wrap (1 * 2 ^ a0_0.toNat)) = ji13 := shl_small hji13
                  have hji13u : (IntKind.i64.wrap (2 ^ min a0_0.toNat 64)) = ji13 := by have h_ := hji13_; rw [Int.one_mul] at h_; exact h_
                  have hji13v : a0_0 ≤ 64 → (IntKind.i64.wrap (2 ^ a0_0.toNat)) = ji13 := fun hle_ => by have h_ := hji13z hle_; rw [Int.one_mul] at h_; exact h_
                  have hji13y : (wrap64 (1 * 2 ^ min a0_0.toNat 64)) = ji13 := (i64_w _).symm.trans hji13_
                  have hji13x : a0_0 ≤ 64 → (wrap64 (1 * 2 ^ a0_0.toNat)) = ji13 := fun h_ => (i64_w _).symm.trans (hji13z h_)
                  by_cases c14 : (rd l1 x19_1) ≥ (ji13)
                  · rw [if_pos c14] at H
                    have c14b0 : decide ((ji13) ≤ (rd l1 x19_1)) = true := decide_eq_true c14
                    clear c14
                    simp only [Option.some.injEq, Prod.mk.injEq] at H
                    obtain ⟨rfl, rfl⟩ := H
                    have p114 : 0 ≤ (x19_1 : Int) := of_decide_eq_true (by first | (with_reducible assumption) | assumption)
                    have q114 : x19_1 < (l1.length : Int) := of_decide_eq_true (by first | (with_reducible assumption) | assumption)
                    obtain ⟨ad114, e114, hx114_0⟩ := Kd.at_int HR1.out x19_1 p114 q114
                    cases e114
                    replace hx114_0 := (HB.out.cell (World.block_lt_of_cell? w _ hx114_0)).trans hx114_0
                    replace p114 := eq_true p114
                    replace q114 := eq_true q114
                    have hcz15_0 : wr.cell? ⟨gb112, 0, none⟩ = some (.int .i64 a0_0) := (blk_cell BK112.out 0).trans rfl
                    have hcz15_1 : wr.cell? ⟨gb112, 1, none⟩ = some (.int .i64 a0_1) := (blk_cell BK112.out 1).trans rfl
                    have hcz15_2 : wr.cell? ⟨gb112, 2, none⟩ = some (.slice A0_2 l0_2.length c0_2) := (blk_cell BK112.out 2).trans rfl
                    have hfz15_0 := blk_frozen BK112.out 0
                    have hfz15_1 := blk_frozen BK112.out 1
                    have hfz15_2 := blk_frozen BK112.out 2
                    go_wp2
                    go_ret2
                    exact ⟨_, by first | rfl | (simp [errW_none, errW_some] <;> rfl) | (simp only [← hji13]; first | rfl | (simp [errW_none, errW_some] <;> rfl)) | (simp [*, errW_none, errW_some] <;> rfl), by first | exact Kd.R_nil _ _ _ _ _ | exact Kd.N_nil _ _ _ _ _ | exact Kd.V_nil _ _ _ _ _ | exact Kd.Q_nil _ _ _ _ _ | exact Kd.S_nil _ _ _ _ _, by repeat (first | (with_reducible first | exact HB.out | apply below_alloc | apply pw_below_drewN | apply below_drew1 | refine below_set ?_ GE112.out) | exact HB.out)⟩
                  · rw [if_neg c14] at H
                    have c14b0 : decide ((ji13) ≤ (rd l1 x19_1)) = false := decide_eq_false c14
                    clear c14
                    by_cases c16 : 0 ≤ x8_1
                    · rw [if_pos c16] at H
                      have c16b0 : decide (0 ≤ x8_1) = true := decide_eq_true c16
                      clear c16
                      by_cases c17 : x8_1 < (l0_2.length : Int)
                      · rw [if_pos c17] at H
                        have c17b0 : decide (x8_1 < (l0_2.length : Int)) = true := decide_eq_true c17
                        clear c17
                        by_cases c18 : 0 ≤ (rd l1 x19_1)
                        · rw [if_pos c18] at H
                          have c18b0 : decide (0 ≤ (rd l1 x19_1)) = true := decide_eq_true c18
                          clear c18
                          by_cases c19 : (rd l1 x19_1) < ((rd_L2 l0_2 x8_1).length : Int)
                          · rw [if_pos c19] at H
                            have c19b0 : decide ((rd l1 x19_1) < ((rd_L2 l0_2 x8_1).length : Int)) = true := decide_eq_true c19
                            clear c19
                            by_cases c20 : x7_1.length < 17592186044416
                            · rw [if_pos c20] at H
                              have LMc20 := Aside0.mk c20
                              clear c20
                              obtain ⟨y118, hy118⟩ : ∃ y_ : List Int, y_ = (x7_1 ++ [(rd_T77 (rd_L2 l0_2 x8_1) (rd l1 x19_1)).f0]) := ⟨_, rfl⟩
                              replace H : (learn_Run.l0 k1 y118 ((rd_T77 (rd_L2 l0_2 x8_1) (rd l1 x19_1)).f1) l1 (l1.length : Int) (wrap64 (x19_1 + 1)) a0_0 a0_1 l0_2) = some (r1, r2) := by first | (rw [hy118]; with_reducible exact H) | (have H2_ := (Option.bind_some _ _).symm.trans H; rw [hy118]; with_reducible exact H2_) | (have H2_ := (Option.bind_some _ _).symm.trans H; with_reducible exact H2_) | with_reducible exact H | (rw [hy118]; exact H) | exact H
                              have Ny118 := Aside0.mk hy118
                              clear hy118
                              have H' := Aside0.mk H
                              clear H
                              have p114 : 0 ≤ (x19_1 : Int) := of_decide_eq_true (by first | (with_reducible assumption) | assumption)
                              have q114 : x19_1 < (l1.length : Int) := of_decide_eq_true (by first | (with_reducible assumption) | assumption)
                              obtain ⟨ad114, e114, hx114_0⟩ := Kd.at_int HR1.out x19_1 p114 q114
                              cases e114
                              replace hx114_0 := (HB.out.cell (World.block_lt_of_cell? w _ hx114_0)).trans hx114_0
                              replace p114 := eq_true p114
                              replace q114 := eq_true q114
                              have hcz21_0 : wr.cell? ⟨gb112, 0, none⟩ = some (.int .i64 a0_0) := (blk_cell BK112.out 0).trans rfl
                              have hcz21_1 : wr.cell? ⟨gb112, 1, none⟩ = some (.int .i64 a0_1) := (blk_cell BK112.out 1).trans rfl
                              have hcz21_2 : wr.cell? ⟨gb112, 2, none⟩ = some (.slice A0_2 l0_2.length c0_2) := (blk_cell BK112.out 2).trans rfl
                              have hfz21_0 := blk_frozen BK112.out 0
                              have hfz21_1 := blk_frozen BK112.out 1
                              have hfz21_2 := blk_frozen BK112.out 2
                              have p115 : 0 ≤ (x8_1 : Int) := of_decide_eq_true (by first | (with_reducible assumption) | assumption)
                              have q115 : x8_1 < (l0_2.length : Int) := of_decide_eq_true (by first | (with_reducible assumption) | assumption)
                              obtain ⟨ad115, A115_0, c115_0, e115, hx115_0, hl115_0, hi115_0⟩ := at_L2 HR0_2.out x8_1 p115 q115
                              cases e115
                              replace hx115_0 := (HB.out.cell (World.block_lt_of_cell? w _ hx115_0)).trans hx115_0
                              have HR115_0 := Aside0.mk hi115_0
                              have HC115_0 := Aside0.mk hl115_0
                              clear hi115_0 hl115_0
                              replace p115 := eq_true p115
                              replace q115 := eq_true q115
                              have p116 : 0 ≤ ((rd l1 x19_1) : Int) := of_decide_eq_true (by first | (with_reducible assumption) | assumption)
                              have q116 : (rd l1 x19_1) < ((rd_L2 l0_2 x8_1).length : Int) := of_decide_eq_true (by first | (with_reducible assumption) | assumption)
                              obtain ⟨ad116, e116, hx116_0, hx116_1⟩ := at_T77 HR115_0.out (rd l1 x19_1) p116 q116
                              cases e116
                              replace hx116_0 := (HB.out.cell (World.block_lt_of_cell? w _ hx116_0)).trans hx116_0
                              replace hx116_1 := (HB.out.cell (World.block_lt_of_cell? w _ hx116_1)).trans hx116_1
                              replace p116 := eq_true p116
                              replace q116 := eq_true q116
                              try go_wp2_with (first | ((with_reducible refine gate_dst (N := 11) rfl ?_); refine box_event ?hg (N := 11) ?hd (cs := #[.int .i64 0, .int .i64 0]) (t := 77) ?hr ?_; (case hd => rfl); (case hg => rfl); (case hr => first | (go_simp; done) | (go_simp; rfl)); intro gb117 hg w22 hbox hb; have n0_ := Aside0.mk (Kd.R_below (by (with_reducible repeat (first | apply Kd.R_alloc | apply Kd.R_drewN | apply Kd.R_drew)); exact HO_7.out) hb); have n1_ := Aside0.mk (blk_below (g := gb112) (o := .cells #[.int .i64 a0_0, .int .i64 a0_1, .slice (some ad115) l0_2.length c0_2] 25 (0, 0)) (by (with_reducible repeat (first | refine blk_drewN ?_ _ | refine blk_drew ?_ | refine blk_alloc ?_ _)); exact BK112.out) hb); have n2_ := Aside0.mk (below_step (by repeat (first | (with_reducible first | exact HB.out | apply below_alloc | apply pw_below_drewN | apply below_drew1 | refine below_set ?_ GE112.out) | exact HB.out)) hb); have n3_ := Aside0.mk (hbox); have n4_ := Aside0.mk ((by rw [hg]; exact (below_size (by repeat (first | (with_reducible first | exact HB.out | apply below_alloc | apply pw_below_drewN | apply below_drew1 | refine below_set ?_ GE112.out) | exact HB.out))) : w.heap.size ≤ gb117)); have n5_ := Aside0.mk ((by rw [hg]; exact (below_size (by repeat (first | (with_reducible first | exact HB.out | apply below_alloc | apply pw_below_drewN | apply below_drew1 | refine below_set ?_ GE112.out) | exact HB.out))) : w.heap.size ≤ gb117)); have n6_ := Aside0.mk ((by rw [hg]; exact Nat.ne_of_lt (blk_lt (g := gb112) (o := .cells #[.int .i64 a0_0, .int .i64 a0_1, .slice (some ad115) l0_2.length c0_2] 25 (0, 0)) (by (with_reducible repeat (first | refine blk_drewN ?_ _ | refine blk_drew ?_ | refine blk_alloc ?_ _)); exact BK112.out)) : gb112 ≠ gb117)); have n7_ := Aside0.mk ((by rw [hg]; exact Nat.ne_of_gt (blk_lt (g := gb112) (o := .cells #[.int .i64 a0_0, .int .i64 a0_1, .slice (some ad115) l0_2.length c0_2] 25 (0, 0)) (by (with_reducible repeat (first | refine blk_drewN ?_ _ | refine blk_drew ?_ | refine blk_alloc ?_ _)); exact BK112.out)) : gb117 ≠ gb112)); clear HO_7; clear BK112; clear HB; have HO_7 := n0_; have BK112 := n1_; have HB := n2_; have BK117 := n3_; have GW117 := n4_; have GE117 := n5_; have NB112_117 := n6_; have NB117_112 := n7_; clear n0_ n1_ n2_ n3_ n4_ n5_ n6_ n7_; clear hb hbox hg; have hnb23 := NB117_112.out; have hnc23 := NB112_117.out; have hcz24_0 : w22.cell? ⟨gb117, 0, none⟩ = some (.int .i64 0) := (blk_cell BK117.out 0).trans rfl; have hcz24_1 : w22.cell? ⟨gb117, 1, none⟩ = some (.int .i64 0) := (blk_cell BK117.out 1).trans rfl; have hfz24_0 := blk_frozen BK117.out 0; have hfz24_1 := blk_frozen BK117.out 1))
                              have n0_ : Aside0 (Kd.R (Kd.int .i64) 3 ((w22.setCell ⟨gb117, 0, none⟩ (.int .i64 ((rd_T77 (rd_L2 l0_2 x8_1) (rd l1 x19_1)).f0))).setCell ⟨gb117, 1, none⟩ (.int .i64 ((rd_T77 (rd_L2 l0_2 x8_1) (rd l1 x19_1)).f1))) w.heap.size (fun _ => True) u7 x7_1) := ⟨by (with_reducible repeat (first | apply Kd.R_alloc | apply Kd.R_drewN | apply Kd.R_drew)); exact Kd.R_mono (Kd.R_far (p := ⟨gb117, 1, none⟩) (Kd.R_far (p := ⟨gb117, 0, none⟩) (Kd.R_types HO_7.out BK117.out (by decide)) (fun _ hk => hk.2) (.int .i64 ((rd_T77 (rd_L2 l0_2 x8_1) (rd l1 x19_1)).f0))) (fun _ hk => hk.2) (.int .i64 ((rd_T77 (rd_L2 l0_2 x8_1) (rd l1 x19_1)).f1))) (fun _ hk => trivial)⟩
                              have n1_ : Aside0 (((w22.setCell ⟨gb117, 0, none⟩ (.int .i64 ((rd_T77 (rd_L2 l0_2 x8_1) (rd l1 x19_1)).f0))).setCell ⟨gb117, 1, none⟩ (.int .i64 ((rd_T77 (rd_L2 l0_2 x8_1) (rd l1 x19_1)).f1))).heap[gb112]? = some (.cells #[.int .i64 a0_0, .int .i64 a0_1, .slice (some ad115) l0_2.length c0_2] 25 (0, 0))) := ⟨by (with_reducible repeat (first | refine blk_drewN ?_ _ | refine blk_drew ?_ | refine blk_alloc ?_ _)); refine blk_far ?_ NB112_117.out _; (with_reducible repeat (first | refine blk_drewN ?_ _ | refine blk_drew ?_ | refine blk_alloc ?_ _)); refine blk_far ?_ NB112_117.out _; (with_reducible repeat (first | refine blk_drewN ?_ _ | refine blk_drew ?_ | refine blk_alloc ?_ _)); exact BK112.out⟩
                              have n2_ : Aside0 (((w22.setCell ⟨gb117, 0, none⟩ (.int .i64 ((rd_T77 (rd_L2 l0_2 x8_1) (rd l1 x19_1)).f0))).setCell ⟨gb117, 1, none⟩ (.int .i64 ((rd_T77 (rd_L2 l0_2 x8_1) (rd l1 x19_1)).f1))).heap[gb117]? = some (.cells #[.int .i64 ((rd_T77 (rd_L2 l0_2 x8_1) (rd l1 x19_1)).f0), .int .i64 ((rd_T77 (rd_L2 l0_2 x8_1) (rd l1 x19_1)).f1)] 77 (0, 0))) := ⟨by (with_reducible repeat (first | refine blk_drewN ?_ _ | refine blk_drew ?_ | refine blk_alloc ?_ _)); refine blk_put (cs := #[.int .i64 ((rd_T77 (rd_L2 l0_2 x8_1) (rd l1 x19_1)).f0), .int .i64 0]) ?_ 1 _ rfl; (with_reducible repeat (first | refine blk_drewN ?_ _ | refine blk_drew ?_ | refine blk_alloc ?_ _)); refine blk_put (cs := #[.int .i64 0, .int .i64 0]) ?_ 0 _ rfl; (with_reducible repeat (first | refine blk_drewN ?_ _ | refine blk_drew ?_ | refine blk_alloc ?_ _)); exact BK117.out⟩
                              have n3_ : Aside0 (Below w.heap.size w ((w22.setCell ⟨gb117, 0, none⟩ (.int .i64 ((rd_T77 (rd_L2 l0_2 x8_1) (rd l1 x19_1)).f0))).setCell ⟨gb117, 1, none⟩ (.int .i64 ((rd_T77 (rd_L2 l0_2 x8_1) (rd l1 x19_1)).f1)))) := ⟨by repeat (first | (with_reducible first | exact HB.out | apply below_alloc | apply pw_below_drewN | apply below_drew1 | refine below_set ?_ GE112.out | refine below_set ?_ GE117.out) | exact HB.out)⟩
                              (try clear HO_7)
                              (try clear BK112)
                              (try clear BK117)
                              (try clear HB)
                              generalize ((w22.setCell ⟨gb117, 0, none⟩ (.int .i64 ((rd_T77 (rd_L2 l0_2 x8_1) (rd l1 x19_1)).f0))).setCell ⟨gb117, 1, none⟩ (.int .i64 ((rd_T77 (rd_L2 l0_2 x8_1) (rd l1 x19_1)).f1))) = w25 at n0_ n1_ n2_ n3_ ⊢
                              have HO_7 := n0_
                              have BK112 := n1_
                              have BK117 := n2_
                              have HB := n3_
                              clear n0_ n1_ n2_ n3_
                              have n0_ := Aside0.mk (Kd.R_drew HO_7.out)
                              have n1_ := Aside0.mk (blk_drew BK112.out)
                              have n2_ := Aside0.mk (blk_drew BK117.out)
                              have n3_ := Aside0.mk (below_drew1 HB.out)
                              clear HO_7
                              clear BK112
                              clear BK117
                              clear HB
                              have HO_7 := n0_
                              have BK112 := n1_
                              have BK117 := n2_
                              have HB := n3_
                              clear n0_ n1_ n2_ n3_
                              refine start_ (n := 9) (S := fun w' => w'.cell? ⟨gb117, 0, none⟩ = some (.int .i64 ((rd_T77 (rd_L2 l0_2 x8_1) (rd l1 x19_1)).f0)) ∧ w'.cell? ⟨gb117, 1, none⟩ = some (.int .i64 ((rd_T77 (rd_L2 l0_2 x8_1) (rd l1 x19_1)).f1))) (ds := []) #[false, false, false, false, false, false, false, false, false] (by kernel_rfl) rfl rfl ⟨(blk_cell BK117.out 0).trans rfl, (blk_cell BK117.out 1).trans rfl⟩ (fun hHeld => ?_); refine with_tabW learn_Run.tab12 learn_Run.bits12 (fun HT_ HW_ => ?_)
                              generalize w25.drew = w26 at HO_7 BK112 BK117 HB hHeld ⊢
                              refine pure_ (i := 0) (N := some 40) (v := ?_) (a' := ?_) #[true, false, false, false, false, false, false, false, false] rfl rfl (any_of HT_.out (by kernel_rfl)) (fun _ _ _ h => h) (Or.inl ⟨by rfl, ?_⟩) ?_ ?_
                              rotate_left
                              · intro w'
                                go_simp
                                with_reducible rfl
                              rotate_left
                              · simp only [Act.put, List.setIfInBounds_toArray, List.set_cons_zero, List.set_cons_succ, i64_w, i32_w]
                                rfl
                              refine pure_ (i := 1) (N := some 41) (v := ?_) (a' := ?_) #[true, true, false, false, false, false, false, false, false] rfl rfl (any_of HT_.out (by kernel_rfl)) (fun _ _ _ h => h) (Or.inl ⟨by rfl, ?_⟩) ?_ ?_
                              rotate_left
                              · intro w'
                                go_simp
                                with_reducible rfl
                              rotate_left
                              · simp only [Act.put, List.setIfInBounds_toArray, List.set_cons_zero, List.set_cons_succ, i64_w, i32_w]
                                rfl
                              refine pure_ (i := 5) (N := some 45) (v := ?_) (a' := ?_) #[true, true, false, false, false, true, false, false, false] rfl rfl (any_of HT_.out (by kernel_rfl)) (fun _ _ _ h => h) (Or.inl ⟨by rfl, ?_⟩) ?_ ?_
                              rotate_left
                              · intro w'
                                go_simp
                                with_reducible rfl
                              rotate_left
                              · simp only [Act.put, List.setIfInBounds_toArray, List.set_cons_zero, List.set_cons_succ, i64_w, i32_w]
                                rfl
                              refine take_ (i := 2) (N := some 42) (v := ?_) (a' := ?_) #[true, true, true, false, false, true, false, false, false] rfl rfl (take_ofW HT_.out HW_.out (by kernel_rfl)) (fun _ _ _ h => h) (Or.inl ⟨by rfl, ?_⟩) hHeld ?_ ?_
                              rotate_left
                              · rintro w' ⟨s0, s1⟩
                                go_simp
                                with_reducible rfl
                              rotate_left
                              · simp only [Act.put, List.setIfInBounds_toArray, List.set_cons_zero, List.set_cons_succ, i64_w, i32_w]
                                rfl
                              refine take_ (i := 6) (N := some 46) (v := ?_) (a' := ?_) #[true, true, true, false, false, true, true, false, false] rfl rfl (take_ofW HT_.out HW_.out (by kernel_rfl)) (fun _ _ _ h => h) (Or.inl ⟨by rfl, ?_⟩) hHeld ?_ ?_
                              rotate_left
                              · rintro w' ⟨s0, s1⟩
                                go_simp
                                with_reducible rfl
                              rotate_left
                              · simp only [Act.put, List.setIfInBounds_toArray, List.set_cons_zero, List.set_cons_succ, i64_w, i32_w]
                                rfl
                              refine one_ (i := 3) (N := some 43) #[true, true, true, true, false, true, true, false, false] rfl rfl (one_of HT_.out (by kernel_rfl)) (by decide) (fun K hK => ?_)
                              refine value_ (w1 := ?_) (v := ?_) (by rfl) rfl ?_ ?_
                              rotate_left 2
                              · go_simp
                                constructor
                                · rfl
                                · rfl
                              refine hK.out _ _ ⟨(blk_cell (blk_alloc BK117.out _) 0).trans rfl, (blk_cell (blk_alloc BK117.out _) 1).trans rfl⟩ (fun hHeld => ?_)
                              clear hK K
                              refine norm_ (a' := ?_) ?_ ?_
                              rotate_left
                              · show Act.put _ (some 43) _ = _
                                simp only [Act.put, List.setIfInBounds_toArray, List.set_cons_zero, List.set_cons_succ, i64_w, i32_w]
                                rfl
                              refine one_ (i := 4) (N := some 44) #[true, true, true, true, true, true, true, false, false] rfl rfl (one_of HT_.out (by kernel_rfl)) (by decide) (fun K hK => ?_)
                              refine Kd.R_append_step (Kd.int .i64) (w0 := w) w.heap.size (by rfl) (.tmp 40) (.tmp 43) 22 3 (.int .i64 0) 8 rfl Try.underlying22 info3 rfl (by decide) (by omega) u7 x7_1 ((rd_T77 (rd_L2 l0_2 x8_1) (rd l1 x19_1)).f0) [.int .i64 ((rd_T77 (rd_L2 l0_2 x8_1) (rd l1 x19_1)).f0)] (fun _ => True) (fun _ => False) rfl rfl ?aP (fun _ hk => hk.elim) ?aF ?aO ?aB ?aS ?aL ?_
                              (case aP => exact rfl)
                              (case aB => exact (by repeat (first | (with_reducible first | exact HB.out | apply below_alloc | apply pw_below_drewN | apply below_drew1 | refine below_set ?_ GE112.out | refine below_set ?_ GE117.out) | exact HB.out)))
                              (case aF => exact (fun _ _ => trivial))
                              (case aO => exact (by (with_reducible repeat (first | apply Kd.R_alloc | apply Kd.R_drewN | apply Kd.R_drew)); exact HO_7.out))
                              (case aS => exact (below_size (by repeat (first | (with_reducible first | exact HB.out | apply below_alloc | apply pw_below_drewN | apply below_drew1 | refine below_set ?_ GE112.out | refine below_set ?_ GE117.out) | exact HB.out))))
                              (case aL => have := LMc20.out; omega)
                              intro v119 w27 ho hb hg hat
                              rw [← Ny118.out] at ho
                              have n0_ := Aside0.mk (blk_grown (g := gb112) (o := .cells #[.int .i64 a0_0, .int .i64 a0_1, .slice (some ad115) l0_2.length c0_2] 25 (0, 0)) (by (with_reducible repeat (first | refine blk_drewN ?_ _ | refine blk_drew ?_ | refine blk_alloc ?_ _)); exact BK112.out) hg (Kd.R_ne HO_7.out BK112.out (by decide)))
                              have n1_ := Aside0.mk (blk_grown (g := gb117) (o := .cells #[.int .i64 ((rd_T77 (rd_L2 l0_2 x8_1) (rd l1 x19_1)).f0), .int .i64 ((rd_T77 (rd_L2 l0_2 x8_1) (rd l1 x19_1)).f1)] 77 (0, 0)) (by (with_reducible repeat (first | refine blk_drewN ?_ _ | refine blk_drew ?_ | refine blk_alloc ?_ _)); exact BK117.out) hg (Kd.R_ne HO_7.out BK117.out (by decide)))
                              have n2_ := Aside0.mk (hb)
                              have n3_ := Aside0.mk (ho)
                              clear BK112
                              clear BK117
                              clear HB
                              clear HO_7
                              have BK112 := n0_
                              have BK117 := n1_
                              have HB := n2_
                              have HO120 := n3_
                              clear n0_ n1_ n2_ n3_
                              clear ho hb hg hat
                              refine hK.out _ _ ⟨(blk_cell BK117.out 0).trans rfl, (blk_cell BK117.out 1).trans rfl⟩ (fun hHeld => ?_)
                              clear hK K
                              refine norm_ (a' := ?_) ?_ ?_
                              rotate_left
                              · show Act.put _ (some 44) _ = _
                                simp only [Act.put, List.setIfInBounds_toArray, List.set_cons_zero, List.set_cons_succ, i64_w, i32_w]
                                rfl
                              refine pure_ (i := 7) (N := some 7) (v := ?_) (a' := ?_) #[true, true, true, true, true, true, true, true, false] rfl rfl (any_of HT_.out (by kernel_rfl)) (fun _ _ _ h => h) (Or.inl ⟨by rfl, ?_⟩) ?_ ?_
                              rotate_left
                              · intro w'
                                go_simp
                                with_reducible rfl
                              rotate_left
                              · simp only [Act.put, List.setIfInBounds_toArray, List.set_cons_zero, List.set_cons_succ, i64_w, i32_w]
                                rfl
                              refine pure_ (i := 8) (N := some 8) (v := ?_) (a' := ?_) #[true, true, true, true, true, true, true, true, true] rfl rfl (any_of HT_.out (by kernel_rfl)) (fun _ _ _ h => h) (Or.inl ⟨by rfl, ?_⟩) ?_ ?_
                              rotate_left
                              · intro w'
                                go_simp
                                with_reducible rfl
                              rotate_left
                              · simp only [Act.put, List.setIfInBounds_toArray, List.set_cons_zero, List.set_cons_succ, i64_w, i32_w]
                                rfl
                              refine done_ (done_of HT_.out (by kernel_rfl)) ?_
                              try go_wp2
                              go_roundg k1
                              case measure => have := HK1.out; omega
                              case rel => exact ⟨(y118), ((rd_T77 (rd_L2 l0_2 x8_1) (rd l1 x19_1)).f1), (wrap64 (x19_1 + 1)), (by first | rfl | (simp; done) | (simp [*]; done)), (by first | rfl | (simp; done) | (simp [*]; done)), H', ⟨by have := HK1.out; omega⟩, ⟨by (with_reducible repeat (first | apply Kd.R_alloc | apply Kd.R_drewN | apply Kd.R_drew)); exact HO120.out⟩, ⟨by (with_reducible repeat (first | refine blk_drewN ?_ _ | refine blk_drew ?_ | refine blk_alloc ?_ _)); exact BK112.out⟩, ⟨by repeat (first | (with_reducible first | exact HB.out | apply below_alloc | apply pw_below_drewN | apply below_drew1 | refine below_set ?_ GE112.out | refine below_set ?_ GE117.out) | exact HB.out)⟩⟩
                            · rw [if_neg c20] at H
                              exact absurd H (by simp)
                          · rw [if_neg c19] at H
                            exact absurd H (by simp)
                        · rw [if_neg c18] at H
                          exact absurd H (by simp)
                      · rw [if_neg c17] at H
                        exact absurd H (by simp)
                    · rw [if_neg c16] at H
                      exact absurd H (by simp)
                · rw [if_neg c12] at H
                  exact absurd H (by simp)
            · rw [if_neg c10] at H
              exact absurd H (by simp)
          · rw [if_neg c9] at H
            exact absurd H (by simp)
        · rw [if_neg c8] at H
          have c8b0 : decide (x19_1 < (l1.length : Int)) = false := decide_eq_false c8
          clear c8
          simp only [Option.some.injEq, Prod.mk.injEq] at H
          obtain ⟨rfl, rfl⟩ := H
          go_wp2
          go_ret2
          exact ⟨_, by first | rfl | (simp [errW_none, errW_some] <;> rfl) | (simp [*, errW_none, errW_some] <;> rfl), by (with_reducible repeat (first | apply Kd.R_alloc | apply Kd.R_drewN | apply Kd.R_drew)); exact HO_7.out, by repeat (first | (with_reducible first | exact HB.out | apply below_alloc | apply pw_below_drewN | apply below_drew1 | refine below_set ?_ GE112.out) | exact HB.out)⟩
  · rw [if_neg c4] at H
    have c4b0 : (t113 == 0) = false := beq_eq_false_iff_ne.mpr c4
    have c4b1 : (t113 != 0) = true := bne_iff_ne.mpr c4
    simp only [Option.some.injEq, Prod.mk.injEq] at H
    obtain ⟨rfl, rfl⟩ := H
    go_enter Try.func14, Try.ntmps14
    go_wp2_with (first | ((with_reducible refine gate_dst (N := 2) rfl ?_); refine box_event ?hg (N := 2) ?hd (cs := #[.int .i64 a0_0, .int .i64 a0_1, .slice A0_2 l0_2.length c0_2]) (t := 25) ?hr ?_; (case hd => rfl); (case hg => rfl); (case hr => first | (go_simp; done) | (go_simp; rfl)); intro gb112 hg w28 hbox hb; have n0_ := Aside0.mk (below_step (by repeat (first | (with_reducible first | exact HB.out | apply below_alloc | apply pw_below_drewN | apply below_drew1) | exact HB.out)) hb); have n1_ := Aside0.mk (hbox); have n2_ := Aside0.mk ((by rw [hg]; exact (below_size (by repeat (first | (with_reducible first | exact HB.out | apply below_alloc | apply pw_below_drewN | apply below_drew1) | exact HB.out))) : w.heap.size ≤ gb112)); have n3_ := Aside0.mk ((by rw [hg]; exact (below_size (by repeat (first | (with_reducible first | exact HB.out | apply below_alloc | apply pw_below_drewN | apply below_drew1) | exact HB.out))) : w.heap.size ≤ gb112)); clear HB; have HB := n0_; have BK112 := n1_; have GW112 := n2_; have GE112 := n3_; clear n0_ n1_ n2_ n3_; clear hb hbox hg; have hcz29_0 : w28.cell? ⟨gb112, 0, none⟩ = some (.int .i64 a0_0) := (blk_cell BK112.out 0).trans rfl; have hcz29_1 : w28.cell? ⟨gb112, 1, none⟩ = some (.int .i64 a0_1) := (blk_cell BK112.out 1).trans rfl; have hcz29_2 : w28.cell? ⟨gb112, 2, none⟩ = some (.slice A0_2 l0_2.length c0_2) := (blk_cell BK112.out 2).trans rfl; have hfz29_0 := blk_frozen BK112.out 0; have hfz29_1 := blk_frozen BK112.out 1; have hfz29_2 := blk_frozen BK112.out 2) | ((with_reducible refine gate_callee (f := 41) rfl ?_); refine goesL_ (some 13) rfl rfl Try.func41 (by kernel_rfl) rfl #[.agg #[.int .i64 a0_0, .int .i64 a0_1, .slice A0_2 l0_2.length c0_2]] rfl (by (try simp only [List.map_toArray, List.map_cons, List.map_nil]); first | done | rfl | (simp only [List.length_drop, List.length_take]; rfl)) ?_; (with_reducible refine (learn_Check.calls k a0_0 a0_1 _ _ l0_2 t113 _ ?side1 ?side2 A3.out).mono ?_); (case side1 => repeat (first | exact (Kd.C_below HR0_2.out HB.out) | (with_reducible refine Kd.C_alloc ?_ _) | (with_reducible refine Kd.C_drewN ?_ _) | (with_reducible refine Kd.C_drew ?_))); (case side2 => exact HC0_2.out); rintro e w30 ⟨rfl, hb⟩; refine ⟨_, rfl, ?_⟩; have n0_ := Aside0.mk (blk_below (g := gb112) (o := .cells #[.int .i64 a0_0, .int .i64 a0_1, .slice A0_2 l0_2.length c0_2] 25 (0, 0)) (by (with_reducible repeat (first | refine blk_drewN ?_ _ | refine blk_drew ?_ | refine blk_alloc ?_ _)); exact BK112.out) hb); have n1_ := Aside0.mk (below_step (by repeat (first | (with_reducible first | exact HB.out | apply below_alloc | apply pw_below_drewN | apply below_drew1 | refine below_set ?_ GE112.out) | exact HB.out)) hb); clear BK112; clear HB; have BK112 := n0_; have HB := n1_; clear n0_ n1_; (try clear hb); (try clear hb2); (try clear hk); (try clear hi)))
    go_ret2
    exact ⟨_, by first | rfl | (simp [errW_none, errW_some] <;> rfl) | (simp [*, errW_none, errW_some] <;> rfl), by first | exact Kd.R_nil _ _ _ _ _ | exact Kd.N_nil _ _ _ _ _ | exact Kd.V_nil _ _ _ _ _ | exact Kd.Q_nil _ _ _ _ _ | exact Kd.S_nil _ _ _ _ _, by repeat (first | (with_reducible first | exact HB.out | apply below_alloc | apply pw_below_drewN | apply below_drew1 | refine below_set ?_ GE112.out) | exact HB.out)⟩

end Go.Proofs.Ytaalafnkglbcpaa.PL
