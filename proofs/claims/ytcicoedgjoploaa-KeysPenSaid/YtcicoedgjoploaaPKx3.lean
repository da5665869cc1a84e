-- An own text of this claim, written by wip/tools/surro.py over the kit's print.
import Derived.Test.YtcicoedgjoploaaPKx0
namespace Go.Proofs.Ytcicoedgjoploaa.PK
open Go.RowKit Go.Proofs.YtcicoedgjoploaaW.PrintWords Go.Proofs.YtcicoedgjoploaaW.PrintLast Go.Proofs.YtcicoedgjoploaaW.PrintMore
attribute [local go_sem] max2_int min2_int max_two min_two max_three min_three max_four min_four   -- for this text's walks alone
set_option linter.unusedVariables false
set_option linter.unusedSimpArgs false

/-! ### keys_Pens: function 25 -/
mutual
def keys_Pens.l0 : Nat → ByteArray → List (S52) → List (S62) → List (S52) → Int → Int → Option ((List (S62)) × Int)
  | 0, _, _, _, _, _, _ => none
  | k + 1, x0, x1, x6, x13, x14, x15 => if x15 < x14 then (if 0 ≤ x15 then (if x15 < (x13.length : Int) then (if ((rd_T52 x13 x15).f1) < 0 then (keys_Pens.j1 k x0 x1 x6 x15 x13 x14 x15 true ((rd_T52 x13 x15).f0) ((rd_T52 x13 x15).f1) ((rd_T52 x13 x15).f2)) else (if ((rd_T52 x13 x15).f1) ≥ 48 then (keys_Pens.j1 k x0 x1 x6 x15 x13 x14 x15 true ((rd_T52 x13 x15).f0) ((rd_T52 x13 x15).f1) ((rd_T52 x13 x15).f2)) else (if ((rd_T52 x13 x15).f2) < 0 then (keys_Pens.j1 k x0 x1 x6 x15 x13 x14 x15 true ((rd_T52 x13 x15).f0) ((rd_T52 x13 x15).f1) ((rd_T52 x13 x15).f2)) else (if ((rd_T52 x13 x15).f2) ≥ 32 then (keys_Pens.j1 k x0 x1 x6 x15 x13 x14 x15 true ((rd_T52 x13 x15).f0) ((rd_T52 x13 x15).f1) ((rd_T52 x13 x15).f2)) else (if ((rd_T52 x13 x15).f0) < 0 then (keys_Pens.j1 k x0 x1 x6 x15 x13 x14 x15 true ((rd_T52 x13 x15).f0) ((rd_T52 x13 x15).f1) ((rd_T52 x13 x15).f2)) else (keys_Pens.j1 k x0 x1 x6 x15 x13 x14 x15 (decide (((rd_T52 x13 x15).f0) > 39)) ((rd_T52 x13 x15).f0) ((rd_T52 x13 x15).f1) ((rd_T52 x13 x15).f2))))))) else (none)) else (none)) else (some (x6, 0))
def keys_Pens.j1 : Nat → ByteArray → List (S52) → List (S62) → Int → List (S52) → Int → Int → Bool → Int → Int → Int → Option ((List (S62)) × Int)
  | 0, _, _, _, _, _, _, _, _, _, _, _ => none
  | k + 1, x0, x1, x6, x7, x13, x14, x15, x47, x103000, x103001, x103002 => if x47 = true then (some (([] : List (S62)), 1)) else (if x7 > 0 then (if 0 ≤ (wrap64 (x7 - 1)) then (if (wrap64 (x7 - 1)) < (x1.length : Int) then (if x103000 ≤ ((rd_T52 x1 (wrap64 (x7 - 1))).f0) then (some (([] : List (S62)), 9)) else ((some (([(⟨wrap64 ((wrap64 ((wrap64 (x103000 * 2560)) + (wrap64 (x103002 * 64)))) + x103001), x0, 128⟩ : S62), (⟨wrap64 ((wrap64 ((wrap64 ((wrap64 (x103000 * 2560)) + (wrap64 (x103002 * 64)))) + x103001)) + 1), x0, 0⟩ : S62)] : List (S62)) : List (S62))).bind fun y104 => (if x6.length + y104.length < 4398046511104 then (keys_Pens.l0 k x0 x1 (x6 ++ y104) x13 x14 (wrap64 (x15 + 1))) else (none)))) else (none)) else (none)) else ((some (([(⟨wrap64 ((wrap64 ((wrap64 (x103000 * 2560)) + (wrap64 (x103002 * 64)))) + x103001), x0, 128⟩ : S62), (⟨wrap64 ((wrap64 ((wrap64 ((wrap64 (x103000 * 2560)) + (wrap64 (x103002 * 64)))) + x103001)) + 1), x0, 0⟩ : S62)] : List (S62)) : List (S62))).bind fun y110 => (if x6.length + y110.length < 4398046511104 then (keys_Pens.l0 k x0 x1 (x6 ++ y110) x13 x14 (wrap64 (x15 + 1))) else (none))))
end
def keys_Pens.f (k : Nat) (a0 : ByteArray) (l1 : List (S52)) : Option ((List (S62)) × Int) := if (l1.length : Int) > 500 then (some (([] : List (S62)), 2)) else (keys_Pens.l0 k a0 l1 ([] : List (S62)) l1 (l1.length : Int) 0)
theorem keys_Pens.mono_l : ∀ k, (∀ y0 y1 y2 y3 y4 y5, LeO (keys_Pens.l0 k y0 y1 y2 y3 y4 y5) (keys_Pens.l0 (k + 1) y0 y1 y2 y3 y4 y5)) ∧ (∀ y0 y1 y2 y3 y4 y5 y6 y7 y8 y9 y10, LeO (keys_Pens.j1 k y0 y1 y2 y3 y4 y5 y6 y7 y8 y9 y10) (keys_Pens.j1 (k + 1) y0 y1 y2 y3 y4 y5 y6 y7 y8 y9 y10))
  | 0 => ⟨fun _ _ _ _ _ _ r h => by simp [keys_Pens.l0] at h, fun _ _ _ _ _ _ _ _ _ _ _ r h => by simp [keys_Pens.j1] at h⟩
  | k + 1 => by
    obtain ⟨ih0, ih1⟩ := keys_Pens.mono_l k
    refine ⟨?_, ?_⟩
    · intro y0 y1 y2 y3 y4 y5
      unfold keys_Pens.l0
      repeat' first
      | (with_reducible exact ih0 _ _ _ _ _ _)
      | (with_reducible exact ih1 _ _ _ _ _ _ _ _ _ _ _)
      | (with_reducible exact LeO.refl _)
      | (with_reducible exact LeO.none _)
      | (with_reducible refine LeO.ite ?_ ?_)
      | (with_reducible refine LeO.bind ?_ (fun _ => ?_))
      | exact ih0 _ _ _ _ _ _
      | exact ih1 _ _ _ _ _ _ _ _ _ _ _
      | exact LeO.none _
      | refine LeO.ite ?_ ?_
      | refine LeO.bind ?_ (fun _ => ?_)
    · intro y0 y1 y2 y3 y4 y5 y6 y7 y8 y9 y10
      unfold keys_Pens.j1
      repeat' first
      | (with_reducible exact ih0 _ _ _ _ _ _)
      | (with_reducible exact ih1 _ _ _ _ _ _ _ _ _ _ _)
      | (with_reducible exact LeO.refl _)
      | (with_reducible exact LeO.none _)
      | (with_reducible refine LeO.ite ?_ ?_)
      | (with_reducible refine LeO.bind ?_ (fun _ => ?_))
      | exact ih0 _ _ _ _ _ _
      | exact ih1 _ _ _ _ _ _ _ _ _ _ _
      | exact LeO.none _
      | refine LeO.ite ?_ ?_
      | refine LeO.bind ?_ (fun _ => ?_)
theorem keys_Pens.mono : ∀ a0 a1 k, LeO (keys_Pens.f k a0 a1) (keys_Pens.f (k + 1) a0 a1) := by
  intro a0 a1 k
  obtain ⟨ih0, ih1⟩ := keys_Pens.mono_l k
  unfold keys_Pens.f
  repeat' first
      | (with_reducible exact ih0 _ _ _ _ _ _)
      | (with_reducible exact ih1 _ _ _ _ _ _ _ _ _ _ _)
      | (with_reducible exact LeO.refl _)
      | (with_reducible exact LeO.none _)
      | (with_reducible refine LeO.ite ?_ ?_)
      | (with_reducible refine LeO.bind ?_ (fun _ => ?_))
      | exact ih0 _ _ _ _ _ _
      | exact ih1 _ _ _ _ _ _ _ _ _ _ _
      | exact LeO.none _
      | refine LeO.ite ?_ ?_
      | refine LeO.bind ?_ (fun _ => ?_)
set_option maxHeartbeats 8000000 in
set_option maxRecDepth 100000 in
theorem keys_Pens.calls (k : Nat) (a0 : ByteArray) (A1 : Option Addr) (c1 : Nat) (l1 : List (S52)) (r1 : List (S62)) (r2 : Int) (w : World) (hr1 : Kd.C k52 w A1 l1.length l1) (hc1 : l1.length ≤ c1) (h : keys_Pens.f k a0 l1 = some (r1, r2)) :
    Calls Try.prog 25 #[.string a0, .slice A1 l1.length c1] w fun e w' => ∃ v0_ : Value, e = .returned (.tuple #[v0_, .int .i64 r2]) ∧ Kd.R k62 62 w' w.heap.size (fun _ => True) v0_ r1 ∧ Below w.heap.size w w' := by
  have hu52 := Try.underlying52
  have hu62 := Try.underlying62
  have HR1 := Aside0.mk hr1
  have HC1 := Aside0.mk hc1
  clear hr1 hc1
  have HB := Aside0.mk (Below.refl w.heap.size w)
  have H : (if (l1.length : Int) > 500 then (some (([] : List (S62)), 2)) else (keys_Pens.l0 k a0 l1 ([] : List (S62)) l1 (l1.length : Int) 0)) = some (r1, r2) := h
  clear h
  by_cases c3 : (l1.length : Int) > 500
  · rw [if_pos c3] at H
    have c3b0 : decide (500 < (l1.length : Int)) = true := decide_eq_true c3
    have c3b1 : decide (500 < l1.length) = true := decide_eq_true (by omega)
    clear c3
    simp only [Option.some.injEq, Prod.mk.injEq] at H
    obtain ⟨rfl, rfl⟩ := H
    go_enter Try.func25, Try.ntmps25
    go_wp2
    repeat (go_quiet (fail); try go_wp2)
    go_ret2
    exact ⟨_, by first | rfl | (simp [errW_none, errW_some] <;> rfl) | (simp [*, errW_none, errW_some] <;> rfl), by first | exact Kd.R_nil _ _ _ _ _ | exact Kd.N_nil _ _ _ _ _ | exact Kd.V_nil _ _ _ _ _ | exact Kd.Q_nil _ _ _ _ _ | exact Kd.S_nil _ _ _ _ _, by repeat (first | (with_reducible first | exact HB.out | apply below_alloc | apply pw_below_drewN | apply below_drew1) | exact HB.out)⟩
  · rw [if_neg c3] at H
    have c3b0 : decide (500 < (l1.length : Int)) = false := decide_eq_false c3
    have c3b1 : decide (500 < l1.length) = false := decide_eq_false (by omega)
    clear c3
    have H' := Aside0.mk H
    clear H
    go_enter Try.func25, Try.ntmps25
    go_wp2
    repeat (go_quiet (fail); try go_wp2)
    go_loopg [6, 15] k (fun kq v6 v15 w' => ∃ (x6_1 : List (S62)) (x15_1 : Int), v15 = .int .i64 x15_1 ∧ Aside0 (keys_Pens.l0 kq a0 l1 x6_1 l1 (l1.length : Int) x15_1 = some (r1, r2)) ∧ Aside0 (kq ≤ k) ∧ Aside0 (Kd.R k62 62 w' w.heap.size (fun _ => True) v6 x6_1) ∧ Aside0 (Below w.heap.size w w'))
    case atStart => exact ⟨(([] : List (S62))), (0), (by first | rfl | (simp; done) | (simp [*]; done)), H', ⟨Nat.le_refl _⟩, ⟨by first | exact Kd.R_nil _ _ _ _ _ | exact Kd.N_nil _ _ _ _ _ | exact Kd.V_nil _ _ _ _ _ | exact Kd.Q_nil _ _ _ _ _ | exact Kd.S_nil _ _ _ _ _⟩, ⟨by repeat (first | (with_reducible first | exact HB.out | apply below_alloc | apply pw_below_drewN | apply below_drew1) | exact HB.out)⟩⟩
    case round =>
      clear H'
      try clear c1
      try clear c2
      try clear p2
      try clear c3
      try clear c3b0
      try clear c3b1
      obtain ⟨x6_1, x15_1, rfl, HA, HK1, HO_6, HB⟩ := hrel
      cases gk with
      | zero => exact absurd HA.out (by simp [keys_Pens.l0])
      | succ k1 =>
        have H := HA.out
        clear HA
        simp only [keys_Pens.l0] at H
        by_cases c4 : x15_1 < (l1.length : Int)
        · rw [if_pos c4] at H
          have c4b0 : decide (x15_1 < (l1.length : Int)) = true := decide_eq_true c4
          clear c4
          by_cases c5 : 0 ≤ x15_1
          · rw [if_pos c5] at H
            have c5b0 : decide (0 ≤ x15_1) = true := decide_eq_true c5
            clear c5
            by_cases c6 : x15_1 < (l1.length : Int)
            · rw [if_pos c6] at H
              have c6b0 : decide (x15_1 < (l1.length : Int)) = true := decide_eq_true c6
              clear c6
              have HC7 := Aside0.mk H
              clear H
              have p101 : 0 ≤ (x15_1 : Int) := of_decide_eq_true (by first | (with_reducible assumption) | assumption)
              have q101 : x15_1 < (l1.length : Int) := of_decide_eq_true (by first | (with_reducible assumption) | assumption)
              obtain ⟨ad101, e101, hx101_0, hx101_1, hx101_2⟩ := at_T52 HR1.out x15_1 p101 q101
              cases e101
              replace hx101_0 := (HB.out.cell (World.block_lt_of_cell? w _ hx101_0)).trans hx101_0
              replace hx101_1 := (HB.out.cell (World.block_lt_of_cell? w _ hx101_1)).trans hx101_1
              replace hx101_2 := (HB.out.cell (World.block_lt_of_cell? w _ hx101_2)).trans hx101_2
              replace p101 := eq_true p101
              replace q101 := eq_true q101
              go_upto_region 7 with (first | ((with_reducible refine gate_dst (N := 8) rfl ?_); refine box_event ?hg (N := 8) ?hd (cs := #[.int .i64 0, .int .i64 0, .int .i64 0]) (t := 52) ?hr ?_; (case hd => rfl); (case hg => rfl); (case hr => first | (go_simp; done) | (go_simp; rfl)); intro gb102 hg w8 hbox hb; have n0_ := Aside0.mk (Kd.R_below (by (with_reducible repeat (first | apply Kd.R_alloc | apply Kd.R_drewN | apply Kd.R_drew)); exact HO_6.out) hb); have n1_ := Aside0.mk (below_step (by repeat (first | (with_reducible first | exact HB.out | apply below_alloc | apply pw_below_drewN | apply below_drew1) | exact HB.out)) hb); have n2_ := Aside0.mk (hbox); have n3_ := Aside0.mk ((by rw [hg]; exact (below_size (by repeat (first | (with_reducible first | exact HB.out | apply below_alloc | apply pw_below_drewN | apply below_drew1) | exact HB.out))) : w.heap.size ≤ gb102)); have n4_ := Aside0.mk ((by rw [hg]; exact (below_size (by repeat (first | (with_reducible first | exact HB.out | apply below_alloc | apply pw_below_drewN | apply below_drew1) | exact HB.out))) : w.heap.size ≤ gb102)); clear HO_6; clear HB; have HO_6 := n0_; have HB := n1_; have BK102 := n2_; have GW102 := n3_; have GE102 := n4_; clear n0_ n1_ n2_ n3_ n4_; clear hb hbox hg; have hcz9_0 : w8.cell? ⟨gb102, 0, none⟩ = some (.int .i64 0) := (blk_cell BK102.out 0).trans rfl; have hcz9_1 : w8.cell? ⟨gb102, 1, none⟩ = some (.int .i64 0) := (blk_cell BK102.out 1).trans rfl; have hcz9_2 : w8.cell? ⟨gb102, 2, none⟩ = some (.int .i64 0) := (blk_cell BK102.out 2).trans rfl; have hfz9_0 := blk_frozen BK102.out 0; have hfz9_1 := blk_frozen BK102.out 1; have hfz9_2 := blk_frozen BK102.out 2))
              repeat (go_quiet (first | ((with_reducible refine gate_dst (N := 8) rfl ?_); refine box_event ?hg (N := 8) ?hd (cs := #[.int .i64 0, .int .i64 0, .int .i64 0]) (t := 52) ?hr ?_; (case hd => rfl); (case hg => rfl); (case hr => first | (go_simp; done) | (go_simp; rfl)); intro gb102 hg w8 hbox hb; have n0_ := Aside0.mk (Kd.R_below (by (with_reducible repeat (first | apply Kd.R_alloc | apply Kd.R_drewN | apply Kd.R_drew)); exact HO_6.out) hb); have n1_ := Aside0.mk (below_step (by repeat (first | (with_reducible first | exact HB.out | apply below_alloc | apply pw_below_drewN | apply below_drew1) | exact HB.out)) hb); have n2_ := Aside0.mk (hbox); have n3_ := Aside0.mk ((by rw [hg]; exact (below_size (by repeat (first | (with_reducible first | exact HB.out | apply below_alloc | apply pw_below_drewN | apply below_drew1) | exact HB.out))) : w.heap.size ≤ gb102)); have n4_ := Aside0.mk ((by rw [hg]; exact (below_size (by repeat (first | (with_reducible first | exact HB.out | apply below_alloc | apply pw_below_drewN | apply below_drew1) | exact HB.out))) : w.heap.size ≤ gb102)); clear HO_6; clear HB; have HO_6 := n0_; have HB := n1_; have BK102 := n2_; have GW102 := n3_; have GE102 := n4_; clear n0_ n1_ n2_ n3_ n4_; clear hb hbox hg; have hcz9_0 : w8.cell? ⟨gb102, 0, none⟩ = some (.int .i64 0) := (blk_cell BK102.out 0).trans rfl; have hcz9_1 : w8.cell? ⟨gb102, 1, none⟩ = some (.int .i64 0) := (blk_cell BK102.out 1).trans rfl; have hcz9_2 : w8.cell? ⟨gb102, 2, none⟩ = some (.int .i64 0) := (blk_cell BK102.out 2).trans rfl; have hfz9_0 := blk_frozen BK102.out 0; have hfz9_1 := blk_frozen BK102.out 1; have hfz9_2 := blk_frozen BK102.out 2)); go_upto_region 7 with (first | ((with_reducible refine gate_dst (N := 8) rfl ?_); refine box_event ?hg (N := 8) ?hd (cs := #[.int .i64 0, .int .i64 0, .int .i64 0]) (t := 52) ?hr ?_; (case hd => rfl); (case hg => rfl); (case hr => first | (go_simp; done) | (go_simp; rfl)); intro gb102 hg w8 hbox hb; have n0_ := Aside0.mk (Kd.R_below (by (with_reducible repeat (first | apply Kd.R_alloc | apply Kd.R_drewN | apply Kd.R_drew)); exact HO_6.out) hb); have n1_ := Aside0.mk (below_step (by repeat (first | (with_reducible first | exact HB.out | apply below_alloc | apply pw_below_drewN | apply below_drew1) | exact HB.out)) hb); have n2_ := Aside0.mk (hbox); have n3_ := Aside0.mk ((by rw [hg]; exact (below_size (by repeat (first | (with_reducible first | exact HB.out | apply below_alloc | apply pw_below_drewN | apply below_drew1) | exact HB.out))) : w.heap.size ≤ gb102)); have n4_ := Aside0.mk ((by rw [hg]; exact (below_size (by repeat (first | (with_reducible first | exact HB.out | apply below_alloc | apply pw_below_drewN | apply below_drew1) | exact HB.out))) : w.heap.size ≤ gb102)); clear HO_6; clear HB; have HO_6 := n0_; have HB := n1_; have BK102 := n2_; have GW102 := n3_; have GE102 := n4_; clear n0_ n1_ n2_ n3_ n4_; clear hb hbox hg; have hcz9_0 : w8.cell? ⟨gb102, 0, none⟩ = some (.int .i64 0) := (blk_cell BK102.out 0).trans rfl; have hcz9_1 : w8.cell? ⟨gb102, 1, none⟩ = some (.int .i64 0) := (blk_cell BK102.out 1).trans rfl; have hcz9_2 : w8.cell? ⟨gb102, 2, none⟩ = some (.int .i64 0) := (blk_cell BK102.out 2).trans rfl; have hfz9_0 := blk_frozen BK102.out 0; have hfz9_1 := blk_frozen BK102.out 1; have hfz9_2 := blk_frozen BK102.out 2)))
              (try simp only [Act.put, List.setIfInBounds_toArray, List.set_cons_zero, List.set_cons_succ])
              go_cut [47] (fun v47 wc => ∃ (kq : Nat) (x47_6 : Bool), v47 = .bool x47_6 ∧ Aside0 (keys_Pens.j1 kq a0 l1 x6_1 x15_1 l1 (l1.length : Int) x15_1 x47_6 ((rd_T52 l1 x15_1).f0) ((rd_T52 l1 x15_1).f1) ((rd_T52 l1 x15_1).f2) = some (r1, r2)) ∧ Aside0 (kq ≤ k1) ∧ Aside0 (Kd.R k62 62 wc w.heap.size (fun _ => True) u6 x6_1) ∧ Aside0 (wc.heap[gb102]? = some (.cells #[.int .i64 ((rd_T52 l1 x15_1).f0), .int .i64 ((rd_T52 l1 x15_1).f1), .int .i64 ((rd_T52 l1 x15_1).f2)] 52 (0, 0))) ∧ Aside0 (Below w.heap.size w wc))
              case first =>
                have H := HC7.out
                clear HC7
                by_cases c10 : ((rd_T52 l1 x15_1).f1) < 0
                · rw [if_pos c10] at H
                  have c10b0 : decide (((rd_T52 l1 x15_1).f1) < 0) = true := decide_eq_true c10
                  clear c10
                  (first | rw [c10b0] | (simp only [i64_w, i32_w]; rw [c10b0]) | skip)
                  have H' := Aside0.mk H
                  clear H
                  have hcz11_0 : w8.cell? ⟨gb102, 0, none⟩ = some (.int .i64 0) := (blk_cell BK102.out 0).trans rfl
                  have hcz11_1 : w8.cell? ⟨gb102, 1, none⟩ = some (.int .i64 0) := (blk_cell BK102.out 1).trans rfl
                  have hcz11_2 : w8.cell? ⟨gb102, 2, none⟩ = some (.int .i64 0) := (blk_cell BK102.out 2).trans rfl
                  have hfz11_0 := blk_frozen BK102.out 0
                  have hfz11_1 := blk_frozen BK102.out 1
                  have hfz11_2 := blk_frozen BK102.out 2
                  go_wp2
                  repeat (go_quiet (fail); try go_wp2)
                  go_meet
                  case rel => exact ⟨_, (true), (by first | rfl | (simp; done) | (simp [*]; done)), H', ⟨by have := HK1.out; first | omega | exact Nat.le_refl _⟩, ⟨by (with_reducible repeat (first | apply Kd.R_alloc | apply Kd.R_drewN | apply Kd.R_drew)); exact Kd.R_mono (Kd.R_far (p := ⟨gb102, 2, none⟩) (Kd.R_far (p := ⟨gb102, 1, none⟩) (Kd.R_far (p := ⟨gb102, 0, none⟩) (Kd.R_types HO_6.out BK102.out (by decide)) (fun _ hk => hk.2) (.int .i64 ((rd_T52 l1 x15_1).f0))) (fun _ hk => hk.2) (.int .i64 ((rd_T52 l1 x15_1).f1))) (fun _ hk => hk.2) (.int .i64 ((rd_T52 l1 x15_1).f2))) (fun _ hk => trivial)⟩, ⟨by (with_reducible repeat (first | refine blk_drewN ?_ _ | refine blk_drew ?_ | refine blk_alloc ?_ _)); refine blk_put (cs := #[.int .i64 ((rd_T52 l1 x15_1).f0), .int .i64 ((rd_T52 l1 x15_1).f1), .int .i64 0]) ?_ 2 _ rfl; (with_reducible repeat (first | refine blk_drewN ?_ _ | refine blk_drew ?_ | refine blk_alloc ?_ _)); refine blk_put (cs := #[.int .i64 ((rd_T52 l1 x15_1).f0), .int .i64 0, .int .i64 0]) ?_ 1 _ rfl; (with_reducible repeat (first | refine blk_drewN ?_ _ | refine blk_drew ?_ | refine blk_alloc ?_ _)); refine blk_put (cs := #[.int .i64 0, .int .i64 0, .int .i64 0]) ?_ 0 _ rfl; (with_reducible repeat (first | refine blk_drewN ?_ _ | refine blk_drew ?_ | refine blk_alloc ?_ _)); exact BK102.out⟩, ⟨by repeat (first | (with_reducible first | exact HB.out | apply below_alloc | apply pw_below_drewN | apply below_drew1 | refine below_set ?_ GE102.out) | exact HB.out)⟩⟩
                · rw [if_neg c10] at H
                  have c10b0 : decide (((rd_T52 l1 x15_1).f1) < 0) = false := decide_eq_false c10
                  clear c10
                  (first | rw [c10b0] | (simp only [i64_w, i32_w]; rw [c10b0]) | skip)
                  by_cases c12 : ((rd_T52 l1 x15_1).f1) ≥ 48
                  · rw [if_pos c12] at H
                    have c12b0 : decide (48 ≤ ((rd_T52 l1 x15_1).f1)) = true := decide_eq_true c12
                    clear c12
                    have H' := Aside0.mk H
                    clear H
                    have hcz13_0 : w8.cell? ⟨gb102, 0, none⟩ = some (.int .i64 0) := (blk_cell BK102.out 0).trans rfl
                    have hcz13_1 : w8.cell? ⟨gb102, 1, none⟩ = some (.int .i64 0) := (blk_cell BK102.out 1).trans rfl
                    have hcz13_2 : w8.cell? ⟨gb102, 2, none⟩ = some (.int .i64 0) := (blk_cell BK102.out 2).trans rfl
                    have hfz13_0 := blk_frozen BK102.out 0
                    have hfz13_1 := blk_frozen BK102.out 1
                    have hfz13_2 := blk_frozen BK102.out 2
                    go_wp2
                    repeat (go_quiet (fail); try go_wp2)
                    go_meet
                    case rel => exact ⟨_, (true), (by first | rfl | (simp; done) | (simp [*]; done)), H', ⟨by have := HK1.out; first | omega | exact Nat.le_refl _⟩, ⟨by (with_reducible repeat (first | apply Kd.R_alloc | apply Kd.R_drewN | apply Kd.R_drew)); exact Kd.R_mono (Kd.R_far (p := ⟨gb102, 2, none⟩) (Kd.R_far (p := ⟨gb102, 1, none⟩) (Kd.R_far (p := ⟨gb102, 0, none⟩) (Kd.R_types HO_6.out BK102.out (by decide)) (fun _ hk => hk.2) (.int .i64 ((rd_T52 l1 x15_1).f0))) (fun _ hk => hk.2) (.int .i64 ((rd_T52 l1 x15_1).f1))) (fun _ hk => hk.2) (.int .i64 ((rd_T52 l1 x15_1).f2))) (fun _ hk => trivial)⟩, ⟨by (with_reducible repeat (first | refine blk_drewN ?_ _ | refine blk_drew ?_ | refine blk_alloc ?_ _)); refine blk_put (cs := #[.int .i64 ((rd_T52 l1 x15_1).f0), .int .i64 ((rd_T52 l1 x15_1).f1), .int .i64 0]) ?_ 2 _ rfl; (with_reducible repeat (first | refine blk_drewN ?_ _ | refine blk_drew ?_ | refine blk_alloc ?_ _)); refine blk_put (cs := #[.int .i64 ((rd_T52 l1 x15_1).f0), .int .i64 0, .int .i64 0]) ?_ 1 _ rfl; (with_reducible repeat (first | refine blk_drewN ?_ _ | refine blk_drew ?_ | refine blk_alloc ?_ _)); refine blk_put (cs := #[.int .i64 0, .int .i64 0, .int .i64 0]) ?_ 0 _ rfl; (with_reducible repeat (first | refine blk_drewN ?_ _ | refine blk_drew ?_ | refine blk_alloc ?_ _)); exact BK102.out⟩, ⟨by repeat (first | (with_reducible first | exact HB.out | apply below_alloc | apply pw_below_drewN | apply below_drew1 | refine below_set ?_ GE102.out) | exact HB.out)⟩⟩
                  · rw [if_neg c12] at H
                    have c12b0 : decide (48 ≤ ((rd_T52 l1 x15_1).f1)) = false := decide_eq_false c12
                    clear c12
                    by_cases c14 : ((rd_T52 l1 x15_1).f2) < 0
                    · rw [if_pos c14] at H
                      have c14b0 : decide (((rd_T52 l1 x15_1).f2) < 0) = true := decide_eq_true c14
                      clear c14
                      have H' := Aside0.mk H
                      clear H
                      have hcz15_0 : w8.cell? ⟨gb102, 0, none⟩ = some (.int .i64 0) := (blk_cell BK102.out 0).trans rfl
                      have hcz15_1 : w8.cell? ⟨gb102, 1, none⟩ = some (.int .i64 0) := (blk_cell BK102.out 1).trans rfl
                      have hcz15_2 : w8.cell? ⟨gb102, 2, none⟩ = some (.int .i64 0) := (blk_cell BK102.out 2).trans rfl
                      have hfz15_0 := blk_frozen BK102.out 0
                      have hfz15_1 := blk_frozen BK102.out 1
                      have hfz15_2 := blk_frozen BK102.out 2
                      go_wp2
                      repeat (go_quiet (fail); try go_wp2)
                      go_meet
                      case rel => exact ⟨_, (true), (by first | rfl | (simp; done) | (simp [*]; done)), H', ⟨by have := HK1.out; first | omega | exact Nat.le_refl _⟩, ⟨by (with_reducible repeat (first | apply Kd.R_alloc | apply Kd.R_drewN | apply Kd.R_drew)); exact Kd.R_mono (Kd.R_far (p := ⟨gb102, 2, none⟩) (Kd.R_far (p := ⟨gb102, 1, none⟩) (Kd.R_far (p := ⟨gb102, 0, none⟩) (Kd.R_types HO_6.out BK102.out (by decide)) (fun _ hk => hk.2) (.int .i64 ((rd_T52 l1 x15_1).f0))) (fun _ hk => hk.2) (.int .i64 ((rd_T52 l1 x15_1).f1))) (fun _ hk => hk.2) (.int .i64 ((rd_T52 l1 x15_1).f2))) (fun _ hk => trivial)⟩, ⟨by (with_reducible repeat (first | refine blk_drewN ?_ _ | refine blk_drew ?_ | refine blk_alloc ?_ _)); refine blk_put (cs := #[.int .i64 ((rd_T52 l1 x15_1).f0), .int .i64 ((rd_T52 l1 x15_1).f1), .int .i64 0]) ?_ 2 _ rfl; (with_reducible repeat (first | refine blk_drewN ?_ _ | refine blk_drew ?_ | refine blk_alloc ?_ _)); refine blk_put (cs := #[.int .i64 ((rd_T52 l1 x15_1).f0), .int .i64 0, .int .i64 0]) ?_ 1 _ rfl; (with_reducible repeat (first | refine blk_drewN ?_ _ | refine blk_drew ?_ | refine blk_alloc ?_ _)); refine blk_put (cs := #[.int .i64 0, .int .i64 0, .int .i64 0]) ?_ 0 _ rfl; (with_reducible repeat (first | refine blk_drewN ?_ _ | refine blk_drew ?_ | refine blk_alloc ?_ _)); exact BK102.out⟩, ⟨by repeat (first | (with_reducible first | exact HB.out | apply below_alloc | apply pw_below_drewN | apply below_drew1 | refine below_set ?_ GE102.out) | exact HB.out)⟩⟩
                    · rw [if_neg c14] at H
                      have c14b0 : decide (((rd_T52 l1 x15_1).f2) < 0) = false := decide_eq_false c14
                      clear c14
                      by_cases c16 : ((rd_T52 l1 x15_1).f2) ≥ 32
                      · rw [if_pos c16] at H
                        have c16b0 : decide (32 ≤ ((rd_T52 l1 x15_1).f2)) = true := decide_eq_true c16
                        clear c16
                        have H' := Aside0.mk H
                        clear H
                        have hcz17_0 : w8.cell? ⟨gb102, 0, none⟩ = some (.int .i64 0) := (blk_cell BK102.out 0).trans rfl
                        have hcz17_1 : w8.cell? ⟨gb102, 1, none⟩ = some (.int .i64 0) := (blk_cell BK102.out 1).trans rfl
                        have hcz17_2 : w8.cell? ⟨gb102, 2, none⟩ = some (.int .i64 0) := (blk_cell BK102.out 2).trans rfl
                        have hfz17_0 := blk_frozen BK102.out 0
                        have hfz17_1 := blk_frozen BK102.out 1
                        have hfz17_2 := blk_frozen BK102.out 2
                        go_wp2
                        repeat (go_quiet (fail); try go_wp2)
                        go_meet
                        case rel => exact ⟨_, (true), (by first | rfl | (simp; done) | (simp [*]; done)), H', ⟨by have := HK1.out; first | omega | exact Nat.le_refl _⟩, ⟨by (with_reducible repeat (first | apply Kd.R_alloc | apply Kd.R_drewN | apply Kd.R_drew)); exact Kd.R_mono (Kd.R_far (p := ⟨gb102, 2, none⟩) (Kd.R_far (p := ⟨gb102, 1, none⟩) (Kd.R_far (p := ⟨gb102, 0, none⟩) (Kd.R_types HO_6.out BK102.out (by decide)) (fun _ hk => hk.2) (.int .i64 ((rd_T52 l1 x15_1).f0))) (fun _ hk => hk.2) (.int .i64 ((rd_T52 l1 x15_1).f1))) (fun _ hk => hk.2) (.int .i64 ((rd_T52 l1 x15_1).f2))) (fun _ hk => trivial)⟩, ⟨by (with_reducible repeat (first | refine blk_drewN ?_ _ | refine blk_drew ?_ | refine blk_alloc ?_ _)); refine blk_put (cs := #[.int .i64 ((rd_T52 l1 x15_1).f0), .int .i64 ((rd_T52 l1 x15_1).f1), .int .i64 0]) ?_ 2 _ rfl; (with_reducible repeat (first | refine blk_drewN ?_ _ | refine blk_drew ?_ | refine blk_alloc ?_ _)); refine blk_put (cs := #[.int .i64 ((rd_T52 l1 x15_1).f0), .int .i64 0, .int .i64 0]) ?_ 1 _ rfl; (with_reducible repeat (first | refine blk_drewN ?_ _ | refine blk_drew ?_ | refine blk_alloc ?_ _)); refine blk_put (cs := #[.int .i64 0, .int .i64 0, .int .i64 0]) ?_ 0 _ rfl; (with_reducible repeat (first | refine blk_drewN ?_ _ | refine blk_drew ?_ | refine blk_alloc ?_ _)); exact BK102.out⟩, ⟨by repeat (first | (with_reducible first | exact HB.out | apply below_alloc | apply pw_below_drewN | apply below_drew1 | refine below_set ?_ GE102.out) | exact HB.out)⟩⟩
                      · rw [if_neg c16] at H
                        have c16b0 : decide (32 ≤ ((rd_T52 l1 x15_1).f2)) = false := decide_eq_false c16
                        clear c16
                        by_cases c18 : ((rd_T52 l1 x15_1).f0) < 0
                        · rw [if_pos c18] at H
                          have c18b0 : decide (((rd_T52 l1 x15_1).f0) < 0) = true := decide_eq_true c18
                          clear c18
                          have H' := Aside0.mk H
                          clear H
                          have hcz19_0 : w8.cell? ⟨gb102, 0, none⟩ = some (.int .i64 0) := (blk_cell BK102.out 0).trans rfl
                          have hcz19_1 : w8.cell? ⟨gb102, 1, none⟩ = some (.int .i64 0) := (blk_cell BK102.out 1).trans rfl
                          have hcz19_2 : w8.cell? ⟨gb102, 2, none⟩ = some (.int .i64 0) := (blk_cell BK102.out 2).trans rfl
                          have hfz19_0 := blk_frozen BK102.out 0
                          have hfz19_1 := blk_frozen BK102.out 1
                          have hfz19_2 := blk_frozen BK102.out 2
                          go_wp2
                          repeat (go_quiet (fail); try go_wp2)
                          go_meet
                          case rel => exact ⟨_, (true), (by first | rfl | (simp; done) | (simp [*]; done)), H', ⟨by have := HK1.out; first | omega | exact Nat.le_refl _⟩, ⟨by (with_reducible repeat (first | apply Kd.R_alloc | apply Kd.R_drewN | apply Kd.R_drew)); exact Kd.R_mono (Kd.R_far (p := ⟨gb102, 2, none⟩) (Kd.R_far (p := ⟨gb102, 1, none⟩) (Kd.R_far (p := ⟨gb102, 0, none⟩) (Kd.R_types HO_6.out BK102.out (by decide)) (fun _ hk => hk.2) (.int .i64 ((rd_T52 l1 x15_1).f0))) (fun _ hk => hk.2) (.int .i64 ((rd_T52 l1 x15_1).f1))) (fun _ hk => hk.2) (.int .i64 ((rd_T52 l1 x15_1).f2))) (fun _ hk => trivial)⟩, ⟨by (with_reducible repeat (first | refine blk_drewN ?_ _ | refine blk_drew ?_ | refine blk_alloc ?_ _)); refine blk_put (cs := #[.int .i64 ((rd_T52 l1 x15_1).f0), .int .i64 ((rd_T52 l1 x15_1).f1), .int .i64 0]) ?_ 2 _ rfl; (with_reducible repeat (first | refine blk_drewN ?_ _ | refine blk_drew ?_ | refine blk_alloc ?_ _)); refine blk_put (cs := #[.int .i64 ((rd_T52 l1 x15_1).f0), .int .i64 0, .int .i64 0]) ?_ 1 _ rfl; (with_reducible repeat (first | refine blk_drewN ?_ _ | refine blk_drew ?_ | refine blk_alloc ?_ _)); refine blk_put (cs := #[.int .i64 0, .int .i64 0, .int .i64 0]) ?_ 0 _ rfl; (with_reducible repeat (first | refine blk_drewN ?_ _ | refine blk_drew ?_ | refine blk_alloc ?_ _)); exact BK102.out⟩, ⟨by repeat (first | (with_reducible first | exact HB.out | apply below_alloc | apply pw_below_drewN | apply below_drew1 | refine below_set ?_ GE102.out) | exact HB.out)⟩⟩
                        · rw [if_neg c18] at H
                          have c18b0 : decide (((rd_T52 l1 x15_1).f0) < 0) = false := decide_eq_false c18
                          clear c18
                          have H' := Aside0.mk H
                          clear H
                          have hcz20_0 : w8.cell? ⟨gb102, 0, none⟩ = some (.int .i64 0) := (blk_cell BK102.out 0).trans rfl
                          have hcz20_1 : w8.cell? ⟨gb102, 1, none⟩ = some (.int .i64 0) := (blk_cell BK102.out 1).trans rfl
                          have hcz20_2 : w8.cell? ⟨gb102, 2, none⟩ = some (.int .i64 0) := (blk_cell BK102.out 2).trans rfl
                          have hfz20_0 := blk_frozen BK102.out 0
                          have hfz20_1 := blk_frozen BK102.out 1
                          have hfz20_2 := blk_frozen BK102.out 2
                          go_wp2
                          repeat (go_quiet (fail); try go_wp2)
                          go_meet
                          case rel => exact ⟨_, (decide (((rd_T52 l1 x15_1).f0) > 39)), (by first | rfl | (simp; done) | (simp [*]; done)), H', ⟨by have := HK1.out; first | omega | exact Nat.le_refl _⟩, ⟨by (with_reducible repeat (first | apply Kd.R_alloc | apply Kd.R_drewN | apply Kd.R_drew)); exact Kd.R_mono (Kd.R_far (p := ⟨gb102, 2, none⟩) (Kd.R_far (p := ⟨gb102, 1, none⟩) (Kd.R_far (p := ⟨gb102, 0, none⟩) (Kd.R_types HO_6.out BK102.out (by decide)) (fun _ hk => hk.2) (.int .i64 ((rd_T52 l1 x15_1).f0))) (fun _ hk => hk.2) (.int .i64 ((rd_T52 l1 x15_1).f1))) (fun _ hk => hk.2) (.int .i64 ((rd_T52 l1 x15_1).f2))) (fun _ hk => trivial)⟩, ⟨by (with_reducible repeat (first | refine blk_drewN ?_ _ | refine blk_drew ?_ | refine blk_alloc ?_ _)); refine blk_put (cs := #[.int .i64 ((rd_T52 l1 x15_1).f0), .int .i64 ((rd_T52 l1 x15_1).f1), .int .i64 0]) ?_ 2 _ rfl; (with_reducible repeat (first | refine blk_drewN ?_ _ | refine blk_drew ?_ | refine blk_alloc ?_ _)); refine blk_put (cs := #[.int .i64 ((rd_T52 l1 x15_1).f0), .int .i64 0, .int .i64 0]) ?_ 1 _ rfl; (with_reducible repeat (first | refine blk_drewN ?_ _ | refine blk_drew ?_ | refine blk_alloc ?_ _)); refine blk_put (cs := #[.int .i64 0, .int .i64 0, .int .i64 0]) ?_ 0 _ rfl; (with_reducible repeat (first | refine blk_drewN ?_ _ | refine blk_drew ?_ | refine blk_alloc ?_ _)); exact BK102.out⟩, ⟨by repeat (first | (with_reducible first | exact HB.out | apply below_alloc | apply pw_below_drewN | apply below_drew1 | refine below_set ?_ GE102.out) | exact HB.out)⟩⟩
              case rest =>
                clear HC7
                try clear c1
                try clear p1
                try clear q1
                try clear hx1
                try clear c2
                try clear p2
                try clear c3
                try clear c3b0
                try clear c3b1
                try clear c4
                try clear c4b0
                try clear c5
                try clear c5b0
                try clear c6
                try clear c6b0
                try clear c10
                try clear c10b0
                try clear p10
                try clear q10
                try clear hx10
                try clear c12
                try clear c12b0
                try clear c14
                try clear c14b0
                try clear c16
                try clear c16b0
                try clear c18
                try clear c18b0
                try clear hcz11_0
                try clear hcz11_1
                try clear hcz11_2
                try clear hcz13_0
                try clear hcz13_1
                try clear hcz13_2
                try clear hcz15_0
                try clear hcz15_1
                try clear hcz15_2
                try clear hcz17_0
                try clear hcz17_1
                try clear hcz17_2
                try clear hcz19_0
                try clear hcz19_1
                try clear hcz19_2
                try clear hcz20_0
                try clear hcz20_1
                try clear hcz20_2
                try clear hcz9_0
                try clear hcz9_1
                try clear hcz9_2
                try clear hfz11_0
                try clear hfz11_1
                try clear hfz11_2
                try clear hfz13_0
                try clear hfz13_1
                try clear hfz13_2
                try clear hfz15_0
                try clear hfz15_1
                try clear hfz15_2
                try clear hfz17_0
                try clear hfz17_1
                try clear hfz17_2
                try clear hfz19_0
                try clear hfz19_1
                try clear hfz19_2
                try clear hfz20_0
                try clear hfz20_1
                try clear hfz20_2
                try clear hfz9_0
                try clear hfz9_1
                try clear hfz9_2
                try clear hx101_0
                try clear hx101_1
                try clear hx101_2
                try clear p101
                try clear p2
                try clear q101
                obtain ⟨kq, x47_6, rfl, HA, HJ6, HO_6, BK102, HB⟩ := hcut
                cases kq with
                | zero => exact absurd HA.out (by simp [keys_Pens.j1])
                | succ kj6 =>
                  have H := HA.out
                  clear HA
                  simp only [keys_Pens.j1] at H
                  by_cases c21 : x47_6 = true
                  · subst c21
                    have H1 : (some (([] : List (S62)), 1)) = some (r1, r2) := by rw [if_pos rfl] at H; exact H
                    clear H
                    have H := H1
                    clear H1
                    simp only [Option.some.injEq, Prod.mk.injEq] at H
                    obtain ⟨rfl, rfl⟩ := H
                    go_wp2
                    repeat (go_quiet (fail); try go_wp2)
                    go_ret2
                    exact ⟨_, by first | rfl | (simp [errW_none, errW_some] <;> rfl) | (simp [*, errW_none, errW_some] <;> rfl), by first | exact Kd.R_nil _ _ _ _ _ | exact Kd.N_nil _ _ _ _ _ | exact Kd.V_nil _ _ _ _ _ | exact Kd.Q_nil _ _ _ _ _ | exact Kd.S_nil _ _ _ _ _, by repeat (first | (with_reducible first | exact HB.out | apply below_alloc | apply pw_below_drewN | apply below_drew1 | refine below_set ?_ GE102.out) | exact HB.out)⟩
                  · replace c21 := Bool.eq_false_iff.mpr c21
                    subst c21
                    have H1 : (if x15_1 > 0 then (if 0 ≤ (wrap64 (x15_1 - 1)) then (if (wrap64 (x15_1 - 1)) < (l1.length : Int) then (if ((rd_T52 l1 x15_1).f0) ≤ ((rd_T52 l1 (wrap64 (x15_1 - 1))).f0) then (some (([] : List (S62)), 9)) else ((some (([(⟨wrap64 ((wrap64 ((wrap64 (((rd_T52 l1 x15_1).f0) * 2560)) + (wrap64 (((rd_T52 l1 x15_1).f2) * 64)))) + ((rd_T52 l1 x15_1).f1)), a0, 128⟩ : S62), (⟨wrap64 ((wrap64 ((wrap64 ((wrap64 (((rd_T52 l1 x15_1).f0) * 2560)) + (wrap64 (((rd_T52 l1 x15_1).f2) * 64)))) + ((rd_T52 l1 x15_1).f1))) + 1), a0, 0⟩ : S62)] : List (S62)) : List (S62))).bind fun y104 => (if x6_1.length + y104.length < 4398046511104 then (keys_Pens.l0 kj6 a0 l1 (x6_1 ++ y104) l1 (l1.length : Int) (wrap64 (x15_1 + 1))) else (none)))) else (none)) else (none)) else ((some (([(⟨wrap64 ((wrap64 ((wrap64 (((rd_T52 l1 x15_1).f0) * 2560)) + (wrap64 (((rd_T52 l1 x15_1).f2) * 64)))) + ((rd_T52 l1 x15_1).f1)), a0, 128⟩ : S62), (⟨wrap64 ((wrap64 ((wrap64 ((wrap64 (((rd_T52 l1 x15_1).f0) * 2560)) + (wrap64 (((rd_T52 l1 x15_1).f2) * 64)))) + ((rd_T52 l1 x15_1).f1))) + 1), a0, 0⟩ : S62)] : List (S62)) : List (S62))).bind fun y110 => (if x6_1.length + y110.length < 4398046511104 then (keys_Pens.l0 kj6 a0 l1 (x6_1 ++ y110) l1 (l1.length : Int) (wrap64 (x15_1 + 1))) else (none)))) = some (r1, r2) := by rw [if_neg (show ¬ (false = true) by decide)] at H; exact H
                    clear H
                    have H := H1
                    clear H1
                    by_cases c22 : x15_1 > 0
                    · rw [if_pos c22] at H
                      have c22b0 : decide (0 < x15_1) = true := decide_eq_true c22
                      clear c22
                      obtain ⟨ji23, hji23⟩ : ∃ j_ : Int, (wrap64 (x15_1 - 1)) = j_ := ⟨_, rfl⟩
                      replace H : (if 0 ≤ (ji23) then (if (ji23) < (l1.length : Int) then (if ((rd_T52 l1 x15_1).f0) ≤ ((rd_T52 l1 (ji23)).f0) then (some (([] : List (S62)), 9)) else ((some (([(⟨wrap64 ((wrap64 ((wrap64 (((rd_T52 l1 x15_1).f0) * 2560)) + (wrap64 (((rd_T52 l1 x15_1).f2) * 64)))) + ((rd_T52 l1 x15_1).f1)), a0, 128⟩ : S62), (⟨wrap64 ((wrap64 ((wrap64 ((wrap64 (((rd_T52 l1 x15_1).f0) * 2560)) + (wrap64 (((rd_T52 l1 x15_1).f2) * 64)))) + ((rd_T52 l1 x15_1).f1))) + 1), a0, 0⟩ : S62)] : List (S62)) : List (S62))).bind fun y104 => (if x6_1.length + y104.length < 4398046511104 then (keys_Pens.l0 kj6 a0 l1 (x6_1 ++ y104) l1 (l1.length : Int) (wrap64 (x15_1 + 1))) else (none)))) else (none)) else (none)) = some (r1, r2) := by first | (rw [hji23] at H; exact H) | (simp only [hji23] at H ⊢; exact H)
                      have hji23w : (IntKind.i64.wrap (x15_1 - 1)) = ji23 := (i64_w _).trans hji23
                      by_cases c24 : 0 ≤ (ji23)
                      · rw [if_pos c24] at H
                        have c24b0 : decide (0 ≤ (ji23)) = true := decide_eq_true c24
                        clear c24
                        by_cases c25 : (ji23) < (l1.length : Int)
                        · rw [if_pos c25] at H
                          have c25b0 : decide ((ji23) < (l1.length : Int)) = true := decide_eq_true c25
                          clear c25
                          by_cases c26 : ((rd_T52 l1 x15_1).f0) ≤ ((rd_T52 l1 (ji23)).f0)
                          · rw [if_pos c26] at H
                            have c26b0 : decide (((rd_T52 l1 x15_1).f0) ≤ ((rd_T52 l1 (ji23)).f0)) = true := decide_eq_true c26
                            clear c26
                            simp only [Option.some.injEq, Prod.mk.injEq] at H
                            obtain ⟨rfl, rfl⟩ := H
                            have hcz27_0 : wc.cell? ⟨gb102, 0, none⟩ = some (.int .i64 ((rd_T52 l1 x15_1).f0)) := (blk_cell BK102.out 0).trans rfl
                            have hcz27_1 : wc.cell? ⟨gb102, 1, none⟩ = some (.int .i64 ((rd_T52 l1 x15_1).f1)) := (blk_cell BK102.out 1).trans rfl
                            have hcz27_2 : wc.cell? ⟨gb102, 2, none⟩ = some (.int .i64 ((rd_T52 l1 x15_1).f2)) := (blk_cell BK102.out 2).trans rfl
                            have hfz27_0 := blk_frozen BK102.out 0
                            have hfz27_1 := blk_frozen BK102.out 1
                            have hfz27_2 := blk_frozen BK102.out 2
                            have p103 : 0 ≤ ((ji23) : Int) := of_decide_eq_true (by first | (with_reducible assumption) | assumption)
                            have q103 : (ji23) < (l1.length : Int) := of_decide_eq_true (by first | (with_reducible assumption) | assumption)
                            obtain ⟨ad103, e103, hx103_0, hx103_1, hx103_2⟩ := at_T52 HR1.out (ji23) p103 q103
                            obtain rfl : ad101 = ad103 := (by injection e103)
                            replace hx103_0 := (HB.out.cell (World.block_lt_of_cell? w _ hx103_0)).trans hx103_0
                            replace hx103_1 := (HB.out.cell (World.block_lt_of_cell? w _ hx103_1)).trans hx103_1
                            replace hx103_2 := (HB.out.cell (World.block_lt_of_cell? w _ hx103_2)).trans hx103_2
                            replace p103 := eq_true p103
                            replace q103 := eq_true q103
                            go_wp2
                            repeat (go_quiet (fail); try go_wp2)
                            go_ret2
                            exact ⟨_, by first | rfl | (simp [errW_none, errW_some] <;> rfl) | (simp only [← hji23]; first | rfl | (simp [errW_none, errW_some] <;> rfl)) | (simp [*, errW_none, errW_some] <;> rfl), by first | exact Kd.R_nil _ _ _ _ _ | exact Kd.N_nil _ _ _ _ _ | exact Kd.V_nil _ _ _ _ _ | exact Kd.Q_nil _ _ _ _ _ | exact Kd.S_nil _ _ _ _ _, by repeat (first | (with_reducible first | exact HB.out | apply below_alloc | apply pw_below_drewN | apply below_drew1 | refine below_set ?_ GE102.out) | exact HB.out)⟩
                          · rw [if_neg c26] at H
                            have c26b0 : decide (((rd_T52 l1 x15_1).f0) ≤ ((rd_T52 l1 (ji23)).f0)) = false := decide_eq_false c26
                            clear c26
                            obtain ⟨y104, hy104⟩ : ∃ y_ : List (S62), y_ = (([(⟨wrap64 ((wrap64 ((wrap64 (((rd_T52 l1 x15_1).f0) * 2560)) + (wrap64 (((rd_T52 l1 x15_1).f2) * 64)))) + ((rd_T52 l1 x15_1).f1)), a0, 128⟩ : S62), (⟨wrap64 ((wrap64 ((wrap64 ((wrap64 (((rd_T52 l1 x15_1).f0) * 2560)) + (wrap64 (((rd_T52 l1 x15_1).f2) * 64)))) + ((rd_T52 l1 x15_1).f1))) + 1), a0, 0⟩ : S62)] : List (S62))) := ⟨_, rfl⟩
                            replace H : (if x6_1.length + y104.length < 4398046511104 then (keys_Pens.l0 kj6 a0 l1 (x6_1 ++ y104) l1 (l1.length : Int) (wrap64 (x15_1 + 1))) else (none)) = some (r1, r2) := by first | (rw [hy104]; with_reducible exact H) | (have H2_ := (Option.bind_some _ _).symm.trans H; rw [hy104]; with_reducible exact H2_) | (have H2_ := (Option.bind_some _ _).symm.trans H; with_reducible exact H2_) | with_reducible exact H | (rw [hy104]; exact H) | exact H
                            have Ny104 := Aside0.mk hy104
                            clear hy104
                            by_cases c28 : x6_1.length + y104.length < 4398046511104
                            · rw [if_pos c28] at H
                              have LMc28 := Aside0.mk c28
                              clear c28
                              obtain ⟨y107, hy107⟩ : ∃ y_ : List (S62), y_ = (x6_1 ++ y104) := ⟨_, rfl⟩
                              replace H : (keys_Pens.l0 kj6 a0 l1 y107 l1 (l1.length : Int) (wrap64 (x15_1 + 1))) = some (r1, r2) := by first | (rw [hy107]; with_reducible exact H) | (have H2_ := (Option.bind_some _ _).symm.trans H; rw [hy107]; with_reducible exact H2_) | (have H2_ := (Option.bind_some _ _).symm.trans H; with_reducible exact H2_) | with_reducible exact H | (rw [hy107]; exact H) | exact H
                              have Ny107 := Aside0.mk hy107
                              clear hy107
                              have H' := Aside0.mk H
                              clear H
                              have hcz29_0 : wc.cell? ⟨gb102, 0, none⟩ = some (.int .i64 ((rd_T52 l1 x15_1).f0)) := (blk_cell BK102.out 0).trans rfl
                              have hcz29_1 : wc.cell? ⟨gb102, 1, none⟩ = some (.int .i64 ((rd_T52 l1 x15_1).f1)) := (blk_cell BK102.out 1).trans rfl
                              have hcz29_2 : wc.cell? ⟨gb102, 2, none⟩ = some (.int .i64 ((rd_T52 l1 x15_1).f2)) := (blk_cell BK102.out 2).trans rfl
                              have hfz29_0 := blk_frozen BK102.out 0
                              have hfz29_1 := blk_frozen BK102.out 1
                              have hfz29_2 := blk_frozen BK102.out 2
                              have p103 : 0 ≤ ((ji23) : Int) := of_decide_eq_true (by first | (with_reducible assumption) | assumption)
                              have q103 : (ji23) < (l1.length : Int) := of_decide_eq_true (by first | (with_reducible assumption) | assumption)
                              obtain ⟨ad103, e103, hx103_0, hx103_1, hx103_2⟩ := at_T52 HR1.out (ji23) p103 q103
                              obtain rfl : ad101 = ad103 := (by injection e103)
                              replace hx103_0 := (HB.out.cell (World.block_lt_of_cell? w _ hx103_0)).trans hx103_0
                              replace hx103_1 := (HB.out.cell (World.block_lt_of_cell? w _ hx103_1)).trans hx103_1
                              replace hx103_2 := (HB.out.cell (World.block_lt_of_cell? w _ hx103_2)).trans hx103_2
                              replace p103 := eq_true p103
                              replace q103 := eq_true q103
                              go_wp2_with (first | ((with_reducible refine gate_dst (N := 79) rfl ?_); refine Kd.R_lit k62 _ 62 ?hg (N := 79) ?hd (xs := ([(⟨wrap64 ((wrap64 ((wrap64 (((rd_T52 l1 x15_1).f0) * 2560)) + (wrap64 (((rd_T52 l1 x15_1).f2) * 64)))) + ((rd_T52 l1 x15_1).f1)), a0, 128⟩ : S62), (⟨wrap64 ((wrap64 ((wrap64 ((wrap64 (((rd_T52 l1 x15_1).f0) * 2560)) + (wrap64 (((rd_T52 l1 x15_1).f2) * 64)))) + ((rd_T52 l1 x15_1).f1))) + 1), a0, 0⟩ : S62)] : List (S62))) (inner := [.int .i64 (wrap64 ((wrap64 ((wrap64 (((rd_T52 l1 x15_1).f0) * 2560)) + (wrap64 (((rd_T52 l1 x15_1).f2) * 64)))) + ((rd_T52 l1 x15_1).f1))), .string a0, .int .i64 128, .int .i64 (wrap64 ((wrap64 ((wrap64 ((wrap64 (((rd_T52 l1 x15_1).f0) * 2560)) + (wrap64 (((rd_T52 l1 x15_1).f2) * 64)))) + ((rd_T52 l1 x15_1).f1))) + 1)), .string a0, .int .i64 0]) (ok := fun _ => True) (okp := fun _ => True) ?hr ?hp (fun _ hk => hk) trivial (Below.refl _ _) (Nat.le_refl _) (by simp) ?_; (case hd => rfl); (case hg => rfl); (case hr => first | (go_simp; done) | (go_simp; rfl)); (case hp => exact (Reps.c3 (show Kd.M k62 _ _ _ (⟨wrap64 ((wrap64 ((wrap64 (((rd_T52 l1 x15_1).f0) * 2560)) + (wrap64 (((rd_T52 l1 x15_1).f2) * 64)))) + ((rd_T52 l1 x15_1).f1)), a0, 128⟩ : S62) [.int .i64 (wrap64 ((wrap64 ((wrap64 (((rd_T52 l1 x15_1).f0) * 2560)) + (wrap64 (((rd_T52 l1 x15_1).f2) * 64)))) + ((rd_T52 l1 x15_1).f1))), .string a0, .int .i64 128] from (k62_mkM _ _ _ (⟨wrap64 ((wrap64 ((wrap64 (((rd_T52 l1 x15_1).f0) * 2560)) + (wrap64 (((rd_T52 l1 x15_1).f2) * 64)))) + ((rd_T52 l1 x15_1).f1)), a0, 128⟩ : S62) )) (Reps.c3 (show Kd.M k62 _ _ _ (⟨wrap64 ((wrap64 ((wrap64 ((wrap64 (((rd_T52 l1 x15_1).f0) * 2560)) + (wrap64 (((rd_T52 l1 x15_1).f2) * 64)))) + ((rd_T52 l1 x15_1).f1))) + 1), a0, 0⟩ : S62) [.int .i64 (wrap64 ((wrap64 ((wrap64 ((wrap64 (((rd_T52 l1 x15_1).f0) * 2560)) + (wrap64 (((rd_T52 l1 x15_1).f2) * 64)))) + ((rd_T52 l1 x15_1).f1))) + 1)), .string a0, .int .i64 0] from (k62_mkM _ _ _ (⟨wrap64 ((wrap64 ((wrap64 ((wrap64 (((rd_T52 l1 x15_1).f0) * 2560)) + (wrap64 (((rd_T52 l1 x15_1).f2) * 64)))) + ((rd_T52 l1 x15_1).f1))) + 1), a0, 0⟩ : S62) )) (Reps.none _ _)))); intro v105 w30 ho31 hb hg_ hnew_; clear hg_ hnew_; (first | rw [← Ny104.out] at ho31 | (simp only [Int.reduceToNat] at ho31; rw [← Ny104.out] at ho31)); have n0_ := Aside0.mk (Kd.R_elder' (by (with_reducible repeat (first | apply Kd.R_alloc | apply Kd.R_drewN | apply Kd.R_drew)); exact HO_6.out) (Kd.R_base ho31) hb); have n1_ := Aside0.mk (Kd.R_lower (Kd.R_new' ho31 (Kd.R_lt (by (with_reducible repeat (first | apply Kd.R_alloc | apply Kd.R_drewN | apply Kd.R_drew)); exact HO_6.out))) (below_size (by repeat (first | (with_reducible first | exact HB.out | apply below_alloc | apply pw_below_drewN | apply below_drew1 | refine below_set ?_ GE102.out) | exact HB.out)))); have n2_ := Aside0.mk (blk_below (g := gb102) (o := .cells #[.int .i64 ((rd_T52 l1 x15_1).f0), .int .i64 ((rd_T52 l1 x15_1).f1), .int .i64 ((rd_T52 l1 x15_1).f2)] 52 (0, 0)) (by (with_reducible repeat (first | refine blk_drewN ?_ _ | refine blk_drew ?_ | refine blk_alloc ?_ _)); exact BK102.out) hb); have n3_ := Aside0.mk (below_step (by repeat (first | (with_reducible first | exact HB.out | apply below_alloc | apply pw_below_drewN | apply below_drew1 | refine below_set ?_ GE102.out) | exact HB.out)) hb); clear HO_6; clear BK102; clear HB; have HO_6 := n0_; have HO106 := n1_; have BK102 := n2_; have HB := n3_; clear n0_ n1_ n2_ n3_; clear hb ho31; obtain ⟨Ao33, co33, eo33⟩ := Kd.R_slice HO106.out; subst eo33) | ((with_reducible refine gate_builtin (b := .append) (xs := #[.tmp 71, .tmp 79]) rfl ?_); at_builtin; refine Kd.R_append_rows k62 (w0 := w) w.heap.size rfl (.tmp 71) (.tmp 79) 53 62 (.agg #[(.int .i64 0), (.string ⟨#[]⟩), (.int .i64 0)]) 32 rfl Try.underlying53 info62 rfl (by decide) (by omega) u6 x6_1 y104 _ _ _ (fun k_ => some k_ ≠ (.slice Ao33 y104.length co33 : Value).ownBlock) (fun _ => False) rfl rfl ?aO ?aR (fun _ _ h => h) (fun _ h => h.elim) ?aF ?aB ?aS ?aL ?_; (case aR => repeat (first | exact (Kd.R_reads' HO106.out).2.2 | (with_reducible refine Kd.C_alloc ?_ _) | (with_reducible refine Kd.C_drewN ?_ _) | (with_reducible refine Kd.C_drew ?_))); (case aB => exact (by repeat (first | (with_reducible first | exact HB.out | apply below_alloc | apply pw_below_drewN | apply below_drew1 | refine below_set ?_ GE102.out) | exact HB.out))); (case aF => exact (fun k_ hk => Kd.fresh' (Kd.R_lt (by (with_reducible repeat (first | apply Kd.R_alloc | apply Kd.R_drewN | apply Kd.R_drew)); exact HO106.out)) k_ hk)); (case aO => exact (by (with_reducible repeat (first | apply Kd.R_alloc | apply Kd.R_drewN | apply Kd.R_drew)); exact Kd.R_mono HO_6.out (fun _ hk => hk.2))); (case aS => exact (below_size (by repeat (first | (with_reducible first | exact HB.out | apply below_alloc | apply pw_below_drewN | apply below_drew1 | refine below_set ?_ GE102.out) | exact HB.out)))); (case aL => have := LMc28.out; omega); intro v108 w32 ho hb hg hat; rw [← Ny107.out] at ho; have n0_ := Aside0.mk (blk_grown (g := gb102) (o := .cells #[.int .i64 ((rd_T52 l1 x15_1).f0), .int .i64 ((rd_T52 l1 x15_1).f1), .int .i64 ((rd_T52 l1 x15_1).f2)] 52 (0, 0)) (by (with_reducible repeat (first | refine blk_drewN ?_ _ | refine blk_drew ?_ | refine blk_alloc ?_ _)); exact BK102.out) hg (Kd.R_ne HO_6.out BK102.out (by decide))); have n1_ := Aside0.mk (Kd.R_after (ok := (fun _ => True)) (by (with_reducible repeat (first | apply Kd.R_alloc | apply Kd.R_drewN | apply Kd.R_drew)); exact HO106.out) hg hat); have n2_ := Aside0.mk (hb); have n3_ := Aside0.mk (ho); clear BK102; clear HO106; clear HB; clear HO_6; have BK102 := n0_; have HO106 := n1_; have HB := n2_; have HO109 := n3_; clear n0_ n1_ n2_ n3_; clear ho hb hg hat))
                              repeat (go_quiet (first | ((with_reducible refine gate_dst (N := 79) rfl ?_); refine Kd.R_lit k62 _ 62 ?hg (N := 79) ?hd (xs := ([(⟨wrap64 ((wrap64 ((wrap64 (((rd_T52 l1 x15_1).f0) * 2560)) + (wrap64 (((rd_T52 l1 x15_1).f2) * 64)))) + ((rd_T52 l1 x15_1).f1)), a0, 128⟩ : S62), (⟨wrap64 ((wrap64 ((wrap64 ((wrap64 (((rd_T52 l1 x15_1).f0) * 2560)) + (wrap64 (((rd_T52 l1 x15_1).f2) * 64)))) + ((rd_T52 l1 x15_1).f1))) + 1), a0, 0⟩ : S62)] : List (S62))) (inner := [.int .i64 (wrap64 ((wrap64 ((wrap64 (((rd_T52 l1 x15_1).f0) * 2560)) + (wrap64 (((rd_T52 l1 x15_1).f2) * 64)))) + ((rd_T52 l1 x15_1).f1))), .string a0, .int .i64 128, .int .i64 (wrap64 ((wrap64 ((wrap64 ((wrap64 (((rd_T52 l1 x15_1).f0) * 2560)) + (wrap64 (((rd_T52 l1 x15_1).f2) * 64)))) + ((rd_T52 l1 x15_1).f1))) + 1)), .string a0, .int .i64 0]) (ok := fun _ => True) (okp := fun _ => True) ?hr ?hp (fun _ hk => hk) trivial (Below.refl _ _) (Nat.le_refl _) (by simp) ?_; (case hd => rfl); (case hg => rfl); (case hr => first | (go_simp; done) | (go_simp; rfl)); (case hp => exact (Reps.c3 (show Kd.M k62 _ _ _ (⟨wrap64 ((wrap64 ((wrap64 (((rd_T52 l1 x15_1).f0) * 2560)) + (wrap64 (((rd_T52 l1 x15_1).f2) * 64)))) + ((rd_T52 l1 x15_1).f1)), a0, 128⟩ : S62) [.int .i64 (wrap64 ((wrap64 ((wrap64 (((rd_T52 l1 x15_1).f0) * 2560)) + (wrap64 (((rd_T52 l1 x15_1).f2) * 64)))) + ((rd_T52 l1 x15_1).f1))), .string a0, .int .i64 128] from (k62_mkM _ _ _ (⟨wrap64 ((wrap64 ((wrap64 (((rd_T52 l1 x15_1).f0) * 2560)) + (wrap64 (((rd_T52 l1 x15_1).f2) * 64)))) + ((rd_T52 l1 x15_1).f1)), a0, 128⟩ : S62) )) (Reps.c3 (show Kd.M k62 _ _ _ (⟨wrap64 ((wrap64 ((wrap64 ((wrap64 (((rd_T52 l1 x15_1).f0) * 2560)) + (wrap64 (((rd_T52 l1 x15_1).f2) * 64)))) + ((rd_T52 l1 x15_1).f1))) + 1), a0, 0⟩ : S62) [.int .i64 (wrap64 ((wrap64 ((wrap64 ((wrap64 (((rd_T52 l1 x15_1).f0) * 2560)) + (wrap64 (((rd_T52 l1 x15_1).f2) * 64)))) + ((rd_T52 l1 x15_1).f1))) + 1)), .string a0, .int .i64 0] from (k62_mkM _ _ _ (⟨wrap64 ((wrap64 ((wrap64 ((wrap64 (((rd_T52 l1 x15_1).f0) * 2560)) + (wrap64 (((rd_T52 l1 x15_1).f2) * 64)))) + ((rd_T52 l1 x15_1).f1))) + 1), a0, 0⟩ : S62) )) (Reps.none _ _)))); intro v105 w30 ho31 hb hg_ hnew_; clear hg_ hnew_; (first | rw [← Ny104.out] at ho31 | (simp only [Int.reduceToNat] at ho31; rw [← Ny104.out] at ho31)); have n0_ := Aside0.mk (Kd.R_elder' (by (with_reducible repeat (first | apply Kd.R_alloc | apply Kd.R_drewN | apply Kd.R_drew)); exact HO_6.out) (Kd.R_base ho31) hb); have n1_ := Aside0.mk (Kd.R_lower (Kd.R_new' ho31 (Kd.R_lt (by (with_reducible repeat (first | apply Kd.R_alloc | apply Kd.R_drewN | apply Kd.R_drew)); exact HO_6.out))) (below_size (by repeat (first | (with_reducible first | exact HB.out | apply below_alloc | apply pw_below_drewN | apply below_drew1 | refine below_set ?_ GE102.out) | exact HB.out)))); have n2_ := Aside0.mk (blk_below (g := gb102) (o := .cells #[.int .i64 ((rd_T52 l1 x15_1).f0), .int .i64 ((rd_T52 l1 x15_1).f1), .int .i64 ((rd_T52 l1 x15_1).f2)] 52 (0, 0)) (by (with_reducible repeat (first | refine blk_drewN ?_ _ | refine blk_drew ?_ | refine blk_alloc ?_ _)); exact BK102.out) hb); have n3_ := Aside0.mk (below_step (by repeat (first | (with_reducible first | exact HB.out | apply below_alloc | apply pw_below_drewN | apply below_drew1 | refine below_set ?_ GE102.out) | exact HB.out)) hb); clear HO_6; clear BK102; clear HB; have HO_6 := n0_; have HO106 := n1_; have BK102 := n2_; have HB := n3_; clear n0_ n1_ n2_ n3_; clear hb ho31; obtain ⟨Ao33, co33, eo33⟩ := Kd.R_slice HO106.out; subst eo33) | ((with_reducible refine gate_builtin (b := .append) (xs := #[.tmp 71, .tmp 79]) rfl ?_); at_builtin; refine Kd.R_append_rows k62 (w0 := w) w.heap.size rfl (.tmp 71) (.tmp 79) 53 62 (.agg #[(.int .i64 0), (.string ⟨#[]⟩), (.int .i64 0)]) 32 rfl Try.underlying53 info62 rfl (by decide) (by omega) u6 x6_1 y104 _ _ _ (fun k_ => some k_ ≠ (.slice Ao33 y104.length co33 : Value).ownBlock) (fun _ => False) rfl rfl ?aO ?aR (fun _ _ h => h) (fun _ h => h.elim) ?aF ?aB ?aS ?aL ?_; (case aR => repeat (first | exact (Kd.R_reads' HO106.out).2.2 | (with_reducible refine Kd.C_alloc ?_ _) | (with_reducible refine Kd.C_drewN ?_ _) | (with_reducible refine Kd.C_drew ?_))); (case aB => exact (by repeat (first | (with_reducible first | exact HB.out | apply below_alloc | apply pw_below_drewN | apply below_drew1 | refine below_set ?_ GE102.out) | exact HB.out))); (case aF => exact (fun k_ hk => Kd.fresh' (Kd.R_lt (by (with_reducible repeat (first | apply Kd.R_alloc | apply Kd.R_drewN | apply Kd.R_drew)); exact HO106.out)) k_ hk)); (case aO => exact (by (with_reducible repeat (first | apply Kd.R_alloc | apply Kd.R_drewN | apply Kd.R_drew)); exact Kd.R_mono HO_6.out (fun _ hk => hk.2))); (case aS => exact (below_size (by repeat (first | (with_reducible first | exact HB.out | apply below_alloc | apply pw_below_drewN | apply below_drew1 | refine below_set ?_ GE102.out) | exact HB.out)))); (case aL => have := LMc28.out; omega); intro v108 w32 ho hb hg hat; rw [← Ny107.out] at ho; have n0_ := Aside0.mk (blk_grown (g := gb102) (o := .cells #[.int .i64 ((rd_T52 l1 x15_1).f0), .int .i64 ((rd_T52 l1 x15_1).f1), .int .i64 ((rd_T52 l1 x15_1).f2)] 52 (0, 0)) (by (with_reducible repeat (first | refine blk_drewN ?_ _ | refine blk_drew ?_ | refine blk_alloc ?_ _)); exact BK102.out) hg (Kd.R_ne HO_6.out BK102.out (by decide))); have n1_ := Aside0.mk (Kd.R_after (ok := (fun _ => True)) (by (with_reducible repeat (first | apply Kd.R_alloc | apply Kd.R_drewN | apply Kd.R_drew)); exact HO106.out) hg hat); have n2_ := Aside0.mk (hb); have n3_ := Aside0.mk (ho); clear BK102; clear HO106; clear HB; clear HO_6; have BK102 := n0_; have HO106 := n1_; have HB := n2_; have HO109 := n3_; clear n0_ n1_ n2_ n3_; clear ho hb hg hat)); try go_wp2_with (first | ((with_reducible refine gate_dst (N := 79) rfl ?_); refine Kd.R_lit k62 _ 62 ?hg (N := 79) ?hd (xs := ([(⟨wrap64 ((wrap64 ((wrap64 (((rd_T52 l1 x15_1).f0) * 2560)) + (wrap64 (((rd_T52 l1 x15_1).f2) * 64)))) + ((rd_T52 l1 x15_1).f1)), a0, 128⟩ : S62), (⟨wrap64 ((wrap64 ((wrap64 ((wrap64 (((rd_T52 l1 x15_1).f0) * 2560)) + (wrap64 (((rd_T52 l1 x15_1).f2) * 64)))) + ((rd_T52 l1 x15_1).f1))) + 1), a0, 0⟩ : S62)] : List (S62))) (inner := [.int .i64 (wrap64 ((wrap64 ((wrap64 (((rd_T52 l1 x15_1).f0) * 2560)) + (wrap64 (((rd_T52 l1 x15_1).f2) * 64)))) + ((rd_T52 l1 x15_1).f1))), .string a0, .int .i64 128, .int .i64 (wrap64 ((wrap64 ((wrap64 ((wrap64 (((rd_T52 l1 x15_1).f0) * 2560)) + (wrap64 (((rd_T52 l1 x15_1).f2) * 64)))) + ((rd_T52 l1 x15_1).f1))) + 1)), .string a0, .int .i64 0]) (ok := fun _ => True) (okp := fun _ => True) ?hr ?hp (fun _ hk => hk) trivial (Below.refl _ _) (Nat.le_refl _) (by simp) ?_; (case hd => rfl); (case hg => rfl); (case hr => first | (go_simp; done) | (go_simp; rfl)); (case hp => exact (Reps.c3 (show Kd.M k62 _ _ _ (⟨wrap64 ((wrap64 ((wrap64 (((rd_T52 l1 x15_1).f0) * 2560)) + (wrap64 (((rd_T52 l1 x15_1).f2) * 64)))) + ((rd_T52 l1 x15_1).f1)), a0, 128⟩ : S62) [.int .i64 (wrap64 ((wrap64 ((wrap64 (((rd_T52 l1 x15_1).f0) * 2560)) + (wrap64 (((rd_T52 l1 x15_1).f2) * 64)))) + ((rd_T52 l1 x15_1).f1))), .string a0, .int .i64 128] from (k62_mkM _ _ _ (⟨wrap64 ((wrap64 ((wrap64 (((rd_T52 l1 x15_1).f0) * 2560)) + (wrap64 (((rd_T52 l1 x15_1).f2) * 64)))) + ((rd_T52 l1 x15_1).f1)), a0, 128⟩ : S62) )) (Reps.c3 (show Kd.M k62 _ _ _ (⟨wrap64 ((wrap64 ((wrap64 ((wrap64 (((rd_T52 l1 x15_1).f0) * 2560)) + (wrap64 (((rd_T52 l1 x15_1).f2) * 64)))) + ((rd_T52 l1 x15_1).f1))) + 1), a0, 0⟩ : S62) [.int .i64 (wrap64 ((wrap64 ((wrap64 ((wrap64 (((rd_T52 l1 x15_1).f0) * 2560)) + (wrap64 (((rd_T52 l1 x15_1).f2) * 64)))) + ((rd_T52 l1 x15_1).f1))) + 1)), .string a0, .int .i64 0] from (k62_mkM _ _ _ (⟨wrap64 ((wrap64 ((wrap64 ((wrap64 (((rd_T52 l1 x15_1).f0) * 2560)) + (wrap64 (((rd_T52 l1 x15_1).f2) * 64)))) + ((rd_T52 l1 x15_1).f1))) + 1), a0, 0⟩ : S62) )) (Reps.none _ _)))); intro v105 w30 ho31 hb hg_ hnew_; clear hg_ hnew_; (first | rw [← Ny104.out] at ho31 | (simp only [Int.reduceToNat] at ho31; rw [← Ny104.out] at ho31)); have n0_ := Aside0.mk (Kd.R_elder' (by (with_reducible repeat (first | apply Kd.R_alloc | apply Kd.R_drewN | apply Kd.R_drew)); exact HO_6.out) (Kd.R_base ho31) hb); have n1_ := Aside0.mk (Kd.R_lower (Kd.R_new' ho31 (Kd.R_lt (by (with_reducible repeat (first | apply Kd.R_alloc | apply Kd.R_drewN | apply Kd.R_drew)); exact HO_6.out))) (below_size (by repeat (first | (with_reducible first | exact HB.out | apply below_alloc | apply pw_below_drewN | apply below_drew1 | refine below_set ?_ GE102.out) | exact HB.out)))); have n2_ := Aside0.mk (blk_below (g := gb102) (o := .cells #[.int .i64 ((rd_T52 l1 x15_1).f0), .int .i64 ((rd_T52 l1 x15_1).f1), .int .i64 ((rd_T52 l1 x15_1).f2)] 52 (0, 0)) (by (with_reducible repeat (first | refine blk_drewN ?_ _ | refine blk_drew ?_ | refine blk_alloc ?_ _)); exact BK102.out) hb); have n3_ := Aside0.mk (below_step (by repeat (first | (with_reducible first | exact HB.out | apply below_alloc | apply pw_below_drewN | apply below_drew1 | refine below_set ?_ GE102.out) | exact HB.out)) hb); clear HO_6; clear BK102; clear HB; have HO_6 := n0_; have HO106 := n1_; have BK102 := n2_; have HB := n3_; clear n0_ n1_ n2_ n3_; clear hb ho31; obtain ⟨Ao33, co33, eo33⟩ := Kd.R_slice HO106.out; subst eo33) | ((with_reducible refine gate_builtin (b := .append) (xs := #[.tmp 71, .tmp 79]) rfl ?_); at_builtin; refine Kd.R_append_rows k62 (w0 := w) w.heap.size rfl (.tmp 71) (.tmp 79) 53 62 (.agg #[(.int .i64 0), (.string ⟨#[]⟩), (.int .i64 0)]) 32 rfl Try.underlying53 info62 rfl (by decide) (by omega) u6 x6_1 y104 _ _ _ (fun k_ => some k_ ≠ (.slice Ao33 y104.length co33 : Value).ownBlock) (fun _ => False) rfl rfl ?aO ?aR (fun _ _ h => h) (fun _ h => h.elim) ?aF ?aB ?aS ?aL ?_; (case aR => repeat (first | exact (Kd.R_reads' HO106.out).2.2 | (with_reducible refine Kd.C_alloc ?_ _) | (with_reducible refine Kd.C_drewN ?_ _) | (with_reducible refine Kd.C_drew ?_))); (case aB => exact (by repeat (first | (with_reducible first | exact HB.out | apply below_alloc | apply pw_below_drewN | apply below_drew1 | refine below_set ?_ GE102.out) | exact HB.out))); (case aF => exact (fun k_ hk => Kd.fresh' (Kd.R_lt (by (with_reducible repeat (first | apply Kd.R_alloc | apply Kd.R_drewN | apply Kd.R_drew)); exact HO106.out)) k_ hk)); (case aO => exact (by (with_reducible repeat (first | apply Kd.R_alloc | apply Kd.R_drewN | apply Kd.R_drew)); exact Kd.R_mono HO_6.out (fun _ hk => hk.2))); (case aS => exact (below_size (by repeat (first | (with_reducible first | exact HB.out | apply below_alloc | apply pw_below_drewN | apply below_drew1 | refine below_set ?_ GE102.out) | exact HB.out)))); (case aL => have := LMc28.out; omega); intro v108 w32 ho hb hg hat; rw [← Ny107.out] at ho; have n0_ := Aside0.mk (blk_grown (g := gb102) (o := .cells #[.int .i64 ((rd_T52 l1 x15_1).f0), .int .i64 ((rd_T52 l1 x15_1).f1), .int .i64 ((rd_T52 l1 x15_1).f2)] 52 (0, 0)) (by (with_reducible repeat (first | refine blk_drewN ?_ _ | refine blk_drew ?_ | refine blk_alloc ?_ _)); exact BK102.out) hg (Kd.R_ne HO_6.out BK102.out (by decide))); have n1_ := Aside0.mk (Kd.R_after (ok := (fun _ => True)) (by (with_reducible repeat (first | apply Kd.R_alloc | apply Kd.R_drewN | apply Kd.R_drew)); exact HO106.out) hg hat); have n2_ := Aside0.mk (hb); have n3_ := Aside0.mk (ho); clear BK102; clear HO106; clear HB; clear HO_6; have BK102 := n0_; have HO106 := n1_; have HB := n2_; have HO109 := n3_; clear n0_ n1_ n2_ n3_; clear ho hb hg hat)))
                              go_roundg kj6
                              case measure => have := HK1.out; have := HJ6.out; omega
                              case rel => exact ⟨(y107), (wrap64 (x15_1 + 1)), (by first | rfl | (simp; done) | (simp [*]; done)), H', ⟨by have := HK1.out; have := HJ6.out; omega⟩, ⟨by (with_reducible repeat (first | apply Kd.R_alloc | apply Kd.R_drewN | apply Kd.R_drew)); exact Kd.R_mono HO109.out (fun _ hk => trivial)⟩, ⟨by repeat (first | (with_reducible first | exact HB.out | apply below_alloc | apply pw_below_drewN | apply below_drew1 | refine below_set ?_ GE102.out) | exact HB.out)⟩⟩
                            · rw [if_neg c28] at H
                              exact absurd H (by simp)
                        · rw [if_neg c25] at H
                          exact absurd H (by simp)
                      · rw [if_neg c24] at H
                        exact absurd H (by simp)
                    · rw [if_neg c22] at H
                      have c22b0 : decide (0 < x15_1) = false := decide_eq_false c22
                      clear c22
                      obtain ⟨y110, hy110⟩ : ∃ y_ : List (S62), y_ = (([(⟨wrap64 ((wrap64 ((wrap64 (((rd_T52 l1 x15_1).f0) * 2560)) + (wrap64 (((rd_T52 l1 x15_1).f2) * 64)))) + ((rd_T52 l1 x15_1).f1)), a0, 128⟩ : S62), (⟨wrap64 ((wrap64 ((wrap64 ((wrap64 (((rd_T52 l1 x15_1).f0) * 2560)) + (wrap64 (((rd_T52 l1 x15_1).f2) * 64)))) + ((rd_T52 l1 x15_1).f1))) + 1), a0, 0⟩ : S62)] : List (S62))) := ⟨_, rfl⟩
                      replace H : (if x6_1.length + y110.length < 4398046511104 then (keys_Pens.l0 kj6 a0 l1 (x6_1 ++ y110) l1 (l1.length : Int) (wrap64 (x15_1 + 1))) else (none)) = some (r1, r2) := by first | (rw [hy110]; with_reducible exact H) | (have H2_ := (Option.bind_some _ _).symm.trans H; rw [hy110]; with_reducible exact H2_) | (have H2_ := (Option.bind_some _ _).symm.trans H; with_reducible exact H2_) | with_reducible exact H | (rw [hy110]; exact H) | exact H
                      have Ny110 := Aside0.mk hy110
                      clear hy110
                      by_cases c34 : x6_1.length + y110.length < 4398046511104
                      · rw [if_pos c34] at H
                        have LMc34 := Aside0.mk c34
                        clear c34
                        obtain ⟨y113, hy113⟩ : ∃ y_ : List (S62), y_ = (x6_1 ++ y110) := ⟨_, rfl⟩
                        replace H : (keys_Pens.l0 kj6 a0 l1 y113 l1 (l1.length : Int) (wrap64 (x15_1 + 1))) = some (r1, r2) := by first | (rw [hy113]; with_reducible exact H) | (have H2_ := (Option.bind_some _ _).symm.trans H; rw [hy113]; with_reducible exact H2_) | (have H2_ := (Option.bind_some _ _).symm.trans H; with_reducible exact H2_) | with_reducible exact H | (rw [hy113]; exact H) | exact H
                        have Ny113 := Aside0.mk hy113
                        clear hy113
                        have H' := Aside0.mk H
                        clear H
                        have hcz35_0 : wc.cell? ⟨gb102, 0, none⟩ = some (.int .i64 ((rd_T52 l1 x15_1).f0)) := (blk_cell BK102.out 0).trans rfl
                        have hcz35_1 : wc.cell? ⟨gb102, 1, none⟩ = some (.int .i64 ((rd_T52 l1 x15_1).f1)) := (blk_cell BK102.out 1).trans rfl
                        have hcz35_2 : wc.cell? ⟨gb102, 2, none⟩ = some (.int .i64 ((rd_T52 l1 x15_1).f2)) := (blk_cell BK102.out 2).trans rfl
                        have hfz35_0 := blk_frozen BK102.out 0
                        have hfz35_1 := blk_frozen BK102.out 1
                        have hfz35_2 := blk_frozen BK102.out 2
                        go_wp2_with (first | ((with_reducible refine gate_dst (N := 79) rfl ?_); refine Kd.R_lit k62 _ 62 ?hg (N := 79) ?hd (xs := ([(⟨wrap64 ((wrap64 ((wrap64 (((rd_T52 l1 x15_1).f0) * 2560)) + (wrap64 (((rd_T52 l1 x15_1).f2) * 64)))) + ((rd_T52 l1 x15_1).f1)), a0, 128⟩ : S62), (⟨wrap64 ((wrap64 ((wrap64 ((wrap64 (((rd_T52 l1 x15_1).f0) * 2560)) + (wrap64 (((rd_T52 l1 x15_1).f2) * 64)))) + ((rd_T52 l1 x15_1).f1))) + 1), a0, 0⟩ : S62)] : List (S62))) (inner := [.int .i64 (wrap64 ((wrap64 ((wrap64 (((rd_T52 l1 x15_1).f0) * 2560)) + (wrap64 (((rd_T52 l1 x15_1).f2) * 64)))) + ((rd_T52 l1 x15_1).f1))), .string a0, .int .i64 128, .int .i64 (wrap64 ((wrap64 ((wrap64 ((wrap64 (((rd_T52 l1 x15_1).f0) * 2560)) + (wrap64 (((rd_T52 l1 x15_1).f2) * 64)))) + ((rd_T52 l1 x15_1).f1))) + 1)), .string a0, .int .i64 0]) (ok := fun _ => True) (okp := fun _ => True) ?hr ?hp (fun _ hk => hk) trivial (Below.refl _ _) (Nat.le_refl _) (by simp) ?_; (case hd => rfl); (case hg => rfl); (case hr => first | (go_simp; done) | (go_simp; rfl)); (case hp => exact (Reps.c3 (show Kd.M k62 _ _ _ (⟨wrap64 ((wrap64 ((wrap64 (((rd_T52 l1 x15_1).f0) * 2560)) + (wrap64 (((rd_T52 l1 x15_1).f2) * 64)))) + ((rd_T52 l1 x15_1).f1)), a0, 128⟩ : S62) [.int .i64 (wrap64 ((wrap64 ((wrap64 (((rd_T52 l1 x15_1).f0) * 2560)) + (wrap64 (((rd_T52 l1 x15_1).f2) * 64)))) + ((rd_T52 l1 x15_1).f1))), .string a0, .int .i64 128] from (k62_mkM _ _ _ (⟨wrap64 ((wrap64 ((wrap64 (((rd_T52 l1 x15_1).f0) * 2560)) + (wrap64 (((rd_T52 l1 x15_1).f2) * 64)))) + ((rd_T52 l1 x15_1).f1)), a0, 128⟩ : S62) )) (Reps.c3 (show Kd.M k62 _ _ _ (⟨wrap64 ((wrap64 ((wrap64 ((wrap64 (((rd_T52 l1 x15_1).f0) * 2560)) + (wrap64 (((rd_T52 l1 x15_1).f2) * 64)))) + ((rd_T52 l1 x15_1).f1))) + 1), a0, 0⟩ : S62) [.int .i64 (wrap64 ((wrap64 ((wrap64 ((wrap64 (((rd_T52 l1 x15_1).f0) * 2560)) + (wrap64 (((rd_T52 l1 x15_1).f2) * 64)))) + ((rd_T52 l1 x15_1).f1))) + 1)), .string a0, .int .i64 0] from (k62_mkM _ _ _ (⟨wrap64 ((wrap64 ((wrap64 ((wrap64 (((rd_T52 l1 x15_1).f0) * 2560)) + (wrap64 (((rd_T52 l1 x15_1).f2) * 64)))) + ((rd_T52 l1 x15_1).f1))) + 1), a0, 0⟩ : S62) )) (Reps.none _ _)))); intro v111 w36 ho37 hb hg_ hnew_; clear hg_ hnew_; (first | rw [← Ny110.out] at ho37 | (simp only [Int.reduceToNat] at ho37; rw [← Ny110.out] at ho37)); have n0_ := Aside0.mk (Kd.R_elder' (by (with_reducible repeat (first | apply Kd.R_alloc | apply Kd.R_drewN | apply Kd.R_drew)); exact HO_6.out) (Kd.R_base ho37) hb); have n1_ := Aside0.mk (Kd.R_lower (Kd.R_new' ho37 (Kd.R_lt (by (with_reducible repeat (first | apply Kd.R_alloc | apply Kd.R_drewN | apply Kd.R_drew)); exact HO_6.out))) (below_size (by repeat (first | (with_reducible first | exact HB.out | apply below_alloc | apply pw_below_drewN | apply below_drew1 | refine below_set ?_ GE102.out) | exact HB.out)))); have n2_ := Aside0.mk (blk_below (g := gb102) (o := .cells #[.int .i64 ((rd_T52 l1 x15_1).f0), .int .i64 ((rd_T52 l1 x15_1).f1), .int .i64 ((rd_T52 l1 x15_1).f2)] 52 (0, 0)) (by (with_reducible repeat (first | refine blk_drewN ?_ _ | refine blk_drew ?_ | refine blk_alloc ?_ _)); exact BK102.out) hb); have n3_ := Aside0.mk (below_step (by repeat (first | (with_reducible first | exact HB.out | apply below_alloc | apply pw_below_drewN | apply below_drew1 | refine below_set ?_ GE102.out) | exact HB.out)) hb); clear HO_6; clear BK102; clear HB; have HO_6 := n0_; have HO112 := n1_; have BK102 := n2_; have HB := n3_; clear n0_ n1_ n2_ n3_; clear hb ho37; obtain ⟨Ao39, co39, eo39⟩ := Kd.R_slice HO112.out; subst eo39) | ((with_reducible refine gate_builtin (b := .append) (xs := #[.tmp 71, .tmp 79]) rfl ?_); at_builtin; refine Kd.R_append_rows k62 (w0 := w) w.heap.size rfl (.tmp 71) (.tmp 79) 53 62 (.agg #[(.int .i64 0), (.string ⟨#[]⟩), (.int .i64 0)]) 32 rfl Try.underlying53 info62 rfl (by decide) (by omega) u6 x6_1 y110 _ _ _ (fun k_ => some k_ ≠ (.slice Ao39 y110.length co39 : Value).ownBlock) (fun _ => False) rfl rfl ?aO ?aR (fun _ _ h => h) (fun _ h => h.elim) ?aF ?aB ?aS ?aL ?_; (case aR => repeat (first | exact (Kd.R_reads' HO112.out).2.2 | (with_reducible refine Kd.C_alloc ?_ _) | (with_reducible refine Kd.C_drewN ?_ _) | (with_reducible refine Kd.C_drew ?_))); (case aB => exact (by repeat (first | (with_reducible first | exact HB.out | apply below_alloc | apply pw_below_drewN | apply below_drew1 | refine below_set ?_ GE102.out) | exact HB.out))); (case aF => exact (fun k_ hk => Kd.fresh' (Kd.R_lt (by (with_reducible repeat (first | apply Kd.R_alloc | apply Kd.R_drewN | apply Kd.R_drew)); exact HO112.out)) k_ hk)); (case aO => exact (by (with_reducible repeat (first | apply Kd.R_alloc | apply Kd.R_drewN | apply Kd.R_drew)); exact Kd.R_mono HO_6.out (fun _ hk => hk.2))); (case aS => exact (below_size (by repeat (first | (with_reducible first | exact HB.out | apply below_alloc | apply pw_below_drewN | apply below_drew1 | refine below_set ?_ GE102.out) | exact HB.out)))); (case aL => have := LMc34.out; omega); intro v114 w38 ho hb hg hat; rw [← Ny113.out] at ho; have n0_ := Aside0.mk (blk_grown (g := gb102) (o := .cells #[.int .i64 ((rd_T52 l1 x15_1).f0), .int .i64 ((rd_T52 l1 x15_1).f1), .int .i64 ((rd_T52 l1 x15_1).f2)] 52 (0, 0)) (by (with_reducible repeat (first | refine blk_drewN ?_ _ | refine blk_drew ?_ | refine blk_alloc ?_ _)); exact BK102.out) hg (Kd.R_ne HO_6.out BK102.out (by decide))); have n1_ := Aside0.mk (Kd.R_after (ok := (fun _ => True)) (by (with_reducible repeat (first | apply Kd.R_alloc | apply Kd.R_drewN | apply Kd.R_drew)); exact HO112.out) hg hat); have n2_ := Aside0.mk (hb); have n3_ := Aside0.mk (ho); clear BK102; clear HO112; clear HB; clear HO_6; have BK102 := n0_; have HO112 := n1_; have HB := n2_; have HO115 := n3_; clear n0_ n1_ n2_ n3_; clear ho hb hg hat))
                        repeat (go_quiet (first | ((with_reducible refine gate_dst (N := 79) rfl ?_); refine Kd.R_lit k62 _ 62 ?hg (N := 79) ?hd (xs := ([(⟨wrap64 ((wrap64 ((wrap64 (((rd_T52 l1 x15_1).f0) * 2560)) + (wrap64 (((rd_T52 l1 x15_1).f2) * 64)))) + ((rd_T52 l1 x15_1).f1)), a0, 128⟩ : S62), (⟨wrap64 ((wrap64 ((wrap64 ((wrap64 (((rd_T52 l1 x15_1).f0) * 2560)) + (wrap64 (((rd_T52 l1 x15_1).f2) * 64)))) + ((rd_T52 l1 x15_1).f1))) + 1), a0, 0⟩ : S62)] : List (S62))) (inner := [.int .i64 (wrap64 ((wrap64 ((wrap64 (((rd_T52 l1 x15_1).f0) * 2560)) + (wrap64 (((rd_T52 l1 x15_1).f2) * 64)))) + ((rd_T52 l1 x15_1).f1))), .string a0, .int .i64 128, .int .i64 (wrap64 ((wrap64 ((wrap64 ((wrap64 (((rd_T52 l1 x15_1).f0) * 2560)) + (wrap64 (((rd_T52 l1 x15_1).f2) * 64)))) + ((rd_T52 l1 x15_1).f1))) + 1)), .string a0, .int .i64 0]) (ok := fun _ => True) (okp := fun _ => True) ?hr ?hp (fun _ hk => hk) trivial (Below.refl _ _) (Nat.le_refl _) (by simp) ?_; (case hd => rfl); (case hg => rfl); (case hr => first | (go_simp; done) | (go_simp; rfl)); (case hp => exact (Reps.c3 (show Kd.M k62 _ _ _ (⟨wrap64 ((wrap64 ((wrap64 (((rd_T52 l1 x15_1).f0) * 2560)) + (wrap64 (((rd_T52 l1 x15_1).f2) * 64)))) + ((rd_T52 l1 x15_1).f1)), a0, 128⟩ : S62) [.int .i64 (wrap64 ((wrap64 ((wrap64 (((rd_T52 l1 x15_1).f0) * 2560)) + (wrap64 (((rd_T52 l1 x15_1).f2) * 64)))) + ((rd_T52 l1 x15_1).f1))), .string a0, .int .i64 128] from (k62_mkM _ _ _ (⟨wrap64 ((wrap64 ((wrap64 (((rd_T52 l1 x15_1).f0) * 2560)) + (wrap64 (((rd_T52 l1 x15_1).f2) * 64)))) + ((rd_T52 l1 x15_1).f1)), a0, 128⟩ : S62) )) (Reps.c3 (show Kd.M k62 _ _ _ (⟨wrap64 ((wrap64 ((wrap64 ((wrap64 (((rd_T52 l1 x15_1).f0) * 2560)) + (wrap64 (((rd_T52 l1 x15_1).f2) * 64)))) + ((rd_T52 l1 x15_1).f1))) + 1), a0, 0⟩ : S62) [.int .i64 (wrap64 ((wrap64 ((wrap64 ((wrap64 (((rd_T52 l1 x15_1).f0) * 2560)) + (wrap64 (((rd_T52 l1 x15_1).f2) * 64)))) + ((rd_T52 l1 x15_1).f1))) + 1)), .string a0, .int .i64 0] from (k62_mkM _ _ _ (⟨wrap64 ((wrap64 ((wrap64 ((wrap64 (((rd_T52 l1 x15_1).f0) * 2560)) + (wrap64 (((rd_T52 l1 x15_1).f2) * 64)))) + ((rd_T52 l1 x15_1).f1))) + 1), a0, 0⟩ : S62) )) (Reps.none _ _)))); intro v111 w36 ho37 hb hg_ hnew_; clear hg_ hnew_; (first | rw [← Ny110.out] at ho37 | (simp only [Int.reduceToNat] at ho37; rw [← Ny110.out] at ho37)); have n0_ := Aside0.mk (Kd.R_elder' (by (with_reducible repeat (first | apply Kd.R_alloc | apply Kd.R_drewN | apply Kd.R_drew)); exact HO_6.out) (Kd.R_base ho37) hb); have n1_ := Aside0.mk (Kd.R_lower (Kd.R_new' ho37 (Kd.R_lt (by (with_reducible repeat (first | apply Kd.R_alloc | apply Kd.R_drewN | apply Kd.R_drew)); exact HO_6.out))) (below_size (by repeat (first | (with_reducible first | exact HB.out | apply below_alloc | apply pw_below_drewN | apply below_drew1 | refine below_set ?_ GE102.out) | exact HB.out)))); have n2_ := Aside0.mk (blk_below (g := gb102) (o := .cells #[.int .i64 ((rd_T52 l1 x15_1).f0), .int .i64 ((rd_T52 l1 x15_1).f1), .int .i64 ((rd_T52 l1 x15_1).f2)] 52 (0, 0)) (by (with_reducible repeat (first | refine blk_drewN ?_ _ | refine blk_drew ?_ | refine blk_alloc ?_ _)); exact BK102.out) hb); have n3_ := Aside0.mk (below_step (by repeat (first | (with_reducible first | exact HB.out | apply below_alloc | apply pw_below_drewN | apply below_drew1 | refine below_set ?_ GE102.out) | exact HB.out)) hb); clear HO_6; clear BK102; clear HB; have HO_6 := n0_; have HO112 := n1_; have BK102 := n2_; have HB := n3_; clear n0_ n1_ n2_ n3_; clear hb ho37; obtain ⟨Ao39, co39, eo39⟩ := Kd.R_slice HO112.out; subst eo39) | ((with_reducible refine gate_builtin (b := .append) (xs := #[.tmp 71, .tmp 79]) rfl ?_); at_builtin; refine Kd.R_append_rows k62 (w0 := w) w.heap.size rfl (.tmp 71) (.tmp 79) 53 62 (.agg #[(.int .i64 0), (.string ⟨#[]⟩), (.int .i64 0)]) 32 rfl Try.underlying53 info62 rfl (by decide) (by omega) u6 x6_1 y110 _ _ _ (fun k_ => some k_ ≠ (.slice Ao39 y110.length co39 : Value).ownBlock) (fun _ => False) rfl rfl ?aO ?aR (fun _ _ h => h) (fun _ h => h.elim) ?aF ?aB ?aS ?aL ?_; (case aR => repeat (first | exact (Kd.R_reads' HO112.out).2.2 | (with_reducible refine Kd.C_alloc ?_ _) | (with_reducible refine Kd.C_drewN ?_ _) | (with_reducible refine Kd.C_drew ?_))); (case aB => exact (by repeat (first | (with_reducible first | exact HB.out | apply below_alloc | apply pw_below_drewN | apply below_drew1 | refine below_set ?_ GE102.out) | exact HB.out))); (case aF => exact (fun k_ hk => Kd.fresh' (Kd.R_lt (by (with_reducible repeat (first | apply Kd.R_alloc | apply Kd.R_drewN | apply Kd.R_drew)); exact HO112.out)) k_ hk)); (case aO => exact (by (with_reducible repeat (first | apply Kd.R_alloc | apply Kd.R_drewN | apply Kd.R_drew)); exact Kd.R_mono HO_6.out (fun _ hk => hk.2))); (case aS => exact (below_size (by repeat (first | (with_reducible first | exact HB.out | apply below_alloc | apply pw_below_drewN | apply below_drew1 | refine below_set ?_ GE102.out) | exact HB.out)))); (case aL => have := LMc34.out; omega); intro v114 w38 ho hb hg hat; rw [← Ny113.out] at ho; have n0_ := Aside0.mk (blk_grown (g := gb102) (o := .cells #[.int .i64 ((rd_T52 l1 x15_1).f0), .int .i64 ((rd_T52 l1 x15_1).f1), .int .i64 ((rd_T52 l1 x15_1).f2)] 52 (0, 0)) (by (with_reducible repeat (first | refine blk_drewN ?_ _ | refine blk_drew ?_ | refine blk_alloc ?_ _)); exact BK102.out) hg (Kd.R_ne HO_6.out BK102.out (by decide))); have n1_ := Aside0.mk (Kd.R_after (ok := (fun _ => True)) (by (with_reducible repeat (first | apply Kd.R_alloc | apply Kd.R_drewN | apply Kd.R_drew)); exact HO112.out) hg hat); have n2_ := Aside0.mk (hb); have n3_ := Aside0.mk (ho); clear BK102; clear HO112; clear HB; clear HO_6; have BK102 := n0_; have HO112 := n1_; have HB := n2_; have HO115 := n3_; clear n0_ n1_ n2_ n3_; clear ho hb hg hat)); try go_wp2_with (first | ((with_reducible refine gate_dst (N := 79) rfl ?_); refine Kd.R_lit k62 _ 62 ?hg (N := 79) ?hd (xs := ([(⟨wrap64 ((wrap64 ((wrap64 (((rd_T52 l1 x15_1).f0) * 2560)) + (wrap64 (((rd_T52 l1 x15_1).f2) * 64)))) + ((rd_T52 l1 x15_1).f1)), a0, 128⟩ : S62), (⟨wrap64 ((wrap64 ((wrap64 ((wrap64 (((rd_T52 l1 x15_1).f0) * 2560)) + (wrap64 (((rd_T52 l1 x15_1).f2) * 64)))) + ((rd_T52 l1 x15_1).f1))) + 1), a0, 0⟩ : S62)] : List (S62))) (inner := [.int .i64 (wrap64 ((wrap64 ((wrap64 (((rd_T52 l1 x15_1).f0) * 2560)) + (wrap64 (((rd_T52 l1 x15_1).f2) * 64)))) + ((rd_T52 l1 x15_1).f1))), .string a0, .int .i64 128, .int .i64 (wrap64 ((wrap64 ((wrap64 ((wrap64 (((rd_T52 l1 x15_1).f0) * 2560)) + (wrap64 (((rd_T52 l1 x15_1).f2) * 64)))) + ((rd_T52 l1 x15_1).f1))) + 1)), .string a0, .int .i64 0]) (ok := fun _ => True) (okp := fun _ => True) ?hr ?hp (fun _ hk => hk) trivial (Below.refl _ _) (Nat.le_refl _) (by simp) ?_; (case hd => rfl); (case hg => rfl); (case hr => first | (go_simp; done) | (go_simp; rfl)); (case hp => exact (Reps.c3 (show Kd.M k62 _ _ _ (⟨wrap64 ((wrap64 ((wrap64 (((rd_T52 l1 x15_1).f0) * 2560)) + (wrap64 (((rd_T52 l1 x15_1).f2) * 64)))) + ((rd_T52 l1 x15_1).f1)), a0, 128⟩ : S62) [.int .i64 (wrap64 ((wrap64 ((wrap64 (((rd_T52 l1 x15_1).f0) * 2560)) + (wrap64 (((rd_T52 l1 x15_1).f2) * 64)))) + ((rd_T52 l1 x15_1).f1))), .string a0, .int .i64 128] from (k62_mkM _ _ _ (⟨wrap64 ((wrap64 ((wrap64 (((rd_T52 l1 x15_1).f0) * 2560)) + (wrap64 (((rd_T52 l1 x15_1).f2) * 64)))) + ((rd_T52 l1 x15_1).f1)), a0, 128⟩ : S62) )) (Reps.c3 (show Kd.M k62 _ _ _ (⟨wrap64 ((wrap64 ((wrap64 ((wrap64 (((rd_T52 l1 x15_1).f0) * 2560)) + (wrap64 (((rd_T52 l1 x15_1).f2) * 64)))) + ((rd_T52 l1 x15_1).f1))) + 1), a0, 0⟩ : S62) [.int .i64 (wrap64 ((wrap64 ((wrap64 ((wrap64 (((rd_T52 l1 x15_1).f0) * 2560)) + (wrap64 (((rd_T52 l1 x15_1).f2) * 64)))) + ((rd_T52 l1 x15_1).f1))) + 1)), .string a0, .int .i64 0] from (k62_mkM _ _ _ (⟨wrap64 ((wrap64 ((wrap64 ((wrap64 (((rd_T52 l1 x15_1).f0) * 2560)) + (wrap64 (((rd_T52 l1 x15_1).f2) * 64)))) + ((rd_T52 l1 x15_1).f1))) + 1), a0, 0⟩ : S62) )) (Reps.none _ _)))); intro v111 w36 ho37 hb hg_ hnew_; clear hg_ hnew_; (first | rw [← Ny110.out] at ho37 | (simp only [Int.reduceToNat] at ho37; rw [← Ny110.out] at ho37)); have n0_ := Aside0.mk (Kd.R_elder' (by (with_reducible repeat (first | apply Kd.R_alloc | apply Kd.R_drewN | apply Kd.R_drew)); exact HO_6.out) (Kd.R_base ho37) hb); have n1_ := Aside0.mk (Kd.R_lower (Kd.R_new' ho37 (Kd.R_lt (by (with_reducible repeat (first | apply Kd.R_alloc | apply Kd.R_drewN | apply Kd.R_drew)); exact HO_6.out))) (below_size (by repeat (first | (with_reducible first | exact HB.out | apply below_alloc | apply pw_below_drewN | apply below_drew1 | refine below_set ?_ GE102.out) | exact HB.out)))); have n2_ := Aside0.mk (blk_below (g := gb102) (o := .cells #[.int .i64 ((rd_T52 l1 x15_1).f0), .int .i64 ((rd_T52 l1 x15_1).f1), .int .i64 ((rd_T52 l1 x15_1).f2)] 52 (0, 0)) (by (with_reducible repeat (first | refine blk_drewN ?_ _ | refine blk_drew ?_ | refine blk_alloc ?_ _)); exact BK102.out) hb); have n3_ := Aside0.mk (below_step (by repeat (first | (with_reducible first | exact HB.out | apply below_alloc | apply pw_below_drewN | apply below_drew1 | refine below_set ?_ GE102.out) | exact HB.out)) hb); clear HO_6; clear BK102; clear HB; have HO_6 := n0_; have HO112 := n1_; have BK102 := n2_; have HB := n3_; clear n0_ n1_ n2_ n3_; clear hb ho37; obtain ⟨Ao39, co39, eo39⟩ := Kd.R_slice HO112.out; subst eo39) | ((with_reducible refine gate_builtin (b := .append) (xs := #[.tmp 71, .tmp 79]) rfl ?_); at_builtin; refine Kd.R_append_rows k62 (w0 := w) w.heap.size rfl (.tmp 71) (.tmp 79) 53 62 (.agg #[(.int .i64 0), (.string ⟨#[]⟩), (.int .i64 0)]) 32 rfl Try.underlying53 info62 rfl (by decide) (by omega) u6 x6_1 y110 _ _ _ (fun k_ => some k_ ≠ (.slice Ao39 y110.length co39 : Value).ownBlock) (fun _ => False) rfl rfl ?aO ?aR (fun _ _ h => h) (fun _ h => h.elim) ?aF ?aB ?aS ?aL ?_; (case aR => repeat (first | exact (Kd.R_reads' HO112.out).2.2 | (with_reducible refine Kd.C_alloc ?_ _) | (with_reducible refine Kd.C_drewN ?_ _) | (with_reducible refine Kd.C_drew ?_))); (case aB => exact (by repeat (first | (with_reducible first | exact HB.out | apply below_alloc | apply pw_below_drewN | apply below_drew1 | refine below_set ?_ GE102.out) | exact HB.out))); (case aF => exact (fun k_ hk => Kd.fresh' (Kd.R_lt (by (with_reducible repeat (first | apply Kd.R_alloc | apply Kd.R_drewN | apply Kd.R_drew)); exact HO112.out)) k_ hk)); (case aO => exact (by (with_reducible repeat (first | apply Kd.R_alloc | apply Kd.R_drewN | apply Kd.R_drew)); exact Kd.R_mono HO_6.out (fun _ hk => hk.2))); (case aS => exact (below_size (by repeat (first | (with_reducible first | exact HB.out | apply below_alloc | apply pw_below_drewN | apply below_drew1 | refine below_set ?_ GE102.out) | exact HB.out)))); (case aL => have := LMc34.out; omega); intro v114 w38 ho hb hg hat; rw [← Ny113.out] at ho; have n0_ := Aside0.mk (blk_grown (g := gb102) (o := .cells #[.int .i64 ((rd_T52 l1 x15_1).f0), .int .i64 ((rd_T52 l1 x15_1).f1), .int .i64 ((rd_T52 l1 x15_1).f2)] 52 (0, 0)) (by (with_reducible repeat (first | refine blk_drewN ?_ _ | refine blk_drew ?_ | refine blk_alloc ?_ _)); exact BK102.out) hg (Kd.R_ne HO_6.out BK102.out (by decide))); have n1_ := Aside0.mk (Kd.R_after (ok := (fun _ => True)) (by (with_reducible repeat (first | apply Kd.R_alloc | apply Kd.R_drewN | apply Kd.R_drew)); exact HO112.out) hg hat); have n2_ := Aside0.mk (hb); have n3_ := Aside0.mk (ho); clear BK102; clear HO112; clear HB; clear HO_6; have BK102 := n0_; have HO112 := n1_; have HB := n2_; have HO115 := n3_; clear n0_ n1_ n2_ n3_; clear ho hb hg hat)))
                        go_roundg kj6
                        case measure => have := HK1.out; have := HJ6.out; omega
                        case rel => exact ⟨(y113), (wrap64 (x15_1 + 1)), (by first | rfl | (simp; done) | (simp [*]; done)), H', ⟨by have := HK1.out; have := HJ6.out; omega⟩, ⟨by (with_reducible repeat (first | apply Kd.R_alloc | apply Kd.R_drewN | apply Kd.R_drew)); exact Kd.R_mono HO115.out (fun _ hk => trivial)⟩, ⟨by repeat (first | (with_reducible first | exact HB.out | apply below_alloc | apply pw_below_drewN | apply below_drew1 | refine below_set ?_ GE102.out) | exact HB.out)⟩⟩
                      · rw [if_neg c34] at H
                        exact absurd H (by simp)
            · rw [if_neg c6] at H
              exact absurd H (by simp)
          · rw [if_neg c5] at H
            exact absurd H (by simp)
        · rw [if_neg c4] at H
          have c4b0 : decide (x15_1 < (l1.length : Int)) = false := decide_eq_false c4
          clear c4
          simp only [Option.some.injEq, Prod.mk.injEq] at H
          obtain ⟨rfl, rfl⟩ := H
          go_wp2
          repeat (go_quiet (fail); try go_wp2)
          go_ret2
          exact ⟨_, by first | rfl | (simp [errW_none, errW_some] <;> rfl) | (simp [*, errW_none, errW_some] <;> rfl), by (with_reducible repeat (first | apply Kd.R_alloc | apply Kd.R_drewN | apply Kd.R_drew)); exact HO_6.out, by repeat (first | (with_reducible first | exact HB.out | apply below_alloc | apply pw_below_drewN | apply below_drew1) | exact HB.out)⟩

end Go.Proofs.Ytcicoedgjoploaa.PK
