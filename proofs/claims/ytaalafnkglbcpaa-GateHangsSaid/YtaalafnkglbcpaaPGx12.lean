-- An own text of this claim, written by wip/tools/surro.py over the kit's print.
import Derived.Test.YtaalafnkglbcpaaPGx0
namespace Go.Proofs.Ytaalafnkglbcpaa.PG
open Go.RowKit Go.Proofs.YtaalafnkglbcpaaW.PrintWords Go.Proofs.YtaalafnkglbcpaaW.PrintLast Go.Proofs.YtaalafnkglbcpaaW.PrintMore
attribute [local go_sem] max2_int min2_int max_two min_two max_three min_three max_four min_four   -- for this text's walks alone
set_option linter.unusedVariables false
set_option linter.unusedSimpArgs false

/-! ### gate_values: function 47 -/
def gate_values.l0 : Nat → Int → Int → List Int → List (S50) → Int → Int → Option (List Int)
  | 0, _, _, _, _, _, _ => none
  | k + 1, x1, x2, x7, x15, x16, x17 => if x17 < x16 then (if 0 ≤ x17 then (if x17 < (x15.length : Int) then (if ((rd_T50 x15 x17).f0) = 0 then (if x17 < (x7.length : Int) then (gate_values.l0 k x1 x2 (x7.set (x17 : Int).toNat ((rd_T50 x15 x17).f4)) x15 x16 (wrap64 (x17 + 1))) else (none)) else (if ((rd_T50 x15 x17).f0) = 1 then (if 0 ≤ ((rd_T50 x15 x17).f4) then (if x17 < (x7.length : Int) then (gate_values.l0 k x1 x2 (x7.set (x17 : Int).toNat (Go.bits .and .i64 (shr .i64 x2 ((rd_T50 x15 x17).f4)) 1)) x15 x16 (wrap64 (x17 + 1))) else (none)) else (none)) else (if ((rd_T50 x15 x17).f0) = 2 then (if 0 ≤ ((rd_T50 x15 x17).f4) then (if x17 < (x7.length : Int) then (gate_values.l0 k x1 x2 (x7.set (x17 : Int).toNat (Go.bits .and .i64 (shr .i64 x1 ((rd_T50 x15 x17).f4)) 1)) x15 x16 (wrap64 (x17 + 1))) else (none)) else (none)) else (if ((rd_T50 x15 x17).f0) = 3 then (if 0 ≤ ((rd_T50 x15 x17).f1) then (if ((rd_T50 x15 x17).f1) < (x7.length : Int) then (if x17 < (x7.length : Int) then (gate_values.l0 k x1 x2 (x7.set (x17 : Int).toNat (wrap64 (1 - (rd x7 ((rd_T50 x15 x17).f1))))) x15 x16 (wrap64 (x17 + 1))) else (none)) else (none)) else (none)) else (if ((rd_T50 x15 x17).f0) = 4 then (if 0 ≤ ((rd_T50 x15 x17).f1) then (if ((rd_T50 x15 x17).f1) < (x7.length : Int) then (if 0 ≤ ((rd_T50 x15 x17).f2) then (if ((rd_T50 x15 x17).f2) < (x7.length : Int) then (if x17 < (x7.length : Int) then (gate_values.l0 k x1 x2 (x7.set (x17 : Int).toNat (Go.bits .and .i64 (rd x7 ((rd_T50 x15 x17).f1)) (rd x7 ((rd_T50 x15 x17).f2)))) x15 x16 (wrap64 (x17 + 1))) else (none)) else (none)) else (none)) else (none)) else (none)) else (if ((rd_T50 x15 x17).f0) = 5 then (if 0 ≤ ((rd_T50 x15 x17).f1) then (if ((rd_T50 x15 x17).f1) < (x7.length : Int) then (if 0 ≤ ((rd_T50 x15 x17).f2) then (if ((rd_T50 x15 x17).f2) < (x7.length : Int) then (if x17 < (x7.length : Int) then (gate_values.l0 k x1 x2 (x7.set (x17 : Int).toNat (Go.bits .or .i64 (rd x7 ((rd_T50 x15 x17).f1)) (rd x7 ((rd_T50 x15 x17).f2)))) x15 x16 (wrap64 (x17 + 1))) else (none)) else (none)) else (none)) else (none)) else (none)) else (if ((rd_T50 x15 x17).f0) = 6 then (if 0 ≤ ((rd_T50 x15 x17).f1) then (if ((rd_T50 x15 x17).f1) < (x7.length : Int) then (if 0 ≤ ((rd_T50 x15 x17).f2) then (if ((rd_T50 x15 x17).f2) < (x7.length : Int) then (if x17 < (x7.length : Int) then (gate_values.l0 k x1 x2 (x7.set (x17 : Int).toNat (Go.bits .xor .i64 (rd x7 ((rd_T50 x15 x17).f1)) (rd x7 ((rd_T50 x15 x17).f2)))) x15 x16 (wrap64 (x17 + 1))) else (none)) else (none)) else (none)) else (none)) else (none)) else (if ((rd_T50 x15 x17).f0) = 7 then (if 0 ≤ ((rd_T50 x15 x17).f3) then (if ((rd_T50 x15 x17).f3) < (x7.length : Int) then (if x17 < (x7.length : Int) then ((some (x7.set (x17 : Int).toNat (rd x7 ((rd_T50 x15 x17).f3)) : List Int)).bind fun y165 => (if 0 ≤ ((rd_T50 x15 x17).f1) then (if ((rd_T50 x15 x17).f1) < (x7.length : Int) then (if (rd y165 ((rd_T50 x15 x17).f1)) = 1 then (if 0 ≤ ((rd_T50 x15 x17).f2) then (if ((rd_T50 x15 x17).f2) < (x7.length : Int) then (gate_values.l0 k x1 x2 (y165.set (x17 : Int).toNat (rd y165 ((rd_T50 x15 x17).f2))) x15 x16 (wrap64 (x17 + 1))) else (none)) else (none)) else (gate_values.l0 k x1 x2 y165 x15 x16 (wrap64 (x17 + 1)))) else (none)) else (none))) else (none)) else (none)) else (none)) else (gate_values.l0 k x1 x2 x7 x15 x16 (wrap64 (x17 + 1))))))))))) else (none)) else (none)) else (some x7)
def gate_values.f (k : Nat) (a0_0 : Int) (l0_1 : List (S50)) (l0_2 : List Int) (l0_3 : List Int) (l0_4 : List Int) (a1 : Int) (a2 : Int) : Option (List Int) := if 0 ≤ (l0_1.length : Int) then (if ((l0_1.length : Int) : Int).toNat ≤ 35184372088832 then (gate_values.l0 k a1 a2 (List.replicate ((l0_1.length : Int) : Int).toNat 0) l0_1 (l0_1.length : Int) 0) else (none)) else (none)
theorem gate_values.mono_l : ∀ k, (∀ y0 y1 y2 y3 y4 y5, LeO (gate_values.l0 k y0 y1 y2 y3 y4 y5) (gate_values.l0 (k + 1) y0 y1 y2 y3 y4 y5))
  | 0 => fun _ _ _ _ _ _ r h => by simp [gate_values.l0] at h
  | k + 1 => by
    have ih0 := gate_values.mono_l k
    · intro y0 y1 y2 y3 y4 y5
      unfold gate_values.l0
      repeat' first
      | (with_reducible exact ih0 _ _ _ _ _ _)
      | (with_reducible exact LeO.refl _)
      | (with_reducible exact LeO.none _)
      | (with_reducible refine LeO.ite ?_ ?_)
      | (with_reducible refine LeO.bind ?_ (fun _ => ?_))
      | exact ih0 _ _ _ _ _ _
      | exact LeO.none _
      | refine LeO.ite ?_ ?_
      | refine LeO.bind ?_ (fun _ => ?_)
theorem gate_values.mono : ∀ a0 a1 a2 a3 a4 a5 a6 k, LeO (gate_values.f k a0 a1 a2 a3 a4 a5 a6) (gate_values.f (k + 1) a0 a1 a2 a3 a4 a5 a6) := by
  intro a0 a1 a2 a3 a4 a5 a6 k
  have ih0 := gate_values.mono_l k
  unfold gate_values.f
  repeat' first
      | (with_reducible exact ih0 _ _ _ _ _ _)
      | (with_reducible exact LeO.refl _)
      | (with_reducible exact LeO.none _)
      | (with_reducible refine LeO.ite ?_ ?_)
      | (with_reducible refine LeO.bind ?_ (fun _ => ?_))
      | exact ih0 _ _ _ _ _ _
      | exact LeO.none _
      | refine LeO.ite ?_ ?_
      | refine LeO.bind ?_ (fun _ => ?_)
def gate_values.T15 : Bool × List (List Nat × List Nat) := (true, [([], []), ([], []), ([], []), ([], []), ([3], [3]), ([2, 4], [2, 4]), ([5], [5]), ([], []), ([], []), ([8], [8]), ([7, 9], [7, 9]), ([10], [10]), ([6, 11], [6, 11]), ([0, 1, 0, 1, 2, 3, 4, 5, 6, 7, 8, 9, 10, 11, 12], [0, 1]), ([13, 12, 0, 1, 2, 3, 4, 5, 6, 7, 8, 9, 10, 11, 12], [12, 13])])
def gate_values.B15 : List Nat := [0, 0, 0, 0, 8, 28, 60, 0, 0, 256, 896, 1920, 4092, 8191, 16383]
theorem gate_values.tab15 : rtab .any (opsOf Try.f47 15) = gate_values.T15 := by kernel_rfl
theorem gate_values.bits15 : waitsOk gate_values.T15.2 gate_values.B15 = true := by kernel_rfl
def gate_values.T17 : Bool × List (List Nat × List Nat) := (true, [([], []), ([], []), ([], []), ([], []), ([3], [3]), ([2, 4], [2, 4]), ([5], [5]), ([], []), ([], []), ([8], [8]), ([7, 9], [7, 9]), ([10], [10]), ([6, 11], [6, 11]), ([0, 1, 0, 1, 2, 3, 4, 5, 6, 7, 8, 9, 10, 11, 12], [0, 1]), ([13, 12, 0, 1, 2, 3, 4, 5, 6, 7, 8, 9, 10, 11, 12], [12, 13])])
def gate_values.B17 : List Nat := [0, 0, 0, 0, 8, 28, 60, 0, 0, 256, 896, 1920, 4092, 8191, 16383]
theorem gate_values.tab17 : rtab .any (opsOf Try.f47 17) = gate_values.T17 := by kernel_rfl
theorem gate_values.bits17 : waitsOk gate_values.T17.2 gate_values.B17 = true := by kernel_rfl
def gate_values.T19 : Bool × List (List Nat × List Nat) := (true, [([], []), ([], []), ([], []), ([], []), ([3], [3]), ([2, 4], [2, 4]), ([5], [5]), ([], []), ([], []), ([8], [8]), ([7, 9], [7, 9]), ([10], [10]), ([6, 11], [6, 11]), ([0, 1, 0, 1, 2, 3, 4, 5, 6, 7, 8, 9, 10, 11, 12], [0, 1]), ([13, 12, 0, 1, 2, 3, 4, 5, 6, 7, 8, 9, 10, 11, 12], [12, 13])])
def gate_values.B19 : List Nat := [0, 0, 0, 0, 8, 28, 60, 0, 0, 256, 896, 1920, 4092, 8191, 16383]
theorem gate_values.tab19 : rtab .any (opsOf Try.f47 19) = gate_values.T19 := by kernel_rfl
theorem gate_values.bits19 : waitsOk gate_values.T19.2 gate_values.B19 = true := by kernel_rfl
set_option maxHeartbeats 8000000 in
set_option maxRecDepth 100000 in
theorem gate_values.calls (k : Nat) (a0_0 : Int) (A0_1 : Option Addr) (c0_1 : Nat) (l0_1 : List (S50)) (A0_2 : Option Addr) (c0_2 : Nat) (l0_2 : List Int) (A0_3 : Option Addr) (c0_3 : Nat) (l0_3 : List Int) (A0_4 : Option Addr) (c0_4 : Nat) (l0_4 : List Int) (a1 : Int) (a2 : Int) (r : List Int) (w : World) (hr0_1 : Kd.C k50 w A0_1 l0_1.length l0_1) (hc0_1 : l0_1.length ≤ c0_1) (hr0_2 : Kd.C (Kd.int .i64) w A0_2 l0_2.length l0_2) (hc0_2 : l0_2.length ≤ c0_2) (hr0_3 : Kd.C (Kd.int .i64) w A0_3 l0_3.length l0_3) (hc0_3 : l0_3.length ≤ c0_3) (hr0_4 : Kd.C (Kd.int .i64) w A0_4 l0_4.length l0_4) (hc0_4 : l0_4.length ≤ c0_4) (h : gate_values.f k a0_0 l0_1 l0_2 l0_3 l0_4 a1 a2 = some r) :
    Calls Try.prog 47 #[.agg #[.int .i64 a0_0, .slice A0_1 l0_1.length c0_1, .slice A0_2 l0_2.length c0_2, .slice A0_3 l0_3.length c0_3, .slice A0_4 l0_4.length c0_4], .int .i64 a1, .int .i64 a2] w fun e w' => ∃ v0_ : Value, e = .returned (v0_) ∧ Kd.R (Kd.int .i64) 3 w' w.heap.size (fun _ => True) v0_ r ∧ Below w.heap.size w w' := by
  have hu38 := Try.underlying38
  have hu50 := Try.underlying50
  have HR0_1 := Aside0.mk hr0_1
  have HC0_1 := Aside0.mk hc0_1
  clear hr0_1 hc0_1
  have HR0_2 := Aside0.mk hr0_2
  have HC0_2 := Aside0.mk hc0_2
  clear hr0_2 hc0_2
  have HR0_3 := Aside0.mk hr0_3
  have HC0_3 := Aside0.mk hc0_3
  clear hr0_3 hc0_3
  have HR0_4 := Aside0.mk hr0_4
  have HC0_4 := Aside0.mk hc0_4
  clear hr0_4 hc0_4
  have HB := Aside0.mk (Below.refl w.heap.size w)
  have H : (if 0 ≤ (l0_1.length : Int) then (if ((l0_1.length : Int) : Int).toNat ≤ 35184372088832 then (gate_values.l0 k a1 a2 (List.replicate ((l0_1.length : Int) : Int).toNat 0) l0_1 (l0_1.length : Int) 0) else (none)) else (none)) = some r := h
  clear h
  by_cases c4 : 0 ≤ (l0_1.length : Int)
  · rw [if_pos c4] at H
    have c4b0 := eq_true c4
    have c4b1 : decide (0 ≤ (l0_1.length : Int)) = true := decide_eq_true c4
    clear c4
    by_cases c5 : ((l0_1.length : Int) : Int).toNat ≤ 35184372088832
    · rw [if_pos c5] at H
      have c5b0 := eq_true c5
      have c5b1 : decide (((l0_1.length : Int) : Int).toNat ≤ 35184372088832) = true := decide_eq_true c5
      clear c5
      obtain ⟨y145, hy145⟩ : ∃ y_ : List Int, y_ = (List.replicate ((l0_1.length : Int) : Int).toNat 0) := ⟨_, rfl⟩
      replace H : (gate_values.l0 k a1 a2 y145 l0_1 (l0_1.length : Int) 0) = some r := by first | (rw [hy145]; with_reducible exact H) | (have H2_ := (Option.bind_some _ _).symm.trans H; rw [hy145]; with_reducible exact H2_) | (have H2_ := (Option.bind_some _ _).symm.trans H; with_reducible exact H2_) | with_reducible exact H | (rw [hy145]; exact H) | exact H
      have Ny145 := Aside0.mk hy145
      clear hy145
      have H' := Aside0.mk H
      clear H
      go_enter Try.func47, Try.ntmps47
      go_wp2_with (first | ((with_reducible refine gate_dst (N := 3) rfl ?_); refine box_event ?hg (N := 3) ?hd (cs := #[.int .i64 a0_0, .slice A0_1 l0_1.length c0_1, .slice A0_2 l0_2.length c0_2, .slice A0_3 l0_3.length c0_3, .slice A0_4 l0_4.length c0_4]) (t := 38) ?hr ?_; (case hd => rfl); (case hg => rfl); (case hr => first | (go_simp; done) | (go_simp; rfl)); intro gb144 hg w6 hbox hb; have n0_ := Aside0.mk (below_step (by repeat (first | (with_reducible first | exact HB.out | apply below_alloc | apply pw_below_drewN | apply below_drew1) | exact HB.out)) hb); have n1_ := Aside0.mk (hbox); have n2_ := Aside0.mk ((by rw [hg]; exact (below_size (by repeat (first | (with_reducible first | exact HB.out | apply below_alloc | apply pw_below_drewN | apply below_drew1) | exact HB.out))) : w.heap.size ≤ gb144)); have n3_ := Aside0.mk ((by rw [hg]; exact (below_size (by repeat (first | (with_reducible first | exact HB.out | apply below_alloc | apply pw_below_drewN | apply below_drew1) | exact HB.out))) : w.heap.size ≤ gb144)); clear HB; have HB := n0_; have BK144 := n1_; have GW144 := n2_; have GE144 := n3_; clear n0_ n1_ n2_ n3_; clear hb hbox hg; have hcz7_0 : w6.cell? ⟨gb144, 0, none⟩ = some (.int .i64 a0_0) := (blk_cell BK144.out 0).trans rfl; have hcz7_1 : w6.cell? ⟨gb144, 1, none⟩ = some (.slice A0_1 l0_1.length c0_1) := (blk_cell BK144.out 1).trans rfl; have hcz7_2 : w6.cell? ⟨gb144, 2, none⟩ = some (.slice A0_2 l0_2.length c0_2) := (blk_cell BK144.out 2).trans rfl; have hcz7_3 : w6.cell? ⟨gb144, 3, none⟩ = some (.slice A0_3 l0_3.length c0_3) := (blk_cell BK144.out 3).trans rfl; have hcz7_4 : w6.cell? ⟨gb144, 4, none⟩ = some (.slice A0_4 l0_4.length c0_4) := (blk_cell BK144.out 4).trans rfl; have hfz7_0 := blk_frozen BK144.out 0; have hfz7_1 := blk_frozen BK144.out 1; have hfz7_2 := blk_frozen BK144.out 2; have hfz7_3 := blk_frozen BK144.out 3; have hfz7_4 := blk_frozen BK144.out 4) | ((with_reducible refine gate_dst (N := 13) rfl ?_); refine Kd.R_make (Kd.int .i64) _ 3 rfl (N := 13) rfl 22 _ _ rfl (l0_1.length : Int) rfl rfl Try.underlying22 (.int .i64 0) 8 info3 rfl (by decide) (by omega) 0 (ok := fun _ => True) (okp := fun _ => True) rfl (fun _ hk => hk) trivial (of_decide_eq_true (by first | (with_reducible assumption) | assumption)) (Nat.le_trans (Nat.mul_le_mul_right _ (of_decide_eq_true (by first | (with_reducible assumption) | assumption) : (l0_1.length : Int).toNat ≤ 35184372088832)) (by omega)) (Below.refl _ _) (Nat.le_refl _) ?_; intro v146 w8 ho9 hb hg_ hnew_; clear hg_ hnew_; (first | rw [← Ny145.out] at ho9 | (simp only [Int.reduceToNat] at ho9; rw [← Ny145.out] at ho9)); have n0_ := Aside0.mk (Kd.R_lower ho9 (below_size (by repeat (first | (with_reducible first | exact HB.out | apply below_alloc | apply pw_below_drewN | apply below_drew1 | refine below_set ?_ GE144.out) | exact HB.out)))); have n1_ := Aside0.mk (blk_below (g := gb144) (o := .cells #[.int .i64 a0_0, .slice A0_1 l0_1.length c0_1, .slice A0_2 l0_2.length c0_2, .slice A0_3 l0_3.length c0_3, .slice A0_4 l0_4.length c0_4] 38 (0, 0)) (by (with_reducible repeat (first | refine blk_drewN ?_ _ | refine blk_drew ?_ | refine blk_alloc ?_ _)); exact BK144.out) hb); have n2_ := Aside0.mk (below_step (by repeat (first | (with_reducible first | exact HB.out | apply below_alloc | apply pw_below_drewN | apply below_drew1 | refine below_set ?_ GE144.out) | exact HB.out)) hb); clear BK144; clear HB; have HO147 := n0_; have BK144 := n1_; have HB := n2_; clear n0_ n1_ n2_; clear hb ho9; have hcz10_0 : w8.cell? ⟨gb144, 0, none⟩ = some (.int .i64 a0_0) := (blk_cell BK144.out 0).trans rfl; have hcz10_1 : w8.cell? ⟨gb144, 1, none⟩ = some (.slice A0_1 l0_1.length c0_1) := (blk_cell BK144.out 1).trans rfl; have hcz10_2 : w8.cell? ⟨gb144, 2, none⟩ = some (.slice A0_2 l0_2.length c0_2) := (blk_cell BK144.out 2).trans rfl; have hcz10_3 : w8.cell? ⟨gb144, 3, none⟩ = some (.slice A0_3 l0_3.length c0_3) := (blk_cell BK144.out 3).trans rfl; have hcz10_4 : w8.cell? ⟨gb144, 4, none⟩ = some (.slice A0_4 l0_4.length c0_4) := (blk_cell BK144.out 4).trans rfl; have hfz10_0 := blk_frozen BK144.out 0; have hfz10_1 := blk_frozen BK144.out 1; have hfz10_2 := blk_frozen BK144.out 2; have hfz10_3 := blk_frozen BK144.out 3; have hfz10_4 := blk_frozen BK144.out 4))
      go_loopg [17] k (fun kq v17 w' => ∃ (x7_1 : List Int) (x17_1 : Int), v17 = .int .i64 x17_1 ∧ Aside0 (gate_values.l0 kq a1 a2 x7_1 l0_1 (l0_1.length : Int) x17_1 = some r) ∧ Aside0 (kq ≤ k) ∧ Aside0 (Kd.R (Kd.int .i64) 3 w' w.heap.size (fun _ => True) v146 x7_1) ∧ Aside0 (w'.heap[gb144]? = some (.cells #[.int .i64 a0_0, (.slice A0_1 l0_1.length c0_1), (.slice A0_2 l0_2.length c0_2), (.slice A0_3 l0_3.length c0_3), (.slice A0_4 l0_4.length c0_4)] 38 (0, 0))) ∧ Aside0 (Below w.heap.size w w'))
      case atStart => exact ⟨(y145), (0), (by first | rfl | (simp; done) | (simp [*]; done)), H', ⟨Nat.le_refl _⟩, ⟨by (with_reducible repeat (first | apply Kd.R_alloc | apply Kd.R_drewN | apply Kd.R_drew)); exact HO147.out⟩, ⟨by (with_reducible repeat (first | refine blk_drewN ?_ _ | refine blk_drew ?_ | refine blk_alloc ?_ _)); exact BK144.out⟩, ⟨by repeat (first | (with_reducible first | exact HB.out | apply below_alloc | apply pw_below_drewN | apply below_drew1 | refine below_set ?_ GE144.out) | exact HB.out)⟩⟩
      case round =>
        clear H'
        try clear p2
        try clear c4
        try clear c4b0
        try clear c4b1
        try clear c5
        try clear c5b0
        try clear c5b1
        try clear hcz10_0
        try clear hcz10_1
        try clear hcz10_2
        try clear hcz10_3
        try clear hcz10_4
        try clear hcz7_0
        try clear hcz7_1
        try clear hcz7_2
        try clear hcz7_3
        try clear hcz7_4
        try clear hfz10_0
        try clear hfz10_1
        try clear hfz10_2
        try clear hfz10_3
        try clear hfz10_4
        try clear hfz7_0
        try clear hfz7_1
        try clear hfz7_2
        try clear hfz7_3
        try clear hfz7_4
        obtain ⟨x7_1, x17_1, rfl, HA, HK1, HO_7, BK144, HB⟩ := hrel
        cases gk with
        | zero => exact absurd HA.out (by simp [gate_values.l0])
        | succ k1 =>
          have H := HA.out
          clear HA
          simp only [gate_values.l0] at H
          by_cases c11 : x17_1 < (l0_1.length : Int)
          · rw [if_pos c11] at H
            have c11b0 : decide (x17_1 < (l0_1.length : Int)) = true := decide_eq_true c11
            clear c11
            by_cases c12 : 0 ≤ x17_1
            · rw [if_pos c12] at H
              have c12b0 : decide (0 ≤ x17_1) = true := decide_eq_true c12
              clear c12
              by_cases c13 : x17_1 < (l0_1.length : Int)
              · rw [if_pos c13] at H
                have c13b0 : decide (x17_1 < (l0_1.length : Int)) = true := decide_eq_true c13
                clear c13
                by_cases c14 : ((rd_T50 l0_1 x17_1).f0) = 0
                · rw [if_pos c14] at H
                  have c14b0 : (((rd_T50 l0_1 x17_1).f0) == 0) = true := beq_iff_eq.mpr c14
                  have c14b1 : (((rd_T50 l0_1 x17_1).f0) != 0) = false := bne_eq_false_iff_eq.mpr c14
                  clear c14
                  by_cases c15 : x17_1 < (x7_1.length : Int)
                  · rw [if_pos c15] at H
                    have c15b0 : decide (x17_1 < (x7_1.length : Int)) = true := decide_eq_true c15
                    clear c15
                    obtain ⟨y150, hy150⟩ : ∃ y_ : List Int, y_ = (x7_1.set (x17_1 : Int).toNat ((rd_T50 l0_1 x17_1).f4)) := ⟨_, rfl⟩
                    replace H : (gate_values.l0 k1 a1 a2 y150 l0_1 (l0_1.length : Int) (wrap64 (x17_1 + 1))) = some r := by first | (rw [hy150]; with_reducible exact H) | (have H2_ := (Option.bind_some _ _).symm.trans H; rw [hy150]; with_reducible exact H2_) | (have H2_ := (Option.bind_some _ _).symm.trans H; with_reducible exact H2_) | with_reducible exact H | (rw [hy150]; exact H) | exact H
                    have Ny150 := Aside0.mk hy150
                    clear hy150
                    have H' := Aside0.mk H
                    clear H
                    have p148 : 0 ≤ (x17_1 : Int) := of_decide_eq_true (by first | (with_reducible assumption) | assumption)
                    have q148 : x17_1 < (l0_1.length : Int) := of_decide_eq_true (by first | (with_reducible assumption) | assumption)
                    obtain ⟨ad148, e148, hx148_0, hx148_1, hx148_2, hx148_3, hx148_4⟩ := at_T50 HR0_1.out x17_1 p148 q148
                    cases e148
                    replace hx148_0 := (HB.out.cell (World.block_lt_of_cell? w _ hx148_0)).trans hx148_0
                    replace hx148_1 := (HB.out.cell (World.block_lt_of_cell? w _ hx148_1)).trans hx148_1
                    replace hx148_2 := (HB.out.cell (World.block_lt_of_cell? w _ hx148_2)).trans hx148_2
                    replace hx148_3 := (HB.out.cell (World.block_lt_of_cell? w _ hx148_3)).trans hx148_3
                    replace hx148_4 := (HB.out.cell (World.block_lt_of_cell? w _ hx148_4)).trans hx148_4
                    replace p148 := eq_true p148
                    replace q148 := eq_true q148
                    go_wp2_with (first | ((with_reducible refine gate_dst (N := 9) rfl ?_); refine box_event ?hg (N := 9) ?hd (cs := #[.int .i64 0, .int .i64 0, .int .i64 0, .int .i64 0, .int .i64 0]) (t := 50) ?hr ?_; (case hd => rfl); (case hg => rfl); (case hr => first | (go_simp; done) | (go_simp; rfl)); intro gb149 hg w17 hbox hb; have n0_ := Aside0.mk (Kd.R_below (by (with_reducible repeat (first | apply Kd.R_alloc | apply Kd.R_drewN | apply Kd.R_drew)); exact HO_7.out) hb); have n1_ := Aside0.mk (blk_below (g := gb144) (o := .cells #[.int .i64 a0_0, .slice (some ad148) l0_1.length c0_1, .slice A0_2 l0_2.length c0_2, .slice A0_3 l0_3.length c0_3, .slice A0_4 l0_4.length c0_4] 38 (0, 0)) (by (with_reducible repeat (first | refine blk_drewN ?_ _ | refine blk_drew ?_ | refine blk_alloc ?_ _)); exact BK144.out) hb); have n2_ := Aside0.mk (below_step (by repeat (first | (with_reducible first | exact HB.out | apply below_alloc | apply pw_below_drewN | apply below_drew1 | refine below_set ?_ GE144.out) | exact HB.out)) hb); have n3_ := Aside0.mk (hbox); have n4_ := Aside0.mk ((by rw [hg]; exact (below_size (by repeat (first | (with_reducible first | exact HB.out | apply below_alloc | apply pw_below_drewN | apply below_drew1 | refine below_set ?_ GE144.out) | exact HB.out))) : w.heap.size ≤ gb149)); have n5_ := Aside0.mk ((by rw [hg]; exact (below_size (by repeat (first | (with_reducible first | exact HB.out | apply below_alloc | apply pw_below_drewN | apply below_drew1 | refine below_set ?_ GE144.out) | exact HB.out))) : w.heap.size ≤ gb149)); have n6_ := Aside0.mk ((by rw [hg]; exact Nat.ne_of_lt (blk_lt (g := gb144) (o := .cells #[.int .i64 a0_0, .slice (some ad148) l0_1.length c0_1, .slice A0_2 l0_2.length c0_2, .slice A0_3 l0_3.length c0_3, .slice A0_4 l0_4.length c0_4] 38 (0, 0)) (by (with_reducible repeat (first | refine blk_drewN ?_ _ | refine blk_drew ?_ | refine blk_alloc ?_ _)); exact BK144.out)) : gb144 ≠ gb149)); have n7_ := Aside0.mk ((by rw [hg]; exact Nat.ne_of_gt (blk_lt (g := gb144) (o := .cells #[.int .i64 a0_0, .slice (some ad148) l0_1.length c0_1, .slice A0_2 l0_2.length c0_2, .slice A0_3 l0_3.length c0_3, .slice A0_4 l0_4.length c0_4] 38 (0, 0)) (by (with_reducible repeat (first | refine blk_drewN ?_ _ | refine blk_drew ?_ | refine blk_alloc ?_ _)); exact BK144.out)) : gb149 ≠ gb144)); clear HO_7; clear BK144; clear HB; have HO_7 := n0_; have BK144 := n1_; have HB := n2_; have BK149 := n3_; have GW149 := n4_; have GE149 := n5_; have NB144_149 := n6_; have NB149_144 := n7_; clear n0_ n1_ n2_ n3_ n4_ n5_ n6_ n7_; clear hb hbox hg; have hnb18 := NB149_144.out; have hnc18 := NB144_149.out; have hcz19_0 : w17.cell? ⟨gb149, 0, none⟩ = some (.int .i64 0) := (blk_cell BK149.out 0).trans rfl; have hcz19_1 : w17.cell? ⟨gb149, 1, none⟩ = some (.int .i64 0) := (blk_cell BK149.out 1).trans rfl; have hcz19_2 : w17.cell? ⟨gb149, 2, none⟩ = some (.int .i64 0) := (blk_cell BK149.out 2).trans rfl; have hcz19_3 : w17.cell? ⟨gb149, 3, none⟩ = some (.int .i64 0) := (blk_cell BK149.out 3).trans rfl; have hcz19_4 : w17.cell? ⟨gb149, 4, none⟩ = some (.int .i64 0) := (blk_cell BK149.out 4).trans rfl; have hfz19_0 := blk_frozen BK149.out 0; have hfz19_1 := blk_frozen BK149.out 1; have hfz19_2 := blk_frozen BK149.out 2; have hfz19_3 := blk_frozen BK149.out 3; have hfz19_4 := blk_frozen BK149.out 4) | ((with_reducible refine gate_store (t := 50) (p := 9) rfl ?_); refine store_event (t := 50) (p := 9) (v := ?vo_w20) (w1 := (((((w17.setCell ⟨gb149, 0, none⟩ (.int .i64 ((rd_T50 l0_1 x17_1).f0))).setCell ⟨gb149, 1, none⟩ (.int .i64 ((rd_T50 l0_1 x17_1).f1))).setCell ⟨gb149, 2, none⟩ (.int .i64 ((rd_T50 l0_1 x17_1).f2))).setCell ⟨gb149, 3, none⟩ (.int .i64 ((rd_T50 l0_1 x17_1).f3))).setCell ⟨gb149, 4, none⟩ (.int .i64 ((rd_T50 l0_1 x17_1).f4)))) ?hg ?ho ?hn ?hr ?_; (case ho => rfl); (case hg => rfl); (case hn => rfl); (case hr => first | (go_simp; done) | (go_simp; rfl)); intro w20 hw; have n0_ : Aside0 (Kd.R (Kd.int .i64) 3 w20 w.heap.size (fun _ => True) v146 x7_1) := ⟨(by rw [hw]; exact (by (with_reducible repeat (first | apply Kd.R_alloc | apply Kd.R_drewN | apply Kd.R_drew)); exact Kd.R_mono (Kd.R_far (p := ⟨gb149, 4, none⟩) (Kd.R_far (p := ⟨gb149, 3, none⟩) (Kd.R_far (p := ⟨gb149, 2, none⟩) (Kd.R_far (p := ⟨gb149, 1, none⟩) (Kd.R_far (p := ⟨gb149, 0, none⟩) (Kd.R_types HO_7.out BK149.out (by decide)) (fun _ hk => hk.2) (.int .i64 ((rd_T50 l0_1 x17_1).f0))) (fun _ hk => hk.2) (.int .i64 ((rd_T50 l0_1 x17_1).f1))) (fun _ hk => hk.2) (.int .i64 ((rd_T50 l0_1 x17_1).f2))) (fun _ hk => hk.2) (.int .i64 ((rd_T50 l0_1 x17_1).f3))) (fun _ hk => hk.2) (.int .i64 ((rd_T50 l0_1 x17_1).f4))) (fun _ hk => trivial)))⟩; have n1_ : Aside0 (w20.heap[gb144]? = some (.cells #[.int .i64 a0_0, .slice (some ad148) l0_1.length c0_1, .slice A0_2 l0_2.length c0_2, .slice A0_3 l0_3.length c0_3, .slice A0_4 l0_4.length c0_4] 38 (0, 0))) := ⟨(by rw [hw]; exact (by (with_reducible repeat (first | refine blk_drewN ?_ _ | refine blk_drew ?_ | refine blk_alloc ?_ _)); refine blk_far ?_ NB144_149.out _; (with_reducible repeat (first | refine blk_drewN ?_ _ | refine blk_drew ?_ | refine blk_alloc ?_ _)); refine blk_far ?_ NB144_149.out _; (with_reducible repeat (first | refine blk_drewN ?_ _ | refine blk_drew ?_ | refine blk_alloc ?_ _)); refine blk_far ?_ NB144_149.out _; (with_reducible repeat (first | refine blk_drewN ?_ _ | refine blk_drew ?_ | refine blk_alloc ?_ _)); refine blk_far ?_ NB144_149.out _; (with_reducible repeat (first | refine blk_drewN ?_ _ | refine blk_drew ?_ | refine blk_alloc ?_ _)); refine blk_far ?_ NB144_149.out _; (with_reducible repeat (first | refine blk_drewN ?_ _ | refine blk_drew ?_ | refine blk_alloc ?_ _)); exact BK144.out))⟩; have n2_ : Aside0 (w20.heap[gb149]? = some (.cells #[.int .i64 ((rd_T50 l0_1 x17_1).f0), .int .i64 ((rd_T50 l0_1 x17_1).f1), .int .i64 ((rd_T50 l0_1 x17_1).f2), .int .i64 ((rd_T50 l0_1 x17_1).f3), .int .i64 ((rd_T50 l0_1 x17_1).f4)] 50 (0, 0))) := ⟨(by rw [hw]; exact (by (with_reducible repeat (first | refine blk_drewN ?_ _ | refine blk_drew ?_ | refine blk_alloc ?_ _)); refine blk_put (cs := #[.int .i64 ((rd_T50 l0_1 x17_1).f0), .int .i64 ((rd_T50 l0_1 x17_1).f1), .int .i64 ((rd_T50 l0_1 x17_1).f2), .int .i64 ((rd_T50 l0_1 x17_1).f3), .int .i64 0]) ?_ 4 _ rfl; (with_reducible repeat (first | refine blk_drewN ?_ _ | refine blk_drew ?_ | refine blk_alloc ?_ _)); refine blk_put (cs := #[.int .i64 ((rd_T50 l0_1 x17_1).f0), .int .i64 ((rd_T50 l0_1 x17_1).f1), .int .i64 ((rd_T50 l0_1 x17_1).f2), .int .i64 0, .int .i64 0]) ?_ 3 _ rfl; (with_reducible repeat (first | refine blk_drewN ?_ _ | refine blk_drew ?_ | refine blk_alloc ?_ _)); refine blk_put (cs := #[.int .i64 ((rd_T50 l0_1 x17_1).f0), .int .i64 ((rd_T50 l0_1 x17_1).f1), .int .i64 0, .int .i64 0, .int .i64 0]) ?_ 2 _ rfl; (with_reducible repeat (first | refine blk_drewN ?_ _ | refine blk_drew ?_ | refine blk_alloc ?_ _)); refine blk_put (cs := #[.int .i64 ((rd_T50 l0_1 x17_1).f0), .int .i64 0, .int .i64 0, .int .i64 0, .int .i64 0]) ?_ 1 _ rfl; (with_reducible repeat (first | refine blk_drewN ?_ _ | refine blk_drew ?_ | refine blk_alloc ?_ _)); refine blk_put (cs := #[.int .i64 0, .int .i64 0, .int .i64 0, .int .i64 0, .int .i64 0]) ?_ 0 _ rfl; (with_reducible repeat (first | refine blk_drewN ?_ _ | refine blk_drew ?_ | refine blk_alloc ?_ _)); exact BK149.out))⟩; have n3_ : Aside0 (Below w.heap.size w w20) := ⟨(by rw [hw]; exact (by repeat (first | (with_reducible first | exact HB.out | apply below_alloc | apply pw_below_drewN | apply below_drew1 | refine below_set ?_ GE144.out | refine below_set ?_ GE149.out) | exact HB.out)))⟩; clear hw; clear HO_7; clear BK144; clear BK149; clear HB; have HO_7 := n0_; have BK144 := n1_; have BK149 := n2_; have HB := n3_; clear n0_ n1_ n2_ n3_; have hcz21_0 : w20.cell? ⟨gb149, 0, none⟩ = some (.int .i64 ((rd_T50 l0_1 x17_1).f0)) := (blk_cell BK149.out 0).trans rfl; have hcz21_1 : w20.cell? ⟨gb149, 1, none⟩ = some (.int .i64 ((rd_T50 l0_1 x17_1).f1)) := (blk_cell BK149.out 1).trans rfl; have hcz21_2 : w20.cell? ⟨gb149, 2, none⟩ = some (.int .i64 ((rd_T50 l0_1 x17_1).f2)) := (blk_cell BK149.out 2).trans rfl; have hcz21_3 : w20.cell? ⟨gb149, 3, none⟩ = some (.int .i64 ((rd_T50 l0_1 x17_1).f3)) := (blk_cell BK149.out 3).trans rfl; have hcz21_4 : w20.cell? ⟨gb149, 4, none⟩ = some (.int .i64 ((rd_T50 l0_1 x17_1).f4)) := (blk_cell BK149.out 4).trans rfl; have hfz21_0 := blk_frozen BK149.out 0; have hfz21_1 := blk_frozen BK149.out 1; have hfz21_2 := blk_frozen BK149.out 2; have hfz21_3 := blk_frozen BK149.out 3; have hfz21_4 := blk_frozen BK149.out 4; have p16 : 0 ≤ (x17_1 : Int) := of_decide_eq_true (by first | (with_reducible assumption) | assumption); have q16 : (x17_1 : Int) < ((x7_1.length : Int) : Int) := of_decide_eq_true (by first | (with_reducible assumption) | assumption); obtain ⟨go16, co16, eo16, gb16, gl16, cl16, HG16⟩ := Kd.R_form HO_7.out (by omega); (first | cases eo16 | (injection eo16 with ea_ en_ ec_; (first | subst ea_ | (injection ea_ with ea_; subst ea_)); subst ec_; clear en_)); have GB16 := Aside0.mk gb16; have GG16 := Aside0.mk HG16; clear gb16 gl16 HG16; obtain ⟨hx16_0, hf16_0⟩ := Kd.R_celln 0 HO_7.out (x17_1 : Int) p16 q16; replace p16 := eq_true p16; replace q16 := eq_true q16; obtain ⟨hy22_, hz22_⟩ := Kd.R_celln 0 HO_7.out (x17_1 : Int) (of_decide_eq_true (by first | (with_reducible assumption) | assumption)) (of_decide_eq_true (by first | (with_reducible assumption) | assumption)); have HP22 := Kd.R_putg HO_7.out (x17_1 : Int) ((rd_T50 l0_1 x17_1).f4)) | ((with_reducible refine gate_store (t := 3) (p := 30) rfl ?_); refine store_event (t := 3) (p := 30) (v := ?vo_w23) (w1 := (w20.setCell ⟨go16, (x17_1 : Int).toNat, none⟩ (.int .i64 ((rd_T50 l0_1 x17_1).f4)))) ?hg ?ho ?hn ?hr ?_; (case ho => rfl); (case hg => rfl); (case hn => rfl); (case hr => first | (go_simp; done) | (go_simp; rfl)); intro w23 hw; have hg : w20.grownBy w23 (some go16) := (by rw [hw]; exact HP22.2); have hp_ : Kd.R (Kd.int .i64) 3 w23 w.heap.size (fun _ => True) (.slice (some ⟨go16, 0, none⟩) x7_1.length co16) y150 := (by rw [hw, Ny150.out]; exact HP22.1); clear HP22; have n0_ := Aside0.mk (hp_); have n1_ := Aside0.mk (blk_grown (g := gb144) (o := .cells #[.int .i64 a0_0, .slice (some ad148) l0_1.length c0_1, .slice A0_2 l0_2.length c0_2, .slice A0_3 l0_3.length c0_3, .slice A0_4 l0_4.length c0_4] 38 (0, 0)) (by (with_reducible repeat (first | refine blk_drewN ?_ _ | refine blk_drew ?_ | refine blk_alloc ?_ _)); exact BK144.out) hg (Kd.R_ne HO_7.out BK144.out (by decide))); have n2_ := Aside0.mk (blk_grown (g := gb149) (o := .cells #[.int .i64 ((rd_T50 l0_1 x17_1).f0), .int .i64 ((rd_T50 l0_1 x17_1).f1), .int .i64 ((rd_T50 l0_1 x17_1).f2), .int .i64 ((rd_T50 l0_1 x17_1).f3), .int .i64 ((rd_T50 l0_1 x17_1).f4)] 50 (0, 0)) (by (with_reducible repeat (first | refine blk_drewN ?_ _ | refine blk_drew ?_ | refine blk_alloc ?_ _)); exact BK149.out) hg (Kd.R_ne HO_7.out BK149.out (by decide))); have n3_ := Aside0.mk ((by rw [hw]; exact below_set (HB.out) GB16.out : Below w.heap.size w w23)); clear HO_7; clear BK144; clear BK149; clear HB; have HO_7 := n0_; have BK144 := n1_; have BK149 := n2_; have HB := n3_; clear n0_ n1_ n2_ n3_; clear hg hw hp_))
                    go_roundg k1
                    case measure => have := HK1.out; omega
                    case rel => exact ⟨(y150), (wrap64 (x17_1 + 1)), (by first | rfl | (simp; done) | (simp [*]; done)), H', ⟨by have := HK1.out; omega⟩, ⟨by (with_reducible repeat (first | apply Kd.R_alloc | apply Kd.R_drewN | apply Kd.R_drew)); exact HO_7.out⟩, ⟨by (with_reducible repeat (first | refine blk_drewN ?_ _ | refine blk_drew ?_ | refine blk_alloc ?_ _)); exact BK144.out⟩, ⟨by repeat (first | (with_reducible first | exact HB.out | apply below_alloc | apply pw_below_drewN | apply below_drew1 | refine below_set ?_ GE144.out | refine below_set ?_ GE149.out) | exact HB.out)⟩⟩
                  · rw [if_neg c15] at H
                    exact absurd H (by simp)
                · rw [if_neg c14] at H
                  have c14b0 : (((rd_T50 l0_1 x17_1).f0) == 0) = false := beq_eq_false_iff_ne.mpr c14
                  have c14b1 : (((rd_T50 l0_1 x17_1).f0) != 0) = true := bne_iff_ne.mpr c14
                  by_cases c24 : ((rd_T50 l0_1 x17_1).f0) = 1
                  · rw [if_pos c24] at H
                    have c24b0 : (((rd_T50 l0_1 x17_1).f0) == 1) = true := beq_iff_eq.mpr c24
                    have c24b1 : (((rd_T50 l0_1 x17_1).f0) != 1) = false := bne_eq_false_iff_eq.mpr c24
                    clear c24
                    by_cases c25 : 0 ≤ ((rd_T50 l0_1 x17_1).f4)
                    · rw [if_pos c25] at H
                      have c25b0 := eq_true c25
                      have c25b1 : decide (0 ≤ ((rd_T50 l0_1 x17_1).f4)) = true := decide_eq_true c25
                      clear c25
                      obtain ⟨ji26, hji26⟩ : ∃ j_ : Int, (shr .i64 a2 ((rd_T50 l0_1 x17_1).f4)) = j_ := ⟨_, rfl⟩
                      replace H : (if x17_1 < (x7_1.length : Int) then (gate_values.l0 k1 a1 a2 (x7_1.set (x17_1 : Int).toNat (Go.bits .and .i64 (ji26) 1)) l0_1 (l0_1.length : Int) (wrap64 (x17_1 + 1))) else (none)) = some r := by first | (rw [hji26] at H; exact H) | (simp only [hji26] at H ⊢; exact H)
                      have hji26_ : (a2 / 2 ^ min ((rd_T50 l0_1 x17_1).f4).toNat 64) = ji26 := hji26
                      have hji26z : ((rd_T50 l0_1 x17_1).f4) ≤ 64 → (a2 / 2 ^ ((rd_T50 l0_1 x17_1).f4).toNat) = ji26 := shr_small hji26
                      by_cases c27 : x17_1 < (x7_1.length : Int)
                      · rw [if_pos c27] at H
                        have c27b0 : decide (x17_1 < (x7_1.length : Int)) = true := decide_eq_true c27
                        clear c27
                        obtain ⟨y151, hy151⟩ : ∃ y_ : List Int, y_ = (x7_1.set (x17_1 : Int).toNat (Go.bits .and .i64 (ji26) 1)) := ⟨_, rfl⟩
                        replace H : (gate_values.l0 k1 a1 a2 y151 l0_1 (l0_1.length : Int) (wrap64 (x17_1 + 1))) = some r := by first | (rw [hy151]; with_reducible exact H) | (have H2_ := (Option.bind_some _ _).symm.trans H; rw [hy151]; with_reducible exact H2_) | (have H2_ := (Option.bind_some _ _).symm.trans H; with_reducible exact H2_) | with_reducible exact H | (rw [hy151]; exact H) | exact H
                        have Ny151 := Aside0.mk hy151
                        clear hy151
                        have H' := Aside0.mk H
                        clear H
                        have p148 : 0 ≤ (x17_1 : Int) := of_decide_eq_true (by first | (with_reducible assumption) | assumption)
                        have q148 : x17_1 < (l0_1.length : Int) := of_decide_eq_true (by first | (with_reducible assumption) | assumption)
                        obtain ⟨ad148, e148, hx148_0, hx148_1, hx148_2, hx148_3, hx148_4⟩ := at_T50 HR0_1.out x17_1 p148 q148
                        cases e148
                        replace hx148_0 := (HB.out.cell (World.block_lt_of_cell? w _ hx148_0)).trans hx148_0
                        replace hx148_1 := (HB.out.cell (World.block_lt_of_cell? w _ hx148_1)).trans hx148_1
                        replace hx148_2 := (HB.out.cell (World.block_lt_of_cell? w _ hx148_2)).trans hx148_2
                        replace hx148_3 := (HB.out.cell (World.block_lt_of_cell? w _ hx148_3)).trans hx148_3
                        replace hx148_4 := (HB.out.cell (World.block_lt_of_cell? w _ hx148_4)).trans hx148_4
                        replace p148 := eq_true p148
                        replace q148 := eq_true q148
                        go_wp2_with (first | ((with_reducible refine gate_dst (N := 9) rfl ?_); refine box_event ?hg (N := 9) ?hd (cs := #[.int .i64 0, .int .i64 0, .int .i64 0, .int .i64 0, .int .i64 0]) (t := 50) ?hr ?_; (case hd => rfl); (case hg => rfl); (case hr => first | (go_simp; done) | (go_simp; rfl)); intro gb149 hg w29 hbox hb; have n0_ := Aside0.mk (Kd.R_below (by (with_reducible repeat (first | apply Kd.R_alloc | apply Kd.R_drewN | apply Kd.R_drew)); exact HO_7.out) hb); have n1_ := Aside0.mk (blk_below (g := gb144) (o := .cells #[.int .i64 a0_0, .slice (some ad148) l0_1.length c0_1, .slice A0_2 l0_2.length c0_2, .slice A0_3 l0_3.length c0_3, .slice A0_4 l0_4.length c0_4] 38 (0, 0)) (by (with_reducible repeat (first | refine blk_drewN ?_ _ | refine blk_drew ?_ | refine blk_alloc ?_ _)); exact BK144.out) hb); have n2_ := Aside0.mk (below_step (by repeat (first | (with_reducible first | exact HB.out | apply below_alloc | apply pw_below_drewN | apply below_drew1 | refine below_set ?_ GE144.out) | exact HB.out)) hb); have n3_ := Aside0.mk (hbox); have n4_ := Aside0.mk ((by rw [hg]; exact (below_size (by repeat (first | (with_reducible first | exact HB.out | apply below_alloc | apply pw_below_drewN | apply below_drew1 | refine below_set ?_ GE144.out) | exact HB.out))) : w.heap.size ≤ gb149)); have n5_ := Aside0.mk ((by rw [hg]; exact (below_size (by repeat (first | (with_reducible first | exact HB.out | apply below_alloc | apply pw_below_drewN | apply below_drew1 | refine below_set ?_ GE144.out) | exact HB.out))) : w.heap.size ≤ gb149)); have n6_ := Aside0.mk ((by rw [hg]; exact Nat.ne_of_lt (blk_lt (g := gb144) (o := .cells #[.int .i64 a0_0, .slice (some ad148) l0_1.length c0_1, .slice A0_2 l0_2.length c0_2, .slice A0_3 l0_3.length c0_3, .slice A0_4 l0_4.length c0_4] 38 (0, 0)) (by (with_reducible repeat (first | refine blk_drewN ?_ _ | refine blk_drew ?_ | refine blk_alloc ?_ _)); exact BK144.out)) : gb144 ≠ gb149)); have n7_ := Aside0.mk ((by rw [hg]; exact Nat.ne_of_gt (blk_lt (g := gb144) (o := .cells #[.int .i64 a0_0, .slice (some ad148) l0_1.length c0_1, .slice A0_2 l0_2.length c0_2, .slice A0_3 l0_3.length c0_3, .slice A0_4 l0_4.length c0_4] 38 (0, 0)) (by (with_reducible repeat (first | refine blk_drewN ?_ _ | refine blk_drew ?_ | refine blk_alloc ?_ _)); exact BK144.out)) : gb149 ≠ gb144)); clear HO_7; clear BK144; clear HB; have HO_7 := n0_; have BK144 := n1_; have HB := n2_; have BK149 := n3_; have GW149 := n4_; have GE149 := n5_; have NB144_149 := n6_; have NB149_144 := n7_; clear n0_ n1_ n2_ n3_ n4_ n5_ n6_ n7_; clear hb hbox hg; have hnb30 := NB149_144.out; have hnc30 := NB144_149.out; have hcz31_0 : w29.cell? ⟨gb149, 0, none⟩ = some (.int .i64 0) := (blk_cell BK149.out 0).trans rfl; have hcz31_1 : w29.cell? ⟨gb149, 1, none⟩ = some (.int .i64 0) := (blk_cell BK149.out 1).trans rfl; have hcz31_2 : w29.cell? ⟨gb149, 2, none⟩ = some (.int .i64 0) := (blk_cell BK149.out 2).trans rfl; have hcz31_3 : w29.cell? ⟨gb149, 3, none⟩ = some (.int .i64 0) := (blk_cell BK149.out 3).trans rfl; have hcz31_4 : w29.cell? ⟨gb149, 4, none⟩ = some (.int .i64 0) := (blk_cell BK149.out 4).trans rfl; have hfz31_0 := blk_frozen BK149.out 0; have hfz31_1 := blk_frozen BK149.out 1; have hfz31_2 := blk_frozen BK149.out 2; have hfz31_3 := blk_frozen BK149.out 3; have hfz31_4 := blk_frozen BK149.out 4) | ((with_reducible refine gate_store (t := 50) (p := 9) rfl ?_); refine store_event (t := 50) (p := 9) (v := ?vo_w32) (w1 := (((((w29.setCell ⟨gb149, 0, none⟩ (.int .i64 ((rd_T50 l0_1 x17_1).f0))).setCell ⟨gb149, 1, none⟩ (.int .i64 ((rd_T50 l0_1 x17_1).f1))).setCell ⟨gb149, 2, none⟩ (.int .i64 ((rd_T50 l0_1 x17_1).f2))).setCell ⟨gb149, 3, none⟩ (.int .i64 ((rd_T50 l0_1 x17_1).f3))).setCell ⟨gb149, 4, none⟩ (.int .i64 ((rd_T50 l0_1 x17_1).f4)))) ?hg ?ho ?hn ?hr ?_; (case ho => rfl); (case hg => rfl); (case hn => rfl); (case hr => first | (go_simp; done) | (go_simp; rfl)); intro w32 hw; have n0_ : Aside0 (Kd.R (Kd.int .i64) 3 w32 w.heap.size (fun _ => True) v146 x7_1) := ⟨(by rw [hw]; exact (by (with_reducible repeat (first | apply Kd.R_alloc | apply Kd.R_drewN | apply Kd.R_drew)); exact Kd.R_mono (Kd.R_far (p := ⟨gb149, 4, none⟩) (Kd.R_far (p := ⟨gb149, 3, none⟩) (Kd.R_far (p := ⟨gb149, 2, none⟩) (Kd.R_far (p := ⟨gb149, 1, none⟩) (Kd.R_far (p := ⟨gb149, 0, none⟩) (Kd.R_types HO_7.out BK149.out (by decide)) (fun _ hk => hk.2) (.int .i64 ((rd_T50 l0_1 x17_1).f0))) (fun _ hk => hk.2) (.int .i64 ((rd_T50 l0_1 x17_1).f1))) (fun _ hk => hk.2) (.int .i64 ((rd_T50 l0_1 x17_1).f2))) (fun _ hk => hk.2) (.int .i64 ((rd_T50 l0_1 x17_1).f3))) (fun _ hk => hk.2) (.int .i64 ((rd_T50 l0_1 x17_1).f4))) (fun _ hk => trivial)))⟩; have n1_ : Aside0 (w32.heap[gb144]? = some (.cells #[.int .i64 a0_0, .slice (some ad148) l0_1.length c0_1, .slice A0_2 l0_2.length c0_2, .slice A0_3 l0_3.length c0_3, .slice A0_4 l0_4.length c0_4] 38 (0, 0))) := ⟨(by rw [hw]; exact (by (with_reducible repeat (first | refine blk_drewN ?_ _ | refine blk_drew ?_ | refine blk_alloc ?_ _)); refine blk_far ?_ NB144_149.out _; (with_reducible repeat (first | refine blk_drewN ?_ _ | refine blk_drew ?_ | refine blk_alloc ?_ _)); refine blk_far ?_ NB144_149.out _; (with_reducible repeat (first | refine blk_drewN ?_ _ | refine blk_drew ?_ | refine blk_alloc ?_ _)); refine blk_far ?_ NB144_149.out _; (with_reducible repeat (first | refine blk_drewN ?_ _ | refine blk_drew ?_ | refine blk_alloc ?_ _)); refine blk_far ?_ NB144_149.out _; (with_reducible repeat (first | refine blk_drewN ?_ _ | refine blk_drew ?_ | refine blk_alloc ?_ _)); refine blk_far ?_ NB144_149.out _; (with_reducible repeat (first | refine blk_drewN ?_ _ | refine blk_drew ?_ | refine blk_alloc ?_ _)); exact BK144.out))⟩; have n2_ : Aside0 (w32.heap[gb149]? = some (.cells #[.int .i64 ((rd_T50 l0_1 x17_1).f0), .int .i64 ((rd_T50 l0_1 x17_1).f1), .int .i64 ((rd_T50 l0_1 x17_1).f2), .int .i64 ((rd_T50 l0_1 x17_1).f3), .int .i64 ((rd_T50 l0_1 x17_1).f4)] 50 (0, 0))) := ⟨(by rw [hw]; exact (by (with_reducible repeat (first | refine blk_drewN ?_ _ | refine blk_drew ?_ | refine blk_alloc ?_ _)); refine blk_put (cs := #[.int .i64 ((rd_T50 l0_1 x17_1).f0), .int .i64 ((rd_T50 l0_1 x17_1).f1), .int .i64 ((rd_T50 l0_1 x17_1).f2), .int .i64 ((rd_T50 l0_1 x17_1).f3), .int .i64 0]) ?_ 4 _ rfl; (with_reducible repeat (first | refine blk_drewN ?_ _ | refine blk_drew ?_ | refine blk_alloc ?_ _)); refine blk_put (cs := #[.int .i64 ((rd_T50 l0_1 x17_1).f0), .int .i64 ((rd_T50 l0_1 x17_1).f1), .int .i64 ((rd_T50 l0_1 x17_1).f2), .int .i64 0, .int .i64 0]) ?_ 3 _ rfl; (with_reducible repeat (first | refine blk_drewN ?_ _ | refine blk_drew ?_ | refine blk_alloc ?_ _)); refine blk_put (cs := #[.int .i64 ((rd_T50 l0_1 x17_1).f0), .int .i64 ((rd_T50 l0_1 x17_1).f1), .int .i64 0, .int .i64 0, .int .i64 0]) ?_ 2 _ rfl; (with_reducible repeat (first | refine blk_drewN ?_ _ | refine blk_drew ?_ | refine blk_alloc ?_ _)); refine blk_put (cs := #[.int .i64 ((rd_T50 l0_1 x17_1).f0), .int .i64 0, .int .i64 0, .int .i64 0, .int .i64 0]) ?_ 1 _ rfl; (with_reducible repeat (first | refine blk_drewN ?_ _ | refine blk_drew ?_ | refine blk_alloc ?_ _)); refine blk_put (cs := #[.int .i64 0, .int .i64 0, .int .i64 0, .int .i64 0, .int .i64 0]) ?_ 0 _ rfl; (with_reducible repeat (first | refine blk_drewN ?_ _ | refine blk_drew ?_ | refine blk_alloc ?_ _)); exact BK149.out))⟩; have n3_ : Aside0 (Below w.heap.size w w32) := ⟨(by rw [hw]; exact (by repeat (first | (with_reducible first | exact HB.out | apply below_alloc | apply pw_below_drewN | apply below_drew1 | refine below_set ?_ GE144.out | refine below_set ?_ GE149.out) | exact HB.out)))⟩; clear hw; clear HO_7; clear BK144; clear BK149; clear HB; have HO_7 := n0_; have BK144 := n1_; have BK149 := n2_; have HB := n3_; clear n0_ n1_ n2_ n3_; have hcz33_0 : w32.cell? ⟨gb149, 0, none⟩ = some (.int .i64 ((rd_T50 l0_1 x17_1).f0)) := (blk_cell BK149.out 0).trans rfl; have hcz33_1 : w32.cell? ⟨gb149, 1, none⟩ = some (.int .i64 ((rd_T50 l0_1 x17_1).f1)) := (blk_cell BK149.out 1).trans rfl; have hcz33_2 : w32.cell? ⟨gb149, 2, none⟩ = some (.int .i64 ((rd_T50 l0_1 x17_1).f2)) := (blk_cell BK149.out 2).trans rfl; have hcz33_3 : w32.cell? ⟨gb149, 3, none⟩ = some (.int .i64 ((rd_T50 l0_1 x17_1).f3)) := (blk_cell BK149.out 3).trans rfl; have hcz33_4 : w32.cell? ⟨gb149, 4, none⟩ = some (.int .i64 ((rd_T50 l0_1 x17_1).f4)) := (blk_cell BK149.out 4).trans rfl; have hfz33_0 := blk_frozen BK149.out 0; have hfz33_1 := blk_frozen BK149.out 1; have hfz33_2 := blk_frozen BK149.out 2; have hfz33_3 := blk_frozen BK149.out 3; have hfz33_4 := blk_frozen BK149.out 4; have p28 : 0 ≤ (x17_1 : Int) := of_decide_eq_true (by first | (with_reducible assumption) | assumption); have q28 : (x17_1 : Int) < ((x7_1.length : Int) : Int) := of_decide_eq_true (by first | (with_reducible assumption) | assumption); obtain ⟨go28, co28, eo28, gb28, gl28, cl28, HG28⟩ := Kd.R_form HO_7.out (by omega); (first | cases eo28 | (injection eo28 with ea_ en_ ec_; (first | subst ea_ | (injection ea_ with ea_; subst ea_)); subst ec_; clear en_)); have GB28 := Aside0.mk gb28; have GG28 := Aside0.mk HG28; clear gb28 gl28 HG28; obtain ⟨hx28_0, hf28_0⟩ := Kd.R_celln 0 HO_7.out (x17_1 : Int) p28 q28; replace p28 := eq_true p28; replace q28 := eq_true q28; obtain ⟨hy34_, hz34_⟩ := Kd.R_celln 0 HO_7.out (x17_1 : Int) (of_decide_eq_true (by first | (with_reducible assumption) | assumption)) (of_decide_eq_true (by first | (with_reducible assumption) | assumption)); have HP34 := Kd.R_putg HO_7.out (x17_1 : Int) (Go.bits .and .i64 (ji26) 1)) | ((with_reducible refine gate_store (t := 3) (p := 40) rfl ?_); refine store_event (t := 3) (p := 40) (v := ?vo_w35) (w1 := (w32.setCell ⟨go28, (x17_1 : Int).toNat, none⟩ (.int .i64 (Go.bits .and .i64 (ji26) 1)))) ?hg ?ho ?hn ?hr ?_; (case ho => rfl); (case hg => rfl); (case hn => rfl); (case hr => first | (go_simp; done) | (go_simp; rfl)); intro w35 hw; have hg : w32.grownBy w35 (some go28) := (by rw [hw]; exact HP34.2); have hp_ : Kd.R (Kd.int .i64) 3 w35 w.heap.size (fun _ => True) (.slice (some ⟨go28, 0, none⟩) x7_1.length co28) y151 := (by rw [hw, Ny151.out]; exact HP34.1); clear HP34; have n0_ := Aside0.mk (hp_); have n1_ := Aside0.mk (blk_grown (g := gb144) (o := .cells #[.int .i64 a0_0, .slice (some ad148) l0_1.length c0_1, .slice A0_2 l0_2.length c0_2, .slice A0_3 l0_3.length c0_3, .slice A0_4 l0_4.length c0_4] 38 (0, 0)) (by (with_reducible repeat (first | refine blk_drewN ?_ _ | refine blk_drew ?_ | refine blk_alloc ?_ _)); exact BK144.out) hg (Kd.R_ne HO_7.out BK144.out (by decide))); have n2_ := Aside0.mk (blk_grown (g := gb149) (o := .cells #[.int .i64 ((rd_T50 l0_1 x17_1).f0), .int .i64 ((rd_T50 l0_1 x17_1).f1), .int .i64 ((rd_T50 l0_1 x17_1).f2), .int .i64 ((rd_T50 l0_1 x17_1).f3), .int .i64 ((rd_T50 l0_1 x17_1).f4)] 50 (0, 0)) (by (with_reducible repeat (first | refine blk_drewN ?_ _ | refine blk_drew ?_ | refine blk_alloc ?_ _)); exact BK149.out) hg (Kd.R_ne HO_7.out BK149.out (by decide))); have n3_ := Aside0.mk ((by rw [hw]; exact below_set (HB.out) GB28.out : Below w.heap.size w w35)); clear HO_7; clear BK144; clear BK149; clear HB; have HO_7 := n0_; have BK144 := n1_; have BK149 := n2_; have HB := n3_; clear n0_ n1_ n2_ n3_; clear hg hw hp_))
                        go_roundg k1
                        case measure => have := HK1.out; omega
                        case rel => exact ⟨(y151), (wrap64 (x17_1 + 1)), (by first | rfl | (simp; done) | (simp [*]; done)), H', ⟨by have := HK1.out; omega⟩, ⟨by (with_reducible repeat (first | apply Kd.R_alloc | apply Kd.R_drewN | apply Kd.R_drew)); exact HO_7.out⟩, ⟨by (with_reducible repeat (first | refine blk_drewN ?_ _ | refine blk_drew ?_ | refine blk_alloc ?_ _)); exact BK144.out⟩, ⟨by repeat (first | (with_reducible first | exact HB.out | apply below_alloc | apply pw_below_drewN | apply below_drew1 | refine below_set ?_ GE144.out | refine below_set ?_ GE149.out) | exact HB.out)⟩⟩
                      · rw [if_neg c27] at H
                        exact absurd H (by simp)
                    · rw [if_neg c25] at H
                      exact absurd H (by simp)
                  · rw [if_neg c24] at H
                    have c24b0 : (((rd_T50 l0_1 x17_1).f0) == 1) = false := beq_eq_false_iff_ne.mpr c24
                    have c24b1 : (((rd_T50 l0_1 x17_1).f0) != 1) = true := bne_iff_ne.mpr c24
                    by_cases c36 : ((rd_T50 l0_1 x17_1).f0) = 2
                    · rw [if_pos c36] at H
                      have c36b0 : (((rd_T50 l0_1 x17_1).f0) == 2) = true := beq_iff_eq.mpr c36
                      have c36b1 : (((rd_T50 l0_1 x17_1).f0) != 2) = false := bne_eq_false_iff_eq.mpr c36
                      clear c36
                      by_cases c37 : 0 ≤ ((rd_T50 l0_1 x17_1).f4)
                      · rw [if_pos c37] at H
                        have c37b0 := eq_true c37
                        have c37b1 : decide (0 ≤ ((rd_T50 l0_1 x17_1).f4)) = true := decide_eq_true c37
                        clear c37
                        obtain ⟨ji38, hji38⟩ : ∃ j_ : Int, (shr .i64 a1 ((rd_T50 l0_1 x17_1).f4)) = j_ := ⟨_, rfl⟩
                        replace H : (if x17_1 < (x7_1.length : Int) then (gate_values.l0 k1 a1 a2 (x7_1.set (x17_1 : Int).toNat (Go.bits .and .i64 (ji38) 1)) l0_1 (l0_1.length : Int) (wrap64 (x17_1 + 1))) else (none)) = some r := by first | (rw [hji38] at H; exact H) | (simp only [hji38] at H ⊢; exact H)
                        have hji38_ : (a1 / 2 ^ min ((rd_T50 l0_1 x17_1).f4).toNat 64) = ji38 := hji38
                        have hji38z : ((rd_T50 l0_1 x17_1).f4) ≤ 64 → (a1 / 2 ^ ((rd_T50 l0_1 x17_1).f4).toNat) = ji38 := shr_small hji38
                        by_cases c39 : x17_1 < (x7_1.length : Int)
                        · rw [if_pos c39] at H
                          have c39b0 : decide (x17_1 < (x7_1.length : Int)) = true := decide_eq_true c39
                          clear c39
                          obtain ⟨y152, hy152⟩ : ∃ y_ : List Int, y_ = (x7_1.set (x17_1 : Int).toNat (Go.bits .and .i64 (ji38) 1)) := ⟨_, rfl⟩
                          replace H : (gate_values.l0 k1 a1 a2 y152 l0_1 (l0_1.length : Int) (wrap64 (x17_1 + 1))) = some r := by first | (rw [hy152]; with_reducible exact H) | (have H2_ := (Option.bind_some _ _).symm.trans H; rw [hy152]; with_reducible exact H2_) | (have H2_ := (Option.bind_some _ _).symm.trans H; with_reducible exact H2_) | with_reducible exact H | (rw [hy152]; exact H) | exact H
                          have Ny152 := Aside0.mk hy152
                          clear hy152
                          have H' := Aside0.mk H
                          clear H
                          have p148 : 0 ≤ (x17_1 : Int) := of_decide_eq_true (by first | (with_reducible assumption) | assumption)
                          have q148 : x17_1 < (l0_1.length : Int) := of_decide_eq_true (by first | (with_reducible assumption) | assumption)
                          obtain ⟨ad148, e148, hx148_0, hx148_1, hx148_2, hx148_3, hx148_4⟩ := at_T50 HR0_1.out x17_1 p148 q148
                          cases e148
                          replace hx148_0 := (HB.out.cell (World.block_lt_of_cell? w _ hx148_0)).trans hx148_0
                          replace hx148_1 := (HB.out.cell (World.block_lt_of_cell? w _ hx148_1)).trans hx148_1
                          replace hx148_2 := (HB.out.cell (World.block_lt_of_cell? w _ hx148_2)).trans hx148_2
                          replace hx148_3 := (HB.out.cell (World.block_lt_of_cell? w _ hx148_3)).trans hx148_3
                          replace hx148_4 := (HB.out.cell (World.block_lt_of_cell? w _ hx148_4)).trans hx148_4
                          replace p148 := eq_true p148
                          replace q148 := eq_true q148
                          go_wp2_with (first | ((with_reducible refine gate_dst (N := 9) rfl ?_); refine box_event ?hg (N := 9) ?hd (cs := #[.int .i64 0, .int .i64 0, .int .i64 0, .int .i64 0, .int .i64 0]) (t := 50) ?hr ?_; (case hd => rfl); (case hg => rfl); (case hr => first | (go_simp; done) | (go_simp; rfl)); intro gb149 hg w41 hbox hb; have n0_ := Aside0.mk (Kd.R_below (by (with_reducible repeat (first | apply Kd.R_alloc | apply Kd.R_drewN | apply Kd.R_drew)); exact HO_7.out) hb); have n1_ := Aside0.mk (blk_below (g := gb144) (o := .cells #[.int .i64 a0_0, .slice (some ad148) l0_1.length c0_1, .slice A0_2 l0_2.length c0_2, .slice A0_3 l0_3.length c0_3, .slice A0_4 l0_4.length c0_4] 38 (0, 0)) (by (with_reducible repeat (first | refine blk_drewN ?_ _ | refine blk_drew ?_ | refine blk_alloc ?_ _)); exact BK144.out) hb); have n2_ := Aside0.mk (below_step (by repeat (first | (with_reducible first | exact HB.out | apply below_alloc | apply pw_below_drewN | apply below_drew1 | refine below_set ?_ GE144.out) | exact HB.out)) hb); have n3_ := Aside0.mk (hbox); have n4_ := Aside0.mk ((by rw [hg]; exact (below_size (by repeat (first | (with_reducible first | exact HB.out | apply below_alloc | apply pw_below_drewN | apply below_drew1 | refine below_set ?_ GE144.out) | exact HB.out))) : w.heap.size ≤ gb149)); have n5_ := Aside0.mk ((by rw [hg]; exact (below_size (by repeat (first | (with_reducible first | exact HB.out | apply below_alloc | apply pw_below_drewN | apply below_drew1 | refine below_set ?_ GE144.out) | exact HB.out))) : w.heap.size ≤ gb149)); have n6_ := Aside0.mk ((by rw [hg]; exact Nat.ne_of_lt (blk_lt (g := gb144) (o := .cells #[.int .i64 a0_0, .slice (some ad148) l0_1.length c0_1, .slice A0_2 l0_2.length c0_2, .slice A0_3 l0_3.length c0_3, .slice A0_4 l0_4.length c0_4] 38 (0, 0)) (by (with_reducible repeat (first | refine blk_drewN ?_ _ | refine blk_drew ?_ | refine blk_alloc ?_ _)); exact BK144.out)) : gb144 ≠ gb149)); have n7_ := Aside0.mk ((by rw [hg]; exact Nat.ne_of_gt (blk_lt (g := gb144) (o := .cells #[.int .i64 a0_0, .slice (some ad148) l0_1.length c0_1, .slice A0_2 l0_2.length c0_2, .slice A0_3 l0_3.length c0_3, .slice A0_4 l0_4.length c0_4] 38 (0, 0)) (by (with_reducible repeat (first | refine blk_drewN ?_ _ | refine blk_drew ?_ | refine blk_alloc ?_ _)); exact BK144.out)) : gb149 ≠ gb144)); clear HO_7; clear BK144; clear HB; have HO_7 := n0_; have BK144 := n1_; have HB := n2_; have BK149 := n3_; have GW149 := n4_; have GE149 := n5_; have NB144_149 := n6_; have NB149_144 := n7_; clear n0_ n1_ n2_ n3_ n4_ n5_ n6_ n7_; clear hb hbox hg; have hnb42 := NB149_144.out; have hnc42 := NB144_149.out; have hcz43_0 : w41.cell? ⟨gb149, 0, none⟩ = some (.int .i64 0) := (blk_cell BK149.out 0).trans rfl; have hcz43_1 : w41.cell? ⟨gb149, 1, none⟩ = some (.int .i64 0) := (blk_cell BK149.out 1).trans rfl; have hcz43_2 : w41.cell? ⟨gb149, 2, none⟩ = some (.int .i64 0) := (blk_cell BK149.out 2).trans rfl; have hcz43_3 : w41.cell? ⟨gb149, 3, none⟩ = some (.int .i64 0) := (blk_cell BK149.out 3).trans rfl; have hcz43_4 : w41.cell? ⟨gb149, 4, none⟩ = some (.int .i64 0) := (blk_cell BK149.out 4).trans rfl; have hfz43_0 := blk_frozen BK149.out 0; have hfz43_1 := blk_frozen BK149.out 1; have hfz43_2 := blk_frozen BK149.out 2; have hfz43_3 := blk_frozen BK149.out 3; have hfz43_4 := blk_frozen BK149.out 4) | ((with_reducible refine gate_store (t := 50) (p := 9) rfl ?_); refine store_event (t := 50) (p := 9) (v := ?vo_w44) (w1 := (((((w41.setCell ⟨gb149, 0, none⟩ (.int .i64 ((rd_T50 l0_1 x17_1).f0))).setCell ⟨gb149, 1, none⟩ (.int .i64 ((rd_T50 l0_1 x17_1).f1))).setCell ⟨gb149, 2, none⟩ (.int .i64 ((rd_T50 l0_1 x17_1).f2))).setCell ⟨gb149, 3, none⟩ (.int .i64 ((rd_T50 l0_1 x17_1).f3))).setCell ⟨gb149, 4, none⟩ (.int .i64 ((rd_T50 l0_1 x17_1).f4)))) ?hg ?ho ?hn ?hr ?_; (case ho => rfl); (case hg => rfl); (case hn => rfl); (case hr => first | (go_simp; done) | (go_simp; rfl)); intro w44 hw; have n0_ : Aside0 (Kd.R (Kd.int .i64) 3 w44 w.heap.size (fun _ => True) v146 x7_1) := ⟨(by rw [hw]; exact (by (with_reducible repeat (first | apply Kd.R_alloc | apply Kd.R_drewN | apply Kd.R_drew)); exact Kd.R_mono (Kd.R_far (p := ⟨gb149, 4, none⟩) (Kd.R_far (p := ⟨gb149, 3, none⟩) (Kd.R_far (p := ⟨gb149, 2, none⟩) (Kd.R_far (p := ⟨gb149, 1, none⟩) (Kd.R_far (p := ⟨gb149, 0, none⟩) (Kd.R_types HO_7.out BK149.out (by decide)) (fun _ hk => hk.2) (.int .i64 ((rd_T50 l0_1 x17_1).f0))) (fun _ hk => hk.2) (.int .i64 ((rd_T50 l0_1 x17_1).f1))) (fun _ hk => hk.2) (.int .i64 ((rd_T50 l0_1 x17_1).f2))) (fun _ hk => hk.2) (.int .i64 ((rd_T50 l0_1 x17_1).f3))) (fun _ hk => hk.2) (.int .i64 ((rd_T50 l0_1 x17_1).f4))) (fun _ hk => trivial)))⟩; have n1_ : Aside0 (w44.heap[gb144]? = some (.cells #[.int .i64 a0_0, .slice (some ad148) l0_1.length c0_1, .slice A0_2 l0_2.length c0_2, .slice A0_3 l0_3.length c0_3, .slice A0_4 l0_4.length c0_4] 38 (0, 0))) := ⟨(by rw [hw]; exact (by (with_reducible repeat (first | refine blk_drewN ?_ _ | refine blk_drew ?_ | refine blk_alloc ?_ _)); refine blk_far ?_ NB144_149.out _; (with_reducible repeat (first | refine blk_drewN ?_ _ | refine blk_drew ?_ | refine blk_alloc ?_ _)); refine blk_far ?_ NB144_149.out _; (with_reducible repeat (first | refine blk_drewN ?_ _ | refine blk_drew ?_ | refine blk_alloc ?_ _)); refine blk_far ?_ NB144_149.out _; (with_reducible repeat (first | refine blk_drewN ?_ _ | refine blk_drew ?_ | refine blk_alloc ?_ _)); refine blk_far ?_ NB144_149.out _; (with_reducible repeat (first | refine blk_drewN ?_ _ | refine blk_drew ?_ | refine blk_alloc ?_ _)); refine blk_far ?_ NB144_149.out _; (with_reducible repeat (first | refine blk_drewN ?_ _ | refine blk_drew ?_ | refine blk_alloc ?_ _)); exact BK144.out))⟩; have n2_ : Aside0 (w44.heap[gb149]? = some (.cells #[.int .i64 ((rd_T50 l0_1 x17_1).f0), .int .i64 ((rd_T50 l0_1 x17_1).f1), .int .i64 ((rd_T50 l0_1 x17_1).f2), .int .i64 ((rd_T50 l0_1 x17_1).f3), .int .i64 ((rd_T50 l0_1 x17_1).f4)] 50 (0, 0))) := ⟨(by rw [hw]; exact (by (with_reducible repeat (first | refine blk_drewN ?_ _ | refine blk_drew ?_ | refine blk_alloc ?_ _)); refine blk_put (cs := #[.int .i64 ((rd_T50 l0_1 x17_1).f0), .int .i64 ((rd_T50 l0_1 x17_1).f1), .int .i64 ((rd_T50 l0_1 x17_1).f2), .int .i64 ((rd_T50 l0_1 x17_1).f3), .int .i64 0]) ?_ 4 _ rfl; (with_reducible repeat (first | refine blk_drewN ?_ _ | refine blk_drew ?_ | refine blk_alloc ?_ _)); refine blk_put (cs := #[.int .i64 ((rd_T50 l0_1 x17_1).f0), .int .i64 ((rd_T50 l0_1 x17_1).f1), .int .i64 ((rd_T50 l0_1 x17_1).f2), .int .i64 0, .int .i64 0]) ?_ 3 _ rfl; (with_reducible repeat (first | refine blk_drewN ?_ _ | refine blk_drew ?_ | refine blk_alloc ?_ _)); refine blk_put (cs := #[.int .i64 ((rd_T50 l0_1 x17_1).f0), .int .i64 ((rd_T50 l0_1 x17_1).f1), .int .i64 0, .int .i64 0, .int .i64 0]) ?_ 2 _ rfl; (with_reducible repeat (first | refine blk_drewN ?_ _ | refine blk_drew ?_ | refine blk_alloc ?_ _)); refine blk_put (cs := #[.int .i64 ((rd_T50 l0_1 x17_1).f0), .int .i64 0, .int .i64 0, .int .i64 0, .int .i64 0]) ?_ 1 _ rfl; (with_reducible repeat (first | refine blk_drewN ?_ _ | refine blk_drew ?_ | refine blk_alloc ?_ _)); refine blk_put (cs := #[.int .i64 0, .int .i64 0, .int .i64 0, .int .i64 0, .int .i64 0]) ?_ 0 _ rfl; (with_reducible repeat (first | refine blk_drewN ?_ _ | refine blk_drew ?_ | refine blk_alloc ?_ _)); exact BK149.out))⟩; have n3_ : Aside0 (Below w.heap.size w w44) := ⟨(by rw [hw]; exact (by repeat (first | (with_reducible first | exact HB.out | apply below_alloc | apply pw_below_drewN | apply below_drew1 | refine below_set ?_ GE144.out | refine below_set ?_ GE149.out) | exact HB.out)))⟩; clear hw; clear HO_7; clear BK144; clear BK149; clear HB; have HO_7 := n0_; have BK144 := n1_; have BK149 := n2_; have HB := n3_; clear n0_ n1_ n2_ n3_; have hcz45_0 : w44.cell? ⟨gb149, 0, none⟩ = some (.int .i64 ((rd_T50 l0_1 x17_1).f0)) := (blk_cell BK149.out 0).trans rfl; have hcz45_1 : w44.cell? ⟨gb149, 1, none⟩ = some (.int .i64 ((rd_T50 l0_1 x17_1).f1)) := (blk_cell BK149.out 1).trans rfl; have hcz45_2 : w44.cell? ⟨gb149, 2, none⟩ = some (.int .i64 ((rd_T50 l0_1 x17_1).f2)) := (blk_cell BK149.out 2).trans rfl; have hcz45_3 : w44.cell? ⟨gb149, 3, none⟩ = some (.int .i64 ((rd_T50 l0_1 x17_1).f3)) := (blk_cell BK149.out 3).trans rfl; have hcz45_4 : w44.cell? ⟨gb149, 4, none⟩ = some (.int .i64 ((rd_T50 l0_1 x17_1).f4)) := (blk_cell BK149.out 4).trans rfl; have hfz45_0 := blk_frozen BK149.out 0; have hfz45_1 := blk_frozen BK149.out 1; have hfz45_2 := blk_frozen BK149.out 2; have hfz45_3 := blk_frozen BK149.out 3; have hfz45_4 := blk_frozen BK149.out 4; have p40 : 0 ≤ (x17_1 : Int) := of_decide_eq_true (by first | (with_reducible assumption) | assumption); have q40 : (x17_1 : Int) < ((x7_1.length : Int) : Int) := of_decide_eq_true (by first | (with_reducible assumption) | assumption); obtain ⟨go40, co40, eo40, gb40, gl40, cl40, HG40⟩ := Kd.R_form HO_7.out (by omega); (first | cases eo40 | (injection eo40 with ea_ en_ ec_; (first | subst ea_ | (injection ea_ with ea_; subst ea_)); subst ec_; clear en_)); have GB40 := Aside0.mk gb40; have GG40 := Aside0.mk HG40; clear gb40 gl40 HG40; obtain ⟨hx40_0, hf40_0⟩ := Kd.R_celln 0 HO_7.out (x17_1 : Int) p40 q40; replace p40 := eq_true p40; replace q40 := eq_true q40; obtain ⟨hy46_, hz46_⟩ := Kd.R_celln 0 HO_7.out (x17_1 : Int) (of_decide_eq_true (by first | (with_reducible assumption) | assumption)) (of_decide_eq_true (by first | (with_reducible assumption) | assumption)); have HP46 := Kd.R_putg HO_7.out (x17_1 : Int) (Go.bits .and .i64 (ji38) 1)) | ((with_reducible refine gate_store (t := 3) (p := 50) rfl ?_); refine store_event (t := 3) (p := 50) (v := ?vo_w47) (w1 := (w44.setCell ⟨go40, (x17_1 : Int).toNat, none⟩ (.int .i64 (Go.bits .and .i64 (ji38) 1)))) ?hg ?ho ?hn ?hr ?_; (case ho => rfl); (case hg => rfl); (case hn => rfl); (case hr => first | (go_simp; done) | (go_simp; rfl)); intro w47 hw; have hg : w44.grownBy w47 (some go40) := (by rw [hw]; exact HP46.2); have hp_ : Kd.R (Kd.int .i64) 3 w47 w.heap.size (fun _ => True) (.slice (some ⟨go40, 0, none⟩) x7_1.length co40) y152 := (by rw [hw, Ny152.out]; exact HP46.1); clear HP46; have n0_ := Aside0.mk (hp_); have n1_ := Aside0.mk (blk_grown (g := gb144) (o := .cells #[.int .i64 a0_0, .slice (some ad148) l0_1.length c0_1, .slice A0_2 l0_2.length c0_2, .slice A0_3 l0_3.length c0_3, .slice A0_4 l0_4.length c0_4] 38 (0, 0)) (by (with_reducible repeat (first | refine blk_drewN ?_ _ | refine blk_drew ?_ | refine blk_alloc ?_ _)); exact BK144.out) hg (Kd.R_ne HO_7.out BK144.out (by decide))); have n2_ := Aside0.mk (blk_grown (g := gb149) (o := .cells #[.int .i64 ((rd_T50 l0_1 x17_1).f0), .int .i64 ((rd_T50 l0_1 x17_1).f1), .int .i64 ((rd_T50 l0_1 x17_1).f2), .int .i64 ((rd_T50 l0_1 x17_1).f3), .int .i64 ((rd_T50 l0_1 x17_1).f4)] 50 (0, 0)) (by (with_reducible repeat (first | refine blk_drewN ?_ _ | refine blk_drew ?_ | refine blk_alloc ?_ _)); exact BK149.out) hg (Kd.R_ne HO_7.out BK149.out (by decide))); have n3_ := Aside0.mk ((by rw [hw]; exact below_set (HB.out) GB40.out : Below w.heap.size w w47)); clear HO_7; clear BK144; clear BK149; clear HB; have HO_7 := n0_; have BK144 := n1_; have BK149 := n2_; have HB := n3_; clear n0_ n1_ n2_ n3_; clear hg hw hp_))
                          go_roundg k1
                          case measure => have := HK1.out; omega
                          case rel => exact ⟨(y152), (wrap64 (x17_1 + 1)), (by first | rfl | (simp; done) | (simp [*]; done)), H', ⟨by have := HK1.out; omega⟩, ⟨by (with_reducible repeat (first | apply Kd.R_alloc | apply Kd.R_drewN | apply Kd.R_drew)); exact HO_7.out⟩, ⟨by (with_reducible repeat (first | refine blk_drewN ?_ _ | refine blk_drew ?_ | refine blk_alloc ?_ _)); exact BK144.out⟩, ⟨by repeat (first | (with_reducible first | exact HB.out | apply below_alloc | apply pw_below_drewN | apply below_drew1 | refine below_set ?_ GE144.out | refine below_set ?_ GE149.out) | exact HB.out)⟩⟩
                        · rw [if_neg c39] at H
                          exact absurd H (by simp)
                      · rw [if_neg c37] at H
                        exact absurd H (by simp)
                    · rw [if_neg c36] at H
                      have c36b0 : (((rd_T50 l0_1 x17_1).f0) == 2) = false := beq_eq_false_iff_ne.mpr c36
                      have c36b1 : (((rd_T50 l0_1 x17_1).f0) != 2) = true := bne_iff_ne.mpr c36
                      by_cases c48 : ((rd_T50 l0_1 x17_1).f0) = 3
                      · rw [if_pos c48] at H
                        have c48b0 : (((rd_T50 l0_1 x17_1).f0) == 3) = true := beq_iff_eq.mpr c48
                        have c48b1 : (((rd_T50 l0_1 x17_1).f0) != 3) = false := bne_eq_false_iff_eq.mpr c48
                        clear c48
                        by_cases c49 : 0 ≤ ((rd_T50 l0_1 x17_1).f1)
                        · rw [if_pos c49] at H
                          have c49b0 : decide (0 ≤ ((rd_T50 l0_1 x17_1).f1)) = true := decide_eq_true c49
                          clear c49
                          by_cases c50 : ((rd_T50 l0_1 x17_1).f1) < (x7_1.length : Int)
                          · rw [if_pos c50] at H
                            have c50b0 : decide (((rd_T50 l0_1 x17_1).f1) < (x7_1.length : Int)) = true := decide_eq_true c50
                            clear c50
                            by_cases c51 : x17_1 < (x7_1.length : Int)
                            · rw [if_pos c51] at H
                              have c51b0 : decide (x17_1 < (x7_1.length : Int)) = true := decide_eq_true c51
                              clear c51
                              obtain ⟨y154, hy154⟩ : ∃ y_ : List Int, y_ = (x7_1.set (x17_1 : Int).toNat (wrap64 (1 - (rd x7_1 ((rd_T50 l0_1 x17_1).f1))))) := ⟨_, rfl⟩
                              replace H : (gate_values.l0 k1 a1 a2 y154 l0_1 (l0_1.length : Int) (wrap64 (x17_1 + 1))) = some r := by first | (rw [hy154]; with_reducible exact H) | (have H2_ := (Option.bind_some _ _).symm.trans H; rw [hy154]; with_reducible exact H2_) | (have H2_ := (Option.bind_some _ _).symm.trans H; with_reducible exact H2_) | with_reducible exact H | (rw [hy154]; exact H) | exact H
                              have Ny154 := Aside0.mk hy154
                              clear hy154
                              have H' := Aside0.mk H
                              clear H
                              have p148 : 0 ≤ (x17_1 : Int) := of_decide_eq_true (by first | (with_reducible assumption) | assumption)
                              have q148 : x17_1 < (l0_1.length : Int) := of_decide_eq_true (by first | (with_reducible assumption) | assumption)
                              obtain ⟨ad148, e148, hx148_0, hx148_1, hx148_2, hx148_3, hx148_4⟩ := at_T50 HR0_1.out x17_1 p148 q148
                              cases e148
                              replace hx148_0 := (HB.out.cell (World.block_lt_of_cell? w _ hx148_0)).trans hx148_0
                              replace hx148_1 := (HB.out.cell (World.block_lt_of_cell? w _ hx148_1)).trans hx148_1
                              replace hx148_2 := (HB.out.cell (World.block_lt_of_cell? w _ hx148_2)).trans hx148_2
                              replace hx148_3 := (HB.out.cell (World.block_lt_of_cell? w _ hx148_3)).trans hx148_3
                              replace hx148_4 := (HB.out.cell (World.block_lt_of_cell? w _ hx148_4)).trans hx148_4
                              replace p148 := eq_true p148
                              replace q148 := eq_true q148
                              go_wp2_with (first | ((with_reducible refine gate_dst (N := 9) rfl ?_); refine box_event ?hg (N := 9) ?hd (cs := #[.int .i64 0, .int .i64 0, .int .i64 0, .int .i64 0, .int .i64 0]) (t := 50) ?hr ?_; (case hd => rfl); (case hg => rfl); (case hr => first | (go_simp; done) | (go_simp; rfl)); intro gb149 hg w53 hbox hb; have n0_ := Aside0.mk (Kd.R_below (by (with_reducible repeat (first | apply Kd.R_alloc | apply Kd.R_drewN | apply Kd.R_drew)); exact HO_7.out) hb); have n1_ := Aside0.mk (blk_below (g := gb144) (o := .cells #[.int .i64 a0_0, .slice (some ad148) l0_1.length c0_1, .slice A0_2 l0_2.length c0_2, .slice A0_3 l0_3.length c0_3, .slice A0_4 l0_4.length c0_4] 38 (0, 0)) (by (with_reducible repeat (first | refine blk_drewN ?_ _ | refine blk_drew ?_ | refine blk_alloc ?_ _)); exact BK144.out) hb); have n2_ := Aside0.mk (below_step (by repeat (first | (with_reducible first | exact HB.out | apply below_alloc | apply pw_below_drewN | apply below_drew1 | refine below_set ?_ GE144.out) | exact HB.out)) hb); have n3_ := Aside0.mk (hbox); have n4_ := Aside0.mk ((by rw [hg]; exact (below_size (by repeat (first | (with_reducible first | exact HB.out | apply below_alloc | apply pw_below_drewN | apply below_drew1 | refine below_set ?_ GE144.out) | exact HB.out))) : w.heap.size ≤ gb149)); have n5_ := Aside0.mk ((by rw [hg]; exact (below_size (by repeat (first | (with_reducible first | exact HB.out | apply below_alloc | apply pw_below_drewN | apply below_drew1 | refine below_set ?_ GE144.out) | exact HB.out))) : w.heap.size ≤ gb149)); have n6_ := Aside0.mk ((by rw [hg]; exact Nat.ne_of_lt (blk_lt (g := gb144) (o := .cells #[.int .i64 a0_0, .slice (some ad148) l0_1.length c0_1, .slice A0_2 l0_2.length c0_2, .slice A0_3 l0_3.length c0_3, .slice A0_4 l0_4.length c0_4] 38 (0, 0)) (by (with_reducible repeat (first | refine blk_drewN ?_ _ | refine blk_drew ?_ | refine blk_alloc ?_ _)); exact BK144.out)) : gb144 ≠ gb149)); have n7_ := Aside0.mk ((by rw [hg]; exact Nat.ne_of_gt (blk_lt (g := gb144) (o := .cells #[.int .i64 a0_0, .slice (some ad148) l0_1.length c0_1, .slice A0_2 l0_2.length c0_2, .slice A0_3 l0_3.length c0_3, .slice A0_4 l0_4.length c0_4] 38 (0, 0)) (by (with_reducible repeat (first | refine blk_drewN ?_ _ | refine blk_drew ?_ | refine blk_alloc ?_ _)); exact BK144.out)) : gb149 ≠ gb144)); clear HO_7; clear BK144; clear HB; have HO_7 := n0_; have BK144 := n1_; have HB := n2_; have BK149 := n3_; have GW149 := n4_; have GE149 := n5_; have NB144_149 := n6_; have NB149_144 := n7_; clear n0_ n1_ n2_ n3_ n4_ n5_ n6_ n7_; clear hb hbox hg; have hnb54 := NB149_144.out; have hnc54 := NB144_149.out; have hcz55_0 : w53.cell? ⟨gb149, 0, none⟩ = some (.int .i64 0) := (blk_cell BK149.out 0).trans rfl; have hcz55_1 : w53.cell? ⟨gb149, 1, none⟩ = some (.int .i64 0) := (blk_cell BK149.out 1).trans rfl; have hcz55_2 : w53.cell? ⟨gb149, 2, none⟩ = some (.int .i64 0) := (blk_cell BK149.out 2).trans rfl; have hcz55_3 : w53.cell? ⟨gb149, 3, none⟩ = some (.int .i64 0) := (blk_cell BK149.out 3).trans rfl; have hcz55_4 : w53.cell? ⟨gb149, 4, none⟩ = some (.int .i64 0) := (blk_cell BK149.out 4).trans rfl; have hfz55_0 := blk_frozen BK149.out 0; have hfz55_1 := blk_frozen BK149.out 1; have hfz55_2 := blk_frozen BK149.out 2; have hfz55_3 := blk_frozen BK149.out 3; have hfz55_4 := blk_frozen BK149.out 4) | ((with_reducible refine gate_store (t := 50) (p := 9) rfl ?_); refine store_event (t := 50) (p := 9) (v := ?vo_w56) (w1 := (((((w53.setCell ⟨gb149, 0, none⟩ (.int .i64 ((rd_T50 l0_1 x17_1).f0))).setCell ⟨gb149, 1, none⟩ (.int .i64 ((rd_T50 l0_1 x17_1).f1))).setCell ⟨gb149, 2, none⟩ (.int .i64 ((rd_T50 l0_1 x17_1).f2))).setCell ⟨gb149, 3, none⟩ (.int .i64 ((rd_T50 l0_1 x17_1).f3))).setCell ⟨gb149, 4, none⟩ (.int .i64 ((rd_T50 l0_1 x17_1).f4)))) ?hg ?ho ?hn ?hr ?_; (case ho => rfl); (case hg => rfl); (case hn => rfl); (case hr => first | (go_simp; done) | (go_simp; rfl)); intro w56 hw; have n0_ : Aside0 (Kd.R (Kd.int .i64) 3 w56 w.heap.size (fun _ => True) v146 x7_1) := ⟨(by rw [hw]; exact (by (with_reducible repeat (first | apply Kd.R_alloc | apply Kd.R_drewN | apply Kd.R_drew)); exact Kd.R_mono (Kd.R_far (p := ⟨gb149, 4, none⟩) (Kd.R_far (p := ⟨gb149, 3, none⟩) (Kd.R_far (p := ⟨gb149, 2, none⟩) (Kd.R_far (p := ⟨gb149, 1, none⟩) (Kd.R_far (p := ⟨gb149, 0, none⟩) (Kd.R_types HO_7.out BK149.out (by decide)) (fun _ hk => hk.2) (.int .i64 ((rd_T50 l0_1 x17_1).f0))) (fun _ hk => hk.2) (.int .i64 ((rd_T50 l0_1 x17_1).f1))) (fun _ hk => hk.2) (.int .i64 ((rd_T50 l0_1 x17_1).f2))) (fun _ hk => hk.2) (.int .i64 ((rd_T50 l0_1 x17_1).f3))) (fun _ hk => hk.2) (.int .i64 ((rd_T50 l0_1 x17_1).f4))) (fun _ hk => trivial)))⟩; have n1_ : Aside0 (w56.heap[gb144]? = some (.cells #[.int .i64 a0_0, .slice (some ad148) l0_1.length c0_1, .slice A0_2 l0_2.length c0_2, .slice A0_3 l0_3.length c0_3, .slice A0_4 l0_4.length c0_4] 38 (0, 0))) := ⟨(by rw [hw]; exact (by (with_reducible repeat (first | refine blk_drewN ?_ _ | refine blk_drew ?_ | refine blk_alloc ?_ _)); refine blk_far ?_ NB144_149.out _; (with_reducible repeat (first | refine blk_drewN ?_ _ | refine blk_drew ?_ | refine blk_alloc ?_ _)); refine blk_far ?_ NB144_149.out _; (with_reducible repeat (first | refine blk_drewN ?_ _ | refine blk_drew ?_ | refine blk_alloc ?_ _)); refine blk_far ?_ NB144_149.out _; (with_reducible repeat (first | refine blk_drewN ?_ _ | refine blk_drew ?_ | refine blk_alloc ?_ _)); refine blk_far ?_ NB144_149.out _; (with_reducible repeat (first | refine blk_drewN ?_ _ | refine blk_drew ?_ | refine blk_alloc ?_ _)); refine blk_far ?_ NB144_149.out _; (with_reducible repeat (first | refine blk_drewN ?_ _ | refine blk_drew ?_ | refine blk_alloc ?_ _)); exact BK144.out))⟩; have n2_ : Aside0 (w56.heap[gb149]? = some (.cells #[.int .i64 ((rd_T50 l0_1 x17_1).f0), .int .i64 ((rd_T50 l0_1 x17_1).f1), .int .i64 ((rd_T50 l0_1 x17_1).f2), .int .i64 ((rd_T50 l0_1 x17_1).f3), .int .i64 ((rd_T50 l0_1 x17_1).f4)] 50 (0, 0))) := ⟨(by rw [hw]; exact (by (with_reducible repeat (first | refine blk_drewN ?_ _ | refine blk_drew ?_ | refine blk_alloc ?_ _)); refine blk_put (cs := #[.int .i64 ((rd_T50 l0_1 x17_1).f0), .int .i64 ((rd_T50 l0_1 x17_1).f1), .int .i64 ((rd_T50 l0_1 x17_1).f2), .int .i64 ((rd_T50 l0_1 x17_1).f3), .int .i64 0]) ?_ 4 _ rfl; (with_reducible repeat (first | refine blk_drewN ?_ _ | refine blk_drew ?_ | refine blk_alloc ?_ _)); refine blk_put (cs := #[.int .i64 ((rd_T50 l0_1 x17_1).f0), .int .i64 ((rd_T50 l0_1 x17_1).f1), .int .i64 ((rd_T50 l0_1 x17_1).f2), .int .i64 0, .int .i64 0]) ?_ 3 _ rfl; (with_reducible repeat (first | refine blk_drewN ?_ _ | refine blk_drew ?_ | refine blk_alloc ?_ _)); refine blk_put (cs := #[.int .i64 ((rd_T50 l0_1 x17_1).f0), .int .i64 ((rd_T50 l0_1 x17_1).f1), .int .i64 0, .int .i64 0, .int .i64 0]) ?_ 2 _ rfl; (with_reducible repeat (first | refine blk_drewN ?_ _ | refine blk_drew ?_ | refine blk_alloc ?_ _)); refine blk_put (cs := #[.int .i64 ((rd_T50 l0_1 x17_1).f0), .int .i64 0, .int .i64 0, .int .i64 0, .int .i64 0]) ?_ 1 _ rfl; (with_reducible repeat (first | refine blk_drewN ?_ _ | refine blk_drew ?_ | refine blk_alloc ?_ _)); refine blk_put (cs := #[.int .i64 0, .int .i64 0, .int .i64 0, .int .i64 0, .int .i64 0]) ?_ 0 _ rfl; (with_reducible repeat (first | refine blk_drewN ?_ _ | refine blk_drew ?_ | refine blk_alloc ?_ _)); exact BK149.out))⟩; have n3_ : Aside0 (Below w.heap.size w w56) := ⟨(by rw [hw]; exact (by repeat (first | (with_reducible first | exact HB.out | apply below_alloc | apply pw_below_drewN | apply below_drew1 | refine below_set ?_ GE144.out | refine below_set ?_ GE149.out) | exact HB.out)))⟩; clear hw; clear HO_7; clear BK144; clear BK149; clear HB; have HO_7 := n0_; have BK144 := n1_; have BK149 := n2_; have HB := n3_; clear n0_ n1_ n2_ n3_; have hcz57_0 : w56.cell? ⟨gb149, 0, none⟩ = some (.int .i64 ((rd_T50 l0_1 x17_1).f0)) := (blk_cell BK149.out 0).trans rfl; have hcz57_1 : w56.cell? ⟨gb149, 1, none⟩ = some (.int .i64 ((rd_T50 l0_1 x17_1).f1)) := (blk_cell BK149.out 1).trans rfl; have hcz57_2 : w56.cell? ⟨gb149, 2, none⟩ = some (.int .i64 ((rd_T50 l0_1 x17_1).f2)) := (blk_cell BK149.out 2).trans rfl; have hcz57_3 : w56.cell? ⟨gb149, 3, none⟩ = some (.int .i64 ((rd_T50 l0_1 x17_1).f3)) := (blk_cell BK149.out 3).trans rfl; have hcz57_4 : w56.cell? ⟨gb149, 4, none⟩ = some (.int .i64 ((rd_T50 l0_1 x17_1).f4)) := (blk_cell BK149.out 4).trans rfl; have hfz57_0 := blk_frozen BK149.out 0; have hfz57_1 := blk_frozen BK149.out 1; have hfz57_2 := blk_frozen BK149.out 2; have hfz57_3 := blk_frozen BK149.out 3; have hfz57_4 := blk_frozen BK149.out 4; obtain ⟨Ao58, co58, eo58⟩ := Kd.R_slice HO_7.out; subst eo58; have p153 : 0 ≤ (((rd_T50 l0_1 x17_1).f1) : Int) := of_decide_eq_true (by first | (with_reducible assumption) | assumption); have q153 : ((rd_T50 l0_1 x17_1).f1) < (x7_1.length : Int) := of_decide_eq_true (by first | (with_reducible assumption) | assumption); obtain ⟨ad153, e153, hx153_0⟩ := Kd.at_int (Kd.R_reads' HO_7.out).2.2 ((rd_T50 l0_1 x17_1).f1) p153 q153; cases e153; replace p153 := eq_true p153; replace q153 := eq_true q153; have p52 : 0 ≤ (x17_1 : Int) := of_decide_eq_true (by first | (with_reducible assumption) | assumption); have q52 : (x17_1 : Int) < ((x7_1.length : Int) : Int) := of_decide_eq_true (by first | (with_reducible assumption) | assumption); obtain ⟨go52, co52, eo52, gb52, gl52, cl52, HG52⟩ := Kd.R_form HO_7.out (by omega); (first | cases eo52 | (injection eo52 with ea_ en_ ec_; (first | subst ea_ | (injection ea_ with ea_; subst ea_)); subst ec_; clear en_)); have GB52 := Aside0.mk gb52; have GG52 := Aside0.mk HG52; clear gb52 gl52 HG52; (first | simp only [add_plain] at hx153_0 | skip); obtain ⟨hx52_0, hf52_0⟩ := Kd.R_celln 0 HO_7.out (x17_1 : Int) p52 q52; replace p52 := eq_true p52; replace q52 := eq_true q52; obtain ⟨hy59_, hz59_⟩ := Kd.R_celln 0 HO_7.out (x17_1 : Int) (of_decide_eq_true (by first | (with_reducible assumption) | assumption)) (of_decide_eq_true (by first | (with_reducible assumption) | assumption)); have HP59 := Kd.R_putg HO_7.out (x17_1 : Int) (wrap64 (1 - (rd x7_1 ((rd_T50 l0_1 x17_1).f1))))) | ((with_reducible refine gate_store (t := 3) (p := 61) rfl ?_); refine store_event (t := 3) (p := 61) (v := ?vo_w60) (w1 := (w56.setCell ⟨go52, (x17_1 : Int).toNat, none⟩ (.int .i64 (wrap64 (1 - (rd x7_1 ((rd_T50 l0_1 x17_1).f1))))))) ?hg ?ho ?hn ?hr ?_; (case ho => rfl); (case hg => rfl); (case hn => rfl); (case hr => first | (go_simp; done) | (go_simp; rfl)); intro w60 hw; have hg : w56.grownBy w60 (some go52) := (by rw [hw]; exact HP59.2); have hp_ : Kd.R (Kd.int .i64) 3 w60 w.heap.size (fun _ => True) (.slice (some ⟨go52, 0, none⟩) x7_1.length co58) y154 := (by rw [hw, Ny154.out]; exact HP59.1); clear HP59; have n0_ := Aside0.mk (hp_); have n1_ := Aside0.mk (blk_grown (g := gb144) (o := .cells #[.int .i64 a0_0, .slice (some ad148) l0_1.length c0_1, .slice A0_2 l0_2.length c0_2, .slice A0_3 l0_3.length c0_3, .slice A0_4 l0_4.length c0_4] 38 (0, 0)) (by (with_reducible repeat (first | refine blk_drewN ?_ _ | refine blk_drew ?_ | refine blk_alloc ?_ _)); exact BK144.out) hg (Kd.R_ne HO_7.out BK144.out (by decide))); have n2_ := Aside0.mk (blk_grown (g := gb149) (o := .cells #[.int .i64 ((rd_T50 l0_1 x17_1).f0), .int .i64 ((rd_T50 l0_1 x17_1).f1), .int .i64 ((rd_T50 l0_1 x17_1).f2), .int .i64 ((rd_T50 l0_1 x17_1).f3), .int .i64 ((rd_T50 l0_1 x17_1).f4)] 50 (0, 0)) (by (with_reducible repeat (first | refine blk_drewN ?_ _ | refine blk_drew ?_ | refine blk_alloc ?_ _)); exact BK149.out) hg (Kd.R_ne HO_7.out BK149.out (by decide))); have n3_ := Aside0.mk ((by rw [hw]; exact below_set (HB.out) GB52.out : Below w.heap.size w w60)); clear HO_7; clear BK144; clear BK149; clear HB; have HO_7 := n0_; have BK144 := n1_; have BK149 := n2_; have HB := n3_; clear n0_ n1_ n2_ n3_; clear hg hw hp_))
                              go_roundg k1
                              case measure => have := HK1.out; omega
                              case rel => exact ⟨(y154), (wrap64 (x17_1 + 1)), (by first | rfl | (simp; done) | (simp [*]; done)), H', ⟨by have := HK1.out; omega⟩, ⟨by (with_reducible repeat (first | apply Kd.R_alloc | apply Kd.R_drewN | apply Kd.R_drew)); exact HO_7.out⟩, ⟨by (with_reducible repeat (first | refine blk_drewN ?_ _ | refine blk_drew ?_ | refine blk_alloc ?_ _)); exact BK144.out⟩, ⟨by repeat (first | (with_reducible first | exact HB.out | apply below_alloc | apply pw_below_drewN | apply below_drew1 | refine below_set ?_ GE144.out | refine below_set ?_ GE149.out) | exact HB.out)⟩⟩
                            · rw [if_neg c51] at H
                              exact absurd H (by simp)
                          · rw [if_neg c50] at H
                            exact absurd H (by simp)
                        · rw [if_neg c49] at H
                          exact absurd H (by simp)
                      · rw [if_neg c48] at H
                        have c48b0 : (((rd_T50 l0_1 x17_1).f0) == 3) = false := beq_eq_false_iff_ne.mpr c48
                        have c48b1 : (((rd_T50 l0_1 x17_1).f0) != 3) = true := bne_iff_ne.mpr c48
                        by_cases c61 : ((rd_T50 l0_1 x17_1).f0) = 4
                        · rw [if_pos c61] at H
                          have c61b0 : (((rd_T50 l0_1 x17_1).f0) == 4) = true := beq_iff_eq.mpr c61
                          have c61b1 : (((rd_T50 l0_1 x17_1).f0) != 4) = false := bne_eq_false_iff_eq.mpr c61
                          clear c61
                          by_cases c62 : 0 ≤ ((rd_T50 l0_1 x17_1).f1)
                          · rw [if_pos c62] at H
                            have c62b0 : decide (0 ≤ ((rd_T50 l0_1 x17_1).f1)) = true := decide_eq_true c62
                            clear c62
                            by_cases c63 : ((rd_T50 l0_1 x17_1).f1) < (x7_1.length : Int)
                            · rw [if_pos c63] at H
                              have c63b0 : decide (((rd_T50 l0_1 x17_1).f1) < (x7_1.length : Int)) = true := decide_eq_true c63
                              clear c63
                              by_cases c64 : 0 ≤ ((rd_T50 l0_1 x17_1).f2)
                              · rw [if_pos c64] at H
                                have c64b0 : decide (0 ≤ ((rd_T50 l0_1 x17_1).f2)) = true := decide_eq_true c64
                                clear c64
                                by_cases c65 : ((rd_T50 l0_1 x17_1).f2) < (x7_1.length : Int)
                                · rw [if_pos c65] at H
                                  have c65b0 : decide (((rd_T50 l0_1 x17_1).f2) < (x7_1.length : Int)) = true := decide_eq_true c65
                                  clear c65
                                  by_cases c66 : x17_1 < (x7_1.length : Int)
                                  · rw [if_pos c66] at H
                                    have c66b0 : decide (x17_1 < (x7_1.length : Int)) = true := decide_eq_true c66
                                    clear c66
                                    obtain ⟨y157, hy157⟩ : ∃ y_ : List Int, y_ = (x7_1.set (x17_1 : Int).toNat (Go.bits .and .i64 (rd x7_1 ((rd_T50 l0_1 x17_1).f1)) (rd x7_1 ((rd_T50 l0_1 x17_1).f2)))) := ⟨_, rfl⟩
                                    replace H : (gate_values.l0 k1 a1 a2 y157 l0_1 (l0_1.length : Int) (wrap64 (x17_1 + 1))) = some r := by first | (rw [hy157]; with_reducible exact H) | (have H2_ := (Option.bind_some _ _).symm.trans H; rw [hy157]; with_reducible exact H2_) | (have H2_ := (Option.bind_some _ _).symm.trans H; with_reducible exact H2_) | with_reducible exact H | (rw [hy157]; exact H) | exact H
                                    have Ny157 := Aside0.mk hy157
                                    clear hy157
                                    have H' := Aside0.mk H
                                    clear H
                                    have p148 : 0 ≤ (x17_1 : Int) := of_decide_eq_true (by first | (with_reducible assumption) | assumption)
                                    have q148 : x17_1 < (l0_1.length : Int) := of_decide_eq_true (by first | (with_reducible assumption) | assumption)
                                    obtain ⟨ad148, e148, hx148_0, hx148_1, hx148_2, hx148_3, hx148_4⟩ := at_T50 HR0_1.out x17_1 p148 q148
                                    cases e148
                                    replace hx148_0 := (HB.out.cell (World.block_lt_of_cell? w _ hx148_0)).trans hx148_0
                                    replace hx148_1 := (HB.out.cell (World.block_lt_of_cell? w _ hx148_1)).trans hx148_1
                                    replace hx148_2 := (HB.out.cell (World.block_lt_of_cell? w _ hx148_2)).trans hx148_2
                                    replace hx148_3 := (HB.out.cell (World.block_lt_of_cell? w _ hx148_3)).trans hx148_3
                                    replace hx148_4 := (HB.out.cell (World.block_lt_of_cell? w _ hx148_4)).trans hx148_4
                                    replace p148 := eq_true p148
                                    replace q148 := eq_true q148
                                    try go_wp2_with (first | ((with_reducible refine gate_dst (N := 9) rfl ?_); refine box_event ?hg (N := 9) ?hd (cs := #[.int .i64 0, .int .i64 0, .int .i64 0, .int .i64 0, .int .i64 0]) (t := 50) ?hr ?_; (case hd => rfl); (case hg => rfl); (case hr => first | (go_simp; done) | (go_simp; rfl)); intro gb149 hg w68 hbox hb; have n0_ := Aside0.mk (Kd.R_below (by (with_reducible repeat (first | apply Kd.R_alloc | apply Kd.R_drewN | apply Kd.R_drew)); exact HO_7.out) hb); have n1_ := Aside0.mk (blk_below (g := gb144) (o := .cells #[.int .i64 a0_0, .slice (some ad148) l0_1.length c0_1, .slice A0_2 l0_2.length c0_2, .slice A0_3 l0_3.length c0_3, .slice A0_4 l0_4.length c0_4] 38 (0, 0)) (by (with_reducible repeat (first | refine blk_drewN ?_ _ | refine blk_drew ?_ | refine blk_alloc ?_ _)); exact BK144.out) hb); have n2_ := Aside0.mk (below_step (by repeat (first | (with_reducible first | exact HB.out | apply below_alloc | apply pw_below_drewN | apply below_drew1 | refine below_set ?_ GE144.out) | exact HB.out)) hb); have n3_ := Aside0.mk (hbox); have n4_ := Aside0.mk ((by rw [hg]; exact (below_size (by repeat (first | (with_reducible first | exact HB.out | apply below_alloc | apply pw_below_drewN | apply below_drew1 | refine below_set ?_ GE144.out) | exact HB.out))) : w.heap.size ≤ gb149)); have n5_ := Aside0.mk ((by rw [hg]; exact (below_size (by repeat (first | (with_reducible first | exact HB.out | apply below_alloc | apply pw_below_drewN | apply below_drew1 | refine below_set ?_ GE144.out) | exact HB.out))) : w.heap.size ≤ gb149)); have n6_ := Aside0.mk ((by rw [hg]; exact Nat.ne_of_lt (blk_lt (g := gb144) (o := .cells #[.int .i64 a0_0, .slice (some ad148) l0_1.length c0_1, .slice A0_2 l0_2.length c0_2, .slice A0_3 l0_3.length c0_3, .slice A0_4 l0_4.length c0_4] 38 (0, 0)) (by (with_reducible repeat (first | refine blk_drewN ?_ _ | refine blk_drew ?_ | refine blk_alloc ?_ _)); exact BK144.out)) : gb144 ≠ gb149)); have n7_ := Aside0.mk ((by rw [hg]; exact Nat.ne_of_gt (blk_lt (g := gb144) (o := .cells #[.int .i64 a0_0, .slice (some ad148) l0_1.length c0_1, .slice A0_2 l0_2.length c0_2, .slice A0_3 l0_3.length c0_3, .slice A0_4 l0_4.length c0_4] 38 (0, 0)) (by (with_reducible repeat (first | refine blk_drewN ?_ _ | refine blk_drew ?_ | refine blk_alloc ?_ _)); exact BK144.out)) : gb149 ≠ gb144)); clear HO_7; clear BK144; clear HB; have HO_7 := n0_; have BK144 := n1_; have HB := n2_; have BK149 := n3_; have GW149 := n4_; have GE149 := n5_; have NB144_149 := n6_; have NB149_144 := n7_; clear n0_ n1_ n2_ n3_ n4_ n5_ n6_ n7_; clear hb hbox hg; have hnb69 := NB149_144.out; have hnc69 := NB144_149.out; have hcz70_0 : w68.cell? ⟨gb149, 0, none⟩ = some (.int .i64 0) := (blk_cell BK149.out 0).trans rfl; have hcz70_1 : w68.cell? ⟨gb149, 1, none⟩ = some (.int .i64 0) := (blk_cell BK149.out 1).trans rfl; have hcz70_2 : w68.cell? ⟨gb149, 2, none⟩ = some (.int .i64 0) := (blk_cell BK149.out 2).trans rfl; have hcz70_3 : w68.cell? ⟨gb149, 3, none⟩ = some (.int .i64 0) := (blk_cell BK149.out 3).trans rfl; have hcz70_4 : w68.cell? ⟨gb149, 4, none⟩ = some (.int .i64 0) := (blk_cell BK149.out 4).trans rfl; have hfz70_0 := blk_frozen BK149.out 0; have hfz70_1 := blk_frozen BK149.out 1; have hfz70_2 := blk_frozen BK149.out 2; have hfz70_3 := blk_frozen BK149.out 3; have hfz70_4 := blk_frozen BK149.out 4))
                                    have n0_ : Aside0 (Kd.R (Kd.int .i64) 3 (((((w68.setCell ⟨gb149, 0, none⟩ (.int .i64 ((rd_T50 l0_1 x17_1).f0))).setCell ⟨gb149, 1, none⟩ (.int .i64 ((rd_T50 l0_1 x17_1).f1))).setCell ⟨gb149, 2, none⟩ (.int .i64 ((rd_T50 l0_1 x17_1).f2))).setCell ⟨gb149, 3, none⟩ (.int .i64 ((rd_T50 l0_1 x17_1).f3))).setCell ⟨gb149, 4, none⟩ (.int .i64 ((rd_T50 l0_1 x17_1).f4))) w.heap.size (fun _ => True) v146 x7_1) := ⟨by (with_reducible repeat (first | apply Kd.R_alloc | apply Kd.R_drewN | apply Kd.R_drew)); exact Kd.R_mono (Kd.R_far (p := ⟨gb149, 4, none⟩) (Kd.R_far (p := ⟨gb149, 3, none⟩) (Kd.R_far (p := ⟨gb149, 2, none⟩) (Kd.R_far (p := ⟨gb149, 1, none⟩) (Kd.R_far (p := ⟨gb149, 0, none⟩) (Kd.R_types HO_7.out BK149.out (by decide)) (fun _ hk => hk.2) (.int .i64 ((rd_T50 l0_1 x17_1).f0))) (fun _ hk => hk.2) (.int .i64 ((rd_T50 l0_1 x17_1).f1))) (fun _ hk => hk.2) (.int .i64 ((rd_T50 l0_1 x17_1).f2))) (fun _ hk => hk.2) (.int .i64 ((rd_T50 l0_1 x17_1).f3))) (fun _ hk => hk.2) (.int .i64 ((rd_T50 l0_1 x17_1).f4))) (fun _ hk => trivial)⟩
                                    have n1_ : Aside0 ((((((w68.setCell ⟨gb149, 0, none⟩ (.int .i64 ((rd_T50 l0_1 x17_1).f0))).setCell ⟨gb149, 1, none⟩ (.int .i64 ((rd_T50 l0_1 x17_1).f1))).setCell ⟨gb149, 2, none⟩ (.int .i64 ((rd_T50 l0_1 x17_1).f2))).setCell ⟨gb149, 3, none⟩ (.int .i64 ((rd_T50 l0_1 x17_1).f3))).setCell ⟨gb149, 4, none⟩ (.int .i64 ((rd_T50 l0_1 x17_1).f4))).heap[gb144]? = some (.cells #[.int .i64 a0_0, .slice (some ad148) l0_1.length c0_1, .slice A0_2 l0_2.length c0_2, .slice A0_3 l0_3.length c0_3, .slice A0_4 l0_4.length c0_4] 38 (0, 0))) := ⟨by (with_reducible repeat (first | refine blk_drewN ?_ _ | refine blk_drew ?_ | refine blk_alloc ?_ _)); refine blk_far ?_ NB144_149.out _; (with_reducible repeat (first | refine blk_drewN ?_ _ | refine blk_drew ?_ | refine blk_alloc ?_ _)); refine blk_far ?_ NB144_149.out _; (with_reducible repeat (first | refine blk_drewN ?_ _ | refine blk_drew ?_ | refine blk_alloc ?_ _)); refine blk_far ?_ NB144_149.out _; (with_reducible repeat (first | refine blk_drewN ?_ _ | refine blk_drew ?_ | refine blk_alloc ?_ _)); refine blk_far ?_ NB144_149.out _; (with_reducible repeat (first | refine blk_drewN ?_ _ | refine blk_drew ?_ | refine blk_alloc ?_ _)); refine blk_far ?_ NB144_149.out _; (with_reducible repeat (first | refine blk_drewN ?_ _ | refine blk_drew ?_ | refine blk_alloc ?_ _)); exact BK144.out⟩
                                    have n2_ : Aside0 ((((((w68.setCell ⟨gb149, 0, none⟩ (.int .i64 ((rd_T50 l0_1 x17_1).f0))).setCell ⟨gb149, 1, none⟩ (.int .i64 ((rd_T50 l0_1 x17_1).f1))).setCell ⟨gb149, 2, none⟩ (.int .i64 ((rd_T50 l0_1 x17_1).f2))).setCell ⟨gb149, 3, none⟩ (.int .i64 ((rd_T50 l0_1 x17_1).f3))).setCell ⟨gb149, 4, none⟩ (.int .i64 ((rd_T50 l0_1 x17_1).f4))).heap[gb149]? = some (.cells #[.int .i64 ((rd_T50 l0_1 x17_1).f0), .int .i64 ((rd_T50 l0_1 x17_1).f1), .int .i64 ((rd_T50 l0_1 x17_1).f2), .int .i64 ((rd_T50 l0_1 x17_1).f3), .int .i64 ((rd_T50 l0_1 x17_1).f4)] 50 (0, 0))) := ⟨by (with_reducible repeat (first | refine blk_drewN ?_ _ | refine blk_drew ?_ | refine blk_alloc ?_ _)); refine blk_put (cs := #[.int .i64 ((rd_T50 l0_1 x17_1).f0), .int .i64 ((rd_T50 l0_1 x17_1).f1), .int .i64 ((rd_T50 l0_1 x17_1).f2), .int .i64 ((rd_T50 l0_1 x17_1).f3), .int .i64 0]) ?_ 4 _ rfl; (with_reducible repeat (first | refine blk_drewN ?_ _ | refine blk_drew ?_ | refine blk_alloc ?_ _)); refine blk_put (cs := #[.int .i64 ((rd_T50 l0_1 x17_1).f0), .int .i64 ((rd_T50 l0_1 x17_1).f1), .int .i64 ((rd_T50 l0_1 x17_1).f2), .int .i64 0, .int .i64 0]) ?_ 3 _ rfl; (with_reducible repeat (first | refine blk_drewN ?_ _ | refine blk_drew ?_ | refine blk_alloc ?_ _)); refine blk_put (cs := #[.int .i64 ((rd_T50 l0_1 x17_1).f0), .int .i64 ((rd_T50 l0_1 x17_1).f1), .int .i64 0, .int .i64 0, .int .i64 0]) ?_ 2 _ rfl; (with_reducible repeat (first | refine blk_drewN ?_ _ | refine blk_drew ?_ | refine blk_alloc ?_ _)); refine blk_put (cs := #[.int .i64 ((rd_T50 l0_1 x17_1).f0), .int .i64 0, .int .i64 0, .int .i64 0, .int .i64 0]) ?_ 1 _ rfl; (with_reducible repeat (first | refine blk_drewN ?_ _ | refine blk_drew ?_ | refine blk_alloc ?_ _)); refine blk_put (cs := #[.int .i64 0, .int .i64 0, .int .i64 0, .int .i64 0, .int .i64 0]) ?_ 0 _ rfl; (with_reducible repeat (first | refine blk_drewN ?_ _ | refine blk_drew ?_ | refine blk_alloc ?_ _)); exact BK149.out⟩
                                    have n3_ : Aside0 (Below w.heap.size w (((((w68.setCell ⟨gb149, 0, none⟩ (.int .i64 ((rd_T50 l0_1 x17_1).f0))).setCell ⟨gb149, 1, none⟩ (.int .i64 ((rd_T50 l0_1 x17_1).f1))).setCell ⟨gb149, 2, none⟩ (.int .i64 ((rd_T50 l0_1 x17_1).f2))).setCell ⟨gb149, 3, none⟩ (.int .i64 ((rd_T50 l0_1 x17_1).f3))).setCell ⟨gb149, 4, none⟩ (.int .i64 ((rd_T50 l0_1 x17_1).f4)))) := ⟨by repeat (first | (with_reducible first | exact HB.out | apply below_alloc | apply pw_below_drewN | apply below_drew1 | refine below_set ?_ GE144.out | refine below_set ?_ GE149.out) | exact HB.out)⟩
                                    (try clear HO_7)
                                    (try clear BK144)
                                    (try clear BK149)
                                    (try clear HB)
                                    generalize (((((w68.setCell ⟨gb149, 0, none⟩ (.int .i64 ((rd_T50 l0_1 x17_1).f0))).setCell ⟨gb149, 1, none⟩ (.int .i64 ((rd_T50 l0_1 x17_1).f1))).setCell ⟨gb149, 2, none⟩ (.int .i64 ((rd_T50 l0_1 x17_1).f2))).setCell ⟨gb149, 3, none⟩ (.int .i64 ((rd_T50 l0_1 x17_1).f3))).setCell ⟨gb149, 4, none⟩ (.int .i64 ((rd_T50 l0_1 x17_1).f4))) = w71 at n0_ n1_ n2_ n3_ ⊢
                                    have HO_7 := n0_
                                    have BK144 := n1_
                                    have BK149 := n2_
                                    have HB := n3_
                                    clear n0_ n1_ n2_ n3_
                                    have n0_ := Aside0.mk (Kd.R_drew HO_7.out)
                                    have n1_ := Aside0.mk (blk_drew BK144.out)
                                    have n2_ := Aside0.mk (blk_drew BK149.out)
                                    have n3_ := Aside0.mk (below_drew1 HB.out)
                                    clear HO_7
                                    clear BK144
                                    clear BK149
                                    clear HB
                                    have HO_7 := n0_
                                    have BK144 := n1_
                                    have BK149 := n2_
                                    have HB := n3_
                                    clear n0_ n1_ n2_ n3_
                                    obtain ⟨Ao73, co73, eo73⟩ := Kd.R_slice HO_7.out
                                    (first | subst eo73 | (injection eo73 with f1_ f2_ f3_; have f4_ := f1_.symm; have f5_ := f3_.symm; clear f1_ f2_ f3_; subst f4_; subst f5_))
                                    have p155 : 0 ≤ (((rd_T50 l0_1 x17_1).f1) : Int) := of_decide_eq_true (by first | (with_reducible assumption) | assumption)
                                    have q155 : ((rd_T50 l0_1 x17_1).f1) < (x7_1.length : Int) := of_decide_eq_true (by first | (with_reducible assumption) | assumption)
                                    obtain ⟨ad155, e155, hx155_0⟩ := Kd.at_int (Kd.R_reads' HO_7.out).2.2 ((rd_T50 l0_1 x17_1).f1) p155 q155
                                    cases e155
                                    replace p155 := eq_true p155
                                    replace q155 := eq_true q155
                                    have p156 : 0 ≤ (((rd_T50 l0_1 x17_1).f2) : Int) := of_decide_eq_true (by first | (with_reducible assumption) | assumption)
                                    have q156 : ((rd_T50 l0_1 x17_1).f2) < (x7_1.length : Int) := of_decide_eq_true (by first | (with_reducible assumption) | assumption)
                                    obtain ⟨ad156, e156, hx156_0⟩ := Kd.at_int (Kd.R_reads' HO_7.out).2.2 ((rd_T50 l0_1 x17_1).f2) p156 q156
                                    obtain rfl : ad155 = ad156 := (by injection e156)
                                    replace p156 := eq_true p156
                                    replace q156 := eq_true q156
                                    have p67 : 0 ≤ (x17_1 : Int) := of_decide_eq_true (by first | (with_reducible assumption) | assumption)
                                    have q67 : (x17_1 : Int) < ((x7_1.length : Int) : Int) := of_decide_eq_true (by first | (with_reducible assumption) | assumption)
                                    obtain ⟨go67, co67, eo67, gb67, gl67, cl67, HG67⟩ := Kd.R_form HO_7.out (by omega)
                                    (first | cases eo67 | (injection eo67 with ea_ en_ ec_; (first | subst ea_ | (injection ea_ with ea_; subst ea_)); subst ec_; clear en_))
                                    have GB67 := Aside0.mk gb67
                                    have GG67 := Aside0.mk HG67
                                    clear gb67 gl67 HG67
                                    (first | simp only [add_plain] at hx155_0 | skip)
                                    (first | simp only [add_plain] at hx156_0 | skip)
                                    obtain ⟨hx67_0, hf67_0⟩ := Kd.R_celln 0 HO_7.out (x17_1 : Int) p67 q67
                                    replace p67 := eq_true p67
                                    replace q67 := eq_true q67
                                    have HP74 := Kd.R_putn HO_7.out (x17_1 : Int) (Go.bits .and .i64 (rd x7_1 ((rd_T50 l0_1 x17_1).f1)) (rd x7_1 ((rd_T50 l0_1 x17_1).f2)))
                                    rw [← Ny157.out] at HP74
                                    have HQ74 := Aside0.mk HP74
                                    clear HP74
                                    refine start_ (n := 15) (S := fun w' => w'.cell? ⟨gb149, 0, none⟩ = some (.int .i64 ((rd_T50 l0_1 x17_1).f0)) ∧ w'.cell? ⟨gb149, 1, none⟩ = some (.int .i64 ((rd_T50 l0_1 x17_1).f1)) ∧ w'.cell? ⟨gb149, 2, none⟩ = some (.int .i64 ((rd_T50 l0_1 x17_1).f2)) ∧ w'.cell? ⟨gb149, 3, none⟩ = some (.int .i64 ((rd_T50 l0_1 x17_1).f3)) ∧ w'.cell? ⟨gb149, 4, none⟩ = some (.int .i64 ((rd_T50 l0_1 x17_1).f4)) ∧ w'.cell? ⟨go67, (((rd_T50 l0_1 x17_1).f1)).toNat, none⟩ = some (.int .i64 (rd x7_1 ((rd_T50 l0_1 x17_1).f1))) ∧ w'.cell? ⟨go67, (((rd_T50 l0_1 x17_1).f2)).toNat, none⟩ = some (.int .i64 (rd x7_1 ((rd_T50 l0_1 x17_1).f2)))) (ds := [14]) #[false, false, false, false, false, false, false, false, false, false, false, false, false, false, false] (by kernel_rfl) rfl rfl ⟨(blk_cell BK149.out 0).trans rfl, (blk_cell BK149.out 1).trans rfl, (blk_cell BK149.out 2).trans rfl, (blk_cell BK149.out 3).trans rfl, (blk_cell BK149.out 4).trans rfl, hx155_0, hx156_0⟩ (fun hHeld => ?_); refine with_tabW gate_values.tab15 gate_values.bits15 (fun HT_ HW_ => ?_)
                                    generalize w71.drew = w72 at HO_7 BK144 BK149 HB GG67 HQ74 hf67_0 hx155_0 hx156_0 hx67_0 hHeld ⊢
                                    refine pure_ (i := 0) (N := some 64) (v := ?_) (a' := ?_) #[true, false, false, false, false, false, false, false, false, false, false, false, false, false, false] rfl rfl (any_of HT_.out (by kernel_rfl)) (fun _ _ _ h => h) (Or.inl ⟨by rfl, ?_⟩) ?_ ?_
                                    rotate_left
                                    · intro w'
                                      go_simp
                                      with_reducible rfl
                                    rotate_left
                                    · simp only [Act.put, List.setIfInBounds_toArray, List.set_cons_zero, List.set_cons_succ, i64_w, i32_w]
                                      rfl
                                    refine pure_ (i := 1) (N := some 65) (v := ?_) (a' := ?_) #[true, true, false, false, false, false, false, false, false, false, false, false, false, false, false] rfl rfl (any_of HT_.out (by kernel_rfl)) (fun _ _ _ h => h) (Or.inl ⟨by rfl, ?_⟩) ?_ ?_
                                    rotate_left
                                    · intro w'
                                      go_simp
                                      with_reducible rfl
                                    rotate_left
                                    · simp only [Act.put, List.setIfInBounds_toArray, List.set_cons_zero, List.set_cons_succ, i64_w, i32_w]
                                      rfl
                                    refine pure_ (i := 2) (N := some 66) (v := ?_) (a' := ?_) #[true, true, true, false, false, false, false, false, false, false, false, false, false, false, false] rfl rfl (any_of HT_.out (by kernel_rfl)) (fun _ _ _ h => h) (Or.inl ⟨by rfl, ?_⟩) ?_ ?_
                                    rotate_left
                                    · intro w'
                                      go_simp
                                      with_reducible rfl
                                    rotate_left
                                    · simp only [Act.put, List.setIfInBounds_toArray, List.set_cons_zero, List.set_cons_succ, i64_w, i32_w]
                                      rfl
                                    refine pure_ (i := 3) (N := some 67) (v := ?_) (a' := ?_) #[true, true, true, true, false, false, false, false, false, false, false, false, false, false, false] rfl rfl (any_of HT_.out (by kernel_rfl)) (fun _ _ _ h => h) (Or.inl ⟨by rfl, ?_⟩) ?_ ?_
                                    rotate_left
                                    · intro w'
                                      go_simp
                                      with_reducible rfl
                                    rotate_left
                                    · simp only [Act.put, List.setIfInBounds_toArray, List.set_cons_zero, List.set_cons_succ, i64_w, i32_w]
                                      rfl
                                    refine pure_ (i := 7) (N := some 71) (v := ?_) (a' := ?_) #[true, true, true, true, false, false, false, true, false, false, false, false, false, false, false] rfl rfl (any_of HT_.out (by kernel_rfl)) (fun _ _ _ h => h) (Or.inl ⟨by rfl, ?_⟩) ?_ ?_
                                    rotate_left
                                    · intro w'
                                      go_simp
                                      with_reducible rfl
                                    rotate_left
                                    · simp only [Act.put, List.setIfInBounds_toArray, List.set_cons_zero, List.set_cons_succ, i64_w, i32_w]
                                      rfl
                                    refine pure_ (i := 8) (N := some 72) (v := ?_) (a' := ?_) #[true, true, true, true, false, false, false, true, true, false, false, false, false, false, false] rfl rfl (any_of HT_.out (by kernel_rfl)) (fun _ _ _ h => h) (Or.inl ⟨by rfl, ?_⟩) ?_ ?_
                                    rotate_left
                                    · intro w'
                                      go_simp
                                      with_reducible rfl
                                    rotate_left
                                    · simp only [Act.put, List.setIfInBounds_toArray, List.set_cons_zero, List.set_cons_succ, i64_w, i32_w]
                                      rfl
                                    refine take_ (i := 4) (N := some 68) (v := ?_) (a' := ?_) #[true, true, true, true, true, false, false, true, true, false, false, false, false, false, false] rfl rfl (take_ofW HT_.out HW_.out (by kernel_rfl)) (fun _ _ _ h => h) (Or.inl ⟨by rfl, ?_⟩) hHeld ?_ ?_
                                    rotate_left
                                    · rintro w' ⟨s0, s1, s2, s3, s4, s5, s6⟩
                                      go_simp
                                      with_reducible rfl
                                    rotate_left
                                    · simp only [Act.put, List.setIfInBounds_toArray, List.set_cons_zero, List.set_cons_succ, i64_w, i32_w]
                                      rfl
                                    refine pure_ (i := 5) (N := some 69) (v := ?_) (a' := ?_) #[true, true, true, true, true, true, false, true, true, false, false, false, false, false, false] rfl rfl (any_of HT_.out (by kernel_rfl)) (fun _ _ _ h => h) (Or.inl ⟨by rfl, ?_⟩) ?_ ?_
                                    rotate_left
                                    · intro w'
                                      go_simp
                                      with_reducible rfl
                                    rotate_left
                                    · simp only [Act.put, List.setIfInBounds_toArray, List.set_cons_zero, List.set_cons_succ, i64_w, i32_w]
                                      rfl
                                    refine take_ (i := 6) (N := some 70) (v := ?_) (a' := ?_) #[true, true, true, true, true, true, true, true, true, false, false, false, false, false, false] rfl rfl (take_ofW HT_.out HW_.out (by kernel_rfl)) (fun _ _ _ h => h) (Or.inl ⟨by rfl, ?_⟩) hHeld ?_ ?_
                                    rotate_left
                                    · rintro w' ⟨s0, s1, s2, s3, s4, s5, s6⟩
                                      go_simp
                                      with_reducible rfl
                                    rotate_left
                                    · simp only [Act.put, List.setIfInBounds_toArray, List.set_cons_zero, List.set_cons_succ, i64_w, i32_w]
                                      rfl
                                    refine take_ (i := 9) (N := some 73) (v := ?_) (a' := ?_) #[true, true, true, true, true, true, true, true, true, true, false, false, false, false, false] rfl rfl (take_ofW HT_.out HW_.out (by kernel_rfl)) (fun _ _ _ h => h) (Or.inl ⟨by rfl, ?_⟩) hHeld ?_ ?_
                                    rotate_left
                                    · rintro w' ⟨s0, s1, s2, s3, s4, s5, s6⟩
                                      go_simp
                                      with_reducible rfl
                                    rotate_left
                                    · simp only [Act.put, List.setIfInBounds_toArray, List.set_cons_zero, List.set_cons_succ, i64_w, i32_w]
                                      rfl
                                    refine pure_ (i := 10) (N := some 74) (v := ?_) (a' := ?_) #[true, true, true, true, true, true, true, true, true, true, true, false, false, false, false] rfl rfl (any_of HT_.out (by kernel_rfl)) (fun _ _ _ h => h) (Or.inl ⟨by rfl, ?_⟩) ?_ ?_
                                    rotate_left
                                    · intro w'
                                      go_simp
                                      with_reducible rfl
                                    rotate_left
                                    · simp only [Act.put, List.setIfInBounds_toArray, List.set_cons_zero, List.set_cons_succ, i64_w, i32_w]
                                      rfl
                                    refine take_ (i := 11) (N := some 75) (v := ?_) (a' := ?_) #[true, true, true, true, true, true, true, true, true, true, true, true, false, false, false] rfl rfl (take_ofW HT_.out HW_.out (by kernel_rfl)) (fun _ _ _ h => h) (Or.inl ⟨by rfl, ?_⟩) hHeld ?_ ?_
                                    rotate_left
                                    · rintro w' ⟨s0, s1, s2, s3, s4, s5, s6⟩
                                      go_simp
                                      with_reducible rfl
                                    rotate_left
                                    · simp only [Act.put, List.setIfInBounds_toArray, List.set_cons_zero, List.set_cons_succ, i64_w, i32_w]
                                      rfl
                                    refine pure_ (i := 12) (N := some 76) (v := ?_) (a' := ?_) #[true, true, true, true, true, true, true, true, true, true, true, true, true, false, false] rfl rfl (any_of HT_.out (by kernel_rfl)) (fun _ _ _ h => h) (Or.inl ⟨by rfl, ?_⟩) ?_ ?_
                                    rotate_left
                                    · intro w'
                                      go_simp
                                      with_reducible rfl
                                    rotate_left
                                    · simp only [Act.put, List.setIfInBounds_toArray, List.set_cons_zero, List.set_cons_succ, i64_w, i32_w]
                                      rfl
                                    refine pure_ (i := 13) (N := some 77) (v := ?_) (a' := ?_) #[true, true, true, true, true, true, true, true, true, true, true, true, true, true, false] rfl rfl (any_of HT_.out (by kernel_rfl)) (fun _ _ _ h => h) (Or.inl ⟨by rfl, ?_⟩) ?_ ?_
                                    rotate_left
                                    · intro w'
                                      go_simp
                                      with_reducible rfl
                                    rotate_left
                                    · simp only [Act.put, List.setIfInBounds_toArray, List.set_cons_zero, List.set_cons_succ, i64_w, i32_w]
                                      rfl
                                    refine last_ (i := 14) (N := none) #[true, true, true, true, true, true, true, true, true, true, true, true, true, true, true] rfl rfl (one_of HT_.out (by kernel_rfl)) (by decide) (fun K hK => ?_)
                                    refine skip_ (w1 := ?_) (by rfl) rfl ?_ ?_
                                    rotate_left
                                    · go_simp
                                      rfl
                                    refine hK.out _ _ ?_
                                    clear hK K
                                    refine done_ (done_of HT_.out (by kernel_rfl)) ?_
                                    try go_wp2
                                    go_roundg k1
                                    case measure => have := HK1.out; omega
                                    case rel => exact ⟨(y157), (wrap64 (x17_1 + 1)), (by first | rfl | (simp; done) | (simp [*]; done)), H', ⟨by have := HK1.out; omega⟩, ⟨by (with_reducible repeat (first | apply Kd.R_alloc | apply Kd.R_drewN | apply Kd.R_drew)); exact HQ74.out⟩, ⟨by (with_reducible repeat (first | refine blk_drewN ?_ _ | refine blk_drew ?_ | refine blk_alloc ?_ _)); refine blk_far ?_ (by have h_ := Kd.R_ne HO_7.out BK144.out (by decide); intro e_; exact h_ (by rw [e_]; rfl)) _; (with_reducible repeat (first | refine blk_drewN ?_ _ | refine blk_drew ?_ | refine blk_alloc ?_ _)); exact BK144.out⟩, ⟨by repeat (first | (with_reducible first | exact HB.out | apply below_alloc | apply pw_below_drewN | apply below_drew1 | refine below_set ?_ GB67.out | refine below_set ?_ GE144.out | refine below_set ?_ GE149.out) | exact HB.out)⟩⟩
                                  · rw [if_neg c66] at H
                                    exact absurd H (by simp)
                                · rw [if_neg c65] at H
                                  exact absurd H (by simp)
                              · rw [if_neg c64] at H
                                exact absurd H (by simp)
                            · rw [if_neg c63] at H
                              exact absurd H (by simp)
                          · rw [if_neg c62] at H
                            exact absurd H (by simp)
                        · rw [if_neg c61] at H
                          have c61b0 : (((rd_T50 l0_1 x17_1).f0) == 4) = false := beq_eq_false_iff_ne.mpr c61
                          have c61b1 : (((rd_T50 l0_1 x17_1).f0) != 4) = true := bne_iff_ne.mpr c61
                          by_cases c75 : ((rd_T50 l0_1 x17_1).f0) = 5
                          · rw [if_pos c75] at H
                            have c75b0 : (((rd_T50 l0_1 x17_1).f0) == 5) = true := beq_iff_eq.mpr c75
                            have c75b1 : (((rd_T50 l0_1 x17_1).f0) != 5) = false := bne_eq_false_iff_eq.mpr c75
                            clear c75
                            by_cases c76 : 0 ≤ ((rd_T50 l0_1 x17_1).f1)
                            · rw [if_pos c76] at H
                              have c76b0 : decide (0 ≤ ((rd_T50 l0_1 x17_1).f1)) = true := decide_eq_true c76
                              clear c76
                              by_cases c77 : ((rd_T50 l0_1 x17_1).f1) < (x7_1.length : Int)
                              · rw [if_pos c77] at H
                                have c77b0 : decide (((rd_T50 l0_1 x17_1).f1) < (x7_1.length : Int)) = true := decide_eq_true c77
                                clear c77
                                by_cases c78 : 0 ≤ ((rd_T50 l0_1 x17_1).f2)
                                · rw [if_pos c78] at H
                                  have c78b0 : decide (0 ≤ ((rd_T50 l0_1 x17_1).f2)) = true := decide_eq_true c78
                                  clear c78
                                  by_cases c79 : ((rd_T50 l0_1 x17_1).f2) < (x7_1.length : Int)
                                  · rw [if_pos c79] at H
                                    have c79b0 : decide (((rd_T50 l0_1 x17_1).f2) < (x7_1.length : Int)) = true := decide_eq_true c79
                                    clear c79
                                    by_cases c80 : x17_1 < (x7_1.length : Int)
                                    · rw [if_pos c80] at H
                                      have c80b0 : decide (x17_1 < (x7_1.length : Int)) = true := decide_eq_true c80
                                      clear c80
                                      obtain ⟨y160, hy160⟩ : ∃ y_ : List Int, y_ = (x7_1.set (x17_1 : Int).toNat (Go.bits .or .i64 (rd x7_1 ((rd_T50 l0_1 x17_1).f1)) (rd x7_1 ((rd_T50 l0_1 x17_1).f2)))) := ⟨_, rfl⟩
                                      replace H : (gate_values.l0 k1 a1 a2 y160 l0_1 (l0_1.length : Int) (wrap64 (x17_1 + 1))) = some r := by first | (rw [hy160]; with_reducible exact H) | (have H2_ := (Option.bind_some _ _).symm.trans H; rw [hy160]; with_reducible exact H2_) | (have H2_ := (Option.bind_some _ _).symm.trans H; with_reducible exact H2_) | with_reducible exact H | (rw [hy160]; exact H) | exact H
                                      have Ny160 := Aside0.mk hy160
                                      clear hy160
                                      have H' := Aside0.mk H
                                      clear H
                                      have p148 : 0 ≤ (x17_1 : Int) := of_decide_eq_true (by first | (with_reducible assumption) | assumption)
                                      have q148 : x17_1 < (l0_1.length : Int) := of_decide_eq_true (by first | (with_reducible assumption) | assumption)
                                      obtain ⟨ad148, e148, hx148_0, hx148_1, hx148_2, hx148_3, hx148_4⟩ := at_T50 HR0_1.out x17_1 p148 q148
                                      cases e148
                                      replace hx148_0 := (HB.out.cell (World.block_lt_of_cell? w _ hx148_0)).trans hx148_0
                                      replace hx148_1 := (HB.out.cell (World.block_lt_of_cell? w _ hx148_1)).trans hx148_1
                                      replace hx148_2 := (HB.out.cell (World.block_lt_of_cell? w _ hx148_2)).trans hx148_2
                                      replace hx148_3 := (HB.out.cell (World.block_lt_of_cell? w _ hx148_3)).trans hx148_3
                                      replace hx148_4 := (HB.out.cell (World.block_lt_of_cell? w _ hx148_4)).trans hx148_4
                                      replace p148 := eq_true p148
                                      replace q148 := eq_true q148
                                      try go_wp2_with (first | ((with_reducible refine gate_dst (N := 9) rfl ?_); refine box_event ?hg (N := 9) ?hd (cs := #[.int .i64 0, .int .i64 0, .int .i64 0, .int .i64 0, .int .i64 0]) (t := 50) ?hr ?_; (case hd => rfl); (case hg => rfl); (case hr => first | (go_simp; done) | (go_simp; rfl)); intro gb149 hg w82 hbox hb; have n0_ := Aside0.mk (Kd.R_below (by (with_reducible repeat (first | apply Kd.R_alloc | apply Kd.R_drewN | apply Kd.R_drew)); exact HO_7.out) hb); have n1_ := Aside0.mk (blk_below (g := gb144) (o := .cells #[.int .i64 a0_0, .slice (some ad148) l0_1.length c0_1, .slice A0_2 l0_2.length c0_2, .slice A0_3 l0_3.length c0_3, .slice A0_4 l0_4.length c0_4] 38 (0, 0)) (by (with_reducible repeat (first | refine blk_drewN ?_ _ | refine blk_drew ?_ | refine blk_alloc ?_ _)); exact BK144.out) hb); have n2_ := Aside0.mk (below_step (by repeat (first | (with_reducible first | exact HB.out | apply below_alloc | apply pw_below_drewN | apply below_drew1 | refine below_set ?_ GE144.out) | exact HB.out)) hb); have n3_ := Aside0.mk (hbox); have n4_ := Aside0.mk ((by rw [hg]; exact (below_size (by repeat (first | (with_reducible first | exact HB.out | apply below_alloc | apply pw_below_drewN | apply below_drew1 | refine below_set ?_ GE144.out) | exact HB.out))) : w.heap.size ≤ gb149)); have n5_ := Aside0.mk ((by rw [hg]; exact (below_size (by repeat (first | (with_reducible first | exact HB.out | apply below_alloc | apply pw_below_drewN | apply below_drew1 | refine below_set ?_ GE144.out) | exact HB.out))) : w.heap.size ≤ gb149)); have n6_ := Aside0.mk ((by rw [hg]; exact Nat.ne_of_lt (blk_lt (g := gb144) (o := .cells #[.int .i64 a0_0, .slice (some ad148) l0_1.length c0_1, .slice A0_2 l0_2.length c0_2, .slice A0_3 l0_3.length c0_3, .slice A0_4 l0_4.length c0_4] 38 (0, 0)) (by (with_reducible repeat (first | refine blk_drewN ?_ _ | refine blk_drew ?_ | refine blk_alloc ?_ _)); exact BK144.out)) : gb144 ≠ gb149)); have n7_ := Aside0.mk ((by rw [hg]; exact Nat.ne_of_gt (blk_lt (g := gb144) (o := .cells #[.int .i64 a0_0, .slice (some ad148) l0_1.length c0_1, .slice A0_2 l0_2.length c0_2, .slice A0_3 l0_3.length c0_3, .slice A0_4 l0_4.length c0_4] 38 (0, 0)) (by (with_reducible repeat (first | refine blk_drewN ?_ _ | refine blk_drew ?_ | refine blk_alloc ?_ _)); exact BK144.out)) : gb149 ≠ gb144)); clear HO_7; clear BK144; clear HB; have HO_7 := n0_; have BK144 := n1_; have HB := n2_; have BK149 := n3_; have GW149 := n4_; have GE149 := n5_; have NB144_149 := n6_; have NB149_144 := n7_; clear n0_ n1_ n2_ n3_ n4_ n5_ n6_ n7_; clear hb hbox hg; have hnb83 := NB149_144.out; have hnc83 := NB144_149.out; have hcz84_0 : w82.cell? ⟨gb149, 0, none⟩ = some (.int .i64 0) := (blk_cell BK149.out 0).trans rfl; have hcz84_1 : w82.cell? ⟨gb149, 1, none⟩ = some (.int .i64 0) := (blk_cell BK149.out 1).trans rfl; have hcz84_2 : w82.cell? ⟨gb149, 2, none⟩ = some (.int .i64 0) := (blk_cell BK149.out 2).trans rfl; have hcz84_3 : w82.cell? ⟨gb149, 3, none⟩ = some (.int .i64 0) := (blk_cell BK149.out 3).trans rfl; have hcz84_4 : w82.cell? ⟨gb149, 4, none⟩ = some (.int .i64 0) := (blk_cell BK149.out 4).trans rfl; have hfz84_0 := blk_frozen BK149.out 0; have hfz84_1 := blk_frozen BK149.out 1; have hfz84_2 := blk_frozen BK149.out 2; have hfz84_3 := blk_frozen BK149.out 3; have hfz84_4 := blk_frozen BK149.out 4))
                                      have n0_ : Aside0 (Kd.R (Kd.int .i64) 3 (((((w82.setCell ⟨gb149, 0, none⟩ (.int .i64 ((rd_T50 l0_1 x17_1).f0))).setCell ⟨gb149, 1, none⟩ (.int .i64 ((rd_T50 l0_1 x17_1).f1))).setCell ⟨gb149, 2, none⟩ (.int .i64 ((rd_T50 l0_1 x17_1).f2))).setCell ⟨gb149, 3, none⟩ (.int .i64 ((rd_T50 l0_1 x17_1).f3))).setCell ⟨gb149, 4, none⟩ (.int .i64 ((rd_T50 l0_1 x17_1).f4))) w.heap.size (fun _ => True) v146 x7_1) := ⟨by (with_reducible repeat (first | apply Kd.R_alloc | apply Kd.R_drewN | apply Kd.R_drew)); exact Kd.R_mono (Kd.R_far (p := ⟨gb149, 4, none⟩) (Kd.R_far (p := ⟨gb149, 3, none⟩) (Kd.R_far (p := ⟨gb149, 2, none⟩) (Kd.R_far (p := ⟨gb149, 1, none⟩) (Kd.R_far (p := ⟨gb149, 0, none⟩) (Kd.R_types HO_7.out BK149.out (by decide)) (fun _ hk => hk.2) (.int .i64 ((rd_T50 l0_1 x17_1).f0))) (fun _ hk => hk.2) (.int .i64 ((rd_T50 l0_1 x17_1).f1))) (fun _ hk => hk.2) (.int .i64 ((rd_T50 l0_1 x17_1).f2))) (fun _ hk => hk.2) (.int .i64 ((rd_T50 l0_1 x17_1).f3))) (fun _ hk => hk.2) (.int .i64 ((rd_T50 l0_1 x17_1).f4))) (fun _ hk => trivial)⟩
                                      have n1_ : Aside0 ((((((w82.setCell ⟨gb149, 0, none⟩ (.int .i64 ((rd_T50 l0_1 x17_1).f0))).setCell ⟨gb149, 1, none⟩ (.int .i64 ((rd_T50 l0_1 x17_1).f1))).setCell ⟨gb149, 2, none⟩ (.int .i64 ((rd_T50 l0_1 x17_1).f2))).setCell ⟨gb149, 3, none⟩ (.int .i64 ((rd_T50 l0_1 x17_1).f3))).setCell ⟨gb149, 4, none⟩ (.int .i64 ((rd_T50 l0_1 x17_1).f4))).heap[gb144]? = some (.cells #[.int .i64 a0_0, .slice (some ad148) l0_1.length c0_1, .slice A0_2 l0_2.length c0_2, .slice A0_3 l0_3.length c0_3, .slice A0_4 l0_4.length c0_4] 38 (0, 0))) := ⟨by (with_reducible repeat (first | refine blk_drewN ?_ _ | refine blk_drew ?_ | refine blk_alloc ?_ _)); refine blk_far ?_ NB144_149.out _; (with_reducible repeat (first | refine blk_drewN ?_ _ | refine blk_drew ?_ | refine blk_alloc ?_ _)); refine blk_far ?_ NB144_149.out _; (with_reducible repeat (first | refine blk_drewN ?_ _ | refine blk_drew ?_ | refine blk_alloc ?_ _)); refine blk_far ?_ NB144_149.out _; (with_reducible repeat (first | refine blk_drewN ?_ _ | refine blk_drew ?_ | refine blk_alloc ?_ _)); refine blk_far ?_ NB144_149.out _; (with_reducible repeat (first | refine blk_drewN ?_ _ | refine blk_drew ?_ | refine blk_alloc ?_ _)); refine blk_far ?_ NB144_149.out _; (with_reducible repeat (first | refine blk_drewN ?_ _ | refine blk_drew ?_ | refine blk_alloc ?_ _)); exact BK144.out⟩
                                      have n2_ : Aside0 ((((((w82.setCell ⟨gb149, 0, none⟩ (.int .i64 ((rd_T50 l0_1 x17_1).f0))).setCell ⟨gb149, 1, none⟩ (.int .i64 ((rd_T50 l0_1 x17_1).f1))).setCell ⟨gb149, 2, none⟩ (.int .i64 ((rd_T50 l0_1 x17_1).f2))).setCell ⟨gb149, 3, none⟩ (.int .i64 ((rd_T50 l0_1 x17_1).f3))).setCell ⟨gb149, 4, none⟩ (.int .i64 ((rd_T50 l0_1 x17_1).f4))).heap[gb149]? = some (.cells #[.int .i64 ((rd_T50 l0_1 x17_1).f0), .int .i64 ((rd_T50 l0_1 x17_1).f1), .int .i64 ((rd_T50 l0_1 x17_1).f2), .int .i64 ((rd_T50 l0_1 x17_1).f3), .int .i64 ((rd_T50 l0_1 x17_1).f4)] 50 (0, 0))) := ⟨by (with_reducible repeat (first | refine blk_drewN ?_ _ | refine blk_drew ?_ | refine blk_alloc ?_ _)); refine blk_put (cs := #[.int .i64 ((rd_T50 l0_1 x17_1).f0), .int .i64 ((rd_T50 l0_1 x17_1).f1), .int .i64 ((rd_T50 l0_1 x17_1).f2), .int .i64 ((rd_T50 l0_1 x17_1).f3), .int .i64 0]) ?_ 4 _ rfl; (with_reducible repeat (first | refine blk_drewN ?_ _ | refine blk_drew ?_ | refine blk_alloc ?_ _)); refine blk_put (cs := #[.int .i64 ((rd_T50 l0_1 x17_1).f0), .int .i64 ((rd_T50 l0_1 x17_1).f1), .int .i64 ((rd_T50 l0_1 x17_1).f2), .int .i64 0, .int .i64 0]) ?_ 3 _ rfl; (with_reducible repeat (first | refine blk_drewN ?_ _ | refine blk_drew ?_ | refine blk_alloc ?_ _)); refine blk_put (cs := #[.int .i64 ((rd_T50 l0_1 x17_1).f0), .int .i64 ((rd_T50 l0_1 x17_1).f1), .int .i64 0, .int .i64 0, .int .i64 0]) ?_ 2 _ rfl; (with_reducible repeat (first | refine blk_drewN ?_ _ | refine blk_drew ?_ | refine blk_alloc ?_ _)); refine blk_put (cs := #[.int .i64 ((rd_T50 l0_1 x17_1).f0), .int .i64 0, .int .i64 0, .int .i64 0, .int .i64 0]) ?_ 1 _ rfl; (with_reducible repeat (first | refine blk_drewN ?_ _ | refine blk_drew ?_ | refine blk_alloc ?_ _)); refine blk_put (cs := #[.int .i64 0, .int .i64 0, .int .i64 0, .int .i64 0, .int .i64 0]) ?_ 0 _ rfl; (with_reducible repeat (first | refine blk_drewN ?_ _ | refine blk_drew ?_ | refine blk_alloc ?_ _)); exact BK149.out⟩
                                      have n3_ : Aside0 (Below w.heap.size w (((((w82.setCell ⟨gb149, 0, none⟩ (.int .i64 ((rd_T50 l0_1 x17_1).f0))).setCell ⟨gb149, 1, none⟩ (.int .i64 ((rd_T50 l0_1 x17_1).f1))).setCell ⟨gb149, 2, none⟩ (.int .i64 ((rd_T50 l0_1 x17_1).f2))).setCell ⟨gb149, 3, none⟩ (.int .i64 ((rd_T50 l0_1 x17_1).f3))).setCell ⟨gb149, 4, none⟩ (.int .i64 ((rd_T50 l0_1 x17_1).f4)))) := ⟨by repeat (first | (with_reducible first | exact HB.out | apply below_alloc | apply pw_below_drewN | apply below_drew1 | refine below_set ?_ GE144.out | refine below_set ?_ GE149.out) | exact HB.out)⟩
                                      (try clear HO_7)
                                      (try clear BK144)
                                      (try clear BK149)
                                      (try clear HB)
                                      generalize (((((w82.setCell ⟨gb149, 0, none⟩ (.int .i64 ((rd_T50 l0_1 x17_1).f0))).setCell ⟨gb149, 1, none⟩ (.int .i64 ((rd_T50 l0_1 x17_1).f1))).setCell ⟨gb149, 2, none⟩ (.int .i64 ((rd_T50 l0_1 x17_1).f2))).setCell ⟨gb149, 3, none⟩ (.int .i64 ((rd_T50 l0_1 x17_1).f3))).setCell ⟨gb149, 4, none⟩ (.int .i64 ((rd_T50 l0_1 x17_1).f4))) = w85 at n0_ n1_ n2_ n3_ ⊢
                                      have HO_7 := n0_
                                      have BK144 := n1_
                                      have BK149 := n2_
                                      have HB := n3_
                                      clear n0_ n1_ n2_ n3_
                                      have n0_ := Aside0.mk (Kd.R_drew HO_7.out)
                                      have n1_ := Aside0.mk (blk_drew BK144.out)
                                      have n2_ := Aside0.mk (blk_drew BK149.out)
                                      have n3_ := Aside0.mk (below_drew1 HB.out)
                                      clear HO_7
                                      clear BK144
                                      clear BK149
                                      clear HB
                                      have HO_7 := n0_
                                      have BK144 := n1_
                                      have BK149 := n2_
                                      have HB := n3_
                                      clear n0_ n1_ n2_ n3_
                                      obtain ⟨Ao87, co87, eo87⟩ := Kd.R_slice HO_7.out
                                      (first | subst eo87 | (injection eo87 with f1_ f2_ f3_; have f4_ := f1_.symm; have f5_ := f3_.symm; clear f1_ f2_ f3_; subst f4_; subst f5_))
                                      have p158 : 0 ≤ (((rd_T50 l0_1 x17_1).f1) : Int) := of_decide_eq_true (by first | (with_reducible assumption) | assumption)
                                      have q158 : ((rd_T50 l0_1 x17_1).f1) < (x7_1.length : Int) := of_decide_eq_true (by first | (with_reducible assumption) | assumption)
                                      obtain ⟨ad158, e158, hx158_0⟩ := Kd.at_int (Kd.R_reads' HO_7.out).2.2 ((rd_T50 l0_1 x17_1).f1) p158 q158
                                      cases e158
                                      replace p158 := eq_true p158
                                      replace q158 := eq_true q158
                                      have p159 : 0 ≤ (((rd_T50 l0_1 x17_1).f2) : Int) := of_decide_eq_true (by first | (with_reducible assumption) | assumption)
                                      have q159 : ((rd_T50 l0_1 x17_1).f2) < (x7_1.length : Int) := of_decide_eq_true (by first | (with_reducible assumption) | assumption)
                                      obtain ⟨ad159, e159, hx159_0⟩ := Kd.at_int (Kd.R_reads' HO_7.out).2.2 ((rd_T50 l0_1 x17_1).f2) p159 q159
                                      obtain rfl : ad158 = ad159 := (by injection e159)
                                      replace p159 := eq_true p159
                                      replace q159 := eq_true q159
                                      have p81 : 0 ≤ (x17_1 : Int) := of_decide_eq_true (by first | (with_reducible assumption) | assumption)
                                      have q81 : (x17_1 : Int) < ((x7_1.length : Int) : Int) := of_decide_eq_true (by first | (with_reducible assumption) | assumption)
                                      obtain ⟨go81, co81, eo81, gb81, gl81, cl81, HG81⟩ := Kd.R_form HO_7.out (by omega)
                                      (first | cases eo81 | (injection eo81 with ea_ en_ ec_; (first | subst ea_ | (injection ea_ with ea_; subst ea_)); subst ec_; clear en_))
                                      have GB81 := Aside0.mk gb81
                                      have GG81 := Aside0.mk HG81
                                      clear gb81 gl81 HG81
                                      (first | simp only [add_plain] at hx158_0 | skip)
                                      (first | simp only [add_plain] at hx159_0 | skip)
                                      obtain ⟨hx81_0, hf81_0⟩ := Kd.R_celln 0 HO_7.out (x17_1 : Int) p81 q81
                                      replace p81 := eq_true p81
                                      replace q81 := eq_true q81
                                      have HP88 := Kd.R_putn HO_7.out (x17_1 : Int) (Go.bits .or .i64 (rd x7_1 ((rd_T50 l0_1 x17_1).f1)) (rd x7_1 ((rd_T50 l0_1 x17_1).f2)))
                                      rw [← Ny160.out] at HP88
                                      have HQ88 := Aside0.mk HP88
                                      clear HP88
                                      refine start_ (n := 15) (S := fun w' => w'.cell? ⟨gb149, 0, none⟩ = some (.int .i64 ((rd_T50 l0_1 x17_1).f0)) ∧ w'.cell? ⟨gb149, 1, none⟩ = some (.int .i64 ((rd_T50 l0_1 x17_1).f1)) ∧ w'.cell? ⟨gb149, 2, none⟩ = some (.int .i64 ((rd_T50 l0_1 x17_1).f2)) ∧ w'.cell? ⟨gb149, 3, none⟩ = some (.int .i64 ((rd_T50 l0_1 x17_1).f3)) ∧ w'.cell? ⟨gb149, 4, none⟩ = some (.int .i64 ((rd_T50 l0_1 x17_1).f4)) ∧ w'.cell? ⟨go81, (((rd_T50 l0_1 x17_1).f1)).toNat, none⟩ = some (.int .i64 (rd x7_1 ((rd_T50 l0_1 x17_1).f1))) ∧ w'.cell? ⟨go81, (((rd_T50 l0_1 x17_1).f2)).toNat, none⟩ = some (.int .i64 (rd x7_1 ((rd_T50 l0_1 x17_1).f2)))) (ds := [14]) #[false, false, false, false, false, false, false, false, false, false, false, false, false, false, false] (by kernel_rfl) rfl rfl ⟨(blk_cell BK149.out 0).trans rfl, (blk_cell BK149.out 1).trans rfl, (blk_cell BK149.out 2).trans rfl, (blk_cell BK149.out 3).trans rfl, (blk_cell BK149.out 4).trans rfl, hx158_0, hx159_0⟩ (fun hHeld => ?_); refine with_tabW gate_values.tab17 gate_values.bits17 (fun HT_ HW_ => ?_)
                                      generalize w85.drew = w86 at HO_7 BK144 BK149 HB GG81 HQ88 hf81_0 hx158_0 hx159_0 hx81_0 hHeld ⊢
                                      refine pure_ (i := 0) (N := some 80) (v := ?_) (a' := ?_) #[true, false, false, false, false, false, false, false, false, false, false, false, false, false, false] rfl rfl (any_of HT_.out (by kernel_rfl)) (fun _ _ _ h => h) (Or.inl ⟨by rfl, ?_⟩) ?_ ?_
                                      rotate_left
                                      · intro w'
                                        go_simp
                                        with_reducible rfl
                                      rotate_left
                                      · simp only [Act.put, List.setIfInBounds_toArray, List.set_cons_zero, List.set_cons_succ, i64_w, i32_w]
                                        rfl
                                      refine pure_ (i := 1) (N := some 81) (v := ?_) (a' := ?_) #[true, true, false, false, false, false, false, false, false, false, false, false, false, false, false] rfl rfl (any_of HT_.out (by kernel_rfl)) (fun _ _ _ h => h) (Or.inl ⟨by rfl, ?_⟩) ?_ ?_
                                      rotate_left
                                      · intro w'
                                        go_simp
                                        with_reducible rfl
                                      rotate_left
                                      · simp only [Act.put, List.setIfInBounds_toArray, List.set_cons_zero, List.set_cons_succ, i64_w, i32_w]
                                        rfl
                                      refine pure_ (i := 2) (N := some 82) (v := ?_) (a' := ?_) #[true, true, true, false, false, false, false, false, false, false, false, false, false, false, false] rfl rfl (any_of HT_.out (by kernel_rfl)) (fun _ _ _ h => h) (Or.inl ⟨by rfl, ?_⟩) ?_ ?_
                                      rotate_left
                                      · intro w'
                                        go_simp
                                        with_reducible rfl
                                      rotate_left
                                      · simp only [Act.put, List.setIfInBounds_toArray, List.set_cons_zero, List.set_cons_succ, i64_w, i32_w]
                                        rfl
                                      refine pure_ (i := 3) (N := some 83) (v := ?_) (a' := ?_) #[true, true, true, true, false, false, false, false, false, false, false, false, false, false, false] rfl rfl (any_of HT_.out (by kernel_rfl)) (fun _ _ _ h => h) (Or.inl ⟨by rfl, ?_⟩) ?_ ?_
                                      rotate_left
                                      · intro w'
                                        go_simp
                                        with_reducible rfl
                                      rotate_left
                                      · simp only [Act.put, List.setIfInBounds_toArray, List.set_cons_zero, List.set_cons_succ, i64_w, i32_w]
                                        rfl
                                      refine pure_ (i := 7) (N := some 87) (v := ?_) (a' := ?_) #[true, true, true, true, false, false, false, true, false, false, false, false, false, false, false] rfl rfl (any_of HT_.out (by kernel_rfl)) (fun _ _ _ h => h) (Or.inl ⟨by rfl, ?_⟩) ?_ ?_
                                      rotate_left
                                      · intro w'
                                        go_simp
                                        with_reducible rfl
                                      rotate_left
                                      · simp only [Act.put, List.setIfInBounds_toArray, List.set_cons_zero, List.set_cons_succ, i64_w, i32_w]
                                        rfl
                                      refine pure_ (i := 8) (N := some 88) (v := ?_) (a' := ?_) #[true, true, true, true, false, false, false, true, true, false, false, false, false, false, false] rfl rfl (any_of HT_.out (by kernel_rfl)) (fun _ _ _ h => h) (Or.inl ⟨by rfl, ?_⟩) ?_ ?_
                                      rotate_left
                                      · intro w'
                                        go_simp
                                        with_reducible rfl
                                      rotate_left
                                      · simp only [Act.put, List.setIfInBounds_toArray, List.set_cons_zero, List.set_cons_succ, i64_w, i32_w]
                                        rfl
                                      refine take_ (i := 4) (N := some 84) (v := ?_) (a' := ?_) #[true, true, true, true, true, false, false, true, true, false, false, false, false, false, false] rfl rfl (take_ofW HT_.out HW_.out (by kernel_rfl)) (fun _ _ _ h => h) (Or.inl ⟨by rfl, ?_⟩) hHeld ?_ ?_
                                      rotate_left
                                      · rintro w' ⟨s0, s1, s2, s3, s4, s5, s6⟩
                                        go_simp
                                        with_reducible rfl
                                      rotate_left
                                      · simp only [Act.put, List.setIfInBounds_toArray, List.set_cons_zero, List.set_cons_succ, i64_w, i32_w]
                                        rfl
                                      refine pure_ (i := 5) (N := some 85) (v := ?_) (a' := ?_) #[true, true, true, true, true, true, false, true, true, false, false, false, false, false, false] rfl rfl (any_of HT_.out (by kernel_rfl)) (fun _ _ _ h => h) (Or.inl ⟨by rfl, ?_⟩) ?_ ?_
                                      rotate_left
                                      · intro w'
                                        go_simp
                                        with_reducible rfl
                                      rotate_left
                                      · simp only [Act.put, List.setIfInBounds_toArray, List.set_cons_zero, List.set_cons_succ, i64_w, i32_w]
                                        rfl
                                      refine take_ (i := 6) (N := some 86) (v := ?_) (a' := ?_) #[true, true, true, true, true, true, true, true, true, false, false, false, false, false, false] rfl rfl (take_ofW HT_.out HW_.out (by kernel_rfl)) (fun _ _ _ h => h) (Or.inl ⟨by rfl, ?_⟩) hHeld ?_ ?_
                                      rotate_left
                                      · rintro w' ⟨s0, s1, s2, s3, s4, s5, s6⟩
                                        go_simp
                                        with_reducible rfl
                                      rotate_left
                                      · simp only [Act.put, List.setIfInBounds_toArray, List.set_cons_zero, List.set_cons_succ, i64_w, i32_w]
                                        rfl
                                      refine take_ (i := 9) (N := some 89) (v := ?_) (a' := ?_) #[true, true, true, true, true, true, true, true, true, true, false, false, false, false, false] rfl rfl (take_ofW HT_.out HW_.out (by kernel_rfl)) (fun _ _ _ h => h) (Or.inl ⟨by rfl, ?_⟩) hHeld ?_ ?_
                                      rotate_left
                                      · rintro w' ⟨s0, s1, s2, s3, s4, s5, s6⟩
                                        go_simp
                                        with_reducible rfl
                                      rotate_left
                                      · simp only [Act.put, List.setIfInBounds_toArray, List.set_cons_zero, List.set_cons_succ, i64_w, i32_w]
                                        rfl
                                      refine pure_ (i := 10) (N := some 90) (v := ?_) (a' := ?_) #[true, true, true, true, true, true, true, true, true, true, true, false, false, false, false] rfl rfl (any_of HT_.out (by kernel_rfl)) (fun _ _ _ h => h) (Or.inl ⟨by rfl, ?_⟩) ?_ ?_
                                      rotate_left
                                      · intro w'
                                        go_simp
                                        with_reducible rfl
                                      rotate_left
                                      · simp only [Act.put, List.setIfInBounds_toArray, List.set_cons_zero, List.set_cons_succ, i64_w, i32_w]
                                        rfl
                                      refine take_ (i := 11) (N := some 91) (v := ?_) (a' := ?_) #[true, true, true, true, true, true, true, true, true, true, true, true, false, false, false] rfl rfl (take_ofW HT_.out HW_.out (by kernel_rfl)) (fun _ _ _ h => h) (Or.inl ⟨by rfl, ?_⟩) hHeld ?_ ?_
                                      rotate_left
                                      · rintro w' ⟨s0, s1, s2, s3, s4, s5, s6⟩
                                        go_simp
                                        with_reducible rfl
                                      rotate_left
                                      · simp only [Act.put, List.setIfInBounds_toArray, List.set_cons_zero, List.set_cons_succ, i64_w, i32_w]
                                        rfl
                                      refine pure_ (i := 12) (N := some 92) (v := ?_) (a' := ?_) #[true, true, true, true, true, true, true, true, true, true, true, true, true, false, false] rfl rfl (any_of HT_.out (by kernel_rfl)) (fun _ _ _ h => h) (Or.inl ⟨by rfl, ?_⟩) ?_ ?_
                                      rotate_left
                                      · intro w'
                                        go_simp
                                        with_reducible rfl
                                      rotate_left
                                      · simp only [Act.put, List.setIfInBounds_toArray, List.set_cons_zero, List.set_cons_succ, i64_w, i32_w]
                                        rfl
                                      refine pure_ (i := 13) (N := some 93) (v := ?_) (a' := ?_) #[true, true, true, true, true, true, true, true, true, true, true, true, true, true, false] rfl rfl (any_of HT_.out (by kernel_rfl)) (fun _ _ _ h => h) (Or.inl ⟨by rfl, ?_⟩) ?_ ?_
                                      rotate_left
                                      · intro w'
                                        go_simp
                                        with_reducible rfl
                                      rotate_left
                                      · simp only [Act.put, List.setIfInBounds_toArray, List.set_cons_zero, List.set_cons_succ, i64_w, i32_w]
                                        rfl
                                      refine last_ (i := 14) (N := none) #[true, true, true, true, true, true, true, true, true, true, true, true, true, true, true] rfl rfl (one_of HT_.out (by kernel_rfl)) (by decide) (fun K hK => ?_)
                                      refine skip_ (w1 := ?_) (by rfl) rfl ?_ ?_
                                      rotate_left
                                      · go_simp
                                        rfl
                                      refine hK.out _ _ ?_
                                      clear hK K
                                      refine done_ (done_of HT_.out (by kernel_rfl)) ?_
                                      try go_wp2
                                      go_roundg k1
                                      case measure => have := HK1.out; omega
                                      case rel => exact ⟨(y160), (wrap64 (x17_1 + 1)), (by first | rfl | (simp; done) | (simp [*]; done)), H', ⟨by have := HK1.out; omega⟩, ⟨by (with_reducible repeat (first | apply Kd.R_alloc | apply Kd.R_drewN | apply Kd.R_drew)); exact HQ88.out⟩, ⟨by (with_reducible repeat (first | refine blk_drewN ?_ _ | refine blk_drew ?_ | refine blk_alloc ?_ _)); refine blk_far ?_ (by have h_ := Kd.R_ne HO_7.out BK144.out (by decide); intro e_; exact h_ (by rw [e_]; rfl)) _; (with_reducible repeat (first | refine blk_drewN ?_ _ | refine blk_drew ?_ | refine blk_alloc ?_ _)); exact BK144.out⟩, ⟨by repeat (first | (with_reducible first | exact HB.out | apply below_alloc | apply pw_below_drewN | apply below_drew1 | refine below_set ?_ GB81.out | refine below_set ?_ GE144.out | refine below_set ?_ GE149.out) | exact HB.out)⟩⟩
                                    · rw [if_neg c80] at H
                                      exact absurd H (by simp)
                                  · rw [if_neg c79] at H
                                    exact absurd H (by simp)
                                · rw [if_neg c78] at H
                                  exact absurd H (by simp)
                              · rw [if_neg c77] at H
                                exact absurd H (by simp)
                            · rw [if_neg c76] at H
                              exact absurd H (by simp)
                          · rw [if_neg c75] at H
                            have c75b0 : (((rd_T50 l0_1 x17_1).f0) == 5) = false := beq_eq_false_iff_ne.mpr c75
                            have c75b1 : (((rd_T50 l0_1 x17_1).f0) != 5) = true := bne_iff_ne.mpr c75
                            by_cases c89 : ((rd_T50 l0_1 x17_1).f0) = 6
                            · rw [if_pos c89] at H
                              have c89b0 : (((rd_T50 l0_1 x17_1).f0) == 6) = true := beq_iff_eq.mpr c89
                              have c89b1 : (((rd_T50 l0_1 x17_1).f0) != 6) = false := bne_eq_false_iff_eq.mpr c89
                              clear c89
                              by_cases c90 : 0 ≤ ((rd_T50 l0_1 x17_1).f1)
                              · rw [if_pos c90] at H
                                have c90b0 : decide (0 ≤ ((rd_T50 l0_1 x17_1).f1)) = true := decide_eq_true c90
                                clear c90
                                by_cases c91 : ((rd_T50 l0_1 x17_1).f1) < (x7_1.length : Int)
                                · rw [if_pos c91] at H
                                  have c91b0 : decide (((rd_T50 l0_1 x17_1).f1) < (x7_1.length : Int)) = true := decide_eq_true c91
                                  clear c91
                                  by_cases c92 : 0 ≤ ((rd_T50 l0_1 x17_1).f2)
                                  · rw [if_pos c92] at H
                                    have c92b0 : decide (0 ≤ ((rd_T50 l0_1 x17_1).f2)) = true := decide_eq_true c92
                                    clear c92
                                    by_cases c93 : ((rd_T50 l0_1 x17_1).f2) < (x7_1.length : Int)
                                    · rw [if_pos c93] at H
                                      have c93b0 : decide (((rd_T50 l0_1 x17_1).f2) < (x7_1.length : Int)) = true := decide_eq_true c93
                                      clear c93
                                      by_cases c94 : x17_1 < (x7_1.length : Int)
                                      · rw [if_pos c94] at H
                                        have c94b0 : decide (x17_1 < (x7_1.length : Int)) = true := decide_eq_true c94
                                        clear c94
                                        obtain ⟨y163, hy163⟩ : ∃ y_ : List Int, y_ = (x7_1.set (x17_1 : Int).toNat (Go.bits .xor .i64 (rd x7_1 ((rd_T50 l0_1 x17_1).f1)) (rd x7_1 ((rd_T50 l0_1 x17_1).f2)))) := ⟨_, rfl⟩
                                        replace H : (gate_values.l0 k1 a1 a2 y163 l0_1 (l0_1.length : Int) (wrap64 (x17_1 + 1))) = some r := by first | (rw [hy163]; with_reducible exact H) | (have H2_ := (Option.bind_some _ _).symm.trans H; rw [hy163]; with_reducible exact H2_) | (have H2_ := (Option.bind_some _ _).symm.trans H; with_reducible exact H2_) | with_reducible exact H | (rw [hy163]; exact H) | exact H
                                        have Ny163 := Aside0.mk hy163
                                        clear hy163
                                        have H' := Aside0.mk H
                                        clear H
                                        have p148 : 0 ≤ (x17_1 : Int) := of_decide_eq_true (by first | (with_reducible assumption) | assumption)
                                        have q148 : x17_1 < (l0_1.length : Int) := of_decide_eq_true (by first | (with_reducible assumption) | assumption)
                                        obtain ⟨ad148, e148, hx148_0, hx148_1, hx148_2, hx148_3, hx148_4⟩ := at_T50 HR0_1.out x17_1 p148 q148
                                        cases e148
                                        replace hx148_0 := (HB.out.cell (World.block_lt_of_cell? w _ hx148_0)).trans hx148_0
                                        replace hx148_1 := (HB.out.cell (World.block_lt_of_cell? w _ hx148_1)).trans hx148_1
                                        replace hx148_2 := (HB.out.cell (World.block_lt_of_cell? w _ hx148_2)).trans hx148_2
                                        replace hx148_3 := (HB.out.cell (World.block_lt_of_cell? w _ hx148_3)).trans hx148_3
                                        replace hx148_4 := (HB.out.cell (World.block_lt_of_cell? w _ hx148_4)).trans hx148_4
                                        replace p148 := eq_true p148
                                        replace q148 := eq_true q148
                                        try go_wp2_with (first | ((with_reducible refine gate_dst (N := 9) rfl ?_); refine box_event ?hg (N := 9) ?hd (cs := #[.int .i64 0, .int .i64 0, .int .i64 0, .int .i64 0, .int .i64 0]) (t := 50) ?hr ?_; (case hd => rfl); (case hg => rfl); (case hr => first | (go_simp; done) | (go_simp; rfl)); intro gb149 hg w96 hbox hb; have n0_ := Aside0.mk (Kd.R_below (by (with_reducible repeat (first | apply Kd.R_alloc | apply Kd.R_drewN | apply Kd.R_drew)); exact HO_7.out) hb); have n1_ := Aside0.mk (blk_below (g := gb144) (o := .cells #[.int .i64 a0_0, .slice (some ad148) l0_1.length c0_1, .slice A0_2 l0_2.length c0_2, .slice A0_3 l0_3.length c0_3, .slice A0_4 l0_4.length c0_4] 38 (0, 0)) (by (with_reducible repeat (first | refine blk_drewN ?_ _ | refine blk_drew ?_ | refine blk_alloc ?_ _)); exact BK144.out) hb); have n2_ := Aside0.mk (below_step (by repeat (first | (with_reducible first | exact HB.out | apply below_alloc | apply pw_below_drewN | apply below_drew1 | refine below_set ?_ GE144.out) | exact HB.out)) hb); have n3_ := Aside0.mk (hbox); have n4_ := Aside0.mk ((by rw [hg]; exact (below_size (by repeat (first | (with_reducible first | exact HB.out | apply below_alloc | apply pw_below_drewN | apply below_drew1 | refine below_set ?_ GE144.out) | exact HB.out))) : w.heap.size ≤ gb149)); have n5_ := Aside0.mk ((by rw [hg]; exact (below_size (by repeat (first | (with_reducible first | exact HB.out | apply below_alloc | apply pw_below_drewN | apply below_drew1 | refine below_set ?_ GE144.out) | exact HB.out))) : w.heap.size ≤ gb149)); have n6_ := Aside0.mk ((by rw [hg]; exact Nat.ne_of_lt (blk_lt (g := gb144) (o := .cells #[.int .i64 a0_0, .slice (some ad148) l0_1.length c0_1, .slice A0_2 l0_2.length c0_2, .slice A0_3 l0_3.length c0_3, .slice A0_4 l0_4.length c0_4] 38 (0, 0)) (by (with_reducible repeat (first | refine blk_drewN ?_ _ | refine blk_drew ?_ | refine blk_alloc ?_ _)); exact BK144.out)) : gb144 ≠ gb149)); have n7_ := Aside0.mk ((by rw [hg]; exact Nat.ne_of_gt (blk_lt (g := gb144) (o := .cells #[.int .i64 a0_0, .slice (some ad148) l0_1.length c0_1, .slice A0_2 l0_2.length c0_2, .slice A0_3 l0_3.length c0_3, .slice A0_4 l0_4.length c0_4] 38 (0, 0)) (by (with_reducible repeat (first | refine blk_drewN ?_ _ | refine blk_drew ?_ | refine blk_alloc ?_ _)); exact BK144.out)) : gb149 ≠ gb144)); clear HO_7; clear BK144; clear HB; have HO_7 := n0_; have BK144 := n1_; have HB := n2_; have BK149 := n3_; have GW149 := n4_; have GE149 := n5_; have NB144_149 := n6_; have NB149_144 := n7_; clear n0_ n1_ n2_ n3_ n4_ n5_ n6_ n7_; clear hb hbox hg; have hnb97 := NB149_144.out; have hnc97 := NB144_149.out; have hcz98_0 : w96.cell? ⟨gb149, 0, none⟩ = some (.int .i64 0) := (blk_cell BK149.out 0).trans rfl; have hcz98_1 : w96.cell? ⟨gb149, 1, none⟩ = some (.int .i64 0) := (blk_cell BK149.out 1).trans rfl; have hcz98_2 : w96.cell? ⟨gb149, 2, none⟩ = some (.int .i64 0) := (blk_cell BK149.out 2).trans rfl; have hcz98_3 : w96.cell? ⟨gb149, 3, none⟩ = some (.int .i64 0) := (blk_cell BK149.out 3).trans rfl; have hcz98_4 : w96.cell? ⟨gb149, 4, none⟩ = some (.int .i64 0) := (blk_cell BK149.out 4).trans rfl; have hfz98_0 := blk_frozen BK149.out 0; have hfz98_1 := blk_frozen BK149.out 1; have hfz98_2 := blk_frozen BK149.out 2; have hfz98_3 := blk_frozen BK149.out 3; have hfz98_4 := blk_frozen BK149.out 4))
                                        have n0_ : Aside0 (Kd.R (Kd.int .i64) 3 (((((w96.setCell ⟨gb149, 0, none⟩ (.int .i64 ((rd_T50 l0_1 x17_1).f0))).setCell ⟨gb149, 1, none⟩ (.int .i64 ((rd_T50 l0_1 x17_1).f1))).setCell ⟨gb149, 2, none⟩ (.int .i64 ((rd_T50 l0_1 x17_1).f2))).setCell ⟨gb149, 3, none⟩ (.int .i64 ((rd_T50 l0_1 x17_1).f3))).setCell ⟨gb149, 4, none⟩ (.int .i64 ((rd_T50 l0_1 x17_1).f4))) w.heap.size (fun _ => True) v146 x7_1) := ⟨by (with_reducible repeat (first | apply Kd.R_alloc | apply Kd.R_drewN | apply Kd.R_drew)); exact Kd.R_mono (Kd.R_far (p := ⟨gb149, 4, none⟩) (Kd.R_far (p := ⟨gb149, 3, none⟩) (Kd.R_far (p := ⟨gb149, 2, none⟩) (Kd.R_far (p := ⟨gb149, 1, none⟩) (Kd.R_far (p := ⟨gb149, 0, none⟩) (Kd.R_types HO_7.out BK149.out (by decide)) (fun _ hk => hk.2) (.int .i64 ((rd_T50 l0_1 x17_1).f0))) (fun _ hk => hk.2) (.int .i64 ((rd_T50 l0_1 x17_1).f1))) (fun _ hk => hk.2) (.int .i64 ((rd_T50 l0_1 x17_1).f2))) (fun _ hk => hk.2) (.int .i64 ((rd_T50 l0_1 x17_1).f3))) (fun _ hk => hk.2) (.int .i64 ((rd_T50 l0_1 x17_1).f4))) (fun _ hk => trivial)⟩
                                        have n1_ : Aside0 ((((((w96.setCell ⟨gb149, 0, none⟩ (.int .i64 ((rd_T50 l0_1 x17_1).f0))).setCell ⟨gb149, 1, none⟩ (.int .i64 ((rd_T50 l0_1 x17_1).f1))).setCell ⟨gb149, 2, none⟩ (.int .i64 ((rd_T50 l0_1 x17_1).f2))).setCell ⟨gb149, 3, none⟩ (.int .i64 ((rd_T50 l0_1 x17_1).f3))).setCell ⟨gb149, 4, none⟩ (.int .i64 ((rd_T50 l0_1 x17_1).f4))).heap[gb144]? = some (.cells #[.int .i64 a0_0, .slice (some ad148) l0_1.length c0_1, .slice A0_2 l0_2.length c0_2, .slice A0_3 l0_3.length c0_3, .slice A0_4 l0_4.length c0_4] 38 (0, 0))) := ⟨by (with_reducible repeat (first | refine blk_drewN ?_ _ | refine blk_drew ?_ | refine blk_alloc ?_ _)); refine blk_far ?_ NB144_149.out _; (with_reducible repeat (first | refine blk_drewN ?_ _ | refine blk_drew ?_ | refine blk_alloc ?_ _)); refine blk_far ?_ NB144_149.out _; (with_reducible repeat (first | refine blk_drewN ?_ _ | refine blk_drew ?_ | refine blk_alloc ?_ _)); refine blk_far ?_ NB144_149.out _; (with_reducible repeat (first | refine blk_drewN ?_ _ | refine blk_drew ?_ | refine blk_alloc ?_ _)); refine blk_far ?_ NB144_149.out _; (with_reducible repeat (first | refine blk_drewN ?_ _ | refine blk_drew ?_ | refine blk_alloc ?_ _)); refine blk_far ?_ NB144_149.out _; (with_reducible repeat (first | refine blk_drewN ?_ _ | refine blk_drew ?_ | refine blk_alloc ?_ _)); exact BK144.out⟩
                                        have n2_ : Aside0 ((((((w96.setCell ⟨gb149, 0, none⟩ (.int .i64 ((rd_T50 l0_1 x17_1).f0))).setCell ⟨gb149, 1, none⟩ (.int .i64 ((rd_T50 l0_1 x17_1).f1))).setCell ⟨gb149, 2, none⟩ (.int .i64 ((rd_T50 l0_1 x17_1).f2))).setCell ⟨gb149, 3, none⟩ (.int .i64 ((rd_T50 l0_1 x17_1).f3))).setCell ⟨gb149, 4, none⟩ (.int .i64 ((rd_T50 l0_1 x17_1).f4))).heap[gb149]? = some (.cells #[.int .i64 ((rd_T50 l0_1 x17_1).f0), .int .i64 ((rd_T50 l0_1 x17_1).f1), .int .i64 ((rd_T50 l0_1 x17_1).f2), .int .i64 ((rd_T50 l0_1 x17_1).f3), .int .i64 ((rd_T50 l0_1 x17_1).f4)] 50 (0, 0))) := ⟨by (with_reducible repeat (first | refine blk_drewN ?_ _ | refine blk_drew ?_ | refine blk_alloc ?_ _)); refine blk_put (cs := #[.int .i64 ((rd_T50 l0_1 x17_1).f0), .int .i64 ((rd_T50 l0_1 x17_1).f1), .int .i64 ((rd_T50 l0_1 x17_1).f2), .int .i64 ((rd_T50 l0_1 x17_1).f3), .int .i64 0]) ?_ 4 _ rfl; (with_reducible repeat (first | refine blk_drewN ?_ _ | refine blk_drew ?_ | refine blk_alloc ?_ _)); refine blk_put (cs := #[.int .i64 ((rd_T50 l0_1 x17_1).f0), .int .i64 ((rd_T50 l0_1 x17_1).f1), .int .i64 ((rd_T50 l0_1 x17_1).f2), .int .i64 0, .int .i64 0]) ?_ 3 _ rfl; (with_reducible repeat (first | refine blk_drewN ?_ _ | refine blk_drew ?_ | refine blk_alloc ?_ _)); refine blk_put (cs := #[.int .i64 ((rd_T50 l0_1 x17_1).f0), .int .i64 ((rd_T50 l0_1 x17_1).f1), .int .i64 0, .int .i64 0, .int .i64 0]) ?_ 2 _ rfl; (with_reducible repeat (first | refine blk_drewN ?_ _ | refine blk_drew ?_ | refine blk_alloc ?_ _)); refine blk_put (cs := #[.int .i64 ((rd_T50 l0_1 x17_1).f0), .int .i64 0, .int .i64 0, .int .i64 0, .int .i64 0]) ?_ 1 _ rfl; (with_reducible repeat (first | refine blk_drewN ?_ _ | refine blk_drew ?_ | refine blk_alloc ?_ _)); refine blk_put (cs := #[.int .i64 0, .int .i64 0, .int .i64 0, .int .i64 0, .int .i64 0]) ?_ 0 _ rfl; (with_reducible repeat (first | refine blk_drewN ?_ _ | refine blk_drew ?_ | refine blk_alloc ?_ _)); exact BK149.out⟩
                                        have n3_ : Aside0 (Below w.heap.size w (((((w96.setCell ⟨gb149, 0, none⟩ (.int .i64 ((rd_T50 l0_1 x17_1).f0))).setCell ⟨gb149, 1, none⟩ (.int .i64 ((rd_T50 l0_1 x17_1).f1))).setCell ⟨gb149, 2, none⟩ (.int .i64 ((rd_T50 l0_1 x17_1).f2))).setCell ⟨gb149, 3, none⟩ (.int .i64 ((rd_T50 l0_1 x17_1).f3))).setCell ⟨gb149, 4, none⟩ (.int .i64 ((rd_T50 l0_1 x17_1).f4)))) := ⟨by repeat (first | (with_reducible first | exact HB.out | apply below_alloc | apply pw_below_drewN | apply below_drew1 | refine below_set ?_ GE144.out | refine below_set ?_ GE149.out) | exact HB.out)⟩
                                        (try clear HO_7)
                                        (try clear BK144)
                                        (try clear BK149)
                                        (try clear HB)
                                        generalize (((((w96.setCell ⟨gb149, 0, none⟩ (.int .i64 ((rd_T50 l0_1 x17_1).f0))).setCell ⟨gb149, 1, none⟩ (.int .i64 ((rd_T50 l0_1 x17_1).f1))).setCell ⟨gb149, 2, none⟩ (.int .i64 ((rd_T50 l0_1 x17_1).f2))).setCell ⟨gb149, 3, none⟩ (.int .i64 ((rd_T50 l0_1 x17_1).f3))).setCell ⟨gb149, 4, none⟩ (.int .i64 ((rd_T50 l0_1 x17_1).f4))) = w99 at n0_ n1_ n2_ n3_ ⊢
                                        have HO_7 := n0_
                                        have BK144 := n1_
                                        have BK149 := n2_
                                        have HB := n3_
                                        clear n0_ n1_ n2_ n3_
                                        have n0_ := Aside0.mk (Kd.R_drew HO_7.out)
                                        have n1_ := Aside0.mk (blk_drew BK144.out)
                                        have n2_ := Aside0.mk (blk_drew BK149.out)
                                        have n3_ := Aside0.mk (below_drew1 HB.out)
                                        clear HO_7
                                        clear BK144
                                        clear BK149
                                        clear HB
                                        have HO_7 := n0_
                                        have BK144 := n1_
                                        have BK149 := n2_
                                        have HB := n3_
                                        clear n0_ n1_ n2_ n3_
                                        obtain ⟨Ao101, co101, eo101⟩ := Kd.R_slice HO_7.out
                                        (first | subst eo101 | (injection eo101 with f1_ f2_ f3_; have f4_ := f1_.symm; have f5_ := f3_.symm; clear f1_ f2_ f3_; subst f4_; subst f5_))
                                        have p161 : 0 ≤ (((rd_T50 l0_1 x17_1).f1) : Int) := of_decide_eq_true (by first | (with_reducible assumption) | assumption)
                                        have q161 : ((rd_T50 l0_1 x17_1).f1) < (x7_1.length : Int) := of_decide_eq_true (by first | (with_reducible assumption) | assumption)
                                        obtain ⟨ad161, e161, hx161_0⟩ := Kd.at_int (Kd.R_reads' HO_7.out).2.2 ((rd_T50 l0_1 x17_1).f1) p161 q161
                                        cases e161
                                        replace p161 := eq_true p161
                                        replace q161 := eq_true q161
                                        have p162 : 0 ≤ (((rd_T50 l0_1 x17_1).f2) : Int) := of_decide_eq_true (by first | (with_reducible assumption) | assumption)
                                        have q162 : ((rd_T50 l0_1 x17_1).f2) < (x7_1.length : Int) := of_decide_eq_true (by first | (with_reducible assumption) | assumption)
                                        obtain ⟨ad162, e162, hx162_0⟩ := Kd.at_int (Kd.R_reads' HO_7.out).2.2 ((rd_T50 l0_1 x17_1).f2) p162 q162
                                        obtain rfl : ad161 = ad162 := (by injection e162)
                                        replace p162 := eq_true p162
                                        replace q162 := eq_true q162
                                        have p95 : 0 ≤ (x17_1 : Int) := of_decide_eq_true (by first | (with_reducible assumption) | assumption)
                                        have q95 : (x17_1 : Int) < ((x7_1.length : Int) : Int) := of_decide_eq_true (by first | (with_reducible assumption) | assumption)
                                        obtain ⟨go95, co95, eo95, gb95, gl95, cl95, HG95⟩ := Kd.R_form HO_7.out (by omega)
                                        (first | cases eo95 | (injection eo95 with ea_ en_ ec_; (first | subst ea_ | (injection ea_ with ea_; subst ea_)); subst ec_; clear en_))
                                        have GB95 := Aside0.mk gb95
                                        have GG95 := Aside0.mk HG95
                                        clear gb95 gl95 HG95
                                        (first | simp only [add_plain] at hx161_0 | skip)
                                        (first | simp only [add_plain] at hx162_0 | skip)
                                        obtain ⟨hx95_0, hf95_0⟩ := Kd.R_celln 0 HO_7.out (x17_1 : Int) p95 q95
                                        replace p95 := eq_true p95
                                        replace q95 := eq_true q95
                                        have HP102 := Kd.R_putn HO_7.out (x17_1 : Int) (Go.bits .xor .i64 (rd x7_1 ((rd_T50 l0_1 x17_1).f1)) (rd x7_1 ((rd_T50 l0_1 x17_1).f2)))
                                        rw [← Ny163.out] at HP102
                                        have HQ102 := Aside0.mk HP102
                                        clear HP102
                                        refine start_ (n := 15) (S := fun w' => w'.cell? ⟨gb149, 0, none⟩ = some (.int .i64 ((rd_T50 l0_1 x17_1).f0)) ∧ w'.cell? ⟨gb149, 1, none⟩ = some (.int .i64 ((rd_T50 l0_1 x17_1).f1)) ∧ w'.cell? ⟨gb149, 2, none⟩ = some (.int .i64 ((rd_T50 l0_1 x17_1).f2)) ∧ w'.cell? ⟨gb149, 3, none⟩ = some (.int .i64 ((rd_T50 l0_1 x17_1).f3)) ∧ w'.cell? ⟨gb149, 4, none⟩ = some (.int .i64 ((rd_T50 l0_1 x17_1).f4)) ∧ w'.cell? ⟨go95, (((rd_T50 l0_1 x17_1).f1)).toNat, none⟩ = some (.int .i64 (rd x7_1 ((rd_T50 l0_1 x17_1).f1))) ∧ w'.cell? ⟨go95, (((rd_T50 l0_1 x17_1).f2)).toNat, none⟩ = some (.int .i64 (rd x7_1 ((rd_T50 l0_1 x17_1).f2)))) (ds := [14]) #[false, false, false, false, false, false, false, false, false, false, false, false, false, false, false] (by kernel_rfl) rfl rfl ⟨(blk_cell BK149.out 0).trans rfl, (blk_cell BK149.out 1).trans rfl, (blk_cell BK149.out 2).trans rfl, (blk_cell BK149.out 3).trans rfl, (blk_cell BK149.out 4).trans rfl, hx161_0, hx162_0⟩ (fun hHeld => ?_); refine with_tabW gate_values.tab19 gate_values.bits19 (fun HT_ HW_ => ?_)
                                        generalize w99.drew = w100 at HO_7 BK144 BK149 HB GG95 HQ102 hf95_0 hx161_0 hx162_0 hx95_0 hHeld ⊢
                                        refine pure_ (i := 0) (N := some 96) (v := ?_) (a' := ?_) #[true, false, false, false, false, false, false, false, false, false, false, false, false, false, false] rfl rfl (any_of HT_.out (by kernel_rfl)) (fun _ _ _ h => h) (Or.inl ⟨by rfl, ?_⟩) ?_ ?_
                                        rotate_left
                                        · intro w'
                                          go_simp
                                          with_reducible rfl
                                        rotate_left
                                        · simp only [Act.put, List.setIfInBounds_toArray, List.set_cons_zero, List.set_cons_succ, i64_w, i32_w]
                                          rfl
                                        refine pure_ (i := 1) (N := some 97) (v := ?_) (a' := ?_) #[true, true, false, false, false, false, false, false, false, false, false, false, false, false, false] rfl rfl (any_of HT_.out (by kernel_rfl)) (fun _ _ _ h => h) (Or.inl ⟨by rfl, ?_⟩) ?_ ?_
                                        rotate_left
                                        · intro w'
                                          go_simp
                                          with_reducible rfl
                                        rotate_left
                                        · simp only [Act.put, List.setIfInBounds_toArray, List.set_cons_zero, List.set_cons_succ, i64_w, i32_w]
                                          rfl
                                        refine pure_ (i := 2) (N := some 98) (v := ?_) (a' := ?_) #[true, true, true, false, false, false, false, false, false, false, false, false, false, false, false] rfl rfl (any_of HT_.out (by kernel_rfl)) (fun _ _ _ h => h) (Or.inl ⟨by rfl, ?_⟩) ?_ ?_
                                        rotate_left
                                        · intro w'
                                          go_simp
                                          with_reducible rfl
                                        rotate_left
                                        · simp only [Act.put, List.setIfInBounds_toArray, List.set_cons_zero, List.set_cons_succ, i64_w, i32_w]
                                          rfl
                                        refine pure_ (i := 3) (N := some 99) (v := ?_) (a' := ?_) #[true, true, true, true, false, false, false, false, false, false, false, false, false, false, false] rfl rfl (any_of HT_.out (by kernel_rfl)) (fun _ _ _ h => h) (Or.inl ⟨by rfl, ?_⟩) ?_ ?_
                                        rotate_left
                                        · intro w'
                                          go_simp
                                          with_reducible rfl
                                        rotate_left
                                        · simp only [Act.put, List.setIfInBounds_toArray, List.set_cons_zero, List.set_cons_succ, i64_w, i32_w]
                                          rfl
                                        refine pure_ (i := 7) (N := some 103) (v := ?_) (a' := ?_) #[true, true, true, true, false, false, false, true, false, false, false, false, false, false, false] rfl rfl (any_of HT_.out (by kernel_rfl)) (fun _ _ _ h => h) (Or.inl ⟨by rfl, ?_⟩) ?_ ?_
                                        rotate_left
                                        · intro w'
                                          go_simp
                                          with_reducible rfl
                                        rotate_left
                                        · simp only [Act.put, List.setIfInBounds_toArray, List.set_cons_zero, List.set_cons_succ, i64_w, i32_w]
                                          rfl
                                        refine pure_ (i := 8) (N := some 104) (v := ?_) (a' := ?_) #[true, true, true, true, false, false, false, true, true, false, false, false, false, false, false] rfl rfl (any_of HT_.out (by kernel_rfl)) (fun _ _ _ h => h) (Or.inl ⟨by rfl, ?_⟩) ?_ ?_
                                        rotate_left
                                        · intro w'
                                          go_simp
                                          with_reducible rfl
                                        rotate_left
                                        · simp only [Act.put, List.setIfInBounds_toArray, List.set_cons_zero, List.set_cons_succ, i64_w, i32_w]
                                          rfl
                                        refine take_ (i := 4) (N := some 100) (v := ?_) (a' := ?_) #[true, true, true, true, true, false, false, true, true, false, false, false, false, false, false] rfl rfl (take_ofW HT_.out HW_.out (by kernel_rfl)) (fun _ _ _ h => h) (Or.inl ⟨by rfl, ?_⟩) hHeld ?_ ?_
                                        rotate_left
                                        · rintro w' ⟨s0, s1, s2, s3, s4, s5, s6⟩
                                          go_simp
                                          with_reducible rfl
                                        rotate_left
                                        · simp only [Act.put, List.setIfInBounds_toArray, List.set_cons_zero, List.set_cons_succ, i64_w, i32_w]
                                          rfl
                                        refine pure_ (i := 5) (N := some 101) (v := ?_) (a' := ?_) #[true, true, true, true, true, true, false, true, true, false, false, false, false, false, false] rfl rfl (any_of HT_.out (by kernel_rfl)) (fun _ _ _ h => h) (Or.inl ⟨by rfl, ?_⟩) ?_ ?_
                                        rotate_left
                                        · intro w'
                                          go_simp
                                          with_reducible rfl
                                        rotate_left
                                        · simp only [Act.put, List.setIfInBounds_toArray, List.set_cons_zero, List.set_cons_succ, i64_w, i32_w]
                                          rfl
                                        refine take_ (i := 6) (N := some 102) (v := ?_) (a' := ?_) #[true, true, true, true, true, true, true, true, true, false, false, false, false, false, false] rfl rfl (take_ofW HT_.out HW_.out (by kernel_rfl)) (fun _ _ _ h => h) (Or.inl ⟨by rfl, ?_⟩) hHeld ?_ ?_
                                        rotate_left
                                        · rintro w' ⟨s0, s1, s2, s3, s4, s5, s6⟩
                                          go_simp
                                          with_reducible rfl
                                        rotate_left
                                        · simp only [Act.put, List.setIfInBounds_toArray, List.set_cons_zero, List.set_cons_succ, i64_w, i32_w]
                                          rfl
                                        refine take_ (i := 9) (N := some 105) (v := ?_) (a' := ?_) #[true, true, true, true, true, true, true, true, true, true, false, false, false, false, false] rfl rfl (take_ofW HT_.out HW_.out (by kernel_rfl)) (fun _ _ _ h => h) (Or.inl ⟨by rfl, ?_⟩) hHeld ?_ ?_
                                        rotate_left
                                        · rintro w' ⟨s0, s1, s2, s3, s4, s5, s6⟩
                                          go_simp
                                          with_reducible rfl
                                        rotate_left
                                        · simp only [Act.put, List.setIfInBounds_toArray, List.set_cons_zero, List.set_cons_succ, i64_w, i32_w]
                                          rfl
                                        refine pure_ (i := 10) (N := some 106) (v := ?_) (a' := ?_) #[true, true, true, true, true, true, true, true, true, true, true, false, false, false, false] rfl rfl (any_of HT_.out (by kernel_rfl)) (fun _ _ _ h => h) (Or.inl ⟨by rfl, ?_⟩) ?_ ?_
                                        rotate_left
                                        · intro w'
                                          go_simp
                                          with_reducible rfl
                                        rotate_left
                                        · simp only [Act.put, List.setIfInBounds_toArray, List.set_cons_zero, List.set_cons_succ, i64_w, i32_w]
                                          rfl
                                        refine take_ (i := 11) (N := some 107) (v := ?_) (a' := ?_) #[true, true, true, true, true, true, true, true, true, true, true, true, false, false, false] rfl rfl (take_ofW HT_.out HW_.out (by kernel_rfl)) (fun _ _ _ h => h) (Or.inl ⟨by rfl, ?_⟩) hHeld ?_ ?_
                                        rotate_left
                                        · rintro w' ⟨s0, s1, s2, s3, s4, s5, s6⟩
                                          go_simp
                                          with_reducible rfl
                                        rotate_left
                                        · simp only [Act.put, List.setIfInBounds_toArray, List.set_cons_zero, List.set_cons_succ, i64_w, i32_w]
                                          rfl
                                        refine pure_ (i := 12) (N := some 108) (v := ?_) (a' := ?_) #[true, true, true, true, true, true, true, true, true, true, true, true, true, false, false] rfl rfl (any_of HT_.out (by kernel_rfl)) (fun _ _ _ h => h) (Or.inl ⟨by rfl, ?_⟩) ?_ ?_
                                        rotate_left
                                        · intro w'
                                          go_simp
                                          with_reducible rfl
                                        rotate_left
                                        · simp only [Act.put, List.setIfInBounds_toArray, List.set_cons_zero, List.set_cons_succ, i64_w, i32_w]
                                          rfl
                                        refine pure_ (i := 13) (N := some 109) (v := ?_) (a' := ?_) #[true, true, true, true, true, true, true, true, true, true, true, true, true, true, false] rfl rfl (any_of HT_.out (by kernel_rfl)) (fun _ _ _ h => h) (Or.inl ⟨by rfl, ?_⟩) ?_ ?_
                                        rotate_left
                                        · intro w'
                                          go_simp
                                          with_reducible rfl
                                        rotate_left
                                        · simp only [Act.put, List.setIfInBounds_toArray, List.set_cons_zero, List.set_cons_succ, i64_w, i32_w]
                                          rfl
                                        refine last_ (i := 14) (N := none) #[true, true, true, true, true, true, true, true, true, true, true, true, true, true, true] rfl rfl (one_of HT_.out (by kernel_rfl)) (by decide) (fun K hK => ?_)
                                        refine skip_ (w1 := ?_) (by rfl) rfl ?_ ?_
                                        rotate_left
                                        · go_simp
                                          rfl
                                        refine hK.out _ _ ?_
                                        clear hK K
                                        refine done_ (done_of HT_.out (by kernel_rfl)) ?_
                                        try go_wp2
                                        go_roundg k1
                                        case measure => have := HK1.out; omega
                                        case rel => exact ⟨(y163), (wrap64 (x17_1 + 1)), (by first | rfl | (simp; done) | (simp [*]; done)), H', ⟨by have := HK1.out; omega⟩, ⟨by (with_reducible repeat (first | apply Kd.R_alloc | apply Kd.R_drewN | apply Kd.R_drew)); exact HQ102.out⟩, ⟨by (with_reducible repeat (first | refine blk_drewN ?_ _ | refine blk_drew ?_ | refine blk_alloc ?_ _)); refine blk_far ?_ (by have h_ := Kd.R_ne HO_7.out BK144.out (by decide); intro e_; exact h_ (by rw [e_]; rfl)) _; (with_reducible repeat (first | refine blk_drewN ?_ _ | refine blk_drew ?_ | refine blk_alloc ?_ _)); exact BK144.out⟩, ⟨by repeat (first | (with_reducible first | exact HB.out | apply below_alloc | apply pw_below_drewN | apply below_drew1 | refine below_set ?_ GB95.out | refine below_set ?_ GE144.out | refine below_set ?_ GE149.out) | exact HB.out)⟩⟩
                                      · rw [if_neg c94] at H
                                        exact absurd H (by simp)
                                    · rw [if_neg c93] at H
                                      exact absurd H (by simp)
                                  · rw [if_neg c92] at H
                                    exact absurd H (by simp)
                                · rw [if_neg c91] at H
                                  exact absurd H (by simp)
                              · rw [if_neg c90] at H
                                exact absurd H (by simp)
                            · rw [if_neg c89] at H
                              have c89b0 : (((rd_T50 l0_1 x17_1).f0) == 6) = false := beq_eq_false_iff_ne.mpr c89
                              have c89b1 : (((rd_T50 l0_1 x17_1).f0) != 6) = true := bne_iff_ne.mpr c89
                              by_cases c103 : ((rd_T50 l0_1 x17_1).f0) = 7
                              · rw [if_pos c103] at H
                                have c103b0 : (((rd_T50 l0_1 x17_1).f0) == 7) = true := beq_iff_eq.mpr c103
                                have c103b1 : (((rd_T50 l0_1 x17_1).f0) != 7) = false := bne_eq_false_iff_eq.mpr c103
                                clear c103
                                by_cases c104 : 0 ≤ ((rd_T50 l0_1 x17_1).f3)
                                · rw [if_pos c104] at H
                                  have c104b0 : decide (0 ≤ ((rd_T50 l0_1 x17_1).f3)) = true := decide_eq_true c104
                                  clear c104
                                  by_cases c105 : ((rd_T50 l0_1 x17_1).f3) < (x7_1.length : Int)
                                  · rw [if_pos c105] at H
                                    have c105b0 : decide (((rd_T50 l0_1 x17_1).f3) < (x7_1.length : Int)) = true := decide_eq_true c105
                                    clear c105
                                    by_cases c106 : x17_1 < (x7_1.length : Int)
                                    · rw [if_pos c106] at H
                                      have c106b0 : decide (x17_1 < (x7_1.length : Int)) = true := decide_eq_true c106
                                      clear c106
                                      obtain ⟨y165, hy165⟩ : ∃ y_ : List Int, y_ = (x7_1.set (x17_1 : Int).toNat (rd x7_1 ((rd_T50 l0_1 x17_1).f3))) := ⟨_, rfl⟩
                                      replace H : (if 0 ≤ ((rd_T50 l0_1 x17_1).f1) then (if ((rd_T50 l0_1 x17_1).f1) < (x7_1.length : Int) then (if (rd y165 ((rd_T50 l0_1 x17_1).f1)) = 1 then (if 0 ≤ ((rd_T50 l0_1 x17_1).f2) then (if ((rd_T50 l0_1 x17_1).f2) < (x7_1.length : Int) then (gate_values.l0 k1 a1 a2 (y165.set (x17_1 : Int).toNat (rd y165 ((rd_T50 l0_1 x17_1).f2))) l0_1 (l0_1.length : Int) (wrap64 (x17_1 + 1))) else (none)) else (none)) else (gate_values.l0 k1 a1 a2 y165 l0_1 (l0_1.length : Int) (wrap64 (x17_1 + 1)))) else (none)) else (none)) = some r := by first | (rw [hy165]; with_reducible exact H) | (have H2_ := (Option.bind_some _ _).symm.trans H; rw [hy165]; with_reducible exact H2_) | (have H2_ := (Option.bind_some _ _).symm.trans H; with_reducible exact H2_) | with_reducible exact H | (rw [hy165]; exact H) | exact H
                                      have Ny165 := Aside0.mk hy165
                                      clear hy165
                                      by_cases c108 : 0 ≤ ((rd_T50 l0_1 x17_1).f1)
                                      · rw [if_pos c108] at H
                                        have c108b0 : decide (0 ≤ ((rd_T50 l0_1 x17_1).f1)) = true := decide_eq_true c108
                                        clear c108
                                        by_cases c109 : ((rd_T50 l0_1 x17_1).f1) < (x7_1.length : Int)
                                        · rw [if_pos c109] at H
                                          have c109b0 : decide (((rd_T50 l0_1 x17_1).f1) < (x7_1.length : Int)) = true := decide_eq_true c109
                                          clear c109
                                          by_cases c110 : (rd y165 ((rd_T50 l0_1 x17_1).f1)) = 1
                                          · rw [if_pos c110] at H
                                            have c110b0 : ((rd y165 ((rd_T50 l0_1 x17_1).f1)) == 1) = true := beq_iff_eq.mpr c110
                                            have c110b1 : ((rd y165 ((rd_T50 l0_1 x17_1).f1)) != 1) = false := bne_eq_false_iff_eq.mpr c110
                                            clear c110
                                            by_cases c111 : 0 ≤ ((rd_T50 l0_1 x17_1).f2)
                                            · rw [if_pos c111] at H
                                              have c111b0 : decide (0 ≤ ((rd_T50 l0_1 x17_1).f2)) = true := decide_eq_true c111
                                              clear c111
                                              by_cases c112 : ((rd_T50 l0_1 x17_1).f2) < (x7_1.length : Int)
                                              · rw [if_pos c112] at H
                                                have c112b0 : decide (((rd_T50 l0_1 x17_1).f2) < (x7_1.length : Int)) = true := decide_eq_true c112
                                                clear c112
                                                obtain ⟨y168, hy168⟩ : ∃ y_ : List Int, y_ = (y165.set (x17_1 : Int).toNat (rd y165 ((rd_T50 l0_1 x17_1).f2))) := ⟨_, rfl⟩
                                                replace H : (gate_values.l0 k1 a1 a2 y168 l0_1 (l0_1.length : Int) (wrap64 (x17_1 + 1))) = some r := by first | (rw [hy168]; with_reducible exact H) | (have H2_ := (Option.bind_some _ _).symm.trans H; rw [hy168]; with_reducible exact H2_) | (have H2_ := (Option.bind_some _ _).symm.trans H; with_reducible exact H2_) | with_reducible exact H | (rw [hy168]; exact H) | exact H
                                                have Ny168 := Aside0.mk hy168
                                                clear hy168
                                                have H' := Aside0.mk H
                                                clear H
                                                have p148 : 0 ≤ (x17_1 : Int) := of_decide_eq_true (by first | (with_reducible assumption) | assumption)
                                                have q148 : x17_1 < (l0_1.length : Int) := of_decide_eq_true (by first | (with_reducible assumption) | assumption)
                                                obtain ⟨ad148, e148, hx148_0, hx148_1, hx148_2, hx148_3, hx148_4⟩ := at_T50 HR0_1.out x17_1 p148 q148
                                                cases e148
                                                replace hx148_0 := (HB.out.cell (World.block_lt_of_cell? w _ hx148_0)).trans hx148_0
                                                replace hx148_1 := (HB.out.cell (World.block_lt_of_cell? w _ hx148_1)).trans hx148_1
                                                replace hx148_2 := (HB.out.cell (World.block_lt_of_cell? w _ hx148_2)).trans hx148_2
                                                replace hx148_3 := (HB.out.cell (World.block_lt_of_cell? w _ hx148_3)).trans hx148_3
                                                replace hx148_4 := (HB.out.cell (World.block_lt_of_cell? w _ hx148_4)).trans hx148_4
                                                replace p148 := eq_true p148
                                                replace q148 := eq_true q148
                                                go_wp2_with (first | ((with_reducible refine gate_dst (N := 9) rfl ?_); refine box_event ?hg (N := 9) ?hd (cs := #[.int .i64 0, .int .i64 0, .int .i64 0, .int .i64 0, .int .i64 0]) (t := 50) ?hr ?_; (case hd => rfl); (case hg => rfl); (case hr => first | (go_simp; done) | (go_simp; rfl)); intro gb149 hg w114 hbox hb; have n0_ := Aside0.mk (Kd.R_below (by (with_reducible repeat (first | apply Kd.R_alloc | apply Kd.R_drewN | apply Kd.R_drew)); exact HO_7.out) hb); have n1_ := Aside0.mk (blk_below (g := gb144) (o := .cells #[.int .i64 a0_0, .slice (some ad148) l0_1.length c0_1, .slice A0_2 l0_2.length c0_2, .slice A0_3 l0_3.length c0_3, .slice A0_4 l0_4.length c0_4] 38 (0, 0)) (by (with_reducible repeat (first | refine blk_drewN ?_ _ | refine blk_drew ?_ | refine blk_alloc ?_ _)); exact BK144.out) hb); have n2_ := Aside0.mk (below_step (by repeat (first | (with_reducible first | exact HB.out | apply below_alloc | apply pw_below_drewN | apply below_drew1 | refine below_set ?_ GE144.out) | exact HB.out)) hb); have n3_ := Aside0.mk (hbox); have n4_ := Aside0.mk ((by rw [hg]; exact (below_size (by repeat (first | (with_reducible first | exact HB.out | apply below_alloc | apply pw_below_drewN | apply below_drew1 | refine below_set ?_ GE144.out) | exact HB.out))) : w.heap.size ≤ gb149)); have n5_ := Aside0.mk ((by rw [hg]; exact (below_size (by repeat (first | (with_reducible first | exact HB.out | apply below_alloc | apply pw_below_drewN | apply below_drew1 | refine below_set ?_ GE144.out) | exact HB.out))) : w.heap.size ≤ gb149)); have n6_ := Aside0.mk ((by rw [hg]; exact Nat.ne_of_lt (blk_lt (g := gb144) (o := .cells #[.int .i64 a0_0, .slice (some ad148) l0_1.length c0_1, .slice A0_2 l0_2.length c0_2, .slice A0_3 l0_3.length c0_3, .slice A0_4 l0_4.length c0_4] 38 (0, 0)) (by (with_reducible repeat (first | refine blk_drewN ?_ _ | refine blk_drew ?_ | refine blk_alloc ?_ _)); exact BK144.out)) : gb144 ≠ gb149)); have n7_ := Aside0.mk ((by rw [hg]; exact Nat.ne_of_gt (blk_lt (g := gb144) (o := .cells #[.int .i64 a0_0, .slice (some ad148) l0_1.length c0_1, .slice A0_2 l0_2.length c0_2, .slice A0_3 l0_3.length c0_3, .slice A0_4 l0_4.length c0_4] 38 (0, 0)) (by (with_reducible repeat (first | refine blk_drewN ?_ _ | refine blk_drew ?_ | refine blk_alloc ?_ _)); exact BK144.out)) : gb149 ≠ gb144)); clear HO_7; clear BK144; clear HB; have HO_7 := n0_; have BK144 := n1_; have HB := n2_; have BK149 := n3_; have GW149 := n4_; have GE149 := n5_; have NB144_149 := n6_; have NB149_144 := n7_; clear n0_ n1_ n2_ n3_ n4_ n5_ n6_ n7_; clear hb hbox hg; have hnb115 := NB149_144.out; have hnc115 := NB144_149.out; have hcz116_0 : w114.cell? ⟨gb149, 0, none⟩ = some (.int .i64 0) := (blk_cell BK149.out 0).trans rfl; have hcz116_1 : w114.cell? ⟨gb149, 1, none⟩ = some (.int .i64 0) := (blk_cell BK149.out 1).trans rfl; have hcz116_2 : w114.cell? ⟨gb149, 2, none⟩ = some (.int .i64 0) := (blk_cell BK149.out 2).trans rfl; have hcz116_3 : w114.cell? ⟨gb149, 3, none⟩ = some (.int .i64 0) := (blk_cell BK149.out 3).trans rfl; have hcz116_4 : w114.cell? ⟨gb149, 4, none⟩ = some (.int .i64 0) := (blk_cell BK149.out 4).trans rfl; have hfz116_0 := blk_frozen BK149.out 0; have hfz116_1 := blk_frozen BK149.out 1; have hfz116_2 := blk_frozen BK149.out 2; have hfz116_3 := blk_frozen BK149.out 3; have hfz116_4 := blk_frozen BK149.out 4) | ((with_reducible refine gate_store (t := 50) (p := 9) rfl ?_); refine store_event (t := 50) (p := 9) (v := ?vo_w117) (w1 := (((((w114.setCell ⟨gb149, 0, none⟩ (.int .i64 ((rd_T50 l0_1 x17_1).f0))).setCell ⟨gb149, 1, none⟩ (.int .i64 ((rd_T50 l0_1 x17_1).f1))).setCell ⟨gb149, 2, none⟩ (.int .i64 ((rd_T50 l0_1 x17_1).f2))).setCell ⟨gb149, 3, none⟩ (.int .i64 ((rd_T50 l0_1 x17_1).f3))).setCell ⟨gb149, 4, none⟩ (.int .i64 ((rd_T50 l0_1 x17_1).f4)))) ?hg ?ho ?hn ?hr ?_; (case ho => rfl); (case hg => rfl); (case hn => rfl); (case hr => first | (go_simp; done) | (go_simp; rfl)); intro w117 hw; have n0_ : Aside0 (Kd.R (Kd.int .i64) 3 w117 w.heap.size (fun _ => True) v146 x7_1) := ⟨(by rw [hw]; exact (by (with_reducible repeat (first | apply Kd.R_alloc | apply Kd.R_drewN | apply Kd.R_drew)); exact Kd.R_mono (Kd.R_far (p := ⟨gb149, 4, none⟩) (Kd.R_far (p := ⟨gb149, 3, none⟩) (Kd.R_far (p := ⟨gb149, 2, none⟩) (Kd.R_far (p := ⟨gb149, 1, none⟩) (Kd.R_far (p := ⟨gb149, 0, none⟩) (Kd.R_types HO_7.out BK149.out (by decide)) (fun _ hk => hk.2) (.int .i64 ((rd_T50 l0_1 x17_1).f0))) (fun _ hk => hk.2) (.int .i64 ((rd_T50 l0_1 x17_1).f1))) (fun _ hk => hk.2) (.int .i64 ((rd_T50 l0_1 x17_1).f2))) (fun _ hk => hk.2) (.int .i64 ((rd_T50 l0_1 x17_1).f3))) (fun _ hk => hk.2) (.int .i64 ((rd_T50 l0_1 x17_1).f4))) (fun _ hk => trivial)))⟩; have n1_ : Aside0 (w117.heap[gb144]? = some (.cells #[.int .i64 a0_0, .slice (some ad148) l0_1.length c0_1, .slice A0_2 l0_2.length c0_2, .slice A0_3 l0_3.length c0_3, .slice A0_4 l0_4.length c0_4] 38 (0, 0))) := ⟨(by rw [hw]; exact (by (with_reducible repeat (first | refine blk_drewN ?_ _ | refine blk_drew ?_ | refine blk_alloc ?_ _)); refine blk_far ?_ NB144_149.out _; (with_reducible repeat (first | refine blk_drewN ?_ _ | refine blk_drew ?_ | refine blk_alloc ?_ _)); refine blk_far ?_ NB144_149.out _; (with_reducible repeat (first | refine blk_drewN ?_ _ | refine blk_drew ?_ | refine blk_alloc ?_ _)); refine blk_far ?_ NB144_149.out _; (with_reducible repeat (first | refine blk_drewN ?_ _ | refine blk_drew ?_ | refine blk_alloc ?_ _)); refine blk_far ?_ NB144_149.out _; (with_reducible repeat (first | refine blk_drewN ?_ _ | refine blk_drew ?_ | refine blk_alloc ?_ _)); refine blk_far ?_ NB144_149.out _; (with_reducible repeat (first | refine blk_drewN ?_ _ | refine blk_drew ?_ | refine blk_alloc ?_ _)); exact BK144.out))⟩; have n2_ : Aside0 (w117.heap[gb149]? = some (.cells #[.int .i64 ((rd_T50 l0_1 x17_1).f0), .int .i64 ((rd_T50 l0_1 x17_1).f1), .int .i64 ((rd_T50 l0_1 x17_1).f2), .int .i64 ((rd_T50 l0_1 x17_1).f3), .int .i64 ((rd_T50 l0_1 x17_1).f4)] 50 (0, 0))) := ⟨(by rw [hw]; exact (by (with_reducible repeat (first | refine blk_drewN ?_ _ | refine blk_drew ?_ | refine blk_alloc ?_ _)); refine blk_put (cs := #[.int .i64 ((rd_T50 l0_1 x17_1).f0), .int .i64 ((rd_T50 l0_1 x17_1).f1), .int .i64 ((rd_T50 l0_1 x17_1).f2), .int .i64 ((rd_T50 l0_1 x17_1).f3), .int .i64 0]) ?_ 4 _ rfl; (with_reducible repeat (first | refine blk_drewN ?_ _ | refine blk_drew ?_ | refine blk_alloc ?_ _)); refine blk_put (cs := #[.int .i64 ((rd_T50 l0_1 x17_1).f0), .int .i64 ((rd_T50 l0_1 x17_1).f1), .int .i64 ((rd_T50 l0_1 x17_1).f2), .int .i64 0, .int .i64 0]) ?_ 3 _ rfl; (with_reducible repeat (first | refine blk_drewN ?_ _ | refine blk_drew ?_ | refine blk_alloc ?_ _)); refine blk_put (cs := #[.int .i64 ((rd_T50 l0_1 x17_1).f0), .int .i64 ((rd_T50 l0_1 x17_1).f1), .int .i64 0, .int .i64 0, .int .i64 0]) ?_ 2 _ rfl; (with_reducible repeat (first | refine blk_drewN ?_ _ | refine blk_drew ?_ | refine blk_alloc ?_ _)); refine blk_put (cs := #[.int .i64 ((rd_T50 l0_1 x17_1).f0), .int .i64 0, .int .i64 0, .int .i64 0, .int .i64 0]) ?_ 1 _ rfl; (with_reducible repeat (first | refine blk_drewN ?_ _ | refine blk_drew ?_ | refine blk_alloc ?_ _)); refine blk_put (cs := #[.int .i64 0, .int .i64 0, .int .i64 0, .int .i64 0, .int .i64 0]) ?_ 0 _ rfl; (with_reducible repeat (first | refine blk_drewN ?_ _ | refine blk_drew ?_ | refine blk_alloc ?_ _)); exact BK149.out))⟩; have n3_ : Aside0 (Below w.heap.size w w117) := ⟨(by rw [hw]; exact (by repeat (first | (with_reducible first | exact HB.out | apply below_alloc | apply pw_below_drewN | apply below_drew1 | refine below_set ?_ GE144.out | refine below_set ?_ GE149.out) | exact HB.out)))⟩; clear hw; clear HO_7; clear BK144; clear BK149; clear HB; have HO_7 := n0_; have BK144 := n1_; have BK149 := n2_; have HB := n3_; clear n0_ n1_ n2_ n3_; have hcz118_0 : w117.cell? ⟨gb149, 0, none⟩ = some (.int .i64 ((rd_T50 l0_1 x17_1).f0)) := (blk_cell BK149.out 0).trans rfl; have hcz118_1 : w117.cell? ⟨gb149, 1, none⟩ = some (.int .i64 ((rd_T50 l0_1 x17_1).f1)) := (blk_cell BK149.out 1).trans rfl; have hcz118_2 : w117.cell? ⟨gb149, 2, none⟩ = some (.int .i64 ((rd_T50 l0_1 x17_1).f2)) := (blk_cell BK149.out 2).trans rfl; have hcz118_3 : w117.cell? ⟨gb149, 3, none⟩ = some (.int .i64 ((rd_T50 l0_1 x17_1).f3)) := (blk_cell BK149.out 3).trans rfl; have hcz118_4 : w117.cell? ⟨gb149, 4, none⟩ = some (.int .i64 ((rd_T50 l0_1 x17_1).f4)) := (blk_cell BK149.out 4).trans rfl; have hfz118_0 := blk_frozen BK149.out 0; have hfz118_1 := blk_frozen BK149.out 1; have hfz118_2 := blk_frozen BK149.out 2; have hfz118_3 := blk_frozen BK149.out 3; have hfz118_4 := blk_frozen BK149.out 4; obtain ⟨Ao119, co119, eo119⟩ := Kd.R_slice HO_7.out; subst eo119; have p164 : 0 ≤ (((rd_T50 l0_1 x17_1).f3) : Int) := of_decide_eq_true (by first | (with_reducible assumption) | assumption); have q164 : ((rd_T50 l0_1 x17_1).f3) < (x7_1.length : Int) := of_decide_eq_true (by first | (with_reducible assumption) | assumption); obtain ⟨ad164, e164, hx164_0⟩ := Kd.at_int (Kd.R_reads' HO_7.out).2.2 ((rd_T50 l0_1 x17_1).f3) p164 q164; cases e164; replace p164 := eq_true p164; replace q164 := eq_true q164; have p107 : 0 ≤ (x17_1 : Int) := of_decide_eq_true (by first | (with_reducible assumption) | assumption); have q107 : (x17_1 : Int) < ((x7_1.length : Int) : Int) := of_decide_eq_true (by first | (with_reducible assumption) | assumption); obtain ⟨go107, co107, eo107, gb107, gl107, cl107, HG107⟩ := Kd.R_form HO_7.out (by omega); (first | cases eo107 | (injection eo107 with ea_ en_ ec_; (first | subst ea_ | (injection ea_ with ea_; subst ea_)); subst ec_; clear en_)); have GB107 := Aside0.mk gb107; have GG107 := Aside0.mk HG107; clear gb107 gl107 HG107; (first | simp only [add_plain] at hx164_0 | skip); obtain ⟨hx107_0, hf107_0⟩ := Kd.R_celln 0 HO_7.out (x17_1 : Int) p107 q107; replace p107 := eq_true p107; replace q107 := eq_true q107; obtain ⟨hy120_, hz120_⟩ := Kd.R_celln 0 HO_7.out (x17_1 : Int) (of_decide_eq_true (by first | (with_reducible assumption) | assumption)) (of_decide_eq_true (by first | (with_reducible assumption) | assumption)); have HP120 := Kd.R_putg HO_7.out (x17_1 : Int) (rd x7_1 ((rd_T50 l0_1 x17_1).f3))) | ((with_reducible refine gate_store (t := 3) (p := 119) rfl ?_); refine store_event (t := 3) (p := 119) (v := ?vo_w121) (w1 := (w117.setCell ⟨go107, (x17_1 : Int).toNat, none⟩ (.int .i64 (rd x7_1 ((rd_T50 l0_1 x17_1).f3))))) ?hg ?ho ?hn ?hr ?_; (case ho => rfl); (case hg => rfl); (case hn => rfl); (case hr => first | (go_simp; done) | (go_simp; rfl)); intro w121 hw; have hg : w117.grownBy w121 (some go107) := (by rw [hw]; exact HP120.2); have hp_ : Kd.R (Kd.int .i64) 3 w121 w.heap.size (fun _ => True) (.slice (some ⟨go107, 0, none⟩) x7_1.length co119) y165 := (by rw [hw, Ny165.out]; exact HP120.1); clear HP120; have n0_ := Aside0.mk (hp_); have n1_ := Aside0.mk (blk_grown (g := gb144) (o := .cells #[.int .i64 a0_0, .slice (some ad148) l0_1.length c0_1, .slice A0_2 l0_2.length c0_2, .slice A0_3 l0_3.length c0_3, .slice A0_4 l0_4.length c0_4] 38 (0, 0)) (by (with_reducible repeat (first | refine blk_drewN ?_ _ | refine blk_drew ?_ | refine blk_alloc ?_ _)); exact BK144.out) hg (Kd.R_ne HO_7.out BK144.out (by decide))); have n2_ := Aside0.mk (blk_grown (g := gb149) (o := .cells #[.int .i64 ((rd_T50 l0_1 x17_1).f0), .int .i64 ((rd_T50 l0_1 x17_1).f1), .int .i64 ((rd_T50 l0_1 x17_1).f2), .int .i64 ((rd_T50 l0_1 x17_1).f3), .int .i64 ((rd_T50 l0_1 x17_1).f4)] 50 (0, 0)) (by (with_reducible repeat (first | refine blk_drewN ?_ _ | refine blk_drew ?_ | refine blk_alloc ?_ _)); exact BK149.out) hg (Kd.R_ne HO_7.out BK149.out (by decide))); have n3_ := Aside0.mk ((by rw [hw]; exact below_set (HB.out) GB107.out : Below w.heap.size w w121)); clear HO_7; clear BK144; clear BK149; clear HB; have HO_7 := n0_; have BK144 := n1_; have BK149 := n2_; have HB := n3_; clear n0_ n1_ n2_ n3_; clear hg hw hp_; have hcz122_0 : w121.cell? ⟨gb149, 0, none⟩ = some (.int .i64 ((rd_T50 l0_1 x17_1).f0)) := (blk_cell BK149.out 0).trans rfl; have hcz122_1 : w121.cell? ⟨gb149, 1, none⟩ = some (.int .i64 ((rd_T50 l0_1 x17_1).f1)) := (blk_cell BK149.out 1).trans rfl; have hcz122_2 : w121.cell? ⟨gb149, 2, none⟩ = some (.int .i64 ((rd_T50 l0_1 x17_1).f2)) := (blk_cell BK149.out 2).trans rfl; have hcz122_3 : w121.cell? ⟨gb149, 3, none⟩ = some (.int .i64 ((rd_T50 l0_1 x17_1).f3)) := (blk_cell BK149.out 3).trans rfl; have hcz122_4 : w121.cell? ⟨gb149, 4, none⟩ = some (.int .i64 ((rd_T50 l0_1 x17_1).f4)) := (blk_cell BK149.out 4).trans rfl; have hfz122_0 := blk_frozen BK149.out 0; have hfz122_1 := blk_frozen BK149.out 1; have hfz122_2 := blk_frozen BK149.out 2; have hfz122_3 := blk_frozen BK149.out 3; have hfz122_4 := blk_frozen BK149.out 4; have p166 : 0 ≤ (((rd_T50 l0_1 x17_1).f1) : Int) := of_decide_eq_true (by first | (with_reducible assumption) | assumption); have q166 : ((rd_T50 l0_1 x17_1).f1) < (y165.length : Int) := (by have h_ : (((rd_T50 l0_1 x17_1).f1) : Int) < ((x7_1.length : Int) : Int) := of_decide_eq_true (by first | (with_reducible assumption) | assumption); first | (have e_ := (Kd.R_reads' HO_7.out).1; omega) | simpa only [Ny165.out, List.length_set] using h_); have ql166 : ((((rd_T50 l0_1 x17_1).f1) : Int) < ((x7_1.length : Int) : Int)) = True := eq_true (of_decide_eq_true (by first | (with_reducible assumption) | assumption)); obtain ⟨ad166, e166, hx166_0⟩ := Kd.at_int (Kd.R_reads' HO_7.out).2.2 ((rd_T50 l0_1 x17_1).f1) p166 q166; obtain rfl : (⟨go107, 0, none⟩ : Addr) = ad166 := (by injection e166); (first | simp only [add_plain] at hx166_0 | simp only [add_at] at hx166_0 | simp only [Addr.add, Nat.zero_add] at hx166_0 | skip); replace p166 := eq_true p166; replace q166 := eq_true q166; have p167 : 0 ≤ (((rd_T50 l0_1 x17_1).f2) : Int) := of_decide_eq_true (by first | (with_reducible assumption) | assumption); have q167 : ((rd_T50 l0_1 x17_1).f2) < (y165.length : Int) := (by have h_ : (((rd_T50 l0_1 x17_1).f2) : Int) < ((x7_1.length : Int) : Int) := of_decide_eq_true (by first | (with_reducible assumption) | assumption); first | (have e_ := (Kd.R_reads' HO_7.out).1; omega) | simpa only [Ny165.out, List.length_set] using h_); have ql167 : ((((rd_T50 l0_1 x17_1).f2) : Int) < ((x7_1.length : Int) : Int)) = True := eq_true (of_decide_eq_true (by first | (with_reducible assumption) | assumption)); obtain ⟨ad167, e167, hx167_0⟩ := Kd.at_int (Kd.R_reads' HO_7.out).2.2 ((rd_T50 l0_1 x17_1).f2) p167 q167; obtain rfl : (⟨go107, 0, none⟩ : Addr) = ad167 := (by injection e167); (first | simp only [add_plain] at hx167_0 | simp only [add_at] at hx167_0 | simp only [Addr.add, Nat.zero_add] at hx167_0 | skip); replace p167 := eq_true p167; replace q167 := eq_true q167; have p113 : 0 ≤ (x17_1 : Int) := of_decide_eq_true (by first | (with_reducible assumption) | assumption); have q113 : (x17_1 : Int) < ((x7_1.length : Int) : Int) := of_decide_eq_true (by first | (with_reducible assumption) | assumption); obtain ⟨hx113_0, hf113_0⟩ := Kd.R_celln 0 HO_7.out (x17_1 : Int) p113 q113; replace p113 := eq_true p113; replace q113 := eq_true q113; obtain ⟨hy123_, hz123_⟩ := Kd.R_celln 0 HO_7.out (x17_1 : Int) (of_decide_eq_true (by first | (with_reducible assumption) | assumption)) (of_decide_eq_true (by first | (with_reducible assumption) | assumption)); have HP123 := Kd.R_putg HO_7.out (x17_1 : Int) (rd y165 ((rd_T50 l0_1 x17_1).f2))) | ((with_reducible refine gate_store (t := 3) (p := 133) rfl ?_); refine store_event (t := 3) (p := 133) (v := ?vo_w124) (w1 := (w121.setCell ⟨go107, (x17_1 : Int).toNat, none⟩ (.int .i64 (rd y165 ((rd_T50 l0_1 x17_1).f2))))) ?hg ?ho ?hn ?hr ?_; (case ho => rfl); (case hg => rfl); (case hn => rfl); (case hr => first | (go_simp; done) | (go_simp; rfl)); intro w124 hw; have hg : w121.grownBy w124 (some go107) := (by rw [hw]; exact HP123.2); have hp_ : Kd.R (Kd.int .i64) 3 w124 w.heap.size (fun _ => True) (.slice (some ⟨go107, 0, none⟩) x7_1.length co119) y168 := (by rw [hw, Ny168.out]; exact HP123.1); clear HP123; have n0_ := Aside0.mk (hp_); have n1_ := Aside0.mk (blk_grown (g := gb144) (o := .cells #[.int .i64 a0_0, .slice (some ad148) l0_1.length c0_1, .slice A0_2 l0_2.length c0_2, .slice A0_3 l0_3.length c0_3, .slice A0_4 l0_4.length c0_4] 38 (0, 0)) (by (with_reducible repeat (first | refine blk_drewN ?_ _ | refine blk_drew ?_ | refine blk_alloc ?_ _)); exact BK144.out) hg (Kd.R_ne HO_7.out BK144.out (by decide))); have n2_ := Aside0.mk (blk_grown (g := gb149) (o := .cells #[.int .i64 ((rd_T50 l0_1 x17_1).f0), .int .i64 ((rd_T50 l0_1 x17_1).f1), .int .i64 ((rd_T50 l0_1 x17_1).f2), .int .i64 ((rd_T50 l0_1 x17_1).f3), .int .i64 ((rd_T50 l0_1 x17_1).f4)] 50 (0, 0)) (by (with_reducible repeat (first | refine blk_drewN ?_ _ | refine blk_drew ?_ | refine blk_alloc ?_ _)); exact BK149.out) hg (Kd.R_ne HO_7.out BK149.out (by decide))); have n3_ := Aside0.mk ((by rw [hw]; exact below_set (HB.out) GB107.out : Below w.heap.size w w124)); clear HO_7; clear BK144; clear BK149; clear HB; have HO_7 := n0_; have BK144 := n1_; have BK149 := n2_; have HB := n3_; clear n0_ n1_ n2_ n3_; clear hg hw hp_))
                                                go_roundg k1
                                                case measure => have := HK1.out; omega
                                                case rel => exact ⟨(y168), (wrap64 (x17_1 + 1)), (by first | rfl | (simp; done) | (simp [*]; done)), H', ⟨by have := HK1.out; omega⟩, ⟨by (with_reducible repeat (first | apply Kd.R_alloc | apply Kd.R_drewN | apply Kd.R_drew)); exact HO_7.out⟩, ⟨by (with_reducible repeat (first | refine blk_drewN ?_ _ | refine blk_drew ?_ | refine blk_alloc ?_ _)); exact BK144.out⟩, ⟨by repeat (first | (with_reducible first | exact HB.out | apply below_alloc | apply pw_below_drewN | apply below_drew1 | refine below_set ?_ GE144.out | refine below_set ?_ GE149.out) | exact HB.out)⟩⟩
                                              · rw [if_neg c112] at H
                                                exact absurd H (by simp)
                                            · rw [if_neg c111] at H
                                              exact absurd H (by simp)
                                          · rw [if_neg c110] at H
                                            have c110b0 : ((rd y165 ((rd_T50 l0_1 x17_1).f1)) == 1) = false := beq_eq_false_iff_ne.mpr c110
                                            have c110b1 : ((rd y165 ((rd_T50 l0_1 x17_1).f1)) != 1) = true := bne_iff_ne.mpr c110
                                            have H' := Aside0.mk H
                                            clear H
                                            have p148 : 0 ≤ (x17_1 : Int) := of_decide_eq_true (by first | (with_reducible assumption) | assumption)
                                            have q148 : x17_1 < (l0_1.length : Int) := of_decide_eq_true (by first | (with_reducible assumption) | assumption)
                                            obtain ⟨ad148, e148, hx148_0, hx148_1, hx148_2, hx148_3, hx148_4⟩ := at_T50 HR0_1.out x17_1 p148 q148
                                            cases e148
                                            replace hx148_0 := (HB.out.cell (World.block_lt_of_cell? w _ hx148_0)).trans hx148_0
                                            replace hx148_1 := (HB.out.cell (World.block_lt_of_cell? w _ hx148_1)).trans hx148_1
                                            replace hx148_2 := (HB.out.cell (World.block_lt_of_cell? w _ hx148_2)).trans hx148_2
                                            replace hx148_3 := (HB.out.cell (World.block_lt_of_cell? w _ hx148_3)).trans hx148_3
                                            replace hx148_4 := (HB.out.cell (World.block_lt_of_cell? w _ hx148_4)).trans hx148_4
                                            replace p148 := eq_true p148
                                            replace q148 := eq_true q148
                                            go_wp2_with (first | ((with_reducible refine gate_dst (N := 9) rfl ?_); refine box_event ?hg (N := 9) ?hd (cs := #[.int .i64 0, .int .i64 0, .int .i64 0, .int .i64 0, .int .i64 0]) (t := 50) ?hr ?_; (case hd => rfl); (case hg => rfl); (case hr => first | (go_simp; done) | (go_simp; rfl)); intro gb149 hg w125 hbox hb; have n0_ := Aside0.mk (Kd.R_below (by (with_reducible repeat (first | apply Kd.R_alloc | apply Kd.R_drewN | apply Kd.R_drew)); exact HO_7.out) hb); have n1_ := Aside0.mk (blk_below (g := gb144) (o := .cells #[.int .i64 a0_0, .slice (some ad148) l0_1.length c0_1, .slice A0_2 l0_2.length c0_2, .slice A0_3 l0_3.length c0_3, .slice A0_4 l0_4.length c0_4] 38 (0, 0)) (by (with_reducible repeat (first | refine blk_drewN ?_ _ | refine blk_drew ?_ | refine blk_alloc ?_ _)); exact BK144.out) hb); have n2_ := Aside0.mk (below_step (by repeat (first | (with_reducible first | exact HB.out | apply below_alloc | apply pw_below_drewN | apply below_drew1 | refine below_set ?_ GE144.out) | exact HB.out)) hb); have n3_ := Aside0.mk (hbox); have n4_ := Aside0.mk ((by rw [hg]; exact (below_size (by repeat (first | (with_reducible first | exact HB.out | apply below_alloc | apply pw_below_drewN | apply below_drew1 | refine below_set ?_ GE144.out) | exact HB.out))) : w.heap.size ≤ gb149)); have n5_ := Aside0.mk ((by rw [hg]; exact (below_size (by repeat (first | (with_reducible first | exact HB.out | apply below_alloc | apply pw_below_drewN | apply below_drew1 | refine below_set ?_ GE144.out) | exact HB.out))) : w.heap.size ≤ gb149)); have n6_ := Aside0.mk ((by rw [hg]; exact Nat.ne_of_lt (blk_lt (g := gb144) (o := .cells #[.int .i64 a0_0, .slice (some ad148) l0_1.length c0_1, .slice A0_2 l0_2.length c0_2, .slice A0_3 l0_3.length c0_3, .slice A0_4 l0_4.length c0_4] 38 (0, 0)) (by (with_reducible repeat (first | refine blk_drewN ?_ _ | refine blk_drew ?_ | refine blk_alloc ?_ _)); exact BK144.out)) : gb144 ≠ gb149)); have n7_ := Aside0.mk ((by rw [hg]; exact Nat.ne_of_gt (blk_lt (g := gb144) (o := .cells #[.int .i64 a0_0, .slice (some ad148) l0_1.length c0_1, .slice A0_2 l0_2.length c0_2, .slice A0_3 l0_3.length c0_3, .slice A0_4 l0_4.length c0_4] 38 (0, 0)) (by (with_reducible repeat (first | refine blk_drewN ?_ _ | refine blk_drew ?_ | refine blk_alloc ?_ _)); exact BK144.out)) : gb149 ≠ gb144)); clear HO_7; clear BK144; clear HB; have HO_7 := n0_; have BK144 := n1_; have HB := n2_; have BK149 := n3_; have GW149 := n4_; have GE149 := n5_; have NB144_149 := n6_; have NB149_144 := n7_; clear n0_ n1_ n2_ n3_ n4_ n5_ n6_ n7_; clear hb hbox hg; have hnb126 := NB149_144.out; have hnc126 := NB144_149.out; have hcz127_0 : w125.cell? ⟨gb149, 0, none⟩ = some (.int .i64 0) := (blk_cell BK149.out 0).trans rfl; have hcz127_1 : w125.cell? ⟨gb149, 1, none⟩ = some (.int .i64 0) := (blk_cell BK149.out 1).trans rfl; have hcz127_2 : w125.cell? ⟨gb149, 2, none⟩ = some (.int .i64 0) := (blk_cell BK149.out 2).trans rfl; have hcz127_3 : w125.cell? ⟨gb149, 3, none⟩ = some (.int .i64 0) := (blk_cell BK149.out 3).trans rfl; have hcz127_4 : w125.cell? ⟨gb149, 4, none⟩ = some (.int .i64 0) := (blk_cell BK149.out 4).trans rfl; have hfz127_0 := blk_frozen BK149.out 0; have hfz127_1 := blk_frozen BK149.out 1; have hfz127_2 := blk_frozen BK149.out 2; have hfz127_3 := blk_frozen BK149.out 3; have hfz127_4 := blk_frozen BK149.out 4) | ((with_reducible refine gate_store (t := 50) (p := 9) rfl ?_); refine store_event (t := 50) (p := 9) (v := ?vo_w128) (w1 := (((((w125.setCell ⟨gb149, 0, none⟩ (.int .i64 ((rd_T50 l0_1 x17_1).f0))).setCell ⟨gb149, 1, none⟩ (.int .i64 ((rd_T50 l0_1 x17_1).f1))).setCell ⟨gb149, 2, none⟩ (.int .i64 ((rd_T50 l0_1 x17_1).f2))).setCell ⟨gb149, 3, none⟩ (.int .i64 ((rd_T50 l0_1 x17_1).f3))).setCell ⟨gb149, 4, none⟩ (.int .i64 ((rd_T50 l0_1 x17_1).f4)))) ?hg ?ho ?hn ?hr ?_; (case ho => rfl); (case hg => rfl); (case hn => rfl); (case hr => first | (go_simp; done) | (go_simp; rfl)); intro w128 hw; have n0_ : Aside0 (Kd.R (Kd.int .i64) 3 w128 w.heap.size (fun _ => True) v146 x7_1) := ⟨(by rw [hw]; exact (by (with_reducible repeat (first | apply Kd.R_alloc | apply Kd.R_drewN | apply Kd.R_drew)); exact Kd.R_mono (Kd.R_far (p := ⟨gb149, 4, none⟩) (Kd.R_far (p := ⟨gb149, 3, none⟩) (Kd.R_far (p := ⟨gb149, 2, none⟩) (Kd.R_far (p := ⟨gb149, 1, none⟩) (Kd.R_far (p := ⟨gb149, 0, none⟩) (Kd.R_types HO_7.out BK149.out (by decide)) (fun _ hk => hk.2) (.int .i64 ((rd_T50 l0_1 x17_1).f0))) (fun _ hk => hk.2) (.int .i64 ((rd_T50 l0_1 x17_1).f1))) (fun _ hk => hk.2) (.int .i64 ((rd_T50 l0_1 x17_1).f2))) (fun _ hk => hk.2) (.int .i64 ((rd_T50 l0_1 x17_1).f3))) (fun _ hk => hk.2) (.int .i64 ((rd_T50 l0_1 x17_1).f4))) (fun _ hk => trivial)))⟩; have n1_ : Aside0 (w128.heap[gb144]? = some (.cells #[.int .i64 a0_0, .slice (some ad148) l0_1.length c0_1, .slice A0_2 l0_2.length c0_2, .slice A0_3 l0_3.length c0_3, .slice A0_4 l0_4.length c0_4] 38 (0, 0))) := ⟨(by rw [hw]; exact (by (with_reducible repeat (first | refine blk_drewN ?_ _ | refine blk_drew ?_ | refine blk_alloc ?_ _)); refine blk_far ?_ NB144_149.out _; (with_reducible repeat (first | refine blk_drewN ?_ _ | refine blk_drew ?_ | refine blk_alloc ?_ _)); refine blk_far ?_ NB144_149.out _; (with_reducible repeat (first | refine blk_drewN ?_ _ | refine blk_drew ?_ | refine blk_alloc ?_ _)); refine blk_far ?_ NB144_149.out _; (with_reducible repeat (first | refine blk_drewN ?_ _ | refine blk_drew ?_ | refine blk_alloc ?_ _)); refine blk_far ?_ NB144_149.out _; (with_reducible repeat (first | refine blk_drewN ?_ _ | refine blk_drew ?_ | refine blk_alloc ?_ _)); refine blk_far ?_ NB144_149.out _; (with_reducible repeat (first | refine blk_drewN ?_ _ | refine blk_drew ?_ | refine blk_alloc ?_ _)); exact BK144.out))⟩; have n2_ : Aside0 (w128.heap[gb149]? = some (.cells #[.int .i64 ((rd_T50 l0_1 x17_1).f0), .int .i64 ((rd_T50 l0_1 x17_1).f1), .int .i64 ((rd_T50 l0_1 x17_1).f2), .int .i64 ((rd_T50 l0_1 x17_1).f3), .int .i64 ((rd_T50 l0_1 x17_1).f4)] 50 (0, 0))) := ⟨(by rw [hw]; exact (by (with_reducible repeat (first | refine blk_drewN ?_ _ | refine blk_drew ?_ | refine blk_alloc ?_ _)); refine blk_put (cs := #[.int .i64 ((rd_T50 l0_1 x17_1).f0), .int .i64 ((rd_T50 l0_1 x17_1).f1), .int .i64 ((rd_T50 l0_1 x17_1).f2), .int .i64 ((rd_T50 l0_1 x17_1).f3), .int .i64 0]) ?_ 4 _ rfl; (with_reducible repeat (first | refine blk_drewN ?_ _ | refine blk_drew ?_ | refine blk_alloc ?_ _)); refine blk_put (cs := #[.int .i64 ((rd_T50 l0_1 x17_1).f0), .int .i64 ((rd_T50 l0_1 x17_1).f1), .int .i64 ((rd_T50 l0_1 x17_1).f2), .int .i64 0, .int .i64 0]) ?_ 3 _ rfl; (with_reducible repeat (first | refine blk_drewN ?_ _ | refine blk_drew ?_ | refine blk_alloc ?_ _)); refine blk_put (cs := #[.int .i64 ((rd_T50 l0_1 x17_1).f0), .int .i64 ((rd_T50 l0_1 x17_1).f1), .int .i64 0, .int .i64 0, .int .i64 0]) ?_ 2 _ rfl; (with_reducible repeat (first | refine blk_drewN ?_ _ | refine blk_drew ?_ | refine blk_alloc ?_ _)); refine blk_put (cs := #[.int .i64 ((rd_T50 l0_1 x17_1).f0), .int .i64 0, .int .i64 0, .int .i64 0, .int .i64 0]) ?_ 1 _ rfl; (with_reducible repeat (first | refine blk_drewN ?_ _ | refine blk_drew ?_ | refine blk_alloc ?_ _)); refine blk_put (cs := #[.int .i64 0, .int .i64 0, .int .i64 0, .int .i64 0, .int .i64 0]) ?_ 0 _ rfl; (with_reducible repeat (first | refine blk_drewN ?_ _ | refine blk_drew ?_ | refine blk_alloc ?_ _)); exact BK149.out))⟩; have n3_ : Aside0 (Below w.heap.size w w128) := ⟨(by rw [hw]; exact (by repeat (first | (with_reducible first | exact HB.out | apply below_alloc | apply pw_below_drewN | apply below_drew1 | refine below_set ?_ GE144.out | refine below_set ?_ GE149.out) | exact HB.out)))⟩; clear hw; clear HO_7; clear BK144; clear BK149; clear HB; have HO_7 := n0_; have BK144 := n1_; have BK149 := n2_; have HB := n3_; clear n0_ n1_ n2_ n3_; have hcz129_0 : w128.cell? ⟨gb149, 0, none⟩ = some (.int .i64 ((rd_T50 l0_1 x17_1).f0)) := (blk_cell BK149.out 0).trans rfl; have hcz129_1 : w128.cell? ⟨gb149, 1, none⟩ = some (.int .i64 ((rd_T50 l0_1 x17_1).f1)) := (blk_cell BK149.out 1).trans rfl; have hcz129_2 : w128.cell? ⟨gb149, 2, none⟩ = some (.int .i64 ((rd_T50 l0_1 x17_1).f2)) := (blk_cell BK149.out 2).trans rfl; have hcz129_3 : w128.cell? ⟨gb149, 3, none⟩ = some (.int .i64 ((rd_T50 l0_1 x17_1).f3)) := (blk_cell BK149.out 3).trans rfl; have hcz129_4 : w128.cell? ⟨gb149, 4, none⟩ = some (.int .i64 ((rd_T50 l0_1 x17_1).f4)) := (blk_cell BK149.out 4).trans rfl; have hfz129_0 := blk_frozen BK149.out 0; have hfz129_1 := blk_frozen BK149.out 1; have hfz129_2 := blk_frozen BK149.out 2; have hfz129_3 := blk_frozen BK149.out 3; have hfz129_4 := blk_frozen BK149.out 4; obtain ⟨Ao130, co130, eo130⟩ := Kd.R_slice HO_7.out; subst eo130; have p164 : 0 ≤ (((rd_T50 l0_1 x17_1).f3) : Int) := of_decide_eq_true (by first | (with_reducible assumption) | assumption); have q164 : ((rd_T50 l0_1 x17_1).f3) < (x7_1.length : Int) := of_decide_eq_true (by first | (with_reducible assumption) | assumption); obtain ⟨ad164, e164, hx164_0⟩ := Kd.at_int (Kd.R_reads' HO_7.out).2.2 ((rd_T50 l0_1 x17_1).f3) p164 q164; cases e164; replace p164 := eq_true p164; replace q164 := eq_true q164; have p107 : 0 ≤ (x17_1 : Int) := of_decide_eq_true (by first | (with_reducible assumption) | assumption); have q107 : (x17_1 : Int) < ((x7_1.length : Int) : Int) := of_decide_eq_true (by first | (with_reducible assumption) | assumption); obtain ⟨go107, co107, eo107, gb107, gl107, cl107, HG107⟩ := Kd.R_form HO_7.out (by omega); (first | cases eo107 | (injection eo107 with ea_ en_ ec_; (first | subst ea_ | (injection ea_ with ea_; subst ea_)); subst ec_; clear en_)); have GB107 := Aside0.mk gb107; have GG107 := Aside0.mk HG107; clear gb107 gl107 HG107; (first | simp only [add_plain] at hx164_0 | skip); obtain ⟨hx107_0, hf107_0⟩ := Kd.R_celln 0 HO_7.out (x17_1 : Int) p107 q107; replace p107 := eq_true p107; replace q107 := eq_true q107; obtain ⟨hy131_, hz131_⟩ := Kd.R_celln 0 HO_7.out (x17_1 : Int) (of_decide_eq_true (by first | (with_reducible assumption) | assumption)) (of_decide_eq_true (by first | (with_reducible assumption) | assumption)); have HP131 := Kd.R_putg HO_7.out (x17_1 : Int) (rd x7_1 ((rd_T50 l0_1 x17_1).f3))) | ((with_reducible refine gate_store (t := 3) (p := 119) rfl ?_); refine store_event (t := 3) (p := 119) (v := ?vo_w132) (w1 := (w128.setCell ⟨go107, (x17_1 : Int).toNat, none⟩ (.int .i64 (rd x7_1 ((rd_T50 l0_1 x17_1).f3))))) ?hg ?ho ?hn ?hr ?_; (case ho => rfl); (case hg => rfl); (case hn => rfl); (case hr => first | (go_simp; done) | (go_simp; rfl)); intro w132 hw; have hg : w128.grownBy w132 (some go107) := (by rw [hw]; exact HP131.2); have hp_ : Kd.R (Kd.int .i64) 3 w132 w.heap.size (fun _ => True) (.slice (some ⟨go107, 0, none⟩) x7_1.length co130) y165 := (by rw [hw, Ny165.out]; exact HP131.1); clear HP131; have n0_ := Aside0.mk (hp_); have n1_ := Aside0.mk (blk_grown (g := gb144) (o := .cells #[.int .i64 a0_0, .slice (some ad148) l0_1.length c0_1, .slice A0_2 l0_2.length c0_2, .slice A0_3 l0_3.length c0_3, .slice A0_4 l0_4.length c0_4] 38 (0, 0)) (by (with_reducible repeat (first | refine blk_drewN ?_ _ | refine blk_drew ?_ | refine blk_alloc ?_ _)); exact BK144.out) hg (Kd.R_ne HO_7.out BK144.out (by decide))); have n2_ := Aside0.mk (blk_grown (g := gb149) (o := .cells #[.int .i64 ((rd_T50 l0_1 x17_1).f0), .int .i64 ((rd_T50 l0_1 x17_1).f1), .int .i64 ((rd_T50 l0_1 x17_1).f2), .int .i64 ((rd_T50 l0_1 x17_1).f3), .int .i64 ((rd_T50 l0_1 x17_1).f4)] 50 (0, 0)) (by (with_reducible repeat (first | refine blk_drewN ?_ _ | refine blk_drew ?_ | refine blk_alloc ?_ _)); exact BK149.out) hg (Kd.R_ne HO_7.out BK149.out (by decide))); have n3_ := Aside0.mk ((by rw [hw]; exact below_set (HB.out) GB107.out : Below w.heap.size w w132)); clear HO_7; clear BK144; clear BK149; clear HB; have HO_7 := n0_; have BK144 := n1_; have BK149 := n2_; have HB := n3_; clear n0_ n1_ n2_ n3_; clear hg hw hp_; have hcz133_0 : w132.cell? ⟨gb149, 0, none⟩ = some (.int .i64 ((rd_T50 l0_1 x17_1).f0)) := (blk_cell BK149.out 0).trans rfl; have hcz133_1 : w132.cell? ⟨gb149, 1, none⟩ = some (.int .i64 ((rd_T50 l0_1 x17_1).f1)) := (blk_cell BK149.out 1).trans rfl; have hcz133_2 : w132.cell? ⟨gb149, 2, none⟩ = some (.int .i64 ((rd_T50 l0_1 x17_1).f2)) := (blk_cell BK149.out 2).trans rfl; have hcz133_3 : w132.cell? ⟨gb149, 3, none⟩ = some (.int .i64 ((rd_T50 l0_1 x17_1).f3)) := (blk_cell BK149.out 3).trans rfl; have hcz133_4 : w132.cell? ⟨gb149, 4, none⟩ = some (.int .i64 ((rd_T50 l0_1 x17_1).f4)) := (blk_cell BK149.out 4).trans rfl; have hfz133_0 := blk_frozen BK149.out 0; have hfz133_1 := blk_frozen BK149.out 1; have hfz133_2 := blk_frozen BK149.out 2; have hfz133_3 := blk_frozen BK149.out 3; have hfz133_4 := blk_frozen BK149.out 4; have p166 : 0 ≤ (((rd_T50 l0_1 x17_1).f1) : Int) := of_decide_eq_true (by first | (with_reducible assumption) | assumption); have q166 : ((rd_T50 l0_1 x17_1).f1) < (y165.length : Int) := (by have h_ : (((rd_T50 l0_1 x17_1).f1) : Int) < ((x7_1.length : Int) : Int) := of_decide_eq_true (by first | (with_reducible assumption) | assumption); first | (have e_ := (Kd.R_reads' HO_7.out).1; omega) | simpa only [Ny165.out, List.length_set] using h_); have ql166 : ((((rd_T50 l0_1 x17_1).f1) : Int) < ((x7_1.length : Int) : Int)) = True := eq_true (of_decide_eq_true (by first | (with_reducible assumption) | assumption)); obtain ⟨ad166, e166, hx166_0⟩ := Kd.at_int (Kd.R_reads' HO_7.out).2.2 ((rd_T50 l0_1 x17_1).f1) p166 q166; obtain rfl : (⟨go107, 0, none⟩ : Addr) = ad166 := (by injection e166); (first | simp only [add_plain] at hx166_0 | simp only [add_at] at hx166_0 | simp only [Addr.add, Nat.zero_add] at hx166_0 | skip); replace p166 := eq_true p166; replace q166 := eq_true q166))
                                            go_roundg k1
                                            case measure => have := HK1.out; omega
                                            case rel => exact ⟨(y165), (wrap64 (x17_1 + 1)), (by first | rfl | (simp; done) | (simp [*]; done)), H', ⟨by have := HK1.out; omega⟩, ⟨by (with_reducible repeat (first | apply Kd.R_alloc | apply Kd.R_drewN | apply Kd.R_drew)); exact HO_7.out⟩, ⟨by (with_reducible repeat (first | refine blk_drewN ?_ _ | refine blk_drew ?_ | refine blk_alloc ?_ _)); exact BK144.out⟩, ⟨by repeat (first | (with_reducible first | exact HB.out | apply below_alloc | apply pw_below_drewN | apply below_drew1 | refine below_set ?_ GE144.out | refine below_set ?_ GE149.out) | exact HB.out)⟩⟩
                                        · rw [if_neg c109] at H
                                          exact absurd H (by simp)
                                      · rw [if_neg c108] at H
                                        exact absurd H (by simp)
                                    · rw [if_neg c106] at H
                                      exact absurd H (by simp)
                                  · rw [if_neg c105] at H
                                    exact absurd H (by simp)
                                · rw [if_neg c104] at H
                                  exact absurd H (by simp)
                              · rw [if_neg c103] at H
                                have c103b0 : (((rd_T50 l0_1 x17_1).f0) == 7) = false := beq_eq_false_iff_ne.mpr c103
                                have c103b1 : (((rd_T50 l0_1 x17_1).f0) != 7) = true := bne_iff_ne.mpr c103
                                have H' := Aside0.mk H
                                clear H
                                have p148 : 0 ≤ (x17_1 : Int) := of_decide_eq_true (by first | (with_reducible assumption) | assumption)
                                have q148 : x17_1 < (l0_1.length : Int) := of_decide_eq_true (by first | (with_reducible assumption) | assumption)
                                obtain ⟨ad148, e148, hx148_0, hx148_1, hx148_2, hx148_3, hx148_4⟩ := at_T50 HR0_1.out x17_1 p148 q148
                                cases e148
                                replace hx148_0 := (HB.out.cell (World.block_lt_of_cell? w _ hx148_0)).trans hx148_0
                                replace hx148_1 := (HB.out.cell (World.block_lt_of_cell? w _ hx148_1)).trans hx148_1
                                replace hx148_2 := (HB.out.cell (World.block_lt_of_cell? w _ hx148_2)).trans hx148_2
                                replace hx148_3 := (HB.out.cell (World.block_lt_of_cell? w _ hx148_3)).trans hx148_3
                                replace hx148_4 := (HB.out.cell (World.block_lt_of_cell? w _ hx148_4)).trans hx148_4
                                replace p148 := eq_true p148
                                replace q148 := eq_true q148
                                go_wp2_with (first | ((with_reducible refine gate_dst (N := 9) rfl ?_); refine box_event ?hg (N := 9) ?hd (cs := #[.int .i64 0, .int .i64 0, .int .i64 0, .int .i64 0, .int .i64 0]) (t := 50) ?hr ?_; (case hd => rfl); (case hg => rfl); (case hr => first | (go_simp; done) | (go_simp; rfl)); intro gb149 hg w134 hbox hb; have n0_ := Aside0.mk (Kd.R_below (by (with_reducible repeat (first | apply Kd.R_alloc | apply Kd.R_drewN | apply Kd.R_drew)); exact HO_7.out) hb); have n1_ := Aside0.mk (blk_below (g := gb144) (o := .cells #[.int .i64 a0_0, .slice (some ad148) l0_1.length c0_1, .slice A0_2 l0_2.length c0_2, .slice A0_3 l0_3.length c0_3, .slice A0_4 l0_4.length c0_4] 38 (0, 0)) (by (with_reducible repeat (first | refine blk_drewN ?_ _ | refine blk_drew ?_ | refine blk_alloc ?_ _)); exact BK144.out) hb); have n2_ := Aside0.mk (below_step (by repeat (first | (with_reducible first | exact HB.out | apply below_alloc | apply pw_below_drewN | apply below_drew1 | refine below_set ?_ GE144.out) | exact HB.out)) hb); have n3_ := Aside0.mk (hbox); have n4_ := Aside0.mk ((by rw [hg]; exact (below_size (by repeat (first | (with_reducible first | exact HB.out | apply below_alloc | apply pw_below_drewN | apply below_drew1 | refine below_set ?_ GE144.out) | exact HB.out))) : w.heap.size ≤ gb149)); have n5_ := Aside0.mk ((by rw [hg]; exact (below_size (by repeat (first | (with_reducible first | exact HB.out | apply below_alloc | apply pw_below_drewN | apply below_drew1 | refine below_set ?_ GE144.out) | exact HB.out))) : w.heap.size ≤ gb149)); have n6_ := Aside0.mk ((by rw [hg]; exact Nat.ne_of_lt (blk_lt (g := gb144) (o := .cells #[.int .i64 a0_0, .slice (some ad148) l0_1.length c0_1, .slice A0_2 l0_2.length c0_2, .slice A0_3 l0_3.length c0_3, .slice A0_4 l0_4.length c0_4] 38 (0, 0)) (by (with_reducible repeat (first | refine blk_drewN ?_ _ | refine blk_drew ?_ | refine blk_alloc ?_ _)); exact BK144.out)) : gb144 ≠ gb149)); have n7_ := Aside0.mk ((by rw [hg]; exact Nat.ne_of_gt (blk_lt (g := gb144) (o := .cells #[.int .i64 a0_0, .slice (some ad148) l0_1.length c0_1, .slice A0_2 l0_2.length c0_2, .slice A0_3 l0_3.length c0_3, .slice A0_4 l0_4.length c0_4] 38 (0, 0)) (by (with_reducible repeat (first | refine blk_drewN ?_ _ | refine blk_drew ?_ | refine blk_alloc ?_ _)); exact BK144.out)) : gb149 ≠ gb144)); clear HO_7; clear BK144; clear HB; have HO_7 := n0_; have BK144 := n1_; have HB := n2_; have BK149 := n3_; have GW149 := n4_; have GE149 := n5_; have NB144_149 := n6_; have NB149_144 := n7_; clear n0_ n1_ n2_ n3_ n4_ n5_ n6_ n7_; clear hb hbox hg; have hnb135 := NB149_144.out; have hnc135 := NB144_149.out; have hcz136_0 : w134.cell? ⟨gb149, 0, none⟩ = some (.int .i64 0) := (blk_cell BK149.out 0).trans rfl; have hcz136_1 : w134.cell? ⟨gb149, 1, none⟩ = some (.int .i64 0) := (blk_cell BK149.out 1).trans rfl; have hcz136_2 : w134.cell? ⟨gb149, 2, none⟩ = some (.int .i64 0) := (blk_cell BK149.out 2).trans rfl; have hcz136_3 : w134.cell? ⟨gb149, 3, none⟩ = some (.int .i64 0) := (blk_cell BK149.out 3).trans rfl; have hcz136_4 : w134.cell? ⟨gb149, 4, none⟩ = some (.int .i64 0) := (blk_cell BK149.out 4).trans rfl; have hfz136_0 := blk_frozen BK149.out 0; have hfz136_1 := blk_frozen BK149.out 1; have hfz136_2 := blk_frozen BK149.out 2; have hfz136_3 := blk_frozen BK149.out 3; have hfz136_4 := blk_frozen BK149.out 4))
                                go_roundg k1
                                case measure => have := HK1.out; omega
                                case rel => exact ⟨(x7_1), (wrap64 (x17_1 + 1)), (by first | rfl | (simp; done) | (simp [*]; done)), H', ⟨by have := HK1.out; omega⟩, ⟨by (with_reducible repeat (first | apply Kd.R_alloc | apply Kd.R_drewN | apply Kd.R_drew)); exact Kd.R_mono (Kd.R_far (p := ⟨gb149, 4, none⟩) (Kd.R_far (p := ⟨gb149, 3, none⟩) (Kd.R_far (p := ⟨gb149, 2, none⟩) (Kd.R_far (p := ⟨gb149, 1, none⟩) (Kd.R_far (p := ⟨gb149, 0, none⟩) (Kd.R_types HO_7.out BK149.out (by decide)) (fun _ hk => hk.2) (.int .i64 ((rd_T50 l0_1 x17_1).f0))) (fun _ hk => hk.2) (.int .i64 ((rd_T50 l0_1 x17_1).f1))) (fun _ hk => hk.2) (.int .i64 ((rd_T50 l0_1 x17_1).f2))) (fun _ hk => hk.2) (.int .i64 ((rd_T50 l0_1 x17_1).f3))) (fun _ hk => hk.2) (.int .i64 ((rd_T50 l0_1 x17_1).f4))) (fun _ hk => trivial)⟩, ⟨by (with_reducible repeat (first | refine blk_drewN ?_ _ | refine blk_drew ?_ | refine blk_alloc ?_ _)); refine blk_far ?_ NB144_149.out _; (with_reducible repeat (first | refine blk_drewN ?_ _ | refine blk_drew ?_ | refine blk_alloc ?_ _)); refine blk_far ?_ NB144_149.out _; (with_reducible repeat (first | refine blk_drewN ?_ _ | refine blk_drew ?_ | refine blk_alloc ?_ _)); refine blk_far ?_ NB144_149.out _; (with_reducible repeat (first | refine blk_drewN ?_ _ | refine blk_drew ?_ | refine blk_alloc ?_ _)); refine blk_far ?_ NB144_149.out _; (with_reducible repeat (first | refine blk_drewN ?_ _ | refine blk_drew ?_ | refine blk_alloc ?_ _)); refine blk_far ?_ NB144_149.out _; (with_reducible repeat (first | refine blk_drewN ?_ _ | refine blk_drew ?_ | refine blk_alloc ?_ _)); exact BK144.out⟩, ⟨by repeat (first | (with_reducible first | exact HB.out | apply below_alloc | apply pw_below_drewN | apply below_drew1 | refine below_set ?_ GE144.out | refine below_set ?_ GE149.out) | exact HB.out)⟩⟩
              · rw [if_neg c13] at H
                exact absurd H (by simp)
            · rw [if_neg c12] at H
              exact absurd H (by simp)
          · rw [if_neg c11] at H
            have c11b0 : decide (x17_1 < (l0_1.length : Int)) = false := decide_eq_false c11
            clear c11
            obtain rfl := Option.some.inj H
            go_wp2
            go_ret
            exact ⟨_, by first | rfl | (simp [errW_none, errW_some] <;> rfl) | (simp [*, errW_none, errW_some] <;> rfl), by (with_reducible repeat (first | apply Kd.R_alloc | apply Kd.R_drewN | apply Kd.R_drew)); exact HO_7.out, by repeat (first | (with_reducible first | exact HB.out | apply below_alloc | apply pw_below_drewN | apply below_drew1 | refine below_set ?_ GE144.out) | exact HB.out)⟩
    · rw [if_neg c5] at H
      exact absurd H (by simp)
  · rw [if_neg c4] at H
    exact absurd H (by simp)

end Go.Proofs.Ytaalafnkglbcpaa.PG
