-- An own text of this claim, written by wip/tools/surro.py over the kit's print.
import Derived.Test.YtijfinimlnedpaaPPapx0
import Derived.Test.YtijfinimlnedpaaPPapx4
namespace Go.Proofs.Ytijfinimlnedpaa.PPap
open Go.RowKit Go.Proofs.YtijfinimlnedpaaW.PrintWords Go.Proofs.YtijfinimlnedpaaW.PrintLast Go.Proofs.YtijfinimlnedpaaW.PrintMore
attribute [local go_sem] max2_int min2_int max_two min_two max_three min_three max_four min_four   -- for this text's walks alone
set_option linter.unusedVariables false
set_option linter.unusedSimpArgs false

/-! ### paper_Plot: function 45 -/
mutual
def paper_Plot.l0 : Nat → List Int → List Bool → Bool → Int → Int → Option (List Bool × Int)
  | 0, _, _, _, _, _ => none
  | k + 1, x0, x4, x6, x111000, x111001 => if (x0.length : Int) > 0 then (if 0 < (x0.length : Int) then (if (rd x0 0) = 117 then (paper_Plot.j1 k x0 x4 x6 (rd x0 0) ((rd x0 0) == 117) x111000 x111001) else (paper_Plot.j1 k x0 x4 x6 (rd x0 0) ((rd x0 0) == 100) x111000 x111001)) else (none)) else (some (x4, 0))
def paper_Plot.j1 : Nat → List Int → List Bool → Bool → Int → Bool → Int → Int → Option (List Bool × Int)
  | 0, _, _, _, _, _, _, _ => none
  | k + 1, x0, x4, x6, x20, x21, x111000, x111001 => if x21 = true then (if 0 < (x0.length : Int) then (if 1 ≤ (x0.length : Int) then ((some (x0.drop 1 : List Int)).bind fun y113 => (if (rd x0 0) = 100 then (if 0 ≤ (wrap64 ((wrap64 (x111001 * 64)) + x111000)) then (if (wrap64 ((wrap64 (x111001 * 64)) + x111000)) < (x4.length : Int) then (paper_Plot.l0 k y113 (x4.set ((wrap64 ((wrap64 (x111001 * 64)) + x111000)) : Int).toNat true) ((rd x0 0) == 100) x111000 x111001) else (none)) else (none)) else (paper_Plot.l0 k y113 x4 ((rd x0 0) == 100) x111000 x111001))) else (none)) else (none)) else (if x20 = 109 then (if (x0.length : Int) < 3 then (some (([] : List Bool), 13)) else (if 1 < (x0.length : Int) then (if 2 < (x0.length : Int) then (if (wrap64 (rd x0 1)) ≥ 64 then (paper_Plot.j2 k x0 x4 x6 true x111000 x111001 (wrap64 (rd x0 1)) (wrap64 (rd x0 2))) else (paper_Plot.j2 k x0 x4 x6 (decide ((wrap64 (rd x0 2)) ≥ 64)) x111000 x111001 (wrap64 (rd x0 1)) (wrap64 (rd x0 2)))) else (none)) else (none))) else (some (([] : List Bool), 3)))
def paper_Plot.j2 : Nat → List Int → List Bool → Bool → Bool → Int → Int → Int → Int → Option (List Bool × Int)
  | 0, _, _, _, _, _, _, _, _ => none
  | k + 1, x0, x4, x6, x60, x111000, x111001, x122000, x122001 => if x60 = true then (some (([] : List Bool), 19)) else (if x6 = true then ((paper_line.f x111000 x111001 x122000 x122001).bind fun t122 => (paper_Plot.l1 k x0 x4 x6 t122 (t122.length : Int) 0 x122000 x122001)) else (if 3 ≤ (x0.length : Int) then (paper_Plot.l0 k (x0.drop 3) x4 x6 x122000 x122001) else (none)))
def paper_Plot.l1 : Nat → List Int → List Bool → Bool → List (S132) → Int → Int → Int → Int → Option (List Bool × Int)
  | 0, _, _, _, _, _, _, _, _ => none
  | k + 1, x0, x4, x6, x64, x65, x66, x122000, x122001 => if x66 < x65 then (if 0 ≤ x66 then (if x66 < (x64.length : Int) then (if 0 ≤ (wrap64 ((wrap64 (((rd_T132 x64 x66).f1) * 64)) + ((rd_T132 x64 x66).f0))) then (if (wrap64 ((wrap64 (((rd_T132 x64 x66).f1) * 64)) + ((rd_T132 x64 x66).f0))) < (x4.length : Int) then (paper_Plot.l1 k x0 (x4.set ((wrap64 ((wrap64 (((rd_T132 x64 x66).f1) * 64)) + ((rd_T132 x64 x66).f0))) : Int).toNat true) x6 x64 x65 (wrap64 (x66 + 1)) x122000 x122001) else (none)) else (none)) else (none)) else (none)) else (if 3 ≤ (x0.length : Int) then (paper_Plot.l0 k (x0.drop 3) x4 x6 x122000 x122001) else (none))
end
def paper_Plot.f (k : Nat) (l0 : List Int) : Option (List Bool × Int) := if (l0.length : Int) > 20000 then (some (([] : List Bool), 2)) else (if 4096 ≤ 281474976710656 then (paper_Plot.l0 k l0 (List.replicate 4096 false) false 0 0) else (none))
theorem paper_Plot.mono_l : ∀ k, (∀ y0 y1 y2 y3 y4, LeO (paper_Plot.l0 k y0 y1 y2 y3 y4) (paper_Plot.l0 (k + 1) y0 y1 y2 y3 y4)) ∧ (∀ y0 y1 y2 y3 y4 y5 y6, LeO (paper_Plot.j1 k y0 y1 y2 y3 y4 y5 y6) (paper_Plot.j1 (k + 1) y0 y1 y2 y3 y4 y5 y6)) ∧ (∀ y0 y1 y2 y3 y4 y5 y6 y7, LeO (paper_Plot.j2 k y0 y1 y2 y3 y4 y5 y6 y7) (paper_Plot.j2 (k + 1) y0 y1 y2 y3 y4 y5 y6 y7)) ∧ (∀ y0 y1 y2 y3 y4 y5 y6 y7, LeO (paper_Plot.l1 k y0 y1 y2 y3 y4 y5 y6 y7) (paper_Plot.l1 (k + 1) y0 y1 y2 y3 y4 y5 y6 y7))
  | 0 => ⟨fun _ _ _ _ _ r h => by simp [paper_Plot.l0] at h, fun _ _ _ _ _ _ _ r h => by simp [paper_Plot.j1] at h, fun _ _ _ _ _ _ _ _ r h => by simp [paper_Plot.j2] at h, fun _ _ _ _ _ _ _ _ r h => by simp [paper_Plot.l1] at h⟩
  | k + 1 => by
    obtain ⟨ih0, ih1, ih2, ih3⟩ := paper_Plot.mono_l k
    refine ⟨?_, ?_, ?_, ?_⟩
    · intro y0 y1 y2 y3 y4
      unfold paper_Plot.l0
      repeat' first
      | (with_reducible exact ih0 _ _ _ _ _)
      | (with_reducible exact ih1 _ _ _ _ _ _ _)
      | (with_reducible exact ih2 _ _ _ _ _ _ _ _)
      | (with_reducible exact ih3 _ _ _ _ _ _ _ _)
      | (with_reducible exact LeO.refl _)
      | (with_reducible exact LeO.none _)
      | (with_reducible refine LeO.ite ?_ ?_)
      | (with_reducible refine LeO.bind ?_ (fun _ => ?_))
      | exact ih0 _ _ _ _ _
      | exact ih1 _ _ _ _ _ _ _
      | exact ih2 _ _ _ _ _ _ _ _
      | exact ih3 _ _ _ _ _ _ _ _
      | exact LeO.none _
      | refine LeO.ite ?_ ?_
      | refine LeO.bind ?_ (fun _ => ?_)
    · intro y0 y1 y2 y3 y4 y5 y6
      unfold paper_Plot.j1
      repeat' first
      | (with_reducible exact ih0 _ _ _ _ _)
      | (with_reducible exact ih1 _ _ _ _ _ _ _)
      | (with_reducible exact ih2 _ _ _ _ _ _ _ _)
      | (with_reducible exact ih3 _ _ _ _ _ _ _ _)
      | (with_reducible exact LeO.refl _)
      | (with_reducible exact LeO.none _)
      | (with_reducible refine LeO.ite ?_ ?_)
      | (with_reducible refine LeO.bind ?_ (fun _ => ?_))
      | exact ih0 _ _ _ _ _
      | exact ih1 _ _ _ _ _ _ _
      | exact ih2 _ _ _ _ _ _ _ _
      | exact ih3 _ _ _ _ _ _ _ _
      | exact LeO.none _
      | refine LeO.ite ?_ ?_
      | refine LeO.bind ?_ (fun _ => ?_)
    · intro y0 y1 y2 y3 y4 y5 y6 y7
      unfold paper_Plot.j2
      repeat' first
      | (with_reducible exact ih0 _ _ _ _ _)
      | (with_reducible exact ih1 _ _ _ _ _ _ _)
      | (with_reducible exact ih2 _ _ _ _ _ _ _ _)
      | (with_reducible exact ih3 _ _ _ _ _ _ _ _)
      | (with_reducible exact LeO.refl _)
      | (with_reducible exact LeO.none _)
      | (with_reducible refine LeO.ite ?_ ?_)
      | (with_reducible refine LeO.bind ?_ (fun _ => ?_))
      | exact ih0 _ _ _ _ _
      | exact ih1 _ _ _ _ _ _ _
      | exact ih2 _ _ _ _ _ _ _ _
      | exact ih3 _ _ _ _ _ _ _ _
      | exact LeO.none _
      | refine LeO.ite ?_ ?_
      | refine LeO.bind ?_ (fun _ => ?_)
    · intro y0 y1 y2 y3 y4 y5 y6 y7
      unfold paper_Plot.l1
      repeat' first
      | (with_reducible exact ih0 _ _ _ _ _)
      | (with_reducible exact ih1 _ _ _ _ _ _ _)
      | (with_reducible exact ih2 _ _ _ _ _ _ _ _)
      | (with_reducible exact ih3 _ _ _ _ _ _ _ _)
      | (with_reducible exact LeO.refl _)
      | (with_reducible exact LeO.none _)
      | (with_reducible refine LeO.ite ?_ ?_)
      | (with_reducible refine LeO.bind ?_ (fun _ => ?_))
      | exact ih0 _ _ _ _ _
      | exact ih1 _ _ _ _ _ _ _
      | exact ih2 _ _ _ _ _ _ _ _
      | exact ih3 _ _ _ _ _ _ _ _
      | exact LeO.none _
      | refine LeO.ite ?_ ?_
      | refine LeO.bind ?_ (fun _ => ?_)
theorem paper_Plot.mono : ∀ a0 k, LeO (paper_Plot.f k a0) (paper_Plot.f (k + 1) a0) := by
  intro a0 k
  obtain ⟨ih0, ih1, ih2, ih3⟩ := paper_Plot.mono_l k
  unfold paper_Plot.f
  repeat' first
      | (with_reducible exact ih0 _ _ _ _ _)
      | (with_reducible exact ih1 _ _ _ _ _ _ _)
      | (with_reducible exact ih2 _ _ _ _ _ _ _ _)
      | (with_reducible exact ih3 _ _ _ _ _ _ _ _)
      | (with_reducible exact LeO.refl _)
      | (with_reducible exact LeO.none _)
      | (with_reducible refine LeO.ite ?_ ?_)
      | (with_reducible refine LeO.bind ?_ (fun _ => ?_))
      | exact ih0 _ _ _ _ _
      | exact ih1 _ _ _ _ _ _ _
      | exact ih2 _ _ _ _ _ _ _ _
      | exact ih3 _ _ _ _ _ _ _ _
      | exact LeO.none _
      | refine LeO.ite ?_ ?_
      | refine LeO.bind ?_ (fun _ => ?_)
def paper_Plot.T17 : Bool × List (List Nat × List Nat) := (true, [([], []), ([0], [0]), ([1], [1]), ([2], [2]), ([], []), ([4], [4]), ([5], [5]), ([6], [6]), ([3, 7], [3, 7]), ([], []), ([9, 8, 0, 1, 2, 3, 4, 5, 6, 7, 8, 9], [8, 9])])
def paper_Plot.B17 : List Nat := [0, 1, 3, 7, 0, 16, 48, 112, 255, 0, 1023]
theorem paper_Plot.tab17 : rtab .any (opsOf Try.f45 17) = paper_Plot.T17 := by kernel_rfl
theorem paper_Plot.bits17 : waitsOk paper_Plot.T17.2 paper_Plot.B17 = true := by kernel_rfl
set_option maxHeartbeats 8000000 in
set_option maxRecDepth 100000 in
theorem paper_Plot.calls (k : Nat) (P0_ : Nat → Prop) (A0 : Option Addr) (c0 : Nat) (l0 : List Int) (r1 : List Bool) (r2 : Int) (w : World) (hs0 : Kd.V (Kd.int .u8) 5 w w.heap.size (fun k_ => P0_ k_) (.slice A0 l0.length c0) l0) (h : paper_Plot.f k l0 = some (r1, r2)) :
    Calls Try.prog 45 #[.slice A0 l0.length c0] w fun e w' => ∃ v0_ : Value, e = .returned (.tuple #[v0_, .int .i64 r2]) ∧ Kd.R Kd.bool 4 w' w.heap.size (fun k_ => (w.heap.size ≤ k_)) v0_ r1 ∧ Below w.heap.size w w' := by
  have hu132 := Try.underlying132
  have HO0 := Aside0.mk (show Kd.V (Kd.int .u8) 5 w w.heap.size (fun k_ => (P0_ k_ ∨ w.heap.size ≤ k_)) (.slice A0 l0.length c0) l0 from Kd.V_mono hs0 (fun k_ hk => .inl hk))
  have HB := Aside0.mk (Below.refl w.heap.size w)
  have H : (if (l0.length : Int) > 20000 then (some (([] : List Bool), 2)) else (if 4096 ≤ 281474976710656 then (paper_Plot.l0 k l0 (List.replicate 4096 false) false 0 0) else (none))) = some (r1, r2) := h
  clear h
  by_cases c2 : (l0.length : Int) > 20000
  · rw [if_pos c2] at H
    have c2b0 : decide (20000 < (l0.length : Int)) = true := decide_eq_true c2
    have c2b1 : decide (20000 < l0.length) = true := decide_eq_true (by omega)
    clear c2
    simp only [Option.some.injEq, Prod.mk.injEq] at H
    obtain ⟨rfl, rfl⟩ := H
    go_enter Try.func45, Try.ntmps45
    go_wp2
    go_ret2
    exact ⟨_, by first | rfl | (simp [errW_none, errW_some] <;> rfl) | (simp [*, errW_none, errW_some] <;> rfl), by first | exact Kd.R_nil _ _ _ _ _ | exact Kd.N_nil _ _ _ _ _ | exact Kd.V_nil _ _ _ _ _ | exact Kd.Q_nil _ _ _ _ _ | exact Kd.S_nil _ _ _ _ _, by repeat (first | (with_reducible first | exact HB.out | apply below_alloc | apply pw_below_drewN | apply below_drew1) | exact HB.out)⟩
  · rw [if_neg c2] at H
    have c2b0 : decide (20000 < (l0.length : Int)) = false := decide_eq_false c2
    have c2b1 : decide (20000 < l0.length) = false := decide_eq_false (by omega)
    clear c2
    by_cases c3 : 4096 ≤ 281474976710656
    · rw [if_pos c3] at H
      have c3b0 := eq_true c3
      have c3b1 : decide (4096 ≤ 281474976710656) = true := decide_eq_true c3
      clear c3
      obtain ⟨y107, hy107⟩ : ∃ y_ : List Bool, y_ = (List.replicate 4096 false) := ⟨_, rfl⟩
      replace H : (paper_Plot.l0 k l0 y107 false 0 0) = some (r1, r2) := by first | (rw [hy107]; with_reducible exact H) | (have H2_ := (Option.bind_some _ _).symm.trans H; rw [hy107]; with_reducible exact H2_) | (have H2_ := (Option.bind_some _ _).symm.trans H; with_reducible exact H2_) | with_reducible exact H | (rw [hy107]; exact H) | exact H
      have Ny107 := Aside0.mk hy107
      clear hy107
      have H' := Aside0.mk H
      clear H
      go_enter Try.func45, Try.ntmps45
      go_wp2_with (first | ((with_reducible refine gate_dst (N := 13) rfl ?_); refine Kd.R_make Kd.bool _ 4 rfl (N := 13) rfl 75 _ _ rfl 4096 rfl rfl Try.underlying75 (.bool false) 1 info4 rfl (by decide) (by omega) false (ok := fun _ => True) (okp := fun _ => True) rfl (fun _ hk => hk) trivial (by omega) (by omega) (Below.refl _ _) (Nat.le_refl _) ?_; intro v108 w4 ho5 hb hg_ hnew_; clear hg_ hnew_; (first | rw [← Ny107.out] at ho5 | (simp only [Int.reduceToNat] at ho5; rw [← Ny107.out] at ho5)); have n0_ := Aside0.mk (Kd.V_elder' (by (with_reducible repeat (first | apply Kd.V_alloc | apply Kd.V_drewN | apply Kd.V_drew)); exact HO0.out) (Kd.R_base ho5) hb); have n1_ := Aside0.mk (Kd.R_lower (Kd.R_newM (M := fun k_ => (w.heap.size ≤ k_)) ho5 (below_size (by repeat (first | (with_reducible first | exact HB.out | apply below_alloc | apply pw_below_drewN | apply below_drew1) | exact HB.out))) (fun k_ h_ => h_)) (below_size (by repeat (first | (with_reducible first | exact HB.out | apply below_alloc | apply pw_below_drewN | apply below_drew1) | exact HB.out)))); have n2_ := Aside0.mk (below_step (by repeat (first | (with_reducible first | exact HB.out | apply below_alloc | apply pw_below_drewN | apply below_drew1) | exact HB.out)) hb); clear HO0; clear HB; have HO0 := n0_; have HO109 := n1_; have HB := n2_; clear n0_ n1_ n2_; clear hb ho5) | ((with_reducible refine gate_dst (N := 5) rfl ?_); refine box_event ?hg (N := 5) ?hd (cs := #[.int .i64 0, .int .i64 0]) (t := 132) ?hr ?_; (case hd => rfl); (case hg => rfl); (case hr => first | (go_simp; done) | (go_simp; rfl)); intro gb110 hg w6 hbox hb; have n0_ := Aside0.mk (Kd.V_below (Kd.V_elderB (by (with_reducible repeat (first | apply Kd.V_alloc | apply Kd.V_drewN | apply Kd.V_drew)); exact HO0.out) gb110 (Nat.le_of_eq hg.symm)) hb); have n1_ := Aside0.mk (Kd.R_below (by (with_reducible repeat (first | apply Kd.R_alloc | apply Kd.R_drewN | apply Kd.R_drew)); exact HO109.out) hb); have n2_ := Aside0.mk (below_step (by repeat (first | (with_reducible first | exact HB.out | apply below_alloc | apply pw_below_drewN | apply below_drew1) | exact HB.out)) hb); have n3_ := Aside0.mk (hbox); have n4_ := Aside0.mk ((by rw [hg]; exact (below_size (by repeat (first | (with_reducible first | exact HB.out | apply below_alloc | apply pw_below_drewN | apply below_drew1) | exact HB.out))) : w.heap.size ≤ gb110)); have n5_ := Aside0.mk ((by rw [hg]; exact (below_size (by repeat (first | (with_reducible first | exact HB.out | apply below_alloc | apply pw_below_drewN | apply below_drew1) | exact HB.out))) : w.heap.size ≤ gb110)); clear HO0; clear HO109; clear HB; have HO0 := n0_; have HO109 := n1_; have HB := n2_; have BK110 := n3_; have GW110 := n4_; have GE110 := n5_; clear n0_ n1_ n2_ n3_ n4_ n5_; clear hb hbox hg; have hcz7_0 : w6.cell? ⟨gb110, 0, none⟩ = some (.int .i64 0) := (blk_cell BK110.out 0).trans rfl; have hcz7_1 : w6.cell? ⟨gb110, 1, none⟩ = some (.int .i64 0) := (blk_cell BK110.out 1).trans rfl; have hfz7_0 := blk_frozen BK110.out 0; have hfz7_1 := blk_frozen BK110.out 1))
      go_loopg [0, 6] k (fun kq v0 v6 w' => ∃ (x0_1 : List Int) (x4_1 : List Bool) (x6_1 : Bool) (x111000_1 : Int) (x111001_1 : Int), v6 = .bool x6_1 ∧ Aside0 (paper_Plot.l0 kq x0_1 x4_1 x6_1 x111000_1 x111001_1 = some (r1, r2)) ∧ Aside0 (kq ≤ k) ∧ Aside0 (Kd.V (Kd.int .u8) 5 w' w.heap.size (fun k_ => (P0_ k_ ∨ w.heap.size ≤ k_) ∧ some k_ ≠ (v108 : Value).ownBlock ∧ k_ ≠ gb110) v0 x0_1) ∧ Aside0 (Kd.R Kd.bool 4 w' w.heap.size (fun k_ => (w.heap.size ≤ k_)) v108 x4_1) ∧ Aside0 (w'.heap[gb110]? = some (.cells #[.int .i64 x111000_1, .int .i64 x111001_1] 132 (0, 0))) ∧ Aside0 (Below w.heap.size w w'))
      case atStart => exact ⟨(l0), (y107), (false), (0), (0), (by first | rfl | (simp; done) | (simp [*]; done)), H', ⟨Nat.le_refl _⟩, ⟨by (with_reducible repeat (first | apply Kd.V_alloc | apply Kd.V_drewN | apply Kd.V_drew)); exact Kd.V_mono (Kd.V_far (p := ⟨gb110, 1, none⟩) (Kd.V_far (p := ⟨gb110, 0, none⟩) (Kd.V_mono HO0.out (fun k_ hk => (⟨hk, hk.2⟩ : _ ∧ k_ ≠ gb110))) (fun _ hk => hk.2) (.int .i64 0)) (fun _ hk => hk.2) (.int .i64 0)) (fun _ hk => ⟨hk.1.1.1, ⟨hk.1.1.2, hk.1.2⟩⟩)⟩, ⟨by (with_reducible repeat (first | apply Kd.R_alloc | apply Kd.R_drewN | apply Kd.R_drew)); exact Kd.R_mono (Kd.R_far (p := ⟨gb110, 1, none⟩) (Kd.R_far (p := ⟨gb110, 0, none⟩) (Kd.R_types HO109.out BK110.out (by decide)) (fun _ hk => hk.2) (.int .i64 0)) (fun _ hk => hk.2) (.int .i64 0)) (fun _ hk => hk.1.1)⟩, ⟨by (with_reducible repeat (first | refine blk_drewN ?_ _ | refine blk_drew ?_ | refine blk_alloc ?_ _)); refine blk_put (cs := #[.int .i64 0, .int .i64 0]) ?_ 1 _ rfl; (with_reducible repeat (first | refine blk_drewN ?_ _ | refine blk_drew ?_ | refine blk_alloc ?_ _)); refine blk_put (cs := #[.int .i64 0, .int .i64 0]) ?_ 0 _ rfl; (with_reducible repeat (first | refine blk_drewN ?_ _ | refine blk_drew ?_ | refine blk_alloc ?_ _)); exact BK110.out⟩, ⟨by repeat (first | (with_reducible first | exact HB.out | apply below_alloc | apply pw_below_drewN | apply below_drew1 | refine below_set ?_ GE110.out) | exact HB.out)⟩⟩
      case round =>
        clear H'
        try clear c2
        try clear c2b0
        try clear c2b1
        try clear p2
        try clear c3
        try clear c3b0
        try clear c3b1
        try clear c4
        try clear hcz7_0
        try clear hcz7_1
        try clear hfz7_0
        try clear hfz7_1
        obtain ⟨x0_1, x4_1, x6_1, x111000_1, x111001_1, rfl, HA, HK1, HO_0, HO_4, BK110, HB⟩ := hrel
        cases gk with
        | zero => exact absurd HA.out (by simp [paper_Plot.l0])
        | succ k1 =>
          have H := HA.out
          clear HA
          simp only [paper_Plot.l0] at H
          by_cases c8 : (x0_1.length : Int) > 0
          · rw [if_pos c8] at H
            have c8b0 : decide (0 < (x0_1.length : Int)) = true := decide_eq_true c8
            have c8b1 : decide (0 < x0_1.length) = true := decide_eq_true (by omega)
            clear c8
            by_cases c9 : 0 < (x0_1.length : Int)
            · rw [if_pos c9] at H
              have c9b0 : decide (0 < (x0_1.length : Int)) = true := decide_eq_true c9
              have c9b1 : decide (0 < x0_1.length) = true := decide_eq_true (by omega)
              clear c9
              have HC10 := Aside0.mk H
              clear H
              obtain ⟨Ao11, co11, eo11⟩ := Kd.V_slice HO_0.out
              subst eo11
              have p111 : 0 ≤ (0 : Int) := (by omega)
              have q111 : 0 < (x0_1.length : Int) := of_decide_eq_true (by first | (with_reducible assumption) | assumption)
              obtain ⟨ad111, e111, hx111_0⟩ := Kd.at_int (Kd.V_reads' HO_0.out).2.2 0 p111 q111
              cases e111
              have qi111 : (0 < x0_1.length) = True := eq_true (by omega)
              (try rw [show ((0 : Int)).toNat = 0 from rfl] at hx111_0)
              (try rw [Addr.add_zero'] at hx111_0)
              replace p111 := eq_true p111
              replace q111 := eq_true q111
              go_upto_if 21 with (fail)
              go_cut [21] (fun v21 wc => ∃ (kq : Nat) (x21_9 : Bool), v21 = .bool x21_9 ∧ Aside0 (paper_Plot.j1 kq x0_1 x4_1 x6_1 (rd x0_1 0) x21_9 x111000_1 x111001_1 = some (r1, r2)) ∧ Aside0 (kq ≤ k1) ∧ Aside0 (Kd.V (Kd.int .u8) 5 wc w.heap.size (fun k_ => (P0_ k_ ∨ w.heap.size ≤ k_) ∧ some k_ ≠ (v108 : Value).ownBlock ∧ k_ ≠ gb110) (.slice (some ad111) x0_1.length co11) x0_1) ∧ Aside0 (Kd.R Kd.bool 4 wc w.heap.size (fun k_ => (w.heap.size ≤ k_)) v108 x4_1) ∧ Aside0 (wc.heap[gb110]? = some (.cells #[.int .i64 x111000_1, .int .i64 x111001_1] 132 (0, 0))) ∧ Aside0 (Below w.heap.size w wc))
              case first =>
                have H := HC10.out
                clear HC10
                by_cases c12 : (rd x0_1 0) = 117
                · rw [if_pos c12] at H
                  have c12b0 : ((rd x0_1 0) == 117) = true := beq_iff_eq.mpr c12
                  have c12b1 : ((rd x0_1 0) != 117) = false := bne_eq_false_iff_eq.mpr c12
                  clear c12
                  (first | rw [c12b0] | (simp only [i64_w, i32_w]; rw [c12b0]) | skip)
                  have H' := Aside0.mk H
                  clear H
                  go_wp2
                  go_meet
                  case rel => exact ⟨_, (((rd x0_1 0) == 117)), (by first | rfl | (simp; done) | (simp [*]; done)), H', ⟨by have := HK1.out; first | omega | exact Nat.le_refl _⟩, ⟨by (with_reducible repeat (first | apply Kd.V_alloc | apply Kd.V_drewN | apply Kd.V_drew)); exact HO_0.out⟩, ⟨by (with_reducible repeat (first | apply Kd.R_alloc | apply Kd.R_drewN | apply Kd.R_drew)); exact HO_4.out⟩, ⟨by (with_reducible repeat (first | refine blk_drewN ?_ _ | refine blk_drew ?_ | refine blk_alloc ?_ _)); exact BK110.out⟩, ⟨by repeat (first | (with_reducible first | exact HB.out | apply below_alloc | apply pw_below_drewN | apply below_drew1 | refine below_set ?_ GE110.out) | exact HB.out)⟩⟩
                · rw [if_neg c12] at H
                  have c12b0 : ((rd x0_1 0) == 117) = false := beq_eq_false_iff_ne.mpr c12
                  have c12b1 : ((rd x0_1 0) != 117) = true := bne_iff_ne.mpr c12
                  (first | rw [c12b0] | (simp only [i64_w, i32_w]; rw [c12b0]) | skip)
                  have H' := Aside0.mk H
                  clear H
                  go_wp2
                  go_meet
                  case rel => exact ⟨_, (((rd x0_1 0) == 100)), (by first | rfl | (simp; done) | (simp [*]; done)), H', ⟨by have := HK1.out; first | omega | exact Nat.le_refl _⟩, ⟨by (with_reducible repeat (first | apply Kd.V_alloc | apply Kd.V_drewN | apply Kd.V_drew)); exact HO_0.out⟩, ⟨by (with_reducible repeat (first | apply Kd.R_alloc | apply Kd.R_drewN | apply Kd.R_drew)); exact HO_4.out⟩, ⟨by (with_reducible repeat (first | refine blk_drewN ?_ _ | refine blk_drew ?_ | refine blk_alloc ?_ _)); exact BK110.out⟩, ⟨by repeat (first | (with_reducible first | exact HB.out | apply below_alloc | apply pw_below_drewN | apply below_drew1 | refine below_set ?_ GE110.out) | exact HB.out)⟩⟩
              case rest =>
                clear HC10
                try clear c1
                try clear p1
                try clear q1
                try clear hx1
                try clear qi1
                try clear c2
                try clear c2b0
                try clear c2b1
                try clear p2
                try clear c3
                try clear c3b0
                try clear c3b1
                try clear c4
                try clear c8
                try clear c8b0
                try clear c8b1
                try clear c9
                try clear c9b0
                try clear c9b1
                try clear p11
                try clear q11
                try clear hx11
                try clear qi11
                try clear c12
                try clear c12b0
                try clear c12b1
                try clear hcz7_0
                try clear hcz7_1
                try clear hfz7_0
                try clear hfz7_1
                try clear hx111_0
                try clear p111
                try clear p2
                try clear q111
                obtain ⟨kq, x21_9, rfl, HA, HJ9, HO_0, HO_4, BK110, HB⟩ := hcut
                cases kq with
                | zero => exact absurd HA.out (by simp [paper_Plot.j1])
                | succ kj9 =>
                  have H := HA.out
                  clear HA
                  simp only [paper_Plot.j1] at H
                  by_cases c13 : x21_9 = true
                  · subst c13
                    have H1 : (if 0 < (x0_1.length : Int) then (if 1 ≤ (x0_1.length : Int) then ((some (x0_1.drop 1 : List Int)).bind fun y113 => (if (rd x0_1 0) = 100 then (if 0 ≤ (wrap64 ((wrap64 (x111001_1 * 64)) + x111000_1)) then (if (wrap64 ((wrap64 (x111001_1 * 64)) + x111000_1)) < (x4_1.length : Int) then (paper_Plot.l0 kj9 y113 (x4_1.set ((wrap64 ((wrap64 (x111001_1 * 64)) + x111000_1)) : Int).toNat true) ((rd x0_1 0) == 100) x111000_1 x111001_1) else (none)) else (none)) else (paper_Plot.l0 kj9 y113 x4_1 ((rd x0_1 0) == 100) x111000_1 x111001_1))) else (none)) else (none)) = some (r1, r2) := by rw [if_pos rfl] at H; exact H
                    clear H
                    have H := H1
                    clear H1
                    by_cases c14 : 0 < (x0_1.length : Int)
                    · rw [if_pos c14] at H
                      have c14b0 : decide (0 < (x0_1.length : Int)) = true := decide_eq_true c14
                      have c14b1 : decide (0 < x0_1.length) = true := decide_eq_true (by omega)
                      clear c14
                      by_cases c15 : 1 ≤ (x0_1.length : Int)
                      · rw [if_pos c15] at H
                        have c15b0 := eq_true c15
                        have c15b1 : decide (1 ≤ (x0_1.length : Int)) = true := decide_eq_true c15
                        clear c15
                        obtain ⟨y113, hy113⟩ : ∃ y_ : List Int, y_ = (x0_1.drop 1) := ⟨_, rfl⟩
                        replace H : (if (rd x0_1 0) = 100 then (if 0 ≤ (wrap64 ((wrap64 (x111001_1 * 64)) + x111000_1)) then (if (wrap64 ((wrap64 (x111001_1 * 64)) + x111000_1)) < (x4_1.length : Int) then (paper_Plot.l0 kj9 y113 (x4_1.set ((wrap64 ((wrap64 (x111001_1 * 64)) + x111000_1)) : Int).toNat true) ((rd x0_1 0) == 100) x111000_1 x111001_1) else (none)) else (none)) else (paper_Plot.l0 kj9 y113 x4_1 ((rd x0_1 0) == 100) x111000_1 x111001_1)) = some (r1, r2) := by first | (rw [hy113]; with_reducible exact H) | (have H2_ := (Option.bind_some _ _).symm.trans H; rw [hy113]; with_reducible exact H2_) | (have H2_ := (Option.bind_some _ _).symm.trans H; with_reducible exact H2_) | with_reducible exact H | (rw [hy113]; exact H) | exact H
                        have Ny113 := Aside0.mk hy113
                        clear hy113
                        by_cases c16 : (rd x0_1 0) = 100
                        · rw [if_pos c16] at H
                          have c16b0 : ((rd x0_1 0) == 100) = true := beq_iff_eq.mpr c16
                          have c16b1 : ((rd x0_1 0) != 100) = false := bne_eq_false_iff_eq.mpr c16
                          clear c16
                          obtain ⟨ji17, hji17⟩ : ∃ j_ : Int, (wrap64 ((wrap64 (x111001_1 * 64)) + x111000_1)) = j_ := ⟨_, rfl⟩
                          replace H : (if 0 ≤ (ji17) then (if (ji17) < (x4_1.length : Int) then (paper_Plot.l0 kj9 y113 (x4_1.set ((ji17) : Int).toNat true) ((rd x0_1 0) == 100) x111000_1 x111001_1) else (none)) else (none)) = some (r1, r2) := by first | (rw [hji17] at H; exact H) | (simp only [hji17] at H ⊢; exact H)
                          have hji17w : (IntKind.i64.wrap ((wrap64 (x111001_1 * 64)) + x111000_1)) = ji17 := (i64_w _).trans hji17
                          by_cases c18 : 0 ≤ (ji17)
                          · rw [if_pos c18] at H
                            have c18b0 : decide (0 ≤ (ji17)) = true := decide_eq_true c18
                            clear c18
                            by_cases c19 : (ji17) < (x4_1.length : Int)
                            · rw [if_pos c19] at H
                              have c19b0 : decide ((ji17) < (x4_1.length : Int)) = true := decide_eq_true c19
                              clear c19
                              obtain ⟨y118, hy118⟩ : ∃ y_ : List Bool, y_ = (x4_1.set ((ji17) : Int).toNat true) := ⟨_, rfl⟩
                              replace H : (paper_Plot.l0 kj9 y113 y118 ((rd x0_1 0) == 100) x111000_1 x111001_1) = some (r1, r2) := by first | (rw [hy118]; with_reducible exact H) | (have H2_ := (Option.bind_some _ _).symm.trans H; rw [hy118]; with_reducible exact H2_) | (have H2_ := (Option.bind_some _ _).symm.trans H; with_reducible exact H2_) | with_reducible exact H | (rw [hy118]; exact H) | exact H
                              have Ny118 := Aside0.mk hy118
                              clear hy118
                              have H' := Aside0.mk H
                              clear H
                              have p112 : 0 ≤ (0 : Int) := (by omega)
                              have q112 : 0 < (x0_1.length : Int) := of_decide_eq_true (by first | (with_reducible assumption) | assumption)
                              obtain ⟨ad112, e112, hx112_0⟩ := Kd.at_int (Kd.V_reads' HO_0.out).2.2 0 p112 q112
                              obtain rfl : ad111 = ad112 := (by injection e112)
                              have qi112 : (0 < x0_1.length) = True := eq_true (by omega)
                              (try rw [show ((0 : Int)).toNat = 0 from rfl] at hx112_0)
                              (try rw [Addr.add_zero'] at hx112_0)
                              replace p112 := eq_true p112
                              replace q112 := eq_true q112
                              have q21 : (1 : Int) ≤ ((x0_1.length : Int) : Int) := of_decide_eq_true (by first | (with_reducible assumption) | assumption)
                              obtain ⟨i021, hi021, _, hsz21, _⟩ := info_parts info5
                              have hroom21 : x0_1.length ≤ co11 := (Kd.V_reads' HO_0.out).2.1
                              have hC21 : Kd.F (Kd.int .u8) _ _ (some ad111) x0_1.length x0_1 := (Kd.V_at (base := w.heap.size) HO_0.out).2.2
                              have hcut21 := cut_from (P := Try.prog) 73 5 .i64 Try.underlying73 hi021 1 hsz21 (some ad111) x0_1.length co11 1 (by omega) q21
                              have hr21 := Kd.F_cut (m := (1 : Int).toNat) (c := co11) hC21 (by omega) hroom21
                              obtain ⟨A21, hA21⟩ : ∃ A1, A1 = (if co11 = (1 : Int).toNat then (some ad111) else ((some ad111) : Option Addr).map (·.add ((1 : Int).toNat * 1))) := ⟨_, rfl⟩
                              obtain ⟨c21, hc21⟩ : ∃ c1, c1 = co11 - (1 : Int).toNat := ⟨_, rfl⟩
                              have hy21 : y113.length = x0_1.length - (1 : Int).toNat := (by rw [Ny113.out, List.length_drop] <;> omega)
                              rw [show (x0_1).drop (1 : Int).toNat = y113 from Ny113.out.symm] at hr21
                              replace hr21 : Kd.F (Kd.int .u8) _ _ A21 y113.length y113 := (by rw [hA21]; exact hr21)
                              rw [← hy21, ← hA21, ← hc21] at hcut21
                              have HO117 := Aside0.mk (show Kd.V (Kd.int .u8) 5 _ w.heap.size _ (.slice A21 y113.length c21) y113 from Kd.V_mk (by rw [hy21, hc21]; exact Nat.sub_le_sub_right hroom21 _) hr21)
                              have HC117 := Aside0.mk (show y113.length ≤ c21 from by rw [hy21, hc21]; exact Nat.sub_le_sub_right hroom21 _)
                              clear hr21 hC21 hroom21 hi021 hsz21 hc21
                              have KY21 := Aside0.mk hy21
                              have KA21 := Aside0.mk hA21
                              clear hy21 hA21
                              replace q21 := eq_true q21
                              have hcz22_0 : wc.cell? ⟨gb110, 0, none⟩ = some (.int .i64 x111000_1) := (blk_cell BK110.out 0).trans rfl
                              have hcz22_1 : wc.cell? ⟨gb110, 1, none⟩ = some (.int .i64 x111001_1) := (blk_cell BK110.out 1).trans rfl
                              have hfz22_0 := blk_frozen BK110.out 0
                              have hfz22_1 := blk_frozen BK110.out 1
                              have p20 : 0 ≤ ((ji17) : Int) := of_decide_eq_true (by first | (with_reducible assumption) | assumption)
                              have q20 : ((ji17) : Int) < ((x4_1.length : Int) : Int) := of_decide_eq_true (by first | (with_reducible assumption) | assumption)
                              obtain ⟨go20, co20, eo20, gb20, gl20, cl20, HG20⟩ := Kd.R_form HO_4.out (by omega)
                              (first | cases eo20 | (injection eo20 with ea_ en_ ec_; (first | subst ea_ | (injection ea_ with ea_; subst ea_)); subst ec_; clear en_))
                              have GB20 := Aside0.mk gb20
                              have GG20 := Aside0.mk HG20
                              clear gb20 gl20 HG20
                              obtain ⟨hx20_0, hf20_0⟩ := Kd.R_celln false HO_4.out ((ji17) : Int) p20 q20
                              replace p20 := eq_true p20
                              replace q20 := eq_true q20
                              have HP23 := Kd.R_putg HO_4.out ((ji17) : Int) true
                              go_wp2_with (first | ((with_reducible refine gate_store (t := 4) (p := 38) rfl ?_); refine store_event (t := 4) (p := 38) (v := ?vo_w24) (w1 := (wc.setCell ⟨go20, ((ji17) : Int).toNat, none⟩ (.bool true))) ?hg ?ho ?hn ?hr ?_; (case ho => rfl); (case hg => rfl); (case hn => rfl); (case hr => first | (go_simp; done) | (go_simp; rfl)); intro w24 hw; have hg : wc.grownBy w24 (some go20) := (by rw [hw]; exact HP23.2); have hp_ : Kd.R Kd.bool 4 w24 w.heap.size (fun k_ => (w.heap.size ≤ k_)) (.slice (some ⟨go20, 0, none⟩) x4_1.length co20) y118 := (by rw [hw, Ny118.out]; exact HP23.1); clear HP23; have n0_ := Aside0.mk (Kd.V_afterv (v := (.slice (some ⟨go20, 0, none⟩) x4_1.length co20)) (v1 := (.slice (some ⟨go20, 0, none⟩) x4_1.length co20)) (ok := (fun k_ => (P0_ k_ ∨ w.heap.size ≤ k_) ∧ k_ ≠ gb110)) (by (with_reducible repeat (first | apply Kd.V_alloc | apply Kd.V_drewN | apply Kd.V_drew)); exact Kd.V_mono HO_0.out (fun _ hk => ⟨⟨hk.1, hk.2.2⟩, hk.2.1⟩)) hg (.inl rfl)); have n1_ := Aside0.mk (hp_); have n2_ := Aside0.mk (blk_grown (g := gb110) (o := .cells #[.int .i64 x111000_1, .int .i64 x111001_1] 132 (0, 0)) (by (with_reducible repeat (first | refine blk_drewN ?_ _ | refine blk_drew ?_ | refine blk_alloc ?_ _)); exact BK110.out) hg (Kd.R_ne HO_4.out BK110.out (by decide))); have n3_ := Aside0.mk (Kd.V_afterv (v := (.slice (some ⟨go20, 0, none⟩) x4_1.length co20)) (v1 := (.slice (some ⟨go20, 0, none⟩) x4_1.length co20)) (ok := (fun k_ => (P0_ k_ ∨ w.heap.size ≤ k_) ∧ k_ ≠ gb110)) (by (with_reducible repeat (first | apply Kd.V_alloc | apply Kd.V_drewN | apply Kd.V_drew)); exact Kd.V_mono HO117.out (fun _ hk => ⟨⟨hk.1, hk.2.2⟩, hk.2.1⟩)) hg (.inl rfl)); have n4_ := Aside0.mk ((by rw [hw]; exact below_set (HB.out) GB20.out : Below w.heap.size w w24)); clear HO_0; clear HO_4; clear BK110; clear HO117; clear HB; have HO_0 := n0_; have HO_4 := n1_; have BK110 := n2_; have HO117 := n3_; have HB := n4_; clear n0_ n1_ n2_ n3_ n4_; clear hg hw hp_))
                              go_roundg kj9
                              case measure => have := HK1.out; have := HJ9.out; omega
                              case rel => exact ⟨(y113), (y118), (((rd x0_1 0) == 100)), (x111000_1), (x111001_1), (by first | rfl | (simp; done) | (simp [*]; done)), H', ⟨by have := HK1.out; have := HJ9.out; omega⟩, ⟨by (with_reducible repeat (first | apply Kd.V_alloc | apply Kd.V_drewN | apply Kd.V_drew)); exact Kd.V_mono HO117.out (fun _ hk => ⟨hk.1.1, ⟨hk.2, hk.1.2⟩⟩)⟩, ⟨by (with_reducible repeat (first | apply Kd.R_alloc | apply Kd.R_drewN | apply Kd.R_drew)); exact HO_4.out⟩, ⟨by (with_reducible repeat (first | refine blk_drewN ?_ _ | refine blk_drew ?_ | refine blk_alloc ?_ _)); exact BK110.out⟩, ⟨by repeat (first | (with_reducible first | exact HB.out | apply below_alloc | apply pw_below_drewN | apply below_drew1 | refine below_set ?_ GE110.out) | exact HB.out)⟩⟩
                            · rw [if_neg c19] at H
                              exact absurd H (by simp)
                          · rw [if_neg c18] at H
                            exact absurd H (by simp)
                        · rw [if_neg c16] at H
                          have c16b0 : ((rd x0_1 0) == 100) = false := beq_eq_false_iff_ne.mpr c16
                          have c16b1 : ((rd x0_1 0) != 100) = true := bne_iff_ne.mpr c16
                          have H' := Aside0.mk H
                          clear H
                          have p112 : 0 ≤ (0 : Int) := (by omega)
                          have q112 : 0 < (x0_1.length : Int) := of_decide_eq_true (by first | (with_reducible assumption) | assumption)
                          obtain ⟨ad112, e112, hx112_0⟩ := Kd.at_int (Kd.V_reads' HO_0.out).2.2 0 p112 q112
                          obtain rfl : ad111 = ad112 := (by injection e112)
                          have qi112 : (0 < x0_1.length) = True := eq_true (by omega)
                          (try rw [show ((0 : Int)).toNat = 0 from rfl] at hx112_0)
                          (try rw [Addr.add_zero'] at hx112_0)
                          replace p112 := eq_true p112
                          replace q112 := eq_true q112
                          have q25 : (1 : Int) ≤ ((x0_1.length : Int) : Int) := of_decide_eq_true (by first | (with_reducible assumption) | assumption)
                          obtain ⟨i025, hi025, _, hsz25, _⟩ := info_parts info5
                          have hroom25 : x0_1.length ≤ co11 := (Kd.V_reads' HO_0.out).2.1
                          have hC25 : Kd.F (Kd.int .u8) _ _ (some ad111) x0_1.length x0_1 := (Kd.V_at (base := w.heap.size) HO_0.out).2.2
                          have hcut25 := cut_from (P := Try.prog) 73 5 .i64 Try.underlying73 hi025 1 hsz25 (some ad111) x0_1.length co11 1 (by omega) q25
                          have hr25 := Kd.F_cut (m := (1 : Int).toNat) (c := co11) hC25 (by omega) hroom25
                          obtain ⟨A25, hA25⟩ : ∃ A1, A1 = (if co11 = (1 : Int).toNat then (some ad111) else ((some ad111) : Option Addr).map (·.add ((1 : Int).toNat * 1))) := ⟨_, rfl⟩
                          obtain ⟨c25, hc25⟩ : ∃ c1, c1 = co11 - (1 : Int).toNat := ⟨_, rfl⟩
                          have hy25 : y113.length = x0_1.length - (1 : Int).toNat := (by rw [Ny113.out, List.length_drop] <;> omega)
                          rw [show (x0_1).drop (1 : Int).toNat = y113 from Ny113.out.symm] at hr25
                          replace hr25 : Kd.F (Kd.int .u8) _ _ A25 y113.length y113 := (by rw [hA25]; exact hr25)
                          rw [← hy25, ← hA25, ← hc25] at hcut25
                          have HO117 := Aside0.mk (show Kd.V (Kd.int .u8) 5 _ w.heap.size _ (.slice A25 y113.length c25) y113 from Kd.V_mk (by rw [hy25, hc25]; exact Nat.sub_le_sub_right hroom25 _) hr25)
                          have HC117 := Aside0.mk (show y113.length ≤ c25 from by rw [hy25, hc25]; exact Nat.sub_le_sub_right hroom25 _)
                          clear hr25 hC25 hroom25 hi025 hsz25 hc25
                          have KY25 := Aside0.mk hy25
                          have KA25 := Aside0.mk hA25
                          clear hy25 hA25
                          replace q25 := eq_true q25
                          go_wp2
                          go_roundg kj9
                          case measure => have := HK1.out; have := HJ9.out; omega
                          case rel => exact ⟨(y113), (x4_1), (((rd x0_1 0) == 100)), (x111000_1), (x111001_1), (by first | rfl | (simp; done) | (simp [*]; done)), H', ⟨by have := HK1.out; have := HJ9.out; omega⟩, ⟨by (with_reducible repeat (first | apply Kd.V_alloc | apply Kd.V_drewN | apply Kd.V_drew)); exact HO117.out⟩, ⟨by (with_reducible repeat (first | apply Kd.R_alloc | apply Kd.R_drewN | apply Kd.R_drew)); exact HO_4.out⟩, ⟨by (with_reducible repeat (first | refine blk_drewN ?_ _ | refine blk_drew ?_ | refine blk_alloc ?_ _)); exact BK110.out⟩, ⟨by repeat (first | (with_reducible first | exact HB.out | apply below_alloc | apply pw_below_drewN | apply below_drew1 | refine below_set ?_ GE110.out) | exact HB.out)⟩⟩
                      · rw [if_neg c15] at H
                        exact absurd H (by simp)
                    · rw [if_neg c14] at H
                      exact absurd H (by simp)
                  · replace c13 := Bool.eq_false_iff.mpr c13
                    subst c13
                    have H1 : (if (rd x0_1 0) = 109 then (if (x0_1.length : Int) < 3 then (some (([] : List Bool), 13)) else (if 1 < (x0_1.length : Int) then (if 2 < (x0_1.length : Int) then (if (wrap64 (rd x0_1 1)) ≥ 64 then (paper_Plot.j2 kj9 x0_1 x4_1 x6_1 true x111000_1 x111001_1 (wrap64 (rd x0_1 1)) (wrap64 (rd x0_1 2))) else (paper_Plot.j2 kj9 x0_1 x4_1 x6_1 (decide ((wrap64 (rd x0_1 2)) ≥ 64)) x111000_1 x111001_1 (wrap64 (rd x0_1 1)) (wrap64 (rd x0_1 2)))) else (none)) else (none))) else (some (([] : List Bool), 3))) = some (r1, r2) := by rw [if_neg (show ¬ (false = true) by decide)] at H; exact H
                    clear H
                    have H := H1
                    clear H1
                    by_cases c26 : (rd x0_1 0) = 109
                    · rw [if_pos c26] at H
                      have c26b0 : ((rd x0_1 0) == 109) = true := beq_iff_eq.mpr c26
                      have c26b1 : ((rd x0_1 0) != 109) = false := bne_eq_false_iff_eq.mpr c26
                      clear c26
                      by_cases c27 : (x0_1.length : Int) < 3
                      · rw [if_pos c27] at H
                        have c27b0 : decide ((x0_1.length : Int) < 3) = true := decide_eq_true c27
                        have c27b1 : decide (x0_1.length < 3) = true := decide_eq_true (by omega)
                        clear c27
                        simp only [Option.some.injEq, Prod.mk.injEq] at H
                        obtain ⟨rfl, rfl⟩ := H
                        go_wp2
                        go_ret2
                        exact ⟨_, by first | rfl | (simp [errW_none, errW_some] <;> rfl) | (simp [*, errW_none, errW_some] <;> rfl), by first | exact Kd.R_nil _ _ _ _ _ | exact Kd.N_nil _ _ _ _ _ | exact Kd.V_nil _ _ _ _ _ | exact Kd.Q_nil _ _ _ _ _ | exact Kd.S_nil _ _ _ _ _, by repeat (first | (with_reducible first | exact HB.out | apply below_alloc | apply pw_below_drewN | apply below_drew1 | refine below_set ?_ GE110.out) | exact HB.out)⟩
                      · rw [if_neg c27] at H
                        have c27b0 : decide ((x0_1.length : Int) < 3) = false := decide_eq_false c27
                        have c27b1 : decide (x0_1.length < 3) = false := decide_eq_false (by omega)
                        clear c27
                        by_cases c28 : 1 < (x0_1.length : Int)
                        · rw [if_pos c28] at H
                          have c28b0 : decide (1 < (x0_1.length : Int)) = true := decide_eq_true c28
                          have c28b1 : decide (1 < x0_1.length) = true := decide_eq_true (by omega)
                          clear c28
                          by_cases c29 : 2 < (x0_1.length : Int)
                          · rw [if_pos c29] at H
                            have c29b0 : decide (2 < (x0_1.length : Int)) = true := decide_eq_true c29
                            have c29b1 : decide (2 < x0_1.length) = true := decide_eq_true (by omega)
                            clear c29
                            have HC30 := Aside0.mk H
                            clear H
                            try go_wp2
                            have n0_ := Aside0.mk (Kd.V_drew HO_0.out)
                            have n1_ := Aside0.mk (Kd.R_drew HO_4.out)
                            have n2_ := Aside0.mk (blk_drew BK110.out)
                            have n3_ := Aside0.mk (below_drew1 HB.out)
                            clear HO_0
                            clear HO_4
                            clear BK110
                            clear HB
                            have HO_0 := n0_
                            have HO_4 := n1_
                            have BK110 := n2_
                            have HB := n3_
                            clear n0_ n1_ n2_ n3_
                            have p119 : 0 ≤ (1 : Int) := (by omega)
                            have q119 : 1 < (x0_1.length : Int) := of_decide_eq_true (by first | (with_reducible assumption) | assumption)
                            obtain ⟨ad119, e119, hx119_0⟩ := Kd.at_int (Kd.V_reads' HO_0.out).2.2 1 p119 q119
                            obtain rfl : ad111 = ad119 := (by injection e119)
                            (try simp only [show (1 : Int).toNat = 1 from rfl, Nat.reduceMul, Nat.reduceEqDiff, Go.Addr.add, ↓reduceIte] at hx119_0)
                            have qi119 : (1 < x0_1.length) = True := eq_true (by omega)
                            (try rw [show ((1 : Int)).toNat = 1 from rfl] at hx119_0)
                            replace p119 := eq_true p119
                            replace q119 := eq_true q119
                            have p120 : 0 ≤ (2 : Int) := (by omega)
                            have q120 : 2 < (x0_1.length : Int) := of_decide_eq_true (by first | (with_reducible assumption) | assumption)
                            obtain ⟨ad120, e120, hx120_0⟩ := Kd.at_int (Kd.V_reads' HO_0.out).2.2 2 p120 q120
                            obtain rfl : ad111 = ad120 := (by injection e120)
                            (try simp only [show (2 : Int).toNat = 2 from rfl, Nat.reduceMul, Nat.reduceEqDiff, Go.Addr.add, ↓reduceIte] at hx120_0)
                            have qi120 : (2 < x0_1.length) = True := eq_true (by omega)
                            (try rw [show ((2 : Int)).toNat = 2 from rfl] at hx120_0)
                            replace p120 := eq_true p120
                            replace q120 := eq_true q120
                            refine start_ (n := 11) (S := fun w' => w'.cell? ⟨ad111.block, ad111.off + 1, none⟩ = some (.int .u8 (rd x0_1 1)) ∧ w'.cell? ⟨ad111.block, ad111.off + 2, none⟩ = some (.int .u8 (rd x0_1 2))) (ds := []) #[false, false, false, false, false, false, false, false, false, false, false] (by kernel_rfl) rfl rfl ⟨hx119_0, hx120_0⟩ (fun hHeld => ?_); refine with_tabW paper_Plot.tab17 paper_Plot.bits17 (fun HT_ HW_ => ?_)
                            generalize wc.drew = w31 at HO_0 HO_4 BK110 HB hx119_0 hx120_0 hHeld ⊢
                            refine pure_ (i := 0) (N := some 44) (v := ?_) (a' := ?_) #[true, false, false, false, false, false, false, false, false, false, false] rfl rfl (any_of HT_.out (by kernel_rfl)) (fun _ _ _ h => h) (Or.inl ⟨by rfl, ?_⟩) ?_ ?_
                            rotate_left
                            · intro w'
                              go_simp
                              with_reducible rfl
                            rotate_left
                            · simp only [Act.put, List.setIfInBounds_toArray, List.set_cons_zero, List.set_cons_succ, i64_w, i32_w]
                              rfl
                            refine pure_ (i := 1) (N := some 45) (v := ?_) (a' := ?_) #[true, true, false, false, false, false, false, false, false, false, false] rfl rfl (any_of HT_.out (by kernel_rfl)) (fun _ _ _ h => h) (Or.inl ⟨by rfl, ?_⟩) ?_ ?_
                            rotate_left
                            · intro w'
                              go_simp
                              with_reducible rfl
                            rotate_left
                            · simp only [Act.put, List.setIfInBounds_toArray, List.set_cons_zero, List.set_cons_succ, i64_w, i32_w]
                              rfl
                            refine pure_ (i := 4) (N := some 48) (v := ?_) (a' := ?_) #[true, true, false, false, true, false, false, false, false, false, false] rfl rfl (any_of HT_.out (by kernel_rfl)) (fun _ _ _ h => h) (Or.inl ⟨by rfl, ?_⟩) ?_ ?_
                            rotate_left
                            · intro w'
                              go_simp
                              with_reducible rfl
                            rotate_left
                            · simp only [Act.put, List.setIfInBounds_toArray, List.set_cons_zero, List.set_cons_succ, i64_w, i32_w]
                              rfl
                            refine pure_ (i := 5) (N := some 49) (v := ?_) (a' := ?_) #[true, true, false, false, true, true, false, false, false, false, false] rfl rfl (any_of HT_.out (by kernel_rfl)) (fun _ _ _ h => h) (Or.inl ⟨by rfl, ?_⟩) ?_ ?_
                            rotate_left
                            · intro w'
                              go_simp
                              with_reducible rfl
                            rotate_left
                            · simp only [Act.put, List.setIfInBounds_toArray, List.set_cons_zero, List.set_cons_succ, i64_w, i32_w]
                              rfl
                            refine take_ (i := 2) (N := some 46) (v := ?_) (a' := ?_) #[true, true, true, false, true, true, false, false, false, false, false] rfl rfl (take_ofW HT_.out HW_.out (by kernel_rfl)) (fun _ _ _ h => h) (Or.inl ⟨by rfl, ?_⟩) hHeld ?_ ?_
                            rotate_left
                            · rintro w' ⟨s0, s1⟩
                              go_simp
                              with_reducible rfl
                            rotate_left
                            · simp only [Act.put, List.setIfInBounds_toArray, List.set_cons_zero, List.set_cons_succ, i64_w, i32_w]
                              rfl
                            refine pure_ (i := 3) (N := some 47) (v := ?_) (a' := ?_) #[true, true, true, true, true, true, false, false, false, false, false] rfl rfl (any_of HT_.out (by kernel_rfl)) (fun _ _ _ h => h) (Or.inl ⟨by rfl, ?_⟩) ?_ ?_
                            rotate_left
                            · intro w'
                              go_simp
                              with_reducible rfl
                            rotate_left
                            · simp only [Act.put, List.setIfInBounds_toArray, List.set_cons_zero, List.set_cons_succ, i64_w, i32_w]
                              rfl
                            refine take_ (i := 6) (N := some 50) (v := ?_) (a' := ?_) #[true, true, true, true, true, true, true, false, false, false, false] rfl rfl (take_ofW HT_.out HW_.out (by kernel_rfl)) (fun _ _ _ h => h) (Or.inl ⟨by rfl, ?_⟩) hHeld ?_ ?_
                            rotate_left
                            · rintro w' ⟨s0, s1⟩
                              go_simp
                              with_reducible rfl
                            rotate_left
                            · simp only [Act.put, List.setIfInBounds_toArray, List.set_cons_zero, List.set_cons_succ, i64_w, i32_w]
                              rfl
                            refine pure_ (i := 7) (N := some 51) (v := ?_) (a' := ?_) #[true, true, true, true, true, true, true, true, false, false, false] rfl rfl (any_of HT_.out (by kernel_rfl)) (fun _ _ _ h => h) (Or.inl ⟨by rfl, ?_⟩) ?_ ?_
                            rotate_left
                            · intro w'
                              go_simp
                              with_reducible rfl
                            rotate_left
                            · simp only [Act.put, List.setIfInBounds_toArray, List.set_cons_zero, List.set_cons_succ, i64_w, i32_w]
                              rfl
                            refine pure_ (i := 8) (N := some 52) (v := ?_) (a' := ?_) #[true, true, true, true, true, true, true, true, true, false, false] rfl rfl (any_of HT_.out (by kernel_rfl)) (fun _ _ _ h => h) (Or.inl ⟨by rfl, ?_⟩) ?_ ?_
                            rotate_left
                            · intro w'
                              go_simp
                              with_reducible rfl
                            rotate_left
                            · simp only [Act.put, List.setIfInBounds_toArray, List.set_cons_zero, List.set_cons_succ, i64_w, i32_w]
                              rfl
                            refine one_ (i := 9) (N := some 7) #[true, true, true, true, true, true, true, true, true, true, false] rfl rfl (one_of HT_.out (by kernel_rfl)) (by decide) (fun K hK => ?_)
                            refine box_step ?hg (N := 7) ?hd (cs := #[.int .i64 0, .int .i64 0]) (t := 132) ?hr ?_; (case hd => rfl); (case hg => rfl); (case hr => first | (go_simp; done) | (go_simp; rfl))
                            intro gb121 hg w32 hbox hb
                            have HS0_ := (hb.cell (World.block_lt_of_cell? _ _ (hHeld.1))).trans (hHeld.1)
                            have HS1_ := (hb.cell (World.block_lt_of_cell? _ _ (hHeld.2))).trans (hHeld.2)
                            have n0_ := Aside0.mk (Kd.V_below (Kd.V_elderB (by (with_reducible repeat (first | apply Kd.V_alloc | apply Kd.V_drewN | apply Kd.V_drew)); exact HO_0.out) gb121 (Nat.le_of_eq hg.symm)) hb)
                            have n1_ := Aside0.mk (Kd.R_below (by (with_reducible repeat (first | apply Kd.R_alloc | apply Kd.R_drewN | apply Kd.R_drew)); exact HO_4.out) hb)
                            have n2_ := Aside0.mk (blk_below (g := gb110) (o := .cells #[.int .i64 x111000_1, .int .i64 x111001_1] 132 (0, 0)) (by (with_reducible repeat (first | refine blk_drewN ?_ _ | refine blk_drew ?_ | refine blk_alloc ?_ _)); exact BK110.out) hb)
                            have n3_ := Aside0.mk (below_step (by repeat (first | (with_reducible first | exact HB.out | apply below_alloc | apply pw_below_drewN | apply below_drew1 | refine below_set ?_ GE110.out) | exact HB.out)) hb)
                            have n4_ := Aside0.mk (hbox)
                            have n5_ := Aside0.mk ((by rw [hg]; exact (below_size (by repeat (first | (with_reducible first | exact HB.out | apply below_alloc | apply pw_below_drewN | apply below_drew1 | refine below_set ?_ GE110.out) | exact HB.out))) : w.heap.size ≤ gb121))
                            have n6_ := Aside0.mk ((by rw [hg]; exact (below_size (by repeat (first | (with_reducible first | exact HB.out | apply below_alloc | apply pw_below_drewN | apply below_drew1 | refine below_set ?_ GE110.out) | exact HB.out))) : w.heap.size ≤ gb121))
                            have n7_ := Aside0.mk ((by rw [hg]; exact Nat.ne_of_lt (blk_lt (g := gb110) (o := .cells #[.int .i64 x111000_1, .int .i64 x111001_1] 132 (0, 0)) (by (with_reducible repeat (first | refine blk_drewN ?_ _ | refine blk_drew ?_ | refine blk_alloc ?_ _)); exact BK110.out)) : gb110 ≠ gb121))
                            have n8_ := Aside0.mk ((by rw [hg]; exact Nat.ne_of_gt (blk_lt (g := gb110) (o := .cells #[.int .i64 x111000_1, .int .i64 x111001_1] 132 (0, 0)) (by (with_reducible repeat (first | refine blk_drewN ?_ _ | refine blk_drew ?_ | refine blk_alloc ?_ _)); exact BK110.out)) : gb121 ≠ gb110))
                            clear HO_0
                            clear HO_4
                            clear BK110
                            clear HB
                            have HO_0 := n0_
                            have HO_4 := n1_
                            have BK110 := n2_
                            have HB := n3_
                            have BK121 := n4_
                            have GW121 := n5_
                            have GE121 := n6_
                            have NB110_121 := n7_
                            have NB121_110 := n8_
                            clear n0_ n1_ n2_ n3_ n4_ n5_ n6_ n7_ n8_
                            clear hb hbox hg
                            refine hK.out _ _ ⟨HS0_, HS1_⟩ (fun hHeld => ?_)
                            clear hK K
                            refine norm_ (a' := ?_) ?_ ?_
                            rotate_left
                            · show Act.put _ (some 7) _ = _
                              simp only [Act.put, List.setIfInBounds_toArray, List.set_cons_zero, List.set_cons_succ, i64_w, i32_w]
                              rfl
                            refine one_ (i := 10) (N := none) #[true, true, true, true, true, true, true, true, true, true, true] rfl rfl (one_of HT_.out (by kernel_rfl)) (by decide) (fun K hK => ?_)
                            have hs33 : w32.cell? ⟨gb121, 0, none⟩ = some (.int .i64 0) := (blk_cell BK121.out 0).trans rfl
                            have hfs33 := blk_frozen BK121.out 0
                            have hns33_0 := NB110_121.out
                            have hms33_0 := NB121_110.out
                            have hs34 : w32.cell? ⟨gb121, 1, none⟩ = some (.int .i64 0) := (blk_cell BK121.out 1).trans rfl
                            have hfs34 := blk_frozen BK121.out 1
                            have hns34_0 := NB110_121.out
                            have hms34_0 := NB121_110.out
                            refine skip_ (w1 := ?_) (by rfl) rfl ?_ ?_
                            rotate_left
                            · go_simp
                              rfl
                            refine hK.out _ _ ⟨((cell_far (p := ⟨gb121, _, none⟩) (by first | exact (Kd.F_in (Kd.V_F HO_0.out) rfl (Nat.lt_of_le_of_lt (Nat.zero_le _) (of_decide_eq_true c29b1)) (by decide)).2 | (rw [add_block]; exact (Kd.F_in (Kd.V_F HO_0.out) rfl (Nat.lt_of_le_of_lt (Nat.zero_le _) (of_decide_eq_true c29b1)) (by decide)).2) | (show (Addr.add _ _).block ≠ _; rw [add_block]; exact (Kd.F_in (Kd.V_F HO_0.out) rfl (Nat.lt_of_le_of_lt (Nat.zero_le _) (of_decide_eq_true c29b1)) (by decide)).2) | (dsimp only; exact (Kd.F_in (Kd.V_F HO_0.out) rfl (Nat.lt_of_le_of_lt (Nat.zero_le _) (of_decide_eq_true c29b1)) (by decide)).2)) _).trans (((cell_far (p := ⟨gb121, _, none⟩) (by first | exact (Kd.F_in (Kd.V_F HO_0.out) rfl (Nat.lt_of_le_of_lt (Nat.zero_le _) (of_decide_eq_true c29b1)) (by decide)).2 | (rw [add_block]; exact (Kd.F_in (Kd.V_F HO_0.out) rfl (Nat.lt_of_le_of_lt (Nat.zero_le _) (of_decide_eq_true c29b1)) (by decide)).2) | (show (Addr.add _ _).block ≠ _; rw [add_block]; exact (Kd.F_in (Kd.V_F HO_0.out) rfl (Nat.lt_of_le_of_lt (Nat.zero_le _) (of_decide_eq_true c29b1)) (by decide)).2) | (dsimp only; exact (Kd.F_in (Kd.V_F HO_0.out) rfl (Nat.lt_of_le_of_lt (Nat.zero_le _) (of_decide_eq_true c29b1)) (by decide)).2)) _).trans (hHeld.1)))), ((cell_far (p := ⟨gb121, _, none⟩) (by first | exact (Kd.F_in (Kd.V_F HO_0.out) rfl (Nat.lt_of_le_of_lt (Nat.zero_le _) (of_decide_eq_true c29b1)) (by decide)).2 | (rw [add_block]; exact (Kd.F_in (Kd.V_F HO_0.out) rfl (Nat.lt_of_le_of_lt (Nat.zero_le _) (of_decide_eq_true c29b1)) (by decide)).2) | (show (Addr.add _ _).block ≠ _; rw [add_block]; exact (Kd.F_in (Kd.V_F HO_0.out) rfl (Nat.lt_of_le_of_lt (Nat.zero_le _) (of_decide_eq_true c29b1)) (by decide)).2) | (dsimp only; exact (Kd.F_in (Kd.V_F HO_0.out) rfl (Nat.lt_of_le_of_lt (Nat.zero_le _) (of_decide_eq_true c29b1)) (by decide)).2)) _).trans (((cell_far (p := ⟨gb121, _, none⟩) (by first | exact (Kd.F_in (Kd.V_F HO_0.out) rfl (Nat.lt_of_le_of_lt (Nat.zero_le _) (of_decide_eq_true c29b1)) (by decide)).2 | (rw [add_block]; exact (Kd.F_in (Kd.V_F HO_0.out) rfl (Nat.lt_of_le_of_lt (Nat.zero_le _) (of_decide_eq_true c29b1)) (by decide)).2) | (show (Addr.add _ _).block ≠ _; rw [add_block]; exact (Kd.F_in (Kd.V_F HO_0.out) rfl (Nat.lt_of_le_of_lt (Nat.zero_le _) (of_decide_eq_true c29b1)) (by decide)).2) | (dsimp only; exact (Kd.F_in (Kd.V_F HO_0.out) rfl (Nat.lt_of_le_of_lt (Nat.zero_le _) (of_decide_eq_true c29b1)) (by decide)).2)) _).trans (hHeld.2))))⟩ (fun hHeld => ?_)
                            clear hK K
                            refine done_ (done_of HT_.out (by kernel_rfl)) ?_
                            go_upto_region 18 with (fail)
                            go_cut [60] (fun v60 wc => ∃ (kq : Nat) (x60_29 : Bool), v60 = .bool x60_29 ∧ Aside0 (paper_Plot.j2 kq x0_1 x4_1 x6_1 x60_29 x111000_1 x111001_1 (wrap64 (rd x0_1 1)) (wrap64 (rd x0_1 2)) = some (r1, r2)) ∧ Aside0 (kq ≤ kj9) ∧ Aside0 (Kd.V (Kd.int .u8) 5 wc w.heap.size (fun k_ => (P0_ k_ ∨ w.heap.size ≤ k_) ∧ some k_ ≠ (v108 : Value).ownBlock ∧ k_ ≠ gb110 ∧ k_ ≠ gb121) (.slice (some ad111) x0_1.length co11) x0_1) ∧ Aside0 (Kd.R Kd.bool 4 wc w.heap.size (fun k_ => (w.heap.size ≤ k_)) v108 x4_1) ∧ Aside0 (wc.heap[gb110]? = some (.cells #[.int .i64 x111000_1, .int .i64 x111001_1] 132 (0, 0))) ∧ Aside0 (wc.heap[gb121]? = some (.cells #[.int .i64 (wrap64 (rd x0_1 1)), .int .i64 (wrap64 (rd x0_1 2))] 132 (0, 0))) ∧ Aside0 (Below w.heap.size w wc))
                            case first =>
                              have H := HC30.out
                              clear HC30
                              by_cases c35 : (wrap64 (rd x0_1 1)) ≥ 64
                              · rw [if_pos c35] at H
                                have c35b0 : decide (64 ≤ (wrap64 (rd x0_1 1))) = true := decide_eq_true c35
                                clear c35
                                (first | rw [c35b0] | (simp only [i64_w, i32_w]; rw [c35b0]) | skip)
                                have H' := Aside0.mk H
                                clear H
                                have hnb36 := NB121_110.out
                                have hnc36 := NB110_121.out
                                have hcz37_0 : w32.cell? ⟨gb121, 0, none⟩ = some (.int .i64 0) := (blk_cell BK121.out 0).trans rfl
                                have hcz37_1 : w32.cell? ⟨gb121, 1, none⟩ = some (.int .i64 0) := (blk_cell BK121.out 1).trans rfl
                                have hfz37_0 := blk_frozen BK121.out 0
                                have hfz37_1 := blk_frozen BK121.out 1
                                go_wp2
                                go_meet
                                case rel => exact ⟨_, (true), (by first | rfl | (simp; done) | (simp [*]; done)), H', ⟨by have := HK1.out; have := HJ9.out; first | omega | exact Nat.le_refl _⟩, ⟨by (with_reducible repeat (first | apply Kd.V_alloc | apply Kd.V_drewN | apply Kd.V_drew)); exact Kd.V_mono (Kd.V_far (p := ⟨gb121, 1, none⟩) (Kd.V_far (p := ⟨gb121, 0, none⟩) (Kd.V_mono HO_0.out (fun k_ hk => (⟨hk, hk.2⟩ : _ ∧ k_ ≠ gb121))) (fun _ hk => hk.2) (.int .i64 (wrap64 (rd x0_1 1)))) (fun _ hk => hk.2) (.int .i64 (wrap64 (rd x0_1 2)))) (fun _ hk => ⟨hk.1.1.1, ⟨hk.1.1.2.1, ⟨hk.1.1.2.2, hk.1.2⟩⟩⟩)⟩, ⟨by (with_reducible repeat (first | apply Kd.R_alloc | apply Kd.R_drewN | apply Kd.R_drew)); exact Kd.R_mono (Kd.R_far (p := ⟨gb121, 1, none⟩) (Kd.R_far (p := ⟨gb121, 0, none⟩) (Kd.R_types HO_4.out BK121.out (by decide)) (fun _ hk => hk.2) (.int .i64 (wrap64 (rd x0_1 1)))) (fun _ hk => hk.2) (.int .i64 (wrap64 (rd x0_1 2)))) (fun _ hk => hk.1)⟩, ⟨by (with_reducible repeat (first | refine blk_drewN ?_ _ | refine blk_drew ?_ | refine blk_alloc ?_ _)); refine blk_far ?_ NB110_121.out _; (with_reducible repeat (first | refine blk_drewN ?_ _ | refine blk_drew ?_ | refine blk_alloc ?_ _)); refine blk_far ?_ NB110_121.out _; (with_reducible repeat (first | refine blk_drewN ?_ _ | refine blk_drew ?_ | refine blk_alloc ?_ _)); exact BK110.out⟩, ⟨by (with_reducible repeat (first | refine blk_drewN ?_ _ | refine blk_drew ?_ | refine blk_alloc ?_ _)); refine blk_put (cs := #[.int .i64 (wrap64 (rd x0_1 1)), .int .i64 0]) ?_ 1 _ rfl; (with_reducible repeat (first | refine blk_drewN ?_ _ | refine blk_drew ?_ | refine blk_alloc ?_ _)); refine blk_put (cs := #[.int .i64 0, .int .i64 0]) ?_ 0 _ rfl; (with_reducible repeat (first | refine blk_drewN ?_ _ | refine blk_drew ?_ | refine blk_alloc ?_ _)); exact BK121.out⟩, ⟨by repeat (first | (with_reducible first | exact HB.out | apply below_alloc | apply pw_below_drewN | apply below_drew1 | refine below_set ?_ GE110.out | refine below_set ?_ GE121.out) | exact HB.out)⟩⟩
                              · rw [if_neg c35] at H
                                have c35b0 : decide (64 ≤ (wrap64 (rd x0_1 1))) = false := decide_eq_false c35
                                clear c35
                                (first | rw [c35b0] | (simp only [i64_w, i32_w]; rw [c35b0]) | skip)
                                have H' := Aside0.mk H
                                clear H
                                have hnb38 := NB121_110.out
                                have hnc38 := NB110_121.out
                                have hcz39_0 : w32.cell? ⟨gb121, 0, none⟩ = some (.int .i64 0) := (blk_cell BK121.out 0).trans rfl
                                have hcz39_1 : w32.cell? ⟨gb121, 1, none⟩ = some (.int .i64 0) := (blk_cell BK121.out 1).trans rfl
                                have hfz39_0 := blk_frozen BK121.out 0
                                have hfz39_1 := blk_frozen BK121.out 1
                                go_wp2
                                go_meet
                                case rel => exact ⟨_, (decide ((wrap64 (rd x0_1 2)) ≥ 64)), (by first | rfl | (simp; done) | (simp [*]; done)), H', ⟨by have := HK1.out; have := HJ9.out; first | omega | exact Nat.le_refl _⟩, ⟨by (with_reducible repeat (first | apply Kd.V_alloc | apply Kd.V_drewN | apply Kd.V_drew)); exact Kd.V_mono (Kd.V_far (p := ⟨gb121, 1, none⟩) (Kd.V_far (p := ⟨gb121, 0, none⟩) (Kd.V_mono HO_0.out (fun k_ hk => (⟨hk, hk.2⟩ : _ ∧ k_ ≠ gb121))) (fun _ hk => hk.2) (.int .i64 (wrap64 (rd x0_1 1)))) (fun _ hk => hk.2) (.int .i64 (wrap64 (rd x0_1 2)))) (fun _ hk => ⟨hk.1.1.1, ⟨hk.1.1.2.1, ⟨hk.1.1.2.2, hk.1.2⟩⟩⟩)⟩, ⟨by (with_reducible repeat (first | apply Kd.R_alloc | apply Kd.R_drewN | apply Kd.R_drew)); exact Kd.R_mono (Kd.R_far (p := ⟨gb121, 1, none⟩) (Kd.R_far (p := ⟨gb121, 0, none⟩) (Kd.R_types HO_4.out BK121.out (by decide)) (fun _ hk => hk.2) (.int .i64 (wrap64 (rd x0_1 1)))) (fun _ hk => hk.2) (.int .i64 (wrap64 (rd x0_1 2)))) (fun _ hk => hk.1)⟩, ⟨by (with_reducible repeat (first | refine blk_drewN ?_ _ | refine blk_drew ?_ | refine blk_alloc ?_ _)); refine blk_far ?_ NB110_121.out _; (with_reducible repeat (first | refine blk_drewN ?_ _ | refine blk_drew ?_ | refine blk_alloc ?_ _)); refine blk_far ?_ NB110_121.out _; (with_reducible repeat (first | refine blk_drewN ?_ _ | refine blk_drew ?_ | refine blk_alloc ?_ _)); exact BK110.out⟩, ⟨by (with_reducible repeat (first | refine blk_drewN ?_ _ | refine blk_drew ?_ | refine blk_alloc ?_ _)); refine blk_put (cs := #[.int .i64 (wrap64 (rd x0_1 1)), .int .i64 0]) ?_ 1 _ rfl; (with_reducible repeat (first | refine blk_drewN ?_ _ | refine blk_drew ?_ | refine blk_alloc ?_ _)); refine blk_put (cs := #[.int .i64 0, .int .i64 0]) ?_ 0 _ rfl; (with_reducible repeat (first | refine blk_drewN ?_ _ | refine blk_drew ?_ | refine blk_alloc ?_ _)); exact BK121.out⟩, ⟨by repeat (first | (with_reducible first | exact HB.out | apply below_alloc | apply pw_below_drewN | apply below_drew1 | refine below_set ?_ GE110.out | refine below_set ?_ GE121.out) | exact HB.out)⟩⟩
                            case rest =>
                              clear HC30
                              try clear c1
                              try clear p1
                              try clear q1
                              try clear hx1
                              try clear qi1
                              try clear c2
                              try clear c2b0
                              try clear c2b1
                              try clear p2
                              try clear q2
                              try clear hx2
                              try clear hf2
                              try clear c3
                              try clear c3b0
                              try clear c3b1
                              try clear c4
                              try clear p6
                              try clear c8
                              try clear c8b0
                              try clear c8b1
                              try clear c9
                              try clear c9b0
                              try clear c9b1
                              try clear p11
                              try clear q11
                              try clear hx11
                              try clear qi11
                              try clear c12
                              try clear c12b0
                              try clear c12b1
                              try clear p12
                              try clear q12
                              try clear hx12
                              try clear qi12
                              try clear c13
                              try clear c14
                              try clear c14b0
                              try clear c14b1
                              try clear c15
                              try clear c15b0
                              try clear c15b1
                              try clear c16
                              try clear c16b0
                              try clear c16b1
                              try clear c18
                              try clear c18b0
                              try clear c19
                              try clear c19b0
                              try clear p20
                              try clear q20
                              try clear hx20
                              try clear hf20
                              try clear c21
                              try clear q21
                              try clear c25
                              try clear q25
                              try clear c26
                              try clear c26b0
                              try clear c26b1
                              try clear c27
                              try clear c27b0
                              try clear c27b1
                              try clear c28
                              try clear c28b0
                              try clear c28b1
                              try clear c29
                              try clear c29b0
                              try clear c29b1
                              try clear c35
                              try clear c35b0
                              try clear c36
                              try clear c38
                              try clear hcz22_0
                              try clear hcz22_1
                              try clear hcz37_0
                              try clear hcz37_1
                              try clear hcz39_0
                              try clear hcz39_1
                              try clear hcz7_0
                              try clear hcz7_1
                              try clear hfz22_0
                              try clear hfz22_1
                              try clear hfz37_0
                              try clear hfz37_1
                              try clear hfz39_0
                              try clear hfz39_1
                              try clear hfz7_0
                              try clear hfz7_1
                              try clear hx111_0
                              try clear hx112_0
                              try clear hx119_0
                              try clear hx120_0
                              try clear hx20_0
                              try clear p1
                              try clear p11
                              try clear p111
                              try clear p112
                              try clear p119
                              try clear p120
                              try clear p2
                              try clear p20
                              try clear q1
                              try clear q11
                              try clear q111
                              try clear q112
                              try clear q119
                              try clear q120
                              try clear q20
                              try clear q21
                              try clear q25
                              obtain ⟨kq, x60_29, rfl, HA, HJ29, HO_0, HO_4, BK110, BK121, HB⟩ := hcut
                              cases kq with
                              | zero => exact absurd HA.out (by simp [paper_Plot.j2])
                              | succ kj29 =>
                                have H := HA.out
                                clear HA
                                simp only [paper_Plot.j2] at H
                                by_cases c40 : x60_29 = true
                                · subst c40
                                  have H1 : (some (([] : List Bool), 19)) = some (r1, r2) := by rw [if_pos rfl] at H; exact H
                                  clear H
                                  have H := H1
                                  clear H1
                                  simp only [Option.some.injEq, Prod.mk.injEq] at H
                                  obtain ⟨rfl, rfl⟩ := H
                                  go_wp2
                                  go_ret2
                                  exact ⟨_, by first | rfl | (simp [errW_none, errW_some] <;> rfl) | (simp [*, errW_none, errW_some] <;> rfl), by first | exact Kd.R_nil _ _ _ _ _ | exact Kd.N_nil _ _ _ _ _ | exact Kd.V_nil _ _ _ _ _ | exact Kd.Q_nil _ _ _ _ _ | exact Kd.S_nil _ _ _ _ _, by repeat (first | (with_reducible first | exact HB.out | apply below_alloc | apply pw_below_drewN | apply below_drew1 | refine below_set ?_ GE110.out | refine below_set ?_ GE121.out) | exact HB.out)⟩
                                · replace c40 := Bool.eq_false_iff.mpr c40
                                  subst c40
                                  have H1 : (if x6_1 = true then ((paper_line.f x111000_1 x111001_1 (wrap64 (rd x0_1 1)) (wrap64 (rd x0_1 2))).bind fun t122 => (paper_Plot.l1 kj29 x0_1 x4_1 x6_1 t122 (t122.length : Int) 0 (wrap64 (rd x0_1 1)) (wrap64 (rd x0_1 2)))) else (if 3 ≤ (x0_1.length : Int) then (paper_Plot.l0 kj29 (x0_1.drop 3) x4_1 x6_1 (wrap64 (rd x0_1 1)) (wrap64 (rd x0_1 2))) else (none))) = some (r1, r2) := by rw [if_neg (show ¬ (false = true) by decide)] at H; exact H
                                  clear H
                                  have H := H1
                                  clear H1
                                  by_cases c41 : x6_1 = true
                                  · subst c41
                                    have H1 : ((paper_line.f x111000_1 x111001_1 (wrap64 (rd x0_1 1)) (wrap64 (rd x0_1 2))).bind fun t122 => (paper_Plot.l1 kj29 x0_1 x4_1 true t122 (t122.length : Int) 0 (wrap64 (rd x0_1 1)) (wrap64 (rd x0_1 2)))) = some (r1, r2) := by rw [if_pos rfl] at H; exact H
                                    clear H
                                    have H := H1
                                    clear H1
                                    replace H := Option.bind_eq_some_iff.mp H
                                    obtain ⟨t122, A420, H⟩ := H
                                    replace H : (paper_Plot.l1 kj29 x0_1 x4_1 true t122 (t122.length : Int) 0 (wrap64 (rd x0_1 1)) (wrap64 (rd x0_1 2))) = some (r1, r2) := H
                                    have A42 := Aside0.mk A420
                                    clear A420
                                    have H' := Aside0.mk H
                                    clear H
                                    have hnb43 := NB110_121.out
                                    have hnc43 := NB121_110.out
                                    have hcz44_0 : wc.cell? ⟨gb110, 0, none⟩ = some (.int .i64 x111000_1) := (blk_cell BK110.out 0).trans rfl
                                    have hcz44_1 : wc.cell? ⟨gb110, 1, none⟩ = some (.int .i64 x111001_1) := (blk_cell BK110.out 1).trans rfl
                                    have hfz44_0 := blk_frozen BK110.out 0
                                    have hfz44_1 := blk_frozen BK110.out 1
                                    have hcz45_0 : wc.cell? ⟨gb121, 0, none⟩ = some (.int .i64 (wrap64 (rd x0_1 1))) := (blk_cell BK121.out 0).trans rfl
                                    have hcz45_1 : wc.cell? ⟨gb121, 1, none⟩ = some (.int .i64 (wrap64 (rd x0_1 2))) := (blk_cell BK121.out 1).trans rfl
                                    have hfz45_0 := blk_frozen BK121.out 0
                                    have hfz45_1 := blk_frozen BK121.out 1
                                    go_wp2_with (first | ((with_reducible refine gate_callee (f := 78) rfl ?_); refine goesL_ (some 64) rfl rfl Try.func78 (by kernel_rfl) rfl #[.agg #[.int .i64 x111000_1, .int .i64 x111001_1], .agg #[.int .i64 (wrap64 (rd x0_1 1)), .int .i64 (wrap64 (rd x0_1 2))]] rfl (by (try simp only [List.map_toArray, List.map_cons, List.map_nil]); first | done | rfl | (simp only [List.length_drop, List.length_take]; rfl)) ?_; (with_reducible refine (paper_line.calls x111000_1 x111001_1 (wrap64 (rd x0_1 1)) (wrap64 (rd x0_1 2)) t122 _ A42.out).mono ?_); rintro e w46 ⟨v123, rfl, ho0, hb⟩; refine ⟨_, rfl, ?_⟩; have n0_ := Aside0.mk (Kd.V_elder' (by (with_reducible repeat (first | apply Kd.V_alloc | apply Kd.V_drewN | apply Kd.V_drew)); exact HO_0.out) (Kd.R_base ho0) hb); have n1_ := Aside0.mk (Kd.R_below (by (with_reducible repeat (first | apply Kd.R_alloc | apply Kd.R_drewN | apply Kd.R_drew)); exact HO_4.out) hb); have n2_ := Aside0.mk (Kd.R_lower (Kd.R_newB (Kd.R_newB (Kd.R_newM (M := fun k_ => (w.heap.size ≤ k_)) ho0 (below_size (by repeat (first | (with_reducible first | exact HB.out | apply below_alloc | apply pw_below_drewN | apply below_drew1 | refine below_set ?_ GE110.out | refine below_set ?_ GE121.out) | exact HB.out))) (fun k_ h_ => h_)) (g := gb110) (o := .cells #[.int .i64 x111000_1, .int .i64 x111001_1] 132 (0, 0)) (by (with_reducible repeat (first | refine blk_drewN ?_ _ | refine blk_drew ?_ | refine blk_alloc ?_ _)); exact BK110.out)) (g := gb121) (o := .cells #[.int .i64 (wrap64 (rd x0_1 1)), .int .i64 (wrap64 (rd x0_1 2))] 132 (0, 0)) (by (with_reducible repeat (first | refine blk_drewN ?_ _ | refine blk_drew ?_ | refine blk_alloc ?_ _)); exact BK121.out)) (below_size (by repeat (first | (with_reducible first | exact HB.out | apply below_alloc | apply pw_below_drewN | apply below_drew1 | refine below_set ?_ GE110.out | refine below_set ?_ GE121.out) | exact HB.out)))); have n3_ := Aside0.mk (blk_below (g := gb110) (o := .cells #[.int .i64 x111000_1, .int .i64 x111001_1] 132 (0, 0)) (by (with_reducible repeat (first | refine blk_drewN ?_ _ | refine blk_drew ?_ | refine blk_alloc ?_ _)); exact BK110.out) hb); have n4_ := Aside0.mk (blk_below (g := gb121) (o := .cells #[.int .i64 (wrap64 (rd x0_1 1)), .int .i64 (wrap64 (rd x0_1 2))] 132 (0, 0)) (by (with_reducible repeat (first | refine blk_drewN ?_ _ | refine blk_drew ?_ | refine blk_alloc ?_ _)); exact BK121.out) hb); have n5_ := Aside0.mk (below_step (by repeat (first | (with_reducible first | exact HB.out | apply below_alloc | apply pw_below_drewN | apply below_drew1 | refine below_set ?_ GE110.out | refine below_set ?_ GE121.out) | exact HB.out)) hb); clear HO_0; clear HO_4; clear BK110; clear BK121; clear HB; have HO_0 := n0_; have HO_4 := n1_; have HO124 := n2_; have BK110 := n3_; have BK121 := n4_; have HB := n5_; clear n0_ n1_ n2_ n3_ n4_ n5_; (try clear hb); (try clear hb2); (try clear hk); (try clear hi); (try clear ho0); obtain ⟨Ao47, co47, eo47⟩ := Kd.R_slice HO124.out; subst eo47))
                                    go_loopg [66] kj29 (fun kq v66 w' => ∃ (x4_4 : List Bool) (x66_4 : Int), v66 = .int .i64 x66_4 ∧ Aside0 (paper_Plot.l1 kq x0_1 x4_4 true t122 (t122.length : Int) x66_4 (wrap64 (rd x0_1 1)) (wrap64 (rd x0_1 2)) = some (r1, r2)) ∧ Aside0 (kq ≤ kj29) ∧ Aside0 (Kd.V (Kd.int .u8) 5 w' w.heap.size (fun k_ => (P0_ k_ ∨ w.heap.size ≤ k_) ∧ some k_ ≠ (v108 : Value).ownBlock ∧ some k_ ≠ ((.slice Ao47 t122.length co47) : Value).ownBlock ∧ k_ ≠ gb110 ∧ k_ ≠ gb121) (.slice (some ad111) x0_1.length co11) x0_1) ∧ Aside0 (Kd.R Kd.bool 4 w' w.heap.size (fun k_ => (w.heap.size ≤ k_)) v108 x4_4) ∧ Aside0 (Kd.R k132 132 w' w.heap.size (fun k_ => (w.heap.size ≤ k_) ∧ k_ ≠ gb110 ∧ k_ ≠ gb121) (.slice Ao47 t122.length co47) t122) ∧ Aside0 (w'.heap[gb110]? = some (.cells #[.int .i64 x111000_1, .int .i64 x111001_1] 132 (0, 0))) ∧ Aside0 (w'.heap[gb121]? = some (.cells #[.int .i64 (wrap64 (rd x0_1 1)), .int .i64 (wrap64 (rd x0_1 2))] 132 (0, 0))) ∧ Aside0 (Below w.heap.size w w'))
                                    case atStart => exact ⟨(x4_1), (0), (by first | rfl | (simp; done) | (simp [*]; done)), H', ⟨Nat.le_refl _⟩, ⟨by (with_reducible repeat (first | apply Kd.V_alloc | apply Kd.V_drewN | apply Kd.V_drew)); exact Kd.V_mono HO_0.out (fun _ hk => ⟨hk.1.1, ⟨hk.1.2.1, ⟨hk.2, ⟨hk.1.2.2.1, hk.1.2.2.2⟩⟩⟩⟩)⟩, ⟨by (with_reducible repeat (first | apply Kd.R_alloc | apply Kd.R_drewN | apply Kd.R_drew)); exact HO_4.out⟩, ⟨by (with_reducible repeat (first | apply Kd.R_alloc | apply Kd.R_drewN | apply Kd.R_drew)); exact Kd.R_mono HO124.out (fun _ hk => ⟨hk.1.1.1, ⟨hk.1.2, hk.2⟩⟩)⟩, ⟨by (with_reducible repeat (first | refine blk_drewN ?_ _ | refine blk_drew ?_ | refine blk_alloc ?_ _)); exact BK110.out⟩, ⟨by (with_reducible repeat (first | refine blk_drewN ?_ _ | refine blk_drew ?_ | refine blk_alloc ?_ _)); exact BK121.out⟩, ⟨by repeat (first | (with_reducible first | exact HB.out | apply below_alloc | apply pw_below_drewN | apply below_drew1 | refine below_set ?_ GE110.out | refine below_set ?_ GE121.out) | exact HB.out)⟩⟩
                                    case round =>
                                      clear H'
                                      try clear c1
                                      try clear p1
                                      try clear q1
                                      try clear hx1
                                      try clear qi1
                                      try clear c2
                                      try clear c2b0
                                      try clear c2b1
                                      try clear p2
                                      try clear q2
                                      try clear hx2
                                      try clear hf2
                                      try clear c3
                                      try clear c3b0
                                      try clear c3b1
                                      try clear c4
                                      try clear p6
                                      try clear c7
                                      try clear c8
                                      try clear c8b0
                                      try clear c8b1
                                      try clear c9
                                      try clear c9b0
                                      try clear c9b1
                                      try clear p11
                                      try clear q11
                                      try clear hx11
                                      try clear qi11
                                      try clear c12
                                      try clear c12b0
                                      try clear c12b1
                                      try clear p12
                                      try clear q12
                                      try clear hx12
                                      try clear qi12
                                      try clear c13
                                      try clear c14
                                      try clear c14b0
                                      try clear c14b1
                                      try clear c15
                                      try clear c15b0
                                      try clear c15b1
                                      try clear c16
                                      try clear c16b0
                                      try clear c16b1
                                      try clear c18
                                      try clear c18b0
                                      try clear c19
                                      try clear c19b0
                                      try clear p20
                                      try clear q20
                                      try clear hx20
                                      try clear hf20
                                      try clear c21
                                      try clear q21
                                      try clear c25
                                      try clear q25
                                      try clear c26
                                      try clear c26b0
                                      try clear c26b1
                                      try clear c27
                                      try clear c27b0
                                      try clear c27b1
                                      try clear c28
                                      try clear c28b0
                                      try clear c28b1
                                      try clear c29
                                      try clear c29b0
                                      try clear c29b1
                                      try clear c35
                                      try clear c35b0
                                      try clear c36
                                      try clear c38
                                      try clear c40
                                      try clear c41
                                      try clear c43
                                      try clear hcz22_0
                                      try clear hcz22_1
                                      try clear hcz37_0
                                      try clear hcz37_1
                                      try clear hcz39_0
                                      try clear hcz39_1
                                      try clear hcz44_0
                                      try clear hcz44_1
                                      try clear hcz45_0
                                      try clear hcz45_1
                                      try clear hcz7_0
                                      try clear hcz7_1
                                      try clear hfz22_0
                                      try clear hfz22_1
                                      try clear hfz37_0
                                      try clear hfz37_1
                                      try clear hfz39_0
                                      try clear hfz39_1
                                      try clear hfz44_0
                                      try clear hfz44_1
                                      try clear hfz45_0
                                      try clear hfz45_1
                                      try clear hfz7_0
                                      try clear hfz7_1
                                      try clear hx111_0
                                      try clear hx112_0
                                      try clear hx119_0
                                      try clear hx120_0
                                      try clear hx20_0
                                      try clear p1
                                      try clear p11
                                      try clear p111
                                      try clear p112
                                      try clear p119
                                      try clear p12
                                      try clear p120
                                      try clear p2
                                      try clear p20
                                      try clear p6
                                      try clear q1
                                      try clear q11
                                      try clear q111
                                      try clear q112
                                      try clear q119
                                      try clear q12
                                      try clear q120
                                      try clear q2
                                      try clear q20
                                      try clear q21
                                      try clear q25
                                      obtain ⟨x4_4, x66_4, rfl, HA, HK4, HO_0, HO_4, HO_64, BK110, BK121, HB⟩ := hrel
                                      cases gk with
                                      | zero => exact absurd HA.out (by simp [paper_Plot.l1])
                                      | succ k4 =>
                                        have H := HA.out
                                        clear HA
                                        simp only [paper_Plot.l1] at H
                                        by_cases c48 : x66_4 < (t122.length : Int)
                                        · rw [if_pos c48] at H
                                          have c48b0 : decide (x66_4 < (t122.length : Int)) = true := decide_eq_true c48
                                          clear c48
                                          by_cases c49 : 0 ≤ x66_4
                                          · rw [if_pos c49] at H
                                            have c49b0 : decide (0 ≤ x66_4) = true := decide_eq_true c49
                                            clear c49
                                            by_cases c50 : x66_4 < (t122.length : Int)
                                            · rw [if_pos c50] at H
                                              have c50b0 : decide (x66_4 < (t122.length : Int)) = true := decide_eq_true c50
                                              clear c50
                                              obtain ⟨ji51, hji51⟩ : ∃ j_ : Int, (wrap64 ((wrap64 (((rd_T132 t122 x66_4).f1) * 64)) + ((rd_T132 t122 x66_4).f0))) = j_ := ⟨_, rfl⟩
                                              replace H : (if 0 ≤ (ji51) then (if (ji51) < (x4_4.length : Int) then (paper_Plot.l1 k4 x0_1 (x4_4.set ((ji51) : Int).toNat true) true t122 (t122.length : Int) (wrap64 (x66_4 + 1)) (wrap64 (rd x0_1 1)) (wrap64 (rd x0_1 2))) else (none)) else (none)) = some (r1, r2) := by first | (rw [hji51] at H; exact H) | (simp only [hji51] at H ⊢; exact H)
                                              have hji51w : (IntKind.i64.wrap ((wrap64 (((rd_T132 t122 x66_4).f1) * 64)) + ((rd_T132 t122 x66_4).f0))) = ji51 := (i64_w _).trans hji51
                                              by_cases c52 : 0 ≤ (ji51)
                                              · rw [if_pos c52] at H
                                                have c52b0 : decide (0 ≤ (ji51)) = true := decide_eq_true c52
                                                clear c52
                                                by_cases c53 : (ji51) < (x4_4.length : Int)
                                                · rw [if_pos c53] at H
                                                  have c53b0 : decide ((ji51) < (x4_4.length : Int)) = true := decide_eq_true c53
                                                  clear c53
                                                  obtain ⟨y127, hy127⟩ : ∃ y_ : List Bool, y_ = (x4_4.set ((ji51) : Int).toNat true) := ⟨_, rfl⟩
                                                  replace H : (paper_Plot.l1 k4 x0_1 y127 true t122 (t122.length : Int) (wrap64 (x66_4 + 1)) (wrap64 (rd x0_1 1)) (wrap64 (rd x0_1 2))) = some (r1, r2) := by first | (rw [hy127]; with_reducible exact H) | (have H2_ := (Option.bind_some _ _).symm.trans H; rw [hy127]; with_reducible exact H2_) | (have H2_ := (Option.bind_some _ _).symm.trans H; with_reducible exact H2_) | with_reducible exact H | (rw [hy127]; exact H) | exact H
                                                  have Ny127 := Aside0.mk hy127
                                                  clear hy127
                                                  have H' := Aside0.mk H
                                                  clear H
                                                  have p125 : 0 ≤ (x66_4 : Int) := of_decide_eq_true (by first | (with_reducible assumption) | assumption)
                                                  have q125 : x66_4 < (t122.length : Int) := of_decide_eq_true (by first | (with_reducible assumption) | assumption)
                                                  obtain ⟨ad125, e125, hx125_0, hx125_1⟩ := at_T132 (Kd.R_reads' HO_64.out).2.2 x66_4 p125 q125
                                                  cases e125
                                                  replace p125 := eq_true p125
                                                  replace q125 := eq_true q125
                                                  go_wp2_with (first | ((with_reducible refine gate_dst (N := 9) rfl ?_); refine box_event ?hg (N := 9) ?hd (cs := #[.int .i64 0, .int .i64 0]) (t := 132) ?hr ?_; (case hd => rfl); (case hg => rfl); (case hr => first | (go_simp; done) | (go_simp; rfl)); intro gb126 hg w55 hbox hb; have n0_ := Aside0.mk (Kd.V_below (Kd.V_elderB (by (with_reducible repeat (first | apply Kd.V_alloc | apply Kd.V_drewN | apply Kd.V_drew)); exact HO_0.out) gb126 (Nat.le_of_eq hg.symm)) hb); have n1_ := Aside0.mk (Kd.R_below (by (with_reducible repeat (first | apply Kd.R_alloc | apply Kd.R_drewN | apply Kd.R_drew)); exact HO_4.out) hb); have n2_ := Aside0.mk (Kd.R_below (Kd.R_elderB (by (with_reducible repeat (first | apply Kd.R_alloc | apply Kd.R_drewN | apply Kd.R_drew)); exact HO_64.out) gb126 (Nat.le_of_eq hg.symm)) hb); have n3_ := Aside0.mk (blk_below (g := gb110) (o := .cells #[.int .i64 x111000_1, .int .i64 x111001_1] 132 (0, 0)) (by (with_reducible repeat (first | refine blk_drewN ?_ _ | refine blk_drew ?_ | refine blk_alloc ?_ _)); exact BK110.out) hb); have n4_ := Aside0.mk (blk_below (g := gb121) (o := .cells #[.int .i64 (wrap64 (rd x0_1 1)), .int .i64 (wrap64 (rd x0_1 2))] 132 (0, 0)) (by (with_reducible repeat (first | refine blk_drewN ?_ _ | refine blk_drew ?_ | refine blk_alloc ?_ _)); exact BK121.out) hb); have n5_ := Aside0.mk (below_step (by repeat (first | (with_reducible first | exact HB.out | apply below_alloc | apply pw_below_drewN | apply below_drew1 | refine below_set ?_ GE110.out | refine below_set ?_ GE121.out) | exact HB.out)) hb); have n6_ := Aside0.mk (hbox); have n7_ := Aside0.mk ((by rw [hg]; exact (below_size (by repeat (first | (with_reducible first | exact HB.out | apply below_alloc | apply pw_below_drewN | apply below_drew1 | refine below_set ?_ GE110.out | refine below_set ?_ GE121.out) | exact HB.out))) : w.heap.size ≤ gb126)); have n8_ := Aside0.mk ((by rw [hg]; exact (below_size (by repeat (first | (with_reducible first | exact HB.out | apply below_alloc | apply pw_below_drewN | apply below_drew1 | refine below_set ?_ GE110.out | refine below_set ?_ GE121.out) | exact HB.out))) : w.heap.size ≤ gb126)); have n9_ := Aside0.mk ((by rw [hg]; exact Nat.ne_of_lt (blk_lt (g := gb110) (o := .cells #[.int .i64 x111000_1, .int .i64 x111001_1] 132 (0, 0)) (by (with_reducible repeat (first | refine blk_drewN ?_ _ | refine blk_drew ?_ | refine blk_alloc ?_ _)); exact BK110.out)) : gb110 ≠ gb126)); have n10_ := Aside0.mk ((by rw [hg]; exact Nat.ne_of_gt (blk_lt (g := gb110) (o := .cells #[.int .i64 x111000_1, .int .i64 x111001_1] 132 (0, 0)) (by (with_reducible repeat (first | refine blk_drewN ?_ _ | refine blk_drew ?_ | refine blk_alloc ?_ _)); exact BK110.out)) : gb126 ≠ gb110)); have n11_ := Aside0.mk ((by rw [hg]; exact Nat.ne_of_lt (blk_lt (g := gb121) (o := .cells #[.int .i64 (wrap64 (rd x0_1 1)), .int .i64 (wrap64 (rd x0_1 2))] 132 (0, 0)) (by (with_reducible repeat (first | refine blk_drewN ?_ _ | refine blk_drew ?_ | refine blk_alloc ?_ _)); exact BK121.out)) : gb121 ≠ gb126)); have n12_ := Aside0.mk ((by rw [hg]; exact Nat.ne_of_gt (blk_lt (g := gb121) (o := .cells #[.int .i64 (wrap64 (rd x0_1 1)), .int .i64 (wrap64 (rd x0_1 2))] 132 (0, 0)) (by (with_reducible repeat (first | refine blk_drewN ?_ _ | refine blk_drew ?_ | refine blk_alloc ?_ _)); exact BK121.out)) : gb126 ≠ gb121)); clear HO_0; clear HO_4; clear HO_64; clear BK110; clear BK121; clear HB; have HO_0 := n0_; have HO_4 := n1_; have HO_64 := n2_; have BK110 := n3_; have BK121 := n4_; have HB := n5_; have BK126 := n6_; have GW126 := n7_; have GE126 := n8_; have NB110_126 := n9_; have NB126_110 := n10_; have NB121_126 := n11_; have NB126_121 := n12_; clear n0_ n1_ n2_ n3_ n4_ n5_ n6_ n7_ n8_ n9_ n10_ n11_ n12_; clear hb hbox hg; have hnb56 := NB126_110.out; have hnc56 := NB110_126.out; have hnb57 := NB126_121.out; have hnc57 := NB121_126.out; have hcz58_0 : w55.cell? ⟨gb126, 0, none⟩ = some (.int .i64 0) := (blk_cell BK126.out 0).trans rfl; have hcz58_1 : w55.cell? ⟨gb126, 1, none⟩ = some (.int .i64 0) := (blk_cell BK126.out 1).trans rfl; have hfz58_0 := blk_frozen BK126.out 0; have hfz58_1 := blk_frozen BK126.out 1) | ((with_reducible refine gate_store (t := 132) (p := 9) rfl ?_); refine store_event (t := 132) (p := 9) (v := ?vo_w59) (w1 := ((w55.setCell ⟨gb126, 0, none⟩ (.int .i64 ((rd_T132 t122 x66_4).f0))).setCell ⟨gb126, 1, none⟩ (.int .i64 ((rd_T132 t122 x66_4).f1)))) ?hg ?ho ?hn ?hr ?_; (case ho => rfl); (case hg => rfl); (case hn => rfl); (case hr => first | (go_simp; done) | (go_simp; rfl)); intro w59 hw; have n0_ : Aside0 (Kd.V (Kd.int .u8) 5 w59 w.heap.size (fun k_ => (P0_ k_ ∨ w.heap.size ≤ k_) ∧ some k_ ≠ (v108 : Value).ownBlock ∧ some k_ ≠ (.slice (some ad125) t122.length co47 : Value).ownBlock ∧ k_ ≠ gb110 ∧ k_ ≠ gb121 ∧ k_ ≠ gb126) (.slice (some ad111) x0_1.length co11) x0_1) := ⟨(by rw [hw]; exact (by (with_reducible repeat (first | apply Kd.V_alloc | apply Kd.V_drewN | apply Kd.V_drew)); exact Kd.V_mono (Kd.V_far (p := ⟨gb126, 1, none⟩) (Kd.V_far (p := ⟨gb126, 0, none⟩) (Kd.V_mono HO_0.out (fun k_ hk => (⟨hk, hk.2⟩ : _ ∧ k_ ≠ gb126))) (fun _ hk => hk.2) (.int .i64 ((rd_T132 t122 x66_4).f0))) (fun _ hk => hk.2) (.int .i64 ((rd_T132 t122 x66_4).f1))) (fun _ hk => ⟨hk.1.1.1, ⟨hk.1.1.2.1, ⟨hk.1.1.2.2.1, ⟨hk.1.1.2.2.2.1, ⟨hk.1.1.2.2.2.2, hk.1.2⟩⟩⟩⟩⟩)))⟩; have n1_ : Aside0 (Kd.R Kd.bool 4 w59 w.heap.size (fun k_ => (w.heap.size ≤ k_)) v108 x4_4) := ⟨(by rw [hw]; exact (by (with_reducible repeat (first | apply Kd.R_alloc | apply Kd.R_drewN | apply Kd.R_drew)); exact Kd.R_mono (Kd.R_far (p := ⟨gb126, 1, none⟩) (Kd.R_far (p := ⟨gb126, 0, none⟩) (Kd.R_types HO_4.out BK126.out (by decide)) (fun _ hk => hk.2) (.int .i64 ((rd_T132 t122 x66_4).f0))) (fun _ hk => hk.2) (.int .i64 ((rd_T132 t122 x66_4).f1))) (fun _ hk => hk.1)))⟩; have n2_ : Aside0 (Kd.R k132 132 w59 w.heap.size (fun k_ => (w.heap.size ≤ k_) ∧ k_ ≠ gb110 ∧ k_ ≠ gb121 ∧ k_ ≠ gb126) (.slice (some ad125) t122.length co47) t122) := ⟨(by rw [hw]; exact (by (with_reducible repeat (first | apply Kd.R_alloc | apply Kd.R_drewN | apply Kd.R_drew)); exact Kd.R_mono (Kd.R_far (p := ⟨gb126, 1, none⟩) (Kd.R_far (p := ⟨gb126, 0, none⟩) (Kd.R_mono HO_64.out (fun k_ hk => (⟨hk, hk.2⟩ : _ ∧ k_ ≠ gb126))) (fun _ hk => hk.2) (.int .i64 ((rd_T132 t122 x66_4).f0))) (fun _ hk => hk.2) (.int .i64 ((rd_T132 t122 x66_4).f1))) (fun _ hk => ⟨hk.1.1.1, ⟨hk.1.1.2.1, ⟨hk.1.1.2.2, hk.1.2⟩⟩⟩)))⟩; have n3_ : Aside0 (w59.heap[gb110]? = some (.cells #[.int .i64 x111000_1, .int .i64 x111001_1] 132 (0, 0))) := ⟨(by rw [hw]; exact (by (with_reducible repeat (first | refine blk_drewN ?_ _ | refine blk_drew ?_ | refine blk_alloc ?_ _)); refine blk_far ?_ NB110_126.out _; (with_reducible repeat (first | refine blk_drewN ?_ _ | refine blk_drew ?_ | refine blk_alloc ?_ _)); refine blk_far ?_ NB110_126.out _; (with_reducible repeat (first | refine blk_drewN ?_ _ | refine blk_drew ?_ | refine blk_alloc ?_ _)); exact BK110.out))⟩; have n4_ : Aside0 (w59.heap[gb121]? = some (.cells #[.int .i64 (wrap64 (rd x0_1 1)), .int .i64 (wrap64 (rd x0_1 2))] 132 (0, 0))) := ⟨(by rw [hw]; exact (by (with_reducible repeat (first | refine blk_drewN ?_ _ | refine blk_drew ?_ | refine blk_alloc ?_ _)); refine blk_far ?_ NB121_126.out _; (with_reducible repeat (first | refine blk_drewN ?_ _ | refine blk_drew ?_ | refine blk_alloc ?_ _)); refine blk_far ?_ NB121_126.out _; (with_reducible repeat (first | refine blk_drewN ?_ _ | refine blk_drew ?_ | refine blk_alloc ?_ _)); exact BK121.out))⟩; have n5_ : Aside0 (w59.heap[gb126]? = some (.cells #[.int .i64 ((rd_T132 t122 x66_4).f0), .int .i64 ((rd_T132 t122 x66_4).f1)] 132 (0, 0))) := ⟨(by rw [hw]; exact (by (with_reducible repeat (first | refine blk_drewN ?_ _ | refine blk_drew ?_ | refine blk_alloc ?_ _)); refine blk_put (cs := #[.int .i64 ((rd_T132 t122 x66_4).f0), .int .i64 0]) ?_ 1 _ rfl; (with_reducible repeat (first | refine blk_drewN ?_ _ | refine blk_drew ?_ | refine blk_alloc ?_ _)); refine blk_put (cs := #[.int .i64 0, .int .i64 0]) ?_ 0 _ rfl; (with_reducible repeat (first | refine blk_drewN ?_ _ | refine blk_drew ?_ | refine blk_alloc ?_ _)); exact BK126.out))⟩; have n6_ : Aside0 (Below w.heap.size w w59) := ⟨(by rw [hw]; exact (by repeat (first | (with_reducible first | exact HB.out | apply below_alloc | apply pw_below_drewN | apply below_drew1 | refine below_set ?_ GE110.out | refine below_set ?_ GE121.out | refine below_set ?_ GE126.out) | exact HB.out)))⟩; clear hw; clear HO_0; clear HO_4; clear HO_64; clear BK110; clear BK121; clear BK126; clear HB; have HO_0 := n0_; have HO_4 := n1_; have HO_64 := n2_; have BK110 := n3_; have BK121 := n4_; have BK126 := n5_; have HB := n6_; clear n0_ n1_ n2_ n3_ n4_ n5_ n6_; have hcz60_0 : w59.cell? ⟨gb126, 0, none⟩ = some (.int .i64 ((rd_T132 t122 x66_4).f0)) := (blk_cell BK126.out 0).trans rfl; have hcz60_1 : w59.cell? ⟨gb126, 1, none⟩ = some (.int .i64 ((rd_T132 t122 x66_4).f1)) := (blk_cell BK126.out 1).trans rfl; have hfz60_0 := blk_frozen BK126.out 0; have hfz60_1 := blk_frozen BK126.out 1; have p54 : 0 ≤ ((ji51) : Int) := of_decide_eq_true (by first | (with_reducible assumption) | assumption); have q54 : ((ji51) : Int) < ((x4_4.length : Int) : Int) := of_decide_eq_true (by first | (with_reducible assumption) | assumption); obtain ⟨go54, co54, eo54, gb54, gl54, cl54, HG54⟩ := Kd.R_form HO_4.out (by omega); (first | cases eo54 | (injection eo54 with ea_ en_ ec_; (first | subst ea_ | (injection ea_ with ea_; subst ea_)); subst ec_; clear en_)); have GB54 := Aside0.mk gb54; have GG54 := Aside0.mk HG54; clear gb54 gl54 HG54; obtain ⟨hx54_0, hf54_0⟩ := Kd.R_celln false HO_4.out ((ji51) : Int) p54 q54; replace p54 := eq_true p54; replace q54 := eq_true q54; obtain ⟨hy61_, hz61_⟩ := Kd.R_celln false HO_4.out ((ji51) : Int) (of_decide_eq_true (by first | (with_reducible assumption) | assumption)) (of_decide_eq_true (by first | (with_reducible assumption) | assumption)); have HP61 := Kd.R_putg HO_4.out ((ji51) : Int) true) | ((with_reducible refine gate_store (t := 4) (p := 77) rfl ?_); refine store_event (t := 4) (p := 77) (v := ?vo_w62) (w1 := (w59.setCell ⟨go54, ((ji51) : Int).toNat, none⟩ (.bool true))) ?hg ?ho ?hn ?hr ?_; (case ho => rfl); (case hg => rfl); (case hn => rfl); (case hr => first | (go_simp; done) | (go_simp; rfl)); intro w62 hw; have hg : w59.grownBy w62 (some go54) := (by rw [hw]; exact HP61.2); have hp_ : Kd.R Kd.bool 4 w62 w.heap.size (fun k_ => (w.heap.size ≤ k_)) (.slice (some ⟨go54, 0, none⟩) x4_4.length co54) y127 := (by rw [hw, Ny127.out]; exact HP61.1); clear HP61; have n0_ := Aside0.mk (Kd.V_afterv (v := (.slice (some ⟨go54, 0, none⟩) x4_4.length co54)) (v1 := (.slice (some ⟨go54, 0, none⟩) x4_4.length co54)) (ok := (fun k_ => (P0_ k_ ∨ w.heap.size ≤ k_) ∧ some k_ ≠ (.slice (some ad125) t122.length co47 : Value).ownBlock ∧ k_ ≠ gb110 ∧ k_ ≠ gb121 ∧ k_ ≠ gb126)) (by (with_reducible repeat (first | apply Kd.V_alloc | apply Kd.V_drewN | apply Kd.V_drew)); exact Kd.V_mono HO_0.out (fun _ hk => ⟨⟨hk.1, ⟨hk.2.2.1, ⟨hk.2.2.2.1, ⟨hk.2.2.2.2.1, hk.2.2.2.2.2⟩⟩⟩⟩, hk.2.1⟩)) hg (.inl rfl)); have n1_ := Aside0.mk (hp_); have n2_ := Aside0.mk (Kd.R_over' (v := (.slice (some ⟨go54, 0, none⟩) x4_4.length co54)) (by (with_reducible repeat (first | apply Kd.R_alloc | apply Kd.R_drewN | apply Kd.R_drew)); exact HO_64.out) (Kd.R_typed HO_4.out) (by decide) hg); have n3_ := Aside0.mk (blk_grown (g := gb110) (o := .cells #[.int .i64 x111000_1, .int .i64 x111001_1] 132 (0, 0)) (by (with_reducible repeat (first | refine blk_drewN ?_ _ | refine blk_drew ?_ | refine blk_alloc ?_ _)); exact BK110.out) hg (Kd.R_ne HO_4.out BK110.out (by decide))); have n4_ := Aside0.mk (blk_grown (g := gb121) (o := .cells #[.int .i64 (wrap64 (rd x0_1 1)), .int .i64 (wrap64 (rd x0_1 2))] 132 (0, 0)) (by (with_reducible repeat (first | refine blk_drewN ?_ _ | refine blk_drew ?_ | refine blk_alloc ?_ _)); exact BK121.out) hg (Kd.R_ne HO_4.out BK121.out (by decide))); have n5_ := Aside0.mk (blk_grown (g := gb126) (o := .cells #[.int .i64 ((rd_T132 t122 x66_4).f0), .int .i64 ((rd_T132 t122 x66_4).f1)] 132 (0, 0)) (by (with_reducible repeat (first | refine blk_drewN ?_ _ | refine blk_drew ?_ | refine blk_alloc ?_ _)); exact BK126.out) hg (Kd.R_ne HO_4.out BK126.out (by decide))); have n6_ := Aside0.mk ((by rw [hw]; exact below_set (HB.out) GB54.out : Below w.heap.size w w62)); clear HO_0; clear HO_4; clear HO_64; clear BK110; clear BK121; clear BK126; clear HB; have HO_0 := n0_; have HO_4 := n1_; have HO_64 := n2_; have BK110 := n3_; have BK121 := n4_; have BK126 := n5_; have HB := n6_; clear n0_ n1_ n2_ n3_ n4_ n5_ n6_; clear hg hw hp_))
                                                  go_roundg k4
                                                  case measure => have := HK1.out; have := HJ9.out; have := HJ29.out; have := HK4.out; omega
                                                  case rel => exact ⟨(y127), (wrap64 (x66_4 + 1)), (by first | rfl | (simp; done) | (simp [*]; done)), H', ⟨by have := HK1.out; have := HJ9.out; have := HJ29.out; have := HK4.out; omega⟩, ⟨by (with_reducible repeat (first | apply Kd.V_alloc | apply Kd.V_drewN | apply Kd.V_drew)); exact Kd.V_mono HO_0.out (fun _ hk => ⟨hk.1.1, ⟨hk.2, ⟨hk.1.2.1, ⟨hk.1.2.2.1, hk.1.2.2.2.1⟩⟩⟩⟩)⟩, ⟨by (with_reducible repeat (first | apply Kd.R_alloc | apply Kd.R_drewN | apply Kd.R_drew)); exact HO_4.out⟩, ⟨by (with_reducible repeat (first | apply Kd.R_alloc | apply Kd.R_drewN | apply Kd.R_drew)); exact Kd.R_mono HO_64.out (fun _ hk => ⟨hk.1, ⟨hk.2.1, hk.2.2.1⟩⟩)⟩, ⟨by (with_reducible repeat (first | refine blk_drewN ?_ _ | refine blk_drew ?_ | refine blk_alloc ?_ _)); exact BK110.out⟩, ⟨by (with_reducible repeat (first | refine blk_drewN ?_ _ | refine blk_drew ?_ | refine blk_alloc ?_ _)); exact BK121.out⟩, ⟨by repeat (first | (with_reducible first | exact HB.out | apply below_alloc | apply pw_below_drewN | apply below_drew1 | refine below_set ?_ GE110.out | refine below_set ?_ GE121.out | refine below_set ?_ GE126.out) | exact HB.out)⟩⟩
                                                · rw [if_neg c53] at H
                                                  exact absurd H (by simp)
                                              · rw [if_neg c52] at H
                                                exact absurd H (by simp)
                                            · rw [if_neg c50] at H
                                              exact absurd H (by simp)
                                          · rw [if_neg c49] at H
                                            exact absurd H (by simp)
                                        · rw [if_neg c48] at H
                                          have c48b0 : decide (x66_4 < (t122.length : Int)) = false := decide_eq_false c48
                                          clear c48
                                          by_cases c63 : 3 ≤ (x0_1.length : Int)
                                          · rw [if_pos c63] at H
                                            have c63b0 := eq_true c63
                                            have c63b1 : decide (3 ≤ (x0_1.length : Int)) = true := decide_eq_true c63
                                            clear c63
                                            obtain ⟨y128, hy128⟩ : ∃ y_ : List Int, y_ = (x0_1.drop 3) := ⟨_, rfl⟩
                                            replace H : (paper_Plot.l0 k4 y128 x4_4 true (wrap64 (rd x0_1 1)) (wrap64 (rd x0_1 2))) = some (r1, r2) := by first | (rw [hy128]; with_reducible exact H) | (have H2_ := (Option.bind_some _ _).symm.trans H; rw [hy128]; with_reducible exact H2_) | (have H2_ := (Option.bind_some _ _).symm.trans H; with_reducible exact H2_) | with_reducible exact H | (rw [hy128]; exact H) | exact H
                                            have Ny128 := Aside0.mk hy128
                                            clear hy128
                                            have H' := Aside0.mk H
                                            clear H
                                            try go_wp2
                                            have n0_ := Aside0.mk (Kd.V_drew HO_0.out)
                                            have n1_ := Aside0.mk (Kd.R_drew HO_4.out)
                                            have n2_ := Aside0.mk (Kd.R_drew HO_64.out)
                                            have n3_ := Aside0.mk (blk_drew BK110.out)
                                            have n4_ := Aside0.mk (blk_drew BK121.out)
                                            have n5_ := Aside0.mk (below_drew1 HB.out)
                                            clear HO_0
                                            clear HO_4
                                            clear HO_64
                                            clear BK110
                                            clear BK121
                                            clear HB
                                            have HO_0 := n0_
                                            have HO_4 := n1_
                                            have HO_64 := n2_
                                            have BK110 := n3_
                                            have BK121 := n4_
                                            have HB := n5_
                                            clear n0_ n1_ n2_ n3_ n4_ n5_
                                            have q65 : (3 : Int) ≤ ((x0_1.length : Int) : Int) := of_decide_eq_true (by first | (with_reducible assumption) | assumption)
                                            obtain ⟨i065, hi065, _, hsz65, _⟩ := info_parts info5
                                            have hroom65 : x0_1.length ≤ co11 := (Kd.V_reads' HO_0.out).2.1
                                            have hC65 : Kd.F (Kd.int .u8) _ _ (some ad111) x0_1.length x0_1 := (Kd.V_at (base := w.heap.size) HO_0.out).2.2
                                            have hcut65 := cut_from (P := Try.prog) 73 5 .i64 Try.underlying73 hi065 1 hsz65 (some ad111) x0_1.length co11 3 (by omega) q65
                                            have hr65 := Kd.F_cut (m := (3 : Int).toNat) (c := co11) hC65 (by omega) hroom65
                                            obtain ⟨A65, hA65⟩ : ∃ A1, A1 = (if co11 = (3 : Int).toNat then (some ad111) else ((some ad111) : Option Addr).map (·.add ((3 : Int).toNat * 1))) := ⟨_, rfl⟩
                                            obtain ⟨c65, hc65⟩ : ∃ c1, c1 = co11 - (3 : Int).toNat := ⟨_, rfl⟩
                                            have hy65 : y128.length = x0_1.length - (3 : Int).toNat := (by rw [Ny128.out, List.length_drop] <;> omega)
                                            rw [show (x0_1).drop (3 : Int).toNat = y128 from Ny128.out.symm] at hr65
                                            replace hr65 : Kd.F (Kd.int .u8) _ _ A65 y128.length y128 := (by rw [hA65]; exact hr65)
                                            rw [← hy65, ← hA65, ← hc65] at hcut65
                                            have HO132 := Aside0.mk (show Kd.V (Kd.int .u8) 5 _ w.heap.size _ (.slice A65 y128.length c65) y128 from Kd.V_mk (by rw [hy65, hc65]; exact Nat.sub_le_sub_right hroom65 _) hr65)
                                            have HC132 := Aside0.mk (show y128.length ≤ c65 from by rw [hy65, hc65]; exact Nat.sub_le_sub_right hroom65 _)
                                            clear hr65 hC65 hroom65 hi065 hsz65 hc65
                                            have KY65 := Aside0.mk hy65
                                            have KA65 := Aside0.mk hA65
                                            clear hy65 hA65
                                            replace q65 := eq_true q65
                                            refine start_ (n := 5) (S := fun w' => w'.cell? ⟨gb121, 0, none⟩ = some (.int .i64 (wrap64 (rd x0_1 1))) ∧ w'.cell? ⟨gb121, 1, none⟩ = some (.int .i64 (wrap64 (rd x0_1 2)))) (ds := []) #[false, false, false, false, false] (by kernel_rfl) rfl rfl ⟨(blk_cell BK121.out 0).trans rfl, (blk_cell BK121.out 1).trans rfl⟩ (fun hHeld => ?_)
                                            generalize wr.drew = w64 at HO_0 HO_4 HO_64 BK110 BK121 HB HO132 hHeld ⊢
                                            refine pure_ (i := 1) (N := some 80) (v := ?_) (a' := ?_) #[false, true, false, false, false] rfl rfl (by kernel_rfl) (fun _ _ _ h => h) (Or.inl ⟨by rfl, ?_⟩) ?_ ?_
                                            rotate_left
                                            · intro w'
                                              go_simp
                                              with_reducible rfl
                                            rotate_left
                                            · simp only [Act.put, List.setIfInBounds_toArray, List.set_cons_zero, List.set_cons_succ, i64_w, i32_w]
                                              rfl
                                            refine pure_ (i := 2) (N := some 81) (v := ?_) (a' := ?_) #[false, true, true, false, false] rfl rfl (by kernel_rfl) (fun _ _ _ h => h) (Or.inl ⟨by rfl, ?_⟩) ?_ ?_
                                            rotate_left
                                            · intro w'
                                              go_simp
                                              with_reducible rfl
                                            rotate_left
                                            · simp only [Act.put, List.setIfInBounds_toArray, List.set_cons_zero, List.set_cons_succ, i64_w, i32_w]
                                              rfl
                                            refine take_ (i := 0) (N := some 79) (v := ?_) (a' := ?_) #[true, true, true, false, false] rfl rfl (by kernel_rfl) (fun _ _ _ h => h) (Or.inl ⟨by rfl, ?_⟩) hHeld ?_ ?_
                                            rotate_left
                                            · rintro w' ⟨s0, s1⟩
                                              go_simp
                                              with_reducible rfl
                                            rotate_left
                                            · simp only [Act.put, List.setIfInBounds_toArray, List.set_cons_zero, List.set_cons_succ, i64_w, i32_w]
                                              rfl
                                            refine one_ (i := 3) (N := none) #[true, true, true, true, false] rfl rfl (by kernel_rfl) (by decide) (fun K hK => ?_)
                                            have hs66 : w64.cell? ⟨gb110, 0, none⟩ = some (.int .i64 x111000_1) := (blk_cell BK110.out 0).trans rfl
                                            have hfs66 := blk_frozen BK110.out 0
                                            have hns66_1 := NB121_110.out
                                            have hms66_1 := NB110_121.out
                                            have hs67 : w64.cell? ⟨gb110, 1, none⟩ = some (.int .i64 x111001_1) := (blk_cell BK110.out 1).trans rfl
                                            have hfs67 := blk_frozen BK110.out 1
                                            have hns67_1 := NB121_110.out
                                            have hms67_1 := NB110_121.out
                                            refine skip_ (w1 := ?_) (by rfl) rfl ?_ ?_
                                            rotate_left
                                            · go_simp
                                              rfl
                                            refine hK.out _ _ ⟨((cell_far (p := ⟨gb110, _, none⟩) NB121_110.out _).trans (((cell_far (p := ⟨gb110, _, none⟩) NB121_110.out _).trans (hHeld.1)))), ((cell_far (p := ⟨gb110, _, none⟩) NB121_110.out _).trans (((cell_far (p := ⟨gb110, _, none⟩) NB121_110.out _).trans (hHeld.2))))⟩ (fun hHeld => ?_)
                                            clear hK K
                                            refine pure_ (i := 4) (N := some 0) (v := ?_) (a' := ?_) #[true, true, true, true, true] rfl rfl (by kernel_rfl) (fun _ _ _ h => h) (Or.inl ⟨by rfl, ?_⟩) ?_ ?_
                                            rotate_left
                                            · intro w'
                                              go_simp
                                              with_reducible rfl
                                            rotate_left
                                            · simp only [Act.put, List.setIfInBounds_toArray, List.set_cons_zero, List.set_cons_succ, i64_w, i32_w]
                                              rfl
                                            refine done_ (by kernel_rfl) ?_
                                            try go_wp2
                                            go_roundg k4
                                            case measure => have := HK1.out; have := HJ9.out; have := HJ29.out; have := HK4.out; omega
                                            case rel => exact ⟨(y128), (x4_4), (true), ((wrap64 (rd x0_1 1))), ((wrap64 (rd x0_1 2))), (by first | rfl | (simp; done) | (simp [*]; done)), H', ⟨by have := HK1.out; have := HJ9.out; have := HJ29.out; have := HK4.out; omega⟩, ⟨by (with_reducible repeat (first | apply Kd.V_alloc | apply Kd.V_drewN | apply Kd.V_drew)); exact Kd.V_mono (Kd.V_far (p := ⟨gb110, 1, none⟩) (Kd.V_far (p := ⟨gb110, 0, none⟩) (Kd.V_mono HO132.out (fun k_ hk => (⟨hk, hk.2.2.2.1⟩ : _ ∧ k_ ≠ gb110))) (fun _ hk => hk.2) (.int .i64 (wrap64 (rd x0_1 1)))) (fun _ hk => hk.2) (.int .i64 (wrap64 (rd x0_1 2)))) (fun _ hk => ⟨hk.1.1, ⟨hk.1.2.1, hk.1.2.2.2.1⟩⟩)⟩, ⟨by (with_reducible repeat (first | apply Kd.R_alloc | apply Kd.R_drewN | apply Kd.R_drew)); exact Kd.R_mono (Kd.R_far (p := ⟨gb110, 1, none⟩) (Kd.R_far (p := ⟨gb110, 0, none⟩) (Kd.R_types HO_4.out BK110.out (by decide)) (fun _ hk => hk.2) (.int .i64 (wrap64 (rd x0_1 1)))) (fun _ hk => hk.2) (.int .i64 (wrap64 (rd x0_1 2)))) (fun _ hk => hk.1)⟩, ⟨by (with_reducible repeat (first | refine blk_drewN ?_ _ | refine blk_drew ?_ | refine blk_alloc ?_ _)); refine blk_put (cs := #[.int .i64 (wrap64 (rd x0_1 1)), .int .i64 x111001_1]) ?_ 1 _ rfl; (with_reducible repeat (first | refine blk_drewN ?_ _ | refine blk_drew ?_ | refine blk_alloc ?_ _)); refine blk_put (cs := #[.int .i64 x111000_1, .int .i64 x111001_1]) ?_ 0 _ rfl; (with_reducible repeat (first | refine blk_drewN ?_ _ | refine blk_drew ?_ | refine blk_alloc ?_ _)); exact BK110.out⟩, ⟨by repeat (first | (with_reducible first | exact HB.out | apply below_alloc | apply pw_below_drewN | apply below_drew1 | refine below_set ?_ GE110.out | refine below_set ?_ GE121.out) | exact HB.out)⟩⟩
                                          · rw [if_neg c63] at H
                                            exact absurd H (by simp)
                                  · replace c41 := Bool.eq_false_iff.mpr c41
                                    subst c41
                                    have H1 : (if 3 ≤ (x0_1.length : Int) then (paper_Plot.l0 kj29 (x0_1.drop 3) x4_1 false (wrap64 (rd x0_1 1)) (wrap64 (rd x0_1 2))) else (none)) = some (r1, r2) := by rw [if_neg (show ¬ (false = true) by decide)] at H; exact H
                                    clear H
                                    have H := H1
                                    clear H1
                                    by_cases c68 : 3 ≤ (x0_1.length : Int)
                                    · rw [if_pos c68] at H
                                      have c68b0 := eq_true c68
                                      have c68b1 : decide (3 ≤ (x0_1.length : Int)) = true := decide_eq_true c68
                                      clear c68
                                      obtain ⟨y133, hy133⟩ : ∃ y_ : List Int, y_ = (x0_1.drop 3) := ⟨_, rfl⟩
                                      replace H : (paper_Plot.l0 kj29 y133 x4_1 false (wrap64 (rd x0_1 1)) (wrap64 (rd x0_1 2))) = some (r1, r2) := by first | (rw [hy133]; with_reducible exact H) | (have H2_ := (Option.bind_some _ _).symm.trans H; rw [hy133]; with_reducible exact H2_) | (have H2_ := (Option.bind_some _ _).symm.trans H; with_reducible exact H2_) | with_reducible exact H | (rw [hy133]; exact H) | exact H
                                      have Ny133 := Aside0.mk hy133
                                      clear hy133
                                      have H' := Aside0.mk H
                                      clear H
                                      try go_wp2
                                      have n0_ := Aside0.mk (Kd.V_drew HO_0.out)
                                      have n1_ := Aside0.mk (Kd.R_drew HO_4.out)
                                      have n2_ := Aside0.mk (blk_drew BK110.out)
                                      have n3_ := Aside0.mk (blk_drew BK121.out)
                                      have n4_ := Aside0.mk (below_drew1 HB.out)
                                      clear HO_0
                                      clear HO_4
                                      clear BK110
                                      clear BK121
                                      clear HB
                                      have HO_0 := n0_
                                      have HO_4 := n1_
                                      have BK110 := n2_
                                      have BK121 := n3_
                                      have HB := n4_
                                      clear n0_ n1_ n2_ n3_ n4_
                                      have q70 : (3 : Int) ≤ ((x0_1.length : Int) : Int) := of_decide_eq_true (by first | (with_reducible assumption) | assumption)
                                      obtain ⟨i070, hi070, _, hsz70, _⟩ := info_parts info5
                                      have hroom70 : x0_1.length ≤ co11 := (Kd.V_reads' HO_0.out).2.1
                                      have hC70 : Kd.F (Kd.int .u8) _ _ (some ad111) x0_1.length x0_1 := (Kd.V_at (base := w.heap.size) HO_0.out).2.2
                                      have hcut70 := cut_from (P := Try.prog) 73 5 .i64 Try.underlying73 hi070 1 hsz70 (some ad111) x0_1.length co11 3 (by omega) q70
                                      have hr70 := Kd.F_cut (m := (3 : Int).toNat) (c := co11) hC70 (by omega) hroom70
                                      obtain ⟨A70, hA70⟩ : ∃ A1, A1 = (if co11 = (3 : Int).toNat then (some ad111) else ((some ad111) : Option Addr).map (·.add ((3 : Int).toNat * 1))) := ⟨_, rfl⟩
                                      obtain ⟨c70, hc70⟩ : ∃ c1, c1 = co11 - (3 : Int).toNat := ⟨_, rfl⟩
                                      have hy70 : y133.length = x0_1.length - (3 : Int).toNat := (by rw [Ny133.out, List.length_drop] <;> omega)
                                      rw [show (x0_1).drop (3 : Int).toNat = y133 from Ny133.out.symm] at hr70
                                      replace hr70 : Kd.F (Kd.int .u8) _ _ A70 y133.length y133 := (by rw [hA70]; exact hr70)
                                      rw [← hy70, ← hA70, ← hc70] at hcut70
                                      have HO137 := Aside0.mk (show Kd.V (Kd.int .u8) 5 _ w.heap.size _ (.slice A70 y133.length c70) y133 from Kd.V_mk (by rw [hy70, hc70]; exact Nat.sub_le_sub_right hroom70 _) hr70)
                                      have HC137 := Aside0.mk (show y133.length ≤ c70 from by rw [hy70, hc70]; exact Nat.sub_le_sub_right hroom70 _)
                                      clear hr70 hC70 hroom70 hi070 hsz70 hc70
                                      have KY70 := Aside0.mk hy70
                                      have KA70 := Aside0.mk hA70
                                      clear hy70 hA70
                                      replace q70 := eq_true q70
                                      refine start_ (n := 5) (S := fun w' => w'.cell? ⟨gb121, 0, none⟩ = some (.int .i64 (wrap64 (rd x0_1 1))) ∧ w'.cell? ⟨gb121, 1, none⟩ = some (.int .i64 (wrap64 (rd x0_1 2)))) (ds := []) #[false, false, false, false, false] (by kernel_rfl) rfl rfl ⟨(blk_cell BK121.out 0).trans rfl, (blk_cell BK121.out 1).trans rfl⟩ (fun hHeld => ?_)
                                      generalize wc.drew = w69 at HO_0 HO_4 BK110 BK121 HB HO137 hHeld ⊢
                                      refine pure_ (i := 1) (N := some 80) (v := ?_) (a' := ?_) #[false, true, false, false, false] rfl rfl (by kernel_rfl) (fun _ _ _ h => h) (Or.inl ⟨by rfl, ?_⟩) ?_ ?_
                                      rotate_left
                                      · intro w'
                                        go_simp
                                        with_reducible rfl
                                      rotate_left
                                      · simp only [Act.put, List.setIfInBounds_toArray, List.set_cons_zero, List.set_cons_succ, i64_w, i32_w]
                                        rfl
                                      refine pure_ (i := 2) (N := some 81) (v := ?_) (a' := ?_) #[false, true, true, false, false] rfl rfl (by kernel_rfl) (fun _ _ _ h => h) (Or.inl ⟨by rfl, ?_⟩) ?_ ?_
                                      rotate_left
                                      · intro w'
                                        go_simp
                                        with_reducible rfl
                                      rotate_left
                                      · simp only [Act.put, List.setIfInBounds_toArray, List.set_cons_zero, List.set_cons_succ, i64_w, i32_w]
                                        rfl
                                      refine take_ (i := 0) (N := some 79) (v := ?_) (a' := ?_) #[true, true, true, false, false] rfl rfl (by kernel_rfl) (fun _ _ _ h => h) (Or.inl ⟨by rfl, ?_⟩) hHeld ?_ ?_
                                      rotate_left
                                      · rintro w' ⟨s0, s1⟩
                                        go_simp
                                        with_reducible rfl
                                      rotate_left
                                      · simp only [Act.put, List.setIfInBounds_toArray, List.set_cons_zero, List.set_cons_succ, i64_w, i32_w]
                                        rfl
                                      refine one_ (i := 3) (N := none) #[true, true, true, true, false] rfl rfl (by kernel_rfl) (by decide) (fun K hK => ?_)
                                      have hs71 : w69.cell? ⟨gb110, 0, none⟩ = some (.int .i64 x111000_1) := (blk_cell BK110.out 0).trans rfl
                                      have hfs71 := blk_frozen BK110.out 0
                                      have hns71_1 := NB121_110.out
                                      have hms71_1 := NB110_121.out
                                      have hs72 : w69.cell? ⟨gb110, 1, none⟩ = some (.int .i64 x111001_1) := (blk_cell BK110.out 1).trans rfl
                                      have hfs72 := blk_frozen BK110.out 1
                                      have hns72_1 := NB121_110.out
                                      have hms72_1 := NB110_121.out
                                      refine skip_ (w1 := ?_) (by rfl) rfl ?_ ?_
                                      rotate_left
                                      · go_simp
                                        rfl
                                      refine hK.out _ _ ⟨((cell_far (p := ⟨gb110, _, none⟩) NB121_110.out _).trans (((cell_far (p := ⟨gb110, _, none⟩) NB121_110.out _).trans (hHeld.1)))), ((cell_far (p := ⟨gb110, _, none⟩) NB121_110.out _).trans (((cell_far (p := ⟨gb110, _, none⟩) NB121_110.out _).trans (hHeld.2))))⟩ (fun hHeld => ?_)
                                      clear hK K
                                      refine pure_ (i := 4) (N := some 0) (v := ?_) (a' := ?_) #[true, true, true, true, true] rfl rfl (by kernel_rfl) (fun _ _ _ h => h) (Or.inl ⟨by rfl, ?_⟩) ?_ ?_
                                      rotate_left
                                      · intro w'
                                        go_simp
                                        with_reducible rfl
                                      rotate_left
                                      · simp only [Act.put, List.setIfInBounds_toArray, List.set_cons_zero, List.set_cons_succ, i64_w, i32_w]
                                        rfl
                                      refine done_ (by kernel_rfl) ?_
                                      try go_wp2
                                      go_roundg kj29
                                      case measure => have := HK1.out; have := HJ9.out; have := HJ29.out; omega
                                      case rel => exact ⟨(y133), (x4_1), (false), ((wrap64 (rd x0_1 1))), ((wrap64 (rd x0_1 2))), (by first | rfl | (simp; done) | (simp [*]; done)), H', ⟨by have := HK1.out; have := HJ9.out; have := HJ29.out; omega⟩, ⟨by (with_reducible repeat (first | apply Kd.V_alloc | apply Kd.V_drewN | apply Kd.V_drew)); exact Kd.V_mono (Kd.V_far (p := ⟨gb110, 1, none⟩) (Kd.V_far (p := ⟨gb110, 0, none⟩) (Kd.V_mono HO137.out (fun k_ hk => (⟨hk, hk.2.2.1⟩ : _ ∧ k_ ≠ gb110))) (fun _ hk => hk.2) (.int .i64 (wrap64 (rd x0_1 1)))) (fun _ hk => hk.2) (.int .i64 (wrap64 (rd x0_1 2)))) (fun _ hk => ⟨hk.1.1, ⟨hk.1.2.1, hk.1.2.2.1⟩⟩)⟩, ⟨by (with_reducible repeat (first | apply Kd.R_alloc | apply Kd.R_drewN | apply Kd.R_drew)); exact Kd.R_mono (Kd.R_far (p := ⟨gb110, 1, none⟩) (Kd.R_far (p := ⟨gb110, 0, none⟩) (Kd.R_types HO_4.out BK110.out (by decide)) (fun _ hk => hk.2) (.int .i64 (wrap64 (rd x0_1 1)))) (fun _ hk => hk.2) (.int .i64 (wrap64 (rd x0_1 2)))) (fun _ hk => hk.1)⟩, ⟨by (with_reducible repeat (first | refine blk_drewN ?_ _ | refine blk_drew ?_ | refine blk_alloc ?_ _)); refine blk_put (cs := #[.int .i64 (wrap64 (rd x0_1 1)), .int .i64 x111001_1]) ?_ 1 _ rfl; (with_reducible repeat (first | refine blk_drewN ?_ _ | refine blk_drew ?_ | refine blk_alloc ?_ _)); refine blk_put (cs := #[.int .i64 x111000_1, .int .i64 x111001_1]) ?_ 0 _ rfl; (with_reducible repeat (first | refine blk_drewN ?_ _ | refine blk_drew ?_ | refine blk_alloc ?_ _)); exact BK110.out⟩, ⟨by repeat (first | (with_reducible first | exact HB.out | apply below_alloc | apply pw_below_drewN | apply below_drew1 | refine below_set ?_ GE110.out | refine below_set ?_ GE121.out) | exact HB.out)⟩⟩
                                    · rw [if_neg c68] at H
                                      exact absurd H (by simp)
                          · rw [if_neg c29] at H
                            exact absurd H (by simp)
                        · rw [if_neg c28] at H
                          exact absurd H (by simp)
                    · rw [if_neg c26] at H
                      have c26b0 : ((rd x0_1 0) == 109) = false := beq_eq_false_iff_ne.mpr c26
                      have c26b1 : ((rd x0_1 0) != 109) = true := bne_iff_ne.mpr c26
                      simp only [Option.some.injEq, Prod.mk.injEq] at H
                      obtain ⟨rfl, rfl⟩ := H
                      go_wp2
                      go_ret2
                      exact ⟨_, by first | rfl | (simp [errW_none, errW_some] <;> rfl) | (simp [*, errW_none, errW_some] <;> rfl), by first | exact Kd.R_nil _ _ _ _ _ | exact Kd.N_nil _ _ _ _ _ | exact Kd.V_nil _ _ _ _ _ | exact Kd.Q_nil _ _ _ _ _ | exact Kd.S_nil _ _ _ _ _, by repeat (first | (with_reducible first | exact HB.out | apply below_alloc | apply pw_below_drewN | apply below_drew1 | refine below_set ?_ GE110.out) | exact HB.out)⟩
            · rw [if_neg c9] at H
              exact absurd H (by simp)
          · rw [if_neg c8] at H
            have c8b0 : decide (0 < (x0_1.length : Int)) = false := decide_eq_false c8
            have c8b1 : decide (0 < x0_1.length) = false := decide_eq_false (by omega)
            clear c8
            simp only [Option.some.injEq, Prod.mk.injEq] at H
            obtain ⟨rfl, rfl⟩ := H
            obtain ⟨Ao73, co73, eo73⟩ := Kd.V_slice HO_0.out
            subst eo73
            go_wp2
            go_ret2
            exact ⟨_, by first | rfl | (simp [errW_none, errW_some] <;> rfl) | (simp [*, errW_none, errW_some] <;> rfl), by (with_reducible repeat (first | apply Kd.R_alloc | apply Kd.R_drewN | apply Kd.R_drew)); exact HO_4.out, by repeat (first | (with_reducible first | exact HB.out | apply below_alloc | apply pw_below_drewN | apply below_drew1 | refine below_set ?_ GE110.out) | exact HB.out)⟩
    · rw [if_neg c3] at H
      exact absurd H (by simp)

end Go.Proofs.Ytijfinimlnedpaa.PPap
