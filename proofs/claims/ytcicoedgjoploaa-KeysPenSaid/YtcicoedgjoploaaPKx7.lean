-- An own text of this claim, written by wip/tools/surro.py over the kit's print.
import Derived.Test.YtcicoedgjoploaaPKx0
import Derived.Test.YtcicoedgjoploaaPKx4
import Derived.Test.YtcicoedgjoploaaPKx5
namespace Go.Proofs.Ytcicoedgjoploaa.PK
open Go.RowKit Go.Proofs.YtcicoedgjoploaaW.PrintWords Go.Proofs.YtcicoedgjoploaaW.PrintLast Go.Proofs.YtcicoedgjoploaaW.PrintMore
attribute [local go_sem] max2_int min2_int max_two min_two max_three min_three max_four min_four   -- for this text's walks alone
set_option linter.unusedVariables false
set_option linter.unusedSimpArgs false

/-! ### keys_Board: function 66 -/
mutual
def keys_Board.l0 : Nat → ByteArray → List (S114) → List Int → List (S114) → Int → Int → Option ((List (S62)) × Int)
  | 0, _, _, _, _, _, _ => none
  | k + 1, x0, x1, x6, x14, x15, x16 => if x16 < x15 then (if 0 ≤ x16 then (if x16 < (x14.length : Int) then (if x6.length < 17592186044416 then (keys_Board.l0 k x0 x1 (x6 ++ [(rd_T114 x14 x16).f0]) x14 x15 (wrap64 (x16 + 1))) else (none)) else (none)) else (none)) else ((keys_times.f k x6).bind fun t155 => (if t155 = 0 then (keys_Board.l1 k x0 x6 ([] : List Int) 0 x1 (x1.length : Int) 0) else (some (([] : List (S62)), t155))))
def keys_Board.l1 : Nat → ByteArray → List Int → List Int → Int → List (S114) → Int → Int → Option ((List (S62)) × Int)
  | 0, _, _, _, _, _, _, _ => none
  | k + 1, x0, x6, x7, x11, x31, x32, x33 => if x33 < x32 then (if 0 ≤ x33 then (if x33 < (x31.length : Int) then (if ((rd_T114 x31 x33).f1) < 0 then (keys_Board.j2 k x0 x6 x7 x11 x31 x32 x33 true ((rd_T114 x31 x33).f0) ((rd_T114 x31 x33).f1) ((rd_T114 x31 x33).f2)) else (keys_Board.j2 k x0 x6 x7 x11 x31 x32 x33 (decide (((rd_T114 x31 x33).f1) > 7)) ((rd_T114 x31 x33).f0) ((rd_T114 x31 x33).f1) ((rd_T114 x31 x33).f2))) else (none)) else (none)) else ((keys_inputs.f k x0 x6 x7).bind fun t156 => (some (t156, 0)))
def keys_Board.j2 : Nat → ByteArray → List Int → List Int → Int → List (S114) → Int → Int → Bool → Int → Int → Bool → Option ((List (S62)) × Int)
  | 0, _, _, _, _, _, _, _, _, _, _, _ => none
  | k + 1, x0, x6, x7, x11, x31, x32, x33, x44, x161000, x161001, x161002 => if x44 = true then (some (([] : List (S62)), 4)) else (if 0 ≤ x161001 then (if x161002 = true then (if x7.length < 17592186044416 then (keys_Board.l1 k x0 x6 (x7 ++ [Go.bits .or .i64 (Go.bits .andNot .i64 x11 (shl .i64 1 x161001)) (shl .i64 1 x161001)]) (Go.bits .or .i64 (Go.bits .andNot .i64 x11 (shl .i64 1 x161001)) (shl .i64 1 x161001)) x31 x32 (wrap64 (x33 + 1))) else (none)) else (if x7.length < 17592186044416 then (keys_Board.l1 k x0 x6 (x7 ++ [Go.bits .andNot .i64 x11 (shl .i64 1 x161001)]) (Go.bits .andNot .i64 x11 (shl .i64 1 x161001)) x31 x32 (wrap64 (x33 + 1))) else (none))) else (none))
end
def keys_Board.f (k : Nat) (a0 : ByteArray) (l1 : List (S114)) : Option ((List (S62)) × Int) := keys_Board.l0 k a0 l1 ([] : List Int) l1 (l1.length : Int) 0
theorem keys_Board.mono_l : ∀ k, (∀ y0 y1 y2 y3 y4 y5, LeO (keys_Board.l0 k y0 y1 y2 y3 y4 y5) (keys_Board.l0 (k + 1) y0 y1 y2 y3 y4 y5)) ∧ (∀ y0 y1 y2 y3 y4 y5 y6, LeO (keys_Board.l1 k y0 y1 y2 y3 y4 y5 y6) (keys_Board.l1 (k + 1) y0 y1 y2 y3 y4 y5 y6)) ∧ (∀ y0 y1 y2 y3 y4 y5 y6 y7 y8 y9 y10, LeO (keys_Board.j2 k y0 y1 y2 y3 y4 y5 y6 y7 y8 y9 y10) (keys_Board.j2 (k + 1) y0 y1 y2 y3 y4 y5 y6 y7 y8 y9 y10))
  | 0 => ⟨fun _ _ _ _ _ _ r h => by simp [keys_Board.l0] at h, fun _ _ _ _ _ _ _ r h => by simp [keys_Board.l1] at h, fun _ _ _ _ _ _ _ _ _ _ _ r h => by simp [keys_Board.j2] at h⟩
  | k + 1 => by
    obtain ⟨ih0, ih1, ih2⟩ := keys_Board.mono_l k
    refine ⟨?_, ?_, ?_⟩
    · intro y0 y1 y2 y3 y4 y5
      unfold keys_Board.l0
      repeat' first
      | (with_reducible exact ih0 _ _ _ _ _ _)
      | (with_reducible exact ih1 _ _ _ _ _ _ _)
      | (with_reducible exact ih2 _ _ _ _ _ _ _ _ _ _ _)
      | (with_reducible exact keys_inputs.mono _ _ _ _)
      | (with_reducible exact keys_times.mono _ _)
      | (with_reducible exact LeO.refl _)
      | (with_reducible exact LeO.none _)
      | (with_reducible refine LeO.ite ?_ ?_)
      | (with_reducible refine LeO.bind ?_ (fun _ => ?_))
      | exact ih0 _ _ _ _ _ _
      | exact ih1 _ _ _ _ _ _ _
      | exact ih2 _ _ _ _ _ _ _ _ _ _ _
      | exact keys_inputs.mono _ _ _ _
      | exact keys_times.mono _ _
      | exact LeO.none _
      | refine LeO.ite ?_ ?_
      | refine LeO.bind ?_ (fun _ => ?_)
    · intro y0 y1 y2 y3 y4 y5 y6
      unfold keys_Board.l1
      repeat' first
      | (with_reducible exact ih0 _ _ _ _ _ _)
      | (with_reducible exact ih1 _ _ _ _ _ _ _)
      | (with_reducible exact ih2 _ _ _ _ _ _ _ _ _ _ _)
      | (with_reducible exact keys_inputs.mono _ _ _ _)
      | (with_reducible exact keys_times.mono _ _)
      | (with_reducible exact LeO.refl _)
      | (with_reducible exact LeO.none _)
      | (with_reducible refine LeO.ite ?_ ?_)
      | (with_reducible refine LeO.bind ?_ (fun _ => ?_))
      | exact ih0 _ _ _ _ _ _
      | exact ih1 _ _ _ _ _ _ _
      | exact ih2 _ _ _ _ _ _ _ _ _ _ _
      | exact keys_inputs.mono _ _ _ _
      | exact keys_times.mono _ _
      | exact LeO.none _
      | refine LeO.ite ?_ ?_
      | refine LeO.bind ?_ (fun _ => ?_)
    · intro y0 y1 y2 y3 y4 y5 y6 y7 y8 y9 y10
      unfold keys_Board.j2
      repeat' first
      | (with_reducible exact ih0 _ _ _ _ _ _)
      | (with_reducible exact ih1 _ _ _ _ _ _ _)
      | (with_reducible exact ih2 _ _ _ _ _ _ _ _ _ _ _)
      | (with_reducible exact keys_inputs.mono _ _ _ _)
      | (with_reducible exact keys_times.mono _ _)
      | (with_reducible exact LeO.refl _)
      | (with_reducible exact LeO.none _)
      | (with_reducible refine LeO.ite ?_ ?_)
      | (with_reducible refine LeO.bind ?_ (fun _ => ?_))
      | exact ih0 _ _ _ _ _ _
      | exact ih1 _ _ _ _ _ _ _
      | exact ih2 _ _ _ _ _ _ _ _ _ _ _
      | exact keys_inputs.mono _ _ _ _
      | exact keys_times.mono _ _
      | exact LeO.none _
      | refine LeO.ite ?_ ?_
      | refine LeO.bind ?_ (fun _ => ?_)
theorem keys_Board.mono : ∀ a0 a1 k, LeO (keys_Board.f k a0 a1) (keys_Board.f (k + 1) a0 a1) := by
  intro a0 a1 k
  obtain ⟨ih0, ih1, ih2⟩ := keys_Board.mono_l k
  unfold keys_Board.f
  repeat' first
      | (with_reducible exact ih0 _ _ _ _ _ _)
      | (with_reducible exact ih1 _ _ _ _ _ _ _)
      | (with_reducible exact ih2 _ _ _ _ _ _ _ _ _ _ _)
      | (with_reducible exact keys_inputs.mono _ _ _ _)
      | (with_reducible exact keys_times.mono _ _)
      | (with_reducible exact LeO.refl _)
      | (with_reducible exact LeO.none _)
      | (with_reducible refine LeO.ite ?_ ?_)
      | (with_reducible refine LeO.bind ?_ (fun _ => ?_))
      | exact ih0 _ _ _ _ _ _
      | exact ih1 _ _ _ _ _ _ _
      | exact ih2 _ _ _ _ _ _ _ _ _ _ _
      | exact keys_inputs.mono _ _ _ _
      | exact keys_times.mono _ _
      | exact LeO.none _
      | refine LeO.ite ?_ ?_
      | refine LeO.bind ?_ (fun _ => ?_)
set_option maxHeartbeats 8000000 in
set_option maxRecDepth 100000 in
theorem keys_Board.calls (k : Nat) (a0 : ByteArray) (A1 : Option Addr) (c1 : Nat) (l1 : List (S114)) (r1 : List (S62)) (r2 : Int) (w : World) (hr1 : Kd.C k114 w A1 l1.length l1) (hc1 : l1.length ≤ c1) (h : keys_Board.f k a0 l1 = some (r1, r2)) :
    Calls Try.prog 66 #[.string a0, .slice A1 l1.length c1] w fun e w' => ∃ v0_ : Value, e = .returned (.tuple #[v0_, .int .i64 r2]) ∧ Kd.R k62 62 w' w.heap.size (fun _ => True) v0_ r1 ∧ Below w.heap.size w w' := by
  have hu114 := Try.underlying114
  have HR1 := Aside0.mk hr1
  have HC1 := Aside0.mk hc1
  clear hr1 hc1
  have HB := Aside0.mk (Below.refl w.heap.size w)
  have H : (keys_Board.l0 k a0 l1 ([] : List Int) l1 (l1.length : Int) 0) = some (r1, r2) := h
  clear h
  have H' := Aside0.mk H
  clear H
  go_enter Try.func66, Try.ntmps66
  go_wp2
  go_loopg [6, 16] k (fun kq v6 v16 w' => ∃ (x6_1 : List Int) (x16_1 : Int), v16 = .int .i64 x16_1 ∧ Aside0 (keys_Board.l0 kq a0 l1 x6_1 l1 (l1.length : Int) x16_1 = some (r1, r2)) ∧ Aside0 (kq ≤ k) ∧ Aside0 (Kd.R (Kd.int .i64) 3 w' w.heap.size (fun _ => True) v6 x6_1) ∧ Aside0 (Below w.heap.size w w'))
  case atStart => exact ⟨(([] : List Int)), (0), (by first | rfl | (simp; done) | (simp [*]; done)), H', ⟨Nat.le_refl _⟩, ⟨by first | exact Kd.R_nil _ _ _ _ _ | exact Kd.N_nil _ _ _ _ _ | exact Kd.V_nil _ _ _ _ _ | exact Kd.Q_nil _ _ _ _ _ | exact Kd.S_nil _ _ _ _ _⟩, ⟨by repeat (first | (with_reducible first | exact HB.out | apply below_alloc | apply pw_below_drewN | apply below_drew1) | exact HB.out)⟩⟩
  case round =>
    clear H'
    try clear c1
    try clear p2
    obtain ⟨x6_1, x16_1, rfl, HA, HK1, HO_6, HB⟩ := hrel
    cases gk with
    | zero => exact absurd HA.out (by simp [keys_Board.l0])
    | succ k1 =>
      have H := HA.out
      clear HA
      simp only [keys_Board.l0] at H
      by_cases c3 : x16_1 < (l1.length : Int)
      · rw [if_pos c3] at H
        have c3b0 : decide (x16_1 < (l1.length : Int)) = true := decide_eq_true c3
        clear c3
        by_cases c4 : 0 ≤ x16_1
        · rw [if_pos c4] at H
          have c4b0 : decide (0 ≤ x16_1) = true := decide_eq_true c4
          clear c4
          by_cases c5 : x16_1 < (l1.length : Int)
          · rw [if_pos c5] at H
            have c5b0 : decide (x16_1 < (l1.length : Int)) = true := decide_eq_true c5
            clear c5
            by_cases c6 : x6_1.length < 17592186044416
            · rw [if_pos c6] at H
              have LMc6 := Aside0.mk c6
              clear c6
              obtain ⟨y152, hy152⟩ : ∃ y_ : List Int, y_ = (x6_1 ++ [(rd_T114 l1 x16_1).f0]) := ⟨_, rfl⟩
              replace H : (keys_Board.l0 k1 a0 l1 y152 l1 (l1.length : Int) (wrap64 (x16_1 + 1))) = some (r1, r2) := by first | (rw [hy152]; with_reducible exact H) | (have H2_ := (Option.bind_some _ _).symm.trans H; rw [hy152]; with_reducible exact H2_) | (have H2_ := (Option.bind_some _ _).symm.trans H; with_reducible exact H2_) | with_reducible exact H | (rw [hy152]; exact H) | exact H
              have Ny152 := Aside0.mk hy152
              clear hy152
              have H' := Aside0.mk H
              clear H
              have p150 : 0 ≤ (x16_1 : Int) := of_decide_eq_true (by first | (with_reducible assumption) | assumption)
              have q150 : x16_1 < (l1.length : Int) := of_decide_eq_true (by first | (with_reducible assumption) | assumption)
              obtain ⟨ad150, e150, hx150_0, hx150_1, hx150_2⟩ := at_T114 HR1.out x16_1 p150 q150
              cases e150
              replace hx150_0 := (HB.out.cell (World.block_lt_of_cell? w _ hx150_0)).trans hx150_0
              replace hx150_1 := (HB.out.cell (World.block_lt_of_cell? w _ hx150_1)).trans hx150_1
              replace hx150_2 := (HB.out.cell (World.block_lt_of_cell? w _ hx150_2)).trans hx150_2
              replace p150 := eq_true p150
              replace q150 := eq_true q150
              go_wp2_with (first | ((with_reducible refine gate_dst (N := 9) rfl ?_); refine box_event ?hg (N := 9) ?hd (cs := #[.int .i64 0, .int .i64 0, .bool false]) (t := 114) ?hr ?_; (case hd => rfl); (case hg => rfl); (case hr => first | (go_simp; done) | (go_simp; rfl)); intro gb151 hg w7 hbox hb; have n0_ := Aside0.mk (Kd.R_below (by (with_reducible repeat (first | apply Kd.R_alloc | apply Kd.R_drewN | apply Kd.R_drew)); exact HO_6.out) hb); have n1_ := Aside0.mk (below_step (by repeat (first | (with_reducible first | exact HB.out | apply below_alloc | apply pw_below_drewN | apply below_drew1) | exact HB.out)) hb); have n2_ := Aside0.mk (hbox); have n3_ := Aside0.mk ((by rw [hg]; exact (below_size (by repeat (first | (with_reducible first | exact HB.out | apply below_alloc | apply pw_below_drewN | apply below_drew1) | exact HB.out))) : w.heap.size ≤ gb151)); have n4_ := Aside0.mk ((by rw [hg]; exact (below_size (by repeat (first | (with_reducible first | exact HB.out | apply below_alloc | apply pw_below_drewN | apply below_drew1) | exact HB.out))) : w.heap.size ≤ gb151)); clear HO_6; clear HB; have HO_6 := n0_; have HB := n1_; have BK151 := n2_; have GW151 := n3_; have GE151 := n4_; clear n0_ n1_ n2_ n3_ n4_; clear hb hbox hg; have hcz8_0 : w7.cell? ⟨gb151, 0, none⟩ = some (.int .i64 0) := (blk_cell BK151.out 0).trans rfl; have hcz8_1 : w7.cell? ⟨gb151, 1, none⟩ = some (.int .i64 0) := (blk_cell BK151.out 1).trans rfl; have hcz8_2 : w7.cell? ⟨gb151, 2, none⟩ = some (.bool false) := (blk_cell BK151.out 2).trans rfl; have hfz8_0 := blk_frozen BK151.out 0; have hfz8_1 := blk_frozen BK151.out 1; have hfz8_2 := blk_frozen BK151.out 2) | ((with_reducible refine gate_builtin (b := .append) (xs := #[.tmp 20, .tmp 23]) rfl ?_); at_builtin; refine Kd.R_append (Kd.int .i64) (w0 := w) w.heap.size rfl (.tmp 20) (.tmp 23) 22 3 (.int .i64 0) 8 rfl Try.underlying22 info3 rfl (by decide) (by omega) u6 x6_1 ((rd_T114 l1 x16_1).f0) [.int .i64 ((rd_T114 l1 x16_1).f0)] (fun _ => True) (fun _ => False) rfl (by first | (go_simp; done) | (go_simp; rfl)) ?aP (fun _ hk => hk.elim) ?aF ?aO ?aB ?aS ?aL ?_; (case aP => exact rfl); (case aB => exact (by repeat (first | (with_reducible first | exact HB.out | apply below_alloc | apply pw_below_drewN | apply below_drew1 | refine below_set ?_ GE151.out) | exact HB.out))); (case aF => exact (fun _ _ => trivial)); (case aO => exact (by (with_reducible repeat (first | apply Kd.R_alloc | apply Kd.R_drewN | apply Kd.R_drew)); exact Kd.R_mono (Kd.R_far (p := ⟨gb151, 2, none⟩) (Kd.R_far (p := ⟨gb151, 1, none⟩) (Kd.R_far (p := ⟨gb151, 0, none⟩) (Kd.R_types HO_6.out BK151.out (by decide)) (fun _ hk => hk.2) (.int .i64 ((rd_T114 l1 x16_1).f0))) (fun _ hk => hk.2) (.int .i64 ((rd_T114 l1 x16_1).f1))) (fun _ hk => hk.2) (.bool ((rd_T114 l1 x16_1).f2))) (fun _ hk => trivial))); (case aS => exact (below_size (by repeat (first | (with_reducible first | exact HB.out | apply below_alloc | apply pw_below_drewN | apply below_drew1 | refine below_set ?_ GE151.out) | exact HB.out)))); (case aL => have := LMc6.out; omega); intro v153 w9 ho hb hg hat; rw [← Ny152.out] at ho; have n0_ := Aside0.mk (blk_grown (g := gb151) (o := .cells #[.int .i64 ((rd_T114 l1 x16_1).f0), .int .i64 ((rd_T114 l1 x16_1).f1), .bool ((rd_T114 l1 x16_1).f2)] 114 (0, 0)) (by (with_reducible repeat (first | refine blk_drewN ?_ _ | refine blk_drew ?_ | refine blk_alloc ?_ _)); refine blk_put (cs := #[.int .i64 ((rd_T114 l1 x16_1).f0), .int .i64 ((rd_T114 l1 x16_1).f1), .bool false]) ?_ 2 _ rfl; (with_reducible repeat (first | refine blk_drewN ?_ _ | refine blk_drew ?_ | refine blk_alloc ?_ _)); refine blk_put (cs := #[.int .i64 ((rd_T114 l1 x16_1).f0), .int .i64 0, .bool false]) ?_ 1 _ rfl; (with_reducible repeat (first | refine blk_drewN ?_ _ | refine blk_drew ?_ | refine blk_alloc ?_ _)); refine blk_put (cs := #[.int .i64 0, .int .i64 0, .bool false]) ?_ 0 _ rfl; (with_reducible repeat (first | refine blk_drewN ?_ _ | refine blk_drew ?_ | refine blk_alloc ?_ _)); exact BK151.out) hg (Kd.R_ne HO_6.out BK151.out (by decide))); have n1_ := Aside0.mk (hb); have n2_ := Aside0.mk (ho); clear BK151; clear HB; clear HO_6; have BK151 := n0_; have HB := n1_; have HO154 := n2_; clear n0_ n1_ n2_; clear ho hb hg hat))
              go_roundg k1
              case measure => have := HK1.out; omega
              case rel => exact ⟨(y152), (wrap64 (x16_1 + 1)), (by first | rfl | (simp; done) | (simp [*]; done)), H', ⟨by have := HK1.out; omega⟩, ⟨by (with_reducible repeat (first | apply Kd.R_alloc | apply Kd.R_drewN | apply Kd.R_drew)); exact HO154.out⟩, ⟨by repeat (first | (with_reducible first | exact HB.out | apply below_alloc | apply pw_below_drewN | apply below_drew1 | refine below_set ?_ GE151.out) | exact HB.out)⟩⟩
            · rw [if_neg c6] at H
              exact absurd H (by simp)
          · rw [if_neg c5] at H
            exact absurd H (by simp)
        · rw [if_neg c4] at H
          exact absurd H (by simp)
      · rw [if_neg c3] at H
        have c3b0 : decide (x16_1 < (l1.length : Int)) = false := decide_eq_false c3
        clear c3
        replace H := Option.bind_eq_some_iff.mp H
        obtain ⟨t155, A100, H⟩ := H
        replace H : (if t155 = 0 then (keys_Board.l1 k1 a0 x6_1 ([] : List Int) 0 l1 (l1.length : Int) 0) else (some (([] : List (S62)), t155))) = some (r1, r2) := H
        have A10 := Aside0.mk A100
        clear A100
        by_cases c11 : t155 = 0
        · rw [if_pos c11] at H
          have c11b0 : (t155 == 0) = true := beq_iff_eq.mpr c11
          have c11b1 : (t155 != 0) = false := bne_eq_false_iff_eq.mpr c11
          clear c11
          have H' := Aside0.mk H
          clear H
          obtain ⟨Ao12, co12, eo12⟩ := Kd.R_slice HO_6.out
          subst eo12
          go_wp2_with (first | ((with_reducible refine gate_callee (f := 64) rfl ?_); refine goesL_ (some 27) rfl rfl Try.func64 (by kernel_rfl) rfl #[.slice Ao12 x6_1.length co12] rfl (by (try simp only [List.map_toArray, List.map_cons, List.map_nil]); first | done | rfl | (simp only [List.length_drop, List.length_take]; rfl)) ?_; (with_reducible refine (keys_times.calls k1 _ _ x6_1 t155 _ ?side1 ?side2 A10.out).mono ?_); (case side1 => repeat (first | exact (Kd.R_reads' HO_6.out).2.2 | (with_reducible refine Kd.C_alloc ?_ _) | (with_reducible refine Kd.C_drewN ?_ _) | (with_reducible refine Kd.C_drew ?_))); (case side2 => exact (Kd.R_reads' HO_6.out).2.1); rintro e w' ⟨rfl, ⟨nd, rfl⟩⟩; refine ⟨_, rfl, ?_⟩))
          go_loopg [7, 11, 33] k1 (fun kq v7 v11 v33 w' => ∃ (x7_2 : List Int) (x11_2 : Int) (x33_2 : Int), v11 = .int .i64 x11_2 ∧ v33 = .int .i64 x33_2 ∧ Aside0 (keys_Board.l1 kq a0 x6_1 x7_2 x11_2 l1 (l1.length : Int) x33_2 = some (r1, r2)) ∧ Aside0 (kq ≤ k1) ∧ Aside0 (Kd.R (Kd.int .i64) 3 w' w.heap.size (fun k_ => some k_ ≠ (v7 : Value).ownBlock) (.slice Ao12 x6_1.length co12) x6_1) ∧ Aside0 (Kd.R (Kd.int .i64) 3 w' w.heap.size (fun k_ => some k_ ≠ ((.slice Ao12 x6_1.length co12) : Value).ownBlock) v7 x7_2) ∧ Aside0 (Below w.heap.size w w'))
          case atStart => exact ⟨(([] : List Int)), (0), (0), (by first | rfl | (simp; done) | (simp [*]; done)), (by first | rfl | (simp; done) | (simp [*]; done)), H', ⟨Nat.le_refl _⟩, ⟨by (with_reducible repeat (first | apply Kd.R_alloc | apply Kd.R_drewN | apply Kd.R_drew)); exact Kd.R_mono HO_6.out (fun _ hk => (by simp [Value.ownBlock]))⟩, ⟨by first | exact Kd.R_nil _ _ _ _ _ | exact Kd.N_nil _ _ _ _ _ | exact Kd.V_nil _ _ _ _ _ | exact Kd.Q_nil _ _ _ _ _ | exact Kd.S_nil _ _ _ _ _⟩, ⟨by repeat (first | (with_reducible first | exact HB.out | apply below_alloc | apply pw_below_drewN | apply below_drew1) | exact HB.out)⟩⟩
          case round =>
            clear H'
            try clear c1
            try clear p1
            try clear q1
            try clear hx1
            try clear p2
            try clear c3
            try clear c3b0
            try clear c4
            try clear c4b0
            try clear c5
            try clear c5b0
            try clear c6
            try clear p6
            try clear c11
            try clear c11b0
            try clear c11b1
            try clear hcz8_0
            try clear hcz8_1
            try clear hcz8_2
            try clear hfz8_0
            try clear hfz8_1
            try clear hfz8_2
            try clear hx150_0
            try clear hx150_1
            try clear hx150_2
            try clear p150
            try clear p2
            try clear q150
            obtain ⟨x7_2, x11_2, x33_2, rfl, rfl, HA, HK2, HO_6, HO_7, HB⟩ := hrel
            cases gk with
            | zero => exact absurd HA.out (by simp [keys_Board.l1])
            | succ k2 =>
              have H := HA.out
              clear HA
              simp only [keys_Board.l1] at H
              by_cases c13 : x33_2 < (l1.length : Int)
              · rw [if_pos c13] at H
                have c13b0 : decide (x33_2 < (l1.length : Int)) = true := decide_eq_true c13
                clear c13
                by_cases c14 : 0 ≤ x33_2
                · rw [if_pos c14] at H
                  have c14b0 : decide (0 ≤ x33_2) = true := decide_eq_true c14
                  clear c14
                  by_cases c15 : x33_2 < (l1.length : Int)
                  · rw [if_pos c15] at H
                    have c15b0 : decide (x33_2 < (l1.length : Int)) = true := decide_eq_true c15
                    clear c15
                    have HC16 := Aside0.mk H
                    clear H
                    have p159 : 0 ≤ (x33_2 : Int) := of_decide_eq_true (by first | (with_reducible assumption) | assumption)
                    have q159 : x33_2 < (l1.length : Int) := of_decide_eq_true (by first | (with_reducible assumption) | assumption)
                    obtain ⟨ad159, e159, hx159_0, hx159_1, hx159_2⟩ := at_T114 HR1.out x33_2 p159 q159
                    cases e159
                    replace hx159_0 := (HB.out.cell (World.block_lt_of_cell? w _ hx159_0)).trans hx159_0
                    replace hx159_1 := (HB.out.cell (World.block_lt_of_cell? w _ hx159_1)).trans hx159_1
                    replace hx159_2 := (HB.out.cell (World.block_lt_of_cell? w _ hx159_2)).trans hx159_2
                    replace p159 := eq_true p159
                    replace q159 := eq_true q159
                    go_upto_region 14 with (first | ((with_reducible refine gate_dst (N := 13) rfl ?_); refine box_event ?hg (N := 13) ?hd (cs := #[.int .i64 0, .int .i64 0, .bool false]) (t := 114) ?hr ?_; (case hd => rfl); (case hg => rfl); (case hr => first | (go_simp; done) | (go_simp; rfl)); intro gb160 hg w17 hbox hb; have n0_ := Aside0.mk (Kd.R_below (by (with_reducible repeat (first | apply Kd.R_alloc | apply Kd.R_drewN | apply Kd.R_drew)); exact HO_6.out) hb); have n1_ := Aside0.mk (Kd.R_below (by (with_reducible repeat (first | apply Kd.R_alloc | apply Kd.R_drewN | apply Kd.R_drew)); exact HO_7.out) hb); have n2_ := Aside0.mk (below_step (by repeat (first | (with_reducible first | exact HB.out | apply below_alloc | apply pw_below_drewN | apply below_drew1) | exact HB.out)) hb); have n3_ := Aside0.mk (hbox); have n4_ := Aside0.mk ((by rw [hg]; exact (below_size (by repeat (first | (with_reducible first | exact HB.out | apply below_alloc | apply pw_below_drewN | apply below_drew1) | exact HB.out))) : w.heap.size ≤ gb160)); have n5_ := Aside0.mk ((by rw [hg]; exact (below_size (by repeat (first | (with_reducible first | exact HB.out | apply below_alloc | apply pw_below_drewN | apply below_drew1) | exact HB.out))) : w.heap.size ≤ gb160)); clear HO_6; clear HO_7; clear HB; have HO_6 := n0_; have HO_7 := n1_; have HB := n2_; have BK160 := n3_; have GW160 := n4_; have GE160 := n5_; clear n0_ n1_ n2_ n3_ n4_ n5_; clear hb hbox hg; have hcz18_0 : w17.cell? ⟨gb160, 0, none⟩ = some (.int .i64 0) := (blk_cell BK160.out 0).trans rfl; have hcz18_1 : w17.cell? ⟨gb160, 1, none⟩ = some (.int .i64 0) := (blk_cell BK160.out 1).trans rfl; have hcz18_2 : w17.cell? ⟨gb160, 2, none⟩ = some (.bool false) := (blk_cell BK160.out 2).trans rfl; have hfz18_0 := blk_frozen BK160.out 0; have hfz18_1 := blk_frozen BK160.out 1; have hfz18_2 := blk_frozen BK160.out 2))
                    (try simp only [Act.put, List.setIfInBounds_toArray, List.set_cons_zero, List.set_cons_succ])
                    go_cut [44] (fun v44 wc => ∃ (kq : Nat) (x44_15 : Bool), v44 = .bool x44_15 ∧ Aside0 (keys_Board.j2 kq a0 x6_1 x7_2 x11_2 l1 (l1.length : Int) x33_2 x44_15 ((rd_T114 l1 x33_2).f0) ((rd_T114 l1 x33_2).f1) ((rd_T114 l1 x33_2).f2) = some (r1, r2)) ∧ Aside0 (kq ≤ k2) ∧ Aside0 (Kd.R (Kd.int .i64) 3 wc w.heap.size (fun k_ => some k_ ≠ (u7 : Value).ownBlock) (.slice Ao12 x6_1.length co12) x6_1) ∧ Aside0 (Kd.R (Kd.int .i64) 3 wc w.heap.size (fun k_ => some k_ ≠ ((.slice Ao12 x6_1.length co12) : Value).ownBlock) u7 x7_2) ∧ Aside0 (wc.heap[gb160]? = some (.cells #[.int .i64 ((rd_T114 l1 x33_2).f0), .int .i64 ((rd_T114 l1 x33_2).f1), .bool ((rd_T114 l1 x33_2).f2)] 114 (0, 0))) ∧ Aside0 (Below w.heap.size w wc))
                    case first =>
                      have H := HC16.out
                      clear HC16
                      by_cases c19 : ((rd_T114 l1 x33_2).f1) < 0
                      · rw [if_pos c19] at H
                        have c19b0 : decide (((rd_T114 l1 x33_2).f1) < 0) = true := decide_eq_true c19
                        clear c19
                        (first | rw [c19b0] | (simp only [i64_w, i32_w]; rw [c19b0]) | skip)
                        have H' := Aside0.mk H
                        clear H
                        have hcz20_0 : w17.cell? ⟨gb160, 0, none⟩ = some (.int .i64 0) := (blk_cell BK160.out 0).trans rfl
                        have hcz20_1 : w17.cell? ⟨gb160, 1, none⟩ = some (.int .i64 0) := (blk_cell BK160.out 1).trans rfl
                        have hcz20_2 : w17.cell? ⟨gb160, 2, none⟩ = some (.bool false) := (blk_cell BK160.out 2).trans rfl
                        have hfz20_0 := blk_frozen BK160.out 0
                        have hfz20_1 := blk_frozen BK160.out 1
                        have hfz20_2 := blk_frozen BK160.out 2
                        go_wp2
                        go_meet
                        case rel => exact ⟨_, (true), (by first | rfl | (simp; done) | (simp [*]; done)), H', ⟨by have := HK1.out; have := HK2.out; first | omega | exact Nat.le_refl _⟩, ⟨by (with_reducible repeat (first | apply Kd.R_alloc | apply Kd.R_drewN | apply Kd.R_drew)); exact Kd.R_mono (Kd.R_far (p := ⟨gb160, 2, none⟩) (Kd.R_far (p := ⟨gb160, 1, none⟩) (Kd.R_far (p := ⟨gb160, 0, none⟩) (Kd.R_types HO_6.out BK160.out (by decide)) (fun _ hk => hk.2) (.int .i64 ((rd_T114 l1 x33_2).f0))) (fun _ hk => hk.2) (.int .i64 ((rd_T114 l1 x33_2).f1))) (fun _ hk => hk.2) (.bool ((rd_T114 l1 x33_2).f2))) (fun _ hk => hk.1)⟩, ⟨by (with_reducible repeat (first | apply Kd.R_alloc | apply Kd.R_drewN | apply Kd.R_drew)); exact Kd.R_mono (Kd.R_far (p := ⟨gb160, 2, none⟩) (Kd.R_far (p := ⟨gb160, 1, none⟩) (Kd.R_far (p := ⟨gb160, 0, none⟩) (Kd.R_types HO_7.out BK160.out (by decide)) (fun _ hk => hk.2) (.int .i64 ((rd_T114 l1 x33_2).f0))) (fun _ hk => hk.2) (.int .i64 ((rd_T114 l1 x33_2).f1))) (fun _ hk => hk.2) (.bool ((rd_T114 l1 x33_2).f2))) (fun _ hk => hk.1)⟩, ⟨by (with_reducible repeat (first | refine blk_drewN ?_ _ | refine blk_drew ?_ | refine blk_alloc ?_ _)); refine blk_put (cs := #[.int .i64 ((rd_T114 l1 x33_2).f0), .int .i64 ((rd_T114 l1 x33_2).f1), .bool false]) ?_ 2 _ rfl; (with_reducible repeat (first | refine blk_drewN ?_ _ | refine blk_drew ?_ | refine blk_alloc ?_ _)); refine blk_put (cs := #[.int .i64 ((rd_T114 l1 x33_2).f0), .int .i64 0, .bool false]) ?_ 1 _ rfl; (with_reducible repeat (first | refine blk_drewN ?_ _ | refine blk_drew ?_ | refine blk_alloc ?_ _)); refine blk_put (cs := #[.int .i64 0, .int .i64 0, .bool false]) ?_ 0 _ rfl; (with_reducible repeat (first | refine blk_drewN ?_ _ | refine blk_drew ?_ | refine blk_alloc ?_ _)); exact BK160.out⟩, ⟨by repeat (first | (with_reducible first | exact HB.out | apply below_alloc | apply pw_below_drewN | apply below_drew1 | refine below_set ?_ GE160.out) | exact HB.out)⟩⟩
                      · rw [if_neg c19] at H
                        have c19b0 : decide (((rd_T114 l1 x33_2).f1) < 0) = false := decide_eq_false c19
                        clear c19
                        (first | rw [c19b0] | (simp only [i64_w, i32_w]; rw [c19b0]) | skip)
                        have H' := Aside0.mk H
                        clear H
                        have hcz21_0 : w17.cell? ⟨gb160, 0, none⟩ = some (.int .i64 0) := (blk_cell BK160.out 0).trans rfl
                        have hcz21_1 : w17.cell? ⟨gb160, 1, none⟩ = some (.int .i64 0) := (blk_cell BK160.out 1).trans rfl
                        have hcz21_2 : w17.cell? ⟨gb160, 2, none⟩ = some (.bool false) := (blk_cell BK160.out 2).trans rfl
                        have hfz21_0 := blk_frozen BK160.out 0
                        have hfz21_1 := blk_frozen BK160.out 1
                        have hfz21_2 := blk_frozen BK160.out 2
                        go_wp2
                        go_meet
                        case rel => exact ⟨_, (decide (((rd_T114 l1 x33_2).f1) > 7)), (by first | rfl | (simp; done) | (simp [*]; done)), H', ⟨by have := HK1.out; have := HK2.out; first | omega | exact Nat.le_refl _⟩, ⟨by (with_reducible repeat (first | apply Kd.R_alloc | apply Kd.R_drewN | apply Kd.R_drew)); exact Kd.R_mono (Kd.R_far (p := ⟨gb160, 2, none⟩) (Kd.R_far (p := ⟨gb160, 1, none⟩) (Kd.R_far (p := ⟨gb160, 0, none⟩) (Kd.R_types HO_6.out BK160.out (by decide)) (fun _ hk => hk.2) (.int .i64 ((rd_T114 l1 x33_2).f0))) (fun _ hk => hk.2) (.int .i64 ((rd_T114 l1 x33_2).f1))) (fun _ hk => hk.2) (.bool ((rd_T114 l1 x33_2).f2))) (fun _ hk => hk.1)⟩, ⟨by (with_reducible repeat (first | apply Kd.R_alloc | apply Kd.R_drewN | apply Kd.R_drew)); exact Kd.R_mono (Kd.R_far (p := ⟨gb160, 2, none⟩) (Kd.R_far (p := ⟨gb160, 1, none⟩) (Kd.R_far (p := ⟨gb160, 0, none⟩) (Kd.R_types HO_7.out BK160.out (by decide)) (fun _ hk => hk.2) (.int .i64 ((rd_T114 l1 x33_2).f0))) (fun _ hk => hk.2) (.int .i64 ((rd_T114 l1 x33_2).f1))) (fun _ hk => hk.2) (.bool ((rd_T114 l1 x33_2).f2))) (fun _ hk => hk.1)⟩, ⟨by (with_reducible repeat (first | refine blk_drewN ?_ _ | refine blk_drew ?_ | refine blk_alloc ?_ _)); refine blk_put (cs := #[.int .i64 ((rd_T114 l1 x33_2).f0), .int .i64 ((rd_T114 l1 x33_2).f1), .bool false]) ?_ 2 _ rfl; (with_reducible repeat (first | refine blk_drewN ?_ _ | refine blk_drew ?_ | refine blk_alloc ?_ _)); refine blk_put (cs := #[.int .i64 ((rd_T114 l1 x33_2).f0), .int .i64 0, .bool false]) ?_ 1 _ rfl; (with_reducible repeat (first | refine blk_drewN ?_ _ | refine blk_drew ?_ | refine blk_alloc ?_ _)); refine blk_put (cs := #[.int .i64 0, .int .i64 0, .bool false]) ?_ 0 _ rfl; (with_reducible repeat (first | refine blk_drewN ?_ _ | refine blk_drew ?_ | refine blk_alloc ?_ _)); exact BK160.out⟩, ⟨by repeat (first | (with_reducible first | exact HB.out | apply below_alloc | apply pw_below_drewN | apply below_drew1 | refine below_set ?_ GE160.out) | exact HB.out)⟩⟩
                    case rest =>
                      clear HC16
                      try clear c1
                      try clear p1
                      try clear q1
                      try clear hx1
                      try clear p2
                      try clear c3
                      try clear c3b0
                      try clear c4
                      try clear c4b0
                      try clear c5
                      try clear c5b0
                      try clear c6
                      try clear p6
                      try clear c11
                      try clear c11b0
                      try clear c11b1
                      try clear c13
                      try clear c13b0
                      try clear c14
                      try clear c14b0
                      try clear c15
                      try clear c15b0
                      try clear p15
                      try clear q15
                      try clear hx15
                      try clear c19
                      try clear c19b0
                      try clear hcz18_0
                      try clear hcz18_1
                      try clear hcz18_2
                      try clear hcz20_0
                      try clear hcz20_1
                      try clear hcz20_2
                      try clear hcz21_0
                      try clear hcz21_1
                      try clear hcz21_2
                      try clear hcz8_0
                      try clear hcz8_1
                      try clear hcz8_2
                      try clear hfz18_0
                      try clear hfz18_1
                      try clear hfz18_2
                      try clear hfz20_0
                      try clear hfz20_1
                      try clear hfz20_2
                      try clear hfz21_0
                      try clear hfz21_1
                      try clear hfz21_2
                      try clear hfz8_0
                      try clear hfz8_1
                      try clear hfz8_2
                      try clear hx150_0
                      try clear hx150_1
                      try clear hx150_2
                      try clear hx159_0
                      try clear hx159_1
                      try clear hx159_2
                      try clear p1
                      try clear p150
                      try clear p159
                      try clear p2
                      try clear p6
                      try clear q1
                      try clear q150
                      try clear q159
                      obtain ⟨kq, x44_15, rfl, HA, HJ15, HO_6, HO_7, BK160, HB⟩ := hcut
                      cases kq with
                      | zero => exact absurd HA.out (by simp [keys_Board.j2])
                      | succ kj15 =>
                        have H := HA.out
                        clear HA
                        simp only [keys_Board.j2] at H
                        by_cases c22 : x44_15 = true
                        · subst c22
                          have H1 : (some (([] : List (S62)), 4)) = some (r1, r2) := by rw [if_pos rfl] at H; exact H
                          clear H
                          have H := H1
                          clear H1
                          simp only [Option.some.injEq, Prod.mk.injEq] at H
                          obtain ⟨rfl, rfl⟩ := H
                          go_wp2
                          go_ret2
                          exact ⟨_, by first | rfl | (simp [errW_none, errW_some] <;> rfl) | (simp [*, errW_none, errW_some] <;> rfl), by first | exact Kd.R_nil _ _ _ _ _ | exact Kd.N_nil _ _ _ _ _ | exact Kd.V_nil _ _ _ _ _ | exact Kd.Q_nil _ _ _ _ _ | exact Kd.S_nil _ _ _ _ _, by repeat (first | (with_reducible first | exact HB.out | apply below_alloc | apply pw_below_drewN | apply below_drew1 | refine below_set ?_ GE160.out) | exact HB.out)⟩
                        · replace c22 := Bool.eq_false_iff.mpr c22
                          subst c22
                          have H1 : (if 0 ≤ ((rd_T114 l1 x33_2).f1) then (if ((rd_T114 l1 x33_2).f2) = true then (if x7_2.length < 17592186044416 then (keys_Board.l1 kj15 a0 x6_1 (x7_2 ++ [Go.bits .or .i64 (Go.bits .andNot .i64 x11_2 (shl .i64 1 ((rd_T114 l1 x33_2).f1))) (shl .i64 1 ((rd_T114 l1 x33_2).f1))]) (Go.bits .or .i64 (Go.bits .andNot .i64 x11_2 (shl .i64 1 ((rd_T114 l1 x33_2).f1))) (shl .i64 1 ((rd_T114 l1 x33_2).f1))) l1 (l1.length : Int) (wrap64 (x33_2 + 1))) else (none)) else (if x7_2.length < 17592186044416 then (keys_Board.l1 kj15 a0 x6_1 (x7_2 ++ [Go.bits .andNot .i64 x11_2 (shl .i64 1 ((rd_T114 l1 x33_2).f1))]) (Go.bits .andNot .i64 x11_2 (shl .i64 1 ((rd_T114 l1 x33_2).f1))) l1 (l1.length : Int) (wrap64 (x33_2 + 1))) else (none))) else (none)) = some (r1, r2) := by rw [if_neg (show ¬ (false = true) by decide)] at H; exact H
                          clear H
                          have H := H1
                          clear H1
                          by_cases c23 : 0 ≤ ((rd_T114 l1 x33_2).f1)
                          · rw [if_pos c23] at H
                            have c23b0 := eq_true c23
                            have c23b1 : decide (0 ≤ ((rd_T114 l1 x33_2).f1)) = true := decide_eq_true c23
                            clear c23
                            obtain ⟨ji24, hji24⟩ : ∃ j_ : Int, (shl .i64 1 ((rd_T114 l1 x33_2).f1)) = j_ := ⟨_, rfl⟩
                            replace H : (if ((rd_T114 l1 x33_2).f2) = true then (if x7_2.length < 17592186044416 then (keys_Board.l1 kj15 a0 x6_1 (x7_2 ++ [Go.bits .or .i64 (Go.bits .andNot .i64 x11_2 (ji24)) (ji24)]) (Go.bits .or .i64 (Go.bits .andNot .i64 x11_2 (ji24)) (ji24)) l1 (l1.length : Int) (wrap64 (x33_2 + 1))) else (none)) else (if x7_2.length < 17592186044416 then (keys_Board.l1 kj15 a0 x6_1 (x7_2 ++ [Go.bits .andNot .i64 x11_2 (ji24)]) (Go.bits .andNot .i64 x11_2 (ji24)) l1 (l1.length : Int) (wrap64 (x33_2 + 1))) else (none))) = some (r1, r2) := by first | (rw [hji24] at H; exact H) | (simp only [hji24] at H ⊢; exact H)
                            have hji24_ : (IntKind.i64.wrap (1 * 2 ^ min ((rd_T114 l1 x33_2).f1).toNat 64)) = ji24 := hji24
                            have hji24z : ((rd_T114 l1 x33_2).f1) ≤ 64 → (IntKind.i64.wrap (1 * 2 ^ ((rd_T114 l1 x33_2).f1).toNat)) = ji24 := shl_small hji24
                            have hji24u : (IntKind.i64.wrap (2 ^ min ((rd_T114 l1 x33_2).f1).toNat 64)) = ji24 := by have h_ := hji24_; rw [Int.one_mul] at h_; exact h_
                            have hji24v : ((rd_T114 l1 x33_2).f1) ≤ 64 → (IntKind.i64.wrap (2 ^ ((rd_T114 l1 x33_2).f1).toNat)) = ji24 := fun hle_ => by have h_ := hji24z hle_; rw [Int.one_mul] at h_; exact h_
                            have hji24y : (wrap64 (1 * 2 ^ min ((rd_T114 l1 x33_2).f1).toNat 64)) = ji24 := (i64_w _).symm.trans hji24_
                            have hji24x : ((rd_T114 l1 x33_2).f1) ≤ 64 → (wrap64 (1 * 2 ^ ((rd_T114 l1 x33_2).f1).toNat)) = ji24 := fun h_ => (i64_w _).symm.trans (hji24z h_)
                            by_cases c25 : ((rd_T114 l1 x33_2).f2) = true
                            · rw [if_pos c25] at H
                              have c25b0 : ((rd_T114 l1 x33_2).f2) = true := c25
                              clear c25
                              have c26b0 := eq_true (of_decide_eq_true (by first | (with_reducible assumption) | assumption) : 0 ≤ ((rd_T114 l1 x33_2).f1))
                              by_cases c28 : x7_2.length < 17592186044416
                              · rw [if_pos c28] at H
                                have LMc28 := Aside0.mk c28
                                clear c28
                                obtain ⟨y161, hy161⟩ : ∃ y_ : List Int, y_ = (x7_2 ++ [Go.bits .or .i64 (Go.bits .andNot .i64 x11_2 (ji24)) (ji24)]) := ⟨_, rfl⟩
                                replace H : (keys_Board.l1 kj15 a0 x6_1 y161 (Go.bits .or .i64 (Go.bits .andNot .i64 x11_2 (ji24)) (ji24)) l1 (l1.length : Int) (wrap64 (x33_2 + 1))) = some (r1, r2) := by first | (rw [hy161]; with_reducible exact H) | (have H2_ := (Option.bind_some _ _).symm.trans H; rw [hy161]; with_reducible exact H2_) | (have H2_ := (Option.bind_some _ _).symm.trans H; with_reducible exact H2_) | with_reducible exact H | (rw [hy161]; exact H) | exact H
                                have Ny161 := Aside0.mk hy161
                                clear hy161
                                have H' := Aside0.mk H
                                clear H
                                have hcz29_0 : wc.cell? ⟨gb160, 0, none⟩ = some (.int .i64 ((rd_T114 l1 x33_2).f0)) := (blk_cell BK160.out 0).trans rfl
                                have hcz29_1 : wc.cell? ⟨gb160, 1, none⟩ = some (.int .i64 ((rd_T114 l1 x33_2).f1)) := (blk_cell BK160.out 1).trans rfl
                                have hcz29_2 : wc.cell? ⟨gb160, 2, none⟩ = some (.bool ((rd_T114 l1 x33_2).f2)) := (blk_cell BK160.out 2).trans rfl
                                have hfz29_0 := blk_frozen BK160.out 0
                                have hfz29_1 := blk_frozen BK160.out 1
                                have hfz29_2 := blk_frozen BK160.out 2
                                go_wp2_with (first | ((with_reducible refine gate_builtin (b := .append) (xs := #[.tmp 57, .tmp 59]) rfl ?_); at_builtin; refine Kd.R_append (Kd.int .i64) (w0 := w) w.heap.size rfl (.tmp 57) (.tmp 59) 22 3 (.int .i64 0) 8 rfl Try.underlying22 info3 rfl (by decide) (by omega) u7 x7_2 (Go.bits .or .i64 (Go.bits .andNot .i64 x11_2 (ji24)) (ji24)) [.int .i64 (Go.bits .or .i64 (Go.bits .andNot .i64 x11_2 (ji24)) (ji24))] (fun k_ => some k_ ≠ (.slice Ao12 x6_1.length co12 : Value).ownBlock) (fun _ => False) rfl rfl ?aP (fun _ hk => hk.elim) ?aF ?aO ?aB ?aS ?aL ?_; (case aP => exact rfl); (case aB => exact (by repeat (first | (with_reducible first | exact HB.out | apply below_alloc | apply pw_below_drewN | apply below_drew1 | refine below_set ?_ GE160.out) | exact HB.out))); (case aF => exact (fun k_ hk => Kd.fresh' (Kd.R_lt (by (with_reducible repeat (first | apply Kd.R_alloc | apply Kd.R_drewN | apply Kd.R_drew)); exact HO_6.out)) k_ hk)); (case aO => exact (by (with_reducible repeat (first | apply Kd.R_alloc | apply Kd.R_drewN | apply Kd.R_drew)); exact HO_7.out)); (case aS => exact (below_size (by repeat (first | (with_reducible first | exact HB.out | apply below_alloc | apply pw_below_drewN | apply below_drew1 | refine below_set ?_ GE160.out) | exact HB.out)))); (case aL => have := LMc28.out; omega); intro v162 w30 ho hb hg hat; rw [← Ny161.out] at ho; have n0_ := Aside0.mk (Kd.R_after (ok := (fun _ => True)) (by (with_reducible repeat (first | apply Kd.R_alloc | apply Kd.R_drewN | apply Kd.R_drew)); exact Kd.R_mono HO_6.out (fun _ hk => ⟨trivial, hk⟩)) hg hat); have n1_ := Aside0.mk (blk_grown (g := gb160) (o := .cells #[.int .i64 ((rd_T114 l1 x33_2).f0), .int .i64 ((rd_T114 l1 x33_2).f1), .bool ((rd_T114 l1 x33_2).f2)] 114 (0, 0)) (by (with_reducible repeat (first | refine blk_drewN ?_ _ | refine blk_drew ?_ | refine blk_alloc ?_ _)); exact BK160.out) hg (Kd.R_ne HO_7.out BK160.out (by decide))); have n2_ := Aside0.mk (hb); have n3_ := Aside0.mk (ho); clear HO_6; clear BK160; clear HB; clear HO_7; have HO_6 := n0_; have BK160 := n1_; have HB := n2_; have HO163 := n3_; clear n0_ n1_ n2_ n3_; clear ho hb hg hat))
                                go_roundg kj15
                                case measure => have := HK1.out; have := HK2.out; have := HJ15.out; omega
                                case rel => exact ⟨(y161), (Go.bits .or .i64 (Go.bits .andNot .i64 x11_2 (ji24)) (ji24)), (wrap64 (x33_2 + 1)), (by first | rfl | (simp; done) | (simp only [← hji24] <;> (first | rfl | simp)) | (simp [*]; done)), (by first | rfl | (simp; done) | (simp [*]; done)), H', ⟨by have := HK1.out; have := HK2.out; have := HJ15.out; omega⟩, ⟨by (with_reducible repeat (first | apply Kd.R_alloc | apply Kd.R_drewN | apply Kd.R_drew)); exact Kd.R_mono HO_6.out (fun _ hk => hk.2)⟩, ⟨by (with_reducible repeat (first | apply Kd.R_alloc | apply Kd.R_drewN | apply Kd.R_drew)); exact HO163.out⟩, ⟨by repeat (first | (with_reducible first | exact HB.out | apply below_alloc | apply pw_below_drewN | apply below_drew1 | refine below_set ?_ GE160.out) | exact HB.out)⟩⟩
                              · rw [if_neg c28] at H
                                exact absurd H (by simp)
                            · rw [if_neg c25] at H
                              have c25b0 : ((rd_T114 l1 x33_2).f2) = false := by simpa using c25
                              clear c25
                              by_cases c31 : x7_2.length < 17592186044416
                              · rw [if_pos c31] at H
                                have LMc31 := Aside0.mk c31
                                clear c31
                                obtain ⟨y164, hy164⟩ : ∃ y_ : List Int, y_ = (x7_2 ++ [Go.bits .andNot .i64 x11_2 (ji24)]) := ⟨_, rfl⟩
                                replace H : (keys_Board.l1 kj15 a0 x6_1 y164 (Go.bits .andNot .i64 x11_2 (ji24)) l1 (l1.length : Int) (wrap64 (x33_2 + 1))) = some (r1, r2) := by first | (rw [hy164]; with_reducible exact H) | (have H2_ := (Option.bind_some _ _).symm.trans H; rw [hy164]; with_reducible exact H2_) | (have H2_ := (Option.bind_some _ _).symm.trans H; with_reducible exact H2_) | with_reducible exact H | (rw [hy164]; exact H) | exact H
                                have Ny164 := Aside0.mk hy164
                                clear hy164
                                have H' := Aside0.mk H
                                clear H
                                have hcz32_0 : wc.cell? ⟨gb160, 0, none⟩ = some (.int .i64 ((rd_T114 l1 x33_2).f0)) := (blk_cell BK160.out 0).trans rfl
                                have hcz32_1 : wc.cell? ⟨gb160, 1, none⟩ = some (.int .i64 ((rd_T114 l1 x33_2).f1)) := (blk_cell BK160.out 1).trans rfl
                                have hcz32_2 : wc.cell? ⟨gb160, 2, none⟩ = some (.bool ((rd_T114 l1 x33_2).f2)) := (blk_cell BK160.out 2).trans rfl
                                have hfz32_0 := blk_frozen BK160.out 0
                                have hfz32_1 := blk_frozen BK160.out 1
                                have hfz32_2 := blk_frozen BK160.out 2
                                go_wp2_with (first | ((with_reducible refine gate_builtin (b := .append) (xs := #[.tmp 57, .tmp 59]) rfl ?_); at_builtin; refine Kd.R_append (Kd.int .i64) (w0 := w) w.heap.size rfl (.tmp 57) (.tmp 59) 22 3 (.int .i64 0) 8 rfl Try.underlying22 info3 rfl (by decide) (by omega) u7 x7_2 (Go.bits .andNot .i64 x11_2 (ji24)) [.int .i64 (Go.bits .andNot .i64 x11_2 (ji24))] (fun k_ => some k_ ≠ (.slice Ao12 x6_1.length co12 : Value).ownBlock) (fun _ => False) rfl rfl ?aP (fun _ hk => hk.elim) ?aF ?aO ?aB ?aS ?aL ?_; (case aP => exact rfl); (case aB => exact (by repeat (first | (with_reducible first | exact HB.out | apply below_alloc | apply pw_below_drewN | apply below_drew1 | refine below_set ?_ GE160.out) | exact HB.out))); (case aF => exact (fun k_ hk => Kd.fresh' (Kd.R_lt (by (with_reducible repeat (first | apply Kd.R_alloc | apply Kd.R_drewN | apply Kd.R_drew)); exact HO_6.out)) k_ hk)); (case aO => exact (by (with_reducible repeat (first | apply Kd.R_alloc | apply Kd.R_drewN | apply Kd.R_drew)); exact HO_7.out)); (case aS => exact (below_size (by repeat (first | (with_reducible first | exact HB.out | apply below_alloc | apply pw_below_drewN | apply below_drew1 | refine below_set ?_ GE160.out) | exact HB.out)))); (case aL => have := LMc31.out; omega); intro v165 w33 ho hb hg hat; rw [← Ny164.out] at ho; have n0_ := Aside0.mk (Kd.R_after (ok := (fun _ => True)) (by (with_reducible repeat (first | apply Kd.R_alloc | apply Kd.R_drewN | apply Kd.R_drew)); exact Kd.R_mono HO_6.out (fun _ hk => ⟨trivial, hk⟩)) hg hat); have n1_ := Aside0.mk (blk_grown (g := gb160) (o := .cells #[.int .i64 ((rd_T114 l1 x33_2).f0), .int .i64 ((rd_T114 l1 x33_2).f1), .bool ((rd_T114 l1 x33_2).f2)] 114 (0, 0)) (by (with_reducible repeat (first | refine blk_drewN ?_ _ | refine blk_drew ?_ | refine blk_alloc ?_ _)); exact BK160.out) hg (Kd.R_ne HO_7.out BK160.out (by decide))); have n2_ := Aside0.mk (hb); have n3_ := Aside0.mk (ho); clear HO_6; clear BK160; clear HB; clear HO_7; have HO_6 := n0_; have BK160 := n1_; have HB := n2_; have HO166 := n3_; clear n0_ n1_ n2_ n3_; clear ho hb hg hat))
                                go_roundg kj15
                                case measure => have := HK1.out; have := HK2.out; have := HJ15.out; omega
                                case rel => exact ⟨(y164), (Go.bits .andNot .i64 x11_2 (ji24)), (wrap64 (x33_2 + 1)), (by first | rfl | (simp; done) | (simp only [← hji24] <;> (first | rfl | simp)) | (simp [*]; done)), (by first | rfl | (simp; done) | (simp [*]; done)), H', ⟨by have := HK1.out; have := HK2.out; have := HJ15.out; omega⟩, ⟨by (with_reducible repeat (first | apply Kd.R_alloc | apply Kd.R_drewN | apply Kd.R_drew)); exact Kd.R_mono HO_6.out (fun _ hk => hk.2)⟩, ⟨by (with_reducible repeat (first | apply Kd.R_alloc | apply Kd.R_drewN | apply Kd.R_drew)); exact HO166.out⟩, ⟨by repeat (first | (with_reducible first | exact HB.out | apply below_alloc | apply pw_below_drewN | apply below_drew1 | refine below_set ?_ GE160.out) | exact HB.out)⟩⟩
                              · rw [if_neg c31] at H
                                exact absurd H (by simp)
                          · rw [if_neg c23] at H
                            exact absurd H (by simp)
                  · rw [if_neg c15] at H
                    exact absurd H (by simp)
                · rw [if_neg c14] at H
                  exact absurd H (by simp)
              · rw [if_neg c13] at H
                have c13b0 : decide (x33_2 < (l1.length : Int)) = false := decide_eq_false c13
                clear c13
                replace H := Option.bind_eq_some_iff.mp H
                obtain ⟨t156, A340, H⟩ := H
                replace H : (some (t156, 0)) = some (r1, r2) := H
                have A34 := Aside0.mk A340
                clear A340
                simp only [Option.some.injEq, Prod.mk.injEq] at H
                obtain ⟨rfl, rfl⟩ := H
                obtain ⟨Ao35, co35, eo35⟩ := Kd.R_slice HO_7.out
                subst eo35
                go_wp2_with (first | ((with_reducible refine gate_callee (f := 65) rfl ?_); refine goesL_ (some 65) rfl rfl Try.func65 (by kernel_rfl) rfl #[.string a0, .slice Ao12 x6_1.length co12, .slice Ao35 x7_2.length co35] rfl (by (try simp only [List.map_toArray, List.map_cons, List.map_nil]); first | done | rfl | (simp only [List.length_drop, List.length_take]; rfl)) ?_; (with_reducible refine (keys_inputs.calls k2 a0 _ _ x6_1 _ _ x7_2 t156 _ ?side1 ?side2 ?side3 ?side4 A34.out).mono ?_); (case side1 => repeat (first | exact (Kd.R_reads' HO_6.out).2.2 | (with_reducible refine Kd.C_alloc ?_ _) | (with_reducible refine Kd.C_drewN ?_ _) | (with_reducible refine Kd.C_drew ?_))); (case side2 => exact (Kd.R_reads' HO_6.out).2.1); (case side3 => repeat (first | exact (Kd.R_reads' HO_7.out).2.2 | (with_reducible refine Kd.C_alloc ?_ _) | (with_reducible refine Kd.C_drewN ?_ _) | (with_reducible refine Kd.C_drew ?_))); (case side4 => exact (Kd.R_reads' HO_7.out).2.1); rintro e w36 ⟨v157, rfl, ho0, hb⟩; refine ⟨_, rfl, ?_⟩; have n0_ := Aside0.mk (Kd.R_below (by (with_reducible repeat (first | apply Kd.R_alloc | apply Kd.R_drewN | apply Kd.R_drew)); exact HO_6.out) hb); have n1_ := Aside0.mk (Kd.R_below (by (with_reducible repeat (first | apply Kd.R_alloc | apply Kd.R_drewN | apply Kd.R_drew)); exact HO_7.out) hb); have n2_ := Aside0.mk (Kd.R_lower ho0 (below_size (by repeat (first | (with_reducible first | exact HB.out | apply below_alloc | apply pw_below_drewN | apply below_drew1) | exact HB.out)))); have n3_ := Aside0.mk (below_step (by repeat (first | (with_reducible first | exact HB.out | apply below_alloc | apply pw_below_drewN | apply below_drew1) | exact HB.out)) hb); clear HO_6; clear HO_7; clear HB; have HO_6 := n0_; have HO_7 := n1_; have HO158 := n2_; have HB := n3_; clear n0_ n1_ n2_ n3_; (try clear hb); (try clear hb2); (try clear hk); (try clear hi); (try clear ho0)))
                go_ret2
                exact ⟨_, by first | rfl | (simp [errW_none, errW_some] <;> rfl) | (simp [*, errW_none, errW_some] <;> rfl), by (with_reducible repeat (first | apply Kd.R_alloc | apply Kd.R_drewN | apply Kd.R_drew)); exact HO158.out, by repeat (first | (with_reducible first | exact HB.out | apply below_alloc | apply pw_below_drewN | apply below_drew1) | exact HB.out)⟩
        · rw [if_neg c11] at H
          have c11b0 : (t155 == 0) = false := beq_eq_false_iff_ne.mpr c11
          have c11b1 : (t155 != 0) = true := bne_iff_ne.mpr c11
          simp only [Option.some.injEq, Prod.mk.injEq] at H
          obtain ⟨rfl, rfl⟩ := H
          obtain ⟨Ao37, co37, eo37⟩ := Kd.R_slice HO_6.out
          subst eo37
          go_wp2_with (first | ((with_reducible refine gate_callee (f := 64) rfl ?_); refine goesL_ (some 27) rfl rfl Try.func64 (by kernel_rfl) rfl #[.slice Ao37 x6_1.length co37] rfl (by (try simp only [List.map_toArray, List.map_cons, List.map_nil]); first | done | rfl | (simp only [List.length_drop, List.length_take]; rfl)) ?_; (with_reducible refine (keys_times.calls k1 _ _ x6_1 t155 _ ?side1 ?side2 A10.out).mono ?_); (case side1 => repeat (first | exact (Kd.R_reads' HO_6.out).2.2 | (with_reducible refine Kd.C_alloc ?_ _) | (with_reducible refine Kd.C_drewN ?_ _) | (with_reducible refine Kd.C_drew ?_))); (case side2 => exact (Kd.R_reads' HO_6.out).2.1); rintro e w' ⟨rfl, ⟨nd, rfl⟩⟩; refine ⟨_, rfl, ?_⟩))
          go_ret2
          exact ⟨_, by first | rfl | (simp [errW_none, errW_some] <;> rfl) | (simp [*, errW_none, errW_some] <;> rfl), by first | exact Kd.R_nil _ _ _ _ _ | exact Kd.N_nil _ _ _ _ _ | exact Kd.V_nil _ _ _ _ _ | exact Kd.Q_nil _ _ _ _ _ | exact Kd.S_nil _ _ _ _ _, by repeat (first | (with_reducible first | exact HB.out | apply below_alloc | apply pw_below_drewN | apply below_drew1) | exact HB.out)⟩

end Go.Proofs.Ytcicoedgjoploaa.PK
