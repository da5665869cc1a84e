-- An own text of this claim, written by wip/tools/surro.py over the kit's print.
import Derived.Test.YtcicoedgjoploaaPKx0
import Derived.Test.YtcicoedgjoploaaPKx4
import Derived.Test.YtcicoedgjoploaaPKx5
namespace Go.Proofs.Ytcicoedgjoploaa.PK
open Go.RowKit Go.Proofs.YtcicoedgjoploaaW.PrintWords Go.Proofs.YtcicoedgjoploaaW.PrintLast Go.Proofs.YtcicoedgjoploaaW.PrintMore
attribute [local go_sem] max2_int min2_int max_two min_two max_three min_three max_four min_four   -- for this text's walks alone
set_option linter.unusedVariables false
set_option linter.unusedSimpArgs false

theorem R_int_ok {κ : IntKind} {e : Nat} {w : World} {base : Nat} {ok ok' : Nat → Prop} {v : Value} {xs : List Int} (h : Kd.R (Kd.int κ) e w base ok v xs) (hok : ∀ k, v.ownBlock = some k → ok' k) : Kd.R (Kd.int κ) e w base ok' v xs := ⟨hok, h.2⟩

/-! ### keys_Joy: function 26 -/
mutual
def keys_Joy.l0 : Nat → ByteArray → List (S59) → List Int → List (S59) → Int → Int → Option ((List (S62)) × Int)
  | 0, _, _, _, _, _, _ => none
  | k + 1, x0, x1, x6, x14, x15, x16 => if x16 < x15 then (if 0 ≤ x16 then (if x16 < (x14.length : Int) then (if x6.length < 17592186044416 then (keys_Joy.l0 k x0 x1 (x6 ++ [(rd_T59 x14 x16).f0]) x14 x15 (wrap64 (x16 + 1))) else (none)) else (none)) else (none)) else ((keys_times.f k x6).bind fun t130 => (if t130 = 0 then (keys_Joy.l1 k x0 x6 ([] : List Int) x1 (x1.length : Int) 0) else (some (([] : List (S62)), t130))))
def keys_Joy.l1 : Nat → ByteArray → List Int → List Int → List (S59) → Int → Int → Option ((List (S62)) × Int)
  | 0, _, _, _, _, _, _ => none
  | k + 1, x0, x6, x7, x31, x32, x33 => if x33 < x32 then (if 0 ≤ x33 then (if x33 < (x31.length : Int) then (if ((rd_T59 x31 x33).f1) < (-1) then (keys_Joy.j2 k x0 x6 x7 x31 x32 x33 true ((rd_T59 x31 x33).f0) ((rd_T59 x31 x33).f1) ((rd_T59 x31 x33).f2) ((rd_T59 x31 x33).f3)) else (if ((rd_T59 x31 x33).f1) > 1 then (keys_Joy.j2 k x0 x6 x7 x31 x32 x33 true ((rd_T59 x31 x33).f0) ((rd_T59 x31 x33).f1) ((rd_T59 x31 x33).f2) ((rd_T59 x31 x33).f3)) else (if ((rd_T59 x31 x33).f2) < (-1) then (keys_Joy.j2 k x0 x6 x7 x31 x32 x33 true ((rd_T59 x31 x33).f0) ((rd_T59 x31 x33).f1) ((rd_T59 x31 x33).f2) ((rd_T59 x31 x33).f3)) else (keys_Joy.j2 k x0 x6 x7 x31 x32 x33 (decide (((rd_T59 x31 x33).f2) > 1)) ((rd_T59 x31 x33).f0) ((rd_T59 x31 x33).f1) ((rd_T59 x31 x33).f2) ((rd_T59 x31 x33).f3))))) else (none)) else (none)) else ((keys_inputs.f k x0 x6 x7).bind fun t131 => (some (t131, 0)))
def keys_Joy.j2 : Nat → ByteArray → List Int → List Int → List (S59) → Int → Int → Bool → Int → Int → Int → Bool → Option ((List (S62)) × Int)
  | 0, _, _, _, _, _, _, _, _, _, _, _ => none
  | k + 1, x0, x6, x7, x31, x32, x33, x54, x136000, x136001, x136002, x136003 => if x54 = true then (some (([] : List (S62)), 1)) else ((some (([1, 0, 2] : List Int) : List Int)).bind fun y136 => (if 0 ≤ (wrap64 (x136001 + 1)) then (if (wrap64 (x136001 + 1)) < (y136.length : Int) then ((some (([4, 0, 8] : List Int) : List Int)).bind fun y140 => (if 0 ≤ (wrap64 (x136002 + 1)) then (if (wrap64 (x136002 + 1)) < (y140.length : Int) then (if x136003 = true then (if x7.length < 17592186044416 then (keys_Joy.l1 k x0 x6 (x7 ++ [Go.bits .or .i64 (Go.bits .or .i64 (rd y136 (wrap64 (x136001 + 1))) (rd y140 (wrap64 (x136002 + 1)))) 16]) x31 x32 (wrap64 (x33 + 1))) else (none)) else (if x7.length < 17592186044416 then (keys_Joy.l1 k x0 x6 (x7 ++ [Go.bits .or .i64 (rd y136 (wrap64 (x136001 + 1))) (rd y140 (wrap64 (x136002 + 1)))]) x31 x32 (wrap64 (x33 + 1))) else (none))) else (none)) else (none))) else (none)) else (none)))
end
def keys_Joy.f (k : Nat) (a0 : ByteArray) (l1 : List (S59)) : Option ((List (S62)) × Int) := keys_Joy.l0 k a0 l1 ([] : List Int) l1 (l1.length : Int) 0
theorem keys_Joy.mono_l : ∀ k, (∀ y0 y1 y2 y3 y4 y5, LeO (keys_Joy.l0 k y0 y1 y2 y3 y4 y5) (keys_Joy.l0 (k + 1) y0 y1 y2 y3 y4 y5)) ∧ (∀ y0 y1 y2 y3 y4 y5, LeO (keys_Joy.l1 k y0 y1 y2 y3 y4 y5) (keys_Joy.l1 (k + 1) y0 y1 y2 y3 y4 y5)) ∧ (∀ y0 y1 y2 y3 y4 y5 y6 y7 y8 y9 y10, LeO (keys_Joy.j2 k y0 y1 y2 y3 y4 y5 y6 y7 y8 y9 y10) (keys_Joy.j2 (k + 1) y0 y1 y2 y3 y4 y5 y6 y7 y8 y9 y10))
  | 0 => ⟨fun _ _ _ _ _ _ r h => by simp [keys_Joy.l0] at h, fun _ _ _ _ _ _ r h => by simp [keys_Joy.l1] at h, fun _ _ _ _ _ _ _ _ _ _ _ r h => by simp [keys_Joy.j2] at h⟩
  | k + 1 => by
    obtain ⟨ih0, ih1, ih2⟩ := keys_Joy.mono_l k
    refine ⟨?_, ?_, ?_⟩
    · intro y0 y1 y2 y3 y4 y5
      unfold keys_Joy.l0
      repeat' first
      | (with_reducible exact ih0 _ _ _ _ _ _)
      | (with_reducible exact ih1 _ _ _ _ _ _)
      | (with_reducible exact ih2 _ _ _ _ _ _ _ _ _ _ _)
      | (with_reducible exact keys_inputs.mono _ _ _ _)
      | (with_reducible exact keys_times.mono _ _)
      | (with_reducible exact LeO.refl _)
      | (with_reducible exact LeO.none _)
      | (with_reducible refine LeO.ite ?_ ?_)
      | (with_reducible refine LeO.bind ?_ (fun _ => ?_))
      | exact ih0 _ _ _ _ _ _
      | exact ih1 _ _ _ _ _ _
      | exact ih2 _ _ _ _ _ _ _ _ _ _ _
      | exact keys_inputs.mono _ _ _ _
      | exact keys_times.mono _ _
      | exact LeO.none _
      | refine LeO.ite ?_ ?_
      | refine LeO.bind ?_ (fun _ => ?_)
    · intro y0 y1 y2 y3 y4 y5
      unfold keys_Joy.l1
      repeat' first
      | (with_reducible exact ih0 _ _ _ _ _ _)
      | (with_reducible exact ih1 _ _ _ _ _ _)
      | (with_reducible exact ih2 _ _ _ _ _ _ _ _ _ _ _)
      | (with_reducible exact keys_inputs.mono _ _ _ _)
      | (with_reducible exact keys_times.mono _ _)
      | (with_reducible exact LeO.refl _)
      | (with_reducible exact LeO.none _)
      | (with_reducible refine LeO.ite ?_ ?_)
      | (with_reducible refine LeO.bind ?_ (fun _ => ?_))
      | exact ih0 _ _ _ _ _ _
      | exact ih1 _ _ _ _ _ _
      | exact ih2 _ _ _ _ _ _ _ _ _ _ _
      | exact keys_inputs.mono _ _ _ _
      | exact keys_times.mono _ _
      | exact LeO.none _
      | refine LeO.ite ?_ ?_
      | refine LeO.bind ?_ (fun _ => ?_)
    · intro y0 y1 y2 y3 y4 y5 y6 y7 y8 y9 y10
      unfold keys_Joy.j2
      repeat' first
      | (with_reducible exact ih0 _ _ _ _ _ _)
      | (with_reducible exact ih1 _ _ _ _ _ _)
      | (with_reducible exact ih2 _ _ _ _ _ _ _ _ _ _ _)
      | (with_reducible exact keys_inputs.mono _ _ _ _)
      | (with_reducible exact keys_times.mono _ _)
      | (with_reducible exact LeO.refl _)
      | (with_reducible exact LeO.none _)
      | (with_reducible refine LeO.ite ?_ ?_)
      | (with_reducible refine LeO.bind ?_ (fun _ => ?_))
      | exact ih0 _ _ _ _ _ _
      | exact ih1 _ _ _ _ _ _
      | exact ih2 _ _ _ _ _ _ _ _ _ _ _
      | exact keys_inputs.mono _ _ _ _
      | exact keys_times.mono _ _
      | exact LeO.none _
      | refine LeO.ite ?_ ?_
      | refine LeO.bind ?_ (fun _ => ?_)
theorem keys_Joy.mono : ∀ a0 a1 k, LeO (keys_Joy.f k a0 a1) (keys_Joy.f (k + 1) a0 a1) := by
  intro a0 a1 k
  obtain ⟨ih0, ih1, ih2⟩ := keys_Joy.mono_l k
  unfold keys_Joy.f
  repeat' first
      | (with_reducible exact ih0 _ _ _ _ _ _)
      | (with_reducible exact ih1 _ _ _ _ _ _)
      | (with_reducible exact ih2 _ _ _ _ _ _ _ _ _ _ _)
      | (with_reducible exact keys_inputs.mono _ _ _ _)
      | (with_reducible exact keys_times.mono _ _)
      | (with_reducible exact LeO.refl _)
      | (with_reducible exact LeO.none _)
      | (with_reducible refine LeO.ite ?_ ?_)
      | (with_reducible refine LeO.bind ?_ (fun _ => ?_))
      | exact ih0 _ _ _ _ _ _
      | exact ih1 _ _ _ _ _ _
      | exact ih2 _ _ _ _ _ _ _ _ _ _ _
      | exact keys_inputs.mono _ _ _ _
      | exact keys_times.mono _ _
      | exact LeO.none _
      | refine LeO.ite ?_ ?_
      | refine LeO.bind ?_ (fun _ => ?_)
def keys_Joy.T15 : Bool × List (List Nat × List Nat) := (true, [([], []), ([], []), ([1], [1]), ([2], [2]), ([0, 3], [0, 3]), ([4], [4]), ([], []), ([], []), ([7], [7]), ([8], [8]), ([6, 9], [6, 9]), ([10], [10]), ([5, 11], [5, 11]), ([12, 0, 1, 2, 3, 4, 5, 6, 7, 8, 9, 10, 11, 12], [12])])
def keys_Joy.B15 : List Nat := [0, 0, 2, 6, 15, 31, 0, 0, 128, 384, 960, 1984, 4095, 8191]
theorem keys_Joy.tab15 : rtab .any (opsOf Try.f26 15) = keys_Joy.T15 := by kernel_rfl
theorem keys_Joy.bits15 : waitsOk keys_Joy.T15.2 keys_Joy.B15 = true := by kernel_rfl
set_option maxHeartbeats 8000000 in
set_option maxRecDepth 100000 in
theorem keys_Joy.calls (k : Nat) (a0 : ByteArray) (A1 : Option Addr) (c1 : Nat) (l1 : List (S59)) (r1 : List (S62)) (r2 : Int) (w : World) (hr1 : Kd.C k59 w A1 l1.length l1) (hc1 : l1.length ≤ c1) (h : keys_Joy.f k a0 l1 = some (r1, r2)) :
    Calls Try.prog 26 #[.string a0, .slice A1 l1.length c1] w fun e w' => ∃ v0_ : Value, e = .returned (.tuple #[v0_, .int .i64 r2]) ∧ Kd.R k62 62 w' w.heap.size (fun _ => True) v0_ r1 ∧ Below w.heap.size w w' := by
  have hu59 := Try.underlying59
  have HR1 := Aside0.mk hr1
  have HC1 := Aside0.mk hc1
  clear hr1 hc1
  have HB := Aside0.mk (Below.refl w.heap.size w)
  have H : (keys_Joy.l0 k a0 l1 ([] : List Int) l1 (l1.length : Int) 0) = some (r1, r2) := h
  clear h
  have H' := Aside0.mk H
  clear H
  go_enter Try.func26, Try.ntmps26
  go_wp2
  go_loopg [6, 16] k (fun kq v6 v16 w' => ∃ (x6_1 : List Int) (x16_1 : Int), v16 = .int .i64 x16_1 ∧ Aside0 (keys_Joy.l0 kq a0 l1 x6_1 l1 (l1.length : Int) x16_1 = some (r1, r2)) ∧ Aside0 (kq ≤ k) ∧ Aside0 (Kd.R (Kd.int .i64) 3 w' w.heap.size (fun _ => True) v6 x6_1) ∧ Aside0 (Below w.heap.size w w'))
  case atStart => exact ⟨(([] : List Int)), (0), (by first | rfl | (simp; done) | (simp [*]; done)), H', ⟨Nat.le_refl _⟩, ⟨by first | exact Kd.R_nil _ _ _ _ _ | exact Kd.N_nil _ _ _ _ _ | exact Kd.V_nil _ _ _ _ _ | exact Kd.Q_nil _ _ _ _ _ | exact Kd.S_nil _ _ _ _ _⟩, ⟨by repeat (first | (with_reducible first | exact HB.out | apply below_alloc | apply pw_below_drewN | apply below_drew1) | exact HB.out)⟩⟩
  case round =>
    clear H'
    try clear c1
    try clear c2
    try clear p2
    obtain ⟨x6_1, x16_1, rfl, HA, HK1, HO_6, HB⟩ := hrel
    cases gk with
    | zero => exact absurd HA.out (by simp [keys_Joy.l0])
    | succ k1 =>
      have H := HA.out
      clear HA
      simp only [keys_Joy.l0] at H
      by_cases c3 : x16_1 < (l1.length : Int)
      · rw [if_pos c3] at H
        have c3b0 : decide (x16_1 < (l1.length : Int)) = true := decide_eq_true c3
        clear c3
        by_cases c4 : 0 ≤ x16_1
        · rw [if_pos c4] at H
          have c4b0 : decide (0 ≤ x16_1) = true := decide_eq_true c4
          clear c4
          by_cases c5 : x16_1 < (l1.length : Int)
          · rw [if_pos c5] at H
            have c5b0 : decide (x16_1 < (l1.length : Int)) = true := decide_eq_true c5
            clear c5
            by_cases c6 : x6_1.length < 17592186044416
            · rw [if_pos c6] at H
              have LMc6 := Aside0.mk c6
              clear c6
              obtain ⟨y127, hy127⟩ : ∃ y_ : List Int, y_ = (x6_1 ++ [(rd_T59 l1 x16_1).f0]) := ⟨_, rfl⟩
              replace H : (keys_Joy.l0 k1 a0 l1 y127 l1 (l1.length : Int) (wrap64 (x16_1 + 1))) = some (r1, r2) := by first | (rw [hy127]; with_reducible exact H) | (have H2_ := (Option.bind_some _ _).symm.trans H; rw [hy127]; with_reducible exact H2_) | (have H2_ := (Option.bind_some _ _).symm.trans H; with_reducible exact H2_) | with_reducible exact H | (rw [hy127]; exact H) | exact H
              have Ny127 := Aside0.mk hy127
              clear hy127
              have H' := Aside0.mk H
              clear H
              have p125 : 0 ≤ (x16_1 : Int) := of_decide_eq_true (by first | (with_reducible assumption) | assumption)
              have q125 : x16_1 < (l1.length : Int) := of_decide_eq_true (by first | (with_reducible assumption) | assumption)
              obtain ⟨ad125, e125, hx125_0, hx125_1, hx125_2, hx125_3⟩ := at_T59 HR1.out x16_1 p125 q125
              cases e125
              replace hx125_0 := (HB.out.cell (World.block_lt_of_cell? w _ hx125_0)).trans hx125_0
              replace hx125_1 := (HB.out.cell (World.block_lt_of_cell? w _ hx125_1)).trans hx125_1
              replace hx125_2 := (HB.out.cell (World.block_lt_of_cell? w _ hx125_2)).trans hx125_2
              replace hx125_3 := (HB.out.cell (World.block_lt_of_cell? w _ hx125_3)).trans hx125_3
              replace p125 := eq_true p125
              replace q125 := eq_true q125
              go_wp2_with (first | ((with_reducible refine gate_dst (N := 9) rfl ?_); refine box_event ?hg (N := 9) ?hd (cs := #[.int .i64 0, .int .i64 0, .int .i64 0, .bool false]) (t := 59) ?hr ?_; (case hd => rfl); (case hg => rfl); (case hr => first | (go_simp; done) | (go_simp; rfl)); intro gb126 hg w7 hbox hb; have n0_ := Aside0.mk (Kd.R_below (by (with_reducible repeat (first | apply Kd.R_alloc | apply Kd.R_drewN | apply Kd.R_drew)); exact HO_6.out) hb); have n1_ := Aside0.mk (below_step (by repeat (first | (with_reducible first | exact HB.out | apply below_alloc | apply pw_below_drewN | apply below_drew1) | exact HB.out)) hb); have n2_ := Aside0.mk (hbox); have n3_ := Aside0.mk ((by rw [hg]; exact (below_size (by repeat (first | (with_reducible first | exact HB.out | apply below_alloc | apply pw_below_drewN | apply below_drew1) | exact HB.out))) : w.heap.size ≤ gb126)); have n4_ := Aside0.mk ((by rw [hg]; exact (below_size (by repeat (first | (with_reducible first | exact HB.out | apply below_alloc | apply pw_below_drewN | apply below_drew1) | exact HB.out))) : w.heap.size ≤ gb126)); clear HO_6; clear HB; have HO_6 := n0_; have HB := n1_; have BK126 := n2_; have GW126 := n3_; have GE126 := n4_; clear n0_ n1_ n2_ n3_ n4_; clear hb hbox hg; have hcz8_0 : w7.cell? ⟨gb126, 0, none⟩ = some (.int .i64 0) := (blk_cell BK126.out 0).trans rfl; have hcz8_1 : w7.cell? ⟨gb126, 1, none⟩ = some (.int .i64 0) := (blk_cell BK126.out 1).trans rfl; have hcz8_2 : w7.cell? ⟨gb126, 2, none⟩ = some (.int .i64 0) := (blk_cell BK126.out 2).trans rfl; have hcz8_3 : w7.cell? ⟨gb126, 3, none⟩ = some (.bool false) := (blk_cell BK126.out 3).trans rfl; have hfz8_0 := blk_frozen BK126.out 0; have hfz8_1 := blk_frozen BK126.out 1; have hfz8_2 := blk_frozen BK126.out 2; have hfz8_3 := blk_frozen BK126.out 3) | ((with_reducible refine gate_builtin (b := .append) (xs := #[.tmp 20, .tmp 23]) rfl ?_); at_builtin; refine Kd.R_append (Kd.int .i64) (w0 := w) w.heap.size rfl (.tmp 20) (.tmp 23) 22 3 (.int .i64 0) 8 rfl Try.underlying22 info3 rfl (by decide) (by omega) u6 x6_1 ((rd_T59 l1 x16_1).f0) [.int .i64 ((rd_T59 l1 x16_1).f0)] (fun _ => True) (fun _ => False) rfl (by first | (go_simp; done) | (go_simp; rfl)) ?aP (fun _ hk => hk.elim) ?aF ?aO ?aB ?aS ?aL ?_; (case aP => exact rfl); (case aB => exact (by repeat (first | (with_reducible first | exact HB.out | apply below_alloc | apply pw_below_drewN | apply below_drew1 | refine below_set ?_ GE126.out) | exact HB.out))); (case aF => exact (fun _ _ => trivial)); (case aO => exact (by (with_reducible repeat (first | apply Kd.R_alloc | apply Kd.R_drewN | apply Kd.R_drew)); exact Kd.R_mono (Kd.R_far (p := ⟨gb126, 3, none⟩) (Kd.R_far (p := ⟨gb126, 2, none⟩) (Kd.R_far (p := ⟨gb126, 1, none⟩) (Kd.R_far (p := ⟨gb126, 0, none⟩) (Kd.R_types HO_6.out BK126.out (by decide)) (fun _ hk => hk.2) (.int .i64 ((rd_T59 l1 x16_1).f0))) (fun _ hk => hk.2) (.int .i64 ((rd_T59 l1 x16_1).f1))) (fun _ hk => hk.2) (.int .i64 ((rd_T59 l1 x16_1).f2))) (fun _ hk => hk.2) (.bool ((rd_T59 l1 x16_1).f3))) (fun _ hk => trivial))); (case aS => exact (below_size (by repeat (first | (with_reducible first | exact HB.out | apply below_alloc | apply pw_below_drewN | apply below_drew1 | refine below_set ?_ GE126.out) | exact HB.out)))); (case aL => have := LMc6.out; omega); intro v128 w9 ho hb hg hat; rw [← Ny127.out] at ho; have n0_ := Aside0.mk (blk_grown (g := gb126) (o := .cells #[.int .i64 ((rd_T59 l1 x16_1).f0), .int .i64 ((rd_T59 l1 x16_1).f1), .int .i64 ((rd_T59 l1 x16_1).f2), .bool ((rd_T59 l1 x16_1).f3)] 59 (0, 0)) (by (with_reducible repeat (first | refine blk_drewN ?_ _ | refine blk_drew ?_ | refine blk_alloc ?_ _)); refine blk_put (cs := #[.int .i64 ((rd_T59 l1 x16_1).f0), .int .i64 ((rd_T59 l1 x16_1).f1), .int .i64 ((rd_T59 l1 x16_1).f2), .bool false]) ?_ 3 _ rfl; (with_reducible repeat (first | refine blk_drewN ?_ _ | refine blk_drew ?_ | refine blk_alloc ?_ _)); refine blk_put (cs := #[.int .i64 ((rd_T59 l1 x16_1).f0), .int .i64 ((rd_T59 l1 x16_1).f1), .int .i64 0, .bool false]) ?_ 2 _ rfl; (with_reducible repeat (first | refine blk_drewN ?_ _ | refine blk_drew ?_ | refine blk_alloc ?_ _)); refine blk_put (cs := #[.int .i64 ((rd_T59 l1 x16_1).f0), .int .i64 0, .int .i64 0, .bool false]) ?_ 1 _ rfl; (with_reducible repeat (first | refine blk_drewN ?_ _ | refine blk_drew ?_ | refine blk_alloc ?_ _)); refine blk_put (cs := #[.int .i64 0, .int .i64 0, .int .i64 0, .bool false]) ?_ 0 _ rfl; (with_reducible repeat (first | refine blk_drewN ?_ _ | refine blk_drew ?_ | refine blk_alloc ?_ _)); exact BK126.out) hg (Kd.R_ne HO_6.out BK126.out (by decide))); have n1_ := Aside0.mk (hb); have n2_ := Aside0.mk (ho); clear BK126; clear HB; clear HO_6; have BK126 := n0_; have HB := n1_; have HO129 := n2_; clear n0_ n1_ n2_; clear ho hb hg hat))
              go_roundg k1
              case measure => have := HK1.out; omega
              case rel => exact ⟨(y127), (wrap64 (x16_1 + 1)), (by first | rfl | (simp; done) | (simp [*]; done)), H', ⟨by have := HK1.out; omega⟩, ⟨by (with_reducible repeat (first | apply Kd.R_alloc | apply Kd.R_drewN | apply Kd.R_drew)); exact HO129.out⟩, ⟨by repeat (first | (with_reducible first | exact HB.out | apply below_alloc | apply pw_below_drewN | apply below_drew1 | refine below_set ?_ GE126.out) | exact HB.out)⟩⟩
            · rw [if_neg c6] at H
              exact absurd H (by simp)
          · rw [if_neg c5] at H
            exact absurd H (by simp)
        · rw [if_neg c4] at H
          exact absurd H (by simp)
      · rw [if_neg c3] at H
        have c3b0 : decide (x16_1 < (l1.length : Int)) = false := decide_eq_false c3
        clear c3
        replace H := Option.bind_eq_some_iff.mp H
        obtain ⟨t130, A100, H⟩ := H
        replace H : (if t130 = 0 then (keys_Joy.l1 k1 a0 x6_1 ([] : List Int) l1 (l1.length : Int) 0) else (some (([] : List (S62)), t130))) = some (r1, r2) := H
        have A10 := Aside0.mk A100
        clear A100
        by_cases c11 : t130 = 0
        · rw [if_pos c11] at H
          have c11b0 : (t130 == 0) = true := beq_iff_eq.mpr c11
          have c11b1 : (t130 != 0) = false := bne_eq_false_iff_eq.mpr c11
          clear c11
          have H' := Aside0.mk H
          clear H
          obtain ⟨Ao12, co12, eo12⟩ := Kd.R_slice HO_6.out
          subst eo12
          go_wp2_with (first | ((with_reducible refine gate_callee (f := 64) rfl ?_); refine goesL_ (some 27) rfl rfl Try.func64 (by kernel_rfl) rfl #[.slice Ao12 x6_1.length co12] rfl (by (try simp only [List.map_toArray, List.map_cons, List.map_nil]); first | done | rfl | (simp only [List.length_drop, List.length_take]; rfl)) ?_; (with_reducible refine (keys_times.calls k1 _ _ x6_1 t130 _ ?side1 ?side2 A10.out).mono ?_); (case side1 => repeat (first | exact (Kd.R_reads' HO_6.out).2.2 | (with_reducible refine Kd.C_alloc ?_ _) | (with_reducible refine Kd.C_drewN ?_ _) | (with_reducible refine Kd.C_drew ?_))); (case side2 => exact (Kd.R_reads' HO_6.out).2.1); rintro e w' ⟨rfl, ⟨nd, rfl⟩⟩; refine ⟨_, rfl, ?_⟩))
          go_loopg [7, 33] k1 (fun kq v7 v33 w' => ∃ (x7_2 : List Int) (x33_2 : Int), v33 = .int .i64 x33_2 ∧ Aside0 (keys_Joy.l1 kq a0 x6_1 x7_2 l1 (l1.length : Int) x33_2 = some (r1, r2)) ∧ Aside0 (kq ≤ k1) ∧ Aside0 (Kd.R (Kd.int .i64) 3 w' w.heap.size (fun k_ => some k_ ≠ (v7 : Value).ownBlock) (.slice Ao12 x6_1.length co12) x6_1) ∧ Aside0 (Kd.R (Kd.int .i64) 3 w' w.heap.size (fun k_ => some k_ ≠ ((.slice Ao12 x6_1.length co12) : Value).ownBlock) v7 x7_2) ∧ Aside0 (Below w.heap.size w w'))
          case atStart => exact ⟨(([] : List Int)), (0), (by first | rfl | (simp; done) | (simp [*]; done)), H', ⟨Nat.le_refl _⟩, ⟨by (with_reducible repeat (first | apply Kd.R_alloc | apply Kd.R_drewN | apply Kd.R_drew)); exact Kd.R_mono HO_6.out (fun _ hk => (by simp [Value.ownBlock]))⟩, ⟨by first | exact Kd.R_nil _ _ _ _ _ | exact Kd.N_nil _ _ _ _ _ | exact Kd.V_nil _ _ _ _ _ | exact Kd.Q_nil _ _ _ _ _ | exact Kd.S_nil _ _ _ _ _⟩, ⟨by repeat (first | (with_reducible first | exact HB.out | apply below_alloc | apply pw_below_drewN | apply below_drew1) | exact HB.out)⟩⟩
          case round =>
            clear H'
            try clear c1
            try clear p1
            try clear q1
            try clear hx1
            try clear c2
            try clear p2
            try clear c3
            try clear c3b0
            try clear c4
            try clear c4b0
            try clear c5
            try clear c5b0
            try clear c6
            try clear p6
            try clear c11
            try clear c11b0
            try clear c11b1
            try clear p12
            try clear q12
            try clear hx12
            try clear hcz8_0
            try clear hcz8_1
            try clear hcz8_2
            try clear hcz8_3
            try clear hfz8_0
            try clear hfz8_1
            try clear hfz8_2
            try clear hfz8_3
            try clear hx125_0
            try clear hx125_1
            try clear hx125_2
            try clear hx125_3
            try clear p125
            try clear p2
            try clear q125
            obtain ⟨x7_2, x33_2, rfl, HA, HK2, HO_6, HO_7, HB⟩ := hrel
            cases gk with
            | zero => exact absurd HA.out (by simp [keys_Joy.l1])
            | succ k2 =>
              have H := HA.out
              clear HA
              simp only [keys_Joy.l1] at H
              by_cases c13 : x33_2 < (l1.length : Int)
              · rw [if_pos c13] at H
                have c13b0 : decide (x33_2 < (l1.length : Int)) = true := decide_eq_true c13
                clear c13
                by_cases c14 : 0 ≤ x33_2
                · rw [if_pos c14] at H
                  have c14b0 : decide (0 ≤ x33_2) = true := decide_eq_true c14
                  clear c14
                  by_cases c15 : x33_2 < (l1.length : Int)
                  · rw [if_pos c15] at H
                    have c15b0 : decide (x33_2 < (l1.length : Int)) = true := decide_eq_true c15
                    clear c15
                    have HC16 := Aside0.mk H
                    clear H
                    have p134 : 0 ≤ (x33_2 : Int) := of_decide_eq_true (by first | (with_reducible assumption) | assumption)
                    have q134 : x33_2 < (l1.length : Int) := of_decide_eq_true (by first | (with_reducible assumption) | assumption)
                    obtain ⟨ad134, e134, hx134_0, hx134_1, hx134_2, hx134_3⟩ := at_T59 HR1.out x33_2 p134 q134
                    cases e134
                    replace hx134_0 := (HB.out.cell (World.block_lt_of_cell? w _ hx134_0)).trans hx134_0
                    replace hx134_1 := (HB.out.cell (World.block_lt_of_cell? w _ hx134_1)).trans hx134_1
                    replace hx134_2 := (HB.out.cell (World.block_lt_of_cell? w _ hx134_2)).trans hx134_2
                    replace hx134_3 := (HB.out.cell (World.block_lt_of_cell? w _ hx134_3)).trans hx134_3
                    replace p134 := eq_true p134
                    replace q134 := eq_true q134
                    go_upto_region 13 with (first | ((with_reducible refine gate_dst (N := 12) rfl ?_); refine box_event ?hg (N := 12) ?hd (cs := #[.int .i64 0, .int .i64 0, .int .i64 0, .bool false]) (t := 59) ?hr ?_; (case hd => rfl); (case hg => rfl); (case hr => first | (go_simp; done) | (go_simp; rfl)); intro gb135 hg w17 hbox hb; have n0_ := Aside0.mk (Kd.R_below (by (with_reducible repeat (first | apply Kd.R_alloc | apply Kd.R_drewN | apply Kd.R_drew)); exact HO_6.out) hb); have n1_ := Aside0.mk (Kd.R_below (by (with_reducible repeat (first | apply Kd.R_alloc | apply Kd.R_drewN | apply Kd.R_drew)); exact HO_7.out) hb); have n2_ := Aside0.mk (below_step (by repeat (first | (with_reducible first | exact HB.out | apply below_alloc | apply pw_below_drewN | apply below_drew1) | exact HB.out)) hb); have n3_ := Aside0.mk (hbox); have n4_ := Aside0.mk ((by rw [hg]; exact (below_size (by repeat (first | (with_reducible first | exact HB.out | apply below_alloc | apply pw_below_drewN | apply below_drew1) | exact HB.out))) : w.heap.size ≤ gb135)); have n5_ := Aside0.mk ((by rw [hg]; exact (below_size (by repeat (first | (with_reducible first | exact HB.out | apply below_alloc | apply pw_below_drewN | apply below_drew1) | exact HB.out))) : w.heap.size ≤ gb135)); clear HO_6; clear HO_7; clear HB; have HO_6 := n0_; have HO_7 := n1_; have HB := n2_; have BK135 := n3_; have GW135 := n4_; have GE135 := n5_; clear n0_ n1_ n2_ n3_ n4_ n5_; clear hb hbox hg; have hcz18_0 : w17.cell? ⟨gb135, 0, none⟩ = some (.int .i64 0) := (blk_cell BK135.out 0).trans rfl; have hcz18_1 : w17.cell? ⟨gb135, 1, none⟩ = some (.int .i64 0) := (blk_cell BK135.out 1).trans rfl; have hcz18_2 : w17.cell? ⟨gb135, 2, none⟩ = some (.int .i64 0) := (blk_cell BK135.out 2).trans rfl; have hcz18_3 : w17.cell? ⟨gb135, 3, none⟩ = some (.bool false) := (blk_cell BK135.out 3).trans rfl; have hfz18_0 := blk_frozen BK135.out 0; have hfz18_1 := blk_frozen BK135.out 1; have hfz18_2 := blk_frozen BK135.out 2; have hfz18_3 := blk_frozen BK135.out 3))
                    (try simp only [Act.put, List.setIfInBounds_toArray, List.set_cons_zero, List.set_cons_succ])
                    go_cut [54] (fun v54 wc => ∃ (kq : Nat) (x54_15 : Bool), v54 = .bool x54_15 ∧ Aside0 (keys_Joy.j2 kq a0 x6_1 x7_2 l1 (l1.length : Int) x33_2 x54_15 ((rd_T59 l1 x33_2).f0) ((rd_T59 l1 x33_2).f1) ((rd_T59 l1 x33_2).f2) ((rd_T59 l1 x33_2).f3) = some (r1, r2)) ∧ Aside0 (kq ≤ k2) ∧ Aside0 (Kd.R (Kd.int .i64) 3 wc w.heap.size (fun k_ => some k_ ≠ (u7 : Value).ownBlock) (.slice Ao12 x6_1.length co12) x6_1) ∧ Aside0 (Kd.R (Kd.int .i64) 3 wc w.heap.size (fun k_ => some k_ ≠ ((.slice Ao12 x6_1.length co12) : Value).ownBlock) u7 x7_2) ∧ Aside0 (wc.heap[gb135]? = some (.cells #[.int .i64 ((rd_T59 l1 x33_2).f0), .int .i64 ((rd_T59 l1 x33_2).f1), .int .i64 ((rd_T59 l1 x33_2).f2), .bool ((rd_T59 l1 x33_2).f3)] 59 (0, 0))) ∧ Aside0 (Below w.heap.size w wc))
                    case first =>
                      have H := HC16.out
                      clear HC16
                      by_cases c19 : ((rd_T59 l1 x33_2).f1) < (-1)
                      · rw [if_pos c19] at H
                        have c19b0 : decide (((rd_T59 l1 x33_2).f1) < (-1)) = true := decide_eq_true c19
                        clear c19
                        (first | rw [c19b0] | (simp only [i64_w, i32_w]; rw [c19b0]) | skip)
                        have H' := Aside0.mk H
                        clear H
                        have hcz20_0 : w17.cell? ⟨gb135, 0, none⟩ = some (.int .i64 0) := (blk_cell BK135.out 0).trans rfl
                        have hcz20_1 : w17.cell? ⟨gb135, 1, none⟩ = some (.int .i64 0) := (blk_cell BK135.out 1).trans rfl
                        have hcz20_2 : w17.cell? ⟨gb135, 2, none⟩ = some (.int .i64 0) := (blk_cell BK135.out 2).trans rfl
                        have hcz20_3 : w17.cell? ⟨gb135, 3, none⟩ = some (.bool false) := (blk_cell BK135.out 3).trans rfl
                        have hfz20_0 := blk_frozen BK135.out 0
                        have hfz20_1 := blk_frozen BK135.out 1
                        have hfz20_2 := blk_frozen BK135.out 2
                        have hfz20_3 := blk_frozen BK135.out 3
                        go_wp2
                        go_meet
                        case rel => exact ⟨_, (true), (by first | rfl | (simp; done) | (simp [*]; done)), H', ⟨by have := HK1.out; have := HK2.out; first | omega | exact Nat.le_refl _⟩, ⟨by (with_reducible repeat (first | apply Kd.R_alloc | apply Kd.R_drewN | apply Kd.R_drew)); exact Kd.R_mono (Kd.R_far (p := ⟨gb135, 3, none⟩) (Kd.R_far (p := ⟨gb135, 2, none⟩) (Kd.R_far (p := ⟨gb135, 1, none⟩) (Kd.R_far (p := ⟨gb135, 0, none⟩) (Kd.R_types HO_6.out BK135.out (by decide)) (fun _ hk => hk.2) (.int .i64 ((rd_T59 l1 x33_2).f0))) (fun _ hk => hk.2) (.int .i64 ((rd_T59 l1 x33_2).f1))) (fun _ hk => hk.2) (.int .i64 ((rd_T59 l1 x33_2).f2))) (fun _ hk => hk.2) (.bool ((rd_T59 l1 x33_2).f3))) (fun _ hk => hk.1)⟩, ⟨by (with_reducible repeat (first | apply Kd.R_alloc | apply Kd.R_drewN | apply Kd.R_drew)); exact Kd.R_mono (Kd.R_far (p := ⟨gb135, 3, none⟩) (Kd.R_far (p := ⟨gb135, 2, none⟩) (Kd.R_far (p := ⟨gb135, 1, none⟩) (Kd.R_far (p := ⟨gb135, 0, none⟩) (Kd.R_types HO_7.out BK135.out (by decide)) (fun _ hk => hk.2) (.int .i64 ((rd_T59 l1 x33_2).f0))) (fun _ hk => hk.2) (.int .i64 ((rd_T59 l1 x33_2).f1))) (fun _ hk => hk.2) (.int .i64 ((rd_T59 l1 x33_2).f2))) (fun _ hk => hk.2) (.bool ((rd_T59 l1 x33_2).f3))) (fun _ hk => hk.1)⟩, ⟨by (with_reducible repeat (first | refine blk_drewN ?_ _ | refine blk_drew ?_ | refine blk_alloc ?_ _)); refine blk_put (cs := #[.int .i64 ((rd_T59 l1 x33_2).f0), .int .i64 ((rd_T59 l1 x33_2).f1), .int .i64 ((rd_T59 l1 x33_2).f2), .bool false]) ?_ 3 _ rfl; (with_reducible repeat (first | refine blk_drewN ?_ _ | refine blk_drew ?_ | refine blk_alloc ?_ _)); refine blk_put (cs := #[.int .i64 ((rd_T59 l1 x33_2).f0), .int .i64 ((rd_T59 l1 x33_2).f1), .int .i64 0, .bool false]) ?_ 2 _ rfl; (with_reducible repeat (first | refine blk_drewN ?_ _ | refine blk_drew ?_ | refine blk_alloc ?_ _)); refine blk_put (cs := #[.int .i64 ((rd_T59 l1 x33_2).f0), .int .i64 0, .int .i64 0, .bool false]) ?_ 1 _ rfl; (with_reducible repeat (first | refine blk_drewN ?_ _ | refine blk_drew ?_ | refine blk_alloc ?_ _)); refine blk_put (cs := #[.int .i64 0, .int .i64 0, .int .i64 0, .bool false]) ?_ 0 _ rfl; (with_reducible repeat (first | refine blk_drewN ?_ _ | refine blk_drew ?_ | refine blk_alloc ?_ _)); exact BK135.out⟩, ⟨by repeat (first | (with_reducible first | exact HB.out | apply below_alloc | apply pw_below_drewN | apply below_drew1 | refine below_set ?_ GE135.out) | exact HB.out)⟩⟩
                      · rw [if_neg c19] at H
                        have c19b0 : decide (((rd_T59 l1 x33_2).f1) < (-1)) = false := decide_eq_false c19
                        clear c19
                        (first | rw [c19b0] | (simp only [i64_w, i32_w]; rw [c19b0]) | skip)
                        by_cases c21 : ((rd_T59 l1 x33_2).f1) > 1
                        · rw [if_pos c21] at H
                          have c21b0 : decide (1 < ((rd_T59 l1 x33_2).f1)) = true := decide_eq_true c21
                          clear c21
                          have H' := Aside0.mk H
                          clear H
                          have hcz22_0 : w17.cell? ⟨gb135, 0, none⟩ = some (.int .i64 0) := (blk_cell BK135.out 0).trans rfl
                          have hcz22_1 : w17.cell? ⟨gb135, 1, none⟩ = some (.int .i64 0) := (blk_cell BK135.out 1).trans rfl
                          have hcz22_2 : w17.cell? ⟨gb135, 2, none⟩ = some (.int .i64 0) := (blk_cell BK135.out 2).trans rfl
                          have hcz22_3 : w17.cell? ⟨gb135, 3, none⟩ = some (.bool false) := (blk_cell BK135.out 3).trans rfl
                          have hfz22_0 := blk_frozen BK135.out 0
                          have hfz22_1 := blk_frozen BK135.out 1
                          have hfz22_2 := blk_frozen BK135.out 2
                          have hfz22_3 := blk_frozen BK135.out 3
                          go_wp2
                          go_meet
                          case rel => exact ⟨_, (true), (by first | rfl | (simp; done) | (simp [*]; done)), H', ⟨by have := HK1.out; have := HK2.out; first | omega | exact Nat.le_refl _⟩, ⟨by (with_reducible repeat (first | apply Kd.R_alloc | apply Kd.R_drewN | apply Kd.R_drew)); exact Kd.R_mono (Kd.R_far (p := ⟨gb135, 3, none⟩) (Kd.R_far (p := ⟨gb135, 2, none⟩) (Kd.R_far (p := ⟨gb135, 1, none⟩) (Kd.R_far (p := ⟨gb135, 0, none⟩) (Kd.R_types HO_6.out BK135.out (by decide)) (fun _ hk => hk.2) (.int .i64 ((rd_T59 l1 x33_2).f0))) (fun _ hk => hk.2) (.int .i64 ((rd_T59 l1 x33_2).f1))) (fun _ hk => hk.2) (.int .i64 ((rd_T59 l1 x33_2).f2))) (fun _ hk => hk.2) (.bool ((rd_T59 l1 x33_2).f3))) (fun _ hk => hk.1)⟩, ⟨by (with_reducible repeat (first | apply Kd.R_alloc | apply Kd.R_drewN | apply Kd.R_drew)); exact Kd.R_mono (Kd.R_far (p := ⟨gb135, 3, none⟩) (Kd.R_far (p := ⟨gb135, 2, none⟩) (Kd.R_far (p := ⟨gb135, 1, none⟩) (Kd.R_far (p := ⟨gb135, 0, none⟩) (Kd.R_types HO_7.out BK135.out (by decide)) (fun _ hk => hk.2) (.int .i64 ((rd_T59 l1 x33_2).f0))) (fun _ hk => hk.2) (.int .i64 ((rd_T59 l1 x33_2).f1))) (fun _ hk => hk.2) (.int .i64 ((rd_T59 l1 x33_2).f2))) (fun _ hk => hk.2) (.bool ((rd_T59 l1 x33_2).f3))) (fun _ hk => hk.1)⟩, ⟨by (with_reducible repeat (first | refine blk_drewN ?_ _ | refine blk_drew ?_ | refine blk_alloc ?_ _)); refine blk_put (cs := #[.int .i64 ((rd_T59 l1 x33_2).f0), .int .i64 ((rd_T59 l1 x33_2).f1), .int .i64 ((rd_T59 l1 x33_2).f2), .bool false]) ?_ 3 _ rfl; (with_reducible repeat (first | refine blk_drewN ?_ _ | refine blk_drew ?_ | refine blk_alloc ?_ _)); refine blk_put (cs := #[.int .i64 ((rd_T59 l1 x33_2).f0), .int .i64 ((rd_T59 l1 x33_2).f1), .int .i64 0, .bool false]) ?_ 2 _ rfl; (with_reducible repeat (first | refine blk_drewN ?_ _ | refine blk_drew ?_ | refine blk_alloc ?_ _)); refine blk_put (cs := #[.int .i64 ((rd_T59 l1 x33_2).f0), .int .i64 0, .int .i64 0, .bool false]) ?_ 1 _ rfl; (with_reducible repeat (first | refine blk_drewN ?_ _ | refine blk_drew ?_ | refine blk_alloc ?_ _)); refine blk_put (cs := #[.int .i64 0, .int .i64 0, .int .i64 0, .bool false]) ?_ 0 _ rfl; (with_reducible repeat (first | refine blk_drewN ?_ _ | refine blk_drew ?_ | refine blk_alloc ?_ _)); exact BK135.out⟩, ⟨by repeat (first | (with_reducible first | exact HB.out | apply below_alloc | apply pw_below_drewN | apply below_drew1 | refine below_set ?_ GE135.out) | exact HB.out)⟩⟩
                        · rw [if_neg c21] at H
                          have c21b0 : decide (1 < ((rd_T59 l1 x33_2).f1)) = false := decide_eq_false c21
                          clear c21
                          by_cases c23 : ((rd_T59 l1 x33_2).f2) < (-1)
                          · rw [if_pos c23] at H
                            have c23b0 : decide (((rd_T59 l1 x33_2).f2) < (-1)) = true := decide_eq_true c23
                            clear c23
                            have H' := Aside0.mk H
                            clear H
                            have hcz24_0 : w17.cell? ⟨gb135, 0, none⟩ = some (.int .i64 0) := (blk_cell BK135.out 0).trans rfl
                            have hcz24_1 : w17.cell? ⟨gb135, 1, none⟩ = some (.int .i64 0) := (blk_cell BK135.out 1).trans rfl
                            have hcz24_2 : w17.cell? ⟨gb135, 2, none⟩ = some (.int .i64 0) := (blk_cell BK135.out 2).trans rfl
                            have hcz24_3 : w17.cell? ⟨gb135, 3, none⟩ = some (.bool false) := (blk_cell BK135.out 3).trans rfl
                            have hfz24_0 := blk_frozen BK135.out 0
                            have hfz24_1 := blk_frozen BK135.out 1
                            have hfz24_2 := blk_frozen BK135.out 2
                            have hfz24_3 := blk_frozen BK135.out 3
                            go_wp2
                            go_meet
                            case rel => exact ⟨_, (true), (by first | rfl | (simp; done) | (simp [*]; done)), H', ⟨by have := HK1.out; have := HK2.out; first | omega | exact Nat.le_refl _⟩, ⟨by (with_reducible repeat (first | apply Kd.R_alloc | apply Kd.R_drewN | apply Kd.R_drew)); exact Kd.R_mono (Kd.R_far (p := ⟨gb135, 3, none⟩) (Kd.R_far (p := ⟨gb135, 2, none⟩) (Kd.R_far (p := ⟨gb135, 1, none⟩) (Kd.R_far (p := ⟨gb135, 0, none⟩) (Kd.R_types HO_6.out BK135.out (by decide)) (fun _ hk => hk.2) (.int .i64 ((rd_T59 l1 x33_2).f0))) (fun _ hk => hk.2) (.int .i64 ((rd_T59 l1 x33_2).f1))) (fun _ hk => hk.2) (.int .i64 ((rd_T59 l1 x33_2).f2))) (fun _ hk => hk.2) (.bool ((rd_T59 l1 x33_2).f3))) (fun _ hk => hk.1)⟩, ⟨by (with_reducible repeat (first | apply Kd.R_alloc | apply Kd.R_drewN | apply Kd.R_drew)); exact Kd.R_mono (Kd.R_far (p := ⟨gb135, 3, none⟩) (Kd.R_far (p := ⟨gb135, 2, none⟩) (Kd.R_far (p := ⟨gb135, 1, none⟩) (Kd.R_far (p := ⟨gb135, 0, none⟩) (Kd.R_types HO_7.out BK135.out (by decide)) (fun _ hk => hk.2) (.int .i64 ((rd_T59 l1 x33_2).f0))) (fun _ hk => hk.2) (.int .i64 ((rd_T59 l1 x33_2).f1))) (fun _ hk => hk.2) (.int .i64 ((rd_T59 l1 x33_2).f2))) (fun _ hk => hk.2) (.bool ((rd_T59 l1 x33_2).f3))) (fun _ hk => hk.1)⟩, ⟨by (with_reducible repeat (first | refine blk_drewN ?_ _ | refine blk_drew ?_ | refine blk_alloc ?_ _)); refine blk_put (cs := #[.int .i64 ((rd_T59 l1 x33_2).f0), .int .i64 ((rd_T59 l1 x33_2).f1), .int .i64 ((rd_T59 l1 x33_2).f2), .bool false]) ?_ 3 _ rfl; (with_reducible repeat (first | refine blk_drewN ?_ _ | refine blk_drew ?_ | refine blk_alloc ?_ _)); refine blk_put (cs := #[.int .i64 ((rd_T59 l1 x33_2).f0), .int .i64 ((rd_T59 l1 x33_2).f1), .int .i64 0, .bool false]) ?_ 2 _ rfl; (with_reducible repeat (first | refine blk_drewN ?_ _ | refine blk_drew ?_ | refine blk_alloc ?_ _)); refine blk_put (cs := #[.int .i64 ((rd_T59 l1 x33_2).f0), .int .i64 0, .int .i64 0, .bool false]) ?_ 1 _ rfl; (with_reducible repeat (first | refine blk_drewN ?_ _ | refine blk_drew ?_ | refine blk_alloc ?_ _)); refine blk_put (cs := #[.int .i64 0, .int .i64 0, .int .i64 0, .bool false]) ?_ 0 _ rfl; (with_reducible repeat (first | refine blk_drewN ?_ _ | refine blk_drew ?_ | refine blk_alloc ?_ _)); exact BK135.out⟩, ⟨by repeat (first | (with_reducible first | exact HB.out | apply below_alloc | apply pw_below_drewN | apply below_drew1 | refine below_set ?_ GE135.out) | exact HB.out)⟩⟩
                          · rw [if_neg c23] at H
                            have c23b0 : decide (((rd_T59 l1 x33_2).f2) < (-1)) = false := decide_eq_false c23
                            clear c23
                            have H' := Aside0.mk H
                            clear H
                            have hcz25_0 : w17.cell? ⟨gb135, 0, none⟩ = some (.int .i64 0) := (blk_cell BK135.out 0).trans rfl
                            have hcz25_1 : w17.cell? ⟨gb135, 1, none⟩ = some (.int .i64 0) := (blk_cell BK135.out 1).trans rfl
                            have hcz25_2 : w17.cell? ⟨gb135, 2, none⟩ = some (.int .i64 0) := (blk_cell BK135.out 2).trans rfl
                            have hcz25_3 : w17.cell? ⟨gb135, 3, none⟩ = some (.bool false) := (blk_cell BK135.out 3).trans rfl
                            have hfz25_0 := blk_frozen BK135.out 0
                            have hfz25_1 := blk_frozen BK135.out 1
                            have hfz25_2 := blk_frozen BK135.out 2
                            have hfz25_3 := blk_frozen BK135.out 3
                            go_wp2
                            go_meet
                            case rel => exact ⟨_, (decide (((rd_T59 l1 x33_2).f2) > 1)), (by first | rfl | (simp; done) | (simp [*]; done)), H', ⟨by have := HK1.out; have := HK2.out; first | omega | exact Nat.le_refl _⟩, ⟨by (with_reducible repeat (first | apply Kd.R_alloc | apply Kd.R_drewN | apply Kd.R_drew)); exact Kd.R_mono (Kd.R_far (p := ⟨gb135, 3, none⟩) (Kd.R_far (p := ⟨gb135, 2, none⟩) (Kd.R_far (p := ⟨gb135, 1, none⟩) (Kd.R_far (p := ⟨gb135, 0, none⟩) (Kd.R_types HO_6.out BK135.out (by decide)) (fun _ hk => hk.2) (.int .i64 ((rd_T59 l1 x33_2).f0))) (fun _ hk => hk.2) (.int .i64 ((rd_T59 l1 x33_2).f1))) (fun _ hk => hk.2) (.int .i64 ((rd_T59 l1 x33_2).f2))) (fun _ hk => hk.2) (.bool ((rd_T59 l1 x33_2).f3))) (fun _ hk => hk.1)⟩, ⟨by (with_reducible repeat (first | apply Kd.R_alloc | apply Kd.R_drewN | apply Kd.R_drew)); exact Kd.R_mono (Kd.R_far (p := ⟨gb135, 3, none⟩) (Kd.R_far (p := ⟨gb135, 2, none⟩) (Kd.R_far (p := ⟨gb135, 1, none⟩) (Kd.R_far (p := ⟨gb135, 0, none⟩) (Kd.R_types HO_7.out BK135.out (by decide)) (fun _ hk => hk.2) (.int .i64 ((rd_T59 l1 x33_2).f0))) (fun _ hk => hk.2) (.int .i64 ((rd_T59 l1 x33_2).f1))) (fun _ hk => hk.2) (.int .i64 ((rd_T59 l1 x33_2).f2))) (fun _ hk => hk.2) (.bool ((rd_T59 l1 x33_2).f3))) (fun _ hk => hk.1)⟩, ⟨by (with_reducible repeat (first | refine blk_drewN ?_ _ | refine blk_drew ?_ | refine blk_alloc ?_ _)); refine blk_put (cs := #[.int .i64 ((rd_T59 l1 x33_2).f0), .int .i64 ((rd_T59 l1 x33_2).f1), .int .i64 ((rd_T59 l1 x33_2).f2), .bool false]) ?_ 3 _ rfl; (with_reducible repeat (first | refine blk_drewN ?_ _ | refine blk_drew ?_ | refine blk_alloc ?_ _)); refine blk_put (cs := #[.int .i64 ((rd_T59 l1 x33_2).f0), .int .i64 ((rd_T59 l1 x33_2).f1), .int .i64 0, .bool false]) ?_ 2 _ rfl; (with_reducible repeat (first | refine blk_drewN ?_ _ | refine blk_drew ?_ | refine blk_alloc ?_ _)); refine blk_put (cs := #[.int .i64 ((rd_T59 l1 x33_2).f0), .int .i64 0, .int .i64 0, .bool false]) ?_ 1 _ rfl; (with_reducible repeat (first | refine blk_drewN ?_ _ | refine blk_drew ?_ | refine blk_alloc ?_ _)); refine blk_put (cs := #[.int .i64 0, .int .i64 0, .int .i64 0, .bool false]) ?_ 0 _ rfl; (with_reducible repeat (first | refine blk_drewN ?_ _ | refine blk_drew ?_ | refine blk_alloc ?_ _)); exact BK135.out⟩, ⟨by repeat (first | (with_reducible first | exact HB.out | apply below_alloc | apply pw_below_drewN | apply below_drew1 | refine below_set ?_ GE135.out) | exact HB.out)⟩⟩
                    case rest =>
                      clear HC16
                      try clear c1
                      try clear p1
                      try clear q1
                      try clear hx1
                      try clear c2
                      try clear p2
                      try clear c3
                      try clear c3b0
                      try clear c4
                      try clear c4b0
                      try clear c5
                      try clear c5b0
                      try clear c6
                      try clear p6
                      try clear c11
                      try clear c11b0
                      try clear c11b1
                      try clear p12
                      try clear q12
                      try clear hx12
                      try clear c13
                      try clear c13b0
                      try clear p13
                      try clear q13
                      try clear hx13
                      try clear c14
                      try clear c14b0
                      try clear c15
                      try clear c15b0
                      try clear c19
                      try clear c19b0
                      try clear c21
                      try clear c21b0
                      try clear c23
                      try clear c23b0
                      try clear hcz18_0
                      try clear hcz18_1
                      try clear hcz18_2
                      try clear hcz18_3
                      try clear hcz20_0
                      try clear hcz20_1
                      try clear hcz20_2
                      try clear hcz20_3
                      try clear hcz22_0
                      try clear hcz22_1
                      try clear hcz22_2
                      try clear hcz22_3
                      try clear hcz24_0
                      try clear hcz24_1
                      try clear hcz24_2
                      try clear hcz24_3
                      try clear hcz25_0
                      try clear hcz25_1
                      try clear hcz25_2
                      try clear hcz25_3
                      try clear hcz8_0
                      try clear hcz8_1
                      try clear hcz8_2
                      try clear hcz8_3
                      try clear hfz18_0
                      try clear hfz18_1
                      try clear hfz18_2
                      try clear hfz18_3
                      try clear hfz20_0
                      try clear hfz20_1
                      try clear hfz20_2
                      try clear hfz20_3
                      try clear hfz22_0
                      try clear hfz22_1
                      try clear hfz22_2
                      try clear hfz22_3
                      try clear hfz24_0
                      try clear hfz24_1
                      try clear hfz24_2
                      try clear hfz24_3
                      try clear hfz25_0
                      try clear hfz25_1
                      try clear hfz25_2
                      try clear hfz25_3
                      try clear hfz8_0
                      try clear hfz8_1
                      try clear hfz8_2
                      try clear hfz8_3
                      try clear hx125_0
                      try clear hx125_1
                      try clear hx125_2
                      try clear hx125_3
                      try clear hx134_0
                      try clear hx134_1
                      try clear hx134_2
                      try clear hx134_3
                      try clear p1
                      try clear p12
                      try clear p125
                      try clear p134
                      try clear p2
                      try clear p6
                      try clear q1
                      try clear q12
                      try clear q125
                      try clear q134
                      obtain ⟨kq, x54_15, rfl, HA, HJ15, HO_6, HO_7, BK135, HB⟩ := hcut
                      cases kq with
                      | zero => exact absurd HA.out (by simp [keys_Joy.j2])
                      | succ kj15 =>
                        have H := HA.out
                        clear HA
                        simp only [keys_Joy.j2] at H
                        by_cases c26 : x54_15 = true
                        · subst c26
                          have H1 : (some (([] : List (S62)), 1)) = some (r1, r2) := by rw [if_pos rfl] at H; exact H
                          clear H
                          have H := H1
                          clear H1
                          simp only [Option.some.injEq, Prod.mk.injEq] at H
                          obtain ⟨rfl, rfl⟩ := H
                          go_wp2
                          go_ret2
                          exact ⟨_, by first | rfl | (simp [errW_none, errW_some] <;> rfl) | (simp [*, errW_none, errW_some] <;> rfl), by first | exact Kd.R_nil _ _ _ _ _ | exact Kd.N_nil _ _ _ _ _ | exact Kd.V_nil _ _ _ _ _ | exact Kd.Q_nil _ _ _ _ _ | exact Kd.S_nil _ _ _ _ _, by repeat (first | (with_reducible first | exact HB.out | apply below_alloc | apply pw_below_drewN | apply below_drew1 | refine below_set ?_ GE135.out) | exact HB.out)⟩
                        · replace c26 := Bool.eq_false_iff.mpr c26
                          subst c26
                          have H1 : ((some (([1, 0, 2] : List Int) : List Int)).bind fun y136 => (if 0 ≤ (wrap64 (((rd_T59 l1 x33_2).f1) + 1)) then (if (wrap64 (((rd_T59 l1 x33_2).f1) + 1)) < (y136.length : Int) then ((some (([4, 0, 8] : List Int) : List Int)).bind fun y140 => (if 0 ≤ (wrap64 (((rd_T59 l1 x33_2).f2) + 1)) then (if (wrap64 (((rd_T59 l1 x33_2).f2) + 1)) < (y140.length : Int) then (if ((rd_T59 l1 x33_2).f3) = true then (if x7_2.length < 17592186044416 then (keys_Joy.l1 kj15 a0 x6_1 (x7_2 ++ [Go.bits .or .i64 (Go.bits .or .i64 (rd y136 (wrap64 (((rd_T59 l1 x33_2).f1) + 1))) (rd y140 (wrap64 (((rd_T59 l1 x33_2).f2) + 1)))) 16]) l1 (l1.length : Int) (wrap64 (x33_2 + 1))) else (none)) else (if x7_2.length < 17592186044416 then (keys_Joy.l1 kj15 a0 x6_1 (x7_2 ++ [Go.bits .or .i64 (rd y136 (wrap64 (((rd_T59 l1 x33_2).f1) + 1))) (rd y140 (wrap64 (((rd_T59 l1 x33_2).f2) + 1)))]) l1 (l1.length : Int) (wrap64 (x33_2 + 1))) else (none))) else (none)) else (none))) else (none)) else (none))) = some (r1, r2) := by rw [if_neg (show ¬ (false = true) by decide)] at H; exact H
                          clear H
                          have H := H1
                          clear H1
                          obtain ⟨y136, hy136⟩ : ∃ y_ : List Int, y_ = (([1, 0, 2] : List Int)) := ⟨_, rfl⟩
                          replace H : (if 0 ≤ (wrap64 (((rd_T59 l1 x33_2).f1) + 1)) then (if (wrap64 (((rd_T59 l1 x33_2).f1) + 1)) < (y136.length : Int) then ((some (([4, 0, 8] : List Int) : List Int)).bind fun y140 => (if 0 ≤ (wrap64 (((rd_T59 l1 x33_2).f2) + 1)) then (if (wrap64 (((rd_T59 l1 x33_2).f2) + 1)) < (y140.length : Int) then (if ((rd_T59 l1 x33_2).f3) = true then (if x7_2.length < 17592186044416 then (keys_Joy.l1 kj15 a0 x6_1 (x7_2 ++ [Go.bits .or .i64 (Go.bits .or .i64 (rd y136 (wrap64 (((rd_T59 l1 x33_2).f1) + 1))) (rd y140 (wrap64 (((rd_T59 l1 x33_2).f2) + 1)))) 16]) l1 (l1.length : Int) (wrap64 (x33_2 + 1))) else (none)) else (if x7_2.length < 17592186044416 then (keys_Joy.l1 kj15 a0 x6_1 (x7_2 ++ [Go.bits .or .i64 (rd y136 (wrap64 (((rd_T59 l1 x33_2).f1) + 1))) (rd y140 (wrap64 (((rd_T59 l1 x33_2).f2) + 1)))]) l1 (l1.length : Int) (wrap64 (x33_2 + 1))) else (none))) else (none)) else (none))) else (none)) else (none)) = some (r1, r2) := by first | (rw [hy136]; with_reducible exact H) | (have H2_ := (Option.bind_some _ _).symm.trans H; rw [hy136]; with_reducible exact H2_) | (have H2_ := (Option.bind_some _ _).symm.trans H; with_reducible exact H2_) | with_reducible exact H | (rw [hy136]; exact H) | exact H
                          have Ny136 := Aside0.mk hy136
                          clear hy136
                          obtain ⟨ji27, hji27⟩ : ∃ j_ : Int, (wrap64 (((rd_T59 l1 x33_2).f1) + 1)) = j_ := ⟨_, rfl⟩
                          replace H : (if 0 ≤ (ji27) then (if (ji27) < (y136.length : Int) then ((some (([4, 0, 8] : List Int) : List Int)).bind fun y140 => (if 0 ≤ (wrap64 (((rd_T59 l1 x33_2).f2) + 1)) then (if (wrap64 (((rd_T59 l1 x33_2).f2) + 1)) < (y140.length : Int) then (if ((rd_T59 l1 x33_2).f3) = true then (if x7_2.length < 17592186044416 then (keys_Joy.l1 kj15 a0 x6_1 (x7_2 ++ [Go.bits .or .i64 (Go.bits .or .i64 (rd y136 (ji27)) (rd y140 (wrap64 (((rd_T59 l1 x33_2).f2) + 1)))) 16]) l1 (l1.length : Int) (wrap64 (x33_2 + 1))) else (none)) else (if x7_2.length < 17592186044416 then (keys_Joy.l1 kj15 a0 x6_1 (x7_2 ++ [Go.bits .or .i64 (rd y136 (ji27)) (rd y140 (wrap64 (((rd_T59 l1 x33_2).f2) + 1)))]) l1 (l1.length : Int) (wrap64 (x33_2 + 1))) else (none))) else (none)) else (none))) else (none)) else (none)) = some (r1, r2) := by first | (rw [hji27] at H; exact H) | (simp only [hji27] at H ⊢; exact H)
                          have hji27w : (IntKind.i64.wrap (((rd_T59 l1 x33_2).f1) + 1)) = ji27 := (i64_w _).trans hji27
                          by_cases c28 : 0 ≤ (ji27)
                          · rw [if_pos c28] at H
                            have c28b0 : decide (0 ≤ (ji27)) = true := decide_eq_true c28
                            clear c28
                            by_cases c29 : (ji27) < (y136.length : Int)
                            · rw [if_pos c29] at H
                              have c29b0 : decide ((ji27) < (y136.length : Int)) = true := decide_eq_true c29
                              clear c29
                              obtain ⟨y140, hy140⟩ : ∃ y_ : List Int, y_ = (([4, 0, 8] : List Int)) := ⟨_, rfl⟩
                              replace H : (if 0 ≤ (wrap64 (((rd_T59 l1 x33_2).f2) + 1)) then (if (wrap64 (((rd_T59 l1 x33_2).f2) + 1)) < (y140.length : Int) then (if ((rd_T59 l1 x33_2).f3) = true then (if x7_2.length < 17592186044416 then (keys_Joy.l1 kj15 a0 x6_1 (x7_2 ++ [Go.bits .or .i64 (Go.bits .or .i64 (rd y136 (ji27)) (rd y140 (wrap64 (((rd_T59 l1 x33_2).f2) + 1)))) 16]) l1 (l1.length : Int) (wrap64 (x33_2 + 1))) else (none)) else (if x7_2.length < 17592186044416 then (keys_Joy.l1 kj15 a0 x6_1 (x7_2 ++ [Go.bits .or .i64 (rd y136 (ji27)) (rd y140 (wrap64 (((rd_T59 l1 x33_2).f2) + 1)))]) l1 (l1.length : Int) (wrap64 (x33_2 + 1))) else (none))) else (none)) else (none)) = some (r1, r2) := by first | (rw [hy140]; with_reducible exact H) | (have H2_ := (Option.bind_some _ _).symm.trans H; rw [hy140]; with_reducible exact H2_) | (have H2_ := (Option.bind_some _ _).symm.trans H; with_reducible exact H2_) | with_reducible exact H | (rw [hy140]; exact H) | exact H
                              have Ny140 := Aside0.mk hy140
                              clear hy140
                              obtain ⟨ji30, hji30⟩ : ∃ j_ : Int, (wrap64 (((rd_T59 l1 x33_2).f2) + 1)) = j_ := ⟨_, rfl⟩
                              replace H : (if 0 ≤ (ji30) then (if (ji30) < (y140.length : Int) then (if ((rd_T59 l1 x33_2).f3) = true then (if x7_2.length < 17592186044416 then (keys_Joy.l1 kj15 a0 x6_1 (x7_2 ++ [Go.bits .or .i64 (Go.bits .or .i64 (rd y136 (ji27)) (rd y140 (ji30))) 16]) l1 (l1.length : Int) (wrap64 (x33_2 + 1))) else (none)) else (if x7_2.length < 17592186044416 then (keys_Joy.l1 kj15 a0 x6_1 (x7_2 ++ [Go.bits .or .i64 (rd y136 (ji27)) (rd y140 (ji30))]) l1 (l1.length : Int) (wrap64 (x33_2 + 1))) else (none))) else (none)) else (none)) = some (r1, r2) := by first | (rw [hji30] at H; exact H) | (simp only [hji30] at H ⊢; exact H)
                              have hji30w : (IntKind.i64.wrap (((rd_T59 l1 x33_2).f2) + 1)) = ji30 := (i64_w _).trans hji30
                              by_cases c31 : 0 ≤ (ji30)
                              · rw [if_pos c31] at H
                                have c31b0 : decide (0 ≤ (ji30)) = true := decide_eq_true c31
                                clear c31
                                by_cases c32 : (ji30) < (y140.length : Int)
                                · rw [if_pos c32] at H
                                  have c32b0 : decide ((ji30) < (y140.length : Int)) = true := decide_eq_true c32
                                  clear c32
                                  by_cases c33 : ((rd_T59 l1 x33_2).f3) = true
                                  · rw [if_pos c33] at H
                                    have c33b0 : ((rd_T59 l1 x33_2).f3) = true := c33
                                    clear c33
                                    by_cases c34 : x7_2.length < 17592186044416
                                    · rw [if_pos c34] at H
                                      have LMc34 := Aside0.mk c34
                                      clear c34
                                      obtain ⟨y144, hy144⟩ : ∃ y_ : List Int, y_ = (x7_2 ++ [Go.bits .or .i64 (Go.bits .or .i64 (rd y136 (ji27)) (rd y140 (ji30))) 16]) := ⟨_, rfl⟩
                                      replace H : (keys_Joy.l1 kj15 a0 x6_1 y144 l1 (l1.length : Int) (wrap64 (x33_2 + 1))) = some (r1, r2) := by first | (rw [hy144]; with_reducible exact H) | (have H2_ := (Option.bind_some _ _).symm.trans H; rw [hy144]; with_reducible exact H2_) | (have H2_ := (Option.bind_some _ _).symm.trans H; with_reducible exact H2_) | with_reducible exact H | (rw [hy144]; exact H) | exact H
                                      have Ny144 := Aside0.mk hy144
                                      clear hy144
                                      have H' := Aside0.mk H
                                      clear H
                                      try go_wp2
                                      have pi139 : (0 ≤ ((ji27) : Int)) = True := eq_true (of_decide_eq_true (by first | (with_reducible assumption) | assumption))
                                      have qi139 : ((ji27) < (y136.length : Int)) = True := eq_true (of_decide_eq_true (by first | (with_reducible assumption) | assumption))
                                      have pi143 : (0 ≤ ((ji30) : Int)) = True := eq_true (of_decide_eq_true (by first | (with_reducible assumption) | assumption))
                                      have qi143 : ((ji30) < (y140.length : Int)) = True := eq_true (of_decide_eq_true (by first | (with_reducible assumption) | assumption))
                                      have n0_ := Aside0.mk (Kd.R_drew HO_6.out)
                                      have n1_ := Aside0.mk (Kd.R_drew HO_7.out)
                                      have n2_ := Aside0.mk (blk_drew BK135.out)
                                      have n3_ := Aside0.mk (below_drew1 HB.out)
                                      clear HO_6
                                      clear HO_7
                                      clear BK135
                                      clear HB
                                      have HO_6 := n0_
                                      have HO_7 := n1_
                                      have BK135 := n2_
                                      have HB := n3_
                                      clear n0_ n1_ n2_ n3_
                                      refine start_ (n := 14) (S := fun w' => True) (ds := []) #[false, false, false, false, false, false, false, false, false, false, false, false, false, false] (by kernel_rfl) rfl rfl trivial (fun hHeld => ?_); refine with_tabW keys_Joy.tab15 keys_Joy.bits15 (fun HT_ HW_ => ?_)
                                      generalize wc.drew = w35 at HO_6 HO_7 BK135 HB hHeld ⊢
                                      refine pure_ (i := 1) (N := some 56) (v := ?_) (a' := ?_) #[false, true, false, false, false, false, false, false, false, false, false, false, false, false] rfl rfl (any_of HT_.out (by kernel_rfl)) (fun _ _ _ h => h) (Or.inl ⟨by rfl, ?_⟩) ?_ ?_
                                      rotate_left
                                      · intro w'
                                        go_simp
                                        with_reducible rfl
                                      rotate_left
                                      · simp only [Act.put, List.setIfInBounds_toArray, List.set_cons_zero, List.set_cons_succ, i64_w, i32_w]
                                        rfl
                                      refine pure_ (i := 7) (N := some 62) (v := ?_) (a' := ?_) #[false, true, false, false, false, false, false, true, false, false, false, false, false, false] rfl rfl (any_of HT_.out (by kernel_rfl)) (fun _ _ _ h => h) (Or.inl ⟨by rfl, ?_⟩) ?_ ?_
                                      rotate_left
                                      · intro w'
                                        go_simp
                                        with_reducible rfl
                                      rotate_left
                                      · simp only [Act.put, List.setIfInBounds_toArray, List.set_cons_zero, List.set_cons_succ, i64_w, i32_w]
                                        rfl
                                      refine inv_at [0, 2, 3, 4, 5, 6, 8, 9, 10, 11, 12, 13] (fun a0_ b a w' => ∃ (v137 : Value) (adz_v137 : Addr) (v141 : Value) (adz_v141 : Addr) (m4_ : Value) (m10_ : Value), a = putSel a0_ b [(0, 55, v137), (2, 57, .int .i64 ((rd_T59 l1 x33_2).f1)), (3, 58, .int .i64 ji27), (4, 59, m4_), (5, 60, .int .i64 (rd y136 (ji27))), (6, 61, v141), (8, 63, .int .i64 ((rd_T59 l1 x33_2).f2)), (9, 64, .int .i64 ji30), (10, 65, m10_), (11, 66, .int .i64 (rd y140 (ji30))), (12, 67, .int .i64 (Go.bits .or .i64 (rd y136 (ji27)) (rd y140 (ji30)))), (13, 13, .int .i64 (Go.bits .or .i64 (rd y136 (ji27)) (rd y140 (ji30))))] ∧ (Kd.R (Kd.int .i64) 3 w' w.heap.size (fun k_ => some k_ ≠ (u7 : Value).ownBlock) (.slice Ao12 x6_1.length co12) x6_1) ∧ (Kd.R (Kd.int .i64) 3 w' w.heap.size (fun k_ => some k_ ≠ (.slice Ao12 x6_1.length co12 : Value).ownBlock) u7 x7_2) ∧ (w'.heap[gb135]? = some (.cells #[.int .i64 ((rd_T59 l1 x33_2).f0), .int .i64 ((rd_T59 l1 x33_2).f1), .int .i64 ((rd_T59 l1 x33_2).f2), .bool ((rd_T59 l1 x33_2).f3)] 59 (0, 0))) ∧ (Below w.heap.size w w') ∧ (b 0 = true → Kd.R (Kd.int .i64) 3 w' w.heap.size (fun k_ => some k_ ≠ (.slice Ao12 x6_1.length co12 : Value).ownBlock ∧ some k_ ≠ (u7 : Value).ownBlock) v137 y136) ∧ (b 0 = true → ∃ c_, (v137 : Value) = .slice (some adz_v137) y136.length c_) ∧ (b 6 = true → Kd.R (Kd.int .i64) 3 w' w.heap.size (fun k_ => some k_ ≠ (.slice Ao12 x6_1.length co12 : Value).ownBlock ∧ some k_ ≠ (u7 : Value).ownBlock) v141 y140) ∧ (b 6 = true → ∃ c_, (v141 : Value) = .slice (some adz_v141) y140.length c_) ∧ (b 4 = true → (m4_ : Value) = .pointer (some (adz_v137.add ((ji27)).toNat))) ∧ (b 10 = true → (m10_ : Value) = .pointer (some (adz_v141.add ((ji30)).toNat)))) HT_.out HW_.out (by kernel_rfl) (by kernel_rfl) ?_ ?_ ?_
                                      · exact ⟨.bool false, ⟨0, 0, none⟩, .bool false, ⟨0, 0, none⟩, .bool false, .bool false, by simp only [putSel, Bool.false_eq_true, if_false], HO_6.out, HO_7.out, BK135.out, HB.out, fun h_ => absurd h_ (by decide), fun h_ => absurd h_ (by decide), fun h_ => absurd h_ (by decide), fun h_ => absurd h_ (by decide), fun h_ => absurd h_ (by decide), fun h_ => absurd h_ (by decide)⟩
                                      · skip
                                        clear BK135 HB HO_6 HO_7
                                        refine steps_cons ?_ ?_
                                        · rintro b a w' ⟨v137, adz_v137, v141, adz_v141, m4_, m10_, ha, Q_HO_6, Q_HO_7, Q_BK135, Q_HB, Q_HO138, Q_HA_HO138, Q_HO142, Q_HA_HO142, Q_X4_, Q_X10_⟩ hb_ hon hoff
                                          refine ⟨_, rfl, fun K hK => ?_⟩
                                          replace ha := Aside0.mk ha
                                          have HO_6 := Aside0.mk Q_HO_6
                                          have HO_7 := Aside0.mk Q_HO_7
                                          have BK135 := Aside0.mk Q_BK135
                                          have HB := Aside0.mk Q_HB
                                          refine Kd.R_lit_step (Kd.int .i64) _ 3 ?hg (N := 55) ?hd (xs := ([1, 0, 2] : List Int)) (inner := [.int .i64 1, .int .i64 0, .int .i64 2]) (ok := fun _ => True) (okp := fun _ => True) ?hr ?hp (fun _ hk => hk) trivial (Below.refl _ _) (Nat.le_refl _) (by simp) ?_; (case hd => rfl); (case hg => rfl); (case hr => first | (go_simp; done) | (go_simp; rfl)); (case hp => exact (Reps.one (show Kd.M (Kd.int .i64) _ _ _ 1 [.int .i64 1] from rfl) (Reps.one (show Kd.M (Kd.int .i64) _ _ _ 0 [.int .i64 0] from rfl) (Reps.one (show Kd.M (Kd.int .i64) _ _ _ 2 [.int .i64 2] from rfl) (Reps.none _ _)))))
                                          intro v137 w36 ho37 hb hg_ hnew_
                                          clear hg_ hnew_
                                          (first | rw [← Ny136.out] at ho37 | (simp only [Int.reduceToNat] at ho37; rw [← Ny136.out] at ho37))
                                          have n0_ := Aside0.mk (Kd.R_elder' (by (with_reducible repeat (first | apply Kd.R_alloc | apply Kd.R_drewN | apply Kd.R_drew)); exact HO_6.out) (Kd.R_base ho37) hb)
                                          have n1_ := Aside0.mk (Kd.R_elder' (by (with_reducible repeat (first | apply Kd.R_alloc | apply Kd.R_drewN | apply Kd.R_drew)); exact HO_7.out) (Kd.R_base ho37) hb)
                                          have n2_ := Aside0.mk (Kd.R_lower (Kd.R_new' (Kd.R_new' ho37 (Kd.R_lt (by (with_reducible repeat (first | apply Kd.R_alloc | apply Kd.R_drewN | apply Kd.R_drew)); exact HO_6.out))) (Kd.R_lt (by (with_reducible repeat (first | apply Kd.R_alloc | apply Kd.R_drewN | apply Kd.R_drew)); exact HO_7.out))) (below_size (by repeat (first | (with_reducible first | exact HB.out | apply below_alloc | apply pw_below_drewN | apply below_drew1 | refine below_set ?_ GE135.out) | exact HB.out))))
                                          have n3_ := Aside0.mk (blk_below (g := gb135) (o := .cells #[.int .i64 ((rd_T59 l1 x33_2).f0), .int .i64 ((rd_T59 l1 x33_2).f1), .int .i64 ((rd_T59 l1 x33_2).f2), .bool ((rd_T59 l1 x33_2).f3)] 59 (0, 0)) (by (with_reducible repeat (first | refine blk_drewN ?_ _ | refine blk_drew ?_ | refine blk_alloc ?_ _)); exact BK135.out) hb)
                                          have n4_ := Aside0.mk (below_step (by repeat (first | (with_reducible first | exact HB.out | apply below_alloc | apply pw_below_drewN | apply below_drew1 | refine below_set ?_ GE135.out) | exact HB.out)) hb)
                                          have z_HO142 := fun (h0_ : b 6 = true) => (show Kd.R (Kd.int .i64) 3 w36 w.heap.size (fun k_ => some k_ ≠ (.slice Ao12 x6_1.length co12 : Value).ownBlock ∧ some k_ ≠ (u7 : Value).ownBlock) v141 y140 from by first | exact (Kd.R_elder' (by (with_reducible repeat (first | apply Kd.R_alloc | apply Kd.R_drewN | apply Kd.R_drew)); exact (Q_HO142 h0_)) (Kd.R_base ho37) hb) | exact Kd.R_mono (Kd.R_elder' (by (with_reducible repeat (first | apply Kd.R_alloc | apply Kd.R_drewN | apply Kd.R_drew)); exact (Q_HO142 h0_)) (Kd.R_base ho37) hb) (fun _ h_ => by first | trivial | exact h_ | exact h_.1))
                                          clear HO_6
                                          clear HO_7
                                          clear BK135
                                          clear HB
                                          have HO_6 := n0_
                                          have HO_7 := n1_
                                          have HO138 := n2_
                                          have BK135 := n3_
                                          have HB := n4_
                                          clear n0_ n1_ n2_ n3_ n4_
                                          clear hb ho37
                                          obtain ⟨Ao38, co38, eo38⟩ := Kd.R_slice HO138.out
                                          subst eo38
                                          obtain ⟨ado38, fo38, _⟩ := Kd.at_int (Kd.R_reads' HO138.out).2.2 0 (by decide) (by rw [Ny136.out]; simp)
                                          cases fo38
                                          refine hK.out _ _ ⟨.slice (some ado38) y136.length co38, ado38, v141, adz_v141, m4_, m10_, (by rw [ha.out]; exact putSel_upk 0 hb_ rfl rfl rfl), (by (with_reducible repeat (first | apply Kd.R_alloc | apply Kd.R_drewN | apply Kd.R_drew)); exact Kd.R_mono HO_6.out (fun _ hk => (by first | exact hk | ((repeat' refine And.intro ?_ ?_) <;> first | exact hk.1 | exact hk.2 | exact hk.1.1 | exact hk.1.2 | exact hk.2.1 | exact hk.2.2 | exact hk.1.1.1 | exact hk.1.1.2 | exact hk.1.2.1 | exact hk.1.2.2 | exact hk.2.1.1 | exact hk.2.1.2 | exact hk.2.2.1 | exact hk.2.2.2)))), (by (with_reducible repeat (first | apply Kd.R_alloc | apply Kd.R_drewN | apply Kd.R_drew)); exact Kd.R_mono HO_7.out (fun _ hk => (by first | exact hk | ((repeat' refine And.intro ?_ ?_) <;> first | exact hk.1 | exact hk.2 | exact hk.1.1 | exact hk.1.2 | exact hk.2.1 | exact hk.2.2 | exact hk.1.1.1 | exact hk.1.1.2 | exact hk.1.2.1 | exact hk.1.2.2 | exact hk.2.1.1 | exact hk.2.1.2 | exact hk.2.2.1 | exact hk.2.2.2)))), (by (with_reducible repeat (first | refine blk_drewN ?_ _ | refine blk_drew ?_ | refine blk_alloc ?_ _)); exact BK135.out), (by repeat (first | (with_reducible first | exact HB.out | apply below_alloc | apply pw_below_drewN | apply below_drew1 | refine below_set ?_ GE135.out) | exact HB.out)), fun _ => (by (with_reducible repeat (first | apply Kd.R_alloc | apply Kd.R_drewN | apply Kd.R_drew)); exact Kd.R_mono HO138.out (fun _ hk => (by first | exact hk | ((repeat' refine And.intro ?_ ?_) <;> first | exact hk.1 | exact hk.2 | exact hk.1.1 | exact hk.1.2 | exact hk.2.1 | exact hk.2.2 | exact hk.1.1.1 | exact hk.1.1.2 | exact hk.1.2.1 | exact hk.1.2.2 | exact hk.2.1.1 | exact hk.2.1.2 | exact hk.2.2.1 | exact hk.2.2.2)))), fun _ => ⟨_, rfl⟩, z_HO142, Q_HA_HO142, fun h0_ => absurd ((hoff 4 (by kernel_rfl)).symm.trans h0_) (by decide), Q_X10_⟩
                                        refine steps_cons ?_ ?_
                                        · rintro b a w' ⟨v137, adz_v137, v141, adz_v141, m4_, m10_, ha, Q_HO_6, Q_HO_7, Q_BK135, Q_HB, Q_HO138, Q_HA_HO138, Q_HO142, Q_HA_HO142, Q_X4_, Q_X10_⟩ hb_ hon hoff
                                          refine ⟨_, rfl, fun K hK => ?_⟩
                                          have e56 : a.tmps[56]? = some (.pointer (some ⟨gb135, 1, none⟩)) := by rw [ha]; exact (putSel_off rfl).trans rfl
                                          replace ha := Aside0.mk ha
                                          have HO_6 := Aside0.mk Q_HO_6
                                          have HO_7 := Aside0.mk Q_HO_7
                                          have BK135 := Aside0.mk Q_BK135
                                          have HB := Aside0.mk Q_HB
                                          have hc0_ : w'.cell? ⟨gb135, 0, none⟩ = some (.int .i64 ((rd_T59 l1 x33_2).f0)) := (blk_cell BK135.out 0).trans rfl
                                          have hc1_ : w'.cell? ⟨gb135, 1, none⟩ = some (.int .i64 ((rd_T59 l1 x33_2).f1)) := (blk_cell BK135.out 1).trans rfl
                                          have hc2_ : w'.cell? ⟨gb135, 2, none⟩ = some (.int .i64 ((rd_T59 l1 x33_2).f2)) := (blk_cell BK135.out 2).trans rfl
                                          have hc3_ : w'.cell? ⟨gb135, 3, none⟩ = some (.bool ((rd_T59 l1 x33_2).f3)) := (blk_cell BK135.out 3).trans rfl
                                          refine value_ (w1 := w') (v := .int .i64 ((rd_T59 l1 x33_2).f1)) (by rfl) rfl ?_ ?_
                                          · go_simp
                                            (try simp only [i64_w])
                                            try rfl
                                          refine hK.out _ _ ⟨v137, adz_v137, v141, adz_v141, m4_, m10_, (by rw [ha.out]; exact putSel_upk 1 hb_ rfl rfl rfl), Q_HO_6, Q_HO_7, Q_BK135, Q_HB, Q_HO138, Q_HA_HO138, Q_HO142, Q_HA_HO142, fun h0_ => absurd ((hoff 4 (by kernel_rfl)).symm.trans h0_) (by decide), Q_X10_⟩
                                        refine steps_cons ?_ ?_
                                        · rintro b a w' ⟨v137, adz_v137, v141, adz_v141, m4_, m10_, ha, Q_HO_6, Q_HO_7, Q_BK135, Q_HB, Q_HO138, Q_HA_HO138, Q_HO142, Q_HA_HO142, Q_X4_, Q_X10_⟩ hb_ hon hoff
                                          refine ⟨_, rfl, fun K hK => ?_⟩
                                          have e57 : a.tmps[57]? = some (.int .i64 ((rd_T59 l1 x33_2).f1)) := by rw [ha]; exact putSel_on (e := (2, 57, .int .i64 ((rd_T59 l1 x33_2).f1))) 1 rfl rfl (hon 2 (by kernel_rfl)) rfl
                                          replace ha := Aside0.mk ha
                                          have HO_6 := Aside0.mk Q_HO_6
                                          have HO_7 := Aside0.mk Q_HO_7
                                          have BK135 := Aside0.mk Q_BK135
                                          have HB := Aside0.mk Q_HB
                                          refine value_ (w1 := w') (v := .int .i64 ji27) (by rfl) rfl ?_ ?_
                                          · go_simp
                                            (try simp only [i64_w])
                                            try rfl
                                          refine hK.out _ _ ⟨v137, adz_v137, v141, adz_v141, m4_, m10_, (by rw [ha.out]; exact putSel_upk 2 hb_ rfl rfl rfl), Q_HO_6, Q_HO_7, Q_BK135, Q_HB, Q_HO138, Q_HA_HO138, Q_HO142, Q_HA_HO142, fun h0_ => absurd ((hoff 4 (by kernel_rfl)).symm.trans h0_) (by decide), Q_X10_⟩
                                        refine steps_cons ?_ ?_
                                        · rintro b a w' ⟨v137, adz_v137, v141, adz_v141, m4_, m10_, ha, Q_HO_6, Q_HO_7, Q_BK135, Q_HB, Q_HO138, Q_HA_HO138, Q_HO142, Q_HA_HO142, Q_X4_, Q_X10_⟩ hb_ hon hoff
                                          refine ⟨_, rfl, fun K hK => ?_⟩
                                          have e55 : a.tmps[55]? = some (v137) := by rw [ha]; exact putSel_on (e := (0, 55, v137)) 0 rfl rfl (hon 0 (by kernel_rfl)) rfl
                                          have e58 : a.tmps[58]? = some (.int .i64 ji27) := by rw [ha]; exact putSel_on (e := (3, 58, .int .i64 ji27)) 2 rfl rfl (hon 3 (by kernel_rfl)) rfl
                                          replace ha := Aside0.mk ha
                                          have HO_6 := Aside0.mk Q_HO_6
                                          have HO_7 := Aside0.mk Q_HO_7
                                          have BK135 := Aside0.mk Q_BK135
                                          have HB := Aside0.mk Q_HB
                                          have HO138 := Aside0.mk (Q_HO138 (hon 0 (by kernel_rfl)))
                                          have HA_HO138 := Aside0.mk (Q_HA_HO138 (hon 0 (by kernel_rfl)))
                                          obtain ⟨c_, hv_⟩ := HA_HO138.out
                                          rw [hv_] at e55
                                          refine value_ (w1 := w') (v := .pointer (some (adz_v137.add ((ji27)).toNat))) (by rfl) rfl ?_ ?_
                                          · go_simp
                                            (try simp only [i64_w])
                                            try rfl
                                          refine hK.out _ _ ⟨v137, adz_v137, v141, adz_v141, (.pointer (some (adz_v137.add ((ji27)).toNat))), m10_, (by rw [ha.out]; exact putSel_upk 3 hb_ rfl rfl rfl), Q_HO_6, Q_HO_7, Q_BK135, Q_HB, Q_HO138, Q_HA_HO138, Q_HO142, Q_HA_HO142, fun _ => rfl, Q_X10_⟩
                                        refine steps_cons ?_ ?_
                                        · rintro b a w' ⟨v137, adz_v137, v141, adz_v141, m4_, m10_, ha, Q_HO_6, Q_HO_7, Q_BK135, Q_HB, Q_HO138, Q_HA_HO138, Q_HO142, Q_HA_HO142, Q_X4_, Q_X10_⟩ hb_ hon hoff
                                          refine ⟨_, rfl, fun K hK => ?_⟩
                                          have e59 : a.tmps[59]? = some (m4_) := by rw [ha]; exact putSel_on (e := (4, 59, m4_)) 3 rfl rfl (hon 4 (by kernel_rfl)) rfl
                                          rw [Q_X4_ (hon 4 (by kernel_rfl))] at e59
                                          replace ha := Aside0.mk ha
                                          have HO_6 := Aside0.mk Q_HO_6
                                          have HO_7 := Aside0.mk Q_HO_7
                                          have BK135 := Aside0.mk Q_BK135
                                          have HB := Aside0.mk Q_HB
                                          have HO138 := Aside0.mk (Q_HO138 (hon 0 (by kernel_rfl)))
                                          have HA_HO138 := Aside0.mk (Q_HA_HO138 (hon 0 (by kernel_rfl)))
                                          obtain ⟨c_, hv_⟩ := HA_HO138.out
                                          have hF_ := HO138.out
                                          rw [hv_] at hF_
                                          obtain ⟨ad_, ea_, hx_⟩ := Kd.at_int (Kd.R_reads' hF_).2.2 (ji27) (of_eq_true pi139) (of_eq_true qi139)
                                          cases ea_
                                          refine value_ (w1 := w') (v := .int .i64 (rd y136 (ji27))) (by rfl) rfl ?_ ?_
                                          · go_simp
                                            (try simp only [i64_w])
                                            try rfl
                                          refine hK.out _ _ ⟨v137, adz_v137, v141, adz_v141, m4_, m10_, (by rw [ha.out]; exact putSel_upk 4 hb_ rfl rfl rfl), Q_HO_6, Q_HO_7, Q_BK135, Q_HB, Q_HO138, Q_HA_HO138, Q_HO142, Q_HA_HO142, Q_X4_, Q_X10_⟩
                                        refine steps_cons ?_ ?_
                                        · rintro b a w' ⟨v137, adz_v137, v141, adz_v141, m4_, m10_, ha, Q_HO_6, Q_HO_7, Q_BK135, Q_HB, Q_HO138, Q_HA_HO138, Q_HO142, Q_HA_HO142, Q_X4_, Q_X10_⟩ hb_ hon hoff
                                          refine ⟨_, rfl, fun K hK => ?_⟩
                                          replace ha := Aside0.mk ha
                                          have HO_6 := Aside0.mk Q_HO_6
                                          have HO_7 := Aside0.mk Q_HO_7
                                          have BK135 := Aside0.mk Q_BK135
                                          have HB := Aside0.mk Q_HB
                                          refine Kd.R_lit_step (Kd.int .i64) _ 3 ?hg (N := 61) ?hd (xs := ([4, 0, 8] : List Int)) (inner := [.int .i64 4, .int .i64 0, .int .i64 8]) (ok := fun _ => True) (okp := fun _ => True) ?hr ?hp (fun _ hk => hk) trivial (Below.refl _ _) (Nat.le_refl _) (by simp) ?_; (case hd => rfl); (case hg => rfl); (case hr => first | (go_simp; done) | (go_simp; rfl)); (case hp => exact (Reps.one (show Kd.M (Kd.int .i64) _ _ _ 4 [.int .i64 4] from rfl) (Reps.one (show Kd.M (Kd.int .i64) _ _ _ 0 [.int .i64 0] from rfl) (Reps.one (show Kd.M (Kd.int .i64) _ _ _ 8 [.int .i64 8] from rfl) (Reps.none _ _)))))
                                          intro v141 w36 ho37 hb hg_ hnew_
                                          clear hg_ hnew_
                                          (first | rw [← Ny140.out] at ho37 | (simp only [Int.reduceToNat] at ho37; rw [← Ny140.out] at ho37))
                                          have n0_ := Aside0.mk (Kd.R_elder' (by (with_reducible repeat (first | apply Kd.R_alloc | apply Kd.R_drewN | apply Kd.R_drew)); exact HO_6.out) (Kd.R_base ho37) hb)
                                          have n1_ := Aside0.mk (Kd.R_elder' (by (with_reducible repeat (first | apply Kd.R_alloc | apply Kd.R_drewN | apply Kd.R_drew)); exact HO_7.out) (Kd.R_base ho37) hb)
                                          have n2_ := Aside0.mk (Kd.R_lower (Kd.R_new' (Kd.R_new' ho37 (Kd.R_lt (by (with_reducible repeat (first | apply Kd.R_alloc | apply Kd.R_drewN | apply Kd.R_drew)); exact HO_6.out))) (Kd.R_lt (by (with_reducible repeat (first | apply Kd.R_alloc | apply Kd.R_drewN | apply Kd.R_drew)); exact HO_7.out))) (below_size (by repeat (first | (with_reducible first | exact HB.out | apply below_alloc | apply pw_below_drewN | apply below_drew1 | refine below_set ?_ GE135.out) | exact HB.out))))
                                          have n3_ := Aside0.mk (blk_below (g := gb135) (o := .cells #[.int .i64 ((rd_T59 l1 x33_2).f0), .int .i64 ((rd_T59 l1 x33_2).f1), .int .i64 ((rd_T59 l1 x33_2).f2), .bool ((rd_T59 l1 x33_2).f3)] 59 (0, 0)) (by (with_reducible repeat (first | refine blk_drewN ?_ _ | refine blk_drew ?_ | refine blk_alloc ?_ _)); exact BK135.out) hb)
                                          have n4_ := Aside0.mk (below_step (by repeat (first | (with_reducible first | exact HB.out | apply below_alloc | apply pw_below_drewN | apply below_drew1 | refine below_set ?_ GE135.out) | exact HB.out)) hb)
                                          have z_HO138 := fun (h0_ : b 0 = true) => (show Kd.R (Kd.int .i64) 3 w36 w.heap.size (fun k_ => some k_ ≠ (.slice Ao12 x6_1.length co12 : Value).ownBlock ∧ some k_ ≠ (u7 : Value).ownBlock) v137 y136 from by first | exact (Kd.R_elder' (by (with_reducible repeat (first | apply Kd.R_alloc | apply Kd.R_drewN | apply Kd.R_drew)); exact (Q_HO138 h0_)) (Kd.R_base ho37) hb) | exact Kd.R_mono (Kd.R_elder' (by (with_reducible repeat (first | apply Kd.R_alloc | apply Kd.R_drewN | apply Kd.R_drew)); exact (Q_HO138 h0_)) (Kd.R_base ho37) hb) (fun _ h_ => by first | trivial | exact h_ | exact h_.1))
                                          clear HO_6
                                          clear HO_7
                                          clear BK135
                                          clear HB
                                          have HO_6 := n0_
                                          have HO_7 := n1_
                                          have HO142 := n2_
                                          have BK135 := n3_
                                          have HB := n4_
                                          clear n0_ n1_ n2_ n3_ n4_
                                          clear hb ho37
                                          obtain ⟨Ao38, co38, eo38⟩ := Kd.R_slice HO142.out
                                          subst eo38
                                          obtain ⟨ado38, fo38, _⟩ := Kd.at_int (Kd.R_reads' HO142.out).2.2 0 (by decide) (by rw [Ny140.out]; simp)
                                          cases fo38
                                          refine hK.out _ _ ⟨v137, adz_v137, .slice (some ado38) y140.length co38, ado38, m4_, m10_, (by rw [ha.out]; exact putSel_upk 5 hb_ rfl rfl rfl), (by (with_reducible repeat (first | apply Kd.R_alloc | apply Kd.R_drewN | apply Kd.R_drew)); exact Kd.R_mono HO_6.out (fun _ hk => (by first | exact hk | ((repeat' refine And.intro ?_ ?_) <;> first | exact hk.1 | exact hk.2 | exact hk.1.1 | exact hk.1.2 | exact hk.2.1 | exact hk.2.2 | exact hk.1.1.1 | exact hk.1.1.2 | exact hk.1.2.1 | exact hk.1.2.2 | exact hk.2.1.1 | exact hk.2.1.2 | exact hk.2.2.1 | exact hk.2.2.2)))), (by (with_reducible repeat (first | apply Kd.R_alloc | apply Kd.R_drewN | apply Kd.R_drew)); exact Kd.R_mono HO_7.out (fun _ hk => (by first | exact hk | ((repeat' refine And.intro ?_ ?_) <;> first | exact hk.1 | exact hk.2 | exact hk.1.1 | exact hk.1.2 | exact hk.2.1 | exact hk.2.2 | exact hk.1.1.1 | exact hk.1.1.2 | exact hk.1.2.1 | exact hk.1.2.2 | exact hk.2.1.1 | exact hk.2.1.2 | exact hk.2.2.1 | exact hk.2.2.2)))), (by (with_reducible repeat (first | refine blk_drewN ?_ _ | refine blk_drew ?_ | refine blk_alloc ?_ _)); exact BK135.out), (by repeat (first | (with_reducible first | exact HB.out | apply below_alloc | apply pw_below_drewN | apply below_drew1 | refine below_set ?_ GE135.out) | exact HB.out)), z_HO138, Q_HA_HO138, fun _ => (by (with_reducible repeat (first | apply Kd.R_alloc | apply Kd.R_drewN | apply Kd.R_drew)); exact Kd.R_mono HO142.out (fun _ hk => (by first | exact hk | ((repeat' refine And.intro ?_ ?_) <;> first | exact hk.1 | exact hk.2 | exact hk.1.1 | exact hk.1.2 | exact hk.2.1 | exact hk.2.2 | exact hk.1.1.1 | exact hk.1.1.2 | exact hk.1.2.1 | exact hk.1.2.2 | exact hk.2.1.1 | exact hk.2.1.2 | exact hk.2.2.1 | exact hk.2.2.2)))), fun _ => ⟨_, rfl⟩, Q_X4_, fun h0_ => absurd ((hoff 10 (by kernel_rfl)).symm.trans h0_) (by decide)⟩
                                        refine steps_cons ?_ ?_
                                        · rintro b a w' ⟨v137, adz_v137, v141, adz_v141, m4_, m10_, ha, Q_HO_6, Q_HO_7, Q_BK135, Q_HB, Q_HO138, Q_HA_HO138, Q_HO142, Q_HA_HO142, Q_X4_, Q_X10_⟩ hb_ hon hoff
                                          refine ⟨_, rfl, fun K hK => ?_⟩
                                          have e62 : a.tmps[62]? = some (.pointer (some ⟨gb135, 2, none⟩)) := by rw [ha]; exact (putSel_off rfl).trans rfl
                                          replace ha := Aside0.mk ha
                                          have HO_6 := Aside0.mk Q_HO_6
                                          have HO_7 := Aside0.mk Q_HO_7
                                          have BK135 := Aside0.mk Q_BK135
                                          have HB := Aside0.mk Q_HB
                                          have hc0_ : w'.cell? ⟨gb135, 0, none⟩ = some (.int .i64 ((rd_T59 l1 x33_2).f0)) := (blk_cell BK135.out 0).trans rfl
                                          have hc1_ : w'.cell? ⟨gb135, 1, none⟩ = some (.int .i64 ((rd_T59 l1 x33_2).f1)) := (blk_cell BK135.out 1).trans rfl
                                          have hc2_ : w'.cell? ⟨gb135, 2, none⟩ = some (.int .i64 ((rd_T59 l1 x33_2).f2)) := (blk_cell BK135.out 2).trans rfl
                                          have hc3_ : w'.cell? ⟨gb135, 3, none⟩ = some (.bool ((rd_T59 l1 x33_2).f3)) := (blk_cell BK135.out 3).trans rfl
                                          refine value_ (w1 := w') (v := .int .i64 ((rd_T59 l1 x33_2).f2)) (by rfl) rfl ?_ ?_
                                          · go_simp
                                            (try simp only [i64_w])
                                            try rfl
                                          refine hK.out _ _ ⟨v137, adz_v137, v141, adz_v141, m4_, m10_, (by rw [ha.out]; exact putSel_upk 6 hb_ rfl rfl rfl), Q_HO_6, Q_HO_7, Q_BK135, Q_HB, Q_HO138, Q_HA_HO138, Q_HO142, Q_HA_HO142, Q_X4_, fun h0_ => absurd ((hoff 10 (by kernel_rfl)).symm.trans h0_) (by decide)⟩
                                        refine steps_cons ?_ ?_
                                        · rintro b a w' ⟨v137, adz_v137, v141, adz_v141, m4_, m10_, ha, Q_HO_6, Q_HO_7, Q_BK135, Q_HB, Q_HO138, Q_HA_HO138, Q_HO142, Q_HA_HO142, Q_X4_, Q_X10_⟩ hb_ hon hoff
                                          refine ⟨_, rfl, fun K hK => ?_⟩
                                          have e63 : a.tmps[63]? = some (.int .i64 ((rd_T59 l1 x33_2).f2)) := by rw [ha]; exact putSel_on (e := (8, 63, .int .i64 ((rd_T59 l1 x33_2).f2))) 6 rfl rfl (hon 8 (by kernel_rfl)) rfl
                                          replace ha := Aside0.mk ha
                                          have HO_6 := Aside0.mk Q_HO_6
                                          have HO_7 := Aside0.mk Q_HO_7
                                          have BK135 := Aside0.mk Q_BK135
                                          have HB := Aside0.mk Q_HB
                                          refine value_ (w1 := w') (v := .int .i64 ji30) (by rfl) rfl ?_ ?_
                                          · go_simp
                                            (try simp only [i64_w])
                                            try rfl
                                          refine hK.out _ _ ⟨v137, adz_v137, v141, adz_v141, m4_, m10_, (by rw [ha.out]; exact putSel_upk 7 hb_ rfl rfl rfl), Q_HO_6, Q_HO_7, Q_BK135, Q_HB, Q_HO138, Q_HA_HO138, Q_HO142, Q_HA_HO142, Q_X4_, fun h0_ => absurd ((hoff 10 (by kernel_rfl)).symm.trans h0_) (by decide)⟩
                                        refine steps_cons ?_ ?_
                                        · rintro b a w' ⟨v137, adz_v137, v141, adz_v141, m4_, m10_, ha, Q_HO_6, Q_HO_7, Q_BK135, Q_HB, Q_HO138, Q_HA_HO138, Q_HO142, Q_HA_HO142, Q_X4_, Q_X10_⟩ hb_ hon hoff
                                          refine ⟨_, rfl, fun K hK => ?_⟩
                                          have e61 : a.tmps[61]? = some (v141) := by rw [ha]; exact putSel_on (e := (6, 61, v141)) 5 rfl rfl (hon 6 (by kernel_rfl)) rfl
                                          have e64 : a.tmps[64]? = some (.int .i64 ji30) := by rw [ha]; exact putSel_on (e := (9, 64, .int .i64 ji30)) 7 rfl rfl (hon 9 (by kernel_rfl)) rfl
                                          replace ha := Aside0.mk ha
                                          have HO_6 := Aside0.mk Q_HO_6
                                          have HO_7 := Aside0.mk Q_HO_7
                                          have BK135 := Aside0.mk Q_BK135
                                          have HB := Aside0.mk Q_HB
                                          have HO142 := Aside0.mk (Q_HO142 (hon 6 (by kernel_rfl)))
                                          have HA_HO142 := Aside0.mk (Q_HA_HO142 (hon 6 (by kernel_rfl)))
                                          obtain ⟨c_, hv_⟩ := HA_HO142.out
                                          rw [hv_] at e61
                                          refine value_ (w1 := w') (v := .pointer (some (adz_v141.add ((ji30)).toNat))) (by rfl) rfl ?_ ?_
                                          · go_simp
                                            (try simp only [i64_w])
                                            try rfl
                                          refine hK.out _ _ ⟨v137, adz_v137, v141, adz_v141, m4_, (.pointer (some (adz_v141.add ((ji30)).toNat))), (by rw [ha.out]; exact putSel_upk 8 hb_ rfl rfl rfl), Q_HO_6, Q_HO_7, Q_BK135, Q_HB, Q_HO138, Q_HA_HO138, Q_HO142, Q_HA_HO142, Q_X4_, fun _ => rfl⟩
                                        refine steps_cons ?_ ?_
                                        · rintro b a w' ⟨v137, adz_v137, v141, adz_v141, m4_, m10_, ha, Q_HO_6, Q_HO_7, Q_BK135, Q_HB, Q_HO138, Q_HA_HO138, Q_HO142, Q_HA_HO142, Q_X4_, Q_X10_⟩ hb_ hon hoff
                                          refine ⟨_, rfl, fun K hK => ?_⟩
                                          have e65 : a.tmps[65]? = some (m10_) := by rw [ha]; exact putSel_on (e := (10, 65, m10_)) 8 rfl rfl (hon 10 (by kernel_rfl)) rfl
                                          rw [Q_X10_ (hon 10 (by kernel_rfl))] at e65
                                          replace ha := Aside0.mk ha
                                          have HO_6 := Aside0.mk Q_HO_6
                                          have HO_7 := Aside0.mk Q_HO_7
                                          have BK135 := Aside0.mk Q_BK135
                                          have HB := Aside0.mk Q_HB
                                          have HO142 := Aside0.mk (Q_HO142 (hon 6 (by kernel_rfl)))
                                          have HA_HO142 := Aside0.mk (Q_HA_HO142 (hon 6 (by kernel_rfl)))
                                          obtain ⟨c_, hv_⟩ := HA_HO142.out
                                          have hF_ := HO142.out
                                          rw [hv_] at hF_
                                          obtain ⟨ad_, ea_, hx_⟩ := Kd.at_int (Kd.R_reads' hF_).2.2 (ji30) (of_eq_true pi143) (of_eq_true qi143)
                                          cases ea_
                                          refine value_ (w1 := w') (v := .int .i64 (rd y140 (ji30))) (by rfl) rfl ?_ ?_
                                          · go_simp
                                            (try simp only [i64_w])
                                            try rfl
                                          refine hK.out _ _ ⟨v137, adz_v137, v141, adz_v141, m4_, m10_, (by rw [ha.out]; exact putSel_upk 9 hb_ rfl rfl rfl), Q_HO_6, Q_HO_7, Q_BK135, Q_HB, Q_HO138, Q_HA_HO138, Q_HO142, Q_HA_HO142, Q_X4_, Q_X10_⟩
                                        refine steps_cons ?_ ?_
                                        · rintro b a w' ⟨v137, adz_v137, v141, adz_v141, m4_, m10_, ha, Q_HO_6, Q_HO_7, Q_BK135, Q_HB, Q_HO138, Q_HA_HO138, Q_HO142, Q_HA_HO142, Q_X4_, Q_X10_⟩ hb_ hon hoff
                                          refine ⟨_, rfl, fun K hK => ?_⟩
                                          have e60 : a.tmps[60]? = some (.int .i64 (rd y136 (ji27))) := by rw [ha]; exact putSel_on (e := (5, 60, .int .i64 (rd y136 (ji27)))) 4 rfl rfl (hon 5 (by kernel_rfl)) rfl
                                          have e66 : a.tmps[66]? = some (.int .i64 (rd y140 (ji30))) := by rw [ha]; exact putSel_on (e := (11, 66, .int .i64 (rd y140 (ji30)))) 9 rfl rfl (hon 11 (by kernel_rfl)) rfl
                                          replace ha := Aside0.mk ha
                                          have HO_6 := Aside0.mk Q_HO_6
                                          have HO_7 := Aside0.mk Q_HO_7
                                          have BK135 := Aside0.mk Q_BK135
                                          have HB := Aside0.mk Q_HB
                                          have HO138 := Aside0.mk (Q_HO138 (hon 0 (by kernel_rfl)))
                                          have HA_HO138 := Aside0.mk (Q_HA_HO138 (hon 0 (by kernel_rfl)))
                                          have HO142 := Aside0.mk (Q_HO142 (hon 6 (by kernel_rfl)))
                                          have HA_HO142 := Aside0.mk (Q_HA_HO142 (hon 6 (by kernel_rfl)))
                                          refine value_ (w1 := w') (v := .int .i64 (Go.bits .or .i64 (rd y136 (ji27)) (rd y140 (ji30)))) (by rfl) rfl ?_ ?_
                                          · go_simp
                                            (try simp only [i64_w])
                                            try rfl
                                          refine hK.out _ _ ⟨v137, adz_v137, v141, adz_v141, m4_, m10_, (by rw [ha.out]; exact putSel_upk 10 hb_ rfl rfl rfl), Q_HO_6, Q_HO_7, Q_BK135, Q_HB, Q_HO138, Q_HA_HO138, Q_HO142, Q_HA_HO142, Q_X4_, Q_X10_⟩
                                        refine steps_cons ?_ ?_
                                        · rintro b a w' ⟨v137, adz_v137, v141, adz_v141, m4_, m10_, ha, Q_HO_6, Q_HO_7, Q_BK135, Q_HB, Q_HO138, Q_HA_HO138, Q_HO142, Q_HA_HO142, Q_X4_, Q_X10_⟩ hb_ hon hoff
                                          refine ⟨_, rfl, fun K hK => ?_⟩
                                          have e67 : a.tmps[67]? = some (.int .i64 (Go.bits .or .i64 (rd y136 (ji27)) (rd y140 (ji30)))) := by rw [ha]; exact putSel_on (e := (12, 67, .int .i64 (Go.bits .or .i64 (rd y136 (ji27)) (rd y140 (ji30))))) 10 rfl rfl (hon 12 (by kernel_rfl)) rfl
                                          replace ha := Aside0.mk ha
                                          have HO_6 := Aside0.mk Q_HO_6
                                          have HO_7 := Aside0.mk Q_HO_7
                                          have BK135 := Aside0.mk Q_BK135
                                          have HB := Aside0.mk Q_HB
                                          have HO138 := Aside0.mk (Q_HO138 (hon 0 (by kernel_rfl)))
                                          have HA_HO138 := Aside0.mk (Q_HA_HO138 (hon 0 (by kernel_rfl)))
                                          have HO142 := Aside0.mk (Q_HO142 (hon 6 (by kernel_rfl)))
                                          have HA_HO142 := Aside0.mk (Q_HA_HO142 (hon 6 (by kernel_rfl)))
                                          refine value_ (w1 := w') (v := .int .i64 (Go.bits .or .i64 (rd y136 (ji27)) (rd y140 (ji30)))) (by rfl) rfl ?_ ?_
                                          · go_simp
                                            (try simp only [i64_w])
                                            try rfl
                                          refine hK.out _ _ ⟨v137, adz_v137, v141, adz_v141, m4_, m10_, (by rw [ha.out]; exact putSel_upk 11 hb_ rfl rfl rfl), Q_HO_6, Q_HO_7, Q_BK135, Q_HB, Q_HO138, Q_HA_HO138, Q_HO142, Q_HA_HO142, Q_X4_, Q_X10_⟩
                                        exact steps_nil
                                      rintro b a w42 hall ⟨v137, adz_v137, v141, adz_v141, m4_, m10_, ha, Q_HO_6, Q_HO_7, Q_BK135, Q_HB, Q_HO138, Q_HA_HO138, Q_HO142, Q_HA_HO142, Q_X4_, Q_X10_⟩
                                      clear BK135 HB HO_6 HO_7
                                      have hb0_ := hall 0 (by kernel_rfl)
                                      have hb2_ := hall 2 (by kernel_rfl)
                                      have hb3_ := hall 3 (by kernel_rfl)
                                      have hb4_ := hall 4 (by kernel_rfl)
                                      have hb5_ := hall 5 (by kernel_rfl)
                                      have hb6_ := hall 6 (by kernel_rfl)
                                      have hb8_ := hall 8 (by kernel_rfl)
                                      have hb9_ := hall 9 (by kernel_rfl)
                                      have hb10_ := hall 10 (by kernel_rfl)
                                      have hb11_ := hall 11 (by kernel_rfl)
                                      have hb12_ := hall 12 (by kernel_rfl)
                                      have hb13_ := hall 13 (by kernel_rfl)
                                      subst ha
                                      obtain rfl := Q_X4_ hb4_
                                      obtain rfl := Q_X10_ hb10_
                                      simp only [putSel, hb0_, hb2_, hb3_, hb4_, hb5_, hb6_, hb8_, hb9_, hb10_, hb11_, hb12_, hb13_, if_true, Act.put, List.setIfInBounds_toArray, List.set_cons_zero, List.set_cons_succ]
                                      have HO_6 := Aside0.mk Q_HO_6
                                      clear Q_HO_6
                                      have HO_7 := Aside0.mk Q_HO_7
                                      clear Q_HO_7
                                      have BK135 := Aside0.mk Q_BK135
                                      clear Q_BK135
                                      have HB := Aside0.mk Q_HB
                                      clear Q_HB
                                      have HO138 := Aside0.mk (Q_HO138 hb0_)
                                      clear Q_HO138
                                      have HA_HO138 := Aside0.mk (Q_HA_HO138 hb0_)
                                      clear Q_HA_HO138
                                      have HO142 := Aside0.mk (Q_HO142 hb6_)
                                      clear Q_HO142
                                      have HA_HO142 := Aside0.mk (Q_HA_HO142 hb6_)
                                      clear Q_HA_HO142
                                      clear hall hb0_ hb2_ hb3_ hb4_ hb5_ hb6_ hb8_ hb9_ hb10_ hb11_ hb12_ hb13_
                                      obtain ⟨co43, eo43⟩ := HA_HO138.out
                                      clear HA_HO138
                                      subst eo43
                                      obtain ⟨co44, eo44⟩ := HA_HO142.out
                                      clear HA_HO142
                                      subst eo44
                                      have hcz45_0 : w42.cell? ⟨gb135, 0, none⟩ = some (.int .i64 ((rd_T59 l1 x33_2).f0)) := (blk_cell BK135.out 0).trans rfl
                                      have hcz45_1 : w42.cell? ⟨gb135, 1, none⟩ = some (.int .i64 ((rd_T59 l1 x33_2).f1)) := (blk_cell BK135.out 1).trans rfl
                                      have hcz45_2 : w42.cell? ⟨gb135, 2, none⟩ = some (.int .i64 ((rd_T59 l1 x33_2).f2)) := (blk_cell BK135.out 2).trans rfl
                                      have hcz45_3 : w42.cell? ⟨gb135, 3, none⟩ = some (.bool ((rd_T59 l1 x33_2).f3)) := (blk_cell BK135.out 3).trans rfl
                                      have hfz45_0 := blk_frozen BK135.out 0
                                      have hfz45_1 := blk_frozen BK135.out 1
                                      have hfz45_2 := blk_frozen BK135.out 2
                                      have hfz45_3 := blk_frozen BK135.out 3
                                      have o7_ := HO_7.out.1
                                      have o6_ := HO_6.out.1
                                      have o138_ := HO138.out.1
                                      have o142_ := HO142.out.1
                                      replace HO_7 := Aside0.mk (R_int_ok (ok' := fun k => some k ≠ (.slice Ao12 x6_1.length co12 : Value).ownBlock ∧ some k ≠ (.slice (some adz_v137) y136.length co43 : Value).ownBlock ∧ some k ≠ (.slice (some adz_v141) y140.length co44 : Value).ownBlock) HO_7.out (fun k hk => ⟨(by first | exact o7_ k hk | exact (o7_ k hk).1 | exact (o7_ k hk).2), fun he => by first | exact (o138_ k he.symm).2 hk.symm | exact (o138_ k he.symm).2.1 hk.symm, fun he => by first | exact (o142_ k he.symm).2 hk.symm | exact (o142_ k he.symm).2.1 hk.symm⟩))
                                      replace HO_6 := Aside0.mk (R_int_ok (ok' := fun k => some k ≠ (u7 : Value).ownBlock ∧ some k ≠ (.slice (some adz_v137) y136.length co43 : Value).ownBlock ∧ some k ≠ (.slice (some adz_v141) y140.length co44 : Value).ownBlock) HO_6.out (fun k hk => ⟨(by first | exact o6_ k hk | exact (o6_ k hk).1 | exact (o6_ k hk).2), fun he => by first | exact (o138_ k he.symm).1 hk.symm | exact (o138_ k he.symm).2.1 hk.symm, fun he => by first | exact (o142_ k he.symm).1 hk.symm | exact (o142_ k he.symm).2.1 hk.symm⟩))
                                      clear o7_ o6_ o138_ o142_
                                      go_wp2_with (first | ((with_reducible refine gate_builtin (b := .append) (xs := #[.tmp 72, .tmp 74]) rfl ?_); at_builtin; refine Kd.R_append (Kd.int .i64) (w0 := w) w.heap.size rfl (.tmp 72) (.tmp 74) 22 3 (.int .i64 0) 8 rfl Try.underlying22 info3 rfl (by decide) (by omega) u7 x7_2 (Go.bits .or .i64 (Go.bits .or .i64 (rd y136 (ji27)) (rd y140 (ji30))) 16) [.int .i64 (Go.bits .or .i64 (Go.bits .or .i64 (rd y136 (ji27)) (rd y140 (ji30))) 16)] (fun k_ => some k_ ≠ (.slice Ao12 x6_1.length co12 : Value).ownBlock ∧ some k_ ≠ (.slice (some adz_v137) y136.length co43 : Value).ownBlock ∧ some k_ ≠ (.slice (some adz_v141) y140.length co44 : Value).ownBlock) (fun _ => False) rfl rfl ?aP (fun _ hk => hk.elim) ?aF ?aO ?aB ?aS ?aL ?_; (case aP => exact rfl); (case aB => exact (by repeat (first | (with_reducible first | exact HB.out | apply below_alloc | apply pw_below_drewN | apply below_drew1 | refine below_set ?_ GE135.out) | exact HB.out))); (case aF => exact (fun k_ hk => ⟨Kd.fresh' (Kd.R_lt (by (with_reducible repeat (first | apply Kd.R_alloc | apply Kd.R_drewN | apply Kd.R_drew)); exact HO_6.out)) k_ hk, Kd.fresh' (Kd.R_lt (by (with_reducible repeat (first | apply Kd.R_alloc | apply Kd.R_drewN | apply Kd.R_drew)); exact HO138.out)) k_ hk, Kd.fresh' (Kd.R_lt (by (with_reducible repeat (first | apply Kd.R_alloc | apply Kd.R_drewN | apply Kd.R_drew)); exact HO142.out)) k_ hk⟩)); (case aO => exact (by (with_reducible repeat (first | apply Kd.R_alloc | apply Kd.R_drewN | apply Kd.R_drew)); exact Kd.R_mono HO_7.out (fun _ hk => (by first | exact hk | ((repeat' refine And.intro ?_ ?_) <;> first | exact hk.1 | exact hk.2 | exact hk.1.1 | exact hk.1.2 | exact hk.2.1 | exact hk.2.2 | exact hk.1.1.1 | exact hk.1.1.2 | exact hk.1.2.1 | exact hk.1.2.2 | exact hk.2.1.1 | exact hk.2.1.2 | exact hk.2.2.1 | exact hk.2.2.2))))); (case aS => exact (below_size (by repeat (first | (with_reducible first | exact HB.out | apply below_alloc | apply pw_below_drewN | apply below_drew1 | refine below_set ?_ GE135.out) | exact HB.out)))); (case aL => have := LMc34.out; omega); intro v145 w46 ho hb hg hat; rw [← Ny144.out] at ho; have n0_ := Aside0.mk (Kd.R_after (ok := (fun k_ => some k_ ≠ (.slice (some adz_v137) y136.length co43 : Value).ownBlock ∧ some k_ ≠ (.slice (some adz_v141) y140.length co44 : Value).ownBlock)) (by (with_reducible repeat (first | apply Kd.R_alloc | apply Kd.R_drewN | apply Kd.R_drew)); exact Kd.R_mono HO_6.out (fun _ hk => (by first | exact hk | ((repeat' refine And.intro ?_ ?_) <;> first | exact hk.1 | exact hk.2 | exact hk.1.1 | exact hk.1.2 | exact hk.2.1 | exact hk.2.2 | exact hk.1.1.1 | exact hk.1.1.2 | exact hk.1.2.1 | exact hk.1.2.2 | exact hk.2.1.1 | exact hk.2.1.2 | exact hk.2.2.1 | exact hk.2.2.2)))) hg hat); have n1_ := Aside0.mk (blk_grown (g := gb135) (o := .cells #[.int .i64 ((rd_T59 l1 x33_2).f0), .int .i64 ((rd_T59 l1 x33_2).f1), .int .i64 ((rd_T59 l1 x33_2).f2), .bool ((rd_T59 l1 x33_2).f3)] 59 (0, 0)) (by (with_reducible repeat (first | refine blk_drewN ?_ _ | refine blk_drew ?_ | refine blk_alloc ?_ _)); exact BK135.out) hg (Kd.R_ne HO_7.out BK135.out (by decide))); have n2_ := Aside0.mk True.intro; have n3_ := Aside0.mk True.intro; have n4_ := Aside0.mk (hb); have n5_ := Aside0.mk (ho); clear HO_6; clear BK135; clear HO138; clear HO142; clear HB; clear HO_7; have HO_6 := n0_; have BK135 := n1_; have HO138 := n2_; have HO142 := n3_; have HB := n4_; have HO146 := n5_; clear n0_ n1_ n2_ n3_ n4_ n5_; clear ho hb hg hat))
                                      go_roundg kj15
                                      case measure => have := HK1.out; have := HK2.out; have := HJ15.out; omega
                                      case rel => exact ⟨(y144), (wrap64 (x33_2 + 1)), (by first | rfl | (simp; done) | (simp [*]; done)), H', ⟨by have := HK1.out; have := HK2.out; have := HJ15.out; omega⟩, ⟨by (with_reducible repeat (first | apply Kd.R_alloc | apply Kd.R_drewN | apply Kd.R_drew)); exact Kd.R_mono HO_6.out (fun _ hk => hk.2)⟩, ⟨by (with_reducible repeat (first | apply Kd.R_alloc | apply Kd.R_drewN | apply Kd.R_drew)); exact Kd.R_mono HO146.out (fun _ hk => hk.1)⟩, ⟨by repeat (first | (with_reducible first | exact HB.out | apply below_alloc | apply pw_below_drewN | apply below_drew1 | refine below_set ?_ GE135.out) | exact HB.out)⟩⟩
                                    · rw [if_neg c34] at H
                                      exact absurd H (by simp)
                                  · rw [if_neg c33] at H
                                    have c33b0 : ((rd_T59 l1 x33_2).f3) = false := by simpa using c33
                                    clear c33
                                    by_cases c47 : x7_2.length < 17592186044416
                                    · rw [if_pos c47] at H
                                      have LMc47 := Aside0.mk c47
                                      clear c47
                                      obtain ⟨y147, hy147⟩ : ∃ y_ : List Int, y_ = (x7_2 ++ [Go.bits .or .i64 (rd y136 (ji27)) (rd y140 (ji30))]) := ⟨_, rfl⟩
                                      replace H : (keys_Joy.l1 kj15 a0 x6_1 y147 l1 (l1.length : Int) (wrap64 (x33_2 + 1))) = some (r1, r2) := by first | (rw [hy147]; with_reducible exact H) | (have H2_ := (Option.bind_some _ _).symm.trans H; rw [hy147]; with_reducible exact H2_) | (have H2_ := (Option.bind_some _ _).symm.trans H; with_reducible exact H2_) | with_reducible exact H | (rw [hy147]; exact H) | exact H
                                      have Ny147 := Aside0.mk hy147
                                      clear hy147
                                      have H' := Aside0.mk H
                                      clear H
                                      try go_wp2
                                      have pi139 : (0 ≤ ((ji27) : Int)) = True := eq_true (of_decide_eq_true (by first | (with_reducible assumption) | assumption))
                                      have qi139 : ((ji27) < (y136.length : Int)) = True := eq_true (of_decide_eq_true (by first | (with_reducible assumption) | assumption))
                                      have pi143 : (0 ≤ ((ji30) : Int)) = True := eq_true (of_decide_eq_true (by first | (with_reducible assumption) | assumption))
                                      have qi143 : ((ji30) < (y140.length : Int)) = True := eq_true (of_decide_eq_true (by first | (with_reducible assumption) | assumption))
                                      have n0_ := Aside0.mk (Kd.R_drew HO_6.out)
                                      have n1_ := Aside0.mk (Kd.R_drew HO_7.out)
                                      have n2_ := Aside0.mk (blk_drew BK135.out)
                                      have n3_ := Aside0.mk (below_drew1 HB.out)
                                      clear HO_6
                                      clear HO_7
                                      clear BK135
                                      clear HB
                                      have HO_6 := n0_
                                      have HO_7 := n1_
                                      have BK135 := n2_
                                      have HB := n3_
                                      clear n0_ n1_ n2_ n3_
                                      refine start_ (n := 14) (S := fun w' => True) (ds := []) #[false, false, false, false, false, false, false, false, false, false, false, false, false, false] (by kernel_rfl) rfl rfl trivial (fun hHeld => ?_); refine with_tabW keys_Joy.tab15 keys_Joy.bits15 (fun HT_ HW_ => ?_)
                                      generalize wc.drew = w48 at HO_6 HO_7 BK135 HB hHeld ⊢
                                      refine pure_ (i := 1) (N := some 56) (v := ?_) (a' := ?_) #[false, true, false, false, false, false, false, false, false, false, false, false, false, false] rfl rfl (any_of HT_.out (by kernel_rfl)) (fun _ _ _ h => h) (Or.inl ⟨by rfl, ?_⟩) ?_ ?_
                                      rotate_left
                                      · intro w'
                                        go_simp
                                        with_reducible rfl
                                      rotate_left
                                      · simp only [Act.put, List.setIfInBounds_toArray, List.set_cons_zero, List.set_cons_succ, i64_w, i32_w]
                                        rfl
                                      refine pure_ (i := 7) (N := some 62) (v := ?_) (a' := ?_) #[false, true, false, false, false, false, false, true, false, false, false, false, false, false] rfl rfl (any_of HT_.out (by kernel_rfl)) (fun _ _ _ h => h) (Or.inl ⟨by rfl, ?_⟩) ?_ ?_
                                      rotate_left
                                      · intro w'
                                        go_simp
                                        with_reducible rfl
                                      rotate_left
                                      · simp only [Act.put, List.setIfInBounds_toArray, List.set_cons_zero, List.set_cons_succ, i64_w, i32_w]
                                        rfl
                                      refine inv_at [0, 2, 3, 4, 5, 6, 8, 9, 10, 11, 12, 13] (fun a0_ b a w' => ∃ (v137 : Value) (adz_v137 : Addr) (v141 : Value) (adz_v141 : Addr) (m4_ : Value) (m10_ : Value), a = putSel a0_ b [(0, 55, v137), (2, 57, .int .i64 ((rd_T59 l1 x33_2).f1)), (3, 58, .int .i64 ji27), (4, 59, m4_), (5, 60, .int .i64 (rd y136 (ji27))), (6, 61, v141), (8, 63, .int .i64 ((rd_T59 l1 x33_2).f2)), (9, 64, .int .i64 ji30), (10, 65, m10_), (11, 66, .int .i64 (rd y140 (ji30))), (12, 67, .int .i64 (Go.bits .or .i64 (rd y136 (ji27)) (rd y140 (ji30)))), (13, 13, .int .i64 (Go.bits .or .i64 (rd y136 (ji27)) (rd y140 (ji30))))] ∧ (Kd.R (Kd.int .i64) 3 w' w.heap.size (fun k_ => some k_ ≠ (u7 : Value).ownBlock) (.slice Ao12 x6_1.length co12) x6_1) ∧ (Kd.R (Kd.int .i64) 3 w' w.heap.size (fun k_ => some k_ ≠ (.slice Ao12 x6_1.length co12 : Value).ownBlock) u7 x7_2) ∧ (w'.heap[gb135]? = some (.cells #[.int .i64 ((rd_T59 l1 x33_2).f0), .int .i64 ((rd_T59 l1 x33_2).f1), .int .i64 ((rd_T59 l1 x33_2).f2), .bool ((rd_T59 l1 x33_2).f3)] 59 (0, 0))) ∧ (Below w.heap.size w w') ∧ (b 0 = true → Kd.R (Kd.int .i64) 3 w' w.heap.size (fun k_ => some k_ ≠ (.slice Ao12 x6_1.length co12 : Value).ownBlock ∧ some k_ ≠ (u7 : Value).ownBlock) v137 y136) ∧ (b 0 = true → ∃ c_, (v137 : Value) = .slice (some adz_v137) y136.length c_) ∧ (b 6 = true → Kd.R (Kd.int .i64) 3 w' w.heap.size (fun k_ => some k_ ≠ (.slice Ao12 x6_1.length co12 : Value).ownBlock ∧ some k_ ≠ (u7 : Value).ownBlock) v141 y140) ∧ (b 6 = true → ∃ c_, (v141 : Value) = .slice (some adz_v141) y140.length c_) ∧ (b 4 = true → (m4_ : Value) = .pointer (some (adz_v137.add ((ji27)).toNat))) ∧ (b 10 = true → (m10_ : Value) = .pointer (some (adz_v141.add ((ji30)).toNat)))) HT_.out HW_.out (by kernel_rfl) (by kernel_rfl) ?_ ?_ ?_
                                      · exact ⟨.bool false, ⟨0, 0, none⟩, .bool false, ⟨0, 0, none⟩, .bool false, .bool false, by simp only [putSel, Bool.false_eq_true, if_false], HO_6.out, HO_7.out, BK135.out, HB.out, fun h_ => absurd h_ (by decide), fun h_ => absurd h_ (by decide), fun h_ => absurd h_ (by decide), fun h_ => absurd h_ (by decide), fun h_ => absurd h_ (by decide), fun h_ => absurd h_ (by decide)⟩
                                      · skip
                                        clear BK135 HB HO_6 HO_7
                                        refine steps_cons ?_ ?_
                                        · rintro b a w' ⟨v137, adz_v137, v141, adz_v141, m4_, m10_, ha, Q_HO_6, Q_HO_7, Q_BK135, Q_HB, Q_HO138, Q_HA_HO138, Q_HO142, Q_HA_HO142, Q_X4_, Q_X10_⟩ hb_ hon hoff
                                          refine ⟨_, rfl, fun K hK => ?_⟩
                                          replace ha := Aside0.mk ha
                                          have HO_6 := Aside0.mk Q_HO_6
                                          have HO_7 := Aside0.mk Q_HO_7
                                          have BK135 := Aside0.mk Q_BK135
                                          have HB := Aside0.mk Q_HB
                                          refine Kd.R_lit_step (Kd.int .i64) _ 3 ?hg (N := 55) ?hd (xs := ([1, 0, 2] : List Int)) (inner := [.int .i64 1, .int .i64 0, .int .i64 2]) (ok := fun _ => True) (okp := fun _ => True) ?hr ?hp (fun _ hk => hk) trivial (Below.refl _ _) (Nat.le_refl _) (by simp) ?_; (case hd => rfl); (case hg => rfl); (case hr => first | (go_simp; done) | (go_simp; rfl)); (case hp => exact (Reps.one (show Kd.M (Kd.int .i64) _ _ _ 1 [.int .i64 1] from rfl) (Reps.one (show Kd.M (Kd.int .i64) _ _ _ 0 [.int .i64 0] from rfl) (Reps.one (show Kd.M (Kd.int .i64) _ _ _ 2 [.int .i64 2] from rfl) (Reps.none _ _)))))
                                          intro v137 w49 ho50 hb hg_ hnew_
                                          clear hg_ hnew_
                                          (first | rw [← Ny136.out] at ho50 | (simp only [Int.reduceToNat] at ho50; rw [← Ny136.out] at ho50))
                                          have n0_ := Aside0.mk (Kd.R_elder' (by (with_reducible repeat (first | apply Kd.R_alloc | apply Kd.R_drewN | apply Kd.R_drew)); exact HO_6.out) (Kd.R_base ho50) hb)
                                          have n1_ := Aside0.mk (Kd.R_elder' (by (with_reducible repeat (first | apply Kd.R_alloc | apply Kd.R_drewN | apply Kd.R_drew)); exact HO_7.out) (Kd.R_base ho50) hb)
                                          have n2_ := Aside0.mk (Kd.R_lower (Kd.R_new' (Kd.R_new' ho50 (Kd.R_lt (by (with_reducible repeat (first | apply Kd.R_alloc | apply Kd.R_drewN | apply Kd.R_drew)); exact HO_6.out))) (Kd.R_lt (by (with_reducible repeat (first | apply Kd.R_alloc | apply Kd.R_drewN | apply Kd.R_drew)); exact HO_7.out))) (below_size (by repeat (first | (with_reducible first | exact HB.out | apply below_alloc | apply pw_below_drewN | apply below_drew1 | refine below_set ?_ GE135.out) | exact HB.out))))
                                          have n3_ := Aside0.mk (blk_below (g := gb135) (o := .cells #[.int .i64 ((rd_T59 l1 x33_2).f0), .int .i64 ((rd_T59 l1 x33_2).f1), .int .i64 ((rd_T59 l1 x33_2).f2), .bool ((rd_T59 l1 x33_2).f3)] 59 (0, 0)) (by (with_reducible repeat (first | refine blk_drewN ?_ _ | refine blk_drew ?_ | refine blk_alloc ?_ _)); exact BK135.out) hb)
                                          have n4_ := Aside0.mk (below_step (by repeat (first | (with_reducible first | exact HB.out | apply below_alloc | apply pw_below_drewN | apply below_drew1 | refine below_set ?_ GE135.out) | exact HB.out)) hb)
                                          have z_HO142 := fun (h0_ : b 6 = true) => (show Kd.R (Kd.int .i64) 3 w49 w.heap.size (fun k_ => some k_ ≠ (.slice Ao12 x6_1.length co12 : Value).ownBlock ∧ some k_ ≠ (u7 : Value).ownBlock) v141 y140 from by first | exact (Kd.R_elder' (by (with_reducible repeat (first | apply Kd.R_alloc | apply Kd.R_drewN | apply Kd.R_drew)); exact (Q_HO142 h0_)) (Kd.R_base ho50) hb) | exact Kd.R_mono (Kd.R_elder' (by (with_reducible repeat (first | apply Kd.R_alloc | apply Kd.R_drewN | apply Kd.R_drew)); exact (Q_HO142 h0_)) (Kd.R_base ho50) hb) (fun _ h_ => by first | trivial | exact h_ | exact h_.1))
                                          clear HO_6
                                          clear HO_7
                                          clear BK135
                                          clear HB
                                          have HO_6 := n0_
                                          have HO_7 := n1_
                                          have HO138 := n2_
                                          have BK135 := n3_
                                          have HB := n4_
                                          clear n0_ n1_ n2_ n3_ n4_
                                          clear hb ho50
                                          obtain ⟨Ao51, co51, eo51⟩ := Kd.R_slice HO138.out
                                          subst eo51
                                          obtain ⟨ado51, fo51, _⟩ := Kd.at_int (Kd.R_reads' HO138.out).2.2 0 (by decide) (by rw [Ny136.out]; simp)
                                          cases fo51
                                          refine hK.out _ _ ⟨.slice (some ado51) y136.length co51, ado51, v141, adz_v141, m4_, m10_, (by rw [ha.out]; exact putSel_upk 0 hb_ rfl rfl rfl), (by (with_reducible repeat (first | apply Kd.R_alloc | apply Kd.R_drewN | apply Kd.R_drew)); exact Kd.R_mono HO_6.out (fun _ hk => (by first | exact hk | ((repeat' refine And.intro ?_ ?_) <;> first | exact hk.1 | exact hk.2 | exact hk.1.1 | exact hk.1.2 | exact hk.2.1 | exact hk.2.2 | exact hk.1.1.1 | exact hk.1.1.2 | exact hk.1.2.1 | exact hk.1.2.2 | exact hk.2.1.1 | exact hk.2.1.2 | exact hk.2.2.1 | exact hk.2.2.2)))), (by (with_reducible repeat (first | apply Kd.R_alloc | apply Kd.R_drewN | apply Kd.R_drew)); exact Kd.R_mono HO_7.out (fun _ hk => (by first | exact hk | ((repeat' refine And.intro ?_ ?_) <;> first | exact hk.1 | exact hk.2 | exact hk.1.1 | exact hk.1.2 | exact hk.2.1 | exact hk.2.2 | exact hk.1.1.1 | exact hk.1.1.2 | exact hk.1.2.1 | exact hk.1.2.2 | exact hk.2.1.1 | exact hk.2.1.2 | exact hk.2.2.1 | exact hk.2.2.2)))), (by (with_reducible repeat (first | refine blk_drewN ?_ _ | refine blk_drew ?_ | refine blk_alloc ?_ _)); exact BK135.out), (by repeat (first | (with_reducible first | exact HB.out | apply below_alloc | apply pw_below_drewN | apply below_drew1 | refine below_set ?_ GE135.out) | exact HB.out)), fun _ => (by (with_reducible repeat (first | apply Kd.R_alloc | apply Kd.R_drewN | apply Kd.R_drew)); exact Kd.R_mono HO138.out (fun _ hk => (by first | exact hk | ((repeat' refine And.intro ?_ ?_) <;> first | exact hk.1 | exact hk.2 | exact hk.1.1 | exact hk.1.2 | exact hk.2.1 | exact hk.2.2 | exact hk.1.1.1 | exact hk.1.1.2 | exact hk.1.2.1 | exact hk.1.2.2 | exact hk.2.1.1 | exact hk.2.1.2 | exact hk.2.2.1 | exact hk.2.2.2)))), fun _ => ⟨_, rfl⟩, z_HO142, Q_HA_HO142, fun h0_ => absurd ((hoff 4 (by kernel_rfl)).symm.trans h0_) (by decide), Q_X10_⟩
                                        refine steps_cons ?_ ?_
                                        · rintro b a w' ⟨v137, adz_v137, v141, adz_v141, m4_, m10_, ha, Q_HO_6, Q_HO_7, Q_BK135, Q_HB, Q_HO138, Q_HA_HO138, Q_HO142, Q_HA_HO142, Q_X4_, Q_X10_⟩ hb_ hon hoff
                                          refine ⟨_, rfl, fun K hK => ?_⟩
                                          have e56 : a.tmps[56]? = some (.pointer (some ⟨gb135, 1, none⟩)) := by rw [ha]; exact (putSel_off rfl).trans rfl
                                          replace ha := Aside0.mk ha
                                          have HO_6 := Aside0.mk Q_HO_6
                                          have HO_7 := Aside0.mk Q_HO_7
                                          have BK135 := Aside0.mk Q_BK135
                                          have HB := Aside0.mk Q_HB
                                          have hc0_ : w'.cell? ⟨gb135, 0, none⟩ = some (.int .i64 ((rd_T59 l1 x33_2).f0)) := (blk_cell BK135.out 0).trans rfl
                                          have hc1_ : w'.cell? ⟨gb135, 1, none⟩ = some (.int .i64 ((rd_T59 l1 x33_2).f1)) := (blk_cell BK135.out 1).trans rfl
                                          have hc2_ : w'.cell? ⟨gb135, 2, none⟩ = some (.int .i64 ((rd_T59 l1 x33_2).f2)) := (blk_cell BK135.out 2).trans rfl
                                          have hc3_ : w'.cell? ⟨gb135, 3, none⟩ = some (.bool ((rd_T59 l1 x33_2).f3)) := (blk_cell BK135.out 3).trans rfl
                                          refine value_ (w1 := w') (v := .int .i64 ((rd_T59 l1 x33_2).f1)) (by rfl) rfl ?_ ?_
                                          · go_simp
                                            (try simp only [i64_w])
                                            try rfl
                                          refine hK.out _ _ ⟨v137, adz_v137, v141, adz_v141, m4_, m10_, (by rw [ha.out]; exact putSel_upk 1 hb_ rfl rfl rfl), Q_HO_6, Q_HO_7, Q_BK135, Q_HB, Q_HO138, Q_HA_HO138, Q_HO142, Q_HA_HO142, fun h0_ => absurd ((hoff 4 (by kernel_rfl)).symm.trans h0_) (by decide), Q_X10_⟩
                                        refine steps_cons ?_ ?_
                                        · rintro b a w' ⟨v137, adz_v137, v141, adz_v141, m4_, m10_, ha, Q_HO_6, Q_HO_7, Q_BK135, Q_HB, Q_HO138, Q_HA_HO138, Q_HO142, Q_HA_HO142, Q_X4_, Q_X10_⟩ hb_ hon hoff
                                          refine ⟨_, rfl, fun K hK => ?_⟩
                                          have e57 : a.tmps[57]? = some (.int .i64 ((rd_T59 l1 x33_2).f1)) := by rw [ha]; exact putSel_on (e := (2, 57, .int .i64 ((rd_T59 l1 x33_2).f1))) 1 rfl rfl (hon 2 (by kernel_rfl)) rfl
                                          replace ha := Aside0.mk ha
                                          have HO_6 := Aside0.mk Q_HO_6
                                          have HO_7 := Aside0.mk Q_HO_7
                                          have BK135 := Aside0.mk Q_BK135
                                          have HB := Aside0.mk Q_HB
                                          refine value_ (w1 := w') (v := .int .i64 ji27) (by rfl) rfl ?_ ?_
                                          · go_simp
                                            (try simp only [i64_w])
                                            try rfl
                                          refine hK.out _ _ ⟨v137, adz_v137, v141, adz_v141, m4_, m10_, (by rw [ha.out]; exact putSel_upk 2 hb_ rfl rfl rfl), Q_HO_6, Q_HO_7, Q_BK135, Q_HB, Q_HO138, Q_HA_HO138, Q_HO142, Q_HA_HO142, fun h0_ => absurd ((hoff 4 (by kernel_rfl)).symm.trans h0_) (by decide), Q_X10_⟩
                                        refine steps_cons ?_ ?_
                                        · rintro b a w' ⟨v137, adz_v137, v141, adz_v141, m4_, m10_, ha, Q_HO_6, Q_HO_7, Q_BK135, Q_HB, Q_HO138, Q_HA_HO138, Q_HO142, Q_HA_HO142, Q_X4_, Q_X10_⟩ hb_ hon hoff
                                          refine ⟨_, rfl, fun K hK => ?_⟩
                                          have e55 : a.tmps[55]? = some (v137) := by rw [ha]; exact putSel_on (e := (0, 55, v137)) 0 rfl rfl (hon 0 (by kernel_rfl)) rfl
                                          have e58 : a.tmps[58]? = some (.int .i64 ji27) := by rw [ha]; exact putSel_on (e := (3, 58, .int .i64 ji27)) 2 rfl rfl (hon 3 (by kernel_rfl)) rfl
                                          replace ha := Aside0.mk ha
                                          have HO_6 := Aside0.mk Q_HO_6
                                          have HO_7 := Aside0.mk Q_HO_7
                                          have BK135 := Aside0.mk Q_BK135
                                          have HB := Aside0.mk Q_HB
                                          have HO138 := Aside0.mk (Q_HO138 (hon 0 (by kernel_rfl)))
                                          have HA_HO138 := Aside0.mk (Q_HA_HO138 (hon 0 (by kernel_rfl)))
                                          obtain ⟨c_, hv_⟩ := HA_HO138.out
                                          rw [hv_] at e55
                                          refine value_ (w1 := w') (v := .pointer (some (adz_v137.add ((ji27)).toNat))) (by rfl) rfl ?_ ?_
                                          · go_simp
                                            (try simp only [i64_w])
                                            try rfl
                                          refine hK.out _ _ ⟨v137, adz_v137, v141, adz_v141, (.pointer (some (adz_v137.add ((ji27)).toNat))), m10_, (by rw [ha.out]; exact putSel_upk 3 hb_ rfl rfl rfl), Q_HO_6, Q_HO_7, Q_BK135, Q_HB, Q_HO138, Q_HA_HO138, Q_HO142, Q_HA_HO142, fun _ => rfl, Q_X10_⟩
                                        refine steps_cons ?_ ?_
                                        · rintro b a w' ⟨v137, adz_v137, v141, adz_v141, m4_, m10_, ha, Q_HO_6, Q_HO_7, Q_BK135, Q_HB, Q_HO138, Q_HA_HO138, Q_HO142, Q_HA_HO142, Q_X4_, Q_X10_⟩ hb_ hon hoff
                                          refine ⟨_, rfl, fun K hK => ?_⟩
                                          have e59 : a.tmps[59]? = some (m4_) := by rw [ha]; exact putSel_on (e := (4, 59, m4_)) 3 rfl rfl (hon 4 (by kernel_rfl)) rfl
                                          rw [Q_X4_ (hon 4 (by kernel_rfl))] at e59
                                          replace ha := Aside0.mk ha
                                          have HO_6 := Aside0.mk Q_HO_6
                                          have HO_7 := Aside0.mk Q_HO_7
                                          have BK135 := Aside0.mk Q_BK135
                                          have HB := Aside0.mk Q_HB
                                          have HO138 := Aside0.mk (Q_HO138 (hon 0 (by kernel_rfl)))
                                          have HA_HO138 := Aside0.mk (Q_HA_HO138 (hon 0 (by kernel_rfl)))
                                          obtain ⟨c_, hv_⟩ := HA_HO138.out
                                          have hF_ := HO138.out
                                          rw [hv_] at hF_
                                          obtain ⟨ad_, ea_, hx_⟩ := Kd.at_int (Kd.R_reads' hF_).2.2 (ji27) (of_eq_true pi139) (of_eq_true qi139)
                                          cases ea_
                                          refine value_ (w1 := w') (v := .int .i64 (rd y136 (ji27))) (by rfl) rfl ?_ ?_
                                          · go_simp
                                            (try simp only [i64_w])
                                            try rfl
                                          refine hK.out _ _ ⟨v137, adz_v137, v141, adz_v141, m4_, m10_, (by rw [ha.out]; exact putSel_upk 4 hb_ rfl rfl rfl), Q_HO_6, Q_HO_7, Q_BK135, Q_HB, Q_HO138, Q_HA_HO138, Q_HO142, Q_HA_HO142, Q_X4_, Q_X10_⟩
                                        refine steps_cons ?_ ?_
                                        · rintro b a w' ⟨v137, adz_v137, v141, adz_v141, m4_, m10_, ha, Q_HO_6, Q_HO_7, Q_BK135, Q_HB, Q_HO138, Q_HA_HO138, Q_HO142, Q_HA_HO142, Q_X4_, Q_X10_⟩ hb_ hon hoff
                                          refine ⟨_, rfl, fun K hK => ?_⟩
                                          replace ha := Aside0.mk ha
                                          have HO_6 := Aside0.mk Q_HO_6
                                          have HO_7 := Aside0.mk Q_HO_7
                                          have BK135 := Aside0.mk Q_BK135
                                          have HB := Aside0.mk Q_HB
                                          refine Kd.R_lit_step (Kd.int .i64) _ 3 ?hg (N := 61) ?hd (xs := ([4, 0, 8] : List Int)) (inner := [.int .i64 4, .int .i64 0, .int .i64 8]) (ok := fun _ => True) (okp := fun _ => True) ?hr ?hp (fun _ hk => hk) trivial (Below.refl _ _) (Nat.le_refl _) (by simp) ?_; (case hd => rfl); (case hg => rfl); (case hr => first | (go_simp; done) | (go_simp; rfl)); (case hp => exact (Reps.one (show Kd.M (Kd.int .i64) _ _ _ 4 [.int .i64 4] from rfl) (Reps.one (show Kd.M (Kd.int .i64) _ _ _ 0 [.int .i64 0] from rfl) (Reps.one (show Kd.M (Kd.int .i64) _ _ _ 8 [.int .i64 8] from rfl) (Reps.none _ _)))))
                                          intro v141 w49 ho50 hb hg_ hnew_
                                          clear hg_ hnew_
                                          (first | rw [← Ny140.out] at ho50 | (simp only [Int.reduceToNat] at ho50; rw [← Ny140.out] at ho50))
                                          have n0_ := Aside0.mk (Kd.R_elder' (by (with_reducible repeat (first | apply Kd.R_alloc | apply Kd.R_drewN | apply Kd.R_drew)); exact HO_6.out) (Kd.R_base ho50) hb)
                                          have n1_ := Aside0.mk (Kd.R_elder' (by (with_reducible repeat (first | apply Kd.R_alloc | apply Kd.R_drewN | apply Kd.R_drew)); exact HO_7.out) (Kd.R_base ho50) hb)
                                          have n2_ := Aside0.mk (Kd.R_lower (Kd.R_new' (Kd.R_new' ho50 (Kd.R_lt (by (with_reducible repeat (first | apply Kd.R_alloc | apply Kd.R_drewN | apply Kd.R_drew)); exact HO_6.out))) (Kd.R_lt (by (with_reducible repeat (first | apply Kd.R_alloc | apply Kd.R_drewN | apply Kd.R_drew)); exact HO_7.out))) (below_size (by repeat (first | (with_reducible first | exact HB.out | apply below_alloc | apply pw_below_drewN | apply below_drew1 | refine below_set ?_ GE135.out) | exact HB.out))))
                                          have n3_ := Aside0.mk (blk_below (g := gb135) (o := .cells #[.int .i64 ((rd_T59 l1 x33_2).f0), .int .i64 ((rd_T59 l1 x33_2).f1), .int .i64 ((rd_T59 l1 x33_2).f2), .bool ((rd_T59 l1 x33_2).f3)] 59 (0, 0)) (by (with_reducible repeat (first | refine blk_drewN ?_ _ | refine blk_drew ?_ | refine blk_alloc ?_ _)); exact BK135.out) hb)
                                          have n4_ := Aside0.mk (below_step (by repeat (first | (with_reducible first | exact HB.out | apply below_alloc | apply pw_below_drewN | apply below_drew1 | refine below_set ?_ GE135.out) | exact HB.out)) hb)
                                          have z_HO138 := fun (h0_ : b 0 = true) => (show Kd.R (Kd.int .i64) 3 w49 w.heap.size (fun k_ => some k_ ≠ (.slice Ao12 x6_1.length co12 : Value).ownBlock ∧ some k_ ≠ (u7 : Value).ownBlock) v137 y136 from by first | exact (Kd.R_elder' (by (with_reducible repeat (first | apply Kd.R_alloc | apply Kd.R_drewN | apply Kd.R_drew)); exact (Q_HO138 h0_)) (Kd.R_base ho50) hb) | exact Kd.R_mono (Kd.R_elder' (by (with_reducible repeat (first | apply Kd.R_alloc | apply Kd.R_drewN | apply Kd.R_drew)); exact (Q_HO138 h0_)) (Kd.R_base ho50) hb) (fun _ h_ => by first | trivial | exact h_ | exact h_.1))
                                          clear HO_6
                                          clear HO_7
                                          clear BK135
                                          clear HB
                                          have HO_6 := n0_
                                          have HO_7 := n1_
                                          have HO142 := n2_
                                          have BK135 := n3_
                                          have HB := n4_
                                          clear n0_ n1_ n2_ n3_ n4_
                                          clear hb ho50
                                          obtain ⟨Ao51, co51, eo51⟩ := Kd.R_slice HO142.out
                                          subst eo51
                                          obtain ⟨ado51, fo51, _⟩ := Kd.at_int (Kd.R_reads' HO142.out).2.2 0 (by decide) (by rw [Ny140.out]; simp)
                                          cases fo51
                                          refine hK.out _ _ ⟨v137, adz_v137, .slice (some ado51) y140.length co51, ado51, m4_, m10_, (by rw [ha.out]; exact putSel_upk 5 hb_ rfl rfl rfl), (by (with_reducible repeat (first | apply Kd.R_alloc | apply Kd.R_drewN | apply Kd.R_drew)); exact Kd.R_mono HO_6.out (fun _ hk => (by first | exact hk | ((repeat' refine And.intro ?_ ?_) <;> first | exact hk.1 | exact hk.2 | exact hk.1.1 | exact hk.1.2 | exact hk.2.1 | exact hk.2.2 | exact hk.1.1.1 | exact hk.1.1.2 | exact hk.1.2.1 | exact hk.1.2.2 | exact hk.2.1.1 | exact hk.2.1.2 | exact hk.2.2.1 | exact hk.2.2.2)))), (by (with_reducible repeat (first | apply Kd.R_alloc | apply Kd.R_drewN | apply Kd.R_drew)); exact Kd.R_mono HO_7.out (fun _ hk => (by first | exact hk | ((repeat' refine And.intro ?_ ?_) <;> first | exact hk.1 | exact hk.2 | exact hk.1.1 | exact hk.1.2 | exact hk.2.1 | exact hk.2.2 | exact hk.1.1.1 | exact hk.1.1.2 | exact hk.1.2.1 | exact hk.1.2.2 | exact hk.2.1.1 | exact hk.2.1.2 | exact hk.2.2.1 | exact hk.2.2.2)))), (by (with_reducible repeat (first | refine blk_drewN ?_ _ | refine blk_drew ?_ | refine blk_alloc ?_ _)); exact BK135.out), (by repeat (first | (with_reducible first | exact HB.out | apply below_alloc | apply pw_below_drewN | apply below_drew1 | refine below_set ?_ GE135.out) | exact HB.out)), z_HO138, Q_HA_HO138, fun _ => (by (with_reducible repeat (first | apply Kd.R_alloc | apply Kd.R_drewN | apply Kd.R_drew)); exact Kd.R_mono HO142.out (fun _ hk => (by first | exact hk | ((repeat' refine And.intro ?_ ?_) <;> first | exact hk.1 | exact hk.2 | exact hk.1.1 | exact hk.1.2 | exact hk.2.1 | exact hk.2.2 | exact hk.1.1.1 | exact hk.1.1.2 | exact hk.1.2.1 | exact hk.1.2.2 | exact hk.2.1.1 | exact hk.2.1.2 | exact hk.2.2.1 | exact hk.2.2.2)))), fun _ => ⟨_, rfl⟩, Q_X4_, fun h0_ => absurd ((hoff 10 (by kernel_rfl)).symm.trans h0_) (by decide)⟩
                                        refine steps_cons ?_ ?_
                                        · rintro b a w' ⟨v137, adz_v137, v141, adz_v141, m4_, m10_, ha, Q_HO_6, Q_HO_7, Q_BK135, Q_HB, Q_HO138, Q_HA_HO138, Q_HO142, Q_HA_HO142, Q_X4_, Q_X10_⟩ hb_ hon hoff
                                          refine ⟨_, rfl, fun K hK => ?_⟩
                                          have e62 : a.tmps[62]? = some (.pointer (some ⟨gb135, 2, none⟩)) := by rw [ha]; exact (putSel_off rfl).trans rfl
                                          replace ha := Aside0.mk ha
                                          have HO_6 := Aside0.mk Q_HO_6
                                          have HO_7 := Aside0.mk Q_HO_7
                                          have BK135 := Aside0.mk Q_BK135
                                          have HB := Aside0.mk Q_HB
                                          have hc0_ : w'.cell? ⟨gb135, 0, none⟩ = some (.int .i64 ((rd_T59 l1 x33_2).f0)) := (blk_cell BK135.out 0).trans rfl
                                          have hc1_ : w'.cell? ⟨gb135, 1, none⟩ = some (.int .i64 ((rd_T59 l1 x33_2).f1)) := (blk_cell BK135.out 1).trans rfl
                                          have hc2_ : w'.cell? ⟨gb135, 2, none⟩ = some (.int .i64 ((rd_T59 l1 x33_2).f2)) := (blk_cell BK135.out 2).trans rfl
                                          have hc3_ : w'.cell? ⟨gb135, 3, none⟩ = some (.bool ((rd_T59 l1 x33_2).f3)) := (blk_cell BK135.out 3).trans rfl
                                          refine value_ (w1 := w') (v := .int .i64 ((rd_T59 l1 x33_2).f2)) (by rfl) rfl ?_ ?_
                                          · go_simp
                                            (try simp only [i64_w])
                                            try rfl
                                          refine hK.out _ _ ⟨v137, adz_v137, v141, adz_v141, m4_, m10_, (by rw [ha.out]; exact putSel_upk 6 hb_ rfl rfl rfl), Q_HO_6, Q_HO_7, Q_BK135, Q_HB, Q_HO138, Q_HA_HO138, Q_HO142, Q_HA_HO142, Q_X4_, fun h0_ => absurd ((hoff 10 (by kernel_rfl)).symm.trans h0_) (by decide)⟩
                                        refine steps_cons ?_ ?_
                                        · rintro b a w' ⟨v137, adz_v137, v141, adz_v141, m4_, m10_, ha, Q_HO_6, Q_HO_7, Q_BK135, Q_HB, Q_HO138, Q_HA_HO138, Q_HO142, Q_HA_HO142, Q_X4_, Q_X10_⟩ hb_ hon hoff
                                          refine ⟨_, rfl, fun K hK => ?_⟩
                                          have e63 : a.tmps[63]? = some (.int .i64 ((rd_T59 l1 x33_2).f2)) := by rw [ha]; exact putSel_on (e := (8, 63, .int .i64 ((rd_T59 l1 x33_2).f2))) 6 rfl rfl (hon 8 (by kernel_rfl)) rfl
                                          replace ha := Aside0.mk ha
                                          have HO_6 := Aside0.mk Q_HO_6
                                          have HO_7 := Aside0.mk Q_HO_7
                                          have BK135 := Aside0.mk Q_BK135
                                          have HB := Aside0.mk Q_HB
                                          refine value_ (w1 := w') (v := .int .i64 ji30) (by rfl) rfl ?_ ?_
                                          · go_simp
                                            (try simp only [i64_w])
                                            try rfl
                                          refine hK.out _ _ ⟨v137, adz_v137, v141, adz_v141, m4_, m10_, (by rw [ha.out]; exact putSel_upk 7 hb_ rfl rfl rfl), Q_HO_6, Q_HO_7, Q_BK135, Q_HB, Q_HO138, Q_HA_HO138, Q_HO142, Q_HA_HO142, Q_X4_, fun h0_ => absurd ((hoff 10 (by kernel_rfl)).symm.trans h0_) (by decide)⟩
                                        refine steps_cons ?_ ?_
                                        · rintro b a w' ⟨v137, adz_v137, v141, adz_v141, m4_, m10_, ha, Q_HO_6, Q_HO_7, Q_BK135, Q_HB, Q_HO138, Q_HA_HO138, Q_HO142, Q_HA_HO142, Q_X4_, Q_X10_⟩ hb_ hon hoff
                                          refine ⟨_, rfl, fun K hK => ?_⟩
                                          have e61 : a.tmps[61]? = some (v141) := by rw [ha]; exact putSel_on (e := (6, 61, v141)) 5 rfl rfl (hon 6 (by kernel_rfl)) rfl
                                          have e64 : a.tmps[64]? = some (.int .i64 ji30) := by rw [ha]; exact putSel_on (e := (9, 64, .int .i64 ji30)) 7 rfl rfl (hon 9 (by kernel_rfl)) rfl
                                          replace ha := Aside0.mk ha
                                          have HO_6 := Aside0.mk Q_HO_6
                                          have HO_7 := Aside0.mk Q_HO_7
                                          have BK135 := Aside0.mk Q_BK135
                                          have HB := Aside0.mk Q_HB
                                          have HO142 := Aside0.mk (Q_HO142 (hon 6 (by kernel_rfl)))
                                          have HA_HO142 := Aside0.mk (Q_HA_HO142 (hon 6 (by kernel_rfl)))
                                          obtain ⟨c_, hv_⟩ := HA_HO142.out
                                          rw [hv_] at e61
                                          refine value_ (w1 := w') (v := .pointer (some (adz_v141.add ((ji30)).toNat))) (by rfl) rfl ?_ ?_
                                          · go_simp
                                            (try simp only [i64_w])
                                            try rfl
                                          refine hK.out _ _ ⟨v137, adz_v137, v141, adz_v141, m4_, (.pointer (some (adz_v141.add ((ji30)).toNat))), (by rw [ha.out]; exact putSel_upk 8 hb_ rfl rfl rfl), Q_HO_6, Q_HO_7, Q_BK135, Q_HB, Q_HO138, Q_HA_HO138, Q_HO142, Q_HA_HO142, Q_X4_, fun _ => rfl⟩
                                        refine steps_cons ?_ ?_
                                        · rintro b a w' ⟨v137, adz_v137, v141, adz_v141, m4_, m10_, ha, Q_HO_6, Q_HO_7, Q_BK135, Q_HB, Q_HO138, Q_HA_HO138, Q_HO142, Q_HA_HO142, Q_X4_, Q_X10_⟩ hb_ hon hoff
                                          refine ⟨_, rfl, fun K hK => ?_⟩
                                          have e65 : a.tmps[65]? = some (m10_) := by rw [ha]; exact putSel_on (e := (10, 65, m10_)) 8 rfl rfl (hon 10 (by kernel_rfl)) rfl
                                          rw [Q_X10_ (hon 10 (by kernel_rfl))] at e65
                                          replace ha := Aside0.mk ha
                                          have HO_6 := Aside0.mk Q_HO_6
                                          have HO_7 := Aside0.mk Q_HO_7
                                          have BK135 := Aside0.mk Q_BK135
                                          have HB := Aside0.mk Q_HB
                                          have HO142 := Aside0.mk (Q_HO142 (hon 6 (by kernel_rfl)))
                                          have HA_HO142 := Aside0.mk (Q_HA_HO142 (hon 6 (by kernel_rfl)))
                                          obtain ⟨c_, hv_⟩ := HA_HO142.out
                                          have hF_ := HO142.out
                                          rw [hv_] at hF_
                                          obtain ⟨ad_, ea_, hx_⟩ := Kd.at_int (Kd.R_reads' hF_).2.2 (ji30) (of_eq_true pi143) (of_eq_true qi143)
                                          cases ea_
                                          refine value_ (w1 := w') (v := .int .i64 (rd y140 (ji30))) (by rfl) rfl ?_ ?_
                                          · go_simp
                                            (try simp only [i64_w])
                                            try rfl
                                          refine hK.out _ _ ⟨v137, adz_v137, v141, adz_v141, m4_, m10_, (by rw [ha.out]; exact putSel_upk 9 hb_ rfl rfl rfl), Q_HO_6, Q_HO_7, Q_BK135, Q_HB, Q_HO138, Q_HA_HO138, Q_HO142, Q_HA_HO142, Q_X4_, Q_X10_⟩
                                        refine steps_cons ?_ ?_
                                        · rintro b a w' ⟨v137, adz_v137, v141, adz_v141, m4_, m10_, ha, Q_HO_6, Q_HO_7, Q_BK135, Q_HB, Q_HO138, Q_HA_HO138, Q_HO142, Q_HA_HO142, Q_X4_, Q_X10_⟩ hb_ hon hoff
                                          refine ⟨_, rfl, fun K hK => ?_⟩
                                          have e60 : a.tmps[60]? = some (.int .i64 (rd y136 (ji27))) := by rw [ha]; exact putSel_on (e := (5, 60, .int .i64 (rd y136 (ji27)))) 4 rfl rfl (hon 5 (by kernel_rfl)) rfl
                                          have e66 : a.tmps[66]? = some (.int .i64 (rd y140 (ji30))) := by rw [ha]; exact putSel_on (e := (11, 66, .int .i64 (rd y140 (ji30)))) 9 rfl rfl (hon 11 (by kernel_rfl)) rfl
                                          replace ha := Aside0.mk ha
                                          have HO_6 := Aside0.mk Q_HO_6
                                          have HO_7 := Aside0.mk Q_HO_7
                                          have BK135 := Aside0.mk Q_BK135
                                          have HB := Aside0.mk Q_HB
                                          have HO138 := Aside0.mk (Q_HO138 (hon 0 (by kernel_rfl)))
                                          have HA_HO138 := Aside0.mk (Q_HA_HO138 (hon 0 (by kernel_rfl)))
                                          have HO142 := Aside0.mk (Q_HO142 (hon 6 (by kernel_rfl)))
                                          have HA_HO142 := Aside0.mk (Q_HA_HO142 (hon 6 (by kernel_rfl)))
                                          refine value_ (w1 := w') (v := .int .i64 (Go.bits .or .i64 (rd y136 (ji27)) (rd y140 (ji30)))) (by rfl) rfl ?_ ?_
                                          · go_simp
                                            (try simp only [i64_w])
                                            try rfl
                                          refine hK.out _ _ ⟨v137, adz_v137, v141, adz_v141, m4_, m10_, (by rw [ha.out]; exact putSel_upk 10 hb_ rfl rfl rfl), Q_HO_6, Q_HO_7, Q_BK135, Q_HB, Q_HO138, Q_HA_HO138, Q_HO142, Q_HA_HO142, Q_X4_, Q_X10_⟩
                                        refine steps_cons ?_ ?_
                                        · rintro b a w' ⟨v137, adz_v137, v141, adz_v141, m4_, m10_, ha, Q_HO_6, Q_HO_7, Q_BK135, Q_HB, Q_HO138, Q_HA_HO138, Q_HO142, Q_HA_HO142, Q_X4_, Q_X10_⟩ hb_ hon hoff
                                          refine ⟨_, rfl, fun K hK => ?_⟩
                                          have e67 : a.tmps[67]? = some (.int .i64 (Go.bits .or .i64 (rd y136 (ji27)) (rd y140 (ji30)))) := by rw [ha]; exact putSel_on (e := (12, 67, .int .i64 (Go.bits .or .i64 (rd y136 (ji27)) (rd y140 (ji30))))) 10 rfl rfl (hon 12 (by kernel_rfl)) rfl
                                          replace ha := Aside0.mk ha
                                          have HO_6 := Aside0.mk Q_HO_6
                                          have HO_7 := Aside0.mk Q_HO_7
                                          have BK135 := Aside0.mk Q_BK135
                                          have HB := Aside0.mk Q_HB
                                          have HO138 := Aside0.mk (Q_HO138 (hon 0 (by kernel_rfl)))
                                          have HA_HO138 := Aside0.mk (Q_HA_HO138 (hon 0 (by kernel_rfl)))
                                          have HO142 := Aside0.mk (Q_HO142 (hon 6 (by kernel_rfl)))
                                          have HA_HO142 := Aside0.mk (Q_HA_HO142 (hon 6 (by kernel_rfl)))
                                          refine value_ (w1 := w') (v := .int .i64 (Go.bits .or .i64 (rd y136 (ji27)) (rd y140 (ji30)))) (by rfl) rfl ?_ ?_
                                          · go_simp
                                            (try simp only [i64_w])
                                            try rfl
                                          refine hK.out _ _ ⟨v137, adz_v137, v141, adz_v141, m4_, m10_, (by rw [ha.out]; exact putSel_upk 11 hb_ rfl rfl rfl), Q_HO_6, Q_HO_7, Q_BK135, Q_HB, Q_HO138, Q_HA_HO138, Q_HO142, Q_HA_HO142, Q_X4_, Q_X10_⟩
                                        exact steps_nil
                                      rintro b a w55 hall ⟨v137, adz_v137, v141, adz_v141, m4_, m10_, ha, Q_HO_6, Q_HO_7, Q_BK135, Q_HB, Q_HO138, Q_HA_HO138, Q_HO142, Q_HA_HO142, Q_X4_, Q_X10_⟩
                                      clear BK135 HB HO_6 HO_7
                                      have hb0_ := hall 0 (by kernel_rfl)
                                      have hb2_ := hall 2 (by kernel_rfl)
                                      have hb3_ := hall 3 (by kernel_rfl)
                                      have hb4_ := hall 4 (by kernel_rfl)
                                      have hb5_ := hall 5 (by kernel_rfl)
                                      have hb6_ := hall 6 (by kernel_rfl)
                                      have hb8_ := hall 8 (by kernel_rfl)
                                      have hb9_ := hall 9 (by kernel_rfl)
                                      have hb10_ := hall 10 (by kernel_rfl)
                                      have hb11_ := hall 11 (by kernel_rfl)
                                      have hb12_ := hall 12 (by kernel_rfl)
                                      have hb13_ := hall 13 (by kernel_rfl)
                                      subst ha
                                      obtain rfl := Q_X4_ hb4_
                                      obtain rfl := Q_X10_ hb10_
                                      simp only [putSel, hb0_, hb2_, hb3_, hb4_, hb5_, hb6_, hb8_, hb9_, hb10_, hb11_, hb12_, hb13_, if_true, Act.put, List.setIfInBounds_toArray, List.set_cons_zero, List.set_cons_succ]
                                      have HO_6 := Aside0.mk Q_HO_6
                                      clear Q_HO_6
                                      have HO_7 := Aside0.mk Q_HO_7
                                      clear Q_HO_7
                                      have BK135 := Aside0.mk Q_BK135
                                      clear Q_BK135
                                      have HB := Aside0.mk Q_HB
                                      clear Q_HB
                                      have HO138 := Aside0.mk (Q_HO138 hb0_)
                                      clear Q_HO138
                                      have HA_HO138 := Aside0.mk (Q_HA_HO138 hb0_)
                                      clear Q_HA_HO138
                                      have HO142 := Aside0.mk (Q_HO142 hb6_)
                                      clear Q_HO142
                                      have HA_HO142 := Aside0.mk (Q_HA_HO142 hb6_)
                                      clear Q_HA_HO142
                                      clear hall hb0_ hb2_ hb3_ hb4_ hb5_ hb6_ hb8_ hb9_ hb10_ hb11_ hb12_ hb13_
                                      obtain ⟨co56, eo56⟩ := HA_HO138.out
                                      clear HA_HO138
                                      subst eo56
                                      obtain ⟨co57, eo57⟩ := HA_HO142.out
                                      clear HA_HO142
                                      subst eo57
                                      have hcz58_0 : w55.cell? ⟨gb135, 0, none⟩ = some (.int .i64 ((rd_T59 l1 x33_2).f0)) := (blk_cell BK135.out 0).trans rfl
                                      have hcz58_1 : w55.cell? ⟨gb135, 1, none⟩ = some (.int .i64 ((rd_T59 l1 x33_2).f1)) := (blk_cell BK135.out 1).trans rfl
                                      have hcz58_2 : w55.cell? ⟨gb135, 2, none⟩ = some (.int .i64 ((rd_T59 l1 x33_2).f2)) := (blk_cell BK135.out 2).trans rfl
                                      have hcz58_3 : w55.cell? ⟨gb135, 3, none⟩ = some (.bool ((rd_T59 l1 x33_2).f3)) := (blk_cell BK135.out 3).trans rfl
                                      have hfz58_0 := blk_frozen BK135.out 0
                                      have hfz58_1 := blk_frozen BK135.out 1
                                      have hfz58_2 := blk_frozen BK135.out 2
                                      have hfz58_3 := blk_frozen BK135.out 3
                                      have o7_ := HO_7.out.1
                                      have o6_ := HO_6.out.1
                                      have o138_ := HO138.out.1
                                      have o142_ := HO142.out.1
                                      replace HO_7 := Aside0.mk (R_int_ok (ok' := fun k => some k ≠ (.slice Ao12 x6_1.length co12 : Value).ownBlock ∧ some k ≠ (.slice (some adz_v137) y136.length co56 : Value).ownBlock ∧ some k ≠ (.slice (some adz_v141) y140.length co57 : Value).ownBlock) HO_7.out (fun k hk => ⟨(by first | exact o7_ k hk | exact (o7_ k hk).1 | exact (o7_ k hk).2), fun he => by first | exact (o138_ k he.symm).2 hk.symm | exact (o138_ k he.symm).2.1 hk.symm, fun he => by first | exact (o142_ k he.symm).2 hk.symm | exact (o142_ k he.symm).2.1 hk.symm⟩))
                                      replace HO_6 := Aside0.mk (R_int_ok (ok' := fun k => some k ≠ (u7 : Value).ownBlock ∧ some k ≠ (.slice (some adz_v137) y136.length co56 : Value).ownBlock ∧ some k ≠ (.slice (some adz_v141) y140.length co57 : Value).ownBlock) HO_6.out (fun k hk => ⟨(by first | exact o6_ k hk | exact (o6_ k hk).1 | exact (o6_ k hk).2), fun he => by first | exact (o138_ k he.symm).1 hk.symm | exact (o138_ k he.symm).2.1 hk.symm, fun he => by first | exact (o142_ k he.symm).1 hk.symm | exact (o142_ k he.symm).2.1 hk.symm⟩))
                                      clear o7_ o6_ o138_ o142_
                                      go_wp2_with (first | ((with_reducible refine gate_builtin (b := .append) (xs := #[.tmp 72, .tmp 74]) rfl ?_); at_builtin; refine Kd.R_append (Kd.int .i64) (w0 := w) w.heap.size rfl (.tmp 72) (.tmp 74) 22 3 (.int .i64 0) 8 rfl Try.underlying22 info3 rfl (by decide) (by omega) u7 x7_2 (Go.bits .or .i64 (rd y136 (ji27)) (rd y140 (ji30))) [.int .i64 (Go.bits .or .i64 (rd y136 (ji27)) (rd y140 (ji30)))] (fun k_ => some k_ ≠ (.slice Ao12 x6_1.length co12 : Value).ownBlock ∧ some k_ ≠ (.slice (some adz_v137) y136.length co56 : Value).ownBlock ∧ some k_ ≠ (.slice (some adz_v141) y140.length co57 : Value).ownBlock) (fun _ => False) rfl rfl ?aP (fun _ hk => hk.elim) ?aF ?aO ?aB ?aS ?aL ?_; (case aP => exact rfl); (case aB => exact (by repeat (first | (with_reducible first | exact HB.out | apply below_alloc | apply pw_below_drewN | apply below_drew1 | refine below_set ?_ GE135.out) | exact HB.out))); (case aF => exact (fun k_ hk => ⟨Kd.fresh' (Kd.R_lt (by (with_reducible repeat (first | apply Kd.R_alloc | apply Kd.R_drewN | apply Kd.R_drew)); exact HO_6.out)) k_ hk, Kd.fresh' (Kd.R_lt (by (with_reducible repeat (first | apply Kd.R_alloc | apply Kd.R_drewN | apply Kd.R_drew)); exact HO138.out)) k_ hk, Kd.fresh' (Kd.R_lt (by (with_reducible repeat (first | apply Kd.R_alloc | apply Kd.R_drewN | apply Kd.R_drew)); exact HO142.out)) k_ hk⟩)); (case aO => exact (by (with_reducible repeat (first | apply Kd.R_alloc | apply Kd.R_drewN | apply Kd.R_drew)); exact Kd.R_mono HO_7.out (fun _ hk => (by first | exact hk | ((repeat' refine And.intro ?_ ?_) <;> first | exact hk.1 | exact hk.2 | exact hk.1.1 | exact hk.1.2 | exact hk.2.1 | exact hk.2.2 | exact hk.1.1.1 | exact hk.1.1.2 | exact hk.1.2.1 | exact hk.1.2.2 | exact hk.2.1.1 | exact hk.2.1.2 | exact hk.2.2.1 | exact hk.2.2.2))))); (case aS => exact (below_size (by repeat (first | (with_reducible first | exact HB.out | apply below_alloc | apply pw_below_drewN | apply below_drew1 | refine below_set ?_ GE135.out) | exact HB.out)))); (case aL => have := LMc47.out; omega); intro v148 w59 ho hb hg hat; rw [← Ny147.out] at ho; have n0_ := Aside0.mk (Kd.R_after (ok := (fun k_ => some k_ ≠ (.slice (some adz_v137) y136.length co56 : Value).ownBlock ∧ some k_ ≠ (.slice (some adz_v141) y140.length co57 : Value).ownBlock)) (by (with_reducible repeat (first | apply Kd.R_alloc | apply Kd.R_drewN | apply Kd.R_drew)); exact Kd.R_mono HO_6.out (fun _ hk => (by first | exact hk | ((repeat' refine And.intro ?_ ?_) <;> first | exact hk.1 | exact hk.2 | exact hk.1.1 | exact hk.1.2 | exact hk.2.1 | exact hk.2.2 | exact hk.1.1.1 | exact hk.1.1.2 | exact hk.1.2.1 | exact hk.1.2.2 | exact hk.2.1.1 | exact hk.2.1.2 | exact hk.2.2.1 | exact hk.2.2.2)))) hg hat); have n1_ := Aside0.mk (blk_grown (g := gb135) (o := .cells #[.int .i64 ((rd_T59 l1 x33_2).f0), .int .i64 ((rd_T59 l1 x33_2).f1), .int .i64 ((rd_T59 l1 x33_2).f2), .bool ((rd_T59 l1 x33_2).f3)] 59 (0, 0)) (by (with_reducible repeat (first | refine blk_drewN ?_ _ | refine blk_drew ?_ | refine blk_alloc ?_ _)); exact BK135.out) hg (Kd.R_ne HO_7.out BK135.out (by decide))); have n2_ := Aside0.mk True.intro; have n3_ := Aside0.mk True.intro; have n4_ := Aside0.mk (hb); have n5_ := Aside0.mk (ho); clear HO_6; clear BK135; clear HO138; clear HO142; clear HB; clear HO_7; have HO_6 := n0_; have BK135 := n1_; have HO138 := n2_; have HO142 := n3_; have HB := n4_; have HO149 := n5_; clear n0_ n1_ n2_ n3_ n4_ n5_; clear ho hb hg hat))
                                      go_roundg kj15
                                      case measure => have := HK1.out; have := HK2.out; have := HJ15.out; omega
                                      case rel => exact ⟨(y147), (wrap64 (x33_2 + 1)), (by first | rfl | (simp; done) | (simp [*]; done)), H', ⟨by have := HK1.out; have := HK2.out; have := HJ15.out; omega⟩, ⟨by (with_reducible repeat (first | apply Kd.R_alloc | apply Kd.R_drewN | apply Kd.R_drew)); exact Kd.R_mono HO_6.out (fun _ hk => hk.2)⟩, ⟨by (with_reducible repeat (first | apply Kd.R_alloc | apply Kd.R_drewN | apply Kd.R_drew)); exact Kd.R_mono HO149.out (fun _ hk => hk.1)⟩, ⟨by repeat (first | (with_reducible first | exact HB.out | apply below_alloc | apply pw_below_drewN | apply below_drew1 | refine below_set ?_ GE135.out) | exact HB.out)⟩⟩
                                    · rw [if_neg c47] at H
                                      exact absurd H (by simp)
                                · rw [if_neg c32] at H
                                  exact absurd H (by simp)
                              · rw [if_neg c31] at H
                                exact absurd H (by simp)
                            · rw [if_neg c29] at H
                              exact absurd H (by simp)
                          · rw [if_neg c28] at H
                            exact absurd H (by simp)
                  · rw [if_neg c15] at H
                    exact absurd H (by simp)
                · rw [if_neg c14] at H
                  exact absurd H (by simp)
              · rw [if_neg c13] at H
                have c13b0 : decide (x33_2 < (l1.length : Int)) = false := decide_eq_false c13
                clear c13
                replace H := Option.bind_eq_some_iff.mp H
                obtain ⟨t131, A600, H⟩ := H
                replace H : (some (t131, 0)) = some (r1, r2) := H
                have A60 := Aside0.mk A600
                clear A600
                simp only [Option.some.injEq, Prod.mk.injEq] at H
                obtain ⟨rfl, rfl⟩ := H
                obtain ⟨Ao61, co61, eo61⟩ := Kd.R_slice HO_7.out
                subst eo61
                go_wp2_with (first | ((with_reducible refine gate_callee (f := 65) rfl ?_); refine goesL_ (some 80) rfl rfl Try.func65 (by kernel_rfl) rfl #[.string a0, .slice Ao12 x6_1.length co12, .slice Ao61 x7_2.length co61] rfl (by (try simp only [List.map_toArray, List.map_cons, List.map_nil]); first | done | rfl | (simp only [List.length_drop, List.length_take]; rfl)) ?_; (with_reducible refine (keys_inputs.calls k2 a0 _ _ x6_1 _ _ x7_2 t131 _ ?side1 ?side2 ?side3 ?side4 A60.out).mono ?_); (case side1 => repeat (first | exact (Kd.R_reads' HO_6.out).2.2 | (with_reducible refine Kd.C_alloc ?_ _) | (with_reducible refine Kd.C_drewN ?_ _) | (with_reducible refine Kd.C_drew ?_))); (case side2 => exact (Kd.R_reads' HO_6.out).2.1); (case side3 => repeat (first | exact (Kd.R_reads' HO_7.out).2.2 | (with_reducible refine Kd.C_alloc ?_ _) | (with_reducible refine Kd.C_drewN ?_ _) | (with_reducible refine Kd.C_drew ?_))); (case side4 => exact (Kd.R_reads' HO_7.out).2.1); rintro e w62 ⟨v132, rfl, ho0, hb⟩; refine ⟨_, rfl, ?_⟩; have n0_ := Aside0.mk (Kd.R_below (by (with_reducible repeat (first | apply Kd.R_alloc | apply Kd.R_drewN | apply Kd.R_drew)); exact HO_6.out) hb); have n1_ := Aside0.mk (Kd.R_below (by (with_reducible repeat (first | apply Kd.R_alloc | apply Kd.R_drewN | apply Kd.R_drew)); exact HO_7.out) hb); have n2_ := Aside0.mk (Kd.R_lower ho0 (below_size (by repeat (first | (with_reducible first | exact HB.out | apply below_alloc | apply pw_below_drewN | apply below_drew1) | exact HB.out)))); have n3_ := Aside0.mk (below_step (by repeat (first | (with_reducible first | exact HB.out | apply below_alloc | apply pw_below_drewN | apply below_drew1) | exact HB.out)) hb); clear HO_6; clear HO_7; clear HB; have HO_6 := n0_; have HO_7 := n1_; have HO133 := n2_; have HB := n3_; clear n0_ n1_ n2_ n3_; (try clear hb); (try clear hb2); (try clear hk); (try clear hi); (try clear ho0)))
                go_ret2
                exact ⟨_, by first | rfl | (simp [errW_none, errW_some] <;> rfl) | (simp [*, errW_none, errW_some] <;> rfl), by (with_reducible repeat (first | apply Kd.R_alloc | apply Kd.R_drewN | apply Kd.R_drew)); exact HO133.out, by repeat (first | (with_reducible first | exact HB.out | apply below_alloc | apply pw_below_drewN | apply below_drew1) | exact HB.out)⟩
        · rw [if_neg c11] at H
          have c11b0 : (t130 == 0) = false := beq_eq_false_iff_ne.mpr c11
          have c11b1 : (t130 != 0) = true := bne_iff_ne.mpr c11
          simp only [Option.some.injEq, Prod.mk.injEq] at H
          obtain ⟨rfl, rfl⟩ := H
          obtain ⟨Ao63, co63, eo63⟩ := Kd.R_slice HO_6.out
          subst eo63
          go_wp2_with (first | ((with_reducible refine gate_callee (f := 64) rfl ?_); refine goesL_ (some 27) rfl rfl Try.func64 (by kernel_rfl) rfl #[.slice Ao63 x6_1.length co63] rfl (by (try simp only [List.map_toArray, List.map_cons, List.map_nil]); first | done | rfl | (simp only [List.length_drop, List.length_take]; rfl)) ?_; (with_reducible refine (keys_times.calls k1 _ _ x6_1 t130 _ ?side1 ?side2 A10.out).mono ?_); (case side1 => repeat (first | exact (Kd.R_reads' HO_6.out).2.2 | (with_reducible refine Kd.C_alloc ?_ _) | (with_reducible refine Kd.C_drewN ?_ _) | (with_reducible refine Kd.C_drew ?_))); (case side2 => exact (Kd.R_reads' HO_6.out).2.1); rintro e w' ⟨rfl, ⟨nd, rfl⟩⟩; refine ⟨_, rfl, ?_⟩))
          go_ret2
          exact ⟨_, by first | rfl | (simp [errW_none, errW_some] <;> rfl) | (simp [*, errW_none, errW_some] <;> rfl), by first | exact Kd.R_nil _ _ _ _ _ | exact Kd.N_nil _ _ _ _ _ | exact Kd.V_nil _ _ _ _ _ | exact Kd.Q_nil _ _ _ _ _ | exact Kd.S_nil _ _ _ _ _, by repeat (first | (with_reducible first | exact HB.out | apply below_alloc | apply pw_below_drewN | apply below_drew1) | exact HB.out)⟩

end Go.Proofs.Ytcicoedgjoploaa.PK
