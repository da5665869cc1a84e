-- An own text of this claim, written by wip/tools/surro.py over the kit's print.
import Derived.Test.YtaalafnkglbcpaaPLx0
namespace Go.Proofs.Ytaalafnkglbcpaa.PL
open Go.RowKit Go.Proofs.YtaalafnkglbcpaaW.PrintWords Go.Proofs.YtaalafnkglbcpaaW.PrintLast Go.Proofs.YtaalafnkglbcpaaW.PrintMore
attribute [local go_sem] max2_int min2_int max_two min_two max_three min_three max_four min_four   -- for this text's walks alone
set_option linter.unusedVariables false
set_option linter.unusedSimpArgs false

/-! ### learn_Check: function 41 -/
mutual
def learn_Check.j0 : Nat → Bool → Int → Int → List (List (S77)) → Option (Int)
  | 0, _, _, _, _ => none
  | k + 1, x30, x104000, x104001, x104002 => if x30 = true then (some 2) else (if (x104002.length : Int) = 0 then (some 13) else (learn_Check.l0 k x104002 (x104002.length : Int) 0 x104000 x104001 x104002))
def learn_Check.l0 : Nat → List (List (S77)) → Int → Int → Int → Int → List (List (S77)) → Option (Int)
  | 0, _, _, _, _, _, _ => none
  | k + 1, x36, x37, x38, x104000, x104001, x104002 => if x38 < x37 then (if 0 ≤ x38 then (if x38 < (x36.length : Int) then (if 0 ≤ x104000 then (if ((rd_L2 x36 x38).length : Int) = (shl .i64 1 x104000) then (learn_Check.l1 k x36 x37 x38 (rd_L2 x36 x38) ((rd_L2 x36 x38).length : Int) 0 x104000 x104001 x104002) else (some 3)) else (none)) else (none)) else (none)) else (some 0)
def learn_Check.l1 : Nat → List (List (S77)) → Int → Int → List (S77) → Int → Int → Int → Int → List (List (S77)) → Option (Int)
  | 0, _, _, _, _, _, _, _, _, _ => none
  | k + 1, x36, x37, x38, x48, x49, x50, x104000, x104001, x104002 => if x50 < x49 then (if 0 ≤ x50 then (if x50 < (x48.length : Int) then (if ((rd_T77 x48 x50).f0) < 0 then (learn_Check.j3 k x36 x37 x38 x48 x49 x50 true x104000 x104001 x104002 ((rd_T77 x48 x50).f0) ((rd_T77 x48 x50).f1)) else (if 0 ≤ x104001 then (learn_Check.j3 k x36 x37 x38 x48 x49 x50 (decide (((rd_T77 x48 x50).f0) ≥ (shl .i64 1 x104001))) x104000 x104001 x104002 ((rd_T77 x48 x50).f0) ((rd_T77 x48 x50).f1)) else (none))) else (none)) else (none)) else (learn_Check.l0 k x36 x37 (wrap64 (x38 + 1)) x104000 x104001 x104002)
def learn_Check.j3 : Nat → List (List (S77)) → Int → Int → List (S77) → Int → Int → Bool → Int → Int → List (List (S77)) → Int → Int → Option (Int)
  | 0, _, _, _, _, _, _, _, _, _, _, _, _ => none
  | k + 1, x36, x37, x38, x48, x49, x50, x64, x104000, x104001, x104002, x107000, x107001 => if x64 = true then (some 1) else (if x107001 < 0 then (some 4) else (if x107001 ≥ (x104002.length : Int) then (some 4) else (learn_Check.l1 k x36 x37 x38 x48 x49 (wrap64 (x50 + 1)) x104000 x104001 x104002)))
end
def learn_Check.f (k : Nat) (a0_0 : Int) (a0_1 : Int) (l0_2 : List (List (S77))) : Option (Int) := if a0_0 < 0 then (learn_Check.j0 k true a0_0 a0_1 l0_2) else (if a0_0 > 4 then (learn_Check.j0 k true a0_0 a0_1 l0_2) else (if a0_1 < 0 then (learn_Check.j0 k true a0_0 a0_1 l0_2) else (if a0_1 > 10 then (learn_Check.j0 k true a0_0 a0_1 l0_2) else (learn_Check.j0 k (decide ((l0_2.length : Int) > 64)) a0_0 a0_1 l0_2))))
theorem learn_Check.mono_l : ∀ k, (∀ y0 y1 y2 y3, LeO (learn_Check.j0 k y0 y1 y2 y3) (learn_Check.j0 (k + 1) y0 y1 y2 y3)) ∧ (∀ y0 y1 y2 y3 y4 y5, LeO (learn_Check.l0 k y0 y1 y2 y3 y4 y5) (learn_Check.l0 (k + 1) y0 y1 y2 y3 y4 y5)) ∧ (∀ y0 y1 y2 y3 y4 y5 y6 y7 y8, LeO (learn_Check.l1 k y0 y1 y2 y3 y4 y5 y6 y7 y8) (learn_Check.l1 (k + 1) y0 y1 y2 y3 y4 y5 y6 y7 y8)) ∧ (∀ y0 y1 y2 y3 y4 y5 y6 y7 y8 y9 y10 y11, LeO (learn_Check.j3 k y0 y1 y2 y3 y4 y5 y6 y7 y8 y9 y10 y11) (learn_Check.j3 (k + 1) y0 y1 y2 y3 y4 y5 y6 y7 y8 y9 y10 y11))
  | 0 => ⟨fun _ _ _ _ r h => by simp [learn_Check.j0] at h, fun _ _ _ _ _ _ r h => by simp [learn_Check.l0] at h, fun _ _ _ _ _ _ _ _ _ r h => by simp [learn_Check.l1] at h, fun _ _ _ _ _ _ _ _ _ _ _ _ r h => by simp [learn_Check.j3] at h⟩
  | k + 1 => by
    obtain ⟨ih0, ih1, ih2, ih3⟩ := learn_Check.mono_l k
    refine ⟨?_, ?_, ?_, ?_⟩
    · intro y0 y1 y2 y3
      unfold learn_Check.j0
      repeat' first
      | (with_reducible exact ih0 _ _ _ _)
      | (with_reducible exact ih1 _ _ _ _ _ _)
      | (with_reducible exact ih2 _ _ _ _ _ _ _ _ _)
      | (with_reducible exact ih3 _ _ _ _ _ _ _ _ _ _ _ _)
      | (with_reducible exact LeO.refl _)
      | (with_reducible exact LeO.none _)
      | (with_reducible refine LeO.ite ?_ ?_)
      | (with_reducible refine LeO.bind ?_ (fun _ => ?_))
      | exact ih0 _ _ _ _
      | exact ih1 _ _ _ _ _ _
      | exact ih2 _ _ _ _ _ _ _ _ _
      | exact ih3 _ _ _ _ _ _ _ _ _ _ _ _
      | exact LeO.none _
      | refine LeO.ite ?_ ?_
      | refine LeO.bind ?_ (fun _ => ?_)
    · intro y0 y1 y2 y3 y4 y5
      unfold learn_Check.l0
      repeat' first
      | (with_reducible exact ih0 _ _ _ _)
      | (with_reducible exact ih1 _ _ _ _ _ _)
      | (with_reducible exact ih2 _ _ _ _ _ _ _ _ _)
      | (with_reducible exact ih3 _ _ _ _ _ _ _ _ _ _ _ _)
      | (with_reducible exact LeO.refl _)
      | (with_reducible exact LeO.none _)
      | (with_reducible refine LeO.ite ?_ ?_)
      | (with_reducible refine LeO.bind ?_ (fun _ => ?_))
      | exact ih0 _ _ _ _
      | exact ih1 _ _ _ _ _ _
      | exact ih2 _ _ _ _ _ _ _ _ _
      | exact ih3 _ _ _ _ _ _ _ _ _ _ _ _
      | exact LeO.none _
      | refine LeO.ite ?_ ?_
      | refine LeO.bind ?_ (fun _ => ?_)
    · intro y0 y1 y2 y3 y4 y5 y6 y7 y8
      unfold learn_Check.l1
      repeat' first
      | (with_reducible exact ih0 _ _ _ _)
      | (with_reducible exact ih1 _ _ _ _ _ _)
      | (with_reducible exact ih2 _ _ _ _ _ _ _ _ _)
      | (with_reducible exact ih3 _ _ _ _ _ _ _ _ _ _ _ _)
      | (with_reducible exact LeO.refl _)
      | (with_reducible exact LeO.none _)
      | (with_reducible refine LeO.ite ?_ ?_)
      | (with_reducible refine LeO.bind ?_ (fun _ => ?_))
      | exact ih0 _ _ _ _
      | exact ih1 _ _ _ _ _ _
      | exact ih2 _ _ _ _ _ _ _ _ _
      | exact ih3 _ _ _ _ _ _ _ _ _ _ _ _
      | exact LeO.none _
      | refine LeO.ite ?_ ?_
      | refine LeO.bind ?_ (fun _ => ?_)
    · intro y0 y1 y2 y3 y4 y5 y6 y7 y8 y9 y10 y11
      unfold learn_Check.j3
      repeat' first
      | (with_reducible exact ih0 _ _ _ _)
      | (with_reducible exact ih1 _ _ _ _ _ _)
      | (with_reducible exact ih2 _ _ _ _ _ _ _ _ _)
      | (with_reducible exact ih3 _ _ _ _ _ _ _ _ _ _ _ _)
      | (with_reducible exact LeO.refl _)
      | (with_reducible exact LeO.none _)
      | (with_reducible refine LeO.ite ?_ ?_)
      | (with_reducible refine LeO.bind ?_ (fun _ => ?_))
      | exact ih0 _ _ _ _
      | exact ih1 _ _ _ _ _ _
      | exact ih2 _ _ _ _ _ _ _ _ _
      | exact ih3 _ _ _ _ _ _ _ _ _ _ _ _
      | exact LeO.none _
      | refine LeO.ite ?_ ?_
      | refine LeO.bind ?_ (fun _ => ?_)
theorem learn_Check.mono : ∀ a0 a1 a2 k, LeO (learn_Check.f k a0 a1 a2) (learn_Check.f (k + 1) a0 a1 a2) := by
  intro a0 a1 a2 k
  obtain ⟨ih0, ih1, ih2, ih3⟩ := learn_Check.mono_l k
  unfold learn_Check.f
  repeat' first
      | (with_reducible exact ih0 _ _ _ _)
      | (with_reducible exact ih1 _ _ _ _ _ _)
      | (with_reducible exact ih2 _ _ _ _ _ _ _ _ _)
      | (with_reducible exact ih3 _ _ _ _ _ _ _ _ _ _ _ _)
      | (with_reducible exact LeO.refl _)
      | (with_reducible exact LeO.none _)
      | (with_reducible refine LeO.ite ?_ ?_)
      | (with_reducible refine LeO.bind ?_ (fun _ => ?_))
      | exact ih0 _ _ _ _
      | exact ih1 _ _ _ _ _ _
      | exact ih2 _ _ _ _ _ _ _ _ _
      | exact ih3 _ _ _ _ _ _ _ _ _ _ _ _
      | exact LeO.none _
      | refine LeO.ite ?_ ?_
      | refine LeO.bind ?_ (fun _ => ?_)
set_option maxHeartbeats 8000000 in
set_option maxRecDepth 100000 in
theorem learn_Check.calls (k : Nat) (a0_0 : Int) (a0_1 : Int) (A0_2 : Option Addr) (c0_2 : Nat) (l0_2 : List (List (S77))) (r : Int) (w : World) (hr0_2 : Kd.C (Kd.slice 77 k77) w A0_2 l0_2.length l0_2) (hc0_2 : l0_2.length ≤ c0_2) (h : learn_Check.f k a0_0 a0_1 l0_2 = some r) :
    Calls Try.prog 41 #[.agg #[.int .i64 a0_0, .int .i64 a0_1, .slice A0_2 l0_2.length c0_2]] w fun e w' => e = .returned (.int .i64 r) ∧ Below w.heap.size w w' := by
  have hu25 := Try.underlying25
  have hu77 := Try.underlying77
  have HR0_2 := Aside0.mk hr0_2
  have HC0_2 := Aside0.mk hc0_2
  clear hr0_2 hc0_2
  have HB := Aside0.mk (Below.refl w.heap.size w)
  have H : (if a0_0 < 0 then (learn_Check.j0 k true a0_0 a0_1 l0_2) else (if a0_0 > 4 then (learn_Check.j0 k true a0_0 a0_1 l0_2) else (if a0_1 < 0 then (learn_Check.j0 k true a0_0 a0_1 l0_2) else (if a0_1 > 10 then (learn_Check.j0 k true a0_0 a0_1 l0_2) else (learn_Check.j0 k (decide ((l0_2.length : Int) > 64)) a0_0 a0_1 l0_2))))) = some r := h
  clear h
  have HC2 := Aside0.mk H
  clear H
  go_enter Try.func41, Try.ntmps41
  go_upto_region 1 with (first | ((with_reducible refine gate_dst (N := 1) rfl ?_); (try (refine gate_guard (by rfl) ?_; dsimp only)); refine box_event ?hg (N := 1) ?hd (cs := #[.int .i64 a0_0, .int .i64 a0_1, .slice A0_2 l0_2.length c0_2]) (t := 25) ?hr ?_; (case hd => rfl); (case hg => rfl); (case hr => first | (go_simp; done) | (go_simp; rfl)); intro gb103 hg w3 hbox hb; have n0_ := Aside0.mk (below_step (by repeat (first | (with_reducible first | exact HB.out | apply below_alloc | apply pw_below_drewN | apply below_drew1) | exact HB.out)) hb); have n1_ := Aside0.mk (hbox); have n2_ := Aside0.mk ((by rw [hg]; exact (below_size (by repeat (first | (with_reducible first | exact HB.out | apply below_alloc | apply pw_below_drewN | apply below_drew1) | exact HB.out))) : w.heap.size ≤ gb103)); have n3_ := Aside0.mk ((by rw [hg]; exact (below_size (by repeat (first | (with_reducible first | exact HB.out | apply below_alloc | apply pw_below_drewN | apply below_drew1) | exact HB.out))) : w.heap.size ≤ gb103)); clear HB; have HB := n0_; have BK103 := n1_; have GW103 := n2_; have GE103 := n3_; clear n0_ n1_ n2_ n3_; clear hb hbox hg))
  repeat (go_quiet (first | ((with_reducible refine gate_dst (N := 1) rfl ?_); (try (refine gate_guard (by rfl) ?_; dsimp only)); refine box_event ?hg (N := 1) ?hd (cs := #[.int .i64 a0_0, .int .i64 a0_1, .slice A0_2 l0_2.length c0_2]) (t := 25) ?hr ?_; (case hd => rfl); (case hg => rfl); (case hr => first | (go_simp; done) | (go_simp; rfl)); intro gb103 hg w3 hbox hb; have n0_ := Aside0.mk (below_step (by repeat (first | (with_reducible first | exact HB.out | apply below_alloc | apply pw_below_drewN | apply below_drew1) | exact HB.out)) hb); have n1_ := Aside0.mk (hbox); have n2_ := Aside0.mk ((by rw [hg]; exact (below_size (by repeat (first | (with_reducible first | exact HB.out | apply below_alloc | apply pw_below_drewN | apply below_drew1) | exact HB.out))) : w.heap.size ≤ gb103)); have n3_ := Aside0.mk ((by rw [hg]; exact (below_size (by repeat (first | (with_reducible first | exact HB.out | apply below_alloc | apply pw_below_drewN | apply below_drew1) | exact HB.out))) : w.heap.size ≤ gb103)); clear HB; have HB := n0_; have BK103 := n1_; have GW103 := n2_; have GE103 := n3_; clear n0_ n1_ n2_ n3_; clear hb hbox hg)); go_upto_region 1 with (first | ((with_reducible refine gate_dst (N := 1) rfl ?_); (try (refine gate_guard (by rfl) ?_; dsimp only)); refine box_event ?hg (N := 1) ?hd (cs := #[.int .i64 a0_0, .int .i64 a0_1, .slice A0_2 l0_2.length c0_2]) (t := 25) ?hr ?_; (case hd => rfl); (case hg => rfl); (case hr => first | (go_simp; done) | (go_simp; rfl)); intro gb103 hg w3 hbox hb; have n0_ := Aside0.mk (below_step (by repeat (first | (with_reducible first | exact HB.out | apply below_alloc | apply pw_below_drewN | apply below_drew1) | exact HB.out)) hb); have n1_ := Aside0.mk (hbox); have n2_ := Aside0.mk ((by rw [hg]; exact (below_size (by repeat (first | (with_reducible first | exact HB.out | apply below_alloc | apply pw_below_drewN | apply below_drew1) | exact HB.out))) : w.heap.size ≤ gb103)); have n3_ := Aside0.mk ((by rw [hg]; exact (below_size (by repeat (first | (with_reducible first | exact HB.out | apply below_alloc | apply pw_below_drewN | apply below_drew1) | exact HB.out))) : w.heap.size ≤ gb103)); clear HB; have HB := n0_; have BK103 := n1_; have GW103 := n2_; have GE103 := n3_; clear n0_ n1_ n2_ n3_; clear hb hbox hg)))
  (try simp only [Act.put, List.setIfInBounds_toArray, List.set_cons_zero, List.set_cons_succ])
  go_cut [30] (fun v30 wc => ∃ (kq : Nat) (x30_1 : Bool), v30 = .bool x30_1 ∧ Aside0 (learn_Check.j0 kq x30_1 a0_0 a0_1 l0_2 = some r) ∧ Aside0 (kq ≤ k) ∧ Aside0 (wc.heap[gb103]? = some (.cells #[.int .i64 a0_0, .int .i64 a0_1, (.slice A0_2 l0_2.length c0_2)] 25 (0, 0))) ∧ Aside0 (Below w.heap.size w wc))
  case first =>
    have H := HC2.out
    clear HC2
    by_cases c4 : a0_0 < 0
    · rw [if_pos c4] at H
      have c4b0 : decide (a0_0 < 0) = true := decide_eq_true c4
      clear c4
      (first | rw [c4b0] | (simp only [i64_w, i32_w]; rw [c4b0]) | skip)
      have H' := Aside0.mk H
      clear H
      have hcz5_0 : w3.cell? ⟨gb103, 0, none⟩ = some (.int .i64 a0_0) := (blk_cell BK103.out 0).trans rfl
      have hcz5_1 : w3.cell? ⟨gb103, 1, none⟩ = some (.int .i64 a0_1) := (blk_cell BK103.out 1).trans rfl
      have hcz5_2 : w3.cell? ⟨gb103, 2, none⟩ = some (.slice A0_2 l0_2.length c0_2) := (blk_cell BK103.out 2).trans rfl
      have hfz5_0 := blk_frozen BK103.out 0
      have hfz5_1 := blk_frozen BK103.out 1
      have hfz5_2 := blk_frozen BK103.out 2
      go_wp2
      repeat (go_quiet (fail); try go_wp2)
      go_meet
      case rel => exact ⟨_, (true), (by first | rfl | (simp; done) | (simp [*]; done)), H', ⟨by first | omega | exact Nat.le_refl _⟩, ⟨by (with_reducible repeat (first | refine blk_drewN ?_ _ | refine blk_drew ?_ | refine blk_alloc ?_ _)); exact BK103.out⟩, ⟨by repeat (first | (with_reducible first | exact HB.out | apply below_alloc | apply pw_below_drewN | apply below_drew1 | refine below_set ?_ GE103.out) | exact HB.out)⟩⟩
    · rw [if_neg c4] at H
      have c4b0 : decide (a0_0 < 0) = false := decide_eq_false c4
      clear c4
      (first | rw [c4b0] | (simp only [i64_w, i32_w]; rw [c4b0]) | skip)
      by_cases c6 : a0_0 > 4
      · rw [if_pos c6] at H
        have c6b0 : decide (4 < a0_0) = true := decide_eq_true c6
        clear c6
        have H' := Aside0.mk H
        clear H
        have hcz7_0 : w3.cell? ⟨gb103, 0, none⟩ = some (.int .i64 a0_0) := (blk_cell BK103.out 0).trans rfl
        have hcz7_1 : w3.cell? ⟨gb103, 1, none⟩ = some (.int .i64 a0_1) := (blk_cell BK103.out 1).trans rfl
        have hcz7_2 : w3.cell? ⟨gb103, 2, none⟩ = some (.slice A0_2 l0_2.length c0_2) := (blk_cell BK103.out 2).trans rfl
        have hfz7_0 := blk_frozen BK103.out 0
        have hfz7_1 := blk_frozen BK103.out 1
        have hfz7_2 := blk_frozen BK103.out 2
        go_wp2
        repeat (go_quiet (fail); try go_wp2)
        go_meet
        case rel => exact ⟨_, (true), (by first | rfl | (simp; done) | (simp [*]; done)), H', ⟨by first | omega | exact Nat.le_refl _⟩, ⟨by (with_reducible repeat (first | refine blk_drewN ?_ _ | refine blk_drew ?_ | refine blk_alloc ?_ _)); exact BK103.out⟩, ⟨by repeat (first | (with_reducible first | exact HB.out | apply below_alloc | apply pw_below_drewN | apply below_drew1 | refine below_set ?_ GE103.out) | exact HB.out)⟩⟩
      · rw [if_neg c6] at H
        have c6b0 : decide (4 < a0_0) = false := decide_eq_false c6
        clear c6
        by_cases c8 : a0_1 < 0
        · rw [if_pos c8] at H
          have c8b0 : decide (a0_1 < 0) = true := decide_eq_true c8
          clear c8
          have H' := Aside0.mk H
          clear H
          have hcz9_0 : w3.cell? ⟨gb103, 0, none⟩ = some (.int .i64 a0_0) := (blk_cell BK103.out 0).trans rfl
          have hcz9_1 : w3.cell? ⟨gb103, 1, none⟩ = some (.int .i64 a0_1) := (blk_cell BK103.out 1).trans rfl
          have hcz9_2 : w3.cell? ⟨gb103, 2, none⟩ = some (.slice A0_2 l0_2.length c0_2) := (blk_cell BK103.out 2).trans rfl
          have hfz9_0 := blk_frozen BK103.out 0
          have hfz9_1 := blk_frozen BK103.out 1
          have hfz9_2 := blk_frozen BK103.out 2
          go_wp2
          repeat (go_quiet (fail); try go_wp2)
          go_meet
          case rel => exact ⟨_, (true), (by first | rfl | (simp; done) | (simp [*]; done)), H', ⟨by first | omega | exact Nat.le_refl _⟩, ⟨by (with_reducible repeat (first | refine blk_drewN ?_ _ | refine blk_drew ?_ | refine blk_alloc ?_ _)); exact BK103.out⟩, ⟨by repeat (first | (with_reducible first | exact HB.out | apply below_alloc | apply pw_below_drewN | apply below_drew1 | refine below_set ?_ GE103.out) | exact HB.out)⟩⟩
        · rw [if_neg c8] at H
          have c8b0 : decide (a0_1 < 0) = false := decide_eq_false c8
          clear c8
          by_cases c10 : a0_1 > 10
          · rw [if_pos c10] at H
            have c10b0 : decide (10 < a0_1) = true := decide_eq_true c10
            clear c10
            have H' := Aside0.mk H
            clear H
            have hcz11_0 : w3.cell? ⟨gb103, 0, none⟩ = some (.int .i64 a0_0) := (blk_cell BK103.out 0).trans rfl
            have hcz11_1 : w3.cell? ⟨gb103, 1, none⟩ = some (.int .i64 a0_1) := (blk_cell BK103.out 1).trans rfl
            have hcz11_2 : w3.cell? ⟨gb103, 2, none⟩ = some (.slice A0_2 l0_2.length c0_2) := (blk_cell BK103.out 2).trans rfl
            have hfz11_0 := blk_frozen BK103.out 0
            have hfz11_1 := blk_frozen BK103.out 1
            have hfz11_2 := blk_frozen BK103.out 2
            go_wp2
            repeat (go_quiet (fail); try go_wp2)
            go_meet
            case rel => exact ⟨_, (true), (by first | rfl | (simp; done) | (simp [*]; done)), H', ⟨by first | omega | exact Nat.le_refl _⟩, ⟨by (with_reducible repeat (first | refine blk_drewN ?_ _ | refine blk_drew ?_ | refine blk_alloc ?_ _)); exact BK103.out⟩, ⟨by repeat (first | (with_reducible first | exact HB.out | apply below_alloc | apply pw_below_drewN | apply below_drew1 | refine below_set ?_ GE103.out) | exact HB.out)⟩⟩
          · rw [if_neg c10] at H
            have c10b0 : decide (10 < a0_1) = false := decide_eq_false c10
            clear c10
            have H' := Aside0.mk H
            clear H
            have hcz12_0 : w3.cell? ⟨gb103, 0, none⟩ = some (.int .i64 a0_0) := (blk_cell BK103.out 0).trans rfl
            have hcz12_1 : w3.cell? ⟨gb103, 1, none⟩ = some (.int .i64 a0_1) := (blk_cell BK103.out 1).trans rfl
            have hcz12_2 : w3.cell? ⟨gb103, 2, none⟩ = some (.slice A0_2 l0_2.length c0_2) := (blk_cell BK103.out 2).trans rfl
            have hfz12_0 := blk_frozen BK103.out 0
            have hfz12_1 := blk_frozen BK103.out 1
            have hfz12_2 := blk_frozen BK103.out 2
            go_wp2
            repeat (go_quiet (fail); try go_wp2)
            go_meet
            case rel => exact ⟨_, (decide ((l0_2.length : Int) > 64)), (by first | rfl | (simp; done) | (simp [*]; done)), H', ⟨by first | omega | exact Nat.le_refl _⟩, ⟨by (with_reducible repeat (first | refine blk_drewN ?_ _ | refine blk_drew ?_ | refine blk_alloc ?_ _)); exact BK103.out⟩, ⟨by repeat (first | (with_reducible first | exact HB.out | apply below_alloc | apply pw_below_drewN | apply below_drew1 | refine below_set ?_ GE103.out) | exact HB.out)⟩⟩
  case rest =>
    clear HC2
    try clear c1
    try clear p2
    try clear c4
    try clear c4b0
    try clear c6
    try clear c6b0
    try clear c8
    try clear c8b0
    try clear c10
    try clear c10b0
    try clear hcz11_0
    try clear hcz11_1
    try clear hcz11_2
    try clear hcz12_0
    try clear hcz12_1
    try clear hcz12_2
    try clear hcz5_0
    try clear hcz5_1
    try clear hcz5_2
    try clear hcz7_0
    try clear hcz7_1
    try clear hcz7_2
    try clear hcz9_0
    try clear hcz9_1
    try clear hcz9_2
    try clear hfz11_0
    try clear hfz11_1
    try clear hfz11_2
    try clear hfz12_0
    try clear hfz12_1
    try clear hfz12_2
    try clear hfz5_0
    try clear hfz5_1
    try clear hfz5_2
    try clear hfz7_0
    try clear hfz7_1
    try clear hfz7_2
    try clear hfz9_0
    try clear hfz9_1
    try clear hfz9_2
    obtain ⟨kq, x30_1, rfl, HA, HJ1, BK103, HB⟩ := hcut
    cases kq with
    | zero => exact absurd HA.out (by simp [learn_Check.j0])
    | succ kj1 =>
      have H := HA.out
      clear HA
      simp only [learn_Check.j0] at H
      by_cases c13 : x30_1 = true
      · subst c13
        have H1 : (some 2) = some r := by rw [if_pos rfl] at H; exact H
        clear H
        have H := H1
        clear H1
        obtain rfl := Option.some.inj H
        go_wp2
        repeat (go_quiet (fail); try go_wp2)
        go_ret
        exact ⟨by first | rfl | (simp [errW_none, errW_some] <;> rfl) | (simp [*, errW_none, errW_some] <;> rfl), by repeat (first | (with_reducible first | exact HB.out | apply below_alloc | apply pw_below_drewN | apply below_drew1 | refine below_set ?_ GE103.out) | exact HB.out)⟩
      · replace c13 := Bool.eq_false_iff.mpr c13
        subst c13
        have H1 : (if (l0_2.length : Int) = 0 then (some 13) else (learn_Check.l0 kj1 l0_2 (l0_2.length : Int) 0 a0_0 a0_1 l0_2)) = some r := by rw [if_neg (show ¬ (false = true) by decide)] at H; exact H
        clear H
        have H := H1
        clear H1
        by_cases c14 : (l0_2.length : Int) = 0
        · rw [if_pos c14] at H
          have c14b0 : ((l0_2.length : Int) == 0) = true := beq_iff_eq.mpr c14
          have c14b1 : ((l0_2.length : Int) != 0) = false := bne_eq_false_iff_eq.mpr c14
          clear c14
          obtain rfl := Option.some.inj H
          have hcz15_0 : wc.cell? ⟨gb103, 0, none⟩ = some (.int .i64 a0_0) := (blk_cell BK103.out 0).trans rfl
          have hcz15_1 : wc.cell? ⟨gb103, 1, none⟩ = some (.int .i64 a0_1) := (blk_cell BK103.out 1).trans rfl
          have hcz15_2 : wc.cell? ⟨gb103, 2, none⟩ = some (.slice A0_2 l0_2.length c0_2) := (blk_cell BK103.out 2).trans rfl
          have hfz15_0 := blk_frozen BK103.out 0
          have hfz15_1 := blk_frozen BK103.out 1
          have hfz15_2 := blk_frozen BK103.out 2
          go_wp2
          repeat (go_quiet (fail); try go_wp2)
          go_ret
          exact ⟨by first | rfl | (simp [errW_none, errW_some] <;> rfl) | (simp [*, errW_none, errW_some] <;> rfl), by repeat (first | (with_reducible first | exact HB.out | apply below_alloc | apply pw_below_drewN | apply below_drew1 | refine below_set ?_ GE103.out) | exact HB.out)⟩
        · rw [if_neg c14] at H
          have c14b0 : ((l0_2.length : Int) == 0) = false := beq_eq_false_iff_ne.mpr c14
          have c14b1 : ((l0_2.length : Int) != 0) = true := bne_iff_ne.mpr c14
          have c14b2 : ¬ (l0_2 = []) := fun h_ => c14 (by rw [h_]; rfl)
          have H' := Aside0.mk H
          clear H
          have hcz16_0 : wc.cell? ⟨gb103, 0, none⟩ = some (.int .i64 a0_0) := (blk_cell BK103.out 0).trans rfl
          have hcz16_1 : wc.cell? ⟨gb103, 1, none⟩ = some (.int .i64 a0_1) := (blk_cell BK103.out 1).trans rfl
          have hcz16_2 : wc.cell? ⟨gb103, 2, none⟩ = some (.slice A0_2 l0_2.length c0_2) := (blk_cell BK103.out 2).trans rfl
          have hfz16_0 := blk_frozen BK103.out 0
          have hfz16_1 := blk_frozen BK103.out 1
          have hfz16_2 := blk_frozen BK103.out 2
          go_wp2
          repeat (go_quiet (fail); try go_wp2)
          go_loopg [38] kj1 (fun kq v38 w' => ∃ (x38_2 : Int), v38 = .int .i64 x38_2 ∧ Aside0 (learn_Check.l0 kq l0_2 (l0_2.length : Int) x38_2 a0_0 a0_1 l0_2 = some r) ∧ Aside0 (kq ≤ kj1) ∧ Aside0 (w'.heap[gb103]? = some (.cells #[.int .i64 a0_0, .int .i64 a0_1, (.slice A0_2 l0_2.length c0_2)] 25 (0, 0))) ∧ Aside0 (Below w.heap.size w w'))
          case atStart => exact ⟨(0), (by first | rfl | (simp; done) | (simp [*]; done)), H', ⟨Nat.le_refl _⟩, ⟨by (with_reducible repeat (first | refine blk_drewN ?_ _ | refine blk_drew ?_ | refine blk_alloc ?_ _)); exact BK103.out⟩, ⟨by repeat (first | (with_reducible first | exact HB.out | apply below_alloc | apply pw_below_drewN | apply below_drew1 | refine below_set ?_ GE103.out) | exact HB.out)⟩⟩
          case round =>
            clear H'
            try clear c1
            try clear p2
            try clear c4
            try clear c4b0
            try clear c6
            try clear c6b0
            try clear c8
            try clear c8b0
            try clear c10
            try clear c10b0
            try clear c13
            try clear c14
            try clear c14b0
            try clear c14b1
            try clear c14b2
            try clear hcz11_0
            try clear hcz11_1
            try clear hcz11_2
            try clear hcz12_0
            try clear hcz12_1
            try clear hcz12_2
            try clear hcz15_0
            try clear hcz15_1
            try clear hcz15_2
            try clear hcz16_0
            try clear hcz16_1
            try clear hcz16_2
            try clear hcz5_0
            try clear hcz5_1
            try clear hcz5_2
            try clear hcz7_0
            try clear hcz7_1
            try clear hcz7_2
            try clear hcz9_0
            try clear hcz9_1
            try clear hcz9_2
            try clear hfz11_0
            try clear hfz11_1
            try clear hfz11_2
            try clear hfz12_0
            try clear hfz12_1
            try clear hfz12_2
            try clear hfz15_0
            try clear hfz15_1
            try clear hfz15_2
            try clear hfz16_0
            try clear hfz16_1
            try clear hfz16_2
            try clear hfz5_0
            try clear hfz5_1
            try clear hfz5_2
            try clear hfz7_0
            try clear hfz7_1
            try clear hfz7_2
            try clear hfz9_0
            try clear hfz9_1
            try clear hfz9_2
            try clear p2
            obtain ⟨x38_2, rfl, HA, HK2, BK103, HB⟩ := hrel
            cases gk with
            | zero => exact absurd HA.out (by simp [learn_Check.l0])
            | succ k2 =>
              have H := HA.out
              clear HA
              simp only [learn_Check.l0] at H
              by_cases c17 : x38_2 < (l0_2.length : Int)
              · rw [if_pos c17] at H
                have c17b0 : decide (x38_2 < (l0_2.length : Int)) = true := decide_eq_true c17
                clear c17
                by_cases c18 : 0 ≤ x38_2
                · rw [if_pos c18] at H
                  have c18b0 : decide (0 ≤ x38_2) = true := decide_eq_true c18
                  clear c18
                  by_cases c19 : x38_2 < (l0_2.length : Int)
                  · rw [if_pos c19] at H
                    have c19b0 : decide (x38_2 < (l0_2.length : Int)) = true := decide_eq_true c19
                    clear c19
                    by_cases c20 : 0 ≤ a0_0
                    · rw [if_pos c20] at H
                      have c20b0 := eq_true c20
                      have c20b1 : decide (0 ≤ a0_0) = true := decide_eq_true c20
                      clear c20
                      obtain ⟨ji21, hji21⟩ : ∃ j_ : Int, (shl .i64 1 a0_0) = j_ := ⟨_, rfl⟩
                      replace H : (if ((rd_L2 l0_2 x38_2).length : Int) = (ji21) then (learn_Check.l1 k2 l0_2 (l0_2.length : Int) x38_2 (rd_L2 l0_2 x38_2) ((rd_L2 l0_2 x38_2).length : Int) 0 a0_0 a0_1 l0_2) else (some 3)) = some r := by first | (rw [hji21] at H; exact H) | (simp only [hji21] at H ⊢; exact H)
                      have hji21_ : (IntKind.i64.wrap (1 * 2 ^ min a0_0.toNat 64)) = ji21 := hji21
                      have hji21z : a0_0 ≤ 64 → (IntKind.i64.wrap (1 * 2 ^ a0_0.toNat)) = ji21 := shl_small hji21
                      have hji21u : (IntKind.i64.wrap (2 ^ min a0_0.toNat 64)) = ji21 := by have h_ := hji21_; rw [Int.one_mul] at h_; exact h_
                      have hji21v : a0_0 ≤ 64 → (IntKind.i64.wrap (2 ^ a0_0.toNat)) = ji21 := fun hle_ => by have h_ := hji21z hle_; rw [Int.one_mul] at h_; exact h_
                      have hji21y : (wrap64 (1 * 2 ^ min a0_0.toNat 64)) = ji21 := (i64_w _).symm.trans hji21_
                      have hji21x : a0_0 ≤ 64 → (wrap64 (1 * 2 ^ a0_0.toNat)) = ji21 := fun h_ => (i64_w _).symm.trans (hji21z h_)
                      by_cases c22 : ((rd_L2 l0_2 x38_2).length : Int) = (ji21)
                      · rw [if_pos c22] at H
                        have c22b0 : (((rd_L2 l0_2 x38_2).length : Int) == (ji21)) = true := beq_iff_eq.mpr c22
                        have c22b1 : (((rd_L2 l0_2 x38_2).length : Int) != (ji21)) = false := bne_eq_false_iff_eq.mpr c22
                        clear c22
                        have H' := Aside0.mk H
                        clear H
                        have p104 : 0 ≤ (x38_2 : Int) := of_decide_eq_true (by first | (with_reducible assumption) | assumption)
                        have q104 : x38_2 < (l0_2.length : Int) := of_decide_eq_true (by first | (with_reducible assumption) | assumption)
                        obtain ⟨ad104, A104_0, c104_0, e104, hx104_0, hl104_0, hi104_0⟩ := at_L2 HR0_2.out x38_2 p104 q104
                        cases e104
                        replace hx104_0 := (HB.out.cell (World.block_lt_of_cell? w _ hx104_0)).trans hx104_0
                        have HR104_0 := Aside0.mk hi104_0
                        have HC104_0 := Aside0.mk hl104_0
                        clear hi104_0 hl104_0
                        replace p104 := eq_true p104
                        replace q104 := eq_true q104
                        have hcz23_0 : wr.cell? ⟨gb103, 0, none⟩ = some (.int .i64 a0_0) := (blk_cell BK103.out 0).trans rfl
                        have hcz23_1 : wr.cell? ⟨gb103, 1, none⟩ = some (.int .i64 a0_1) := (blk_cell BK103.out 1).trans rfl
                        have hcz23_2 : wr.cell? ⟨gb103, 2, none⟩ = some (.slice (some ad104) l0_2.length c0_2) := (blk_cell BK103.out 2).trans rfl
                        have hfz23_0 := blk_frozen BK103.out 0
                        have hfz23_1 := blk_frozen BK103.out 1
                        have hfz23_2 := blk_frozen BK103.out 2
                        go_wp2
                        repeat (go_quiet (fail); try go_wp2)
                        go_loopg [50] k2 (fun kq v50 w' => ∃ (x50_3 : Int), v50 = .int .i64 x50_3 ∧ Aside0 (learn_Check.l1 kq l0_2 (l0_2.length : Int) x38_2 (rd_L2 l0_2 x38_2) ((rd_L2 l0_2 x38_2).length : Int) x50_3 a0_0 a0_1 l0_2 = some r) ∧ Aside0 (kq ≤ k2) ∧ Aside0 (w'.heap[gb103]? = some (.cells #[.int .i64 a0_0, .int .i64 a0_1, (.slice (some ad104) l0_2.length c0_2)] 25 (0, 0))) ∧ Aside0 (Below w.heap.size w w'))
                        case atStart => exact ⟨(0), (by first | rfl | (simp; done) | (simp [*]; done)), H', ⟨Nat.le_refl _⟩, ⟨by (with_reducible repeat (first | refine blk_drewN ?_ _ | refine blk_drew ?_ | refine blk_alloc ?_ _)); exact BK103.out⟩, ⟨by repeat (first | (with_reducible first | exact HB.out | apply below_alloc | apply pw_below_drewN | apply below_drew1 | refine below_set ?_ GE103.out) | exact HB.out)⟩⟩
                        case round =>
                          clear H'
                          try clear c1
                          try clear p1
                          try clear q1
                          try clear hx1
                          try clear c2
                          try clear p2
                          try clear c4
                          try clear c4b0
                          try clear c6
                          try clear c6b0
                          try clear p6
                          try clear c8
                          try clear c8b0
                          try clear c10
                          try clear c10b0
                          try clear p10
                          try clear q10
                          try clear hx10
                          try clear c13
                          try clear c14
                          try clear c14b0
                          try clear c14b1
                          try clear c14b2
                          try clear c17
                          try clear c17b0
                          try clear c18
                          try clear c18b0
                          try clear c19
                          try clear c19b0
                          try clear c20
                          try clear c20b0
                          try clear c20b1
                          try clear c22
                          try clear c22b0
                          try clear c22b1
                          try clear hcz11_0
                          try clear hcz11_1
                          try clear hcz11_2
                          try clear hcz12_0
                          try clear hcz12_1
                          try clear hcz12_2
                          try clear hcz15_0
                          try clear hcz15_1
                          try clear hcz15_2
                          try clear hcz16_0
                          try clear hcz16_1
                          try clear hcz16_2
                          try clear hcz23_0
                          try clear hcz23_1
                          try clear hcz23_2
                          try clear hcz5_0
                          try clear hcz5_1
                          try clear hcz5_2
                          try clear hcz7_0
                          try clear hcz7_1
                          try clear hcz7_2
                          try clear hcz9_0
                          try clear hcz9_1
                          try clear hcz9_2
                          try clear hfz11_0
                          try clear hfz11_1
                          try clear hfz11_2
                          try clear hfz12_0
                          try clear hfz12_1
                          try clear hfz12_2
                          try clear hfz15_0
                          try clear hfz15_1
                          try clear hfz15_2
                          try clear hfz16_0
                          try clear hfz16_1
                          try clear hfz16_2
                          try clear hfz23_0
                          try clear hfz23_1
                          try clear hfz23_2
                          try clear hfz5_0
                          try clear hfz5_1
                          try clear hfz5_2
                          try clear hfz7_0
                          try clear hfz7_1
                          try clear hfz7_2
                          try clear hfz9_0
                          try clear hfz9_1
                          try clear hfz9_2
                          try clear hx104_0
                          try clear p104
                          try clear p2
                          try clear q104
                          obtain ⟨x50_3, rfl, HA, HK3, BK103, HB⟩ := hrel
                          cases gk with
                          | zero => exact absurd HA.out (by simp [learn_Check.l1])
                          | succ k3 =>
                            have H := HA.out
                            clear HA
                            simp only [learn_Check.l1] at H
                            by_cases c24 : x50_3 < ((rd_L2 l0_2 x38_2).length : Int)
                            · rw [if_pos c24] at H
                              have c24b0 : decide (x50_3 < ((rd_L2 l0_2 x38_2).length : Int)) = true := decide_eq_true c24
                              clear c24
                              by_cases c25 : 0 ≤ x50_3
                              · rw [if_pos c25] at H
                                have c25b0 : decide (0 ≤ x50_3) = true := decide_eq_true c25
                                clear c25
                                by_cases c26 : x50_3 < ((rd_L2 l0_2 x38_2).length : Int)
                                · rw [if_pos c26] at H
                                  have c26b0 : decide (x50_3 < ((rd_L2 l0_2 x38_2).length : Int)) = true := decide_eq_true c26
                                  clear c26
                                  have HC27 := Aside0.mk H
                                  clear H
                                  have p105 : 0 ≤ (x50_3 : Int) := of_decide_eq_true (by first | (with_reducible assumption) | assumption)
                                  have q105 : x50_3 < ((rd_L2 l0_2 x38_2).length : Int) := of_decide_eq_true (by first | (with_reducible assumption) | assumption)
                                  obtain ⟨ad105, e105, hx105_0, hx105_1⟩ := at_T77 HR104_0.out x50_3 p105 q105
                                  cases e105
                                  replace hx105_0 := (HB.out.cell (World.block_lt_of_cell? w _ hx105_0)).trans hx105_0
                                  replace hx105_1 := (HB.out.cell (World.block_lt_of_cell? w _ hx105_1)).trans hx105_1
                                  replace p105 := eq_true p105
                                  replace q105 := eq_true q105
                                  go_upto_region 13 with (first | ((with_reducible refine gate_dst (N := 6) rfl ?_); (try (refine gate_guard (by rfl) ?_; dsimp only)); refine box_event ?hg (N := 6) ?hd (cs := #[.int .i64 0, .int .i64 0]) (t := 77) ?hr ?_; (case hd => rfl); (case hg => rfl); (case hr => first | (go_simp; done) | (go_simp; rfl)); intro gb106 hg w28 hbox hb; have n0_ := Aside0.mk (blk_below (g := gb103) (o := .cells #[.int .i64 a0_0, .int .i64 a0_1, .slice (some ad104) l0_2.length c0_2] 25 (0, 0)) (by (with_reducible repeat (first | refine blk_drewN ?_ _ | refine blk_drew ?_ | refine blk_alloc ?_ _)); exact BK103.out) hb); have n1_ := Aside0.mk (below_step (by repeat (first | (with_reducible first | exact HB.out | apply below_alloc | apply pw_below_drewN | apply below_drew1 | refine below_set ?_ GE103.out) | exact HB.out)) hb); have n2_ := Aside0.mk (hbox); have n3_ := Aside0.mk ((by rw [hg]; exact (below_size (by repeat (first | (with_reducible first | exact HB.out | apply below_alloc | apply pw_below_drewN | apply below_drew1 | refine below_set ?_ GE103.out) | exact HB.out))) : w.heap.size ≤ gb106)); have n4_ := Aside0.mk ((by rw [hg]; exact (below_size (by repeat (first | (with_reducible first | exact HB.out | apply below_alloc | apply pw_below_drewN | apply below_drew1 | refine below_set ?_ GE103.out) | exact HB.out))) : w.heap.size ≤ gb106)); have n5_ := Aside0.mk ((by rw [hg]; exact Nat.ne_of_lt (blk_lt (g := gb103) (o := .cells #[.int .i64 a0_0, .int .i64 a0_1, .slice (some ad104) l0_2.length c0_2] 25 (0, 0)) (by (with_reducible repeat (first | refine blk_drewN ?_ _ | refine blk_drew ?_ | refine blk_alloc ?_ _)); exact BK103.out)) : gb103 ≠ gb106)); have n6_ := Aside0.mk ((by rw [hg]; exact Nat.ne_of_gt (blk_lt (g := gb103) (o := .cells #[.int .i64 a0_0, .int .i64 a0_1, .slice (some ad104) l0_2.length c0_2] 25 (0, 0)) (by (with_reducible repeat (first | refine blk_drewN ?_ _ | refine blk_drew ?_ | refine blk_alloc ?_ _)); exact BK103.out)) : gb106 ≠ gb103)); clear BK103; clear HB; have BK103 := n0_; have HB := n1_; have BK106 := n2_; have GW106 := n3_; have GE106 := n4_; have NB103_106 := n5_; have NB106_103 := n6_; clear n0_ n1_ n2_ n3_ n4_ n5_ n6_; clear hb hbox hg; have hnb29 := NB106_103.out; have hnc29 := NB103_106.out; have hcz30_0 : w28.cell? ⟨gb106, 0, none⟩ = some (.int .i64 0) := (blk_cell BK106.out 0).trans rfl; have hcz30_1 : w28.cell? ⟨gb106, 1, none⟩ = some (.int .i64 0) := (blk_cell BK106.out 1).trans rfl; have hfz30_0 := blk_frozen BK106.out 0; have hfz30_1 := blk_frozen BK106.out 1))
                                  repeat (go_quiet (first | ((with_reducible refine gate_dst (N := 6) rfl ?_); (try (refine gate_guard (by rfl) ?_; dsimp only)); refine box_event ?hg (N := 6) ?hd (cs := #[.int .i64 0, .int .i64 0]) (t := 77) ?hr ?_; (case hd => rfl); (case hg => rfl); (case hr => first | (go_simp; done) | (go_simp; rfl)); intro gb106 hg w28 hbox hb; have n0_ := Aside0.mk (blk_below (g := gb103) (o := .cells #[.int .i64 a0_0, .int .i64 a0_1, .slice (some ad104) l0_2.length c0_2] 25 (0, 0)) (by (with_reducible repeat (first | refine blk_drewN ?_ _ | refine blk_drew ?_ | refine blk_alloc ?_ _)); exact BK103.out) hb); have n1_ := Aside0.mk (below_step (by repeat (first | (with_reducible first | exact HB.out | apply below_alloc | apply pw_below_drewN | apply below_drew1 | refine below_set ?_ GE103.out) | exact HB.out)) hb); have n2_ := Aside0.mk (hbox); have n3_ := Aside0.mk ((by rw [hg]; exact (below_size (by repeat (first | (with_reducible first | exact HB.out | apply below_alloc | apply pw_below_drewN | apply below_drew1 | refine below_set ?_ GE103.out) | exact HB.out))) : w.heap.size ≤ gb106)); have n4_ := Aside0.mk ((by rw [hg]; exact (below_size (by repeat (first | (with_reducible first | exact HB.out | apply below_alloc | apply pw_below_drewN | apply below_drew1 | refine below_set ?_ GE103.out) | exact HB.out))) : w.heap.size ≤ gb106)); have n5_ := Aside0.mk ((by rw [hg]; exact Nat.ne_of_lt (blk_lt (g := gb103) (o := .cells #[.int .i64 a0_0, .int .i64 a0_1, .slice (some ad104) l0_2.length c0_2] 25 (0, 0)) (by (with_reducible repeat (first | refine blk_drewN ?_ _ | refine blk_drew ?_ | refine blk_alloc ?_ _)); exact BK103.out)) : gb103 ≠ gb106)); have n6_ := Aside0.mk ((by rw [hg]; exact Nat.ne_of_gt (blk_lt (g := gb103) (o := .cells #[.int .i64 a0_0, .int .i64 a0_1, .slice (some ad104) l0_2.length c0_2] 25 (0, 0)) (by (with_reducible repeat (first | refine blk_drewN ?_ _ | refine blk_drew ?_ | refine blk_alloc ?_ _)); exact BK103.out)) : gb106 ≠ gb103)); clear BK103; clear HB; have BK103 := n0_; have HB := n1_; have BK106 := n2_; have GW106 := n3_; have GE106 := n4_; have NB103_106 := n5_; have NB106_103 := n6_; clear n0_ n1_ n2_ n3_ n4_ n5_ n6_; clear hb hbox hg; have hnb29 := NB106_103.out; have hnc29 := NB103_106.out; have hcz30_0 : w28.cell? ⟨gb106, 0, none⟩ = some (.int .i64 0) := (blk_cell BK106.out 0).trans rfl; have hcz30_1 : w28.cell? ⟨gb106, 1, none⟩ = some (.int .i64 0) := (blk_cell BK106.out 1).trans rfl; have hfz30_0 := blk_frozen BK106.out 0; have hfz30_1 := blk_frozen BK106.out 1)); go_upto_region 13 with (first | ((with_reducible refine gate_dst (N := 6) rfl ?_); (try (refine gate_guard (by rfl) ?_; dsimp only)); refine box_event ?hg (N := 6) ?hd (cs := #[.int .i64 0, .int .i64 0]) (t := 77) ?hr ?_; (case hd => rfl); (case hg => rfl); (case hr => first | (go_simp; done) | (go_simp; rfl)); intro gb106 hg w28 hbox hb; have n0_ := Aside0.mk (blk_below (g := gb103) (o := .cells #[.int .i64 a0_0, .int .i64 a0_1, .slice (some ad104) l0_2.length c0_2] 25 (0, 0)) (by (with_reducible repeat (first | refine blk_drewN ?_ _ | refine blk_drew ?_ | refine blk_alloc ?_ _)); exact BK103.out) hb); have n1_ := Aside0.mk (below_step (by repeat (first | (with_reducible first | exact HB.out | apply below_alloc | apply pw_below_drewN | apply below_drew1 | refine below_set ?_ GE103.out) | exact HB.out)) hb); have n2_ := Aside0.mk (hbox); have n3_ := Aside0.mk ((by rw [hg]; exact (below_size (by repeat (first | (with_reducible first | exact HB.out | apply below_alloc | apply pw_below_drewN | apply below_drew1 | refine below_set ?_ GE103.out) | exact HB.out))) : w.heap.size ≤ gb106)); have n4_ := Aside0.mk ((by rw [hg]; exact (below_size (by repeat (first | (with_reducible first | exact HB.out | apply below_alloc | apply pw_below_drewN | apply below_drew1 | refine below_set ?_ GE103.out) | exact HB.out))) : w.heap.size ≤ gb106)); have n5_ := Aside0.mk ((by rw [hg]; exact Nat.ne_of_lt (blk_lt (g := gb103) (o := .cells #[.int .i64 a0_0, .int .i64 a0_1, .slice (some ad104) l0_2.length c0_2] 25 (0, 0)) (by (with_reducible repeat (first | refine blk_drewN ?_ _ | refine blk_drew ?_ | refine blk_alloc ?_ _)); exact BK103.out)) : gb103 ≠ gb106)); have n6_ := Aside0.mk ((by rw [hg]; exact Nat.ne_of_gt (blk_lt (g := gb103) (o := .cells #[.int .i64 a0_0, .int .i64 a0_1, .slice (some ad104) l0_2.length c0_2] 25 (0, 0)) (by (with_reducible repeat (first | refine blk_drewN ?_ _ | refine blk_drew ?_ | refine blk_alloc ?_ _)); exact BK103.out)) : gb106 ≠ gb103)); clear BK103; clear HB; have BK103 := n0_; have HB := n1_; have BK106 := n2_; have GW106 := n3_; have GE106 := n4_; have NB103_106 := n5_; have NB106_103 := n6_; clear n0_ n1_ n2_ n3_ n4_ n5_ n6_; clear hb hbox hg; have hnb29 := NB106_103.out; have hnc29 := NB103_106.out; have hcz30_0 : w28.cell? ⟨gb106, 0, none⟩ = some (.int .i64 0) := (blk_cell BK106.out 0).trans rfl; have hcz30_1 : w28.cell? ⟨gb106, 1, none⟩ = some (.int .i64 0) := (blk_cell BK106.out 1).trans rfl; have hfz30_0 := blk_frozen BK106.out 0; have hfz30_1 := blk_frozen BK106.out 1)))
                                  (try simp only [Act.put, List.setIfInBounds_toArray, List.set_cons_zero, List.set_cons_succ])
                                  go_cut [64] (fun v64 wc => ∃ (kq : Nat) (x64_26 : Bool), v64 = .bool x64_26 ∧ Aside0 (learn_Check.j3 kq l0_2 (l0_2.length : Int) x38_2 (rd_L2 l0_2 x38_2) ((rd_L2 l0_2 x38_2).length : Int) x50_3 x64_26 a0_0 a0_1 l0_2 ((rd_T77 (rd_L2 l0_2 x38_2) x50_3).f0) ((rd_T77 (rd_L2 l0_2 x38_2) x50_3).f1) = some r) ∧ Aside0 (kq ≤ k3) ∧ Aside0 (wc.heap[gb103]? = some (.cells #[.int .i64 a0_0, .int .i64 a0_1, (.slice (some ad104) l0_2.length c0_2)] 25 (0, 0))) ∧ Aside0 (wc.heap[gb106]? = some (.cells #[.int .i64 ((rd_T77 (rd_L2 l0_2 x38_2) x50_3).f0), .int .i64 ((rd_T77 (rd_L2 l0_2 x38_2) x50_3).f1)] 77 (0, 0))) ∧ Aside0 (Below w.heap.size w wc))
                                  case first =>
                                    have H := HC27.out
                                    clear HC27
                                    by_cases c31 : ((rd_T77 (rd_L2 l0_2 x38_2) x50_3).f0) < 0
                                    · rw [if_pos c31] at H
                                      have c31b0 : decide (((rd_T77 (rd_L2 l0_2 x38_2) x50_3).f0) < 0) = true := decide_eq_true c31
                                      clear c31
                                      (first | rw [c31b0] | (simp only [i64_w, i32_w]; rw [c31b0]) | skip)
                                      have H' := Aside0.mk H
                                      clear H
                                      have hnb32 := NB106_103.out
                                      have hnc32 := NB103_106.out
                                      have hcz33_0 : w28.cell? ⟨gb106, 0, none⟩ = some (.int .i64 0) := (blk_cell BK106.out 0).trans rfl
                                      have hcz33_1 : w28.cell? ⟨gb106, 1, none⟩ = some (.int .i64 0) := (blk_cell BK106.out 1).trans rfl
                                      have hfz33_0 := blk_frozen BK106.out 0
                                      have hfz33_1 := blk_frozen BK106.out 1
                                      go_wp2
                                      repeat (go_quiet (fail); try go_wp2)
                                      go_meet
                                      case rel => exact ⟨_, (true), (by first | rfl | (simp; done) | (simp [*]; done)), H', ⟨by have := HJ1.out; have := HK2.out; have := HK3.out; first | omega | exact Nat.le_refl _⟩, ⟨by (with_reducible repeat (first | refine blk_drewN ?_ _ | refine blk_drew ?_ | refine blk_alloc ?_ _)); refine blk_far ?_ NB103_106.out _; (with_reducible repeat (first | refine blk_drewN ?_ _ | refine blk_drew ?_ | refine blk_alloc ?_ _)); refine blk_far ?_ NB103_106.out _; (with_reducible repeat (first | refine blk_drewN ?_ _ | refine blk_drew ?_ | refine blk_alloc ?_ _)); exact BK103.out⟩, ⟨by (with_reducible repeat (first | refine blk_drewN ?_ _ | refine blk_drew ?_ | refine blk_alloc ?_ _)); refine blk_put (cs := #[.int .i64 ((rd_T77 (rd_L2 l0_2 x38_2) x50_3).f0), .int .i64 0]) ?_ 1 _ rfl; (with_reducible repeat (first | refine blk_drewN ?_ _ | refine blk_drew ?_ | refine blk_alloc ?_ _)); refine blk_put (cs := #[.int .i64 0, .int .i64 0]) ?_ 0 _ rfl; (with_reducible repeat (first | refine blk_drewN ?_ _ | refine blk_drew ?_ | refine blk_alloc ?_ _)); exact BK106.out⟩, ⟨by repeat (first | (with_reducible first | exact HB.out | apply below_alloc | apply pw_below_drewN | apply below_drew1 | refine below_set ?_ GE103.out | refine below_set ?_ GE106.out) | exact HB.out)⟩⟩
                                    · rw [if_neg c31] at H
                                      have c31b0 : decide (((rd_T77 (rd_L2 l0_2 x38_2) x50_3).f0) < 0) = false := decide_eq_false c31
                                      clear c31
                                      (first | rw [c31b0] | (simp only [i64_w, i32_w]; rw [c31b0]) | skip)
                                      by_cases c34 : 0 ≤ a0_1
                                      · rw [if_pos c34] at H
                                        have c34b0 := eq_true c34
                                        have c34b1 : decide (0 ≤ a0_1) = true := decide_eq_true c34
                                        clear c34
                                        obtain ⟨ji35, hji35⟩ : ∃ j_ : Int, (shl .i64 1 a0_1) = j_ := ⟨_, rfl⟩
                                        replace H : (learn_Check.j3 k3 l0_2 (l0_2.length : Int) x38_2 (rd_L2 l0_2 x38_2) ((rd_L2 l0_2 x38_2).length : Int) x50_3 (decide (((rd_T77 (rd_L2 l0_2 x38_2) x50_3).f0) ≥ (ji35))) a0_0 a0_1 l0_2 ((rd_T77 (rd_L2 l0_2 x38_2) x50_3).f0) ((rd_T77 (rd_L2 l0_2 x38_2) x50_3).f1)) = some r := by first | (rw [hji35] at H; exact H) | (simp only [hji35] at H ⊢; exact H)
                                        have hji35_ : (IntKind.i64.wrap (1 * 2 ^ min a0_1.toNat 64)) = ji35 := hji35
                                        have hji35z : a0_1 ≤ 64 → (IntKind.i64.wrap (1 * 2 ^ a0_1.toNat)) = ji35 := shl_small hji35
                                        have hji35u : (IntKind.i64.wrap (2 ^ min a0_1.toNat 64)) = ji35 := by have h_ := hji35_; rw [Int.one_mul] at h_; exact h_
                                        have hji35v : a0_1 ≤ 64 → (IntKind.i64.wrap (2 ^ a0_1.toNat)) = ji35 := fun hle_ => by have h_ := hji35z hle_; rw [Int.one_mul] at h_; exact h_
                                        have hji35y : (wrap64 (1 * 2 ^ min a0_1.toNat 64)) = ji35 := (i64_w _).symm.trans hji35_
                                        have hji35x : a0_1 ≤ 64 → (wrap64 (1 * 2 ^ a0_1.toNat)) = ji35 := fun h_ => (i64_w _).symm.trans (hji35z h_)
                                        have H' := Aside0.mk H
                                        clear H
                                        have hnb36 := NB106_103.out
                                        have hnc36 := NB103_106.out
                                        have hcz37_0 : w28.cell? ⟨gb106, 0, none⟩ = some (.int .i64 0) := (blk_cell BK106.out 0).trans rfl
                                        have hcz37_1 : w28.cell? ⟨gb106, 1, none⟩ = some (.int .i64 0) := (blk_cell BK106.out 1).trans rfl
                                        have hfz37_0 := blk_frozen BK106.out 0
                                        have hfz37_1 := blk_frozen BK106.out 1
                                        have hcz38_0 : w28.cell? ⟨gb103, 0, none⟩ = some (.int .i64 a0_0) := (blk_cell BK103.out 0).trans rfl
                                        have hcz38_1 : w28.cell? ⟨gb103, 1, none⟩ = some (.int .i64 a0_1) := (blk_cell BK103.out 1).trans rfl
                                        have hcz38_2 : w28.cell? ⟨gb103, 2, none⟩ = some (.slice (some ad104) l0_2.length c0_2) := (blk_cell BK103.out 2).trans rfl
                                        have hfz38_0 := blk_frozen BK103.out 0
                                        have hfz38_1 := blk_frozen BK103.out 1
                                        have hfz38_2 := blk_frozen BK103.out 2
                                        go_wp2
                                        repeat (go_quiet (fail); try go_wp2)
                                        go_meet
                                        case rel => exact ⟨_, (decide (((rd_T77 (rd_L2 l0_2 x38_2) x50_3).f0) ≥ (ji35))), (by first | rfl | (simp; done) | (simp only [← hji35] <;> (first | rfl | simp)) | (simp [*]; done)), H', ⟨by have := HJ1.out; have := HK2.out; have := HK3.out; first | omega | exact Nat.le_refl _⟩, ⟨by (with_reducible repeat (first | refine blk_drewN ?_ _ | refine blk_drew ?_ | refine blk_alloc ?_ _)); refine blk_far ?_ NB103_106.out _; (with_reducible repeat (first | refine blk_drewN ?_ _ | refine blk_drew ?_ | refine blk_alloc ?_ _)); refine blk_far ?_ NB103_106.out _; (with_reducible repeat (first | refine blk_drewN ?_ _ | refine blk_drew ?_ | refine blk_alloc ?_ _)); exact BK103.out⟩, ⟨by (with_reducible repeat (first | refine blk_drewN ?_ _ | refine blk_drew ?_ | refine blk_alloc ?_ _)); refine blk_put (cs := #[.int .i64 ((rd_T77 (rd_L2 l0_2 x38_2) x50_3).f0), .int .i64 0]) ?_ 1 _ rfl; (with_reducible repeat (first | refine blk_drewN ?_ _ | refine blk_drew ?_ | refine blk_alloc ?_ _)); refine blk_put (cs := #[.int .i64 0, .int .i64 0]) ?_ 0 _ rfl; (with_reducible repeat (first | refine blk_drewN ?_ _ | refine blk_drew ?_ | refine blk_alloc ?_ _)); exact BK106.out⟩, ⟨by repeat (first | (with_reducible first | exact HB.out | apply below_alloc | apply pw_below_drewN | apply below_drew1 | refine below_set ?_ GE103.out | refine below_set ?_ GE106.out) | exact HB.out)⟩⟩
                                      · rw [if_neg c34] at H
                                        exact absurd H (by simp)
                                  case rest =>
                                    clear HC27
                                    try clear c1
                                    try clear p1
                                    try clear q1
                                    try clear hx1
                                    try clear c2
                                    try clear p2
                                    try clear c3
                                    try clear c4
                                    try clear c4b0
                                    try clear c6
                                    try clear c6b0
                                    try clear p6
                                    try clear c8
                                    try clear c8b0
                                    try clear c10
                                    try clear c10b0
                                    try clear p10
                                    try clear q10
                                    try clear hx10
                                    try clear c13
                                    try clear c14
                                    try clear c14b0
                                    try clear c14b1
                                    try clear c14b2
                                    try clear c17
                                    try clear c17b0
                                    try clear c18
                                    try clear c18b0
                                    try clear c19
                                    try clear c19b0
                                    try clear c20
                                    try clear c20b0
                                    try clear c20b1
                                    try clear c22
                                    try clear c22b0
                                    try clear c22b1
                                    try clear c24
                                    try clear c24b0
                                    try clear c25
                                    try clear c25b0
                                    try clear c26
                                    try clear c26b0
                                    try clear c29
                                    try clear c31
                                    try clear c31b0
                                    try clear c32
                                    try clear c34
                                    try clear c34b0
                                    try clear c34b1
                                    try clear c36
                                    try clear hcz11_0
                                    try clear hcz11_1
                                    try clear hcz11_2
                                    try clear hcz12_0
                                    try clear hcz12_1
                                    try clear hcz12_2
                                    try clear hcz15_0
                                    try clear hcz15_1
                                    try clear hcz15_2
                                    try clear hcz16_0
                                    try clear hcz16_1
                                    try clear hcz16_2
                                    try clear hcz23_0
                                    try clear hcz23_1
                                    try clear hcz23_2
                                    try clear hcz30_0
                                    try clear hcz30_1
                                    try clear hcz33_0
                                    try clear hcz33_1
                                    try clear hcz37_0
                                    try clear hcz37_1
                                    try clear hcz38_0
                                    try clear hcz38_1
                                    try clear hcz38_2
                                    try clear hcz5_0
                                    try clear hcz5_1
                                    try clear hcz5_2
                                    try clear hcz7_0
                                    try clear hcz7_1
                                    try clear hcz7_2
                                    try clear hcz9_0
                                    try clear hcz9_1
                                    try clear hcz9_2
                                    try clear hfz11_0
                                    try clear hfz11_1
                                    try clear hfz11_2
                                    try clear hfz12_0
                                    try clear hfz12_1
                                    try clear hfz12_2
                                    try clear hfz15_0
                                    try clear hfz15_1
                                    try clear hfz15_2
                                    try clear hfz16_0
                                    try clear hfz16_1
                                    try clear hfz16_2
                                    try clear hfz23_0
                                    try clear hfz23_1
                                    try clear hfz23_2
                                    try clear hfz30_0
                                    try clear hfz30_1
                                    try clear hfz33_0
                                    try clear hfz33_1
                                    try clear hfz37_0
                                    try clear hfz37_1
                                    try clear hfz38_0
                                    try clear hfz38_1
                                    try clear hfz38_2
                                    try clear hfz5_0
                                    try clear hfz5_1
                                    try clear hfz5_2
                                    try clear hfz7_0
                                    try clear hfz7_1
                                    try clear hfz7_2
                                    try clear hfz9_0
                                    try clear hfz9_1
                                    try clear hfz9_2
                                    try clear hx104_0
                                    try clear hx105_0
                                    try clear hx105_1
                                    try clear p1
                                    try clear p10
                                    try clear p104
                                    try clear p105
                                    try clear p2
                                    try clear p6
                                    try clear q1
                                    try clear q10
                                    try clear q104
                                    try clear q105
                                    obtain ⟨kq, x64_26, rfl, HA, HJ26, BK103, BK106, HB⟩ := hcut
                                    cases kq with
                                    | zero => exact absurd HA.out (by simp [learn_Check.j3])
                                    | succ kj26 =>
                                      have H := HA.out
                                      clear HA
                                      simp only [learn_Check.j3] at H
                                      by_cases c39 : x64_26 = true
                                      · subst c39
                                        have H1 : (some 1) = some r := by rw [if_pos rfl] at H; exact H
                                        clear H
                                        have H := H1
                                        clear H1
                                        obtain rfl := Option.some.inj H
                                        go_wp2
                                        repeat (go_quiet (fail); try go_wp2)
                                        go_ret
                                        exact ⟨by first | rfl | (simp [errW_none, errW_some] <;> rfl) | (simp only [← hji21]; first | rfl | (simp [errW_none, errW_some] <;> rfl)) | (simp [*, errW_none, errW_some] <;> rfl), by repeat (first | (with_reducible first | exact HB.out | apply below_alloc | apply pw_below_drewN | apply below_drew1 | refine below_set ?_ GE103.out | refine below_set ?_ GE106.out) | exact HB.out)⟩
                                      · replace c39 := Bool.eq_false_iff.mpr c39
                                        subst c39
                                        have H1 : (if ((rd_T77 (rd_L2 l0_2 x38_2) x50_3).f1) < 0 then (some 4) else (if ((rd_T77 (rd_L2 l0_2 x38_2) x50_3).f1) ≥ (l0_2.length : Int) then (some 4) else (learn_Check.l1 kj26 l0_2 (l0_2.length : Int) x38_2 (rd_L2 l0_2 x38_2) ((rd_L2 l0_2 x38_2).length : Int) (wrap64 (x50_3 + 1)) a0_0 a0_1 l0_2))) = some r := by rw [if_neg (show ¬ (false = true) by decide)] at H; exact H
                                        clear H
                                        have H := H1
                                        clear H1
                                        by_cases c40 : ((rd_T77 (rd_L2 l0_2 x38_2) x50_3).f1) < 0
                                        · rw [if_pos c40] at H
                                          have c40b0 : decide (((rd_T77 (rd_L2 l0_2 x38_2) x50_3).f1) < 0) = true := decide_eq_true c40
                                          clear c40
                                          obtain rfl := Option.some.inj H
                                          have hnb41 := NB106_103.out
                                          have hnc41 := NB103_106.out
                                          have hcz42_0 : wc.cell? ⟨gb106, 0, none⟩ = some (.int .i64 ((rd_T77 (rd_L2 l0_2 x38_2) x50_3).f0)) := (blk_cell BK106.out 0).trans rfl
                                          have hcz42_1 : wc.cell? ⟨gb106, 1, none⟩ = some (.int .i64 ((rd_T77 (rd_L2 l0_2 x38_2) x50_3).f1)) := (blk_cell BK106.out 1).trans rfl
                                          have hfz42_0 := blk_frozen BK106.out 0
                                          have hfz42_1 := blk_frozen BK106.out 1
                                          go_wp2
                                          repeat (go_quiet (fail); try go_wp2)
                                          go_ret
                                          exact ⟨by first | rfl | (simp [errW_none, errW_some] <;> rfl) | (simp only [← hji21]; first | rfl | (simp [errW_none, errW_some] <;> rfl)) | (simp [*, errW_none, errW_some] <;> rfl), by repeat (first | (with_reducible first | exact HB.out | apply below_alloc | apply pw_below_drewN | apply below_drew1 | refine below_set ?_ GE103.out | refine below_set ?_ GE106.out) | exact HB.out)⟩
                                        · rw [if_neg c40] at H
                                          have c40b0 : decide (((rd_T77 (rd_L2 l0_2 x38_2) x50_3).f1) < 0) = false := decide_eq_false c40
                                          clear c40
                                          by_cases c43 : ((rd_T77 (rd_L2 l0_2 x38_2) x50_3).f1) ≥ (l0_2.length : Int)
                                          · rw [if_pos c43] at H
                                            have c43b0 : decide ((l0_2.length : Int) ≤ ((rd_T77 (rd_L2 l0_2 x38_2) x50_3).f1)) = true := decide_eq_true c43
                                            clear c43
                                            obtain rfl := Option.some.inj H
                                            have hnb44 := NB106_103.out
                                            have hnc44 := NB103_106.out
                                            have hcz45_0 : wc.cell? ⟨gb106, 0, none⟩ = some (.int .i64 ((rd_T77 (rd_L2 l0_2 x38_2) x50_3).f0)) := (blk_cell BK106.out 0).trans rfl
                                            have hcz45_1 : wc.cell? ⟨gb106, 1, none⟩ = some (.int .i64 ((rd_T77 (rd_L2 l0_2 x38_2) x50_3).f1)) := (blk_cell BK106.out 1).trans rfl
                                            have hfz45_0 := blk_frozen BK106.out 0
                                            have hfz45_1 := blk_frozen BK106.out 1
                                            have hcz46_0 : wc.cell? ⟨gb103, 0, none⟩ = some (.int .i64 a0_0) := (blk_cell BK103.out 0).trans rfl
                                            have hcz46_1 : wc.cell? ⟨gb103, 1, none⟩ = some (.int .i64 a0_1) := (blk_cell BK103.out 1).trans rfl
                                            have hcz46_2 : wc.cell? ⟨gb103, 2, none⟩ = some (.slice (some ad104) l0_2.length c0_2) := (blk_cell BK103.out 2).trans rfl
                                            have hfz46_0 := blk_frozen BK103.out 0
                                            have hfz46_1 := blk_frozen BK103.out 1
                                            have hfz46_2 := blk_frozen BK103.out 2
                                            go_wp2
                                            repeat (go_quiet (fail); try go_wp2)
                                            go_ret
                                            exact ⟨by first | rfl | (simp [errW_none, errW_some] <;> rfl) | (simp only [← hji21]; first | rfl | (simp [errW_none, errW_some] <;> rfl)) | (simp [*, errW_none, errW_some] <;> rfl), by repeat (first | (with_reducible first | exact HB.out | apply below_alloc | apply pw_below_drewN | apply below_drew1 | refine below_set ?_ GE103.out | refine below_set ?_ GE106.out) | exact HB.out)⟩
                                          · rw [if_neg c43] at H
                                            have c43b0 : decide ((l0_2.length : Int) ≤ ((rd_T77 (rd_L2 l0_2 x38_2) x50_3).f1)) = false := decide_eq_false c43
                                            clear c43
                                            have H' := Aside0.mk H
                                            clear H
                                            have hnb47 := NB106_103.out
                                            have hnc47 := NB103_106.out
                                            have hcz48_0 : wc.cell? ⟨gb106, 0, none⟩ = some (.int .i64 ((rd_T77 (rd_L2 l0_2 x38_2) x50_3).f0)) := (blk_cell BK106.out 0).trans rfl
                                            have hcz48_1 : wc.cell? ⟨gb106, 1, none⟩ = some (.int .i64 ((rd_T77 (rd_L2 l0_2 x38_2) x50_3).f1)) := (blk_cell BK106.out 1).trans rfl
                                            have hfz48_0 := blk_frozen BK106.out 0
                                            have hfz48_1 := blk_frozen BK106.out 1
                                            have hcz49_0 : wc.cell? ⟨gb103, 0, none⟩ = some (.int .i64 a0_0) := (blk_cell BK103.out 0).trans rfl
                                            have hcz49_1 : wc.cell? ⟨gb103, 1, none⟩ = some (.int .i64 a0_1) := (blk_cell BK103.out 1).trans rfl
                                            have hcz49_2 : wc.cell? ⟨gb103, 2, none⟩ = some (.slice (some ad104) l0_2.length c0_2) := (blk_cell BK103.out 2).trans rfl
                                            have hfz49_0 := blk_frozen BK103.out 0
                                            have hfz49_1 := blk_frozen BK103.out 1
                                            have hfz49_2 := blk_frozen BK103.out 2
                                            go_wp2
                                            repeat (go_quiet (fail); try go_wp2)
                                            go_roundg kj26
                                            case measure => have := HJ1.out; have := HK2.out; have := HK3.out; have := HJ26.out; omega
                                            case rel => exact ⟨(wrap64 (x50_3 + 1)), (by first | rfl | (simp; done) | (simp [*]; done)), H', ⟨by have := HJ1.out; have := HK2.out; have := HK3.out; have := HJ26.out; omega⟩, ⟨by (with_reducible repeat (first | refine blk_drewN ?_ _ | refine blk_drew ?_ | refine blk_alloc ?_ _)); exact BK103.out⟩, ⟨by repeat (first | (with_reducible first | exact HB.out | apply below_alloc | apply pw_below_drewN | apply below_drew1 | refine below_set ?_ GE103.out | refine below_set ?_ GE106.out) | exact HB.out)⟩⟩
                                · rw [if_neg c26] at H
                                  exact absurd H (by simp)
                              · rw [if_neg c25] at H
                                exact absurd H (by simp)
                            · rw [if_neg c24] at H
                              have c24b0 : decide (x50_3 < ((rd_L2 l0_2 x38_2).length : Int)) = false := decide_eq_false c24
                              clear c24
                              have H' := Aside0.mk H
                              clear H
                              go_wp2
                              repeat (go_quiet (fail); try go_wp2)
                              go_roundg k3
                              case measure => have := HJ1.out; have := HK2.out; have := HK3.out; omega
                              case rel => exact ⟨(wrap64 (x38_2 + 1)), (by first | rfl | (simp; done) | (simp [*]; done)), H', ⟨by have := HJ1.out; have := HK2.out; have := HK3.out; omega⟩, ⟨by (with_reducible repeat (first | refine blk_drewN ?_ _ | refine blk_drew ?_ | refine blk_alloc ?_ _)); exact BK103.out⟩, ⟨by repeat (first | (with_reducible first | exact HB.out | apply below_alloc | apply pw_below_drewN | apply below_drew1 | refine below_set ?_ GE103.out) | exact HB.out)⟩⟩
                      · rw [if_neg c22] at H
                        have c22b0 : (((rd_L2 l0_2 x38_2).length : Int) == (ji21)) = false := beq_eq_false_iff_ne.mpr c22
                        have c22b1 : (((rd_L2 l0_2 x38_2).length : Int) != (ji21)) = true := bne_iff_ne.mpr c22
                        obtain rfl := Option.some.inj H
                        have p104 : 0 ≤ (x38_2 : Int) := of_decide_eq_true (by first | (with_reducible assumption) | assumption)
                        have q104 : x38_2 < (l0_2.length : Int) := of_decide_eq_true (by first | (with_reducible assumption) | assumption)
                        obtain ⟨ad104, A104_0, c104_0, e104, hx104_0, hl104_0, hi104_0⟩ := at_L2 HR0_2.out x38_2 p104 q104
                        cases e104
                        replace hx104_0 := (HB.out.cell (World.block_lt_of_cell? w _ hx104_0)).trans hx104_0
                        have HR104_0 := Aside0.mk hi104_0
                        have HC104_0 := Aside0.mk hl104_0
                        clear hi104_0 hl104_0
                        replace p104 := eq_true p104
                        replace q104 := eq_true q104
                        have hcz50_0 : wr.cell? ⟨gb103, 0, none⟩ = some (.int .i64 a0_0) := (blk_cell BK103.out 0).trans rfl
                        have hcz50_1 : wr.cell? ⟨gb103, 1, none⟩ = some (.int .i64 a0_1) := (blk_cell BK103.out 1).trans rfl
                        have hcz50_2 : wr.cell? ⟨gb103, 2, none⟩ = some (.slice (some ad104) l0_2.length c0_2) := (blk_cell BK103.out 2).trans rfl
                        have hfz50_0 := blk_frozen BK103.out 0
                        have hfz50_1 := blk_frozen BK103.out 1
                        have hfz50_2 := blk_frozen BK103.out 2
                        go_wp2
                        repeat (go_quiet (fail); try go_wp2)
                        go_ret
                        exact ⟨by first | rfl | (simp [errW_none, errW_some] <;> rfl) | (simp only [← hji21]; first | rfl | (simp [errW_none, errW_some] <;> rfl)) | (simp [*, errW_none, errW_some] <;> rfl), by repeat (first | (with_reducible first | exact HB.out | apply below_alloc | apply pw_below_drewN | apply below_drew1 | refine below_set ?_ GE103.out) | exact HB.out)⟩
                    · rw [if_neg c20] at H
                      exact absurd H (by simp)
                  · rw [if_neg c19] at H
                    exact absurd H (by simp)
                · rw [if_neg c18] at H
                  exact absurd H (by simp)
              · rw [if_neg c17] at H
                have c17b0 : decide (x38_2 < (l0_2.length : Int)) = false := decide_eq_false c17
                clear c17
                obtain rfl := Option.some.inj H
                go_wp2
                repeat (go_quiet (fail); try go_wp2)
                go_ret
                exact ⟨by first | rfl | (simp [errW_none, errW_some] <;> rfl) | (simp [*, errW_none, errW_some] <;> rfl), by repeat (first | (with_reducible first | exact HB.out | apply below_alloc | apply pw_below_drewN | apply below_drew1 | refine below_set ?_ GE103.out) | exact HB.out)⟩

end Go.Proofs.Ytaalafnkglbcpaa.PL
