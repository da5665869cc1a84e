/- Own texts of this claim, part B: contracts of the functions that the law reaches, and plain lemmas. -/
import Derived.Test.YtaalafnkglbcpaaETA
/- own text -/
section
namespace Go.Proofs.Ytaalafnkglbcpaa.PL
open Go.RowKit Go.Proofs.YtaalafnkglbcpaaW.PrintWords Go.Proofs.YtaalafnkglbcpaaW.PrintLast Go.Proofs.YtaalafnkglbcpaaW.PrintMore
attribute [local go_sem] max2_int min2_int max_two min_two max_three min_three max_four min_four   -- for this text's walks alone
set_option linter.unusedVariables false
set_option linter.unusedSimpArgs false

/-! ### learn_Check: function 41 -/
mutual
def learn_Check.j0 : Nat → Bool → Int → Int → List (List (S77)) → Option (Int)
  | 0, _, _, _, _ => none
  | k + 1, x30, x104000, x104001, x104002 => if x30 = true then (some 2) else (if (x104002.length : Int) = 0 then (some 13) else (learn_Check.l0 k x104002 (x104002.length : Int) 0 x104000 x104001 x104002))
def learn_Check.l0 : Nat → List (List (S77)) → Int → Int → Int → Int → List (List (S77)) → Option (Int)
  | 0, _, _, _, _, _, _ => none
  | k + 1, x36, x37, x38, x104000, x104001, x104002 => if x38 < x37 then (if 0 ≤ x38 then (if x38 < (x36.length : Int) then (if 0 ≤ x104000 then (if ((rd_L2 x36 x38).length : Int) = (shl .i64 1 x104000) then (learn_Check.l1 k x36 x37 x38 (rd_L2 x36 x38) ((rd_L2 x36 x38).length : Int) 0 x104000 x104001 x104002) else (some 3)) else (none)) else (none)) else (none)) else (some 0)
def learn_Check.l1 : Nat → List (List (S77)) → Int → Int → List (S77) → Int → Int → Int → Int → List (List (S77)) → Option (Int)
  | 0, _, _, _, _, _, _, _, _, _ => none
  | k + 1, x36, x37, x38, x48, x49, x50, x104000, x104001, x104002 => if x50 < x49 then (if 0 ≤ x50 then (if x50 < (x48.length : Int) then (if ((rd_T77 x48 x50).f0) < 0 then (learn_Check.j3 k x36 x37 x38 x48 x49 x50 true x104000 x104001 x104002 ((rd_T77 x48 x50).f0) ((rd_T77 x48 x50).f1)) else (if 0 ≤ x104001 then (learn_Check.j3 k x36 x37 x38 x48 x49 x50 (decide (((rd_T77 x48 x50).f0) ≥ (shl .i64 1 x104001))) x104000 x104001 x104002 ((rd_T77 x48 x50).f0) ((rd_T77 x48 x50).f1)) else (none))) else (none)) else (none)) else (learn_Check.l0 k x36 x37 (wrap64 (x38 + 1)) x104000 x104001 x104002)
def learn_Check.j3 : Nat → List (List (S77)) → Int → Int → List (S77) → Int → Int → Bool → Int → Int → List (List (S77)) → Int → Int → Option (Int)
  | 0, _, _, _, _, _, _, _, _, _, _, _, _ => none
  | k + 1, x36, x37, x38, x48, x49, x50, x64, x104000, x104001, x104002, x107000, x107001 => if x64 = true then (some 1) else (if x107001 < 0 then (some 4) else (if x107001 ≥ (x104002.length : Int) then (some 4) else (learn_Check.l1 k x36 x37 x38 x48 x49 (wrap64 (x50 + 1)) x104000 x104001 x104002)))
end
def learn_Check.f (k : Nat) (a0_0 : Int) (a0_1 : Int) (l0_2 : List (List (S77))) : Option (Int) := if a0_0 < 0 then (learn_Check.j0 k true a0_0 a0_1 l0_2) else (if a0_0 > 4 then (learn_Check.j0 k true a0_0 a0_1 l0_2) else (if a0_1 < 0 then (learn_Check.j0 k true a0_0 a0_1 l0_2) else (if a0_1 > 10 then (learn_Check.j0 k true a0_0 a0_1 l0_2) else (learn_Check.j0 k (decide ((l0_2.length : Int) > 64)) a0_0 a0_1 l0_2))))
theorem learn_Check.mono_l : ∀ k, (∀ y0 y1 y2 y3, LeO (learn_Check.j0 k y0 y1 y2 y3) (learn_Check.j0 (k + 1) y0 y1 y2 y3)) ∧ (∀ y0 y1 y2 y3 y4 y5, LeO (learn_Check.l0 k y0 y1 y2 y3 y4 y5) (learn_Check.l0 (k + 1) y0 y1 y2 y3 y4 y5)) ∧ (∀ y0 y1 y2 y3 y4 y5 y6 y7 y8, LeO (learn_Check.l1 k y0 y1 y2 y3 y4 y5 y6 y7 y8) (learn_Check.l1 (k + 1) y0 y1 y2 y3 y4 y5 y6 y7 y8)) ∧ (∀ y0 y1 y2 y3 y4 y5 y6 y7 y8 y9 y10 y11, LeO (learn_Check.j3 k y0 y1 y2 y3 y4 y5 y6 y7 y8 y9 y10 y11) (learn_Check.j3 (k + 1) y0 y1 y2 y3 y4 y5 y6 y7 y8 y9 y10 y11))
  | 0 => ⟨fun _ _ _ _ r h => by simp [learn_Check.j0] at h, fun _ _ _ _ _ _ r h => by simp [learn_Check.l0] at h, fun _ _ _ _ _ _ _ _ _ r h => by simp [learn_Check.l1] at h, fun _ _ _ _ _ _ _ _ _ _ _ _ r h => by simp [learn_Check.j3] at h⟩
  | k + 1 => by
    obtain ⟨ih0, ih1, ih2, ih3⟩ := learn_Check.mono_l k
    refine ⟨?_, ?_, ?_, ?_⟩
    · intro y0 y1 y2 y3
      unfold learn_Check.j0
      repeat' first
      | (with_reducible exact ih0 _ _ _ _)
      | (with_reducible exact ih1 _ _ _ _ _ _)
      | (with_reducible exact ih2 _ _ _ _ _ _ _ _ _)
      | (with_reducible exact ih3 _ _ _ _ _ _ _ _ _ _ _ _)
      | (with_reducible exact LeO.refl _)
      | (with_reducible exact LeO.none _)
      | (with_reducible refine LeO.ite ?_ ?_)
      | (with_reducible refine LeO.bind ?_ (fun _ => ?_))
      | exact ih0 _ _ _ _
      | exact ih1 _ _ _ _ _ _
      | exact ih2 _ _ _ _ _ _ _ _ _
      | exact ih3 _ _ _ _ _ _ _ _ _ _ _ _
      | exact LeO.none _
      | refine LeO.ite ?_ ?_
      | refine LeO.bind ?_ (fun _ => ?_)
    · intro y0 y1 y2 y3 y4 y5
      unfold learn_Check.l0
      repeat' first
      | (with_reducible exact ih0 _ _ _ _)
      | (with_reducible exact ih1 _ _ _ _ _ _)
      | (with_reducible exact ih2 _ _ _ _ _ _ _ _ _)
      | (with_reducible exact ih3 _ _ _ _ _ _ _ _ _ _ _ _)
      | (with_reducible exact LeO.refl _)
      | (with_reducible exact LeO.none _)
      | (with_reducible refine LeO.ite ?_ ?_)
      | (with_reducible refine LeO.bind ?_ (fun _ => ?_))
      | exact ih0 _ _ _ _
      | exact ih1 _ _ _ _ _ _
      | exact ih2 _ _ _ _ _ _ _ _ _
      | exact ih3 _ _ _ _ _ _ _ _ _ _ _ _
      | exact LeO.none _
      | refine LeO.ite ?_ ?_
      | refine LeO.bind ?_ (fun _ => ?_)
    · intro y0 y1 y2 y3 y4 y5 y6 y7 y8
      unfold learn_Check.l1
      repeat' first
      | (with_reducible exact ih0 _ _ _ _)
      | (with_reducible exact ih1 _ _ _ _ _ _)
      | (with_reducible exact ih2 _ _ _ _ _ _ _ _ _)
      | (with_reducible exact ih3 _ _ _ _ _ _ _ _ _ _ _ _)
      | (with_reducible exact LeO.refl _)
      | (with_reducible exact LeO.none _)
      | (with_reducible refine LeO.ite ?_ ?_)
      | (with_reducible refine LeO.bind ?_ (fun _ => ?_))
      | exact ih0 _ _ _ _
      | exact ih1 _ _ _ _ _ _
      | exact ih2 _ _ _ _ _ _ _ _ _
      | exact ih3 _ _ _ _ _ _ _ _ _ _ _ _
      | exact LeO.none _
      | refine LeO.ite ?_ ?_
      | refine LeO.bind ?_ (fun _ => ?_)
    · intro y0 y1 y2 y3 y4 y5 y6 y7 y8 y9 y10 y11
      unfold learn_Check.j3
      repeat' first
      | (with_reducible exact ih0 _ _ _ _)
      | (with_reducible exact ih1 _ _ _ _ _ _)
      | (with_reducible exact ih2 _ _ _ _ _ _ _ _ _)
      | (with_reducible exact ih3 _ _ _ _ _ _ _ _ _ _ _ _)
      | (with_reducible exact LeO.refl _)
      | (with_reducible exact LeO.none _)
      | (with_reducible refine LeO.ite ?_ ?_)
      | (with_reducible refine LeO.bind ?_ (fun _ => ?_))
      | exact ih0 _ _ _ _
      | exact ih1 _ _ _ _ _ _
      | exact ih2 _ _ _ _ _ _ _ _ _
      | exact ih3 _ _ _ _ _ _ _ _ _ _ _ _
      | exact LeO.none _
      | refine LeO.ite ?_ ?_
      | refine LeO.bind ?_ (fun _ => ?_)
theorem learn_Check.mono : ∀ a0 a1 a2 k, LeO (learn_Check.f k a0 a1 a2) (learn_Check.f (k + 1) a0 a1 a2) := by
  intro a0 a1 a2 k
  obtain ⟨ih0, ih1, ih2, ih3⟩ := learn_Check.mono_l k
  unfold learn_Check.f
  repeat' first
      | (with_reducible exact ih0 _ _ _ _)
      | (with_reducible exact ih1 _ _ _ _ _ _)
      | (with_reducible exact ih2 _ _ _ _ _ _ _ _ _)
      | (with_reducible exact ih3 _ _ _ _ _ _ _ _ _ _ _ _)
      | (with_reducible exact LeO.refl _)
      | (with_reducible exact LeO.none _)
      | (with_reducible refine LeO.ite ?_ ?_)
      | (with_reducible refine LeO.bind ?_ (fun _ => ?_))
      | exact ih0 _ _ _ _
      | exact ih1 _ _ _ _ _ _
      | exact ih2 _ _ _ _ _ _ _ _ _
      | exact ih3 _ _ _ _ _ _ _ _ _ _ _ _
      | exact LeO.none _
      | refine LeO.ite ?_ ?_
      | refine LeO.bind ?_ (fun _ => ?_)
set_option maxHeartbeats 8000000 in
set_option maxRecDepth 100000 in
theorem learn_Check.calls (k : Nat) (a0_0 : Int) (a0_1 : Int) (A0_2 : Option Addr) (c0_2 : Nat) (l0_2 : List (List (S77))) (r : Int) (w : World) (hr0_2 : Kd.C (Kd.slice 77 k77) w A0_2 l0_2.length l0_2) (hc0_2 : l0_2.length ≤ c0_2) (h : learn_Check.f k a0_0 a0_1 l0_2 = some r) :
    Calls Try.prog 41 #[.agg #[.int .i64 a0_0, .int .i64 a0_1, .slice A0_2 l0_2.length c0_2]] w fun e w' => e = .returned (.int .i64 r) ∧ Below w.heap.size w w' := by
  have hu25 := Try.underlying25
  have hu77 := Try.underlying77
  have HR0_2 := Aside0.mk hr0_2
  have HC0_2 := Aside0.mk hc0_2
  clear hr0_2 hc0_2
  have HB := Aside0.mk (Below.refl w.heap.size w)
  have H : (if a0_0 < 0 then (learn_Check.j0 k true a0_0 a0_1 l0_2) else (if a0_0 > 4 then (learn_Check.j0 k true a0_0 a0_1 l0_2) else (if a0_1 < 0 then (learn_Check.j0 k true a0_0 a0_1 l0_2) else (if a0_1 > 10 then (learn_Check.j0 k true a0_0 a0_1 l0_2) else (learn_Check.j0 k (decide ((l0_2.length : Int) > 64)) a0_0 a0_1 l0_2))))) = some r := h
  clear h
  have HC2 := Aside0.mk H
  clear H
  go_enter Try.func41, Try.ntmps41
  go_upto_region 1 with (first | ((with_reducible refine gate_dst (N := 1) rfl ?_); (try (refine gate_guard (by rfl) ?_; dsimp only)); refine box_event ?hg (N := 1) ?hd (cs := #[.int .i64 a0_0, .int .i64 a0_1, .slice A0_2 l0_2.length c0_2]) (t := 25) ?hr ?_; (case hd => rfl); (case hg => rfl); (case hr => first | (go_simp; done) | (go_simp; rfl)); intro gb103 hg w3 hbox hb; have n0_ := Aside0.mk (below_step (by repeat (first | (with_reducible first | exact HB.out | apply below_alloc | apply pw_below_drewN | apply below_drew1) | exact HB.out)) hb); have n1_ := Aside0.mk (hbox); have n2_ := Aside0.mk ((by rw [hg]; exact (below_size (by repeat (first | (with_reducible first | exact HB.out | apply below_alloc | apply pw_below_drewN | apply below_drew1) | exact HB.out))) : w.heap.size ≤ gb103)); have n3_ := Aside0.mk ((by rw [hg]; exact (below_size (by repeat (first | (with_reducible first | exact HB.out | apply below_alloc | apply pw_below_drewN | apply below_drew1) | exact HB.out))) : w.heap.size ≤ gb103)); clear HB; have HB := n0_; have BK103 := n1_; have GW103 := n2_; have GE103 := n3_; clear n0_ n1_ n2_ n3_; clear hb hbox hg))
  repeat (go_quiet (first | ((with_reducible refine gate_dst (N := 1) rfl ?_); (try (refine gate_guard (by rfl) ?_; dsimp only)); refine box_event ?hg (N := 1) ?hd (cs := #[.int .i64 a0_0, .int .i64 a0_1, .slice A0_2 l0_2.length c0_2]) (t := 25) ?hr ?_; (case hd => rfl); (case hg => rfl); (case hr => first | (go_simp; done) | (go_simp; rfl)); intro gb103 hg w3 hbox hb; have n0_ := Aside0.mk (below_step (by repeat (first | (with_reducible first | exact HB.out | apply below_alloc | apply pw_below_drewN | apply below_drew1) | exact HB.out)) hb); have n1_ := Aside0.mk (hbox); have n2_ := Aside0.mk ((by rw [hg]; exact (below_size (by repeat (first | (with_reducible first | exact HB.out | apply below_alloc | apply pw_below_drewN | apply below_drew1) | exact HB.out))) : w.heap.size ≤ gb103)); have n3_ := Aside0.mk ((by rw [hg]; exact (below_size (by repeat (first | (with_reducible first | exact HB.out | apply below_alloc | apply pw_below_drewN | apply below_drew1) | exact HB.out))) : w.heap.size ≤ gb103)); clear HB; have HB := n0_; have BK103 := n1_; have GW103 := n2_; have GE103 := n3_; clear n0_ n1_ n2_ n3_; clear hb hbox hg)); go_upto_region 1 with (first | ((with_reducible refine gate_dst (N := 1) rfl ?_); (try (refine gate_guard (by rfl) ?_; dsimp only)); refine box_event ?hg (N := 1) ?hd (cs := #[.int .i64 a0_0, .int .i64 a0_1, .slice A0_2 l0_2.length c0_2]) (t := 25) ?hr ?_; (case hd => rfl); (case hg => rfl); (case hr => first | (go_simp; done) | (go_simp; rfl)); intro gb103 hg w3 hbox hb; have n0_ := Aside0.mk (below_step (by repeat (first | (with_reducible first | exact HB.out | apply below_alloc | apply pw_below_drewN | apply below_drew1) | exact HB.out)) hb); have n1_ := Aside0.mk (hbox); have n2_ := Aside0.mk ((by rw [hg]; exact (below_size (by repeat (first | (with_reducible first | exact HB.out | apply below_alloc | apply pw_below_drewN | apply below_drew1) | exact HB.out))) : w.heap.size ≤ gb103)); have n3_ := Aside0.mk ((by rw [hg]; exact (below_size (by repeat (first | (with_reducible first | exact HB.out | apply below_alloc | apply pw_below_drewN | apply below_drew1) | exact HB.out))) : w.heap.size ≤ gb103)); clear HB; have HB := n0_; have BK103 := n1_; have GW103 := n2_; have GE103 := n3_; clear n0_ n1_ n2_ n3_; clear hb hbox hg)))
  (try simp only [Act.put, List.setIfInBounds_toArray, List.set_cons_zero, List.set_cons_succ])
  go_cut [30] (fun v30 wc => ∃ (kq : Nat) (x30_1 : Bool), v30 = .bool x30_1 ∧ Aside0 (learn_Check.j0 kq x30_1 a0_0 a0_1 l0_2 = some r) ∧ Aside0 (kq ≤ k) ∧ Aside0 (wc.heap[gb103]? = some (.cells #[.int .i64 a0_0, .int .i64 a0_1, (.slice A0_2 l0_2.length c0_2)] 25 (0, 0))) ∧ Aside0 (Below w.heap.size w wc))
  case first =>
    have H := HC2.out
    clear HC2
    by_cases c4 : a0_0 < 0
    · rw [if_pos c4] at H
      have c4b0 : decide (a0_0 < 0) = true := decide_eq_true c4
      clear c4
      (first | rw [c4b0] | (simp only [i64_w, i32_w]; rw [c4b0]) | skip)
      have H' := Aside0.mk H
      clear H
      have hcz5_0 : w3.cell? ⟨gb103, 0, none⟩ = some (.int .i64 a0_0) := (blk_cell BK103.out 0).trans rfl
      have hcz5_1 : w3.cell? ⟨gb103, 1, none⟩ = some (.int .i64 a0_1) := (blk_cell BK103.out 1).trans rfl
      have hcz5_2 : w3.cell? ⟨gb103, 2, none⟩ = some (.slice A0_2 l0_2.length c0_2) := (blk_cell BK103.out 2).trans rfl
      have hfz5_0 := blk_frozen BK103.out 0
      have hfz5_1 := blk_frozen BK103.out 1
      have hfz5_2 := blk_frozen BK103.out 2
      go_wp2
      repeat (go_quiet (fail); try go_wp2)
      go_meet
      case rel => exact ⟨_, (true), (by first | rfl | (simp; done) | (simp [*]; done)), H', ⟨by first | omega | exact Nat.le_refl _⟩, ⟨by (with_reducible repeat (first | refine blk_drewN ?_ _ | refine blk_drew ?_ | refine blk_alloc ?_ _)); exact BK103.out⟩, ⟨by repeat (first | (with_reducible first | exact HB.out | apply below_alloc | apply pw_below_drewN | apply below_drew1 | refine below_set ?_ GE103.out) | exact HB.out)⟩⟩
    · rw [if_neg c4] at H
      have c4b0 : decide (a0_0 < 0) = false := decide_eq_false c4
      clear c4
      (first | rw [c4b0] | (simp only [i64_w, i32_w]; rw [c4b0]) | skip)
      by_cases c6 : a0_0 > 4
      · rw [if_pos c6] at H
        have c6b0 : decide (4 < a0_0) = true := decide_eq_true c6
        clear c6
        have H' := Aside0.mk H
        clear H
        have hcz7_0 : w3.cell? ⟨gb103, 0, none⟩ = some (.int .i64 a0_0) := (blk_cell BK103.out 0).trans rfl
        have hcz7_1 : w3.cell? ⟨gb103, 1, none⟩ = some (.int .i64 a0_1) := (blk_cell BK103.out 1).trans rfl
        have hcz7_2 : w3.cell? ⟨gb103, 2, none⟩ = some (.slice A0_2 l0_2.length c0_2) := (blk_cell BK103.out 2).trans rfl
        have hfz7_0 := blk_frozen BK103.out 0
        have hfz7_1 := blk_frozen BK103.out 1
        have hfz7_2 := blk_frozen BK103.out 2
        go_wp2
        repeat (go_quiet (fail); try go_wp2)
        go_meet
        case rel => exact ⟨_, (true), (by first | rfl | (simp; done) | (simp [*]; done)), H', ⟨by first | omega | exact Nat.le_refl _⟩, ⟨by (with_reducible repeat (first | refine blk_drewN ?_ _ | refine blk_drew ?_ | refine blk_alloc ?_ _)); exact BK103.out⟩, ⟨by repeat (first | (with_reducible first | exact HB.out | apply below_alloc | apply pw_below_drewN | apply below_drew1 | refine below_set ?_ GE103.out) | exact HB.out)⟩⟩
      · rw [if_neg c6] at H
        have c6b0 : decide (4 < a0_0) = false := decide_eq_false c6
        clear c6
        by_cases c8 : a0_1 < 0
        · rw [if_pos c8] at H
          have c8b0 : decide (a0_1 < 0) = true := decide_eq_true c8
          clear c8
          have H' := Aside0.mk H
          clear H
          have hcz9_0 : w3.cell? ⟨gb103, 0, none⟩ = some (.int .i64 a0_0) := (blk_cell BK103.out 0).trans rfl
          have hcz9_1 : w3.cell? ⟨gb103, 1, none⟩ = some (.int .i64 a0_1) := (blk_cell BK103.out 1).trans rfl
          have hcz9_2 : w3.cell? ⟨gb103, 2, none⟩ = some (.slice A0_2 l0_2.length c0_2) := (blk_cell BK103.out 2).trans rfl
          have hfz9_0 := blk_frozen BK103.out 0
          have hfz9_1 := blk_frozen BK103.out 1
          have hfz9_2 := blk_frozen BK103.out 2
          go_wp2
          repeat (go_quiet (fail); try go_wp2)
          go_meet
          case rel => exact ⟨_, (true), (by first | rfl | (simp; done) | (simp [*]; done)), H', ⟨by first | omega | exact Nat.le_refl _⟩, ⟨by (with_reducible repeat (first | refine blk_drewN ?_ _ | refine blk_drew ?_ | refine blk_alloc ?_ _)); exact BK103.out⟩, ⟨by repeat (first | (with_reducible first | exact HB.out | apply below_alloc | apply pw_below_drewN | apply below_drew1 | refine below_set ?_ GE103.out) | exact HB.out)⟩⟩
        · rw [if_neg c8] at H
          have c8b0 : decide (a0_1 < 0) = false := decide_eq_false c8
          clear c8
          by_cases c10 : a0_1 > 10
          · rw [if_pos c10] at H
            have c10b0 : decide (10 < a0_1) = true := decide_eq_true c10
            clear c10
            have H' := Aside0.mk H
            clear H
            have hcz11_0 : w3.cell? ⟨gb103, 0, none⟩ = some (.int .i64 a0_0) := (blk_cell BK103.out 0).trans rfl
            have hcz11_1 : w3.cell? ⟨gb103, 1, none⟩ = some (.int .i64 a0_1) := (blk_cell BK103.out 1).trans rfl
            have hcz11_2 : w3.cell? ⟨gb103, 2, none⟩ = some (.slice A0_2 l0_2.length c0_2) := (blk_cell BK103.out 2).trans rfl
            have hfz11_0 := blk_frozen BK103.out 0
            have hfz11_1 := blk_frozen BK103.out 1
            have hfz11_2 := blk_frozen BK103.out 2
            go_wp2
            repeat (go_quiet (fail); try go_wp2)
            go_meet
            case rel => exact ⟨_, (true), (by first | rfl | (simp; done) | (simp [*]; done)), H', ⟨by first | omega | exact Nat.le_refl _⟩, ⟨by (with_reducible repeat (first | refine blk_drewN ?_ _ | refine blk_drew ?_ | refine blk_alloc ?_ _)); exact BK103.out⟩, ⟨by repeat (first | (with_reducible first | exact HB.out | apply below_alloc | apply pw_below_drewN | apply below_drew1 | refine below_set ?_ GE103.out) | exact HB.out)⟩⟩
          · rw [if_neg c10] at H
            have c10b0 : decide (10 < a0_1) = false := decide_eq_false c10
            clear c10
            have H' := Aside0.mk H
            clear H
            have hcz12_0 : w3.cell? ⟨gb103, 0, none⟩ = some (.int .i64 a0_0) := (blk_cell BK103.out 0).trans rfl
            have hcz12_1 : w3.cell? ⟨gb103, 1, none⟩ = some (.int .i64 a0_1) := (blk_cell BK103.out 1).trans rfl
            have hcz12_2 : w3.cell? ⟨gb103, 2, none⟩ = some (.slice A0_2 l0_2.length c0_2) := (blk_cell BK103.out 2).trans rfl
            have hfz12_0 := blk_frozen BK103.out 0
            have hfz12_1 := blk_frozen BK103.out 1
            have hfz12_2 := blk_frozen BK103.out 2
            go_wp2
            repeat (go_quiet (fail); try go_wp2)
            go_meet
            case rel => exact ⟨_, (decide ((l0_2.length : Int) > 64)), (by first | rfl | (simp; done) | (simp [*]; done)), H', ⟨by first | omega | exact Nat.le_refl _⟩, ⟨by (with_reducible repeat (first | refine blk_drewN ?_ _ | refine blk_drew ?_ | refine blk_alloc ?_ _)); exact BK103.out⟩, ⟨by repeat (first | (with_reducible first | exact HB.out | apply below_alloc | apply pw_below_drewN | apply below_drew1 | refine below_set ?_ GE103.out) | exact HB.out)⟩⟩
  case rest =>
    clear HC2
    try clear c1
    try clear p2
    try clear c4
    try clear c4b0
    try clear c6
    try clear c6b0
    try clear c8
    try clear c8b0
    try clear c10
    try clear c10b0
    try clear hcz11_0
    try clear hcz11_1
    try clear hcz11_2
    try clear hcz12_0
    try clear hcz12_1
    try clear hcz12_2
    try clear hcz5_0
    try clear hcz5_1
    try clear hcz5_2
    try clear hcz7_0
    try clear hcz7_1
    try clear hcz7_2
    try clear hcz9_0
    try clear hcz9_1
    try clear hcz9_2
    try clear hfz11_0
    try clear hfz11_1
    try clear hfz11_2
    try clear hfz12_0
    try clear hfz12_1
    try clear hfz12_2
    try clear hfz5_0
    try clear hfz5_1
    try clear hfz5_2
    try clear hfz7_0
    try clear hfz7_1
    try clear hfz7_2
    try clear hfz9_0
    try clear hfz9_1
    try clear hfz9_2
    obtain ⟨kq, x30_1, rfl, HA, HJ1, BK103, HB⟩ := hcut
    cases kq with
    | zero => exact absurd HA.out (by simp [learn_Check.j0])
    | succ kj1 =>
      have H := HA.out
      clear HA
      simp only [learn_Check.j0] at H
      by_cases c13 : x30_1 = true
      · subst c13
        have H1 : (some 2) = some r := by rw [if_pos rfl] at H; exact H
        clear H
        have H := H1
        clear H1
        obtain rfl := Option.some.inj H
        go_wp2
        repeat (go_quiet (fail); try go_wp2)
        go_ret
        exact ⟨by first | rfl | (simp [errW_none, errW_some] <;> rfl) | (simp [*, errW_none, errW_some] <;> rfl), by repeat (first | (with_reducible first | exact HB.out | apply below_alloc | apply pw_below_drewN | apply below_drew1 | refine below_set ?_ GE103.out) | exact HB.out)⟩
      · replace c13 := Bool.eq_false_iff.mpr c13
        subst c13
        have H1 : (if (l0_2.length : Int) = 0 then (some 13) else (learn_Check.l0 kj1 l0_2 (l0_2.length : Int) 0 a0_0 a0_1 l0_2)) = some r := by rw [if_neg (show ¬ (false = true) by decide)] at H; exact H
        clear H
        have H := H1
        clear H1
        by_cases c14 : (l0_2.length : Int) = 0
        · rw [if_pos c14] at H
          have c14b0 : ((l0_2.length : Int) == 0) = true := beq_iff_eq.mpr c14
          have c14b1 : ((l0_2.length : Int) != 0) = false := bne_eq_false_iff_eq.mpr c14
          clear c14
          obtain rfl := Option.some.inj H
          have hcz15_0 : wc.cell? ⟨gb103, 0, none⟩ = some (.int .i64 a0_0) := (blk_cell BK103.out 0).trans rfl
          have hcz15_1 : wc.cell? ⟨gb103, 1, none⟩ = some (.int .i64 a0_1) := (blk_cell BK103.out 1).trans rfl
          have hcz15_2 : wc.cell? ⟨gb103, 2, none⟩ = some (.slice A0_2 l0_2.length c0_2) := (blk_cell BK103.out 2).trans rfl
          have hfz15_0 := blk_frozen BK103.out 0
          have hfz15_1 := blk_frozen BK103.out 1
          have hfz15_2 := blk_frozen BK103.out 2
          go_wp2
          repeat (go_quiet (fail); try go_wp2)
          go_ret
          exact ⟨by first | rfl | (simp [errW_none, errW_some] <;> rfl) | (simp [*, errW_none, errW_some] <;> rfl), by repeat (first | (with_reducible first | exact HB.out | apply below_alloc | apply pw_below_drewN | apply below_drew1 | refine below_set ?_ GE103.out) | exact HB.out)⟩
        · rw [if_neg c14] at H
          have c14b0 : ((l0_2.length : Int) == 0) = false := beq_eq_false_iff_ne.mpr c14
          have c14b1 : ((l0_2.length : Int) != 0) = true := bne_iff_ne.mpr c14
          have c14b2 : ¬ (l0_2 = []) := fun h_ => c14 (by rw [h_]; rfl)
          have H' := Aside0.mk H
          clear H
          have hcz16_0 : wc.cell? ⟨gb103, 0, none⟩ = some (.int .i64 a0_0) := (blk_cell BK103.out 0).trans rfl
          have hcz16_1 : wc.cell? ⟨gb103, 1, none⟩ = some (.int .i64 a0_1) := (blk_cell BK103.out 1).trans rfl
          have hcz16_2 : wc.cell? ⟨gb103, 2, none⟩ = some (.slice A0_2 l0_2.length c0_2) := (blk_cell BK103.out 2).trans rfl
          have hfz16_0 := blk_frozen BK103.out 0
          have hfz16_1 := blk_frozen BK103.out 1
          have hfz16_2 := blk_frozen BK103.out 2
          go_wp2
          repeat (go_quiet (fail); try go_wp2)
          go_loopg [38] kj1 (fun kq v38 w' => ∃ (x38_2 : Int), v38 = .int .i64 x38_2 ∧ Aside0 (learn_Check.l0 kq l0_2 (l0_2.length : Int) x38_2 a0_0 a0_1 l0_2 = some r) ∧ Aside0 (kq ≤ kj1) ∧ Aside0 (w'.heap[gb103]? = some (.cells #[.int .i64 a0_0, .int .i64 a0_1, (.slice A0_2 l0_2.length c0_2)] 25 (0, 0))) ∧ Aside0 (Below w.heap.size w w'))
          case atStart => exact ⟨(0), (by first | rfl | (simp; done) | (simp [*]; done)), H', ⟨Nat.le_refl _⟩, ⟨by (with_reducible repeat (first | refine blk_drewN ?_ _ | refine blk_drew ?_ | refine blk_alloc ?_ _)); exact BK103.out⟩, ⟨by repeat (first | (with_reducible first | exact HB.out | apply below_alloc | apply pw_below_drewN | apply below_drew1 | refine below_set ?_ GE103.out) | exact HB.out)⟩⟩
          case round =>
            clear H'
            try clear c1
            try clear p2
            try clear c4
            try clear c4b0
            try clear c6
            try clear c6b0
            try clear c8
            try clear c8b0
            try clear c10
            try clear c10b0
            try clear c13
            try clear c14
            try clear c14b0
            try clear c14b1
            try clear c14b2
            try clear hcz11_0
            try clear hcz11_1
            try clear hcz11_2
            try clear hcz12_0
            try clear hcz12_1
            try clear hcz12_2
            try clear hcz15_0
            try clear hcz15_1
            try clear hcz15_2
            try clear hcz16_0
            try clear hcz16_1
            try clear hcz16_2
            try clear hcz5_0
            try clear hcz5_1
            try clear hcz5_2
            try clear hcz7_0
            try clear hcz7_1
            try clear hcz7_2
            try clear hcz9_0
            try clear hcz9_1
            try clear hcz9_2
            try clear hfz11_0
            try clear hfz11_1
            try clear hfz11_2
            try clear hfz12_0
            try clear hfz12_1
            try clear hfz12_2
            try clear hfz15_0
            try clear hfz15_1
            try clear hfz15_2
            try clear hfz16_0
            try clear hfz16_1
            try clear hfz16_2
            try clear hfz5_0
            try clear hfz5_1
            try clear hfz5_2
            try clear hfz7_0
            try clear hfz7_1
            try clear hfz7_2
            try clear hfz9_0
            try clear hfz9_1
            try clear hfz9_2
            try clear p2
            obtain ⟨x38_2, rfl, HA, HK2, BK103, HB⟩ := hrel
            cases gk with
            | zero => exact absurd HA.out (by simp [learn_Check.l0])
            | succ k2 =>
              have H := HA.out
              clear HA
              simp only [learn_Check.l0] at H
              by_cases c17 : x38_2 < (l0_2.length : Int)
              · rw [if_pos c17] at H
                have c17b0 : decide (x38_2 < (l0_2.length : Int)) = true := decide_eq_true c17
                clear c17
                by_cases c18 : 0 ≤ x38_2
                · rw [if_pos c18] at H
                  have c18b0 : decide (0 ≤ x38_2) = true := decide_eq_true c18
                  clear c18
                  by_cases c19 : x38_2 < (l0_2.length : Int)
                  · rw [if_pos c19] at H
                    have c19b0 : decide (x38_2 < (l0_2.length : Int)) = true := decide_eq_true c19
                    clear c19
                    by_cases c20 : 0 ≤ a0_0
                    · rw [if_pos c20] at H
                      have c20b0 := eq_true c20
                      have c20b1 : decide (0 ≤ a0_0) = true := decide_eq_true c20
                      clear c20
                      obtain ⟨ji21, hji21⟩ : ∃ j_ : Int, (shl .i64 1 a0_0) = j_ := ⟨_, rfl⟩
                      replace H : (if ((rd_L2 l0_2 x38_2).length : Int) = (ji21) then (learn_Check.l1 k2 l0_2 (l0_2.length : Int) x38_2 (rd_L2 l0_2 x38_2) ((rd_L2 l0_2 x38_2).length : Int) 0 a0_0 a0_1 l0_2) else (some 3)) = some r := by first | (rw [hji21] at H; exact H) | (simp only [hji21] at H ⊢; exact H)
                      have hji21_ : (IntKind.i64.wrap (1 * 2 ^ min a0_0.toNat 64)) = ji21 := hji21
                      have hji21z : a0_0 ≤ 64 → (IntKind.i64.wrap (1 * 2 ^ a0_0.toNat)) = ji21 := shl_small hji21
                      have hji21u : (IntKind.i64.wrap (2 ^ min a0_0.toNat 64)) = ji21 := by have h_ := hji21_; rw [Int.one_mul] at h_; exact h_
                      have hji21v : a0_0 ≤ 64 → (IntKind.i64.wrap (2 ^ a0_0.toNat)) = ji21 := fun hle_ => by have h_ := hji21z hle_; rw [Int.one_mul] at h_; exact h_
                      have hji21y : (wrap64 (1 * 2 ^ min a0_0.toNat 64)) = ji21 := (i64_w _).symm.trans hji21_
                      have hji21x : a0_0 ≤ 64 → (wrap64 (1 * 2 ^ a0_0.toNat)) = ji21 := fun h_ => (i64_w _).symm.trans (hji21z h_)
                      by_cases c22 : ((rd_L2 l0_2 x38_2).length : Int) = (ji21)
                      · rw [if_pos c22] at H
                        have c22b0 : (((rd_L2 l0_2 x38_2).length : Int) == (ji21)) = true := beq_iff_eq.mpr c22
                        have c22b1 : (((rd_L2 l0_2 x38_2).length : Int) != (ji21)) = false := bne_eq_false_iff_eq.mpr c22
                        clear c22
                        have H' := Aside0.mk H
                        clear H
                        have p104 : 0 ≤ (x38_2 : Int) := of_decide_eq_true (by first | (with_reducible assumption) | assumption)
                        have q104 : x38_2 < (l0_2.length : Int) := of_decide_eq_true (by first | (with_reducible assumption) | assumption)
                        obtain ⟨ad104, A104_0, c104_0, e104, hx104_0, hl104_0, hi104_0⟩ := at_L2 HR0_2.out x38_2 p104 q104
                        cases e104
                        replace hx104_0 := (HB.out.cell (World.block_lt_of_cell? w _ hx104_0)).trans hx104_0
                        have HR104_0 := Aside0.mk hi104_0
                        have HC104_0 := Aside0.mk hl104_0
                        clear hi104_0 hl104_0
                        replace p104 := eq_true p104
                        replace q104 := eq_true q104
                        have hcz23_0 : wr.cell? ⟨gb103, 0, none⟩ = some (.int .i64 a0_0) := (blk_cell BK103.out 0).trans rfl
                        have hcz23_1 : wr.cell? ⟨gb103, 1, none⟩ = some (.int .i64 a0_1) := (blk_cell BK103.out 1).trans rfl
                        have hcz23_2 : wr.cell? ⟨gb103, 2, none⟩ = some (.slice (some ad104) l0_2.length c0_2) := (blk_cell BK103.out 2).trans rfl
                        have hfz23_0 := blk_frozen BK103.out 0
                        have hfz23_1 := blk_frozen BK103.out 1
                        have hfz23_2 := blk_frozen BK103.out 2
                        go_wp2
                        repeat (go_quiet (fail); try go_wp2)
                        go_loopg [50] k2 (fun kq v50 w' => ∃ (x50_3 : Int), v50 = .int .i64 x50_3 ∧ Aside0 (learn_Check.l1 kq l0_2 (l0_2.length : Int) x38_2 (rd_L2 l0_2 x38_2) ((rd_L2 l0_2 x38_2).length : Int) x50_3 a0_0 a0_1 l0_2 = some r) ∧ Aside0 (kq ≤ k2) ∧ Aside0 (w'.heap[gb103]? = some (.cells #[.int .i64 a0_0, .int .i64 a0_1, (.slice (some ad104) l0_2.length c0_2)] 25 (0, 0))) ∧ Aside0 (Below w.heap.size w w'))
                        case atStart => exact ⟨(0), (by first | rfl | (simp; done) | (simp [*]; done)), H', ⟨Nat.le_refl _⟩, ⟨by (with_reducible repeat (first | refine blk_drewN ?_ _ | refine blk_drew ?_ | refine blk_alloc ?_ _)); exact BK103.out⟩, ⟨by repeat (first | (with_reducible first | exact HB.out | apply below_alloc | apply pw_below_drewN | apply below_drew1 | refine below_set ?_ GE103.out) | exact HB.out)⟩⟩
                        case round =>
                          clear H'
                          try clear c1
                          try clear p1
                          try clear q1
                          try clear hx1
                          try clear c2
                          try clear p2
                          try clear c4
                          try clear c4b0
                          try clear c6
                          try clear c6b0
                          try clear p6
                          try clear c8
                          try clear c8b0
                          try clear c10
                          try clear c10b0
                          try clear p10
                          try clear q10
                          try clear hx10
                          try clear c13
                          try clear c14
                          try clear c14b0
                          try clear c14b1
                          try clear c14b2
                          try clear c17
                          try clear c17b0
                          try clear c18
                          try clear c18b0
                          try clear c19
                          try clear c19b0
                          try clear c20
                          try clear c20b0
                          try clear c20b1
                          try clear c22
                          try clear c22b0
                          try clear c22b1
                          try clear hcz11_0
                          try clear hcz11_1
                          try clear hcz11_2
                          try clear hcz12_0
                          try clear hcz12_1
                          try clear hcz12_2
                          try clear hcz15_0
                          try clear hcz15_1
                          try clear hcz15_2
                          try clear hcz16_0
                          try clear hcz16_1
                          try clear hcz16_2
                          try clear hcz23_0
                          try clear hcz23_1
                          try clear hcz23_2
                          try clear hcz5_0
                          try clear hcz5_1
                          try clear hcz5_2
                          try clear hcz7_0
                          try clear hcz7_1
                          try clear hcz7_2
                          try clear hcz9_0
                          try clear hcz9_1
                          try clear hcz9_2
                          try clear hfz11_0
                          try clear hfz11_1
                          try clear hfz11_2
                          try clear hfz12_0
                          try clear hfz12_1
                          try clear hfz12_2
                          try clear hfz15_0
                          try clear hfz15_1
                          try clear hfz15_2
                          try clear hfz16_0
                          try clear hfz16_1
                          try clear hfz16_2
                          try clear hfz23_0
                          try clear hfz23_1
                          try clear hfz23_2
                          try clear hfz5_0
                          try clear hfz5_1
                          try clear hfz5_2
                          try clear hfz7_0
                          try clear hfz7_1
                          try clear hfz7_2
                          try clear hfz9_0
                          try clear hfz9_1
                          try clear hfz9_2
                          try clear hx104_0
                          try clear p104
                          try clear p2
                          try clear q104
                          obtain ⟨x50_3, rfl, HA, HK3, BK103, HB⟩ := hrel
                          cases gk with
                          | zero => exact absurd HA.out (by simp [learn_Check.l1])
                          | succ k3 =>
                            have H := HA.out
                            clear HA
                            simp only [learn_Check.l1] at H
                            by_cases c24 : x50_3 < ((rd_L2 l0_2 x38_2).length : Int)
                            · rw [if_pos c24] at H
                              have c24b0 : decide (x50_3 < ((rd_L2 l0_2 x38_2).length : Int)) = true := decide_eq_true c24
                              clear c24
                              by_cases c25 : 0 ≤ x50_3
                              · rw [if_pos c25] at H
                                have c25b0 : decide (0 ≤ x50_3) = true := decide_eq_true c25
                                clear c25
                                by_cases c26 : x50_3 < ((rd_L2 l0_2 x38_2).length : Int)
                                · rw [if_pos c26] at H
                                  have c26b0 : decide (x50_3 < ((rd_L2 l0_2 x38_2).length : Int)) = true := decide_eq_true c26
                                  clear c26
                                  have HC27 := Aside0.mk H
                                  clear H
                                  have p105 : 0 ≤ (x50_3 : Int) := of_decide_eq_true (by first | (with_reducible assumption) | assumption)
                                  have q105 : x50_3 < ((rd_L2 l0_2 x38_2).length : Int) := of_decide_eq_true (by first | (with_reducible assumption) | assumption)
                                  obtain ⟨ad105, e105, hx105_0, hx105_1⟩ := at_T77 HR104_0.out x50_3 p105 q105
                                  cases e105
                                  replace hx105_0 := (HB.out.cell (World.block_lt_of_cell? w _ hx105_0)).trans hx105_0
                                  replace hx105_1 := (HB.out.cell (World.block_lt_of_cell? w _ hx105_1)).trans hx105_1
                                  replace p105 := eq_true p105
                                  replace q105 := eq_true q105
                                  go_upto_region 13 with (first | ((with_reducible refine gate_dst (N := 6) rfl ?_); (try (refine gate_guard (by rfl) ?_; dsimp only)); refine box_event ?hg (N := 6) ?hd (cs := #[.int .i64 0, .int .i64 0]) (t := 77) ?hr ?_; (case hd => rfl); (case hg => rfl); (case hr => first | (go_simp; done) | (go_simp; rfl)); intro gb106 hg w28 hbox hb; have n0_ := Aside0.mk (blk_below (g := gb103) (o := .cells #[.int .i64 a0_0, .int .i64 a0_1, .slice (some ad104) l0_2.length c0_2] 25 (0, 0)) (by (with_reducible repeat (first | refine blk_drewN ?_ _ | refine blk_drew ?_ | refine blk_alloc ?_ _)); exact BK103.out) hb); have n1_ := Aside0.mk (below_step (by repeat (first | (with_reducible first | exact HB.out | apply below_alloc | apply pw_below_drewN | apply below_drew1 | refine below_set ?_ GE103.out) | exact HB.out)) hb); have n2_ := Aside0.mk (hbox); have n3_ := Aside0.mk ((by rw [hg]; exact (below_size (by repeat (first | (with_reducible first | exact HB.out | apply below_alloc | apply pw_below_drewN | apply below_drew1 | refine below_set ?_ GE103.out) | exact HB.out))) : w.heap.size ≤ gb106)); have n4_ := Aside0.mk ((by rw [hg]; exact (below_size (by repeat (first | (with_reducible first | exact HB.out | apply below_alloc | apply pw_below_drewN | apply below_drew1 | refine below_set ?_ GE103.out) | exact HB.out))) : w.heap.size ≤ gb106)); have n5_ := Aside0.mk ((by rw [hg]; exact Nat.ne_of_lt (blk_lt (g := gb103) (o := .cells #[.int .i64 a0_0, .int .i64 a0_1, .slice (some ad104) l0_2.length c0_2] 25 (0, 0)) (by (with_reducible repeat (first | refine blk_drewN ?_ _ | refine blk_drew ?_ | refine blk_alloc ?_ _)); exact BK103.out)) : gb103 ≠ gb106)); have n6_ := Aside0.mk ((by rw [hg]; exact Nat.ne_of_gt (blk_lt (g := gb103) (o := .cells #[.int .i64 a0_0, .int .i64 a0_1, .slice (some ad104) l0_2.length c0_2] 25 (0, 0)) (by (with_reducible repeat (first | refine blk_drewN ?_ _ | refine blk_drew ?_ | refine blk_alloc ?_ _)); exact BK103.out)) : gb106 ≠ gb103)); clear BK103; clear HB; have BK103 := n0_; have HB := n1_; have BK106 := n2_; have GW106 := n3_; have GE106 := n4_; have NB103_106 := n5_; have NB106_103 := n6_; clear n0_ n1_ n2_ n3_ n4_ n5_ n6_; clear hb hbox hg; have hnb29 := NB106_103.out; have hnc29 := NB103_106.out; have hcz30_0 : w28.cell? ⟨gb106, 0, none⟩ = some (.int .i64 0) := (blk_cell BK106.out 0).trans rfl; have hcz30_1 : w28.cell? ⟨gb106, 1, none⟩ = some (.int .i64 0) := (blk_cell BK106.out 1).trans rfl; have hfz30_0 := blk_frozen BK106.out 0; have hfz30_1 := blk_frozen BK106.out 1))
                                  repeat (go_quiet (first | ((with_reducible refine gate_dst (N := 6) rfl ?_); (try (refine gate_guard (by rfl) ?_; dsimp only)); refine box_event ?hg (N := 6) ?hd (cs := #[.int .i64 0, .int .i64 0]) (t := 77) ?hr ?_; (case hd => rfl); (case hg => rfl); (case hr => first | (go_simp; done) | (go_simp; rfl)); intro gb106 hg w28 hbox hb; have n0_ := Aside0.mk (blk_below (g := gb103) (o := .cells #[.int .i64 a0_0, .int .i64 a0_1, .slice (some ad104) l0_2.length c0_2] 25 (0, 0)) (by (with_reducible repeat (first | refine blk_drewN ?_ _ | refine blk_drew ?_ | refine blk_alloc ?_ _)); exact BK103.out) hb); have n1_ := Aside0.mk (below_step (by repeat (first | (with_reducible first | exact HB.out | apply below_alloc | apply pw_below_drewN | apply below_drew1 | refine below_set ?_ GE103.out) | exact HB.out)) hb); have n2_ := Aside0.mk (hbox); have n3_ := Aside0.mk ((by rw [hg]; exact (below_size (by repeat (first | (with_reducible first | exact HB.out | apply below_alloc | apply pw_below_drewN | apply below_drew1 | refine below_set ?_ GE103.out) | exact HB.out))) : w.heap.size ≤ gb106)); have n4_ := Aside0.mk ((by rw [hg]; exact (below_size (by repeat (first | (with_reducible first | exact HB.out | apply below_alloc | apply pw_below_drewN | apply below_drew1 | refine below_set ?_ GE103.out) | exact HB.out))) : w.heap.size ≤ gb106)); have n5_ := Aside0.mk ((by rw [hg]; exact Nat.ne_of_lt (blk_lt (g := gb103) (o := .cells #[.int .i64 a0_0, .int .i64 a0_1, .slice (some ad104) l0_2.length c0_2] 25 (0, 0)) (by (with_reducible repeat (first | refine blk_drewN ?_ _ | refine blk_drew ?_ | refine blk_alloc ?_ _)); exact BK103.out)) : gb103 ≠ gb106)); have n6_ := Aside0.mk ((by rw [hg]; exact Nat.ne_of_gt (blk_lt (g := gb103) (o := .cells #[.int .i64 a0_0, .int .i64 a0_1, .slice (some ad104) l0_2.length c0_2] 25 (0, 0)) (by (with_reducible repeat (first | refine blk_drewN ?_ _ | refine blk_drew ?_ | refine blk_alloc ?_ _)); exact BK103.out)) : gb106 ≠ gb103)); clear BK103; clear HB; have BK103 := n0_; have HB := n1_; have BK106 := n2_; have GW106 := n3_; have GE106 := n4_; have NB103_106 := n5_; have NB106_103 := n6_; clear n0_ n1_ n2_ n3_ n4_ n5_ n6_; clear hb hbox hg; have hnb29 := NB106_103.out; have hnc29 := NB103_106.out; have hcz30_0 : w28.cell? ⟨gb106, 0, none⟩ = some (.int .i64 0) := (blk_cell BK106.out 0).trans rfl; have hcz30_1 : w28.cell? ⟨gb106, 1, none⟩ = some (.int .i64 0) := (blk_cell BK106.out 1).trans rfl; have hfz30_0 := blk_frozen BK106.out 0; have hfz30_1 := blk_frozen BK106.out 1)); go_upto_region 13 with (first | ((with_reducible refine gate_dst (N := 6) rfl ?_); (try (refine gate_guard (by rfl) ?_; dsimp only)); refine box_event ?hg (N := 6) ?hd (cs := #[.int .i64 0, .int .i64 0]) (t := 77) ?hr ?_; (case hd => rfl); (case hg => rfl); (case hr => first | (go_simp; done) | (go_simp; rfl)); intro gb106 hg w28 hbox hb; have n0_ := Aside0.mk (blk_below (g := gb103) (o := .cells #[.int .i64 a0_0, .int .i64 a0_1, .slice (some ad104) l0_2.length c0_2] 25 (0, 0)) (by (with_reducible repeat (first | refine blk_drewN ?_ _ | refine blk_drew ?_ | refine blk_alloc ?_ _)); exact BK103.out) hb); have n1_ := Aside0.mk (below_step (by repeat (first | (with_reducible first | exact HB.out | apply below_alloc | apply pw_below_drewN | apply below_drew1 | refine below_set ?_ GE103.out) | exact HB.out)) hb); have n2_ := Aside0.mk (hbox); have n3_ := Aside0.mk ((by rw [hg]; exact (below_size (by repeat (first | (with_reducible first | exact HB.out | apply below_alloc | apply pw_below_drewN | apply below_drew1 | refine below_set ?_ GE103.out) | exact HB.out))) : w.heap.size ≤ gb106)); have n4_ := Aside0.mk ((by rw [hg]; exact (below_size (by repeat (first | (with_reducible first | exact HB.out | apply below_alloc | apply pw_below_drewN | apply below_drew1 | refine below_set ?_ GE103.out) | exact HB.out))) : w.heap.size ≤ gb106)); have n5_ := Aside0.mk ((by rw [hg]; exact Nat.ne_of_lt (blk_lt (g := gb103) (o := .cells #[.int .i64 a0_0, .int .i64 a0_1, .slice (some ad104) l0_2.length c0_2] 25 (0, 0)) (by (with_reducible repeat (first | refine blk_drewN ?_ _ | refine blk_drew ?_ | refine blk_alloc ?_ _)); exact BK103.out)) : gb103 ≠ gb106)); have n6_ := Aside0.mk ((by rw [hg]; exact Nat.ne_of_gt (blk_lt (g := gb103) (o := .cells #[.int .i64 a0_0, .int .i64 a0_1, .slice (some ad104) l0_2.length c0_2] 25 (0, 0)) (by (with_reducible repeat (first | refine blk_drewN ?_ _ | refine blk_drew ?_ | refine blk_alloc ?_ _)); exact BK103.out)) : gb106 ≠ gb103)); clear BK103; clear HB; have BK103 := n0_; have HB := n1_; have BK106 := n2_; have GW106 := n3_; have GE106 := n4_; have NB103_106 := n5_; have NB106_103 := n6_; clear n0_ n1_ n2_ n3_ n4_ n5_ n6_; clear hb hbox hg; have hnb29 := NB106_103.out; have hnc29 := NB103_106.out; have hcz30_0 : w28.cell? ⟨gb106, 0, none⟩ = some (.int .i64 0) := (blk_cell BK106.out 0).trans rfl; have hcz30_1 : w28.cell? ⟨gb106, 1, none⟩ = some (.int .i64 0) := (blk_cell BK106.out 1).trans rfl; have hfz30_0 := blk_frozen BK106.out 0; have hfz30_1 := blk_frozen BK106.out 1)))
                                  (try simp only [Act.put, List.setIfInBounds_toArray, List.set_cons_zero, List.set_cons_succ])
                                  go_cut [64] (fun v64 wc => ∃ (kq : Nat) (x64_26 : Bool), v64 = .bool x64_26 ∧ Aside0 (learn_Check.j3 kq l0_2 (l0_2.length : Int) x38_2 (rd_L2 l0_2 x38_2) ((rd_L2 l0_2 x38_2).length : Int) x50_3 x64_26 a0_0 a0_1 l0_2 ((rd_T77 (rd_L2 l0_2 x38_2) x50_3).f0) ((rd_T77 (rd_L2 l0_2 x38_2) x50_3).f1) = some r) ∧ Aside0 (kq ≤ k3) ∧ Aside0 (wc.heap[gb103]? = some (.cells #[.int .i64 a0_0, .int .i64 a0_1, (.slice (some ad104) l0_2.length c0_2)] 25 (0, 0))) ∧ Aside0 (wc.heap[gb106]? = some (.cells #[.int .i64 ((rd_T77 (rd_L2 l0_2 x38_2) x50_3).f0), .int .i64 ((rd_T77 (rd_L2 l0_2 x38_2) x50_3).f1)] 77 (0, 0))) ∧ Aside0 (Below w.heap.size w wc))
                                  case first =>
                                    have H := HC27.out
                                    clear HC27
                                    by_cases c31 : ((rd_T77 (rd_L2 l0_2 x38_2) x50_3).f0) < 0
                                    · rw [if_pos c31] at H
                                      have c31b0 : decide (((rd_T77 (rd_L2 l0_2 x38_2) x50_3).f0) < 0) = true := decide_eq_true c31
                                      clear c31
                                      (first | rw [c31b0] | (simp only [i64_w, i32_w]; rw [c31b0]) | skip)
                                      have H' := Aside0.mk H
                                      clear H
                                      have hnb32 := NB106_103.out
                                      have hnc32 := NB103_106.out
                                      have hcz33_0 : w28.cell? ⟨gb106, 0, none⟩ = some (.int .i64 0) := (blk_cell BK106.out 0).trans rfl
                                      have hcz33_1 : w28.cell? ⟨gb106, 1, none⟩ = some (.int .i64 0) := (blk_cell BK106.out 1).trans rfl
                                      have hfz33_0 := blk_frozen BK106.out 0
                                      have hfz33_1 := blk_frozen BK106.out 1
                                      go_wp2
                                      repeat (go_quiet (fail); try go_wp2)
                                      go_meet
                                      case rel => exact ⟨_, (true), (by first | rfl | (simp; done) | (simp [*]; done)), H', ⟨by have := HJ1.out; have := HK2.out; have := HK3.out; first | omega | exact Nat.le_refl _⟩, ⟨by (with_reducible repeat (first | refine blk_drewN ?_ _ | refine blk_drew ?_ | refine blk_alloc ?_ _)); refine blk_far ?_ NB103_106.out _; (with_reducible repeat (first | refine blk_drewN ?_ _ | refine blk_drew ?_ | refine blk_alloc ?_ _)); refine blk_far ?_ NB103_106.out _; (with_reducible repeat (first | refine blk_drewN ?_ _ | refine blk_drew ?_ | refine blk_alloc ?_ _)); exact BK103.out⟩, ⟨by (with_reducible repeat (first | refine blk_drewN ?_ _ | refine blk_drew ?_ | refine blk_alloc ?_ _)); refine blk_put (cs := #[.int .i64 ((rd_T77 (rd_L2 l0_2 x38_2) x50_3).f0), .int .i64 0]) ?_ 1 _ rfl; (with_reducible repeat (first | refine blk_drewN ?_ _ | refine blk_drew ?_ | refine blk_alloc ?_ _)); refine blk_put (cs := #[.int .i64 0, .int .i64 0]) ?_ 0 _ rfl; (with_reducible repeat (first | refine blk_drewN ?_ _ | refine blk_drew ?_ | refine blk_alloc ?_ _)); exact BK106.out⟩, ⟨by repeat (first | (with_reducible first | exact HB.out | apply below_alloc | apply pw_below_drewN | apply below_drew1 | refine below_set ?_ GE103.out | refine below_set ?_ GE106.out) | exact HB.out)⟩⟩
                                    · rw [if_neg c31] at H
                                      have c31b0 : decide (((rd_T77 (rd_L2 l0_2 x38_2) x50_3).f0) < 0) = false := decide_eq_false c31
                                      clear c31
                                      (first | rw [c31b0] | (simp only [i64_w, i32_w]; rw [c31b0]) | skip)
                                      by_cases c34 : 0 ≤ a0_1
                                      · rw [if_pos c34] at H
                                        have c34b0 := eq_true c34
                                        have c34b1 : decide (0 ≤ a0_1) = true := decide_eq_true c34
                                        clear c34
                                        obtain ⟨ji35, hji35⟩ : ∃ j_ : Int, (shl .i64 1 a0_1) = j_ := ⟨_, rfl⟩
                                        replace H : (learn_Check.j3 k3 l0_2 (l0_2.length : Int) x38_2 (rd_L2 l0_2 x38_2) ((rd_L2 l0_2 x38_2).length : Int) x50_3 (decide (((rd_T77 (rd_L2 l0_2 x38_2) x50_3).f0) ≥ (ji35))) a0_0 a0_1 l0_2 ((rd_T77 (rd_L2 l0_2 x38_2) x50_3).f0) ((rd_T77 (rd_L2 l0_2 x38_2) x50_3).f1)) = some r := by first | (rw [hji35] at H; exact H) | (simp only [hji35] at H ⊢; exact H)
                                        have hji35_ : (IntKind.i64.wrap (1 * 2 ^ min a0_1.toNat 64)) = ji35 := hji35
                                        have hji35z : a0_1 ≤ 64 → (IntKind.i64.wrap (1 * 2 ^ a0_1.toNat)) = ji35 := shl_small hji35
                                        have hji35u : (IntKind.i64.wrap (2 ^ min a0_1.toNat 64)) = ji35 := by have h_ := hji35_; rw [Int.one_mul] at h_; exact h_
                                        have hji35v : a0_1 ≤ 64 → (IntKind.i64.wrap (2 ^ a0_1.toNat)) = ji35 := fun hle_ => by have h_ := hji35z hle_; rw [Int.one_mul] at h_; exact h_
                                        have hji35y : (wrap64 (1 * 2 ^ min a0_1.toNat 64)) = ji35 := (i64_w _).symm.trans hji35_
                                        have hji35x : a0_1 ≤ 64 → (wrap64 (1 * 2 ^ a0_1.toNat)) = ji35 := fun h_ => (i64_w _).symm.trans (hji35z h_)
                                        have H' := Aside0.mk H
                                        clear H
                                        have hnb36 := NB106_103.out
                                        have hnc36 := NB103_106.out
                                        have hcz37_0 : w28.cell? ⟨gb106, 0, none⟩ = some (.int .i64 0) := (blk_cell BK106.out 0).trans rfl
                                        have hcz37_1 : w28.cell? ⟨gb106, 1, none⟩ = some (.int .i64 0) := (blk_cell BK106.out 1).trans rfl
                                        have hfz37_0 := blk_frozen BK106.out 0
                                        have hfz37_1 := blk_frozen BK106.out 1
                                        have hcz38_0 : w28.cell? ⟨gb103, 0, none⟩ = some (.int .i64 a0_0) := (blk_cell BK103.out 0).trans rfl
                                        have hcz38_1 : w28.cell? ⟨gb103, 1, none⟩ = some (.int .i64 a0_1) := (blk_cell BK103.out 1).trans rfl
                                        have hcz38_2 : w28.cell? ⟨gb103, 2, none⟩ = some (.slice (some ad104) l0_2.length c0_2) := (blk_cell BK103.out 2).trans rfl
                                        have hfz38_0 := blk_frozen BK103.out 0
                                        have hfz38_1 := blk_frozen BK103.out 1
                                        have hfz38_2 := blk_frozen BK103.out 2
                                        go_wp2
                                        repeat (go_quiet (fail); try go_wp2)
                                        go_meet
                                        case rel => exact ⟨_, (decide (((rd_T77 (rd_L2 l0_2 x38_2) x50_3).f0) ≥ (ji35))), (by first | rfl | (simp; done) | (simp only [← hji35] <;> (first | rfl | simp)) | (simp [*]; done)), H', ⟨by have := HJ1.out; have := HK2.out; have := HK3.out; first | omega | exact Nat.le_refl _⟩, ⟨by (with_reducible repeat (first | refine blk_drewN ?_ _ | refine blk_drew ?_ | refine blk_alloc ?_ _)); refine blk_far ?_ NB103_106.out _; (with_reducible repeat (first | refine blk_drewN ?_ _ | refine blk_drew ?_ | refine blk_alloc ?_ _)); refine blk_far ?_ NB103_106.out _; (with_reducible repeat (first | refine blk_drewN ?_ _ | refine blk_drew ?_ | refine blk_alloc ?_ _)); exact BK103.out⟩, ⟨by (with_reducible repeat (first | refine blk_drewN ?_ _ | refine blk_drew ?_ | refine blk_alloc ?_ _)); refine blk_put (cs := #[.int .i64 ((rd_T77 (rd_L2 l0_2 x38_2) x50_3).f0), .int .i64 0]) ?_ 1 _ rfl; (with_reducible repeat (first | refine blk_drewN ?_ _ | refine blk_drew ?_ | refine blk_alloc ?_ _)); refine blk_put (cs := #[.int .i64 0, .int .i64 0]) ?_ 0 _ rfl; (with_reducible repeat (first | refine blk_drewN ?_ _ | refine blk_drew ?_ | refine blk_alloc ?_ _)); exact BK106.out⟩, ⟨by repeat (first | (with_reducible first | exact HB.out | apply below_alloc | apply pw_below_drewN | apply below_drew1 | refine below_set ?_ GE103.out | refine below_set ?_ GE106.out) | exact HB.out)⟩⟩
                                      · rw [if_neg c34] at H
                                        exact absurd H (by simp)
                                  case rest =>
                                    clear HC27
                                    try clear c1
                                    try clear p1
                                    try clear q1
                                    try clear hx1
                                    try clear c2
                                    try clear p2
                                    try clear c3
                                    try clear c4
                                    try clear c4b0
                                    try clear c6
                                    try clear c6b0
                                    try clear p6
                                    try clear c8
                                    try clear c8b0
                                    try clear c10
                                    try clear c10b0
                                    try clear p10
                                    try clear q10
                                    try clear hx10
                                    try clear c13
                                    try clear c14
                                    try clear c14b0
                                    try clear c14b1
                                    try clear c14b2
                                    try clear c17
                                    try clear c17b0
                                    try clear c18
                                    try clear c18b0
                                    try clear c19
                                    try clear c19b0
                                    try clear c20
                                    try clear c20b0
                                    try clear c20b1
                                    try clear c22
                                    try clear c22b0
                                    try clear c22b1
                                    try clear c24
                                    try clear c24b0
                                    try clear c25
                                    try clear c25b0
                                    try clear c26
                                    try clear c26b0
                                    try clear c29
                                    try clear c31
                                    try clear c31b0
                                    try clear c32
                                    try clear c34
                                    try clear c34b0
                                    try clear c34b1
                                    try clear c36
                                    try clear hcz11_0
                                    try clear hcz11_1
                                    try clear hcz11_2
                                    try clear hcz12_0
                                    try clear hcz12_1
                                    try clear hcz12_2
                                    try clear hcz15_0
                                    try clear hcz15_1
                                    try clear hcz15_2
                                    try clear hcz16_0
                                    try clear hcz16_1
                                    try clear hcz16_2
                                    try clear hcz23_0
                                    try clear hcz23_1
                                    try clear hcz23_2
                                    try clear hcz30_0
                                    try clear hcz30_1
                                    try clear hcz33_0
                                    try clear hcz33_1
                                    try clear hcz37_0
                                    try clear hcz37_1
                                    try clear hcz38_0
                                    try clear hcz38_1
                                    try clear hcz38_2
                                    try clear hcz5_0
                                    try clear hcz5_1
                                    try clear hcz5_2
                                    try clear hcz7_0
                                    try clear hcz7_1
                                    try clear hcz7_2
                                    try clear hcz9_0
                                    try clear hcz9_1
                                    try clear hcz9_2
                                    try clear hfz11_0
                                    try clear hfz11_1
                                    try clear hfz11_2
                                    try clear hfz12_0
                                    try clear hfz12_1
                                    try clear hfz12_2
                                    try clear hfz15_0
                                    try clear hfz15_1
                                    try clear hfz15_2
                                    try clear hfz16_0
                                    try clear hfz16_1
                                    try clear hfz16_2
                                    try clear hfz23_0
                                    try clear hfz23_1
                                    try clear hfz23_2
                                    try clear hfz30_0
                                    try clear hfz30_1
                                    try clear hfz33_0
                                    try clear hfz33_1
                                    try clear hfz37_0
                                    try clear hfz37_1
                                    try clear hfz38_0
                                    try clear hfz38_1
                                    try clear hfz38_2
                                    try clear hfz5_0
                                    try clear hfz5_1
                                    try clear hfz5_2
                                    try clear hfz7_0
                                    try clear hfz7_1
                                    try clear hfz7_2
                                    try clear hfz9_0
                                    try clear hfz9_1
                                    try clear hfz9_2
                                    try clear hx104_0
                                    try clear hx105_0
                                    try clear hx105_1
                                    try clear p1
                                    try clear p10
                                    try clear p104
                                    try clear p105
                                    try clear p2
                                    try clear p6
                                    try clear q1
                                    try clear q10
                                    try clear q104
                                    try clear q105
                                    obtain ⟨kq, x64_26, rfl, HA, HJ26, BK103, BK106, HB⟩ := hcut
                                    cases kq with
                                    | zero => exact absurd HA.out (by simp [learn_Check.j3])
                                    | succ kj26 =>
                                      have H := HA.out
                                      clear HA
                                      simp only [learn_Check.j3] at H
                                      by_cases c39 : x64_26 = true
                                      · subst c39
                                        have H1 : (some 1) = some r := by rw [if_pos rfl] at H; exact H
                                        clear H
                                        have H := H1
                                        clear H1
                                        obtain rfl := Option.some.inj H
                                        go_wp2
                                        repeat (go_quiet (fail); try go_wp2)
                                        go_ret
                                        exact ⟨by first | rfl | (simp [errW_none, errW_some] <;> rfl) | (simp only [← hji21]; first | rfl | (simp [errW_none, errW_some] <;> rfl)) | (simp [*, errW_none, errW_some] <;> rfl), by repeat (first | (with_reducible first | exact HB.out | apply below_alloc | apply pw_below_drewN | apply below_drew1 | refine below_set ?_ GE103.out | refine below_set ?_ GE106.out) | exact HB.out)⟩
                                      · replace c39 := Bool.eq_false_iff.mpr c39
                                        subst c39
                                        have H1 : (if ((rd_T77 (rd_L2 l0_2 x38_2) x50_3).f1) < 0 then (some 4) else (if ((rd_T77 (rd_L2 l0_2 x38_2) x50_3).f1) ≥ (l0_2.length : Int) then (some 4) else (learn_Check.l1 kj26 l0_2 (l0_2.length : Int) x38_2 (rd_L2 l0_2 x38_2) ((rd_L2 l0_2 x38_2).length : Int) (wrap64 (x50_3 + 1)) a0_0 a0_1 l0_2))) = some r := by rw [if_neg (show ¬ (false = true) by decide)] at H; exact H
                                        clear H
                                        have H := H1
                                        clear H1
                                        by_cases c40 : ((rd_T77 (rd_L2 l0_2 x38_2) x50_3).f1) < 0
                                        · rw [if_pos c40] at H
                                          have c40b0 : decide (((rd_T77 (rd_L2 l0_2 x38_2) x50_3).f1) < 0) = true := decide_eq_true c40
                                          clear c40
                                          obtain rfl := Option.some.inj H
                                          have hnb41 := NB106_103.out
                                          have hnc41 := NB103_106.out
                                          have hcz42_0 : wc.cell? ⟨gb106, 0, none⟩ = some (.int .i64 ((rd_T77 (rd_L2 l0_2 x38_2) x50_3).f0)) := (blk_cell BK106.out 0).trans rfl
                                          have hcz42_1 : wc.cell? ⟨gb106, 1, none⟩ = some (.int .i64 ((rd_T77 (rd_L2 l0_2 x38_2) x50_3).f1)) := (blk_cell BK106.out 1).trans rfl
                                          have hfz42_0 := blk_frozen BK106.out 0
                                          have hfz42_1 := blk_frozen BK106.out 1
                                          go_wp2
                                          repeat (go_quiet (fail); try go_wp2)
                                          go_ret
                                          exact ⟨by first | rfl | (simp [errW_none, errW_some] <;> rfl) | (simp only [← hji21]; first | rfl | (simp [errW_none, errW_some] <;> rfl)) | (simp [*, errW_none, errW_some] <;> rfl), by repeat (first | (with_reducible first | exact HB.out | apply below_alloc | apply pw_below_drewN | apply below_drew1 | refine below_set ?_ GE103.out | refine below_set ?_ GE106.out) | exact HB.out)⟩
                                        · rw [if_neg c40] at H
                                          have c40b0 : decide (((rd_T77 (rd_L2 l0_2 x38_2) x50_3).f1) < 0) = false := decide_eq_false c40
                                          clear c40
                                          by_cases c43 : ((rd_T77 (rd_L2 l0_2 x38_2) x50_3).f1) ≥ (l0_2.length : Int)
                                          · rw [if_pos c43] at H
                                            have c43b0 : decide ((l0_2.length : Int) ≤ ((rd_T77 (rd_L2 l0_2 x38_2) x50_3).f1)) = true := decide_eq_true c43
                                            clear c43
                                            obtain rfl := Option.some.inj H
                                            have hnb44 := NB106_103.out
                                            have hnc44 := NB103_106.out
                                            have hcz45_0 : wc.cell? ⟨gb106, 0, none⟩ = some (.int .i64 ((rd_T77 (rd_L2 l0_2 x38_2) x50_3).f0)) := (blk_cell BK106.out 0).trans rfl
                                            have hcz45_1 : wc.cell? ⟨gb106, 1, none⟩ = some (.int .i64 ((rd_T77 (rd_L2 l0_2 x38_2) x50_3).f1)) := (blk_cell BK106.out 1).trans rfl
                                            have hfz45_0 := blk_frozen BK106.out 0
                                            have hfz45_1 := blk_frozen BK106.out 1
                                            have hcz46_0 : wc.cell? ⟨gb103, 0, none⟩ = some (.int .i64 a0_0) := (blk_cell BK103.out 0).trans rfl
                                            have hcz46_1 : wc.cell? ⟨gb103, 1, none⟩ = some (.int .i64 a0_1) := (blk_cell BK103.out 1).trans rfl
                                            have hcz46_2 : wc.cell? ⟨gb103, 2, none⟩ = some (.slice (some ad104) l0_2.length c0_2) := (blk_cell BK103.out 2).trans rfl
                                            have hfz46_0 := blk_frozen BK103.out 0
                                            have hfz46_1 := blk_frozen BK103.out 1
                                            have hfz46_2 := blk_frozen BK103.out 2
                                            go_wp2
                                            repeat (go_quiet (fail); try go_wp2)
                                            go_ret
                                            exact ⟨by first | rfl | (simp [errW_none, errW_some] <;> rfl) | (simp only [← hji21]; first | rfl | (simp [errW_none, errW_some] <;> rfl)) | (simp [*, errW_none, errW_some] <;> rfl), by repeat (first | (with_reducible first | exact HB.out | apply below_alloc | apply pw_below_drewN | apply below_drew1 | refine below_set ?_ GE103.out | refine below_set ?_ GE106.out) | exact HB.out)⟩
                                          · rw [if_neg c43] at H
                                            have c43b0 : decide ((l0_2.length : Int) ≤ ((rd_T77 (rd_L2 l0_2 x38_2) x50_3).f1)) = false := decide_eq_false c43
                                            clear c43
                                            have H' := Aside0.mk H
                                            clear H
                                            have hnb47 := NB106_103.out
                                            have hnc47 := NB103_106.out
                                            have hcz48_0 : wc.cell? ⟨gb106, 0, none⟩ = some (.int .i64 ((rd_T77 (rd_L2 l0_2 x38_2) x50_3).f0)) := (blk_cell BK106.out 0).trans rfl
                                            have hcz48_1 : wc.cell? ⟨gb106, 1, none⟩ = some (.int .i64 ((rd_T77 (rd_L2 l0_2 x38_2) x50_3).f1)) := (blk_cell BK106.out 1).trans rfl
                                            have hfz48_0 := blk_frozen BK106.out 0
                                            have hfz48_1 := blk_frozen BK106.out 1
                                            have hcz49_0 : wc.cell? ⟨gb103, 0, none⟩ = some (.int .i64 a0_0) := (blk_cell BK103.out 0).trans rfl
                                            have hcz49_1 : wc.cell? ⟨gb103, 1, none⟩ = some (.int .i64 a0_1) := (blk_cell BK103.out 1).trans rfl
                                            have hcz49_2 : wc.cell? ⟨gb103, 2, none⟩ = some (.slice (some ad104) l0_2.length c0_2) := (blk_cell BK103.out 2).trans rfl
                                            have hfz49_0 := blk_frozen BK103.out 0
                                            have hfz49_1 := blk_frozen BK103.out 1
                                            have hfz49_2 := blk_frozen BK103.out 2
                                            go_wp2
                                            repeat (go_quiet (fail); try go_wp2)
                                            go_roundg kj26
                                            case measure => have := HJ1.out; have := HK2.out; have := HK3.out; have := HJ26.out; omega
                                            case rel => exact ⟨(wrap64 (x50_3 + 1)), (by first | rfl | (simp; done) | (simp [*]; done)), H', ⟨by have := HJ1.out; have := HK2.out; have := HK3.out; have := HJ26.out; omega⟩, ⟨by (with_reducible repeat (first | refine blk_drewN ?_ _ | refine blk_drew ?_ | refine blk_alloc ?_ _)); exact BK103.out⟩, ⟨by repeat (first | (with_reducible first | exact HB.out | apply below_alloc | apply pw_below_drewN | apply below_drew1 | refine below_set ?_ GE103.out | refine below_set ?_ GE106.out) | exact HB.out)⟩⟩
                                · rw [if_neg c26] at H
                                  exact absurd H (by simp)
                              · rw [if_neg c25] at H
                                exact absurd H (by simp)
                            · rw [if_neg c24] at H
                              have c24b0 : decide (x50_3 < ((rd_L2 l0_2 x38_2).length : Int)) = false := decide_eq_false c24
                              clear c24
                              have H' := Aside0.mk H
                              clear H
                              go_wp2
                              repeat (go_quiet (fail); try go_wp2)
                              go_roundg k3
                              case measure => have := HJ1.out; have := HK2.out; have := HK3.out; omega
                              case rel => exact ⟨(wrap64 (x38_2 + 1)), (by first | rfl | (simp; done) | (simp [*]; done)), H', ⟨by have := HJ1.out; have := HK2.out; have := HK3.out; omega⟩, ⟨by (with_reducible repeat (first | refine blk_drewN ?_ _ | refine blk_drew ?_ | refine blk_alloc ?_ _)); exact BK103.out⟩, ⟨by repeat (first | (with_reducible first | exact HB.out | apply below_alloc | apply pw_below_drewN | apply below_drew1 | refine below_set ?_ GE103.out) | exact HB.out)⟩⟩
                      · rw [if_neg c22] at H
                        have c22b0 : (((rd_L2 l0_2 x38_2).length : Int) == (ji21)) = false := beq_eq_false_iff_ne.mpr c22
                        have c22b1 : (((rd_L2 l0_2 x38_2).length : Int) != (ji21)) = true := bne_iff_ne.mpr c22
                        obtain rfl := Option.some.inj H
                        have p104 : 0 ≤ (x38_2 : Int) := of_decide_eq_true (by first | (with_reducible assumption) | assumption)
                        have q104 : x38_2 < (l0_2.length : Int) := of_decide_eq_true (by first | (with_reducible assumption) | assumption)
                        obtain ⟨ad104, A104_0, c104_0, e104, hx104_0, hl104_0, hi104_0⟩ := at_L2 HR0_2.out x38_2 p104 q104
                        cases e104
                        replace hx104_0 := (HB.out.cell (World.block_lt_of_cell? w _ hx104_0)).trans hx104_0
                        have HR104_0 := Aside0.mk hi104_0
                        have HC104_0 := Aside0.mk hl104_0
                        clear hi104_0 hl104_0
                        replace p104 := eq_true p104
                        replace q104 := eq_true q104
                        have hcz50_0 : wr.cell? ⟨gb103, 0, none⟩ = some (.int .i64 a0_0) := (blk_cell BK103.out 0).trans rfl
                        have hcz50_1 : wr.cell? ⟨gb103, 1, none⟩ = some (.int .i64 a0_1) := (blk_cell BK103.out 1).trans rfl
                        have hcz50_2 : wr.cell? ⟨gb103, 2, none⟩ = some (.slice (some ad104) l0_2.length c0_2) := (blk_cell BK103.out 2).trans rfl
                        have hfz50_0 := blk_frozen BK103.out 0
                        have hfz50_1 := blk_frozen BK103.out 1
                        have hfz50_2 := blk_frozen BK103.out 2
                        go_wp2
                        repeat (go_quiet (fail); try go_wp2)
                        go_ret
                        exact ⟨by first | rfl | (simp [errW_none, errW_some] <;> rfl) | (simp only [← hji21]; first | rfl | (simp [errW_none, errW_some] <;> rfl)) | (simp [*, errW_none, errW_some] <;> rfl), by repeat (first | (with_reducible first | exact HB.out | apply below_alloc | apply pw_below_drewN | apply below_drew1 | refine below_set ?_ GE103.out) | exact HB.out)⟩
                    · rw [if_neg c20] at H
                      exact absurd H (by simp)
                  · rw [if_neg c19] at H
                    exact absurd H (by simp)
                · rw [if_neg c18] at H
                  exact absurd H (by simp)
              · rw [if_neg c17] at H
                have c17b0 : decide (x38_2 < (l0_2.length : Int)) = false := decide_eq_false c17
                clear c17
                obtain rfl := Option.some.inj H
                go_wp2
                repeat (go_quiet (fail); try go_wp2)
                go_ret
                exact ⟨by first | rfl | (simp [errW_none, errW_some] <;> rfl) | (simp [*, errW_none, errW_some] <;> rfl), by repeat (first | (with_reducible first | exact HB.out | apply below_alloc | apply pw_below_drewN | apply below_drew1 | refine below_set ?_ GE103.out) | exact HB.out)⟩

end Go.Proofs.Ytaalafnkglbcpaa.PL
end

/- own text -/
section
namespace Go.Proofs.Ytaalafnkglbcpaa.PL
open Go.RowKit Go.Proofs.YtaalafnkglbcpaaW.PrintWords Go.Proofs.YtaalafnkglbcpaaW.PrintLast Go.Proofs.YtaalafnkglbcpaaW.PrintMore
attribute [local go_sem] max2_int min2_int max_two min_two max_three min_three max_four min_four   -- for this text's walks alone
set_option linter.unusedVariables false
set_option linter.unusedSimpArgs false

/-! ### learn_Run: function 14 -/
def learn_Run.l0 : Nat → List Int → Int → List Int → Int → Int → Int → Int → List (List (S77)) → Option (List Int × Int)
  | 0, _, _, _, _, _, _, _, _ => none
  | k + 1, x7, x8, x17, x18, x19, x113000, x113001, x113002 => if x19 < x18 then (if 0 ≤ x19 then (if x19 < (x17.length : Int) then (if (rd x17 x19) < 0 then (some (([] : List Int), 1)) else (if 0 ≤ x113000 then (if (rd x17 x19) ≥ (shl .i64 1 x113000) then (some (([] : List Int), 1)) else (if 0 ≤ x8 then (if x8 < (x113002.length : Int) then (if 0 ≤ (rd x17 x19) then (if (rd x17 x19) < ((rd_L2 x113002 x8).length : Int) then (if x7.length < 17592186044416 then (learn_Run.l0 k (x7 ++ [(rd_T77 (rd_L2 x113002 x8) (rd x17 x19)).f0]) ((rd_T77 (rd_L2 x113002 x8) (rd x17 x19)).f1) x17 x18 (wrap64 (x19 + 1)) x113000 x113001 x113002) else (none)) else (none)) else (none)) else (none)) else (none))) else (none))) else (none)) else (none)) else (some (x7, 0))
def learn_Run.f (k : Nat) (a0_0 : Int) (a0_1 : Int) (l0_2 : List (List (S77))) (l1 : List Int) : Option (List Int × Int) := (learn_Check.f k a0_0 a0_1 l0_2).bind fun t113 => (if t113 = 0 then (learn_Run.l0 k ([] : List Int) 0 l1 (l1.length : Int) 0 a0_0 a0_1 l0_2) else (some (([] : List Int), t113)))
theorem learn_Run.mono_l : ∀ k, (∀ y0 y1 y2 y3 y4 y5 y6 y7, LeO (learn_Run.l0 k y0 y1 y2 y3 y4 y5 y6 y7) (learn_Run.l0 (k + 1) y0 y1 y2 y3 y4 y5 y6 y7))
  | 0 => fun _ _ _ _ _ _ _ _ r h => by simp [learn_Run.l0] at h
  | k + 1 => by
    have ih0 := learn_Run.mono_l k
    · intro y0 y1 y2 y3 y4 y5 y6 y7
      unfold learn_Run.l0
      repeat' first
      | (with_reducible exact ih0 _ _ _ _ _ _ _ _)
      | (with_reducible exact learn_Check.mono _ _ _ _)
      | (with_reducible exact LeO.refl _)
      | (with_reducible exact LeO.none _)
      | (with_reducible refine LeO.ite ?_ ?_)
      | (with_reducible refine LeO.bind ?_ (fun _ => ?_))
      | exact ih0 _ _ _ _ _ _ _ _
      | exact learn_Check.mono _ _ _ _
      | exact LeO.none _
      | refine LeO.ite ?_ ?_
      | refine LeO.bind ?_ (fun _ => ?_)
theorem learn_Run.mono : ∀ a0 a1 a2 a3 k, LeO (learn_Run.f k a0 a1 a2 a3) (learn_Run.f (k + 1) a0 a1 a2 a3) := by
  intro a0 a1 a2 a3 k
  have ih0 := learn_Run.mono_l k
  unfold learn_Run.f
  repeat' first
      | (with_reducible exact ih0 _ _ _ _ _ _ _ _)
      | (with_reducible exact learn_Check.mono _ _ _ _)
      | (with_reducible exact LeO.refl _)
      | (with_reducible exact LeO.none _)
      | (with_reducible refine LeO.ite ?_ ?_)
      | (with_reducible refine LeO.bind ?_ (fun _ => ?_))
      | exact ih0 _ _ _ _ _ _ _ _
      | exact learn_Check.mono _ _ _ _
      | exact LeO.none _
      | refine LeO.ite ?_ ?_
      | refine LeO.bind ?_ (fun _ => ?_)
def learn_Run.T12 : Bool × List (List Nat × List Nat) := (true, [([], []), ([], []), ([1], [1]), ([2], [2]), ([0, 3], [0, 3]), ([], []), ([5], [5]), ([4, 4, 0, 1, 2, 3, 4], [0, 4]), ([6, 7, 0, 1, 2, 3, 4, 5, 6, 7], [6])])
def learn_Run.B12 : List Nat := [0, 0, 2, 6, 15, 0, 32, 31, 255]
theorem learn_Run.tab12 : rtab .any (opsOf Try.f14 12) = learn_Run.T12 := by kernel_rfl
theorem learn_Run.bits12 : waitsOk learn_Run.T12.2 learn_Run.B12 = true := by kernel_rfl
set_option maxHeartbeats 8000000 in
set_option maxRecDepth 100000 in
theorem learn_Run.calls (k : Nat) (a0_0 : Int) (a0_1 : Int) (A0_2 : Option Addr) (c0_2 : Nat) (l0_2 : List (List (S77))) (A1 : Option Addr) (c1 : Nat) (l1 : List Int) (r1 : List Int) (r2 : Int) (w : World) (hr0_2 : Kd.C (Kd.slice 77 k77) w A0_2 l0_2.length l0_2) (hc0_2 : l0_2.length ≤ c0_2) (hr1 : Kd.C (Kd.int .i64) w A1 l1.length l1) (hc1 : l1.length ≤ c1) (h : learn_Run.f k a0_0 a0_1 l0_2 l1 = some (r1, r2)) :
    Calls Try.prog 14 #[.agg #[.int .i64 a0_0, .int .i64 a0_1, .slice A0_2 l0_2.length c0_2], .slice A1 l1.length c1] w fun e w' => ∃ v0_ : Value, e = .returned (.tuple #[v0_, .int .i64 r2]) ∧ Kd.R (Kd.int .i64) 3 w' w.heap.size (fun _ => True) v0_ r1 ∧ Below w.heap.size w w' := by
  have hu25 := Try.underlying25
  have hu77 := Try.underlying77
  have HR0_2 := Aside0.mk hr0_2
  have HC0_2 := Aside0.mk hc0_2
  clear hr0_2 hc0_2
  have HR1 := Aside0.mk hr1
  have HC1 := Aside0.mk hc1
  clear hr1 hc1
  have HB := Aside0.mk (Below.refl w.heap.size w)
  have H : ((learn_Check.f k a0_0 a0_1 l0_2).bind fun t113 => (if t113 = 0 then (learn_Run.l0 k ([] : List Int) 0 l1 (l1.length : Int) 0 a0_0 a0_1 l0_2) else (some (([] : List Int), t113)))) = some (r1, r2) := h
  clear h
  replace H := Option.bind_eq_some_iff.mp H
  obtain ⟨t113, A30, H⟩ := H
  replace H : (if t113 = 0 then (learn_Run.l0 k ([] : List Int) 0 l1 (l1.length : Int) 0 a0_0 a0_1 l0_2) else (some (([] : List Int), t113))) = some (r1, r2) := H
  have A3 := Aside0.mk A30
  clear A30
  by_cases c4 : t113 = 0
  · rw [if_pos c4] at H
    have c4b0 : (t113 == 0) = true := beq_iff_eq.mpr c4
    have c4b1 : (t113 != 0) = false := bne_eq_false_iff_eq.mpr c4
    clear c4
    have H' := Aside0.mk H
    clear H
    go_enter Try.func14, Try.ntmps14
    go_wp2_with (first | ((with_reducible refine gate_dst (N := 2) rfl ?_); refine box_event ?hg (N := 2) ?hd (cs := #[.int .i64 a0_0, .int .i64 a0_1, .slice A0_2 l0_2.length c0_2]) (t := 25) ?hr ?_; (case hd => rfl); (case hg => rfl); (case hr => first | (go_simp; done) | (go_simp; rfl)); intro gb112 hg w5 hbox hb; have n0_ := Aside0.mk (below_step (by repeat (first | (with_reducible first | exact HB.out | apply below_alloc | apply pw_below_drewN | apply below_drew1) | exact HB.out)) hb); have n1_ := Aside0.mk (hbox); have n2_ := Aside0.mk ((by rw [hg]; exact (below_size (by repeat (first | (with_reducible first | exact HB.out | apply below_alloc | apply pw_below_drewN | apply below_drew1) | exact HB.out))) : w.heap.size ≤ gb112)); have n3_ := Aside0.mk ((by rw [hg]; exact (below_size (by repeat (first | (with_reducible first | exact HB.out | apply below_alloc | apply pw_below_drewN | apply below_drew1) | exact HB.out))) : w.heap.size ≤ gb112)); clear HB; have HB := n0_; have BK112 := n1_; have GW112 := n2_; have GE112 := n3_; clear n0_ n1_ n2_ n3_; clear hb hbox hg; have hcz6_0 : w5.cell? ⟨gb112, 0, none⟩ = some (.int .i64 a0_0) := (blk_cell BK112.out 0).trans rfl; have hcz6_1 : w5.cell? ⟨gb112, 1, none⟩ = some (.int .i64 a0_1) := (blk_cell BK112.out 1).trans rfl; have hcz6_2 : w5.cell? ⟨gb112, 2, none⟩ = some (.slice A0_2 l0_2.length c0_2) := (blk_cell BK112.out 2).trans rfl; have hfz6_0 := blk_frozen BK112.out 0; have hfz6_1 := blk_frozen BK112.out 1; have hfz6_2 := blk_frozen BK112.out 2) | ((with_reducible refine gate_callee (f := 41) rfl ?_); refine goesL_ (some 13) rfl rfl Try.func41 (by kernel_rfl) rfl #[.agg #[.int .i64 a0_0, .int .i64 a0_1, .slice A0_2 l0_2.length c0_2]] rfl (by (try simp only [List.map_toArray, List.map_cons, List.map_nil]); first | done | rfl | (simp only [List.length_drop, List.length_take]; rfl)) ?_; (with_reducible refine (learn_Check.calls k a0_0 a0_1 _ _ l0_2 t113 _ ?side1 ?side2 A3.out).mono ?_); (case side1 => repeat (first | exact (Kd.C_below HR0_2.out HB.out) | (with_reducible refine Kd.C_alloc ?_ _) | (with_reducible refine Kd.C_drewN ?_ _) | (with_reducible refine Kd.C_drew ?_))); (case side2 => exact HC0_2.out); rintro e w7 ⟨rfl, hb⟩; refine ⟨_, rfl, ?_⟩; have n0_ := Aside0.mk (blk_below (g := gb112) (o := .cells #[.int .i64 a0_0, .int .i64 a0_1, .slice A0_2 l0_2.length c0_2] 25 (0, 0)) (by (with_reducible repeat (first | refine blk_drewN ?_ _ | refine blk_drew ?_ | refine blk_alloc ?_ _)); exact BK112.out) hb); have n1_ := Aside0.mk (below_step (by repeat (first | (with_reducible first | exact HB.out | apply below_alloc | apply pw_below_drewN | apply below_drew1 | refine below_set ?_ GE112.out) | exact HB.out)) hb); clear BK112; clear HB; have BK112 := n0_; have HB := n1_; clear n0_ n1_; (try clear hb); (try clear hb2); (try clear hk); (try clear hi)))
    go_loopg [7, 8, 19] k (fun kq v7 v8 v19 w' => ∃ (x7_1 : List Int) (x8_1 : Int) (x19_1 : Int), v8 = .int .i64 x8_1 ∧ v19 = .int .i64 x19_1 ∧ Aside0 (learn_Run.l0 kq x7_1 x8_1 l1 (l1.length : Int) x19_1 a0_0 a0_1 l0_2 = some (r1, r2)) ∧ Aside0 (kq ≤ k) ∧ Aside0 (Kd.R (Kd.int .i64) 3 w' w.heap.size (fun _ => True) v7 x7_1) ∧ Aside0 (w'.heap[gb112]? = some (.cells #[.int .i64 a0_0, .int .i64 a0_1, (.slice A0_2 l0_2.length c0_2)] 25 (0, 0))) ∧ Aside0 (Below w.heap.size w w'))
    case atStart => exact ⟨(([] : List Int)), (0), (0), (by first | rfl | (simp; done) | (simp [*]; done)), (by first | rfl | (simp; done) | (simp [*]; done)), H', ⟨Nat.le_refl _⟩, ⟨by first | exact Kd.R_nil _ _ _ _ _ | exact Kd.N_nil _ _ _ _ _ | exact Kd.V_nil _ _ _ _ _ | exact Kd.Q_nil _ _ _ _ _ | exact Kd.S_nil _ _ _ _ _⟩, ⟨by (with_reducible repeat (first | refine blk_drewN ?_ _ | refine blk_drew ?_ | refine blk_alloc ?_ _)); exact BK112.out⟩, ⟨by repeat (first | (with_reducible first | exact HB.out | apply below_alloc | apply pw_below_drewN | apply below_drew1 | refine below_set ?_ GE112.out) | exact HB.out)⟩⟩
    case round =>
      clear H'
      try clear c1
      try clear p2
      try clear c4
      try clear c4b0
      try clear c4b1
      try clear hcz6_0
      try clear hcz6_1
      try clear hcz6_2
      try clear hfz6_0
      try clear hfz6_1
      try clear hfz6_2
      obtain ⟨x7_1, x8_1, x19_1, rfl, rfl, HA, HK1, HO_7, BK112, HB⟩ := hrel
      cases gk with
      | zero => exact absurd HA.out (by simp [learn_Run.l0])
      | succ k1 =>
        have H := HA.out
        clear HA
        simp only [learn_Run.l0] at H
        by_cases c8 : x19_1 < (l1.length : Int)
        · rw [if_pos c8] at H
          have c8b0 : decide (x19_1 < (l1.length : Int)) = true := decide_eq_true c8
          clear c8
          by_cases c9 : 0 ≤ x19_1
          · rw [if_pos c9] at H
            have c9b0 : decide (0 ≤ x19_1) = true := decide_eq_true c9
            clear c9
            by_cases c10 : x19_1 < (l1.length : Int)
            · rw [if_pos c10] at H
              have c10b0 : decide (x19_1 < (l1.length : Int)) = true := decide_eq_true c10
              clear c10
              by_cases c11 : (rd l1 x19_1) < 0
              · rw [if_pos c11] at H
                have c11b0 : decide ((rd l1 x19_1) < 0) = true := decide_eq_true c11
                clear c11
                simp only [Option.some.injEq, Prod.mk.injEq] at H
                obtain ⟨rfl, rfl⟩ := H
                have p114 : 0 ≤ (x19_1 : Int) := of_decide_eq_true (by first | (with_reducible assumption) | assumption)
                have q114 : x19_1 < (l1.length : Int) := of_decide_eq_true (by first | (with_reducible assumption) | assumption)
                obtain ⟨ad114, e114, hx114_0⟩ := Kd.at_int HR1.out x19_1 p114 q114
                cases e114
                replace hx114_0 := (HB.out.cell (World.block_lt_of_cell? w _ hx114_0)).trans hx114_0
                replace p114 := eq_true p114
                replace q114 := eq_true q114
                go_wp2
                go_ret2
                exact ⟨_, by first | rfl | (simp [errW_none, errW_some] <;> rfl) | (simp [*, errW_none, errW_some] <;> rfl), by first | exact Kd.R_nil _ _ _ _ _ | exact Kd.N_nil _ _ _ _ _ | exact Kd.V_nil _ _ _ _ _ | exact Kd.Q_nil _ _ _ _ _ | exact Kd.S_nil _ _ _ _ _, by repeat (first | (with_reducible first | exact HB.out | apply below_alloc | apply pw_below_drewN | apply below_drew1 | refine below_set ?_ GE112.out) | exact HB.out)⟩
              · rw [if_neg c11] at H
                have c11b0 : decide ((rd l1 x19_1) < 0) = false := decide_eq_false c11
                clear c11
                by_cases c12 : 0 ≤ a0_0
                · rw [if_pos c12] at H
                  have c12b0 := eq_true c12
                  have c12b1 : decide (0 ≤ a0_0) = true := decide_eq_true c12
                  clear c12
                  obtain ⟨ji13, hji13⟩ : ∃ j_ : Int, (shl .i64 1 a0_0) = j_ := ⟨_, rfl⟩
                  replace H : (if (rd l1 x19_1) ≥ (ji13) then (some (([] : List Int), 1)) else (if 0 ≤ x8_1 then (if x8_1 < (l0_2.length : Int) then (if 0 ≤ (rd l1 x19_1) then (if (rd l1 x19_1) < ((rd_L2 l0_2 x8_1).length : Int) then (if x7_1.length < 17592186044416 then (learn_Run.l0 k1 (x7_1 ++ [(rd_T77 (rd_L2 l0_2 x8_1) (rd l1 x19_1)).f0]) ((rd_T77 (rd_L2 l0_2 x8_1) (rd l1 x19_1)).f1) l1 (l1.length : Int) (wrap64 (x19_1 + 1)) a0_0 a0_1 l0_2) else (none)) else (none)) else (none)) else (none)) else (none))) = some (r1, r2) := by first | (rw [hji13] at H; exact H) | (simp only [hji13] at H ⊢; exact H)
                  have hji13_ : (IntKind.i64.wrap (1 * 2 ^ min a0_0.toNat 64)) = ji13 := hji13
                  have hji13z : a0_0 ≤ 64 → (IntKind.i64.wrap (1 * 2 ^ a0_0.toNat)) = ji13 := shl_small hji13
                  have hji13u : (IntKind.i64.wrap (2 ^ min a0_0.toNat 64)) = ji13 := by have h_ := hji13_; rw [Int.one_mul] at h_; exact h_
                  have hji13v : a0_0 ≤ 64 → (IntKind.i64.wrap (2 ^ a0_0.toNat)) = ji13 := fun hle_ => by have h_ := hji13z hle_; rw [Int.one_mul] at h_; exact h_
                  have hji13y : (wrap64 (1 * 2 ^ min a0_0.toNat 64)) = ji13 := (i64_w _).symm.trans hji13_
                  have hji13x : a0_0 ≤ 64 → (wrap64 (1 * 2 ^ a0_0.toNat)) = ji13 := fun h_ => (i64_w _).symm.trans (hji13z h_)
                  by_cases c14 : (rd l1 x19_1) ≥ (ji13)
                  · rw [if_pos c14] at H
                    have c14b0 : decide ((ji13) ≤ (rd l1 x19_1)) = true := decide_eq_true c14
                    clear c14
                    simp only [Option.some.injEq, Prod.mk.injEq] at H
                    obtain ⟨rfl, rfl⟩ := H
                    have p114 : 0 ≤ (x19_1 : Int) := of_decide_eq_true (by first | (with_reducible assumption) | assumption)
                    have q114 : x19_1 < (l1.length : Int) := of_decide_eq_true (by first | (with_reducible assumption) | assumption)
                    obtain ⟨ad114, e114, hx114_0⟩ := Kd.at_int HR1.out x19_1 p114 q114
                    cases e114
                    replace hx114_0 := (HB.out.cell (World.block_lt_of_cell? w _ hx114_0)).trans hx114_0
                    replace p114 := eq_true p114
                    replace q114 := eq_true q114
                    have hcz15_0 : wr.cell? ⟨gb112, 0, none⟩ = some (.int .i64 a0_0) := (blk_cell BK112.out 0).trans rfl
                    have hcz15_1 : wr.cell? ⟨gb112, 1, none⟩ = some (.int .i64 a0_1) := (blk_cell BK112.out 1).trans rfl
                    have hcz15_2 : wr.cell? ⟨gb112, 2, none⟩ = some (.slice A0_2 l0_2.length c0_2) := (blk_cell BK112.out 2).trans rfl
                    have hfz15_0 := blk_frozen BK112.out 0
                    have hfz15_1 := blk_frozen BK112.out 1
                    have hfz15_2 := blk_frozen BK112.out 2
                    go_wp2
                    go_ret2
                    exact ⟨_, by first | rfl | (simp [errW_none, errW_some] <;> rfl) | (simp only [← hji13]; first | rfl | (simp [errW_none, errW_some] <;> rfl)) | (simp [*, errW_none, errW_some] <;> rfl), by first | exact Kd.R_nil _ _ _ _ _ | exact Kd.N_nil _ _ _ _ _ | exact Kd.V_nil _ _ _ _ _ | exact Kd.Q_nil _ _ _ _ _ | exact Kd.S_nil _ _ _ _ _, by repeat (first | (with_reducible first | exact HB.out | apply below_alloc | apply pw_below_drewN | apply below_drew1 | refine below_set ?_ GE112.out) | exact HB.out)⟩
                  · rw [if_neg c14] at H
                    have c14b0 : decide ((ji13) ≤ (rd l1 x19_1)) = false := decide_eq_false c14
                    clear c14
                    by_cases c16 : 0 ≤ x8_1
                    · rw [if_pos c16] at H
                      have c16b0 : decide (0 ≤ x8_1) = true := decide_eq_true c16
                      clear c16
                      by_cases c17 : x8_1 < (l0_2.length : Int)
                      · rw [if_pos c17] at H
                        have c17b0 : decide (x8_1 < (l0_2.length : Int)) = true := decide_eq_true c17
                        clear c17
                        by_cases c18 : 0 ≤ (rd l1 x19_1)
                        · rw [if_pos c18] at H
                          have c18b0 : decide (0 ≤ (rd l1 x19_1)) = true := decide_eq_true c18
                          clear c18
                          by_cases c19 : (rd l1 x19_1) < ((rd_L2 l0_2 x8_1).length : Int)
                          · rw [if_pos c19] at H
                            have c19b0 : decide ((rd l1 x19_1) < ((rd_L2 l0_2 x8_1).length : Int)) = true := decide_eq_true c19
                            clear c19
                            by_cases c20 : x7_1.length < 17592186044416
                            · rw [if_pos c20] at H
                              have LMc20 := Aside0.mk c20
                              clear c20
                              obtain ⟨y118, hy118⟩ : ∃ y_ : List Int, y_ = (x7_1 ++ [(rd_T77 (rd_L2 l0_2 x8_1) (rd l1 x19_1)).f0]) := ⟨_, rfl⟩
                              replace H : (learn_Run.l0 k1 y118 ((rd_T77 (rd_L2 l0_2 x8_1) (rd l1 x19_1)).f1) l1 (l1.length : Int) (wrap64 (x19_1 + 1)) a0_0 a0_1 l0_2) = some (r1, r2) := by first | (rw [hy118]; with_reducible exact H) | (have H2_ := (Option.bind_some _ _).symm.trans H; rw [hy118]; with_reducible exact H2_) | (have H2_ := (Option.bind_some _ _).symm.trans H; with_reducible exact H2_) | with_reducible exact H | (rw [hy118]; exact H) | exact H
                              have Ny118 := Aside0.mk hy118
                              clear hy118
                              have H' := Aside0.mk H
                              clear H
                              have p114 : 0 ≤ (x19_1 : Int) := of_decide_eq_true (by first | (with_reducible assumption) | assumption)
                              have q114 : x19_1 < (l1.length : Int) := of_decide_eq_true (by first | (with_reducible assumption) | assumption)
                              obtain ⟨ad114, e114, hx114_0⟩ := Kd.at_int HR1.out x19_1 p114 q114
                              cases e114
                              replace hx114_0 := (HB.out.cell (World.block_lt_of_cell? w _ hx114_0)).trans hx114_0
                              replace p114 := eq_true p114
                              replace q114 := eq_true q114
                              have hcz21_0 : wr.cell? ⟨gb112, 0, none⟩ = some (.int .i64 a0_0) := (blk_cell BK112.out 0).trans rfl
                              have hcz21_1 : wr.cell? ⟨gb112, 1, none⟩ = some (.int .i64 a0_1) := (blk_cell BK112.out 1).trans rfl
                              have hcz21_2 : wr.cell? ⟨gb112, 2, none⟩ = some (.slice A0_2 l0_2.length c0_2) := (blk_cell BK112.out 2).trans rfl
                              have hfz21_0 := blk_frozen BK112.out 0
                              have hfz21_1 := blk_frozen BK112.out 1
                              have hfz21_2 := blk_frozen BK112.out 2
                              have p115 : 0 ≤ (x8_1 : Int) := of_decide_eq_true (by first | (with_reducible assumption) | assumption)
                              have q115 : x8_1 < (l0_2.length : Int) := of_decide_eq_true (by first | (with_reducible assumption) | assumption)
                              obtain ⟨ad115, A115_0, c115_0, e115, hx115_0, hl115_0, hi115_0⟩ := at_L2 HR0_2.out x8_1 p115 q115
                              cases e115
                              replace hx115_0 := (HB.out.cell (World.block_lt_of_cell? w _ hx115_0)).trans hx115_0
                              have HR115_0 := Aside0.mk hi115_0
                              have HC115_0 := Aside0.mk hl115_0
                              clear hi115_0 hl115_0
                              replace p115 := eq_true p115
                              replace q115 := eq_true q115
                              have p116 : 0 ≤ ((rd l1 x19_1) : Int) := of_decide_eq_true (by first | (with_reducible assumption) | assumption)
                              have q116 : (rd l1 x19_1) < ((rd_L2 l0_2 x8_1).length : Int) := of_decide_eq_true (by first | (with_reducible assumption) | assumption)
                              obtain ⟨ad116, e116, hx116_0, hx116_1⟩ := at_T77 HR115_0.out (rd l1 x19_1) p116 q116
                              cases e116
                              replace hx116_0 := (HB.out.cell (World.block_lt_of_cell? w _ hx116_0)).trans hx116_0
                              replace hx116_1 := (HB.out.cell (World.block_lt_of_cell? w _ hx116_1)).trans hx116_1
                              replace p116 := eq_true p116
                              replace q116 := eq_true q116
                              try go_wp2_with (first | ((with_reducible refine gate_dst (N := 11) rfl ?_); refine box_event ?hg (N := 11) ?hd (cs := #[.int .i64 0, .int .i64 0]) (t := 77) ?hr ?_; (case hd => rfl); (case hg => rfl); (case hr => first | (go_simp; done) | (go_simp; rfl)); intro gb117 hg w22 hbox hb; have n0_ := Aside0.mk (Kd.R_below (by (with_reducible repeat (first | apply Kd.R_alloc | apply Kd.R_drewN | apply Kd.R_drew)); exact HO_7.out) hb); have n1_ := Aside0.mk (blk_below (g := gb112) (o := .cells #[.int .i64 a0_0, .int .i64 a0_1, .slice (some ad115) l0_2.length c0_2] 25 (0, 0)) (by (with_reducible repeat (first | refine blk_drewN ?_ _ | refine blk_drew ?_ | refine blk_alloc ?_ _)); exact BK112.out) hb); have n2_ := Aside0.mk (below_step (by repeat (first | (with_reducible first | exact HB.out | apply below_alloc | apply pw_below_drewN | apply below_drew1 | refine below_set ?_ GE112.out) | exact HB.out)) hb); have n3_ := Aside0.mk (hbox); have n4_ := Aside0.mk ((by rw [hg]; exact (below_size (by repeat (first | (with_reducible first | exact HB.out | apply below_alloc | apply pw_below_drewN | apply below_drew1 | refine below_set ?_ GE112.out) | exact HB.out))) : w.heap.size ≤ gb117)); have n5_ := Aside0.mk ((by rw [hg]; exact (below_size (by repeat (first | (with_reducible first | exact HB.out | apply below_alloc | apply pw_below_drewN | apply below_drew1 | refine below_set ?_ GE112.out) | exact HB.out))) : w.heap.size ≤ gb117)); have n6_ := Aside0.mk ((by rw [hg]; exact Nat.ne_of_lt (blk_lt (g := gb112) (o := .cells #[.int .i64 a0_0, .int .i64 a0_1, .slice (some ad115) l0_2.length c0_2] 25 (0, 0)) (by (with_reducible repeat (first | refine blk_drewN ?_ _ | refine blk_drew ?_ | refine blk_alloc ?_ _)); exact BK112.out)) : gb112 ≠ gb117)); have n7_ := Aside0.mk ((by rw [hg]; exact Nat.ne_of_gt (blk_lt (g := gb112) (o := .cells #[.int .i64 a0_0, .int .i64 a0_1, .slice (some ad115) l0_2.length c0_2] 25 (0, 0)) (by (with_reducible repeat (first | refine blk_drewN ?_ _ | refine blk_drew ?_ | refine blk_alloc ?_ _)); exact BK112.out)) : gb117 ≠ gb112)); clear HO_7; clear BK112; clear HB; have HO_7 := n0_; have BK112 := n1_; have HB := n2_; have BK117 := n3_; have GW117 := n4_; have GE117 := n5_; have NB112_117 := n6_; have NB117_112 := n7_; clear n0_ n1_ n2_ n3_ n4_ n5_ n6_ n7_; clear hb hbox hg; have hnb23 := NB117_112.out; have hnc23 := NB112_117.out; have hcz24_0 : w22.cell? ⟨gb117, 0, none⟩ = some (.int .i64 0) := (blk_cell BK117.out 0).trans rfl; have hcz24_1 : w22.cell? ⟨gb117, 1, none⟩ = some (.int .i64 0) := (blk_cell BK117.out 1).trans rfl; have hfz24_0 := blk_frozen BK117.out 0; have hfz24_1 := blk_frozen BK117.out 1))
                              have n0_ : Aside0 (Kd.R (Kd.int .i64) 3 ((w22.setCell ⟨gb117, 0, none⟩ (.int .i64 ((rd_T77 (rd_L2 l0_2 x8_1) (rd l1 x19_1)).f0))).setCell ⟨gb117, 1, none⟩ (.int .i64 ((rd_T77 (rd_L2 l0_2 x8_1) (rd l1 x19_1)).f1))) w.heap.size (fun _ => True) u7 x7_1) := ⟨by (with_reducible repeat (first | apply Kd.R_alloc | apply Kd.R_drewN | apply Kd.R_drew)); exact Kd.R_mono (Kd.R_far (p := ⟨gb117, 1, none⟩) (Kd.R_far (p := ⟨gb117, 0, none⟩) (Kd.R_types HO_7.out BK117.out (by decide)) (fun _ hk => hk.2) (.int .i64 ((rd_T77 (rd_L2 l0_2 x8_1) (rd l1 x19_1)).f0))) (fun _ hk => hk.2) (.int .i64 ((rd_T77 (rd_L2 l0_2 x8_1) (rd l1 x19_1)).f1))) (fun _ hk => trivial)⟩
                              have n1_ : Aside0 (((w22.setCell ⟨gb117, 0, none⟩ (.int .i64 ((rd_T77 (rd_L2 l0_2 x8_1) (rd l1 x19_1)).f0))).setCell ⟨gb117, 1, none⟩ (.int .i64 ((rd_T77 (rd_L2 l0_2 x8_1) (rd l1 x19_1)).f1))).heap[gb112]? = some (.cells #[.int .i64 a0_0, .int .i64 a0_1, .slice (some ad115) l0_2.length c0_2] 25 (0, 0))) := ⟨by (with_reducible repeat (first | refine blk_drewN ?_ _ | refine blk_drew ?_ | refine blk_alloc ?_ _)); refine blk_far ?_ NB112_117.out _; (with_reducible repeat (first | refine blk_drewN ?_ _ | refine blk_drew ?_ | refine blk_alloc ?_ _)); refine blk_far ?_ NB112_117.out _; (with_reducible repeat (first | refine blk_drewN ?_ _ | refine blk_drew ?_ | refine blk_alloc ?_ _)); exact BK112.out⟩
                              have n2_ : Aside0 (((w22.setCell ⟨gb117, 0, none⟩ (.int .i64 ((rd_T77 (rd_L2 l0_2 x8_1) (rd l1 x19_1)).f0))).setCell ⟨gb117, 1, none⟩ (.int .i64 ((rd_T77 (rd_L2 l0_2 x8_1) (rd l1 x19_1)).f1))).heap[gb117]? = some (.cells #[.int .i64 ((rd_T77 (rd_L2 l0_2 x8_1) (rd l1 x19_1)).f0), .int .i64 ((rd_T77 (rd_L2 l0_2 x8_1) (rd l1 x19_1)).f1)] 77 (0, 0))) := ⟨by (with_reducible repeat (first | refine blk_drewN ?_ _ | refine blk_drew ?_ | refine blk_alloc ?_ _)); refine blk_put (cs := #[.int .i64 ((rd_T77 (rd_L2 l0_2 x8_1) (rd l1 x19_1)).f0), .int .i64 0]) ?_ 1 _ rfl; (with_reducible repeat (first | refine blk_drewN ?_ _ | refine blk_drew ?_ | refine blk_alloc ?_ _)); refine blk_put (cs := #[.int .i64 0, .int .i64 0]) ?_ 0 _ rfl; (with_reducible repeat (first | refine blk_drewN ?_ _ | refine blk_drew ?_ | refine blk_alloc ?_ _)); exact BK117.out⟩
                              have n3_ : Aside0 (Below w.heap.size w ((w22.setCell ⟨gb117, 0, none⟩ (.int .i64 ((rd_T77 (rd_L2 l0_2 x8_1) (rd l1 x19_1)).f0))).setCell ⟨gb117, 1, none⟩ (.int .i64 ((rd_T77 (rd_L2 l0_2 x8_1) (rd l1 x19_1)).f1)))) := ⟨by repeat (first | (with_reducible first | exact HB.out | apply below_alloc | apply pw_below_drewN | apply below_drew1 | refine below_set ?_ GE112.out | refine below_set ?_ GE117.out) | exact HB.out)⟩
                              (try clear HO_7)
                              (try clear BK112)
                              (try clear BK117)
                              (try clear HB)
                              generalize ((w22.setCell ⟨gb117, 0, none⟩ (.int .i64 ((rd_T77 (rd_L2 l0_2 x8_1) (rd l1 x19_1)).f0))).setCell ⟨gb117, 1, none⟩ (.int .i64 ((rd_T77 (rd_L2 l0_2 x8_1) (rd l1 x19_1)).f1))) = w25 at n0_ n1_ n2_ n3_ ⊢
                              have HO_7 := n0_
                              have BK112 := n1_
                              have BK117 := n2_
                              have HB := n3_
                              clear n0_ n1_ n2_ n3_
                              have n0_ := Aside0.mk (Kd.R_drew HO_7.out)
                              have n1_ := Aside0.mk (blk_drew BK112.out)
                              have n2_ := Aside0.mk (blk_drew BK117.out)
                              have n3_ := Aside0.mk (below_drew1 HB.out)
                              clear HO_7
                              clear BK112
                              clear BK117
                              clear HB
                              have HO_7 := n0_
                              have BK112 := n1_
                              have BK117 := n2_
                              have HB := n3_
                              clear n0_ n1_ n2_ n3_
                              refine start_ (n := 9) (S := fun w' => w'.cell? ⟨gb117, 0, none⟩ = some (.int .i64 ((rd_T77 (rd_L2 l0_2 x8_1) (rd l1 x19_1)).f0)) ∧ w'.cell? ⟨gb117, 1, none⟩ = some (.int .i64 ((rd_T77 (rd_L2 l0_2 x8_1) (rd l1 x19_1)).f1))) (ds := []) #[false, false, false, false, false, false, false, false, false] (by kernel_rfl) rfl rfl ⟨(blk_cell BK117.out 0).trans rfl, (blk_cell BK117.out 1).trans rfl⟩ (fun hHeld => ?_); refine with_tabW learn_Run.tab12 learn_Run.bits12 (fun HT_ HW_ => ?_)
                              generalize w25.drew = w26 at HO_7 BK112 BK117 HB hHeld ⊢
                              refine pure_ (i := 0) (N := some 40) (v := ?_) (a' := ?_) #[true, false, false, false, false, false, false, false, false] rfl rfl (any_of HT_.out (by kernel_rfl)) (fun _ _ _ h => h) (Or.inl ⟨by rfl, ?_⟩) ?_ ?_
                              rotate_left
                              · intro w'
                                go_simp
                                with_reducible rfl
                              rotate_left
                              · simp only [Act.put, List.setIfInBounds_toArray, List.set_cons_zero, List.set_cons_succ, i64_w, i32_w]
                                rfl
                              refine pure_ (i := 1) (N := some 41) (v := ?_) (a' := ?_) #[true, true, false, false, false, false, false, false, false] rfl rfl (any_of HT_.out (by kernel_rfl)) (fun _ _ _ h => h) (Or.inl ⟨by rfl, ?_⟩) ?_ ?_
                              rotate_left
                              · intro w'
                                go_simp
                                with_reducible rfl
                              rotate_left
                              · simp only [Act.put, List.setIfInBounds_toArray, List.set_cons_zero, List.set_cons_succ, i64_w, i32_w]
                                rfl
                              refine pure_ (i := 5) (N := some 45) (v := ?_) (a' := ?_) #[true, true, false, false, false, true, false, false, false] rfl rfl (any_of HT_.out (by kernel_rfl)) (fun _ _ _ h => h) (Or.inl ⟨by rfl, ?_⟩) ?_ ?_
                              rotate_left
                              · intro w'
                                go_simp
                                with_reducible rfl
                              rotate_left
                              · simp only [Act.put, List.setIfInBounds_toArray, List.set_cons_zero, List.set_cons_succ, i64_w, i32_w]
                                rfl
                              refine take_ (i := 2) (N := some 42) (v := ?_) (a' := ?_) #[true, true, true, false, false, true, false, false, false] rfl rfl (take_ofW HT_.out HW_.out (by kernel_rfl)) (fun _ _ _ h => h) (Or.inl ⟨by rfl, ?_⟩) hHeld ?_ ?_
                              rotate_left
                              · rintro w' ⟨s0, s1⟩
                                go_simp
                                with_reducible rfl
                              rotate_left
                              · simp only [Act.put, List.setIfInBounds_toArray, List.set_cons_zero, List.set_cons_succ, i64_w, i32_w]
                                rfl
                              refine take_ (i := 6) (N := some 46) (v := ?_) (a' := ?_) #[true, true, true, false, false, true, true, false, false] rfl rfl (take_ofW HT_.out HW_.out (by kernel_rfl)) (fun _ _ _ h => h) (Or.inl ⟨by rfl, ?_⟩) hHeld ?_ ?_
                              rotate_left
                              · rintro w' ⟨s0, s1⟩
                                go_simp
                                with_reducible rfl
                              rotate_left
                              · simp only [Act.put, List.setIfInBounds_toArray, List.set_cons_zero, List.set_cons_succ, i64_w, i32_w]
                                rfl
                              refine one_ (i := 3) (N := some 43) #[true, true, true, true, false, true, true, false, false] rfl rfl (one_of HT_.out (by kernel_rfl)) (by decide) (fun K hK => ?_)
                              refine value_ (w1 := ?_) (v := ?_) (by rfl) rfl ?_ ?_
                              rotate_left 2
                              · go_simp
                                constructor
                                · rfl
                                · rfl
                              refine hK.out _ _ ⟨(blk_cell (blk_alloc BK117.out _) 0).trans rfl, (blk_cell (blk_alloc BK117.out _) 1).trans rfl⟩ (fun hHeld => ?_)
                              clear hK K
                              refine norm_ (a' := ?_) ?_ ?_
                              rotate_left
                              · show Act.put _ (some 43) _ = _
                                simp only [Act.put, List.setIfInBounds_toArray, List.set_cons_zero, List.set_cons_succ, i64_w, i32_w]
                                rfl
                              refine one_ (i := 4) (N := some 44) #[true, true, true, true, true, true, true, false, false] rfl rfl (one_of HT_.out (by kernel_rfl)) (by decide) (fun K hK => ?_)
                              refine Kd.R_append_step (Kd.int .i64) (w0 := w) w.heap.size (by rfl) (.tmp 40) (.tmp 43) 22 3 (.int .i64 0) 8 rfl Try.underlying22 info3 rfl (by decide) (by omega) u7 x7_1 ((rd_T77 (rd_L2 l0_2 x8_1) (rd l1 x19_1)).f0) [.int .i64 ((rd_T77 (rd_L2 l0_2 x8_1) (rd l1 x19_1)).f0)] (fun _ => True) (fun _ => False) rfl rfl ?aP (fun _ hk => hk.elim) ?aF ?aO ?aB ?aS ?aL ?_
                              (case aP => exact rfl)
                              (case aB => exact (by repeat (first | (with_reducible first | exact HB.out | apply below_alloc | apply pw_below_drewN | apply below_drew1 | refine below_set ?_ GE112.out | refine below_set ?_ GE117.out) | exact HB.out)))
                              (case aF => exact (fun _ _ => trivial))
                              (case aO => exact (by (with_reducible repeat (first | apply Kd.R_alloc | apply Kd.R_drewN | apply Kd.R_drew)); exact HO_7.out))
                              (case aS => exact (below_size (by repeat (first | (with_reducible first | exact HB.out | apply below_alloc | apply pw_below_drewN | apply below_drew1 | refine below_set ?_ GE112.out | refine below_set ?_ GE117.out) | exact HB.out))))
                              (case aL => have := LMc20.out; omega)
                              intro v119 w27 ho hb hg hat
                              rw [← Ny118.out] at ho
                              have n0_ := Aside0.mk (blk_grown (g := gb112) (o := .cells #[.int .i64 a0_0, .int .i64 a0_1, .slice (some ad115) l0_2.length c0_2] 25 (0, 0)) (by (with_reducible repeat (first | refine blk_drewN ?_ _ | refine blk_drew ?_ | refine blk_alloc ?_ _)); exact BK112.out) hg (Kd.R_ne HO_7.out BK112.out (by decide)))
                              have n1_ := Aside0.mk (blk_grown (g := gb117) (o := .cells #[.int .i64 ((rd_T77 (rd_L2 l0_2 x8_1) (rd l1 x19_1)).f0), .int .i64 ((rd_T77 (rd_L2 l0_2 x8_1) (rd l1 x19_1)).f1)] 77 (0, 0)) (by (with_reducible repeat (first | refine blk_drewN ?_ _ | refine blk_drew ?_ | refine blk_alloc ?_ _)); exact BK117.out) hg (Kd.R_ne HO_7.out BK117.out (by decide)))
                              have n2_ := Aside0.mk (hb)
                              have n3_ := Aside0.mk (ho)
                              clear BK112
                              clear BK117
                              clear HB
                              clear HO_7
                              have BK112 := n0_
                              have BK117 := n1_
                              have HB := n2_
                              have HO120 := n3_
                              clear n0_ n1_ n2_ n3_
                              clear ho hb hg hat
                              refine hK.out _ _ ⟨(blk_cell BK117.out 0).trans rfl, (blk_cell BK117.out 1).trans rfl⟩ (fun hHeld => ?_)
                              clear hK K
                              refine norm_ (a' := ?_) ?_ ?_
                              rotate_left
                              · show Act.put _ (some 44) _ = _
                                simp only [Act.put, List.setIfInBounds_toArray, List.set_cons_zero, List.set_cons_succ, i64_w, i32_w]
                                rfl
                              refine pure_ (i := 7) (N := some 7) (v := ?_) (a' := ?_) #[true, true, true, true, true, true, true, true, false] rfl rfl (any_of HT_.out (by kernel_rfl)) (fun _ _ _ h => h) (Or.inl ⟨by rfl, ?_⟩) ?_ ?_
                              rotate_left
                              · intro w'
                                go_simp
                                with_reducible rfl
                              rotate_left
                              · simp only [Act.put, List.setIfInBounds_toArray, List.set_cons_zero, List.set_cons_succ, i64_w, i32_w]
                                rfl
                              refine pure_ (i := 8) (N := some 8) (v := ?_) (a' := ?_) #[true, true, true, true, true, true, true, true, true] rfl rfl (any_of HT_.out (by kernel_rfl)) (fun _ _ _ h => h) (Or.inl ⟨by rfl, ?_⟩) ?_ ?_
                              rotate_left
                              · intro w'
                                go_simp
                                with_reducible rfl
                              rotate_left
                              · simp only [Act.put, List.setIfInBounds_toArray, List.set_cons_zero, List.set_cons_succ, i64_w, i32_w]
                                rfl
                              refine done_ (done_of HT_.out (by kernel_rfl)) ?_
                              try go_wp2
                              go_roundg k1
                              case measure => have := HK1.out; omega
                              case rel => exact ⟨(y118), ((rd_T77 (rd_L2 l0_2 x8_1) (rd l1 x19_1)).f1), (wrap64 (x19_1 + 1)), (by first | rfl | (simp; done) | (simp [*]; done)), (by first | rfl | (simp; done) | (simp [*]; done)), H', ⟨by have := HK1.out; omega⟩, ⟨by (with_reducible repeat (first | apply Kd.R_alloc | apply Kd.R_drewN | apply Kd.R_drew)); exact HO120.out⟩, ⟨by (with_reducible repeat (first | refine blk_drewN ?_ _ | refine blk_drew ?_ | refine blk_alloc ?_ _)); exact BK112.out⟩, ⟨by repeat (first | (with_reducible first | exact HB.out | apply below_alloc | apply pw_below_drewN | apply below_drew1 | refine below_set ?_ GE112.out | refine below_set ?_ GE117.out) | exact HB.out)⟩⟩
                            · rw [if_neg c20] at H
                              exact absurd H (by simp)
                          · rw [if_neg c19] at H
                            exact absurd H (by simp)
                        · rw [if_neg c18] at H
                          exact absurd H (by simp)
                      · rw [if_neg c17] at H
                        exact absurd H (by simp)
                    · rw [if_neg c16] at H
                      exact absurd H (by simp)
                · rw [if_neg c12] at H
                  exact absurd H (by simp)
            · rw [if_neg c10] at H
              exact absurd H (by simp)
          · rw [if_neg c9] at H
            exact absurd H (by simp)
        · rw [if_neg c8] at H
          have c8b0 : decide (x19_1 < (l1.length : Int)) = false := decide_eq_false c8
          clear c8
          simp only [Option.some.injEq, Prod.mk.injEq] at H
          obtain ⟨rfl, rfl⟩ := H
          go_wp2
          go_ret2
          exact ⟨_, by first | rfl | (simp [errW_none, errW_some] <;> rfl) | (simp [*, errW_none, errW_some] <;> rfl), by (with_reducible repeat (first | apply Kd.R_alloc | apply Kd.R_drewN | apply Kd.R_drew)); exact HO_7.out, by repeat (first | (with_reducible first | exact HB.out | apply below_alloc | apply pw_below_drewN | apply below_drew1 | refine below_set ?_ GE112.out) | exact HB.out)⟩
  · rw [if_neg c4] at H
    have c4b0 : (t113 == 0) = false := beq_eq_false_iff_ne.mpr c4
    have c4b1 : (t113 != 0) = true := bne_iff_ne.mpr c4
    simp only [Option.some.injEq, Prod.mk.injEq] at H
    obtain ⟨rfl, rfl⟩ := H
    go_enter Try.func14, Try.ntmps14
    go_wp2_with (first | ((with_reducible refine gate_dst (N := 2) rfl ?_); refine box_event ?hg (N := 2) ?hd (cs := #[.int .i64 a0_0, .int .i64 a0_1, .slice A0_2 l0_2.length c0_2]) (t := 25) ?hr ?_; (case hd => rfl); (case hg => rfl); (case hr => first | (go_simp; done) | (go_simp; rfl)); intro gb112 hg w28 hbox hb; have n0_ := Aside0.mk (below_step (by repeat (first | (with_reducible first | exact HB.out | apply below_alloc | apply pw_below_drewN | apply below_drew1) | exact HB.out)) hb); have n1_ := Aside0.mk (hbox); have n2_ := Aside0.mk ((by rw [hg]; exact (below_size (by repeat (first | (with_reducible first | exact HB.out | apply below_alloc | apply pw_below_drewN | apply below_drew1) | exact HB.out))) : w.heap.size ≤ gb112)); have n3_ := Aside0.mk ((by rw [hg]; exact (below_size (by repeat (first | (with_reducible first | exact HB.out | apply below_alloc | apply pw_below_drewN | apply below_drew1) | exact HB.out))) : w.heap.size ≤ gb112)); clear HB; have HB := n0_; have BK112 := n1_; have GW112 := n2_; have GE112 := n3_; clear n0_ n1_ n2_ n3_; clear hb hbox hg; have hcz29_0 : w28.cell? ⟨gb112, 0, none⟩ = some (.int .i64 a0_0) := (blk_cell BK112.out 0).trans rfl; have hcz29_1 : w28.cell? ⟨gb112, 1, none⟩ = some (.int .i64 a0_1) := (blk_cell BK112.out 1).trans rfl; have hcz29_2 : w28.cell? ⟨gb112, 2, none⟩ = some (.slice A0_2 l0_2.length c0_2) := (blk_cell BK112.out 2).trans rfl; have hfz29_0 := blk_frozen BK112.out 0; have hfz29_1 := blk_frozen BK112.out 1; have hfz29_2 := blk_frozen BK112.out 2) | ((with_reducible refine gate_callee (f := 41) rfl ?_); refine goesL_ (some 13) rfl rfl Try.func41 (by kernel_rfl) rfl #[.agg #[.int .i64 a0_0, .int .i64 a0_1, .slice A0_2 l0_2.length c0_2]] rfl (by (try simp only [List.map_toArray, List.map_cons, List.map_nil]); first | done | rfl | (simp only [List.length_drop, List.length_take]; rfl)) ?_; (with_reducible refine (learn_Check.calls k a0_0 a0_1 _ _ l0_2 t113 _ ?side1 ?side2 A3.out).mono ?_); (case side1 => repeat (first | exact (Kd.C_below HR0_2.out HB.out) | (with_reducible refine Kd.C_alloc ?_ _) | (with_reducible refine Kd.C_drewN ?_ _) | (with_reducible refine Kd.C_drew ?_))); (case side2 => exact HC0_2.out); rintro e w30 ⟨rfl, hb⟩; refine ⟨_, rfl, ?_⟩; have n0_ := Aside0.mk (blk_below (g := gb112) (o := .cells #[.int .i64 a0_0, .int .i64 a0_1, .slice A0_2 l0_2.length c0_2] 25 (0, 0)) (by (with_reducible repeat (first | refine blk_drewN ?_ _ | refine blk_drew ?_ | refine blk_alloc ?_ _)); exact BK112.out) hb); have n1_ := Aside0.mk (below_step (by repeat (first | (with_reducible first | exact HB.out | apply below_alloc | apply pw_below_drewN | apply below_drew1 | refine below_set ?_ GE112.out) | exact HB.out)) hb); clear BK112; clear HB; have BK112 := n0_; have HB := n1_; clear n0_ n1_; (try clear hb); (try clear hb2); (try clear hk); (try clear hi)))
    go_ret2
    exact ⟨_, by first | rfl | (simp [errW_none, errW_some] <;> rfl) | (simp [*, errW_none, errW_some] <;> rfl), by first | exact Kd.R_nil _ _ _ _ _ | exact Kd.N_nil _ _ _ _ _ | exact Kd.V_nil _ _ _ _ _ | exact Kd.Q_nil _ _ _ _ _ | exact Kd.S_nil _ _ _ _ _, by repeat (first | (with_reducible first | exact HB.out | apply below_alloc | apply pw_below_drewN | apply below_drew1 | refine below_set ?_ GE112.out) | exact HB.out)⟩

end Go.Proofs.Ytaalafnkglbcpaa.PL
end

/- The box's closure (bakekeep3.box$1, function 57): it runs its table. Walked by hand. Own text of this claim. -/
section
namespace Go.Proofs.Ytaalafnkglbcpaa.PL
open Go.RowKit Go.Proofs.YtaalafnkglbcpaaW.PrintWords Go.Proofs.YtaalafnkglbcpaaW.PrintLast Go.Proofs.YtaalafnkglbcpaaW.PrintMore
set_option linter.unusedVariables false
set_option linter.unusedSimpArgs false

set_option maxHeartbeats 4000000 in
set_option maxRecDepth 100000 in
theorem ask_calls (k gb : Nat) (ins outs : Int) (A0 Aw : Option Addr) (c0 cw : Nat) (t : List (List S77)) (word out : List Int) (w : World) (hb : w.heap[gb]? = some (.cells #[.int .i64 ins, .int .i64 outs, .slice A0 t.length c0] 25 (0, 0)))
    (ht : Kd.C (Kd.slice 77 k77) w A0 t.length t) (hc0 : t.length ≤ c0) (hw : Kd.C (Kd.int .i64) w Aw word.length word) (hcw : word.length ≤ cw) (h : learn_Run.f k ins outs t word = some (out, 0)) :
    Calls Try.prog 57 #[.slice Aw word.length cw, .pointer (some ⟨gb, 0, none⟩)] w fun e w' => ∃ v : Value, e = .returned v ∧ Kd.R (Kd.int .i64) 3 w' w.heap.size (fun _ => True) v out ∧ Below w.heap.size w w' := by
  have hu25 := Try.underlying25
  have C1 := Aside0.mk (learn_Run.calls k ins outs A0 c0 t Aw cw word out 0 w ht hc0 hw hcw h)
  have q0 : w.cell? ⟨gb, 0, none⟩ = some (.int .i64 ins) := (blk_cell hb 0).trans rfl
  have q1 : w.cell? ⟨gb, 1, none⟩ = some (.int .i64 outs) := (blk_cell hb 1).trans rfl
  have q2 : w.cell? ⟨gb, 2, none⟩ = some (.slice A0 t.length c0) := (blk_cell hb 2).trans rfl
  clear hb ht hc0 hw hcw h
  go_enter Try.func57, Try.ntmps57
  go_wp2_with fail
  (with_reducible refine C1.out.mono ?_)
  rintro e w1 ⟨v, rfl, ho, hb⟩
  have HO := Aside0.mk ho
  have HB := Aside0.mk hb
  clear ho hb
  obtain ⟨A, c, rfl⟩ := Kd.R_slice HO.out
  go_wp2
  go_ret
  exact ⟨_, rfl, HO.out, HB.out⟩
end Go.Proofs.Ytaalafnkglbcpaa.PL
end

/- What a call of a learner's method keeps: all blocks but those of S, and what the world beyond memory is. Own text of this claim. -/
section
namespace Go.Proofs.Ytaalafnkglbcpaa.PL
open Go.RowKit Go.Proofs.YtaalafnkglbcpaaW.PrintWords Go.Proofs.YtaalafnkglbcpaaW.PrintLast Go.Proofs.YtaalafnkglbcpaaW.PrintMore
set_option linter.unusedVariables false
def Calm (w W : World) : Prop := W.os = w.os ∧ W.tape = w.tape ∧ W.output = w.output
theorem Calm.refl (w : World) : Calm w w := ⟨rfl, rfl, rfl⟩
theorem Calm.trans {w W W2 : World} (h : Calm w W) (k : Calm W W2) : Calm w W2 := ⟨k.1.trans h.1, k.2.1.trans h.2.1, k.2.2.trans h.2.2⟩
theorem Calm.below {B : Nat} {w W : World} (h : Below B w W) : Calm w W := ⟨h.os, h.tape, h.output⟩
theorem Calm.grown {w W : World} {row : Option Nat} (h : w.grownBy W row) : Calm w W := ⟨h.os, h.tape, h.output⟩
theorem Calm.set (w : World) (p : Addr) (u : Value) : Calm w (w.setCell p u) := ⟨rfl, rfl, rfl⟩
structure Kept (w W : World) (S : Nat → Prop) : Prop where
  sz : w.heap.size ≤ W.heap.size
  bl : ∀ i, i < w.heap.size → ¬ S i → W.heap[i]? = w.heap[i]?
  calm : Calm w W
section
variable {w W W2 : World} {S S2 S' : Nat → Prop}
theorem Kept.refl (w : World) (S : Nat → Prop) : Kept w w S := ⟨Nat.le_refl _, fun _ _ _ => rfl, Calm.refl w⟩
theorem Kept.of_below (h : Below w.heap.size w W) (S : Nat → Prop) : Kept w W S := ⟨h.size, fun i hi _ => h.block i hi, Calm.below h⟩
theorem Kept.mono (h : Kept w W S) (hs : ∀ k, S k → S' k) : Kept w W S' := ⟨h.1, fun i hi hn => h.2 i hi (fun hk => hn (hs i hk)), h.3⟩
theorem Kept.then_ (h : Kept w W S) (k : Kept W W2 S2) (hs : ∀ k, S2 k → S k ∨ w.heap.size ≤ k) : Kept w W2 S :=
  ⟨Nat.le_trans h.1 k.1, fun i hi hn => (k.2 i (Nat.lt_of_lt_of_le hi h.1) (fun h2 => (hs i h2).elim hn (fun h3 => by omega))).trans (h.2 i hi hn), h.3.trans k.3⟩
theorem Kept.below (h : Kept w W S) (hb : Below W.heap.size W W2) : Kept w W2 S := h.then_ (Kept.of_below hb (fun _ => False)) (fun _ hk => hk.elim)
theorem Kept.alloc (h : Kept w W S) (o : Obj) : Kept w (W.alloc o) S := h.below (below_alloc (Below.refl _ _) o)
theorem Kept.drew (h : Kept w W S) : Kept w W.drew S := ⟨h.1, h.2, h.3⟩
theorem Kept.drewN (h : Kept w W S) (m : Nat) : Kept w (W.drewN m) S := ⟨h.1, h.2, h.3⟩
theorem Kept.setCell (h : Kept w W S) {p : Addr} (hp : S p.block ∨ w.heap.size ≤ p.block) (u : Value) : Kept w (W.setCell p u) S :=
  h.then_ (S2 := fun k => k = p.block) ⟨by simp [World.setCell], fun i _ hn => Below.heap_setCell W p u i hn, Calm.set W p u⟩ (fun k hk => by rw [hk]; exact hp)
theorem Kept.old (h : Kept w W S) : Go.Proofs.YtaalafnkglbcpaaW.PrintWords.Kept w W S := ⟨h.1, h.2⟩
theorem blk_kept {g : Nat} {o : Obj} (hb : W.heap[g]? = some o) (hk : Kept W W2 S) (hne : ¬ S g) : W2.heap[g]? = some o := Go.Proofs.YtaalafnkglbcpaaW.PrintWords.blk_kept hb hk.old hne
theorem cell_kept {a : Addr} {v : Value} (hc : W.cell? a = some v) (hk : Kept W W2 S) (hne : ¬ S a.block) : W2.cell? a = some v := Go.Proofs.YtaalafnkglbcpaaW.PrintWords.cell_kept hc hk.old hne
theorem Kd.R_kept {α : Type} {d : Kd α} {e base : Nat} {ok : Nat → Prop} {v : Value} {xs : List α} (h : d.R e W base ok v xs) (hk : Kept W W2 S) (hne : ∀ k, ok k → ¬ S k) : d.R e W2 base ok v xs := Go.Proofs.YtaalafnkglbcpaaW.PrintWords.Kd.R_kept h hk.old hne
theorem Kd.C_kept_own {α : Type} {d : Kd α} {e base n : Nat} {A : Option Addr} {c : Nat} {ok : Nat → Prop} {xs : List α} (h : d.R e W base ok (.slice A n c) xs) (hok : ∀ k, ok k → ¬ S k) : ∀ W', Kept W W' S → d.C W' A n xs := fun W' hk => Go.Proofs.YtaalafnkglbcpaaW.PrintWords.Kd.C_kept_own h hok W' hk.old
end
end Go.Proofs.Ytaalafnkglbcpaa.PL
end

/- The maker of gates (synth.maker): what its blocks hold; put (function 59), walked by hand. Own text of this claim. -/
section
namespace Go.Proofs.Ytaalafnkglbcpaa.SY
open Go.RowKit Go.WideMaps Go.Maps Go.Proofs.YtaalafnkglbcpaaW.PrintWords Go.Proofs.YtaalafnkglbcpaaW.PrintLast Go.Proofs.YtaalafnkglbcpaaW.PrintMore
open Go.Proofs.Ytaalafnkglbcpaa.PG (S50 z50 k50 GateOk GatesOk)
open Go.Proofs.Ytaalafnkglbcpaa.PL (MapIs Calm)
set_option linter.unusedVariables false
set_option linter.unusedSimpArgs false
abbrev Kept := PL.Kept

def MkS (B mb : Nat) (vg : Value) : Nat → Prop := fun k => k = B ∨ k = mb ∨ some k = vg.ownBlock
structure MkI (W : World) (base B mb : Nat) (vg : Value) (gs : List S50) : Prop where
  blk : W.heap[B]? = some (.cells #[vg, .map (some mb)] 101 (0, 0))
  rg : Kd.R k50 50 W base (fun _ => True) vg gs
  om : ∃ D, W.ownsMap Try.prog 50 (plainElem (H := Unit) Try.prog 3) mb gs.length D ∧ MapIs D (gs.map litG)
  lob : base ≤ B
  lom : base ≤ mb
structure MkStep (w W : World) (B mb : Nat) (vg vg' : Value) : Prop where
  kp : Kept w W (MkS B mb vg)
  near : vg'.ownBlock = vg.ownBlock ∨ ∃ b, vg'.ownBlock = some b ∧ w.heap.size ≤ b
section
variable {w W W' W2 : World} {base B mb : Nat} {vg vg' vg2 : Value} {gs gs' : List S50}
theorem MkStep.refl (w : World) (B mb : Nat) (vg : Value) : MkStep w w B mb vg vg := ⟨PL.Kept.refl w _, .inl rfl⟩
theorem MkStep.then_ (h : MkStep w W B mb vg vg') (g : MkStep W W2 B mb vg' vg2) : MkStep w W2 B mb vg vg2 := by
  refine ⟨h.kp.then_ g.kp (fun k hk => ?_), ?_⟩
  · rcases hk with hk | hk | hk
    · exact .inl (.inl hk)
    · exact .inl (.inr (.inl hk))
    · rcases h.near with e | ⟨b, e, hb⟩
      · exact .inl (.inr (.inr (by rw [hk, e])))
      · exact .inr (by rw [e] at hk; injection hk with hk; omega)
  · rcases g.near with e | ⟨b, e, hb⟩
    · rcases h.near with e2 | ⟨b, e2, hb⟩
      · exact .inl (e.trans e2)
      · exact .inr ⟨b, e.trans e2, hb⟩
    · exact .inr ⟨b, e, Nat.le_trans h.kp.sz hb⟩
theorem MkI.mb_lt (h : MkI W base B mb vg gs) : mb < W.heap.size := by obtain ⟨D, h1, _⟩ := h.om; exact h1.lt
theorem MkI.b_lt (h : MkI W base B mb vg gs) : B < W.heap.size := blk_lt h.blk
theorem MkI.b_ne (h : MkI W base B mb vg gs) : some B ≠ vg.ownBlock := Kd.R_ne h.rg h.blk (by decide)
theorem MkI.mb_ne (h : MkI W base B mb vg gs) : some mb ≠ vg.ownBlock := by
  intro e
  obtain ⟨D, h1, _⟩ := h.om
  obtain ⟨cur, hc⟩ := PG.own_type h.rg e.symm
  obtain ⟨es, clock, hb, _⟩ := h1
  rw [hc] at hb
  cases hb
theorem MkI.bm_ne (h : MkI W base B mb vg gs) : B ≠ mb := by
  intro e
  obtain ⟨D, h1, _⟩ := h.om
  obtain ⟨es, clock, hb, _⟩ := h1
  rw [← e, h.blk] at hb
  cases hb
theorem MkI.kept {S : Nat → Prop} (h : MkI W base B mb vg gs) (hk : Kept W W' S) (hS : ∀ k, MkS B mb vg k → ¬ S k) : MkI W' base B mb vg gs := by
  obtain ⟨D, h1, h2⟩ := h.om
  refine ⟨PL.blk_kept h.blk hk (hS _ (.inl rfl)), Kd.R_mono (PL.Kd.R_kept (Kd.R_tight rfl h.rg) hk (fun k hk2 => hS _ (.inr (.inr hk2)))) (fun _ _ => trivial), ⟨D, ?_, h2⟩, h.lob, h.lom⟩
  obtain ⟨es, clock, hb, h3⟩ := h1
  exact ⟨es, clock, PL.blk_kept hb hk (hS _ (.inr (.inl rfl))), h3⟩
theorem MkI.alloc (h : MkI W base B mb vg gs) (o : Obj) : MkI (W.alloc o) base B mb vg gs := h.kept ((PL.Kept.refl W (fun _ => False)).alloc o) (fun _ _ h => h)
theorem MkI.drewN (h : MkI W base B mb vg gs) (n : Nat) : MkI (W.drewN n) base B mb vg gs := h.kept ((PL.Kept.refl W (fun _ => False)).drewN n) (fun _ _ h => h)
theorem MkI.below (h : MkI W base B mb vg gs) (hb : Below W.heap.size W W') : MkI W' base B mb vg gs := h.kept (PL.Kept.of_below hb (fun _ => False)) (fun _ _ h => h)
end
theorem wf_small {n : Int} (h0 : 0 ≤ n) (h1 : n ≤ 100000) : (Lit.int .i64 n).wf = true := by
  have hm : IntKind.i64.min = -9223372036854775808 := by decide +kernel
  have hx : IntKind.i64.max = 9223372036854775807 := by decide +kernel
  simp only [Lit.wf]
  simp
  omega
structure Sm (g : S50) : Prop where
  a : 0 ≤ g.f0 ∧ g.f0 ≤ 1000
  b : 0 ≤ g.f1 ∧ g.f1 ≤ 1000
  c : 0 ≤ g.f2 ∧ g.f2 ≤ 1000
  d : 0 ≤ g.f3 ∧ g.f3 ≤ 1000
  e : 0 ≤ g.f4 ∧ g.f4 ≤ 1000
theorem sm_of {ins nf : Int} {i : Nat} {g : S50} (h : GateOk ins nf i g) (hi : i ≤ 1000) (h1 : ins ≤ 1000) (h2 : nf ≤ 1000) : Sm g := by
  rcases h with ⟨h, h3, h4, h5, h6, h7⟩ | ⟨h, h3, h4, h5, h6, h7⟩ | ⟨h, h3, h4, h5, h6, h7⟩ | ⟨h, h3, h4, h5, h6, h7⟩ | ⟨h, h3, h4, h5, h6, h7, h8⟩ | ⟨h, h3, h4, h5, h6, h7, h8, h9⟩
  all_goals exact ⟨by omega, by omega, by omega, by omega, by omega⟩
theorem Sm.key {g : S50} (h : Sm g) : keyOf Try.prog 50 (gval g) = some (litG g) := key_g g (wf_small h.a.1 (by have := h.a.2; omega)) (wf_small h.b.1 (by have := h.b.2; omega)) (wf_small h.c.1 (by have := h.c.2; omega)) (wf_small h.d.1 (by have := h.d.2; omega)) (wf_small h.e.1 (by have := h.e.2; omega))
theorem gval_inj {g h : S50} (e : gval g = gval h) : g = h := by
  obtain ⟨a, b, c, d, x⟩ := g
  obtain ⟨a', b', c', d', x'⟩ := h
  simp only [gval, Value.agg.injEq, Array.mk.injEq, List.cons.injEq, Value.int.injEq, true_and, and_true] at e
  simp [e]
theorem litG_inj {g h : S50} (hg : Sm g) (hh : Sm h) (e : litG g = litG h) : g = h := gval_inj (lawG.inj hg.key (by rw [e]; exact hh.key))
/-- What a call of a maker's method gives: the gates after it, the gate that comes back. -/
def MkPost (base B mb : Nat) (vg : Value) (ins nf : Int) (gs : List S50) (n : Nat) (F : Nat → Nat → Bool) (w : World) (e : Ending) (w' : World) : Prop :=
  ∃ (vg' : Value) (gs' : List S50) (k : Nat), e = .returned (.int .i64 (k : Int)) ∧ MkI w' base B mb vg' gs' ∧ MkStep w w' B mb vg vg' ∧ Ext ins nf gs gs' n k F
theorem info50p : (Try.prog.info? 50).map (fun i => (i.zero, i.size, i.bytes)) = some (some (.agg #[.int .i64 0, .int .i64 0, .int .i64 0, .int .i64 0, .int .i64 0]), 5, 40) := by kernel_rfl
theorem info36 : (Try.prog.info? 36).map (·.size) = some 1 := by kernel_rfl
set_option maxHeartbeats 4000000 in
set_option maxRecDepth 100000 in
theorem put_calls {w : World} {base B mb : Nat} {vg : Value} {gs : List S50} {ins nf : Int} (h : MkI w base B mb vg gs) (hgs : GatesOk ins nf gs) (hl : gs.length < 1000) (hi : ins ≤ 1000) (hnf : nf ≤ 1000) (g : S50) (hg : GateOk ins nf gs.length g) :
    Calls Try.prog 59 #[.pointer (some ⟨B, 0, none⟩), gval g] w (MkPost base B mb vg ins nf gs 1 (fun s x => gb g s x (bvals gs s x)) w) := by
  have hsm := sm_of hg (by omega) hi hnf
  have HK := Aside0.mk hsm.key
  obtain ⟨D, hom, hmi⟩ := h.om
  have H0 := Aside0.mk h
  have H1 := Aside0.mk (h.alloc (.cells #[.int .i64 g.f0, .int .i64 g.f1, .int .i64 g.f2, .int .i64 g.f3, .int .i64 g.f4] 50))
  have BX := Aside0.mk (blk_new w (.cells #[.int .i64 g.f0, .int .i64 g.f1, .int .i64 g.f2, .int .i64 g.f3, .int .i64 g.f4] 50))
  have OM := Aside0.mk (hom.alloc (.cells #[.int .i64 g.f0, .int .i64 g.f1, .int .i64 g.f2, .int .i64 g.f3, .int .i64 g.f4] 50))
  have KP := Aside0.mk ((PL.Kept.refl w (MkS B mb vg)).alloc (.cells #[.int .i64 g.f0, .int .i64 g.f1, .int .i64 g.f2, .int .i64 g.f3, .int .i64 g.f4] 50))
  have HMI := Aside0.mk hmi
  have BNE : Aside0 (w.heap.size ≠ mb ∧ w.heap.size ≠ B ∧ some w.heap.size ≠ vg.ownBlock ∧ B ≠ mb) := ⟨by have := h.mb_lt; omega, by have := h.b_lt; omega, fun e => by have := Kd.R_lt h.rg _ e.symm; omega, h.bm_ne⟩
  have LOB := Aside0.mk h.lob
  have LOM := Aside0.mk h.lom
  have LEN := Aside0.mk (Nat.le_refl w.heap.size)
  have HG := Aside0.mk hg
  have HGS := Aside0.mk hgs
  clear h hom hmi hsm hg hgs
  obtain ⟨f0, f1, f2, f3, f4⟩ := g
  simp only [gval] at HK BX OM KP H1 ⊢
  go_enter Try.func59, Try.ntmps59
  go_wp2_with fail
  generalize hb1 : w.heap.size = b1 at *
  have HB1 := Aside0.mk hb1
  clear hb1
  generalize w.alloc (.cells #[.int .i64 f0, .int .i64 f1, .int .i64 f2, .int .i64 f3, .int .i64 f4] 50) = w1 at *
  have z0 : w1.cell? ⟨b1, 0, none⟩ = some (.int .i64 f0) := (blk_cell BX.out 0).trans rfl
  have z1 : w1.cell? ⟨b1, 1, none⟩ = some (.int .i64 f1) := (blk_cell BX.out 1).trans rfl
  have z2 : w1.cell? ⟨b1, 2, none⟩ = some (.int .i64 f2) := (blk_cell BX.out 2).trans rfl
  have z3 : w1.cell? ⟨b1, 3, none⟩ = some (.int .i64 f3) := (blk_cell BX.out 3).trans rfl
  have z4 : w1.cell? ⟨b1, 4, none⟩ = some (.int .i64 f4) := (blk_cell BX.out 4).trans rfl
  have m0 : w1.cell? ⟨B, 0, none⟩ = some vg := (blk_cell H1.out.blk 0).trans rfl
  have m1 : w1.cell? ⟨B, 1, none⟩ = some (.map (some mb)) := (blk_cell H1.out.blk 1).trans rfl
  by_cases hin : ∃ k : Nat, k < gs.length ∧ gs.getD k z50 = ⟨f0, f1, f2, f3, f4⟩
  · obtain ⟨k, hk, hkg⟩ := hin
    have hmem : (gs.map litG)[k]? = some (litG ⟨f0, f1, f2, f3, f4⟩) := by
      rw [List.getElem?_map, List.getElem?_eq_getElem hk, Option.map_some, ← hkg, List.getD_eq_getElem?_getD, List.getElem?_eq_getElem hk]; rfl
    have hrun : ∀ n, (Instr.lookup 99 (.map (some mb)) (.agg #[.int .i64 f0, .int .i64 f1, .int .i64 f2, .int .i64 f3, .int .i64 f4]) true).run Try.prog (w1.drewN n) = .ok (.tuple #[.int .i64 (k : Int), .bool true]) (w1.drewN n) := fun n => by
      obtain ⟨v, ps, h1, h2⟩ := (PL.owns_drewN OM.out n).look_ok lawG Try.underlying99 (PL.zero3 _) (zd := .lit (.int .i64 0)) (zp := []) (plainElem_int Try.underlying3 (by decide)) HK.out
      rw [(HMI.out.has _).2 (List.mem_of_getElem? hmem)] at h1
      rw [HMI.out.at' _ _ hmem] at h2
      obtain ⟨c, rfl, hc, _⟩ := plainElem_int_inv Try.underlying3 h2
      simp only [Prod.mk.injEq, DataW.lit.injEq, Lit.int.injEq, true_and] at hc
      rw [← hc.1] at h1
      exact h1
    clear hmem
    go_quiet (fail)
    go_wp2
    go_ret
    exact ⟨vg, gs, k, rfl, H1.out.drewN nq, ⟨KP.out.drewN nq, .inl rfl⟩, put_old HGS.out hk hkg⟩
  · have hnm : litG ⟨f0, f1, f2, f3, f4⟩ ∉ gs.map litG := fun hmem => by
      obtain ⟨g', h1, h2⟩ := List.mem_map.1 hmem
      obtain ⟨k, hk, hkg⟩ := List.getElem_of_mem h1
      refine hin ⟨k, hk, ?_⟩
      rw [List.getD_eq_getElem?_getD, List.getElem?_eq_getElem hk]
      show gs[k] = _
      rw [hkg]
      have hok := HGS.out k hk
      rw [List.getD_eq_getElem?_getD, List.getElem?_eq_getElem hk] at hok
      have hok2 : GateOk ins nf k g' := by rw [← hkg]; exact hok
      exact litG_inj (sm_of hok2 (by omega) hi hnf) (sm_of HG.out (by omega) hi hnf) h2
    have hrun : ∀ n, (Instr.lookup 99 (.map (some mb)) (.agg #[.int .i64 f0, .int .i64 f1, .int .i64 f2, .int .i64 f3, .int .i64 f4]) true).run Try.prog (w1.drewN n) = .ok (.tuple #[.int .i64 0, .bool false]) (w1.drewN n) := fun n => by
      obtain ⟨v, ps, h1, h2⟩ := (PL.owns_drewN OM.out n).look_ok lawG Try.underlying99 (PL.zero3 _) (zd := .lit (.int .i64 0)) (zp := []) (plainElem_int Try.underlying3 (by decide)) HK.out
      have hh : Maps.has D (litG ⟨f0, f1, f2, f3, f4⟩) = false := by
        cases h : Maps.has D (litG ⟨f0, f1, f2, f3, f4⟩)
        · rfl
        · exact absurd ((HMI.out.has _).1 h) hnm
      rw [hh] at h1
      rw [Maps.atKey_of_not_has hh] at h2
      obtain ⟨c, rfl, hc, _⟩ := plainElem_int_inv Try.underlying3 h2
      simp only [Prod.mk.injEq, DataW.lit.injEq, Lit.int.injEq, true_and] at hc
      rw [← hc.1] at h1
      exact h1
    go_quiet (fail)
    have MI2 : Aside0 (MapIs (D.put (litG ⟨f0, f1, f2, f3, f4⟩) (.lit (.int .i64 (gs.length : Nat)))) ((gs ++ [(⟨f0, f1, f2, f3, f4⟩ : S50)]).map litG)) := ⟨by
      have h := HMI.out.put (lawG.key HK.out) hnm
      rw [List.length_map] at h
      rw [List.map_append]; exact h⟩
    have H2 := Aside0.mk (H1.out.drewN nq)
    have OM2 := Aside0.mk (PL.owns_drewN OM.out nq)
    have KP2 := Aside0.mk (KP.out.drewN nq)
    have BX2 := Aside0.mk (blk_drewN BX.out nq)
    have HWF : Aside0 ((Lit.int .i64 (gs.length : Nat)).wf = true) := ⟨wf_small (by omega) (by omega)⟩
    clear hin hnm hrun H1 OM KP BX z0 z1 z2 z3 z4 m0 m1
    generalize w1.drewN nq = w2 at *
    obtain ⟨AG, cg, rfl⟩ := Kd.R_slice H2.out.rg
    go_wp2_with fail
    refine start_ (n := 11) (S := fun w' => w'.cell? ⟨B, 0, none⟩ = some (.slice AG gs.length cg) ∧ w'.cell? ⟨B, 1, none⟩ = some (.map (some mb)) ∧ w'.cell? ⟨b1, 0, none⟩ = some (.int .i64 f0) ∧ w'.cell? ⟨b1, 1, none⟩ = some (.int .i64 f1) ∧ w'.cell? ⟨b1, 2, none⟩ = some (.int .i64 f2) ∧ w'.cell? ⟨b1, 3, none⟩ = some (.int .i64 f3) ∧ w'.cell? ⟨b1, 4, none⟩ = some (.int .i64 f4)) (ds := [10]) #[false, false, false, false, false, false, false, false, false, false, false] (by kernel_rfl) rfl rfl ⟨(blk_cell H2.out.blk 0).trans rfl, (blk_cell H2.out.blk 1).trans rfl, (blk_cell BX2.out 0).trans rfl, (blk_cell BX2.out 1).trans rfl, (blk_cell BX2.out 2).trans rfl, (blk_cell BX2.out 3).trans rfl, (blk_cell BX2.out 4).trans rfl⟩ (fun hHeld => ?_)
    have H3 := Aside0.mk (H2.out.drewN 1)
    have OM3 := Aside0.mk (PL.owns_drewN OM2.out 1)
    have KP3 := Aside0.mk (KP2.out.drewN 1)
    have BX3 := Aside0.mk (blk_drewN BX2.out 1)
    rw [show w2.drewN 1 = w2.drew from rfl] at H3 OM3 KP3 BX3
    clear H2 OM2 KP2 BX2
    generalize w2.drew = w3 at *
    refine pure_ (i := 0) (N := (some 18)) (v := ?_) (a' := ?_) #[true, false, false, false, false, false, false, false, false, false, false] rfl rfl (by kernel_rfl) (fun _ _ _ h => h) (Or.inl ⟨by rfl, ?_⟩) ?_ ?_
    rotate_left
    · intro w'
      go_simp
      with_reducible rfl
    rotate_left
    · simp only [Act.put, List.setIfInBounds_toArray, List.set_cons_zero, List.set_cons_succ, i64_w, i32_w]
      rfl
    refine pure_ (i := 1) (N := (some 19)) (v := ?_) (a' := ?_) #[true, true, false, false, false, false, false, false, false, false, false] rfl rfl (by kernel_rfl) (fun _ _ _ h => h) (Or.inl ⟨by rfl, ?_⟩) ?_ ?_
    rotate_left
    · intro w'
      go_simp
      with_reducible rfl
    rotate_left
    · simp only [Act.put, List.setIfInBounds_toArray, List.set_cons_zero, List.set_cons_succ, i64_w, i32_w]
      rfl
    refine pure_ (i := 2) (N := (some 20)) (v := ?_) (a' := ?_) #[true, true, true, false, false, false, false, false, false, false, false] rfl rfl (by kernel_rfl) (fun _ _ _ h => h) (Or.inl ⟨by rfl, ?_⟩) ?_ ?_
    rotate_left
    · intro w'
      go_simp
      with_reducible rfl
    rotate_left
    · simp only [Act.put, List.setIfInBounds_toArray, List.set_cons_zero, List.set_cons_succ, i64_w, i32_w]
      rfl
    refine take_ (i := 3) (N := (some 21)) (v := ?_) (a' := ?_) #[true, true, true, true, false, false, false, false, false, false, false] rfl rfl (by kernel_rfl) (fun _ _ _ h => h) (Or.inl ⟨by rfl, ?_⟩) hHeld ?_ ?_
    rotate_left
    · rintro w' ⟨s0, s1, s2, s3, s4, s5, s6⟩
      go_simp
      with_reducible rfl
    rotate_left
    · simp only [Act.put, List.setIfInBounds_toArray, List.set_cons_zero, List.set_cons_succ, i64_w, i32_w]
      rfl
    refine take_ (i := 4) (N := (some 22)) (v := ?_) (a' := ?_) #[true, true, true, true, true, false, false, false, false, false, false] rfl rfl (by kernel_rfl) (fun _ _ _ h => h) (Or.inl ⟨by rfl, ?_⟩) hHeld ?_ ?_
    rotate_left
    · rintro w' ⟨s0, s1, s2, s3, s4, s5, s6⟩
      go_simp
      with_reducible rfl
    rotate_left
    · simp only [Act.put, List.setIfInBounds_toArray, List.set_cons_zero, List.set_cons_succ, i64_w, i32_w]
      rfl
    refine pure_ (i := 5) (N := (some 23)) (v := ?_) (a' := ?_) #[true, true, true, true, true, true, false, false, false, false, false] rfl rfl (by kernel_rfl) (fun _ _ _ h => h) (Or.inl ⟨by rfl, ?_⟩) ?_ ?_
    rotate_left
    · intro w'
      go_simp
      with_reducible rfl
    rotate_left
    · simp only [Act.put, List.setIfInBounds_toArray, List.set_cons_zero, List.set_cons_succ, i64_w, i32_w]
      rfl
    refine pure_ (i := 6) (N := (some 24)) (v := ?_) (a' := ?_) #[true, true, true, true, true, true, true, false, false, false, false] rfl rfl (by kernel_rfl) (fun _ _ _ h => h) (Or.inl ⟨by rfl, ?_⟩) ?_ ?_
    rotate_left
    · intro w'
      go_simp
      with_reducible rfl
    rotate_left
    · simp only [Act.put, List.setIfInBounds_toArray, List.set_cons_zero, List.set_cons_succ, i64_w, i32_w]
      rfl
    refine pure_ (i := 7) (N := (some 25)) (v := ?_) (a' := ?_) #[true, true, true, true, true, true, true, true, false, false, false] rfl rfl (by kernel_rfl) (fun _ _ _ h => h) (Or.inl ⟨by rfl, ?_⟩) ?_ ?_
    rotate_left
    · intro w'
      go_simp
      with_reducible rfl
    rotate_left
    · simp only [Act.put, List.setIfInBounds_toArray, List.set_cons_zero, List.set_cons_succ, i64_w, i32_w]
      rfl
    refine take_ (i := 8) (N := (some 26)) (v := ?_) (a' := ?_) #[true, true, true, true, true, true, true, true, true, false, false] rfl rfl (by kernel_rfl) (fun _ _ _ h => h) (Or.inl ⟨by rfl, ?_⟩) hHeld ?_ ?_
    rotate_left
    · rintro w' ⟨s0, s1, s2, s3, s4, s5, s6⟩
      go_simp
      with_reducible rfl
    rotate_left
    · simp only [Act.put, List.setIfInBounds_toArray, List.set_cons_zero, List.set_cons_succ, i64_w, i32_w]
      rfl
    refine pure_ (i := 9) (N := (some 27)) (v := ?_) (a' := ?_) #[true, true, true, true, true, true, true, true, true, true, false] rfl rfl (by kernel_rfl) (fun _ _ _ h => h) (Or.inl ⟨by rfl, ?_⟩) ?_ ?_
    rotate_left
    · intro w'
      go_simp
      with_reducible rfl
    rotate_left
    · simp only [Act.put, List.setIfInBounds_toArray, List.set_cons_zero, List.set_cons_succ, i64_w, i32_w]
      rfl
    refine last_ (i := 10) (N := none) #[true, true, true, true, true, true, true, true, true, true, true] rfl rfl (by kernel_rfl) (by decide) (fun K hK => ?_)
    obtain ⟨w4, hrun, r1, r2⟩ := OM3.out.update lawG Try.underlying99 (by unfold maxLen; omega) HK.out (plainElem_int (H := Unit) Try.underlying3 HWF.out)
    refine skip_ (w1 := ?_) (by rfl) rfl ?_ ?_
    rotate_left
    · go_simp
      rfl
    refine hK.out _ _ ?_
    clear hK K
    refine done_ (by kernel_rfl) ?_
    have H4 : Aside0 (w4.heap[B]? = some (.cells #[.slice AG gs.length cg, .map (some mb)] 101 (0, 0)) ∧ Kd.R k50 50 w4 base (fun _ => True) (.slice AG gs.length cg) gs) := ⟨blk_grown H3.out.blk r2 (by have := H3.out.bm_ne; simpa using this), Kd.R_grown1 H3.out.rg rfl r2 H3.out.mb_ne⟩
    have OM4 := Aside0.mk r1
    have KP4 : Aside0 (Kept w w4 (MkS B mb (.slice AG gs.length cg))) := ⟨KP3.out.then_ (S2 := fun k => k = mb) ⟨r2.size, fun i hi hn => r2.block i hi (by simpa using fun e => hn e), PL.Calm.grown r2⟩ (fun k hk => .inl (.inr (.inl hk)))⟩
    have BX4 := Aside0.mk (blk_grown BX3.out r2 (by have := BNE.out.1; simpa using this))
    have MBNE := Aside0.mk H3.out.mb_ne
    clear r1 r2 hrun H3 OM3 KP3 BX3
    go_wp2_with fail
    refine start_ (n := 11) (S := fun w' => w'.cell? ⟨B, 0, none⟩ = some (.slice AG gs.length cg) ∧ w'.cell? ⟨b1, 0, none⟩ = some (.int .i64 f0) ∧ w'.cell? ⟨b1, 1, none⟩ = some (.int .i64 f1) ∧ w'.cell? ⟨b1, 2, none⟩ = some (.int .i64 f2) ∧ w'.cell? ⟨b1, 3, none⟩ = some (.int .i64 f3) ∧ w'.cell? ⟨b1, 4, none⟩ = some (.int .i64 f4)) (ds := [10]) #[false, false, false, false, false, false, false, false, false, false, false] (by kernel_rfl) rfl rfl ⟨(blk_cell H4.out.1 0).trans rfl, (blk_cell BX4.out 0).trans rfl, (blk_cell BX4.out 1).trans rfl, (blk_cell BX4.out 2).trans rfl, (blk_cell BX4.out 3).trans rfl, (blk_cell BX4.out 4).trans rfl⟩ (fun hHeld => ?_)
    have H5 : Aside0 (w4.drew.heap[B]? = some (.cells #[.slice AG gs.length cg, .map (some mb)] 101 (0, 0)) ∧ Kd.R k50 50 w4.drew base (fun _ => True) (.slice AG gs.length cg) gs) := ⟨blk_drew H4.out.1, Kd.R_drew H4.out.2⟩
    have OM5 := Aside0.mk (PL.owns_drewN OM4.out 1)
    have KP5 := Aside0.mk (KP4.out.drewN 1)
    have BX5 := Aside0.mk (blk_drewN BX4.out 1)
    rw [show w4.drewN 1 = w4.drew from rfl] at OM5 KP5 BX5
    clear H4 OM4 KP4 BX4
    generalize w4.drew = w5 at *
    refine pure_ (i := 0) (N := (some 28)) (v := ?_) (a' := ?_) #[true, false, false, false, false, false, false, false, false, false, false] rfl rfl (by kernel_rfl) (fun _ _ _ h => h) (Or.inl ⟨by rfl, ?_⟩) ?_ ?_
    rotate_left
    · intro w'
      go_simp
      with_reducible rfl
    rotate_left
    · simp only [Act.put, List.setIfInBounds_toArray, List.set_cons_zero, List.set_cons_succ, i64_w, i32_w]
      rfl
    refine pure_ (i := 1) (N := (some 29)) (v := ?_) (a' := ?_) #[true, true, false, false, false, false, false, false, false, false, false] rfl rfl (by kernel_rfl) (fun _ _ _ h => h) (Or.inl ⟨by rfl, ?_⟩) ?_ ?_
    rotate_left
    · intro w'
      go_simp
      with_reducible rfl
    rotate_left
    · simp only [Act.put, List.setIfInBounds_toArray, List.set_cons_zero, List.set_cons_succ, i64_w, i32_w]
      rfl
    refine pure_ (i := 2) (N := (some 30)) (v := ?_) (a' := ?_) #[true, true, true, false, false, false, false, false, false, false, false] rfl rfl (by kernel_rfl) (fun _ _ _ h => h) (Or.inl ⟨by rfl, ?_⟩) ?_ ?_
    rotate_left
    · intro w'
      go_simp
      with_reducible rfl
    rotate_left
    · simp only [Act.put, List.setIfInBounds_toArray, List.set_cons_zero, List.set_cons_succ, i64_w, i32_w]
      rfl
    refine pure_ (i := 3) (N := (some 31)) (v := ?_) (a' := ?_) #[true, true, true, true, false, false, false, false, false, false, false] rfl rfl (by kernel_rfl) (fun _ _ _ h => h) (Or.inl ⟨by rfl, ?_⟩) ?_ ?_
    rotate_left
    · intro w'
      go_simp
      with_reducible rfl
    rotate_left
    · simp only [Act.put, List.setIfInBounds_toArray, List.set_cons_zero, List.set_cons_succ, i64_w, i32_w]
      rfl
    refine take_ (i := 4) (N := (some 32)) (v := ?_) (a' := ?_) #[true, true, true, true, true, false, false, false, false, false, false] rfl rfl (by kernel_rfl) (fun _ _ _ h => h) (Or.inl ⟨by rfl, ?_⟩) hHeld ?_ ?_
    rotate_left
    · rintro w' ⟨s0, s1, s2, s3, s4, s5⟩
      go_simp
      with_reducible rfl
    rotate_left
    · simp only [Act.put, List.setIfInBounds_toArray, List.set_cons_zero, List.set_cons_succ, i64_w, i32_w]
      rfl
    refine take_ (i := 5) (N := (some 33)) (v := ?_) (a' := ?_) #[true, true, true, true, true, true, false, false, false, false, false] rfl rfl (by kernel_rfl) (fun _ _ _ h => h) (Or.inl ⟨by rfl, ?_⟩) hHeld ?_ ?_
    rotate_left
    · rintro w' ⟨s0, s1, s2, s3, s4, s5⟩
      go_simp
      with_reducible rfl
    rotate_left
    · simp only [Act.put, List.setIfInBounds_toArray, List.set_cons_zero, List.set_cons_succ, i64_w, i32_w]
      rfl
    refine one_ (i := 6) (N := (some 34)) #[true, true, true, true, true, true, true, false, false, false, false] rfl rfl (by kernel_rfl) (by decide) (fun K hK => ?_)
    refine value_ (w1 := ?_) (v := ?_) (by rfl) rfl ?_ ?_
    rotate_left 2
    · go_simp
      constructor
      · rfl
      · rfl
    refine hK.out _ _ ⟨(World.cell?_alloc_lt _ _ _ (World.block_lt_of_cell? _ _ hHeld.1)).trans hHeld.1, (World.cell?_alloc_lt _ _ _ (World.block_lt_of_cell? _ _ hHeld.2.1)).trans hHeld.2.1, (World.cell?_alloc_lt _ _ _ (World.block_lt_of_cell? _ _ hHeld.2.2.1)).trans hHeld.2.2.1, (World.cell?_alloc_lt _ _ _ (World.block_lt_of_cell? _ _ hHeld.2.2.2.1)).trans hHeld.2.2.2.1, (World.cell?_alloc_lt _ _ _ (World.block_lt_of_cell? _ _ hHeld.2.2.2.2.1)).trans hHeld.2.2.2.2.1, (World.cell?_alloc_lt _ _ _ (World.block_lt_of_cell? _ _ hHeld.2.2.2.2.2)).trans hHeld.2.2.2.2.2⟩ (fun hHeld => ?_)
    clear hK K
    refine norm_ (a' := ?_) ?_ ?_
    rotate_left
    · show Act.put _ (some 34) _ = _
      simp only [Act.put, List.setIfInBounds_toArray, List.set_cons_zero, List.set_cons_succ, i64_w, i32_w]
      rfl
    refine one_ (i := 7) (N := (some 35)) #[true, true, true, true, true, true, true, true, false, false, false] rfl rfl (by kernel_rfl) (by decide) (fun K hK => ?_)
    refine Kd.R_append_step k50 (w0 := w5) base (by rfl) (.tmp 32) (.tmp 34) 36 50 (.agg #[.int .i64 0, .int .i64 0, .int .i64 0, .int .i64 0, .int .i64 0]) 40 rfl Try.underlying36 info50p rfl (by decide) (by omega) (.slice AG gs.length cg) gs (⟨f0, f1, f2, f3, f4⟩ : S50) [.int .i64 f0, .int .i64 f1, .int .i64 f2, .int .i64 f3, .int .i64 f4] (fun _ => True) (fun _ => False) rfl rfl (PG.k50_mkM _ _ _ ⟨f0, f1, f2, f3, f4⟩) (fun _ hk => hk.elim) (fun _ _ => trivial) H5.out.2 (Below.refl _ _) (by have h1 := blk_lt H5.out.1; have h2 := LOB.out; omega) (by omega) ?_
    intro v7 w7 ho hb hg hat
    have H7 : Aside0 (w7.heap[B]? = some (.cells #[.slice AG gs.length cg, .map (some mb)] 101 (0, 0))) := ⟨blk_grown H5.out.1 hg (Kd.R_ne H5.out.2 H5.out.1 (by decide))⟩
    have R7 := Aside0.mk ho
    have BX7 := Aside0.mk (blk_grown BX5.out hg BNE.out.2.2.1)
    have OM7 : Aside0 (w7.ownsMap Try.prog 50 (plainElem (H := Unit) Try.prog 3) mb (gs.length + 1) (D.put (litG ⟨f0, f1, f2, f3, f4⟩) (.lit (.int .i64 (gs.length : Nat))))) := ⟨OM5.out.kept hg (fun e => MBNE.out e)⟩
    have KP7 : Aside0 (Kept w w7 (MkS B mb (.slice AG gs.length cg))) := ⟨KP5.out.then_ (S2 := fun k => some k = (Value.slice AG gs.length cg).ownBlock) ⟨hg.size, fun i hi hn => hg.block i hi hn, PL.Calm.grown hg⟩ (fun k hk => .inl (.inr (.inr hk)))⟩
    have SZ7 := Aside0.mk (Nat.le_trans KP5.out.sz (Nat.le_refl _))
    have HAT := Aside0.mk hat
    obtain ⟨A7, c7, e7⟩ := Kd.R_slice ho
    rw [List.length_append, List.length_singleton] at e7
    subst e7
    clear ho hb hg hat H5 OM5 KP5 BX5
    refine hK.out _ _ ⟨(blk_cell H7.out 0).trans rfl, (blk_cell BX7.out 0).trans rfl, (blk_cell BX7.out 1).trans rfl, (blk_cell BX7.out 2).trans rfl, (blk_cell BX7.out 3).trans rfl, (blk_cell BX7.out 4).trans rfl⟩ (fun hHeld => ?_)
    clear hK K
    refine norm_ (a' := ?_) ?_ ?_
    rotate_left
    · show Act.put _ (some 35) _ = _
      simp only [Act.put, List.setIfInBounds_toArray, List.set_cons_zero, List.set_cons_succ, i64_w, i32_w]
      rfl
    refine pure_ (i := 8) (N := (some 36)) (v := ?_) (a' := ?_) #[true, true, true, true, true, true, true, true, true, false, false] rfl rfl (by kernel_rfl) (fun _ _ _ h => h) (Or.inl ⟨by rfl, ?_⟩) ?_ ?_
    rotate_left
    · intro w'
      go_simp
      with_reducible rfl
    rotate_left
    · simp only [Act.put, List.setIfInBounds_toArray, List.set_cons_zero, List.set_cons_succ, i64_w, i32_w]
      rfl
    refine pure_ (i := 9) (N := (some 37)) (v := ?_) (a' := ?_) #[true, true, true, true, true, true, true, true, true, true, false] rfl rfl (by kernel_rfl) (fun _ _ _ h => h) (Or.inl ⟨by rfl, ?_⟩) ?_ ?_
    rotate_left
    · intro w'
      go_simp
      with_reducible rfl
    rotate_left
    · simp only [Act.put, List.setIfInBounds_toArray, List.set_cons_zero, List.set_cons_succ, i64_w, i32_w]
      rfl
    refine last_ (i := 10) (N := none) #[true, true, true, true, true, true, true, true, true, true, true] rfl rfl (by kernel_rfl) (by decide) (fun K hK => ?_)
    have q7 : w7.cell? ⟨B, 0, none⟩ = some (.slice AG gs.length cg) := (blk_cell H7.out 0).trans rfl
    have fr7 : w7.frozen? ⟨B, 0, none⟩ = false := blk_frozen H7.out 0
    refine skip_ (w1 := ?_) (by rfl) rfl ?_ ?_
    rotate_left
    · go_simp
      rfl
    refine hK.out _ _ ?_
    clear hK K
    refine done_ (by kernel_rfl) ?_
    have H8 := Aside0.mk (blk_put H7.out 0 (.slice A7 (gs.length + 1) c7) rfl)
    have q8 : (w7.setCell ⟨B, 0, none⟩ (.slice A7 (gs.length + 1) c7)).cell? ⟨B, 0, none⟩ = some (.slice A7 (gs.length + 1) c7) := (blk_cell H8.out 0).trans rfl
    have hw1 : wrap64 (((gs.length + 1 : Nat) : Int) - 1) = (gs.length : Int) := by unfold wrap64; omega
    have R8 : Aside0 (Kd.R k50 50 (w7.setCell ⟨B, 0, none⟩ (.slice A7 (gs.length + 1) c7)) base (fun _ => True) (.slice A7 (gs.length + 1) c7) (gs ++ [(⟨f0, f1, f2, f3, f4⟩ : S50)])) := ⟨Kd.R_set R7.out H7.out (by intro q hq; simp [k50, Kd.iso, Kd.pair, Kd.int, Kd.scalar] at hq; omega) 0 _⟩
    have OM8 := Aside0.mk (OM7.out.setCell (a := ⟨B, 0, none⟩) (by have := BNE.out.2.2.2; exact fun e => this (show B = mb from e.symm)) (.slice A7 (gs.length + 1) c7))
    have KP8 : Aside0 (Kept w (w7.setCell ⟨B, 0, none⟩ (.slice A7 (gs.length + 1) c7)) (MkS B mb (.slice AG gs.length cg))) := ⟨KP7.out.setCell (p := ⟨B, 0, none⟩) (.inl (.inl rfl)) _⟩
    clear q7 fr7 H7 R7 OM7 KP7
    generalize w7.setCell ⟨B, 0, none⟩ (.slice A7 (gs.length + 1) c7) = w8 at *
    go_wp2
    go_ret
    exact ⟨_, gs ++ [(⟨f0, f1, f2, f3, f4⟩ : S50)], gs.length, by go_num, ⟨H8.out, R8.out, ⟨_, by rw [List.length_append, List.length_singleton]; exact OM8.out, MI2.out⟩, LOB.out, LOM.out⟩, ⟨KP8.out, HAT.out.imp (fun h => h) (fun ⟨b, h1, h2⟩ => ⟨b, h1, Nat.le_trans SZ7.out h2⟩)⟩, put_new HGS.out HG.out⟩
end Go.Proofs.Ytaalafnkglbcpaa.SY
end

/- The maker's methods constant (92), bit (79), not (82), mux (80), walked by hand. Own text of this claim. -/
section
namespace Go.Proofs.Ytaalafnkglbcpaa.SY
open Go.RowKit Go.WideMaps Go.Maps Go.Proofs.YtaalafnkglbcpaaW.PrintWords Go.Proofs.YtaalafnkglbcpaaW.PrintLast Go.Proofs.YtaalafnkglbcpaaW.PrintMore
open Go.Proofs.Ytaalafnkglbcpaa.PG (S50 z50 k50 GateOk GatesOk)
set_option linter.unusedVariables false
set_option linter.unusedSimpArgs false
set_option maxHeartbeats 4000000 in
set_option maxRecDepth 100000 in
theorem const_calls {w : World} {base B mb : Nat} {vg : Value} {gs : List S50} (h : MkI w base B mb vg gs) (k : Nat) (hk : k < gs.length) (hl : gs.length ≤ 1000) :
    Calls Try.prog 92 #[.pointer (some ⟨B, 0, none⟩), .int .i64 (k : Int)] w fun e w' => e = .returned (.tuple #[.int .i64 (gs.getD k z50).f4, .bool ((gs.getD k z50).f0 == 0)]) ∧ Drawn0 w w' := by
  obtain ⟨AG, cg, hv, hcg, hC⟩ := Kd.R_reads h.rg
  subst hv
  obtain ⟨ad, rfl, c0, c1, c2, c3, c4⟩ := PG.at_T50 hC (k : Int) (by omega) (by omega)
  have m0 : w.cell? ⟨B, 0, none⟩ = some (.slice (some ad) gs.length cg) := (blk_cell h.blk 0).trans rfl
  have hr : PG.rd_T50 gs (k : Int) = gs.getD k z50 := by unfold PG.rd_T50; simp
  rw [hr] at c0 c1 c2 c3 c4
  rw [Int.toNat_natCast] at c0 c1 c2 c3 c4
  clear hr h hC
  generalize gs.getD k z50 = g at *
  have hkl : (k : Int) < (gs.length : Int) := by omega
  go_enter Try.func92, Try.ntmps92
  go_wp2_with fail
  go_quiet (fail)
  go_wp2
  go_ret2
  exact ⟨rfl, ⟨nq, rfl⟩⟩
section
variable {w : World} {base B mb : Nat} {vg : Value} {gs : List S50} {ins nf : Int}
theorem MkPost.then_ {w w' : World} {n m : Nat} {F G : Nat → Nat → Bool} {vg' : Value} {gs' : List S50} {k : Nat} {e2 : Ending} {w2 : World} (hS : MkStep w w' B mb vg vg') (hE : Ext ins nf gs gs' n k F) (h : MkPost base B mb vg' ins nf gs' m G w' e2 w2) : MkPost base B mb vg ins nf gs (n + m) G w e2 w2 := by
  obtain ⟨vg2, gs2, k2, he, hI, hS2, hE2⟩ := h
  exact ⟨vg2, gs2, k2, he, hI, hS.then_ hS2, hE.then_ hE2⟩
theorem MkPost.cast {n m : Nat} {F G : Nat → Nat → Bool} {e2 : Ending} {w2 : World} (h : MkPost base B mb vg ins nf gs n F w e2 w2) (hn : n ≤ m) (hF : ∀ s x, F s x = G s x) : MkPost base B mb vg ins nf gs m G w e2 w2 := by
  obtain ⟨vg2, gs2, k2, he, hI, hS2, hE2⟩ := h
  exact ⟨vg2, gs2, k2, he, hI, hS2, hE2.cast hn hF⟩
theorem MkStep.drew (w : World) (B mb : Nat) (vg : Value) (n : Nat) : MkStep w (w.drewN n) B mb vg vg := ⟨(PL.Kept.refl w _).drewN n, .inl rfl⟩
theorem MkStep.alloc (w : World) (B mb : Nat) (vg : Value) (o : Obj) : MkStep w (w.alloc o) B mb vg vg := ⟨(PL.Kept.refl w _).alloc o, .inl rfl⟩
set_option maxHeartbeats 4000000 in
set_option maxRecDepth 100000 in
theorem bit_calls (h : MkI w base B mb vg gs) (hgs : GatesOk ins nf gs) (hl : gs.length < 1000) (hi : ins ≤ 1000) (hnf : nf ≤ 1000) (n : Int) (hn0 : 0 ≤ n) (hn1 : n < 2) :
    Calls Try.prog 79 #[.pointer (some ⟨B, 0, none⟩), .int .i64 n] w (MkPost base B mb vg ins nf gs 1 (fun s x => decide (n = 1)) w) := by
  have PUT := Aside0.mk (put_calls h hgs hl hi hnf ⟨0, 0, 0, 0, n⟩ (.inl ⟨rfl, rfl, rfl, rfl, hn0, hn1⟩))
  simp only [gval] at PUT
  clear h hgs
  go_enter Try.func79, Try.ntmps79
  go_wp2_with fail
  (with_reducible refine PUT.out.mono ?_)
  rintro e w' ⟨vg', gs', k, rfl, I, S, E⟩
  go_wp2
  go_ret
  exact ⟨vg', gs', k, rfl, I, S, E.cast (Nat.le_refl _) (fun s x => gb0 rfl s x _)⟩
theorem f4_of {i : Nat} {g : S50} (h : GateOk ins nf i g) (h0 : g.f0 = 0) : g.f4 = 0 ∨ g.f4 = 1 := by
  rcases h with h | h | h | ⟨h, h1, h2, h3⟩ | ⟨h, h1, h2, h3, h4, h5⟩ | ⟨h, h1, h2, h3, h4, h5, h6, h7⟩ <;> omega
theorem f1_of {i : Nat} {g : S50} (h : GateOk ins nf i g) (h0 : g.f0 = 3) : 0 ≤ g.f1 ∧ g.f1 < i := by
  rcases h with h | h | h | ⟨h, h1, h2, h3⟩ | ⟨h, h1, h2, h3, h4, h5⟩ | ⟨h, h1, h2, h3, h4, h5, h6, h7⟩ <;> omega
theorem val_nat {k : Int} (s x : Nat) (h : 0 ≤ k) : ((bvals gs s x).getD k.toNat false) = val gs s x k.toNat := rfl
set_option maxHeartbeats 4000000 in
set_option maxRecDepth 100000 in
theorem not_calls (h : MkI w base B mb vg gs) (hgs : GatesOk ins nf gs) (hl : gs.length < 1000) (hi : ins ≤ 1000) (hnf : nf ≤ 1000) (a : Nat) (ha : a < gs.length) :
    Calls Try.prog 82 #[.pointer (some ⟨B, 0, none⟩), .int .i64 (a : Int)] w (MkPost base B mb vg ins nf gs 1 (fun s x => !(val gs s x a)) w) := by
  have CON := Aside0.mk (const_calls h a ha (by omega))
  have HI := Aside0.mk h
  have HGS := Aside0.mk hgs
  have hok := hgs a ha
  have hva : ∀ s x, val gs s x a = gb (gs.getD a z50) s x (bvals gs s x) := fun s x => val_at hgs ha
  obtain ⟨AG, cg, hv, hcg, hC⟩ := Kd.R_reads h.rg
  subst hv
  have CC := Aside0.mk hC
  clear h hgs hC
  generalize hg : gs.getD a z50 = g at *
  have HOK := Aside0.mk hok
  have HVA := Aside0.mk hva
  have HGD := Aside0.mk hg
  clear hok hva hg
  go_enter Try.func82, Try.ntmps82
  go_wp2_with fail
  (with_reducible refine CON.out.mono ?_)
  rintro e w1 ⟨rfl, ⟨n1, rfl⟩⟩
  have I1 := Aside0.mk (HI.out.drewN n1)
  have S1 := Aside0.mk (MkStep.drew w B mb (.slice AG gs.length cg) n1)
  have C1 := Aside0.mk (Kd.C_drewN CC.out n1)
  clear CON HI CC
  generalize w.drewN n1 = w1 at *
  by_cases h0 : g.f0 = 0
  · have b0 : (g.f0 == 0) = true := by simp [h0]
    have hf4 := f4_of HOK.out h0
    have hw : wrap64 (1 - g.f4) = 1 - g.f4 := by unfold wrap64; omega
    have BIT := Aside0.mk (bit_calls I1.out HGS.out hl hi hnf (1 - g.f4) (by omega) (by omega))
    have F : ∀ s x, decide (1 - g.f4 = 1) = !(val gs s x a) := fun s x => by
      rw [HVA.out, gb0 h0]
      rcases hf4 with h | h <;> simp [h]
    have HF := Aside0.mk F
    clear F hf4
    generalize g.f0 = g0 at *
    generalize g.f4 = g4 at *
    go_wp2_with fail
    (with_reducible refine BIT.out.mono ?_)
    rintro e w' ⟨vg', gs', k, rfl, I, S, E⟩
    go_wp2
    go_ret
    exact ⟨vg', gs', k, rfl, I, S1.out.then_ S, E.cast (Nat.le_refl _) HF.out⟩
  · have b0 : (g.f0 == 0) = false := by simp [h0]
    obtain ⟨ad, rfl, c0, c1, c2, c3, c4⟩ := PG.at_T50 C1.out (a : Int) (by omega) (by omega)
    have hr : PG.rd_T50 gs (a : Int) = gs.getD a z50 := by unfold PG.rd_T50; simp
    rw [hr, HGD.out, Int.toNat_natCast] at c0 c1 c2 c3 c4
    have m0 : w1.cell? ⟨B, 0, none⟩ = some (.slice (some ad) gs.length cg) := (blk_cell I1.out.blk 0).trans rfl
    clear hr
    have hal : (a : Int) < (gs.length : Int) := by omega
    by_cases h3 : g.f0 = 3
    · have b3 : (g.f0 == 3) = true := by simp [h3]
      have hf1 := f1_of HOK.out h3
      obtain ⟨q, hq⟩ : ∃ q : Nat, g.f1 = (q : Int) := ⟨g.f1.toNat, by omega⟩
      have E : Ext ins nf gs gs 0 q (fun s x => !(val gs s x a)) := (Ext.refl HGS.out (by omega)).cast (Nat.le_refl _) (fun s x => by rw [HVA.out, gb3 h3, hq, Int.toNat_natCast]; show _ = !!(val gs s x q); simp)
      have HE := Aside0.mk E
      clear E hf1
      generalize g.f1 = g1 at *
      subst hq
      go_wp2
      go_ret
      exact ⟨_, gs, q, rfl, I1.out.alloc _, S1.out.then_ (MkStep.alloc _ _ _ _ _), HE.out.cast (by omega) (fun _ _ => rfl)⟩
    · have b3 : (g.f0 == 3) = false := by simp [h3]
      have PUT := Aside0.mk (put_calls (I1.out.alloc (.cells #[.int .i64 g.f0, .int .i64 g.f1, .int .i64 g.f2, .int .i64 g.f3, .int .i64 g.f4] 50)) HGS.out hl hi hnf ⟨3, a, 0, 0, 0⟩ (.inr (.inr (.inr (.inl ⟨rfl, Int.natCast_nonneg a, by show (a : Int) < _; omega, rfl, rfl, rfl⟩)))))
      simp only [gval] at PUT
      go_wp2_with fail
      (with_reducible refine PUT.out.mono ?_)
      rintro e w' ⟨vg', gs', k, rfl, I, S, E⟩
      go_wp2
      go_ret
      exact ⟨vg', gs', k, rfl, I, S1.out.then_ ((MkStep.alloc _ _ _ _ _).then_ S), E.cast (Nat.le_refl _) (fun s x => by
        rw [gb3 rfl]
        show (!(bvals gs s x).getD ((a : Nat) : Int).toNat false) = _
        rw [Int.toNat_natCast]; rfl)⟩
theorem MkI.once (h : MkI w base B mb vg gs) {i j : Nat} (hi : i < gs.length) (hj : j < gs.length) (e : gs.getD i z50 = gs.getD j z50) : i = j := by
  obtain ⟨D, _, hm⟩ := h.om
  have at_ : ∀ k, k < gs.length → (gs.map litG)[k]? = some (litG (gs.getD k z50)) := fun k hk => by
    rw [List.getElem?_map, List.getElem?_eq_getElem hk, List.getD_eq_getElem?_getD, List.getElem?_eq_getElem hk]; rfl
  have h1 := hm.at' _ _ (at_ i hi) .nil
  have h2 := hm.at' _ _ (at_ j hj) .nil
  rw [e, h2] at h1
  simp only [DataW.lit.injEq, Lit.int.injEq, true_and] at h1
  omega
theorem const_is {i : Nat} {g : S50} (h : GateOk ins nf i g) (h0 : g.f0 = 0) : g = ⟨0, 0, 0, 0, g.f4⟩ := by
  obtain ⟨f0, f1, f2, f3, f4⟩ := g
  simp only at h0
  subst h0
  rcases h with ⟨h1, h2, h3, h4, h5⟩ | ⟨h, _⟩ | ⟨h, _⟩ | ⟨h, _⟩ | ⟨h, _⟩ | ⟨h, _⟩
  · simp only at h2 h3 h4
    subst h2 h3 h4; rfl
  all_goals (simp at h)
theorem two_const (h : MkI w base B mb vg gs) (hgs : GatesOk ins nf gs) {b c : Nat} (hb : b < gs.length) (hc : c < gs.length) (hne : b ≠ c) (h0 : (gs.getD b z50).f0 = 0) (h1 : (gs.getD c z50).f0 = 0) : (gs.getD b z50).f4 ≠ (gs.getD c z50).f4 := fun e => by
  refine hne (h.once hb hc ?_)
  rw [const_is (hgs b hb) h0, const_is (hgs c hc) h1, e]
set_option maxHeartbeats 8000000 in
set_option maxRecDepth 100000 in
theorem mux_calls (h : MkI w base B mb vg gs) (hgs : GatesOk ins nf gs) (hl : gs.length < 1000) (hi : ins ≤ 1000) (hnf : nf ≤ 1000) (a b c : Nat) (ha : a < gs.length) (hb : b < gs.length) (hc : c < gs.length) :
    Calls Try.prog 80 #[.pointer (some ⟨B, 0, none⟩), .int .i64 (a : Int), .int .i64 (b : Int), .int .i64 (c : Int)] w (MkPost base B mb vg ins nf gs 1 (fun s x => if val gs s x a then val gs s x b else val gs s x c) w) := by
  have CON := Aside0.mk (const_calls h a ha (by omega))
  have HI := Aside0.mk h
  have HGS := Aside0.mk hgs
  have hva : ∀ s x, val gs s x a = gb (gs.getD a z50) s x (bvals gs s x) := fun s x => val_at hgs ha
  have hvb : ∀ s x, val gs s x b = gb (gs.getD b z50) s x (bvals gs s x) := fun s x => val_at hgs hb
  have hvc : ∀ s x, val gs s x c = gb (gs.getD c z50) s x (bvals gs s x) := fun s x => val_at hgs hc
  have TWO := Aside0.mk (fun hne h0 h1 => two_const h hgs hb hc hne h0 h1)
  have OKA := Aside0.mk (f4_of (hgs a ha))
  have OKB := Aside0.mk (f4_of (hgs b hb))
  have OKC := Aside0.mk (f4_of (hgs c hc))
  clear h hgs
  have CONB := Aside0.mk (fun W (hW : MkI W base B mb vg gs) => const_calls hW b hb (by omega))
  have CONC := Aside0.mk (fun W (hW : MkI W base B mb vg gs) => const_calls hW c hc (by omega))
  generalize gs.getD a z50 = ga at *
  generalize gs.getD b z50 = gb' at *
  generalize gs.getD c z50 = gc at *
  have HVA := Aside0.mk hva
  have HVB := Aside0.mk hvb
  have HVC := Aside0.mk hvc
  clear hva hvb hvc
  obtain ⟨a0, a1, a2, a3, a4⟩ := ga
  obtain ⟨b0, b1, b2, b3, b4⟩ := gb'
  obtain ⟨c0, c1, c2, c3, c4⟩ := gc
  simp only at OKA OKB OKC TWO CON CONB CONC
  go_enter Try.func80, Try.ntmps80
  go_wp2_with fail
  (with_reducible refine CON.out.mono ?_)
  rintro e w1 ⟨rfl, ⟨n1, rfl⟩⟩
  have I1 := Aside0.mk (HI.out.drewN n1)
  have S1 := Aside0.mk (MkStep.drew w B mb vg n1)
  clear CON HI
  generalize w.drewN n1 = w1 at *
  by_cases h0 : a0 = 0
  · have e0 : (a0 == 0) = true := by simp [h0]
    by_cases h4 : a4 = 1
    · have e4 : (a4 == 1) = true := by simp [h4]
      have E := Aside0.mk ((Ext.refl HGS.out hb).cast (G := fun s x => if val gs s x a then val gs s x b else val gs s x c) (Nat.zero_le 1) (fun s x => by rw [HVA.out s x, gb0 h0]; simp [h4]))
      clear h0 h4
      go_wp2
      go_ret
      exact ⟨vg, gs, b, rfl, I1.out, S1.out, E.out⟩
    · have e4 : (a4 == 1) = false := by simp [h4]
      have E := Aside0.mk ((Ext.refl HGS.out hc).cast (G := fun s x => if val gs s x a then val gs s x b else val gs s x c) (Nat.zero_le 1) (fun s x => by rw [HVA.out s x, gb0 h0]; simp [h4]))
      clear h0 h4
      go_wp2
      go_ret
      exact ⟨vg, gs, c, rfl, I1.out, S1.out, E.out⟩
  have e0 : (a0 == 0) = false := by simp [h0]
  clear h0
  go_wp2_with fail
  (with_reducible refine (CONB.out _ I1.out).mono ?_)
  rintro e w2 ⟨rfl, ⟨n2, rfl⟩⟩
  have I2 := Aside0.mk (I1.out.drewN n2)
  have S2 := Aside0.mk (S1.out.then_ (MkStep.drew w1 B mb vg n2))
  clear I1 S1
  generalize w1.drewN n2 = w2 at *
  go_wp2_with fail
  (with_reducible refine (CONC.out _ I2.out).mono ?_)
  rintro e w3 ⟨rfl, ⟨n3, rfl⟩⟩
  have I3 := Aside0.mk (I2.out.drewN n3)
  have S3 := Aside0.mk (S2.out.then_ (MkStep.drew w2 B mb vg n3))
  clear I2 S2
  generalize w2.drewN n3 = w3 at *
  by_cases hbc : b = c
  · have ebc : ((b : Int) == (c : Int)) = true := by simp [hbc]
    have E := Aside0.mk ((Ext.refl HGS.out hb).cast (G := fun s x => if val gs s x a then val gs s x b else val gs s x c) (Nat.zero_le 1) (fun s x => by rw [hbc]; simp))
    clear hbc
    go_wp2
    go_ret
    exact ⟨vg, gs, b, rfl, I3.out, S3.out, E.out⟩
  have ebc : ((b : Int) == (c : Int)) = false := by simp; omega
  have tw := TWO.out hbc
  clear hbc
  by_cases hb0 : b0 = 0 ∧ c0 = 0
  · have eb : (b0 == 0) = true := by simp [hb0.1]
    have ec : (c0 == 0) = true := by simp [hb0.2]
    have tw2 := tw hb0.1 hb0.2
    have o1 := OKB.out hb0.1
    have o2 := OKC.out hb0.2
    have vb : ∀ s x, val gs s x b = decide (b4 = 1) := fun s x => by rw [HVB.out, gb0 hb0.1]
    have vc : ∀ s x, val gs s x c = decide (c4 = 1) := fun s x => by rw [HVC.out, gb0 hb0.2]
    clear tw hb0
    by_cases h4 : b4 = 1
    · have e4 : (b4 == 1) = true := by simp [h4]
      have h5 : c4 = 0 := by omega
      have E := Aside0.mk ((Ext.refl HGS.out ha).cast (G := fun s x => if val gs s x a then val gs s x b else val gs s x c) (Nat.zero_le 1) (fun s x => by rw [vb, vc, h4, h5]; cases val gs s x a <;> simp))
      clear h4 h5 o1 o2 vb vc tw2
      go_wp2
      go_ret
      exact ⟨vg, gs, a, rfl, I3.out, S3.out, E.out⟩
    · have e4 : (b4 == 1) = false := by simp [h4]
      have h5 : b4 = 0 := by omega
      have h6 : c4 = 1 := by omega
      have NOT := Aside0.mk ((not_calls I3.out HGS.out hl hi hnf a ha))
      have F := Aside0.mk (fun s x => show (!(val gs s x a)) = (if val gs s x a then val gs s x b else val gs s x c) by rw [vb, vc, h5, h6]; cases val gs s x a <;> simp)
      clear h4 h5 h6 o1 o2 vb vc tw2
      go_wp2_with fail
      (with_reducible refine NOT.out.mono ?_)
      rintro e w' ⟨vg', gs', k, rfl, I, S, E⟩
      go_wp2
      go_ret
      exact ⟨vg', gs', k, rfl, I, S3.out.then_ S, E.cast (Nat.le_refl _) F.out⟩
  · clear tw
    have PUT := Aside0.mk (put_calls I3.out HGS.out hl hi hnf ⟨7, a, b, c, 0⟩ (.inr (.inr (.inr (.inr (.inr ⟨rfl, Int.natCast_nonneg a, by show (a : Int) < _; omega, Int.natCast_nonneg b, by show (b : Int) < _; omega, Int.natCast_nonneg c, by show (c : Int) < _; omega, rfl⟩))))))
    simp only [gval] at PUT
    have ecase : (b0 == 0) = false ∨ ((b0 == 0) = true ∧ (c0 == 0) = false) := by
      by_cases h1 : b0 = 0
      · exact .inr ⟨by simp [h1], by simpa using fun h2 => hb0 ⟨h1, h2⟩⟩
      · exact .inl (by simp [h1])
    clear hb0
    rcases ecase with eb | ⟨eb, ec⟩
    all_goals
      go_wp2_with fail
      (with_reducible refine PUT.out.mono ?_)
      rintro e w' ⟨vg', gs', k, rfl, I, S, E⟩
      go_wp2
      go_ret
      exact ⟨vg', gs', k, rfl, I, S3.out.then_ S, E.cast (Nat.le_refl _) (fun s x => by
        rw [gb7 rfl]
        show (if (bvals gs s x).getD ((a : Nat) : Int).toNat false then (bvals gs s x).getD ((b : Nat) : Int).toNat false else (bvals gs s x).getD ((c : Nat) : Int).toNat false) = _
        rw [Int.toNat_natCast, Int.toNat_natCast, Int.toNat_natCast]; rfl)⟩
end
end Go.Proofs.Ytaalafnkglbcpaa.SY
end

/- The maker's method tree (61), walked by hand: a bit that is a function of others. Own text of this claim. -/
section
namespace Go.Proofs.Ytaalafnkglbcpaa.SY
open Go.RowKit Go.WideMaps Go.Maps Go.Proofs.YtaalafnkglbcpaaW.PrintWords Go.Proofs.YtaalafnkglbcpaaW.PrintLast Go.Proofs.YtaalafnkglbcpaaW.PrintMore
open Go.Proofs.Ytaalafnkglbcpaa.PG (S50 z50 k50 GateOk GatesOk)
set_option linter.unusedVariables false
set_option linter.unusedSimpArgs false
/-- The number that bits make, the lowest first. -/
def bitsN : List Bool → Nat
  | [] => 0
  | b :: t => b.toNat + 2 * bitsN t
theorem bitsN_lt : ∀ l : List Bool, bitsN l < 2 ^ l.length
  | [] => by simp [bitsN]
  | b :: t => by
    have := bitsN_lt t
    have hb : b.toNat ≤ 1 := by cases b <;> simp
    simp only [bitsN, List.length_cons, Nat.pow_succ]; omega
theorem bitsN_snoc : ∀ (l : List Bool) (b : Bool), bitsN (l ++ [b]) = bitsN l + (if b then 2 ^ l.length else 0)
  | [], b => by cases b <;> simp [bitsN]
  | a :: t, b => by
    rw [List.cons_append, bitsN, bitsN, bitsN_snoc t b, List.length_cons, Nat.pow_succ]
    cases b <;> simp; omega
def treeF (f : List Int) (bs : List Bool) : Bool := decide (f.getD (bitsN bs) 0 = 1)
theorem treeF_snoc (f : List Int) (bs : List Bool) (b : Bool) (hf : f.length = 2 ^ (bs.length + 1)) : treeF f (bs ++ [b]) = if b then treeF (f.drop (2 ^ bs.length)) bs else treeF (f.take (2 ^ bs.length)) bs := by
  have h := bitsN_lt bs
  unfold treeF
  rw [bitsN_snoc]
  cases b
  · simp only [Bool.false_eq_true, if_false, Nat.add_zero]
    rw [List.getD_eq_getElem?_getD, List.getD_eq_getElem?_getD, List.getElem?_take, if_pos h]
  · simp only [if_true]
    rw [List.getD_eq_getElem?_getD, List.getD_eq_getElem?_getD, List.getElem?_drop, Nat.add_comm]
def natsI (l : List Nat) : List Int := l.map fun (k : Nat) => (k : Int)
/-- What is read of a row that the maker does not write. -/
def ReadK (w : World) (B mb : Nat) (vg : Value) (A : Option Addr) (n : Nat) (xs : List Int) : Prop := ∀ W, Kept w W (MkS B mb vg) → Kd.C (Kd.int .i64) W A n xs
theorem ReadK.step {w W : World} {B mb : Nat} {vg vg' : Value} {A : Option Addr} {n : Nat} {xs : List Int} (h : ReadK w B mb vg A n xs) (s : MkStep w W B mb vg vg') : ReadK W B mb vg' A n xs := fun W2 hk => h W2 (s.then_ (W2 := W2) (vg2 := vg') ⟨hk, .inl rfl⟩).kp
theorem ReadK.now {w : World} {B mb : Nat} {vg : Value} {A : Option Addr} {n : Nat} {xs : List Int} (h : ReadK w B mb vg A n xs) : Kd.C (Kd.int .i64) w A n xs := h w (PL.Kept.refl w _)
theorem ReadK.take {w : World} {B mb : Nat} {vg : Value} {A : Option Addr} {n m : Nat} {xs : List Int} (h : ReadK w B mb vg A n xs) (hn : xs.length = n) (hm : m ≤ n) : ReadK w B mb vg A m (xs.take m) := fun W hk => by
  have h1 := Kd.C_take (m := m) (by have := h W hk; rw [← hn] at this; exact this) (by omega)
  rwa [show (xs.take m).length = m by rw [List.length_take]; omega] at h1
theorem ReadK.drop {w : World} {B mb : Nat} {vg : Value} {A : Option Addr} {n m c : Nat} {xs : List Int} (h : ReadK w B mb vg A n xs) (hn : xs.length = n) (hm : m ≤ n) (hc : n ≤ c) (hne : m < c) : ReadK w B mb vg (Option.map (fun x => x.add m) A) (n - m) (xs.drop m) := fun W hk => by
  have h1 := Kd.C_drop (m := m) (c := c) (by have := h W hk; rw [← hn] at this; exact this) (by omega) (by omega)
  rw [if_neg (by omega), List.length_drop, hn] at h1
  rwa [show m * (Kd.int .i64).sz = m from by show m * 1 = m; omega] at h1
theorem bd_of {n : Nat} : 2 ^ (n + 1 + 1) = 2 ^ (n + 1) + 2 ^ (n + 1) ∧ 2 ^ (n + 1) = 2 ^ n + 2 ^ n ∧ 0 < 2 ^ n := by
  have := Nat.two_pow_pos n
  refine ⟨?_, ?_, this⟩ <;> (rw [Nat.pow_succ]; omega)
theorem pow_wrap {n M : Nat} (hM : M = 2 ^ n) (h : M ≤ 1000) : wrap64 (2 ^ n) = (M : Int) := by
  have h1 : (2 : Int) ^ n = (M : Int) := by rw [hM]; simp
  rw [h1]; unfold wrap64; omega
theorem shl_pow (n : Nat) (h : n ≤ 10) : shl .i64 1 (n : Int) = ((2 ^ n : Nat) : Int) := by
  have : n = 0 ∨ n = 1 ∨ n = 2 ∨ n = 3 ∨ n = 4 ∨ n = 5 ∨ n = 6 ∨ n = 7 ∨ n = 8 ∨ n = 9 ∨ n = 10 := by omega
  rcases this with rfl | rfl | rfl | rfl | rfl | rfl | rfl | rfl | rfl | rfl | rfl <;> decide +kernel
set_option maxHeartbeats 8000000 in
set_option maxRecDepth 100000 in
theorem tree_calls {base B mb : Nat} {ins nf : Int} (hi : ins ≤ 1000) (hnf : nf ≤ 1000) : ∀ (n N : Nat) (w : World) (vg : Value) (gs : List S50) (Av Af : Option Addr) (cv cf : Nat) (vars : List Nat) (f : List Int), N = 2 ^ n → MkI w base B mb vg gs → GatesOk ins nf gs → gs.length + 2 ^ (n + 1) ≤ 900 → n ≤ 5 →
    vars.length = n → f.length = N → (∀ v ∈ vars, v < gs.length) → (∀ x ∈ f, 0 ≤ x ∧ x < 2) → ReadK w B mb vg Av n (natsI vars) → ReadK w B mb vg Af N f → n ≤ cv → N ≤ cf → N ≤ 100 →
    Calls Try.prog 61 #[.pointer (some ⟨B, 0, none⟩), .slice Av n cv, .slice Af N cf] w (MkPost base B mb vg ins nf gs (2 ^ (n + 1) - 1) (fun s x => treeF f (vars.map (val gs s x))) w) := by
  intro n
  induction n with
  | zero =>
    intro N w vg gs Av Af cv cf vars f hN hI hgs hl h5 hvl hfl hvs hf hV hF hcv hcf h100
    obtain rfl : vars = [] := List.eq_nil_of_length_eq_zero hvl
    obtain rfl : N = 1 := hN
    obtain ⟨x, rfl⟩ : ∃ x, f = [x] := by
      cases f with
      | nil => simp at hfl
      | cons a t => cases t with
        | nil => exact ⟨a, rfl⟩
        | cons b t => simp at hfl
    have hx := hf x (by simp)
    obtain ⟨a, ea, ha⟩ := Kd.at_int hF.now 0 (by decide) (by decide)
    subst ea
    have ha' : w.cell? a = some (.int .i64 x) := by
      rw [show (0 : Int).toNat = 0 from rfl, show a.add 0 = a from by unfold Addr.add; split <;> simp_all] at ha
      exact ha
    have BIT := Aside0.mk (bit_calls hI hgs (by have : 2 ^ (0 + 1) = 2 := rfl; omega) hi hnf x hx.1 hx.2)
    clear ha hI hgs hV hF hf hvs hfl hl
    go_enter Try.func61, Try.ntmps61
    go_wp2_with fail
    (with_reducible refine BIT.out.mono ?_)
    rintro e w' ⟨vg', gs', k, rfl, I, S, E⟩
    go_wp2
    go_ret
    exact ⟨vg', gs', k, rfl, I, S, E.cast (by decide) (fun s x => rfl)⟩
  | succ n ih =>
    intro N w vg gs Av Af cv cf vars f hN hI hgs hl h5 hvl hfl hvs hf hV hF hcv hcf h100
    obtain ⟨vs, v, rfl⟩ : ∃ vs v, vars = vs ++ [v] := ⟨vars.dropLast, vars.getLast (by intro h; subst h; simp at hvl), (List.dropLast_concat_getLast _).symm⟩
    have hvs' : vs.length = n := by simpa using hvl
    obtain ⟨M, hM⟩ : ∃ M, M = 2 ^ n := ⟨_, rfl⟩
    have hNM : N = M + M := by rw [hN, hM, Nat.pow_succ]; omega
    have hMp : 0 < M := by rw [hM]; exact Nat.two_pow_pos n
    obtain ⟨P, hP⟩ : ∃ P, P = 2 ^ (n + 1) := ⟨_, rfl⟩
    have hPP : 2 ^ (n + 1 + 1) = P + P := by rw [hP, Nat.pow_succ]; omega
    rw [hPP] at hl
    have HSH := Aside0.mk (pow_wrap hM (by omega))
    have hV1 : ReadK w B mb vg Av n (natsI vs) := by
      have h := hV.take (m := n) (by simp [natsI, hvs']) (by omega)
      rwa [show (natsI (vs ++ [v])).take n = natsI vs from by unfold natsI; rw [List.map_append, List.take_append_of_le_length (by simp [hvs']), List.take_of_length_le (by simp [hvs'])]] at h
    have hF1 : ReadK w B mb vg Af M (f.take M) := hF.take hfl (by omega)
    have hF2 : ReadK w B mb vg (Option.map (fun x => x.add M) Af) M (f.drop M) := by
      have h := hF.drop (m := M) (c := cf) hfl (by omega) (by omega) (by omega)
      rwa [show N - M = M by omega] at h
    have T1 := Aside0.mk (fun W hI1 (hst : MkStep w W B mb vg vg) => ih M W vg gs Av Af cv cf vs (f.take M) hM hI1 hgs (by rw [← hP]; omega) (by omega) hvs' (by rw [List.length_take]; omega) (fun u hu => hvs u (by simp [hu])) (fun x hx => hf x (List.mem_of_mem_take hx)) (hV1.step (W := W) (vg' := vg) hst) (hF1.step hst) (by omega) (by omega) (by omega))
    have HI := Aside0.mk hI
    have HGS := Aside0.mk hgs
    have T2 : Aside0 (∀ W vg1 gs1 cf2 L, L = M → MkI W base B mb vg1 gs1 → GatesOk ins nf gs1 → gs1.length + 2 ^ (n + 1) ≤ 900 → gs.length ≤ gs1.length → MkStep w W B mb vg vg1 → M ≤ cf2 →
        Calls Try.prog 61 #[.pointer (some ⟨B, 0, none⟩), .slice Av n cv, .slice (Option.map (fun x => x.add M) Af) L cf2] W (MkPost base B mb vg1 ins nf gs1 (2 ^ (n + 1) - 1) (fun s x => treeF (f.drop M) (vs.map (val gs1 s x))) W)) := ⟨fun W vg1 gs1 cf2 L hL hI1 hgs1 hl1 hle hst hc2 => by
      subst hL
      have hz := ih L W vg1 gs1 Av (Option.map (fun x => x.add L) Af) cv cf2 vs (f.drop L) hM hI1 hgs1 hl1 (by omega) hvs' (by rw [List.length_drop]; omega) (fun u hu => Nat.lt_of_lt_of_le (hvs u (by simp [hu])) hle) (fun x hx => hf x (List.mem_of_mem_drop hx)) (hV1.step (W := W) (vg' := vg1) hst) (hF2.step hst) (by omega) hc2 (by omega)
      with_reducible exact hz⟩
    have HV := Aside0.mk hV
    have hvlt : v < gs.length := hvs v (by simp)
    have HFS : Aside0 (∀ bs : List Bool, ∀ b, bs.length = n → treeF f (bs ++ [b]) = if b then treeF (f.drop M) bs else treeF (f.take M) bs) := ⟨fun bs b hb => by
      have h := treeF_snoc f bs b (by rw [hfl, hN, hb])
      rw [hb, ← hM] at h; exact h⟩
    have HVL := Aside0.mk hvs'
    have HVS := Aside0.mk (fun u hu => hvs u (by simp [hu]) : ∀ u ∈ vs, u < gs.length)
    have hw1 : wrap64 (((n + 1 : Nat) : Int) - 1) = (n : Int) := by unfold wrap64; omega
    have hM1 : (M : Int) ≤ (N : Int) := by omega
    have hM2 : (M : Int) ≤ (cf : Int) := by omega
    have hM0 : (0 : Int) ≤ (M : Int) := by omega
    have hcM : ¬ cf = M := by omega
    have hcd : (n : Int) ≤ (cv : Int) := by omega
    have hcd' : n ≤ cv := by omega
    have hM2' : M ≤ cf := by omega
    have hM1' : M ≤ N := by omega
    have HP := Aside0.mk hP
    have HM100 : Aside0 (N = M + M ∧ N ≤ cf) := ⟨hNM, hcf⟩
    have HCV := Aside0.mk hcv
    clear hV hF hV1 hF1 hF2 hI hgs hf hvs hvl hfl hN hM hP hPP hcv hcf h100 hvs' hNM
    go_enter Try.func61, Try.ntmps61
    go_wp2_with fail
    refine start_ (n := 10) (S := fun _ => True) (ds := []) #[false, false, false, false, false, false, false, false, false, false] (by kernel_rfl) rfl rfl trivial (fun hHeld => ?_)
    refine pure_ (i := 0) (N := (some 21)) (v := ?_) (a' := ?_) #[true, false, false, false, false, false, false, false, false, false] rfl rfl (by kernel_rfl) (fun _ _ _ h => h) (Or.inl ⟨by rfl, ?_⟩) ?_ ?_
    rotate_left
    · intro w'
      go_simp
      with_reducible rfl
    rotate_left
    · simp only [Act.put, List.setIfInBounds_toArray, List.set_cons_zero, List.set_cons_succ, i64_w, i32_w]
      rfl
    refine pure_ (i := 1) (N := (some 22)) (v := ?_) (a' := ?_) #[true, true, false, false, false, false, false, false, false, false] rfl rfl (by kernel_rfl) (fun _ _ _ h => h) (Or.inl ⟨by rfl, ?_⟩) ?_ ?_
    rotate_left
    · intro w'
      go_simp
      with_reducible rfl
    rotate_left
    · simp only [Act.put, List.setIfInBounds_toArray, List.set_cons_zero, List.set_cons_succ, i64_w, i32_w]
      rfl
    refine pure_ (i := 2) (N := (some 23)) (v := ?_) (a' := ?_) #[true, true, true, false, false, false, false, false, false, false] rfl rfl (by kernel_rfl) (fun _ _ _ h => h) (Or.inl ⟨by rfl, ?_⟩) ?_ ?_
    rotate_left
    · intro w'
      go_simp
      with_reducible rfl
    rotate_left
    · simp only [Act.put, List.setIfInBounds_toArray, List.set_cons_zero, List.set_cons_succ, i64_w, i32_w]
      rfl
    refine pure_ (i := 3) (N := (some 24)) (v := ?_) (a' := ?_) #[true, true, true, true, false, false, false, false, false, false] rfl rfl (by kernel_rfl) (fun _ _ _ h => h) (Or.inl ⟨by rfl, ?_⟩) ?_ ?_
    rotate_left
    · intro w'
      go_simp
      with_reducible rfl
    rotate_left
    · simp only [Act.put, List.setIfInBounds_toArray, List.set_cons_zero, List.set_cons_succ, i64_w, i32_w]
      rfl
    refine pure_ (i := 4) (N := (some 25)) (v := ?_) (a' := ?_) #[true, true, true, true, true, false, false, false, false, false] rfl rfl (by kernel_rfl) (fun _ _ _ h => h) (Or.inl ⟨by rfl, ?_⟩) ?_ ?_
    rotate_left
    · intro w'
      go_simp
      with_reducible rfl
    rotate_left
    · simp only [Act.put, List.setIfInBounds_toArray, List.set_cons_zero, List.set_cons_succ, i64_w, i32_w]
      rfl
    refine pure_ (i := 5) (N := (some 26)) (v := ?_) (a' := ?_) #[true, true, true, true, true, true, false, false, false, false] rfl rfl (by kernel_rfl) (fun _ _ _ h => h) (Or.inl ⟨by rfl, ?_⟩) ?_ ?_
    rotate_left
    · intro w'
      go_simp
      with_reducible rfl
    rotate_left
    · simp only [Act.put, List.setIfInBounds_toArray, List.set_cons_zero, List.set_cons_succ, i64_w, i32_w]
      rfl
    refine pure_ (i := 6) (N := (some 27)) (v := ?_) (a' := ?_) #[true, true, true, true, true, true, true, false, false, false] rfl rfl (by kernel_rfl) (fun _ _ _ h => h) (Or.inl ⟨by rfl, ?_⟩) ?_ ?_
    rotate_left
    · intro w'
      go_simp
      with_reducible rfl
    rotate_left
    · simp only [Act.put, List.setIfInBounds_toArray, List.set_cons_zero, List.set_cons_succ, i64_w, i32_w]
      rfl
    rw [HSH.out]
    refine pure_ (i := 7) (N := (some 28)) (v := ?_) (a' := ?_) #[true, true, true, true, true, true, true, true, false, false] rfl rfl (by kernel_rfl) (fun _ _ _ h => h) (Or.inl ⟨by rfl, ?_⟩) ?_ ?_
    rotate_left
    · intro w'
      go_simp
      with_reducible rfl
    rotate_left
    · simp only [Act.put, List.setIfInBounds_toArray, List.set_cons_zero, List.set_cons_succ, i64_w, i32_w]
      rfl
    refine one_ (i := 8) (N := (some 29)) #[true, true, true, true, true, true, true, true, true, false] rfl rfl (by kernel_rfl) (by decide) (fun K hK => ?_)
    refine goes_ Try.func61 (by kernel_rfl) rfl #[.pointer (some ⟨B, 0, none⟩), .slice Av n cv, .slice Af M cf] (by rfl) rfl rfl (by (try simp only [List.map_toArray, List.map_cons, List.map_nil]); first | done | rfl) ?_
    refine (T1.out w.drew (HI.out.drewN 1) (MkStep.drew w B mb vg 1)).mono ?_
    rintro e w1 ⟨vg1, gs1, k1, rfl, i1, s1, e1⟩
    refine ⟨_, rfl, ?_⟩
    have I1 := Aside0.mk i1
    have S1 := Aside0.mk (MkStep.then_ (MkStep.drew w B mb vg 1) s1)
    have E1 := Aside0.mk e1
    clear i1 s1 e1 T1
    refine hK.out _ _ trivial (fun hHeld => ?_)
    clear hK K
    refine norm_ (a' := ?_) ?_ ?_
    rotate_left
    · show Act.put _ (some 29) _ = _
      simp only [Act.put, List.setIfInBounds_toArray, List.set_cons_zero, List.set_cons_succ, i64_w, i32_w]
      rfl
    refine pure_ (i := 9) (N := (some 8)) (v := ?_) (a' := ?_) #[true, true, true, true, true, true, true, true, true, true] rfl rfl (by kernel_rfl) (fun _ _ _ h => h) (Or.inl ⟨by rfl, ?_⟩) ?_ ?_
    rotate_left
    · intro w'
      go_simp
      with_reducible rfl
    rotate_left
    · simp only [Act.put, List.setIfInBounds_toArray, List.set_cons_zero, List.set_cons_succ, i64_w, i32_w]
      rfl
    refine done_ (by kernel_rfl) ?_
    go_wp2_with fail
    refine start_ (n := 10) (S := fun _ => True) (ds := []) #[false, false, false, false, false, false, false, false, false, false] (by kernel_rfl) rfl rfl trivial (fun hHeld => ?_)
    refine pure_ (i := 0) (N := (some 30)) (v := ?_) (a' := ?_) #[true, false, false, false, false, false, false, false, false, false] rfl rfl (by kernel_rfl) (fun _ _ _ h => h) (Or.inl ⟨by rfl, ?_⟩) ?_ ?_
    rotate_left
    · intro w'
      go_simp
      with_reducible rfl
    rotate_left
    · simp only [Act.put, List.setIfInBounds_toArray, List.set_cons_zero, List.set_cons_succ, i64_w, i32_w]
      rfl
    refine pure_ (i := 1) (N := (some 31)) (v := ?_) (a' := ?_) #[true, true, false, false, false, false, false, false, false, false] rfl rfl (by kernel_rfl) (fun _ _ _ h => h) (Or.inl ⟨by rfl, ?_⟩) ?_ ?_
    rotate_left
    · intro w'
      go_simp
      with_reducible rfl
    rotate_left
    · simp only [Act.put, List.setIfInBounds_toArray, List.set_cons_zero, List.set_cons_succ, i64_w, i32_w]
      rfl
    refine pure_ (i := 2) (N := (some 32)) (v := ?_) (a' := ?_) #[true, true, true, false, false, false, false, false, false, false] rfl rfl (by kernel_rfl) (fun _ _ _ h => h) (Or.inl ⟨by rfl, ?_⟩) ?_ ?_
    rotate_left
    · intro w'
      go_simp
      with_reducible rfl
    rotate_left
    · simp only [Act.put, List.setIfInBounds_toArray, List.set_cons_zero, List.set_cons_succ, i64_w, i32_w]
      rfl
    refine pure_ (i := 3) (N := (some 33)) (v := ?_) (a' := ?_) #[true, true, true, true, false, false, false, false, false, false] rfl rfl (by kernel_rfl) (fun _ _ _ h => h) (Or.inl ⟨by rfl, ?_⟩) ?_ ?_
    rotate_left
    · intro w'
      go_simp
      with_reducible rfl
    rotate_left
    · simp only [Act.put, List.setIfInBounds_toArray, List.set_cons_zero, List.set_cons_succ, i64_w, i32_w]
      rfl
    refine pure_ (i := 4) (N := (some 34)) (v := ?_) (a' := ?_) #[true, true, true, true, true, false, false, false, false, false] rfl rfl (by kernel_rfl) (fun _ _ _ h => h) (Or.inl ⟨by rfl, ?_⟩) ?_ ?_
    rotate_left
    · intro w'
      go_simp
      with_reducible rfl
    rotate_left
    · simp only [Act.put, List.setIfInBounds_toArray, List.set_cons_zero, List.set_cons_succ, i64_w, i32_w]
      rfl
    refine pure_ (i := 5) (N := (some 35)) (v := ?_) (a' := ?_) #[true, true, true, true, true, true, false, false, false, false] rfl rfl (by kernel_rfl) (fun _ _ _ h => h) (Or.inl ⟨by rfl, ?_⟩) ?_ ?_
    rotate_left
    · intro w'
      go_simp
      with_reducible rfl
    rotate_left
    · simp only [Act.put, List.setIfInBounds_toArray, List.set_cons_zero, List.set_cons_succ, i64_w, i32_w]
      rfl
    refine pure_ (i := 6) (N := (some 36)) (v := ?_) (a' := ?_) #[true, true, true, true, true, true, true, false, false, false] rfl rfl (by kernel_rfl) (fun _ _ _ h => h) (Or.inl ⟨by rfl, ?_⟩) ?_ ?_
    rotate_left
    · intro w'
      go_simp
      with_reducible rfl
    rotate_left
    · simp only [Act.put, List.setIfInBounds_toArray, List.set_cons_zero, List.set_cons_succ, i64_w, i32_w]
      rfl
    rw [HSH.out]
    refine pure_ (i := 7) (N := (some 37)) (v := ?_) (a' := ?_) #[true, true, true, true, true, true, true, true, false, false] rfl rfl (by kernel_rfl) (fun _ _ _ h => h) (Or.inl ⟨by rfl, ?_⟩) ?_ ?_
    rotate_left
    · intro w'
      go_simp
      with_reducible rfl
    rotate_left
    · simp only [Act.put, List.setIfInBounds_toArray, List.set_cons_zero, List.set_cons_succ, i64_w, i32_w]
      rfl
    refine one_ (i := 8) (N := (some 38)) #[true, true, true, true, true, true, true, true, true, false] rfl rfl (by kernel_rfl) (by decide) (fun K hK => ?_)
    refine goes_ Try.func61 (by kernel_rfl) rfl #[.pointer (some ⟨B, 0, none⟩), .slice Av n cv, .slice (Option.map (fun x => x.add M) Af) (N - M) (cf - M)] (by rfl) rfl rfl (by (try simp only [List.map_toArray, List.map_cons, List.map_nil]); first | done | rfl) ?_
    have hE1 := E1.out.len
    have hP1 := HP.out
    refine (T2.out w1.drew vg1 gs1 (cf - M) (N - M) (by have := HM100.out; omega) (I1.out.drewN 1) E1.out.ok (by rw [← hP1]; rw [← hP1] at hE1; omega) E1.out.pre.length_le (S1.out.then_ (MkStep.drew w1 B mb vg1 1)) (by have := HM100.out; omega)).mono ?_
    rintro e w2 ⟨vg2, gs2, k2, rfl, i2, s2, e2⟩
    refine ⟨_, rfl, ?_⟩
    have I2 := Aside0.mk i2
    have S2 := Aside0.mk (S1.out.then_ (MkStep.then_ (MkStep.drew w1 B mb vg1 1) s2))
    have E2 := Aside0.mk e2
    clear i2 s2 e2 T2 I1 S1 hE1 hP1
    refine hK.out _ _ trivial (fun hHeld => ?_)
    clear hK K
    refine norm_ (a' := ?_) ?_ ?_
    rotate_left
    · show Act.put _ (some 38) _ = _
      simp only [Act.put, List.setIfInBounds_toArray, List.set_cons_zero, List.set_cons_succ, i64_w, i32_w]
      rfl
    refine pure_ (i := 9) (N := (some 9)) (v := ?_) (a' := ?_) #[true, true, true, true, true, true, true, true, true, true] rfl rfl (by kernel_rfl) (fun _ _ _ h => h) (Or.inl ⟨by rfl, ?_⟩) ?_ ?_
    rotate_left
    · intro w'
      go_simp
      with_reducible rfl
    rotate_left
    · simp only [Act.put, List.setIfInBounds_toArray, List.set_cons_zero, List.set_cons_succ, i64_w, i32_w]
      rfl
    refine done_ (by kernel_rfl) ?_
    have hv : ∃ a, Av = some a ∧ w2.cell? (a.add n) = some (.int .i64 (v : Int)) := by
      obtain ⟨a, ea, ha⟩ := Kd.at_int (HV.out w2 S2.out.kp) (n : Int) (by omega) (by omega)
      refine ⟨a, ea, ?_⟩
      rw [Int.toNat_natCast, show Go.Proofs.YtaalafnkglbcpaaW.PrintWords.rd (natsI (vs ++ [v])) (n : Int) = (v : Int) from by unfold Go.Proofs.YtaalafnkglbcpaaW.PrintWords.rd natsI; rw [Int.toNat_natCast, List.getD_eq_getElem?_getD, List.map_append, List.getElem?_append_right (by simp [HVL.out])]; simp [HVL.out]] at ha
      exact ha
    obtain ⟨a, rfl, hva⟩ := hv
    have hE1 := E1.out.len
    have hE2 := E2.out.len
    have hP1 := HP.out
    rw [← hP1] at hE1 hE2
    have MUX := Aside0.mk (mux_calls I2.out E2.out.ok (by omega) hi hnf v k2 k1 (by have := E1.out.pre.length_le; have := E2.out.pre.length_le; omega) E2.out.lt (by have := E1.out.lt; have := E2.out.pre.length_le; omega))
    have hnv : (n : Int) < ((n + 1 : Nat) : Int) := by omega
    clear hE1 hE2 hP1
    go_wp2_with fail
    (with_reducible refine MUX.out.mono ?_)
    rintro e w3 ⟨vg3, gs3, k3, rfl, i3, s3, e3⟩
    go_wp2
    go_ret
    refine ⟨vg3, gs3, k3, rfl, i3, S2.out.then_ s3, ?_⟩
    have hE := E1.out.then_ (E2.out.then_ e3)
    have hbd : 2 ^ (n + 1) - 1 + (2 ^ (n + 1) - 1 + 1) ≤ 2 ^ (n + 1 + 1) - 1 := by
      have h3 := bd_of (n := n)
      omega
    refine hE.cast hbd (fun s x => ?_)
    have hmap : ∀ gs', gs <+: gs' → vs.map (val gs' s x) = vs.map (val gs s x) := fun gs' hp => List.map_congr_left (fun u hu => val_pre hp (HVS.out u hu))
    rw [E2.out.val s x, E2.out.keeps E1.out.lt s x, E1.out.val s x, hmap gs1 E1.out.pre, val_pre (E1.out.pre.trans E2.out.pre) hvlt, List.map_append, List.map_cons, List.map_nil, HFS.out _ _ (by rw [List.length_map, HVL.out])]
end Go.Proofs.Ytaalafnkglbcpaa.SY
end
