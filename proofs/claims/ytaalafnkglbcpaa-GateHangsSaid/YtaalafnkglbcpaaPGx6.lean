-- An own text of this claim, written by wip/tools/surro.py over the kit's print.
import Derived.Test.YtaalafnkglbcpaaPGx0
namespace Go.Proofs.Ytaalafnkglbcpaa.PG
open Go.RowKit Go.Proofs.YtaalafnkglbcpaaW.PrintWords Go.Proofs.YtaalafnkglbcpaaW.PrintLast Go.Proofs.YtaalafnkglbcpaaW.PrintMore
attribute [local go_sem] max2_int min2_int max_two min_two max_three min_three max_four min_four   -- for this text's walks alone
set_option linter.unusedVariables false
set_option linter.unusedSimpArgs false

/-! ### gate_Start: function 21 -/
def gate_Start.l0 : Nat → Int → List Int → Int → Int → Option (Int)
  | 0, _, _, _, _ => none
  | k + 1, x3, x12, x13, x14 => if x14 < x13 then (if 0 ≤ x14 then (if x14 < (x12.length : Int) then (gate_Start.l0 k (Go.bits .or .i64 x3 (shl .i64 (Go.bits .and .i64 (rd x12 x14) 1) x14)) x12 x13 (wrap64 (x14 + 1))) else (none)) else (none)) else (some x3)
def gate_Start.f (k : Nat) (a0_0 : Int) (l0_1 : List (S50)) (l0_2 : List Int) (l0_3 : List Int) (l0_4 : List Int) : Option (Int) := if 0 ≤ (mn (l0_4.length : Int) 10) then (if (mn (l0_4.length : Int) 10) ≤ (l0_4.length : Int) then (gate_Start.l0 k 0 (l0_4.take ((mn (l0_4.length : Int) 10) : Int).toNat) ((l0_4.take ((mn (l0_4.length : Int) 10) : Int).toNat).length : Int) 0) else (none)) else (none)
theorem gate_Start.mono_l : ∀ k, (∀ y0 y1 y2 y3, LeO (gate_Start.l0 k y0 y1 y2 y3) (gate_Start.l0 (k + 1) y0 y1 y2 y3))
  | 0 => fun _ _ _ _ r h => by simp [gate_Start.l0] at h
  | k + 1 => by
    have ih0 := gate_Start.mono_l k
    · intro y0 y1 y2 y3
      unfold gate_Start.l0
      repeat' first
      | (with_reducible exact ih0 _ _ _ _)
      | (with_reducible exact LeO.refl _)
      | (with_reducible exact LeO.none _)
      | (with_reducible refine LeO.ite ?_ ?_)
      | (with_reducible refine LeO.bind ?_ (fun _ => ?_))
      | exact ih0 _ _ _ _
      | exact LeO.none _
      | refine LeO.ite ?_ ?_
      | refine LeO.bind ?_ (fun _ => ?_)
theorem gate_Start.mono : ∀ a0 a1 a2 a3 a4 k, LeO (gate_Start.f k a0 a1 a2 a3 a4) (gate_Start.f (k + 1) a0 a1 a2 a3 a4) := by
  intro a0 a1 a2 a3 a4 k
  have ih0 := gate_Start.mono_l k
  unfold gate_Start.f
  repeat' first
      | (with_reducible exact ih0 _ _ _ _)
      | (with_reducible exact LeO.refl _)
      | (with_reducible exact LeO.none _)
      | (with_reducible refine LeO.ite ?_ ?_)
      | (with_reducible refine LeO.bind ?_ (fun _ => ?_))
      | exact ih0 _ _ _ _
      | exact LeO.none _
      | refine LeO.ite ?_ ?_
      | refine LeO.bind ?_ (fun _ => ?_)
set_option maxHeartbeats 8000000 in
set_option maxRecDepth 100000 in
theorem gate_Start.calls (k : Nat) (a0_0 : Int) (A0_1 : Option Addr) (c0_1 : Nat) (l0_1 : List (S50)) (A0_2 : Option Addr) (c0_2 : Nat) (l0_2 : List Int) (A0_3 : Option Addr) (c0_3 : Nat) (l0_3 : List Int) (A0_4 : Option Addr) (c0_4 : Nat) (l0_4 : List Int) (r : Int) (w : World) (hr0_1 : Kd.C k50 w A0_1 l0_1.length l0_1) (hc0_1 : l0_1.length ≤ c0_1) (hr0_2 : Kd.C (Kd.int .i64) w A0_2 l0_2.length l0_2) (hc0_2 : l0_2.length ≤ c0_2) (hr0_3 : Kd.C (Kd.int .i64) w A0_3 l0_3.length l0_3) (hc0_3 : l0_3.length ≤ c0_3) (hr0_4 : Kd.C (Kd.int .i64) w A0_4 l0_4.length l0_4) (hc0_4 : l0_4.length ≤ c0_4) (h : gate_Start.f k a0_0 l0_1 l0_2 l0_3 l0_4 = some r) :
    Calls Try.prog 21 #[.agg #[.int .i64 a0_0, .slice A0_1 l0_1.length c0_1, .slice A0_2 l0_2.length c0_2, .slice A0_3 l0_3.length c0_3, .slice A0_4 l0_4.length c0_4]] w fun e w' => e = .returned (.int .i64 r) ∧ Below w.heap.size w w' := by
  have hu38 := Try.underlying38
  have HR0_1 := Aside0.mk hr0_1
  have HC0_1 := Aside0.mk hc0_1
  clear hr0_1 hc0_1
  have HR0_2 := Aside0.mk hr0_2
  have HC0_2 := Aside0.mk hc0_2
  clear hr0_2 hc0_2
  have HR0_3 := Aside0.mk hr0_3
  have HC0_3 := Aside0.mk hc0_3
  clear hr0_3 hc0_3
  have HR0_4 := Aside0.mk hr0_4
  have HC0_4 := Aside0.mk hc0_4
  clear hr0_4 hc0_4
  have HB := Aside0.mk (Below.refl w.heap.size w)
  have H : (if 0 ≤ (mn (l0_4.length : Int) 10) then (if (mn (l0_4.length : Int) 10) ≤ (l0_4.length : Int) then (gate_Start.l0 k 0 (l0_4.take ((mn (l0_4.length : Int) 10) : Int).toNat) ((l0_4.take ((mn (l0_4.length : Int) 10) : Int).toNat).length : Int) 0) else (none)) else (none)) = some r := h
  clear h
  obtain ⟨ji2, hji2⟩ : ∃ j_ : Int, (mn (l0_4.length : Int) 10) = j_ := ⟨_, rfl⟩
  replace H : (if 0 ≤ (ji2) then (if (ji2) ≤ (l0_4.length : Int) then (gate_Start.l0 k 0 (l0_4.take ((ji2) : Int).toNat) ((l0_4.take ((ji2) : Int).toNat).length : Int) 0) else (none)) else (none)) = some r := by first | (rw [hji2] at H; exact H) | (simp only [hji2] at H ⊢; exact H)
  (try (have hji2h : ji2 ≤ 10 := by (rw [← hji2]; unfold mn; (repeat' split) <;> omega)))
  (try (have hji2g : ji2 ≤ 64 := by omega))
  (try (have hji2l : 0 ≤ ji2 := by (rw [← hji2]; unfold mn; (repeat' split) <;> omega)))
  (try (have hji2m : 0 ≤ ji2 := by omega))
  have hji2_ : (if 10 < (l0_4.length : Int) then 10 else (l0_4.length : Int)) = ji2 := hji2
  by_cases c3 : 0 ≤ (ji2)
  · rw [if_pos c3] at H
    have c3b0 := eq_true c3
    have c3b1 : decide (0 ≤ (ji2)) = true := decide_eq_true c3
    clear c3
    by_cases c4 : (ji2) ≤ (l0_4.length : Int)
    · rw [if_pos c4] at H
      have c4b0 := eq_true c4
      have c4b1 : decide ((ji2) ≤ (l0_4.length : Int)) = true := decide_eq_true c4
      obtain ⟨ji2n, rfl⟩ : ∃ n_ : Nat, ji2 = (n_ : Int) := ⟨ji2.toNat, by omega⟩
      have HLM : Aside0 (∀ x : Int, (x < ((l0_4.take (((ji2n : Int)) : Int).toNat).length : Int)) = (x < (ji2n : Int))) := ⟨by
        have hle_ := of_decide_eq_true c4b1
        intro x; rw [show ((l0_4.take (((ji2n : Int)) : Int).toNat).length : Int) = (ji2n : Int) from by rw [List.length_take, Int.toNat_natCast]; omega]⟩
      have hmn_ : min ji2n l0_4.length = ji2n := by have hle_ := of_decide_eq_true c4b1; omega
      clear c4
      have H' := Aside0.mk H
      clear H
      go_enter Try.func21, Try.ntmps21
      go_wp2_with (first | ((with_reducible refine gate_dst (N := 1) rfl ?_); refine box_event ?hg (N := 1) ?hd (cs := #[.int .i64 a0_0, .slice A0_1 l0_1.length c0_1, .slice A0_2 l0_2.length c0_2, .slice A0_3 l0_3.length c0_3, .slice A0_4 l0_4.length c0_4]) (t := 38) ?hr ?_; (case hd => rfl); (case hg => rfl); (case hr => first | (go_simp; done) | (go_simp; rfl)); intro gb112 hg w5 hbox hb; have n0_ := Aside0.mk (below_step (by repeat (first | (with_reducible first | exact HB.out | apply below_alloc | apply pw_below_drewN | apply below_drew1) | exact HB.out)) hb); have n1_ := Aside0.mk (hbox); have n2_ := Aside0.mk ((by rw [hg]; exact (below_size (by repeat (first | (with_reducible first | exact HB.out | apply below_alloc | apply pw_below_drewN | apply below_drew1) | exact HB.out))) : w.heap.size ≤ gb112)); have n3_ := Aside0.mk ((by rw [hg]; exact (below_size (by repeat (first | (with_reducible first | exact HB.out | apply below_alloc | apply pw_below_drewN | apply below_drew1) | exact HB.out))) : w.heap.size ≤ gb112)); clear HB; have HB := n0_; have BK112 := n1_; have GW112 := n2_; have GE112 := n3_; clear n0_ n1_ n2_ n3_; clear hb hbox hg; have hcz6_0 : w5.cell? ⟨gb112, 0, none⟩ = some (.int .i64 a0_0) := (blk_cell BK112.out 0).trans rfl; have hcz6_1 : w5.cell? ⟨gb112, 1, none⟩ = some (.slice A0_1 l0_1.length c0_1) := (blk_cell BK112.out 1).trans rfl; have hcz6_2 : w5.cell? ⟨gb112, 2, none⟩ = some (.slice A0_2 l0_2.length c0_2) := (blk_cell BK112.out 2).trans rfl; have hcz6_3 : w5.cell? ⟨gb112, 3, none⟩ = some (.slice A0_3 l0_3.length c0_3) := (blk_cell BK112.out 3).trans rfl; have hcz6_4 : w5.cell? ⟨gb112, 4, none⟩ = some (.slice A0_4 l0_4.length c0_4) := (blk_cell BK112.out 4).trans rfl; have hfz6_0 := blk_frozen BK112.out 0; have hfz6_1 := blk_frozen BK112.out 1; have hfz6_2 := blk_frozen BK112.out 2; have hfz6_3 := blk_frozen BK112.out 3; have hfz6_4 := blk_frozen BK112.out 4; obtain ⟨i07, hi07, _, hsz7, _⟩ := info_parts info3; obtain ⟨hcut7, hA7, hC7⟩ := print_take_of (P := Try.prog) (Value.int .i64) 0 22 3 .i64 Try.underlying22 hi07 hsz7 A0_4 c0_4 l0_4 ((ji2n : Int)) (of_decide_eq_true (by first | (with_reducible assumption) | assumption)) (of_decide_eq_true (by first | (with_reducible assumption) | assumption)) HC0_4.out; have HR113 := Aside0.mk (Kd.C_of_reads (h1 := fun _ => rfl) (hA7 _ (Kd.reads_of_C HR0_4.out))); have HC113 := Aside0.mk hC7; clear hA7 hC7 hi07 hsz7))
      go_loopg [3, 14] k (fun kq v3 v14 w' => ∃ (x3_1 : Int) (x14_1 : Int), v3 = .int .i64 x3_1 ∧ v14 = .int .i64 x14_1 ∧ Aside0 (gate_Start.l0 kq x3_1 (l0_4.take (((ji2n : Int)) : Int).toNat) ((l0_4.take (((ji2n : Int)) : Int).toNat).length : Int) x14_1 = some r) ∧ Aside0 (kq ≤ k) ∧ Aside0 (w'.heap[gb112]? = some (.cells #[.int .i64 a0_0, (.slice A0_1 l0_1.length c0_1), (.slice A0_2 l0_2.length c0_2), (.slice A0_3 l0_3.length c0_3), (.slice A0_4 l0_4.length c0_4)] 38 (0, 0))) ∧ Aside0 (Below w.heap.size w w'))
      case atStart => exact ⟨(0), (0), (by first | rfl | (simp; done) | (simp [*]; done)), (by first | rfl | (simp; done) | (simp [*]; done)), H', ⟨Nat.le_refl _⟩, ⟨by (with_reducible repeat (first | refine blk_drewN ?_ _ | refine blk_drew ?_ | refine blk_alloc ?_ _)); exact BK112.out⟩, ⟨by repeat (first | (with_reducible first | exact HB.out | apply below_alloc | apply pw_below_drewN | apply below_drew1 | refine below_set ?_ GE112.out) | exact HB.out)⟩⟩
      case round =>
        clear H'
        try clear c2
        try clear p2
        try clear c3
        try clear c3b0
        try clear c3b1
        try clear c4
        try clear c4b0
        try clear c4b1
        try clear hcz6_0
        try clear hcz6_1
        try clear hcz6_2
        try clear hcz6_3
        try clear hcz6_4
        try clear hfz6_0
        try clear hfz6_1
        try clear hfz6_2
        try clear hfz6_3
        try clear hfz6_4
        obtain ⟨x3_1, x14_1, rfl, rfl, HA, HK1, BK112, HB⟩ := hrel
        cases gk with
        | zero => exact absurd HA.out (by simp [gate_Start.l0])
        | succ k1 =>
          have H := HA.out
          clear HA
          simp only [gate_Start.l0] at H
          by_cases c8 : x14_1 < ((l0_4.take (((ji2n : Int)) : Int).toNat).length : Int)
          · rw [if_pos c8] at H
            have c8b0 : decide (x14_1 < ((l0_4.take (((ji2n : Int)) : Int).toNat).length : Int)) = true := decide_eq_true c8
            have c8b0m : decide (x14_1 < (ji2n : Int)) = true := by have h_ := c8b0; simp only [HLM.out] at h_; exact h_
            clear c8
            by_cases c9 : 0 ≤ x14_1
            · rw [if_pos c9] at H
              have c9b0 : decide (0 ≤ x14_1) = true := decide_eq_true c9
              clear c9
              by_cases c10 : x14_1 < ((l0_4.take (((ji2n : Int)) : Int).toNat).length : Int)
              · rw [if_pos c10] at H
                have c10b0 : decide (x14_1 < ((l0_4.take (((ji2n : Int)) : Int).toNat).length : Int)) = true := decide_eq_true c10
                have c10b0m : decide (x14_1 < (ji2n : Int)) = true := by have h_ := c10b0; simp only [HLM.out] at h_; exact h_
                clear c10
                have c11b0 := eq_true (of_decide_eq_true (by first | (with_reducible assumption) | assumption) : 0 ≤ x14_1)
                obtain ⟨ji12, hji12⟩ : ∃ j_ : Int, (shl .i64 (Go.bits .and .i64 (rd (l0_4.take (((ji2n : Int)) : Int).toNat) x14_1) 1) x14_1) = j_ := ⟨_, rfl⟩
                replace H : (gate_Start.l0 k1 (Go.bits .or .i64 x3_1 (ji12)) (l0_4.take (((ji2n : Int)) : Int).toNat) ((l0_4.take (((ji2n : Int)) : Int).toNat).length : Int) (wrap64 (x14_1 + 1))) = some r := by first | (rw [hji12] at H; exact H) | (simp only [hji12] at H ⊢; exact H)
                have hji12_ : (IntKind.i64.wrap ((Go.bits .and .i64 (rd (l0_4.take (((ji2n : Int)) : Int).toNat) x14_1) 1) * 2 ^ min x14_1.toNat 64)) = ji12 := hji12
                have hji12z : x14_1 ≤ 64 → (IntKind.i64.wrap ((Go.bits .and .i64 (rd (l0_4.take (((ji2n : Int)) : Int).toNat) x14_1) 1) * 2 ^ x14_1.toNat)) = ji12 := shl_small hji12
                have hji12y : (wrap64 ((Go.bits .and .i64 (rd (l0_4.take (((ji2n : Int)) : Int).toNat) x14_1) 1) * 2 ^ min x14_1.toNat 64)) = ji12 := (i64_w _).symm.trans hji12_
                have hji12x : x14_1 ≤ 64 → (wrap64 ((Go.bits .and .i64 (rd (l0_4.take (((ji2n : Int)) : Int).toNat) x14_1) 1) * 2 ^ x14_1.toNat)) = ji12 := fun h_ => (i64_w _).symm.trans (hji12z h_)
                have H' := Aside0.mk H
                clear H
                have p114 : 0 ≤ (x14_1 : Int) := of_decide_eq_true (by first | (with_reducible assumption) | assumption)
                have q114 : x14_1 < ((l0_4.take (((ji2n : Int)) : Int).toNat).length : Int) := of_decide_eq_true (by first | (with_reducible assumption) | assumption)
                obtain ⟨ad114, e114, hx114_0⟩ := Kd.at_int HR113.out x14_1 p114 q114
                cases e114
                replace hx114_0 := (HB.out.cell (World.block_lt_of_cell? w _ hx114_0)).trans hx114_0
                replace p114 := eq_true p114
                replace q114 := eq_true q114
                have q114m := (HLM.out _).symm.trans q114
                go_wp2
                go_roundg k1
                case measure => have := HK1.out; omega
                case rel => exact ⟨(Go.bits .or .i64 x3_1 (ji12)), (wrap64 (x14_1 + 1)), (by first | rfl | (simp; done) | (simp only [← hji12, shl, i64_w, Int.toNat_natCast]; done) | (simp [← hji12, shl, i64_w, IntKind.bits]; done) | (simp [*]; done) | (simp only [shl, i64_w, Int.toNat_natCast]; rfl) | (unfold shl; simp only [i64_w, Int.toNat_natCast]; rfl)), (by first | rfl | (simp; done) | (simp [*]; done)), H', ⟨by have := HK1.out; omega⟩, ⟨by (with_reducible repeat (first | refine blk_drewN ?_ _ | refine blk_drew ?_ | refine blk_alloc ?_ _)); exact BK112.out⟩, ⟨by repeat (first | (with_reducible first | exact HB.out | apply below_alloc | apply pw_below_drewN | apply below_drew1 | refine below_set ?_ GE112.out) | exact HB.out)⟩⟩
              · rw [if_neg c10] at H
                exact absurd H (by simp)
            · rw [if_neg c9] at H
              exact absurd H (by simp)
          · rw [if_neg c8] at H
            have c8b0 : decide (x14_1 < ((l0_4.take (((ji2n : Int)) : Int).toNat).length : Int)) = false := decide_eq_false c8
            have c8b0m : decide (x14_1 < (ji2n : Int)) = false := by have h_ := c8b0; simp only [HLM.out] at h_; exact h_
            clear c8
            obtain rfl := Option.some.inj H
            go_wp2
            go_ret
            exact ⟨by first | rfl | (simp [errW_none, errW_some] <;> rfl) | (simp only [← hji2]; first | rfl | (simp [errW_none, errW_some] <;> rfl)) | (simp [*, errW_none, errW_some] <;> rfl), by repeat (first | (with_reducible first | exact HB.out | apply below_alloc | apply pw_below_drewN | apply below_drew1 | refine below_set ?_ GE112.out) | exact HB.out)⟩
    · rw [if_neg c4] at H
      exact absurd H (by simp)
  · rw [if_neg c3] at H
    exact absurd H (by simp)

end Go.Proofs.Ytaalafnkglbcpaa.PG
