/- frame.Of: n frames of what a chip shows. Own text of this claim; the walk ahead of slices.Chunk began as a printed text. -/
import Derived.Test.YtijfinimlnedpaaPFTx2
import Derived.Test.YtijfinimlnedpaaFtChunk
import Derived.Test.YtijfinimlnedpaaFtClone
import Derived.Test.YtijfinimlnedpaaFtRound
namespace Go.Proofs.Ytijfinimlnedpaa.PFT
open Go.RowKit Go.Proofs.YtijfinimlnedpaaW.PrintWords Go.Proofs.YtijfinimlnedpaaW.PrintLast Go.Proofs.YtijfinimlnedpaaW.PrintMore
attribute [local go_sem] Oper.semAt_some
attribute [local go_sem] max2_int min2_int max_two min_two max_three min_three max_four min_four   -- for this text's walks alone
set_option linter.unusedVariables false
set_option linter.unusedSimpArgs false

/-! ### frame_OfA: function 36 -/
mutual
def frame_OfA.j0 : Nat → List (S126) → ByteArray → Int → Int → Bool → Option (List Int × Int)
  | 0, _, _, _, _, _ => none
  | k + 1, x0, x1, x2, x3, x28 => if x28 = true then (some (([] : List Int), 2)) else (if x2 < 0 then (frame_OfA.j1 k x0 x1 x2 x3 true) else (frame_OfA.j1 k x0 x1 x2 x3 (decide (x2 > 15))))
def frame_OfA.j1 : Nat → List (S126) → ByteArray → Int → Int → Bool → Option (List Int × Int)
  | 0, _, _, _, _, _ => none
  | k + 1, x0, x1, x2, x3, x34 => if x34 = true then (some (([] : List Int), 1)) else (if 0 ≤ (wrap64 ((wrap64 (x3 * 64)) * 40)) then (if (wrap64 ((wrap64 (x3 * 64)) * 40) : Int).toNat ≤ 35184372088832 then (frame_OfA.l0 k x1 x2 (List.replicate (wrap64 ((wrap64 (x3 * 64)) * 40) : Int).toNat 0) 0 x0 (x0.length : Int) 0) else (none)) else (none))
def frame_OfA.l0 : Nat → ByteArray → Int → List Int → Int → List (S126) → Int → Int → Option (List Int × Int)
  | 0, _, _, _, _, _, _, _ => none
  | k + 1, x1, x2, x11, x12, x39, x40, x41 => if x41 < x40 then (if 0 ≤ x41 then (if x41 < (x39.length : Int) then (if ((rd_T126 x39 x41).f1).toList = x1.toList then (frame_OfA.l1 k x1 x2 x11 x12 x39 x40 x41 ((rd_T126 x39 x41).f0) ((rd_T126 x39 x41).f1) ((rd_T126 x39 x41).f2)) else (frame_OfA.l0 k x1 x2 x11 x12 x39 x40 (wrap64 (x41 + 1)))) else (none)) else (none)) else (frame_OfA.l2 k x2 x11 x12)
def frame_OfA.l1 : Nat → ByteArray → Int → List Int → Int → List (S126) → Int → Int → Int → ByteArray → Int → Option (List Int × Int)
  | 0, _, _, _, _, _, _, _, _, _, _ => none
  | k + 1, x1, x2, x11, x12, x39, x40, x41, x109000, x109001, x109002 => if x12 < (x11.length : Int) then (if x12 < x109000 then (if 0 ≤ x12 then (frame_OfA.l1 k x1 x2 (x11.set (x12 : Int).toNat x2) (wrap64 (x12 + 1)) x39 x40 x41 x109000 x109001 x109002) else (none)) else (frame_OfA.l0 k x1 x109002 x11 x12 x39 x40 (wrap64 (x41 + 1)))) else (frame_OfA.l0 k x1 x109002 x11 x12 x39 x40 (wrap64 (x41 + 1)))
def frame_OfA.l2 : Nat → Int → List Int → Int → Option (List Int × Int)
  | 0, _, _, _ => none
  | k + 1, x2, x11, x12 => if x12 < (x11.length : Int) then (if 0 ≤ x12 then (frame_OfA.l2 k x2 (x11.set (x12 : Int).toNat x2) (wrap64 (x12 + 1))) else (none)) else (some (x11, 0))
end
def frame_OfA.f (k : Nat) (l0 : List (S126)) (a1 : ByteArray) (a2 : Int) (a3 : Int) : Option (List Int × Int) := (frame_Check.f k l0 a1).bind fun t103 => (if t103 = 0 then (if a3 < 0 then (frame_OfA.j0 k l0 a1 a2 a3 true) else (frame_OfA.j0 k l0 a1 a2 a3 (decide (a3 > 40)))) else (some (([] : List Int), t103)))
theorem frame_OfA.mono_l : ∀ k, (∀ y0 y1 y2 y3 y4, LeO (frame_OfA.j0 k y0 y1 y2 y3 y4) (frame_OfA.j0 (k + 1) y0 y1 y2 y3 y4)) ∧ (∀ y0 y1 y2 y3 y4, LeO (frame_OfA.j1 k y0 y1 y2 y3 y4) (frame_OfA.j1 (k + 1) y0 y1 y2 y3 y4)) ∧ (∀ y0 y1 y2 y3 y4 y5 y6, LeO (frame_OfA.l0 k y0 y1 y2 y3 y4 y5 y6) (frame_OfA.l0 (k + 1) y0 y1 y2 y3 y4 y5 y6)) ∧ (∀ y0 y1 y2 y3 y4 y5 y6 y7 y8 y9, LeO (frame_OfA.l1 k y0 y1 y2 y3 y4 y5 y6 y7 y8 y9) (frame_OfA.l1 (k + 1) y0 y1 y2 y3 y4 y5 y6 y7 y8 y9)) ∧ (∀ y0 y1 y2, LeO (frame_OfA.l2 k y0 y1 y2) (frame_OfA.l2 (k + 1) y0 y1 y2))
  | 0 => ⟨fun _ _ _ _ _ r h => by simp [frame_OfA.j0] at h, fun _ _ _ _ _ r h => by simp [frame_OfA.j1] at h, fun _ _ _ _ _ _ _ r h => by simp [frame_OfA.l0] at h, fun _ _ _ _ _ _ _ _ _ _ r h => by simp [frame_OfA.l1] at h, fun _ _ _ r h => by simp [frame_OfA.l2] at h⟩
  | k + 1 => by
    obtain ⟨ih0, ih1, ih2, ih3, ih4⟩ := frame_OfA.mono_l k
    refine ⟨?_, ?_, ?_, ?_, ?_⟩
    · intro y0 y1 y2 y3 y4
      unfold frame_OfA.j0
      repeat' first
      | (with_reducible exact ih0 _ _ _ _ _)
      | (with_reducible exact ih1 _ _ _ _ _)
      | (with_reducible exact ih2 _ _ _ _ _ _ _)
      | (with_reducible exact ih3 _ _ _ _ _ _ _ _ _ _)
      | (with_reducible exact ih4 _ _ _)
      | (with_reducible exact frame_Check.mono _ _ _)
      | (with_reducible exact LeO.refl _)
      | (with_reducible exact LeO.none _)
      | (with_reducible refine LeO.ite ?_ ?_)
      | (with_reducible refine LeO.bind ?_ (fun _ => ?_))
      | exact ih0 _ _ _ _ _
      | exact ih1 _ _ _ _ _
      | exact ih2 _ _ _ _ _ _ _
      | exact ih3 _ _ _ _ _ _ _ _ _ _
      | exact ih4 _ _ _
      | exact frame_Check.mono _ _ _
      | exact LeO.none _
      | refine LeO.ite ?_ ?_
      | refine LeO.bind ?_ (fun _ => ?_)
    · intro y0 y1 y2 y3 y4
      unfold frame_OfA.j1
      repeat' first
      | (with_reducible exact ih0 _ _ _ _ _)
      | (with_reducible exact ih1 _ _ _ _ _)
      | (with_reducible exact ih2 _ _ _ _ _ _ _)
      | (with_reducible exact ih3 _ _ _ _ _ _ _ _ _ _)
      | (with_reducible exact ih4 _ _ _)
      | (with_reducible exact frame_Check.mono _ _ _)
      | (with_reducible exact LeO.refl _)
      | (with_reducible exact LeO.none _)
      | (with_reducible refine LeO.ite ?_ ?_)
      | (with_reducible refine LeO.bind ?_ (fun _ => ?_))
      | exact ih0 _ _ _ _ _
      | exact ih1 _ _ _ _ _
      | exact ih2 _ _ _ _ _ _ _
      | exact ih3 _ _ _ _ _ _ _ _ _ _
      | exact ih4 _ _ _
      | exact frame_Check.mono _ _ _
      | exact LeO.none _
      | refine LeO.ite ?_ ?_
      | refine LeO.bind ?_ (fun _ => ?_)
    · intro y0 y1 y2 y3 y4 y5 y6
      unfold frame_OfA.l0
      repeat' first
      | (with_reducible exact ih0 _ _ _ _ _)
      | (with_reducible exact ih1 _ _ _ _ _)
      | (with_reducible exact ih2 _ _ _ _ _ _ _)
      | (with_reducible exact ih3 _ _ _ _ _ _ _ _ _ _)
      | (with_reducible exact ih4 _ _ _)
      | (with_reducible exact frame_Check.mono _ _ _)
      | (with_reducible exact LeO.refl _)
      | (with_reducible exact LeO.none _)
      | (with_reducible refine LeO.ite ?_ ?_)
      | (with_reducible refine LeO.bind ?_ (fun _ => ?_))
      | exact ih0 _ _ _ _ _
      | exact ih1 _ _ _ _ _
      | exact ih2 _ _ _ _ _ _ _
      | exact ih3 _ _ _ _ _ _ _ _ _ _
      | exact ih4 _ _ _
      | exact frame_Check.mono _ _ _
      | exact LeO.none _
      | refine LeO.ite ?_ ?_
      | refine LeO.bind ?_ (fun _ => ?_)
    · intro y0 y1 y2 y3 y4 y5 y6 y7 y8 y9
      unfold frame_OfA.l1
      repeat' first
      | (with_reducible exact ih0 _ _ _ _ _)
      | (with_reducible exact ih1 _ _ _ _ _)
      | (with_reducible exact ih2 _ _ _ _ _ _ _)
      | (with_reducible exact ih3 _ _ _ _ _ _ _ _ _ _)
      | (with_reducible exact ih4 _ _ _)
      | (with_reducible exact frame_Check.mono _ _ _)
      | (with_reducible exact LeO.refl _)
      | (with_reducible exact LeO.none _)
      | (with_reducible refine LeO.ite ?_ ?_)
      | (with_reducible refine LeO.bind ?_ (fun _ => ?_))
      | exact ih0 _ _ _ _ _
      | exact ih1 _ _ _ _ _
      | exact ih2 _ _ _ _ _ _ _
      | exact ih3 _ _ _ _ _ _ _ _ _ _
      | exact ih4 _ _ _
      | exact frame_Check.mono _ _ _
      | exact LeO.none _
      | refine LeO.ite ?_ ?_
      | refine LeO.bind ?_ (fun _ => ?_)
    · intro y0 y1 y2
      unfold frame_OfA.l2
      repeat' first
      | (with_reducible exact ih0 _ _ _ _ _)
      | (with_reducible exact ih1 _ _ _ _ _)
      | (with_reducible exact ih2 _ _ _ _ _ _ _)
      | (with_reducible exact ih3 _ _ _ _ _ _ _ _ _ _)
      | (with_reducible exact ih4 _ _ _)
      | (with_reducible exact frame_Check.mono _ _ _)
      | (with_reducible exact LeO.refl _)
      | (with_reducible exact LeO.none _)
      | (with_reducible refine LeO.ite ?_ ?_)
      | (with_reducible refine LeO.bind ?_ (fun _ => ?_))
      | exact ih0 _ _ _ _ _
      | exact ih1 _ _ _ _ _
      | exact ih2 _ _ _ _ _ _ _
      | exact ih3 _ _ _ _ _ _ _ _ _ _
      | exact ih4 _ _ _
      | exact frame_Check.mono _ _ _
      | exact LeO.none _
      | refine LeO.ite ?_ ?_
      | refine LeO.bind ?_ (fun _ => ?_)
theorem frame_OfA.mono : ∀ a0 a1 a2 a3 k, LeO (frame_OfA.f k a0 a1 a2 a3) (frame_OfA.f (k + 1) a0 a1 a2 a3) := by
  intro a0 a1 a2 a3 k
  obtain ⟨ih0, ih1, ih2, ih3, ih4⟩ := frame_OfA.mono_l k
  unfold frame_OfA.f
  repeat' first
      | (with_reducible exact ih0 _ _ _ _ _)
      | (with_reducible exact ih1 _ _ _ _ _)
      | (with_reducible exact ih2 _ _ _ _ _ _ _)
      | (with_reducible exact ih3 _ _ _ _ _ _ _ _ _ _)
      | (with_reducible exact ih4 _ _ _)
      | (with_reducible exact frame_Check.mono _ _ _)
      | (with_reducible exact LeO.refl _)
      | (with_reducible exact LeO.none _)
      | (with_reducible refine LeO.ite ?_ ?_)
      | (with_reducible refine LeO.bind ?_ (fun _ => ?_))
      | exact ih0 _ _ _ _ _
      | exact ih1 _ _ _ _ _
      | exact ih2 _ _ _ _ _ _ _
      | exact ih3 _ _ _ _ _ _ _ _ _ _
      | exact ih4 _ _ _
      | exact frame_Check.mono _ _ _
      | exact LeO.none _
      | refine LeO.ite ?_ ?_
      | refine LeO.bind ?_ (fun _ => ?_)
set_option maxHeartbeats 8000000 in
set_option maxRecDepth 100000 in
theorem frame_OfA.calls (k : Nat) (A0 : Option Addr) (c0 : Nat) (l0 : List (S126)) (a1 : ByteArray) (a2 : Int) (a3 : Int) (r1 : List Int) (r2 : Int) (w : World) (m : Nat) (hm : m ≤ 40) (hl : r2 = 0 → r1.length = m * 2560) (hr0 : Kd.C k126 w A0 l0.length l0) (hc0 : l0.length ≤ c0) (h : frame_OfA.f k l0 a1 a2 a3 = some (r1, r2)) :
    Calls Try.prog 36 #[.slice A0 l0.length c0, .string a1, .int .i64 a2, .int .i64 a3] w fun e w' => ∃ v0_ : Value, e = .returned (.tuple #[v0_, .int .i64 r2]) ∧ Kd.S (Kd.slice 3 (Kd.int .i64)) 70 w' w.heap.size (fun _ => True) v0_ (pic r1 r2 m) ∧ Below w.heap.size w w' := by
  have hu126 := Try.underlying126
  have HML := Aside0.mk hl
  clear hl
  have HR0 := Aside0.mk hr0
  have HC0 := Aside0.mk hc0
  clear hr0 hc0
  have HB := Aside0.mk (Below.refl w.heap.size w)
  have H : ((frame_Check.f k l0 a1).bind fun t103 => (if t103 = 0 then (if a3 < 0 then (frame_OfA.j0 k l0 a1 a2 a3 true) else (frame_OfA.j0 k l0 a1 a2 a3 (decide (a3 > 40)))) else (some (([] : List Int), t103)))) = some (r1, r2) := h
  clear h
  replace H := Option.bind_eq_some_iff.mp H
  obtain ⟨t103, A50, H⟩ := H
  replace H : (if t103 = 0 then (if a3 < 0 then (frame_OfA.j0 k l0 a1 a2 a3 true) else (frame_OfA.j0 k l0 a1 a2 a3 (decide (a3 > 40)))) else (some (([] : List Int), t103))) = some (r1, r2) := H
  have A5 := Aside0.mk A50
  clear A50
  by_cases c6 : t103 = 0
  · rw [if_pos c6] at H
    have c6b0 : (t103 == 0) = true := beq_iff_eq.mpr c6
    have c6b1 : (t103 != 0) = false := bne_eq_false_iff_eq.mpr c6
    clear c6
    have HC7 := Aside0.mk H
    clear H
    refine calls_of_wp_marks Try.func36 rfl ?_
    simp only [Try.ntmps36, List.size_toArray, List.length_cons, List.length_nil, Nat.reduceAdd, Nat.reduceSub, Array.replicate_succ, Array.replicate_zero, List.push_toArray, List.append_toArray, List.nil_append, List.cons_append]
    let bp_ : Exit → Act → World → Prop := bodyPost Try.prog Try.f36 (fun _ _ => True)
    go_upto_region 4 with (first | ((with_reducible refine gate_callee (f := 43) rfl ?_); refine goesL_ (some 19) rfl rfl Try.func43 (by kernel_rfl) rfl #[.slice A0 l0.length c0, .string a1] rfl (by (try simp only [List.map_toArray, List.map_cons, List.map_nil]); first | done | rfl | (simp only [List.length_drop, List.length_take]; rfl)) ?_; (with_reducible refine (frame_Check.calls k _ _ l0 a1 t103 _ ?side1 ?side2 A5.out).mono ?_); (case side1 => repeat (first | exact HR0.out | (with_reducible refine Kd.C_alloc ?_ _) | (with_reducible refine Kd.C_drewN ?_ _) | (with_reducible refine Kd.C_drew ?_))); (case side2 => exact HC0.out); rintro e w8 ⟨rfl, hb⟩; refine ⟨_, rfl, ?_⟩; have n0_ := Aside0.mk (below_step (by repeat (first | (with_reducible first | exact HB.out | apply below_alloc | apply pw_below_drewN | apply below_drew1) | exact HB.out)) hb); clear HB; have HB := n0_; clear n0_; (try clear hb); (try clear hb2); (try clear hk); (try clear hi)))
    (try simp only [Act.put, List.setIfInBounds_toArray, List.set_cons_zero, List.set_cons_succ])
    go_cut [28] (fun v28 wc => ∃ (kq : Nat) (x28_6 : Bool), v28 = .bool x28_6 ∧ Aside0 (frame_OfA.j0 kq l0 a1 a2 a3 x28_6 = some (r1, r2)) ∧ Aside0 (kq ≤ k) ∧ Aside0 (Below w.heap.size w wc))
    case first =>
      have H := HC7.out
      clear HC7
      by_cases c9 : a3 < 0
      · rw [if_pos c9] at H
        have c9b0 : decide (a3 < 0) = true := decide_eq_true c9
        clear c9
        (first | rw [c9b0] | (simp only [i64_w, i32_w]; rw [c9b0]) | skip)
        have H' := Aside0.mk H
        clear H
        go_wp2
        go_meet
        case rel => exact ⟨_, (true), (by first | rfl | (simp; done) | (simp [*]; done)), H', ⟨by first | omega | exact Nat.le_refl _⟩, ⟨by repeat (first | (with_reducible first | exact HB.out | apply below_alloc | apply pw_below_drewN | apply below_drew1) | exact HB.out)⟩⟩
      · rw [if_neg c9] at H
        have c9b0 : decide (a3 < 0) = false := decide_eq_false c9
        clear c9
        (first | rw [c9b0] | (simp only [i64_w, i32_w]; rw [c9b0]) | skip)
        have H' := Aside0.mk H
        clear H
        go_wp2
        go_meet
        case rel => exact ⟨_, (decide (a3 > 40)), (by first | rfl | (simp; done) | (simp [*]; done)), H', ⟨by first | omega | exact Nat.le_refl _⟩, ⟨by repeat (first | (with_reducible first | exact HB.out | apply below_alloc | apply pw_below_drewN | apply below_drew1) | exact HB.out)⟩⟩
    case rest =>
      clear HC7
      try clear p2
      try clear c3
      try clear c4
      try clear c6
      try clear c6b0
      try clear c6b1
      try clear c9
      try clear c9b0
      obtain ⟨kq, x28_6, rfl, HA, HJ6, HB⟩ := hcut
      cases kq with
      | zero => exact absurd HA.out (by simp [frame_OfA.j0])
      | succ kj6 =>
        have H := HA.out
        clear HA
        simp only [frame_OfA.j0] at H
        by_cases c10 : x28_6 = true
        · subst c10
          have H1 : (some (([] : List Int), 2)) = some (r1, r2) := by rw [if_pos rfl] at H; exact H
          clear H
          have H := H1
          clear H1
          simp only [Option.some.injEq, Prod.mk.injEq] at H
          obtain ⟨rfl, rfl⟩ := H
          go_wp2
          refine marks_of_post ?_
          go_ret2
          exact ⟨_, by first | rfl | (simp [errW_none, errW_some] <;> rfl) | (simp [*, errW_none, errW_some] <;> rfl), by rw [pic_no (by decide)]; first | exact Kd.R_nil _ _ _ _ _ | exact Kd.N_nil _ _ _ _ _ | exact Kd.V_nil _ _ _ _ _ | exact Kd.Q_nil _ _ _ _ _ | exact Kd.S_nil _ _ _ _ _, by repeat (first | (with_reducible first | exact HB.out | apply below_alloc | apply pw_below_drewN | apply below_drew1) | exact HB.out)⟩
        · replace c10 := Bool.eq_false_iff.mpr c10
          subst c10
          have H1 : (if a2 < 0 then (frame_OfA.j1 kj6 l0 a1 a2 a3 true) else (frame_OfA.j1 kj6 l0 a1 a2 a3 (decide (a2 > 15)))) = some (r1, r2) := by rw [if_neg (show ¬ (false = true) by decide)] at H; exact H
          clear H
          have H := H1
          clear H1
          have HC11 := Aside0.mk H
          clear H
          go_upto_region 6 with (fail)
          go_cut [34] (fun v34 wc => ∃ (kq : Nat) (x34_10 : Bool), v34 = .bool x34_10 ∧ Aside0 (frame_OfA.j1 kq l0 a1 a2 a3 x34_10 = some (r1, r2)) ∧ Aside0 (kq ≤ kj6) ∧ Aside0 (Below w.heap.size w wc))
          case first =>
            have H := HC11.out
            clear HC11
            by_cases c12 : a2 < 0
            · rw [if_pos c12] at H
              have c12b0 : decide (a2 < 0) = true := decide_eq_true c12
              clear c12
              (first | rw [c12b0] | (simp only [i64_w, i32_w]; rw [c12b0]) | skip)
              have H' := Aside0.mk H
              clear H
              go_wp2
              go_meet
              case rel => exact ⟨_, (true), (by first | rfl | (simp; done) | (simp [*]; done)), H', ⟨by have := HJ6.out; first | omega | exact Nat.le_refl _⟩, ⟨by repeat (first | (with_reducible first | exact HB.out | apply below_alloc | apply pw_below_drewN | apply below_drew1) | exact HB.out)⟩⟩
            · rw [if_neg c12] at H
              have c12b0 : decide (a2 < 0) = false := decide_eq_false c12
              clear c12
              (first | rw [c12b0] | (simp only [i64_w, i32_w]; rw [c12b0]) | skip)
              have H' := Aside0.mk H
              clear H
              go_wp2
              go_meet
              case rel => exact ⟨_, (decide (a2 > 15)), (by first | rfl | (simp; done) | (simp [*]; done)), H', ⟨by have := HJ6.out; first | omega | exact Nat.le_refl _⟩, ⟨by repeat (first | (with_reducible first | exact HB.out | apply below_alloc | apply pw_below_drewN | apply below_drew1) | exact HB.out)⟩⟩
          case rest =>
            clear HC11
            try clear c1
            try clear p2
            try clear c3
            try clear c4
            try clear c6
            try clear c6b0
            try clear c6b1
            try clear c9
            try clear c9b0
            try clear c10
            try clear c12
            try clear c12b0
            try clear p2
            obtain ⟨kq, x34_10, rfl, HA, HJ10, HB⟩ := hcut
            cases kq with
            | zero => exact absurd HA.out (by simp [frame_OfA.j1])
            | succ kj10 =>
              have H := HA.out
              clear HA
              simp only [frame_OfA.j1] at H
              by_cases c13 : x34_10 = true
              · subst c13
                have H1 : (some (([] : List Int), 1)) = some (r1, r2) := by rw [if_pos rfl] at H; exact H
                clear H
                have H := H1
                clear H1
                simp only [Option.some.injEq, Prod.mk.injEq] at H
                obtain ⟨rfl, rfl⟩ := H
                go_wp2
                refine marks_of_post ?_
                go_ret2
                exact ⟨_, by first | rfl | (simp [errW_none, errW_some] <;> rfl) | (simp [*, errW_none, errW_some] <;> rfl), by rw [pic_no (by decide)]; first | exact Kd.R_nil _ _ _ _ _ | exact Kd.N_nil _ _ _ _ _ | exact Kd.V_nil _ _ _ _ _ | exact Kd.Q_nil _ _ _ _ _ | exact Kd.S_nil _ _ _ _ _, by repeat (first | (with_reducible first | exact HB.out | apply below_alloc | apply pw_below_drewN | apply below_drew1) | exact HB.out)⟩
              · replace c13 := Bool.eq_false_iff.mpr c13
                subst c13
                have H1 : (if 0 ≤ (wrap64 ((wrap64 (a3 * 64)) * 40)) then (if (wrap64 ((wrap64 (a3 * 64)) * 40) : Int).toNat ≤ 35184372088832 then (frame_OfA.l0 kj10 a1 a2 (List.replicate (wrap64 ((wrap64 (a3 * 64)) * 40) : Int).toNat 0) 0 l0 (l0.length : Int) 0) else (none)) else (none)) = some (r1, r2) := by rw [if_neg (show ¬ (false = true) by decide)] at H; exact H
                clear H
                have H := H1
                clear H1
                obtain ⟨ji14, hji14⟩ : ∃ j_ : Int, (wrap64 ((wrap64 (a3 * 64)) * 40)) = j_ := ⟨_, rfl⟩
                replace H : (if 0 ≤ (ji14) then (if (ji14 : Int).toNat ≤ 35184372088832 then (frame_OfA.l0 kj10 a1 a2 (List.replicate (ji14 : Int).toNat 0) 0 l0 (l0.length : Int) 0) else (none)) else (none)) = some (r1, r2) := by first | (rw [hji14] at H; exact H) | (simp only [hji14] at H ⊢; exact H)
                have hji14w : (IntKind.i64.wrap ((wrap64 (a3 * 64)) * 40)) = ji14 := (i64_w _).trans hji14
                by_cases c15 : 0 ≤ (ji14)
                · rw [if_pos c15] at H
                  have c15b0 := eq_true c15
                  have c15b1 : decide (0 ≤ (ji14)) = true := decide_eq_true c15
                  clear c15
                  by_cases c16 : (ji14 : Int).toNat ≤ 35184372088832
                  · rw [if_pos c16] at H
                    have c16b0 := eq_true c16
                    have c16b1 : decide ((ji14 : Int).toNat ≤ 35184372088832) = true := decide_eq_true c16
                    clear c16
                    obtain ⟨y104, hy104⟩ : ∃ y_ : List Int, y_ = (List.replicate (ji14 : Int).toNat 0) := ⟨_, rfl⟩
                    replace H : (frame_OfA.l0 kj10 a1 a2 y104 0 l0 (l0.length : Int) 0) = some (r1, r2) := by first | (rw [hy104]; with_reducible exact H) | (have H2_ := (Option.bind_some _ _).symm.trans H; rw [hy104]; with_reducible exact H2_) | (have H2_ := (Option.bind_some _ _).symm.trans H; with_reducible exact H2_) | with_reducible exact H | (rw [hy104]; exact H) | exact H
                    have Ny104 := Aside0.mk hy104
                    clear hy104
                    have H' := Aside0.mk H
                    clear H
                    go_wp2_with (first | ((with_reducible refine gate_dst (N := 38) rfl ?_); refine Kd.R_make (Kd.int .i64) _ 3 rfl (N := 38) rfl 22 _ _ rfl ji14 rfl rfl Try.underlying22 (.int .i64 0) 8 info3 rfl (by decide) (by omega) 0 (ok := fun _ => True) (okp := fun _ => True) rfl (fun _ hk => hk) trivial (of_decide_eq_true (by first | (with_reducible assumption) | assumption)) (Nat.le_trans (Nat.mul_le_mul_right _ (of_decide_eq_true (by first | (with_reducible assumption) | assumption) : ji14.toNat ≤ 35184372088832)) (by omega)) (Below.refl _ _) (Nat.le_refl _) ?_; intro v105 w17 ho18 hb hg_ hnew_; clear hg_ hnew_; (first | rw [← Ny104.out] at ho18 | (simp only [Int.reduceToNat] at ho18; rw [← Ny104.out] at ho18)); have n0_ := Aside0.mk (Kd.R_lower ho18 (below_size (by repeat (first | (with_reducible first | exact HB.out | apply below_alloc | apply pw_below_drewN | apply below_drew1) | exact HB.out)))); have n1_ := Aside0.mk (below_step (by repeat (first | (with_reducible first | exact HB.out | apply below_alloc | apply pw_below_drewN | apply below_drew1) | exact HB.out)) hb); clear HB; have HO106 := n0_; have HB := n1_; clear n0_ n1_; clear hb ho18))
                    go_loopg [2, 12, 41] kj10 (fun kq v2 v12 v41 w' => ∃ (x2_3 : Int) (x11_3 : List Int) (x12_3 : Int) (x41_3 : Int), v2 = .int .i64 x2_3 ∧ v12 = .int .i64 x12_3 ∧ v41 = .int .i64 x41_3 ∧ Aside0 (frame_OfA.l0 kq a1 x2_3 x11_3 x12_3 l0 (l0.length : Int) x41_3 = some (r1, r2)) ∧ Aside0 (kq ≤ kj10) ∧ Aside0 (Kd.R (Kd.int .i64) 3 w' w.heap.size (fun _ => True) v105 x11_3) ∧ Aside0 (Below w.heap.size w w'))
                    case atStart => exact ⟨(a2), (y104), (0), (0), (by first | rfl | (simp; done) | (simp [*]; done)), (by first | rfl | (simp; done) | (simp [*]; done)), (by first | rfl | (simp; done) | (simp [*]; done)), H', ⟨Nat.le_refl _⟩, ⟨by (with_reducible repeat (first | apply Kd.R_alloc | apply Kd.R_drewN | apply Kd.R_drew)); exact HO106.out⟩, ⟨by repeat (first | (with_reducible first | exact HB.out | apply below_alloc | apply pw_below_drewN | apply below_drew1) | exact HB.out)⟩⟩
                    case round =>
                      clear H'
                      try clear c1
                      try clear p2
                      try clear c3
                      try clear c4
                      try clear c6
                      try clear c6b0
                      try clear c6b1
                      try clear p6
                      try clear c9
                      try clear c9b0
                      try clear c10
                      try clear c12
                      try clear c12b0
                      try clear c13
                      try clear c15
                      try clear c15b0
                      try clear c15b1
                      try clear c16
                      try clear c16b0
                      try clear c16b1
                      try clear p2
                      obtain ⟨x2_3, x11_3, x12_3, x41_3, rfl, rfl, rfl, HA, HK3, HO_11, HB⟩ := hrel
                      cases gk with
                      | zero => exact absurd HA.out (by simp [frame_OfA.l0])
                      | succ k3 =>
                        have H := HA.out
                        clear HA
                        simp only [frame_OfA.l0] at H
                        by_cases c19 : x41_3 < (l0.length : Int)
                        · rw [if_pos c19] at H
                          have c19b0 : decide (x41_3 < (l0.length : Int)) = true := decide_eq_true c19
                          clear c19
                          by_cases c20 : 0 ≤ x41_3
                          · rw [if_pos c20] at H
                            have c20b0 : decide (0 ≤ x41_3) = true := decide_eq_true c20
                            clear c20
                            by_cases c21 : x41_3 < (l0.length : Int)
                            · rw [if_pos c21] at H
                              have c21b0 : decide (x41_3 < (l0.length : Int)) = true := decide_eq_true c21
                              clear c21
                              by_cases c22 : ((rd_T126 l0 x41_3).f1).toList = a1.toList
                              · rw [if_pos c22] at H
                                have c22b0 : (((rd_T126 l0 x41_3).f1).toList == a1.toList) = true := beq_iff_eq.mpr c22
                                have c22b1 : (((rd_T126 l0 x41_3).f1).toList != a1.toList) = false := bne_eq_false_iff_eq.mpr c22
                                clear c22
                                have H' := Aside0.mk H
                                clear H
                                have p107 : 0 ≤ (x41_3 : Int) := of_decide_eq_true (by first | (with_reducible assumption) | assumption)
                                have q107 : x41_3 < (l0.length : Int) := of_decide_eq_true (by first | (with_reducible assumption) | assumption)
                                obtain ⟨ad107, e107, hx107_0, hx107_1, hx107_2⟩ := at_T126 HR0.out x41_3 p107 q107
                                cases e107
                                replace hx107_0 := (HB.out.cell (World.block_lt_of_cell? w _ hx107_0)).trans hx107_0
                                replace hx107_1 := (HB.out.cell (World.block_lt_of_cell? w _ hx107_1)).trans hx107_1
                                replace hx107_2 := (HB.out.cell (World.block_lt_of_cell? w _ hx107_2)).trans hx107_2
                                replace p107 := eq_true p107
                                replace q107 := eq_true q107
                                go_wp2_with (first | ((with_reducible refine gate_dst (N := 14) rfl ?_); refine box_event ?hg (N := 14) ?hd (cs := #[.int .i64 0, .string (⟨#[]⟩ : ByteArray), .int .i64 0]) (t := 126) ?hr ?_; (case hd => rfl); (case hg => rfl); (case hr => first | (go_simp; done) | (go_simp; rfl)); intro gb108 hg w23 hbox hb; have n0_ := Aside0.mk (Kd.R_below (by (with_reducible repeat (first | apply Kd.R_alloc | apply Kd.R_drewN | apply Kd.R_drew)); exact HO_11.out) hb); have n1_ := Aside0.mk (below_step (by repeat (first | (with_reducible first | exact HB.out | apply below_alloc | apply pw_below_drewN | apply below_drew1) | exact HB.out)) hb); have n2_ := Aside0.mk (hbox); have n3_ := Aside0.mk ((by rw [hg]; exact (below_size (by repeat (first | (with_reducible first | exact HB.out | apply below_alloc | apply pw_below_drewN | apply below_drew1) | exact HB.out))) : w.heap.size ≤ gb108)); have n4_ := Aside0.mk ((by rw [hg]; exact (below_size (by repeat (first | (with_reducible first | exact HB.out | apply below_alloc | apply pw_below_drewN | apply below_drew1) | exact HB.out))) : w.heap.size ≤ gb108)); clear HO_11; clear HB; have HO_11 := n0_; have HB := n1_; have BK108 := n2_; have GW108 := n3_; have GE108 := n4_; clear n0_ n1_ n2_ n3_ n4_; clear hb hbox hg; have hcz24_0 : w23.cell? ⟨gb108, 0, none⟩ = some (.int .i64 0) := (blk_cell BK108.out 0).trans rfl; have hcz24_1 : w23.cell? ⟨gb108, 1, none⟩ = some (.string (⟨#[]⟩ : ByteArray)) := (blk_cell BK108.out 1).trans rfl; have hcz24_2 : w23.cell? ⟨gb108, 2, none⟩ = some (.int .i64 0) := (blk_cell BK108.out 2).trans rfl; have hfz24_0 := blk_frozen BK108.out 0; have hfz24_1 := blk_frozen BK108.out 1; have hfz24_2 := blk_frozen BK108.out 2))
                                go_loopg [12] k3 (fun kq v12 w' => ∃ (x11_4 : List Int) (x12_4 : Int), v12 = .int .i64 x12_4 ∧ Aside0 (frame_OfA.l1 kq a1 x2_3 x11_4 x12_4 l0 (l0.length : Int) x41_3 ((rd_T126 l0 x41_3).f0) ((rd_T126 l0 x41_3).f1) ((rd_T126 l0 x41_3).f2) = some (r1, r2)) ∧ Aside0 (kq ≤ k3) ∧ Aside0 (Kd.R (Kd.int .i64) 3 w' w.heap.size (fun _ => True) v105 x11_4) ∧ Aside0 (w'.heap[gb108]? = some (.cells #[.int .i64 ((rd_T126 l0 x41_3).f0), .string ((rd_T126 l0 x41_3).f1), .int .i64 ((rd_T126 l0 x41_3).f2)] 126 (0, 0))) ∧ Aside0 (Below w.heap.size w w'))
                                case atStart => exact ⟨(x11_3), (x12_3), (by first | rfl | (simp; done) | (simp [*]; done)), H', ⟨Nat.le_refl _⟩, ⟨by (with_reducible repeat (first | apply Kd.R_alloc | apply Kd.R_drewN | apply Kd.R_drew)); exact Kd.R_mono (Kd.R_far (p := ⟨gb108, 2, none⟩) (Kd.R_far (p := ⟨gb108, 1, none⟩) (Kd.R_far (p := ⟨gb108, 0, none⟩) (Kd.R_types HO_11.out BK108.out (by decide)) (fun _ hk => hk.2) (.int .i64 ((rd_T126 l0 x41_3).f0))) (fun _ hk => hk.2) (.string ((rd_T126 l0 x41_3).f1))) (fun _ hk => hk.2) (.int .i64 ((rd_T126 l0 x41_3).f2))) (fun _ hk => trivial)⟩, ⟨by (with_reducible repeat (first | refine blk_drewN ?_ _ | refine blk_drew ?_ | refine blk_alloc ?_ _)); refine blk_put (cs := #[.int .i64 ((rd_T126 l0 x41_3).f0), .string ((rd_T126 l0 x41_3).f1), .int .i64 0]) ?_ 2 _ rfl; (with_reducible repeat (first | refine blk_drewN ?_ _ | refine blk_drew ?_ | refine blk_alloc ?_ _)); refine blk_put (cs := #[.int .i64 ((rd_T126 l0 x41_3).f0), .string (⟨#[]⟩ : ByteArray), .int .i64 0]) ?_ 1 _ rfl; (with_reducible repeat (first | refine blk_drewN ?_ _ | refine blk_drew ?_ | refine blk_alloc ?_ _)); refine blk_put (cs := #[.int .i64 0, .string (⟨#[]⟩ : ByteArray), .int .i64 0]) ?_ 0 _ rfl; (with_reducible repeat (first | refine blk_drewN ?_ _ | refine blk_drew ?_ | refine blk_alloc ?_ _)); exact BK108.out⟩, ⟨by repeat (first | (with_reducible first | exact HB.out | apply below_alloc | apply pw_below_drewN | apply below_drew1 | refine below_set ?_ GE108.out) | exact HB.out)⟩⟩
                                case round =>
                                  clear H'
                                  try clear c1
                                  try clear p1
                                  try clear q1
                                  try clear hx1
                                  try clear c2
                                  try clear p2
                                  try clear c3
                                  try clear c4
                                  try clear c6
                                  try clear c6b0
                                  try clear c6b1
                                  try clear p6
                                  try clear c9
                                  try clear c9b0
                                  try clear c10
                                  try clear p10
                                  try clear q10
                                  try clear hx10
                                  try clear c12
                                  try clear c12b0
                                  try clear c13
                                  try clear c15
                                  try clear c15b0
                                  try clear c15b1
                                  try clear c16
                                  try clear c16b0
                                  try clear c16b1
                                  try clear c19
                                  try clear c19b0
                                  try clear c20
                                  try clear c20b0
                                  try clear c21
                                  try clear c21b0
                                  try clear c22
                                  try clear c22b0
                                  try clear c22b1
                                  try clear hcz24_0
                                  try clear hcz24_1
                                  try clear hcz24_2
                                  try clear hfz24_0
                                  try clear hfz24_1
                                  try clear hfz24_2
                                  try clear hx107_0
                                  try clear hx107_1
                                  try clear hx107_2
                                  try clear p107
                                  try clear p2
                                  try clear p6
                                  try clear q107
                                  obtain ⟨x11_4, x12_4, rfl, HA, HK4, HO_11, BK108, HB⟩ := hrel
                                  cases gk with
                                  | zero => exact absurd HA.out (by simp [frame_OfA.l1])
                                  | succ k4 =>
                                    have H := HA.out
                                    clear HA
                                    simp only [frame_OfA.l1] at H
                                    by_cases c25 : x12_4 < (x11_4.length : Int)
                                    · rw [if_pos c25] at H
                                      have c25b0 : decide (x12_4 < (x11_4.length : Int)) = true := decide_eq_true c25
                                      clear c25
                                      by_cases c26 : x12_4 < ((rd_T126 l0 x41_3).f0)
                                      · rw [if_pos c26] at H
                                        have c26b0 : decide (x12_4 < ((rd_T126 l0 x41_3).f0)) = true := decide_eq_true c26
                                        clear c26
                                        by_cases c27 : 0 ≤ x12_4
                                        · rw [if_pos c27] at H
                                          have c27b0 : decide (0 ≤ x12_4) = true := decide_eq_true c27
                                          clear c27
                                          obtain ⟨y109, hy109⟩ : ∃ y_ : List Int, y_ = (x11_4.set (x12_4 : Int).toNat x2_3) := ⟨_, rfl⟩
                                          replace H : (frame_OfA.l1 k4 a1 x2_3 y109 (wrap64 (x12_4 + 1)) l0 (l0.length : Int) x41_3 ((rd_T126 l0 x41_3).f0) ((rd_T126 l0 x41_3).f1) ((rd_T126 l0 x41_3).f2)) = some (r1, r2) := by first | (rw [hy109]; with_reducible exact H) | (have H2_ := (Option.bind_some _ _).symm.trans H; rw [hy109]; with_reducible exact H2_) | (have H2_ := (Option.bind_some _ _).symm.trans H; with_reducible exact H2_) | with_reducible exact H | (rw [hy109]; exact H) | exact H
                                          have Ny109 := Aside0.mk hy109
                                          clear hy109
                                          have H' := Aside0.mk H
                                          clear H
                                          obtain ⟨Ao29, co29, eo29⟩ := Kd.R_slice HO_11.out
                                          subst eo29
                                          have hcz30_0 : wr.cell? ⟨gb108, 0, none⟩ = some (.int .i64 ((rd_T126 l0 x41_3).f0)) := (blk_cell BK108.out 0).trans rfl
                                          have hcz30_1 : wr.cell? ⟨gb108, 1, none⟩ = some (.string ((rd_T126 l0 x41_3).f1)) := (blk_cell BK108.out 1).trans rfl
                                          have hcz30_2 : wr.cell? ⟨gb108, 2, none⟩ = some (.int .i64 ((rd_T126 l0 x41_3).f2)) := (blk_cell BK108.out 2).trans rfl
                                          have hfz30_0 := blk_frozen BK108.out 0
                                          have hfz30_1 := blk_frozen BK108.out 1
                                          have hfz30_2 := blk_frozen BK108.out 2
                                          have p28 : 0 ≤ (x12_4 : Int) := of_decide_eq_true (by first | (with_reducible assumption) | assumption)
                                          have q28 : (x12_4 : Int) < ((x11_4.length : Int) : Int) := of_decide_eq_true (by first | (with_reducible assumption) | assumption)
                                          obtain ⟨go28, co28, eo28, gb28, gl28, cl28, HG28⟩ := Kd.R_form HO_11.out (by omega)
                                          (first | cases eo28 | (injection eo28 with ea_ en_ ec_; (first | subst ea_ | (injection ea_ with ea_; subst ea_)); subst ec_; clear en_))
                                          have GB28 := Aside0.mk gb28
                                          have GG28 := Aside0.mk HG28
                                          clear gb28 gl28 HG28
                                          obtain ⟨hx28_0, hf28_0⟩ := Kd.R_celln 0 HO_11.out (x12_4 : Int) p28 q28
                                          replace p28 := eq_true p28
                                          replace q28 := eq_true q28
                                          have HP31 := Kd.R_putg HO_11.out (x12_4 : Int) x2_3
                                          go_wp2_with (first | ((with_reducible refine gate_store (t := 3) (p := 64) rfl ?_); refine store_event (t := 3) (p := 64) (v := ?vo_w32) (w1 := (wr.setCell ⟨go28, (x12_4 : Int).toNat, none⟩ (.int .i64 x2_3))) ?hg ?ho ?hn ?hr ?_; (case ho => rfl); (case hg => rfl); (case hn => rfl); (case hr => first | (go_simp; done) | (go_simp; rfl)); intro w32 hw; have hg : wr.grownBy w32 (some go28) := (by rw [hw]; exact HP31.2); have hp_ : Kd.R (Kd.int .i64) 3 w32 w.heap.size (fun _ => True) (.slice (some ⟨go28, 0, none⟩) x11_4.length co29) y109 := (by rw [hw, Ny109.out]; exact HP31.1); clear HP31; have n0_ := Aside0.mk (hp_); have n1_ := Aside0.mk (blk_grown (g := gb108) (o := .cells #[.int .i64 ((rd_T126 l0 x41_3).f0), .string ((rd_T126 l0 x41_3).f1), .int .i64 ((rd_T126 l0 x41_3).f2)] 126 (0, 0)) (by (with_reducible repeat (first | refine blk_drewN ?_ _ | refine blk_drew ?_ | refine blk_alloc ?_ _)); exact BK108.out) hg (Kd.R_ne HO_11.out BK108.out (by decide))); have n2_ := Aside0.mk ((by rw [hw]; exact below_set (HB.out) GB28.out : Below w.heap.size w w32)); clear HO_11; clear BK108; clear HB; have HO_11 := n0_; have BK108 := n1_; have HB := n2_; clear n0_ n1_ n2_; clear hg hw hp_))
                                          go_roundg k4
                                          case measure => have := HJ6.out; have := HJ10.out; have := HK3.out; have := HK4.out; omega
                                          case rel => exact ⟨(y109), (wrap64 (x12_4 + 1)), (by first | rfl | (simp; done) | (simp [*]; done)), H', ⟨by have := HJ6.out; have := HJ10.out; have := HK3.out; have := HK4.out; omega⟩, ⟨by (with_reducible repeat (first | apply Kd.R_alloc | apply Kd.R_drewN | apply Kd.R_drew)); exact HO_11.out⟩, ⟨by (with_reducible repeat (first | refine blk_drewN ?_ _ | refine blk_drew ?_ | refine blk_alloc ?_ _)); exact BK108.out⟩, ⟨by repeat (first | (with_reducible first | exact HB.out | apply below_alloc | apply pw_below_drewN | apply below_drew1 | refine below_set ?_ GE108.out) | exact HB.out)⟩⟩
                                        · rw [if_neg c27] at H
                                          exact absurd H (by simp)
                                      · rw [if_neg c26] at H
                                        have c26b0 : decide (x12_4 < ((rd_T126 l0 x41_3).f0)) = false := decide_eq_false c26
                                        clear c26
                                        have H' := Aside0.mk H
                                        clear H
                                        obtain ⟨Ao33, co33, eo33⟩ := Kd.R_slice HO_11.out
                                        subst eo33
                                        have hcz34_0 : wr.cell? ⟨gb108, 0, none⟩ = some (.int .i64 ((rd_T126 l0 x41_3).f0)) := (blk_cell BK108.out 0).trans rfl
                                        have hcz34_1 : wr.cell? ⟨gb108, 1, none⟩ = some (.string ((rd_T126 l0 x41_3).f1)) := (blk_cell BK108.out 1).trans rfl
                                        have hcz34_2 : wr.cell? ⟨gb108, 2, none⟩ = some (.int .i64 ((rd_T126 l0 x41_3).f2)) := (blk_cell BK108.out 2).trans rfl
                                        have hfz34_0 := blk_frozen BK108.out 0
                                        have hfz34_1 := blk_frozen BK108.out 1
                                        have hfz34_2 := blk_frozen BK108.out 2
                                        go_wp2
                                        go_roundg k4
                                        case measure => have := HJ6.out; have := HJ10.out; have := HK3.out; have := HK4.out; omega
                                        case rel => exact ⟨(((rd_T126 l0 x41_3).f2)), (x11_4), (x12_4), (wrap64 (x41_3 + 1)), (by first | rfl | (simp; done) | (simp [*]; done)), (by first | rfl | (simp; done) | (simp [*]; done)), (by first | rfl | (simp; done) | (simp [*]; done)), H', ⟨by have := HJ6.out; have := HJ10.out; have := HK3.out; have := HK4.out; omega⟩, ⟨by (with_reducible repeat (first | apply Kd.R_alloc | apply Kd.R_drewN | apply Kd.R_drew)); exact HO_11.out⟩, ⟨by repeat (first | (with_reducible first | exact HB.out | apply below_alloc | apply pw_below_drewN | apply below_drew1 | refine below_set ?_ GE108.out) | exact HB.out)⟩⟩
                                    · rw [if_neg c25] at H
                                      have c25b0 : decide (x12_4 < (x11_4.length : Int)) = false := decide_eq_false c25
                                      clear c25
                                      have H' := Aside0.mk H
                                      clear H
                                      obtain ⟨Ao35, co35, eo35⟩ := Kd.R_slice HO_11.out
                                      subst eo35
                                      have hcz36_0 : wr.cell? ⟨gb108, 0, none⟩ = some (.int .i64 ((rd_T126 l0 x41_3).f0)) := (blk_cell BK108.out 0).trans rfl
                                      have hcz36_1 : wr.cell? ⟨gb108, 1, none⟩ = some (.string ((rd_T126 l0 x41_3).f1)) := (blk_cell BK108.out 1).trans rfl
                                      have hcz36_2 : wr.cell? ⟨gb108, 2, none⟩ = some (.int .i64 ((rd_T126 l0 x41_3).f2)) := (blk_cell BK108.out 2).trans rfl
                                      have hfz36_0 := blk_frozen BK108.out 0
                                      have hfz36_1 := blk_frozen BK108.out 1
                                      have hfz36_2 := blk_frozen BK108.out 2
                                      go_wp2
                                      go_roundg k4
                                      case measure => have := HJ6.out; have := HJ10.out; have := HK3.out; have := HK4.out; omega
                                      case rel => exact ⟨(((rd_T126 l0 x41_3).f2)), (x11_4), (x12_4), (wrap64 (x41_3 + 1)), (by first | rfl | (simp; done) | (simp [*]; done)), (by first | rfl | (simp; done) | (simp [*]; done)), (by first | rfl | (simp; done) | (simp [*]; done)), H', ⟨by have := HJ6.out; have := HJ10.out; have := HK3.out; have := HK4.out; omega⟩, ⟨by (with_reducible repeat (first | apply Kd.R_alloc | apply Kd.R_drewN | apply Kd.R_drew)); exact HO_11.out⟩, ⟨by repeat (first | (with_reducible first | exact HB.out | apply below_alloc | apply pw_below_drewN | apply below_drew1 | refine below_set ?_ GE108.out) | exact HB.out)⟩⟩
                              · rw [if_neg c22] at H
                                have c22b0 : (((rd_T126 l0 x41_3).f1).toList == a1.toList) = false := beq_eq_false_iff_ne.mpr c22
                                have c22b1 : (((rd_T126 l0 x41_3).f1).toList != a1.toList) = true := bne_iff_ne.mpr c22
                                have H' := Aside0.mk H
                                clear H
                                have p107 : 0 ≤ (x41_3 : Int) := of_decide_eq_true (by first | (with_reducible assumption) | assumption)
                                have q107 : x41_3 < (l0.length : Int) := of_decide_eq_true (by first | (with_reducible assumption) | assumption)
                                obtain ⟨ad107, e107, hx107_0, hx107_1, hx107_2⟩ := at_T126 HR0.out x41_3 p107 q107
                                cases e107
                                replace hx107_0 := (HB.out.cell (World.block_lt_of_cell? w _ hx107_0)).trans hx107_0
                                replace hx107_1 := (HB.out.cell (World.block_lt_of_cell? w _ hx107_1)).trans hx107_1
                                replace hx107_2 := (HB.out.cell (World.block_lt_of_cell? w _ hx107_2)).trans hx107_2
                                replace p107 := eq_true p107
                                replace q107 := eq_true q107
                                go_wp2_with (first | ((with_reducible refine gate_dst (N := 14) rfl ?_); refine box_event ?hg (N := 14) ?hd (cs := #[.int .i64 0, .string (⟨#[]⟩ : ByteArray), .int .i64 0]) (t := 126) ?hr ?_; (case hd => rfl); (case hg => rfl); (case hr => first | (go_simp; done) | (go_simp; rfl)); intro gb108 hg w37 hbox hb; have n0_ := Aside0.mk (Kd.R_below (by (with_reducible repeat (first | apply Kd.R_alloc | apply Kd.R_drewN | apply Kd.R_drew)); exact HO_11.out) hb); have n1_ := Aside0.mk (below_step (by repeat (first | (with_reducible first | exact HB.out | apply below_alloc | apply pw_below_drewN | apply below_drew1) | exact HB.out)) hb); have n2_ := Aside0.mk (hbox); have n3_ := Aside0.mk ((by rw [hg]; exact (below_size (by repeat (first | (with_reducible first | exact HB.out | apply below_alloc | apply pw_below_drewN | apply below_drew1) | exact HB.out))) : w.heap.size ≤ gb108)); have n4_ := Aside0.mk ((by rw [hg]; exact (below_size (by repeat (first | (with_reducible first | exact HB.out | apply below_alloc | apply pw_below_drewN | apply below_drew1) | exact HB.out))) : w.heap.size ≤ gb108)); clear HO_11; clear HB; have HO_11 := n0_; have HB := n1_; have BK108 := n2_; have GW108 := n3_; have GE108 := n4_; clear n0_ n1_ n2_ n3_ n4_; clear hb hbox hg; have hcz38_0 : w37.cell? ⟨gb108, 0, none⟩ = some (.int .i64 0) := (blk_cell BK108.out 0).trans rfl; have hcz38_1 : w37.cell? ⟨gb108, 1, none⟩ = some (.string (⟨#[]⟩ : ByteArray)) := (blk_cell BK108.out 1).trans rfl; have hcz38_2 : w37.cell? ⟨gb108, 2, none⟩ = some (.int .i64 0) := (blk_cell BK108.out 2).trans rfl; have hfz38_0 := blk_frozen BK108.out 0; have hfz38_1 := blk_frozen BK108.out 1; have hfz38_2 := blk_frozen BK108.out 2))
                                go_roundg k3
                                case measure => have := HJ6.out; have := HJ10.out; have := HK3.out; omega
                                case rel => exact ⟨(x2_3), (x11_3), (x12_3), (wrap64 (x41_3 + 1)), (by first | rfl | (simp; done) | (simp [*]; done)), (by first | rfl | (simp; done) | (simp [*]; done)), (by first | rfl | (simp; done) | (simp [*]; done)), H', ⟨by have := HJ6.out; have := HJ10.out; have := HK3.out; omega⟩, ⟨by (with_reducible repeat (first | apply Kd.R_alloc | apply Kd.R_drewN | apply Kd.R_drew)); exact Kd.R_mono (Kd.R_far (p := ⟨gb108, 2, none⟩) (Kd.R_far (p := ⟨gb108, 1, none⟩) (Kd.R_far (p := ⟨gb108, 0, none⟩) (Kd.R_types HO_11.out BK108.out (by decide)) (fun _ hk => hk.2) (.int .i64 ((rd_T126 l0 x41_3).f0))) (fun _ hk => hk.2) (.string ((rd_T126 l0 x41_3).f1))) (fun _ hk => hk.2) (.int .i64 ((rd_T126 l0 x41_3).f2))) (fun _ hk => trivial)⟩, ⟨by repeat (first | (with_reducible first | exact HB.out | apply below_alloc | apply pw_below_drewN | apply below_drew1 | refine below_set ?_ GE108.out) | exact HB.out)⟩⟩
                            · rw [if_neg c21] at H
                              exact absurd H (by simp)
                          · rw [if_neg c20] at H
                            exact absurd H (by simp)
                        · rw [if_neg c19] at H
                          have c19b0 : decide (x41_3 < (l0.length : Int)) = false := decide_eq_false c19
                          clear c19
                          have H' := Aside0.mk H
                          clear H
                          go_wp2
                          go_loopg [12] k3 (fun kq v12 w' => ∃ (x11_4 : List Int) (x12_4 : Int), v12 = .int .i64 x12_4 ∧ Aside0 (frame_OfA.l2 kq x2_3 x11_4 x12_4 = some (r1, r2)) ∧ Aside0 (kq ≤ k3) ∧ Aside0 (Kd.R (Kd.int .i64) 3 w' w.heap.size (fun _ => True) v105 x11_4) ∧ Aside0 (Below w.heap.size w w'))
                          case atStart => exact ⟨(x11_3), (x12_3), (by first | rfl | (simp; done) | (simp [*]; done)), H', ⟨Nat.le_refl _⟩, ⟨by (with_reducible repeat (first | apply Kd.R_alloc | apply Kd.R_drewN | apply Kd.R_drew)); exact HO_11.out⟩, ⟨by repeat (first | (with_reducible first | exact HB.out | apply below_alloc | apply pw_below_drewN | apply below_drew1) | exact HB.out)⟩⟩
                          case round =>
                            clear H'
                            try clear c1
                            try clear p1
                            try clear q1
                            try clear hx1
                            try clear c2
                            try clear p2
                            try clear q2
                            try clear hx2
                            try clear c3
                            try clear c4
                            try clear c6
                            try clear c6b0
                            try clear c6b1
                            try clear p6
                            try clear c9
                            try clear c9b0
                            try clear c10
                            try clear p10
                            try clear q10
                            try clear hx10
                            try clear c12
                            try clear c12b0
                            try clear c13
                            try clear c15
                            try clear c15b0
                            try clear c15b1
                            try clear c16
                            try clear c16b0
                            try clear c16b1
                            try clear c19
                            try clear c19b0
                            try clear c20
                            try clear c20b0
                            try clear c21
                            try clear c21b0
                            try clear c22
                            try clear c22b0
                            try clear c22b1
                            try clear c25
                            try clear c25b0
                            try clear c26
                            try clear c26b0
                            try clear c27
                            try clear c27b0
                            try clear p28
                            try clear q28
                            try clear hx28
                            try clear hf28
                            try clear c36
                            try clear hcz24_0
                            try clear hcz24_1
                            try clear hcz24_2
                            try clear hcz30_0
                            try clear hcz30_1
                            try clear hcz30_2
                            try clear hcz34_0
                            try clear hcz34_1
                            try clear hcz34_2
                            try clear hcz36_0
                            try clear hcz36_1
                            try clear hcz36_2
                            try clear hcz38_0
                            try clear hcz38_1
                            try clear hcz38_2
                            try clear hfz24_0
                            try clear hfz24_1
                            try clear hfz24_2
                            try clear hfz30_0
                            try clear hfz30_1
                            try clear hfz30_2
                            try clear hfz34_0
                            try clear hfz34_1
                            try clear hfz34_2
                            try clear hfz36_0
                            try clear hfz36_1
                            try clear hfz36_2
                            try clear hfz38_0
                            try clear hfz38_1
                            try clear hfz38_2
                            try clear hx107_0
                            try clear hx107_1
                            try clear hx107_2
                            try clear hx28_0
                            try clear p1
                            try clear p10
                            try clear p107
                            try clear p2
                            try clear p28
                            try clear p6
                            try clear q1
                            try clear q10
                            try clear q107
                            try clear q28
                            obtain ⟨x11_4, x12_4, rfl, HA, HK4, HO_11, HB⟩ := hrel
                            cases gk with
                            | zero => exact absurd HA.out (by simp [frame_OfA.l2])
                            | succ k4 =>
                              have H := HA.out
                              clear HA
                              simp only [frame_OfA.l2] at H
                              by_cases c39 : x12_4 < (x11_4.length : Int)
                              · rw [if_pos c39] at H
                                have c39b0 : decide (x12_4 < (x11_4.length : Int)) = true := decide_eq_true c39
                                clear c39
                                by_cases c40 : 0 ≤ x12_4
                                · rw [if_pos c40] at H
                                  have c40b0 : decide (0 ≤ x12_4) = true := decide_eq_true c40
                                  clear c40
                                  obtain ⟨y110, hy110⟩ : ∃ y_ : List Int, y_ = (x11_4.set (x12_4 : Int).toNat x2_3) := ⟨_, rfl⟩
                                  replace H : (frame_OfA.l2 k4 x2_3 y110 (wrap64 (x12_4 + 1))) = some (r1, r2) := by first | (rw [hy110]; with_reducible exact H) | (have H2_ := (Option.bind_some _ _).symm.trans H; rw [hy110]; with_reducible exact H2_) | (have H2_ := (Option.bind_some _ _).symm.trans H; with_reducible exact H2_) | with_reducible exact H | (rw [hy110]; exact H) | exact H
                                  have Ny110 := Aside0.mk hy110
                                  clear hy110
                                  have H' := Aside0.mk H
                                  clear H
                                  obtain ⟨Ao42, co42, eo42⟩ := Kd.R_slice HO_11.out
                                  subst eo42
                                  have p41 : 0 ≤ (x12_4 : Int) := of_decide_eq_true (by first | (with_reducible assumption) | assumption)
                                  have q41 : (x12_4 : Int) < ((x11_4.length : Int) : Int) := of_decide_eq_true (by first | (with_reducible assumption) | assumption)
                                  obtain ⟨go41, co41, eo41, gb41, gl41, cl41, HG41⟩ := Kd.R_form HO_11.out (by omega)
                                  (first | cases eo41 | (injection eo41 with ea_ en_ ec_; (first | subst ea_ | (injection ea_ with ea_; subst ea_)); subst ec_; clear en_))
                                  have GB41 := Aside0.mk gb41
                                  have GG41 := Aside0.mk HG41
                                  clear gb41 gl41 HG41
                                  obtain ⟨hx41_0, hf41_0⟩ := Kd.R_celln 0 HO_11.out (x12_4 : Int) p41 q41
                                  replace p41 := eq_true p41
                                  replace q41 := eq_true q41
                                  have HP43 := Kd.R_putg HO_11.out (x12_4 : Int) x2_3
                                  go_wp2_with (first | ((with_reducible refine gate_store (t := 3) (p := 77) rfl ?_); refine store_event (t := 3) (p := 77) (v := ?vo_w44) (w1 := (wr.setCell ⟨go41, (x12_4 : Int).toNat, none⟩ (.int .i64 x2_3))) ?hg ?ho ?hn ?hr ?_; (case ho => rfl); (case hg => rfl); (case hn => rfl); (case hr => first | (go_simp; done) | (go_simp; rfl)); intro w44 hw; have hg : wr.grownBy w44 (some go41) := (by rw [hw]; exact HP43.2); have hp_ : Kd.R (Kd.int .i64) 3 w44 w.heap.size (fun _ => True) (.slice (some ⟨go41, 0, none⟩) x11_4.length co42) y110 := (by rw [hw, Ny110.out]; exact HP43.1); clear HP43; have n0_ := Aside0.mk (hp_); have n1_ := Aside0.mk ((by rw [hw]; exact below_set (HB.out) GB41.out : Below w.heap.size w w44)); clear HO_11; clear HB; have HO_11 := n0_; have HB := n1_; clear n0_ n1_; clear hg hw hp_))
                                  go_roundg k4
                                  case measure => have := HJ6.out; have := HJ10.out; have := HK3.out; have := HK4.out; omega
                                  case rel => exact ⟨(y110), (wrap64 (x12_4 + 1)), (by first | rfl | (simp; done) | (simp [*]; done)), H', ⟨by have := HJ6.out; have := HJ10.out; have := HK3.out; have := HK4.out; omega⟩, ⟨by (with_reducible repeat (first | apply Kd.R_alloc | apply Kd.R_drewN | apply Kd.R_drew)); exact HO_11.out⟩, ⟨by repeat (first | (with_reducible first | exact HB.out | apply below_alloc | apply pw_below_drewN | apply below_drew1) | exact HB.out)⟩⟩
                                · rw [if_neg c40] at H
                                  exact absurd H (by simp)
                              · rw [if_neg c39] at H
                                have c39b0 : decide (x12_4 < (x11_4.length : Int)) = false := decide_eq_false c39
                                clear c39
                                simp only [Option.some.injEq, Prod.mk.injEq] at H
                                obtain ⟨rfl, rfl⟩ := H
                                obtain ⟨Ao45, co45, eo45⟩ := Kd.R_slice HO_11.out
                                subst eo45
                                go_wp2_with fail
                                have hxl : x11_4.length = m * 2560 := HML.out trivial
                                have hcap_ : m * 2560 ≤ co45 := by have := (Kd.R_reads' HO_11.out).2.1; omega
                                have HC_ := Aside0.mk (Kd.R_reads' HO_11.out).2.2
                                obtain ⟨g, hg⟩ : ∃ g : Nat, (0 < m → Ao45 = some ⟨g, 0, none⟩) := by
                                  by_cases h0 : 0 < m
                                  · obtain ⟨g, q, hv, _⟩ := Kd.R_form HO_11.out (by omega)
                                    exact ⟨g, fun _ => by injection hv⟩
                                  · exact ⟨0, fun h => absurd h h0⟩
                                have HGB : Aside0 (0 < m → g < wr.heap.size) := ⟨fun h => by obtain rfl := hg h; exact Kd.R_lt HO_11.out g rfl⟩
                                have HG_ := Aside0.mk hg
                                have HXL := Aside0.mk hxl
                                have HCAP := Aside0.mk hcap_
                                rw [hxl]
                                clear hg hxl HML hcap_
                                refine (chunk_calls _ _ _ _).mono ?_
                                rintro e w' ⟨rfl, rfl⟩
                                go_wp2
                                have q1 := heap_alloc_new wr (Obj.cells #[Value.slice none 0 0] 62)
                                have q2 := heap_alloc_new (wr.alloc (Obj.cells #[Value.slice none 0 0] 62)) (Obj.cells #[Value.slice Ao45 (m * 2560) co45] 22)
                                have q3 := heap_alloc_new ((wr.alloc (Obj.cells #[Value.slice none 0 0] 62)).alloc (Obj.cells #[Value.slice Ao45 (m * 2560) co45] 22)) (Obj.cells #[Value.int IntKind.i64 2560] 3)
                                have Q1 := Aside0.mk (blk_alloc (blk_alloc q1 (Obj.cells #[Value.slice Ao45 (m * 2560) co45] 22)) (Obj.cells #[Value.int IntKind.i64 2560] 3))
                                have Q2 := Aside0.mk (blk_alloc q2 (Obj.cells #[Value.int IntKind.i64 2560] 3))
                                have Q3 := Aside0.mk q3
                                have QB := Aside0.mk (below_alloc (below_alloc (below_alloc HB.out (Obj.cells #[Value.slice none 0 0] 62)) (Obj.cells #[Value.slice Ao45 (m * 2560) co45] 22)) (Obj.cells #[Value.int IntKind.i64 2560] 3))
                                have QC := Aside0.mk (Kd.C_alloc (Kd.C_alloc (Kd.C_alloc HC_.out (Obj.cells #[Value.slice none 0 0] 62)) (Obj.cells #[Value.slice Ao45 (m * 2560) co45] 22)) (Obj.cells #[Value.int IntKind.i64 2560] 3))
                                clear q1 q2 q3
                                simp only [World.size_alloc] at Q2 Q3
                                generalize (((wr.alloc (Obj.cells #[Value.slice none 0 0] 62)).alloc (Obj.cells #[Value.slice Ao45 (m * 2560) co45] 22)).alloc (Obj.cells #[Value.int IntKind.i64 2560] 3)) = W0 at *
                                obtain ⟨B, hB⟩ : ∃ B, wr.heap.size = B := ⟨_, rfl⟩
                                have HBB := Aside0.mk (hB ▸ HB.out.size : w.heap.size ≤ B)
                                rw [hB] at Q1 Q2 Q3 HGB ⊢
                                clear hB HC_ HO_11 HB
                                refine (wpIn_wide (n := 6)).1 ?_
                                refine wpIn_rangeFunc_ownF (n := 6) rfl (by decide) (gf := 89) (lb := #[.pointer (some ⟨B + 1, 0, none⟩), .pointer (some ⟨B + 1 + 1, 0, none⟩)]) rfl trivial (enters_of Try.func89 (by kernel_rfl) rfl)
                                  (chunk_stops 5 (by decide) (B + 1) (B + 1 + 1) g m co45 Ao45 HG_.out hm HCAP.out W0 (blk_lt Q2.out) (blk_lt Q3.out) (blk_cell Q2.out 0) (blk_cell Q3.out 0)) (fun h k => Two.trans h k)
                                  (fun W l o o' hl h _ _ => ⟨World.putObj_heap_other (by have := blk_lt Q2.out; omega), World.putObj_heap_other (by have := blk_lt Q3.out; omega)⟩) (Below.refl _ _) (fun _ => rfl)
                                  (FI w W0 B x11_4 m) (fun _ _ _ => False) (FI_own w W0 B x11_4 m QB.out.size) (fun _ _ _ _ _ hs _ _ => hs) ⟨⟨_, Q1.out, Kd.S_nil _ _ _ _ _⟩, KeepBut.refl _ _ _, QB.out⟩ ?act ?assign ?body ?done ?stop
                                case assign =>
                                  intro l x W K hK
                                  gi_wp2
                                  exact hK
                                case body =>
                                  rintro l pre x W ⟨⟨v, hb, hS⟩, hKB, hBl⟩ hlt
                                  refine wpIn_block ?_
                                  have hc0 := blk_cell hb 0
                                  obtain ⟨ga, hga⟩ : ∃ ga, ga = g := ⟨_, rfl⟩
                                  obtain rfl := HG_.out (by omega)
                                  have hC := Kd.C_keep (0 : Int) QC.out hKB (fun ad e _ => by cases e; have := HGB.out (by omega); show g ≠ B; omega)
                                  have hCx := Aside0.mk (piece_C (Kd.C_drew hC) HXL.out x)
                                  have HKB := Aside0.mk hKB
                                  have hpl := Aside0.mk (piece_len HXL.out x)
                                  have HPRE := Aside0.mk hlt
                                  have HS2 := Aside0.mk hS
                                  have HB2 := Aside0.mk hBl
                                  have HBK := Aside0.mk hb
                                  clear hC hS hBl hb hlt hKB
                                  refine region_round (sz := 6) (S := fun w' => w'.cell? ⟨B, 0, none⟩ = some v) (ds := [5]) #[false, false, false, false, false, false] (by kernel_rfl) (by rintro ⟨a, w, h⟩; exact h) (by kernel_rfl) rfl rfl hc0 (fun hHeld => ?_)
                                  refine take_ (i := 0) (N := some 81) (v := ?_) (a' := ?_) #[true, false, false, false, false, false] rfl rfl (by kernel_rfl) (fun _ _ _ h => h) (Or.inl ⟨by rfl, ?_⟩) hHeld ?_ ?_
                                  rotate_left
                                  · rintro w' s0
                                    go_simp
                                    with_reducible rfl
                                  rotate_left
                                  · simp only [Act.put, List.setIfInBounds_toArray, List.set_cons_zero, List.set_cons_succ, i64_w, i32_w]
                                    rfl
                                  refine pure_ (i := 1) (N := some 82) (v := ?_) (a' := ?_) #[true, true, false, false, false, false] rfl rfl (by kernel_rfl) (fun _ _ _ h => h) (Or.inl ⟨by rfl, ?_⟩) ?_ ?_
                                  rotate_left
                                  · intro w'
                                    go_simp
                                    with_reducible rfl
                                  rotate_left
                                  · simp only [Act.put, List.setIfInBounds_toArray, List.set_cons_zero, List.set_cons_succ, i64_w, i32_w]
                                    rfl
                                  refine one_ (i := 2) (N := some 83) #[true, true, true, false, false, false] rfl rfl (by kernel_rfl) (by decide) (fun K hK => ?_)
                                  refine goes_ Try.func76 (by kernel_rfl) rfl #[pieceV g x.1] (by rfl) rfl rfl (by (try simp only [List.map_toArray, List.map_cons, List.map_nil]); first | done | rfl) ?_
                                  unfold pieceV
                                  have CL := clone_I.calls (some ⟨g, x.1 * 2560, none⟩) 2560 (piece x11_4 x) (piece x11_4 x) W.drew hCx.out (by rw [hpl.out]; exact Nat.le_refl _) (by unfold clone_I.f; rw [if_pos (by rw [hpl.out]; decide)])
                                  rw [hpl.out] at CL
                                  refine CL.mono ?_
                                  clear CL
                                  rintro e W1 ⟨v1, rfl, hR1, hB1⟩
                                  obtain ⟨A1, c1, e1⟩ := Kd.R_slice hR1
                                  subst e1
                                  refine ⟨_, rfl, ?_⟩
                                  have hS1 := Kd.S_below (Kd.S_drew (Kd.S_mono (Kd.S_bound HS2.out) (ok' := fun k => True ∧ ¬ (W.heap.size ≤ k)) (fun k hk => ⟨trivial, by have := hk.2.2.1; omega⟩))) hB1
                                  have hbk1 : W1.heap[B]? = some (.cells #[v] 62 (0, 0)) := (hB1.block B (blk_lt HBK.out)).trans HBK.out
                                  have hBw1 : Below w.heap.size w W1 := below_step (below_drew HB2.out) hB1
                                  have hvlt := Kd.S_lt HS2.out
                                  have HVL := Aside0.mk hvlt
                                  have HS1 := Aside0.mk hS1
                                  have HB1 := Aside0.mk hB1
                                  have HBK1 := Aside0.mk hbk1
                                  have HBW1 := Aside0.mk hBw1
                                  have HR1 := Aside0.mk hR1
                                  have hc1 := pw_cell_below hB1 hHeld
                                  clear hS1 hbk1 hBw1 hvlt hR1 hB1
                                  refine hK.out _ _ hc1 (fun hHeld => ?_)
                                  clear hK K hc1
                                  refine norm_ (a' := ?_) ?_ ?_
                                  rotate_left
                                  · show Act.put _ (some 83) _ = _
                                    simp only [Act.put, List.setIfInBounds_toArray, List.set_cons_zero, List.set_cons_succ, i64_w, i32_w]
                                    rfl
                                  refine one_ (i := 3) (N := some 84) #[true, true, true, true, false, false] rfl rfl (by kernel_rfl) (by decide) (fun K hK => ?_)
                                  refine value_ (w1 := ?_) (v := ?_) (by rfl) rfl ?_ ?_
                                  rotate_left 2
                                  · go_simp
                                    constructor
                                    · rfl
                                    · rfl
                                  refine hK.out _ _ ((World.cell?_alloc_lt _ _ _ (World.block_lt_of_cell? _ _ hHeld)).trans hHeld) (fun hHeld => ?_)
                                  clear hK K
                                  refine norm_ (a' := ?_) ?_ ?_
                                  rotate_left
                                  · show Act.put _ (some 84) _ = _
                                    simp only [Act.put, List.setIfInBounds_toArray, List.set_cons_zero, List.set_cons_succ, i64_w, i32_w]
                                    rfl
                                  refine one_ (i := 4) (N := some 85) #[true, true, true, true, true, false] rfl rfl (by kernel_rfl) (by decide) (fun K hK => ?_)
                                  refine Kd.S_append_step kL (w0 := W1) W0.heap.size (by rfl) (.tmp 81) (.tmp 84) 62 70 (.slice none 0 0) 24 rfl Try.underlying62 info70 rfl (by decide) (by omega) v (pre.map (piece x11_4)) (piece x11_4 x) [.slice A1 (piece x11_4 x).length c1] (fun _ => True) (fun k => W.heap.size ≤ k) rfl rfl ?aP ?aK ?aF ?aO ?aB ?aS ?aL ?_
                                  (case aP => exact ⟨_, rfl, Kd.R_mono (Kd.R_lower (Kd.R_bound HR1.out) (base' := W0.heap.size) HKB.out.1) (fun k hk => hk.2.1)⟩)
                                  (case aK => exact fun k hk => ⟨trivial, fun he => by have := HVL.out k he.symm; omega⟩)
                                  (case aF => exact fun _ _ => trivial)
                                  (case aO => exact HS1.out)
                                  (case aB => exact Below.refl _ _)
                                  (case aS => exact Nat.le_trans HKB.out.1 HB1.out.size)
                                  (case aL => have := HPRE.out; rw [List.length_map]; omega)
                                  intro v2 w4 ho _ hg hat
                                  have hne : some B ≠ v.ownBlock := Kd.S_ne HS1.out HBK1.out (by decide)
                                  have hbk4 : w4.heap[B]? = some (.cells #[v] 62 (0, 0)) := blk_grown HBK1.out hg hne
                                  have HO4 := Aside0.mk ho
                                  have HG4 := Aside0.mk hg
                                  have HBK4 := Aside0.mk hbk4
                                  have hc4 := blk_cell hbk4 0
                                  have hf4 := blk_frozen hbk4 0
                                  clear ho hg hat hne hbk4
                                  refine hK.out _ _ hc4 (fun hHeld => ?_)
                                  clear hK K
                                  refine norm_ (a' := ?_) ?_ ?_
                                  rotate_left
                                  · show Act.put _ (some 85) _ = _
                                    simp only [Act.put, List.setIfInBounds_toArray, List.set_cons_zero, List.set_cons_succ, i64_w, i32_w]
                                    rfl
                                  obtain ⟨A2, c2, e2⟩ := Kd.R_slice (Kd.S_R HO4.out)
                                  subst e2
                                  refine last_ (i := 5) (N := none) #[true, true, true, true, true, true] rfl rfl (by kernel_rfl) (by decide) (fun K hK => ?_)
                                  refine skip_ (w1 := ?_) (by rfl) rfl ?_ ?_
                                  rotate_left
                                  · go_simp
                                    rfl
                                  refine hK.out _ _ ?_
                                  clear hK K
                                  refine done_ (by kernel_rfl) ?_
                                  have h4 := HO4.out
                                  rw [List.length_append, List.length_map, List.length_singleton] at h4
                                  exact FI_step HKB.out (below_step (below_drew (Below.refl _ _)) HB1.out) HG4.out (fun k e => ⟨Kd.S_base HS1.out k e, Kd.S_typed HS1.out k e⟩) HBK4.out h4 HB2.out (blk_lt Q2.out) (blk_lt Q3.out) HBB.out QB.out.size
                                case done =>
                                  rintro D ys W hD rfl ⟨⟨v, hb, hS⟩, hKB, hBl⟩ hK
                                  have HS_ := Aside0.mk hS
                                  have HK_ := Aside0.mk hK
                                  have hc0 := blk_cell hb 0
                                  have HBl := Aside0.mk hBl
                                  clear hKB hS hBl hb
                                  go_wp2
                                  refine ⟨by simp, .inl ⟨_, _, rfl, run_takeDeferred hK, ?_⟩⟩
                                  refine ⟨_, results_tmp2 rfl _ _ _, v, rfl, ?_, ?_⟩
                                  · have h9 := Kd.S_lower (S_calm HS_.out (grownBy_putObj' W D (.deferred none)) (fun r e => by cases e; exact ⟨_, HK_.out, rfl⟩)) (base' := w.heap.size) QB.out.size
                                    rw [pieces_all] at h9
                                    exact h9
                                  · exact HBl.out.trans (belowK_b (w := W0) QB.out.size W D _ _ hD HK_.out rfl rfl)
                                case stop =>
                                  rintro D c pre W _ _ h _
                                  exact h.elim
                  · rw [if_neg c16] at H
                    exact absurd H (by simp)
                · rw [if_neg c15] at H
                  exact absurd H (by simp)
  · rw [if_neg c6] at H
    have c6b0 : (t103 == 0) = false := beq_eq_false_iff_ne.mpr c6
    have c6b1 : (t103 != 0) = true := bne_iff_ne.mpr c6
    simp only [Option.some.injEq, Prod.mk.injEq] at H
    obtain ⟨rfl, rfl⟩ := H
    go_enter Try.func36, Try.ntmps36
    go_wp2_with (first | ((with_reducible refine gate_callee (f := 43) rfl ?_); refine goesL_ (some 19) rfl rfl Try.func43 (by kernel_rfl) rfl #[.slice A0 l0.length c0, .string a1] rfl (by (try simp only [List.map_toArray, List.map_cons, List.map_nil]); first | done | rfl | (simp only [List.length_drop, List.length_take]; rfl)) ?_; (with_reducible refine (frame_Check.calls k _ _ l0 a1 t103 _ ?side1 ?side2 A5.out).mono ?_); (case side1 => repeat (first | exact HR0.out | (with_reducible refine Kd.C_alloc ?_ _) | (with_reducible refine Kd.C_drewN ?_ _) | (with_reducible refine Kd.C_drew ?_))); (case side2 => exact HC0.out); rintro e w46 ⟨rfl, hb⟩; refine ⟨_, rfl, ?_⟩; have n0_ := Aside0.mk (below_step (by repeat (first | (with_reducible first | exact HB.out | apply below_alloc | apply pw_below_drewN | apply below_drew1) | exact HB.out)) hb); clear HB; have HB := n0_; clear n0_; (try clear hb); (try clear hb2); (try clear hk); (try clear hi)))
    go_ret2
    exact ⟨_, by first | rfl | (simp [errW_none, errW_some] <;> rfl) | (simp [*, errW_none, errW_some] <;> rfl), by rw [pic_no c6]; first | exact Kd.R_nil _ _ _ _ _ | exact Kd.N_nil _ _ _ _ _ | exact Kd.V_nil _ _ _ _ _ | exact Kd.Q_nil _ _ _ _ _ | exact Kd.S_nil _ _ _ _ _, by repeat (first | (with_reducible first | exact HB.out | apply below_alloc | apply pw_below_drewN | apply below_drew1) | exact HB.out)⟩

end Go.Proofs.Ytijfinimlnedpaa.PFT
