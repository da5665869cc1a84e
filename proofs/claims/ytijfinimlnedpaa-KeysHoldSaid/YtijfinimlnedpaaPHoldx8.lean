-- An own text of this claim, written by wip/tools/surro.py over the kit's print.
import Derived.Test.YtijfinimlnedpaaPHoldx0
import Derived.Test.YtijfinimlnedpaaPHoldx5
import Derived.Test.YtijfinimlnedpaaPHoldx7
namespace Go.Proofs.Ytijfinimlnedpaa.PHold
open Go.RowKit Go.Proofs.YtijfinimlnedpaaW.PrintWords Go.Proofs.YtijfinimlnedpaaW.PrintLast Go.Proofs.YtijfinimlnedpaaW.PrintMore
attribute [local go_sem] max2_int min2_int max_two min_two max_three min_three max_four min_four   -- for this text's walks alone
set_option linter.unusedVariables false
set_option linter.unusedSimpArgs false

/-! ### bakekeep3_typed: function 23 -/
def bakekeep3_typed.f (k : Nat)  : Option (Bool) := (keys_Board.f k (⟨#[112]⟩ : ByteArray) (([(⟨5, 1, true⟩ : S107), (⟨9, 1, false⟩ : S107)] : List (S107)))).bind fun bt140 => (if bt140.2 = 0 then ((api_Input_24.f k bt140.1 (([(⟨5, (⟨#[112]⟩ : ByteArray), 2⟩ : S42), (⟨9, (⟨#[112]⟩ : ByteArray), 0⟩ : S42)] : List (S42)))).bind fun t147 => (some t147)) else (some false))
theorem bakekeep3_typed.mono : ∀ k, LeO (bakekeep3_typed.f k ) (bakekeep3_typed.f (k + 1) ) := by
  intro  k
  unfold bakekeep3_typed.f
  repeat' first
      | (with_reducible exact api_Input_24.mono _ _ _)
      | (with_reducible exact keys_Board.mono _ _ _)
      | (with_reducible exact LeO.refl _)
      | (with_reducible exact LeO.none _)
      | (with_reducible refine LeO.ite ?_ ?_)
      | (with_reducible refine LeO.bind ?_ (fun _ => ?_))
      | exact api_Input_24.mono _ _ _
      | exact keys_Board.mono _ _ _
      | exact LeO.none _
      | refine LeO.ite ?_ ?_
      | refine LeO.bind ?_ (fun _ => ?_)
set_option maxHeartbeats 8000000 in
set_option maxRecDepth 100000 in
theorem bakekeep3_typed.calls (k : Nat)  (r : Bool) (w : World) (h : bakekeep3_typed.f k  = some r) :
    Calls Try.prog 23 #[] w fun e w' => e = .returned (.bool r) ∧ Below w.heap.size w w' := by
  have hu107 := Try.underlying107
  have hu42 := Try.underlying42
  have HB := Aside0.mk (Below.refl w.heap.size w)
  have H : ((keys_Board.f k (⟨#[112]⟩ : ByteArray) (([(⟨5, 1, true⟩ : S107), (⟨9, 1, false⟩ : S107)] : List (S107)))).bind fun bt140 => (if bt140.2 = 0 then ((api_Input_24.f k bt140.1 (([(⟨5, (⟨#[112]⟩ : ByteArray), 2⟩ : S42), (⟨9, (⟨#[112]⟩ : ByteArray), 0⟩ : S42)] : List (S42)))).bind fun t147 => (some t147)) else (some false))) = some r := h
  clear h
  obtain ⟨y137, hy137⟩ : ∃ y_ : List (S107), y_ = (([(⟨5, 1, true⟩ : S107), (⟨9, 1, false⟩ : S107)] : List (S107))) := ⟨_, rfl⟩
  replace H : ((keys_Board.f k (⟨#[112]⟩ : ByteArray) y137).bind fun bt140 => (if bt140.2 = 0 then ((api_Input_24.f k bt140.1 (([(⟨5, (⟨#[112]⟩ : ByteArray), 2⟩ : S42), (⟨9, (⟨#[112]⟩ : ByteArray), 0⟩ : S42)] : List (S42)))).bind fun t147 => (some t147)) else (some false))) = some r := by first | (rw [hy137]; with_reducible exact H) | (have H2_ := (Option.bind_some _ _).symm.trans H; rw [hy137]; with_reducible exact H2_) | (have H2_ := (Option.bind_some _ _).symm.trans H; with_reducible exact H2_) | with_reducible exact H | (rw [hy137]; exact H) | exact H
  have Ny137 := Aside0.mk hy137
  clear hy137
  replace H := Option.bind_eq_some_iff.mp H
  obtain ⟨⟨t140, t141⟩, A10, H⟩ := H
  replace H : (if t141 = 0 then ((api_Input_24.f k t140 (([(⟨5, (⟨#[112]⟩ : ByteArray), 2⟩ : S42), (⟨9, (⟨#[112]⟩ : ByteArray), 0⟩ : S42)] : List (S42)))).bind fun t147 => (some t147)) else (some false)) = some r := H
  have A1 := Aside0.mk A10
  clear A10
  by_cases c2 : t141 = 0
  · rw [if_pos c2] at H
    have c2b0 : (t141 == 0) = true := beq_iff_eq.mpr c2
    have c2b1 : (t141 != 0) = false := bne_eq_false_iff_eq.mpr c2
    clear c2
    obtain ⟨y144, hy144⟩ : ∃ y_ : List (S42), y_ = (([(⟨5, (⟨#[112]⟩ : ByteArray), 2⟩ : S42), (⟨9, (⟨#[112]⟩ : ByteArray), 0⟩ : S42)] : List (S42))) := ⟨_, rfl⟩
    replace H : ((api_Input_24.f k t140 y144).bind fun t147 => (some t147)) = some r := by first | (rw [hy144]; with_reducible exact H) | (have H2_ := (Option.bind_some _ _).symm.trans H; rw [hy144]; with_reducible exact H2_) | (have H2_ := (Option.bind_some _ _).symm.trans H; with_reducible exact H2_) | with_reducible exact H | (rw [hy144]; exact H) | exact H
    have Ny144 := Aside0.mk hy144
    clear hy144
    replace H := Option.bind_eq_some_iff.mp H
    obtain ⟨t147, A30, H⟩ := H
    replace H : (some t147) = some r := H
    have A3 := Aside0.mk A30
    clear A30
    obtain rfl := Option.some.inj H
    go_enter Try.func23, Try.ntmps23
    go_wp2_with (first | ((with_reducible refine gate_dst (N := 6) rfl ?_); (try (refine gate_guard (by rfl) ?_; dsimp only)); refine Kd.R_lit k107 _ 107 ?hg (N := 6) ?hd (xs := ([(⟨5, 1, true⟩ : S107), (⟨9, 1, false⟩ : S107)] : List (S107))) (inner := [.int .i64 5, .int .i64 1, .bool true, .int .i64 9, .int .i64 1, .bool false]) (ok := fun _ => True) (okp := fun _ => True) ?hr ?hp (fun _ hk => hk) trivial (Below.refl _ _) (Nat.le_refl _) (by simp) ?_; (case hd => rfl); (case hg => rfl); (case hr => first | (go_simp; done) | (go_simp; rfl)); (case hp => exact (Reps.c3 (show Kd.M k107 _ _ _ (⟨5, 1, true⟩ : S107) [.int .i64 5, .int .i64 1, .bool true] from (k107_mkM _ _ _ (⟨5, 1, true⟩ : S107) )) (Reps.c3 (show Kd.M k107 _ _ _ (⟨9, 1, false⟩ : S107) [.int .i64 9, .int .i64 1, .bool false] from (k107_mkM _ _ _ (⟨9, 1, false⟩ : S107) )) (Reps.none _ _)))); intro v138 w4 ho5 hb hg_ hnew_; clear hg_ hnew_; (first | rw [← Ny137.out] at ho5 | (simp only [Int.reduceToNat] at ho5; rw [← Ny137.out] at ho5)); have n0_ := Aside0.mk (Kd.R_lower ho5 (below_size (by repeat (first | (with_reducible first | exact HB.out | apply below_alloc | apply pw_below_drewN | apply below_drew1) | exact HB.out)))); have n1_ := Aside0.mk (below_step (by repeat (first | (with_reducible first | exact HB.out | apply below_alloc | apply pw_below_drewN | apply below_drew1) | exact HB.out)) hb); clear HB; have HO139 := n0_; have HB := n1_; clear n0_ n1_; clear hb ho5; obtain ⟨Ao6, co6, eo6⟩ := Kd.R_slice HO139.out; subst eo6) | ((with_reducible refine gate_callee (f := 20) rfl ?_); refine goesL_ (some 7) rfl rfl Try.func20 (by kernel_rfl) rfl #[.string (⟨#[112]⟩ : ByteArray), .slice Ao6 y137.length co6] rfl (by (try simp only [List.map_toArray, List.map_cons, List.map_nil]); first | done | rfl | (simp only [List.length_drop, List.length_take]; rfl)) ?_; (with_reducible refine (keys_Board.calls k (⟨#[112]⟩ : ByteArray) _ _ y137 t140 t141 _ ?side1 ?side2 A1.out).mono ?_); (case side1 => repeat (first | exact (Kd.R_reads' HO139.out).2.2 | (with_reducible refine Kd.C_alloc ?_ _) | (with_reducible refine Kd.C_drewN ?_ _) | (with_reducible refine Kd.C_drew ?_))); (case side2 => exact (Kd.R_reads' HO139.out).2.1); rintro e w7 ⟨v142, rfl, ho0, hb⟩; refine ⟨_, rfl, ?_⟩; have n0_ := Aside0.mk (Kd.R_below (by (with_reducible repeat (first | apply Kd.R_alloc | apply Kd.R_drewN | apply Kd.R_drew)); exact HO139.out) hb); have n1_ := Aside0.mk (Kd.R_lower ho0 (below_size (by repeat (first | (with_reducible first | exact HB.out | apply below_alloc | apply pw_below_drewN | apply below_drew1) | exact HB.out)))); have n2_ := Aside0.mk (below_step (by repeat (first | (with_reducible first | exact HB.out | apply below_alloc | apply pw_below_drewN | apply below_drew1) | exact HB.out)) hb); clear HO139; clear HB; have HO139 := n0_; have HO143 := n1_; have HB := n2_; clear n0_ n1_ n2_; (try clear hb); (try clear hb2); (try clear hk); (try clear hi); (try clear ho0)) | ((with_reducible refine gate_dst (N := 16) rfl ?_); (try (refine gate_guard (by rfl) ?_; dsimp only)); refine Kd.R_lit k42 _ 42 ?hg (N := 16) ?hd (xs := ([(⟨5, (⟨#[112]⟩ : ByteArray), 2⟩ : S42), (⟨9, (⟨#[112]⟩ : ByteArray), 0⟩ : S42)] : List (S42))) (inner := [.int .i64 5, .string (⟨#[112]⟩ : ByteArray), .int .i64 2, .int .i64 9, .string (⟨#[112]⟩ : ByteArray), .int .i64 0]) (ok := fun _ => True) (okp := fun _ => True) ?hr ?hp (fun _ hk => hk) trivial (Below.refl _ _) (Nat.le_refl _) (by simp) ?_; (case hd => rfl); (case hg => rfl); (case hr => first | (go_simp; done) | (go_simp; rfl)); (case hp => exact (Reps.c3 (show Kd.M k42 _ _ _ (⟨5, (⟨#[112]⟩ : ByteArray), 2⟩ : S42) [.int .i64 5, .string (⟨#[112]⟩ : ByteArray), .int .i64 2] from (k42_mkM _ _ _ (⟨5, (⟨#[112]⟩ : ByteArray), 2⟩ : S42) )) (Reps.c3 (show Kd.M k42 _ _ _ (⟨9, (⟨#[112]⟩ : ByteArray), 0⟩ : S42) [.int .i64 9, .string (⟨#[112]⟩ : ByteArray), .int .i64 0] from (k42_mkM _ _ _ (⟨9, (⟨#[112]⟩ : ByteArray), 0⟩ : S42) )) (Reps.none _ _)))); intro v145 w8 ho9 hb hg_ hnew_; clear hg_ hnew_; (first | rw [← Ny144.out] at ho9 | (simp only [Int.reduceToNat] at ho9; rw [← Ny144.out] at ho9)); have n0_ := Aside0.mk (Kd.R_below (by (with_reducible repeat (first | apply Kd.R_alloc | apply Kd.R_drewN | apply Kd.R_drew)); exact HO139.out) hb); have n1_ := Aside0.mk (Kd.R_elder' (by (with_reducible repeat (first | apply Kd.R_alloc | apply Kd.R_drewN | apply Kd.R_drew)); exact HO143.out) (Kd.R_base ho9) hb); have n2_ := Aside0.mk (Kd.R_lower (Kd.R_new' ho9 (Kd.R_lt (by (with_reducible repeat (first | apply Kd.R_alloc | apply Kd.R_drewN | apply Kd.R_drew)); exact HO143.out))) (below_size (by repeat (first | (with_reducible first | exact HB.out | apply below_alloc | apply pw_below_drewN | apply below_drew1) | exact HB.out)))); have n3_ := Aside0.mk (below_step (by repeat (first | (with_reducible first | exact HB.out | apply below_alloc | apply pw_below_drewN | apply below_drew1) | exact HB.out)) hb); clear HO139; clear HO143; clear HB; have HO139 := n0_; have HO143 := n1_; have HO146 := n2_; have HB := n3_; clear n0_ n1_ n2_ n3_; clear hb ho9; obtain ⟨Ao10, co10, eo10⟩ := Kd.R_slice HO143.out; subst eo10; obtain ⟨Ao11, co11, eo11⟩ := Kd.R_slice HO146.out; subst eo11) | (go_at_call 24; (with_reducible refine (api_Input_24.calls k _ _ t140 _ _ y144 t147 _ ?side1 ?side2 ?side3 ?side4 A3.out).mono ?_); (case side1 => repeat (first | exact (Kd.R_reads' HO143.out).2.2 | (with_reducible refine Kd.C_alloc ?_ _) | (with_reducible refine Kd.C_drewN ?_ _) | (with_reducible refine Kd.C_drew ?_))); (case side2 => exact (Kd.R_reads' HO143.out).2.1); (case side3 => repeat (first | exact (Kd.R_reads' HO146.out).2.2 | (with_reducible refine Kd.C_alloc ?_ _) | (with_reducible refine Kd.C_drewN ?_ _) | (with_reducible refine Kd.C_drew ?_))); (case side4 => exact (Kd.R_reads' HO146.out).2.1); rintro e w' ⟨rfl, ⟨nd, rfl⟩⟩))
    go_ret
    exact ⟨by first | rfl | (simp [errW_none, errW_some] <;> rfl) | (simp [*, errW_none, errW_some] <;> rfl), by repeat (first | (with_reducible first | exact HB.out | apply below_alloc | apply pw_below_drewN | apply below_drew1) | exact HB.out)⟩
  · rw [if_neg c2] at H
    have c2b0 : (t141 == 0) = false := beq_eq_false_iff_ne.mpr c2
    have c2b1 : (t141 != 0) = true := bne_iff_ne.mpr c2
    obtain rfl := Option.some.inj H
    go_enter Try.func23, Try.ntmps23
    go_wp2_with (first | ((with_reducible refine gate_dst (N := 6) rfl ?_); (try (refine gate_guard (by rfl) ?_; dsimp only)); refine Kd.R_lit k107 _ 107 ?hg (N := 6) ?hd (xs := ([(⟨5, 1, true⟩ : S107), (⟨9, 1, false⟩ : S107)] : List (S107))) (inner := [.int .i64 5, .int .i64 1, .bool true, .int .i64 9, .int .i64 1, .bool false]) (ok := fun _ => True) (okp := fun _ => True) ?hr ?hp (fun _ hk => hk) trivial (Below.refl _ _) (Nat.le_refl _) (by simp) ?_; (case hd => rfl); (case hg => rfl); (case hr => first | (go_simp; done) | (go_simp; rfl)); (case hp => exact (Reps.c3 (show Kd.M k107 _ _ _ (⟨5, 1, true⟩ : S107) [.int .i64 5, .int .i64 1, .bool true] from (k107_mkM _ _ _ (⟨5, 1, true⟩ : S107) )) (Reps.c3 (show Kd.M k107 _ _ _ (⟨9, 1, false⟩ : S107) [.int .i64 9, .int .i64 1, .bool false] from (k107_mkM _ _ _ (⟨9, 1, false⟩ : S107) )) (Reps.none _ _)))); intro v138 w12 ho13 hb hg_ hnew_; clear hg_ hnew_; (first | rw [← Ny137.out] at ho13 | (simp only [Int.reduceToNat] at ho13; rw [← Ny137.out] at ho13)); have n0_ := Aside0.mk (Kd.R_lower ho13 (below_size (by repeat (first | (with_reducible first | exact HB.out | apply below_alloc | apply pw_below_drewN | apply below_drew1) | exact HB.out)))); have n1_ := Aside0.mk (below_step (by repeat (first | (with_reducible first | exact HB.out | apply below_alloc | apply pw_below_drewN | apply below_drew1) | exact HB.out)) hb); clear HB; have HO139 := n0_; have HB := n1_; clear n0_ n1_; clear hb ho13; obtain ⟨Ao14, co14, eo14⟩ := Kd.R_slice HO139.out; subst eo14) | ((with_reducible refine gate_callee (f := 20) rfl ?_); refine goesL_ (some 7) rfl rfl Try.func20 (by kernel_rfl) rfl #[.string (⟨#[112]⟩ : ByteArray), .slice Ao14 y137.length co14] rfl (by (try simp only [List.map_toArray, List.map_cons, List.map_nil]); first | done | rfl | (simp only [List.length_drop, List.length_take]; rfl)) ?_; (with_reducible refine (keys_Board.calls k (⟨#[112]⟩ : ByteArray) _ _ y137 t140 t141 _ ?side1 ?side2 A1.out).mono ?_); (case side1 => repeat (first | exact (Kd.R_reads' HO139.out).2.2 | (with_reducible refine Kd.C_alloc ?_ _) | (with_reducible refine Kd.C_drewN ?_ _) | (with_reducible refine Kd.C_drew ?_))); (case side2 => exact (Kd.R_reads' HO139.out).2.1); rintro e w15 ⟨v142, rfl, ho0, hb⟩; refine ⟨_, rfl, ?_⟩; have n0_ := Aside0.mk (Kd.R_below (by (with_reducible repeat (first | apply Kd.R_alloc | apply Kd.R_drewN | apply Kd.R_drew)); exact HO139.out) hb); have n1_ := Aside0.mk (Kd.R_lower ho0 (below_size (by repeat (first | (with_reducible first | exact HB.out | apply below_alloc | apply pw_below_drewN | apply below_drew1) | exact HB.out)))); have n2_ := Aside0.mk (below_step (by repeat (first | (with_reducible first | exact HB.out | apply below_alloc | apply pw_below_drewN | apply below_drew1) | exact HB.out)) hb); clear HO139; clear HB; have HO139 := n0_; have HO143 := n1_; have HB := n2_; clear n0_ n1_ n2_; (try clear hb); (try clear hb2); (try clear hk); (try clear hi); (try clear ho0)))
    go_ret
    exact ⟨by first | rfl | (simp [errW_none, errW_some] <;> rfl) | (simp [*, errW_none, errW_some] <;> rfl), by repeat (first | (with_reducible first | exact HB.out | apply below_alloc | apply pw_below_drewN | apply below_drew1) | exact HB.out)⟩

end Go.Proofs.Ytijfinimlnedpaa.PHold
