-- An own text of this claim, written by wip/tools/surro.py over the kit's print.
import Derived.Test.YtcicoedgjoploaaPKx0
import Derived.Test.YtcicoedgjoploaaPKx7
import Derived.Test.YtcicoedgjoploaaPKx8
namespace Go.Proofs.Ytcicoedgjoploaa.PK
open Go.RowKit Go.Proofs.YtcicoedgjoploaaW.PrintWords Go.Proofs.YtcicoedgjoploaaW.PrintLast Go.Proofs.YtcicoedgjoploaaW.PrintMore
attribute [local go_sem] max2_int min2_int max_two min_two max_three min_three max_four min_four   -- for this text's walks alone
set_option linter.unusedVariables false
set_option linter.unusedSimpArgs false

/-! ### bakekeep3_typed: function 27 -/
def bakekeep3_typed.f (k : Nat)  : Option (Bool) := (keys_Board.f k (⟨#[112]⟩ : ByteArray) (([(⟨5, 1, true⟩ : S114), (⟨9, 1, false⟩ : S114)] : List (S114)))).bind fun bt172 => (if bt172.2 = 0 then ((api_Input_67.f k bt172.1 (([(⟨5, (⟨#[112]⟩ : ByteArray), 2⟩ : S62), (⟨9, (⟨#[112]⟩ : ByteArray), 0⟩ : S62)] : List (S62)))).bind fun t179 => (some t179)) else (some false))
theorem bakekeep3_typed.mono : ∀ k, LeO (bakekeep3_typed.f k ) (bakekeep3_typed.f (k + 1) ) := by
  intro  k
  unfold bakekeep3_typed.f
  repeat' first
      | (with_reducible exact api_Input_67.mono _ _ _)
      | (with_reducible exact keys_Board.mono _ _ _)
      | (with_reducible exact LeO.refl _)
      | (with_reducible exact LeO.none _)
      | (with_reducible refine LeO.ite ?_ ?_)
      | (with_reducible refine LeO.bind ?_ (fun _ => ?_))
      | exact api_Input_67.mono _ _ _
      | exact keys_Board.mono _ _ _
      | exact LeO.none _
      | refine LeO.ite ?_ ?_
      | refine LeO.bind ?_ (fun _ => ?_)
set_option maxHeartbeats 8000000 in
set_option maxRecDepth 100000 in
theorem bakekeep3_typed.calls (k : Nat)  (r : Bool) (w : World) (h : bakekeep3_typed.f k  = some r) :
    Calls Try.prog 27 #[] w fun e w' => e = .returned (.bool r) ∧ Below w.heap.size w w' := by
  have hu114 := Try.underlying114
  have hu62 := Try.underlying62
  have HB := Aside0.mk (Below.refl w.heap.size w)
  have H : ((keys_Board.f k (⟨#[112]⟩ : ByteArray) (([(⟨5, 1, true⟩ : S114), (⟨9, 1, false⟩ : S114)] : List (S114)))).bind fun bt172 => (if bt172.2 = 0 then ((api_Input_67.f k bt172.1 (([(⟨5, (⟨#[112]⟩ : ByteArray), 2⟩ : S62), (⟨9, (⟨#[112]⟩ : ByteArray), 0⟩ : S62)] : List (S62)))).bind fun t179 => (some t179)) else (some false))) = some r := h
  clear h
  obtain ⟨y169, hy169⟩ : ∃ y_ : List (S114), y_ = (([(⟨5, 1, true⟩ : S114), (⟨9, 1, false⟩ : S114)] : List (S114))) := ⟨_, rfl⟩
  replace H : ((keys_Board.f k (⟨#[112]⟩ : ByteArray) y169).bind fun bt172 => (if bt172.2 = 0 then ((api_Input_67.f k bt172.1 (([(⟨5, (⟨#[112]⟩ : ByteArray), 2⟩ : S62), (⟨9, (⟨#[112]⟩ : ByteArray), 0⟩ : S62)] : List (S62)))).bind fun t179 => (some t179)) else (some false))) = some r := by first | (rw [hy169]; with_reducible exact H) | (have H2_ := (Option.bind_some _ _).symm.trans H; rw [hy169]; with_reducible exact H2_) | (have H2_ := (Option.bind_some _ _).symm.trans H; with_reducible exact H2_) | with_reducible exact H | (rw [hy169]; exact H) | exact H
  have Ny169 := Aside0.mk hy169
  clear hy169
  replace H := Option.bind_eq_some_iff.mp H
  obtain ⟨⟨t172, t173⟩, A10, H⟩ := H
  replace H : (if t173 = 0 then ((api_Input_67.f k t172 (([(⟨5, (⟨#[112]⟩ : ByteArray), 2⟩ : S62), (⟨9, (⟨#[112]⟩ : ByteArray), 0⟩ : S62)] : List (S62)))).bind fun t179 => (some t179)) else (some false)) = some r := H
  have A1 := Aside0.mk A10
  clear A10
  by_cases c2 : t173 = 0
  · rw [if_pos c2] at H
    have c2b0 : (t173 == 0) = true := beq_iff_eq.mpr c2
    have c2b1 : (t173 != 0) = false := bne_eq_false_iff_eq.mpr c2
    clear c2
    obtain ⟨y176, hy176⟩ : ∃ y_ : List (S62), y_ = (([(⟨5, (⟨#[112]⟩ : ByteArray), 2⟩ : S62), (⟨9, (⟨#[112]⟩ : ByteArray), 0⟩ : S62)] : List (S62))) := ⟨_, rfl⟩
    replace H : ((api_Input_67.f k t172 y176).bind fun t179 => (some t179)) = some r := by first | (rw [hy176]; with_reducible exact H) | (have H2_ := (Option.bind_some _ _).symm.trans H; rw [hy176]; with_reducible exact H2_) | (have H2_ := (Option.bind_some _ _).symm.trans H; with_reducible exact H2_) | with_reducible exact H | (rw [hy176]; exact H) | exact H
    have Ny176 := Aside0.mk hy176
    clear hy176
    replace H := Option.bind_eq_some_iff.mp H
    obtain ⟨t179, A30, H⟩ := H
    replace H : (some t179) = some r := H
    have A3 := Aside0.mk A30
    clear A30
    obtain rfl := Option.some.inj H
    go_enter Try.func27, Try.ntmps27
    go_wp2_with (first | ((with_reducible refine gate_dst (N := 6) rfl ?_); (try (refine gate_guard (by rfl) ?_; dsimp only)); refine Kd.R_lit k114 _ 114 ?hg (N := 6) ?hd (xs := ([(⟨5, 1, true⟩ : S114), (⟨9, 1, false⟩ : S114)] : List (S114))) (inner := [.int .i64 5, .int .i64 1, .bool true, .int .i64 9, .int .i64 1, .bool false]) (ok := fun _ => True) (okp := fun _ => True) ?hr ?hp (fun _ hk => hk) trivial (Below.refl _ _) (Nat.le_refl _) (by simp) ?_; (case hd => rfl); (case hg => rfl); (case hr => first | (go_simp; done) | (go_simp; rfl)); (case hp => exact (Reps.c3 (show Kd.M k114 _ _ _ (⟨5, 1, true⟩ : S114) [.int .i64 5, .int .i64 1, .bool true] from (k114_mkM _ _ _ (⟨5, 1, true⟩ : S114) )) (Reps.c3 (show Kd.M k114 _ _ _ (⟨9, 1, false⟩ : S114) [.int .i64 9, .int .i64 1, .bool false] from (k114_mkM _ _ _ (⟨9, 1, false⟩ : S114) )) (Reps.none _ _)))); intro v170 w4 ho5 hb hg_ hnew_; clear hg_ hnew_; (first | rw [← Ny169.out] at ho5 | (simp only [Int.reduceToNat] at ho5; rw [← Ny169.out] at ho5)); have n0_ := Aside0.mk (Kd.R_lower ho5 (below_size (by repeat (first | (with_reducible first | exact HB.out | apply below_alloc | apply pw_below_drewN | apply below_drew1) | exact HB.out)))); have n1_ := Aside0.mk (below_step (by repeat (first | (with_reducible first | exact HB.out | apply below_alloc | apply pw_below_drewN | apply below_drew1) | exact HB.out)) hb); clear HB; have HO171 := n0_; have HB := n1_; clear n0_ n1_; clear hb ho5; obtain ⟨Ao6, co6, eo6⟩ := Kd.R_slice HO171.out; subst eo6) | ((with_reducible refine gate_callee (f := 66) rfl ?_); refine goesL_ (some 7) rfl rfl Try.func66 (by kernel_rfl) rfl #[.string (⟨#[112]⟩ : ByteArray), .slice Ao6 y169.length co6] rfl (by (try simp only [List.map_toArray, List.map_cons, List.map_nil]); first | done | rfl | (simp only [List.length_drop, List.length_take]; rfl)) ?_; (with_reducible refine (keys_Board.calls k (⟨#[112]⟩ : ByteArray) _ _ y169 t172 t173 _ ?side1 ?side2 A1.out).mono ?_); (case side1 => repeat (first | exact (Kd.R_reads' HO171.out).2.2 | (with_reducible refine Kd.C_alloc ?_ _) | (with_reducible refine Kd.C_drewN ?_ _) | (with_reducible refine Kd.C_drew ?_))); (case side2 => exact (Kd.R_reads' HO171.out).2.1); rintro e w7 ⟨v174, rfl, ho0, hb⟩; refine ⟨_, rfl, ?_⟩; have n0_ := Aside0.mk (Kd.R_below (by (with_reducible repeat (first | apply Kd.R_alloc | apply Kd.R_drewN | apply Kd.R_drew)); exact HO171.out) hb); have n1_ := Aside0.mk (Kd.R_lower ho0 (below_size (by repeat (first | (with_reducible first | exact HB.out | apply below_alloc | apply pw_below_drewN | apply below_drew1) | exact HB.out)))); have n2_ := Aside0.mk (below_step (by repeat (first | (with_reducible first | exact HB.out | apply below_alloc | apply pw_below_drewN | apply below_drew1) | exact HB.out)) hb); clear HO171; clear HB; have HO171 := n0_; have HO175 := n1_; have HB := n2_; clear n0_ n1_ n2_; (try clear hb); (try clear hb2); (try clear hk); (try clear hi); (try clear ho0)) | ((with_reducible refine gate_dst (N := 16) rfl ?_); (try (refine gate_guard (by rfl) ?_; dsimp only)); refine Kd.R_lit k62 _ 62 ?hg (N := 16) ?hd (xs := ([(⟨5, (⟨#[112]⟩ : ByteArray), 2⟩ : S62), (⟨9, (⟨#[112]⟩ : ByteArray), 0⟩ : S62)] : List (S62))) (inner := [.int .i64 5, .string (⟨#[112]⟩ : ByteArray), .int .i64 2, .int .i64 9, .string (⟨#[112]⟩ : ByteArray), .int .i64 0]) (ok := fun _ => True) (okp := fun _ => True) ?hr ?hp (fun _ hk => hk) trivial (Below.refl _ _) (Nat.le_refl _) (by simp) ?_; (case hd => rfl); (case hg => rfl); (case hr => first | (go_simp; done) | (go_simp; rfl)); (case hp => exact (Reps.c3 (show Kd.M k62 _ _ _ (⟨5, (⟨#[112]⟩ : ByteArray), 2⟩ : S62) [.int .i64 5, .string (⟨#[112]⟩ : ByteArray), .int .i64 2] from (k62_mkM _ _ _ (⟨5, (⟨#[112]⟩ : ByteArray), 2⟩ : S62) )) (Reps.c3 (show Kd.M k62 _ _ _ (⟨9, (⟨#[112]⟩ : ByteArray), 0⟩ : S62) [.int .i64 9, .string (⟨#[112]⟩ : ByteArray), .int .i64 0] from (k62_mkM _ _ _ (⟨9, (⟨#[112]⟩ : ByteArray), 0⟩ : S62) )) (Reps.none _ _)))); intro v177 w8 ho9 hb hg_ hnew_; clear hg_ hnew_; (first | rw [← Ny176.out] at ho9 | (simp only [Int.reduceToNat] at ho9; rw [← Ny176.out] at ho9)); have n0_ := Aside0.mk (Kd.R_below (by (with_reducible repeat (first | apply Kd.R_alloc | apply Kd.R_drewN | apply Kd.R_drew)); exact HO171.out) hb); have n1_ := Aside0.mk (Kd.R_elder' (by (with_reducible repeat (first | apply Kd.R_alloc | apply Kd.R_drewN | apply Kd.R_drew)); exact HO175.out) (Kd.R_base ho9) hb); have n2_ := Aside0.mk (Kd.R_lower (Kd.R_new' ho9 (Kd.R_lt (by (with_reducible repeat (first | apply Kd.R_alloc | apply Kd.R_drewN | apply Kd.R_drew)); exact HO175.out))) (below_size (by repeat (first | (with_reducible first | exact HB.out | apply below_alloc | apply pw_below_drewN | apply below_drew1) | exact HB.out)))); have n3_ := Aside0.mk (below_step (by repeat (first | (with_reducible first | exact HB.out | apply below_alloc | apply pw_below_drewN | apply below_drew1) | exact HB.out)) hb); clear HO171; clear HO175; clear HB; have HO171 := n0_; have HO175 := n1_; have HO178 := n2_; have HB := n3_; clear n0_ n1_ n2_ n3_; clear hb ho9; obtain ⟨Ao10, co10, eo10⟩ := Kd.R_slice HO175.out; subst eo10; obtain ⟨Ao11, co11, eo11⟩ := Kd.R_slice HO178.out; subst eo11) | (go_at_call 67; (with_reducible refine (api_Input_67.calls k _ _ t172 _ _ y176 t179 _ ?side1 ?side2 ?side3 ?side4 A3.out).mono ?_); (case side1 => repeat (first | exact (Kd.R_reads' HO175.out).2.2 | (with_reducible refine Kd.C_alloc ?_ _) | (with_reducible refine Kd.C_drewN ?_ _) | (with_reducible refine Kd.C_drew ?_))); (case side2 => exact (Kd.R_reads' HO175.out).2.1); (case side3 => repeat (first | exact (Kd.R_reads' HO178.out).2.2 | (with_reducible refine Kd.C_alloc ?_ _) | (with_reducible refine Kd.C_drewN ?_ _) | (with_reducible refine Kd.C_drew ?_))); (case side4 => exact (Kd.R_reads' HO178.out).2.1); rintro e w' ⟨rfl, ⟨nd, rfl⟩⟩))
    go_ret
    exact ⟨by first | rfl | (simp [errW_none, errW_some] <;> rfl) | (simp [*, errW_none, errW_some] <;> rfl), by repeat (first | (with_reducible first | exact HB.out | apply below_alloc | apply pw_below_drewN | apply below_drew1) | exact HB.out)⟩
  · rw [if_neg c2] at H
    have c2b0 : (t173 == 0) = false := beq_eq_false_iff_ne.mpr c2
    have c2b1 : (t173 != 0) = true := bne_iff_ne.mpr c2
    obtain rfl := Option.some.inj H
    go_enter Try.func27, Try.ntmps27
    go_wp2_with (first | ((with_reducible refine gate_dst (N := 6) rfl ?_); (try (refine gate_guard (by rfl) ?_; dsimp only)); refine Kd.R_lit k114 _ 114 ?hg (N := 6) ?hd (xs := ([(⟨5, 1, true⟩ : S114), (⟨9, 1, false⟩ : S114)] : List (S114))) (inner := [.int .i64 5, .int .i64 1, .bool true, .int .i64 9, .int .i64 1, .bool false]) (ok := fun _ => True) (okp := fun _ => True) ?hr ?hp (fun _ hk => hk) trivial (Below.refl _ _) (Nat.le_refl _) (by simp) ?_; (case hd => rfl); (case hg => rfl); (case hr => first | (go_simp; done) | (go_simp; rfl)); (case hp => exact (Reps.c3 (show Kd.M k114 _ _ _ (⟨5, 1, true⟩ : S114) [.int .i64 5, .int .i64 1, .bool true] from (k114_mkM _ _ _ (⟨5, 1, true⟩ : S114) )) (Reps.c3 (show Kd.M k114 _ _ _ (⟨9, 1, false⟩ : S114) [.int .i64 9, .int .i64 1, .bool false] from (k114_mkM _ _ _ (⟨9, 1, false⟩ : S114) )) (Reps.none _ _)))); intro v170 w12 ho13 hb hg_ hnew_; clear hg_ hnew_; (first | rw [← Ny169.out] at ho13 | (simp only [Int.reduceToNat] at ho13; rw [← Ny169.out] at ho13)); have n0_ := Aside0.mk (Kd.R_lower ho13 (below_size (by repeat (first | (with_reducible first | exact HB.out | apply below_alloc | apply pw_below_drewN | apply below_drew1) | exact HB.out)))); have n1_ := Aside0.mk (below_step (by repeat (first | (with_reducible first | exact HB.out | apply below_alloc | apply pw_below_drewN | apply below_drew1) | exact HB.out)) hb); clear HB; have HO171 := n0_; have HB := n1_; clear n0_ n1_; clear hb ho13; obtain ⟨Ao14, co14, eo14⟩ := Kd.R_slice HO171.out; subst eo14) | ((with_reducible refine gate_callee (f := 66) rfl ?_); refine goesL_ (some 7) rfl rfl Try.func66 (by kernel_rfl) rfl #[.string (⟨#[112]⟩ : ByteArray), .slice Ao14 y169.length co14] rfl (by (try simp only [List.map_toArray, List.map_cons, List.map_nil]); first | done | rfl | (simp only [List.length_drop, List.length_take]; rfl)) ?_; (with_reducible refine (keys_Board.calls k (⟨#[112]⟩ : ByteArray) _ _ y169 t172 t173 _ ?side1 ?side2 A1.out).mono ?_); (case side1 => repeat (first | exact (Kd.R_reads' HO171.out).2.2 | (with_reducible refine Kd.C_alloc ?_ _) | (with_reducible refine Kd.C_drewN ?_ _) | (with_reducible refine Kd.C_drew ?_))); (case side2 => exact (Kd.R_reads' HO171.out).2.1); rintro e w15 ⟨v174, rfl, ho0, hb⟩; refine ⟨_, rfl, ?_⟩; have n0_ := Aside0.mk (Kd.R_below (by (with_reducible repeat (first | apply Kd.R_alloc | apply Kd.R_drewN | apply Kd.R_drew)); exact HO171.out) hb); have n1_ := Aside0.mk (Kd.R_lower ho0 (below_size (by repeat (first | (with_reducible first | exact HB.out | apply below_alloc | apply pw_below_drewN | apply below_drew1) | exact HB.out)))); have n2_ := Aside0.mk (below_step (by repeat (first | (with_reducible first | exact HB.out | apply below_alloc | apply pw_below_drewN | apply below_drew1) | exact HB.out)) hb); clear HO171; clear HB; have HO171 := n0_; have HO175 := n1_; have HB := n2_; clear n0_ n1_ n2_; (try clear hb); (try clear hb2); (try clear hk); (try clear hi); (try clear ho0)))
    go_ret
    exact ⟨by first | rfl | (simp [errW_none, errW_some] <;> rfl) | (simp [*, errW_none, errW_some] <;> rfl), by repeat (first | (with_reducible first | exact HB.out | apply below_alloc | apply pw_below_drewN | apply below_drew1) | exact HB.out)⟩

end Go.Proofs.Ytcicoedgjoploaa.PK
