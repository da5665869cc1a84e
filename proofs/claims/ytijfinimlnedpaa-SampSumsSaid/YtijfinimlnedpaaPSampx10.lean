-- An own text of this claim, written by wip/tools/surro.py over the kit's print.
import Derived.Test.YtijfinimlnedpaaPSampx0
import Derived.Test.YtijfinimlnedpaaPSampx1
import Derived.Test.YtijfinimlnedpaaPSampx2
import Derived.Test.YtijfinimlnedpaaPSampx6
import Derived.Test.YtijfinimlnedpaaPSampx7
import Derived.Test.YtijfinimlnedpaaPSampx8
import Derived.Test.YtijfinimlnedpaaPSampx9
namespace Go.Proofs.Ytijfinimlnedpaa.PSamp
open Go.RowKit Go.Proofs.YtijfinimlnedpaaW.PrintWords Go.Proofs.YtijfinimlnedpaaW.PrintLast Go.Proofs.YtijfinimlnedpaaW.PrintMore
attribute [local go_sem] max2_int min2_int max_two min_two max_three min_three max_four min_four   -- for this text's walks alone
set_option linter.unusedVariables false
set_option linter.unusedSimpArgs false

/-! ### bakekeep3_SampSums: function 3 -/
mutual
def bakekeep3_SampSums.j0 : Nat → Int → Int → List Int → List Int → Bool → Option (Bool)
  | 0, _, _, _, _, _ => none
  | k + 1, x1, x2, x7, x8, x49 => if x49 = true then (some false) else (if x2 = 0 then (none) else (if (Int.tmod (wrap64 ((x7.length : Int) * x1)) x2) = 0 then ((bakekeep3_sum.f k x8).bind fun t154 => ((bakekeep3_sum.f k x7).bind fun t155 => (bakekeep3_SampSums.j1 k x7 x8 (t154 != t155)))) else (bakekeep3_SampSums.j1 k x7 x8 false)))
def bakekeep3_SampSums.j1 : Nat → List Int → List Int → Bool → Option (Bool)
  | 0, _, _, _ => none
  | k + 1, x7, x8, x63 => if x63 = true then (some false) else ((bakekeep3_sum.f k x8).bind fun t156 => ((bakekeep3_sum.f k x7).bind fun t157 => (some (decide (t156 ≤ t157)))))
end
def bakekeep3_SampSums.f (k : Nat) (l0 : List Int) (a1 : Int) (a2 : Int) : Option (Bool) := (bakekeep3_levels.f k l0).bind fun t139 => ((bakemake_Below.f a1 40).bind fun t142 => ((bakemake_Below.f a2 40).bind fun t143 => ((samp_Resample.f k t139 (wrap64 (1 + t142)) (wrap64 (1 + t143))).bind fun bt144 => ((samp_Resample.f k t139 (wrap64 (1 + t142)) (wrap64 (1 + t142))).bind fun bt148 => ((bakekeep3_heard.f k).bind fun t152 => (if t152 = true then (if bt144.2 = 0 then (if bt148.2 = 0 then ((slices_Equal_int_int.f k bt148.1 t139).bind fun t153 => (bakekeep3_SampSums.j0 k (wrap64 (1 + t142)) (wrap64 (1 + t143)) t139 bt144.1 (!t153))) else (bakekeep3_SampSums.j0 k (wrap64 (1 + t142)) (wrap64 (1 + t143)) t139 bt144.1 true)) else (bakekeep3_SampSums.j0 k (wrap64 (1 + t142)) (wrap64 (1 + t143)) t139 bt144.1 true)) else (bakekeep3_SampSums.j0 k (wrap64 (1 + t142)) (wrap64 (1 + t143)) t139 bt144.1 true)))))))
theorem bakekeep3_SampSums.mono_l : ∀ k, (∀ y0 y1 y2 y3 y4, LeO (bakekeep3_SampSums.j0 k y0 y1 y2 y3 y4) (bakekeep3_SampSums.j0 (k + 1) y0 y1 y2 y3 y4)) ∧ (∀ y0 y1 y2, LeO (bakekeep3_SampSums.j1 k y0 y1 y2) (bakekeep3_SampSums.j1 (k + 1) y0 y1 y2))
  | 0 => ⟨fun _ _ _ _ _ r h => by simp [bakekeep3_SampSums.j0] at h, fun _ _ _ r h => by simp [bakekeep3_SampSums.j1] at h⟩
  | k + 1 => by
    obtain ⟨ih0, ih1⟩ := bakekeep3_SampSums.mono_l k
    refine ⟨?_, ?_⟩
    · intro y0 y1 y2 y3 y4
      unfold bakekeep3_SampSums.j0
      repeat' first
      | (with_reducible exact ih0 _ _ _ _ _)
      | (with_reducible exact ih1 _ _ _)
      | (with_reducible exact bakekeep3_heard.mono _)
      | (with_reducible exact bakekeep3_levels.mono _ _)
      | (with_reducible exact bakekeep3_sum.mono _ _)
      | (with_reducible exact samp_Resample.mono _ _ _ _)
      | (with_reducible exact slices_Equal_int_int.mono _ _ _)
      | (with_reducible exact LeO.refl _)
      | (with_reducible exact LeO.none _)
      | (with_reducible refine LeO.ite ?_ ?_)
      | (with_reducible refine LeO.bind ?_ (fun _ => ?_))
      | exact ih0 _ _ _ _ _
      | exact ih1 _ _ _
      | exact bakekeep3_heard.mono _
      | exact bakekeep3_levels.mono _ _
      | exact bakekeep3_sum.mono _ _
      | exact samp_Resample.mono _ _ _ _
      | exact slices_Equal_int_int.mono _ _ _
      | exact LeO.none _
      | refine LeO.ite ?_ ?_
      | refine LeO.bind ?_ (fun _ => ?_)
    · intro y0 y1 y2
      unfold bakekeep3_SampSums.j1
      repeat' first
      | (with_reducible exact ih0 _ _ _ _ _)
      | (with_reducible exact ih1 _ _ _)
      | (with_reducible exact bakekeep3_heard.mono _)
      | (with_reducible exact bakekeep3_levels.mono _ _)
      | (with_reducible exact bakekeep3_sum.mono _ _)
      | (with_reducible exact samp_Resample.mono _ _ _ _)
      | (with_reducible exact slices_Equal_int_int.mono _ _ _)
      | (with_reducible exact LeO.refl _)
      | (with_reducible exact LeO.none _)
      | (with_reducible refine LeO.ite ?_ ?_)
      | (with_reducible refine LeO.bind ?_ (fun _ => ?_))
      | exact ih0 _ _ _ _ _
      | exact ih1 _ _ _
      | exact bakekeep3_heard.mono _
      | exact bakekeep3_levels.mono _ _
      | exact bakekeep3_sum.mono _ _
      | exact samp_Resample.mono _ _ _ _
      | exact slices_Equal_int_int.mono _ _ _
      | exact LeO.none _
      | refine LeO.ite ?_ ?_
      | refine LeO.bind ?_ (fun _ => ?_)
theorem bakekeep3_SampSums.mono : ∀ a0 a1 a2 k, LeO (bakekeep3_SampSums.f k a0 a1 a2) (bakekeep3_SampSums.f (k + 1) a0 a1 a2) := by
  intro a0 a1 a2 k
  obtain ⟨ih0, ih1⟩ := bakekeep3_SampSums.mono_l k
  unfold bakekeep3_SampSums.f
  repeat' first
      | (with_reducible exact ih0 _ _ _ _ _)
      | (with_reducible exact ih1 _ _ _)
      | (with_reducible exact bakekeep3_heard.mono _)
      | (with_reducible exact bakekeep3_levels.mono _ _)
      | (with_reducible exact bakekeep3_sum.mono _ _)
      | (with_reducible exact samp_Resample.mono _ _ _ _)
      | (with_reducible exact slices_Equal_int_int.mono _ _ _)
      | (with_reducible exact LeO.refl _)
      | (with_reducible exact LeO.none _)
      | (with_reducible refine LeO.ite ?_ ?_)
      | (with_reducible refine LeO.bind ?_ (fun _ => ?_))
      | exact ih0 _ _ _ _ _
      | exact ih1 _ _ _
      | exact bakekeep3_heard.mono _
      | exact bakekeep3_levels.mono _ _
      | exact bakekeep3_sum.mono _ _
      | exact samp_Resample.mono _ _ _ _
      | exact slices_Equal_int_int.mono _ _ _
      | exact LeO.none _
      | refine LeO.ite ?_ ?_
      | refine LeO.bind ?_ (fun _ => ?_)
set_option maxHeartbeats 8000000 in
set_option maxRecDepth 100000 in
theorem bakekeep3_SampSums.calls (k : Nat) (A0 : Option Addr) (c0 : Nat) (l0 : List Int) (a1 : Int) (a2 : Int) (r : Bool) (w : World) (hr0 : Kd.C (Kd.int .i64) w A0 l0.length l0) (hc0 : l0.length ≤ c0) (h : bakekeep3_SampSums.f k l0 a1 a2 = some r) :
    Calls Try.prog 3 #[.slice A0 l0.length c0, .int .i64 a1, .int .i64 a2] w fun e w' => e = .returned (.bool r) ∧ Below w.heap.size w w' := by
  have HR0 := Aside0.mk hr0
  have HC0 := Aside0.mk hc0
  clear hr0 hc0
  have HB := Aside0.mk (Below.refl w.heap.size w)
  have H : ((bakekeep3_levels.f k l0).bind fun t139 => ((bakemake_Below.f a1 40).bind fun t142 => ((bakemake_Below.f a2 40).bind fun t143 => ((samp_Resample.f k t139 (wrap64 (1 + t142)) (wrap64 (1 + t143))).bind fun bt144 => ((samp_Resample.f k t139 (wrap64 (1 + t142)) (wrap64 (1 + t142))).bind fun bt148 => ((bakekeep3_heard.f k).bind fun t152 => (if t152 = true then (if bt144.2 = 0 then (if bt148.2 = 0 then ((slices_Equal_int_int.f k bt148.1 t139).bind fun t153 => (bakekeep3_SampSums.j0 k (wrap64 (1 + t142)) (wrap64 (1 + t143)) t139 bt144.1 (!t153))) else (bakekeep3_SampSums.j0 k (wrap64 (1 + t142)) (wrap64 (1 + t143)) t139 bt144.1 true)) else (bakekeep3_SampSums.j0 k (wrap64 (1 + t142)) (wrap64 (1 + t143)) t139 bt144.1 true)) else (bakekeep3_SampSums.j0 k (wrap64 (1 + t142)) (wrap64 (1 + t143)) t139 bt144.1 true)))))))) = some r := h
  clear h
  replace H := Option.bind_eq_some_iff.mp H
  obtain ⟨t139, A40, H⟩ := H
  replace H : ((bakemake_Below.f a1 40).bind fun t142 => ((bakemake_Below.f a2 40).bind fun t143 => ((samp_Resample.f k t139 (wrap64 (1 + t142)) (wrap64 (1 + t143))).bind fun bt144 => ((samp_Resample.f k t139 (wrap64 (1 + t142)) (wrap64 (1 + t142))).bind fun bt148 => ((bakekeep3_heard.f k).bind fun t152 => (if t152 = true then (if bt144.2 = 0 then (if bt148.2 = 0 then ((slices_Equal_int_int.f k bt148.1 t139).bind fun t153 => (bakekeep3_SampSums.j0 k (wrap64 (1 + t142)) (wrap64 (1 + t143)) t139 bt144.1 (!t153))) else (bakekeep3_SampSums.j0 k (wrap64 (1 + t142)) (wrap64 (1 + t143)) t139 bt144.1 true)) else (bakekeep3_SampSums.j0 k (wrap64 (1 + t142)) (wrap64 (1 + t143)) t139 bt144.1 true)) else (bakekeep3_SampSums.j0 k (wrap64 (1 + t142)) (wrap64 (1 + t143)) t139 bt144.1 true))))))) = some r := H
  have A4 := Aside0.mk A40
  clear A40
  replace H := Option.bind_eq_some_iff.mp H
  obtain ⟨t142, A50, H⟩ := H
  replace H : ((bakemake_Below.f a2 40).bind fun t143 => ((samp_Resample.f k t139 (wrap64 (1 + t142)) (wrap64 (1 + t143))).bind fun bt144 => ((samp_Resample.f k t139 (wrap64 (1 + t142)) (wrap64 (1 + t142))).bind fun bt148 => ((bakekeep3_heard.f k).bind fun t152 => (if t152 = true then (if bt144.2 = 0 then (if bt148.2 = 0 then ((slices_Equal_int_int.f k bt148.1 t139).bind fun t153 => (bakekeep3_SampSums.j0 k (wrap64 (1 + t142)) (wrap64 (1 + t143)) t139 bt144.1 (!t153))) else (bakekeep3_SampSums.j0 k (wrap64 (1 + t142)) (wrap64 (1 + t143)) t139 bt144.1 true)) else (bakekeep3_SampSums.j0 k (wrap64 (1 + t142)) (wrap64 (1 + t143)) t139 bt144.1 true)) else (bakekeep3_SampSums.j0 k (wrap64 (1 + t142)) (wrap64 (1 + t143)) t139 bt144.1 true)))))) = some r := H
  have A5 := Aside0.mk A50
  clear A50
  replace H := Option.bind_eq_some_iff.mp H
  obtain ⟨t143, A60, H⟩ := H
  replace H : ((samp_Resample.f k t139 (wrap64 (1 + t142)) (wrap64 (1 + t143))).bind fun bt144 => ((samp_Resample.f k t139 (wrap64 (1 + t142)) (wrap64 (1 + t142))).bind fun bt148 => ((bakekeep3_heard.f k).bind fun t152 => (if t152 = true then (if bt144.2 = 0 then (if bt148.2 = 0 then ((slices_Equal_int_int.f k bt148.1 t139).bind fun t153 => (bakekeep3_SampSums.j0 k (wrap64 (1 + t142)) (wrap64 (1 + t143)) t139 bt144.1 (!t153))) else (bakekeep3_SampSums.j0 k (wrap64 (1 + t142)) (wrap64 (1 + t143)) t139 bt144.1 true)) else (bakekeep3_SampSums.j0 k (wrap64 (1 + t142)) (wrap64 (1 + t143)) t139 bt144.1 true)) else (bakekeep3_SampSums.j0 k (wrap64 (1 + t142)) (wrap64 (1 + t143)) t139 bt144.1 true))))) = some r := H
  have A6 := Aside0.mk A60
  clear A60
  replace H := Option.bind_eq_some_iff.mp H
  obtain ⟨⟨t144, t145⟩, A70, H⟩ := H
  replace H : ((samp_Resample.f k t139 (wrap64 (1 + t142)) (wrap64 (1 + t142))).bind fun bt148 => ((bakekeep3_heard.f k).bind fun t152 => (if t152 = true then (if t145 = 0 then (if bt148.2 = 0 then ((slices_Equal_int_int.f k bt148.1 t139).bind fun t153 => (bakekeep3_SampSums.j0 k (wrap64 (1 + t142)) (wrap64 (1 + t143)) t139 t144 (!t153))) else (bakekeep3_SampSums.j0 k (wrap64 (1 + t142)) (wrap64 (1 + t143)) t139 t144 true)) else (bakekeep3_SampSums.j0 k (wrap64 (1 + t142)) (wrap64 (1 + t143)) t139 t144 true)) else (bakekeep3_SampSums.j0 k (wrap64 (1 + t142)) (wrap64 (1 + t143)) t139 t144 true)))) = some r := H
  have A7 := Aside0.mk A70
  clear A70
  replace H := Option.bind_eq_some_iff.mp H
  obtain ⟨⟨t148, t149⟩, A80, H⟩ := H
  replace H : ((bakekeep3_heard.f k).bind fun t152 => (if t152 = true then (if t145 = 0 then (if t149 = 0 then ((slices_Equal_int_int.f k t148 t139).bind fun t153 => (bakekeep3_SampSums.j0 k (wrap64 (1 + t142)) (wrap64 (1 + t143)) t139 t144 (!t153))) else (bakekeep3_SampSums.j0 k (wrap64 (1 + t142)) (wrap64 (1 + t143)) t139 t144 true)) else (bakekeep3_SampSums.j0 k (wrap64 (1 + t142)) (wrap64 (1 + t143)) t139 t144 true)) else (bakekeep3_SampSums.j0 k (wrap64 (1 + t142)) (wrap64 (1 + t143)) t139 t144 true))) = some r := H
  have A8 := Aside0.mk A80
  clear A80
  have HC9 := Aside0.mk H
  clear H
  go_enter Try.func3, Try.ntmps3
  go_upto_region 5 with (first | ((with_reducible refine gate_callee (f := 14) rfl ?_); refine goesL_ (some 13) rfl rfl Try.func14 (by kernel_rfl) rfl #[.slice A0 l0.length c0] rfl (by (try simp only [List.map_toArray, List.map_cons, List.map_nil]); first | done | rfl | (simp only [List.length_drop, List.length_take]; rfl)) ?_; (with_reducible refine (bakekeep3_levels.calls k _ _ l0 t139 _ ?side1 ?side2 A4.out).mono ?_); (case side1 => repeat (first | exact HR0.out | (with_reducible refine Kd.C_alloc ?_ _) | (with_reducible refine Kd.C_drewN ?_ _) | (with_reducible refine Kd.C_drew ?_))); (case side2 => exact HC0.out); rintro e w10 ⟨v140, rfl, ho0, hb⟩; refine ⟨_, rfl, ?_⟩; have n0_ := Aside0.mk (Kd.R_lower ho0 (below_size (by repeat (first | (with_reducible first | exact HB.out | apply below_alloc | apply pw_below_drewN | apply below_drew1) | exact HB.out)))); have n1_ := Aside0.mk (below_step (by repeat (first | (with_reducible first | exact HB.out | apply below_alloc | apply pw_below_drewN | apply below_drew1) | exact HB.out)) hb); clear HB; have HO141 := n0_; have HB := n1_; clear n0_ n1_; (try clear hb); (try clear hb2); (try clear hk); (try clear hi); (try clear ho0)) | ((with_reducible refine gate_callee (f := 15) rfl ?_); refine goesL_ (some 15) rfl rfl Try.func15 (by kernel_rfl) rfl #[.int .i64 a1, .int .i64 40] rfl (by (try simp only [List.map_toArray, List.map_cons, List.map_nil]); first | done | rfl | (simp only [List.length_drop, List.length_take]; rfl)) ?_; (with_reducible refine (bakemake_Below.calls a1 40 t142 _ A5.out).mono ?_); rintro e w' ⟨rfl, ⟨nd, rfl⟩⟩; refine ⟨_, rfl, ?_⟩) | ((with_reducible refine gate_callee (f := 15) rfl ?_); refine goesL_ (some 18) rfl rfl Try.func15 (by kernel_rfl) rfl #[.int .i64 a2, .int .i64 40] rfl (by (try simp only [List.map_toArray, List.map_cons, List.map_nil]); first | done | rfl | (simp only [List.length_drop, List.length_take]; rfl)) ?_; (with_reducible refine (bakemake_Below.calls a2 40 t143 _ A6.out).mono ?_); rintro e w' ⟨rfl, ⟨nd, rfl⟩⟩; refine ⟨_, rfl, ?_⟩; obtain ⟨Ao11, co11, eo11⟩ := Kd.R_slice HO141.out; subst eo11) | ((with_reducible refine gate_callee (f := 16) rfl ?_); refine goesL_ (some 24) rfl rfl Try.func16 (by kernel_rfl) rfl #[.slice Ao11 t139.length co11, .int .i64 (wrap64 (1 + t142)), .int .i64 (wrap64 (1 + t143))] rfl (by (try simp only [List.map_toArray, List.map_cons, List.map_nil]); first | done | rfl | (simp only [List.length_drop, List.length_take]; rfl)) ?_; (with_reducible refine (samp_Resample.calls k _ _ t139 (wrap64 (1 + t142)) (wrap64 (1 + t143)) t144 t145 _ ?side1 ?side2 A7.out).mono ?_); (case side1 => repeat (first | exact (Kd.R_reads' HO141.out).2.2 | (with_reducible refine Kd.C_alloc ?_ _) | (with_reducible refine Kd.C_drewN ?_ _) | (with_reducible refine Kd.C_drew ?_))); (case side2 => exact (Kd.R_reads' HO141.out).2.1); rintro e w12 ⟨v146, rfl, ho0, hb⟩; refine ⟨_, rfl, ?_⟩; have n0_ := Aside0.mk (Kd.R_elder' (by (with_reducible repeat (first | apply Kd.R_alloc | apply Kd.R_drewN | apply Kd.R_drew)); exact HO141.out) (Kd.R_base ho0) hb); have n1_ := Aside0.mk (Kd.R_lower (Kd.R_new' ho0 (Kd.R_lt (by (with_reducible repeat (first | apply Kd.R_alloc | apply Kd.R_drewN | apply Kd.R_drew)); exact HO141.out))) (below_size (by repeat (first | (with_reducible first | exact HB.out | apply below_alloc | apply pw_below_drewN | apply below_drew1) | exact HB.out)))); have n2_ := Aside0.mk (below_step (by repeat (first | (with_reducible first | exact HB.out | apply below_alloc | apply pw_below_drewN | apply below_drew1) | exact HB.out)) hb); clear HO141; clear HB; have HO141 := n0_; have HO147 := n1_; have HB := n2_; clear n0_ n1_ n2_; (try clear hb); (try clear hb2); (try clear hk); (try clear hi); (try clear ho0)) | ((with_reducible refine gate_callee (f := 16) rfl ?_); refine goesL_ (some 31) rfl rfl Try.func16 (by kernel_rfl) rfl #[.slice Ao11 t139.length co11, .int .i64 (wrap64 (1 + t142)), .int .i64 (wrap64 (1 + t142))] rfl (by (try simp only [List.map_toArray, List.map_cons, List.map_nil]); first | done | rfl | (simp only [List.length_drop, List.length_take]; rfl)) ?_; (with_reducible refine (samp_Resample.calls k _ _ t139 (wrap64 (1 + t142)) (wrap64 (1 + t142)) t148 t149 _ ?side1 ?side2 A8.out).mono ?_); (case side1 => repeat (first | exact (Kd.R_reads' HO141.out).2.2 | (with_reducible refine Kd.C_alloc ?_ _) | (with_reducible refine Kd.C_drewN ?_ _) | (with_reducible refine Kd.C_drew ?_))); (case side2 => exact (Kd.R_reads' HO141.out).2.1); rintro e w13 ⟨v150, rfl, ho0, hb⟩; refine ⟨_, rfl, ?_⟩; have n0_ := Aside0.mk (Kd.R_elder' (by (with_reducible repeat (first | apply Kd.R_alloc | apply Kd.R_drewN | apply Kd.R_drew)); exact HO141.out) (Kd.R_base ho0) hb); have n1_ := Aside0.mk (Kd.R_elder' (by (with_reducible repeat (first | apply Kd.R_alloc | apply Kd.R_drewN | apply Kd.R_drew)); exact HO147.out) (Kd.R_base ho0) hb); have n2_ := Aside0.mk (Kd.R_lower (Kd.R_new' (Kd.R_new' ho0 (Kd.R_lt (by (with_reducible repeat (first | apply Kd.R_alloc | apply Kd.R_drewN | apply Kd.R_drew)); exact HO141.out))) (Kd.R_lt (by (with_reducible repeat (first | apply Kd.R_alloc | apply Kd.R_drewN | apply Kd.R_drew)); exact HO147.out))) (below_size (by repeat (first | (with_reducible first | exact HB.out | apply below_alloc | apply pw_below_drewN | apply below_drew1) | exact HB.out)))); have n3_ := Aside0.mk (below_step (by repeat (first | (with_reducible first | exact HB.out | apply below_alloc | apply pw_below_drewN | apply below_drew1) | exact HB.out)) hb); clear HO141; clear HO147; clear HB; have HO141 := n0_; have HO147 := n1_; have HO151 := n2_; have HB := n3_; clear n0_ n1_ n2_ n3_; (try clear hb); (try clear hb2); (try clear hk); (try clear hi); (try clear ho0)))
  (try simp only [Act.put, List.setIfInBounds_toArray, List.set_cons_zero, List.set_cons_succ])
  go_cut [49] (fun v49 wc => ∃ (kq : Nat) (x49_8 : Bool), v49 = .bool x49_8 ∧ Aside0 (bakekeep3_SampSums.j0 kq (wrap64 (1 + t142)) (wrap64 (1 + t143)) t139 t144 x49_8 = some r) ∧ Aside0 (kq ≤ k) ∧ Aside0 (Kd.R (Kd.int .i64) 3 wc w.heap.size (fun k_ => some k_ ≠ (v146 : Value).ownBlock) (.slice Ao11 t139.length co11) t139) ∧ Aside0 (Kd.R (Kd.int .i64) 3 wc w.heap.size (fun k_ => some k_ ≠ ((.slice Ao11 t139.length co11) : Value).ownBlock) v146 t144) ∧ Aside0 (Below w.heap.size w wc))
  case first =>
    have H := HC9.out
    clear HC9
    replace H := Option.bind_eq_some_iff.mp H
    obtain ⟨t152, A140, H⟩ := H
    replace H : (if t152 = true then (if t145 = 0 then (if t149 = 0 then ((slices_Equal_int_int.f k t148 t139).bind fun t153 => (bakekeep3_SampSums.j0 k (wrap64 (1 + t142)) (wrap64 (1 + t143)) t139 t144 (!t153))) else (bakekeep3_SampSums.j0 k (wrap64 (1 + t142)) (wrap64 (1 + t143)) t139 t144 true)) else (bakekeep3_SampSums.j0 k (wrap64 (1 + t142)) (wrap64 (1 + t143)) t139 t144 true)) else (bakekeep3_SampSums.j0 k (wrap64 (1 + t142)) (wrap64 (1 + t143)) t139 t144 true)) = some r := H
    have A14 := Aside0.mk A140
    clear A140
    by_cases c15 : t152 = true
    · subst c15
      have H1 : (if t145 = 0 then (if t149 = 0 then ((slices_Equal_int_int.f k t148 t139).bind fun t153 => (bakekeep3_SampSums.j0 k (wrap64 (1 + t142)) (wrap64 (1 + t143)) t139 t144 (!t153))) else (bakekeep3_SampSums.j0 k (wrap64 (1 + t142)) (wrap64 (1 + t143)) t139 t144 true)) else (bakekeep3_SampSums.j0 k (wrap64 (1 + t142)) (wrap64 (1 + t143)) t139 t144 true)) = some r := by rw [if_pos rfl] at H; exact H
      clear H
      have H := H1
      clear H1
      by_cases c16 : t145 = 0
      · rw [if_pos c16] at H
        have c16b0 : (t145 == 0) = true := beq_iff_eq.mpr c16
        have c16b1 : (t145 != 0) = false := bne_eq_false_iff_eq.mpr c16
        clear c16
        (first | rw [c16b0] | (simp only [i64_w, i32_w]; rw [c16b0]) | skip)
        by_cases c17 : t149 = 0
        · rw [if_pos c17] at H
          have c17b0 : (t149 == 0) = true := beq_iff_eq.mpr c17
          have c17b1 : (t149 != 0) = false := bne_eq_false_iff_eq.mpr c17
          clear c17
          replace H := Option.bind_eq_some_iff.mp H
          obtain ⟨t153, A180, H⟩ := H
          replace H : (bakekeep3_SampSums.j0 k (wrap64 (1 + t142)) (wrap64 (1 + t143)) t139 t144 (!t153)) = some r := H
          have A18 := Aside0.mk A180
          clear A180
          have H' := Aside0.mk H
          clear H
          go_wp2_with (first | ((with_reducible refine gate_callee (f := 17) rfl ?_); refine goesL_ (some 34) rfl rfl Try.func17 (by kernel_rfl) rfl #[] rfl (by (try simp only [List.map_toArray, List.map_cons, List.map_nil]); first | done | rfl | (simp only [List.length_drop, List.length_take]; rfl)) ?_; (with_reducible refine (bakekeep3_heard.calls k  true _ A14.out).mono ?_); rintro e w19 ⟨rfl, hb⟩; refine ⟨_, rfl, ?_⟩; have n0_ := Aside0.mk (Kd.R_below (by (with_reducible repeat (first | apply Kd.R_alloc | apply Kd.R_drewN | apply Kd.R_drew)); exact HO141.out) hb); have n1_ := Aside0.mk (Kd.R_below (by (with_reducible repeat (first | apply Kd.R_alloc | apply Kd.R_drewN | apply Kd.R_drew)); exact HO147.out) hb); have n2_ := Aside0.mk (Kd.R_below (by (with_reducible repeat (first | apply Kd.R_alloc | apply Kd.R_drewN | apply Kd.R_drew)); exact HO151.out) hb); have n3_ := Aside0.mk (below_step (by repeat (first | (with_reducible first | exact HB.out | apply below_alloc | apply pw_below_drewN | apply below_drew1) | exact HB.out)) hb); clear HO141; clear HO147; clear HO151; clear HB; have HO141 := n0_; have HO147 := n1_; have HO151 := n2_; have HB := n3_; clear n0_ n1_ n2_ n3_; (try clear hb); (try clear hb2); (try clear hk); (try clear hi); obtain ⟨Ao20, co20, eo20⟩ := Kd.R_slice HO151.out; subst eo20) | (go_at_call 18; (with_reducible refine (slices_Equal_int_int.calls k _ _ t148 _ _ t139 t153 _ ?side1 ?side2 ?side3 ?side4 A18.out).mono ?_); (case side1 => repeat (first | exact (Kd.R_reads' HO151.out).2.2 | (with_reducible refine Kd.C_alloc ?_ _) | (with_reducible refine Kd.C_drewN ?_ _) | (with_reducible refine Kd.C_drew ?_))); (case side2 => exact (Kd.R_reads' HO151.out).2.1); (case side3 => repeat (first | exact (Kd.R_reads' HO141.out).2.2 | (with_reducible refine Kd.C_alloc ?_ _) | (with_reducible refine Kd.C_drewN ?_ _) | (with_reducible refine Kd.C_drew ?_))); (case side4 => exact (Kd.R_reads' HO141.out).2.1); rintro e w' ⟨rfl, ⟨nd, rfl⟩⟩))
          go_meet
          case rel => exact ⟨_, (!t153), (by first | rfl | (simp; done) | (simp [*]; done)), H', ⟨by first | omega | exact Nat.le_refl _⟩, ⟨by (with_reducible repeat (first | apply Kd.R_alloc | apply Kd.R_drewN | apply Kd.R_drew)); exact Kd.R_mono HO141.out (fun _ hk => hk.1.2)⟩, ⟨by (with_reducible repeat (first | apply Kd.R_alloc | apply Kd.R_drewN | apply Kd.R_drew)); exact Kd.R_mono HO147.out (fun _ hk => hk.1.2)⟩, ⟨by repeat (first | (with_reducible first | exact HB.out | apply below_alloc | apply pw_below_drewN | apply below_drew1) | exact HB.out)⟩⟩
        · rw [if_neg c17] at H
          have c17b0 : (t149 == 0) = false := beq_eq_false_iff_ne.mpr c17
          have c17b1 : (t149 != 0) = true := bne_iff_ne.mpr c17
          have H' := Aside0.mk H
          clear H
          go_wp2_with (first | ((with_reducible refine gate_callee (f := 17) rfl ?_); refine goesL_ (some 34) rfl rfl Try.func17 (by kernel_rfl) rfl #[] rfl (by (try simp only [List.map_toArray, List.map_cons, List.map_nil]); first | done | rfl | (simp only [List.length_drop, List.length_take]; rfl)) ?_; (with_reducible refine (bakekeep3_heard.calls k  true _ A14.out).mono ?_); rintro e w21 ⟨rfl, hb⟩; refine ⟨_, rfl, ?_⟩; have n0_ := Aside0.mk (Kd.R_below (by (with_reducible repeat (first | apply Kd.R_alloc | apply Kd.R_drewN | apply Kd.R_drew)); exact HO141.out) hb); have n1_ := Aside0.mk (Kd.R_below (by (with_reducible repeat (first | apply Kd.R_alloc | apply Kd.R_drewN | apply Kd.R_drew)); exact HO147.out) hb); have n2_ := Aside0.mk (Kd.R_below (by (with_reducible repeat (first | apply Kd.R_alloc | apply Kd.R_drewN | apply Kd.R_drew)); exact HO151.out) hb); have n3_ := Aside0.mk (below_step (by repeat (first | (with_reducible first | exact HB.out | apply below_alloc | apply pw_below_drewN | apply below_drew1) | exact HB.out)) hb); clear HO141; clear HO147; clear HO151; clear HB; have HO141 := n0_; have HO147 := n1_; have HO151 := n2_; have HB := n3_; clear n0_ n1_ n2_ n3_; (try clear hb); (try clear hb2); (try clear hk); (try clear hi)))
          go_meet
          case rel => exact ⟨_, (true), (by first | rfl | (simp; done) | (simp [*]; done)), H', ⟨by first | omega | exact Nat.le_refl _⟩, ⟨by (with_reducible repeat (first | apply Kd.R_alloc | apply Kd.R_drewN | apply Kd.R_drew)); exact Kd.R_mono HO141.out (fun _ hk => hk.1.2)⟩, ⟨by (with_reducible repeat (first | apply Kd.R_alloc | apply Kd.R_drewN | apply Kd.R_drew)); exact Kd.R_mono HO147.out (fun _ hk => hk.1.2)⟩, ⟨by repeat (first | (with_reducible first | exact HB.out | apply below_alloc | apply pw_below_drewN | apply below_drew1) | exact HB.out)⟩⟩
      · rw [if_neg c16] at H
        have c16b0 : (t145 == 0) = false := beq_eq_false_iff_ne.mpr c16
        have c16b1 : (t145 != 0) = true := bne_iff_ne.mpr c16
        (first | rw [c16b0] | (simp only [i64_w, i32_w]; rw [c16b0]) | skip)
        have H' := Aside0.mk H
        clear H
        go_wp2_with (first | ((with_reducible refine gate_callee (f := 17) rfl ?_); refine goesL_ (some 34) rfl rfl Try.func17 (by kernel_rfl) rfl #[] rfl (by (try simp only [List.map_toArray, List.map_cons, List.map_nil]); first | done | rfl | (simp only [List.length_drop, List.length_take]; rfl)) ?_; (with_reducible refine (bakekeep3_heard.calls k  true _ A14.out).mono ?_); rintro e w22 ⟨rfl, hb⟩; refine ⟨_, rfl, ?_⟩; have n0_ := Aside0.mk (Kd.R_below (by (with_reducible repeat (first | apply Kd.R_alloc | apply Kd.R_drewN | apply Kd.R_drew)); exact HO141.out) hb); have n1_ := Aside0.mk (Kd.R_below (by (with_reducible repeat (first | apply Kd.R_alloc | apply Kd.R_drewN | apply Kd.R_drew)); exact HO147.out) hb); have n2_ := Aside0.mk (Kd.R_below (by (with_reducible repeat (first | apply Kd.R_alloc | apply Kd.R_drewN | apply Kd.R_drew)); exact HO151.out) hb); have n3_ := Aside0.mk (below_step (by repeat (first | (with_reducible first | exact HB.out | apply below_alloc | apply pw_below_drewN | apply below_drew1) | exact HB.out)) hb); clear HO141; clear HO147; clear HO151; clear HB; have HO141 := n0_; have HO147 := n1_; have HO151 := n2_; have HB := n3_; clear n0_ n1_ n2_ n3_; (try clear hb); (try clear hb2); (try clear hk); (try clear hi)))
        go_meet
        case rel => exact ⟨_, (true), (by first | rfl | (simp; done) | (simp [*]; done)), H', ⟨by first | omega | exact Nat.le_refl _⟩, ⟨by (with_reducible repeat (first | apply Kd.R_alloc | apply Kd.R_drewN | apply Kd.R_drew)); exact Kd.R_mono HO141.out (fun _ hk => hk.1.2)⟩, ⟨by (with_reducible repeat (first | apply Kd.R_alloc | apply Kd.R_drewN | apply Kd.R_drew)); exact Kd.R_mono HO147.out (fun _ hk => hk.1.2)⟩, ⟨by repeat (first | (with_reducible first | exact HB.out | apply below_alloc | apply pw_below_drewN | apply below_drew1) | exact HB.out)⟩⟩
    · replace c15 := Bool.eq_false_iff.mpr c15
      subst c15
      have H1 : (bakekeep3_SampSums.j0 k (wrap64 (1 + t142)) (wrap64 (1 + t143)) t139 t144 true) = some r := by rw [if_neg (show ¬ (false = true) by decide)] at H; exact H
      clear H
      have H := H1
      clear H1
      have H' := Aside0.mk H
      clear H
      go_wp2_with (first | ((with_reducible refine gate_callee (f := 17) rfl ?_); refine goesL_ (some 34) rfl rfl Try.func17 (by kernel_rfl) rfl #[] rfl (by (try simp only [List.map_toArray, List.map_cons, List.map_nil]); first | done | rfl | (simp only [List.length_drop, List.length_take]; rfl)) ?_; (with_reducible refine (bakekeep3_heard.calls k  false _ A14.out).mono ?_); rintro e w23 ⟨rfl, hb⟩; refine ⟨_, rfl, ?_⟩; have n0_ := Aside0.mk (Kd.R_below (by (with_reducible repeat (first | apply Kd.R_alloc | apply Kd.R_drewN | apply Kd.R_drew)); exact HO141.out) hb); have n1_ := Aside0.mk (Kd.R_below (by (with_reducible repeat (first | apply Kd.R_alloc | apply Kd.R_drewN | apply Kd.R_drew)); exact HO147.out) hb); have n2_ := Aside0.mk (Kd.R_below (by (with_reducible repeat (first | apply Kd.R_alloc | apply Kd.R_drewN | apply Kd.R_drew)); exact HO151.out) hb); have n3_ := Aside0.mk (below_step (by repeat (first | (with_reducible first | exact HB.out | apply below_alloc | apply pw_below_drewN | apply below_drew1) | exact HB.out)) hb); clear HO141; clear HO147; clear HO151; clear HB; have HO141 := n0_; have HO147 := n1_; have HO151 := n2_; have HB := n3_; clear n0_ n1_ n2_ n3_; (try clear hb); (try clear hb2); (try clear hk); (try clear hi)))
      go_meet
      case rel => exact ⟨_, (true), (by first | rfl | (simp; done) | (simp [*]; done)), H', ⟨by first | omega | exact Nat.le_refl _⟩, ⟨by (with_reducible repeat (first | apply Kd.R_alloc | apply Kd.R_drewN | apply Kd.R_drew)); exact Kd.R_mono HO141.out (fun _ hk => hk.1.2)⟩, ⟨by (with_reducible repeat (first | apply Kd.R_alloc | apply Kd.R_drewN | apply Kd.R_drew)); exact Kd.R_mono HO147.out (fun _ hk => hk.1.2)⟩, ⟨by repeat (first | (with_reducible first | exact HB.out | apply below_alloc | apply pw_below_drewN | apply below_drew1) | exact HB.out)⟩⟩
  case rest =>
    clear HC9
    try clear c1
    try clear p2
    try clear c3
    try clear p3
    try clear p6
    try clear c14
    try clear c15
    try clear c16
    try clear c16b0
    try clear c16b1
    try clear c17
    try clear c17b0
    try clear c17b1
    obtain ⟨kq, x49_8, rfl, HA, HJ8, HO_7, HO_8, HB⟩ := hcut
    cases kq with
    | zero => exact absurd HA.out (by simp [bakekeep3_SampSums.j0])
    | succ kj8 =>
      have H := HA.out
      clear HA
      simp only [bakekeep3_SampSums.j0] at H
      by_cases c24 : x49_8 = true
      · subst c24
        have H1 : (some false) = some r := by rw [if_pos rfl] at H; exact H
        clear H
        have H := H1
        clear H1
        obtain rfl := Option.some.inj H
        go_wp2
        go_ret
        exact ⟨by first | rfl | (simp [errW_none, errW_some] <;> rfl) | (simp [*, errW_none, errW_some] <;> rfl), by repeat (first | (with_reducible first | exact HB.out | apply below_alloc | apply pw_below_drewN | apply below_drew1) | exact HB.out)⟩
      · replace c24 := Bool.eq_false_iff.mpr c24
        subst c24
        have H1 : (if (wrap64 (1 + t143)) = 0 then (none) else (if (Int.tmod (wrap64 ((t139.length : Int) * (wrap64 (1 + t142)))) (wrap64 (1 + t143))) = 0 then ((bakekeep3_sum.f kj8 t144).bind fun t154 => ((bakekeep3_sum.f kj8 t139).bind fun t155 => (bakekeep3_SampSums.j1 kj8 t139 t144 (t154 != t155)))) else (bakekeep3_SampSums.j1 kj8 t139 t144 false))) = some r := by rw [if_neg (show ¬ (false = true) by decide)] at H; exact H
        clear H
        have H := H1
        clear H1
        have HC25 := Aside0.mk H
        clear H
        go_upto_region 7 with (fail)
        go_cut [63] (fun v63 wc => ∃ (kq : Nat) (x63_24 : Bool), v63 = .bool x63_24 ∧ Aside0 (bakekeep3_SampSums.j1 kq t139 t144 x63_24 = some r) ∧ Aside0 (kq ≤ kj8) ∧ Aside0 (Kd.R (Kd.int .i64) 3 wc w.heap.size (fun k_ => some k_ ≠ (v146 : Value).ownBlock) (.slice Ao11 t139.length co11) t139) ∧ Aside0 (Kd.R (Kd.int .i64) 3 wc w.heap.size (fun k_ => some k_ ≠ ((.slice Ao11 t139.length co11) : Value).ownBlock) v146 t144) ∧ Aside0 (Below w.heap.size w wc))
        case first =>
          have H := HC25.out
          clear HC25
          by_cases c26 : (wrap64 (1 + t143)) = 0
          · rw [if_pos c26] at H
            exact absurd H (by simp)
          · rw [if_neg c26] at H
            have c26b0 : ((wrap64 (1 + t143)) == 0) = false := beq_eq_false_iff_ne.mpr c26
            have c26b1 : ((wrap64 (1 + t143)) != 0) = true := bne_iff_ne.mpr c26
            (first | rw [c26b0] | (simp only [i64_w, i32_w]; rw [c26b0]) | skip)
            by_cases c27 : (Int.tmod (wrap64 ((t139.length : Int) * (wrap64 (1 + t142)))) (wrap64 (1 + t143))) = 0
            · rw [if_pos c27] at H
              have c27b0 : ((Int.tmod (wrap64 ((t139.length : Int) * (wrap64 (1 + t142)))) (wrap64 (1 + t143))) == 0) = true := beq_iff_eq.mpr c27
              have c27b1 : ((Int.tmod (wrap64 ((t139.length : Int) * (wrap64 (1 + t142)))) (wrap64 (1 + t143))) != 0) = false := bne_eq_false_iff_eq.mpr c27
              clear c27
              replace H := Option.bind_eq_some_iff.mp H
              obtain ⟨t154, A280, H⟩ := H
              replace H : ((bakekeep3_sum.f kj8 t139).bind fun t155 => (bakekeep3_SampSums.j1 kj8 t139 t144 (t154 != t155))) = some r := H
              have A28 := Aside0.mk A280
              clear A280
              replace H := Option.bind_eq_some_iff.mp H
              obtain ⟨t155, A290, H⟩ := H
              replace H : (bakekeep3_SampSums.j1 kj8 t139 t144 (t154 != t155)) = some r := H
              have A29 := Aside0.mk A290
              clear A290
              have H' := Aside0.mk H
              clear H
              obtain ⟨Ao30, co30, eo30⟩ := Kd.R_slice HO_8.out
              subst eo30
              go_wp2_with (first | (go_at_call 19; (with_reducible refine (bakekeep3_sum.calls kj8 _ _ t144 t154 _ ?side1 ?side2 A28.out).mono ?_); (case side1 => repeat (first | exact (Kd.R_reads' HO_8.out).2.2 | (with_reducible refine Kd.C_alloc ?_ _) | (with_reducible refine Kd.C_drewN ?_ _) | (with_reducible refine Kd.C_drew ?_))); (case side2 => exact (Kd.R_reads' HO_8.out).2.1); rintro e w' ⟨rfl, ⟨nd, rfl⟩⟩) | (go_at_call 19; (with_reducible refine (bakekeep3_sum.calls kj8 _ _ t139 t155 _ ?side1 ?side2 A29.out).mono ?_); (case side1 => repeat (first | exact (Kd.R_reads' HO_7.out).2.2 | (with_reducible refine Kd.C_alloc ?_ _) | (with_reducible refine Kd.C_drewN ?_ _) | (with_reducible refine Kd.C_drew ?_))); (case side2 => exact (Kd.R_reads' HO_7.out).2.1); rintro e w' ⟨rfl, ⟨nd, rfl⟩⟩))
              go_meet
              case rel => exact ⟨_, ((t154 != t155)), (by first | rfl | (simp; done) | (simp [*]; done)), H', ⟨by have := HJ8.out; first | omega | exact Nat.le_refl _⟩, ⟨by (with_reducible repeat (first | apply Kd.R_alloc | apply Kd.R_drewN | apply Kd.R_drew)); exact HO_7.out⟩, ⟨by (with_reducible repeat (first | apply Kd.R_alloc | apply Kd.R_drewN | apply Kd.R_drew)); exact HO_8.out⟩, ⟨by repeat (first | (with_reducible first | exact HB.out | apply below_alloc | apply pw_below_drewN | apply below_drew1) | exact HB.out)⟩⟩
            · rw [if_neg c27] at H
              have c27b0 : ((Int.tmod (wrap64 ((t139.length : Int) * (wrap64 (1 + t142)))) (wrap64 (1 + t143))) == 0) = false := beq_eq_false_iff_ne.mpr c27
              have c27b1 : ((Int.tmod (wrap64 ((t139.length : Int) * (wrap64 (1 + t142)))) (wrap64 (1 + t143))) != 0) = true := bne_iff_ne.mpr c27
              have H' := Aside0.mk H
              clear H
              go_wp2
              go_meet
              case rel => exact ⟨_, (false), (by first | rfl | (simp; done) | (simp [*]; done)), H', ⟨by have := HJ8.out; first | omega | exact Nat.le_refl _⟩, ⟨by (with_reducible repeat (first | apply Kd.R_alloc | apply Kd.R_drewN | apply Kd.R_drew)); exact HO_7.out⟩, ⟨by (with_reducible repeat (first | apply Kd.R_alloc | apply Kd.R_drewN | apply Kd.R_drew)); exact HO_8.out⟩, ⟨by repeat (first | (with_reducible first | exact HB.out | apply below_alloc | apply pw_below_drewN | apply below_drew1) | exact HB.out)⟩⟩
        case rest =>
          clear HC25
          try clear c1
          try clear c2
          try clear p2
          try clear c3
          try clear p3
          try clear p6
          try clear c14
          try clear c15
          try clear c16
          try clear c16b0
          try clear c16b1
          try clear c17
          try clear c17b0
          try clear c17b1
          try clear c24
          try clear c26
          try clear c26b0
          try clear c26b1
          try clear c27
          try clear c27b0
          try clear c27b1
          try clear p2
          try clear p3
          try clear p6
          obtain ⟨kq, x63_24, rfl, HA, HJ24, HO_7, HO_8, HB⟩ := hcut
          cases kq with
          | zero => exact absurd HA.out (by simp [bakekeep3_SampSums.j1])
          | succ kj24 =>
            have H := HA.out
            clear HA
            simp only [bakekeep3_SampSums.j1] at H
            by_cases c31 : x63_24 = true
            · subst c31
              have H1 : (some false) = some r := by rw [if_pos rfl] at H; exact H
              clear H
              have H := H1
              clear H1
              obtain rfl := Option.some.inj H
              go_wp2
              go_ret
              exact ⟨by first | rfl | (simp [errW_none, errW_some] <;> rfl) | (simp [*, errW_none, errW_some] <;> rfl), by repeat (first | (with_reducible first | exact HB.out | apply below_alloc | apply pw_below_drewN | apply below_drew1) | exact HB.out)⟩
            · replace c31 := Bool.eq_false_iff.mpr c31
              subst c31
              have H1 : ((bakekeep3_sum.f kj24 t144).bind fun t156 => ((bakekeep3_sum.f kj24 t139).bind fun t157 => (some (decide (t156 ≤ t157))))) = some r := by rw [if_neg (show ¬ (false = true) by decide)] at H; exact H
              clear H
              have H := H1
              clear H1
              replace H := Option.bind_eq_some_iff.mp H
              obtain ⟨t156, A320, H⟩ := H
              replace H : ((bakekeep3_sum.f kj24 t139).bind fun t157 => (some (decide (t156 ≤ t157)))) = some r := H
              have A32 := Aside0.mk A320
              clear A320
              replace H := Option.bind_eq_some_iff.mp H
              obtain ⟨t157, A330, H⟩ := H
              replace H : (some (decide (t156 ≤ t157))) = some r := H
              have A33 := Aside0.mk A330
              clear A330
              obtain rfl := Option.some.inj H
              obtain ⟨Ao34, co34, eo34⟩ := Kd.R_slice HO_8.out
              subst eo34
              go_wp2_with (first | ((with_reducible refine gate_callee (f := 19) rfl ?_); refine goesL_ (some 65) rfl rfl Try.func19 (by kernel_rfl) rfl #[.slice Ao34 t144.length co34] rfl (by (try simp only [List.map_toArray, List.map_cons, List.map_nil]); first | done | rfl | (simp only [List.length_drop, List.length_take]; rfl)) ?_; (with_reducible refine (bakekeep3_sum.calls kj24 _ _ t144 t156 _ ?side1 ?side2 A32.out).mono ?_); (case side1 => repeat (first | exact (Kd.R_reads' HO_8.out).2.2 | (with_reducible refine Kd.C_alloc ?_ _) | (with_reducible refine Kd.C_drewN ?_ _) | (with_reducible refine Kd.C_drew ?_))); (case side2 => exact (Kd.R_reads' HO_8.out).2.1); rintro e w' ⟨rfl, ⟨nd, rfl⟩⟩; refine ⟨_, rfl, ?_⟩) | ((with_reducible refine gate_callee (f := 19) rfl ?_); refine goesL_ (some 67) rfl rfl Try.func19 (by kernel_rfl) rfl #[.slice Ao11 t139.length co11] rfl (by (try simp only [List.map_toArray, List.map_cons, List.map_nil]); first | done | rfl | (simp only [List.length_drop, List.length_take]; rfl)) ?_; (with_reducible refine (bakekeep3_sum.calls kj24 _ _ t139 t157 _ ?side1 ?side2 A33.out).mono ?_); (case side1 => repeat (first | exact (Kd.R_reads' HO_7.out).2.2 | (with_reducible refine Kd.C_alloc ?_ _) | (with_reducible refine Kd.C_drewN ?_ _) | (with_reducible refine Kd.C_drew ?_))); (case side2 => exact (Kd.R_reads' HO_7.out).2.1); rintro e w' ⟨rfl, ⟨nd, rfl⟩⟩; refine ⟨_, rfl, ?_⟩))
              go_ret
              exact ⟨by first | rfl | (simp [errW_none, errW_some] <;> rfl) | (simp [*, errW_none, errW_some] <;> rfl), by repeat (first | (with_reducible first | exact HB.out | apply below_alloc | apply pw_below_drewN | apply below_drew1) | exact HB.out)⟩

/-- THE ONE PURE STATEMENT of bakekeep3_SampSums: yours. -/
def bakekeep3_SampSums.Pure : Prop := ∀ (l0 : List Int) (a1 : Int) (a2 : Int), l0.length ≤ maxLen → l0.length * 8 ≤ 140737488351232 → (∀ x ∈ l0, (Lit.int .i64 x).wf = true) → (Lit.int .i64 a1).wf = true → (Lit.int .i64 a2).wf = true → ∃ k, bakekeep3_SampSums.f k l0 a1 a2 = some true
theorem bakekeep3_SampSums.walk (P : bakekeep3_SampSums.Pure) (a0 : Option Addr) (len0 cap0 : Nat) (z0 : List Int) (a1 : Int) (a2 : Int) (w : World) (w0 : (a0 = none ∧ len0 = 0 ∧ cap0 = 0 ∧ z0 = []) ∨ ∃ x, a0 = some x ∧ len0 ≤ cap0 ∧ cap0 ≤ maxLen ∧ z0.length = cap0 ∧ (∀ i, i < z0.length → w.cell? (x.add i) = some (.int .i64 (z0.getD i 0))) ∧ ∀ n ∈ z0, (Lit.int .i64 n).wf = true) (y0 : len0 * 8 ≤ 140737488351232) (w1 : (Lit.int .i64 a1).wf = true) (w2 : (Lit.int .i64 a2).wf = true) :
    Calls Try.prog 3 #[.slice a0 len0 cap0, .int .i64 a1, .int .i64 a2] w fun e w' => e = .returned (.bool true) ∧ Below w.heap.size w w' := by
  obtain ⟨l0, rfl, hr0, hm0, hw0, hc0⟩ := ReadsInt.ofRowC w0
  obtain ⟨k, h⟩ := P l0 a1 a2 hm0 y0 hw0 w1 w2
  refine (bakekeep3_SampSums.calls k _ _ l0 a1 a2 true w (Kd.C_of_reads (d := (0 : Int)) (h1 := fun _ => rfl) hr0) hc0 h).mono ?_
  rintro e w' ⟨rfl, hd⟩
  exact ⟨rfl, hd⟩

end Go.Proofs.Ytijfinimlnedpaa.PSamp
