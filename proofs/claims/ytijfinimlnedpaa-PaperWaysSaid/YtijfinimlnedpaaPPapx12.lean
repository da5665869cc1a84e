-- An own text of this claim, written by wip/tools/surro.py over the kit's print.
import Derived.Test.YtijfinimlnedpaaPPapx0
import Derived.Test.YtijfinimlnedpaaPPapx1
import Derived.Test.YtijfinimlnedpaaPPapx2
import Derived.Test.YtijfinimlnedpaaPPapx5
import Derived.Test.YtijfinimlnedpaaPPapx10
import Derived.Test.YtijfinimlnedpaaPPapx11
namespace Go.Proofs.Ytijfinimlnedpaa.PPap
open Go.RowKit Go.Proofs.YtijfinimlnedpaaW.PrintWords Go.Proofs.YtijfinimlnedpaaW.PrintLast Go.Proofs.YtijfinimlnedpaaW.PrintMore
attribute [local go_sem] max2_int min2_int max_two min_two max_three min_three max_four min_four   -- for this text's walks alone
set_option linter.unusedVariables false
set_option linter.unusedSimpArgs false

/-! ### bakekeep3_PaperWays: function 11 -/
mutual
def bakekeep3_PaperWays.l0 : Nat → Int → Int → Int → Int → List Bool → Int → List Bool → Int → List Int → List Int → Int → Int → Option (Bool)
  | 0, _, _, _, _, _, _, _, _, _, _, _, _ => none
  | k + 1, x1, x2, x3, x4, x13, x14, x15, x16, x17, x60, x61, x62 => if x62 < x61 then (if 0 ≤ x62 then (if x62 < (x60.length : Int) then ((some (([(([117] : List Int)), (([100] : List Int)), (([109, (Go.bits .and .i64 (rd x60 x62) 63) % 256, (Go.bits .and .i64 ((rd x60 x62) / 64) 63) % 256] : List Int))] : List (List Int)) : List (List Int))).bind fun y189 => ((bakemake_Below.f (rd x60 x62) 3).bind fun t192 => (if 0 ≤ t192 then (if t192 < (y189.length : Int) then (if x17.length + (rd_L5 y189 t192).length < 140737488355328 then (bakekeep3_PaperWays.l0 k x1 x2 x3 x4 x13 x14 x15 x16 (x17 ++ (rd_L5 y189 t192)) x60 x61 (wrap64 (x62 + 1))) else (none)) else (none)) else (none)))) else (none)) else (none)) else ((paper_Plot.f k x17).bind fun bt197 => ((bakekeep3_printed.f).bind fun t201 => (if t201 = true then (if x14 = 0 then (if x16 = 0 then (if bt197.2 = 0 then (if (x15.length : Int) = 4096 then (bakekeep3_PaperWays.j1 k x1 x2 x3 x4 x13 x15 bt197.1 ((bt197.1.length : Int) != 4096)) else (bakekeep3_PaperWays.j1 k x1 x2 x3 x4 x13 x15 bt197.1 true)) else (bakekeep3_PaperWays.j1 k x1 x2 x3 x4 x13 x15 bt197.1 true)) else (bakekeep3_PaperWays.j1 k x1 x2 x3 x4 x13 x15 bt197.1 true)) else (bakekeep3_PaperWays.j1 k x1 x2 x3 x4 x13 x15 bt197.1 true)) else (bakekeep3_PaperWays.j1 k x1 x2 x3 x4 x13 x15 bt197.1 true))))
def bakekeep3_PaperWays.j1 : Nat → Int → Int → Int → Int → List Bool → List Bool → List Bool → Bool → Option (Bool)
  | 0, _, _, _, _, _, _, _, _ => none
  | k + 1, x1, x2, x3, x4, x13, x15, x20, x112 => if x112 = true then (some false) else (bakekeep3_PaperWays.l1 k x1 x2 x3 x4 x13 x15 x20 (x15.length : Int) 0)
def bakekeep3_PaperWays.l1 : Nat → Int → Int → Int → Int → List Bool → List Bool → List Bool → Int → Int → Option (Bool)
  | 0, _, _, _, _, _, _, _, _, _ => none
  | k + 1, x1, x2, x3, x4, x13, x15, x20, x114, x115 => if x115 < x114 then (if 0 ≤ x115 then (if x115 < (x15.length : Int) then (if rdOf false x15 x115 = true then (if x115 < (x20.length : Int) then (if rdOf false x20 x115 = true then (bakekeep3_PaperWays.l1 k x1 x2 x3 x4 x13 x15 x20 x114 (wrap64 (x115 + 1))) else (some false)) else (none)) else (bakekeep3_PaperWays.l1 k x1 x2 x3 x4 x13 x15 x20 x114 (wrap64 (x115 + 1)))) else (none)) else (none)) else ((paper_Ink.f k x13).bind fun t204 => (if t204 = 0 then ((paper_Ink.f k x15).bind fun t205 => (if t205 = (wrap64 (1 + (mx (mx (mx (wrap64 (x1 - x3)) (wrap64 (x3 - x1))) (wrap64 (x2 - x4))) (wrap64 (x4 - x2))))) then (if 0 ≤ (wrap64 ((wrap64 (x2 * 64)) + x1)) then (if (wrap64 ((wrap64 (x2 * 64)) + x1)) < (x15.length : Int) then (if rdOf false x15 (wrap64 ((wrap64 (x2 * 64)) + x1)) = true then (if 0 ≤ (wrap64 ((wrap64 (x4 * 64)) + x3)) then (if (wrap64 ((wrap64 (x4 * 64)) + x3)) < (x15.length : Int) then (some (rdOf false x15 (wrap64 ((wrap64 (x4 * 64)) + x3)))) else (none)) else (none)) else (some false)) else (none)) else (none)) else (some false))) else (some false)))
end
def bakekeep3_PaperWays.f (k : Nat) (l0 : List Int) (a1 : Int) (a2 : Int) (a3 : Int) (a4 : Int) : Option (Bool) := (bakemake_Below.f a1 64).bind fun t151 => ((bakemake_Below.f a2 64).bind fun t152 => ((bakemake_Below.f a3 64).bind fun t153 => ((bakemake_Below.f a4 64).bind fun t154 => ((some (([109, (t151) % 256, (t152) % 256] : List Int) : List Int)).bind fun y155 => ((slices_Clone_byte_byte.f y155).bind fun t158 => ((some (([100, 109, (t153) % 256, (t154) % 256] : List Int) : List Int)).bind fun y161 => (if t158.length + y161.length < 140737488355328 then ((some (t158 ++ y161 : List Int)).bind fun y164 => ((paper_Plot.f k y155).bind fun bt167 => ((paper_Plot.f k y164).bind fun bt171 => ((slices_Clone_byte_byte.f y164).bind fun t175 => (if 0 ≤ (mn (l0.length : Int) 20) then (if (mn (l0.length : Int) 20) ≤ (l0.length : Int) then (bakekeep3_PaperWays.l0 k t151 t152 t153 t154 bt167.1 bt167.2 bt171.1 bt171.2 t175 (l0.take ((mn (l0.length : Int) 20) : Int).toNat) ((l0.take ((mn (l0.length : Int) 20) : Int).toNat).length : Int) 0) else (none)) else (none)))))) else (none))))))))
theorem bakekeep3_PaperWays.mono_l : ∀ k, (∀ y0 y1 y2 y3 y4 y5 y6 y7 y8 y9 y10 y11, LeO (bakekeep3_PaperWays.l0 k y0 y1 y2 y3 y4 y5 y6 y7 y8 y9 y10 y11) (bakekeep3_PaperWays.l0 (k + 1) y0 y1 y2 y3 y4 y5 y6 y7 y8 y9 y10 y11)) ∧ (∀ y0 y1 y2 y3 y4 y5 y6 y7, LeO (bakekeep3_PaperWays.j1 k y0 y1 y2 y3 y4 y5 y6 y7) (bakekeep3_PaperWays.j1 (k + 1) y0 y1 y2 y3 y4 y5 y6 y7)) ∧ (∀ y0 y1 y2 y3 y4 y5 y6 y7 y8, LeO (bakekeep3_PaperWays.l1 k y0 y1 y2 y3 y4 y5 y6 y7 y8) (bakekeep3_PaperWays.l1 (k + 1) y0 y1 y2 y3 y4 y5 y6 y7 y8))
  | 0 => ⟨fun _ _ _ _ _ _ _ _ _ _ _ _ r h => by simp [bakekeep3_PaperWays.l0] at h, fun _ _ _ _ _ _ _ _ r h => by simp [bakekeep3_PaperWays.j1] at h, fun _ _ _ _ _ _ _ _ _ r h => by simp [bakekeep3_PaperWays.l1] at h⟩
  | k + 1 => by
    obtain ⟨ih0, ih1, ih2⟩ := bakekeep3_PaperWays.mono_l k
    refine ⟨?_, ?_, ?_⟩
    · intro y0 y1 y2 y3 y4 y5 y6 y7 y8 y9 y10 y11
      unfold bakekeep3_PaperWays.l0
      repeat' first
      | (with_reducible exact ih0 _ _ _ _ _ _ _ _ _ _ _ _)
      | (with_reducible exact ih1 _ _ _ _ _ _ _ _)
      | (with_reducible exact ih2 _ _ _ _ _ _ _ _ _)
      | (with_reducible exact paper_Ink.mono _ _)
      | (with_reducible exact paper_Plot.mono _ _)
      | (with_reducible exact LeO.refl _)
      | (with_reducible exact LeO.none _)
      | (with_reducible refine LeO.ite ?_ ?_)
      | (with_reducible refine LeO.bind ?_ (fun _ => ?_))
      | exact ih0 _ _ _ _ _ _ _ _ _ _ _ _
      | exact ih1 _ _ _ _ _ _ _ _
      | exact ih2 _ _ _ _ _ _ _ _ _
      | exact paper_Ink.mono _ _
      | exact paper_Plot.mono _ _
      | exact LeO.none _
      | refine LeO.ite ?_ ?_
      | refine LeO.bind ?_ (fun _ => ?_)
    · intro y0 y1 y2 y3 y4 y5 y6 y7
      unfold bakekeep3_PaperWays.j1
      repeat' first
      | (with_reducible exact ih0 _ _ _ _ _ _ _ _ _ _ _ _)
      | (with_reducible exact ih1 _ _ _ _ _ _ _ _)
      | (with_reducible exact ih2 _ _ _ _ _ _ _ _ _)
      | (with_reducible exact paper_Ink.mono _ _)
      | (with_reducible exact paper_Plot.mono _ _)
      | (with_reducible exact LeO.refl _)
      | (with_reducible exact LeO.none _)
      | (with_reducible refine LeO.ite ?_ ?_)
      | (with_reducible refine LeO.bind ?_ (fun _ => ?_))
      | exact ih0 _ _ _ _ _ _ _ _ _ _ _ _
      | exact ih1 _ _ _ _ _ _ _ _
      | exact ih2 _ _ _ _ _ _ _ _ _
      | exact paper_Ink.mono _ _
      | exact paper_Plot.mono _ _
      | exact LeO.none _
      | refine LeO.ite ?_ ?_
      | refine LeO.bind ?_ (fun _ => ?_)
    · intro y0 y1 y2 y3 y4 y5 y6 y7 y8
      unfold bakekeep3_PaperWays.l1
      repeat' first
      | (with_reducible exact ih0 _ _ _ _ _ _ _ _ _ _ _ _)
      | (with_reducible exact ih1 _ _ _ _ _ _ _ _)
      | (with_reducible exact ih2 _ _ _ _ _ _ _ _ _)
      | (with_reducible exact paper_Ink.mono _ _)
      | (with_reducible exact paper_Plot.mono _ _)
      | (with_reducible exact LeO.refl _)
      | (with_reducible exact LeO.none _)
      | (with_reducible refine LeO.ite ?_ ?_)
      | (with_reducible refine LeO.bind ?_ (fun _ => ?_))
      | exact ih0 _ _ _ _ _ _ _ _ _ _ _ _
      | exact ih1 _ _ _ _ _ _ _ _
      | exact ih2 _ _ _ _ _ _ _ _ _
      | exact paper_Ink.mono _ _
      | exact paper_Plot.mono _ _
      | exact LeO.none _
      | refine LeO.ite ?_ ?_
      | refine LeO.bind ?_ (fun _ => ?_)
theorem bakekeep3_PaperWays.mono : ∀ a0 a1 a2 a3 a4 k, LeO (bakekeep3_PaperWays.f k a0 a1 a2 a3 a4) (bakekeep3_PaperWays.f (k + 1) a0 a1 a2 a3 a4) := by
  intro a0 a1 a2 a3 a4 k
  obtain ⟨ih0, ih1, ih2⟩ := bakekeep3_PaperWays.mono_l k
  unfold bakekeep3_PaperWays.f
  repeat' first
      | (with_reducible exact ih0 _ _ _ _ _ _ _ _ _ _ _ _)
      | (with_reducible exact ih1 _ _ _ _ _ _ _ _)
      | (with_reducible exact ih2 _ _ _ _ _ _ _ _ _)
      | (with_reducible exact paper_Ink.mono _ _)
      | (with_reducible exact paper_Plot.mono _ _)
      | (with_reducible exact LeO.refl _)
      | (with_reducible exact LeO.none _)
      | (with_reducible refine LeO.ite ?_ ?_)
      | (with_reducible refine LeO.bind ?_ (fun _ => ?_))
      | exact ih0 _ _ _ _ _ _ _ _ _ _ _ _
      | exact ih1 _ _ _ _ _ _ _ _
      | exact ih2 _ _ _ _ _ _ _ _ _
      | exact paper_Ink.mono _ _
      | exact paper_Plot.mono _ _
      | exact LeO.none _
      | refine LeO.ite ?_ ?_
      | refine LeO.bind ?_ (fun _ => ?_)
set_option maxHeartbeats 8000000 in
set_option maxRecDepth 100000 in
theorem bakekeep3_PaperWays.calls (k : Nat) (A0 : Option Addr) (c0 : Nat) (l0 : List Int) (a1 : Int) (a2 : Int) (a3 : Int) (a4 : Int) (r : Bool) (w : World) (hr0 : Kd.C (Kd.int .i64) w A0 l0.length l0) (hc0 : l0.length ≤ c0) (h : bakekeep3_PaperWays.f k l0 a1 a2 a3 a4 = some r) :
    Calls Try.prog 11 #[.slice A0 l0.length c0, .int .i64 a1, .int .i64 a2, .int .i64 a3, .int .i64 a4] w fun e w' => e = .returned (.bool r) ∧ Below w.heap.size w w' := by
  have HR0 := Aside0.mk hr0
  have HC0 := Aside0.mk hc0
  clear hr0 hc0
  have HB := Aside0.mk (Below.refl w.heap.size w)
  have H : ((bakemake_Below.f a1 64).bind fun t151 => ((bakemake_Below.f a2 64).bind fun t152 => ((bakemake_Below.f a3 64).bind fun t153 => ((bakemake_Below.f a4 64).bind fun t154 => ((some (([109, (t151) % 256, (t152) % 256] : List Int) : List Int)).bind fun y155 => ((slices_Clone_byte_byte.f y155).bind fun t158 => ((some (([100, 109, (t153) % 256, (t154) % 256] : List Int) : List Int)).bind fun y161 => (if t158.length + y161.length < 140737488355328 then ((some (t158 ++ y161 : List Int)).bind fun y164 => ((paper_Plot.f k y155).bind fun bt167 => ((paper_Plot.f k y164).bind fun bt171 => ((slices_Clone_byte_byte.f y164).bind fun t175 => (if 0 ≤ (mn (l0.length : Int) 20) then (if (mn (l0.length : Int) 20) ≤ (l0.length : Int) then (bakekeep3_PaperWays.l0 k t151 t152 t153 t154 bt167.1 bt167.2 bt171.1 bt171.2 t175 (l0.take ((mn (l0.length : Int) 20) : Int).toNat) ((l0.take ((mn (l0.length : Int) 20) : Int).toNat).length : Int) 0) else (none)) else (none)))))) else (none))))))))) = some r := h
  clear h
  replace H := Option.bind_eq_some_iff.mp H
  obtain ⟨t151, A60, H⟩ := H
  replace H : ((bakemake_Below.f a2 64).bind fun t152 => ((bakemake_Below.f a3 64).bind fun t153 => ((bakemake_Below.f a4 64).bind fun t154 => ((some (([109, (t151) % 256, (t152) % 256] : List Int) : List Int)).bind fun y155 => ((slices_Clone_byte_byte.f y155).bind fun t158 => ((some (([100, 109, (t153) % 256, (t154) % 256] : List Int) : List Int)).bind fun y161 => (if t158.length + y161.length < 140737488355328 then ((some (t158 ++ y161 : List Int)).bind fun y164 => ((paper_Plot.f k y155).bind fun bt167 => ((paper_Plot.f k y164).bind fun bt171 => ((slices_Clone_byte_byte.f y164).bind fun t175 => (if 0 ≤ (mn (l0.length : Int) 20) then (if (mn (l0.length : Int) 20) ≤ (l0.length : Int) then (bakekeep3_PaperWays.l0 k t151 t152 t153 t154 bt167.1 bt167.2 bt171.1 bt171.2 t175 (l0.take ((mn (l0.length : Int) 20) : Int).toNat) ((l0.take ((mn (l0.length : Int) 20) : Int).toNat).length : Int) 0) else (none)) else (none)))))) else (none)))))))) = some r := H
  have A6 := Aside0.mk A60
  clear A60
  replace H := Option.bind_eq_some_iff.mp H
  obtain ⟨t152, A70, H⟩ := H
  replace H : ((bakemake_Below.f a3 64).bind fun t153 => ((bakemake_Below.f a4 64).bind fun t154 => ((some (([109, (t151) % 256, (t152) % 256] : List Int) : List Int)).bind fun y155 => ((slices_Clone_byte_byte.f y155).bind fun t158 => ((some (([100, 109, (t153) % 256, (t154) % 256] : List Int) : List Int)).bind fun y161 => (if t158.length + y161.length < 140737488355328 then ((some (t158 ++ y161 : List Int)).bind fun y164 => ((paper_Plot.f k y155).bind fun bt167 => ((paper_Plot.f k y164).bind fun bt171 => ((slices_Clone_byte_byte.f y164).bind fun t175 => (if 0 ≤ (mn (l0.length : Int) 20) then (if (mn (l0.length : Int) 20) ≤ (l0.length : Int) then (bakekeep3_PaperWays.l0 k t151 t152 t153 t154 bt167.1 bt167.2 bt171.1 bt171.2 t175 (l0.take ((mn (l0.length : Int) 20) : Int).toNat) ((l0.take ((mn (l0.length : Int) 20) : Int).toNat).length : Int) 0) else (none)) else (none)))))) else (none))))))) = some r := H
  have A7 := Aside0.mk A70
  clear A70
  replace H := Option.bind_eq_some_iff.mp H
  obtain ⟨t153, A80, H⟩ := H
  replace H : ((bakemake_Below.f a4 64).bind fun t154 => ((some (([109, (t151) % 256, (t152) % 256] : List Int) : List Int)).bind fun y155 => ((slices_Clone_byte_byte.f y155).bind fun t158 => ((some (([100, 109, (t153) % 256, (t154) % 256] : List Int) : List Int)).bind fun y161 => (if t158.length + y161.length < 140737488355328 then ((some (t158 ++ y161 : List Int)).bind fun y164 => ((paper_Plot.f k y155).bind fun bt167 => ((paper_Plot.f k y164).bind fun bt171 => ((slices_Clone_byte_byte.f y164).bind fun t175 => (if 0 ≤ (mn (l0.length : Int) 20) then (if (mn (l0.length : Int) 20) ≤ (l0.length : Int) then (bakekeep3_PaperWays.l0 k t151 t152 t153 t154 bt167.1 bt167.2 bt171.1 bt171.2 t175 (l0.take ((mn (l0.length : Int) 20) : Int).toNat) ((l0.take ((mn (l0.length : Int) 20) : Int).toNat).length : Int) 0) else (none)) else (none)))))) else (none)))))) = some r := H
  have A8 := Aside0.mk A80
  clear A80
  replace H := Option.bind_eq_some_iff.mp H
  obtain ⟨t154, A90, H⟩ := H
  replace H : ((some (([109, (t151) % 256, (t152) % 256] : List Int) : List Int)).bind fun y155 => ((slices_Clone_byte_byte.f y155).bind fun t158 => ((some (([100, 109, (t153) % 256, (t154) % 256] : List Int) : List Int)).bind fun y161 => (if t158.length + y161.length < 140737488355328 then ((some (t158 ++ y161 : List Int)).bind fun y164 => ((paper_Plot.f k y155).bind fun bt167 => ((paper_Plot.f k y164).bind fun bt171 => ((slices_Clone_byte_byte.f y164).bind fun t175 => (if 0 ≤ (mn (l0.length : Int) 20) then (if (mn (l0.length : Int) 20) ≤ (l0.length : Int) then (bakekeep3_PaperWays.l0 k t151 t152 t153 t154 bt167.1 bt167.2 bt171.1 bt171.2 t175 (l0.take ((mn (l0.length : Int) 20) : Int).toNat) ((l0.take ((mn (l0.length : Int) 20) : Int).toNat).length : Int) 0) else (none)) else (none)))))) else (none))))) = some r := H
  have A9 := Aside0.mk A90
  clear A90
  obtain ⟨y155, hy155⟩ : ∃ y_ : List Int, y_ = (([109, (t151) % 256, (t152) % 256] : List Int)) := ⟨_, rfl⟩
  replace H : ((slices_Clone_byte_byte.f y155).bind fun t158 => ((some (([100, 109, (t153) % 256, (t154) % 256] : List Int) : List Int)).bind fun y161 => (if t158.length + y161.length < 140737488355328 then ((some (t158 ++ y161 : List Int)).bind fun y164 => ((paper_Plot.f k y155).bind fun bt167 => ((paper_Plot.f k y164).bind fun bt171 => ((slices_Clone_byte_byte.f y164).bind fun t175 => (if 0 ≤ (mn (l0.length : Int) 20) then (if (mn (l0.length : Int) 20) ≤ (l0.length : Int) then (bakekeep3_PaperWays.l0 k t151 t152 t153 t154 bt167.1 bt167.2 bt171.1 bt171.2 t175 (l0.take ((mn (l0.length : Int) 20) : Int).toNat) ((l0.take ((mn (l0.length : Int) 20) : Int).toNat).length : Int) 0) else (none)) else (none)))))) else (none)))) = some r := by first | (rw [hy155]; with_reducible exact H) | (have H2_ := (Option.bind_some _ _).symm.trans H; rw [hy155]; with_reducible exact H2_) | (have H2_ := (Option.bind_some _ _).symm.trans H; with_reducible exact H2_) | with_reducible exact H | (rw [hy155]; exact H) | exact H
  have Ny155 := Aside0.mk hy155
  clear hy155
  replace H := Option.bind_eq_some_iff.mp H
  obtain ⟨t158, A100, H⟩ := H
  replace H : ((some (([100, 109, (t153) % 256, (t154) % 256] : List Int) : List Int)).bind fun y161 => (if t158.length + y161.length < 140737488355328 then ((some (t158 ++ y161 : List Int)).bind fun y164 => ((paper_Plot.f k y155).bind fun bt167 => ((paper_Plot.f k y164).bind fun bt171 => ((slices_Clone_byte_byte.f y164).bind fun t175 => (if 0 ≤ (mn (l0.length : Int) 20) then (if (mn (l0.length : Int) 20) ≤ (l0.length : Int) then (bakekeep3_PaperWays.l0 k t151 t152 t153 t154 bt167.1 bt167.2 bt171.1 bt171.2 t175 (l0.take ((mn (l0.length : Int) 20) : Int).toNat) ((l0.take ((mn (l0.length : Int) 20) : Int).toNat).length : Int) 0) else (none)) else (none)))))) else (none))) = some r := H
  have A10 := Aside0.mk A100
  clear A100
  obtain ⟨y161, hy161⟩ : ∃ y_ : List Int, y_ = (([100, 109, (t153) % 256, (t154) % 256] : List Int)) := ⟨_, rfl⟩
  replace H : (if t158.length + y161.length < 140737488355328 then ((some (t158 ++ y161 : List Int)).bind fun y164 => ((paper_Plot.f k y155).bind fun bt167 => ((paper_Plot.f k y164).bind fun bt171 => ((slices_Clone_byte_byte.f y164).bind fun t175 => (if 0 ≤ (mn (l0.length : Int) 20) then (if (mn (l0.length : Int) 20) ≤ (l0.length : Int) then (bakekeep3_PaperWays.l0 k t151 t152 t153 t154 bt167.1 bt167.2 bt171.1 bt171.2 t175 (l0.take ((mn (l0.length : Int) 20) : Int).toNat) ((l0.take ((mn (l0.length : Int) 20) : Int).toNat).length : Int) 0) else (none)) else (none)))))) else (none)) = some r := by first | (rw [hy161]; with_reducible exact H) | (have H2_ := (Option.bind_some _ _).symm.trans H; rw [hy161]; with_reducible exact H2_) | (have H2_ := (Option.bind_some _ _).symm.trans H; with_reducible exact H2_) | with_reducible exact H | (rw [hy161]; exact H) | exact H
  have Ny161 := Aside0.mk hy161
  clear hy161
  by_cases c11 : t158.length + y161.length < 140737488355328
  · rw [if_pos c11] at H
    have LMc11 := Aside0.mk c11
    clear c11
    obtain ⟨y164, hy164⟩ : ∃ y_ : List Int, y_ = (t158 ++ y161) := ⟨_, rfl⟩
    replace H : ((paper_Plot.f k y155).bind fun bt167 => ((paper_Plot.f k y164).bind fun bt171 => ((slices_Clone_byte_byte.f y164).bind fun t175 => (if 0 ≤ (mn (l0.length : Int) 20) then (if (mn (l0.length : Int) 20) ≤ (l0.length : Int) then (bakekeep3_PaperWays.l0 k t151 t152 t153 t154 bt167.1 bt167.2 bt171.1 bt171.2 t175 (l0.take ((mn (l0.length : Int) 20) : Int).toNat) ((l0.take ((mn (l0.length : Int) 20) : Int).toNat).length : Int) 0) else (none)) else (none))))) = some r := by first | (rw [hy164]; with_reducible exact H) | (have H2_ := (Option.bind_some _ _).symm.trans H; rw [hy164]; with_reducible exact H2_) | (have H2_ := (Option.bind_some _ _).symm.trans H; with_reducible exact H2_) | with_reducible exact H | (rw [hy164]; exact H) | exact H
    have Ny164 := Aside0.mk hy164
    clear hy164
    replace H := Option.bind_eq_some_iff.mp H
    obtain ⟨⟨t167, t170⟩, A120, H⟩ := H
    replace H : ((paper_Plot.f k y164).bind fun bt171 => ((slices_Clone_byte_byte.f y164).bind fun t175 => (if 0 ≤ (mn (l0.length : Int) 20) then (if (mn (l0.length : Int) 20) ≤ (l0.length : Int) then (bakekeep3_PaperWays.l0 k t151 t152 t153 t154 t167 t170 bt171.1 bt171.2 t175 (l0.take ((mn (l0.length : Int) 20) : Int).toNat) ((l0.take ((mn (l0.length : Int) 20) : Int).toNat).length : Int) 0) else (none)) else (none)))) = some r := H
    have A12 := Aside0.mk A120
    clear A120
    replace H := Option.bind_eq_some_iff.mp H
    obtain ⟨⟨t171, t174⟩, A130, H⟩ := H
    replace H : ((slices_Clone_byte_byte.f y164).bind fun t175 => (if 0 ≤ (mn (l0.length : Int) 20) then (if (mn (l0.length : Int) 20) ≤ (l0.length : Int) then (bakekeep3_PaperWays.l0 k t151 t152 t153 t154 t167 t170 t171 t174 t175 (l0.take ((mn (l0.length : Int) 20) : Int).toNat) ((l0.take ((mn (l0.length : Int) 20) : Int).toNat).length : Int) 0) else (none)) else (none))) = some r := H
    have A13 := Aside0.mk A130
    clear A130
    replace H := Option.bind_eq_some_iff.mp H
    obtain ⟨t175, A140, H⟩ := H
    replace H : (if 0 ≤ (mn (l0.length : Int) 20) then (if (mn (l0.length : Int) 20) ≤ (l0.length : Int) then (bakekeep3_PaperWays.l0 k t151 t152 t153 t154 t167 t170 t171 t174 t175 (l0.take ((mn (l0.length : Int) 20) : Int).toNat) ((l0.take ((mn (l0.length : Int) 20) : Int).toNat).length : Int) 0) else (none)) else (none)) = some r := H
    have A14 := Aside0.mk A140
    clear A140
    obtain ⟨ji15, hji15⟩ : ∃ j_ : Int, (mn (l0.length : Int) 20) = j_ := ⟨_, rfl⟩
    replace H : (if 0 ≤ (ji15) then (if (ji15) ≤ (l0.length : Int) then (bakekeep3_PaperWays.l0 k t151 t152 t153 t154 t167 t170 t171 t174 t175 (l0.take ((ji15) : Int).toNat) ((l0.take ((ji15) : Int).toNat).length : Int) 0) else (none)) else (none)) = some r := by first | (rw [hji15] at H; exact H) | (simp only [hji15] at H ⊢; exact H)
    (try rw [hji15] at A6)
    (try rw [hji15] at A7)
    (try rw [hji15] at A8)
    (try rw [hji15] at A9)
    (try rw [hji15] at A10)
    (try rw [hji15] at A12)
    (try rw [hji15] at A13)
    (try rw [hji15] at A14)
    (try (have hji15h : ji15 ≤ 20 := by (rw [← hji15]; unfold mn; (repeat' split) <;> omega)))
    (try (have hji15g : ji15 ≤ 64 := by omega))
    (try (have hji15l : 0 ≤ ji15 := by (rw [← hji15]; unfold mn; (repeat' split) <;> omega)))
    (try (have hji15m : 0 ≤ ji15 := by omega))
    have hji15_ : (if 20 < (l0.length : Int) then 20 else (l0.length : Int)) = ji15 := hji15
    by_cases c16 : 0 ≤ (ji15)
    · rw [if_pos c16] at H
      have c16b0 := eq_true c16
      have c16b1 : decide (0 ≤ (ji15)) = true := decide_eq_true c16
      clear c16
      by_cases c17 : (ji15) ≤ (l0.length : Int)
      · rw [if_pos c17] at H
        have c17b0 := eq_true c17
        have c17b1 : decide ((ji15) ≤ (l0.length : Int)) = true := decide_eq_true c17
        obtain ⟨ji15n, rfl⟩ : ∃ n_ : Nat, ji15 = (n_ : Int) := ⟨ji15.toNat, by omega⟩
        have HLM : Aside0 (∀ x : Int, (x < ((l0.take (((ji15n : Int)) : Int).toNat).length : Int)) = (x < (ji15n : Int))) := ⟨by
          have hle_ := of_decide_eq_true c17b1
          intro x; rw [show ((l0.take (((ji15n : Int)) : Int).toNat).length : Int) = (ji15n : Int) from by rw [List.length_take, Int.toNat_natCast]; omega]⟩
        have hmn_ : min ji15n l0.length = ji15n := by have hle_ := of_decide_eq_true c17b1; omega
        clear c17
        have H' := Aside0.mk H
        clear H
        go_enter Try.func11, Try.ntmps11
        go_wp2_with (first | ((with_reducible refine gate_callee (f := 15) rfl ?_); refine goesL_ (some 24) rfl rfl Try.func15 (by kernel_rfl) rfl #[.int .i64 a1, .int .i64 64] rfl (by (try simp only [List.map_toArray, List.map_cons, List.map_nil]); first | done | rfl | (simp only [List.length_drop, List.length_take]; rfl)) ?_; (with_reducible refine (bakemake_Below.calls a1 64 t151 _ A6.out).mono ?_); rintro e w' ⟨rfl, ⟨nd, rfl⟩⟩; refine ⟨_, rfl, ?_⟩) | ((with_reducible refine gate_callee (f := 15) rfl ?_); refine goesL_ (some 26) rfl rfl Try.func15 (by kernel_rfl) rfl #[.int .i64 a2, .int .i64 64] rfl (by (try simp only [List.map_toArray, List.map_cons, List.map_nil]); first | done | rfl | (simp only [List.length_drop, List.length_take]; rfl)) ?_; (with_reducible refine (bakemake_Below.calls a2 64 t152 _ A7.out).mono ?_); rintro e w' ⟨rfl, ⟨nd, rfl⟩⟩; refine ⟨_, rfl, ?_⟩) | ((with_reducible refine gate_callee (f := 15) rfl ?_); refine goesL_ (some 28) rfl rfl Try.func15 (by kernel_rfl) rfl #[.int .i64 a3, .int .i64 64] rfl (by (try simp only [List.map_toArray, List.map_cons, List.map_nil]); first | done | rfl | (simp only [List.length_drop, List.length_take]; rfl)) ?_; (with_reducible refine (bakemake_Below.calls a3 64 t153 _ A8.out).mono ?_); rintro e w' ⟨rfl, ⟨nd, rfl⟩⟩; refine ⟨_, rfl, ?_⟩) | ((with_reducible refine gate_callee (f := 15) rfl ?_); refine goesL_ (some 30) rfl rfl Try.func15 (by kernel_rfl) rfl #[.int .i64 a4, .int .i64 64] rfl (by (try simp only [List.map_toArray, List.map_cons, List.map_nil]); first | done | rfl | (simp only [List.length_drop, List.length_take]; rfl)) ?_; (with_reducible refine (bakemake_Below.calls a4 64 t154 _ A9.out).mono ?_); rintro e w' ⟨rfl, ⟨nd, rfl⟩⟩; refine ⟨_, rfl, ?_⟩) | ((with_reducible refine gate_dst (N := 35) rfl ?_); (try (refine gate_guard (by rfl) ?_; dsimp only)); refine Kd.R_lit (Kd.int .u8) _ 5 ?hg (N := 35) ?hd (xs := ([109, (t151) % 256, (t152) % 256] : List Int)) (inner := [.int .u8 109, .int .u8 ((t151) % 256), .int .u8 ((t152) % 256)]) (ok := fun _ => True) (okp := fun _ => True) ?hr ?hp (fun _ hk => hk) trivial (Below.refl _ _) (Nat.le_refl _) (by simp) ?_; (case hd => rfl); (case hg => rfl); (case hr => first | (go_simp; done) | (go_simp; rfl)); (case hp => exact (Reps.one (show Kd.M (Kd.int .u8) _ _ _ 109 [.int .u8 109] from rfl) (Reps.one (show Kd.M (Kd.int .u8) _ _ _ ((t151) % 256) [.int .u8 ((t151) % 256)] from rfl) (Reps.one (show Kd.M (Kd.int .u8) _ _ _ ((t152) % 256) [.int .u8 ((t152) % 256)] from rfl) (Reps.none _ _))))); intro v156 w18 ho19 hb hg_ hnew_; clear hg_ hnew_; (first | rw [← Ny155.out] at ho19 | (simp only [Int.reduceToNat] at ho19; rw [← Ny155.out] at ho19)); have n0_ := Aside0.mk (Kd.R_lower ho19 (below_size (by repeat (first | (with_reducible first | exact HB.out | apply below_alloc | apply pw_below_drewN | apply below_drew1) | exact HB.out)))); have n1_ := Aside0.mk (below_step (by repeat (first | (with_reducible first | exact HB.out | apply below_alloc | apply pw_below_drewN | apply below_drew1) | exact HB.out)) hb); clear HB; have HO157 := n0_; have HB := n1_; clear n0_ n1_; clear hb ho19; obtain ⟨Ao20, co20, eo20⟩ := Kd.R_slice HO157.out; subst eo20) | ((with_reducible refine gate_callee (f := 44) rfl ?_); refine goesL_ (some 37) rfl rfl Try.func44 (by kernel_rfl) rfl #[.slice Ao20 y155.length co20] rfl (by (try simp only [List.map_toArray, List.map_cons, List.map_nil]); first | done | rfl | (simp only [List.length_drop, List.length_take]; rfl)) ?_; (with_reducible refine (slices_Clone_byte_byte.calls _ _ y155 t158 _ ?side1 ?side2 A10.out).mono ?_); (case side1 => repeat (first | exact (Kd.R_reads' HO157.out).2.2 | (with_reducible refine Kd.C_alloc ?_ _) | (with_reducible refine Kd.C_drewN ?_ _) | (with_reducible refine Kd.C_drew ?_))); (case side2 => exact (Kd.R_reads' HO157.out).2.1); rintro e w21 ⟨v159, rfl, ho0, hb⟩; refine ⟨_, rfl, ?_⟩; have n0_ := Aside0.mk (Kd.R_elder' (by (with_reducible repeat (first | apply Kd.R_alloc | apply Kd.R_drewN | apply Kd.R_drew)); exact HO157.out) (Kd.R_base ho0) hb); have n1_ := Aside0.mk (Kd.R_lower (Kd.R_new' ho0 (Kd.R_lt (by (with_reducible repeat (first | apply Kd.R_alloc | apply Kd.R_drewN | apply Kd.R_drew)); exact HO157.out))) (below_size (by repeat (first | (with_reducible first | exact HB.out | apply below_alloc | apply pw_below_drewN | apply below_drew1) | exact HB.out)))); have n2_ := Aside0.mk (below_step (by repeat (first | (with_reducible first | exact HB.out | apply below_alloc | apply pw_below_drewN | apply below_drew1) | exact HB.out)) hb); clear HO157; clear HB; have HO157 := n0_; have HO160 := n1_; have HB := n2_; clear n0_ n1_ n2_; (try clear hb); (try clear hb2); (try clear hk); (try clear hi); (try clear ho0)) | ((with_reducible refine gate_dst (N := 42) rfl ?_); (try (refine gate_guard (by rfl) ?_; dsimp only)); refine Kd.R_lit (Kd.int .u8) _ 5 ?hg (N := 42) ?hd (xs := ([100, 109, (t153) % 256, (t154) % 256] : List Int)) (inner := [.int .u8 100, .int .u8 109, .int .u8 ((t153) % 256), .int .u8 ((t154) % 256)]) (ok := fun _ => True) (okp := fun _ => True) ?hr ?hp (fun _ hk => hk) trivial (Below.refl _ _) (Nat.le_refl _) (by simp) ?_; (case hd => rfl); (case hg => rfl); (case hr => first | (go_simp; done) | (go_simp; rfl)); (case hp => exact (Reps.one (show Kd.M (Kd.int .u8) _ _ _ 100 [.int .u8 100] from rfl) (Reps.one (show Kd.M (Kd.int .u8) _ _ _ 109 [.int .u8 109] from rfl) (Reps.one (show Kd.M (Kd.int .u8) _ _ _ ((t153) % 256) [.int .u8 ((t153) % 256)] from rfl) (Reps.one (show Kd.M (Kd.int .u8) _ _ _ ((t154) % 256) [.int .u8 ((t154) % 256)] from rfl) (Reps.none _ _)))))); intro v162 w22 ho23 hb hg_ hnew_; clear hg_ hnew_; (first | rw [← Ny161.out] at ho23 | (simp only [Int.reduceToNat] at ho23; rw [← Ny161.out] at ho23)); have n0_ := Aside0.mk (Kd.R_elder' (by (with_reducible repeat (first | apply Kd.R_alloc | apply Kd.R_drewN | apply Kd.R_drew)); exact HO157.out) (Kd.R_base ho23) hb); have n1_ := Aside0.mk (Kd.R_elder' (by (with_reducible repeat (first | apply Kd.R_alloc | apply Kd.R_drewN | apply Kd.R_drew)); exact HO160.out) (Kd.R_base ho23) hb); have n2_ := Aside0.mk (Kd.R_lower (Kd.R_new' (Kd.R_new' ho23 (Kd.R_lt (by (with_reducible repeat (first | apply Kd.R_alloc | apply Kd.R_drewN | apply Kd.R_drew)); exact HO157.out))) (Kd.R_lt (by (with_reducible repeat (first | apply Kd.R_alloc | apply Kd.R_drewN | apply Kd.R_drew)); exact HO160.out))) (below_size (by repeat (first | (with_reducible first | exact HB.out | apply below_alloc | apply pw_below_drewN | apply below_drew1) | exact HB.out)))); have n3_ := Aside0.mk (below_step (by repeat (first | (with_reducible first | exact HB.out | apply below_alloc | apply pw_below_drewN | apply below_drew1) | exact HB.out)) hb); clear HO157; clear HO160; clear HB; have HO157 := n0_; have HO160 := n1_; have HO163 := n2_; have HB := n3_; clear n0_ n1_ n2_ n3_; clear hb ho23; obtain ⟨Ao25, co25, eo25⟩ := Kd.R_slice HO163.out; subst eo25) | ((with_reducible refine gate_builtin (b := .append) (xs := #[.tmp 37, .tmp 42]) rfl ?_); (try (refine gate_guard (by rfl) ?_; dsimp only)); at_builtin; refine Kd.R_append_rows (Kd.int .u8) (w0 := w) w.heap.size rfl (.tmp 37) (.tmp 42) 73 5 (.int .u8 0) 1 rfl Try.underlying73 info5 rfl (by decide) (by omega) v159 t158 y161 _ _ _ (fun k_ => some k_ ≠ (.slice Ao20 y155.length co20 : Value).ownBlock ∧ some k_ ≠ (.slice Ao25 y161.length co25 : Value).ownBlock) (fun _ => False) rfl rfl ?aO ?aR (fun _ _ h => h) (fun _ h => h.elim) ?aF ?aB ?aS ?aL ?_; (case aR => repeat (first | exact (Kd.R_reads' HO163.out).2.2 | (with_reducible refine Kd.C_alloc ?_ _) | (with_reducible refine Kd.C_drewN ?_ _) | (with_reducible refine Kd.C_drew ?_))); (case aB => exact (by repeat (first | (with_reducible first | exact HB.out | apply below_alloc | apply pw_below_drewN | apply below_drew1) | exact HB.out))); (case aF => exact (fun k_ hk => ⟨Kd.fresh' (Kd.R_lt (by (with_reducible repeat (first | apply Kd.R_alloc | apply Kd.R_drewN | apply Kd.R_drew)); exact HO157.out)) k_ hk, Kd.fresh' (Kd.R_lt (by (with_reducible repeat (first | apply Kd.R_alloc | apply Kd.R_drewN | apply Kd.R_drew)); exact HO163.out)) k_ hk⟩)); (case aO => exact (by (with_reducible repeat (first | apply Kd.R_alloc | apply Kd.R_drewN | apply Kd.R_drew)); exact Kd.R_mono HO160.out (fun _ hk => ⟨hk.1.2, hk.2⟩))); (case aS => exact (below_size (by repeat (first | (with_reducible first | exact HB.out | apply below_alloc | apply pw_below_drewN | apply below_drew1) | exact HB.out)))); (case aL => have := LMc11.out; omega); intro v165 w24 ho hb hg hat; rw [← Ny164.out] at ho; have n0_ := Aside0.mk (Kd.R_after (ok := (fun k_ => some k_ ≠ (.slice Ao25 y161.length co25 : Value).ownBlock)) (by (with_reducible repeat (first | apply Kd.R_alloc | apply Kd.R_drewN | apply Kd.R_drew)); exact Kd.R_mono HO157.out (fun _ hk => ⟨hk.2, hk.1.2⟩)) hg hat); have n1_ := Aside0.mk (Kd.R_after (ok := (fun k_ => some k_ ≠ (.slice Ao20 y155.length co20 : Value).ownBlock)) (by (with_reducible repeat (first | apply Kd.R_alloc | apply Kd.R_drewN | apply Kd.R_drew)); exact Kd.R_mono HO163.out (fun _ hk => ⟨hk.1.2, hk.2⟩)) hg hat); have n2_ := Aside0.mk (hb); have n3_ := Aside0.mk (ho); clear HO157; clear HO163; clear HB; clear HO160; have HO157 := n0_; have HO163 := n1_; have HB := n2_; have HO166 := n3_; clear n0_ n1_ n2_ n3_; clear ho hb hg hat) | ((with_reducible refine gate_callee (f := 45) rfl ?_); refine goesL_ (some 46) rfl rfl Try.func45 (by kernel_rfl) rfl #[.slice Ao20 y155.length co20] rfl (by (try simp only [List.map_toArray, List.map_cons, List.map_nil]); first | done | rfl | (simp only [List.length_drop, List.length_take]; rfl)) ?_; (with_reducible refine (paper_Plot.calls k (fun k_ => some k_ = (.slice Ao20 y155.length co20 : Value).ownBlock) _ _ y155 t167 t170 _ ?side1 A12.out).mono ?_); (case side1 => exact Kd.R_V (Kd.R_tight rfl (HO157.out))); rintro e w26 ⟨v168, rfl, ho0, hb⟩; refine ⟨_, rfl, ?_⟩; have n0_ := Aside0.mk (Kd.R_below (by (with_reducible repeat (first | apply Kd.R_alloc | apply Kd.R_drewN | apply Kd.R_drew)); exact HO157.out) hb); have n1_ := Aside0.mk (Kd.R_below (by (with_reducible repeat (first | apply Kd.R_alloc | apply Kd.R_drewN | apply Kd.R_drew)); exact HO163.out) hb); have n2_ := Aside0.mk (Kd.R_below (by (with_reducible repeat (first | apply Kd.R_alloc | apply Kd.R_drewN | apply Kd.R_drew)); exact HO166.out) hb); have n3_ := Aside0.mk (Kd.R_lower (Kd.R_mono (ok' := fun k_ => True) ho0 (fun _ hk_ => trivial)) (below_size (by repeat (first | (with_reducible first | exact HB.out | apply below_alloc | apply pw_below_drewN | apply below_drew1) | exact HB.out)))); have n4_ := Aside0.mk (below_step (by repeat (first | (with_reducible first | exact HB.out | apply below_alloc | apply pw_below_drewN | apply below_drew1) | exact HB.out)) hb); clear HO157; clear HO163; clear HO166; clear HB; have HO157 := n0_; have HO163 := n1_; have HO166 := n2_; have HO169 := n3_; have HB := n4_; clear n0_ n1_ n2_ n3_ n4_; (try clear hb); (try clear hb2); (try clear hk); (try clear hi); (try clear ho0); obtain ⟨Ao27, co27, eo27⟩ := Kd.R_slice HO166.out; subst eo27) | ((with_reducible refine gate_callee (f := 45) rfl ?_); refine goesL_ (some 51) rfl rfl Try.func45 (by kernel_rfl) rfl #[.slice Ao27 y164.length co27] rfl (by (try simp only [List.map_toArray, List.map_cons, List.map_nil]); first | done | rfl | (simp only [List.length_drop, List.length_take]; rfl)) ?_; (with_reducible refine (paper_Plot.calls k (fun k_ => some k_ = (.slice Ao27 y164.length co27 : Value).ownBlock) _ _ y164 t171 t174 _ ?side1 A13.out).mono ?_); (case side1 => exact Kd.R_V (Kd.R_tight rfl (Kd.R_apart' (HO166.out) (Kd.R_typed HO169.out) (by decide)))); rintro e w28 ⟨v172, rfl, ho0, hb⟩; refine ⟨_, rfl, ?_⟩; have n0_ := Aside0.mk (Kd.R_below (by (with_reducible repeat (first | apply Kd.R_alloc | apply Kd.R_drewN | apply Kd.R_drew)); exact HO157.out) hb); have n1_ := Aside0.mk (Kd.R_below (by (with_reducible repeat (first | apply Kd.R_alloc | apply Kd.R_drewN | apply Kd.R_drew)); exact HO163.out) hb); have n2_ := Aside0.mk (Kd.R_below (by (with_reducible repeat (first | apply Kd.R_alloc | apply Kd.R_drewN | apply Kd.R_drew)); exact HO166.out) hb); have n3_ := Aside0.mk (Kd.R_elder' (by (with_reducible repeat (first | apply Kd.R_alloc | apply Kd.R_drewN | apply Kd.R_drew)); exact HO169.out) (Kd.R_base ho0) hb); have n4_ := Aside0.mk (Kd.R_lower (Kd.R_new' (Kd.R_mono (ok' := fun k_ => True) ho0 (fun _ hk_ => trivial)) (Kd.R_lt (by (with_reducible repeat (first | apply Kd.R_alloc | apply Kd.R_drewN | apply Kd.R_drew)); exact HO169.out))) (below_size (by repeat (first | (with_reducible first | exact HB.out | apply below_alloc | apply pw_below_drewN | apply below_drew1) | exact HB.out)))); have n5_ := Aside0.mk (below_step (by repeat (first | (with_reducible first | exact HB.out | apply below_alloc | apply pw_below_drewN | apply below_drew1) | exact HB.out)) hb); clear HO157; clear HO163; clear HO166; clear HO169; clear HB; have HO157 := n0_; have HO163 := n1_; have HO166 := n2_; have HO169 := n3_; have HO173 := n4_; have HB := n5_; clear n0_ n1_ n2_ n3_ n4_ n5_; (try clear hb); (try clear hb2); (try clear hk); (try clear hi); (try clear ho0)) | ((with_reducible refine gate_callee (f := 44) rfl ?_); refine goesL_ (some 55) rfl rfl Try.func44 (by kernel_rfl) rfl #[.slice Ao27 y164.length co27] rfl (by (try simp only [List.map_toArray, List.map_cons, List.map_nil]); first | done | rfl | (simp only [List.length_drop, List.length_take]; rfl)) ?_; (with_reducible refine (slices_Clone_byte_byte.calls _ _ y164 t175 _ ?side1 ?side2 A14.out).mono ?_); (case side1 => repeat (first | exact (Kd.R_reads' HO166.out).2.2 | (with_reducible refine Kd.C_alloc ?_ _) | (with_reducible refine Kd.C_drewN ?_ _) | (with_reducible refine Kd.C_drew ?_))); (case side2 => exact (Kd.R_reads' HO166.out).2.1); rintro e w29 ⟨v176, rfl, ho0, hb⟩; refine ⟨_, rfl, ?_⟩; have n0_ := Aside0.mk (Kd.R_elder' (by (with_reducible repeat (first | apply Kd.R_alloc | apply Kd.R_drewN | apply Kd.R_drew)); exact HO157.out) (Kd.R_base ho0) hb); have n1_ := Aside0.mk (Kd.R_elder' (by (with_reducible repeat (first | apply Kd.R_alloc | apply Kd.R_drewN | apply Kd.R_drew)); exact HO163.out) (Kd.R_base ho0) hb); have n2_ := Aside0.mk (Kd.R_elder' (by (with_reducible repeat (first | apply Kd.R_alloc | apply Kd.R_drewN | apply Kd.R_drew)); exact HO166.out) (Kd.R_base ho0) hb); have n3_ := Aside0.mk (Kd.R_below (by (with_reducible repeat (first | apply Kd.R_alloc | apply Kd.R_drewN | apply Kd.R_drew)); exact HO169.out) hb); have n4_ := Aside0.mk (Kd.R_below (by (with_reducible repeat (first | apply Kd.R_alloc | apply Kd.R_drewN | apply Kd.R_drew)); exact HO173.out) hb); have n5_ := Aside0.mk (Kd.R_lower (Kd.R_new' (Kd.R_new' (Kd.R_new' ho0 (Kd.R_lt (by (with_reducible repeat (first | apply Kd.R_alloc | apply Kd.R_drewN | apply Kd.R_drew)); exact HO157.out))) (Kd.R_lt (by (with_reducible repeat (first | apply Kd.R_alloc | apply Kd.R_drewN | apply Kd.R_drew)); exact HO163.out))) (Kd.R_lt (by (with_reducible repeat (first | apply Kd.R_alloc | apply Kd.R_drewN | apply Kd.R_drew)); exact HO166.out))) (below_size (by repeat (first | (with_reducible first | exact HB.out | apply below_alloc | apply pw_below_drewN | apply below_drew1) | exact HB.out)))); have n6_ := Aside0.mk (below_step (by repeat (first | (with_reducible first | exact HB.out | apply below_alloc | apply pw_below_drewN | apply below_drew1) | exact HB.out)) hb); clear HO157; clear HO163; clear HO166; clear HO169; clear HO173; clear HB; have HO157 := n0_; have HO163 := n1_; have HO166 := n2_; have HO169 := n3_; have HO173 := n4_; have HO177 := n5_; have HB := n6_; clear n0_ n1_ n2_ n3_ n4_ n5_ n6_; (try clear hb); (try clear hb2); (try clear hk); (try clear hi); (try clear ho0); obtain ⟨i030, hi030, _, hsz30, _⟩ := info_parts info3; obtain ⟨hcut30, hA30, hC30⟩ := print_take_of (P := Try.prog) (Value.int .i64) 0 22 3 .i64 Try.underlying22 hi030 hsz30 A0 c0 l0 ((ji15n : Int)) (of_decide_eq_true (by first | (with_reducible assumption) | assumption)) (of_decide_eq_true (by first | (with_reducible assumption) | assumption)) HC0.out; have HR178 := Aside0.mk (Kd.C_of_reads (h1 := fun _ => rfl) (hA30 _ (Kd.reads_of_C HR0.out))); have HC178 := Aside0.mk hC30; clear hA30 hC30 hi030 hsz30))
        go_loopg [17, 62] k (fun kq v17 v62 w' => ∃ (x17_1 : List Int) (x62_1 : Int), v62 = .int .i64 x62_1 ∧ Aside0 (bakekeep3_PaperWays.l0 kq t151 t152 t153 t154 t167 t170 t171 t174 x17_1 (l0.take (((ji15n : Int)) : Int).toNat) ((l0.take (((ji15n : Int)) : Int).toNat).length : Int) x62_1 = some r) ∧ Aside0 (kq ≤ k) ∧ Aside0 (Kd.R Kd.bool 4 w' w.heap.size (fun k_ => some k_ ≠ (v172 : Value).ownBlock) v168 t167) ∧ Aside0 (Kd.R Kd.bool 4 w' w.heap.size (fun k_ => some k_ ≠ (v168 : Value).ownBlock) v172 t171) ∧ Aside0 (Kd.R (Kd.int .u8) 5 w' w.heap.size (fun _ => True) v17 x17_1) ∧ Aside0 (Below w.heap.size w w'))
        case atStart => exact ⟨(t175), (0), (by first | rfl | (simp; done) | (simp [*]; done)), H', ⟨Nat.le_refl _⟩, ⟨by (with_reducible repeat (first | apply Kd.R_alloc | apply Kd.R_drewN | apply Kd.R_drew)); exact Kd.R_mono HO169.out (fun _ hk => hk.2)⟩, ⟨by (with_reducible repeat (first | apply Kd.R_alloc | apply Kd.R_drewN | apply Kd.R_drew)); exact Kd.R_mono HO173.out (fun _ hk => hk.2)⟩, ⟨by (with_reducible repeat (first | apply Kd.R_alloc | apply Kd.R_drewN | apply Kd.R_drew)); exact Kd.R_mono HO177.out (fun _ hk => trivial)⟩, ⟨by repeat (first | (with_reducible first | exact HB.out | apply below_alloc | apply pw_below_drewN | apply below_drew1) | exact HB.out)⟩⟩
        case round =>
          clear H'
          try clear c1
          try clear p2
          try clear p3
          try clear c4
          try clear c11
          try clear c15
          try clear c16
          try clear c16b0
          try clear c16b1
          try clear c17
          try clear c17b0
          try clear c17b1
          obtain ⟨x17_1, x62_1, rfl, HA, HK1, HO_13, HO_15, HO_17, HB⟩ := hrel
          cases gk with
          | zero => exact absurd HA.out (by simp [bakekeep3_PaperWays.l0])
          | succ k1 =>
            have H := HA.out
            clear HA
            simp only [bakekeep3_PaperWays.l0] at H
            by_cases c31 : x62_1 < ((l0.take (((ji15n : Int)) : Int).toNat).length : Int)
            · rw [if_pos c31] at H
              have c31b0 : decide (x62_1 < ((l0.take (((ji15n : Int)) : Int).toNat).length : Int)) = true := decide_eq_true c31
              have c31b0m : decide (x62_1 < (ji15n : Int)) = true := by have h_ := c31b0; simp only [HLM.out] at h_; exact h_
              clear c31
              by_cases c32 : 0 ≤ x62_1
              · rw [if_pos c32] at H
                have c32b0 : decide (0 ≤ x62_1) = true := decide_eq_true c32
                clear c32
                by_cases c33 : x62_1 < ((l0.take (((ji15n : Int)) : Int).toNat).length : Int)
                · rw [if_pos c33] at H
                  have c33b0 : decide (x62_1 < ((l0.take (((ji15n : Int)) : Int).toNat).length : Int)) = true := decide_eq_true c33
                  have c33b0m : decide (x62_1 < (ji15n : Int)) = true := by have h_ := c33b0; simp only [HLM.out] at h_; exact h_
                  clear c33
                  obtain ⟨y180, hy180⟩ : ∃ y_ : List Int, y_ = (([117] : List Int)) := ⟨_, rfl⟩
                  replace H : ((some (([y180, (([100] : List Int)), (([109, (Go.bits .and .i64 (rd (l0.take (((ji15n : Int)) : Int).toNat) x62_1) 63) % 256, (Go.bits .and .i64 ((rd (l0.take (((ji15n : Int)) : Int).toNat) x62_1) / 64) 63) % 256] : List Int))] : List (List Int)) : List (List Int))).bind fun y189 => ((bakemake_Below.f (rd (l0.take (((ji15n : Int)) : Int).toNat) x62_1) 3).bind fun t192 => (if 0 ≤ t192 then (if t192 < (y189.length : Int) then (if x17_1.length + (rd_L5 y189 t192).length < 140737488355328 then (bakekeep3_PaperWays.l0 k1 t151 t152 t153 t154 t167 t170 t171 t174 (x17_1 ++ (rd_L5 y189 t192)) (l0.take (((ji15n : Int)) : Int).toNat) ((l0.take (((ji15n : Int)) : Int).toNat).length : Int) (wrap64 (x62_1 + 1))) else (none)) else (none)) else (none)))) = some r := by first | (rw [hy180]; with_reducible exact H) | (have H2_ := (Option.bind_some _ _).symm.trans H; rw [hy180]; with_reducible exact H2_) | (have H2_ := (Option.bind_some _ _).symm.trans H; with_reducible exact H2_) | with_reducible exact H | (rw [hy180]; exact H) | exact H
                  have Ny180 := Aside0.mk hy180
                  clear hy180
                  obtain ⟨y183, hy183⟩ : ∃ y_ : List Int, y_ = (([100] : List Int)) := ⟨_, rfl⟩
                  replace H : ((some (([y180, y183, (([109, (Go.bits .and .i64 (rd (l0.take (((ji15n : Int)) : Int).toNat) x62_1) 63) % 256, (Go.bits .and .i64 ((rd (l0.take (((ji15n : Int)) : Int).toNat) x62_1) / 64) 63) % 256] : List Int))] : List (List Int)) : List (List Int))).bind fun y189 => ((bakemake_Below.f (rd (l0.take (((ji15n : Int)) : Int).toNat) x62_1) 3).bind fun t192 => (if 0 ≤ t192 then (if t192 < (y189.length : Int) then (if x17_1.length + (rd_L5 y189 t192).length < 140737488355328 then (bakekeep3_PaperWays.l0 k1 t151 t152 t153 t154 t167 t170 t171 t174 (x17_1 ++ (rd_L5 y189 t192)) (l0.take (((ji15n : Int)) : Int).toNat) ((l0.take (((ji15n : Int)) : Int).toNat).length : Int) (wrap64 (x62_1 + 1))) else (none)) else (none)) else (none)))) = some r := by first | (rw [hy183]; with_reducible exact H) | (have H2_ := (Option.bind_some _ _).symm.trans H; rw [hy183]; with_reducible exact H2_) | (have H2_ := (Option.bind_some _ _).symm.trans H; with_reducible exact H2_) | with_reducible exact H | (rw [hy183]; exact H) | exact H
                  have Ny183 := Aside0.mk hy183
                  clear hy183
                  obtain ⟨y186, hy186⟩ : ∃ y_ : List Int, y_ = (([109, (Go.bits .and .i64 (rd (l0.take (((ji15n : Int)) : Int).toNat) x62_1) 63) % 256, (Go.bits .and .i64 ((rd (l0.take (((ji15n : Int)) : Int).toNat) x62_1) / 64) 63) % 256] : List Int)) := ⟨_, rfl⟩
                  replace H : ((some (([y180, y183, y186] : List (List Int)) : List (List Int))).bind fun y189 => ((bakemake_Below.f (rd (l0.take (((ji15n : Int)) : Int).toNat) x62_1) 3).bind fun t192 => (if 0 ≤ t192 then (if t192 < (y189.length : Int) then (if x17_1.length + (rd_L5 y189 t192).length < 140737488355328 then (bakekeep3_PaperWays.l0 k1 t151 t152 t153 t154 t167 t170 t171 t174 (x17_1 ++ (rd_L5 y189 t192)) (l0.take (((ji15n : Int)) : Int).toNat) ((l0.take (((ji15n : Int)) : Int).toNat).length : Int) (wrap64 (x62_1 + 1))) else (none)) else (none)) else (none)))) = some r := by first | (rw [hy186]; with_reducible exact H) | (have H2_ := (Option.bind_some _ _).symm.trans H; rw [hy186]; with_reducible exact H2_) | (have H2_ := (Option.bind_some _ _).symm.trans H; with_reducible exact H2_) | with_reducible exact H | (rw [hy186]; exact H) | exact H
                  have Ny186 := Aside0.mk hy186
                  clear hy186
                  obtain ⟨y189, hy189⟩ : ∃ y_ : List (List Int), y_ = (([y180, y183, y186] : List (List Int))) := ⟨_, rfl⟩
                  replace H : ((bakemake_Below.f (rd (l0.take (((ji15n : Int)) : Int).toNat) x62_1) 3).bind fun t192 => (if 0 ≤ t192 then (if t192 < (y189.length : Int) then (if x17_1.length + (rd_L5 y189 t192).length < 140737488355328 then (bakekeep3_PaperWays.l0 k1 t151 t152 t153 t154 t167 t170 t171 t174 (x17_1 ++ (rd_L5 y189 t192)) (l0.take (((ji15n : Int)) : Int).toNat) ((l0.take (((ji15n : Int)) : Int).toNat).length : Int) (wrap64 (x62_1 + 1))) else (none)) else (none)) else (none))) = some r := by first | (rw [hy189]; with_reducible exact H) | (have H2_ := (Option.bind_some _ _).symm.trans H; rw [hy189]; with_reducible exact H2_) | (have H2_ := (Option.bind_some _ _).symm.trans H; with_reducible exact H2_) | with_reducible exact H | (rw [hy189]; exact H) | exact H
                  have Ny189 := Aside0.mk hy189
                  clear hy189
                  replace H := Option.bind_eq_some_iff.mp H
                  obtain ⟨t192, A340, H⟩ := H
                  replace H : (if 0 ≤ t192 then (if t192 < (y189.length : Int) then (if x17_1.length + (rd_L5 y189 t192).length < 140737488355328 then (bakekeep3_PaperWays.l0 k1 t151 t152 t153 t154 t167 t170 t171 t174 (x17_1 ++ (rd_L5 y189 t192)) (l0.take (((ji15n : Int)) : Int).toNat) ((l0.take (((ji15n : Int)) : Int).toNat).length : Int) (wrap64 (x62_1 + 1))) else (none)) else (none)) else (none)) = some r := H
                  have A34 := Aside0.mk A340
                  clear A340
                  by_cases c35 : 0 ≤ t192
                  · rw [if_pos c35] at H
                    have c35b0 : decide (0 ≤ t192) = true := decide_eq_true c35
                    clear c35
                    by_cases c36 : t192 < (y189.length : Int)
                    · rw [if_pos c36] at H
                      have c36b0 : decide (t192 < (y189.length : Int)) = true := decide_eq_true c36
                      clear c36
                      by_cases c37 : x17_1.length + (rd_L5 y189 t192).length < 140737488355328
                      · rw [if_pos c37] at H
                        have LMc37 := Aside0.mk c37
                        clear c37
                        obtain ⟨y194, hy194⟩ : ∃ y_ : List Int, y_ = (x17_1 ++ (rd_L5 y189 t192)) := ⟨_, rfl⟩
                        replace H : (bakekeep3_PaperWays.l0 k1 t151 t152 t153 t154 t167 t170 t171 t174 y194 (l0.take (((ji15n : Int)) : Int).toNat) ((l0.take (((ji15n : Int)) : Int).toNat).length : Int) (wrap64 (x62_1 + 1))) = some r := by first | (rw [hy194]; with_reducible exact H) | (have H2_ := (Option.bind_some _ _).symm.trans H; rw [hy194]; with_reducible exact H2_) | (have H2_ := (Option.bind_some _ _).symm.trans H; with_reducible exact H2_) | with_reducible exact H | (rw [hy194]; exact H) | exact H
                        have Ny194 := Aside0.mk hy194
                        clear hy194
                        have H' := Aside0.mk H
                        clear H
                        have p179 : 0 ≤ (x62_1 : Int) := of_decide_eq_true (by first | (with_reducible assumption) | assumption)
                        have q179 : x62_1 < ((l0.take (((ji15n : Int)) : Int).toNat).length : Int) := of_decide_eq_true (by first | (with_reducible assumption) | assumption)
                        obtain ⟨ad179, e179, hx179_0⟩ := Kd.at_int HR178.out x62_1 p179 q179
                        cases e179
                        replace hx179_0 := (HB.out.cell (World.block_lt_of_cell? w _ hx179_0)).trans hx179_0
                        replace p179 := eq_true p179
                        replace q179 := eq_true q179
                        (try have q179m := (HLM.out _).symm.trans q179)
                        go_wp2_with (first | ((with_reducible refine gate_dst (N := 67) rfl ?_); (try (refine gate_guard (by rfl) ?_; dsimp only)); refine Kd.R_lit (Kd.int .u8) _ 5 ?hg (N := 67) ?hd (xs := ([117] : List Int)) (inner := [.int .u8 117]) (ok := fun _ => True) (okp := fun _ => True) ?hr ?hp (fun _ hk => hk) trivial (Below.refl _ _) (Nat.le_refl _) (by simp) ?_; (case hd => rfl); (case hg => rfl); (case hr => first | (go_simp; done) | (go_simp; rfl)); (case hp => exact (Reps.one (show Kd.M (Kd.int .u8) _ _ _ 117 [.int .u8 117] from rfl) (Reps.none _ _))); intro v181 w38 ho39 hb hg_ hnew_; clear hg_ hnew_; (first | rw [← Ny180.out] at ho39 | (simp only [Int.reduceToNat] at ho39; rw [← Ny180.out] at ho39)); have n0_ := Aside0.mk (Kd.R_below (by (with_reducible repeat (first | apply Kd.R_alloc | apply Kd.R_drewN | apply Kd.R_drew)); exact HO_13.out) hb); have n1_ := Aside0.mk (Kd.R_below (by (with_reducible repeat (first | apply Kd.R_alloc | apply Kd.R_drewN | apply Kd.R_drew)); exact HO_15.out) hb); have n2_ := Aside0.mk (Kd.R_elder' (by (with_reducible repeat (first | apply Kd.R_alloc | apply Kd.R_drewN | apply Kd.R_drew)); exact HO_17.out) (Kd.R_base ho39) hb); have n3_ := Aside0.mk (Kd.R_lower (Kd.R_new' ho39 (Kd.R_lt (by (with_reducible repeat (first | apply Kd.R_alloc | apply Kd.R_drewN | apply Kd.R_drew)); exact HO_17.out))) (below_size (by repeat (first | (with_reducible first | exact HB.out | apply below_alloc | apply pw_below_drewN | apply below_drew1) | exact HB.out)))); have n4_ := Aside0.mk (below_step (by repeat (first | (with_reducible first | exact HB.out | apply below_alloc | apply pw_below_drewN | apply below_drew1) | exact HB.out)) hb); clear HO_13; clear HO_15; clear HO_17; clear HB; have HO_13 := n0_; have HO_15 := n1_; have HO_17 := n2_; have HO182 := n3_; have HB := n4_; clear n0_ n1_ n2_ n3_ n4_; clear hb ho39) | ((with_reducible refine gate_dst (N := 68) rfl ?_); (try (refine gate_guard (by rfl) ?_; dsimp only)); refine Kd.R_lit (Kd.int .u8) _ 5 ?hg (N := 68) ?hd (xs := ([100] : List Int)) (inner := [.int .u8 100]) (ok := fun _ => True) (okp := fun _ => True) ?hr ?hp (fun _ hk => hk) trivial (Below.refl _ _) (Nat.le_refl _) (by simp) ?_; (case hd => rfl); (case hg => rfl); (case hr => first | (go_simp; done) | (go_simp; rfl)); (case hp => exact (Reps.one (show Kd.M (Kd.int .u8) _ _ _ 100 [.int .u8 100] from rfl) (Reps.none _ _))); intro v184 w40 ho41 hb hg_ hnew_; clear hg_ hnew_; (first | rw [← Ny183.out] at ho41 | (simp only [Int.reduceToNat] at ho41; rw [← Ny183.out] at ho41)); have n0_ := Aside0.mk (Kd.R_below (by (with_reducible repeat (first | apply Kd.R_alloc | apply Kd.R_drewN | apply Kd.R_drew)); exact HO_13.out) hb); have n1_ := Aside0.mk (Kd.R_below (by (with_reducible repeat (first | apply Kd.R_alloc | apply Kd.R_drewN | apply Kd.R_drew)); exact HO_15.out) hb); have n2_ := Aside0.mk (Kd.R_elder' (by (with_reducible repeat (first | apply Kd.R_alloc | apply Kd.R_drewN | apply Kd.R_drew)); exact HO_17.out) (Kd.R_base ho41) hb); have n3_ := Aside0.mk (Kd.R_elder' (by (with_reducible repeat (first | apply Kd.R_alloc | apply Kd.R_drewN | apply Kd.R_drew)); exact HO182.out) (Kd.R_base ho41) hb); have n4_ := Aside0.mk (Kd.R_lower (Kd.R_new' (Kd.R_new' ho41 (Kd.R_lt (by (with_reducible repeat (first | apply Kd.R_alloc | apply Kd.R_drewN | apply Kd.R_drew)); exact HO_17.out))) (Kd.R_lt (by (with_reducible repeat (first | apply Kd.R_alloc | apply Kd.R_drewN | apply Kd.R_drew)); exact HO182.out))) (below_size (by repeat (first | (with_reducible first | exact HB.out | apply below_alloc | apply pw_below_drewN | apply below_drew1) | exact HB.out)))); have n5_ := Aside0.mk (below_step (by repeat (first | (with_reducible first | exact HB.out | apply below_alloc | apply pw_below_drewN | apply below_drew1) | exact HB.out)) hb); clear HO_13; clear HO_15; clear HO_17; clear HO182; clear HB; have HO_13 := n0_; have HO_15 := n1_; have HO_17 := n2_; have HO182 := n3_; have HO185 := n4_; have HB := n5_; clear n0_ n1_ n2_ n3_ n4_ n5_; clear hb ho41) | ((with_reducible refine gate_dst (N := 76) rfl ?_); (try (refine gate_guard (by rfl) ?_; dsimp only)); refine Kd.R_lit (Kd.int .u8) _ 5 ?hg (N := 76) ?hd (xs := ([109, (Go.bits .and .i64 (rd (l0.take (((ji15n : Int)) : Int).toNat) x62_1) 63) % 256, (Go.bits .and .i64 ((rd (l0.take (((ji15n : Int)) : Int).toNat) x62_1) / 64) 63) % 256] : List Int)) (inner := [.int .u8 109, .int .u8 ((Go.bits .and .i64 (rd (l0.take (((ji15n : Int)) : Int).toNat) x62_1) 63) % 256), .int .u8 ((Go.bits .and .i64 ((rd (l0.take (((ji15n : Int)) : Int).toNat) x62_1) / 64) 63) % 256)]) (ok := fun _ => True) (okp := fun _ => True) ?hr ?hp (fun _ hk => hk) trivial (Below.refl _ _) (Nat.le_refl _) (by simp) ?_; (case hd => rfl); (case hg => rfl); (case hr => first | (go_simp; done) | (go_simp; rfl)); (case hp => exact (Reps.one (show Kd.M (Kd.int .u8) _ _ _ 109 [.int .u8 109] from rfl) (Reps.one (show Kd.M (Kd.int .u8) _ _ _ ((Go.bits .and .i64 (rd (l0.take (((ji15n : Int)) : Int).toNat) x62_1) 63) % 256) [.int .u8 ((Go.bits .and .i64 (rd (l0.take (((ji15n : Int)) : Int).toNat) x62_1) 63) % 256)] from rfl) (Reps.one (show Kd.M (Kd.int .u8) _ _ _ ((Go.bits .and .i64 ((rd (l0.take (((ji15n : Int)) : Int).toNat) x62_1) / 64) 63) % 256) [.int .u8 ((Go.bits .and .i64 ((rd (l0.take (((ji15n : Int)) : Int).toNat) x62_1) / 64) 63) % 256)] from rfl) (Reps.none _ _))))); intro v187 w42 ho43 hb hg_ hnew_; clear hg_ hnew_; (first | rw [← Ny186.out] at ho43 | (simp only [Int.reduceToNat] at ho43; rw [← Ny186.out] at ho43)); have n0_ := Aside0.mk (Kd.R_below (by (with_reducible repeat (first | apply Kd.R_alloc | apply Kd.R_drewN | apply Kd.R_drew)); exact HO_13.out) hb); have n1_ := Aside0.mk (Kd.R_below (by (with_reducible repeat (first | apply Kd.R_alloc | apply Kd.R_drewN | apply Kd.R_drew)); exact HO_15.out) hb); have n2_ := Aside0.mk (Kd.R_elder' (by (with_reducible repeat (first | apply Kd.R_alloc | apply Kd.R_drewN | apply Kd.R_drew)); exact HO_17.out) (Kd.R_base ho43) hb); have n3_ := Aside0.mk (Kd.R_elder' (by (with_reducible repeat (first | apply Kd.R_alloc | apply Kd.R_drewN | apply Kd.R_drew)); exact HO182.out) (Kd.R_base ho43) hb); have n4_ := Aside0.mk (Kd.R_elder' (by (with_reducible repeat (first | apply Kd.R_alloc | apply Kd.R_drewN | apply Kd.R_drew)); exact HO185.out) (Kd.R_base ho43) hb); have n5_ := Aside0.mk (Kd.R_lower (Kd.R_new' (Kd.R_new' (Kd.R_new' ho43 (Kd.R_lt (by (with_reducible repeat (first | apply Kd.R_alloc | apply Kd.R_drewN | apply Kd.R_drew)); exact HO_17.out))) (Kd.R_lt (by (with_reducible repeat (first | apply Kd.R_alloc | apply Kd.R_drewN | apply Kd.R_drew)); exact HO182.out))) (Kd.R_lt (by (with_reducible repeat (first | apply Kd.R_alloc | apply Kd.R_drewN | apply Kd.R_drew)); exact HO185.out))) (below_size (by repeat (first | (with_reducible first | exact HB.out | apply below_alloc | apply pw_below_drewN | apply below_drew1) | exact HB.out)))); have n6_ := Aside0.mk (below_step (by repeat (first | (with_reducible first | exact HB.out | apply below_alloc | apply pw_below_drewN | apply below_drew1) | exact HB.out)) hb); clear HO_13; clear HO_15; clear HO_17; clear HO182; clear HO185; clear HB; have HO_13 := n0_; have HO_15 := n1_; have HO_17 := n2_; have HO182 := n3_; have HO185 := n4_; have HO188 := n5_; have HB := n6_; clear n0_ n1_ n2_ n3_ n4_ n5_ n6_; clear hb ho43; obtain ⟨Ao44, co44, eo44⟩ := Kd.R_slice HO182.out; subst eo44; obtain ⟨Ao45, co45, eo45⟩ := Kd.R_slice HO185.out; subst eo45; obtain ⟨Ao46, co46, eo46⟩ := Kd.R_slice HO188.out; subst eo46) | ((with_reducible refine gate_dst (N := 77) rfl ?_); (try (refine gate_guard (by rfl) ?_; dsimp only)); refine Kd.N_lit (Kd.slice 5 (Kd.int .u8)) _ 73 ?hg (N' := 77) ?hd (xs := ([y180, y183, y186] : List (List Int))) (inner := [.slice Ao44 y180.length co44, .slice Ao45 y183.length co45, .slice Ao46 y186.length co46]) (ok := (fun k_ => some k_ ≠ (v168 : Value).ownBlock ∧ some k_ ≠ (v172 : Value).ownBlock ∧ some k_ ≠ (u17 : Value).ownBlock)) (okp := (fun k_ => some k_ ≠ (v168 : Value).ownBlock ∧ some k_ ≠ (v172 : Value).ownBlock ∧ some k_ ≠ (u17 : Value).ownBlock)) ?hr ?hp (fun _ hk => hk) ((show ∀ k_, w42.heap.size ≤ k_ → (fun k_ => some k_ ≠ (v168 : Value).ownBlock ∧ some k_ ≠ (v172 : Value).ownBlock ∧ some k_ ≠ (u17 : Value).ownBlock) k_ from fun k_ hk => ⟨Kd.fresh' (Kd.R_lt (by (with_reducible repeat (first | apply Kd.R_alloc | apply Kd.R_drewN | apply Kd.R_drew)); exact HO_13.out)) k_ hk, Kd.fresh' (Kd.R_lt (by (with_reducible repeat (first | apply Kd.R_alloc | apply Kd.R_drewN | apply Kd.R_drew)); exact HO_15.out)) k_ hk, Kd.fresh' (Kd.R_lt (by (with_reducible repeat (first | apply Kd.R_alloc | apply Kd.R_drewN | apply Kd.R_drew)); exact HO_17.out)) k_ hk⟩) _ (Nat.le_refl _)) (Below.refl _ _) (Nat.le_refl _) (by simp) ?_; (case hd => rfl); (case hg => rfl); (case hr => first | (go_simp; done) | (go_simp; rfl)); (case hp => exact (Reps.one (show Kd.FK (Kd.slice 5 (Kd.int .u8)) _ _ y180 [.slice Ao44 y180.length co44] from (Kd.FK_slice_mk (Kd.R_reads' (Kd.R_mono (ok' := (fun k_ => some k_ ≠ (v168 : Value).ownBlock ∧ some k_ ≠ (v172 : Value).ownBlock ∧ some k_ ≠ (u17 : Value).ownBlock)) (Kd.R_apart' (Kd.R_apart' (HO182.out) (Kd.R_typed HO_13.out) (by decide)) (Kd.R_typed HO_15.out) (by decide)) (fun k_ hk => ⟨hk.1.2, ⟨hk.2, hk.1.1.1.1.2⟩⟩))).2.1 (Kd.R_F (Kd.R_mono (ok' := (fun k_ => some k_ ≠ (v168 : Value).ownBlock ∧ some k_ ≠ (v172 : Value).ownBlock ∧ some k_ ≠ (u17 : Value).ownBlock)) (Kd.R_apart' (Kd.R_apart' (HO182.out) (Kd.R_typed HO_13.out) (by decide)) (Kd.R_typed HO_15.out) (by decide)) (fun k_ hk => ⟨hk.1.2, ⟨hk.2, hk.1.1.1.1.2⟩⟩))))) (Reps.one (show Kd.FK (Kd.slice 5 (Kd.int .u8)) _ _ y183 [.slice Ao45 y183.length co45] from (Kd.FK_slice_mk (Kd.R_reads' (Kd.R_mono (ok' := (fun k_ => some k_ ≠ (v168 : Value).ownBlock ∧ some k_ ≠ (v172 : Value).ownBlock ∧ some k_ ≠ (u17 : Value).ownBlock)) (Kd.R_apart' (Kd.R_apart' (HO185.out) (Kd.R_typed HO_13.out) (by decide)) (Kd.R_typed HO_15.out) (by decide)) (fun k_ hk => ⟨hk.1.2, ⟨hk.2, hk.1.1.1.1.2⟩⟩))).2.1 (Kd.R_F (Kd.R_mono (ok' := (fun k_ => some k_ ≠ (v168 : Value).ownBlock ∧ some k_ ≠ (v172 : Value).ownBlock ∧ some k_ ≠ (u17 : Value).ownBlock)) (Kd.R_apart' (Kd.R_apart' (HO185.out) (Kd.R_typed HO_13.out) (by decide)) (Kd.R_typed HO_15.out) (by decide)) (fun k_ hk => ⟨hk.1.2, ⟨hk.2, hk.1.1.1.1.2⟩⟩))))) (Reps.one (show Kd.FK (Kd.slice 5 (Kd.int .u8)) _ _ y186 [.slice Ao46 y186.length co46] from (Kd.FK_slice_mk (Kd.R_reads' (Kd.R_mono (ok' := (fun k_ => some k_ ≠ (v168 : Value).ownBlock ∧ some k_ ≠ (v172 : Value).ownBlock ∧ some k_ ≠ (u17 : Value).ownBlock)) (Kd.R_apart' (Kd.R_apart' (HO188.out) (Kd.R_typed HO_13.out) (by decide)) (Kd.R_typed HO_15.out) (by decide)) (fun k_ hk => ⟨hk.1.2, ⟨hk.2, hk.1.1.1.1.2⟩⟩))).2.1 (Kd.R_F (Kd.R_mono (ok' := (fun k_ => some k_ ≠ (v168 : Value).ownBlock ∧ some k_ ≠ (v172 : Value).ownBlock ∧ some k_ ≠ (u17 : Value).ownBlock)) (Kd.R_apart' (Kd.R_apart' (HO188.out) (Kd.R_typed HO_13.out) (by decide)) (Kd.R_typed HO_15.out) (by decide)) (fun k_ hk => ⟨hk.1.2, ⟨hk.2, hk.1.1.1.1.2⟩⟩))))) (Reps.none _ _))))); intro v190 w47 ho48 hb hg_ hnew_; clear hg_ hnew_; (first | rw [← Ny189.out] at ho48 | (simp only [Int.reduceToNat] at ho48; rw [← Ny189.out] at ho48)); have n0_ := Aside0.mk (Kd.R_below (by (with_reducible repeat (first | apply Kd.R_alloc | apply Kd.R_drewN | apply Kd.R_drew)); exact HO_13.out) hb); have n1_ := Aside0.mk (Kd.R_below (by (with_reducible repeat (first | apply Kd.R_alloc | apply Kd.R_drewN | apply Kd.R_drew)); exact HO_15.out) hb); have n2_ := Aside0.mk (Kd.R_below (by (with_reducible repeat (first | apply Kd.R_alloc | apply Kd.R_drewN | apply Kd.R_drew)); exact HO_17.out) hb); have n3_ := Aside0.mk (Kd.N_lower ho48 (below_size (by repeat (first | (with_reducible first | exact HB.out | apply below_alloc | apply pw_below_drewN | apply below_drew1) | exact HB.out)))); have n4_ := Aside0.mk (below_step (by repeat (first | (with_reducible first | exact HB.out | apply below_alloc | apply pw_below_drewN | apply below_drew1) | exact HB.out)) hb); clear HO_13; clear HO_15; clear HO_17; clear HB; clear HO182; clear HO185; clear HO188; have HO_13 := n0_; have HO_15 := n1_; have HO_17 := n2_; have HO191 := n3_; have HB := n4_; clear n0_ n1_ n2_ n3_ n4_; clear hb ho48) | ((with_reducible refine gate_callee (f := 15) rfl ?_); refine goesL_ (some 79) rfl rfl Try.func15 (by kernel_rfl) rfl #[.int .i64 (rd (l0.take (((ji15n : Int)) : Int).toNat) x62_1), .int .i64 3] rfl (by (try simp only [List.map_toArray, List.map_cons, List.map_nil]); first | done | (simp only [hji15]; rfl) | rfl | (simp only [List.length_drop, List.length_take]; rfl)) ?_; (with_reducible refine (bakemake_Below.calls (rd (l0.take (((ji15n : Int)) : Int).toNat) x62_1) 3 t192 _ A34.out).mono ?_); rintro e w' ⟨rfl, ⟨nd, rfl⟩⟩; refine ⟨_, rfl, ?_⟩; obtain ⟨Ao49, co49, eo49⟩ := Kd.N_slice HO191.out; subst eo49; have p193 : 0 ≤ (t192 : Int) := of_decide_eq_true (by first | (with_reducible assumption) | assumption); have q193 : t192 < (y189.length : Int) := of_decide_eq_true (by first | (with_reducible assumption) | assumption); obtain ⟨ad193, A193_0, c193_0, e193, hx193_0, hl193_0, hi193_0⟩ := at_L5 (Kd.N_reads' HO191.out).2.2 t192 p193 q193; cases e193; obtain ⟨ce193, hce193, hMe193, hcc193⟩ := Kd.N_get HO191.out [] t192 p193 (by first | exact q193 | exact of_decide_eq_true (by first | (with_reducible assumption) | assumption) | (have e_ := (Kd.N_reads' HO191.out).1; omega)); obtain ⟨ua193_0, uc193_0, rfl, ul193_0, ge193_0⟩ := Kd.FK_slice_open hMe193; have hv193_0 := hcc193 0 _ rfl; rw [Nat.add_zero, show ((Kd.slice 5 (Kd.int .u8))).sz = 1 from rfl, Nat.mul_one] at hv193_0; replace hv193_0 := Option.some.inj (hv193_0.symm.trans hx193_0); injection hv193_0 with hva_ hvn_ hvc_; rw [hva_] at ge193_0; rw [hvc_] at ul193_0; have HL193_0 := Aside0.mk (show Kd.V (Kd.int .u8) 5 _ w.heap.size _ _ (rd_L5 y189 t192) from Kd.V_mk ul193_0 ge193_0); clear hva_ hvn_ hvc_ ge193_0 ul193_0; clear hcc193 hce193; have HR193_0 := Aside0.mk hi193_0; have HC193_0 := Aside0.mk hl193_0; clear hi193_0 hl193_0; replace p193 := eq_true p193; replace q193 := eq_true q193) | ((with_reducible refine gate_builtin (b := .append) (xs := #[.tmp 66, .tmp 81]) rfl ?_); (try (refine gate_guard (by rfl) ?_; dsimp only)); at_builtin; refine Kd.R_append_rows (Kd.int .u8) (w0 := w) w.heap.size rfl (.tmp 66) (.tmp 81) 73 5 (.int .u8 0) 1 rfl Try.underlying73 info5 rfl (by decide) (by omega) u17 x17_1 (rd_L5 y189 t192) _ _ _ (fun _ => True) (fun _ => False) rfl rfl ?aO ?aR (fun _ _ h => h) (fun _ h => h.elim) ?aF ?aB ?aS ?aL ?_; (case aR => repeat (first | exact (by repeat (first | (with_reducible exact HR193_0.out) | (with_reducible refine Kd.C_alloc ?_ _) | (with_reducible refine Kd.C_drewN ?_ _) | (with_reducible refine Kd.C_drew ?_) | exact HR193_0.out)) | (with_reducible refine Kd.C_alloc ?_ _) | (with_reducible refine Kd.C_drewN ?_ _) | (with_reducible refine Kd.C_drew ?_))); (case aB => exact (by repeat (first | (with_reducible first | exact HB.out | apply below_alloc | apply pw_below_drewN | apply below_drew1) | exact HB.out))); (case aF => exact (fun _ _ => trivial)); (case aO => exact (by (with_reducible repeat (first | apply Kd.R_alloc | apply Kd.R_drewN | apply Kd.R_drew)); exact Kd.R_mono HO_17.out (fun _ hk => trivial))); (case aS => exact (below_size (by repeat (first | (with_reducible first | exact HB.out | apply below_alloc | apply pw_below_drewN | apply below_drew1) | exact HB.out)))); (case aL => have := LMc37.out; omega); intro v195 w50 ho hb hg hat; rw [← Ny194.out] at ho; have n0_ := Aside0.mk (Kd.R_over' (by (with_reducible repeat (first | apply Kd.R_alloc | apply Kd.R_drewN | apply Kd.R_drew)); exact HO_13.out) (Kd.R_typed (by (with_reducible repeat (first | apply Kd.R_alloc | apply Kd.R_drewN | apply Kd.R_drew)); exact HO_17.out)) (by decide) hg); have n1_ := Aside0.mk (Kd.R_over' (by (with_reducible repeat (first | apply Kd.R_alloc | apply Kd.R_drewN | apply Kd.R_drew)); exact HO_15.out) (Kd.R_typed (by (with_reducible repeat (first | apply Kd.R_alloc | apply Kd.R_drewN | apply Kd.R_drew)); exact HO_17.out)) (by decide) hg); have n2_ := Aside0.mk (Kd.N_afterv (ok := (fun k_ => some k_ ≠ (v168 : Value).ownBlock ∧ some k_ ≠ (v172 : Value).ownBlock)) (by (with_reducible repeat (first | apply Kd.N_alloc | apply Kd.N_drewN | apply Kd.N_drew)); exact Kd.N_mono HO191.out (fun _ hk => ⟨⟨hk.1, hk.2.1⟩, hk.2.2⟩)) hg hat); have n3_ := Aside0.mk (Kd.V_afterv (ok := (fun k_ => some k_ ≠ (v168 : Value).ownBlock ∧ some k_ ≠ (v172 : Value).ownBlock ∧ some k_ ≠ (.slice (some ad193) y189.length co49 : Value).ownBlock)) (by (with_reducible repeat (first | apply Kd.V_alloc | apply Kd.V_drewN | apply Kd.V_drew)); exact Kd.V_mono HL193_0.out (fun _ hk => ⟨⟨hk.1.1, ⟨hk.1.2.1, hk.2⟩⟩, hk.1.2.2⟩)) hg hat); have n4_ := Aside0.mk (hb); have n5_ := Aside0.mk (ho); clear HO_13; clear HO_15; clear HO191; clear HL193_0; clear HB; clear HO_17; have HO_13 := n0_; have HO_15 := n1_; have HO191 := n2_; have HL193_0 := n3_; have HB := n4_; have HO196 := n5_; clear n0_ n1_ n2_ n3_ n4_ n5_; clear ho hb hg hat))
                        go_roundg k1
                        case measure => have := HK1.out; omega
                        case rel => exact ⟨(y194), (wrap64 (x62_1 + 1)), (by first | rfl | (simp; done) | (simp [*]; done)), H', ⟨by have := HK1.out; omega⟩, ⟨by (with_reducible repeat (first | apply Kd.R_alloc | apply Kd.R_drewN | apply Kd.R_drew)); exact HO_13.out⟩, ⟨by (with_reducible repeat (first | apply Kd.R_alloc | apply Kd.R_drewN | apply Kd.R_drew)); exact HO_15.out⟩, ⟨by (with_reducible repeat (first | apply Kd.R_alloc | apply Kd.R_drewN | apply Kd.R_drew)); exact HO196.out⟩, ⟨by repeat (first | (with_reducible first | exact HB.out | apply below_alloc | apply pw_below_drewN | apply below_drew1) | exact HB.out)⟩⟩
                      · rw [if_neg c37] at H
                        exact absurd H (by simp)
                    · rw [if_neg c36] at H
                      exact absurd H (by simp)
                  · rw [if_neg c35] at H
                    exact absurd H (by simp)
                · rw [if_neg c33] at H
                  exact absurd H (by simp)
              · rw [if_neg c32] at H
                exact absurd H (by simp)
            · rw [if_neg c31] at H
              have c31b0 : decide (x62_1 < ((l0.take (((ji15n : Int)) : Int).toNat).length : Int)) = false := decide_eq_false c31
              have c31b0m : decide (x62_1 < (ji15n : Int)) = false := by have h_ := c31b0; simp only [HLM.out] at h_; exact h_
              clear c31
              replace H := Option.bind_eq_some_iff.mp H
              obtain ⟨⟨t197, t200⟩, A510, H⟩ := H
              replace H : ((bakekeep3_printed.f).bind fun t201 => (if t201 = true then (if t170 = 0 then (if t174 = 0 then (if t200 = 0 then (if (t171.length : Int) = 4096 then (bakekeep3_PaperWays.j1 k1 t151 t152 t153 t154 t167 t171 t197 ((t197.length : Int) != 4096)) else (bakekeep3_PaperWays.j1 k1 t151 t152 t153 t154 t167 t171 t197 true)) else (bakekeep3_PaperWays.j1 k1 t151 t152 t153 t154 t167 t171 t197 true)) else (bakekeep3_PaperWays.j1 k1 t151 t152 t153 t154 t167 t171 t197 true)) else (bakekeep3_PaperWays.j1 k1 t151 t152 t153 t154 t167 t171 t197 true)) else (bakekeep3_PaperWays.j1 k1 t151 t152 t153 t154 t167 t171 t197 true))) = some r := H
              have A51 := Aside0.mk A510
              clear A510
              have HC52 := Aside0.mk H
              clear H
              obtain ⟨Ao53, co53, eo53⟩ := Kd.R_slice HO_17.out
              subst eo53
              go_upto_region 13 with (first | ((with_reducible refine gate_callee (f := 45) rfl ?_); refine goesL_ (some 86) rfl rfl Try.func45 (by kernel_rfl) rfl #[.slice Ao53 x17_1.length co53] rfl (by (try simp only [List.map_toArray, List.map_cons, List.map_nil]); first | done | rfl | (simp only [List.length_drop, List.length_take]; rfl)) ?_; (with_reducible refine (paper_Plot.calls k1 (fun k_ => some k_ = (.slice Ao53 x17_1.length co53 : Value).ownBlock) _ _ x17_1 t197 t200 _ ?side1 A51.out).mono ?_); (case side1 => exact Kd.R_V (Kd.R_tight rfl (Kd.R_apart' (Kd.R_apart' (HO_17.out) (Kd.R_typed HO_13.out) (by decide)) (Kd.R_typed HO_15.out) (by decide)))); rintro e w54 ⟨v198, rfl, ho0, hb⟩; refine ⟨_, rfl, ?_⟩; have n0_ := Aside0.mk (Kd.R_elder' (by (with_reducible repeat (first | apply Kd.R_alloc | apply Kd.R_drewN | apply Kd.R_drew)); exact HO_13.out) (Kd.R_base ho0) hb); have n1_ := Aside0.mk (Kd.R_elder' (by (with_reducible repeat (first | apply Kd.R_alloc | apply Kd.R_drewN | apply Kd.R_drew)); exact HO_15.out) (Kd.R_base ho0) hb); have n2_ := Aside0.mk (Kd.R_below (by (with_reducible repeat (first | apply Kd.R_alloc | apply Kd.R_drewN | apply Kd.R_drew)); exact HO_17.out) hb); have n3_ := Aside0.mk (Kd.R_lower (Kd.R_new' (Kd.R_new' (Kd.R_mono (ok' := fun k_ => True) ho0 (fun _ hk_ => trivial)) (Kd.R_lt (by (with_reducible repeat (first | apply Kd.R_alloc | apply Kd.R_drewN | apply Kd.R_drew)); exact HO_13.out))) (Kd.R_lt (by (with_reducible repeat (first | apply Kd.R_alloc | apply Kd.R_drewN | apply Kd.R_drew)); exact HO_15.out))) (below_size (by repeat (first | (with_reducible first | exact HB.out | apply below_alloc | apply pw_below_drewN | apply below_drew1) | exact HB.out)))); have n4_ := Aside0.mk (below_step (by repeat (first | (with_reducible first | exact HB.out | apply below_alloc | apply pw_below_drewN | apply below_drew1) | exact HB.out)) hb); clear HO_13; clear HO_15; clear HO_17; clear HB; have HO_13 := n0_; have HO_15 := n1_; have HO_17 := n2_; have HO199 := n3_; have HB := n4_; clear n0_ n1_ n2_ n3_ n4_; (try clear hb); (try clear hb2); (try clear hk); (try clear hi); (try clear ho0)))
              (try simp only [Act.put, List.setIfInBounds_toArray, List.set_cons_zero, List.set_cons_succ])
              go_cut [112] (fun v112 wc => ∃ (kq : Nat) (x112_51 : Bool), v112 = .bool x112_51 ∧ Aside0 (bakekeep3_PaperWays.j1 kq t151 t152 t153 t154 t167 t171 t197 x112_51 = some r) ∧ Aside0 (kq ≤ k1) ∧ Aside0 (Kd.R Kd.bool 4 wc w.heap.size (fun k_ => some k_ ≠ (v172 : Value).ownBlock ∧ some k_ ≠ (v198 : Value).ownBlock) v168 t167) ∧ Aside0 (Kd.R Kd.bool 4 wc w.heap.size (fun k_ => some k_ ≠ (v168 : Value).ownBlock ∧ some k_ ≠ (v198 : Value).ownBlock) v172 t171) ∧ Aside0 (Kd.R Kd.bool 4 wc w.heap.size (fun k_ => some k_ ≠ (v168 : Value).ownBlock ∧ some k_ ≠ (v172 : Value).ownBlock) v198 t197) ∧ Aside0 (Below w.heap.size w wc))
              case first =>
                have H := HC52.out
                clear HC52
                replace H := Option.bind_eq_some_iff.mp H
                obtain ⟨t201, A550, H⟩ := H
                replace H : (if t201 = true then (if t170 = 0 then (if t174 = 0 then (if t200 = 0 then (if (t171.length : Int) = 4096 then (bakekeep3_PaperWays.j1 k1 t151 t152 t153 t154 t167 t171 t197 ((t197.length : Int) != 4096)) else (bakekeep3_PaperWays.j1 k1 t151 t152 t153 t154 t167 t171 t197 true)) else (bakekeep3_PaperWays.j1 k1 t151 t152 t153 t154 t167 t171 t197 true)) else (bakekeep3_PaperWays.j1 k1 t151 t152 t153 t154 t167 t171 t197 true)) else (bakekeep3_PaperWays.j1 k1 t151 t152 t153 t154 t167 t171 t197 true)) else (bakekeep3_PaperWays.j1 k1 t151 t152 t153 t154 t167 t171 t197 true)) = some r := H
                have A55 := Aside0.mk A550
                clear A550
                by_cases c56 : t201 = true
                · subst c56
                  have H1 : (if t170 = 0 then (if t174 = 0 then (if t200 = 0 then (if (t171.length : Int) = 4096 then (bakekeep3_PaperWays.j1 k1 t151 t152 t153 t154 t167 t171 t197 ((t197.length : Int) != 4096)) else (bakekeep3_PaperWays.j1 k1 t151 t152 t153 t154 t167 t171 t197 true)) else (bakekeep3_PaperWays.j1 k1 t151 t152 t153 t154 t167 t171 t197 true)) else (bakekeep3_PaperWays.j1 k1 t151 t152 t153 t154 t167 t171 t197 true)) else (bakekeep3_PaperWays.j1 k1 t151 t152 t153 t154 t167 t171 t197 true)) = some r := by rw [if_pos rfl] at H; exact H
                  clear H
                  have H := H1
                  clear H1
                  by_cases c57 : t170 = 0
                  · rw [if_pos c57] at H
                    have c57b0 : (t170 == 0) = true := beq_iff_eq.mpr c57
                    have c57b1 : (t170 != 0) = false := bne_eq_false_iff_eq.mpr c57
                    clear c57
                    (first | rw [c57b0] | (simp only [i64_w, i32_w]; rw [c57b0]) | skip)
                    by_cases c58 : t174 = 0
                    · rw [if_pos c58] at H
                      have c58b0 : (t174 == 0) = true := beq_iff_eq.mpr c58
                      have c58b1 : (t174 != 0) = false := bne_eq_false_iff_eq.mpr c58
                      clear c58
                      by_cases c59 : t200 = 0
                      · rw [if_pos c59] at H
                        have c59b0 : (t200 == 0) = true := beq_iff_eq.mpr c59
                        have c59b1 : (t200 != 0) = false := bne_eq_false_iff_eq.mpr c59
                        clear c59
                        by_cases c60 : (t171.length : Int) = 4096
                        · rw [if_pos c60] at H
                          have c60b0 : ((t171.length : Int) == 4096) = true := beq_iff_eq.mpr c60
                          have c60b1 : ((t171.length : Int) != 4096) = false := bne_eq_false_iff_eq.mpr c60
                          clear c60
                          have H' := Aside0.mk H
                          clear H
                          go_wp2_with (first | ((with_reducible refine gate_callee (f := 46) rfl ?_); refine goesL_ (some 89) rfl rfl Try.func46 (by kernel_rfl) rfl #[] rfl (by (try simp only [List.map_toArray, List.map_cons, List.map_nil]); first | done | rfl | (simp only [List.length_drop, List.length_take]; rfl)) ?_; (with_reducible refine (bakekeep3_printed.calls  true _ A55.out).mono ?_); rintro e w61 ⟨rfl, hb⟩; refine ⟨_, rfl, ?_⟩; have n0_ := Aside0.mk (Kd.R_below (by (with_reducible repeat (first | apply Kd.R_alloc | apply Kd.R_drewN | apply Kd.R_drew)); exact HO_13.out) hb); have n1_ := Aside0.mk (Kd.R_below (by (with_reducible repeat (first | apply Kd.R_alloc | apply Kd.R_drewN | apply Kd.R_drew)); exact HO_15.out) hb); have n2_ := Aside0.mk (Kd.R_below (by (with_reducible repeat (first | apply Kd.R_alloc | apply Kd.R_drewN | apply Kd.R_drew)); exact HO_17.out) hb); have n3_ := Aside0.mk (Kd.R_below (by (with_reducible repeat (first | apply Kd.R_alloc | apply Kd.R_drewN | apply Kd.R_drew)); exact HO199.out) hb); have n4_ := Aside0.mk (below_step (by repeat (first | (with_reducible first | exact HB.out | apply below_alloc | apply pw_below_drewN | apply below_drew1) | exact HB.out)) hb); clear HO_13; clear HO_15; clear HO_17; clear HO199; clear HB; have HO_13 := n0_; have HO_15 := n1_; have HO_17 := n2_; have HO199 := n3_; have HB := n4_; clear n0_ n1_ n2_ n3_ n4_; (try clear hb); (try clear hb2); (try clear hk); (try clear hi); obtain ⟨Ao62, co62, eo62⟩ := Kd.R_slice HO_15.out; subst eo62; obtain ⟨Ao63, co63, eo63⟩ := Kd.R_slice HO199.out; subst eo63))
                          go_meet
                          case rel => exact ⟨_, (((t197.length : Int) != 4096)), (by first | rfl | (simp; done) | (simp [*]; done)), H', ⟨by have := HK1.out; first | omega | exact Nat.le_refl _⟩, ⟨by (with_reducible repeat (first | apply Kd.R_alloc | apply Kd.R_drewN | apply Kd.R_drew)); exact HO_13.out⟩, ⟨by (with_reducible repeat (first | apply Kd.R_alloc | apply Kd.R_drewN | apply Kd.R_drew)); exact HO_15.out⟩, ⟨by (with_reducible repeat (first | apply Kd.R_alloc | apply Kd.R_drewN | apply Kd.R_drew)); exact Kd.R_mono HO199.out (fun _ hk => ⟨hk.1.2, hk.2⟩)⟩, ⟨by repeat (first | (with_reducible first | exact HB.out | apply below_alloc | apply pw_below_drewN | apply below_drew1) | exact HB.out)⟩⟩
                        · rw [if_neg c60] at H
                          have c60b0 : ((t171.length : Int) == 4096) = false := beq_eq_false_iff_ne.mpr c60
                          have c60b1 : ((t171.length : Int) != 4096) = true := bne_iff_ne.mpr c60
                          have H' := Aside0.mk H
                          clear H
                          go_wp2_with (first | ((with_reducible refine gate_callee (f := 46) rfl ?_); refine goesL_ (some 89) rfl rfl Try.func46 (by kernel_rfl) rfl #[] rfl (by (try simp only [List.map_toArray, List.map_cons, List.map_nil]); first | done | rfl | (simp only [List.length_drop, List.length_take]; rfl)) ?_; (with_reducible refine (bakekeep3_printed.calls  true _ A55.out).mono ?_); rintro e w64 ⟨rfl, hb⟩; refine ⟨_, rfl, ?_⟩; have n0_ := Aside0.mk (Kd.R_below (by (with_reducible repeat (first | apply Kd.R_alloc | apply Kd.R_drewN | apply Kd.R_drew)); exact HO_13.out) hb); have n1_ := Aside0.mk (Kd.R_below (by (with_reducible repeat (first | apply Kd.R_alloc | apply Kd.R_drewN | apply Kd.R_drew)); exact HO_15.out) hb); have n2_ := Aside0.mk (Kd.R_below (by (with_reducible repeat (first | apply Kd.R_alloc | apply Kd.R_drewN | apply Kd.R_drew)); exact HO_17.out) hb); have n3_ := Aside0.mk (Kd.R_below (by (with_reducible repeat (first | apply Kd.R_alloc | apply Kd.R_drewN | apply Kd.R_drew)); exact HO199.out) hb); have n4_ := Aside0.mk (below_step (by repeat (first | (with_reducible first | exact HB.out | apply below_alloc | apply pw_below_drewN | apply below_drew1) | exact HB.out)) hb); clear HO_13; clear HO_15; clear HO_17; clear HO199; clear HB; have HO_13 := n0_; have HO_15 := n1_; have HO_17 := n2_; have HO199 := n3_; have HB := n4_; clear n0_ n1_ n2_ n3_ n4_; (try clear hb); (try clear hb2); (try clear hk); (try clear hi); obtain ⟨Ao65, co65, eo65⟩ := Kd.R_slice HO_15.out; subst eo65))
                          go_meet
                          case rel => exact ⟨_, (true), (by first | rfl | (simp; done) | (simp [*]; done)), H', ⟨by have := HK1.out; first | omega | exact Nat.le_refl _⟩, ⟨by (with_reducible repeat (first | apply Kd.R_alloc | apply Kd.R_drewN | apply Kd.R_drew)); exact HO_13.out⟩, ⟨by (with_reducible repeat (first | apply Kd.R_alloc | apply Kd.R_drewN | apply Kd.R_drew)); exact HO_15.out⟩, ⟨by (with_reducible repeat (first | apply Kd.R_alloc | apply Kd.R_drewN | apply Kd.R_drew)); exact Kd.R_mono HO199.out (fun _ hk => ⟨hk.1.2, hk.2⟩)⟩, ⟨by repeat (first | (with_reducible first | exact HB.out | apply below_alloc | apply pw_below_drewN | apply below_drew1) | exact HB.out)⟩⟩
                      · rw [if_neg c59] at H
                        have c59b0 : (t200 == 0) = false := beq_eq_false_iff_ne.mpr c59
                        have c59b1 : (t200 != 0) = true := bne_iff_ne.mpr c59
                        have H' := Aside0.mk H
                        clear H
                        go_wp2_with (first | ((with_reducible refine gate_callee (f := 46) rfl ?_); refine goesL_ (some 89) rfl rfl Try.func46 (by kernel_rfl) rfl #[] rfl (by (try simp only [List.map_toArray, List.map_cons, List.map_nil]); first | done | rfl | (simp only [List.length_drop, List.length_take]; rfl)) ?_; (with_reducible refine (bakekeep3_printed.calls  true _ A55.out).mono ?_); rintro e w66 ⟨rfl, hb⟩; refine ⟨_, rfl, ?_⟩; have n0_ := Aside0.mk (Kd.R_below (by (with_reducible repeat (first | apply Kd.R_alloc | apply Kd.R_drewN | apply Kd.R_drew)); exact HO_13.out) hb); have n1_ := Aside0.mk (Kd.R_below (by (with_reducible repeat (first | apply Kd.R_alloc | apply Kd.R_drewN | apply Kd.R_drew)); exact HO_15.out) hb); have n2_ := Aside0.mk (Kd.R_below (by (with_reducible repeat (first | apply Kd.R_alloc | apply Kd.R_drewN | apply Kd.R_drew)); exact HO_17.out) hb); have n3_ := Aside0.mk (Kd.R_below (by (with_reducible repeat (first | apply Kd.R_alloc | apply Kd.R_drewN | apply Kd.R_drew)); exact HO199.out) hb); have n4_ := Aside0.mk (below_step (by repeat (first | (with_reducible first | exact HB.out | apply below_alloc | apply pw_below_drewN | apply below_drew1) | exact HB.out)) hb); clear HO_13; clear HO_15; clear HO_17; clear HO199; clear HB; have HO_13 := n0_; have HO_15 := n1_; have HO_17 := n2_; have HO199 := n3_; have HB := n4_; clear n0_ n1_ n2_ n3_ n4_; (try clear hb); (try clear hb2); (try clear hk); (try clear hi)))
                        go_meet
                        case rel => exact ⟨_, (true), (by first | rfl | (simp; done) | (simp [*]; done)), H', ⟨by have := HK1.out; first | omega | exact Nat.le_refl _⟩, ⟨by (with_reducible repeat (first | apply Kd.R_alloc | apply Kd.R_drewN | apply Kd.R_drew)); exact HO_13.out⟩, ⟨by (with_reducible repeat (first | apply Kd.R_alloc | apply Kd.R_drewN | apply Kd.R_drew)); exact HO_15.out⟩, ⟨by (with_reducible repeat (first | apply Kd.R_alloc | apply Kd.R_drewN | apply Kd.R_drew)); exact Kd.R_mono HO199.out (fun _ hk => ⟨hk.1.2, hk.2⟩)⟩, ⟨by repeat (first | (with_reducible first | exact HB.out | apply below_alloc | apply pw_below_drewN | apply below_drew1) | exact HB.out)⟩⟩
                    · rw [if_neg c58] at H
                      have c58b0 : (t174 == 0) = false := beq_eq_false_iff_ne.mpr c58
                      have c58b1 : (t174 != 0) = true := bne_iff_ne.mpr c58
                      have H' := Aside0.mk H
                      clear H
                      go_wp2_with (first | ((with_reducible refine gate_callee (f := 46) rfl ?_); refine goesL_ (some 89) rfl rfl Try.func46 (by kernel_rfl) rfl #[] rfl (by (try simp only [List.map_toArray, List.map_cons, List.map_nil]); first | done | rfl | (simp only [List.length_drop, List.length_take]; rfl)) ?_; (with_reducible refine (bakekeep3_printed.calls  true _ A55.out).mono ?_); rintro e w67 ⟨rfl, hb⟩; refine ⟨_, rfl, ?_⟩; have n0_ := Aside0.mk (Kd.R_below (by (with_reducible repeat (first | apply Kd.R_alloc | apply Kd.R_drewN | apply Kd.R_drew)); exact HO_13.out) hb); have n1_ := Aside0.mk (Kd.R_below (by (with_reducible repeat (first | apply Kd.R_alloc | apply Kd.R_drewN | apply Kd.R_drew)); exact HO_15.out) hb); have n2_ := Aside0.mk (Kd.R_below (by (with_reducible repeat (first | apply Kd.R_alloc | apply Kd.R_drewN | apply Kd.R_drew)); exact HO_17.out) hb); have n3_ := Aside0.mk (Kd.R_below (by (with_reducible repeat (first | apply Kd.R_alloc | apply Kd.R_drewN | apply Kd.R_drew)); exact HO199.out) hb); have n4_ := Aside0.mk (below_step (by repeat (first | (with_reducible first | exact HB.out | apply below_alloc | apply pw_below_drewN | apply below_drew1) | exact HB.out)) hb); clear HO_13; clear HO_15; clear HO_17; clear HO199; clear HB; have HO_13 := n0_; have HO_15 := n1_; have HO_17 := n2_; have HO199 := n3_; have HB := n4_; clear n0_ n1_ n2_ n3_ n4_; (try clear hb); (try clear hb2); (try clear hk); (try clear hi)))
                      go_meet
                      case rel => exact ⟨_, (true), (by first | rfl | (simp; done) | (simp [*]; done)), H', ⟨by have := HK1.out; first | omega | exact Nat.le_refl _⟩, ⟨by (with_reducible repeat (first | apply Kd.R_alloc | apply Kd.R_drewN | apply Kd.R_drew)); exact HO_13.out⟩, ⟨by (with_reducible repeat (first | apply Kd.R_alloc | apply Kd.R_drewN | apply Kd.R_drew)); exact HO_15.out⟩, ⟨by (with_reducible repeat (first | apply Kd.R_alloc | apply Kd.R_drewN | apply Kd.R_drew)); exact Kd.R_mono HO199.out (fun _ hk => ⟨hk.1.2, hk.2⟩)⟩, ⟨by repeat (first | (with_reducible first | exact HB.out | apply below_alloc | apply pw_below_drewN | apply below_drew1) | exact HB.out)⟩⟩
                  · rw [if_neg c57] at H
                    have c57b0 : (t170 == 0) = false := beq_eq_false_iff_ne.mpr c57
                    have c57b1 : (t170 != 0) = true := bne_iff_ne.mpr c57
                    (first | rw [c57b0] | (simp only [i64_w, i32_w]; rw [c57b0]) | skip)
                    have H' := Aside0.mk H
                    clear H
                    go_wp2_with (first | ((with_reducible refine gate_callee (f := 46) rfl ?_); refine goesL_ (some 89) rfl rfl Try.func46 (by kernel_rfl) rfl #[] rfl (by (try simp only [List.map_toArray, List.map_cons, List.map_nil]); first | done | rfl | (simp only [List.length_drop, List.length_take]; rfl)) ?_; (with_reducible refine (bakekeep3_printed.calls  true _ A55.out).mono ?_); rintro e w68 ⟨rfl, hb⟩; refine ⟨_, rfl, ?_⟩; have n0_ := Aside0.mk (Kd.R_below (by (with_reducible repeat (first | apply Kd.R_alloc | apply Kd.R_drewN | apply Kd.R_drew)); exact HO_13.out) hb); have n1_ := Aside0.mk (Kd.R_below (by (with_reducible repeat (first | apply Kd.R_alloc | apply Kd.R_drewN | apply Kd.R_drew)); exact HO_15.out) hb); have n2_ := Aside0.mk (Kd.R_below (by (with_reducible repeat (first | apply Kd.R_alloc | apply Kd.R_drewN | apply Kd.R_drew)); exact HO_17.out) hb); have n3_ := Aside0.mk (Kd.R_below (by (with_reducible repeat (first | apply Kd.R_alloc | apply Kd.R_drewN | apply Kd.R_drew)); exact HO199.out) hb); have n4_ := Aside0.mk (below_step (by repeat (first | (with_reducible first | exact HB.out | apply below_alloc | apply pw_below_drewN | apply below_drew1) | exact HB.out)) hb); clear HO_13; clear HO_15; clear HO_17; clear HO199; clear HB; have HO_13 := n0_; have HO_15 := n1_; have HO_17 := n2_; have HO199 := n3_; have HB := n4_; clear n0_ n1_ n2_ n3_ n4_; (try clear hb); (try clear hb2); (try clear hk); (try clear hi)))
                    go_meet
                    case rel => exact ⟨_, (true), (by first | rfl | (simp; done) | (simp [*]; done)), H', ⟨by have := HK1.out; first | omega | exact Nat.le_refl _⟩, ⟨by (with_reducible repeat (first | apply Kd.R_alloc | apply Kd.R_drewN | apply Kd.R_drew)); exact HO_13.out⟩, ⟨by (with_reducible repeat (first | apply Kd.R_alloc | apply Kd.R_drewN | apply Kd.R_drew)); exact HO_15.out⟩, ⟨by (with_reducible repeat (first | apply Kd.R_alloc | apply Kd.R_drewN | apply Kd.R_drew)); exact Kd.R_mono HO199.out (fun _ hk => ⟨hk.1.2, hk.2⟩)⟩, ⟨by repeat (first | (with_reducible first | exact HB.out | apply below_alloc | apply pw_below_drewN | apply below_drew1) | exact HB.out)⟩⟩
                · replace c56 := Bool.eq_false_iff.mpr c56
                  subst c56
                  have H1 : (bakekeep3_PaperWays.j1 k1 t151 t152 t153 t154 t167 t171 t197 true) = some r := by rw [if_neg (show ¬ (false = true) by decide)] at H; exact H
                  clear H
                  have H := H1
                  clear H1
                  have H' := Aside0.mk H
                  clear H
                  go_wp2_with (first | ((with_reducible refine gate_callee (f := 46) rfl ?_); refine goesL_ (some 89) rfl rfl Try.func46 (by kernel_rfl) rfl #[] rfl (by (try simp only [List.map_toArray, List.map_cons, List.map_nil]); first | done | rfl | (simp only [List.length_drop, List.length_take]; rfl)) ?_; (with_reducible refine (bakekeep3_printed.calls  false _ A55.out).mono ?_); rintro e w69 ⟨rfl, hb⟩; refine ⟨_, rfl, ?_⟩; have n0_ := Aside0.mk (Kd.R_below (by (with_reducible repeat (first | apply Kd.R_alloc | apply Kd.R_drewN | apply Kd.R_drew)); exact HO_13.out) hb); have n1_ := Aside0.mk (Kd.R_below (by (with_reducible repeat (first | apply Kd.R_alloc | apply Kd.R_drewN | apply Kd.R_drew)); exact HO_15.out) hb); have n2_ := Aside0.mk (Kd.R_below (by (with_reducible repeat (first | apply Kd.R_alloc | apply Kd.R_drewN | apply Kd.R_drew)); exact HO_17.out) hb); have n3_ := Aside0.mk (Kd.R_below (by (with_reducible repeat (first | apply Kd.R_alloc | apply Kd.R_drewN | apply Kd.R_drew)); exact HO199.out) hb); have n4_ := Aside0.mk (below_step (by repeat (first | (with_reducible first | exact HB.out | apply below_alloc | apply pw_below_drewN | apply below_drew1) | exact HB.out)) hb); clear HO_13; clear HO_15; clear HO_17; clear HO199; clear HB; have HO_13 := n0_; have HO_15 := n1_; have HO_17 := n2_; have HO199 := n3_; have HB := n4_; clear n0_ n1_ n2_ n3_ n4_; (try clear hb); (try clear hb2); (try clear hk); (try clear hi)))
                  go_meet
                  case rel => exact ⟨_, (true), (by first | rfl | (simp; done) | (simp [*]; done)), H', ⟨by have := HK1.out; first | omega | exact Nat.le_refl _⟩, ⟨by (with_reducible repeat (first | apply Kd.R_alloc | apply Kd.R_drewN | apply Kd.R_drew)); exact HO_13.out⟩, ⟨by (with_reducible repeat (first | apply Kd.R_alloc | apply Kd.R_drewN | apply Kd.R_drew)); exact HO_15.out⟩, ⟨by (with_reducible repeat (first | apply Kd.R_alloc | apply Kd.R_drewN | apply Kd.R_drew)); exact Kd.R_mono HO199.out (fun _ hk => ⟨hk.1.2, hk.2⟩)⟩, ⟨by repeat (first | (with_reducible first | exact HB.out | apply below_alloc | apply pw_below_drewN | apply below_drew1) | exact HB.out)⟩⟩
              case rest =>
                clear HC52
                try clear c1
                try clear p1
                try clear q1
                try clear hx1
                try clear p2
                try clear c3
                try clear p3
                try clear c4
                try clear c5
                try clear c6
                try clear p6
                try clear c11
                try clear c15
                try clear c16
                try clear c16b0
                try clear c16b1
                try clear c17
                try clear c17b0
                try clear c17b1
                try clear p17
                try clear q17
                try clear hx17
                try clear c19
                try clear p19
                try clear q19
                try clear hx19
                try clear c31
                try clear c31b0
                try clear c32
                try clear c32b0
                try clear c33
                try clear c33b0
                try clear c35
                try clear c35b0
                try clear c36
                try clear c36b0
                try clear c37
                try clear c44
                try clear c45
                try clear c46
                try clear c56
                try clear c57
                try clear c57b0
                try clear c57b1
                try clear c58
                try clear c58b0
                try clear c58b1
                try clear c59
                try clear c59b0
                try clear c59b1
                try clear c60
                try clear c60b0
                try clear c60b1
                try clear p64
                try clear hx179_0
                try clear hx193_0
                try clear p179
                try clear p193
                try clear p2
                try clear p3
                try clear q179
                try clear q193
                obtain ⟨kq, x112_51, rfl, HA, HJ51, HO_13, HO_15, HO_20, HB⟩ := hcut
                cases kq with
                | zero => exact absurd HA.out (by simp [bakekeep3_PaperWays.j1])
                | succ kj51 =>
                  have H := HA.out
                  clear HA
                  simp only [bakekeep3_PaperWays.j1] at H
                  by_cases c70 : x112_51 = true
                  · subst c70
                    have H1 : (some false) = some r := by rw [if_pos rfl] at H; exact H
                    clear H
                    have H := H1
                    clear H1
                    obtain rfl := Option.some.inj H
                    go_wp2
                    go_ret
                    exact ⟨by first | rfl | (simp [errW_none, errW_some] <;> rfl) | (simp only [← hji15]; first | rfl | (simp [errW_none, errW_some] <;> rfl)) | (simp [*, errW_none, errW_some] <;> rfl), by repeat (first | (with_reducible first | exact HB.out | apply below_alloc | apply pw_below_drewN | apply below_drew1) | exact HB.out)⟩
                  · replace c70 := Bool.eq_false_iff.mpr c70
                    subst c70
                    have H1 : (bakekeep3_PaperWays.l1 kj51 t151 t152 t153 t154 t167 t171 t197 (t171.length : Int) 0) = some r := by rw [if_neg (show ¬ (false = true) by decide)] at H; exact H
                    clear H
                    have H := H1
                    clear H1
                    have H' := Aside0.mk H
                    clear H
                    obtain ⟨Ao71, co71, eo71⟩ := Kd.R_slice HO_15.out
                    subst eo71
                    go_wp2
                    go_loopg [115] kj51 (fun kq v115 w' => ∃ (x115_3 : Int), v115 = .int .i64 x115_3 ∧ Aside0 (bakekeep3_PaperWays.l1 kq t151 t152 t153 t154 t167 t171 t197 (t171.length : Int) x115_3 = some r) ∧ Aside0 (kq ≤ kj51) ∧ Aside0 (Kd.R Kd.bool 4 w' w.heap.size (fun k_ => some k_ ≠ ((.slice Ao71 t171.length co71) : Value).ownBlock ∧ some k_ ≠ (v198 : Value).ownBlock) v168 t167) ∧ Aside0 (Kd.R Kd.bool 4 w' w.heap.size (fun k_ => some k_ ≠ (v168 : Value).ownBlock ∧ some k_ ≠ (v198 : Value).ownBlock) (.slice Ao71 t171.length co71) t171) ∧ Aside0 (Kd.R Kd.bool 4 w' w.heap.size (fun k_ => some k_ ≠ (v168 : Value).ownBlock ∧ some k_ ≠ ((.slice Ao71 t171.length co71) : Value).ownBlock) v198 t197) ∧ Aside0 (Below w.heap.size w w'))
                    case atStart => exact ⟨(0), (by first | rfl | (simp; done) | (simp [*]; done)), H', ⟨Nat.le_refl _⟩, ⟨by (with_reducible repeat (first | apply Kd.R_alloc | apply Kd.R_drewN | apply Kd.R_drew)); exact HO_13.out⟩, ⟨by (with_reducible repeat (first | apply Kd.R_alloc | apply Kd.R_drewN | apply Kd.R_drew)); exact HO_15.out⟩, ⟨by (with_reducible repeat (first | apply Kd.R_alloc | apply Kd.R_drewN | apply Kd.R_drew)); exact HO_20.out⟩, ⟨by repeat (first | (with_reducible first | exact HB.out | apply below_alloc | apply pw_below_drewN | apply below_drew1) | exact HB.out)⟩⟩
                    case round =>
                      clear H'
                      try clear c1
                      try clear p1
                      try clear q1
                      try clear hx1
                      try clear p2
                      try clear c3
                      try clear p3
                      try clear c4
                      try clear c5
                      try clear c6
                      try clear p6
                      try clear c7
                      try clear c11
                      try clear c15
                      try clear c16
                      try clear c16b0
                      try clear c16b1
                      try clear c17
                      try clear c17b0
                      try clear c17b1
                      try clear p17
                      try clear q17
                      try clear hx17
                      try clear c19
                      try clear p19
                      try clear q19
                      try clear hx19
                      try clear c31
                      try clear c31b0
                      try clear c32
                      try clear c32b0
                      try clear c33
                      try clear c33b0
                      try clear c35
                      try clear c35b0
                      try clear c36
                      try clear c36b0
                      try clear c37
                      try clear c44
                      try clear c45
                      try clear c46
                      try clear c56
                      try clear c57
                      try clear c57b0
                      try clear c57b1
                      try clear c58
                      try clear c58b0
                      try clear c58b1
                      try clear c59
                      try clear c59b0
                      try clear c59b1
                      try clear c60
                      try clear c60b0
                      try clear c60b1
                      try clear p64
                      try clear c70
                      try clear hx179_0
                      try clear hx193_0
                      try clear p1
                      try clear p17
                      try clear p179
                      try clear p19
                      try clear p193
                      try clear p2
                      try clear p3
                      try clear p6
                      try clear p64
                      try clear q1
                      try clear q17
                      try clear q179
                      try clear q19
                      try clear q193
                      obtain ⟨x115_3, rfl, HA, HK3, HO_13, HO_15, HO_20, HB⟩ := hrel
                      cases gk with
                      | zero => exact absurd HA.out (by simp [bakekeep3_PaperWays.l1])
                      | succ k3 =>
                        have H := HA.out
                        clear HA
                        simp only [bakekeep3_PaperWays.l1] at H
                        by_cases c72 : x115_3 < (t171.length : Int)
                        · rw [if_pos c72] at H
                          have c72b0 : decide (x115_3 < (t171.length : Int)) = true := decide_eq_true c72
                          clear c72
                          by_cases c73 : 0 ≤ x115_3
                          · rw [if_pos c73] at H
                            have c73b0 : decide (0 ≤ x115_3) = true := decide_eq_true c73
                            clear c73
                            by_cases c74 : x115_3 < (t171.length : Int)
                            · rw [if_pos c74] at H
                              have c74b0 : decide (x115_3 < (t171.length : Int)) = true := decide_eq_true c74
                              clear c74
                              obtain ⟨bq75, hbq75⟩ : ∃ b_ : Bool, b_ = (rdOf false t171 x115_3) := ⟨_, rfl⟩
                              replace H : (if bq75 = true then (if x115_3 < (t197.length : Int) then (if rdOf false t197 x115_3 = true then (bakekeep3_PaperWays.l1 k3 t151 t152 t153 t154 t167 t171 t197 (t171.length : Int) (wrap64 (x115_3 + 1))) else (some false)) else (none)) else (bakekeep3_PaperWays.l1 k3 t151 t152 t153 t154 t167 t171 t197 (t171.length : Int) (wrap64 (x115_3 + 1)))) = some r := by rw [← hbq75] at H; exact H
                              have Nbq75 := Aside0.mk hbq75
                              clear hbq75
                              by_cases c76 : bq75 = true
                              · subst c76
                                have H1 : (if x115_3 < (t197.length : Int) then (if rdOf false t197 x115_3 = true then (bakekeep3_PaperWays.l1 k3 t151 t152 t153 t154 t167 t171 t197 (t171.length : Int) (wrap64 (x115_3 + 1))) else (some false)) else (none)) = some r := by rw [if_pos rfl] at H; exact H
                                clear H
                                have H := H1
                                clear H1
                                by_cases c77 : x115_3 < (t197.length : Int)
                                · rw [if_pos c77] at H
                                  have c77b0 : decide (x115_3 < (t197.length : Int)) = true := decide_eq_true c77
                                  clear c77
                                  obtain ⟨bq78, hbq78⟩ : ∃ b_ : Bool, b_ = (rdOf false t197 x115_3) := ⟨_, rfl⟩
                                  replace H : (if bq78 = true then (bakekeep3_PaperWays.l1 k3 t151 t152 t153 t154 t167 t171 t197 (t171.length : Int) (wrap64 (x115_3 + 1))) else (some false)) = some r := by rw [← hbq78] at H; exact H
                                  have Nbq78 := Aside0.mk hbq78
                                  clear hbq78
                                  by_cases c79 : bq78 = true
                                  · subst c79
                                    have H1 : (bakekeep3_PaperWays.l1 k3 t151 t152 t153 t154 t167 t171 t197 (t171.length : Int) (wrap64 (x115_3 + 1))) = some r := by rw [if_pos rfl] at H; exact H
                                    clear H
                                    have H := H1
                                    clear H1
                                    have H' := Aside0.mk H
                                    clear H
                                    have p202 : 0 ≤ (x115_3 : Int) := of_decide_eq_true (by first | (with_reducible assumption) | assumption)
                                    have q202 : x115_3 < (t171.length : Int) := of_decide_eq_true (by first | (with_reducible assumption) | assumption)
                                    obtain ⟨ad202, e202, hx202_0⟩ := Kd.at_bool (Kd.R_reads' HO_15.out).2.2 x115_3 p202 q202
                                    (try rw [← Nbq75.out] at hx202_0)
                                    (try rw [← Nbq78.out] at hx202_0)
                                    cases e202
                                    replace p202 := eq_true p202
                                    replace q202 := eq_true q202
                                    (try have q202m := (HLM.out _).symm.trans q202)
                                    obtain ⟨Ao80, co80, eo80⟩ := Kd.R_slice HO_20.out
                                    subst eo80
                                    have p203 : 0 ≤ (x115_3 : Int) := of_decide_eq_true (by first | (with_reducible assumption) | assumption)
                                    have q203 : x115_3 < (t197.length : Int) := of_decide_eq_true (by first | (with_reducible assumption) | assumption)
                                    obtain ⟨ad203, e203, hx203_0⟩ := Kd.at_bool (Kd.R_reads' HO_20.out).2.2 x115_3 p203 q203
                                    (try rw [← Nbq75.out] at hx203_0)
                                    (try rw [← Nbq78.out] at hx203_0)
                                    cases e203
                                    replace p203 := eq_true p203
                                    replace q203 := eq_true q203
                                    (try have q203m := (HLM.out _).symm.trans q203)
                                    go_wp2
                                    go_roundg k3
                                    case measure => have := HK1.out; have := HJ51.out; have := HK3.out; omega
                                    case rel => exact ⟨(wrap64 (x115_3 + 1)), (by first | rfl | (simp; done) | (simp [*]; done)), H', ⟨by have := HK1.out; have := HJ51.out; have := HK3.out; omega⟩, ⟨by (with_reducible repeat (first | apply Kd.R_alloc | apply Kd.R_drewN | apply Kd.R_drew)); exact HO_13.out⟩, ⟨by (with_reducible repeat (first | apply Kd.R_alloc | apply Kd.R_drewN | apply Kd.R_drew)); exact HO_15.out⟩, ⟨by (with_reducible repeat (first | apply Kd.R_alloc | apply Kd.R_drewN | apply Kd.R_drew)); exact HO_20.out⟩, ⟨by repeat (first | (with_reducible first | exact HB.out | apply below_alloc | apply pw_below_drewN | apply below_drew1) | exact HB.out)⟩⟩
                                  · replace c79 := Bool.eq_false_iff.mpr c79
                                    subst c79
                                    have H1 : (some false) = some r := by rw [if_neg (show ¬ (false = true) by decide)] at H; exact H
                                    clear H
                                    have H := H1
                                    clear H1
                                    obtain rfl := Option.some.inj H
                                    have p202 : 0 ≤ (x115_3 : Int) := of_decide_eq_true (by first | (with_reducible assumption) | assumption)
                                    have q202 : x115_3 < (t171.length : Int) := of_decide_eq_true (by first | (with_reducible assumption) | assumption)
                                    obtain ⟨ad202, e202, hx202_0⟩ := Kd.at_bool (Kd.R_reads' HO_15.out).2.2 x115_3 p202 q202
                                    (try rw [← Nbq75.out] at hx202_0)
                                    (try rw [← Nbq78.out] at hx202_0)
                                    cases e202
                                    replace p202 := eq_true p202
                                    replace q202 := eq_true q202
                                    (try have q202m := (HLM.out _).symm.trans q202)
                                    obtain ⟨Ao81, co81, eo81⟩ := Kd.R_slice HO_20.out
                                    subst eo81
                                    have p203 : 0 ≤ (x115_3 : Int) := of_decide_eq_true (by first | (with_reducible assumption) | assumption)
                                    have q203 : x115_3 < (t197.length : Int) := of_decide_eq_true (by first | (with_reducible assumption) | assumption)
                                    obtain ⟨ad203, e203, hx203_0⟩ := Kd.at_bool (Kd.R_reads' HO_20.out).2.2 x115_3 p203 q203
                                    (try rw [← Nbq75.out] at hx203_0)
                                    (try rw [← Nbq78.out] at hx203_0)
                                    cases e203
                                    replace p203 := eq_true p203
                                    replace q203 := eq_true q203
                                    (try have q203m := (HLM.out _).symm.trans q203)
                                    go_wp2
                                    go_ret
                                    exact ⟨by first | rfl | (simp [errW_none, errW_some] <;> rfl) | (simp only [← hji15]; first | rfl | (simp [errW_none, errW_some] <;> rfl)) | (simp [*, errW_none, errW_some] <;> rfl), by repeat (first | (with_reducible first | exact HB.out | apply below_alloc | apply pw_below_drewN | apply below_drew1) | exact HB.out)⟩
                                · rw [if_neg c77] at H
                                  exact absurd H (by simp)
                              · replace c76 := Bool.eq_false_iff.mpr c76
                                subst c76
                                have H1 : (bakekeep3_PaperWays.l1 k3 t151 t152 t153 t154 t167 t171 t197 (t171.length : Int) (wrap64 (x115_3 + 1))) = some r := by rw [if_neg (show ¬ (false = true) by decide)] at H; exact H
                                clear H
                                have H := H1
                                clear H1
                                have H' := Aside0.mk H
                                clear H
                                have p202 : 0 ≤ (x115_3 : Int) := of_decide_eq_true (by first | (with_reducible assumption) | assumption)
                                have q202 : x115_3 < (t171.length : Int) := of_decide_eq_true (by first | (with_reducible assumption) | assumption)
                                obtain ⟨ad202, e202, hx202_0⟩ := Kd.at_bool (Kd.R_reads' HO_15.out).2.2 x115_3 p202 q202
                                (try rw [← Nbq75.out] at hx202_0)
                                cases e202
                                replace p202 := eq_true p202
                                replace q202 := eq_true q202
                                (try have q202m := (HLM.out _).symm.trans q202)
                                go_wp2
                                go_roundg k3
                                case measure => have := HK1.out; have := HJ51.out; have := HK3.out; omega
                                case rel => exact ⟨(wrap64 (x115_3 + 1)), (by first | rfl | (simp; done) | (simp [*]; done)), H', ⟨by have := HK1.out; have := HJ51.out; have := HK3.out; omega⟩, ⟨by (with_reducible repeat (first | apply Kd.R_alloc | apply Kd.R_drewN | apply Kd.R_drew)); exact HO_13.out⟩, ⟨by (with_reducible repeat (first | apply Kd.R_alloc | apply Kd.R_drewN | apply Kd.R_drew)); exact HO_15.out⟩, ⟨by (with_reducible repeat (first | apply Kd.R_alloc | apply Kd.R_drewN | apply Kd.R_drew)); exact HO_20.out⟩, ⟨by repeat (first | (with_reducible first | exact HB.out | apply below_alloc | apply pw_below_drewN | apply below_drew1) | exact HB.out)⟩⟩
                            · rw [if_neg c74] at H
                              exact absurd H (by simp)
                          · rw [if_neg c73] at H
                            exact absurd H (by simp)
                        · rw [if_neg c72] at H
                          have c72b0 : decide (x115_3 < (t171.length : Int)) = false := decide_eq_false c72
                          clear c72
                          replace H := Option.bind_eq_some_iff.mp H
                          obtain ⟨t204, A820, H⟩ := H
                          replace H : (if t204 = 0 then ((paper_Ink.f k3 t171).bind fun t205 => (if t205 = (wrap64 (1 + (mx (mx (mx (wrap64 (t151 - t153)) (wrap64 (t153 - t151))) (wrap64 (t152 - t154))) (wrap64 (t154 - t152))))) then (if 0 ≤ (wrap64 ((wrap64 (t152 * 64)) + t151)) then (if (wrap64 ((wrap64 (t152 * 64)) + t151)) < (t171.length : Int) then (if rdOf false t171 (wrap64 ((wrap64 (t152 * 64)) + t151)) = true then (if 0 ≤ (wrap64 ((wrap64 (t154 * 64)) + t153)) then (if (wrap64 ((wrap64 (t154 * 64)) + t153)) < (t171.length : Int) then (some (rdOf false t171 (wrap64 ((wrap64 (t154 * 64)) + t153)))) else (none)) else (none)) else (some false)) else (none)) else (none)) else (some false))) else (some false)) = some r := H
                          have A82 := Aside0.mk A820
                          clear A820
                          by_cases c83 : t204 = 0
                          · rw [if_pos c83] at H
                            have c83b0 : (t204 == 0) = true := beq_iff_eq.mpr c83
                            have c83b1 : (t204 != 0) = false := bne_eq_false_iff_eq.mpr c83
                            clear c83
                            replace H := Option.bind_eq_some_iff.mp H
                            obtain ⟨t205, A840, H⟩ := H
                            replace H : (if t205 = (wrap64 (1 + (mx (mx (mx (wrap64 (t151 - t153)) (wrap64 (t153 - t151))) (wrap64 (t152 - t154))) (wrap64 (t154 - t152))))) then (if 0 ≤ (wrap64 ((wrap64 (t152 * 64)) + t151)) then (if (wrap64 ((wrap64 (t152 * 64)) + t151)) < (t171.length : Int) then (if rdOf false t171 (wrap64 ((wrap64 (t152 * 64)) + t151)) = true then (if 0 ≤ (wrap64 ((wrap64 (t154 * 64)) + t153)) then (if (wrap64 ((wrap64 (t154 * 64)) + t153)) < (t171.length : Int) then (some (rdOf false t171 (wrap64 ((wrap64 (t154 * 64)) + t153)))) else (none)) else (none)) else (some false)) else (none)) else (none)) else (some false)) = some r := H
                            have A84 := Aside0.mk A840
                            clear A840
                            obtain ⟨ji85, hji85⟩ : ∃ j_ : Int, (mx (wrap64 (t151 - t153)) (wrap64 (t153 - t151))) = j_ := ⟨_, rfl⟩
                            replace H : (if t205 = (wrap64 (1 + (mx (mx (ji85) (wrap64 (t152 - t154))) (wrap64 (t154 - t152))))) then (if 0 ≤ (wrap64 ((wrap64 (t152 * 64)) + t151)) then (if (wrap64 ((wrap64 (t152 * 64)) + t151)) < (t171.length : Int) then (if rdOf false t171 (wrap64 ((wrap64 (t152 * 64)) + t151)) = true then (if 0 ≤ (wrap64 ((wrap64 (t154 * 64)) + t153)) then (if (wrap64 ((wrap64 (t154 * 64)) + t153)) < (t171.length : Int) then (some (rdOf false t171 (wrap64 ((wrap64 (t154 * 64)) + t153)))) else (none)) else (none)) else (some false)) else (none)) else (none)) else (some false)) = some r := by first | (rw [hji85] at H; exact H) | (simp only [hji85] at H ⊢; exact H)
                            (try rw [hji85] at A82)
                            (try rw [hji85] at A84)
                            have hji85_ : (if (wrap64 (t151 - t153)) < (wrap64 (t153 - t151)) then (wrap64 (t153 - t151)) else (wrap64 (t151 - t153))) = ji85 := hji85
                            obtain ⟨ji86, hji86⟩ : ∃ j_ : Int, (mx (ji85) (wrap64 (t152 - t154))) = j_ := ⟨_, rfl⟩
                            replace H : (if t205 = (wrap64 (1 + (mx (ji86) (wrap64 (t154 - t152))))) then (if 0 ≤ (wrap64 ((wrap64 (t152 * 64)) + t151)) then (if (wrap64 ((wrap64 (t152 * 64)) + t151)) < (t171.length : Int) then (if rdOf false t171 (wrap64 ((wrap64 (t152 * 64)) + t151)) = true then (if 0 ≤ (wrap64 ((wrap64 (t154 * 64)) + t153)) then (if (wrap64 ((wrap64 (t154 * 64)) + t153)) < (t171.length : Int) then (some (rdOf false t171 (wrap64 ((wrap64 (t154 * 64)) + t153)))) else (none)) else (none)) else (some false)) else (none)) else (none)) else (some false)) = some r := by first | (rw [hji86] at H; exact H) | (simp only [hji86] at H ⊢; exact H)
                            (try rw [hji86] at A82)
                            (try rw [hji86] at A84)
                            have hji86_ : (if (ji85) < (wrap64 (t152 - t154)) then (wrap64 (t152 - t154)) else (ji85)) = ji86 := hji86
                            obtain ⟨ji87, hji87⟩ : ∃ j_ : Int, (mx (ji86) (wrap64 (t154 - t152))) = j_ := ⟨_, rfl⟩
                            replace H : (if t205 = (wrap64 (1 + (ji87))) then (if 0 ≤ (wrap64 ((wrap64 (t152 * 64)) + t151)) then (if (wrap64 ((wrap64 (t152 * 64)) + t151)) < (t171.length : Int) then (if rdOf false t171 (wrap64 ((wrap64 (t152 * 64)) + t151)) = true then (if 0 ≤ (wrap64 ((wrap64 (t154 * 64)) + t153)) then (if (wrap64 ((wrap64 (t154 * 64)) + t153)) < (t171.length : Int) then (some (rdOf false t171 (wrap64 ((wrap64 (t154 * 64)) + t153)))) else (none)) else (none)) else (some false)) else (none)) else (none)) else (some false)) = some r := by first | (rw [hji87] at H; exact H) | (simp only [hji87] at H ⊢; exact H)
                            (try rw [hji87] at A82)
                            (try rw [hji87] at A84)
                            have hji87_ : (if (ji86) < (wrap64 (t154 - t152)) then (wrap64 (t154 - t152)) else (ji86)) = ji87 := hji87
                            by_cases c88 : t205 = (wrap64 (1 + (ji87)))
                            · rw [if_pos c88] at H
                              have c88b0 : (t205 == (wrap64 (1 + (ji87)))) = true := beq_iff_eq.mpr c88
                              have c88b1 : (t205 != (wrap64 (1 + (ji87)))) = false := bne_eq_false_iff_eq.mpr c88
                              clear c88
                              obtain ⟨ji89, hji89⟩ : ∃ j_ : Int, (wrap64 ((wrap64 (t152 * 64)) + t151)) = j_ := ⟨_, rfl⟩
                              replace H : (if 0 ≤ (ji89) then (if (ji89) < (t171.length : Int) then (if rdOf false t171 (ji89) = true then (if 0 ≤ (wrap64 ((wrap64 (t154 * 64)) + t153)) then (if (wrap64 ((wrap64 (t154 * 64)) + t153)) < (t171.length : Int) then (some (rdOf false t171 (wrap64 ((wrap64 (t154 * 64)) + t153)))) else (none)) else (none)) else (some false)) else (none)) else (none)) = some r := by first | (rw [hji89] at H; exact H) | (simp only [hji89] at H ⊢; exact H)
                              (try rw [hji89] at A82)
                              (try rw [hji89] at A84)
                              have hji89w : (IntKind.i64.wrap ((wrap64 (t152 * 64)) + t151)) = ji89 := (i64_w _).trans hji89
                              by_cases c90 : 0 ≤ (ji89)
                              · rw [if_pos c90] at H
                                have c90b0 : decide (0 ≤ (ji89)) = true := decide_eq_true c90
                                clear c90
                                by_cases c91 : (ji89) < (t171.length : Int)
                                · rw [if_pos c91] at H
                                  have c91b0 : decide ((ji89) < (t171.length : Int)) = true := decide_eq_true c91
                                  clear c91
                                  obtain ⟨bq92, hbq92⟩ : ∃ b_ : Bool, b_ = (rdOf false t171 (ji89)) := ⟨_, rfl⟩
                                  replace H : (if bq92 = true then (if 0 ≤ (wrap64 ((wrap64 (t154 * 64)) + t153)) then (if (wrap64 ((wrap64 (t154 * 64)) + t153)) < (t171.length : Int) then (some (rdOf false t171 (wrap64 ((wrap64 (t154 * 64)) + t153)))) else (none)) else (none)) else (some false)) = some r := by rw [← hbq92] at H; exact H
                                  have Nbq92 := Aside0.mk hbq92
                                  clear hbq92
                                  by_cases c93 : bq92 = true
                                  · subst c93
                                    have H1 : (if 0 ≤ (wrap64 ((wrap64 (t154 * 64)) + t153)) then (if (wrap64 ((wrap64 (t154 * 64)) + t153)) < (t171.length : Int) then (some (rdOf false t171 (wrap64 ((wrap64 (t154 * 64)) + t153)))) else (none)) else (none)) = some r := by rw [if_pos rfl] at H; exact H
                                    clear H
                                    have H := H1
                                    clear H1
                                    obtain ⟨ji94, hji94⟩ : ∃ j_ : Int, (wrap64 ((wrap64 (t154 * 64)) + t153)) = j_ := ⟨_, rfl⟩
                                    replace H : (if 0 ≤ (ji94) then (if (ji94) < (t171.length : Int) then (some (rdOf false t171 (ji94))) else (none)) else (none)) = some r := by first | (rw [hji94] at H; exact H) | (simp only [hji94] at H ⊢; exact H)
                                    (try rw [hji94] at A82)
                                    (try rw [hji94] at A84)
                                    have hji94w : (IntKind.i64.wrap ((wrap64 (t154 * 64)) + t153)) = ji94 := (i64_w _).trans hji94
                                    by_cases c95 : 0 ≤ (ji94)
                                    · rw [if_pos c95] at H
                                      have c95b0 : decide (0 ≤ (ji94)) = true := decide_eq_true c95
                                      clear c95
                                      by_cases c96 : (ji94) < (t171.length : Int)
                                      · rw [if_pos c96] at H
                                        have c96b0 : decide ((ji94) < (t171.length : Int)) = true := decide_eq_true c96
                                        clear c96
                                        obtain rfl := Option.some.inj H
                                        obtain ⟨Ao97, co97, eo97⟩ := Kd.R_slice HO_13.out
                                        subst eo97
                                        go_wp2_with (first | ((with_reducible refine gate_callee (f := 47) rfl ?_); refine goesL_ (some 131) rfl rfl Try.func47 (by kernel_rfl) rfl #[.slice Ao97 t167.length co97] rfl (by (try simp only [List.map_toArray, List.map_cons, List.map_nil]); first | done | rfl | (simp only [List.length_drop, List.length_take]; rfl)) ?_; (with_reducible refine (paper_Ink.calls k3 _ _ t167 t204 _ ?side1 ?side2 A82.out).mono ?_); (case side1 => repeat (first | exact (Kd.R_reads' HO_13.out).2.2 | (with_reducible refine Kd.C_alloc ?_ _) | (with_reducible refine Kd.C_drewN ?_ _) | (with_reducible refine Kd.C_drew ?_))); (case side2 => exact (Kd.R_reads' HO_13.out).2.1); rintro e w' ⟨rfl, ⟨nd, rfl⟩⟩; refine ⟨_, rfl, ?_⟩) | (go_at_call 47; (with_reducible refine (paper_Ink.calls k3 _ _ t171 t205 _ ?side1 ?side2 A84.out).mono ?_); (case side1 => repeat (first | exact (Kd.R_reads' HO_15.out).2.2 | (with_reducible refine Kd.C_alloc ?_ _) | (with_reducible refine Kd.C_drewN ?_ _) | (with_reducible refine Kd.C_drew ?_))); (case side2 => exact (Kd.R_reads' HO_15.out).2.1); rintro e w' ⟨rfl, ⟨nd, rfl⟩⟩; have p206 : 0 ≤ ((ji89) : Int) := of_decide_eq_true (by first | (with_reducible assumption) | assumption); have q206 : (ji89) < (t171.length : Int) := of_decide_eq_true (by first | (with_reducible assumption) | assumption); obtain ⟨ad206, e206, hx206_0⟩ := Kd.at_bool (Kd.R_reads' HO_15.out).2.2 (ji89) p206 q206; (try rw [← Nbq92.out] at hx206_0); cases e206; replace p206 := eq_true p206; replace q206 := eq_true q206; have p207 : 0 ≤ ((ji94) : Int) := of_decide_eq_true (by first | (with_reducible assumption) | assumption); have q207 : (ji94) < (t171.length : Int) := of_decide_eq_true (by first | (with_reducible assumption) | assumption); obtain ⟨ad207, e207, hx207_0⟩ := Kd.at_bool (Kd.R_reads' HO_15.out).2.2 (ji94) p207 q207; (try rw [← Nbq92.out] at hx207_0); obtain rfl : ad206 = ad207 := (by injection e207); replace p207 := eq_true p207; replace q207 := eq_true q207))
                                        go_ret
                                        exact ⟨by first | rfl | (simp [errW_none, errW_some] <;> rfl) | (simp only [← hji15, ← hji85, ← hji86, ← hji87, ← hji89, ← hji94]; first | rfl | (simp [errW_none, errW_some] <;> rfl)) | (simp [*, errW_none, errW_some] <;> rfl), by repeat (first | (with_reducible first | exact HB.out | apply below_alloc | apply pw_below_drewN | apply below_drew1) | exact HB.out)⟩
                                      · rw [if_neg c96] at H
                                        exact absurd H (by simp)
                                    · rw [if_neg c95] at H
                                      exact absurd H (by simp)
                                  · replace c93 := Bool.eq_false_iff.mpr c93
                                    subst c93
                                    have H1 : (some false) = some r := by rw [if_neg (show ¬ (false = true) by decide)] at H; exact H
                                    clear H
                                    have H := H1
                                    clear H1
                                    obtain rfl := Option.some.inj H
                                    obtain ⟨Ao98, co98, eo98⟩ := Kd.R_slice HO_13.out
                                    subst eo98
                                    go_wp2_with (first | ((with_reducible refine gate_callee (f := 47) rfl ?_); refine goesL_ (some 131) rfl rfl Try.func47 (by kernel_rfl) rfl #[.slice Ao98 t167.length co98] rfl (by (try simp only [List.map_toArray, List.map_cons, List.map_nil]); first | done | rfl | (simp only [List.length_drop, List.length_take]; rfl)) ?_; (with_reducible refine (paper_Ink.calls k3 _ _ t167 t204 _ ?side1 ?side2 A82.out).mono ?_); (case side1 => repeat (first | exact (Kd.R_reads' HO_13.out).2.2 | (with_reducible refine Kd.C_alloc ?_ _) | (with_reducible refine Kd.C_drewN ?_ _) | (with_reducible refine Kd.C_drew ?_))); (case side2 => exact (Kd.R_reads' HO_13.out).2.1); rintro e w' ⟨rfl, ⟨nd, rfl⟩⟩; refine ⟨_, rfl, ?_⟩) | (go_at_call 47; (with_reducible refine (paper_Ink.calls k3 _ _ t171 t205 _ ?side1 ?side2 A84.out).mono ?_); (case side1 => repeat (first | exact (Kd.R_reads' HO_15.out).2.2 | (with_reducible refine Kd.C_alloc ?_ _) | (with_reducible refine Kd.C_drewN ?_ _) | (with_reducible refine Kd.C_drew ?_))); (case side2 => exact (Kd.R_reads' HO_15.out).2.1); rintro e w' ⟨rfl, ⟨nd, rfl⟩⟩; have p206 : 0 ≤ ((ji89) : Int) := of_decide_eq_true (by first | (with_reducible assumption) | assumption); have q206 : (ji89) < (t171.length : Int) := of_decide_eq_true (by first | (with_reducible assumption) | assumption); obtain ⟨ad206, e206, hx206_0⟩ := Kd.at_bool (Kd.R_reads' HO_15.out).2.2 (ji89) p206 q206; (try rw [← Nbq92.out] at hx206_0); cases e206; replace p206 := eq_true p206; replace q206 := eq_true q206))
                                    go_ret
                                    exact ⟨by first | rfl | (simp [errW_none, errW_some] <;> rfl) | (simp only [← hji15, ← hji85, ← hji86, ← hji87, ← hji89]; first | rfl | (simp [errW_none, errW_some] <;> rfl)) | (simp [*, errW_none, errW_some] <;> rfl), by repeat (first | (with_reducible first | exact HB.out | apply below_alloc | apply pw_below_drewN | apply below_drew1) | exact HB.out)⟩
                                · rw [if_neg c91] at H
                                  exact absurd H (by simp)
                              · rw [if_neg c90] at H
                                exact absurd H (by simp)
                            · rw [if_neg c88] at H
                              have c88b0 : (t205 == (wrap64 (1 + (ji87)))) = false := beq_eq_false_iff_ne.mpr c88
                              have c88b1 : (t205 != (wrap64 (1 + (ji87)))) = true := bne_iff_ne.mpr c88
                              obtain rfl := Option.some.inj H
                              obtain ⟨Ao99, co99, eo99⟩ := Kd.R_slice HO_13.out
                              subst eo99
                              go_wp2_with (first | ((with_reducible refine gate_callee (f := 47) rfl ?_); refine goesL_ (some 131) rfl rfl Try.func47 (by kernel_rfl) rfl #[.slice Ao99 t167.length co99] rfl (by (try simp only [List.map_toArray, List.map_cons, List.map_nil]); first | done | rfl | (simp only [List.length_drop, List.length_take]; rfl)) ?_; (with_reducible refine (paper_Ink.calls k3 _ _ t167 t204 _ ?side1 ?side2 A82.out).mono ?_); (case side1 => repeat (first | exact (Kd.R_reads' HO_13.out).2.2 | (with_reducible refine Kd.C_alloc ?_ _) | (with_reducible refine Kd.C_drewN ?_ _) | (with_reducible refine Kd.C_drew ?_))); (case side2 => exact (Kd.R_reads' HO_13.out).2.1); rintro e w' ⟨rfl, ⟨nd, rfl⟩⟩; refine ⟨_, rfl, ?_⟩) | (go_at_call 47; (with_reducible refine (paper_Ink.calls k3 _ _ t171 t205 _ ?side1 ?side2 A84.out).mono ?_); (case side1 => repeat (first | exact (Kd.R_reads' HO_15.out).2.2 | (with_reducible refine Kd.C_alloc ?_ _) | (with_reducible refine Kd.C_drewN ?_ _) | (with_reducible refine Kd.C_drew ?_))); (case side2 => exact (Kd.R_reads' HO_15.out).2.1); rintro e w' ⟨rfl, ⟨nd, rfl⟩⟩))
                              go_ret
                              exact ⟨by first | rfl | (simp [errW_none, errW_some] <;> rfl) | (simp only [← hji15, ← hji85, ← hji86, ← hji87]; first | rfl | (simp [errW_none, errW_some] <;> rfl)) | (simp [*, errW_none, errW_some] <;> rfl), by repeat (first | (with_reducible first | exact HB.out | apply below_alloc | apply pw_below_drewN | apply below_drew1) | exact HB.out)⟩
                          · rw [if_neg c83] at H
                            have c83b0 : (t204 == 0) = false := beq_eq_false_iff_ne.mpr c83
                            have c83b1 : (t204 != 0) = true := bne_iff_ne.mpr c83
                            obtain rfl := Option.some.inj H
                            obtain ⟨Ao100, co100, eo100⟩ := Kd.R_slice HO_13.out
                            subst eo100
                            go_wp2_with (first | ((with_reducible refine gate_callee (f := 47) rfl ?_); refine goesL_ (some 131) rfl rfl Try.func47 (by kernel_rfl) rfl #[.slice Ao100 t167.length co100] rfl (by (try simp only [List.map_toArray, List.map_cons, List.map_nil]); first | done | rfl | (simp only [List.length_drop, List.length_take]; rfl)) ?_; (with_reducible refine (paper_Ink.calls k3 _ _ t167 t204 _ ?side1 ?side2 A82.out).mono ?_); (case side1 => repeat (first | exact (Kd.R_reads' HO_13.out).2.2 | (with_reducible refine Kd.C_alloc ?_ _) | (with_reducible refine Kd.C_drewN ?_ _) | (with_reducible refine Kd.C_drew ?_))); (case side2 => exact (Kd.R_reads' HO_13.out).2.1); rintro e w' ⟨rfl, ⟨nd, rfl⟩⟩; refine ⟨_, rfl, ?_⟩))
                            go_ret
                            exact ⟨by first | rfl | (simp [errW_none, errW_some] <;> rfl) | (simp only [← hji15]; first | rfl | (simp [errW_none, errW_some] <;> rfl)) | (simp [*, errW_none, errW_some] <;> rfl), by repeat (first | (with_reducible first | exact HB.out | apply below_alloc | apply pw_below_drewN | apply below_drew1) | exact HB.out)⟩
      · rw [if_neg c17] at H
        exact absurd H (by simp)
    · rw [if_neg c16] at H
      exact absurd H (by simp)
  · rw [if_neg c11] at H
    exact absurd H (by simp)

/-- THE ONE PURE STATEMENT of bakekeep3_PaperWays: yours. -/
def bakekeep3_PaperWays.Pure : Prop := ∀ (l0 : List Int) (a1 : Int) (a2 : Int) (a3 : Int) (a4 : Int), l0.length ≤ maxLen → l0.length * 8 ≤ 140737488351232 → (∀ x ∈ l0, (Lit.int .i64 x).wf = true) → (Lit.int .i64 a1).wf = true → (Lit.int .i64 a2).wf = true → (Lit.int .i64 a3).wf = true → (Lit.int .i64 a4).wf = true → ∃ k, bakekeep3_PaperWays.f k l0 a1 a2 a3 a4 = some true
theorem bakekeep3_PaperWays.walk (P : bakekeep3_PaperWays.Pure) (a0 : Option Addr) (len0 cap0 : Nat) (z0 : List Int) (a1 : Int) (a2 : Int) (a3 : Int) (a4 : Int) (w : World) (w0 : (a0 = none ∧ len0 = 0 ∧ cap0 = 0 ∧ z0 = []) ∨ ∃ x, a0 = some x ∧ len0 ≤ cap0 ∧ cap0 ≤ maxLen ∧ z0.length = cap0 ∧ (∀ i, i < z0.length → w.cell? (x.add i) = some (.int .i64 (z0.getD i 0))) ∧ ∀ n ∈ z0, (Lit.int .i64 n).wf = true) (y0 : len0 * 8 ≤ 140737488351232) (w1 : (Lit.int .i64 a1).wf = true) (w2 : (Lit.int .i64 a2).wf = true) (w3 : (Lit.int .i64 a3).wf = true) (w4 : (Lit.int .i64 a4).wf = true) :
    Calls Try.prog 11 #[.slice a0 len0 cap0, .int .i64 a1, .int .i64 a2, .int .i64 a3, .int .i64 a4] w fun e w' => e = .returned (.bool true) ∧ Below w.heap.size w w' := by
  obtain ⟨l0, rfl, hr0, hm0, hw0, hc0⟩ := ReadsInt.ofRowC w0
  obtain ⟨k, h⟩ := P l0 a1 a2 a3 a4 hm0 y0 hw0 w1 w2 w3 w4
  refine (bakekeep3_PaperWays.calls k _ _ l0 a1 a2 a3 a4 true w (Kd.C_of_reads (d := (0 : Int)) (h1 := fun _ => rfl) hr0) hc0 h).mono ?_
  rintro e w' ⟨rfl, hd⟩
  exact ⟨rfl, hd⟩

end Go.Proofs.Ytijfinimlnedpaa.PPap
