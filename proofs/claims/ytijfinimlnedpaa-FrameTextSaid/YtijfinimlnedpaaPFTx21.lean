-- An own text of this claim, written by wip/tools/surro.py over the kit's print.
import Derived.Test.YtijfinimlnedpaaPFTx0
import Derived.Test.YtijfinimlnedpaaPFTx1
import Derived.Test.YtijfinimlnedpaaPFTx5
import Derived.Test.YtijfinimlnedpaaPFTx6
import Derived.Test.YtijfinimlnedpaaPFTx7
import Derived.Test.YtijfinimlnedpaaPFTx8
import Derived.Test.YtijfinimlnedpaaPFTx9
import Derived.Test.YtijfinimlnedpaaPFTx14
import Derived.Test.YtijfinimlnedpaaPFTx18
import Derived.Test.YtijfinimlnedpaaPFTx19
import Derived.Test.YtijfinimlnedpaaFtHist
namespace Go.Proofs.Ytijfinimlnedpaa.PFT
open Go.RowKit Go.Proofs.YtijfinimlnedpaaW.PrintWords Go.Proofs.YtijfinimlnedpaaW.PrintLast Go.Proofs.YtijfinimlnedpaaW.PrintMore
attribute [local go_sem] max2_int min2_int max_two min_two max_three min_three max_four min_four   -- for this text's walks alone
set_option linter.unusedVariables false
set_option linter.unusedSimpArgs false

/-! ### bakekeep3_FrameText: function 13 -/
mutual
def bakekeep3_FrameText.j0 : Nat → Int → List (List Int) → List (List Int) → Bool → Option (Bool)
 | 0, _, _, _, _ => none
 | k + 1, x2, x7, x9, x57 => if x57 = true then (some false) else (if 0 < (x7.length : Int) then ((frame_Text.f (rd_L3 x7 0)).bind fun bt166 => ((bakemake_Below.f x2 16).bind fun t168 => ((frame_Read.f k bt166.1 t168).bind fun bt169 => ((frame_Changed.f k (rd_L3 x7 0) bt169.1).bind fun bt174 => (if bt166.2 = 0 then (if bt169.2 = 0 then (if bt174.2.2.2.2.2 = 0 then (bakekeep3_FrameText.j1 k x7 x9 bt174.2.2.2.2.1) else (bakekeep3_FrameText.j1 k x7 x9 true)) else (bakekeep3_FrameText.j1 k x7 x9 true)) else (bakekeep3_FrameText.j1 k x7 x9 true)))))) else (none))
def bakekeep3_FrameText.j1 : Nat → List (List Int) → List (List Int) → Bool → Option (Bool)
 | 0, _, _, _ => none
 | k + 1, x7, x9, x93 => if x93 = true then (some false) else (if 0 < (x7.length : Int) then (if 0 < (x9.length : Int) then ((frame_Changed.f k (rd_L3 x7 0) (rd_L3 x9 0)).bind fun bt183 => ((frame_Seen.f k (rd_L3 x7 0)).bind fun bt191 => ((frame_Seen.f k (rd_L3 x9 0)).bind fun bt196 => (if bt183.2.2.2.2.2 = 0 then (if bt191.2 = 0 then (if bt196.2 = 0 then (if (bt191.1.length : Int) = 1536 then (bakekeep3_FrameText.j2 k x7 bt183.2.2.2.2.1 bt191.1 bt196.1 ((bt196.1.length : Int) != 1536) bt183.1 bt183.2.1 bt183.2.2.1 bt183.2.2.2.1) else (bakekeep3_FrameText.j2 k x7 bt183.2.2.2.2.1 bt191.1 bt196.1 true bt183.1 bt183.2.1 bt183.2.2.1 bt183.2.2.2.1)) else (bakekeep3_FrameText.j2 k x7 bt183.2.2.2.2.1 bt191.1 bt196.1 true bt183.1 bt183.2.1 bt183.2.2.1 bt183.2.2.2.1)) else (bakekeep3_FrameText.j2 k x7 bt183.2.2.2.2.1 bt191.1 bt196.1 true bt183.1 bt183.2.1 bt183.2.2.1 bt183.2.2.2.1)) else (bakekeep3_FrameText.j2 k x7 bt183.2.2.2.2.1 bt191.1 bt196.1 true bt183.1 bt183.2.1 bt183.2.2.1 bt183.2.2.2.1))))) else (none)) else (none))
def bakekeep3_FrameText.j2 : Nat → List (List Int) → Bool → List Int → List Int → Bool → Int → Int → Int → Int → Option (Bool)
 | 0, _, _, _, _, _, _, _, _, _ => none
 | k + 1, x7, x17, x18, x19, x138, x190000, x190001, x190002, x190003 => if x138 = true then (some false) else (bakekeep3_FrameText.l0 k x7 x17 x18 x19 (x18.length : Int) 0 x190000 x190001 x190002 x190003)
def bakekeep3_FrameText.l0 : Nat → List (List Int) → Bool → List Int → List Int → Int → Int → Int → Int → Int → Int → Option (Bool)
 | 0, _, _, _, _, _, _, _, _, _, _ => none
 | k + 1, x7, x17, x18, x19, x140, x141, x190000, x190001, x190002, x190003 => if x141 < x140 then (if (Int.tmod x141 48) ≥ x190000 then (if (Int.tmod x141 48) < x190002 then (if (wrap64 (Int.tdiv x141 48)) ≥ x190001 then (if 0 ≤ x141 then (if x141 < (x18.length : Int) then (if x141 < (x19.length : Int) then (if (rd x18 x141) = (rd x19 x141) then (bakekeep3_FrameText.l0 k x7 x17 x18 x19 x140 (wrap64 (x141 + 1)) x190000 x190001 x190002 x190003) else (if x17 = true then (if ((wrap64 (Int.tdiv x141 48)) < x190003) then (bakekeep3_FrameText.l0 k x7 x17 x18 x19 x140 (wrap64 (x141 + 1)) x190000 x190001 x190002 x190003) else (some false)) else (some false))) else (none)) else (none)) else (none)) else (if 0 ≤ x141 then (if x141 < (x18.length : Int) then (if x141 < (x19.length : Int) then (if (rd x18 x141) = (rd x19 x141) then (bakekeep3_FrameText.l0 k x7 x17 x18 x19 x140 (wrap64 (x141 + 1)) x190000 x190001 x190002 x190003) else (if x17 = true then (some false) else (some false))) else (none)) else (none)) else (none))) else (if 0 ≤ x141 then (if x141 < (x18.length : Int) then (if x141 < (x19.length : Int) then (if (rd x18 x141) = (rd x19 x141) then (bakekeep3_FrameText.l0 k x7 x17 x18 x19 x140 (wrap64 (x141 + 1)) x190000 x190001 x190002 x190003) else (if x17 = true then (some false) else (some false))) else (none)) else (none)) else (none))) else (if 0 ≤ x141 then (if x141 < (x18.length : Int) then (if x141 < (x19.length : Int) then (if (rd x18 x141) = (rd x19 x141) then (bakekeep3_FrameText.l0 k x7 x17 x18 x19 x140 (wrap64 (x141 + 1)) x190000 x190001 x190002 x190003) else (if x17 = true then (some false) else (some false))) else (none)) else (none)) else (none))) else (if 0 < (x7.length : Int) then ((frame_Right.f k (rd_L3 x7 0)).bind fun t209 => (some (t209 == 0))) else (none))
end
def bakekeep3_FrameText.f (k : Nat) (l0 : List Int) (l1 : List Int) (a2 : Int) : Option (Bool) := (bakekeep3_outs.f k l0).bind fun t150 => ((frame_Of.f t150 (⟨#[118]⟩ : ByteArray) 0 1).bind fun bt153 => ((bakekeep3_outs.f k l1).bind fun t157 => ((frame_Of.f t157 (⟨#[118]⟩ : ByteArray) 0 1).bind fun bt160 => ((bakekeep3_seen.f).bind fun t164 => (if t164 = true then (if bt153.2 = 0 then (if bt160.2 = 0 then (if (bt153.1.length : Int) = 1 then (bakekeep3_FrameText.j0 k a2 bt153.1 bt160.1 ((bt160.1.length : Int) != 1)) else (bakekeep3_FrameText.j0 k a2 bt153.1 bt160.1 true)) else (bakekeep3_FrameText.j0 k a2 bt153.1 bt160.1 true)) else (bakekeep3_FrameText.j0 k a2 bt153.1 bt160.1 true)) else (bakekeep3_FrameText.j0 k a2 bt153.1 bt160.1 true))))))
theorem bakekeep3_FrameText.mono_l : ∀ k, (∀ y0 y1 y2 y3, LeO (bakekeep3_FrameText.j0 k y0 y1 y2 y3) (bakekeep3_FrameText.j0 (k + 1) y0 y1 y2 y3)) ∧ (∀ y0 y1 y2, LeO (bakekeep3_FrameText.j1 k y0 y1 y2) (bakekeep3_FrameText.j1 (k + 1) y0 y1 y2)) ∧ (∀ y0 y1 y2 y3 y4 y5 y6 y7 y8, LeO (bakekeep3_FrameText.j2 k y0 y1 y2 y3 y4 y5 y6 y7 y8) (bakekeep3_FrameText.j2 (k + 1) y0 y1 y2 y3 y4 y5 y6 y7 y8)) ∧ (∀ y0 y1 y2 y3 y4 y5 y6 y7 y8 y9, LeO (bakekeep3_FrameText.l0 k y0 y1 y2 y3 y4 y5 y6 y7 y8 y9) (bakekeep3_FrameText.l0 (k + 1) y0 y1 y2 y3 y4 y5 y6 y7 y8 y9))
 | 0 => ⟨fun _ _ _ _ r h => by simp [bakekeep3_FrameText.j0] at h, fun _ _ _ r h => by simp [bakekeep3_FrameText.j1] at h, fun _ _ _ _ _ _ _ _ _ r h => by simp [bakekeep3_FrameText.j2] at h, fun _ _ _ _ _ _ _ _ _ _ r h => by simp [bakekeep3_FrameText.l0] at h⟩
 | k + 1 => by
  obtain ⟨ih0, ih1, ih2, ih3⟩ := bakekeep3_FrameText.mono_l k
  refine ⟨?_, ?_, ?_, ?_⟩
  ·intro y0 y1 y2 y3
   unfold bakekeep3_FrameText.j0
   repeat' first
   | (with_reducible exact ih0 _ _ _ _)
   | (with_reducible exact ih1 _ _ _)
   | (with_reducible exact ih2 _ _ _ _ _ _ _ _ _)
   | (with_reducible exact ih3 _ _ _ _ _ _ _ _ _ _)
   | (with_reducible exact bakekeep3_outs.mono _ _)
   | (with_reducible exact frame_Changed.mono _ _ _)
   | (with_reducible exact frame_Read.mono _ _ _)
   | (with_reducible exact frame_Right.mono _ _)
   | (with_reducible exact frame_Seen.mono _ _)
   | (with_reducible exact LeO.refl _)
   | (with_reducible exact LeO.none _)
   | (with_reducible refine LeO.ite ?_ ?_)
   | (with_reducible refine LeO.bind ?_ (fun _ => ?_))
   | exact ih0 _ _ _ _
   | exact ih1 _ _ _
   | exact ih2 _ _ _ _ _ _ _ _ _
   | exact ih3 _ _ _ _ _ _ _ _ _ _
   | exact bakekeep3_outs.mono _ _
   | exact frame_Changed.mono _ _ _
   | exact frame_Read.mono _ _ _
   | exact frame_Right.mono _ _
   | exact frame_Seen.mono _ _
   | exact LeO.none _
   | refine LeO.ite ?_ ?_
   | refine LeO.bind ?_ (fun _ => ?_)
  ·intro y0 y1 y2
   unfold bakekeep3_FrameText.j1
   repeat' first
   | (with_reducible exact ih0 _ _ _ _)
   | (with_reducible exact ih1 _ _ _)
   | (with_reducible exact ih2 _ _ _ _ _ _ _ _ _)
   | (with_reducible exact ih3 _ _ _ _ _ _ _ _ _ _)
   | (with_reducible exact bakekeep3_outs.mono _ _)
   | (with_reducible exact frame_Changed.mono _ _ _)
   | (with_reducible exact frame_Read.mono _ _ _)
   | (with_reducible exact frame_Right.mono _ _)
   | (with_reducible exact frame_Seen.mono _ _)
   | (with_reducible exact LeO.refl _)
   | (with_reducible exact LeO.none _)
   | (with_reducible refine LeO.ite ?_ ?_)
   | (with_reducible refine LeO.bind ?_ (fun _ => ?_))
   | exact ih0 _ _ _ _
   | exact ih1 _ _ _
   | exact ih2 _ _ _ _ _ _ _ _ _
   | exact ih3 _ _ _ _ _ _ _ _ _ _
   | exact bakekeep3_outs.mono _ _
   | exact frame_Changed.mono _ _ _
   | exact frame_Read.mono _ _ _
   | exact frame_Right.mono _ _
   | exact frame_Seen.mono _ _
   | exact LeO.none _
   | refine LeO.ite ?_ ?_
   | refine LeO.bind ?_ (fun _ => ?_)
  ·intro y0 y1 y2 y3 y4 y5 y6 y7 y8
   unfold bakekeep3_FrameText.j2
   repeat' first
   | (with_reducible exact ih0 _ _ _ _)
   | (with_reducible exact ih1 _ _ _)
   | (with_reducible exact ih2 _ _ _ _ _ _ _ _ _)
   | (with_reducible exact ih3 _ _ _ _ _ _ _ _ _ _)
   | (with_reducible exact bakekeep3_outs.mono _ _)
   | (with_reducible exact frame_Changed.mono _ _ _)
   | (with_reducible exact frame_Read.mono _ _ _)
   | (with_reducible exact frame_Right.mono _ _)
   | (with_reducible exact frame_Seen.mono _ _)
   | (with_reducible exact LeO.refl _)
   | (with_reducible exact LeO.none _)
   | (with_reducible refine LeO.ite ?_ ?_)
   | (with_reducible refine LeO.bind ?_ (fun _ => ?_))
   | exact ih0 _ _ _ _
   | exact ih1 _ _ _
   | exact ih2 _ _ _ _ _ _ _ _ _
   | exact ih3 _ _ _ _ _ _ _ _ _ _
   | exact bakekeep3_outs.mono _ _
   | exact frame_Changed.mono _ _ _
   | exact frame_Read.mono _ _ _
   | exact frame_Right.mono _ _
   | exact frame_Seen.mono _ _
   | exact LeO.none _
   | refine LeO.ite ?_ ?_
   | refine LeO.bind ?_ (fun _ => ?_)
  ·intro y0 y1 y2 y3 y4 y5 y6 y7 y8 y9
   unfold bakekeep3_FrameText.l0
   repeat' first
   | (with_reducible exact ih0 _ _ _ _)
   | (with_reducible exact ih1 _ _ _)
   | (with_reducible exact ih2 _ _ _ _ _ _ _ _ _)
   | (with_reducible exact ih3 _ _ _ _ _ _ _ _ _ _)
   | (with_reducible exact bakekeep3_outs.mono _ _)
   | (with_reducible exact frame_Changed.mono _ _ _)
   | (with_reducible exact frame_Read.mono _ _ _)
   | (with_reducible exact frame_Right.mono _ _)
   | (with_reducible exact frame_Seen.mono _ _)
   | (with_reducible exact LeO.refl _)
   | (with_reducible exact LeO.none _)
   | (with_reducible refine LeO.ite ?_ ?_)
   | (with_reducible refine LeO.bind ?_ (fun _ => ?_))
   | exact ih0 _ _ _ _
   | exact ih1 _ _ _
   | exact ih2 _ _ _ _ _ _ _ _ _
   | exact ih3 _ _ _ _ _ _ _ _ _ _
   | exact bakekeep3_outs.mono _ _
   | exact frame_Changed.mono _ _ _
   | exact frame_Read.mono _ _ _
   | exact frame_Right.mono _ _
   | exact frame_Seen.mono _ _
   | exact LeO.none _
   | refine LeO.ite ?_ ?_
   | refine LeO.bind ?_ (fun _ => ?_)
theorem bakekeep3_FrameText.mono : ∀ a0 a1 a2 k, LeO (bakekeep3_FrameText.f k a0 a1 a2) (bakekeep3_FrameText.f (k + 1) a0 a1 a2) := by
 intro a0 a1 a2 k
 obtain ⟨ih0, ih1, ih2, ih3⟩ := bakekeep3_FrameText.mono_l k
 unfold bakekeep3_FrameText.f
 repeat' first
   | (with_reducible exact ih0 _ _ _ _)
   | (with_reducible exact ih1 _ _ _)
   | (with_reducible exact ih2 _ _ _ _ _ _ _ _ _)
   | (with_reducible exact ih3 _ _ _ _ _ _ _ _ _ _)
   | (with_reducible exact bakekeep3_outs.mono _ _)
   | (with_reducible exact frame_Changed.mono _ _ _)
   | (with_reducible exact frame_Read.mono _ _ _)
   | (with_reducible exact frame_Right.mono _ _)
   | (with_reducible exact frame_Seen.mono _ _)
   | (with_reducible exact LeO.refl _)
   | (with_reducible exact LeO.none _)
   | (with_reducible refine LeO.ite ?_ ?_)
   | (with_reducible refine LeO.bind ?_ (fun _ => ?_))
   | exact ih0 _ _ _ _
   | exact ih1 _ _ _
   | exact ih2 _ _ _ _ _ _ _ _ _
   | exact ih3 _ _ _ _ _ _ _ _ _ _
   | exact bakekeep3_outs.mono _ _
   | exact frame_Changed.mono _ _ _
   | exact frame_Read.mono _ _ _
   | exact frame_Right.mono _ _
   | exact frame_Seen.mono _ _
   | exact LeO.none _
   | refine LeO.ite ?_ ?_
   | refine LeO.bind ?_ (fun _ => ?_)
def bakekeep3_FrameText.T10 : Bool × List (List Nat × List Nat) := (true, [([], []), ([0], [0]), ([1], [1]), ([], []), ([3], [3]), ([4], [4]), ([2, 5], [2, 5]), ([6], [6]), ([7], [7]), ([7], [7]), ([7], [7]), ([], []), ([11, 8, 6, 0, 1, 2, 3, 4, 5, 6, 7, 8, 11], [8, 11]), ([9, 12, 0, 1, 2, 3, 4, 5, 6, 7, 8, 9, 11, 12], [9]), ([10, 13, 0, 1, 2, 3, 4, 5, 6, 7, 8, 9, 10, 11, 12, 13], [10])])
def bakekeep3_FrameText.B10 : List Nat := [0, 1, 3, 0, 8, 24, 63, 127, 255, 255, 255, 0, 2559, 7167, 16383]
theorem bakekeep3_FrameText.tab10 : rtab .any (opsOf Try.f13 10) = bakekeep3_FrameText.T10 := by kernel_rfl
theorem bakekeep3_FrameText.bits10 : waitsOk bakekeep3_FrameText.T10.2 bakekeep3_FrameText.B10 = true := by kernel_rfl
def bakekeep3_FrameText.T19 : Bool × List (List Nat × List Nat) := (true, [([], []), ([], []), ([0, 1], [0, 1]), ([2], [2]), ([], []), ([], []), ([4, 5], [4, 5]), ([6], [6]), ([3, 7], [3, 7]), ([8], [8]), ([9], [9]), ([10, 9], [9, 10]), ([11, 9, 9], [9, 11]), ([12], [12]), ([13, 12], [12, 13]), ([12, 14, 9], [9, 12, 14]), ([9, 15], [9, 15])])
def bakekeep3_FrameText.B19 : List Nat := [0, 0, 3, 7, 0, 0, 48, 112, 255, 511, 1023, 2047, 4095, 8191, 16383, 32767, 65535]
theorem bakekeep3_FrameText.tab19 : rtab .any (opsOf Try.f13 19) = bakekeep3_FrameText.T19 := by kernel_rfl
theorem bakekeep3_FrameText.bits19 : waitsOk bakekeep3_FrameText.T19.2 bakekeep3_FrameText.B19 = true := by kernel_rfl
set_option maxHeartbeats 8000000 in
set_option maxRecDepth 100000 in
theorem bakekeep3_FrameText.calls (k : Nat) (A0 : Option Addr) (c0 : Nat) (l0 : List Int) (A1 : Option Addr) (c1 : Nat) (l1 : List Int) (a2 : Int) (w : World) (hr0 : Kd.C (Kd.int .i64) w A0 l0.length l0) (hc0 : l0.length ≤ c0) (hr1 : Kd.C (Kd.int .i64) w A1 l1.length l1) (hc1 : l1.length ≤ c1) (h : bakekeep3_FrameText.f k l0 l1 a2 = some true) :
  Calls Try.prog 13 #[.slice A0 l0.length c0, .slice A1 l1.length c1, .int .i64 a2] w fun e w' => e = .returned (.bool true) ∧ Below w.heap.size w w' := by
 have hu96 := Try.underlying96
 have HR0 := Aside0.mk hr0
 have HC0 := Aside0.mk hc0
 clear hr0 hc0
 have HR1 := Aside0.mk hr1
 have HC1 := Aside0.mk hc1
 clear hr1 hc1
 have HB := Aside0.mk (Below.refl w.heap.size w)
 have H : ((bakekeep3_outs.f k l0).bind fun t150 => ((frame_Of.f t150 (⟨#[118]⟩ : ByteArray) 0 1).bind fun bt153 => ((bakekeep3_outs.f k l1).bind fun t157 => ((frame_Of.f t157 (⟨#[118]⟩ : ByteArray) 0 1).bind fun bt160 => ((bakekeep3_seen.f).bind fun t164 => (if t164 = true then (if bt153.2 = 0 then (if bt160.2 = 0 then (if (bt153.1.length : Int) = 1 then (bakekeep3_FrameText.j0 k a2 bt153.1 bt160.1 ((bt160.1.length : Int) != 1)) else (bakekeep3_FrameText.j0 k a2 bt153.1 bt160.1 true)) else (bakekeep3_FrameText.j0 k a2 bt153.1 bt160.1 true)) else (bakekeep3_FrameText.j0 k a2 bt153.1 bt160.1 true)) else (bakekeep3_FrameText.j0 k a2 bt153.1 bt160.1 true))))))) = some true := h
 clear h
 replace H := Option.bind_eq_some_iff.mp H
 obtain ⟨t150, A40, H⟩ := H
 replace H : ((frame_Of.f t150 (⟨#[118]⟩ : ByteArray) 0 1).bind fun bt153 => ((bakekeep3_outs.f k l1).bind fun t157 => ((frame_Of.f t157 (⟨#[118]⟩ : ByteArray) 0 1).bind fun bt160 => ((bakekeep3_seen.f).bind fun t164 => (if t164 = true then (if bt153.2 = 0 then (if bt160.2 = 0 then (if (bt153.1.length : Int) = 1 then (bakekeep3_FrameText.j0 k a2 bt153.1 bt160.1 ((bt160.1.length : Int) != 1)) else (bakekeep3_FrameText.j0 k a2 bt153.1 bt160.1 true)) else (bakekeep3_FrameText.j0 k a2 bt153.1 bt160.1 true)) else (bakekeep3_FrameText.j0 k a2 bt153.1 bt160.1 true)) else (bakekeep3_FrameText.j0 k a2 bt153.1 bt160.1 true)))))) = some true := H
 have A4 := Aside0.mk A40
 clear A40
 replace H := Option.bind_eq_some_iff.mp H
 obtain ⟨⟨t153, t154⟩, A50, H⟩ := H
 replace H : ((bakekeep3_outs.f k l1).bind fun t157 => ((frame_Of.f t157 (⟨#[118]⟩ : ByteArray) 0 1).bind fun bt160 => ((bakekeep3_seen.f).bind fun t164 => (if t164 = true then (if t154 = 0 then (if bt160.2 = 0 then (if (t153.length : Int) = 1 then (bakekeep3_FrameText.j0 k a2 t153 bt160.1 ((bt160.1.length : Int) != 1)) else (bakekeep3_FrameText.j0 k a2 t153 bt160.1 true)) else (bakekeep3_FrameText.j0 k a2 t153 bt160.1 true)) else (bakekeep3_FrameText.j0 k a2 t153 bt160.1 true)) else (bakekeep3_FrameText.j0 k a2 t153 bt160.1 true))))) = some true := H
 have A5 := Aside0.mk A50
 clear A50
 replace H := Option.bind_eq_some_iff.mp H
 obtain ⟨t157, A60, H⟩ := H
 replace H : ((frame_Of.f t157 (⟨#[118]⟩ : ByteArray) 0 1).bind fun bt160 => ((bakekeep3_seen.f).bind fun t164 => (if t164 = true then (if t154 = 0 then (if bt160.2 = 0 then (if (t153.length : Int) = 1 then (bakekeep3_FrameText.j0 k a2 t153 bt160.1 ((bt160.1.length : Int) != 1)) else (bakekeep3_FrameText.j0 k a2 t153 bt160.1 true)) else (bakekeep3_FrameText.j0 k a2 t153 bt160.1 true)) else (bakekeep3_FrameText.j0 k a2 t153 bt160.1 true)) else (bakekeep3_FrameText.j0 k a2 t153 bt160.1 true)))) = some true := H
 have A6 := Aside0.mk A60
 clear A60
 replace H := Option.bind_eq_some_iff.mp H
 obtain ⟨⟨t160, t161⟩, A70, H⟩ := H
 replace H : ((bakekeep3_seen.f).bind fun t164 => (if t164 = true then (if t154 = 0 then (if t161 = 0 then (if (t153.length : Int) = 1 then (bakekeep3_FrameText.j0 k a2 t153 t160 ((t160.length : Int) != 1)) else (bakekeep3_FrameText.j0 k a2 t153 t160 true)) else (bakekeep3_FrameText.j0 k a2 t153 t160 true)) else (bakekeep3_FrameText.j0 k a2 t153 t160 true)) else (bakekeep3_FrameText.j0 k a2 t153 t160 true))) = some true := H
 have A7 := Aside0.mk A70
 clear A70
 have HC8 := Aside0.mk H
 clear H
 go_enter Try.func13, Try.ntmps13
 go_upto_region 3 with (first | ((with_reducible refine gate_callee (f := 37) rfl ?_); refine goesL_ (some 28) rfl rfl Try.func37 (by kernel_rfl) rfl #[.slice A0 l0.length c0] rfl (by (try simp only [List.map_toArray, List.map_cons, List.map_nil]); first | done | rfl | (simp only [List.length_drop, List.length_take]; rfl)) ?_; (with_reducible refine (bakekeep3_outs.calls k _ _ l0 t150 _ ?side1 ?side2 A4.out).mono ?_); (case side1 => repeat (first | exact HR0.out | (with_reducible refine Kd.C_alloc ?_ _) | (with_reducible refine Kd.C_drewN ?_ _) | (with_reducible refine Kd.C_drew ?_))); (case side2 => exact HC0.out); rintro e w9 ⟨v151, rfl, ho0, hb⟩; refine ⟨_, rfl, ?_⟩; have n0_ := Aside0.mk (Kd.R_lower ho0 (below_size (by repeat (first | (with_reducible first | exact HB.out | apply below_alloc | apply pw_below_drewN | apply below_drew1) | exact HB.out)))); have n1_ := Aside0.mk (below_step (by repeat (first | (with_reducible first | exact HB.out | apply below_alloc | apply pw_below_drewN | apply below_drew1) | exact HB.out)) hb); clear HB; have HO152 := n0_; have HB := n1_; clear n0_ n1_; (try clear hb); (try clear hb2); (try clear hk); (try clear hi); (try clear ho0); obtain ⟨Ao10, co10, eo10⟩ := Kd.R_slice HO152.out; subst eo10) | ((with_reducible refine gate_callee (f := 36) rfl ?_); refine goesL_ (some 29) rfl rfl Try.func36 (by kernel_rfl) rfl #[.slice Ao10 t150.length co10, .string (⟨#[118]⟩ : ByteArray), .int .i64 0, .int .i64 1] rfl (by (try simp only [List.map_toArray, List.map_cons, List.map_nil]); first | done | rfl | (simp only [List.length_drop, List.length_take]; rfl)) ?_; (with_reducible refine (frame_Of.calls _ _ t150 (⟨#[118]⟩ : ByteArray) 0 1 t153 t154 _ ?side1 ?side2 A5.out).mono ?_); (case side1 => repeat (first | exact (Kd.R_reads' HO152.out).2.2 | (with_reducible refine Kd.C_alloc ?_ _) | (with_reducible refine Kd.C_drewN ?_ _) | (with_reducible refine Kd.C_drew ?_))); (case side2 => exact (Kd.R_reads' HO152.out).2.1); rintro e w11 ⟨v155, rfl, ho0, hb⟩; refine ⟨_, rfl, ?_⟩; have n0_ := Aside0.mk (Kd.R_below (by (with_reducible repeat (first | apply Kd.R_alloc | apply Kd.R_drewN | apply Kd.R_drew)); exact HO152.out) hb); have n1_ := Aside0.mk (Kd.S_lower ho0 (below_size (by repeat (first | (with_reducible first | exact HB.out | apply below_alloc | apply pw_below_drewN | apply below_drew1) | exact HB.out)))); have n2_ := Aside0.mk (below_step (by repeat (first | (with_reducible first | exact HB.out | apply below_alloc | apply pw_below_drewN | apply below_drew1) | exact HB.out)) hb); clear HO152; clear HB; have HO152 := n0_; have HO156 := n1_; have HB := n2_; clear n0_ n1_ n2_; (try clear hb); (try clear hb2); (try clear hk); (try clear hi); (try clear ho0)) | ((with_reducible refine gate_callee (f := 37) rfl ?_); refine goesL_ (some 34) rfl rfl Try.func37 (by kernel_rfl) rfl #[.slice A1 l1.length c1] rfl (by (try simp only [List.map_toArray, List.map_cons, List.map_nil]); first | done | rfl | (simp only [List.length_drop, List.length_take]; rfl)) ?_; (with_reducible refine (bakekeep3_outs.calls k _ _ l1 t157 _ ?side1 ?side2 A6.out).mono ?_); (case side1 => repeat (first | exact (Kd.C_below HR1.out HB.out) | (with_reducible refine Kd.C_alloc ?_ _) | (with_reducible refine Kd.C_drewN ?_ _) | (with_reducible refine Kd.C_drew ?_))); (case side2 => exact HC1.out); rintro e w12 ⟨v158, rfl, ho0, hb⟩; refine ⟨_, rfl, ?_⟩; have n0_ := Aside0.mk (Kd.R_elder' (by (with_reducible repeat (first | apply Kd.R_alloc | apply Kd.R_drewN | apply Kd.R_drew)); exact HO152.out) (Kd.R_base ho0) hb); have n1_ := Aside0.mk (Kd.S_below (by (with_reducible repeat (first | apply Kd.S_alloc | apply Kd.S_drewN | apply Kd.S_drew)); exact HO156.out) hb); have n2_ := Aside0.mk (Kd.R_lower (Kd.R_new' ho0 (Kd.R_lt (by (with_reducible repeat (first | apply Kd.R_alloc | apply Kd.R_drewN | apply Kd.R_drew)); exact HO152.out))) (below_size (by repeat (first | (with_reducible first | exact HB.out | apply below_alloc | apply pw_below_drewN | apply below_drew1) | exact HB.out)))); have n3_ := Aside0.mk (below_step (by repeat (first | (with_reducible first | exact HB.out | apply below_alloc | apply pw_below_drewN | apply below_drew1) | exact HB.out)) hb); clear HO152; clear HO156; clear HB; have HO152 := n0_; have HO156 := n1_; have HO159 := n2_; have HB := n3_; clear n0_ n1_ n2_ n3_; (try clear hb); (try clear hb2); (try clear hk); (try clear hi); (try clear ho0); obtain ⟨Ao13, co13, eo13⟩ := Kd.R_slice HO159.out; subst eo13) | ((with_reducible refine gate_callee (f := 36) rfl ?_); refine goesL_ (some 35) rfl rfl Try.func36 (by kernel_rfl) rfl #[.slice Ao13 t157.length co13, .string (⟨#[118]⟩ : ByteArray), .int .i64 0, .int .i64 1] rfl (by (try simp only [List.map_toArray, List.map_cons, List.map_nil]); first | done | rfl | (simp only [List.length_drop, List.length_take]; rfl)) ?_; (with_reducible refine (frame_Of.calls _ _ t157 (⟨#[118]⟩ : ByteArray) 0 1 t160 t161 _ ?side1 ?side2 A7.out).mono ?_); (case side1 => repeat (first | exact (Kd.R_reads' HO159.out).2.2 | (with_reducible refine Kd.C_alloc ?_ _) | (with_reducible refine Kd.C_drewN ?_ _) | (with_reducible refine Kd.C_drew ?_))); (case side2 => exact (Kd.R_reads' HO159.out).2.1); rintro e w14 ⟨v162, rfl, ho0, hb⟩; refine ⟨_, rfl, ?_⟩; have n0_ := Aside0.mk (Kd.R_below (by (with_reducible repeat (first | apply Kd.R_alloc | apply Kd.R_drewN | apply Kd.R_drew)); exact HO152.out) hb); have n1_ := Aside0.mk (Kd.S_elder' (by (with_reducible repeat (first | apply Kd.S_alloc | apply Kd.S_drewN | apply Kd.S_drew)); exact HO156.out) (Kd.S_base ho0) hb); have n2_ := Aside0.mk (Kd.R_below (by (with_reducible repeat (first | apply Kd.R_alloc | apply Kd.R_drewN | apply Kd.R_drew)); exact HO159.out) hb); have n3_ := Aside0.mk (Kd.S_lower (Kd.S_new' ho0 (Kd.S_lt (by (with_reducible repeat (first | apply Kd.S_alloc | apply Kd.S_drewN | apply Kd.S_drew)); exact HO156.out))) (below_size (by repeat (first | (with_reducible first | exact HB.out | apply below_alloc | apply pw_below_drewN | apply below_drew1) | exact HB.out)))); have n4_ := Aside0.mk (below_step (by repeat (first | (with_reducible first | exact HB.out | apply below_alloc | apply pw_below_drewN | apply below_drew1) | exact HB.out)) hb); clear HO152; clear HO156; clear HO159; clear HB; have HO152 := n0_; have HO156 := n1_; have HO159 := n2_; have HO163 := n3_; have HB := n4_; clear n0_ n1_ n2_ n3_ n4_; (try clear hb); (try clear hb2); (try clear hk); (try clear hi); (try clear ho0)))
 (try simp only [Act.put, List.setIfInBounds_toArray, List.set_cons_zero, List.set_cons_succ])
 go_cut [57] (fun v57 wc => ∃ (kq : Nat) (x57_7 : Bool), v57 = .bool x57_7 ∧ Aside0 (bakekeep3_FrameText.j0 kq a2 t153 t160 x57_7 = some true) ∧ Aside0 (kq ≤ k) ∧ Aside0 (Kd.S (Kd.slice 3 (Kd.int .i64)) 70 wc w.heap.size (fun k_ => some k_ ≠ (v162 : Value).ownBlock) v155 t153) ∧ Aside0 (Kd.S (Kd.slice 3 (Kd.int .i64)) 70 wc w.heap.size (fun k_ => some k_ ≠ (v155 : Value).ownBlock) v162 t160) ∧ Aside0 (Below w.heap.size w wc))
 case first =>
  as_aux_lemma =>
  have H := HC8.out
  clear HC8
  replace H := Option.bind_eq_some_iff.mp H
  obtain ⟨t164, A150, H⟩ := H
  replace H : (if t164 = true then (if t154 = 0 then (if t161 = 0 then (if (t153.length : Int) = 1 then (bakekeep3_FrameText.j0 k a2 t153 t160 ((t160.length : Int) != 1)) else (bakekeep3_FrameText.j0 k a2 t153 t160 true)) else (bakekeep3_FrameText.j0 k a2 t153 t160 true)) else (bakekeep3_FrameText.j0 k a2 t153 t160 true)) else (bakekeep3_FrameText.j0 k a2 t153 t160 true)) = some true := H
  have A15 := Aside0.mk A150
  clear A150
  by_cases c16 : t164 = true
  ·subst c16
   have H1 : (if t154 = 0 then (if t161 = 0 then (if (t153.length : Int) = 1 then (bakekeep3_FrameText.j0 k a2 t153 t160 ((t160.length : Int) != 1)) else (bakekeep3_FrameText.j0 k a2 t153 t160 true)) else (bakekeep3_FrameText.j0 k a2 t153 t160 true)) else (bakekeep3_FrameText.j0 k a2 t153 t160 true)) = some true := by rw [if_pos rfl] at H; exact H
   clear H
   have H := H1
   clear H1
   by_cases c17 : t154 = 0
   ·rw [if_pos c17] at H
    have c17b0 : (t154 == 0) = true := beq_iff_eq.mpr c17
    have c17b1 : (t154 != 0) = false := bne_eq_false_iff_eq.mpr c17
    clear c17
    (first | rw [c17b0] | (simp only [i64_w, i32_w]; rw [c17b0]) | skip)
    by_cases c18 : t161 = 0
    ·rw [if_pos c18] at H
     have c18b0 : (t161 == 0) = true := beq_iff_eq.mpr c18
     have c18b1 : (t161 != 0) = false := bne_eq_false_iff_eq.mpr c18
     clear c18
     by_cases c19 : (t153.length : Int) = 1
     ·rw [if_pos c19] at H
      have c19b0 : ((t153.length : Int) == 1) = true := beq_iff_eq.mpr c19
      have c19b1 : ((t153.length : Int) != 1) = false := bne_eq_false_iff_eq.mpr c19
      clear c19
      have H' := Aside0.mk H
      clear H
      go_wp2_with (first | ((with_reducible refine gate_callee (f := 39) rfl ?_); refine goesL_ (some 38) rfl rfl Try.func39 (by kernel_rfl) rfl #[] rfl (by (try simp only [List.map_toArray, List.map_cons, List.map_nil]); first | done | rfl | (simp only [List.length_drop, List.length_take]; rfl)) ?_; (with_reducible refine (bakekeep3_seen.calls  true _ A15.out).mono ?_); rintro e w20 ⟨rfl, hb⟩; refine ⟨_, rfl, ?_⟩; have n0_ := Aside0.mk (Kd.R_below (by (with_reducible repeat (first | apply Kd.R_alloc | apply Kd.R_drewN | apply Kd.R_drew)); exact HO152.out) hb); have n1_ := Aside0.mk (Kd.S_below (by (with_reducible repeat (first | apply Kd.S_alloc | apply Kd.S_drewN | apply Kd.S_drew)); exact HO156.out) hb); have n2_ := Aside0.mk (Kd.R_below (by (with_reducible repeat (first | apply Kd.R_alloc | apply Kd.R_drewN | apply Kd.R_drew)); exact HO159.out) hb); have n3_ := Aside0.mk (Kd.S_below (by (with_reducible repeat (first | apply Kd.S_alloc | apply Kd.S_drewN | apply Kd.S_drew)); exact HO163.out) hb); have n4_ := Aside0.mk (below_step (by repeat (first | (with_reducible first | exact HB.out | apply below_alloc | apply pw_below_drewN | apply below_drew1) | exact HB.out)) hb); clear HO152; clear HO156; clear HO159; clear HO163; clear HB; have HO152 := n0_; have HO156 := n1_; have HO159 := n2_; have HO163 := n3_; have HB := n4_; clear n0_ n1_ n2_ n3_ n4_; (try clear hb); (try clear hb2); (try clear hk); (try clear hi); obtain ⟨Ao21, co21, eo21⟩ := Kd.S_slice HO156.out; subst eo21; obtain ⟨Ao22, co22, eo22⟩ := Kd.S_slice HO163.out; subst eo22))
      go_meet
      case rel => exact ⟨_, (((t160.length : Int) != 1)), (by first | rfl | (simp; done) | (simp [*]; done)), H', ⟨by first | omega | exact Nat.le_refl _⟩, ⟨by (with_reducible repeat (first | apply Kd.S_alloc | apply Kd.S_drewN | apply Kd.S_drew)); exact Kd.S_mono HO156.out (fun _ hk => hk.2)⟩, ⟨by (with_reducible repeat (first | apply Kd.S_alloc | apply Kd.S_drewN | apply Kd.S_drew)); exact Kd.S_mono HO163.out (fun _ hk => hk.2)⟩, ⟨by repeat (first | (with_reducible first | exact HB.out | apply below_alloc | apply pw_below_drewN | apply below_drew1) | exact HB.out)⟩⟩
     ·rw [if_neg c19] at H
      have c19b0 : ((t153.length : Int) == 1) = false := beq_eq_false_iff_ne.mpr c19
      have c19b1 : ((t153.length : Int) != 1) = true := bne_iff_ne.mpr c19
      have H' := Aside0.mk H
      clear H
      go_wp2_with (first | ((with_reducible refine gate_callee (f := 39) rfl ?_); refine goesL_ (some 38) rfl rfl Try.func39 (by kernel_rfl) rfl #[] rfl (by (try simp only [List.map_toArray, List.map_cons, List.map_nil]); first | done | rfl | (simp only [List.length_drop, List.length_take]; rfl)) ?_; (with_reducible refine (bakekeep3_seen.calls  true _ A15.out).mono ?_); rintro e w23 ⟨rfl, hb⟩; refine ⟨_, rfl, ?_⟩; have n0_ := Aside0.mk (Kd.R_below (by (with_reducible repeat (first | apply Kd.R_alloc | apply Kd.R_drewN | apply Kd.R_drew)); exact HO152.out) hb); have n1_ := Aside0.mk (Kd.S_below (by (with_reducible repeat (first | apply Kd.S_alloc | apply Kd.S_drewN | apply Kd.S_drew)); exact HO156.out) hb); have n2_ := Aside0.mk (Kd.R_below (by (with_reducible repeat (first | apply Kd.R_alloc | apply Kd.R_drewN | apply Kd.R_drew)); exact HO159.out) hb); have n3_ := Aside0.mk (Kd.S_below (by (with_reducible repeat (first | apply Kd.S_alloc | apply Kd.S_drewN | apply Kd.S_drew)); exact HO163.out) hb); have n4_ := Aside0.mk (below_step (by repeat (first | (with_reducible first | exact HB.out | apply below_alloc | apply pw_below_drewN | apply below_drew1) | exact HB.out)) hb); clear HO152; clear HO156; clear HO159; clear HO163; clear HB; have HO152 := n0_; have HO156 := n1_; have HO159 := n2_; have HO163 := n3_; have HB := n4_; clear n0_ n1_ n2_ n3_ n4_; (try clear hb); (try clear hb2); (try clear hk); (try clear hi); obtain ⟨Ao24, co24, eo24⟩ := Kd.S_slice HO156.out; subst eo24))
      go_meet
      case rel => exact ⟨_, (true), (by first | rfl | (simp; done) | (simp [*]; done)), H', ⟨by first | omega | exact Nat.le_refl _⟩, ⟨by (with_reducible repeat (first | apply Kd.S_alloc | apply Kd.S_drewN | apply Kd.S_drew)); exact Kd.S_mono HO156.out (fun _ hk => hk.2)⟩, ⟨by (with_reducible repeat (first | apply Kd.S_alloc | apply Kd.S_drewN | apply Kd.S_drew)); exact Kd.S_mono HO163.out (fun _ hk => hk.2)⟩, ⟨by repeat (first | (with_reducible first | exact HB.out | apply below_alloc | apply pw_below_drewN | apply below_drew1) | exact HB.out)⟩⟩
    ·rw [if_neg c18] at H
     have c18b0 : (t161 == 0) = false := beq_eq_false_iff_ne.mpr c18
     have c18b1 : (t161 != 0) = true := bne_iff_ne.mpr c18
     have H' := Aside0.mk H
     clear H
     go_wp2_with (first | ((with_reducible refine gate_callee (f := 39) rfl ?_); refine goesL_ (some 38) rfl rfl Try.func39 (by kernel_rfl) rfl #[] rfl (by (try simp only [List.map_toArray, List.map_cons, List.map_nil]); first | done | rfl | (simp only [List.length_drop, List.length_take]; rfl)) ?_; (with_reducible refine (bakekeep3_seen.calls  true _ A15.out).mono ?_); rintro e w25 ⟨rfl, hb⟩; refine ⟨_, rfl, ?_⟩; have n0_ := Aside0.mk (Kd.R_below (by (with_reducible repeat (first | apply Kd.R_alloc | apply Kd.R_drewN | apply Kd.R_drew)); exact HO152.out) hb); have n1_ := Aside0.mk (Kd.S_below (by (with_reducible repeat (first | apply Kd.S_alloc | apply Kd.S_drewN | apply Kd.S_drew)); exact HO156.out) hb); have n2_ := Aside0.mk (Kd.R_below (by (with_reducible repeat (first | apply Kd.R_alloc | apply Kd.R_drewN | apply Kd.R_drew)); exact HO159.out) hb); have n3_ := Aside0.mk (Kd.S_below (by (with_reducible repeat (first | apply Kd.S_alloc | apply Kd.S_drewN | apply Kd.S_drew)); exact HO163.out) hb); have n4_ := Aside0.mk (below_step (by repeat (first | (with_reducible first | exact HB.out | apply below_alloc | apply pw_below_drewN | apply below_drew1) | exact HB.out)) hb); clear HO152; clear HO156; clear HO159; clear HO163; clear HB; have HO152 := n0_; have HO156 := n1_; have HO159 := n2_; have HO163 := n3_; have HB := n4_; clear n0_ n1_ n2_ n3_ n4_; (try clear hb); (try clear hb2); (try clear hk); (try clear hi)))
     go_meet
     case rel => exact ⟨_, (true), (by first | rfl | (simp; done) | (simp [*]; done)), H', ⟨by first | omega | exact Nat.le_refl _⟩, ⟨by (with_reducible repeat (first | apply Kd.S_alloc | apply Kd.S_drewN | apply Kd.S_drew)); exact Kd.S_mono HO156.out (fun _ hk => hk.2)⟩, ⟨by (with_reducible repeat (first | apply Kd.S_alloc | apply Kd.S_drewN | apply Kd.S_drew)); exact Kd.S_mono HO163.out (fun _ hk => hk.2)⟩, ⟨by repeat (first | (with_reducible first | exact HB.out | apply below_alloc | apply pw_below_drewN | apply below_drew1) | exact HB.out)⟩⟩
   ·rw [if_neg c17] at H
    have c17b0 : (t154 == 0) = false := beq_eq_false_iff_ne.mpr c17
    have c17b1 : (t154 != 0) = true := bne_iff_ne.mpr c17
    (first | rw [c17b0] | (simp only [i64_w, i32_w]; rw [c17b0]) | skip)
    have H' := Aside0.mk H
    clear H
    go_wp2_with (first | ((with_reducible refine gate_callee (f := 39) rfl ?_); refine goesL_ (some 38) rfl rfl Try.func39 (by kernel_rfl) rfl #[] rfl (by (try simp only [List.map_toArray, List.map_cons, List.map_nil]); first | done | rfl | (simp only [List.length_drop, List.length_take]; rfl)) ?_; (with_reducible refine (bakekeep3_seen.calls  true _ A15.out).mono ?_); rintro e w26 ⟨rfl, hb⟩; refine ⟨_, rfl, ?_⟩; have n0_ := Aside0.mk (Kd.R_below (by (with_reducible repeat (first | apply Kd.R_alloc | apply Kd.R_drewN | apply Kd.R_drew)); exact HO152.out) hb); have n1_ := Aside0.mk (Kd.S_below (by (with_reducible repeat (first | apply Kd.S_alloc | apply Kd.S_drewN | apply Kd.S_drew)); exact HO156.out) hb); have n2_ := Aside0.mk (Kd.R_below (by (with_reducible repeat (first | apply Kd.R_alloc | apply Kd.R_drewN | apply Kd.R_drew)); exact HO159.out) hb); have n3_ := Aside0.mk (Kd.S_below (by (with_reducible repeat (first | apply Kd.S_alloc | apply Kd.S_drewN | apply Kd.S_drew)); exact HO163.out) hb); have n4_ := Aside0.mk (below_step (by repeat (first | (with_reducible first | exact HB.out | apply below_alloc | apply pw_below_drewN | apply below_drew1) | exact HB.out)) hb); clear HO152; clear HO156; clear HO159; clear HO163; clear HB; have HO152 := n0_; have HO156 := n1_; have HO159 := n2_; have HO163 := n3_; have HB := n4_; clear n0_ n1_ n2_ n3_ n4_; (try clear hb); (try clear hb2); (try clear hk); (try clear hi)))
    go_meet
    case rel => exact ⟨_, (true), (by first | rfl | (simp; done) | (simp [*]; done)), H', ⟨by first | omega | exact Nat.le_refl _⟩, ⟨by (with_reducible repeat (first | apply Kd.S_alloc | apply Kd.S_drewN | apply Kd.S_drew)); exact Kd.S_mono HO156.out (fun _ hk => hk.2)⟩, ⟨by (with_reducible repeat (first | apply Kd.S_alloc | apply Kd.S_drewN | apply Kd.S_drew)); exact Kd.S_mono HO163.out (fun _ hk => hk.2)⟩, ⟨by repeat (first | (with_reducible first | exact HB.out | apply below_alloc | apply pw_below_drewN | apply below_drew1) | exact HB.out)⟩⟩
  ·replace c16 := Bool.eq_false_iff.mpr c16
   subst c16
   have H1 : (bakekeep3_FrameText.j0 k a2 t153 t160 true) = some true := by rw [if_neg (show ¬ (false = true) by decide)] at H; exact H
   clear H
   have H := H1
   clear H1
   have H' := Aside0.mk H
   clear H
   go_wp2_with (first | ((with_reducible refine gate_callee (f := 39) rfl ?_); refine goesL_ (some 38) rfl rfl Try.func39 (by kernel_rfl) rfl #[] rfl (by (try simp only [List.map_toArray, List.map_cons, List.map_nil]); first | done | rfl | (simp only [List.length_drop, List.length_take]; rfl)) ?_; (with_reducible refine (bakekeep3_seen.calls  false _ A15.out).mono ?_); rintro e w27 ⟨rfl, hb⟩; refine ⟨_, rfl, ?_⟩; have n0_ := Aside0.mk (Kd.R_below (by (with_reducible repeat (first | apply Kd.R_alloc | apply Kd.R_drewN | apply Kd.R_drew)); exact HO152.out) hb); have n1_ := Aside0.mk (Kd.S_below (by (with_reducible repeat (first | apply Kd.S_alloc | apply Kd.S_drewN | apply Kd.S_drew)); exact HO156.out) hb); have n2_ := Aside0.mk (Kd.R_below (by (with_reducible repeat (first | apply Kd.R_alloc | apply Kd.R_drewN | apply Kd.R_drew)); exact HO159.out) hb); have n3_ := Aside0.mk (Kd.S_below (by (with_reducible repeat (first | apply Kd.S_alloc | apply Kd.S_drewN | apply Kd.S_drew)); exact HO163.out) hb); have n4_ := Aside0.mk (below_step (by repeat (first | (with_reducible first | exact HB.out | apply below_alloc | apply pw_below_drewN | apply below_drew1) | exact HB.out)) hb); clear HO152; clear HO156; clear HO159; clear HO163; clear HB; have HO152 := n0_; have HO156 := n1_; have HO159 := n2_; have HO163 := n3_; have HB := n4_; clear n0_ n1_ n2_ n3_ n4_; (try clear hb); (try clear hb2); (try clear hk); (try clear hi)))
   go_meet
   case rel => exact ⟨_, (true), (by first | rfl | (simp; done) | (simp [*]; done)), H', ⟨by first | omega | exact Nat.le_refl _⟩, ⟨by (with_reducible repeat (first | apply Kd.S_alloc | apply Kd.S_drewN | apply Kd.S_drew)); exact Kd.S_mono HO156.out (fun _ hk => hk.2)⟩, ⟨by (with_reducible repeat (first | apply Kd.S_alloc | apply Kd.S_drewN | apply Kd.S_drew)); exact Kd.S_mono HO163.out (fun _ hk => hk.2)⟩, ⟨by repeat (first | (with_reducible first | exact HB.out | apply below_alloc | apply pw_below_drewN | apply below_drew1) | exact HB.out)⟩⟩
 case rest =>
  as_aux_lemma =>
  clear HC8
  try clear c1
  try clear p2
  try clear c3
  try clear p3
  try clear c13
  try clear c16
  try clear c17
  try clear c17b0
  try clear c17b1
  try clear c18
  try clear c18b0
  try clear c18b1
  try clear c19
  try clear c19b0
  try clear c19b1
  obtain ⟨kq, x57_7, rfl, HA, HJ7, HO_7, HO_9, HB⟩ := hcut
  cases kq with
  | zero => exact absurd HA.out (by simp [bakekeep3_FrameText.j0])
  | succ kj7 =>
   have H := HA.out
   clear HA
   simp only [bakekeep3_FrameText.j0] at H
   by_cases c28 : x57_7 = true
   ·subst c28
    have H1 : (some false) = some true := by rw [if_pos rfl] at H; exact H
    clear H
    have H := H1
    clear H1
    cases (Option.some.inj H)
   ·replace c28 := Bool.eq_false_iff.mpr c28
    subst c28
    have H1 : (if 0 < (t153.length : Int) then ((frame_Text.f (rd_L3 t153 0)).bind fun bt166 => ((bakemake_Below.f a2 16).bind fun t168 => ((frame_Read.f kj7 bt166.1 t168).bind fun bt169 => ((frame_Changed.f kj7 (rd_L3 t153 0) bt169.1).bind fun bt174 => (if bt166.2 = 0 then (if bt169.2 = 0 then (if bt174.2.2.2.2.2 = 0 then (bakekeep3_FrameText.j1 kj7 t153 t160 bt174.2.2.2.2.1) else (bakekeep3_FrameText.j1 kj7 t153 t160 true)) else (bakekeep3_FrameText.j1 kj7 t153 t160 true)) else (bakekeep3_FrameText.j1 kj7 t153 t160 true)))))) else (none)) = some true := by rw [if_neg (show ¬ (false = true) by decide)] at H; exact H
    clear H
    have H := H1
    clear H1
    by_cases c29 : 0 < (t153.length : Int)
    ·rw [if_pos c29] at H
     have c29b0 : decide (0 < (t153.length : Int)) = true := decide_eq_true c29
     have c29b1 : decide (0 < t153.length) = true := decide_eq_true (by omega)
     clear c29
     replace H := Option.bind_eq_some_iff.mp H
     obtain ⟨⟨t166, t167⟩, A300, H⟩ := H
     replace H : ((bakemake_Below.f a2 16).bind fun t168 => ((frame_Read.f kj7 t166 t168).bind fun bt169 => ((frame_Changed.f kj7 (rd_L3 t153 0) bt169.1).bind fun bt174 => (if t167 = 0 then (if bt169.2 = 0 then (if bt174.2.2.2.2.2 = 0 then (bakekeep3_FrameText.j1 kj7 t153 t160 bt174.2.2.2.2.1) else (bakekeep3_FrameText.j1 kj7 t153 t160 true)) else (bakekeep3_FrameText.j1 kj7 t153 t160 true)) else (bakekeep3_FrameText.j1 kj7 t153 t160 true))))) = some true := H
     have A30 := Aside0.mk A300
     clear A300
     replace H := Option.bind_eq_some_iff.mp H
     obtain ⟨t168, A310, H⟩ := H
     replace H : ((frame_Read.f kj7 t166 t168).bind fun bt169 => ((frame_Changed.f kj7 (rd_L3 t153 0) bt169.1).bind fun bt174 => (if t167 = 0 then (if bt169.2 = 0 then (if bt174.2.2.2.2.2 = 0 then (bakekeep3_FrameText.j1 kj7 t153 t160 bt174.2.2.2.2.1) else (bakekeep3_FrameText.j1 kj7 t153 t160 true)) else (bakekeep3_FrameText.j1 kj7 t153 t160 true)) else (bakekeep3_FrameText.j1 kj7 t153 t160 true)))) = some true := H
     have A31 := Aside0.mk A310
     clear A310
     replace H := Option.bind_eq_some_iff.mp H
     obtain ⟨⟨t169, t170⟩, A320, H⟩ := H
     replace H : ((frame_Changed.f kj7 (rd_L3 t153 0) t169).bind fun bt174 => (if t167 = 0 then (if t170 = 0 then (if bt174.2.2.2.2.2 = 0 then (bakekeep3_FrameText.j1 kj7 t153 t160 bt174.2.2.2.2.1) else (bakekeep3_FrameText.j1 kj7 t153 t160 true)) else (bakekeep3_FrameText.j1 kj7 t153 t160 true)) else (bakekeep3_FrameText.j1 kj7 t153 t160 true))) = some true := H
     have A32 := Aside0.mk A320
     clear A320
     replace H := Option.bind_eq_some_iff.mp H
     obtain ⟨⟨t174, t175, t176, t177, t178, t179⟩, A330, H⟩ := H
     replace H : (if t167 = 0 then (if t170 = 0 then (if t179 = 0 then (bakekeep3_FrameText.j1 kj7 t153 t160 t178) else (bakekeep3_FrameText.j1 kj7 t153 t160 true)) else (bakekeep3_FrameText.j1 kj7 t153 t160 true)) else (bakekeep3_FrameText.j1 kj7 t153 t160 true)) = some true := H
     have A33 := Aside0.mk A330
     clear A330
     have HC34 := Aside0.mk H
     clear H
     obtain ⟨Ao35, co35, eo35⟩ := Kd.S_slice HO_7.out
     subst eo35
     have p165 : 0 ≤ (0 : Int) := (by omega)
     have q165 : 0 < (t153.length : Int) := of_decide_eq_true (by first | (with_reducible assumption) | assumption)
     obtain ⟨ad165, A165_0, c165_0, e165, hx165_0, hl165_0, hi165_0⟩ := at_L3 (Kd.S_reads' HO_7.out).2.2 0 p165 q165
     cases e165
     obtain ⟨ce165, hce165, hMe165, hcc165⟩ := Kd.S_get HO_7.out [] 0 p165 (by first | exact q165 | exact of_decide_eq_true (by first | (with_reducible assumption) | assumption) | (have e_ := (Kd.S_reads' HO_7.out).1; omega))
     obtain ⟨ve165_0, rfl, ge165_0⟩ := hMe165
     have hv165_0 := hcc165 0 _ rfl
     rw [Nat.add_zero, show ((Kd.slice 3 (Kd.int .i64))).sz = 1 from rfl, Nat.mul_one] at hv165_0
     replace hv165_0 := Option.some.inj (hv165_0.symm.trans hx165_0)
     rw [hv165_0] at ge165_0
     have HL165_0 := Aside0.mk (show Kd.R (Kd.int .i64) 3 _ _ _ _ (rd_L3 t153 0) from ge165_0)
     clear hv165_0 ge165_0
     clear hcc165 hce165
     have qi165 : (0 < t153.length) = True := eq_true (by omega)
     (try rw [show ((0 : Int)).toNat = 0 from rfl] at hx165_0)
     (try rw [Addr.add_zero'] at hx165_0)
     have HR165_0 := Aside0.mk hi165_0
     have HC165_0 := Aside0.mk hl165_0
     clear hi165_0 hl165_0
     replace p165 := eq_true p165
     replace q165 := eq_true q165
     go_upto_region 8 with (first | ((with_reducible refine gate_callee (f := 55) rfl ?_); refine goesL_ (some 62) rfl rfl Try.func55 (by kernel_rfl) rfl #[.slice A165_0 (rd_L3 t153 0).length c165_0] rfl (by (try simp only [List.map_toArray, List.map_cons, List.map_nil]); first | done | rfl | (simp only [List.length_drop, List.length_take]; rfl)) ?_; (with_reducible refine (frame_Text.calls _ _ (rd_L3 t153 0) t166 t167 _ ?side1 ?side2 A30.out).mono ?_); (case side1 => repeat (first | exact (by repeat (first | (with_reducible exact HR165_0.out) | (with_reducible refine Kd.C_alloc ?_ _) | (with_reducible refine Kd.C_drewN ?_ _) | (with_reducible refine Kd.C_drew ?_) | exact HR165_0.out)) | (with_reducible refine Kd.C_alloc ?_ _) | (with_reducible refine Kd.C_drewN ?_ _) | (with_reducible refine Kd.C_drew ?_))); (case side2 => exact HC165_0.out); rintro e w36 ⟨rfl, hb⟩; refine ⟨_, rfl, ?_⟩; have n0_ := Aside0.mk (Kd.S_below (by (with_reducible repeat (first | apply Kd.S_alloc | apply Kd.S_drewN | apply Kd.S_drew)); exact HO_7.out) hb); have n1_ := Aside0.mk (Kd.S_below (by (with_reducible repeat (first | apply Kd.S_alloc | apply Kd.S_drewN | apply Kd.S_drew)); exact HO_9.out) hb); have n2_ := Aside0.mk (Kd.R_below (by (with_reducible repeat (first | apply Kd.R_alloc | apply Kd.R_drewN | apply Kd.R_drew)); exact HL165_0.out) hb); have n3_ := Aside0.mk (Kd.C_below (by repeat (first | (with_reducible exact HR165_0.out) | (with_reducible refine Kd.C_alloc ?_ _) | (with_reducible refine Kd.C_drewN ?_ _) | (with_reducible refine Kd.C_drew ?_) | exact HR165_0.out)) hb); have n4_ := Aside0.mk (below_step (by repeat (first | (with_reducible first | exact HB.out | apply below_alloc | apply pw_below_drewN | apply below_drew1) | exact HB.out)) hb); clear HO_7; clear HO_9; clear HL165_0; clear HR165_0; clear HB; have HO_7 := n0_; have HO_9 := n1_; have HL165_0 := n2_; have HR165_0 := n3_; have HB := n4_; clear n0_ n1_ n2_ n3_ n4_; (try clear hb); (try clear hb2); (try clear hk); (try clear hi)) | ((with_reducible refine gate_callee (f := 15) rfl ?_); refine goesL_ (some 68) rfl rfl Try.func15 (by kernel_rfl) rfl #[.int .i64 a2, .int .i64 16] rfl (by (try simp only [List.map_toArray, List.map_cons, List.map_nil]); first | done | rfl | (simp only [List.length_drop, List.length_take]; rfl)) ?_; (with_reducible refine (bakemake_Below.calls a2 16 t168 _ A31.out).mono ?_); rintro e w' ⟨rfl, ⟨nd, rfl⟩⟩; refine ⟨_, rfl, ?_⟩; (try (rw [drewN_self w36]; generalize hq_ : World.drewN w36 _ = w36; have n0_ : Aside0 (Kd.R (Kd.int .i64) 3 w36 w.heap.size (fun k_ => some k_ ≠ (.slice (some ad165) t153.length co35 : Value).ownBlock ∧ some k_ ≠ (v162 : Value).ownBlock) (.slice A165_0 (rd_L3 t153 0).length c165_0) (rd_L3 t153 0)) := ⟨by rw [← hq_]; exact (by (with_reducible repeat (first | apply Kd.R_alloc | apply Kd.R_drewN | apply Kd.R_drew)); exact Kd.R_mono HL165_0.out (fun _ hk => ⟨hk.2, hk.1⟩))⟩; have n1_ : Aside0 (Kd.S (Kd.slice 3 (Kd.int .i64)) 70 w36 w.heap.size (fun k_ => some k_ ≠ (v162 : Value).ownBlock) (.slice (some ad165) t153.length co35) t153) := ⟨by rw [← hq_]; exact (by (with_reducible repeat (first | apply Kd.S_alloc | apply Kd.S_drewN | apply Kd.S_drew)); exact HO_7.out)⟩; have n2_ : Aside0 (Kd.S (Kd.slice 3 (Kd.int .i64)) 70 w36 w.heap.size (fun k_ => some k_ ≠ (.slice (some ad165) t153.length co35 : Value).ownBlock) v162 t160) := ⟨by rw [← hq_]; exact (by (with_reducible repeat (first | apply Kd.S_alloc | apply Kd.S_drewN | apply Kd.S_drew)); exact HO_9.out)⟩; have n3_ : Aside0 (Below w.heap.size w w36) := ⟨by rw [← hq_]; exact (by repeat (first | (with_reducible first | exact HB.out | apply below_alloc | apply pw_below_drewN | apply below_drew1) | exact HB.out))⟩; have n4_ : Aside0 (Kd.C (Kd.int .i64) w36 A165_0 (rd_L3 t153 0).length (rd_L3 t153 0)) := ⟨by rw [← hq_]; exact (by repeat (first | (with_reducible exact HR165_0.out) | (with_reducible refine Kd.C_alloc ?_ _) | (with_reducible refine Kd.C_drewN ?_ _) | (with_reducible refine Kd.C_drew ?_) | exact HR165_0.out))⟩; clear HL165_0 HO_7 HO_9 HB HR165_0 hq_; have HL165_0 := n0_; have HO_7 := n1_; have HO_9 := n2_; have HB := n3_; have HR165_0 := n4_; clear n0_ n1_ n2_ n3_ n4_))) | ((with_reducible refine gate_callee (f := 56) rfl ?_); refine goesL_ (some 69) rfl rfl Try.func56 (by kernel_rfl) rfl #[.string t166, .int .i64 t168] rfl (by (try simp only [List.map_toArray, List.map_cons, List.map_nil]); first | done | rfl | (simp only [List.length_drop, List.length_take]; rfl)) ?_; (with_reducible refine (frame_Read.calls kj7 t166 t168 t169 t170 _ A32.out).mono ?_); rintro e w37 ⟨v171, rfl, ho0, hb⟩; refine ⟨_, rfl, ?_⟩; have n0_ := Aside0.mk (Kd.S_elder' (by (with_reducible repeat (first | apply Kd.S_alloc | apply Kd.S_drewN | apply Kd.S_drew)); exact HO_7.out) (Kd.R_base ho0) hb); have n1_ := Aside0.mk (Kd.S_elder' (by (with_reducible repeat (first | apply Kd.S_alloc | apply Kd.S_drewN | apply Kd.S_drew)); exact HO_9.out) (Kd.R_base ho0) hb); have n2_ := Aside0.mk (Kd.R_elder' (by (with_reducible repeat (first | apply Kd.R_alloc | apply Kd.R_drewN | apply Kd.R_drew)); exact HL165_0.out) (Kd.R_base ho0) hb); have n3_ := Aside0.mk (Kd.R_lower (Kd.R_new' ho0 (Kd.R_lt (by (with_reducible repeat (first | apply Kd.R_alloc | apply Kd.R_drewN | apply Kd.R_drew)); exact HL165_0.out))) (below_size (by repeat (first | (with_reducible first | exact HB.out | apply below_alloc | apply pw_below_drewN | apply below_drew1) | exact HB.out)))); have n4_ := Aside0.mk (Kd.C_below (by repeat (first | (with_reducible exact HR165_0.out) | (with_reducible refine Kd.C_alloc ?_ _) | (with_reducible refine Kd.C_drewN ?_ _) | (with_reducible refine Kd.C_drew ?_) | exact HR165_0.out)) hb); have n5_ := Aside0.mk (below_step (by repeat (first | (with_reducible first | exact HB.out | apply below_alloc | apply pw_below_drewN | apply below_drew1) | exact HB.out)) hb); clear HO_7; clear HO_9; clear HL165_0; clear HR165_0; clear HB; have HO_7 := n0_; have HO_9 := n1_; have HL165_0 := n2_; have HO172 := n3_; have HR165_0 := n4_; have HB := n5_; clear n0_ n1_ n2_ n3_ n4_ n5_; (try clear hb); (try clear hb2); (try clear hk); (try clear hi); (try clear ho0); have p173 : 0 ≤ (0 : Int) := (by omega); have q173 : 0 < (t153.length : Int) := of_decide_eq_true (by first | (with_reducible assumption) | assumption); obtain ⟨ad173, A173_0, c173_0, e173, hx173_0, hl173_0, hi173_0⟩ := at_L3 (Kd.S_reads' HO_7.out).2.2 0 p173 q173; obtain rfl : ad165 = ad173 := (by injection e173); obtain ⟨ce173, hce173, hMe173, hcc173⟩ := Kd.S_get HO_7.out [] 0 p173 (by first | exact q173 | exact of_decide_eq_true (by first | (with_reducible assumption) | assumption) | (have e_ := (Kd.S_reads' HO_7.out).1; omega)); obtain ⟨ve173_0, rfl, ge173_0⟩ := hMe173; have hv173_0 := hcc173 0 _ rfl; rw [Nat.add_zero, show ((Kd.slice 3 (Kd.int .i64))).sz = 1 from rfl, Nat.mul_one] at hv173_0; replace hv173_0 := Option.some.inj (hv173_0.symm.trans hx173_0); rw [hv173_0] at ge173_0; have HL173_0 := Aside0.mk (show Kd.R (Kd.int .i64) 3 _ _ _ _ (rd_L3 t153 0) from ge173_0); clear hv173_0 ge173_0; clear hcc173 hce173; have qi173 : (0 < t153.length) = True := eq_true (by omega); (try rw [show ((0 : Int)).toNat = 0 from rfl] at hx173_0); (try rw [Addr.add_zero'] at hx173_0); have HR173_0 := Aside0.mk hi173_0; have HC173_0 := Aside0.mk hl173_0; clear hi173_0 hl173_0; replace p173 := eq_true p173; replace q173 := eq_true q173; obtain ⟨Ao38, co38, eo38⟩ := Kd.R_slice HO172.out; subst eo38) | ((with_reducible refine gate_callee (f := 57) rfl ?_); refine goesL_ (some 77) rfl rfl Try.func57 (by kernel_rfl) rfl #[.slice A173_0 (rd_L3 t153 0).length c173_0, .slice Ao38 t169.length co38] rfl (by (try simp only [List.map_toArray, List.map_cons, List.map_nil]); first | done | rfl | (simp only [List.length_drop, List.length_take]; rfl)) ?_; (with_reducible refine (frame_Changed.calls kj7 _ _ (rd_L3 t153 0) _ _ t169 t174 t175 t176 t177 t178 t179 _ ?side1 ?side2 ?side3 ?side4 A33.out).mono ?_); (case side1 => repeat (first | exact (by repeat (first | (with_reducible exact HR173_0.out) | (with_reducible refine Kd.C_alloc ?_ _) | (with_reducible refine Kd.C_drewN ?_ _) | (with_reducible refine Kd.C_drew ?_) | exact HR173_0.out)) | (with_reducible refine Kd.C_alloc ?_ _) | (with_reducible refine Kd.C_drewN ?_ _) | (with_reducible refine Kd.C_drew ?_))); (case side2 => exact HC173_0.out); (case side3 => repeat (first | exact (Kd.R_reads' HO172.out).2.2 | (with_reducible refine Kd.C_alloc ?_ _) | (with_reducible refine Kd.C_drewN ?_ _) | (with_reducible refine Kd.C_drew ?_))); (case side4 => exact (Kd.R_reads' HO172.out).2.1); rintro e w39 ⟨rfl, hb⟩; refine ⟨_, rfl, ?_⟩; have n0_ := Aside0.mk (Kd.S_below (by (with_reducible repeat (first | apply Kd.S_alloc | apply Kd.S_drewN | apply Kd.S_drew)); exact HO_7.out) hb); have n1_ := Aside0.mk (Kd.S_below (by (with_reducible repeat (first | apply Kd.S_alloc | apply Kd.S_drewN | apply Kd.S_drew)); exact HO_9.out) hb); have n2_ := Aside0.mk (Kd.R_below (by (with_reducible repeat (first | apply Kd.R_alloc | apply Kd.R_drewN | apply Kd.R_drew)); exact HL165_0.out) hb); have n3_ := Aside0.mk (Kd.R_below (by (with_reducible repeat (first | apply Kd.R_alloc | apply Kd.R_drewN | apply Kd.R_drew)); exact HO172.out) hb); have n4_ := Aside0.mk (Kd.R_below (by (with_reducible repeat (first | apply Kd.R_alloc | apply Kd.R_drewN | apply Kd.R_drew)); exact HL173_0.out) hb); have n5_ := Aside0.mk (Kd.C_below (by repeat (first | (with_reducible exact HR165_0.out) | (with_reducible refine Kd.C_alloc ?_ _) | (with_reducible refine Kd.C_drewN ?_ _) | (with_reducible refine Kd.C_drew ?_) | exact HR165_0.out)) hb); have n6_ := Aside0.mk (Kd.C_below (by repeat (first | (with_reducible exact HR173_0.out) | (with_reducible refine Kd.C_alloc ?_ _) | (with_reducible refine Kd.C_drewN ?_ _) | (with_reducible refine Kd.C_drew ?_) | exact HR173_0.out)) hb); have n7_ := Aside0.mk (below_step (by repeat (first | (with_reducible first | exact HB.out | apply below_alloc | apply pw_below_drewN | apply below_drew1) | exact HB.out)) hb); clear HO_7; clear HO_9; clear HL165_0; clear HO172; clear HL173_0; clear HR165_0; clear HR173_0; clear HB; have HO_7 := n0_; have HO_9 := n1_; have HL165_0 := n2_; have HO172 := n3_; have HL173_0 := n4_; have HR165_0 := n5_; have HR173_0 := n6_; have HB := n7_; clear n0_ n1_ n2_ n3_ n4_ n5_ n6_ n7_; (try clear hb); (try clear hb2); (try clear hk); (try clear hi)) | ((with_reducible refine gate_dst (N := 13) rfl ?_); (try (refine gate_guard (by rfl) ?_; dsimp only)); refine box_event ?hg (N := 13) ?hd (cs := #[.int .i64 0, .int .i64 0, .int .i64 0, .int .i64 0]) (t := 96) ?hr ?_; (case hd => rfl); (case hg => rfl); (case hr => first | (go_simp; done) | (go_simp; rfl)); intro gb180 hg w40 hbox hb; have n0_ := Aside0.mk (Kd.S_below (by (with_reducible repeat (first | apply Kd.S_alloc | apply Kd.S_drewN | apply Kd.S_drew)); exact HO_7.out) hb); have n1_ := Aside0.mk (Kd.S_below (by (with_reducible repeat (first | apply Kd.S_alloc | apply Kd.S_drewN | apply Kd.S_drew)); exact HO_9.out) hb); have n2_ := Aside0.mk (Kd.R_below (by (with_reducible repeat (first | apply Kd.R_alloc | apply Kd.R_drewN | apply Kd.R_drew)); exact HL165_0.out) hb); have n3_ := Aside0.mk (Kd.R_below (by (with_reducible repeat (first | apply Kd.R_alloc | apply Kd.R_drewN | apply Kd.R_drew)); exact HO172.out) hb); have n4_ := Aside0.mk (Kd.R_below (by (with_reducible repeat (first | apply Kd.R_alloc | apply Kd.R_drewN | apply Kd.R_drew)); exact HL173_0.out) hb); have n5_ := Aside0.mk (Kd.C_below (by repeat (first | (with_reducible exact HR165_0.out) | (with_reducible refine Kd.C_alloc ?_ _) | (with_reducible refine Kd.C_drewN ?_ _) | (with_reducible refine Kd.C_drew ?_) | exact HR165_0.out)) hb); have n6_ := Aside0.mk (Kd.C_below (by repeat (first | (with_reducible exact HR173_0.out) | (with_reducible refine Kd.C_alloc ?_ _) | (with_reducible refine Kd.C_drewN ?_ _) | (with_reducible refine Kd.C_drew ?_) | exact HR173_0.out)) hb); have n7_ := Aside0.mk (below_step (by repeat (first | (with_reducible first | exact HB.out | apply below_alloc | apply pw_below_drewN | apply below_drew1) | exact HB.out)) hb); have n8_ := Aside0.mk (hbox); have n9_ := Aside0.mk ((by rw [hg]; exact (below_size (by repeat (first | (with_reducible first | exact HB.out | apply below_alloc | apply pw_below_drewN | apply below_drew1) | exact HB.out))) : w.heap.size ≤ gb180)); have n10_ := Aside0.mk ((by rw [hg]; exact (below_size (by repeat (first | (with_reducible first | exact HB.out | apply below_alloc | apply pw_below_drewN | apply below_drew1) | exact HB.out))) : w.heap.size ≤ gb180)); clear HO_7; clear HO_9; clear HL165_0; clear HO172; clear HL173_0; clear HR165_0; clear HR173_0; clear HB; have HO_7 := n0_; have HO_9 := n1_; have HL165_0 := n2_; have HO172 := n3_; have HL173_0 := n4_; have HR165_0 := n5_; have HR173_0 := n6_; have HB := n7_; have BK180 := n8_; have GW180 := n9_; have GE180 := n10_; clear n0_ n1_ n2_ n3_ n4_ n5_ n6_ n7_ n8_ n9_ n10_; clear hb hbox hg; have hcz41_0 : w40.cell? ⟨gb180, 0, none⟩ = some (.int .i64 0) := (blk_cell BK180.out 0).trans rfl; have hcz41_1 : w40.cell? ⟨gb180, 1, none⟩ = some (.int .i64 0) := (blk_cell BK180.out 1).trans rfl; have hcz41_2 : w40.cell? ⟨gb180, 2, none⟩ = some (.int .i64 0) := (blk_cell BK180.out 2).trans rfl; have hcz41_3 : w40.cell? ⟨gb180, 3, none⟩ = some (.int .i64 0) := (blk_cell BK180.out 3).trans rfl; have hfz41_0 := blk_frozen BK180.out 0; have hfz41_1 := blk_frozen BK180.out 1; have hfz41_2 := blk_frozen BK180.out 2; have hfz41_3 := blk_frozen BK180.out 3))
     (try simp only [Act.put, List.setIfInBounds_toArray, List.set_cons_zero, List.set_cons_succ])
     go_cut [93] (fun v93 wc => ∃ (kq : Nat) (x93_33 : Bool), v93 = .bool x93_33 ∧ Aside0 (bakekeep3_FrameText.j1 kq t153 t160 x93_33 = some true) ∧ Aside0 (kq ≤ kj7) ∧ Aside0 (Kd.S (Kd.slice 3 (Kd.int .i64)) 70 wc w.heap.size (fun k_ => some k_ ≠ (v162 : Value).ownBlock) (.slice (some ad165) t153.length co35) t153) ∧ Aside0 (Kd.S (Kd.slice 3 (Kd.int .i64)) 70 wc w.heap.size (fun k_ => some k_ ≠ ((.slice (some ad165) t153.length co35) : Value).ownBlock) v162 t160) ∧ Aside0 (wc.heap[gb180]? = some (.cells #[.int .i64 t174, .int .i64 t175, .int .i64 t176, .int .i64 t177] 96 (0, 0))) ∧ Aside0 (Kd.C (Kd.int .i64) wc A165_0 (rd_L3 t153 0).length (rd_L3 t153 0)) ∧ Aside0 (Kd.C (Kd.int .i64) wc A173_0 (rd_L3 t153 0).length (rd_L3 t153 0)) ∧ Aside0 (Below w.heap.size w wc))
     case first =>
      as_aux_lemma =>
      have H := HC34.out
      clear HC34
      by_cases c42 : t167 = 0
      ·rw [if_pos c42] at H
       have c42b0 : (t167 == 0) = true := beq_iff_eq.mpr c42
       have c42b1 : (t167 != 0) = false := bne_eq_false_iff_eq.mpr c42
       clear c42
       (first | rw [c42b0] | (simp only [i64_w, i32_w]; rw [c42b0]) | skip)
       by_cases c43 : t170 = 0
       ·rw [if_pos c43] at H
        have c43b0 : (t170 == 0) = true := beq_iff_eq.mpr c43
        have c43b1 : (t170 != 0) = false := bne_eq_false_iff_eq.mpr c43
        clear c43
        by_cases c44 : t179 = 0
        ·rw [if_pos c44] at H
         have c44b0 : (t179 == 0) = true := beq_iff_eq.mpr c44
         have c44b1 : (t179 != 0) = false := bne_eq_false_iff_eq.mpr c44
         clear c44
         have H' := Aside0.mk H
         clear H
         go_wp2
         go_meet
         case rel => exact ⟨_, (t178), (by first | rfl | (simp; done) | (simp [*]; done)), H', ⟨by have := HJ7.out; first | omega | exact Nat.le_refl _⟩, ⟨by (with_reducible repeat (first | apply Kd.S_alloc | apply Kd.S_drewN | apply Kd.S_drew)); exact Kd.S_mono (Kd.S_far (p := ⟨gb180, 3, none⟩) (Kd.S_far (p := ⟨gb180, 2, none⟩) (Kd.S_far (p := ⟨gb180, 1, none⟩) (Kd.S_far (p := ⟨gb180, 0, none⟩) (Kd.S_types HO_7.out BK180.out (by decide)) (fun _ hk => hk.2) (.int .i64 t174)) (fun _ hk => hk.2) (.int .i64 t175)) (fun _ hk => hk.2) (.int .i64 t176)) (fun _ hk => hk.2) (.int .i64 t177)) (fun _ hk => hk.1.1)⟩, ⟨by (with_reducible repeat (first | apply Kd.S_alloc | apply Kd.S_drewN | apply Kd.S_drew)); exact Kd.S_mono (Kd.S_far (p := ⟨gb180, 3, none⟩) (Kd.S_far (p := ⟨gb180, 2, none⟩) (Kd.S_far (p := ⟨gb180, 1, none⟩) (Kd.S_far (p := ⟨gb180, 0, none⟩) (Kd.S_types HO_9.out BK180.out (by decide)) (fun _ hk => hk.2) (.int .i64 t174)) (fun _ hk => hk.2) (.int .i64 t175)) (fun _ hk => hk.2) (.int .i64 t176)) (fun _ hk => hk.2) (.int .i64 t177)) (fun _ hk => hk.1.1)⟩, ⟨by (with_reducible repeat (first | refine blk_drewN ?_ _ | refine blk_drew ?_ | refine blk_alloc ?_ _)); refine blk_put (cs := #[.int .i64 t174, .int .i64 t175, .int .i64 t176, .int .i64 0]) ?_ 3 _ rfl; (with_reducible repeat (first | refine blk_drewN ?_ _ | refine blk_drew ?_ | refine blk_alloc ?_ _)); refine blk_put (cs := #[.int .i64 t174, .int .i64 t175, .int .i64 0, .int .i64 0]) ?_ 2 _ rfl; (with_reducible repeat (first | refine blk_drewN ?_ _ | refine blk_drew ?_ | refine blk_alloc ?_ _)); refine blk_put (cs := #[.int .i64 t174, .int .i64 0, .int .i64 0, .int .i64 0]) ?_ 1 _ rfl; (with_reducible repeat (first | refine blk_drewN ?_ _ | refine blk_drew ?_ | refine blk_alloc ?_ _)); refine blk_put (cs := #[.int .i64 0, .int .i64 0, .int .i64 0, .int .i64 0]) ?_ 0 _ rfl; (with_reducible repeat (first | refine blk_drewN ?_ _ | refine blk_drew ?_ | refine blk_alloc ?_ _)); exact BK180.out⟩, ⟨(Kd.R_reads' (by (with_reducible repeat (first | apply Kd.R_alloc | apply Kd.R_drewN | apply Kd.R_drew)); exact (Kd.R_mono (Kd.R_far (p := ⟨gb180, 3, none⟩) (Kd.R_far (p := ⟨gb180, 2, none⟩) (Kd.R_far (p := ⟨gb180, 1, none⟩) (Kd.R_far (p := ⟨gb180, 0, none⟩) (Kd.R_types HL165_0.out BK180.out (by decide)) (fun _ hk => hk.2) (.int .i64 t174)) (fun _ hk => hk.2) (.int .i64 t175)) (fun _ hk => hk.2) (.int .i64 t176)) (fun _ hk => hk.2) (.int .i64 t177)) (fun _ h_ => h_.1)))).2.2⟩, ⟨(Kd.R_reads' (by (with_reducible repeat (first | apply Kd.R_alloc | apply Kd.R_drewN | apply Kd.R_drew)); exact (Kd.R_mono (Kd.R_far (p := ⟨gb180, 3, none⟩) (Kd.R_far (p := ⟨gb180, 2, none⟩) (Kd.R_far (p := ⟨gb180, 1, none⟩) (Kd.R_far (p := ⟨gb180, 0, none⟩) (Kd.R_types HL173_0.out BK180.out (by decide)) (fun _ hk => hk.2) (.int .i64 t174)) (fun _ hk => hk.2) (.int .i64 t175)) (fun _ hk => hk.2) (.int .i64 t176)) (fun _ hk => hk.2) (.int .i64 t177)) (fun _ h_ => h_.1)))).2.2⟩, ⟨by repeat (first | (with_reducible first | exact HB.out | apply below_alloc | apply pw_below_drewN | apply below_drew1 | refine below_set ?_ GE180.out) | exact HB.out)⟩⟩
        ·rw [if_neg c44] at H
         have c44b0 : (t179 == 0) = false := beq_eq_false_iff_ne.mpr c44
         have c44b1 : (t179 != 0) = true := bne_iff_ne.mpr c44
         have H' := Aside0.mk H
         clear H
         go_wp2
         go_meet
         case rel => exact ⟨_, (true), (by first | rfl | (simp; done) | (simp [*]; done)), H', ⟨by have := HJ7.out; first | omega | exact Nat.le_refl _⟩, ⟨by (with_reducible repeat (first | apply Kd.S_alloc | apply Kd.S_drewN | apply Kd.S_drew)); exact Kd.S_mono (Kd.S_far (p := ⟨gb180, 3, none⟩) (Kd.S_far (p := ⟨gb180, 2, none⟩) (Kd.S_far (p := ⟨gb180, 1, none⟩) (Kd.S_far (p := ⟨gb180, 0, none⟩) (Kd.S_types HO_7.out BK180.out (by decide)) (fun _ hk => hk.2) (.int .i64 t174)) (fun _ hk => hk.2) (.int .i64 t175)) (fun _ hk => hk.2) (.int .i64 t176)) (fun _ hk => hk.2) (.int .i64 t177)) (fun _ hk => hk.1.1)⟩, ⟨by (with_reducible repeat (first | apply Kd.S_alloc | apply Kd.S_drewN | apply Kd.S_drew)); exact Kd.S_mono (Kd.S_far (p := ⟨gb180, 3, none⟩) (Kd.S_far (p := ⟨gb180, 2, none⟩) (Kd.S_far (p := ⟨gb180, 1, none⟩) (Kd.S_far (p := ⟨gb180, 0, none⟩) (Kd.S_types HO_9.out BK180.out (by decide)) (fun _ hk => hk.2) (.int .i64 t174)) (fun _ hk => hk.2) (.int .i64 t175)) (fun _ hk => hk.2) (.int .i64 t176)) (fun _ hk => hk.2) (.int .i64 t177)) (fun _ hk => hk.1.1)⟩, ⟨by (with_reducible repeat (first | refine blk_drewN ?_ _ | refine blk_drew ?_ | refine blk_alloc ?_ _)); refine blk_put (cs := #[.int .i64 t174, .int .i64 t175, .int .i64 t176, .int .i64 0]) ?_ 3 _ rfl; (with_reducible repeat (first | refine blk_drewN ?_ _ | refine blk_drew ?_ | refine blk_alloc ?_ _)); refine blk_put (cs := #[.int .i64 t174, .int .i64 t175, .int .i64 0, .int .i64 0]) ?_ 2 _ rfl; (with_reducible repeat (first | refine blk_drewN ?_ _ | refine blk_drew ?_ | refine blk_alloc ?_ _)); refine blk_put (cs := #[.int .i64 t174, .int .i64 0, .int .i64 0, .int .i64 0]) ?_ 1 _ rfl; (with_reducible repeat (first | refine blk_drewN ?_ _ | refine blk_drew ?_ | refine blk_alloc ?_ _)); refine blk_put (cs := #[.int .i64 0, .int .i64 0, .int .i64 0, .int .i64 0]) ?_ 0 _ rfl; (with_reducible repeat (first | refine blk_drewN ?_ _ | refine blk_drew ?_ | refine blk_alloc ?_ _)); exact BK180.out⟩, ⟨(Kd.R_reads' (by (with_reducible repeat (first | apply Kd.R_alloc | apply Kd.R_drewN | apply Kd.R_drew)); exact (Kd.R_mono (Kd.R_far (p := ⟨gb180, 3, none⟩) (Kd.R_far (p := ⟨gb180, 2, none⟩) (Kd.R_far (p := ⟨gb180, 1, none⟩) (Kd.R_far (p := ⟨gb180, 0, none⟩) (Kd.R_types HL165_0.out BK180.out (by decide)) (fun _ hk => hk.2) (.int .i64 t174)) (fun _ hk => hk.2) (.int .i64 t175)) (fun _ hk => hk.2) (.int .i64 t176)) (fun _ hk => hk.2) (.int .i64 t177)) (fun _ h_ => h_.1)))).2.2⟩, ⟨(Kd.R_reads' (by (with_reducible repeat (first | apply Kd.R_alloc | apply Kd.R_drewN | apply Kd.R_drew)); exact (Kd.R_mono (Kd.R_far (p := ⟨gb180, 3, none⟩) (Kd.R_far (p := ⟨gb180, 2, none⟩) (Kd.R_far (p := ⟨gb180, 1, none⟩) (Kd.R_far (p := ⟨gb180, 0, none⟩) (Kd.R_types HL173_0.out BK180.out (by decide)) (fun _ hk => hk.2) (.int .i64 t174)) (fun _ hk => hk.2) (.int .i64 t175)) (fun _ hk => hk.2) (.int .i64 t176)) (fun _ hk => hk.2) (.int .i64 t177)) (fun _ h_ => h_.1)))).2.2⟩, ⟨by repeat (first | (with_reducible first | exact HB.out | apply below_alloc | apply pw_below_drewN | apply below_drew1 | refine below_set ?_ GE180.out) | exact HB.out)⟩⟩
       ·rw [if_neg c43] at H
        have c43b0 : (t170 == 0) = false := beq_eq_false_iff_ne.mpr c43
        have c43b1 : (t170 != 0) = true := bne_iff_ne.mpr c43
        have H' := Aside0.mk H
        clear H
        go_wp2
        go_meet
        case rel => exact ⟨_, (true), (by first | rfl | (simp; done) | (simp [*]; done)), H', ⟨by have := HJ7.out; first | omega | exact Nat.le_refl _⟩, ⟨by (with_reducible repeat (first | apply Kd.S_alloc | apply Kd.S_drewN | apply Kd.S_drew)); exact Kd.S_mono (Kd.S_far (p := ⟨gb180, 3, none⟩) (Kd.S_far (p := ⟨gb180, 2, none⟩) (Kd.S_far (p := ⟨gb180, 1, none⟩) (Kd.S_far (p := ⟨gb180, 0, none⟩) (Kd.S_types HO_7.out BK180.out (by decide)) (fun _ hk => hk.2) (.int .i64 t174)) (fun _ hk => hk.2) (.int .i64 t175)) (fun _ hk => hk.2) (.int .i64 t176)) (fun _ hk => hk.2) (.int .i64 t177)) (fun _ hk => hk.1.1)⟩, ⟨by (with_reducible repeat (first | apply Kd.S_alloc | apply Kd.S_drewN | apply Kd.S_drew)); exact Kd.S_mono (Kd.S_far (p := ⟨gb180, 3, none⟩) (Kd.S_far (p := ⟨gb180, 2, none⟩) (Kd.S_far (p := ⟨gb180, 1, none⟩) (Kd.S_far (p := ⟨gb180, 0, none⟩) (Kd.S_types HO_9.out BK180.out (by decide)) (fun _ hk => hk.2) (.int .i64 t174)) (fun _ hk => hk.2) (.int .i64 t175)) (fun _ hk => hk.2) (.int .i64 t176)) (fun _ hk => hk.2) (.int .i64 t177)) (fun _ hk => hk.1.1)⟩, ⟨by (with_reducible repeat (first | refine blk_drewN ?_ _ | refine blk_drew ?_ | refine blk_alloc ?_ _)); refine blk_put (cs := #[.int .i64 t174, .int .i64 t175, .int .i64 t176, .int .i64 0]) ?_ 3 _ rfl; (with_reducible repeat (first | refine blk_drewN ?_ _ | refine blk_drew ?_ | refine blk_alloc ?_ _)); refine blk_put (cs := #[.int .i64 t174, .int .i64 t175, .int .i64 0, .int .i64 0]) ?_ 2 _ rfl; (with_reducible repeat (first | refine blk_drewN ?_ _ | refine blk_drew ?_ | refine blk_alloc ?_ _)); refine blk_put (cs := #[.int .i64 t174, .int .i64 0, .int .i64 0, .int .i64 0]) ?_ 1 _ rfl; (with_reducible repeat (first | refine blk_drewN ?_ _ | refine blk_drew ?_ | refine blk_alloc ?_ _)); refine blk_put (cs := #[.int .i64 0, .int .i64 0, .int .i64 0, .int .i64 0]) ?_ 0 _ rfl; (with_reducible repeat (first | refine blk_drewN ?_ _ | refine blk_drew ?_ | refine blk_alloc ?_ _)); exact BK180.out⟩, ⟨(Kd.R_reads' (by (with_reducible repeat (first | apply Kd.R_alloc | apply Kd.R_drewN | apply Kd.R_drew)); exact (Kd.R_mono (Kd.R_far (p := ⟨gb180, 3, none⟩) (Kd.R_far (p := ⟨gb180, 2, none⟩) (Kd.R_far (p := ⟨gb180, 1, none⟩) (Kd.R_far (p := ⟨gb180, 0, none⟩) (Kd.R_types HL165_0.out BK180.out (by decide)) (fun _ hk => hk.2) (.int .i64 t174)) (fun _ hk => hk.2) (.int .i64 t175)) (fun _ hk => hk.2) (.int .i64 t176)) (fun _ hk => hk.2) (.int .i64 t177)) (fun _ h_ => h_.1)))).2.2⟩, ⟨(Kd.R_reads' (by (with_reducible repeat (first | apply Kd.R_alloc | apply Kd.R_drewN | apply Kd.R_drew)); exact (Kd.R_mono (Kd.R_far (p := ⟨gb180, 3, none⟩) (Kd.R_far (p := ⟨gb180, 2, none⟩) (Kd.R_far (p := ⟨gb180, 1, none⟩) (Kd.R_far (p := ⟨gb180, 0, none⟩) (Kd.R_types HL173_0.out BK180.out (by decide)) (fun _ hk => hk.2) (.int .i64 t174)) (fun _ hk => hk.2) (.int .i64 t175)) (fun _ hk => hk.2) (.int .i64 t176)) (fun _ hk => hk.2) (.int .i64 t177)) (fun _ h_ => h_.1)))).2.2⟩, ⟨by repeat (first | (with_reducible first | exact HB.out | apply below_alloc | apply pw_below_drewN | apply below_drew1 | refine below_set ?_ GE180.out) | exact HB.out)⟩⟩
      ·rw [if_neg c42] at H
       have c42b0 : (t167 == 0) = false := beq_eq_false_iff_ne.mpr c42
       have c42b1 : (t167 != 0) = true := bne_iff_ne.mpr c42
       (first | rw [c42b0] | (simp only [i64_w, i32_w]; rw [c42b0]) | skip)
       have H' := Aside0.mk H
       clear H
       go_wp2
       go_meet
       case rel => exact ⟨_, (true), (by first | rfl | (simp; done) | (simp [*]; done)), H', ⟨by have := HJ7.out; first | omega | exact Nat.le_refl _⟩, ⟨by (with_reducible repeat (first | apply Kd.S_alloc | apply Kd.S_drewN | apply Kd.S_drew)); exact Kd.S_mono (Kd.S_far (p := ⟨gb180, 3, none⟩) (Kd.S_far (p := ⟨gb180, 2, none⟩) (Kd.S_far (p := ⟨gb180, 1, none⟩) (Kd.S_far (p := ⟨gb180, 0, none⟩) (Kd.S_types HO_7.out BK180.out (by decide)) (fun _ hk => hk.2) (.int .i64 t174)) (fun _ hk => hk.2) (.int .i64 t175)) (fun _ hk => hk.2) (.int .i64 t176)) (fun _ hk => hk.2) (.int .i64 t177)) (fun _ hk => hk.1.1)⟩, ⟨by (with_reducible repeat (first | apply Kd.S_alloc | apply Kd.S_drewN | apply Kd.S_drew)); exact Kd.S_mono (Kd.S_far (p := ⟨gb180, 3, none⟩) (Kd.S_far (p := ⟨gb180, 2, none⟩) (Kd.S_far (p := ⟨gb180, 1, none⟩) (Kd.S_far (p := ⟨gb180, 0, none⟩) (Kd.S_types HO_9.out BK180.out (by decide)) (fun _ hk => hk.2) (.int .i64 t174)) (fun _ hk => hk.2) (.int .i64 t175)) (fun _ hk => hk.2) (.int .i64 t176)) (fun _ hk => hk.2) (.int .i64 t177)) (fun _ hk => hk.1.1)⟩, ⟨by (with_reducible repeat (first | refine blk_drewN ?_ _ | refine blk_drew ?_ | refine blk_alloc ?_ _)); refine blk_put (cs := #[.int .i64 t174, .int .i64 t175, .int .i64 t176, .int .i64 0]) ?_ 3 _ rfl; (with_reducible repeat (first | refine blk_drewN ?_ _ | refine blk_drew ?_ | refine blk_alloc ?_ _)); refine blk_put (cs := #[.int .i64 t174, .int .i64 t175, .int .i64 0, .int .i64 0]) ?_ 2 _ rfl; (with_reducible repeat (first | refine blk_drewN ?_ _ | refine blk_drew ?_ | refine blk_alloc ?_ _)); refine blk_put (cs := #[.int .i64 t174, .int .i64 0, .int .i64 0, .int .i64 0]) ?_ 1 _ rfl; (with_reducible repeat (first | refine blk_drewN ?_ _ | refine blk_drew ?_ | refine blk_alloc ?_ _)); refine blk_put (cs := #[.int .i64 0, .int .i64 0, .int .i64 0, .int .i64 0]) ?_ 0 _ rfl; (with_reducible repeat (first | refine blk_drewN ?_ _ | refine blk_drew ?_ | refine blk_alloc ?_ _)); exact BK180.out⟩, ⟨(Kd.R_reads' (by (with_reducible repeat (first | apply Kd.R_alloc | apply Kd.R_drewN | apply Kd.R_drew)); exact (Kd.R_mono (Kd.R_far (p := ⟨gb180, 3, none⟩) (Kd.R_far (p := ⟨gb180, 2, none⟩) (Kd.R_far (p := ⟨gb180, 1, none⟩) (Kd.R_far (p := ⟨gb180, 0, none⟩) (Kd.R_types HL165_0.out BK180.out (by decide)) (fun _ hk => hk.2) (.int .i64 t174)) (fun _ hk => hk.2) (.int .i64 t175)) (fun _ hk => hk.2) (.int .i64 t176)) (fun _ hk => hk.2) (.int .i64 t177)) (fun _ h_ => h_.1)))).2.2⟩, ⟨(Kd.R_reads' (by (with_reducible repeat (first | apply Kd.R_alloc | apply Kd.R_drewN | apply Kd.R_drew)); exact (Kd.R_mono (Kd.R_far (p := ⟨gb180, 3, none⟩) (Kd.R_far (p := ⟨gb180, 2, none⟩) (Kd.R_far (p := ⟨gb180, 1, none⟩) (Kd.R_far (p := ⟨gb180, 0, none⟩) (Kd.R_types HL173_0.out BK180.out (by decide)) (fun _ hk => hk.2) (.int .i64 t174)) (fun _ hk => hk.2) (.int .i64 t175)) (fun _ hk => hk.2) (.int .i64 t176)) (fun _ hk => hk.2) (.int .i64 t177)) (fun _ h_ => h_.1)))).2.2⟩, ⟨by repeat (first | (with_reducible first | exact HB.out | apply below_alloc | apply pw_below_drewN | apply below_drew1 | refine below_set ?_ GE180.out) | exact HB.out)⟩⟩
     case rest =>
      as_aux_lemma =>
      clear HC34
      try clear c1
      try clear p1
      try clear q1
      try clear hx1
      try clear qi1
      try clear c2
      try clear p2
      try clear c3
      try clear p3
      try clear c4
      try clear c5
      try clear c13
      try clear c15
      try clear c16
      try clear p16
      try clear q16
      try clear hx16
      try clear qi16
      try clear c17
      try clear c17b0
      try clear c17b1
      try clear p17
      try clear q17
      try clear hx17
      try clear qi17
      try clear c18
      try clear c18b0
      try clear c18b1
      try clear c19
      try clear c19b0
      try clear c19b1
      try clear c28
      try clear c29
      try clear c29b0
      try clear c29b1
      try clear c36
      try clear c37
      try clear c39
      try clear c42
      try clear c42b0
      try clear c42b1
      try clear c43
      try clear c43b0
      try clear c43b1
      try clear c44
      try clear c44b0
      try clear c44b1
      try clear hcz41_0
      try clear hcz41_1
      try clear hcz41_2
      try clear hcz41_3
      try clear hfz41_0
      try clear hfz41_1
      try clear hfz41_2
      try clear hfz41_3
      try clear hx165_0
      try clear hx173_0
      try clear p165
      try clear p173
      try clear p2
      try clear p3
      try clear q165
      try clear q173
      obtain ⟨kq, x93_33, rfl, HA, HJ33, HO_7, HO_9, BK180, HR165_0, HR173_0, HB⟩ := hcut
      cases kq with
      | zero => exact absurd HA.out (by simp [bakekeep3_FrameText.j1])
      | succ kj33 =>
       have H := HA.out
       clear HA
       simp only [bakekeep3_FrameText.j1] at H
       by_cases c45 : x93_33 = true
       ·subst c45
        have H1 : (some false) = some true := by rw [if_pos rfl] at H; exact H
        clear H
        have H := H1
        clear H1
        cases (Option.some.inj H)
       ·replace c45 := Bool.eq_false_iff.mpr c45
        subst c45
        have H1 : (if 0 < (t153.length : Int) then (if 0 < (t160.length : Int) then ((frame_Changed.f kj33 (rd_L3 t153 0) (rd_L3 t160 0)).bind fun bt183 => ((frame_Seen.f kj33 (rd_L3 t153 0)).bind fun bt191 => ((frame_Seen.f kj33 (rd_L3 t160 0)).bind fun bt196 => (if bt183.2.2.2.2.2 = 0 then (if bt191.2 = 0 then (if bt196.2 = 0 then (if (bt191.1.length : Int) = 1536 then (bakekeep3_FrameText.j2 kj33 t153 bt183.2.2.2.2.1 bt191.1 bt196.1 ((bt196.1.length : Int) != 1536) bt183.1 bt183.2.1 bt183.2.2.1 bt183.2.2.2.1) else (bakekeep3_FrameText.j2 kj33 t153 bt183.2.2.2.2.1 bt191.1 bt196.1 true bt183.1 bt183.2.1 bt183.2.2.1 bt183.2.2.2.1)) else (bakekeep3_FrameText.j2 kj33 t153 bt183.2.2.2.2.1 bt191.1 bt196.1 true bt183.1 bt183.2.1 bt183.2.2.1 bt183.2.2.2.1)) else (bakekeep3_FrameText.j2 kj33 t153 bt183.2.2.2.2.1 bt191.1 bt196.1 true bt183.1 bt183.2.1 bt183.2.2.1 bt183.2.2.2.1)) else (bakekeep3_FrameText.j2 kj33 t153 bt183.2.2.2.2.1 bt191.1 bt196.1 true bt183.1 bt183.2.1 bt183.2.2.1 bt183.2.2.2.1))))) else (none)) else (none)) = some true := by rw [if_neg (show ¬ (false = true) by decide)] at H; exact H
        clear H
        have H := H1
        clear H1
        by_cases c46 : 0 < (t153.length : Int)
        ·rw [if_pos c46] at H
         have c46b0 : decide (0 < (t153.length : Int)) = true := decide_eq_true c46
         have c46b1 : decide (0 < t153.length) = true := decide_eq_true (by omega)
         clear c46
         by_cases c47 : 0 < (t160.length : Int)
         ·rw [if_pos c47] at H
          have c47b0 : decide (0 < (t160.length : Int)) = true := decide_eq_true c47
          have c47b1 : decide (0 < t160.length) = true := decide_eq_true (by omega)
          clear c47
          replace H := Option.bind_eq_some_iff.mp H
          obtain ⟨⟨t183, t184, t185, t186, t187, t188⟩, A480, H⟩ := H
          replace H : ((frame_Seen.f kj33 (rd_L3 t153 0)).bind fun bt191 => ((frame_Seen.f kj33 (rd_L3 t160 0)).bind fun bt196 => (if t188 = 0 then (if bt191.2 = 0 then (if bt196.2 = 0 then (if (bt191.1.length : Int) = 1536 then (bakekeep3_FrameText.j2 kj33 t153 t187 bt191.1 bt196.1 ((bt196.1.length : Int) != 1536) t183 t184 t185 t186) else (bakekeep3_FrameText.j2 kj33 t153 t187 bt191.1 bt196.1 true t183 t184 t185 t186)) else (bakekeep3_FrameText.j2 kj33 t153 t187 bt191.1 bt196.1 true t183 t184 t185 t186)) else (bakekeep3_FrameText.j2 kj33 t153 t187 bt191.1 bt196.1 true t183 t184 t185 t186)) else (bakekeep3_FrameText.j2 kj33 t153 t187 bt191.1 bt196.1 true t183 t184 t185 t186)))) = some true := H
          have A48 := Aside0.mk A480
          clear A480
          replace H := Option.bind_eq_some_iff.mp H
          obtain ⟨⟨t191, t192⟩, A490, H⟩ := H
          replace H : ((frame_Seen.f kj33 (rd_L3 t160 0)).bind fun bt196 => (if t188 = 0 then (if t192 = 0 then (if bt196.2 = 0 then (if (t191.length : Int) = 1536 then (bakekeep3_FrameText.j2 kj33 t153 t187 t191 bt196.1 ((bt196.1.length : Int) != 1536) t183 t184 t185 t186) else (bakekeep3_FrameText.j2 kj33 t153 t187 t191 bt196.1 true t183 t184 t185 t186)) else (bakekeep3_FrameText.j2 kj33 t153 t187 t191 bt196.1 true t183 t184 t185 t186)) else (bakekeep3_FrameText.j2 kj33 t153 t187 t191 bt196.1 true t183 t184 t185 t186)) else (bakekeep3_FrameText.j2 kj33 t153 t187 t191 bt196.1 true t183 t184 t185 t186))) = some true := H
          have A49 := Aside0.mk A490
          clear A490
          replace H := Option.bind_eq_some_iff.mp H
          obtain ⟨⟨t196, t197⟩, A500, H⟩ := H
          replace H : (if t188 = 0 then (if t192 = 0 then (if t197 = 0 then (if (t191.length : Int) = 1536 then (bakekeep3_FrameText.j2 kj33 t153 t187 t191 t196 ((t196.length : Int) != 1536) t183 t184 t185 t186) else (bakekeep3_FrameText.j2 kj33 t153 t187 t191 t196 true t183 t184 t185 t186)) else (bakekeep3_FrameText.j2 kj33 t153 t187 t191 t196 true t183 t184 t185 t186)) else (bakekeep3_FrameText.j2 kj33 t153 t187 t191 t196 true t183 t184 t185 t186)) else (bakekeep3_FrameText.j2 kj33 t153 t187 t191 t196 true t183 t184 t185 t186)) = some true := H
          have A50 := Aside0.mk A500
          clear A500
          have HC51 := Aside0.mk H
          clear H
          try go_wp2
          have n0_ := Aside0.mk (Kd.S_drew HO_7.out)
          have n1_ := Aside0.mk (Kd.S_drew HO_9.out)
          have n2_ := Aside0.mk (blk_drew BK180.out)
          have n3_ := Aside0.mk (Kd.C_drew HR165_0.out)
          have n4_ := Aside0.mk (Kd.C_drew HR173_0.out)
          have n5_ := Aside0.mk (below_drew1 HB.out)
          clear HO_7
          clear HO_9
          clear BK180
          clear HR165_0
          clear HR173_0
          clear HB
          have HO_7 := n0_
          have HO_9 := n1_
          have BK180 := n2_
          have HR165_0 := n3_
          have HR173_0 := n4_
          have HB := n5_
          clear n0_ n1_ n2_ n3_ n4_ n5_
          have p181 : 0 ≤ (0 : Int) := (by omega)
          have q181 : 0 < (t153.length : Int) := of_decide_eq_true (by first | (with_reducible assumption) | assumption)
          obtain ⟨ad181, A181_0, c181_0, e181, hx181_0, hl181_0, hi181_0⟩ := at_L3 (Kd.S_reads' HO_7.out).2.2 0 p181 q181
          obtain rfl : ad165 = ad181 := (by injection e181)
          obtain ⟨ce181, hce181, hMe181, hcc181⟩ := Kd.S_get HO_7.out [] 0 p181 (by first | exact q181 | exact of_decide_eq_true (by first | (with_reducible assumption) | assumption) | (have e_ := (Kd.S_reads' HO_7.out).1; omega))
          obtain ⟨ve181_0, rfl, ge181_0⟩ := hMe181
          have hv181_0 := hcc181 0 _ rfl
          rw [Nat.add_zero, show ((Kd.slice 3 (Kd.int .i64))).sz = 1 from rfl, Nat.mul_one] at hv181_0
          replace hv181_0 := Option.some.inj (hv181_0.symm.trans hx181_0)
          rw [hv181_0] at ge181_0
          have HL181_0 := Aside0.mk (show Kd.R (Kd.int .i64) 3 _ _ _ _ (rd_L3 t153 0) from ge181_0)
          clear hv181_0 ge181_0
          clear hcc181 hce181
          have qi181 : (0 < t153.length) = True := eq_true (by omega)
          (try rw [show ((0 : Int)).toNat = 0 from rfl] at hx181_0)
          (try rw [Addr.add_zero'] at hx181_0)
          have HR181_0 := Aside0.mk hi181_0
          have HC181_0 := Aside0.mk hl181_0
          clear hi181_0 hl181_0
          replace p181 := eq_true p181
          replace q181 := eq_true q181
          obtain ⟨Ao53, co53, eo53⟩ := Kd.S_slice HO_9.out
          (first | subst eo53 | (injection eo53 with f1_ f2_ f3_; have f4_ := f1_.symm; have f5_ := f3_.symm; clear f1_ f2_ f3_; subst f4_; subst f5_))
          have p182 : 0 ≤ (0 : Int) := (by omega)
          have q182 : 0 < (t160.length : Int) := of_decide_eq_true (by first | (with_reducible assumption) | assumption)
          obtain ⟨ad182, A182_0, c182_0, e182, hx182_0, hl182_0, hi182_0⟩ := at_L3 (Kd.S_reads' HO_9.out).2.2 0 p182 q182
          cases e182
          obtain ⟨ce182, hce182, hMe182, hcc182⟩ := Kd.S_get HO_9.out [] 0 p182 (by first | exact q182 | exact of_decide_eq_true (by first | (with_reducible assumption) | assumption) | (have e_ := (Kd.S_reads' HO_9.out).1; omega))
          obtain ⟨ve182_0, rfl, ge182_0⟩ := hMe182
          have hv182_0 := hcc182 0 _ rfl
          rw [Nat.add_zero, show ((Kd.slice 3 (Kd.int .i64))).sz = 1 from rfl, Nat.mul_one] at hv182_0
          replace hv182_0 := Option.some.inj (hv182_0.symm.trans hx182_0)
          rw [hv182_0] at ge182_0
          have HL182_0 := Aside0.mk (show Kd.R (Kd.int .i64) 3 _ _ _ _ (rd_L3 t160 0) from ge182_0)
          clear hv182_0 ge182_0
          clear hcc182 hce182
          have qi182 : (0 < t160.length) = True := eq_true (by omega)
          (try rw [show ((0 : Int)).toNat = 0 from rfl] at hx182_0)
          (try rw [Addr.add_zero'] at hx182_0)
          have HR182_0 := Aside0.mk hi182_0
          have HC182_0 := Aside0.mk hl182_0
          clear hi182_0 hl182_0
          replace p182 := eq_true p182
          replace q182 := eq_true q182
          as_aux_lemma =>
          refine start_ (n := 15) (S := fun w' => w'.cell? ad165 = some (.slice A181_0 (rd_L3 t153 0).length c181_0) ∧ w'.cell? ad182 = some (.slice A182_0 (rd_L3 t160 0).length c182_0)) (ds := []) #[false, false, false, false, false, false, false, false, false, false, false, false, false, false, false] (by kernel_rfl) rfl rfl ⟨hx181_0, hx182_0⟩ (fun hHeld => ?_); refine with_tabW bakekeep3_FrameText.tab10 bakekeep3_FrameText.bits10 (fun HT_ HW_ => ?_)
          generalize wc.drew = w52 at HO_7 HO_9 BK180 HR165_0 HR173_0 HB HL181_0 HL182_0 HR181_0 HR182_0 hx181_0 hx182_0 hHeld ⊢
          refine pure_ (i := 0) (N := some 95) (v := ?_) (a' := ?_) #[true, false, false, false, false, false, false, false, false, false, false, false, false, false, false] rfl rfl (any_of HT_.out (by kernel_rfl)) (fun _ _ _ h => h) (Or.inl ⟨by rfl, ?_⟩) ?_ ?_
          rotate_left
          ·intro w'
           go_simp
           with_reducible rfl
          rotate_left
          ·simp only [Act.put, List.setIfInBounds_toArray, List.set_cons_zero, List.set_cons_succ, i64_w, i32_w]
           rfl
          refine pure_ (i := 1) (N := some 96) (v := ?_) (a' := ?_) #[true, true, false, false, false, false, false, false, false, false, false, false, false, false, false] rfl rfl (any_of HT_.out (by kernel_rfl)) (fun _ _ _ h => h) (Or.inl ⟨by rfl, ?_⟩) ?_ ?_
          rotate_left
          ·intro w'
           go_simp
           with_reducible rfl
          rotate_left
          ·simp only [Act.put, List.setIfInBounds_toArray, List.set_cons_zero, List.set_cons_succ, i64_w, i32_w]
           rfl
          refine pure_ (i := 3) (N := some 98) (v := ?_) (a' := ?_) #[true, true, false, true, false, false, false, false, false, false, false, false, false, false, false] rfl rfl (any_of HT_.out (by kernel_rfl)) (fun _ _ _ h => h) (Or.inl ⟨by rfl, ?_⟩) ?_ ?_
          rotate_left
          ·intro w'
           go_simp
           with_reducible rfl
          rotate_left
          ·simp only [Act.put, List.setIfInBounds_toArray, List.set_cons_zero, List.set_cons_succ, i64_w, i32_w]
           rfl
          refine pure_ (i := 4) (N := some 99) (v := ?_) (a' := ?_) #[true, true, false, true, true, false, false, false, false, false, false, false, false, false, false] rfl rfl (any_of HT_.out (by kernel_rfl)) (fun _ _ _ h => h) (Or.inl ⟨by rfl, ?_⟩) ?_ ?_
          rotate_left
          ·intro w'
           go_simp
           with_reducible rfl
          rotate_left
          ·simp only [Act.put, List.setIfInBounds_toArray, List.set_cons_zero, List.set_cons_succ, i64_w, i32_w]
           rfl
          refine take_ (i := 2) (N := some 97) (v := ?_) (a' := ?_) #[true, true, true, true, true, false, false, false, false, false, false, false, false, false, false] rfl rfl (take_ofW HT_.out HW_.out (by kernel_rfl)) (fun _ _ _ h => h) (Or.inl ⟨by rfl, ?_⟩) hHeld ?_ ?_
          rotate_left
          ·rintro w' ⟨s0, s1⟩
           go_simp
           with_reducible rfl
          rotate_left
          ·simp only [Act.put, List.setIfInBounds_toArray, List.set_cons_zero, List.set_cons_succ, i64_w, i32_w]
           rfl
          refine take_ (i := 5) (N := some 100) (v := ?_) (a' := ?_) #[true, true, true, true, true, true, false, false, false, false, false, false, false, false, false] rfl rfl (take_ofW HT_.out HW_.out (by kernel_rfl)) (fun _ _ _ h => h) (Or.inl ⟨by rfl, ?_⟩) hHeld ?_ ?_
          rotate_left
          ·rintro w' ⟨s0, s1⟩
           go_simp
           with_reducible rfl
          rotate_left
          ·simp only [Act.put, List.setIfInBounds_toArray, List.set_cons_zero, List.set_cons_succ, i64_w, i32_w]
           rfl
          refine join_ (σ := Nat) 3 #[true, true, true, true, true, true, true, true, true, true, true, true, false, false, false] (fun s_ => [(101, .tuple #[.agg #[.int .i64 t183, .int .i64 t184, .int .i64 t185, .int .i64 t186], .bool t187, .int .i64 t188]), (16, .pointer (some ⟨s_, 0, none⟩)), (94, .tuple #[.agg #[.int .i64 t183, .int .i64 t184, .int .i64 t185, .int .i64 t186], .bool t187, .int .i64 t188]), (102, .agg #[.int .i64 t183, .int .i64 t184, .int .i64 t185, .int .i64 t186]), (103, .bool t187), (104, .int .i64 t188)]) (fun s_ w' => (w'.cell? ad165 = some (.slice A181_0 (rd_L3 t153 0).length c181_0) ∧ w'.cell? ad182 = some (.slice A182_0 (rd_L3 t160 0).length c182_0)) ∧ (Kd.R (Kd.int .i64) 3 w' w.heap.size (fun k_ => some k_ ≠ (.slice (some ad165) t153.length co35 : Value).ownBlock ∧ some k_ ≠ (.slice (some ad182) t160.length co53 : Value).ownBlock) (.slice A181_0 (rd_L3 t153 0).length c181_0) (rd_L3 t153 0)) ∧ (Kd.R (Kd.int .i64) 3 w' w.heap.size (fun k_ => some k_ ≠ (.slice (some ad165) t153.length co35 : Value).ownBlock ∧ some k_ ≠ (.slice (some ad182) t160.length co53 : Value).ownBlock) (.slice A182_0 (rd_L3 t160 0).length c182_0) (rd_L3 t160 0)) ∧ (Kd.S (Kd.slice 3 (Kd.int .i64)) 70 w' w.heap.size (fun k_ => some k_ ≠ (.slice (some ad182) t160.length co53 : Value).ownBlock) (.slice (some ad165) t153.length co35) t153) ∧ (Kd.S (Kd.slice 3 (Kd.int .i64)) 70 w' w.heap.size (fun k_ => some k_ ≠ (.slice (some ad165) t153.length co35 : Value).ownBlock) (.slice (some ad182) t160.length co53) t160) ∧ (w'.heap[gb180]? = some (.cells #[.int .i64 t174, .int .i64 t175, .int .i64 t176, .int .i64 t177] 96 (0, 0))) ∧ (w'.heap[s_]? = some (.cells #[.int .i64 0, .int .i64 0, .int .i64 0, .int .i64 0] 96 (0, 0))) ∧ (w.heap.size ≤ s_) ∧ (w.heap.size ≤ s_) ∧ (gb180 ≠ s_) ∧ (s_ ≠ gb180) ∧ (Below w.heap.size w w')) ?_ ?_
          rotate_left
          ·intro hCont
           refine two_ (i := 6) (j := 11) (Ni := some 101) (Nj := some 16) #[true, true, true, true, true, true, true, false, false, false, false, false, false, false, false] #[true, true, true, true, true, true, false, false, false, false, false, true, false, false, false] rfl rfl rfl rfl (two_of HT_.out (by kernel_rfl)) (by decide) (by decide) (fun K hK => ?_) (fun K hK => ?_)
           ·skip
            refine goes_ Try.func57 (by kernel_rfl) rfl #[.slice A181_0 (rd_L3 t153 0).length c181_0, .slice A182_0 (rd_L3 t160 0).length c182_0] (by rfl) rfl rfl (by (try simp only [List.map_toArray, List.map_cons, List.map_nil]); first | done | rfl | (simp only [List.length_drop, List.length_take]; rfl)) ?_
            with_reducible refine (frame_Changed.calls kj33 _ _ (rd_L3 t153 0) _ _ (rd_L3 t160 0) t183 t184 t185 t186 t187 t188 _ ?side1 ?side2 ?side3 ?side4 A48.out).mono ?_
            (case side1 => repeat (first | exact (by repeat (first | (with_reducible exact HR181_0.out) | (with_reducible refine Kd.C_alloc ?_ _) | (with_reducible refine Kd.C_drewN ?_ _) | (with_reducible refine Kd.C_drew ?_) | exact HR181_0.out)) | (with_reducible refine Kd.C_alloc ?_ _) | (with_reducible refine Kd.C_drewN ?_ _) | (with_reducible refine Kd.C_drew ?_)))
            (case side2 => exact HC181_0.out)
            (case side3 => repeat (first | exact (by repeat (first | (with_reducible exact HR182_0.out) | (with_reducible refine Kd.C_alloc ?_ _) | (with_reducible refine Kd.C_drewN ?_ _) | (with_reducible refine Kd.C_drew ?_) | exact HR182_0.out)) | (with_reducible refine Kd.C_alloc ?_ _) | (with_reducible refine Kd.C_drewN ?_ _) | (with_reducible refine Kd.C_drew ?_)))
            (case side4 => exact HC182_0.out)
            rintro e w54 ⟨rfl, hb⟩
            have HS0_ := (hb.cell (World.block_lt_of_cell? _ _ (hHeld.1))).trans (hHeld.1)
            have HS1_ := (hb.cell (World.block_lt_of_cell? _ _ (hHeld.2))).trans (hHeld.2)
            refine ⟨_, rfl, ?_⟩
            have n0_ := Aside0.mk (Kd.S_below (by (with_reducible repeat (first | apply Kd.S_alloc | apply Kd.S_drewN | apply Kd.S_drew)); exact HO_7.out) hb)
            have n1_ := Aside0.mk (Kd.S_below (by (with_reducible repeat (first | apply Kd.S_alloc | apply Kd.S_drewN | apply Kd.S_drew)); exact HO_9.out) hb)
            have n2_ := Aside0.mk (Kd.R_below (by (with_reducible repeat (first | apply Kd.R_alloc | apply Kd.R_drewN | apply Kd.R_drew)); exact HL181_0.out) hb)
            have n3_ := Aside0.mk (Kd.R_below (by (with_reducible repeat (first | apply Kd.R_alloc | apply Kd.R_drewN | apply Kd.R_drew)); exact HL182_0.out) hb)
            have n4_ := Aside0.mk (blk_below (g := gb180) (o := .cells #[.int .i64 t174, .int .i64 t175, .int .i64 t176, .int .i64 t177] 96 (0, 0)) (by (with_reducible repeat (first | refine blk_drewN ?_ _ | refine blk_drew ?_ | refine blk_alloc ?_ _)); exact BK180.out) hb)
            have n5_ := Aside0.mk (Kd.C_below (by repeat (first | (with_reducible exact HR165_0.out) | (with_reducible refine Kd.C_alloc ?_ _) | (with_reducible refine Kd.C_drewN ?_ _) | (with_reducible refine Kd.C_drew ?_) | exact HR165_0.out)) hb)
            have n6_ := Aside0.mk (Kd.C_below (by repeat (first | (with_reducible exact HR173_0.out) | (with_reducible refine Kd.C_alloc ?_ _) | (with_reducible refine Kd.C_drewN ?_ _) | (with_reducible refine Kd.C_drew ?_) | exact HR173_0.out)) hb)
            have n7_ := Aside0.mk (Kd.C_below (by repeat (first | (with_reducible exact HR181_0.out) | (with_reducible refine Kd.C_alloc ?_ _) | (with_reducible refine Kd.C_drewN ?_ _) | (with_reducible refine Kd.C_drew ?_) | exact HR181_0.out)) hb)
            have n8_ := Aside0.mk (Kd.C_below (by repeat (first | (with_reducible exact HR182_0.out) | (with_reducible refine Kd.C_alloc ?_ _) | (with_reducible refine Kd.C_drewN ?_ _) | (with_reducible refine Kd.C_drew ?_) | exact HR182_0.out)) hb)
            have n9_ := Aside0.mk (below_step (by repeat (first | (with_reducible first | exact HB.out | apply below_alloc | apply pw_below_drewN | apply below_drew1 | refine below_set ?_ GE180.out) | exact HB.out)) hb)
            clear HO_7
            clear HO_9
            clear HL181_0
            clear HL182_0
            clear BK180
            clear HR165_0
            clear HR173_0
            clear HR181_0
            clear HR182_0
            clear HB
            have HO_7 := n0_
            have HO_9 := n1_
            have HL181_0 := n2_
            have HL182_0 := n3_
            have BK180 := n4_
            have HR165_0 := n5_
            have HR173_0 := n6_
            have HR181_0 := n7_
            have HR182_0 := n8_
            have HB := n9_
            clear n0_ n1_ n2_ n3_ n4_ n5_ n6_ n7_ n8_ n9_
            (try clear hb)
            (try clear hb2)
            (try clear hk)
            (try clear hi)
            refine hK.out _ _ ⟨HS0_, HS1_⟩ (fun hHeld => ?_)
            clear hK K
            refine norm_ (a' := ?_) ?_ ?_
            rotate_left
            ·show Act.put _ (some 101) _ = _
             simp only [Act.put, List.setIfInBounds_toArray, List.set_cons_zero, List.set_cons_succ, i64_w, i32_w]
             rfl
            refine pure_ (i := 7) (N := some 94) (v := ?_) (a' := ?_) #[true, true, true, true, true, true, true, true, false, false, false, false, false, false, false] rfl rfl (any_of HT_.out (by kernel_rfl)) (fun _ _ _ h => h) (Or.inl ⟨by rfl, ?_⟩) ?_ ?_
            rotate_left
            ·intro w'
             go_simp
             with_reducible rfl
            rotate_left
            ·simp only [Act.put, List.setIfInBounds_toArray, List.set_cons_zero, List.set_cons_succ, i64_w, i32_w]
             rfl
            refine pure_ (i := 8) (N := some 102) (v := ?_) (a' := ?_) #[true, true, true, true, true, true, true, true, true, false, false, false, false, false, false] rfl rfl (any_of HT_.out (by kernel_rfl)) (fun _ _ _ h => h) (Or.inl ⟨by rfl, ?_⟩) ?_ ?_
            rotate_left
            ·intro w'
             go_simp
             with_reducible rfl
            rotate_left
            ·simp only [Act.put, List.setIfInBounds_toArray, List.set_cons_zero, List.set_cons_succ, i64_w, i32_w]
             rfl
            refine pure_ (i := 9) (N := some 103) (v := ?_) (a' := ?_) #[true, true, true, true, true, true, true, true, true, true, false, false, false, false, false] rfl rfl (any_of HT_.out (by kernel_rfl)) (fun _ _ _ h => h) (Or.inl ⟨by rfl, ?_⟩) ?_ ?_
            rotate_left
            ·intro w'
             go_simp
             with_reducible rfl
            rotate_left
            ·simp only [Act.put, List.setIfInBounds_toArray, List.set_cons_zero, List.set_cons_succ, i64_w, i32_w]
             rfl
            refine pure_ (i := 10) (N := some 104) (v := ?_) (a' := ?_) #[true, true, true, true, true, true, true, true, true, true, true, false, false, false, false] rfl rfl (any_of HT_.out (by kernel_rfl)) (fun _ _ _ h => h) (Or.inl ⟨by rfl, ?_⟩) ?_ ?_
            rotate_left
            ·intro w'
             go_simp
             with_reducible rfl
            rotate_left
            ·simp only [Act.put, List.setIfInBounds_toArray, List.set_cons_zero, List.set_cons_succ, i64_w, i32_w]
             rfl
            refine one_ (i := 11) (N := some 16) #[true, true, true, true, true, true, true, true, true, true, true, true, false, false, false] rfl rfl (one_of HT_.out (by kernel_rfl)) (by decide) (fun K hK => ?_)
            refine box_step ?hg (N := 16) ?hd (cs := #[.int .i64 0, .int .i64 0, .int .i64 0, .int .i64 0]) (t := 96) ?hr ?_; (case hd => rfl); (case hg => rfl); (case hr => first | (go_simp; done) | (go_simp; rfl))
            intro gb189 hg w55 hbox hb
            have HS0_ := (hb.cell (World.block_lt_of_cell? _ _ (hHeld.1))).trans (hHeld.1)
            have HS1_ := (hb.cell (World.block_lt_of_cell? _ _ (hHeld.2))).trans (hHeld.2)
            have n0_ := Aside0.mk (Kd.S_below (by (with_reducible repeat (first | apply Kd.S_alloc | apply Kd.S_drewN | apply Kd.S_drew)); exact HO_7.out) hb)
            have n1_ := Aside0.mk (Kd.S_below (by (with_reducible repeat (first | apply Kd.S_alloc | apply Kd.S_drewN | apply Kd.S_drew)); exact HO_9.out) hb)
            have n2_ := Aside0.mk (Kd.R_below (by (with_reducible repeat (first | apply Kd.R_alloc | apply Kd.R_drewN | apply Kd.R_drew)); exact HL181_0.out) hb)
            have n3_ := Aside0.mk (Kd.R_below (by (with_reducible repeat (first | apply Kd.R_alloc | apply Kd.R_drewN | apply Kd.R_drew)); exact HL182_0.out) hb)
            have n4_ := Aside0.mk (blk_below (g := gb180) (o := .cells #[.int .i64 t174, .int .i64 t175, .int .i64 t176, .int .i64 t177] 96 (0, 0)) (by (with_reducible repeat (first | refine blk_drewN ?_ _ | refine blk_drew ?_ | refine blk_alloc ?_ _)); exact BK180.out) hb)
            have n5_ := Aside0.mk (Kd.C_below (by repeat (first | (with_reducible exact HR165_0.out) | (with_reducible refine Kd.C_alloc ?_ _) | (with_reducible refine Kd.C_drewN ?_ _) | (with_reducible refine Kd.C_drew ?_) | exact HR165_0.out)) hb)
            have n6_ := Aside0.mk (Kd.C_below (by repeat (first | (with_reducible exact HR173_0.out) | (with_reducible refine Kd.C_alloc ?_ _) | (with_reducible refine Kd.C_drewN ?_ _) | (with_reducible refine Kd.C_drew ?_) | exact HR173_0.out)) hb)
            have n7_ := Aside0.mk (Kd.C_below (by repeat (first | (with_reducible exact HR181_0.out) | (with_reducible refine Kd.C_alloc ?_ _) | (with_reducible refine Kd.C_drewN ?_ _) | (with_reducible refine Kd.C_drew ?_) | exact HR181_0.out)) hb)
            have n8_ := Aside0.mk (Kd.C_below (by repeat (first | (with_reducible exact HR182_0.out) | (with_reducible refine Kd.C_alloc ?_ _) | (with_reducible refine Kd.C_drewN ?_ _) | (with_reducible refine Kd.C_drew ?_) | exact HR182_0.out)) hb)
            have n9_ := Aside0.mk (below_step (by repeat (first | (with_reducible first | exact HB.out | apply below_alloc | apply pw_below_drewN | apply below_drew1 | refine below_set ?_ GE180.out) | exact HB.out)) hb)
            have n10_ := Aside0.mk (hbox)
            have n11_ := Aside0.mk ((by rw [hg]; exact (below_size (by repeat (first | (with_reducible first | exact HB.out | apply below_alloc | apply pw_below_drewN | apply below_drew1 | refine below_set ?_ GE180.out) | exact HB.out))) : w.heap.size ≤ gb189))
            have n12_ := Aside0.mk ((by rw [hg]; exact (below_size (by repeat (first | (with_reducible first | exact HB.out | apply below_alloc | apply pw_below_drewN | apply below_drew1 | refine below_set ?_ GE180.out) | exact HB.out))) : w.heap.size ≤ gb189))
            have n13_ := Aside0.mk ((by rw [hg]; exact Nat.ne_of_lt (blk_lt (g := gb180) (o := .cells #[.int .i64 t174, .int .i64 t175, .int .i64 t176, .int .i64 t177] 96 (0, 0)) (by (with_reducible repeat (first | refine blk_drewN ?_ _ | refine blk_drew ?_ | refine blk_alloc ?_ _)); exact BK180.out)) : gb180 ≠ gb189))
            have n14_ := Aside0.mk ((by rw [hg]; exact Nat.ne_of_gt (blk_lt (g := gb180) (o := .cells #[.int .i64 t174, .int .i64 t175, .int .i64 t176, .int .i64 t177] 96 (0, 0)) (by (with_reducible repeat (first | refine blk_drewN ?_ _ | refine blk_drew ?_ | refine blk_alloc ?_ _)); exact BK180.out)) : gb189 ≠ gb180))
            clear HO_7
            clear HO_9
            clear HL181_0
            clear HL182_0
            clear BK180
            clear HR165_0
            clear HR173_0
            clear HR181_0
            clear HR182_0
            clear HB
            have HO_7 := n0_
            have HO_9 := n1_
            have HL181_0 := n2_
            have HL182_0 := n3_
            have BK180 := n4_
            have HR165_0 := n5_
            have HR173_0 := n6_
            have HR181_0 := n7_
            have HR182_0 := n8_
            have HB := n9_
            have BK189 := n10_
            have GW189 := n11_
            have GE189 := n12_
            have NB180_189 := n13_
            have NB189_180 := n14_
            clear n0_ n1_ n2_ n3_ n4_ n5_ n6_ n7_ n8_ n9_ n10_ n11_ n12_ n13_ n14_
            clear hb hbox hg
            refine hK.out _ _ ⟨HS0_, HS1_⟩ (fun hHeld => ?_)
            clear hK K
            refine norm_ (a' := ?_) ?_ ?_
            rotate_left
            ·show Act.put _ (some 16) _ = _
             simp only [Act.put, List.setIfInBounds_toArray, List.set_cons_zero, List.set_cons_succ, i64_w, i32_w]
             rfl
            exact norm_ (by simp only [putAll, Act.put, List.setIfInBounds_toArray, List.set_cons_zero, List.set_cons_succ]) (hCont (gb189) _ ⟨hHeld, (by (with_reducible repeat (first | apply Kd.R_alloc | apply Kd.R_drewN | apply Kd.R_drew)); exact Kd.R_mono HL181_0.out (fun _ hk => ⟨hk.2, hk.1⟩)), (by (with_reducible repeat (first | apply Kd.R_alloc | apply Kd.R_drewN | apply Kd.R_drew)); exact HL182_0.out), (by (with_reducible repeat (first | apply Kd.S_alloc | apply Kd.S_drewN | apply Kd.S_drew)); exact HO_7.out), (by (with_reducible repeat (first | apply Kd.S_alloc | apply Kd.S_drewN | apply Kd.S_drew)); exact HO_9.out), (by (with_reducible repeat (first | refine blk_drewN ?_ _ | refine blk_drew ?_ | refine blk_alloc ?_ _)); exact BK180.out), (by (with_reducible repeat (first | refine blk_drewN ?_ _ | refine blk_drew ?_ | refine blk_alloc ?_ _)); exact BK189.out), GW189.out, GE189.out, NB180_189.out, NB189_180.out, (by repeat (first | (with_reducible first | exact HB.out | apply below_alloc | apply pw_below_drewN | apply below_drew1 | refine below_set ?_ GE180.out | refine below_set ?_ GE189.out) | exact HB.out))⟩)
           ·skip
            refine box_step ?hg (N := 16) ?hd (cs := #[.int .i64 0, .int .i64 0, .int .i64 0, .int .i64 0]) (t := 96) ?hr ?_; (case hd => rfl); (case hg => rfl); (case hr => first | (go_simp; done) | (go_simp; rfl))
            intro gb189 hg w54 hbox hb
            have HS0_ := (hb.cell (World.block_lt_of_cell? _ _ (hHeld.1))).trans (hHeld.1)
            have HS1_ := (hb.cell (World.block_lt_of_cell? _ _ (hHeld.2))).trans (hHeld.2)
            have n0_ := Aside0.mk (Kd.S_below (by (with_reducible repeat (first | apply Kd.S_alloc | apply Kd.S_drewN | apply Kd.S_drew)); exact HO_7.out) hb)
            have n1_ := Aside0.mk (Kd.S_below (by (with_reducible repeat (first | apply Kd.S_alloc | apply Kd.S_drewN | apply Kd.S_drew)); exact HO_9.out) hb)
            have n2_ := Aside0.mk (Kd.R_below (by (with_reducible repeat (first | apply Kd.R_alloc | apply Kd.R_drewN | apply Kd.R_drew)); exact HL181_0.out) hb)
            have n3_ := Aside0.mk (Kd.R_below (by (with_reducible repeat (first | apply Kd.R_alloc | apply Kd.R_drewN | apply Kd.R_drew)); exact HL182_0.out) hb)
            have n4_ := Aside0.mk (blk_below (g := gb180) (o := .cells #[.int .i64 t174, .int .i64 t175, .int .i64 t176, .int .i64 t177] 96 (0, 0)) (by (with_reducible repeat (first | refine blk_drewN ?_ _ | refine blk_drew ?_ | refine blk_alloc ?_ _)); exact BK180.out) hb)
            have n5_ := Aside0.mk (Kd.C_below (by repeat (first | (with_reducible exact HR165_0.out) | (with_reducible refine Kd.C_alloc ?_ _) | (with_reducible refine Kd.C_drewN ?_ _) | (with_reducible refine Kd.C_drew ?_) | exact HR165_0.out)) hb)
            have n6_ := Aside0.mk (Kd.C_below (by repeat (first | (with_reducible exact HR173_0.out) | (with_reducible refine Kd.C_alloc ?_ _) | (with_reducible refine Kd.C_drewN ?_ _) | (with_reducible refine Kd.C_drew ?_) | exact HR173_0.out)) hb)
            have n7_ := Aside0.mk (Kd.C_below (by repeat (first | (with_reducible exact HR181_0.out) | (with_reducible refine Kd.C_alloc ?_ _) | (with_reducible refine Kd.C_drewN ?_ _) | (with_reducible refine Kd.C_drew ?_) | exact HR181_0.out)) hb)
            have n8_ := Aside0.mk (Kd.C_below (by repeat (first | (with_reducible exact HR182_0.out) | (with_reducible refine Kd.C_alloc ?_ _) | (with_reducible refine Kd.C_drewN ?_ _) | (with_reducible refine Kd.C_drew ?_) | exact HR182_0.out)) hb)
            have n9_ := Aside0.mk (below_step (by repeat (first | (with_reducible first | exact HB.out | apply below_alloc | apply pw_below_drewN | apply below_drew1 | refine below_set ?_ GE180.out) | exact HB.out)) hb)
            have n10_ := Aside0.mk (hbox)
            have n11_ := Aside0.mk ((by rw [hg]; exact (below_size (by repeat (first | (with_reducible first | exact HB.out | apply below_alloc | apply pw_below_drewN | apply below_drew1 | refine below_set ?_ GE180.out) | exact HB.out))) : w.heap.size ≤ gb189))
            have n12_ := Aside0.mk ((by rw [hg]; exact (below_size (by repeat (first | (with_reducible first | exact HB.out | apply below_alloc | apply pw_below_drewN | apply below_drew1 | refine below_set ?_ GE180.out) | exact HB.out))) : w.heap.size ≤ gb189))
            have n13_ := Aside0.mk ((by rw [hg]; exact Nat.ne_of_lt (blk_lt (g := gb180) (o := .cells #[.int .i64 t174, .int .i64 t175, .int .i64 t176, .int .i64 t177] 96 (0, 0)) (by (with_reducible repeat (first | refine blk_drewN ?_ _ | refine blk_drew ?_ | refine blk_alloc ?_ _)); exact BK180.out)) : gb180 ≠ gb189))
            have n14_ := Aside0.mk ((by rw [hg]; exact Nat.ne_of_gt (blk_lt (g := gb180) (o := .cells #[.int .i64 t174, .int .i64 t175, .int .i64 t176, .int .i64 t177] 96 (0, 0)) (by (with_reducible repeat (first | refine blk_drewN ?_ _ | refine blk_drew ?_ | refine blk_alloc ?_ _)); exact BK180.out)) : gb189 ≠ gb180))
            clear HO_7
            clear HO_9
            clear HL181_0
            clear HL182_0
            clear BK180
            clear HR165_0
            clear HR173_0
            clear HR181_0
            clear HR182_0
            clear HB
            have HO_7 := n0_
            have HO_9 := n1_
            have HL181_0 := n2_
            have HL182_0 := n3_
            have BK180 := n4_
            have HR165_0 := n5_
            have HR173_0 := n6_
            have HR181_0 := n7_
            have HR182_0 := n8_
            have HB := n9_
            have BK189 := n10_
            have GW189 := n11_
            have GE189 := n12_
            have NB180_189 := n13_
            have NB189_180 := n14_
            clear n0_ n1_ n2_ n3_ n4_ n5_ n6_ n7_ n8_ n9_ n10_ n11_ n12_ n13_ n14_
            clear hb hbox hg
            refine hK.out _ _ ⟨HS0_, HS1_⟩ (fun hHeld => ?_)
            clear hK K
            refine norm_ (a' := ?_) ?_ ?_
            rotate_left
            ·show Act.put _ (some 16) _ = _
             simp only [Act.put, List.setIfInBounds_toArray, List.set_cons_zero, List.set_cons_succ, i64_w, i32_w]
             rfl
            refine one_ (i := 6) (N := some 101) #[true, true, true, true, true, true, true, false, false, false, false, true, false, false, false] rfl rfl (one_of HT_.out (by kernel_rfl)) (by decide) (fun K hK => ?_)
            refine goes_ Try.func57 (by kernel_rfl) rfl #[.slice A181_0 (rd_L3 t153 0).length c181_0, .slice A182_0 (rd_L3 t160 0).length c182_0] (by rfl) rfl rfl (by (try simp only [List.map_toArray, List.map_cons, List.map_nil]); first | done | rfl | (simp only [List.length_drop, List.length_take]; rfl)) ?_
            with_reducible refine (frame_Changed.calls kj33 _ _ (rd_L3 t153 0) _ _ (rd_L3 t160 0) t183 t184 t185 t186 t187 t188 _ ?side1 ?side2 ?side3 ?side4 A48.out).mono ?_
            (case side1 => repeat (first | exact (by repeat (first | (with_reducible exact HR181_0.out) | (with_reducible refine Kd.C_alloc ?_ _) | (with_reducible refine Kd.C_drewN ?_ _) | (with_reducible refine Kd.C_drew ?_) | exact HR181_0.out)) | (with_reducible refine Kd.C_alloc ?_ _) | (with_reducible refine Kd.C_drewN ?_ _) | (with_reducible refine Kd.C_drew ?_)))
            (case side2 => exact HC181_0.out)
            (case side3 => repeat (first | exact (by repeat (first | (with_reducible exact HR182_0.out) | (with_reducible refine Kd.C_alloc ?_ _) | (with_reducible refine Kd.C_drewN ?_ _) | (with_reducible refine Kd.C_drew ?_) | exact HR182_0.out)) | (with_reducible refine Kd.C_alloc ?_ _) | (with_reducible refine Kd.C_drewN ?_ _) | (with_reducible refine Kd.C_drew ?_)))
            (case side4 => exact HC182_0.out)
            rintro e w55 ⟨rfl, hb⟩
            have HS0_ := (hb.cell (World.block_lt_of_cell? _ _ (hHeld.1))).trans (hHeld.1)
            have HS1_ := (hb.cell (World.block_lt_of_cell? _ _ (hHeld.2))).trans (hHeld.2)
            refine ⟨_, rfl, ?_⟩
            have n0_ := Aside0.mk (Kd.S_below (by (with_reducible repeat (first | apply Kd.S_alloc | apply Kd.S_drewN | apply Kd.S_drew)); exact HO_7.out) hb)
            have n1_ := Aside0.mk (Kd.S_below (by (with_reducible repeat (first | apply Kd.S_alloc | apply Kd.S_drewN | apply Kd.S_drew)); exact HO_9.out) hb)
            have n2_ := Aside0.mk (Kd.R_below (by (with_reducible repeat (first | apply Kd.R_alloc | apply Kd.R_drewN | apply Kd.R_drew)); exact HL181_0.out) hb)
            have n3_ := Aside0.mk (Kd.R_below (by (with_reducible repeat (first | apply Kd.R_alloc | apply Kd.R_drewN | apply Kd.R_drew)); exact HL182_0.out) hb)
            have n4_ := Aside0.mk (blk_below (g := gb180) (o := .cells #[.int .i64 t174, .int .i64 t175, .int .i64 t176, .int .i64 t177] 96 (0, 0)) (by (with_reducible repeat (first | refine blk_drewN ?_ _ | refine blk_drew ?_ | refine blk_alloc ?_ _)); exact BK180.out) hb)
            have n5_ := Aside0.mk (Kd.C_below (by repeat (first | (with_reducible exact HR165_0.out) | (with_reducible refine Kd.C_alloc ?_ _) | (with_reducible refine Kd.C_drewN ?_ _) | (with_reducible refine Kd.C_drew ?_) | exact HR165_0.out)) hb)
            have n6_ := Aside0.mk (Kd.C_below (by repeat (first | (with_reducible exact HR173_0.out) | (with_reducible refine Kd.C_alloc ?_ _) | (with_reducible refine Kd.C_drewN ?_ _) | (with_reducible refine Kd.C_drew ?_) | exact HR173_0.out)) hb)
            have n7_ := Aside0.mk (Kd.C_below (by repeat (first | (with_reducible exact HR181_0.out) | (with_reducible refine Kd.C_alloc ?_ _) | (with_reducible refine Kd.C_drewN ?_ _) | (with_reducible refine Kd.C_drew ?_) | exact HR181_0.out)) hb)
            have n8_ := Aside0.mk (Kd.C_below (by repeat (first | (with_reducible exact HR182_0.out) | (with_reducible refine Kd.C_alloc ?_ _) | (with_reducible refine Kd.C_drewN ?_ _) | (with_reducible refine Kd.C_drew ?_) | exact HR182_0.out)) hb)
            have n9_ := Aside0.mk (blk_below (g := gb189) (o := .cells #[.int .i64 0, .int .i64 0, .int .i64 0, .int .i64 0] 96 (0, 0)) (by (with_reducible repeat (first | refine blk_drewN ?_ _ | refine blk_drew ?_ | refine blk_alloc ?_ _)); exact BK189.out) hb)
            have n10_ := Aside0.mk (below_step (by repeat (first | (with_reducible first | exact HB.out | apply below_alloc | apply pw_below_drewN | apply below_drew1 | refine below_set ?_ GE180.out | refine below_set ?_ GE189.out) | exact HB.out)) hb)
            clear HO_7
            clear HO_9
            clear HL181_0
            clear HL182_0
            clear BK180
            clear HR165_0
            clear HR173_0
            clear HR181_0
            clear HR182_0
            clear BK189
            clear HB
            have HO_7 := n0_
            have HO_9 := n1_
            have HL181_0 := n2_
            have HL182_0 := n3_
            have BK180 := n4_
            have HR165_0 := n5_
            have HR173_0 := n6_
            have HR181_0 := n7_
            have HR182_0 := n8_
            have BK189 := n9_
            have HB := n10_
            clear n0_ n1_ n2_ n3_ n4_ n5_ n6_ n7_ n8_ n9_ n10_
            (try clear hb)
            (try clear hb2)
            (try clear hk)
            (try clear hi)
            refine hK.out _ _ ⟨HS0_, HS1_⟩ (fun hHeld => ?_)
            clear hK K
            refine norm_ (a' := ?_) ?_ ?_
            rotate_left
            ·show Act.put _ (some 101) _ = _
             simp only [Act.put, List.setIfInBounds_toArray, List.set_cons_zero, List.set_cons_succ, i64_w, i32_w]
             rfl
            refine pure_ (i := 7) (N := some 94) (v := ?_) (a' := ?_) #[true, true, true, true, true, true, true, true, false, false, false, true, false, false, false] rfl rfl (any_of HT_.out (by kernel_rfl)) (fun _ _ _ h => h) (Or.inl ⟨by rfl, ?_⟩) ?_ ?_
            rotate_left
            ·intro w'
             go_simp
             with_reducible rfl
            rotate_left
            ·simp only [Act.put, List.setIfInBounds_toArray, List.set_cons_zero, List.set_cons_succ, i64_w, i32_w]
             rfl
            refine pure_ (i := 8) (N := some 102) (v := ?_) (a' := ?_) #[true, true, true, true, true, true, true, true, true, false, false, true, false, false, false] rfl rfl (any_of HT_.out (by kernel_rfl)) (fun _ _ _ h => h) (Or.inl ⟨by rfl, ?_⟩) ?_ ?_
            rotate_left
            ·intro w'
             go_simp
             with_reducible rfl
            rotate_left
            ·simp only [Act.put, List.setIfInBounds_toArray, List.set_cons_zero, List.set_cons_succ, i64_w, i32_w]
             rfl
            refine pure_ (i := 9) (N := some 103) (v := ?_) (a' := ?_) #[true, true, true, true, true, true, true, true, true, true, false, true, false, false, false] rfl rfl (any_of HT_.out (by kernel_rfl)) (fun _ _ _ h => h) (Or.inl ⟨by rfl, ?_⟩) ?_ ?_
            rotate_left
            ·intro w'
             go_simp
             with_reducible rfl
            rotate_left
            ·simp only [Act.put, List.setIfInBounds_toArray, List.set_cons_zero, List.set_cons_succ, i64_w, i32_w]
             rfl
            refine pure_ (i := 10) (N := some 104) (v := ?_) (a' := ?_) #[true, true, true, true, true, true, true, true, true, true, true, true, false, false, false] rfl rfl (any_of HT_.out (by kernel_rfl)) (fun _ _ _ h => h) (Or.inl ⟨by rfl, ?_⟩) ?_ ?_
            rotate_left
            ·intro w'
             go_simp
             with_reducible rfl
            rotate_left
            ·simp only [Act.put, List.setIfInBounds_toArray, List.set_cons_zero, List.set_cons_succ, i64_w, i32_w]
             rfl
            exact norm_ (by simp only [putAll, Act.put, List.setIfInBounds_toArray, List.set_cons_zero, List.set_cons_succ]) (hCont (gb189) _ ⟨hHeld, (by (with_reducible repeat (first | apply Kd.R_alloc | apply Kd.R_drewN | apply Kd.R_drew)); exact Kd.R_mono HL181_0.out (fun _ hk => ⟨hk.2, hk.1⟩)), (by (with_reducible repeat (first | apply Kd.R_alloc | apply Kd.R_drewN | apply Kd.R_drew)); exact HL182_0.out), (by (with_reducible repeat (first | apply Kd.S_alloc | apply Kd.S_drewN | apply Kd.S_drew)); exact HO_7.out), (by (with_reducible repeat (first | apply Kd.S_alloc | apply Kd.S_drewN | apply Kd.S_drew)); exact HO_9.out), (by (with_reducible repeat (first | refine blk_drewN ?_ _ | refine blk_drew ?_ | refine blk_alloc ?_ _)); exact BK180.out), (by (with_reducible repeat (first | refine blk_drewN ?_ _ | refine blk_drew ?_ | refine blk_alloc ?_ _)); exact BK189.out), GW189.out, GE189.out, NB180_189.out, NB189_180.out, (by repeat (first | (with_reducible first | exact HB.out | apply below_alloc | apply pw_below_drewN | apply below_drew1 | refine below_set ?_ GE180.out | refine below_set ?_ GE189.out) | exact HB.out))⟩)
          rintro gb189 w56 ⟨hS_, h0_, h1_, h2_, h3_, h4_, h5_, h6_, h7_, h8_, h9_, h10_⟩
          have n0_ : Aside0 (Kd.R (Kd.int .i64) 3 w56 w.heap.size (fun k_ => some k_ ≠ (.slice (some ad165) t153.length co35 : Value).ownBlock ∧ some k_ ≠ (.slice (some ad182) t160.length co53 : Value).ownBlock) (.slice A181_0 (rd_L3 t153 0).length c181_0) (rd_L3 t153 0)) := ⟨h0_⟩
          have n1_ : Aside0 (Kd.R (Kd.int .i64) 3 w56 w.heap.size (fun k_ => some k_ ≠ (.slice (some ad165) t153.length co35 : Value).ownBlock ∧ some k_ ≠ (.slice (some ad182) t160.length co53 : Value).ownBlock) (.slice A182_0 (rd_L3 t160 0).length c182_0) (rd_L3 t160 0)) := ⟨h1_⟩
          have n2_ : Aside0 (Kd.S (Kd.slice 3 (Kd.int .i64)) 70 w56 w.heap.size (fun k_ => some k_ ≠ (.slice (some ad182) t160.length co53 : Value).ownBlock) (.slice (some ad165) t153.length co35) t153) := ⟨h2_⟩
          have n3_ : Aside0 (Kd.S (Kd.slice 3 (Kd.int .i64)) 70 w56 w.heap.size (fun k_ => some k_ ≠ (.slice (some ad165) t153.length co35 : Value).ownBlock) (.slice (some ad182) t160.length co53) t160) := ⟨h3_⟩
          have n4_ : Aside0 (w56.heap[gb180]? = some (.cells #[.int .i64 t174, .int .i64 t175, .int .i64 t176, .int .i64 t177] 96 (0, 0))) := ⟨h4_⟩
          have n5_ : Aside0 (w56.heap[gb189]? = some (.cells #[.int .i64 0, .int .i64 0, .int .i64 0, .int .i64 0] 96 (0, 0))) := ⟨h5_⟩
          have n6_ : Aside0 (w.heap.size ≤ gb189) := ⟨h6_⟩
          have n7_ : Aside0 (w.heap.size ≤ gb189) := ⟨h7_⟩
          have n8_ : Aside0 (gb180 ≠ gb189) := ⟨h8_⟩
          have n9_ : Aside0 (gb189 ≠ gb180) := ⟨h9_⟩
          have n10_ : Aside0 (Below w.heap.size w w56) := ⟨h10_⟩
          clear HO_7
          clear HO_9
          clear BK180
          clear HR165_0
          clear HR173_0
          clear HB
          clear h0_ h1_ h2_ h3_ h4_ h5_ h6_ h7_ h8_ h9_ h10_
          have HL181_0 := n0_
          have HL182_0 := n1_
          have HO_7 := n2_
          have HO_9 := n3_
          have BK180 := n4_
          have BK189 := n5_
          have GW189 := n6_
          have GE189 := n7_
          have NB180_189 := n8_
          have NB189_180 := n9_
          have HB := n10_
          clear n0_ n1_ n2_ n3_ n4_ n5_ n6_ n7_ n8_ n9_ n10_
          have hHeld : w56.cell? ad165 = some (.slice A181_0 (rd_L3 t153 0).length c181_0) ∧ w56.cell? ad182 = some (.slice A182_0 (rd_L3 t160 0).length c182_0) := hS_
          refine norm_ (a' := ?_) ?_ ?_
          rotate_left
          ·simp only [putAll, Act.put, List.setIfInBounds_toArray, List.set_cons_zero, List.set_cons_succ]
           rfl
          refine one_ (i := 12) (N := none) #[true, true, true, true, true, true, true, true, true, true, true, true, true, false, false] rfl rfl (one_of HT_.out (by kernel_rfl)) (by decide) (fun K hK => ?_)
          have hs57 : w56.cell? ⟨gb189, 0, none⟩ = some (.int .i64 0) := (blk_cell BK189.out 0).trans rfl
          have hfs57 := blk_frozen BK189.out 0
          have hns57_0 := NB180_189.out
          have hms57_0 := NB189_180.out
          have hs58 : w56.cell? ⟨gb189, 1, none⟩ = some (.int .i64 0) := (blk_cell BK189.out 1).trans rfl
          have hfs58 := blk_frozen BK189.out 1
          have hns58_0 := NB180_189.out
          have hms58_0 := NB189_180.out
          have hs59 : w56.cell? ⟨gb189, 2, none⟩ = some (.int .i64 0) := (blk_cell BK189.out 2).trans rfl
          have hfs59 := blk_frozen BK189.out 2
          have hns59_0 := NB180_189.out
          have hms59_0 := NB189_180.out
          have hs60 : w56.cell? ⟨gb189, 3, none⟩ = some (.int .i64 0) := (blk_cell BK189.out 3).trans rfl
          have hfs60 := blk_frozen BK189.out 3
          have hns60_0 := NB180_189.out
          have hms60_0 := NB189_180.out
          refine skip_ (w1 := ?_) (by rfl) rfl ?_ ?_
          rotate_left
          ·go_simp
           rfl
          refine hK.out _ _ ⟨((cell_far (p := ⟨gb189, _, none⟩) (by first | exact Kd.own_blk (Kd.S_ne HO_7.out BK189.out (by decide)) | (rw [add_block]; exact Kd.own_blk (Kd.S_ne HO_7.out BK189.out (by decide))) | (show (Addr.add _ _).block ≠ _; rw [add_block]; exact Kd.own_blk (Kd.S_ne HO_7.out BK189.out (by decide))) | (dsimp only; exact Kd.own_blk (Kd.S_ne HO_7.out BK189.out (by decide)))) _).trans (((cell_far (p := ⟨gb189, _, none⟩) (by first | exact Kd.own_blk (Kd.S_ne HO_7.out BK189.out (by decide)) | (rw [add_block]; exact Kd.own_blk (Kd.S_ne HO_7.out BK189.out (by decide))) | (show (Addr.add _ _).block ≠ _; rw [add_block]; exact Kd.own_blk (Kd.S_ne HO_7.out BK189.out (by decide))) | (dsimp only; exact Kd.own_blk (Kd.S_ne HO_7.out BK189.out (by decide)))) _).trans (((cell_far (p := ⟨gb189, _, none⟩) (by first | exact Kd.own_blk (Kd.S_ne HO_7.out BK189.out (by decide)) | (rw [add_block]; exact Kd.own_blk (Kd.S_ne HO_7.out BK189.out (by decide))) | (show (Addr.add _ _).block ≠ _; rw [add_block]; exact Kd.own_blk (Kd.S_ne HO_7.out BK189.out (by decide))) | (dsimp only; exact Kd.own_blk (Kd.S_ne HO_7.out BK189.out (by decide)))) _).trans (((cell_far (p := ⟨gb189, _, none⟩) (by first | exact Kd.own_blk (Kd.S_ne HO_7.out BK189.out (by decide)) | (rw [add_block]; exact Kd.own_blk (Kd.S_ne HO_7.out BK189.out (by decide))) | (show (Addr.add _ _).block ≠ _; rw [add_block]; exact Kd.own_blk (Kd.S_ne HO_7.out BK189.out (by decide))) | (dsimp only; exact Kd.own_blk (Kd.S_ne HO_7.out BK189.out (by decide)))) _).trans (hHeld.1)))))))), ((cell_far (p := ⟨gb189, _, none⟩) (by first | exact Kd.own_blk (Kd.S_ne HO_9.out BK189.out (by decide)) | (rw [add_block]; exact Kd.own_blk (Kd.S_ne HO_9.out BK189.out (by decide))) | (show (Addr.add _ _).block ≠ _; rw [add_block]; exact Kd.own_blk (Kd.S_ne HO_9.out BK189.out (by decide))) | (dsimp only; exact Kd.own_blk (Kd.S_ne HO_9.out BK189.out (by decide)))) _).trans (((cell_far (p := ⟨gb189, _, none⟩) (by first | exact Kd.own_blk (Kd.S_ne HO_9.out BK189.out (by decide)) | (rw [add_block]; exact Kd.own_blk (Kd.S_ne HO_9.out BK189.out (by decide))) | (show (Addr.add _ _).block ≠ _; rw [add_block]; exact Kd.own_blk (Kd.S_ne HO_9.out BK189.out (by decide))) | (dsimp only; exact Kd.own_blk (Kd.S_ne HO_9.out BK189.out (by decide)))) _).trans (((cell_far (p := ⟨gb189, _, none⟩) (by first | exact Kd.own_blk (Kd.S_ne HO_9.out BK189.out (by decide)) | (rw [add_block]; exact Kd.own_blk (Kd.S_ne HO_9.out BK189.out (by decide))) | (show (Addr.add _ _).block ≠ _; rw [add_block]; exact Kd.own_blk (Kd.S_ne HO_9.out BK189.out (by decide))) | (dsimp only; exact Kd.own_blk (Kd.S_ne HO_9.out BK189.out (by decide)))) _).trans (((cell_far (p := ⟨gb189, _, none⟩) (by first | exact Kd.own_blk (Kd.S_ne HO_9.out BK189.out (by decide)) | (rw [add_block]; exact Kd.own_blk (Kd.S_ne HO_9.out BK189.out (by decide))) | (show (Addr.add _ _).block ≠ _; rw [add_block]; exact Kd.own_blk (Kd.S_ne HO_9.out BK189.out (by decide))) | (dsimp only; exact Kd.own_blk (Kd.S_ne HO_9.out BK189.out (by decide)))) _).trans (hHeld.2))))))))⟩ (fun hHeld => ?_)
          clear hK K
          refine pure_ (i := 13) (N := some 17) (v := ?_) (a' := ?_) #[true, true, true, true, true, true, true, true, true, true, true, true, true, true, false] rfl rfl (any_of HT_.out (by kernel_rfl)) (fun _ _ _ h => h) (Or.inl ⟨by rfl, ?_⟩) ?_ ?_
          rotate_left
          ·intro w'
           go_simp
           with_reducible rfl
          rotate_left
          ·simp only [Act.put, List.setIfInBounds_toArray, List.set_cons_zero, List.set_cons_succ, i64_w, i32_w]
           rfl
          refine pure_ (i := 14) (N := some 8) (v := ?_) (a' := ?_) #[true, true, true, true, true, true, true, true, true, true, true, true, true, true, true] rfl rfl (any_of HT_.out (by kernel_rfl)) (fun _ _ _ h => h) (Or.inl ⟨by rfl, ?_⟩) ?_ ?_
          rotate_left
          ·intro w'
           go_simp
           with_reducible rfl
          rotate_left
          ·simp only [Act.put, List.setIfInBounds_toArray, List.set_cons_zero, List.set_cons_succ, i64_w, i32_w]
           rfl
          refine done_ (done_of HT_.out (by kernel_rfl)) ?_
          have n0_ : Aside0 (Kd.S (Kd.slice 3 (Kd.int .i64)) 70 ((((w56.setCell ⟨gb189, 0, none⟩ (.int .i64 t183)).setCell ⟨gb189, 1, none⟩ (.int .i64 t184)).setCell ⟨gb189, 2, none⟩ (.int .i64 t185)).setCell ⟨gb189, 3, none⟩ (.int .i64 t186)) w.heap.size (fun k_ => some k_ ≠ (.slice (some ad182) t160.length co53 : Value).ownBlock) (.slice (some ad165) t153.length co35) t153) := ⟨by (with_reducible repeat (first | apply Kd.S_alloc | apply Kd.S_drewN | apply Kd.S_drew)); exact Kd.S_mono (Kd.S_far (p := ⟨gb189, 3, none⟩) (Kd.S_far (p := ⟨gb189, 2, none⟩) (Kd.S_far (p := ⟨gb189, 1, none⟩) (Kd.S_far (p := ⟨gb189, 0, none⟩) (Kd.S_types HO_7.out BK189.out (by decide)) (fun _ hk => hk.2) (.int .i64 t183)) (fun _ hk => hk.2) (.int .i64 t184)) (fun _ hk => hk.2) (.int .i64 t185)) (fun _ hk => hk.2) (.int .i64 t186)) (fun _ hk => hk.1)⟩
          have n1_ : Aside0 (Kd.S (Kd.slice 3 (Kd.int .i64)) 70 ((((w56.setCell ⟨gb189, 0, none⟩ (.int .i64 t183)).setCell ⟨gb189, 1, none⟩ (.int .i64 t184)).setCell ⟨gb189, 2, none⟩ (.int .i64 t185)).setCell ⟨gb189, 3, none⟩ (.int .i64 t186)) w.heap.size (fun k_ => some k_ ≠ (.slice (some ad165) t153.length co35 : Value).ownBlock) (.slice (some ad182) t160.length co53) t160) := ⟨by (with_reducible repeat (first | apply Kd.S_alloc | apply Kd.S_drewN | apply Kd.S_drew)); exact Kd.S_mono (Kd.S_far (p := ⟨gb189, 3, none⟩) (Kd.S_far (p := ⟨gb189, 2, none⟩) (Kd.S_far (p := ⟨gb189, 1, none⟩) (Kd.S_far (p := ⟨gb189, 0, none⟩) (Kd.S_types HO_9.out BK189.out (by decide)) (fun _ hk => hk.2) (.int .i64 t183)) (fun _ hk => hk.2) (.int .i64 t184)) (fun _ hk => hk.2) (.int .i64 t185)) (fun _ hk => hk.2) (.int .i64 t186)) (fun _ hk => hk.1)⟩
          have n2_ : Aside0 (Kd.R (Kd.int .i64) 3 ((((w56.setCell ⟨gb189, 0, none⟩ (.int .i64 t183)).setCell ⟨gb189, 1, none⟩ (.int .i64 t184)).setCell ⟨gb189, 2, none⟩ (.int .i64 t185)).setCell ⟨gb189, 3, none⟩ (.int .i64 t186)) w.heap.size (fun k_ => some k_ ≠ (.slice (some ad165) t153.length co35 : Value).ownBlock ∧ some k_ ≠ (.slice (some ad182) t160.length co53 : Value).ownBlock) (.slice A181_0 (rd_L3 t153 0).length c181_0) (rd_L3 t153 0)) := ⟨by (with_reducible repeat (first | apply Kd.R_alloc | apply Kd.R_drewN | apply Kd.R_drew)); exact Kd.R_mono (Kd.R_far (p := ⟨gb189, 3, none⟩) (Kd.R_far (p := ⟨gb189, 2, none⟩) (Kd.R_far (p := ⟨gb189, 1, none⟩) (Kd.R_far (p := ⟨gb189, 0, none⟩) (Kd.R_types HL181_0.out BK189.out (by decide)) (fun _ hk => hk.2) (.int .i64 t183)) (fun _ hk => hk.2) (.int .i64 t184)) (fun _ hk => hk.2) (.int .i64 t185)) (fun _ hk => hk.2) (.int .i64 t186)) (fun _ hk => ⟨hk.1.1, hk.1.2⟩)⟩
          have n3_ : Aside0 (Kd.R (Kd.int .i64) 3 ((((w56.setCell ⟨gb189, 0, none⟩ (.int .i64 t183)).setCell ⟨gb189, 1, none⟩ (.int .i64 t184)).setCell ⟨gb189, 2, none⟩ (.int .i64 t185)).setCell ⟨gb189, 3, none⟩ (.int .i64 t186)) w.heap.size (fun k_ => some k_ ≠ (.slice (some ad165) t153.length co35 : Value).ownBlock ∧ some k_ ≠ (.slice (some ad182) t160.length co53 : Value).ownBlock) (.slice A182_0 (rd_L3 t160 0).length c182_0) (rd_L3 t160 0)) := ⟨by (with_reducible repeat (first | apply Kd.R_alloc | apply Kd.R_drewN | apply Kd.R_drew)); exact Kd.R_mono (Kd.R_far (p := ⟨gb189, 3, none⟩) (Kd.R_far (p := ⟨gb189, 2, none⟩) (Kd.R_far (p := ⟨gb189, 1, none⟩) (Kd.R_far (p := ⟨gb189, 0, none⟩) (Kd.R_types HL182_0.out BK189.out (by decide)) (fun _ hk => hk.2) (.int .i64 t183)) (fun _ hk => hk.2) (.int .i64 t184)) (fun _ hk => hk.2) (.int .i64 t185)) (fun _ hk => hk.2) (.int .i64 t186)) (fun _ hk => ⟨hk.1.1, hk.1.2⟩)⟩
          have n4_ : Aside0 (((((w56.setCell ⟨gb189, 0, none⟩ (.int .i64 t183)).setCell ⟨gb189, 1, none⟩ (.int .i64 t184)).setCell ⟨gb189, 2, none⟩ (.int .i64 t185)).setCell ⟨gb189, 3, none⟩ (.int .i64 t186)).heap[gb180]? = some (.cells #[.int .i64 t174, .int .i64 t175, .int .i64 t176, .int .i64 t177] 96 (0, 0))) := ⟨by (with_reducible repeat (first | refine blk_drewN ?_ _ | refine blk_drew ?_ | refine blk_alloc ?_ _)); refine blk_far ?_ NB180_189.out _; (with_reducible repeat (first | refine blk_drewN ?_ _ | refine blk_drew ?_ | refine blk_alloc ?_ _)); refine blk_far ?_ NB180_189.out _; (with_reducible repeat (first | refine blk_drewN ?_ _ | refine blk_drew ?_ | refine blk_alloc ?_ _)); refine blk_far ?_ NB180_189.out _; (with_reducible repeat (first | refine blk_drewN ?_ _ | refine blk_drew ?_ | refine blk_alloc ?_ _)); refine blk_far ?_ NB180_189.out _; (with_reducible repeat (first | refine blk_drewN ?_ _ | refine blk_drew ?_ | refine blk_alloc ?_ _)); exact BK180.out⟩
          have n5_ : Aside0 (((((w56.setCell ⟨gb189, 0, none⟩ (.int .i64 t183)).setCell ⟨gb189, 1, none⟩ (.int .i64 t184)).setCell ⟨gb189, 2, none⟩ (.int .i64 t185)).setCell ⟨gb189, 3, none⟩ (.int .i64 t186)).heap[gb189]? = some (.cells #[.int .i64 t183, .int .i64 t184, .int .i64 t185, .int .i64 t186] 96 (0, 0))) := ⟨by (with_reducible repeat (first | refine blk_drewN ?_ _ | refine blk_drew ?_ | refine blk_alloc ?_ _)); refine blk_put (cs := #[.int .i64 t183, .int .i64 t184, .int .i64 t185, .int .i64 0]) ?_ 3 _ rfl; (with_reducible repeat (first | refine blk_drewN ?_ _ | refine blk_drew ?_ | refine blk_alloc ?_ _)); refine blk_put (cs := #[.int .i64 t183, .int .i64 t184, .int .i64 0, .int .i64 0]) ?_ 2 _ rfl; (with_reducible repeat (first | refine blk_drewN ?_ _ | refine blk_drew ?_ | refine blk_alloc ?_ _)); refine blk_put (cs := #[.int .i64 t183, .int .i64 0, .int .i64 0, .int .i64 0]) ?_ 1 _ rfl; (with_reducible repeat (first | refine blk_drewN ?_ _ | refine blk_drew ?_ | refine blk_alloc ?_ _)); refine blk_put (cs := #[.int .i64 0, .int .i64 0, .int .i64 0, .int .i64 0]) ?_ 0 _ rfl; (with_reducible repeat (first | refine blk_drewN ?_ _ | refine blk_drew ?_ | refine blk_alloc ?_ _)); exact BK189.out⟩
          have n6_ : Aside0 (Below w.heap.size w ((((w56.setCell ⟨gb189, 0, none⟩ (.int .i64 t183)).setCell ⟨gb189, 1, none⟩ (.int .i64 t184)).setCell ⟨gb189, 2, none⟩ (.int .i64 t185)).setCell ⟨gb189, 3, none⟩ (.int .i64 t186))) := ⟨by repeat (first | (with_reducible first | exact HB.out | apply below_alloc | apply pw_below_drewN | apply below_drew1 | refine below_set ?_ GE180.out | refine below_set ?_ GE189.out) | exact HB.out)⟩
          (try clear HO_7)
          (try clear HO_9)
          (try clear HL181_0)
          (try clear HL182_0)
          (try clear BK180)
          (try clear BK189)
          (try clear HB)
          generalize ((((w56.setCell ⟨gb189, 0, none⟩ (.int .i64 t183)).setCell ⟨gb189, 1, none⟩ (.int .i64 t184)).setCell ⟨gb189, 2, none⟩ (.int .i64 t185)).setCell ⟨gb189, 3, none⟩ (.int .i64 t186)) = w61 at n0_ n1_ n2_ n3_ n4_ n5_ n6_ ⊢
          have HO_7 := n0_
          have HO_9 := n1_
          have HL181_0 := n2_
          have HL182_0 := n3_
          have BK180 := n4_
          have BK189 := n5_
          have HB := n6_
          clear n0_ n1_ n2_ n3_ n4_ n5_ n6_
          have p190 : 0 ≤ (0 : Int) := (by omega)
          have q190 : 0 < (t153.length : Int) := of_decide_eq_true (by first | (with_reducible assumption) | assumption)
          obtain ⟨ad190, A190_0, c190_0, e190, hx190_0, hl190_0, hi190_0⟩ := at_L3 (Kd.S_reads' HO_7.out).2.2 0 p190 q190
          obtain rfl : ad165 = ad190 := (by injection e190)
          obtain ⟨ce190, hce190, hMe190, hcc190⟩ := Kd.S_get HO_7.out [] 0 p190 (by first | exact q190 | exact of_decide_eq_true (by first | (with_reducible assumption) | assumption) | (have e_ := (Kd.S_reads' HO_7.out).1; omega))
          obtain ⟨ve190_0, rfl, ge190_0⟩ := hMe190
          have hv190_0 := hcc190 0 _ rfl
          rw [Nat.add_zero, show ((Kd.slice 3 (Kd.int .i64))).sz = 1 from rfl, Nat.mul_one] at hv190_0
          replace hv190_0 := Option.some.inj (hv190_0.symm.trans hx190_0)
          rw [hv190_0] at ge190_0
          have HL190_0 := Aside0.mk (show Kd.R (Kd.int .i64) 3 _ _ _ _ (rd_L3 t153 0) from ge190_0)
          clear hv190_0 ge190_0
          clear hcc190 hce190
          have qi190 : (0 < t153.length) = True := eq_true (by omega)
          (try rw [show ((0 : Int)).toNat = 0 from rfl] at hx190_0)
          (try rw [Addr.add_zero'] at hx190_0)
          have HR190_0 := Aside0.mk hi190_0
          have HC190_0 := Aside0.mk hl190_0
          clear hi190_0 hl190_0
          replace p190 := eq_true p190
          replace q190 := eq_true q190
          go_upto_region 13 with (first | ((with_reducible refine gate_callee (f := 58) rfl ?_); refine goesL_ (some 109) rfl rfl Try.func58 (by kernel_rfl) rfl #[.slice A190_0 (rd_L3 t153 0).length c190_0] rfl (by (try simp only [List.map_toArray, List.map_cons, List.map_nil]); first | done | rfl | (simp only [List.length_drop, List.length_take]; rfl)) ?_; (with_reducible refine (frame_Seen.calls kj33 _ _ (rd_L3 t153 0) t191 t192 _ ?side1 ?side2 A49.out).mono ?_); (case side1 => repeat (first | exact (by repeat (first | (with_reducible exact HR190_0.out) | (with_reducible refine Kd.C_alloc ?_ _) | (with_reducible refine Kd.C_drewN ?_ _) | (with_reducible refine Kd.C_drew ?_) | exact HR190_0.out)) | (with_reducible refine Kd.C_alloc ?_ _) | (with_reducible refine Kd.C_drewN ?_ _) | (with_reducible refine Kd.C_drew ?_))); (case side2 => exact HC190_0.out); rintro e w62 ⟨v193, rfl, ho0, hb⟩; refine ⟨_, rfl, ?_⟩; have n0_ := Aside0.mk (Kd.S_elder' (by (with_reducible repeat (first | apply Kd.S_alloc | apply Kd.S_drewN | apply Kd.S_drew)); exact HO_7.out) (Kd.R_base ho0) hb); have n1_ := Aside0.mk (Kd.S_elder' (by (with_reducible repeat (first | apply Kd.S_alloc | apply Kd.S_drewN | apply Kd.S_drew)); exact HO_9.out) (Kd.R_base ho0) hb); have n2_ := Aside0.mk (Kd.R_elder' (by (with_reducible repeat (first | apply Kd.R_alloc | apply Kd.R_drewN | apply Kd.R_drew)); exact HL181_0.out) (Kd.R_base ho0) hb); have n3_ := Aside0.mk (Kd.R_elder' (by (with_reducible repeat (first | apply Kd.R_alloc | apply Kd.R_drewN | apply Kd.R_drew)); exact HL182_0.out) (Kd.R_base ho0) hb); have n4_ := Aside0.mk (Kd.R_elder' (by (with_reducible repeat (first | apply Kd.R_alloc | apply Kd.R_drewN | apply Kd.R_drew)); exact HL190_0.out) (Kd.R_base ho0) hb); have n5_ := Aside0.mk (Kd.R_lower (Kd.R_new' (Kd.R_new' (Kd.R_new' ho0 (Kd.R_lt (by (with_reducible repeat (first | apply Kd.R_alloc | apply Kd.R_drewN | apply Kd.R_drew)); exact HL181_0.out))) (Kd.R_lt (by (with_reducible repeat (first | apply Kd.R_alloc | apply Kd.R_drewN | apply Kd.R_drew)); exact HL182_0.out))) (Kd.R_lt (by (with_reducible repeat (first | apply Kd.R_alloc | apply Kd.R_drewN | apply Kd.R_drew)); exact HL190_0.out))) (below_size (by repeat (first | (with_reducible first | exact HB.out | apply below_alloc | apply pw_below_drewN | apply below_drew1 | refine below_set ?_ GE180.out | refine below_set ?_ GE189.out) | exact HB.out)))); have n6_ := Aside0.mk (blk_below (g := gb180) (o := .cells #[.int .i64 t174, .int .i64 t175, .int .i64 t176, .int .i64 t177] 96 (0, 0)) (by (with_reducible repeat (first | refine blk_drewN ?_ _ | refine blk_drew ?_ | refine blk_alloc ?_ _)); exact BK180.out) hb); have n7_ := Aside0.mk (blk_below (g := gb189) (o := .cells #[.int .i64 t183, .int .i64 t184, .int .i64 t185, .int .i64 t186] 96 (0, 0)) (by (with_reducible repeat (first | refine blk_drewN ?_ _ | refine blk_drew ?_ | refine blk_alloc ?_ _)); exact BK189.out) hb); have n8_ := Aside0.mk (Kd.C_below (by repeat (first | (with_reducible exact HR190_0.out) | (with_reducible refine Kd.C_alloc ?_ _) | (with_reducible refine Kd.C_drewN ?_ _) | (with_reducible refine Kd.C_drew ?_) | exact HR190_0.out)) hb); have n9_ := Aside0.mk (below_step (by repeat (first | (with_reducible first | exact HB.out | apply below_alloc | apply pw_below_drewN | apply below_drew1 | refine below_set ?_ GE180.out | refine below_set ?_ GE189.out) | exact HB.out)) hb); clear HO_7; clear HO_9; clear HL181_0; clear HL182_0; clear HL190_0; clear BK180; clear BK189; clear HR190_0; clear HB; have HO_7 := n0_; have HO_9 := n1_; have HL181_0 := n2_; have HL182_0 := n3_; have HL190_0 := n4_; have HO194 := n5_; have BK180 := n6_; have BK189 := n7_; have HR190_0 := n8_; have HB := n9_; clear n0_ n1_ n2_ n3_ n4_ n5_ n6_ n7_ n8_ n9_; (try clear hb); (try clear hb2); (try clear hk); (try clear hi); (try clear ho0); have p195 : 0 ≤ (0 : Int) := (by omega); have q195 : 0 < (t160.length : Int) := of_decide_eq_true (by first | (with_reducible assumption) | assumption); obtain ⟨ad195, A195_0, c195_0, e195, hx195_0, hl195_0, hi195_0⟩ := at_L3 (Kd.S_reads' HO_9.out).2.2 0 p195 q195; obtain rfl : ad182 = ad195 := (by injection e195); obtain ⟨ce195, hce195, hMe195, hcc195⟩ := Kd.S_get HO_9.out [] 0 p195 (by first | exact q195 | exact of_decide_eq_true (by first | (with_reducible assumption) | assumption) | (have e_ := (Kd.S_reads' HO_9.out).1; omega)); obtain ⟨ve195_0, rfl, ge195_0⟩ := hMe195; have hv195_0 := hcc195 0 _ rfl; rw [Nat.add_zero, show ((Kd.slice 3 (Kd.int .i64))).sz = 1 from rfl, Nat.mul_one] at hv195_0; replace hv195_0 := Option.some.inj (hv195_0.symm.trans hx195_0); rw [hv195_0] at ge195_0; have HL195_0 := Aside0.mk (show Kd.R (Kd.int .i64) 3 _ _ _ _ (rd_L3 t160 0) from ge195_0); clear hv195_0 ge195_0; clear hcc195 hce195; have qi195 : (0 < t160.length) = True := eq_true (by omega); (try rw [show ((0 : Int)).toNat = 0 from rfl] at hx195_0); (try rw [Addr.add_zero'] at hx195_0); have HR195_0 := Aside0.mk hi195_0; have HC195_0 := Aside0.mk hl195_0; clear hi195_0 hl195_0; replace p195 := eq_true p195; replace q195 := eq_true q195) | ((with_reducible refine gate_callee (f := 58) rfl ?_); refine goesL_ (some 116) rfl rfl Try.func58 (by kernel_rfl) rfl #[.slice A195_0 (rd_L3 t160 0).length c195_0] rfl (by (try simp only [List.map_toArray, List.map_cons, List.map_nil]); first | done | rfl | (simp only [List.length_drop, List.length_take]; rfl)) ?_; (with_reducible refine (frame_Seen.calls kj33 _ _ (rd_L3 t160 0) t196 t197 _ ?side1 ?side2 A50.out).mono ?_); (case side1 => repeat (first | exact (by repeat (first | (with_reducible exact HR195_0.out) | (with_reducible refine Kd.C_alloc ?_ _) | (with_reducible refine Kd.C_drewN ?_ _) | (with_reducible refine Kd.C_drew ?_) | exact HR195_0.out)) | (with_reducible refine Kd.C_alloc ?_ _) | (with_reducible refine Kd.C_drewN ?_ _) | (with_reducible refine Kd.C_drew ?_))); (case side2 => exact HC195_0.out); rintro e w63 ⟨v198, rfl, ho0, hb⟩; refine ⟨_, rfl, ?_⟩; have n0_ := Aside0.mk (Kd.S_elder' (by (with_reducible repeat (first | apply Kd.S_alloc | apply Kd.S_drewN | apply Kd.S_drew)); exact HO_7.out) (Kd.R_base ho0) hb); have n1_ := Aside0.mk (Kd.S_elder' (by (with_reducible repeat (first | apply Kd.S_alloc | apply Kd.S_drewN | apply Kd.S_drew)); exact HO_9.out) (Kd.R_base ho0) hb); have n2_ := Aside0.mk (Kd.R_elder' (by (with_reducible repeat (first | apply Kd.R_alloc | apply Kd.R_drewN | apply Kd.R_drew)); exact HL181_0.out) (Kd.R_base ho0) hb); have n3_ := Aside0.mk (Kd.R_elder' (by (with_reducible repeat (first | apply Kd.R_alloc | apply Kd.R_drewN | apply Kd.R_drew)); exact HL182_0.out) (Kd.R_base ho0) hb); have n4_ := Aside0.mk (Kd.R_elder' (by (with_reducible repeat (first | apply Kd.R_alloc | apply Kd.R_drewN | apply Kd.R_drew)); exact HL190_0.out) (Kd.R_base ho0) hb); have n5_ := Aside0.mk (Kd.R_elder' (by (with_reducible repeat (first | apply Kd.R_alloc | apply Kd.R_drewN | apply Kd.R_drew)); exact HO194.out) (Kd.R_base ho0) hb); have n6_ := Aside0.mk (Kd.R_elder' (by (with_reducible repeat (first | apply Kd.R_alloc | apply Kd.R_drewN | apply Kd.R_drew)); exact HL195_0.out) (Kd.R_base ho0) hb); have n7_ := Aside0.mk (Kd.R_lower (Kd.R_new' (Kd.R_new' (Kd.R_new' (Kd.R_new' (Kd.R_new' ho0 (Kd.R_lt (by (with_reducible repeat (first | apply Kd.R_alloc | apply Kd.R_drewN | apply Kd.R_drew)); exact HL181_0.out))) (Kd.R_lt (by (with_reducible repeat (first | apply Kd.R_alloc | apply Kd.R_drewN | apply Kd.R_drew)); exact HL182_0.out))) (Kd.R_lt (by (with_reducible repeat (first | apply Kd.R_alloc | apply Kd.R_drewN | apply Kd.R_drew)); exact HL190_0.out))) (Kd.R_lt (by (with_reducible repeat (first | apply Kd.R_alloc | apply Kd.R_drewN | apply Kd.R_drew)); exact HO194.out))) (Kd.R_lt (by (with_reducible repeat (first | apply Kd.R_alloc | apply Kd.R_drewN | apply Kd.R_drew)); exact HL195_0.out))) (below_size (by repeat (first | (with_reducible first | exact HB.out | apply below_alloc | apply pw_below_drewN | apply below_drew1 | refine below_set ?_ GE180.out | refine below_set ?_ GE189.out) | exact HB.out)))); have n8_ := Aside0.mk (blk_below (g := gb180) (o := .cells #[.int .i64 t174, .int .i64 t175, .int .i64 t176, .int .i64 t177] 96 (0, 0)) (by (with_reducible repeat (first | refine blk_drewN ?_ _ | refine blk_drew ?_ | refine blk_alloc ?_ _)); exact BK180.out) hb); have n9_ := Aside0.mk (blk_below (g := gb189) (o := .cells #[.int .i64 t183, .int .i64 t184, .int .i64 t185, .int .i64 t186] 96 (0, 0)) (by (with_reducible repeat (first | refine blk_drewN ?_ _ | refine blk_drew ?_ | refine blk_alloc ?_ _)); exact BK189.out) hb); have n10_ := Aside0.mk (Kd.C_below (by repeat (first | (with_reducible exact HR190_0.out) | (with_reducible refine Kd.C_alloc ?_ _) | (with_reducible refine Kd.C_drewN ?_ _) | (with_reducible refine Kd.C_drew ?_) | exact HR190_0.out)) hb); have n11_ := Aside0.mk (Kd.C_below (by repeat (first | (with_reducible exact HR195_0.out) | (with_reducible refine Kd.C_alloc ?_ _) | (with_reducible refine Kd.C_drewN ?_ _) | (with_reducible refine Kd.C_drew ?_) | exact HR195_0.out)) hb); have n12_ := Aside0.mk (below_step (by repeat (first | (with_reducible first | exact HB.out | apply below_alloc | apply pw_below_drewN | apply below_drew1 | refine below_set ?_ GE180.out | refine below_set ?_ GE189.out) | exact HB.out)) hb); clear HO_7; clear HO_9; clear HL181_0; clear HL182_0; clear HL190_0; clear HO194; clear HL195_0; clear BK180; clear BK189; clear HR190_0; clear HR195_0; clear HB; have HO_7 := n0_; have HO_9 := n1_; have HL181_0 := n2_; have HL182_0 := n3_; have HL190_0 := n4_; have HO194 := n5_; have HL195_0 := n6_; have HO199 := n7_; have BK180 := n8_; have BK189 := n9_; have HR190_0 := n10_; have HR195_0 := n11_; have HB := n12_; clear n0_ n1_ n2_ n3_ n4_ n5_ n6_ n7_ n8_ n9_ n10_ n11_ n12_; (try clear hb); (try clear hb2); (try clear hk); (try clear hi); (try clear ho0)))
          (try simp only [Act.put, List.setIfInBounds_toArray, List.set_cons_zero, List.set_cons_succ])
          go_cut [138] (fun v138 wc => ∃ (kq : Nat) (x138_50 : Bool), v138 = .bool x138_50 ∧ Aside0 (bakekeep3_FrameText.j2 kq t153 t187 t191 t196 x138_50 t183 t184 t185 t186 = some true) ∧ Aside0 (kq ≤ kj33) ∧ Aside0 (Kd.S (Kd.slice 3 (Kd.int .i64)) 70 wc w.heap.size (fun k_ => some k_ ≠ (v193 : Value).ownBlock ∧ some k_ ≠ (v198 : Value).ownBlock) (.slice (some ad165) t153.length co35) t153) ∧ Aside0 (Kd.R (Kd.int .i64) 3 wc w.heap.size (fun k_ => some k_ ≠ (v198 : Value).ownBlock) v193 t191) ∧ Aside0 (Kd.R (Kd.int .i64) 3 wc w.heap.size (fun k_ => some k_ ≠ (v193 : Value).ownBlock) v198 t196) ∧ Aside0 (wc.heap[gb180]? = some (.cells #[.int .i64 t174, .int .i64 t175, .int .i64 t176, .int .i64 t177] 96 (0, 0))) ∧ Aside0 (wc.heap[gb189]? = some (.cells #[.int .i64 t183, .int .i64 t184, .int .i64 t185, .int .i64 t186] 96 (0, 0))) ∧ Aside0 (Kd.C (Kd.int .i64) wc A190_0 (rd_L3 t153 0).length (rd_L3 t153 0)) ∧ Aside0 (Kd.C (Kd.int .i64) wc A195_0 (rd_L3 t160 0).length (rd_L3 t160 0)) ∧ Aside0 (Below w.heap.size w wc))
          case first =>
           as_aux_lemma =>
           have H := HC51.out
           clear HC51
           by_cases c64 : t188 = 0
           ·rw [if_pos c64] at H
            have c64b0 : (t188 == 0) = true := beq_iff_eq.mpr c64
            have c64b1 : (t188 != 0) = false := bne_eq_false_iff_eq.mpr c64
            clear c64
            (first | rw [c64b0] | (simp only [i64_w, i32_w]; rw [c64b0]) | skip)
            by_cases c65 : t192 = 0
            ·rw [if_pos c65] at H
             have c65b0 : (t192 == 0) = true := beq_iff_eq.mpr c65
             have c65b1 : (t192 != 0) = false := bne_eq_false_iff_eq.mpr c65
             clear c65
             by_cases c66 : t197 = 0
             ·rw [if_pos c66] at H
              have c66b0 : (t197 == 0) = true := beq_iff_eq.mpr c66
              have c66b1 : (t197 != 0) = false := bne_eq_false_iff_eq.mpr c66
              clear c66
              by_cases c67 : (t191.length : Int) = 1536
              ·rw [if_pos c67] at H
               have c67b0 : ((t191.length : Int) == 1536) = true := beq_iff_eq.mpr c67
               have c67b1 : ((t191.length : Int) != 1536) = false := bne_eq_false_iff_eq.mpr c67
               clear c67
               have H' := Aside0.mk H
               clear H
               obtain ⟨Ao68, co68, eo68⟩ := Kd.R_slice HO194.out
               subst eo68
               obtain ⟨Ao69, co69, eo69⟩ := Kd.R_slice HO199.out
               subst eo69
               go_wp2
               go_meet
               case rel => exact ⟨_, (((t196.length : Int) != 1536)), (by first | rfl | (simp; done) | (simp [*]; done)), H', ⟨by have := HJ7.out; have := HJ33.out; first | omega | exact Nat.le_refl _⟩, ⟨by (with_reducible repeat (first | apply Kd.S_alloc | apply Kd.S_drewN | apply Kd.S_drew)); exact Kd.S_mono HO_7.out (fun _ hk => ⟨hk.1.2, hk.2⟩)⟩, ⟨by (with_reducible repeat (first | apply Kd.R_alloc | apply Kd.R_drewN | apply Kd.R_drew)); exact Kd.R_mono HO194.out (fun _ hk => hk.2)⟩, ⟨by (with_reducible repeat (first | apply Kd.R_alloc | apply Kd.R_drewN | apply Kd.R_drew)); exact Kd.R_mono HO199.out (fun _ hk => hk.1.2)⟩, ⟨by (with_reducible repeat (first | refine blk_drewN ?_ _ | refine blk_drew ?_ | refine blk_alloc ?_ _)); exact BK180.out⟩, ⟨by (with_reducible repeat (first | refine blk_drewN ?_ _ | refine blk_drew ?_ | refine blk_alloc ?_ _)); exact BK189.out⟩, ⟨by repeat (first | (with_reducible exact HR190_0.out) | (with_reducible refine Kd.C_alloc ?_ _) | (with_reducible refine Kd.C_drewN ?_ _) | (with_reducible refine Kd.C_drew ?_) | exact HR190_0.out)⟩, ⟨by repeat (first | (with_reducible exact HR195_0.out) | (with_reducible refine Kd.C_alloc ?_ _) | (with_reducible refine Kd.C_drewN ?_ _) | (with_reducible refine Kd.C_drew ?_) | exact HR195_0.out)⟩, ⟨by repeat (first | (with_reducible first | exact HB.out | apply below_alloc | apply pw_below_drewN | apply below_drew1 | refine below_set ?_ GE180.out | refine below_set ?_ GE189.out) | exact HB.out)⟩⟩
              ·rw [if_neg c67] at H
               have c67b0 : ((t191.length : Int) == 1536) = false := beq_eq_false_iff_ne.mpr c67
               have c67b1 : ((t191.length : Int) != 1536) = true := bne_iff_ne.mpr c67
               have H' := Aside0.mk H
               clear H
               obtain ⟨Ao70, co70, eo70⟩ := Kd.R_slice HO194.out
               subst eo70
               go_wp2
               go_meet
               case rel => exact ⟨_, (true), (by first | rfl | (simp; done) | (simp [*]; done)), H', ⟨by have := HJ7.out; have := HJ33.out; first | omega | exact Nat.le_refl _⟩, ⟨by (with_reducible repeat (first | apply Kd.S_alloc | apply Kd.S_drewN | apply Kd.S_drew)); exact Kd.S_mono HO_7.out (fun _ hk => ⟨hk.1.2, hk.2⟩)⟩, ⟨by (with_reducible repeat (first | apply Kd.R_alloc | apply Kd.R_drewN | apply Kd.R_drew)); exact Kd.R_mono HO194.out (fun _ hk => hk.2)⟩, ⟨by (with_reducible repeat (first | apply Kd.R_alloc | apply Kd.R_drewN | apply Kd.R_drew)); exact Kd.R_mono HO199.out (fun _ hk => hk.1.2)⟩, ⟨by (with_reducible repeat (first | refine blk_drewN ?_ _ | refine blk_drew ?_ | refine blk_alloc ?_ _)); exact BK180.out⟩, ⟨by (with_reducible repeat (first | refine blk_drewN ?_ _ | refine blk_drew ?_ | refine blk_alloc ?_ _)); exact BK189.out⟩, ⟨by repeat (first | (with_reducible exact HR190_0.out) | (with_reducible refine Kd.C_alloc ?_ _) | (with_reducible refine Kd.C_drewN ?_ _) | (with_reducible refine Kd.C_drew ?_) | exact HR190_0.out)⟩, ⟨by repeat (first | (with_reducible exact HR195_0.out) | (with_reducible refine Kd.C_alloc ?_ _) | (with_reducible refine Kd.C_drewN ?_ _) | (with_reducible refine Kd.C_drew ?_) | exact HR195_0.out)⟩, ⟨by repeat (first | (with_reducible first | exact HB.out | apply below_alloc | apply pw_below_drewN | apply below_drew1 | refine below_set ?_ GE180.out | refine below_set ?_ GE189.out) | exact HB.out)⟩⟩
             ·rw [if_neg c66] at H
              have c66b0 : (t197 == 0) = false := beq_eq_false_iff_ne.mpr c66
              have c66b1 : (t197 != 0) = true := bne_iff_ne.mpr c66
              have H' := Aside0.mk H
              clear H
              go_wp2
              go_meet
              case rel => exact ⟨_, (true), (by first | rfl | (simp; done) | (simp [*]; done)), H', ⟨by have := HJ7.out; have := HJ33.out; first | omega | exact Nat.le_refl _⟩, ⟨by (with_reducible repeat (first | apply Kd.S_alloc | apply Kd.S_drewN | apply Kd.S_drew)); exact Kd.S_mono HO_7.out (fun _ hk => ⟨hk.1.2, hk.2⟩)⟩, ⟨by (with_reducible repeat (first | apply Kd.R_alloc | apply Kd.R_drewN | apply Kd.R_drew)); exact Kd.R_mono HO194.out (fun _ hk => hk.2)⟩, ⟨by (with_reducible repeat (first | apply Kd.R_alloc | apply Kd.R_drewN | apply Kd.R_drew)); exact Kd.R_mono HO199.out (fun _ hk => hk.1.2)⟩, ⟨by (with_reducible repeat (first | refine blk_drewN ?_ _ | refine blk_drew ?_ | refine blk_alloc ?_ _)); exact BK180.out⟩, ⟨by (with_reducible repeat (first | refine blk_drewN ?_ _ | refine blk_drew ?_ | refine blk_alloc ?_ _)); exact BK189.out⟩, ⟨by repeat (first | (with_reducible exact HR190_0.out) | (with_reducible refine Kd.C_alloc ?_ _) | (with_reducible refine Kd.C_drewN ?_ _) | (with_reducible refine Kd.C_drew ?_) | exact HR190_0.out)⟩, ⟨by repeat (first | (with_reducible exact HR195_0.out) | (with_reducible refine Kd.C_alloc ?_ _) | (with_reducible refine Kd.C_drewN ?_ _) | (with_reducible refine Kd.C_drew ?_) | exact HR195_0.out)⟩, ⟨by repeat (first | (with_reducible first | exact HB.out | apply below_alloc | apply pw_below_drewN | apply below_drew1 | refine below_set ?_ GE180.out | refine below_set ?_ GE189.out) | exact HB.out)⟩⟩
            ·rw [if_neg c65] at H
             have c65b0 : (t192 == 0) = false := beq_eq_false_iff_ne.mpr c65
             have c65b1 : (t192 != 0) = true := bne_iff_ne.mpr c65
             have H' := Aside0.mk H
             clear H
             go_wp2
             go_meet
             case rel => exact ⟨_, (true), (by first | rfl | (simp; done) | (simp [*]; done)), H', ⟨by have := HJ7.out; have := HJ33.out; first | omega | exact Nat.le_refl _⟩, ⟨by (with_reducible repeat (first | apply Kd.S_alloc | apply Kd.S_drewN | apply Kd.S_drew)); exact Kd.S_mono HO_7.out (fun _ hk => ⟨hk.1.2, hk.2⟩)⟩, ⟨by (with_reducible repeat (first | apply Kd.R_alloc | apply Kd.R_drewN | apply Kd.R_drew)); exact Kd.R_mono HO194.out (fun _ hk => hk.2)⟩, ⟨by (with_reducible repeat (first | apply Kd.R_alloc | apply Kd.R_drewN | apply Kd.R_drew)); exact Kd.R_mono HO199.out (fun _ hk => hk.1.2)⟩, ⟨by (with_reducible repeat (first | refine blk_drewN ?_ _ | refine blk_drew ?_ | refine blk_alloc ?_ _)); exact BK180.out⟩, ⟨by (with_reducible repeat (first | refine blk_drewN ?_ _ | refine blk_drew ?_ | refine blk_alloc ?_ _)); exact BK189.out⟩, ⟨by repeat (first | (with_reducible exact HR190_0.out) | (with_reducible refine Kd.C_alloc ?_ _) | (with_reducible refine Kd.C_drewN ?_ _) | (with_reducible refine Kd.C_drew ?_) | exact HR190_0.out)⟩, ⟨by repeat (first | (with_reducible exact HR195_0.out) | (with_reducible refine Kd.C_alloc ?_ _) | (with_reducible refine Kd.C_drewN ?_ _) | (with_reducible refine Kd.C_drew ?_) | exact HR195_0.out)⟩, ⟨by repeat (first | (with_reducible first | exact HB.out | apply below_alloc | apply pw_below_drewN | apply below_drew1 | refine below_set ?_ GE180.out | refine below_set ?_ GE189.out) | exact HB.out)⟩⟩
           ·rw [if_neg c64] at H
            have c64b0 : (t188 == 0) = false := beq_eq_false_iff_ne.mpr c64
            have c64b1 : (t188 != 0) = true := bne_iff_ne.mpr c64
            (first | rw [c64b0] | (simp only [i64_w, i32_w]; rw [c64b0]) | skip)
            have H' := Aside0.mk H
            clear H
            go_wp2
            go_meet
            case rel => exact ⟨_, (true), (by first | rfl | (simp; done) | (simp [*]; done)), H', ⟨by have := HJ7.out; have := HJ33.out; first | omega | exact Nat.le_refl _⟩, ⟨by (with_reducible repeat (first | apply Kd.S_alloc | apply Kd.S_drewN | apply Kd.S_drew)); exact Kd.S_mono HO_7.out (fun _ hk => ⟨hk.1.2, hk.2⟩)⟩, ⟨by (with_reducible repeat (first | apply Kd.R_alloc | apply Kd.R_drewN | apply Kd.R_drew)); exact Kd.R_mono HO194.out (fun _ hk => hk.2)⟩, ⟨by (with_reducible repeat (first | apply Kd.R_alloc | apply Kd.R_drewN | apply Kd.R_drew)); exact Kd.R_mono HO199.out (fun _ hk => hk.1.2)⟩, ⟨by (with_reducible repeat (first | refine blk_drewN ?_ _ | refine blk_drew ?_ | refine blk_alloc ?_ _)); exact BK180.out⟩, ⟨by (with_reducible repeat (first | refine blk_drewN ?_ _ | refine blk_drew ?_ | refine blk_alloc ?_ _)); exact BK189.out⟩, ⟨by repeat (first | (with_reducible exact HR190_0.out) | (with_reducible refine Kd.C_alloc ?_ _) | (with_reducible refine Kd.C_drewN ?_ _) | (with_reducible refine Kd.C_drew ?_) | exact HR190_0.out)⟩, ⟨by repeat (first | (with_reducible exact HR195_0.out) | (with_reducible refine Kd.C_alloc ?_ _) | (with_reducible refine Kd.C_drewN ?_ _) | (with_reducible refine Kd.C_drew ?_) | exact HR195_0.out)⟩, ⟨by repeat (first | (with_reducible first | exact HB.out | apply below_alloc | apply pw_below_drewN | apply below_drew1 | refine below_set ?_ GE180.out | refine below_set ?_ GE189.out) | exact HB.out)⟩⟩
          case rest =>
           as_aux_lemma =>
           clear HC51
           try clear c1
           try clear p1
           try clear q1
           try clear hx1
           try clear qi1
           try clear p2
           try clear p3
           try clear c5
           try clear c6
           try clear c18
           try clear p18
           try clear q18
           try clear hx18
           try clear qi18
           try clear c19
           try clear p19
           try clear q19
           try clear hx19
           try clear qi19
           try clear c57
           try clear c58
           try clear c64
           try clear c64b0
           try clear c64b1
           try clear c65
           try clear c65b0
           try clear c65b1
           try clear c66
           try clear c66b0
           try clear c66b1
           try clear c67
           try clear c67b0
           try clear c67b1
           try clear hx181_0
           try clear hx182_0
           try clear hx190_0
           try clear hx195_0
           try clear p181
           try clear p182
           try clear p190
           try clear p195
           try clear q181
           try clear q182
           try clear q190
           try clear q195
           obtain ⟨kq, x138_50, rfl, HA, HJ50, HO_7, HO_18, HO_19, BK180, BK189, HR190_0, HR195_0, HB⟩ := hcut
           cases kq with
           | zero => exact absurd HA.out (by simp [bakekeep3_FrameText.j2])
           | succ kj50 =>
            have H := HA.out
            clear HA
            simp only [bakekeep3_FrameText.j2] at H
            by_cases c71 : x138_50 = true
            ·subst c71
             have H1 : (some false) = some true := by rw [if_pos rfl] at H; exact H
             clear H
             have H := H1
             clear H1
             cases (Option.some.inj H)
            ·replace c71 := Bool.eq_false_iff.mpr c71
             subst c71
             have H1 : (bakekeep3_FrameText.l0 kj50 t153 t187 t191 t196 (t191.length : Int) 0 t183 t184 t185 t186) = some true := by rw [if_neg (show ¬ (false = true) by decide)] at H; exact H
             clear H
             have H := H1
             clear H1
             have H' := Aside0.mk H
             clear H
             obtain ⟨Ao72, co72, eo72⟩ := Kd.R_slice HO_18.out
             subst eo72
             go_wp2
             go_loopg [141] kj50 (fun kq v141 w' => ∃ (x141_4 : Int), v141 = .int .i64 x141_4 ∧ Aside0 (bakekeep3_FrameText.l0 kq t153 t187 t191 t196 (t191.length : Int) x141_4 t183 t184 t185 t186 = some true) ∧ Aside0 (kq ≤ kj50) ∧ Aside0 (Kd.S (Kd.slice 3 (Kd.int .i64)) 70 w' w.heap.size (fun k_ => some k_ ≠ ((.slice Ao72 t191.length co72) : Value).ownBlock ∧ some k_ ≠ (v198 : Value).ownBlock) (.slice (some ad165) t153.length co35) t153) ∧ Aside0 (Kd.R (Kd.int .i64) 3 w' w.heap.size (fun k_ => some k_ ≠ (v198 : Value).ownBlock) (.slice Ao72 t191.length co72) t191) ∧ Aside0 (Kd.R (Kd.int .i64) 3 w' w.heap.size (fun k_ => some k_ ≠ ((.slice Ao72 t191.length co72) : Value).ownBlock) v198 t196) ∧ Aside0 (w'.heap[gb180]? = some (.cells #[.int .i64 t174, .int .i64 t175, .int .i64 t176, .int .i64 t177] 96 (0, 0))) ∧ Aside0 (w'.heap[gb189]? = some (.cells #[.int .i64 t183, .int .i64 t184, .int .i64 t185, .int .i64 t186] 96 (0, 0))) ∧ Aside0 (Kd.C (Kd.int .i64) w' A190_0 (rd_L3 t153 0).length (rd_L3 t153 0)) ∧ Aside0 (Kd.C (Kd.int .i64) w' A195_0 (rd_L3 t160 0).length (rd_L3 t160 0)) ∧ Aside0 (Below w.heap.size w w'))
             case atStart => exact ⟨(0), (by first | rfl | (simp; done) | (simp [*]; done)), H', ⟨Nat.le_refl _⟩, ⟨by (with_reducible repeat (first | apply Kd.S_alloc | apply Kd.S_drewN | apply Kd.S_drew)); exact HO_7.out⟩, ⟨by (with_reducible repeat (first | apply Kd.R_alloc | apply Kd.R_drewN | apply Kd.R_drew)); exact HO_18.out⟩, ⟨by (with_reducible repeat (first | apply Kd.R_alloc | apply Kd.R_drewN | apply Kd.R_drew)); exact HO_19.out⟩, ⟨by (with_reducible repeat (first | refine blk_drewN ?_ _ | refine blk_drew ?_ | refine blk_alloc ?_ _)); exact BK180.out⟩, ⟨by (with_reducible repeat (first | refine blk_drewN ?_ _ | refine blk_drew ?_ | refine blk_alloc ?_ _)); exact BK189.out⟩, ⟨by repeat (first | (with_reducible exact HR190_0.out) | (with_reducible refine Kd.C_alloc ?_ _) | (with_reducible refine Kd.C_drewN ?_ _) | (with_reducible refine Kd.C_drew ?_) | exact HR190_0.out)⟩, ⟨by repeat (first | (with_reducible exact HR195_0.out) | (with_reducible refine Kd.C_alloc ?_ _) | (with_reducible refine Kd.C_drewN ?_ _) | (with_reducible refine Kd.C_drew ?_) | exact HR195_0.out)⟩, ⟨by repeat (first | (with_reducible first | exact HB.out | apply below_alloc | apply pw_below_drewN | apply below_drew1 | refine below_set ?_ GE180.out | refine below_set ?_ GE189.out) | exact HB.out)⟩⟩
             case round =>
              as_aux_lemma =>
              clear H'
              try clear c1
              try clear p1
              try clear q1
              try clear hx1
              try clear qi1
              try clear p2
              try clear p3
              try clear c5
              try clear c6
              try clear c7
              try clear c18
              try clear p18
              try clear q18
              try clear hx18
              try clear qi18
              try clear c19
              try clear p19
              try clear q19
              try clear hx19
              try clear qi19
              try clear c57
              try clear c58
              try clear c64
              try clear c64b0
              try clear c64b1
              try clear c65
              try clear c65b0
              try clear c65b1
              try clear c66
              try clear c66b0
              try clear c66b1
              try clear c67
              try clear c67b0
              try clear c67b1
              try clear c71
              try clear hx181_0
              try clear hx182_0
              try clear hx190_0
              try clear hx195_0
              try clear p1
              try clear p18
              try clear p181
              try clear p182
              try clear p19
              try clear p190
              try clear p195
              try clear p2
              try clear p3
              try clear q1
              try clear q18
              try clear q181
              try clear q182
              try clear q19
              try clear q190
              try clear q195
              obtain ⟨x141_4, rfl, HA, HK4, HO_7, HO_18, HO_19, BK180, BK189, HR190_0, HR195_0, HB⟩ := hrel
              cases gk with
              | zero => exact absurd HA.out (by simp [bakekeep3_FrameText.l0])
              | succ k4 =>
               have H := HA.out
               clear HA
               simp only [bakekeep3_FrameText.l0] at H
               by_cases c73 : x141_4 < (t191.length : Int)
               ·rw [if_pos c73] at H
                have c73b0 : decide (x141_4 < (t191.length : Int)) = true := decide_eq_true c73
                clear c73
                by_cases c74 : (Int.tmod x141_4 48) ≥ t183
                ·rw [if_pos c74] at H
                 have c74b0 : decide (t183 ≤ (Int.tmod x141_4 48)) = true := decide_eq_true c74
                 clear c74
                 by_cases c75 : (Int.tmod x141_4 48) < t185
                 ·rw [if_pos c75] at H
                  have c75b0 : decide ((Int.tmod x141_4 48) < t185) = true := decide_eq_true c75
                  clear c75
                  by_cases c76 : (wrap64 (Int.tdiv x141_4 48)) ≥ t184
                  ·rw [if_pos c76] at H
                   have c76b0 : decide (t184 ≤ (wrap64 (Int.tdiv x141_4 48))) = true := decide_eq_true c76
                   clear c76
                   by_cases c77 : 0 ≤ x141_4
                   ·rw [if_pos c77] at H
                    have c77b0 : decide (0 ≤ x141_4) = true := decide_eq_true c77
                    clear c77
                    by_cases c78 : x141_4 < (t191.length : Int)
                    ·rw [if_pos c78] at H
                     have c78b0 : decide (x141_4 < (t191.length : Int)) = true := decide_eq_true c78
                     clear c78
                     by_cases c79 : x141_4 < (t196.length : Int)
                     ·rw [if_pos c79] at H
                      have c79b0 : decide (x141_4 < (t196.length : Int)) = true := decide_eq_true c79
                      clear c79
                      by_cases c80 : (rd t191 x141_4) = (rd t196 x141_4)
                      ·rw [if_pos c80] at H
                       have c80b0 : ((rd t191 x141_4) == (rd t196 x141_4)) = true := beq_iff_eq.mpr c80
                       have c80b1 : ((rd t191 x141_4) != (rd t196 x141_4)) = false := bne_eq_false_iff_eq.mpr c80
                       clear c80
                       have H' := Aside0.mk H
                       clear H
                       have hnb81 := NB189_180.out
                       have hnc81 := NB180_189.out
                       have hcz82_0 : wr.cell? ⟨gb189, 0, none⟩ = some (.int .i64 t183) := (blk_cell BK189.out 0).trans rfl
                       have hcz82_1 : wr.cell? ⟨gb189, 1, none⟩ = some (.int .i64 t184) := (blk_cell BK189.out 1).trans rfl
                       have hcz82_2 : wr.cell? ⟨gb189, 2, none⟩ = some (.int .i64 t185) := (blk_cell BK189.out 2).trans rfl
                       have hcz82_3 : wr.cell? ⟨gb189, 3, none⟩ = some (.int .i64 t186) := (blk_cell BK189.out 3).trans rfl
                       have hfz82_0 := blk_frozen BK189.out 0
                       have hfz82_1 := blk_frozen BK189.out 1
                       have hfz82_2 := blk_frozen BK189.out 2
                       have hfz82_3 := blk_frozen BK189.out 3
                       try go_wp2
                       have n0_ := Aside0.mk (Kd.S_drew HO_7.out)
                       have n1_ := Aside0.mk (Kd.R_drew HO_18.out)
                       have n2_ := Aside0.mk (Kd.R_drew HO_19.out)
                       have n3_ := Aside0.mk (blk_drew BK180.out)
                       have n4_ := Aside0.mk (blk_drew BK189.out)
                       have n5_ := Aside0.mk (Kd.C_drew HR190_0.out)
                       have n6_ := Aside0.mk (Kd.C_drew HR195_0.out)
                       have n7_ := Aside0.mk (below_drew1 HB.out)
                       clear HO_7
                       clear HO_18
                       clear HO_19
                       clear BK180
                       clear BK189
                       clear HR190_0
                       clear HR195_0
                       clear HB
                       have HO_7 := n0_
                       have HO_18 := n1_
                       have HO_19 := n2_
                       have BK180 := n3_
                       have BK189 := n4_
                       have HR190_0 := n5_
                       have HR195_0 := n6_
                       have HB := n7_
                       clear n0_ n1_ n2_ n3_ n4_ n5_ n6_ n7_
                       have p200 : 0 ≤ (x141_4 : Int) := of_decide_eq_true (by first | (with_reducible assumption) | assumption)
                       have q200 : x141_4 < (t191.length : Int) := of_decide_eq_true (by first | (with_reducible assumption) | assumption)
                       obtain ⟨ad200, e200, hx200_0⟩ := Kd.at_int (Kd.R_reads' HO_18.out).2.2 x141_4 p200 q200
                       cases e200
                       replace p200 := eq_true p200
                       replace q200 := eq_true q200
                       obtain ⟨Ao84, co84, eo84⟩ := Kd.R_slice HO_19.out
                       (first | subst eo84 | (injection eo84 with f1_ f2_ f3_; have f4_ := f1_.symm; have f5_ := f3_.symm; clear f1_ f2_ f3_; subst f4_; subst f5_))
                       have p201 : 0 ≤ (x141_4 : Int) := of_decide_eq_true (by first | (with_reducible assumption) | assumption)
                       have q201 : x141_4 < (t196.length : Int) := of_decide_eq_true (by first | (with_reducible assumption) | assumption)
                       obtain ⟨ad201, e201, hx201_0⟩ := Kd.at_int (Kd.R_reads' HO_19.out).2.2 x141_4 p201 q201
                       cases e201
                       replace p201 := eq_true p201
                       replace q201 := eq_true q201
                       as_aux_lemma =>
                       refine start_ (n := 17) (S := fun w' => w'.cell? (ad200.add (x141_4).toNat) = some (.int .i64 (rd t191 x141_4)) ∧ w'.cell? (ad201.add (x141_4).toNat) = some (.int .i64 (rd t196 x141_4))) (ds := []) #[false, false, false, false, false, false, false, false, false, false, false, false, false, false, false, false, false] (by kernel_rfl) rfl rfl ⟨hx200_0, hx201_0⟩ (fun hHeld => ?_); refine with_tabW bakekeep3_FrameText.tab19 bakekeep3_FrameText.bits19 (fun HT_ HW_ => ?_)
                       generalize wr.drew = w83 at HO_7 HO_18 HO_19 BK180 BK189 HR190_0 HR195_0 HB hx200_0 hx201_0 hHeld ⊢
                       refine pure_ (i := 0) (N := some 170) (v := ?_) (a' := ?_) #[true, false, false, false, false, false, false, false, false, false, false, false, false, false, false, false, false] rfl rfl (any_of HT_.out (by kernel_rfl)) (fun _ _ _ h => h) (Or.inl ⟨by rfl, ?_⟩) ?_ ?_
                       rotate_left
                       ·intro w'
                        go_simp
                        with_reducible rfl
                       rotate_left
                       ·simp only [Act.put, List.setIfInBounds_toArray, List.set_cons_zero, List.set_cons_succ, i64_w, i32_w]
                        rfl
                       refine pure_ (i := 1) (N := some 171) (v := ?_) (a' := ?_) #[true, true, false, false, false, false, false, false, false, false, false, false, false, false, false, false, false] rfl rfl (any_of HT_.out (by kernel_rfl)) (fun _ _ _ h => h) (Or.inl ⟨by rfl, ?_⟩) ?_ ?_
                       rotate_left
                       ·intro w'
                        go_simp
                        with_reducible rfl
                       rotate_left
                       ·simp only [Act.put, List.setIfInBounds_toArray, List.set_cons_zero, List.set_cons_succ, i64_w, i32_w]
                        rfl
                       refine pure_ (i := 2) (N := some 172) (v := ?_) (a' := ?_) #[true, true, true, false, false, false, false, false, false, false, false, false, false, false, false, false, false] rfl rfl (any_of HT_.out (by kernel_rfl)) (fun _ _ _ h => h) (Or.inl ⟨by rfl, ?_⟩) ?_ ?_
                       rotate_left
                       ·intro w'
                        go_simp
                        with_reducible rfl
                       rotate_left
                       ·simp only [Act.put, List.setIfInBounds_toArray, List.set_cons_zero, List.set_cons_succ, i64_w, i32_w]
                        rfl
                       refine pure_ (i := 4) (N := some 174) (v := ?_) (a' := ?_) #[true, true, true, false, true, false, false, false, false, false, false, false, false, false, false, false, false] rfl rfl (any_of HT_.out (by kernel_rfl)) (fun _ _ _ h => h) (Or.inl ⟨by rfl, ?_⟩) ?_ ?_
                       rotate_left
                       ·intro w'
                        go_simp
                        with_reducible rfl
                       rotate_left
                       ·simp only [Act.put, List.setIfInBounds_toArray, List.set_cons_zero, List.set_cons_succ, i64_w, i32_w]
                        rfl
                       refine pure_ (i := 5) (N := some 175) (v := ?_) (a' := ?_) #[true, true, true, false, true, true, false, false, false, false, false, false, false, false, false, false, false] rfl rfl (any_of HT_.out (by kernel_rfl)) (fun _ _ _ h => h) (Or.inl ⟨by rfl, ?_⟩) ?_ ?_
                       rotate_left
                       ·intro w'
                        go_simp
                        with_reducible rfl
                       rotate_left
                       ·simp only [Act.put, List.setIfInBounds_toArray, List.set_cons_zero, List.set_cons_succ, i64_w, i32_w]
                        rfl
                       refine pure_ (i := 6) (N := some 176) (v := ?_) (a' := ?_) #[true, true, true, false, true, true, true, false, false, false, false, false, false, false, false, false, false] rfl rfl (any_of HT_.out (by kernel_rfl)) (fun _ _ _ h => h) (Or.inl ⟨by rfl, ?_⟩) ?_ ?_
                       rotate_left
                       ·intro w'
                        go_simp
                        with_reducible rfl
                       rotate_left
                       ·simp only [Act.put, List.setIfInBounds_toArray, List.set_cons_zero, List.set_cons_succ, i64_w, i32_w]
                        rfl
                       refine take_ (i := 3) (N := some 173) (v := ?_) (a' := ?_) #[true, true, true, true, true, true, true, false, false, false, false, false, false, false, false, false, false] rfl rfl (take_ofW HT_.out HW_.out (by kernel_rfl)) (fun _ _ _ h => h) (Or.inl ⟨by rfl, ?_⟩) hHeld ?_ ?_
                       rotate_left
                       ·rintro w' ⟨s0, s1⟩
                        go_simp
                        with_reducible rfl
                       rotate_left
                       ·simp only [Act.put, List.setIfInBounds_toArray, List.set_cons_zero, List.set_cons_succ, i64_w, i32_w]
                        rfl
                       refine take_ (i := 7) (N := some 177) (v := ?_) (a' := ?_) #[true, true, true, true, true, true, true, true, false, false, false, false, false, false, false, false, false] rfl rfl (take_ofW HT_.out HW_.out (by kernel_rfl)) (fun _ _ _ h => h) (Or.inl ⟨by rfl, ?_⟩) hHeld ?_ ?_
                       rotate_left
                       ·rintro w' ⟨s0, s1⟩
                        go_simp
                        with_reducible rfl
                       rotate_left
                       ·simp only [Act.put, List.setIfInBounds_toArray, List.set_cons_zero, List.set_cons_succ, i64_w, i32_w]
                        rfl
                       refine pure_ (i := 8) (N := some 178) (v := ?_) (a' := ?_) #[true, true, true, true, true, true, true, true, true, false, false, false, false, false, false, false, false] rfl rfl (any_of HT_.out (by kernel_rfl)) (fun _ _ _ h => h) (Or.inl ⟨by rfl, ?_⟩) ?_ ?_
                       rotate_left
                       ·intro w'
                        go_simp
                        with_reducible rfl
                       rotate_left
                       ·simp only [Act.put, List.setIfInBounds_toArray, List.set_cons_zero, List.set_cons_succ, i64_w, i32_w]
                        rfl
                       refine pure_ (i := 9) (N := some 179) (v := ?_) (a' := ?_) #[true, true, true, true, true, true, true, true, true, true, false, false, false, false, false, false, false] rfl rfl (any_of HT_.out (by kernel_rfl)) (fun _ _ _ h => h) (Or.inl ⟨by rfl, ?_⟩) ?_ ?_
                       rotate_left
                       ·intro w'
                        go_simp
                        with_reducible rfl
                       rotate_left
                       ·simp only [Act.put, List.setIfInBounds_toArray, List.set_cons_zero, List.set_cons_succ, i64_w, i32_w]
                        rfl
                       refine pure_ (i := 10) (N := some 180) (v := undef) (a' := ?_) #[true, true, true, true, true, true, true, true, true, true, true, false, false, false, false, false, false] rfl rfl (any_of HT_.out (by kernel_rfl)) (fun _ _ _ h => h) (Or.inr ⟨by rfl, rfl⟩) ?_ ?_
                       rotate_left
                       ·simp only [Act.put, List.setIfInBounds_toArray, List.set_cons_zero, List.set_cons_succ, i64_w, i32_w]
                        rfl
                       refine pure_ (i := 11) (N := some 181) (v := undef) (a' := ?_) #[true, true, true, true, true, true, true, true, true, true, true, true, false, false, false, false, false] rfl rfl (any_of HT_.out (by kernel_rfl)) (fun _ _ _ h => h) (Or.inr ⟨by rfl, rfl⟩) ?_ ?_
                       rotate_left
                       ·simp only [Act.put, List.setIfInBounds_toArray, List.set_cons_zero, List.set_cons_succ, i64_w, i32_w]
                        rfl
                       refine pure_ (i := 12) (N := some 182) (v := undef) (a' := ?_) #[true, true, true, true, true, true, true, true, true, true, true, true, true, false, false, false, false] rfl rfl (any_of HT_.out (by kernel_rfl)) (fun _ _ _ h => h) (Or.inr ⟨by rfl, rfl⟩) ?_ ?_
                       rotate_left
                       ·simp only [Act.put, List.setIfInBounds_toArray, List.set_cons_zero, List.set_cons_succ, i64_w, i32_w]
                        rfl
                       refine pure_ (i := 13) (N := some 183) (v := undef) (a' := ?_) #[true, true, true, true, true, true, true, true, true, true, true, true, true, true, false, false, false] rfl rfl (any_of HT_.out (by kernel_rfl)) (fun _ _ _ h => h) (Or.inr ⟨by rfl, rfl⟩) ?_ ?_
                       rotate_left
                       ·simp only [Act.put, List.setIfInBounds_toArray, List.set_cons_zero, List.set_cons_succ, i64_w, i32_w]
                        rfl
                       refine pure_ (i := 14) (N := some 184) (v := undef) (a' := ?_) #[true, true, true, true, true, true, true, true, true, true, true, true, true, true, true, false, false] rfl rfl (any_of HT_.out (by kernel_rfl)) (fun _ _ _ h => h) (Or.inr ⟨by rfl, rfl⟩) ?_ ?_
                       rotate_left
                       ·simp only [Act.put, List.setIfInBounds_toArray, List.set_cons_zero, List.set_cons_succ, i64_w, i32_w]
                        rfl
                       refine pure_ (i := 15) (N := some 185) (v := undef) (a' := ?_) #[true, true, true, true, true, true, true, true, true, true, true, true, true, true, true, true, false] rfl rfl (any_of HT_.out (by kernel_rfl)) (fun _ _ _ h => h) (Or.inr ⟨by rfl, rfl⟩) ?_ ?_
                       rotate_left
                       ·simp only [Act.put, List.setIfInBounds_toArray, List.set_cons_zero, List.set_cons_succ, i64_w, i32_w]
                        rfl
                       refine pure_ (i := 16) (N := some 186) (v := ?_) (a' := ?_) #[true, true, true, true, true, true, true, true, true, true, true, true, true, true, true, true, true] rfl rfl (any_of HT_.out (by kernel_rfl)) (fun _ _ _ h => h) (Or.inl ⟨by rfl, ?_⟩) ?_ ?_
                       rotate_left
                       ·intro w'
                        go_simp
                        with_reducible rfl
                       rotate_left
                       ·simp only [Act.put, List.setIfInBounds_toArray, List.set_cons_zero, List.set_cons_succ, i64_w, i32_w]
                        rfl
                       refine done_ (done_of HT_.out (by kernel_rfl)) ?_
                       try go_wp2
                       go_roundg k4
                       case measure => have := HJ7.out; have := HJ33.out; have := HJ50.out; have := HK4.out; omega
                       case rel => exact ⟨(wrap64 (x141_4 + 1)), (by first | rfl | (simp; done) | (simp [*]; done)), H', ⟨by have := HJ7.out; have := HJ33.out; have := HJ50.out; have := HK4.out; omega⟩, ⟨by (with_reducible repeat (first | apply Kd.S_alloc | apply Kd.S_drewN | apply Kd.S_drew)); exact HO_7.out⟩, ⟨by (with_reducible repeat (first | apply Kd.R_alloc | apply Kd.R_drewN | apply Kd.R_drew)); exact HO_18.out⟩, ⟨by (with_reducible repeat (first | apply Kd.R_alloc | apply Kd.R_drewN | apply Kd.R_drew)); exact HO_19.out⟩, ⟨by (with_reducible repeat (first | refine blk_drewN ?_ _ | refine blk_drew ?_ | refine blk_alloc ?_ _)); exact BK180.out⟩, ⟨by (with_reducible repeat (first | refine blk_drewN ?_ _ | refine blk_drew ?_ | refine blk_alloc ?_ _)); exact BK189.out⟩, ⟨by repeat (first | (with_reducible exact HR190_0.out) | (with_reducible refine Kd.C_alloc ?_ _) | (with_reducible refine Kd.C_drewN ?_ _) | (with_reducible refine Kd.C_drew ?_) | exact HR190_0.out)⟩, ⟨by repeat (first | (with_reducible exact HR195_0.out) | (with_reducible refine Kd.C_alloc ?_ _) | (with_reducible refine Kd.C_drewN ?_ _) | (with_reducible refine Kd.C_drew ?_) | exact HR195_0.out)⟩, ⟨by repeat (first | (with_reducible first | exact HB.out | apply below_alloc | apply pw_below_drewN | apply below_drew1 | refine below_set ?_ GE180.out | refine below_set ?_ GE189.out) | exact HB.out)⟩⟩
                      ·rw [if_neg c80] at H
                       have c80b0 : ((rd t191 x141_4) == (rd t196 x141_4)) = false := beq_eq_false_iff_ne.mpr c80
                       have c80b1 : ((rd t191 x141_4) != (rd t196 x141_4)) = true := bne_iff_ne.mpr c80
                       by_cases c85 : t187 = true
                       ·subst c85
                        have H1 : (if ((wrap64 (Int.tdiv x141_4 48)) < t186) then (bakekeep3_FrameText.l0 k4 t153 true t191 t196 (t191.length : Int) (wrap64 (x141_4 + 1)) t183 t184 t185 t186) else (some false)) = some true := by rw [if_pos rfl] at H; exact H
                        clear H
                        have H := H1
                        clear H1
                        by_cases c86 : ((wrap64 (Int.tdiv x141_4 48)) < t186)
                        ·rw [if_pos c86] at H
                         have c86b0 : decide ((wrap64 (Int.tdiv x141_4 48)) < t186) = true := decide_eq_true c86
                         clear c86
                         have H' := Aside0.mk H
                         clear H
                         have hnb87 := NB189_180.out
                         have hnc87 := NB180_189.out
                         have hcz88_0 : wr.cell? ⟨gb189, 0, none⟩ = some (.int .i64 t183) := (blk_cell BK189.out 0).trans rfl
                         have hcz88_1 : wr.cell? ⟨gb189, 1, none⟩ = some (.int .i64 t184) := (blk_cell BK189.out 1).trans rfl
                         have hcz88_2 : wr.cell? ⟨gb189, 2, none⟩ = some (.int .i64 t185) := (blk_cell BK189.out 2).trans rfl
                         have hcz88_3 : wr.cell? ⟨gb189, 3, none⟩ = some (.int .i64 t186) := (blk_cell BK189.out 3).trans rfl
                         have hfz88_0 := blk_frozen BK189.out 0
                         have hfz88_1 := blk_frozen BK189.out 1
                         have hfz88_2 := blk_frozen BK189.out 2
                         have hfz88_3 := blk_frozen BK189.out 3
                         try go_wp2
                         have n0_ := Aside0.mk (Kd.S_drew HO_7.out)
                         have n1_ := Aside0.mk (Kd.R_drew HO_18.out)
                         have n2_ := Aside0.mk (Kd.R_drew HO_19.out)
                         have n3_ := Aside0.mk (blk_drew BK180.out)
                         have n4_ := Aside0.mk (blk_drew BK189.out)
                         have n5_ := Aside0.mk (Kd.C_drew HR190_0.out)
                         have n6_ := Aside0.mk (Kd.C_drew HR195_0.out)
                         have n7_ := Aside0.mk (below_drew1 HB.out)
                         clear HO_7
                         clear HO_18
                         clear HO_19
                         clear BK180
                         clear BK189
                         clear HR190_0
                         clear HR195_0
                         clear HB
                         have HO_7 := n0_
                         have HO_18 := n1_
                         have HO_19 := n2_
                         have BK180 := n3_
                         have BK189 := n4_
                         have HR190_0 := n5_
                         have HR195_0 := n6_
                         have HB := n7_
                         clear n0_ n1_ n2_ n3_ n4_ n5_ n6_ n7_
                         have p200 : 0 ≤ (x141_4 : Int) := of_decide_eq_true (by first | (with_reducible assumption) | assumption)
                         have q200 : x141_4 < (t191.length : Int) := of_decide_eq_true (by first | (with_reducible assumption) | assumption)
                         obtain ⟨ad200, e200, hx200_0⟩ := Kd.at_int (Kd.R_reads' HO_18.out).2.2 x141_4 p200 q200
                         cases e200
                         replace p200 := eq_true p200
                         replace q200 := eq_true q200
                         obtain ⟨Ao90, co90, eo90⟩ := Kd.R_slice HO_19.out
                         (first | subst eo90 | (injection eo90 with f1_ f2_ f3_; have f4_ := f1_.symm; have f5_ := f3_.symm; clear f1_ f2_ f3_; subst f4_; subst f5_))
                         have p201 : 0 ≤ (x141_4 : Int) := of_decide_eq_true (by first | (with_reducible assumption) | assumption)
                         have q201 : x141_4 < (t196.length : Int) := of_decide_eq_true (by first | (with_reducible assumption) | assumption)
                         obtain ⟨ad201, e201, hx201_0⟩ := Kd.at_int (Kd.R_reads' HO_19.out).2.2 x141_4 p201 q201
                         cases e201
                         replace p201 := eq_true p201
                         replace q201 := eq_true q201
                         as_aux_lemma =>
                         refine start_ (n := 17) (S := fun w' => w'.cell? (ad200.add (x141_4).toNat) = some (.int .i64 (rd t191 x141_4)) ∧ w'.cell? (ad201.add (x141_4).toNat) = some (.int .i64 (rd t196 x141_4))) (ds := []) #[false, false, false, false, false, false, false, false, false, false, false, false, false, false, false, false, false] (by kernel_rfl) rfl rfl ⟨hx200_0, hx201_0⟩ (fun hHeld => ?_); refine with_tabW bakekeep3_FrameText.tab19 bakekeep3_FrameText.bits19 (fun HT_ HW_ => ?_)
                         generalize wr.drew = w89 at HO_7 HO_18 HO_19 BK180 BK189 HR190_0 HR195_0 HB hx200_0 hx201_0 hHeld ⊢
                         refine pure_ (i := 0) (N := some 170) (v := ?_) (a' := ?_) #[true, false, false, false, false, false, false, false, false, false, false, false, false, false, false, false, false] rfl rfl (any_of HT_.out (by kernel_rfl)) (fun _ _ _ h => h) (Or.inl ⟨by rfl, ?_⟩) ?_ ?_
                         rotate_left
                         ·intro w'
                          go_simp
                          with_reducible rfl
                         rotate_left
                         ·simp only [Act.put, List.setIfInBounds_toArray, List.set_cons_zero, List.set_cons_succ, i64_w, i32_w]
                          rfl
                         refine pure_ (i := 1) (N := some 171) (v := ?_) (a' := ?_) #[true, true, false, false, false, false, false, false, false, false, false, false, false, false, false, false, false] rfl rfl (any_of HT_.out (by kernel_rfl)) (fun _ _ _ h => h) (Or.inl ⟨by rfl, ?_⟩) ?_ ?_
                         rotate_left
                         ·intro w'
                          go_simp
                          with_reducible rfl
                         rotate_left
                         ·simp only [Act.put, List.setIfInBounds_toArray, List.set_cons_zero, List.set_cons_succ, i64_w, i32_w]
                          rfl
                         refine pure_ (i := 2) (N := some 172) (v := ?_) (a' := ?_) #[true, true, true, false, false, false, false, false, false, false, false, false, false, false, false, false, false] rfl rfl (any_of HT_.out (by kernel_rfl)) (fun _ _ _ h => h) (Or.inl ⟨by rfl, ?_⟩) ?_ ?_
                         rotate_left
                         ·intro w'
                          go_simp
                          with_reducible rfl
                         rotate_left
                         ·simp only [Act.put, List.setIfInBounds_toArray, List.set_cons_zero, List.set_cons_succ, i64_w, i32_w]
                          rfl
                         refine pure_ (i := 4) (N := some 174) (v := ?_) (a' := ?_) #[true, true, true, false, true, false, false, false, false, false, false, false, false, false, false, false, false] rfl rfl (any_of HT_.out (by kernel_rfl)) (fun _ _ _ h => h) (Or.inl ⟨by rfl, ?_⟩) ?_ ?_
                         rotate_left
                         ·intro w'
                          go_simp
                          with_reducible rfl
                         rotate_left
                         ·simp only [Act.put, List.setIfInBounds_toArray, List.set_cons_zero, List.set_cons_succ, i64_w, i32_w]
                          rfl
                         refine pure_ (i := 5) (N := some 175) (v := ?_) (a' := ?_) #[true, true, true, false, true, true, false, false, false, false, false, false, false, false, false, false, false] rfl rfl (any_of HT_.out (by kernel_rfl)) (fun _ _ _ h => h) (Or.inl ⟨by rfl, ?_⟩) ?_ ?_
                         rotate_left
                         ·intro w'
                          go_simp
                          with_reducible rfl
                         rotate_left
                         ·simp only [Act.put, List.setIfInBounds_toArray, List.set_cons_zero, List.set_cons_succ, i64_w, i32_w]
                          rfl
                         refine pure_ (i := 6) (N := some 176) (v := ?_) (a' := ?_) #[true, true, true, false, true, true, true, false, false, false, false, false, false, false, false, false, false] rfl rfl (any_of HT_.out (by kernel_rfl)) (fun _ _ _ h => h) (Or.inl ⟨by rfl, ?_⟩) ?_ ?_
                         rotate_left
                         ·intro w'
                          go_simp
                          with_reducible rfl
                         rotate_left
                         ·simp only [Act.put, List.setIfInBounds_toArray, List.set_cons_zero, List.set_cons_succ, i64_w, i32_w]
                          rfl
                         refine take_ (i := 3) (N := some 173) (v := ?_) (a' := ?_) #[true, true, true, true, true, true, true, false, false, false, false, false, false, false, false, false, false] rfl rfl (take_ofW HT_.out HW_.out (by kernel_rfl)) (fun _ _ _ h => h) (Or.inl ⟨by rfl, ?_⟩) hHeld ?_ ?_
                         rotate_left
                         ·rintro w' ⟨s0, s1⟩
                          go_simp
                          with_reducible rfl
                         rotate_left
                         ·simp only [Act.put, List.setIfInBounds_toArray, List.set_cons_zero, List.set_cons_succ, i64_w, i32_w]
                          rfl
                         refine take_ (i := 7) (N := some 177) (v := ?_) (a' := ?_) #[true, true, true, true, true, true, true, true, false, false, false, false, false, false, false, false, false] rfl rfl (take_ofW HT_.out HW_.out (by kernel_rfl)) (fun _ _ _ h => h) (Or.inl ⟨by rfl, ?_⟩) hHeld ?_ ?_
                         rotate_left
                         ·rintro w' ⟨s0, s1⟩
                          go_simp
                          with_reducible rfl
                         rotate_left
                         ·simp only [Act.put, List.setIfInBounds_toArray, List.set_cons_zero, List.set_cons_succ, i64_w, i32_w]
                          rfl
                         refine pure_ (i := 8) (N := some 178) (v := ?_) (a' := ?_) #[true, true, true, true, true, true, true, true, true, false, false, false, false, false, false, false, false] rfl rfl (any_of HT_.out (by kernel_rfl)) (fun _ _ _ h => h) (Or.inl ⟨by rfl, ?_⟩) ?_ ?_
                         rotate_left
                         ·intro w'
                          go_simp
                          with_reducible rfl
                         rotate_left
                         ·simp only [Act.put, List.setIfInBounds_toArray, List.set_cons_zero, List.set_cons_succ, i64_w, i32_w]
                          rfl
                         refine pure_ (i := 9) (N := some 179) (v := ?_) (a' := ?_) #[true, true, true, true, true, true, true, true, true, true, false, false, false, false, false, false, false] rfl rfl (any_of HT_.out (by kernel_rfl)) (fun _ _ _ h => h) (Or.inl ⟨by rfl, ?_⟩) ?_ ?_
                         rotate_left
                         ·intro w'
                          go_simp
                          with_reducible rfl
                         rotate_left
                         ·simp only [Act.put, List.setIfInBounds_toArray, List.set_cons_zero, List.set_cons_succ, i64_w, i32_w]
                          rfl
                         refine pure_ (i := 10) (N := some 180) (v := ?_) (a' := ?_) #[true, true, true, true, true, true, true, true, true, true, true, false, false, false, false, false, false] rfl rfl (any_of HT_.out (by kernel_rfl)) (fun _ _ _ h => h) (Or.inl ⟨by rfl, ?_⟩) ?_ ?_
                         rotate_left
                         ·intro w'
                          go_simp
                          with_reducible rfl
                         rotate_left
                         ·simp only [Act.put, List.setIfInBounds_toArray, List.set_cons_zero, List.set_cons_succ, i64_w, i32_w]
                          rfl
                         refine pure_ (i := 11) (N := some 181) (v := ?_) (a' := ?_) #[true, true, true, true, true, true, true, true, true, true, true, true, false, false, false, false, false] rfl rfl (any_of HT_.out (by kernel_rfl)) (fun _ _ _ h => h) (Or.inl ⟨by rfl, ?_⟩) ?_ ?_
                         rotate_left
                         ·intro w'
                          go_simp
                          with_reducible rfl
                         rotate_left
                         ·simp only [Act.put, List.setIfInBounds_toArray, List.set_cons_zero, List.set_cons_succ, i64_w, i32_w]
                          rfl
                         refine pure_ (i := 12) (N := some 182) (v := ?_) (a' := ?_) #[true, true, true, true, true, true, true, true, true, true, true, true, true, false, false, false, false] rfl rfl (any_of HT_.out (by kernel_rfl)) (fun _ _ _ h => h) (Or.inl ⟨by rfl, ?_⟩) ?_ ?_
                         rotate_left
                         ·intro w'
                          go_simp
                          with_reducible rfl
                         rotate_left
                         ·simp only [Act.put, List.setIfInBounds_toArray, List.set_cons_zero, List.set_cons_succ, i64_w, i32_w]
                          rfl
                         refine pure_ (i := 13) (N := some 183) (v := ?_) (a' := ?_) #[true, true, true, true, true, true, true, true, true, true, true, true, true, true, false, false, false] rfl rfl (any_of HT_.out (by kernel_rfl)) (fun _ _ _ h => h) (Or.inl ⟨by rfl, ?_⟩) ?_ ?_
                         rotate_left
                         ·intro w'
                          go_simp
                          with_reducible rfl
                         rotate_left
                         ·simp only [Act.put, List.setIfInBounds_toArray, List.set_cons_zero, List.set_cons_succ, i64_w, i32_w]
                          rfl
                         refine pure_ (i := 14) (N := some 184) (v := ?_) (a' := ?_) #[true, true, true, true, true, true, true, true, true, true, true, true, true, true, true, false, false] rfl rfl (any_of HT_.out (by kernel_rfl)) (fun _ _ _ h => h) (Or.inl ⟨by rfl, ?_⟩) ?_ ?_
                         rotate_left
                         ·intro w'
                          go_simp
                          with_reducible rfl
                         rotate_left
                         ·simp only [Act.put, List.setIfInBounds_toArray, List.set_cons_zero, List.set_cons_succ, i64_w, i32_w]
                          rfl
                         refine pure_ (i := 15) (N := some 185) (v := ?_) (a' := ?_) #[true, true, true, true, true, true, true, true, true, true, true, true, true, true, true, true, false] rfl rfl (any_of HT_.out (by kernel_rfl)) (fun _ _ _ h => h) (Or.inl ⟨by rfl, ?_⟩) ?_ ?_
                         rotate_left
                         ·intro w'
                          go_simp
                          with_reducible rfl
                         rotate_left
                         ·simp only [Act.put, List.setIfInBounds_toArray, List.set_cons_zero, List.set_cons_succ, i64_w, i32_w]
                          rfl
                         refine pure_ (i := 16) (N := some 186) (v := ?_) (a' := ?_) #[true, true, true, true, true, true, true, true, true, true, true, true, true, true, true, true, true] rfl rfl (any_of HT_.out (by kernel_rfl)) (fun _ _ _ h => h) (Or.inl ⟨by rfl, ?_⟩) ?_ ?_
                         rotate_left
                         ·intro w'
                          go_simp
                          with_reducible rfl
                         rotate_left
                         ·simp only [Act.put, List.setIfInBounds_toArray, List.set_cons_zero, List.set_cons_succ, i64_w, i32_w]
                          rfl
                         refine done_ (done_of HT_.out (by kernel_rfl)) ?_
                         try go_wp2
                         go_roundg k4
                         case measure => have := HJ7.out; have := HJ33.out; have := HJ50.out; have := HK4.out; omega
                         case rel => exact ⟨(wrap64 (x141_4 + 1)), (by first | rfl | (simp; done) | (simp [*]; done)), H', ⟨by have := HJ7.out; have := HJ33.out; have := HJ50.out; have := HK4.out; omega⟩, ⟨by (with_reducible repeat (first | apply Kd.S_alloc | apply Kd.S_drewN | apply Kd.S_drew)); exact HO_7.out⟩, ⟨by (with_reducible repeat (first | apply Kd.R_alloc | apply Kd.R_drewN | apply Kd.R_drew)); exact HO_18.out⟩, ⟨by (with_reducible repeat (first | apply Kd.R_alloc | apply Kd.R_drewN | apply Kd.R_drew)); exact HO_19.out⟩, ⟨by (with_reducible repeat (first | refine blk_drewN ?_ _ | refine blk_drew ?_ | refine blk_alloc ?_ _)); exact BK180.out⟩, ⟨by (with_reducible repeat (first | refine blk_drewN ?_ _ | refine blk_drew ?_ | refine blk_alloc ?_ _)); exact BK189.out⟩, ⟨by repeat (first | (with_reducible exact HR190_0.out) | (with_reducible refine Kd.C_alloc ?_ _) | (with_reducible refine Kd.C_drewN ?_ _) | (with_reducible refine Kd.C_drew ?_) | exact HR190_0.out)⟩, ⟨by repeat (first | (with_reducible exact HR195_0.out) | (with_reducible refine Kd.C_alloc ?_ _) | (with_reducible refine Kd.C_drewN ?_ _) | (with_reducible refine Kd.C_drew ?_) | exact HR195_0.out)⟩, ⟨by repeat (first | (with_reducible first | exact HB.out | apply below_alloc | apply pw_below_drewN | apply below_drew1 | refine below_set ?_ GE180.out | refine below_set ?_ GE189.out) | exact HB.out)⟩⟩
                        ·rw [if_neg c86] at H
                         have c86b0 : decide ((wrap64 (Int.tdiv x141_4 48)) < t186) = false := decide_eq_false c86
                         clear c86
                         cases (Option.some.inj H)
                       ·replace c85 := Bool.eq_false_iff.mpr c85
                        subst c85
                        have H1 : (some false) = some true := by rw [if_neg (show ¬ (false = true) by decide)] at H; exact H
                        clear H
                        have H := H1
                        clear H1
                        cases (Option.some.inj H)
                     ·rw [if_neg c79] at H
                      exact absurd H (by simp)
                    ·rw [if_neg c78] at H
                     exact absurd H (by simp)
                   ·rw [if_neg c77] at H
                    exact absurd H (by simp)
                  ·rw [if_neg c76] at H
                   have c76b0 : decide (t184 ≤ (wrap64 (Int.tdiv x141_4 48))) = false := decide_eq_false c76
                   clear c76
                   by_cases c99 : 0 ≤ x141_4
                   ·rw [if_pos c99] at H
                    have c99b0 : decide (0 ≤ x141_4) = true := decide_eq_true c99
                    clear c99
                    by_cases c100 : x141_4 < (t191.length : Int)
                    ·rw [if_pos c100] at H
                     have c100b0 : decide (x141_4 < (t191.length : Int)) = true := decide_eq_true c100
                     clear c100
                     by_cases c101 : x141_4 < (t196.length : Int)
                     ·rw [if_pos c101] at H
                      have c101b0 : decide (x141_4 < (t196.length : Int)) = true := decide_eq_true c101
                      clear c101
                      by_cases c102 : (rd t191 x141_4) = (rd t196 x141_4)
                      ·rw [if_pos c102] at H
                       have c102b0 : ((rd t191 x141_4) == (rd t196 x141_4)) = true := beq_iff_eq.mpr c102
                       have c102b1 : ((rd t191 x141_4) != (rd t196 x141_4)) = false := bne_eq_false_iff_eq.mpr c102
                       clear c102
                       have H' := Aside0.mk H
                       clear H
                       have hnb103 := NB189_180.out
                       have hnc103 := NB180_189.out
                       have hcz104_0 : wr.cell? ⟨gb189, 0, none⟩ = some (.int .i64 t183) := (blk_cell BK189.out 0).trans rfl
                       have hcz104_1 : wr.cell? ⟨gb189, 1, none⟩ = some (.int .i64 t184) := (blk_cell BK189.out 1).trans rfl
                       have hcz104_2 : wr.cell? ⟨gb189, 2, none⟩ = some (.int .i64 t185) := (blk_cell BK189.out 2).trans rfl
                       have hcz104_3 : wr.cell? ⟨gb189, 3, none⟩ = some (.int .i64 t186) := (blk_cell BK189.out 3).trans rfl
                       have hfz104_0 := blk_frozen BK189.out 0
                       have hfz104_1 := blk_frozen BK189.out 1
                       have hfz104_2 := blk_frozen BK189.out 2
                       have hfz104_3 := blk_frozen BK189.out 3
                       try go_wp2
                       have n0_ := Aside0.mk (Kd.S_drew HO_7.out)
                       have n1_ := Aside0.mk (Kd.R_drew HO_18.out)
                       have n2_ := Aside0.mk (Kd.R_drew HO_19.out)
                       have n3_ := Aside0.mk (blk_drew BK180.out)
                       have n4_ := Aside0.mk (blk_drew BK189.out)
                       have n5_ := Aside0.mk (Kd.C_drew HR190_0.out)
                       have n6_ := Aside0.mk (Kd.C_drew HR195_0.out)
                       have n7_ := Aside0.mk (below_drew1 HB.out)
                       clear HO_7
                       clear HO_18
                       clear HO_19
                       clear BK180
                       clear BK189
                       clear HR190_0
                       clear HR195_0
                       clear HB
                       have HO_7 := n0_
                       have HO_18 := n1_
                       have HO_19 := n2_
                       have BK180 := n3_
                       have BK189 := n4_
                       have HR190_0 := n5_
                       have HR195_0 := n6_
                       have HB := n7_
                       clear n0_ n1_ n2_ n3_ n4_ n5_ n6_ n7_
                       have p202 : 0 ≤ (x141_4 : Int) := of_decide_eq_true (by first | (with_reducible assumption) | assumption)
                       have q202 : x141_4 < (t191.length : Int) := of_decide_eq_true (by first | (with_reducible assumption) | assumption)
                       obtain ⟨ad202, e202, hx202_0⟩ := Kd.at_int (Kd.R_reads' HO_18.out).2.2 x141_4 p202 q202
                       cases e202
                       replace p202 := eq_true p202
                       replace q202 := eq_true q202
                       obtain ⟨Ao106, co106, eo106⟩ := Kd.R_slice HO_19.out
                       (first | subst eo106 | (injection eo106 with f1_ f2_ f3_; have f4_ := f1_.symm; have f5_ := f3_.symm; clear f1_ f2_ f3_; subst f4_; subst f5_))
                       have p203 : 0 ≤ (x141_4 : Int) := of_decide_eq_true (by first | (with_reducible assumption) | assumption)
                       have q203 : x141_4 < (t196.length : Int) := of_decide_eq_true (by first | (with_reducible assumption) | assumption)
                       obtain ⟨ad203, e203, hx203_0⟩ := Kd.at_int (Kd.R_reads' HO_19.out).2.2 x141_4 p203 q203
                       cases e203
                       replace p203 := eq_true p203
                       replace q203 := eq_true q203
                       as_aux_lemma =>
                       refine start_ (n := 17) (S := fun w' => w'.cell? (ad202.add (x141_4).toNat) = some (.int .i64 (rd t191 x141_4)) ∧ w'.cell? (ad203.add (x141_4).toNat) = some (.int .i64 (rd t196 x141_4))) (ds := []) #[false, false, false, false, false, false, false, false, false, false, false, false, false, false, false, false, false] (by kernel_rfl) rfl rfl ⟨hx202_0, hx203_0⟩ (fun hHeld => ?_); refine with_tabW bakekeep3_FrameText.tab19 bakekeep3_FrameText.bits19 (fun HT_ HW_ => ?_)
                       generalize wr.drew = w105 at HO_7 HO_18 HO_19 BK180 BK189 HR190_0 HR195_0 HB hx202_0 hx203_0 hHeld ⊢
                       refine pure_ (i := 0) (N := some 170) (v := ?_) (a' := ?_) #[true, false, false, false, false, false, false, false, false, false, false, false, false, false, false, false, false] rfl rfl (any_of HT_.out (by kernel_rfl)) (fun _ _ _ h => h) (Or.inl ⟨by rfl, ?_⟩) ?_ ?_
                       rotate_left
                       ·intro w'
                        go_simp
                        with_reducible rfl
                       rotate_left
                       ·simp only [Act.put, List.setIfInBounds_toArray, List.set_cons_zero, List.set_cons_succ, i64_w, i32_w]
                        rfl
                       refine pure_ (i := 1) (N := some 171) (v := ?_) (a' := ?_) #[true, true, false, false, false, false, false, false, false, false, false, false, false, false, false, false, false] rfl rfl (any_of HT_.out (by kernel_rfl)) (fun _ _ _ h => h) (Or.inl ⟨by rfl, ?_⟩) ?_ ?_
                       rotate_left
                       ·intro w'
                        go_simp
                        with_reducible rfl
                       rotate_left
                       ·simp only [Act.put, List.setIfInBounds_toArray, List.set_cons_zero, List.set_cons_succ, i64_w, i32_w]
                        rfl
                       refine pure_ (i := 2) (N := some 172) (v := ?_) (a' := ?_) #[true, true, true, false, false, false, false, false, false, false, false, false, false, false, false, false, false] rfl rfl (any_of HT_.out (by kernel_rfl)) (fun _ _ _ h => h) (Or.inl ⟨by rfl, ?_⟩) ?_ ?_
                       rotate_left
                       ·intro w'
                        go_simp
                        with_reducible rfl
                       rotate_left
                       ·simp only [Act.put, List.setIfInBounds_toArray, List.set_cons_zero, List.set_cons_succ, i64_w, i32_w]
                        rfl
                       refine pure_ (i := 4) (N := some 174) (v := ?_) (a' := ?_) #[true, true, true, false, true, false, false, false, false, false, false, false, false, false, false, false, false] rfl rfl (any_of HT_.out (by kernel_rfl)) (fun _ _ _ h => h) (Or.inl ⟨by rfl, ?_⟩) ?_ ?_
                       rotate_left
                       ·intro w'
                        go_simp
                        with_reducible rfl
                       rotate_left
                       ·simp only [Act.put, List.setIfInBounds_toArray, List.set_cons_zero, List.set_cons_succ, i64_w, i32_w]
                        rfl
                       refine pure_ (i := 5) (N := some 175) (v := ?_) (a' := ?_) #[true, true, true, false, true, true, false, false, false, false, false, false, false, false, false, false, false] rfl rfl (any_of HT_.out (by kernel_rfl)) (fun _ _ _ h => h) (Or.inl ⟨by rfl, ?_⟩) ?_ ?_
                       rotate_left
                       ·intro w'
                        go_simp
                        with_reducible rfl
                       rotate_left
                       ·simp only [Act.put, List.setIfInBounds_toArray, List.set_cons_zero, List.set_cons_succ, i64_w, i32_w]
                        rfl
                       refine pure_ (i := 6) (N := some 176) (v := ?_) (a' := ?_) #[true, true, true, false, true, true, true, false, false, false, false, false, false, false, false, false, false] rfl rfl (any_of HT_.out (by kernel_rfl)) (fun _ _ _ h => h) (Or.inl ⟨by rfl, ?_⟩) ?_ ?_
                       rotate_left
                       ·intro w'
                        go_simp
                        with_reducible rfl
                       rotate_left
                       ·simp only [Act.put, List.setIfInBounds_toArray, List.set_cons_zero, List.set_cons_succ, i64_w, i32_w]
                        rfl
                       refine take_ (i := 3) (N := some 173) (v := ?_) (a' := ?_) #[true, true, true, true, true, true, true, false, false, false, false, false, false, false, false, false, false] rfl rfl (take_ofW HT_.out HW_.out (by kernel_rfl)) (fun _ _ _ h => h) (Or.inl ⟨by rfl, ?_⟩) hHeld ?_ ?_
                       rotate_left
                       ·rintro w' ⟨s0, s1⟩
                        go_simp
                        with_reducible rfl
                       rotate_left
                       ·simp only [Act.put, List.setIfInBounds_toArray, List.set_cons_zero, List.set_cons_succ, i64_w, i32_w]
                        rfl
                       refine take_ (i := 7) (N := some 177) (v := ?_) (a' := ?_) #[true, true, true, true, true, true, true, true, false, false, false, false, false, false, false, false, false] rfl rfl (take_ofW HT_.out HW_.out (by kernel_rfl)) (fun _ _ _ h => h) (Or.inl ⟨by rfl, ?_⟩) hHeld ?_ ?_
                       rotate_left
                       ·rintro w' ⟨s0, s1⟩
                        go_simp
                        with_reducible rfl
                       rotate_left
                       ·simp only [Act.put, List.setIfInBounds_toArray, List.set_cons_zero, List.set_cons_succ, i64_w, i32_w]
                        rfl
                       refine pure_ (i := 8) (N := some 178) (v := ?_) (a' := ?_) #[true, true, true, true, true, true, true, true, true, false, false, false, false, false, false, false, false] rfl rfl (any_of HT_.out (by kernel_rfl)) (fun _ _ _ h => h) (Or.inl ⟨by rfl, ?_⟩) ?_ ?_
                       rotate_left
                       ·intro w'
                        go_simp
                        with_reducible rfl
                       rotate_left
                       ·simp only [Act.put, List.setIfInBounds_toArray, List.set_cons_zero, List.set_cons_succ, i64_w, i32_w]
                        rfl
                       refine pure_ (i := 9) (N := some 179) (v := ?_) (a' := ?_) #[true, true, true, true, true, true, true, true, true, true, false, false, false, false, false, false, false] rfl rfl (any_of HT_.out (by kernel_rfl)) (fun _ _ _ h => h) (Or.inl ⟨by rfl, ?_⟩) ?_ ?_
                       rotate_left
                       ·intro w'
                        go_simp
                        with_reducible rfl
                       rotate_left
                       ·simp only [Act.put, List.setIfInBounds_toArray, List.set_cons_zero, List.set_cons_succ, i64_w, i32_w]
                        rfl
                       refine pure_ (i := 10) (N := some 180) (v := undef) (a' := ?_) #[true, true, true, true, true, true, true, true, true, true, true, false, false, false, false, false, false] rfl rfl (any_of HT_.out (by kernel_rfl)) (fun _ _ _ h => h) (Or.inr ⟨by rfl, rfl⟩) ?_ ?_
                       rotate_left
                       ·simp only [Act.put, List.setIfInBounds_toArray, List.set_cons_zero, List.set_cons_succ, i64_w, i32_w]
                        rfl
                       refine pure_ (i := 11) (N := some 181) (v := undef) (a' := ?_) #[true, true, true, true, true, true, true, true, true, true, true, true, false, false, false, false, false] rfl rfl (any_of HT_.out (by kernel_rfl)) (fun _ _ _ h => h) (Or.inr ⟨by rfl, rfl⟩) ?_ ?_
                       rotate_left
                       ·simp only [Act.put, List.setIfInBounds_toArray, List.set_cons_zero, List.set_cons_succ, i64_w, i32_w]
                        rfl
                       refine pure_ (i := 12) (N := some 182) (v := undef) (a' := ?_) #[true, true, true, true, true, true, true, true, true, true, true, true, true, false, false, false, false] rfl rfl (any_of HT_.out (by kernel_rfl)) (fun _ _ _ h => h) (Or.inr ⟨by rfl, rfl⟩) ?_ ?_
                       rotate_left
                       ·simp only [Act.put, List.setIfInBounds_toArray, List.set_cons_zero, List.set_cons_succ, i64_w, i32_w]
                        rfl
                       refine pure_ (i := 13) (N := some 183) (v := undef) (a' := ?_) #[true, true, true, true, true, true, true, true, true, true, true, true, true, true, false, false, false] rfl rfl (any_of HT_.out (by kernel_rfl)) (fun _ _ _ h => h) (Or.inr ⟨by rfl, rfl⟩) ?_ ?_
                       rotate_left
                       ·simp only [Act.put, List.setIfInBounds_toArray, List.set_cons_zero, List.set_cons_succ, i64_w, i32_w]
                        rfl
                       refine pure_ (i := 14) (N := some 184) (v := undef) (a' := ?_) #[true, true, true, true, true, true, true, true, true, true, true, true, true, true, true, false, false] rfl rfl (any_of HT_.out (by kernel_rfl)) (fun _ _ _ h => h) (Or.inr ⟨by rfl, rfl⟩) ?_ ?_
                       rotate_left
                       ·simp only [Act.put, List.setIfInBounds_toArray, List.set_cons_zero, List.set_cons_succ, i64_w, i32_w]
                        rfl
                       refine pure_ (i := 15) (N := some 185) (v := undef) (a' := ?_) #[true, true, true, true, true, true, true, true, true, true, true, true, true, true, true, true, false] rfl rfl (any_of HT_.out (by kernel_rfl)) (fun _ _ _ h => h) (Or.inr ⟨by rfl, rfl⟩) ?_ ?_
                       rotate_left
                       ·simp only [Act.put, List.setIfInBounds_toArray, List.set_cons_zero, List.set_cons_succ, i64_w, i32_w]
                        rfl
                       refine pure_ (i := 16) (N := some 186) (v := ?_) (a' := ?_) #[true, true, true, true, true, true, true, true, true, true, true, true, true, true, true, true, true] rfl rfl (any_of HT_.out (by kernel_rfl)) (fun _ _ _ h => h) (Or.inl ⟨by rfl, ?_⟩) ?_ ?_
                       rotate_left
                       ·intro w'
                        go_simp
                        with_reducible rfl
                       rotate_left
                       ·simp only [Act.put, List.setIfInBounds_toArray, List.set_cons_zero, List.set_cons_succ, i64_w, i32_w]
                        rfl
                       refine done_ (done_of HT_.out (by kernel_rfl)) ?_
                       try go_wp2
                       go_roundg k4
                       case measure => have := HJ7.out; have := HJ33.out; have := HJ50.out; have := HK4.out; omega
                       case rel => exact ⟨(wrap64 (x141_4 + 1)), (by first | rfl | (simp; done) | (simp [*]; done)), H', ⟨by have := HJ7.out; have := HJ33.out; have := HJ50.out; have := HK4.out; omega⟩, ⟨by (with_reducible repeat (first | apply Kd.S_alloc | apply Kd.S_drewN | apply Kd.S_drew)); exact HO_7.out⟩, ⟨by (with_reducible repeat (first | apply Kd.R_alloc | apply Kd.R_drewN | apply Kd.R_drew)); exact HO_18.out⟩, ⟨by (with_reducible repeat (first | apply Kd.R_alloc | apply Kd.R_drewN | apply Kd.R_drew)); exact HO_19.out⟩, ⟨by (with_reducible repeat (first | refine blk_drewN ?_ _ | refine blk_drew ?_ | refine blk_alloc ?_ _)); exact BK180.out⟩, ⟨by (with_reducible repeat (first | refine blk_drewN ?_ _ | refine blk_drew ?_ | refine blk_alloc ?_ _)); exact BK189.out⟩, ⟨by repeat (first | (with_reducible exact HR190_0.out) | (with_reducible refine Kd.C_alloc ?_ _) | (with_reducible refine Kd.C_drewN ?_ _) | (with_reducible refine Kd.C_drew ?_) | exact HR190_0.out)⟩, ⟨by repeat (first | (with_reducible exact HR195_0.out) | (with_reducible refine Kd.C_alloc ?_ _) | (with_reducible refine Kd.C_drewN ?_ _) | (with_reducible refine Kd.C_drew ?_) | exact HR195_0.out)⟩, ⟨by repeat (first | (with_reducible first | exact HB.out | apply below_alloc | apply pw_below_drewN | apply below_drew1 | refine below_set ?_ GE180.out | refine below_set ?_ GE189.out) | exact HB.out)⟩⟩
                      ·rw [if_neg c102] at H
                       have c102b0 : ((rd t191 x141_4) == (rd t196 x141_4)) = false := beq_eq_false_iff_ne.mpr c102
                       have c102b1 : ((rd t191 x141_4) != (rd t196 x141_4)) = true := bne_iff_ne.mpr c102
                       by_cases c107 : t187 = true
                       ·subst c107
                        have H1 : (some false) = some true := by rw [if_pos rfl] at H; exact H
                        clear H
                        have H := H1
                        clear H1
                        cases (Option.some.inj H)
                       ·replace c107 := Bool.eq_false_iff.mpr c107
                        subst c107
                        have H1 : (some false) = some true := by rw [if_neg (show ¬ (false = true) by decide)] at H; exact H
                        clear H
                        have H := H1
                        clear H1
                        cases (Option.some.inj H)
                     ·rw [if_neg c101] at H
                      exact absurd H (by simp)
                    ·rw [if_neg c100] at H
                     exact absurd H (by simp)
                   ·rw [if_neg c99] at H
                    exact absurd H (by simp)
                 ·rw [if_neg c75] at H
                  have c75b0 : decide ((Int.tmod x141_4 48) < t185) = false := decide_eq_false c75
                  clear c75
                  by_cases c116 : 0 ≤ x141_4
                  ·rw [if_pos c116] at H
                   have c116b0 : decide (0 ≤ x141_4) = true := decide_eq_true c116
                   clear c116
                   by_cases c117 : x141_4 < (t191.length : Int)
                   ·rw [if_pos c117] at H
                    have c117b0 : decide (x141_4 < (t191.length : Int)) = true := decide_eq_true c117
                    clear c117
                    by_cases c118 : x141_4 < (t196.length : Int)
                    ·rw [if_pos c118] at H
                     have c118b0 : decide (x141_4 < (t196.length : Int)) = true := decide_eq_true c118
                     clear c118
                     by_cases c119 : (rd t191 x141_4) = (rd t196 x141_4)
                     ·rw [if_pos c119] at H
                      have c119b0 : ((rd t191 x141_4) == (rd t196 x141_4)) = true := beq_iff_eq.mpr c119
                      have c119b1 : ((rd t191 x141_4) != (rd t196 x141_4)) = false := bne_eq_false_iff_eq.mpr c119
                      clear c119
                      have H' := Aside0.mk H
                      clear H
                      have hnb120 := NB189_180.out
                      have hnc120 := NB180_189.out
                      have hcz121_0 : wr.cell? ⟨gb189, 0, none⟩ = some (.int .i64 t183) := (blk_cell BK189.out 0).trans rfl
                      have hcz121_1 : wr.cell? ⟨gb189, 1, none⟩ = some (.int .i64 t184) := (blk_cell BK189.out 1).trans rfl
                      have hcz121_2 : wr.cell? ⟨gb189, 2, none⟩ = some (.int .i64 t185) := (blk_cell BK189.out 2).trans rfl
                      have hcz121_3 : wr.cell? ⟨gb189, 3, none⟩ = some (.int .i64 t186) := (blk_cell BK189.out 3).trans rfl
                      have hfz121_0 := blk_frozen BK189.out 0
                      have hfz121_1 := blk_frozen BK189.out 1
                      have hfz121_2 := blk_frozen BK189.out 2
                      have hfz121_3 := blk_frozen BK189.out 3
                      try go_wp2
                      have n0_ := Aside0.mk (Kd.S_drew HO_7.out)
                      have n1_ := Aside0.mk (Kd.R_drew HO_18.out)
                      have n2_ := Aside0.mk (Kd.R_drew HO_19.out)
                      have n3_ := Aside0.mk (blk_drew BK180.out)
                      have n4_ := Aside0.mk (blk_drew BK189.out)
                      have n5_ := Aside0.mk (Kd.C_drew HR190_0.out)
                      have n6_ := Aside0.mk (Kd.C_drew HR195_0.out)
                      have n7_ := Aside0.mk (below_drew1 HB.out)
                      clear HO_7
                      clear HO_18
                      clear HO_19
                      clear BK180
                      clear BK189
                      clear HR190_0
                      clear HR195_0
                      clear HB
                      have HO_7 := n0_
                      have HO_18 := n1_
                      have HO_19 := n2_
                      have BK180 := n3_
                      have BK189 := n4_
                      have HR190_0 := n5_
                      have HR195_0 := n6_
                      have HB := n7_
                      clear n0_ n1_ n2_ n3_ n4_ n5_ n6_ n7_
                      have p204 : 0 ≤ (x141_4 : Int) := of_decide_eq_true (by first | (with_reducible assumption) | assumption)
                      have q204 : x141_4 < (t191.length : Int) := of_decide_eq_true (by first | (with_reducible assumption) | assumption)
                      obtain ⟨ad204, e204, hx204_0⟩ := Kd.at_int (Kd.R_reads' HO_18.out).2.2 x141_4 p204 q204
                      cases e204
                      replace p204 := eq_true p204
                      replace q204 := eq_true q204
                      obtain ⟨Ao123, co123, eo123⟩ := Kd.R_slice HO_19.out
                      (first | subst eo123 | (injection eo123 with f1_ f2_ f3_; have f4_ := f1_.symm; have f5_ := f3_.symm; clear f1_ f2_ f3_; subst f4_; subst f5_))
                      have p205 : 0 ≤ (x141_4 : Int) := of_decide_eq_true (by first | (with_reducible assumption) | assumption)
                      have q205 : x141_4 < (t196.length : Int) := of_decide_eq_true (by first | (with_reducible assumption) | assumption)
                      obtain ⟨ad205, e205, hx205_0⟩ := Kd.at_int (Kd.R_reads' HO_19.out).2.2 x141_4 p205 q205
                      cases e205
                      replace p205 := eq_true p205
                      replace q205 := eq_true q205
                      as_aux_lemma =>
                      refine start_ (n := 17) (S := fun w' => w'.cell? (ad204.add (x141_4).toNat) = some (.int .i64 (rd t191 x141_4)) ∧ w'.cell? (ad205.add (x141_4).toNat) = some (.int .i64 (rd t196 x141_4))) (ds := []) #[false, false, false, false, false, false, false, false, false, false, false, false, false, false, false, false, false] (by kernel_rfl) rfl rfl ⟨hx204_0, hx205_0⟩ (fun hHeld => ?_); refine with_tabW bakekeep3_FrameText.tab19 bakekeep3_FrameText.bits19 (fun HT_ HW_ => ?_)
                      generalize wr.drew = w122 at HO_7 HO_18 HO_19 BK180 BK189 HR190_0 HR195_0 HB hx204_0 hx205_0 hHeld ⊢
                      refine pure_ (i := 0) (N := some 170) (v := ?_) (a' := ?_) #[true, false, false, false, false, false, false, false, false, false, false, false, false, false, false, false, false] rfl rfl (any_of HT_.out (by kernel_rfl)) (fun _ _ _ h => h) (Or.inl ⟨by rfl, ?_⟩) ?_ ?_
                      rotate_left
                      ·intro w'
                       go_simp
                       with_reducible rfl
                      rotate_left
                      ·simp only [Act.put, List.setIfInBounds_toArray, List.set_cons_zero, List.set_cons_succ, i64_w, i32_w]
                       rfl
                      refine pure_ (i := 1) (N := some 171) (v := ?_) (a' := ?_) #[true, true, false, false, false, false, false, false, false, false, false, false, false, false, false, false, false] rfl rfl (any_of HT_.out (by kernel_rfl)) (fun _ _ _ h => h) (Or.inl ⟨by rfl, ?_⟩) ?_ ?_
                      rotate_left
                      ·intro w'
                       go_simp
                       with_reducible rfl
                      rotate_left
                      ·simp only [Act.put, List.setIfInBounds_toArray, List.set_cons_zero, List.set_cons_succ, i64_w, i32_w]
                       rfl
                      refine pure_ (i := 2) (N := some 172) (v := ?_) (a' := ?_) #[true, true, true, false, false, false, false, false, false, false, false, false, false, false, false, false, false] rfl rfl (any_of HT_.out (by kernel_rfl)) (fun _ _ _ h => h) (Or.inl ⟨by rfl, ?_⟩) ?_ ?_
                      rotate_left
                      ·intro w'
                       go_simp
                       with_reducible rfl
                      rotate_left
                      ·simp only [Act.put, List.setIfInBounds_toArray, List.set_cons_zero, List.set_cons_succ, i64_w, i32_w]
                       rfl
                      refine pure_ (i := 4) (N := some 174) (v := ?_) (a' := ?_) #[true, true, true, false, true, false, false, false, false, false, false, false, false, false, false, false, false] rfl rfl (any_of HT_.out (by kernel_rfl)) (fun _ _ _ h => h) (Or.inl ⟨by rfl, ?_⟩) ?_ ?_
                      rotate_left
                      ·intro w'
                       go_simp
                       with_reducible rfl
                      rotate_left
                      ·simp only [Act.put, List.setIfInBounds_toArray, List.set_cons_zero, List.set_cons_succ, i64_w, i32_w]
                       rfl
                      refine pure_ (i := 5) (N := some 175) (v := ?_) (a' := ?_) #[true, true, true, false, true, true, false, false, false, false, false, false, false, false, false, false, false] rfl rfl (any_of HT_.out (by kernel_rfl)) (fun _ _ _ h => h) (Or.inl ⟨by rfl, ?_⟩) ?_ ?_
                      rotate_left
                      ·intro w'
                       go_simp
                       with_reducible rfl
                      rotate_left
                      ·simp only [Act.put, List.setIfInBounds_toArray, List.set_cons_zero, List.set_cons_succ, i64_w, i32_w]
                       rfl
                      refine pure_ (i := 6) (N := some 176) (v := ?_) (a' := ?_) #[true, true, true, false, true, true, true, false, false, false, false, false, false, false, false, false, false] rfl rfl (any_of HT_.out (by kernel_rfl)) (fun _ _ _ h => h) (Or.inl ⟨by rfl, ?_⟩) ?_ ?_
                      rotate_left
                      ·intro w'
                       go_simp
                       with_reducible rfl
                      rotate_left
                      ·simp only [Act.put, List.setIfInBounds_toArray, List.set_cons_zero, List.set_cons_succ, i64_w, i32_w]
                       rfl
                      refine take_ (i := 3) (N := some 173) (v := ?_) (a' := ?_) #[true, true, true, true, true, true, true, false, false, false, false, false, false, false, false, false, false] rfl rfl (take_ofW HT_.out HW_.out (by kernel_rfl)) (fun _ _ _ h => h) (Or.inl ⟨by rfl, ?_⟩) hHeld ?_ ?_
                      rotate_left
                      ·rintro w' ⟨s0, s1⟩
                       go_simp
                       with_reducible rfl
                      rotate_left
                      ·simp only [Act.put, List.setIfInBounds_toArray, List.set_cons_zero, List.set_cons_succ, i64_w, i32_w]
                       rfl
                      refine take_ (i := 7) (N := some 177) (v := ?_) (a' := ?_) #[true, true, true, true, true, true, true, true, false, false, false, false, false, false, false, false, false] rfl rfl (take_ofW HT_.out HW_.out (by kernel_rfl)) (fun _ _ _ h => h) (Or.inl ⟨by rfl, ?_⟩) hHeld ?_ ?_
                      rotate_left
                      ·rintro w' ⟨s0, s1⟩
                       go_simp
                       with_reducible rfl
                      rotate_left
                      ·simp only [Act.put, List.setIfInBounds_toArray, List.set_cons_zero, List.set_cons_succ, i64_w, i32_w]
                       rfl
                      refine pure_ (i := 8) (N := some 178) (v := ?_) (a' := ?_) #[true, true, true, true, true, true, true, true, true, false, false, false, false, false, false, false, false] rfl rfl (any_of HT_.out (by kernel_rfl)) (fun _ _ _ h => h) (Or.inl ⟨by rfl, ?_⟩) ?_ ?_
                      rotate_left
                      ·intro w'
                       go_simp
                       with_reducible rfl
                      rotate_left
                      ·simp only [Act.put, List.setIfInBounds_toArray, List.set_cons_zero, List.set_cons_succ, i64_w, i32_w]
                       rfl
                      refine pure_ (i := 9) (N := some 179) (v := ?_) (a' := ?_) #[true, true, true, true, true, true, true, true, true, true, false, false, false, false, false, false, false] rfl rfl (any_of HT_.out (by kernel_rfl)) (fun _ _ _ h => h) (Or.inl ⟨by rfl, ?_⟩) ?_ ?_
                      rotate_left
                      ·intro w'
                       go_simp
                       with_reducible rfl
                      rotate_left
                      ·simp only [Act.put, List.setIfInBounds_toArray, List.set_cons_zero, List.set_cons_succ, i64_w, i32_w]
                       rfl
                      refine pure_ (i := 10) (N := some 180) (v := undef) (a' := ?_) #[true, true, true, true, true, true, true, true, true, true, true, false, false, false, false, false, false] rfl rfl (any_of HT_.out (by kernel_rfl)) (fun _ _ _ h => h) (Or.inr ⟨by rfl, rfl⟩) ?_ ?_
                      rotate_left
                      ·simp only [Act.put, List.setIfInBounds_toArray, List.set_cons_zero, List.set_cons_succ, i64_w, i32_w]
                       rfl
                      refine pure_ (i := 11) (N := some 181) (v := undef) (a' := ?_) #[true, true, true, true, true, true, true, true, true, true, true, true, false, false, false, false, false] rfl rfl (any_of HT_.out (by kernel_rfl)) (fun _ _ _ h => h) (Or.inr ⟨by rfl, rfl⟩) ?_ ?_
                      rotate_left
                      ·simp only [Act.put, List.setIfInBounds_toArray, List.set_cons_zero, List.set_cons_succ, i64_w, i32_w]
                       rfl
                      refine pure_ (i := 12) (N := some 182) (v := undef) (a' := ?_) #[true, true, true, true, true, true, true, true, true, true, true, true, true, false, false, false, false] rfl rfl (any_of HT_.out (by kernel_rfl)) (fun _ _ _ h => h) (Or.inr ⟨by rfl, rfl⟩) ?_ ?_
                      rotate_left
                      ·simp only [Act.put, List.setIfInBounds_toArray, List.set_cons_zero, List.set_cons_succ, i64_w, i32_w]
                       rfl
                      refine pure_ (i := 13) (N := some 183) (v := undef) (a' := ?_) #[true, true, true, true, true, true, true, true, true, true, true, true, true, true, false, false, false] rfl rfl (any_of HT_.out (by kernel_rfl)) (fun _ _ _ h => h) (Or.inr ⟨by rfl, rfl⟩) ?_ ?_
                      rotate_left
                      ·simp only [Act.put, List.setIfInBounds_toArray, List.set_cons_zero, List.set_cons_succ, i64_w, i32_w]
                       rfl
                      refine pure_ (i := 14) (N := some 184) (v := undef) (a' := ?_) #[true, true, true, true, true, true, true, true, true, true, true, true, true, true, true, false, false] rfl rfl (any_of HT_.out (by kernel_rfl)) (fun _ _ _ h => h) (Or.inr ⟨by rfl, rfl⟩) ?_ ?_
                      rotate_left
                      ·simp only [Act.put, List.setIfInBounds_toArray, List.set_cons_zero, List.set_cons_succ, i64_w, i32_w]
                       rfl
                      refine pure_ (i := 15) (N := some 185) (v := undef) (a' := ?_) #[true, true, true, true, true, true, true, true, true, true, true, true, true, true, true, true, false] rfl rfl (any_of HT_.out (by kernel_rfl)) (fun _ _ _ h => h) (Or.inr ⟨by rfl, rfl⟩) ?_ ?_
                      rotate_left
                      ·simp only [Act.put, List.setIfInBounds_toArray, List.set_cons_zero, List.set_cons_succ, i64_w, i32_w]
                       rfl
                      refine pure_ (i := 16) (N := some 186) (v := ?_) (a' := ?_) #[true, true, true, true, true, true, true, true, true, true, true, true, true, true, true, true, true] rfl rfl (any_of HT_.out (by kernel_rfl)) (fun _ _ _ h => h) (Or.inl ⟨by rfl, ?_⟩) ?_ ?_
                      rotate_left
                      ·intro w'
                       go_simp
                       with_reducible rfl
                      rotate_left
                      ·simp only [Act.put, List.setIfInBounds_toArray, List.set_cons_zero, List.set_cons_succ, i64_w, i32_w]
                       rfl
                      refine done_ (done_of HT_.out (by kernel_rfl)) ?_
                      try go_wp2
                      go_roundg k4
                      case measure => have := HJ7.out; have := HJ33.out; have := HJ50.out; have := HK4.out; omega
                      case rel => exact ⟨(wrap64 (x141_4 + 1)), (by first | rfl | (simp; done) | (simp [*]; done)), H', ⟨by have := HJ7.out; have := HJ33.out; have := HJ50.out; have := HK4.out; omega⟩, ⟨by (with_reducible repeat (first | apply Kd.S_alloc | apply Kd.S_drewN | apply Kd.S_drew)); exact HO_7.out⟩, ⟨by (with_reducible repeat (first | apply Kd.R_alloc | apply Kd.R_drewN | apply Kd.R_drew)); exact HO_18.out⟩, ⟨by (with_reducible repeat (first | apply Kd.R_alloc | apply Kd.R_drewN | apply Kd.R_drew)); exact HO_19.out⟩, ⟨by (with_reducible repeat (first | refine blk_drewN ?_ _ | refine blk_drew ?_ | refine blk_alloc ?_ _)); exact BK180.out⟩, ⟨by (with_reducible repeat (first | refine blk_drewN ?_ _ | refine blk_drew ?_ | refine blk_alloc ?_ _)); exact BK189.out⟩, ⟨by repeat (first | (with_reducible exact HR190_0.out) | (with_reducible refine Kd.C_alloc ?_ _) | (with_reducible refine Kd.C_drewN ?_ _) | (with_reducible refine Kd.C_drew ?_) | exact HR190_0.out)⟩, ⟨by repeat (first | (with_reducible exact HR195_0.out) | (with_reducible refine Kd.C_alloc ?_ _) | (with_reducible refine Kd.C_drewN ?_ _) | (with_reducible refine Kd.C_drew ?_) | exact HR195_0.out)⟩, ⟨by repeat (first | (with_reducible first | exact HB.out | apply below_alloc | apply pw_below_drewN | apply below_drew1 | refine below_set ?_ GE180.out | refine below_set ?_ GE189.out) | exact HB.out)⟩⟩
                     ·rw [if_neg c119] at H
                      have c119b0 : ((rd t191 x141_4) == (rd t196 x141_4)) = false := beq_eq_false_iff_ne.mpr c119
                      have c119b1 : ((rd t191 x141_4) != (rd t196 x141_4)) = true := bne_iff_ne.mpr c119
                      by_cases c124 : t187 = true
                      ·subst c124
                       have H1 : (some false) = some true := by rw [if_pos rfl] at H; exact H
                       clear H
                       have H := H1
                       clear H1
                       cases (Option.some.inj H)
                      ·replace c124 := Bool.eq_false_iff.mpr c124
                       subst c124
                       have H1 : (some false) = some true := by rw [if_neg (show ¬ (false = true) by decide)] at H; exact H
                       clear H
                       have H := H1
                       clear H1
                       cases (Option.some.inj H)
                    ·rw [if_neg c118] at H
                     exact absurd H (by simp)
                   ·rw [if_neg c117] at H
                    exact absurd H (by simp)
                  ·rw [if_neg c116] at H
                   exact absurd H (by simp)
                ·rw [if_neg c74] at H
                 have c74b0 : decide (t183 ≤ (Int.tmod x141_4 48)) = false := decide_eq_false c74
                 clear c74
                 by_cases c133 : 0 ≤ x141_4
                 ·rw [if_pos c133] at H
                  have c133b0 : decide (0 ≤ x141_4) = true := decide_eq_true c133
                  clear c133
                  by_cases c134 : x141_4 < (t191.length : Int)
                  ·rw [if_pos c134] at H
                   have c134b0 : decide (x141_4 < (t191.length : Int)) = true := decide_eq_true c134
                   clear c134
                   by_cases c135 : x141_4 < (t196.length : Int)
                   ·rw [if_pos c135] at H
                    have c135b0 : decide (x141_4 < (t196.length : Int)) = true := decide_eq_true c135
                    clear c135
                    by_cases c136 : (rd t191 x141_4) = (rd t196 x141_4)
                    ·rw [if_pos c136] at H
                     have c136b0 : ((rd t191 x141_4) == (rd t196 x141_4)) = true := beq_iff_eq.mpr c136
                     have c136b1 : ((rd t191 x141_4) != (rd t196 x141_4)) = false := bne_eq_false_iff_eq.mpr c136
                     clear c136
                     have H' := Aside0.mk H
                     clear H
                     have hnb137 := NB189_180.out
                     have hnc137 := NB180_189.out
                     have hcz138_0 : wr.cell? ⟨gb189, 0, none⟩ = some (.int .i64 t183) := (blk_cell BK189.out 0).trans rfl
                     have hcz138_1 : wr.cell? ⟨gb189, 1, none⟩ = some (.int .i64 t184) := (blk_cell BK189.out 1).trans rfl
                     have hcz138_2 : wr.cell? ⟨gb189, 2, none⟩ = some (.int .i64 t185) := (blk_cell BK189.out 2).trans rfl
                     have hcz138_3 : wr.cell? ⟨gb189, 3, none⟩ = some (.int .i64 t186) := (blk_cell BK189.out 3).trans rfl
                     have hfz138_0 := blk_frozen BK189.out 0
                     have hfz138_1 := blk_frozen BK189.out 1
                     have hfz138_2 := blk_frozen BK189.out 2
                     have hfz138_3 := blk_frozen BK189.out 3
                     try go_wp2
                     have n0_ := Aside0.mk (Kd.S_drew HO_7.out)
                     have n1_ := Aside0.mk (Kd.R_drew HO_18.out)
                     have n2_ := Aside0.mk (Kd.R_drew HO_19.out)
                     have n3_ := Aside0.mk (blk_drew BK180.out)
                     have n4_ := Aside0.mk (blk_drew BK189.out)
                     have n5_ := Aside0.mk (Kd.C_drew HR190_0.out)
                     have n6_ := Aside0.mk (Kd.C_drew HR195_0.out)
                     have n7_ := Aside0.mk (below_drew1 HB.out)
                     clear HO_7
                     clear HO_18
                     clear HO_19
                     clear BK180
                     clear BK189
                     clear HR190_0
                     clear HR195_0
                     clear HB
                     have HO_7 := n0_
                     have HO_18 := n1_
                     have HO_19 := n2_
                     have BK180 := n3_
                     have BK189 := n4_
                     have HR190_0 := n5_
                     have HR195_0 := n6_
                     have HB := n7_
                     clear n0_ n1_ n2_ n3_ n4_ n5_ n6_ n7_
                     have p206 : 0 ≤ (x141_4 : Int) := of_decide_eq_true (by first | (with_reducible assumption) | assumption)
                     have q206 : x141_4 < (t191.length : Int) := of_decide_eq_true (by first | (with_reducible assumption) | assumption)
                     obtain ⟨ad206, e206, hx206_0⟩ := Kd.at_int (Kd.R_reads' HO_18.out).2.2 x141_4 p206 q206
                     cases e206
                     replace p206 := eq_true p206
                     replace q206 := eq_true q206
                     obtain ⟨Ao140, co140, eo140⟩ := Kd.R_slice HO_19.out
                     (first | subst eo140 | (injection eo140 with f1_ f2_ f3_; have f4_ := f1_.symm; have f5_ := f3_.symm; clear f1_ f2_ f3_; subst f4_; subst f5_))
                     have p207 : 0 ≤ (x141_4 : Int) := of_decide_eq_true (by first | (with_reducible assumption) | assumption)
                     have q207 : x141_4 < (t196.length : Int) := of_decide_eq_true (by first | (with_reducible assumption) | assumption)
                     obtain ⟨ad207, e207, hx207_0⟩ := Kd.at_int (Kd.R_reads' HO_19.out).2.2 x141_4 p207 q207
                     cases e207
                     replace p207 := eq_true p207
                     replace q207 := eq_true q207
                     as_aux_lemma =>
                     refine start_ (n := 17) (S := fun w' => w'.cell? (ad206.add (x141_4).toNat) = some (.int .i64 (rd t191 x141_4)) ∧ w'.cell? (ad207.add (x141_4).toNat) = some (.int .i64 (rd t196 x141_4))) (ds := []) #[false, false, false, false, false, false, false, false, false, false, false, false, false, false, false, false, false] (by kernel_rfl) rfl rfl ⟨hx206_0, hx207_0⟩ (fun hHeld => ?_); refine with_tabW bakekeep3_FrameText.tab19 bakekeep3_FrameText.bits19 (fun HT_ HW_ => ?_)
                     generalize wr.drew = w139 at HO_7 HO_18 HO_19 BK180 BK189 HR190_0 HR195_0 HB hx206_0 hx207_0 hHeld ⊢
                     refine pure_ (i := 0) (N := some 170) (v := ?_) (a' := ?_) #[true, false, false, false, false, false, false, false, false, false, false, false, false, false, false, false, false] rfl rfl (any_of HT_.out (by kernel_rfl)) (fun _ _ _ h => h) (Or.inl ⟨by rfl, ?_⟩) ?_ ?_
                     rotate_left
                     ·intro w'
                      go_simp
                      with_reducible rfl
                     rotate_left
                     ·simp only [Act.put, List.setIfInBounds_toArray, List.set_cons_zero, List.set_cons_succ, i64_w, i32_w]
                      rfl
                     refine pure_ (i := 1) (N := some 171) (v := ?_) (a' := ?_) #[true, true, false, false, false, false, false, false, false, false, false, false, false, false, false, false, false] rfl rfl (any_of HT_.out (by kernel_rfl)) (fun _ _ _ h => h) (Or.inl ⟨by rfl, ?_⟩) ?_ ?_
                     rotate_left
                     ·intro w'
                      go_simp
                      with_reducible rfl
                     rotate_left
                     ·simp only [Act.put, List.setIfInBounds_toArray, List.set_cons_zero, List.set_cons_succ, i64_w, i32_w]
                      rfl
                     refine pure_ (i := 2) (N := some 172) (v := ?_) (a' := ?_) #[true, true, true, false, false, false, false, false, false, false, false, false, false, false, false, false, false] rfl rfl (any_of HT_.out (by kernel_rfl)) (fun _ _ _ h => h) (Or.inl ⟨by rfl, ?_⟩) ?_ ?_
                     rotate_left
                     ·intro w'
                      go_simp
                      with_reducible rfl
                     rotate_left
                     ·simp only [Act.put, List.setIfInBounds_toArray, List.set_cons_zero, List.set_cons_succ, i64_w, i32_w]
                      rfl
                     refine pure_ (i := 4) (N := some 174) (v := ?_) (a' := ?_) #[true, true, true, false, true, false, false, false, false, false, false, false, false, false, false, false, false] rfl rfl (any_of HT_.out (by kernel_rfl)) (fun _ _ _ h => h) (Or.inl ⟨by rfl, ?_⟩) ?_ ?_
                     rotate_left
                     ·intro w'
                      go_simp
                      with_reducible rfl
                     rotate_left
                     ·simp only [Act.put, List.setIfInBounds_toArray, List.set_cons_zero, List.set_cons_succ, i64_w, i32_w]
                      rfl
                     refine pure_ (i := 5) (N := some 175) (v := ?_) (a' := ?_) #[true, true, true, false, true, true, false, false, false, false, false, false, false, false, false, false, false] rfl rfl (any_of HT_.out (by kernel_rfl)) (fun _ _ _ h => h) (Or.inl ⟨by rfl, ?_⟩) ?_ ?_
                     rotate_left
                     ·intro w'
                      go_simp
                      with_reducible rfl
                     rotate_left
                     ·simp only [Act.put, List.setIfInBounds_toArray, List.set_cons_zero, List.set_cons_succ, i64_w, i32_w]
                      rfl
                     refine pure_ (i := 6) (N := some 176) (v := ?_) (a' := ?_) #[true, true, true, false, true, true, true, false, false, false, false, false, false, false, false, false, false] rfl rfl (any_of HT_.out (by kernel_rfl)) (fun _ _ _ h => h) (Or.inl ⟨by rfl, ?_⟩) ?_ ?_
                     rotate_left
                     ·intro w'
                      go_simp
                      with_reducible rfl
                     rotate_left
                     ·simp only [Act.put, List.setIfInBounds_toArray, List.set_cons_zero, List.set_cons_succ, i64_w, i32_w]
                      rfl
                     refine take_ (i := 3) (N := some 173) (v := ?_) (a' := ?_) #[true, true, true, true, true, true, true, false, false, false, false, false, false, false, false, false, false] rfl rfl (take_ofW HT_.out HW_.out (by kernel_rfl)) (fun _ _ _ h => h) (Or.inl ⟨by rfl, ?_⟩) hHeld ?_ ?_
                     rotate_left
                     ·rintro w' ⟨s0, s1⟩
                      go_simp
                      with_reducible rfl
                     rotate_left
                     ·simp only [Act.put, List.setIfInBounds_toArray, List.set_cons_zero, List.set_cons_succ, i64_w, i32_w]
                      rfl
                     refine take_ (i := 7) (N := some 177) (v := ?_) (a' := ?_) #[true, true, true, true, true, true, true, true, false, false, false, false, false, false, false, false, false] rfl rfl (take_ofW HT_.out HW_.out (by kernel_rfl)) (fun _ _ _ h => h) (Or.inl ⟨by rfl, ?_⟩) hHeld ?_ ?_
                     rotate_left
                     ·rintro w' ⟨s0, s1⟩
                      go_simp
                      with_reducible rfl
                     rotate_left
                     ·simp only [Act.put, List.setIfInBounds_toArray, List.set_cons_zero, List.set_cons_succ, i64_w, i32_w]
                      rfl
                     refine pure_ (i := 8) (N := some 178) (v := ?_) (a' := ?_) #[true, true, true, true, true, true, true, true, true, false, false, false, false, false, false, false, false] rfl rfl (any_of HT_.out (by kernel_rfl)) (fun _ _ _ h => h) (Or.inl ⟨by rfl, ?_⟩) ?_ ?_
                     rotate_left
                     ·intro w'
                      go_simp
                      with_reducible rfl
                     rotate_left
                     ·simp only [Act.put, List.setIfInBounds_toArray, List.set_cons_zero, List.set_cons_succ, i64_w, i32_w]
                      rfl
                     refine pure_ (i := 9) (N := some 179) (v := ?_) (a' := ?_) #[true, true, true, true, true, true, true, true, true, true, false, false, false, false, false, false, false] rfl rfl (any_of HT_.out (by kernel_rfl)) (fun _ _ _ h => h) (Or.inl ⟨by rfl, ?_⟩) ?_ ?_
                     rotate_left
                     ·intro w'
                      go_simp
                      with_reducible rfl
                     rotate_left
                     ·simp only [Act.put, List.setIfInBounds_toArray, List.set_cons_zero, List.set_cons_succ, i64_w, i32_w]
                      rfl
                     refine pure_ (i := 10) (N := some 180) (v := undef) (a' := ?_) #[true, true, true, true, true, true, true, true, true, true, true, false, false, false, false, false, false] rfl rfl (any_of HT_.out (by kernel_rfl)) (fun _ _ _ h => h) (Or.inr ⟨by rfl, rfl⟩) ?_ ?_
                     rotate_left
                     ·simp only [Act.put, List.setIfInBounds_toArray, List.set_cons_zero, List.set_cons_succ, i64_w, i32_w]
                      rfl
                     refine pure_ (i := 11) (N := some 181) (v := undef) (a' := ?_) #[true, true, true, true, true, true, true, true, true, true, true, true, false, false, false, false, false] rfl rfl (any_of HT_.out (by kernel_rfl)) (fun _ _ _ h => h) (Or.inr ⟨by rfl, rfl⟩) ?_ ?_
                     rotate_left
                     ·simp only [Act.put, List.setIfInBounds_toArray, List.set_cons_zero, List.set_cons_succ, i64_w, i32_w]
                      rfl
                     refine pure_ (i := 12) (N := some 182) (v := undef) (a' := ?_) #[true, true, true, true, true, true, true, true, true, true, true, true, true, false, false, false, false] rfl rfl (any_of HT_.out (by kernel_rfl)) (fun _ _ _ h => h) (Or.inr ⟨by rfl, rfl⟩) ?_ ?_
                     rotate_left
                     ·simp only [Act.put, List.setIfInBounds_toArray, List.set_cons_zero, List.set_cons_succ, i64_w, i32_w]
                      rfl
                     refine pure_ (i := 13) (N := some 183) (v := undef) (a' := ?_) #[true, true, true, true, true, true, true, true, true, true, true, true, true, true, false, false, false] rfl rfl (any_of HT_.out (by kernel_rfl)) (fun _ _ _ h => h) (Or.inr ⟨by rfl, rfl⟩) ?_ ?_
                     rotate_left
                     ·simp only [Act.put, List.setIfInBounds_toArray, List.set_cons_zero, List.set_cons_succ, i64_w, i32_w]
                      rfl
                     refine pure_ (i := 14) (N := some 184) (v := undef) (a' := ?_) #[true, true, true, true, true, true, true, true, true, true, true, true, true, true, true, false, false] rfl rfl (any_of HT_.out (by kernel_rfl)) (fun _ _ _ h => h) (Or.inr ⟨by rfl, rfl⟩) ?_ ?_
                     rotate_left
                     ·simp only [Act.put, List.setIfInBounds_toArray, List.set_cons_zero, List.set_cons_succ, i64_w, i32_w]
                      rfl
                     refine pure_ (i := 15) (N := some 185) (v := undef) (a' := ?_) #[true, true, true, true, true, true, true, true, true, true, true, true, true, true, true, true, false] rfl rfl (any_of HT_.out (by kernel_rfl)) (fun _ _ _ h => h) (Or.inr ⟨by rfl, rfl⟩) ?_ ?_
                     rotate_left
                     ·simp only [Act.put, List.setIfInBounds_toArray, List.set_cons_zero, List.set_cons_succ, i64_w, i32_w]
                      rfl
                     refine pure_ (i := 16) (N := some 186) (v := ?_) (a' := ?_) #[true, true, true, true, true, true, true, true, true, true, true, true, true, true, true, true, true] rfl rfl (any_of HT_.out (by kernel_rfl)) (fun _ _ _ h => h) (Or.inl ⟨by rfl, ?_⟩) ?_ ?_
                     rotate_left
                     ·intro w'
                      go_simp
                      with_reducible rfl
                     rotate_left
                     ·simp only [Act.put, List.setIfInBounds_toArray, List.set_cons_zero, List.set_cons_succ, i64_w, i32_w]
                      rfl
                     refine done_ (done_of HT_.out (by kernel_rfl)) ?_
                     try go_wp2
                     go_roundg k4
                     case measure => have := HJ7.out; have := HJ33.out; have := HJ50.out; have := HK4.out; omega
                     case rel => exact ⟨(wrap64 (x141_4 + 1)), (by first | rfl | (simp; done) | (simp [*]; done)), H', ⟨by have := HJ7.out; have := HJ33.out; have := HJ50.out; have := HK4.out; omega⟩, ⟨by (with_reducible repeat (first | apply Kd.S_alloc | apply Kd.S_drewN | apply Kd.S_drew)); exact HO_7.out⟩, ⟨by (with_reducible repeat (first | apply Kd.R_alloc | apply Kd.R_drewN | apply Kd.R_drew)); exact HO_18.out⟩, ⟨by (with_reducible repeat (first | apply Kd.R_alloc | apply Kd.R_drewN | apply Kd.R_drew)); exact HO_19.out⟩, ⟨by (with_reducible repeat (first | refine blk_drewN ?_ _ | refine blk_drew ?_ | refine blk_alloc ?_ _)); exact BK180.out⟩, ⟨by (with_reducible repeat (first | refine blk_drewN ?_ _ | refine blk_drew ?_ | refine blk_alloc ?_ _)); exact BK189.out⟩, ⟨by repeat (first | (with_reducible exact HR190_0.out) | (with_reducible refine Kd.C_alloc ?_ _) | (with_reducible refine Kd.C_drewN ?_ _) | (with_reducible refine Kd.C_drew ?_) | exact HR190_0.out)⟩, ⟨by repeat (first | (with_reducible exact HR195_0.out) | (with_reducible refine Kd.C_alloc ?_ _) | (with_reducible refine Kd.C_drewN ?_ _) | (with_reducible refine Kd.C_drew ?_) | exact HR195_0.out)⟩, ⟨by repeat (first | (with_reducible first | exact HB.out | apply below_alloc | apply pw_below_drewN | apply below_drew1 | refine below_set ?_ GE180.out | refine below_set ?_ GE189.out) | exact HB.out)⟩⟩
                    ·rw [if_neg c136] at H
                     have c136b0 : ((rd t191 x141_4) == (rd t196 x141_4)) = false := beq_eq_false_iff_ne.mpr c136
                     have c136b1 : ((rd t191 x141_4) != (rd t196 x141_4)) = true := bne_iff_ne.mpr c136
                     by_cases c141 : t187 = true
                     ·subst c141
                      have H1 : (some false) = some true := by rw [if_pos rfl] at H; exact H
                      clear H
                      have H := H1
                      clear H1
                      cases (Option.some.inj H)
                     ·replace c141 := Bool.eq_false_iff.mpr c141
                      subst c141
                      have H1 : (some false) = some true := by rw [if_neg (show ¬ (false = true) by decide)] at H; exact H
                      clear H
                      have H := H1
                      clear H1
                      cases (Option.some.inj H)
                   ·rw [if_neg c135] at H
                    exact absurd H (by simp)
                  ·rw [if_neg c134] at H
                   exact absurd H (by simp)
                 ·rw [if_neg c133] at H
                  exact absurd H (by simp)
               ·rw [if_neg c73] at H
                have c73b0 : decide (x141_4 < (t191.length : Int)) = false := decide_eq_false c73
                clear c73
                by_cases c150 : 0 < (t153.length : Int)
                ·rw [if_pos c150] at H
                 have c150b0 : decide (0 < (t153.length : Int)) = true := decide_eq_true c150
                 have c150b1 : decide (0 < t153.length) = true := decide_eq_true (by omega)
                 clear c150
                 as_aux_lemma =>
                 clear H
                 have hfx : (rd_L3 t153 0).length = 2560 ∧ cols (rd_L3 t153 0) = true := by
                  have hh := A30.out
                  unfold frame_Text.f at hh
                  split at hh
                  ·assumption
                  ·cases hh
                 obtain ⟨kS, hS⟩ := seen_is' (rd_L3 t153 0) hfx.1 (cols_all hfx.2)
                 have HSN := Aside0.mk (hS kS (Nat.le_refl _))
                 have HVL := Aside0.mk (vis_len (rd_L3 t153 0))
                 have HVB := Aside0.mk (vis_cols (rd_L3 t153 0) hfx.2)
                 clear hS hfx
                 clear HO_18 HO_19 BK180 BK189 HR190_0 HR195_0
                 have p208 : 0 ≤ (0 : Int) := (by omega)
                 have q208 : 0 < (t153.length : Int) := of_decide_eq_true (by first | (with_reducible assumption) | assumption)
                 obtain ⟨ad208, A208_0, c208_0, e208, hx208_0, hl208_0, hi208_0⟩ := at_L3 (Kd.S_reads' HO_7.out).2.2 0 p208 q208
                 obtain rfl : ad165 = ad208 := (by injection e208)
                 have qi208 : (0 < t153.length) = True := eq_true (by omega)
                 (try rw [show ((0 : Int)).toNat = 0 from rfl] at hx208_0)
                 (try rw [Addr.add_zero'] at hx208_0)
                 have HR208_0 := Aside0.mk hi208_0
                 have HC208_0 := Aside0.mk hl208_0
                 clear hi208_0 hl208_0
                 replace p208 := eq_true p208
                 replace q208 := eq_true q208
                 go_upto_region 23 with (first | ((with_reducible refine gate_callee (f := 59) rfl ?_); refine goesL_ (some 192) rfl rfl Try.func59 (by kernel_rfl) rfl #[.slice A208_0 (rd_L3 t153 0).length c208_0] rfl (by (try simp only [List.map_toArray, List.map_cons, List.map_nil]); first | done | rfl | (simp only [List.length_drop, List.length_take]; rfl)) ?_; (with_reducible refine (frame_Colors.calls kS _ _ (rd_L3 t153 0) (vis (rd_L3 t153 0)) _ ?side1 ?side2 HSN.out HVL.out HVB.out).mono ?_); (case side1 => exact HR208_0.out); (case side2 => exact HC208_0.out); rintro e w93 ⟨cs, rfl, hH, hb⟩; refine ⟨_, rfl, ?_⟩; have HH := Aside0.mk hH; have HBW := Aside0.mk (below_step HB.out hb); clear hH hb; have BKG := Aside0.mk (blk_new w93 (.cells (cellsC (List.replicate 16 0)) 100)); have HT3 := Aside0.mk (there_cells' HH.out BKG.out); have HI2 := Aside0.mk (info_cells HH.out)) | ((with_reducible refine gate_store (t := 100) (p := 22) rfl ?_); refine wpList_store_mid rfl 100 (.tmp 22) (.tmp 193) rfl w93.heap.size 0 (cells := cellsC cs) rfl rfl HT3.out HI2.out (cellsC_one cs) ?_))
                 have GEG := Aside0.mk (below_size HBW.out)
                 have HRG := Aside0.mk (show ((w93.alloc (.cells (cellsC (List.replicate 16 0)) 100)).setCells w93.heap.size 0 (cellsC cs).toList).rangeAt w93.heap.size 0 (cs.map (Value.int .i64)) by
                  have hq := World.rangeAt_setCells_same (w93.alloc (.cells (cellsC (List.replicate 16 0)) 100)) w93.heap.size 0 (cellsC cs).toList (by have := HT3.out; rwa [show (cellsC cs).toList.length = (cellsC cs).size by simp])
                  rwa [show (cellsC cs).toList = cs.map (Value.int .i64) from by simp [cellsC]] at hq ⊢)
                 have HBG := Aside0.mk (below_setCells GEG.out (cellsC cs).toList 0 _ (below_alloc HBW.out (.cells (cellsC (List.replicate 16 0)) 100)))
                 change Code.wp _ _ _ _ ((w93.alloc (.cells (cellsC (List.replicate 16 0)) 100)).setCells w93.heap.size 0 (cellsC cs).toList)
                 generalize ((w93.alloc (.cells (cellsC (List.replicate 16 0)) 100)).setCells w93.heap.size 0 (cellsC cs).toList) = w97 at HRG HBG ⊢
                 have HIL := Aside0.mk (show (Try.prog.info? 100).map (·.size) = some (cs.map (Value.int .i64)).length by rw [List.length_map, HH.out.1]; kernel_rfl)
                 go_wp2_with ((with_reducible refine gate_dst (N := 195) rfl ?_); refine wpList_load_mid rfl 100 (.tmp 22) rfl w93.heap.size 0 rfl (cs.map (Value.int .i64)) (.array 16 3) HRG.out Try.underlying100 rfl HIL.out ?_; rw [show (Value.agg (cs.map (Value.int .i64)).toArray) = .agg (cellsC cs) from rfl])
                 go_loopg [23, 196] 16 (fun kq v23 v196 w' => ∃ x : Int, v23 = .int .i64 ((cs.take x.toNat).sum) ∧ v196 = .int .i64 x ∧ Aside0 ((kq : Int) + x = 16 ∧ 0 ≤ x) ∧ Aside0 (Below w.heap.size w w'))
                 case atStart => exact ⟨0, rfl, rfl, ⟨by omega⟩, HBG⟩
                 case round =>
                  as_aux_lemma =>
                  obtain ⟨x, rfl, rfl, HKX, HBX⟩ := hrel
                  by_cases cx : x < 16
                  ·have cx0 : decide (x < 16) = true := decide_eq_true cx
                   have hidx := index_cells HH.out x HKX.out.2 cx wr
                   have hg := HH.out.get (i := x.toNat) (by omega)
                   have hk1 := (HH.out.take (x.toNat + 1))
                   have hk2 := sum_take_succ cs x.toNat (by rw [HH.out.1]; omega)
                   obtain ⟨n, en⟩ : ∃ n, n = cs.getD x.toNat 0 := ⟨_, rfl⟩
                   obtain ⟨s, es⟩ : ∃ s, s = (cs.take x.toNat).sum := ⟨_, rfl⟩
                   rw [← en] at hidx hg hk2
                   rw [← es] at hk2 ⊢
                   have hw1 : wrap64 (s + n) = (cs.take (x.toNat + 1)).sum := by rw [hk2]; exact w64 (by have := (HH.out.take x.toNat).1; omega) (by omega)
                   have hw2 : wrap64 (x + 1) = x + 1 := w64 (by have := HKX.out.2; omega) (by omega)
                   have HW1 := Aside0.mk hw1
                   have HW2 := Aside0.mk hw2
                   have EN := Aside0.mk en
                   have ES := Aside0.mk es
                   have HCX := Aside0.mk cx
                   clear hg hk1 hk2 hw1 hw2 en es cx
                   go_wp2
                   cases gk with
                   | zero => exact absurd HKX.out.1 (by have := HCX.out; omega)
                   | succ k1 =>
                    go_roundg k1
                    case measure => omega
                    case rel => exact ⟨x + 1, by rw [HW1.out, show (x + 1).toNat = x.toNat + 1 by have := HKX.out; omega], by rw [HW2.out], ⟨by have := HKX.out; omega⟩, HBX⟩
                  ·have cx0 : decide (x < 16) = false := decide_eq_false cx
                   have ex : x = 16 := by have := HKX.out; omega
                   have hsum : (cs.take x.toNat).sum = 1536 := by
                    rw [ex, show (16 : Int).toNat = 16 from rfl, show cs.take 16 = cs from List.take_of_length_le (by rw [HH.out.1]; exact Nat.le_refl _)]; exact HH.out.2.2
                   rw [hsum]
                   have EX := Aside0.mk ex
                   clear ex cx hsum
                   go_wp2
                   go_ret
                   exact ⟨by first | rfl | (simp; done) | (simp [*]; done), HBX.out⟩
                ·rw [if_neg c150] at H
                 exact absurd H (by simp)
         ·rw [if_neg c47] at H
          exact absurd H (by simp)
        ·rw [if_neg c46] at H
         exact absurd H (by simp)
    ·rw [if_neg c29] at H
     exact absurd H (by simp)

/-- THE ONE PURE STATEMENT of bakekeep3_FrameText: yours. -/
def bakekeep3_FrameText.Pure : Prop := ∀ (l0 : List Int) (l1 : List Int) (a2 : Int), l0.length ≤ maxLen → l0.length * 8 ≤ 140737488351232 → (∀ x ∈ l0, (Lit.int .i64 x).wf = true) → l1.length ≤ maxLen → l1.length * 8 ≤ 140737488351232 → (∀ x ∈ l1, (Lit.int .i64 x).wf = true) → (Lit.int .i64 a2).wf = true → ∃ k, bakekeep3_FrameText.f k l0 l1 a2 = some true
theorem bakekeep3_FrameText.walk (P : bakekeep3_FrameText.Pure) (a0 : Option Addr) (len0 cap0 : Nat) (z0 : List Int) (a1 : Option Addr) (len1 cap1 : Nat) (z1 : List Int) (a2 : Int) (w : World) (w0 : (a0 = none ∧ len0 = 0 ∧ cap0 = 0 ∧ z0 = []) ∨ ∃ x, a0 = some x ∧ len0 ≤ cap0 ∧ cap0 ≤ maxLen ∧ z0.length = cap0 ∧ (∀ i, i < z0.length → w.cell? (x.add i) = some (.int .i64 (z0.getD i 0))) ∧ ∀ n ∈ z0, (Lit.int .i64 n).wf = true) (y0 : len0 * 8 ≤ 140737488351232) (w1 : (a1 = none ∧ len1 = 0 ∧ cap1 = 0 ∧ z1 = []) ∨ ∃ x, a1 = some x ∧ len1 ≤ cap1 ∧ cap1 ≤ maxLen ∧ z1.length = cap1 ∧ (∀ i, i < z1.length → w.cell? (x.add i) = some (.int .i64 (z1.getD i 0))) ∧ ∀ n ∈ z1, (Lit.int .i64 n).wf = true) (y1 : len1 * 8 ≤ 140737488351232) (w2 : (Lit.int .i64 a2).wf = true) :
  Calls Try.prog 13 #[.slice a0 len0 cap0, .slice a1 len1 cap1, .int .i64 a2] w fun e w' => e = .returned (.bool true) ∧ Below w.heap.size w w' := by
 obtain ⟨l0, rfl, hr0, hm0, hw0, hc0⟩ := ReadsInt.ofRowC w0
 obtain ⟨l1, rfl, hr1, hm1, hw1, hc1⟩ := ReadsInt.ofRowC w1
 obtain ⟨k, h⟩ := P l0 l1 a2 hm0 y0 hw0 hm1 y1 hw1 w2
 refine (bakekeep3_FrameText.calls k _ _ l0 _ _ l1 a2 w (Kd.C_of_reads (d := (0 : Int)) (h1 := fun _ => rfl) hr0) hc0 (Kd.C_of_reads (d := (0 : Int)) (h1 := fun _ => rfl) hr1) hc1 h).mono ?_
 rintro e w' ⟨rfl, hd⟩
 exact ⟨rfl, hd⟩

end Go.Proofs.Ytijfinimlnedpaa.PFT
