-- An own text of this claim, written by wip/tools/surro.py and wip/gates/mklearn.py over the kit's print.
import Derived.Test.YtaalafnkglbcpaaPLx0
import Derived.Test.YtaalafnkglbcpaaPLx1
import Derived.Test.YtaalafnkglbcpaaTable
import Derived.Test.YtaalafnkglbcpaaPLx6
import Derived.Test.YtaalafnkglbcpaaPLx7
import Derived.Test.YtaalafnkglbcpaaPLx8
import Derived.Test.YtaalafnkglbcpaaPLx10
import Derived.Test.YtaalafnkglbcpaaPLx11
namespace Go.Proofs.Ytaalafnkglbcpaa.PL
open Go.RowKit Go.Proofs.YtaalafnkglbcpaaW.PrintWords Go.Proofs.YtaalafnkglbcpaaW.PrintLast Go.Proofs.YtaalafnkglbcpaaW.PrintMore
attribute [local go_sem] max2_int min2_int max_two min_two max_three min_three max_four min_four   -- for this text's walks alone
set_option linter.unusedVariables false
set_option linter.unusedSimpArgs false

/-! ### bakekeep3_LearnMin: function 3 -/
noncomputable def bakekeep3_LearnMin.l0 : Nat → List Int → List Int → Int → Int → Int → Int → List (List (S77)) → Option (Bool)
  | 0, _, _, _, _, _, _, _ => none
  | k + 1, x6, x23, x24, x25, x148000, x148001, x148002 => if x25 < x24 then (if 0 ≤ x25 then (if x25 < (x23.length : Int) then (if 0 ≤ x148000 then ((bakemake_Below.f (rd x23 x25) (shl .i64 1 x148000)).bind fun t150 => (if x6.length < 17592186044416 then (bakekeep3_LearnMin.l0 k (x6 ++ [t150]) x23 x24 (wrap64 (x25 + 1)) x148000 x148001 x148002) else (none))) else (none)) else (none)) else (none)) else ((learn_Min.f x148000 x148001 x148002).bind fun bt154 => ((learn_Min.f bt154.1 bt154.2.1 bt154.2.2.1).bind fun bt161 => ((learn_Run.f k x148000 x148001 x148002 x6).bind fun bt168 => ((learn_Run.f k bt154.1 bt154.2.1 bt154.2.2.1 x6).bind fun bt172 => ((bakekeep3_learned.f).bind fun t176 => (if t176 = true then (if bt154.2.2.2 = 0 then (if bt161.2.2.2 = 0 then (if bt168.2 = 0 then (if bt172.2 = 0 then ((learn_Same.f bt154.1 bt154.2.1 bt154.2.2.1 bt161.1 bt161.2.1 bt161.2.2.1).bind fun t177 => (if t177 = true then ((slices_Equal_int_int.f k bt168.1 bt172.1).bind fun t178 => (if t178 = true then (some ((bt168.1.length : Int) == (x6.length : Int))) else (some false))) else (some false))) else (some false)) else (some false)) else (some false)) else (some false)) else (some false)))))))
abbrev TabT := Int × Int × List (List S77)
noncomputable def bakekeep3_LearnMin.f (k : Nat) (bt142 : TabT) (l1 : List Int) : Option (Bool) := (if 0 ≤ (mn (l1.length : Int) 60) then (if (mn (l1.length : Int) 60) ≤ (l1.length : Int) then (bakekeep3_LearnMin.l0 k ([] : List Int) (l1.take ((mn (l1.length : Int) 60) : Int).toNat) ((l1.take ((mn (l1.length : Int) 60) : Int).toNat).length : Int) 0 bt142.1 bt142.2.1 bt142.2.2) else (none)) else (none))
theorem bakekeep3_LearnMin.mono_l : ∀ k, (∀ y0 y1 y2 y3 y4 y5 y6, LeO (bakekeep3_LearnMin.l0 k y0 y1 y2 y3 y4 y5 y6) (bakekeep3_LearnMin.l0 (k + 1) y0 y1 y2 y3 y4 y5 y6))
  | 0 => fun _ _ _ _ _ _ _ r h => by simp [bakekeep3_LearnMin.l0] at h
  | k + 1 => by
    have ih0 := bakekeep3_LearnMin.mono_l k
    · intro y0 y1 y2 y3 y4 y5 y6
      unfold bakekeep3_LearnMin.l0
      repeat' first
      | (with_reducible exact ih0 _ _ _ _ _ _ _)
      | (with_reducible exact learn_Run.mono _ _ _ _ _)
      | (with_reducible exact slices_Equal_int_int.mono _ _ _)
      | (with_reducible exact LeO.refl _)
      | (with_reducible exact LeO.none _)
      | (with_reducible refine LeO.ite ?_ ?_)
      | (with_reducible refine LeO.bind ?_ (fun _ => ?_))
      | exact ih0 _ _ _ _ _ _ _
      | exact learn_Run.mono _ _ _ _ _
      | exact slices_Equal_int_int.mono _ _ _
      | exact LeO.none _
      | refine LeO.ite ?_ ?_
      | refine LeO.bind ?_ (fun _ => ?_)
theorem bakekeep3_LearnMin.mono : ∀ a0 a1 k, LeO (bakekeep3_LearnMin.f k a0 a1) (bakekeep3_LearnMin.f (k + 1) a0 a1) := by
  intro a0 a1 k
  have ih0 := bakekeep3_LearnMin.mono_l k
  unfold bakekeep3_LearnMin.f
  repeat' first
      | (with_reducible exact ih0 _ _ _ _ _ _ _)
      | (with_reducible exact learn_Run.mono _ _ _ _ _)
      | (with_reducible exact slices_Equal_int_int.mono _ _ _)
      | (with_reducible exact LeO.refl _)
      | (with_reducible exact LeO.none _)
      | (with_reducible refine LeO.ite ?_ ?_)
      | (with_reducible refine LeO.bind ?_ (fun _ => ?_))
      | exact ih0 _ _ _ _ _ _ _
      | exact learn_Run.mono _ _ _ _ _
      | exact slices_Equal_int_int.mono _ _ _
      | exact LeO.none _
      | refine LeO.ite ?_ ?_
      | refine LeO.bind ?_ (fun _ => ?_)
end Go.Proofs.Ytaalafnkglbcpaa.PL
