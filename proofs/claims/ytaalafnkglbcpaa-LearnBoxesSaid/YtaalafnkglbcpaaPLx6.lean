/- learn.Min: what it gives, as the law's text calls it. -/
import Derived.Test.YtaalafnkglbcpaaMin
namespace Go.Proofs.Ytaalafnkglbcpaa.PL
open Go.RowKit Go.Proofs.YtaalafnkglbcpaaW.PrintWords Go.Proofs.YtaalafnkglbcpaaW.PrintLast Go.Proofs.YtaalafnkglbcpaaW.PrintMore
set_option linter.unusedVariables false

/-- A table that Check passes. -/
def TabOK (a0 a1 : Int) (l : List (List S77)) : Prop := (∃ k, learn_Check.f k a0 a1 l = some 0) ∧ TabR l
open Classical in
noncomputable def learn_Min.f (a0_0 : Int) (a0_1 : Int) (l0_2 : List (List (S77))) : Option (Int × Int × (List (List (S77))) × Int) := if TabOK a0_0 a0_1 l0_2 then some (a0_0, a0_1, minRows l0_2, 0) else none
theorem learn_Min.ok {a0 a1 : Int} {l : List (List S77)} (h : TabOK a0 a1 l) : learn_Min.f a0 a1 l = some (a0, a1, minRows l, 0) := by unfold learn_Min.f; rw [if_pos h]
theorem learn_Min.calls (a0_0 : Int) (a0_1 : Int) (A0_2 : Option Addr) (c0_2 : Nat) (l0_2 : List (List (S77))) (r1 : Int) (r2 : Int) (r3 : List (List (S77))) (r4 : Int) (w : World) (hr0_2 : Kd.C (Kd.slice 77 k77) w A0_2 l0_2.length l0_2) (hc0_2 : l0_2.length ≤ c0_2) (h : learn_Min.f a0_0 a0_1 l0_2 = some (r1, r2, r3, r4)) :
    Calls Try.prog 13 #[.agg #[.int .i64 a0_0, .int .i64 a0_1, .slice A0_2 l0_2.length c0_2]] w fun e w' => ∃ v2_ : Value, e = .returned (.tuple #[.agg #[.int .i64 r1, .int .i64 r2, v2_], .int .i64 r4]) ∧ Kd.S (Kd.slice 77 k77) 75 w' w.heap.size (fun _ => True) v2_ r3 ∧ Below w.heap.size w w' := by
  unfold learn_Min.f at h
  split at h
  case isFalse => cases h
  case isTrue hh =>
  simp only [Option.some.injEq, Prod.mk.injEq] at h
  obtain ⟨rfl, rfl, rfl, rfl⟩ := h
  obtain ⟨⟨k, hk⟩, ht⟩ := hh
  exact min_calls k A0_2 c0_2 l0_2 _ _ w hr0_2 hc0_2 hk ht
end Go.Proofs.Ytaalafnkglbcpaa.PL
