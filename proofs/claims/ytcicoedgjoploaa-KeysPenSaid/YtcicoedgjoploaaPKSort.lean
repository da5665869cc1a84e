/- The stable sort of few inputs (by insertion), walked by hand: the list that is made is in order. -/
import Derived.Test.YtcicoedgjoploaaPKConcat
namespace Go.Proofs.Ytcicoedgjoploaa.PK
open Go.RowKit Go.Proofs.YtcicoedgjoploaaW.PrintWords Go.Proofs.YtcicoedgjoploaaW.PrintLast Go.Proofs.YtcicoedgjoploaaW.PrintMore
set_option linter.unusedVariables false

def cmpI (x y : Int) : Int := if x < y then -1 else if x > y then 1 else 0

set_option maxRecDepth 100000 in
set_option maxHeartbeats 1000000 in
theorem compare_calls (x y : Int) (w : World) : Calls Try.prog 71 #[.int .i64 x, .int .i64 y] w fun e w' => e = .returned (.int .i64 (cmpI x y)) ∧ Below w.heap.size w w' := by
  unfold cmpI
  by_cases h1 : x < y
  · have e1 : decide (x < y) = true := decide_eq_true h1
    rw [if_pos h1]
    go_enter Try.func71, Try.ntmps71
    go_wp2
    go_ret
    exact ⟨rfl, Below.refl _ _⟩
  · have e1 : decide (x < y) = false := decide_eq_false h1
    rw [if_neg h1]
    by_cases h2 : x > y
    · have e2 : decide (y < x) = true := decide_eq_true h2
      rw [if_pos h2]
      go_enter Try.func71, Try.ntmps71
      go_wp2
      go_ret
      exact ⟨rfl, Below.refl _ _⟩
    · have e2 : decide (y < x) = false := decide_eq_false h2
      rw [if_neg h2]
      go_enter Try.func71, Try.ntmps71
      go_wp2
      go_ret
      exact ⟨rfl, Below.refl _ _⟩

set_option maxRecDepth 100000 in
set_option maxHeartbeats 1000000 in
theorem cmp_calls (x y : S62) (w : World) : Calls Try.prog 70 #[.agg #[.int .i64 x.f0, .string x.f1, .int .i64 x.f2], .agg #[.int .i64 y.f0, .string y.f1, .int .i64 y.f2]] w fun e w' => e = .returned (.int .i64 (cmpI x.f0 y.f0)) ∧ Below w.heap.size w w' := by
  go_enter Try.func70, Try.ntmps70
  go_wp2_with fail
  (with_reducible refine (compare_calls x.f0 y.f0 _).mono ?_)
  rintro e w1 ⟨rfl, hb⟩
  have HB : Aside0 (Below w.heap.size w w1) := ⟨(below_alloc (below_alloc (Below.refl _ _) _) _).trans (hb.mono (by simp; omega))⟩
  clear hb
  go_wp2
  go_ret
  exact ⟨rfl, HB.out⟩

set_option maxRecDepth 100000 in
set_option maxHeartbeats 1000000 in
theorem sub_calls (x y : S62) (w : World) (hx : 0 ≤ x.f0 ∧ x.f0 ≤ 1000000000) (hy : 0 ≤ y.f0 ∧ y.f0 ≤ 1000000000) : Calls Try.prog 31 #[.agg #[.int .i64 x.f0, .string x.f1, .int .i64 x.f2], .agg #[.int .i64 y.f0, .string y.f1, .int .i64 y.f2]] w fun e w' => e = .returned (.int .i64 (x.f0 - y.f0)) ∧ Below w.heap.size w w' := by
  have e3 : IntKind.i64.wrap (x.f0 - y.f0) = x.f0 - y.f0 := IntWalk.i64_in _ (by omega)
  go_enter Try.func31, Try.ntmps31
  go_wp2
  go_ret
  exact ⟨rfl, below_alloc (below_alloc (Below.refl _ _) _) _⟩
end Go.Proofs.Ytcicoedgjoploaa.PK
