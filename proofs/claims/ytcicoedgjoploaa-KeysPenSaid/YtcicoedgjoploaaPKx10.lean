-- An own text of this claim, written by wip/tools/surro.py over the kit's print.
import Derived.Test.YtcicoedgjoploaaPKx0
namespace Go.Proofs.Ytcicoedgjoploaa.PK
open Go.RowKit Go.Proofs.YtcicoedgjoploaaW.PrintWords Go.Proofs.YtcicoedgjoploaaW.PrintLast Go.Proofs.YtcicoedgjoploaaW.PrintMore
attribute [local go_sem] max2_int min2_int max_two min_two max_three min_three max_four min_four   -- for this text's walks alone
set_option linter.unusedVariables false
set_option linter.unusedSimpArgs false

/-! ### watch_Place: function 28 -/
def watch_Place.f (a0 : Int) : Option (Int × Int) := some (wrap64 (Int.tdiv (Int.tmod (wrap64 ((Int.tmod a0 2560) + 2560)) 2560) 64), Int.tmod (Int.tmod (wrap64 ((Int.tmod a0 2560) + 2560)) 2560) 64)
set_option maxHeartbeats 8000000 in
set_option maxRecDepth 100000 in
theorem watch_Place.calls (a0 : Int) (r1 : Int) (r2 : Int) (w : World) (h : watch_Place.f a0 = some (r1, r2)) :
    Calls Try.prog 28 #[.int .i64 a0] w fun e w' => e = .returned (.tuple #[.int .i64 r1, .int .i64 r2]) ∧ Drawn0 w w' := by
  have H : (some (wrap64 (Int.tdiv (Int.tmod (wrap64 ((Int.tmod a0 2560) + 2560)) 2560) 64), Int.tmod (Int.tmod (wrap64 ((Int.tmod a0 2560) + 2560)) 2560) 64)) = some (r1, r2) := h
  clear h
  simp only [Option.some.injEq, Prod.mk.injEq] at H
  obtain ⟨rfl, rfl⟩ := H
  go_enter Try.func28, Try.ntmps28
  go_wp2
  go_ret2
  exact ⟨by first | rfl | (simp; done) | (simp [*]; done), by repeat (first | exact Drawn0.refl _ | apply Drawn0.step)⟩

end Go.Proofs.Ytcicoedgjoploaa.PK
