/- slices.stableCmpFunc and SortStableFunc of fewer than 20 inputs: the insertion sort alone. -/
import Derived.Test.YtcicoedgjoploaaPKIns
namespace Go.Proofs.Ytcicoedgjoploaa.PK
open Go.RowKit Go.Proofs.YtcicoedgjoploaaW.PrintWords Go.Proofs.YtcicoedgjoploaaW.PrintLast Go.Proofs.YtcicoedgjoploaaW.PrintMore
set_option linter.unusedVariables false

set_option maxRecDepth 100000 in
set_option maxHeartbeats 4000000 in
theorem stable_calls (g cap : Nat) (l : List S62) (w0 w : World) (hr : Kd.R k62 62 w w0.heap.size (fun _ => True) (.slice (some ⟨g, 0, none⟩) l.length cap) l) (hB : Below w0.heap.size w0 w) (h1 : 1 ≤ l.length) (h2 : l.length < 20) :
    Calls Try.prog 94 #[.slice (some ⟨g, 0, none⟩) l.length cap, .int .i64 l.length, .func (.func 70) #[] #[]] w fun e w' => e = .returned (.tuple #[]) ∧ Kd.R k62 62 w' w0.heap.size (fun _ => True) (.slice (some ⟨g, 0, none⟩) l.length cap) (isort l) ∧ Below w0.heap.size w0 w' := by
  have C1 := Aside0.mk (ins_calls g cap l w0 w hr hB h1 (by omega))
  have b1 : ¬ (20 : Int) ≤ (l.length : Int) := by omega
  have b2 : ¬ (20 : Int) < (l.length : Int) := by omega
  have b3 : decide ((20 : Int) ≤ (l.length : Int)) = false := decide_eq_false b1
  have b4 : decide ((20 : Int) < (l.length : Int)) = false := decide_eq_false b2
  have b5 : ¬ 20 ≤ l.length := by omega
  have b6 : ¬ 20 < l.length := by omega
  clear hr hB
  go_enter Try.func94, Try.ntmps94
  go_wp2
  refine wp_loop_rounds 1 ?_
  rw [rounds_succ]
  go_wp2_with fail
  (with_reducible refine C1.out.mono ?_)
  rintro e w1 ⟨rfl, hr, hb⟩
  have HR := Aside0.mk hr
  have HB := Aside0.mk hb
  clear hr hb
  go_wp2
  refine wp_loop_rounds 1 ?_
  rw [rounds_succ]
  go_wp2
  exact bodyPost_end (results_none rfl _ _ _) rfl ⟨rfl, HR.out, HB.out⟩

set_option maxRecDepth 100000 in
set_option maxHeartbeats 4000000 in
theorem sortStable_calls (g cap : Nat) (l : List S62) (w0 w : World) (hr : Kd.R k62 62 w w0.heap.size (fun _ => True) (.slice (some ⟨g, 0, none⟩) l.length cap) l) (hB : Below w0.heap.size w0 w) (h1 : 1 ≤ l.length) (h2 : l.length < 20) :
    Calls Try.prog 69 #[.slice (some ⟨g, 0, none⟩) l.length cap, .func (.func 70) #[] #[]] w fun e w' => e = .returned (.tuple #[]) ∧ Kd.R k62 62 w' w0.heap.size (fun _ => True) (.slice (some ⟨g, 0, none⟩) l.length cap) (isort l) ∧ Below w0.heap.size w0 w' := by
  have C1 := Aside0.mk (stable_calls g cap l w0 w hr hB h1 h2)
  clear hr hB
  go_enter Try.func69, Try.ntmps69
  go_wp2_with fail
  (with_reducible refine C1.out.mono ?_)
  rintro e w1 ⟨rfl, hr, hb⟩
  have HR := Aside0.mk hr
  have HB := Aside0.mk hb
  clear hr hb
  go_wp2
  exact bodyPost_end (results_none rfl _ _ _) rfl ⟨rfl, HR.out, HB.out⟩
end Go.Proofs.Ytcicoedgjoploaa.PK
