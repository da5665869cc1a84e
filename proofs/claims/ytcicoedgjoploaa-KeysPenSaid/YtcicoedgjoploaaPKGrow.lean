/- slices.Grow at nil, walked by hand: an empty slice of the call's own. -/
import Derived.Test.YtcicoedgjoploaaPKx0
namespace Go.Proofs.Ytcicoedgjoploaa.PK
open Go.RowKit Go.Proofs.YtcicoedgjoploaaW.PrintWords Go.Proofs.YtcicoedgjoploaaW.PrintLast Go.Proofs.YtcicoedgjoploaaW.PrintMore
set_option linter.unusedVariables false

set_option maxRecDepth 100000 in
set_option maxHeartbeats 1000000 in
theorem grow_nil (n : Int) (w : World) (h0 : 0 ≤ n) (h1 : n ≤ 1000000) :
    Calls Try.prog 93 #[.slice none 0 0, .int .i64 n] w fun e w' => ∃ v0_ : Value, e = .returned v0_ ∧ Kd.R k62 62 w' w.heap.size (fun _ => True) v0_ [] ∧ Below w.heap.size w w' := by
  by_cases hz : n = 0
  · subst hz
    go_enter Try.func93, Try.ntmps93
    go_wp2
    go_ret
    exact ⟨_, rfl, Kd.R_nil _ _ _ _ _, Below.refl _ _⟩
  · have hpos : 0 < n := by omega
    clear hz
    go_enter Try.func93, Try.ntmps93
    go_wp2_with ((with_reducible refine gate_builtin (b := .append) (xs := #[.tmp 20, .tmp 21]) rfl ?_); at_builtin; refine Kd.R_append_zeros k62 (w0 := w) w.heap.size rfl (.tmp 20) (.tmp 21) 53 3 62 (.agg #[.int .i64 0, .string ⟨#[]⟩, .int .i64 0]) 32 rfl Try.underlying53 Try.underlying3 info62 rfl (by decide) (by omega) (.slice none 0 0) [] z62 n (fun _ => True) rfl rfl ?aZ (fun _ _ => trivial) (Kd.R_nil _ _ _ _ _) h0 (Below.refl _ _) (Nat.le_refl _) ?aL ?_; (case aZ => first | exact rfl | exact k62_mkM _ _ _ z62); (case aL => simp; omega); intro v1 w1 ho hb hg hat; obtain ⟨A1, c1, he, hl1, hC1⟩ := Kd.R_reads ho; subst he; have HO := Aside0.mk ho; have HB := Aside0.mk hb; clear ho hb hg hat hC1 hl1)
    go_ret
    exact ⟨_, rfl, by simpa using Kd.R_take HO.out (Nat.zero_le _), HB.out⟩
end Go.Proofs.Ytcicoedgjoploaa.PK
