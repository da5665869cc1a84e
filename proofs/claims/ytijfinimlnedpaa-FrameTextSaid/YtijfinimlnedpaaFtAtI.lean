/- An element of a row of numbers. -/
import Derived.Test.YtijfinimlnedpaaPFTx0
namespace Go.Proofs.Ytijfinimlnedpaa.PFT
open Go.RowKit Go.Proofs.YtijfinimlnedpaaW.PrintWords Go.Proofs.YtijfinimlnedpaaW.PrintLast Go.Proofs.YtijfinimlnedpaaW.PrintMore
theorem at_I {w : World} {A : Option Addr} {n : Nat} {xs : List Int} (h : Kd.C (Kd.int .i64) w A n xs) (i : Int) (h0 : 0 ≤ i) (h1 : i < n) : ∃ ad, A = some ad ∧ w.cell? (ad.add i.toNat) = some (.int .i64 (rd xs i)) := by
  obtain ⟨ad, c, e, _, hK, hc⟩ := Kd.C_get h (0 : Int) i h0 h1
  have hK' : c = [.int .i64 (xs.getD i.toNat 0)] := hK
  subst hK'
  have h2 := hc 0 _ rfl
  have h3 : w.cell? (ad.add (i.toNat * 1 + 0)) = some (.int .i64 (xs.getD i.toNat 0)) := h2
  rw [Nat.mul_one, Nat.add_zero] at h3
  exact ⟨ad, e, h3⟩

end Go.Proofs.Ytijfinimlnedpaa.PFT
