/- The closure of paper.line, walked by hand: a coordinate of the k-th dot of a line, rounded to the nearest, halves up. -/
import Derived.Test.YtijfinimlnedpaaPPapx0
namespace Go.Proofs.Ytijfinimlnedpaa.PPap
open Go.RowKit Go.Proofs.YtijfinimlnedpaaW.PrintWords Go.Proofs.YtijfinimlnedpaaW.PrintLast Go.Proofs.YtijfinimlnedpaaW.PrintMore
set_option linter.unusedVariables false

/-- A coordinate of the k-th dot. -/
def rnd (f t k n : Int) : Int := f + (2 * (t - f) * k + n) / (2 * n)

theorem tdiv_floor (p m : Int) (hm : 0 < m) (hp : p < 0) : (p.tmod m = 0 → p.tdiv m = p / m) ∧ (p.tmod m ≠ 0 → p.tdiv m - 1 = p / m) := by
  have h1 := Int.mul_tdiv_add_tmod p m
  have h2 := Int.mul_ediv_add_emod p m
  have h3 := Int.emod_nonneg p (show m ≠ 0 by omega)
  have h4 := Int.emod_lt_of_pos p hm
  have h5 : p.tmod m ≤ 0 := by
    have := Int.tmod_nonneg m (show 0 ≤ -p by omega)
    rw [Int.neg_tmod] at this; omega
  have h6 : -m < p.tmod m := by
    have := Int.tmod_lt_of_pos (-p) hm
    rw [Int.neg_tmod] at this; omega
  constructor
  · intro h
    rw [h] at h1
    have h7 : p % m = 0 := by
      have : p = m * p.tdiv m := by omega
      rw [this]; exact Int.mul_emod_right _ _
    rw [h7] at h2
    have h8 : m * p.tdiv m = m * (p / m) := by omega
    exact Int.eq_of_mul_eq_mul_left (by omega) h8
  · intro h
    have h8 : m * (p.tdiv m - 1) = m * p.tdiv m - m := by rw [Int.mul_sub, Int.mul_one]
    have e : m * (p.tdiv m - 1) + (p.tmod m + m) = p := by omega
    have := Int.ediv_emod_unique (a := p) (b := m) (r := p.tmod m + m) (q := p.tdiv m - 1) hm
    exact ((this.2 ⟨by omega, by omega, by omega⟩).1).symm

theorem prod_bd {a b A B : Int} (h1 : -A ≤ a) (h2 : a ≤ A) (h3 : 0 ≤ b) (h4 : b ≤ B) (hA : 0 ≤ A) : -(A * B) ≤ a * b ∧ a * b ≤ A * B := by
  have e1 : a * b ≤ A * b := Int.mul_le_mul_of_nonneg_right h2 h3
  have e2 : A * b ≤ A * B := Int.mul_le_mul_of_nonneg_left h4 hA
  have e3 : -A * b ≤ a * b := Int.mul_le_mul_of_nonneg_right h1 h3
  have e4 : -A * b = -(A * b) := Int.neg_mul _ _
  constructor <;> omega

set_option maxHeartbeats 1000000 in
theorem round_calls (f t k n : Int) (K N : Addr) (w : World) (hk : w.cell? K = some (.int .i64 k)) (hn : w.cell? N = some (.int .i64 n))
    (f0 : 0 ≤ f) (f1 : f ≤ 255) (t0 : 0 ≤ t) (t1 : t ≤ 255) (k0 : 0 ≤ k) (k1 : k ≤ n) (n0 : 1 ≤ n) (n1 : n ≤ 255) :
    Calls Try.prog 91 #[.int .i64 f, .int .i64 t, .pointer (some K), .pointer (some N)] w fun e w' => e = .returned (.int .i64 (rnd f t k n)) ∧ w = w' := by
  have hb := prod_bd (a := 2 * (t - f)) (b := k) (A := 510) (B := 255) (by omega) (by omega) k0 (by omega) (by omega)
  obtain ⟨hb1, hb2⟩ := hb
  obtain ⟨m, hm⟩ : ∃ m, 2 * (t - f) * k = m := ⟨_, rfl⟩
  have hw1 : wrap64 (2 * (t - f) * k) = m := by rw [← hm]; exact IntWalk.wrap64_in _ (by omega)
  have HP : Aside0 (rnd f t k n = f + (m + n) / (2 * n)) := ⟨by unfold rnd; rw [hm]⟩
  rw [hm] at hb1 hb2
  clear hm
  have hn2 : (2 * n == 0) = false := by simp; omega
  have hn3 : ¬ 2 * n = 0 := by omega
  have B0 := Aside0.mk (And.intro hb1 hb2)
  by_cases hp : 0 ≤ m + n
  · have hlt : ¬ m + n < 0 := by omega
    have q0 : 0 ≤ (m + n) / (2 * n) := Int.ediv_nonneg hp (by omega)
    have q1 : (m + n) / (2 * n) ≤ m + n := Int.ediv_le_self _ hp
    go_enter Try.func91, Try.ntmps91
    go_wp2
    go_ret
    exact ⟨by rw [HP.out]; rfl, rfl⟩
  · have hlt : m + n < 0 := by omega
    obtain ⟨d1, d2⟩ := tdiv_floor (m + n) (2 * n) (by omega) hlt
    have q0 : (m + n) / (2 * n) ≤ 0 := by
      have := Int.ediv_le_ediv (c := 2 * n) (a := m + n) (b := 0) (by omega) (by omega); simpa using this
    have q1 : m + n ≤ (m + n) / (2 * n) := by
      refine Int.le_ediv_of_mul_le (by omega) ?_
      have h4 : (m + n) * (2 * n - 1) ≤ 0 := Int.mul_nonpos_of_nonpos_of_nonneg (by omega) (by omega)
      rw [Int.mul_sub, Int.mul_one] at h4
      omega
    by_cases hz : (m + n).tmod (2 * n) = 0
    · have e := d1 hz
      have hz1 : ((m + n).tmod (2 * n) != 0) = false := by simp [hz]
      have e2 : (m + n).tdiv (2 * n) = (m + n) / (2 * n) := e
      clear d1 d2 hz e
      go_enter Try.func91, Try.ntmps91
      go_wp2
      go_ret
      exact ⟨by rw [HP.out]; rfl, rfl⟩
    · have e := d2 hz
      have hz1 : ((m + n).tmod (2 * n) != 0) = true := by simp [hz]
      have e2 : (m + n).tdiv (2 * n) = (m + n) / (2 * n) + 1 := by omega
      clear d1 d2 hz e
      go_enter Try.func91, Try.ntmps91
      go_wp2
      go_ret
      exact ⟨by rw [HP.out]; first | rfl | (simp; done) | (show Ending.returned (Value.int _ _) = _; congr 2; omega), rfl⟩
end Go.Proofs.Ytijfinimlnedpaa.PPap
