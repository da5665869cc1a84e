/- The plain law of SampTwice: to n times the rate, and back by sums of n, are the levels. No condition beyond the given statement. -/
import Derived.Test.YtijfinimlnedpaaPSampx11
import Derived.Test.YtijfinimlnedpaaSampPure
namespace Go.Proofs.Ytijfinimlnedpaa.Pure
open Go.RowKit Go.Proofs.Ytijfinimlnedpaa.PSamp Go.Proofs.Ytijfinimlnedpaa.SampPure Go.Proofs.YtijfinimlnedpaaW.PrintWords Go.Proofs.YtijfinimlnedpaaW.PrintLast

/-- A sum up to a time, in n-th parts of a level. -/
theorem U_parts (l : List Int) (n j r : Nat) (hr : r < n) (hj : j < l.length) : U l (n : Int) 1 ((j * n + r : Nat) : Int) = S l j + (r : Int) * l.getD j 0 / (n : Int) := by
  unfold U upto
  have e0 : ((j * n + r : Nat) : Int) * 1 = (r : Int) + (n : Int) * (j : Int) := by push_cast; rw [Int.mul_one, Int.mul_comm (j : Int)]; omega
  have e1 : ((r : Int) + (n : Int) * (j : Int)) % (n : Int) = (r : Int) := by rw [Int.add_mul_emod_self_left]; exact Int.emod_eq_of_lt (by omega) (by omega)
  have e2 : ((r : Int) + (n : Int) * (j : Int)) / (n : Int) = (j : Int) := by rw [Int.add_mul_ediv_left _ _ (by omega), Int.ediv_eq_zero_of_lt (by omega) (by omega)]; omega
  rw [e0, e1, e2, rd_preS l j (by omega), rd_nat]
  split
  · rename_i h; rw [h]; simp
  · rfl

theorem step_bound (l : List Int) (n : Nat) (hn : 0 < n) (hb : ∀ x ∈ l, 0 ≤ x ∧ x ≤ 30) (i : Nat) (hi : i < l.length * n) : 0 ≤ U l (n : Int) 1 ((i : Int) + 1) - U l (n : Int) 1 (i : Int) ∧ U l (n : Int) 1 ((i : Int) + 1) - U l (n : Int) 1 (i : Int) ≤ 30 := by
  have hj : i / n < l.length := Nat.div_lt_of_lt_mul (by rw [Nat.mul_comm]; exact hi)
  have hr : i % n < n := Nat.mod_lt _ hn
  have hi2 : i = i / n * n + i % n := by have := Nat.div_add_mod i n; rw [Nat.mul_comm]; omega
  generalize hjj : i / n = j at *
  generalize hrr : i % n = r at *
  have hg := getD_bound l 0 30 hb j hj
  have h1 := U_parts l n j r hr hj
  rw [← hi2] at h1
  have hnn : (0 : Int) < (n : Int) := by omega
  have q0 : 0 ≤ (r : Int) * l.getD j 0 := Int.mul_nonneg (by omega) hg.1
  have z0 : 0 ≤ (r : Int) * l.getD j 0 / (n : Int) := Int.ediv_nonneg q0 (by omega)
  have z1 : (r : Int) * l.getD j 0 / (n : Int) ≤ l.getD j 0 := by
    refine Int.ediv_le_of_le_mul hnn ?_
    rw [Int.mul_comm (l.getD j 0)]
    exact Int.mul_le_mul_of_nonneg_right (by omega) hg.1
  rcases Nat.lt_or_ge (r + 1) n with h | h
  · have h2 := U_parts l n j (r + 1) h hj
    rw [show j * n + (r + 1) = i + 1 by omega] at h2
    have e : ((i : Int) + 1) = ((i + 1 : Nat) : Int) := by push_cast; rfl
    rw [e, h1, h2]
    have em : ((r + 1 : Nat) : Int) * l.getD j 0 = (r : Int) * l.getD j 0 + l.getD j 0 := by push_cast; rw [Int.add_mul, Int.one_mul]
    rw [em]
    have a1 : (r : Int) * l.getD j 0 / (n : Int) ≤ ((r : Int) * l.getD j 0 + l.getD j 0) / (n : Int) := Int.ediv_le_ediv hnn (by omega)
    have a2 : ((r : Int) * l.getD j 0 + l.getD j 0) / (n : Int) ≤ (r : Int) * l.getD j 0 / (n : Int) + l.getD j 0 := by
      have a3 : ((r : Int) * l.getD j 0 + l.getD j 0) / (n : Int) ≤ ((r : Int) * l.getD j 0 + l.getD j 0 * (n : Int)) / (n : Int) := by
        refine Int.ediv_le_ediv hnn ?_
        have : l.getD j 0 * 1 ≤ l.getD j 0 * (n : Int) := Int.mul_le_mul_of_nonneg_left (by omega) hg.1
        omega
      rw [Int.add_mul_ediv_right _ _ (by omega)] at a3
      exact a3
    omega
  · have hrn : r + 1 = n := by omega
    have hin : i + 1 = (j + 1) * n := by rw [Nat.add_mul, Nat.one_mul]; omega
    have h2 := U_at l (n : Int) 1 ((i : Int) + 1) (j + 1) hnn (by omega) (by rw [Int.mul_one]; exact_mod_cast hin)
    rw [h1, h2, S_succ l j hj]; omega

theorem SampTwice : bakekeep3_SampTwice.Pure := by
  intro l0 b1 _ _ _ _
  obtain ⟨a, ha, h1, h2⟩ := levels_is l0
  obtain ⟨p, hp, p0, p1⟩ := below_is b1 9 (by omega) (by omega)
  refine Ev.rounds (g := fun k => bakekeep3_SampTwice.f k l0 b1) ?_
  unfold bakekeep3_SampTwice.f
  refine Ev.bind (f := fun k t158 => _) ha ?_
  simp only [hp, Option.bind_some]
  rw [w64 (n := 1 + p) (by omega) (by omega)]
  obtain ⟨n, hn⟩ : ∃ n : Nat, 1 + p = (n : Int) := ⟨(1 + p).toNat, by omega⟩
  rw [hn]
  have hn0 : 0 < n := by omega
  have hn9 : n ≤ 9 := by omega
  have hm : a.length * n ≤ 150 * 9 := Nat.mul_le_mul h1 hn9
  have hc : ((a.length : Int) * (n : Int)) = ((a.length * n : Nat) : Int) := by push_cast; rfl
  have hA : RsOk a (n : Int) 1 := ⟨by omega, fun x hx => by have := h2 x hx; omega, by omega, by omega, by rw [Int.ediv_one, hc]; omega⟩
  have hxl : (res a (n : Int) 1).length = a.length * n := by rw [res_len, Int.ediv_one, hc]; omega
  have hxb : ∀ x ∈ res a (n : Int) 1, 0 ≤ x ∧ x ≤ 1048576 := by
    intro x hx
    have hx' := hx
    unfold res samples at hx
    obtain ⟨i, hi, rfl⟩ := List.mem_map.1 hx
    have hi' := List.mem_range.1 hi
    rw [Int.ediv_one, hc] at hi'
    have := step_bound a n hn0 h2 i (by omega)
    unfold U at this
    omega
  have hB : RsOk (res a (n : Int) 1) 1 (n : Int) := ⟨by omega, hxb, by omega, by omega, by rw [Int.mul_one, hxl]; exact Int.le_trans (Int.ediv_le_self _ (by omega)) (by omega)⟩
  refine Ev.bind (f := fun k bt162 => _) (resample_is a (n : Int) 1 hA) ?_
  refine Ev.bind (f := fun k bt166 => _) (resample_is (res a (n : Int) 1) 1 (n : Int) hB) ?_
  refine Ev.bind (f := fun k t170 => _) heard_is ?_
  simp only [if_true]
  have hyl : (res (res a (n : Int) 1) 1 (n : Int)).length = a.length := by
    rw [res_len, hxl, Int.mul_one]; push_cast
    rw [Int.mul_ediv_cancel _ (by omega)]; omega
  have hy : res (res a (n : Int) 1) 1 (n : Int) = a := by
    refine ext_S _ _ hyl (fun j hj => ?_)
    have hj' : j ≤ a.length := by omega
    have hjn : j * n ≤ a.length * n := Nat.mul_le_mul_right n hj'
    have g1 := S_samples (res a (n : Int) 1) 1 (n : Int) _ j (by rw [res_len] at hj; exact hj)
    have g2 := U_at (res a (n : Int) 1) 1 (n : Int) (j : Int) (j * n) (by omega) (by rw [hxl]; exact hjn) (by push_cast; rw [Int.mul_one])
    have g3 := S_samples a (n : Int) 1 ((a.length : Int) * (n : Int) / 1).toNat (j * n) (by rw [Int.ediv_one, hc]; omega)
    have g4 := U_at a (n : Int) 1 ((j * n : Nat) : Int) j (by omega) hj' (by push_cast; rw [Int.mul_one])
    unfold res at g1 g2 g3 g4 ⊢
    rw [g1, U_zero _ _ _ (by omega), g2, g3, U_zero _ _ _ (by omega), g4]; omega
  rw [hy, hxl, w64 (by rw [Int.mul_comm, hc]; omega) (by rw [Int.mul_comm, hc]; omega)]
  simp only [if_pos (show ((a.length * n : Nat) : Int) = (n : Int) * (a.length : Int) by push_cast; rw [Int.mul_comm])]
  exact Ev.bind (f := fun k t171 => _) (eq_is a (by omega)) (Ev.now true)

end Go.Proofs.Ytijfinimlnedpaa.Pure
