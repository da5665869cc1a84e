/- The plain law of SampSums: the samples together are no more than the levels, all of them if the times end together; up and down by the same are the levels. No condition beyond the given statement. -/
import Derived.Test.YtijfinimlnedpaaPSampx10
import Derived.Test.YtijfinimlnedpaaSampPure
namespace Go.Proofs.Ytijfinimlnedpaa.Pure
open Go.RowKit Go.Proofs.Ytijfinimlnedpaa.PSamp Go.Proofs.Ytijfinimlnedpaa.SampPure Go.Proofs.YtijfinimlnedpaaW.PrintWords Go.Proofs.YtijfinimlnedpaaW.PrintLast

theorem rsOk_of (a : List Int) (up down : Int) (h1 : a.length ≤ 150) (h2 : ∀ x ∈ a, 0 ≤ x ∧ x ≤ 30) (u0 : 1 ≤ up) (u1 : up ≤ 40) (d0 : 1 ≤ down) (d1 : down ≤ 40) : RsOk a up down := by
  refine ⟨by omega, fun x hx => by have := h2 x hx; omega, by omega, by omega, ?_⟩
  have e0 : 0 ≤ (a.length : Int) * up := Int.mul_nonneg (by omega) (by omega)
  have e1 : (a.length : Int) * up ≤ 150 * 40 := Int.mul_le_mul (by omega) u1 (by omega) (by omega)
  exact Int.le_trans (Int.ediv_le_self _ e0) (by omega)

theorem res_same (a : List Int) (up : Int) (u0 : 1 ≤ up) : res a up up = a := by
  have hl : (res a up up).length = a.length := by rw [res_len, Int.mul_ediv_cancel _ (by omega)]; omega
  refine ext_S _ _ hl (fun j hj => ?_)
  unfold res
  rw [S_samples a up up _ j (by rw [res_len] at hj; exact hj), U_zero a up up (by omega), U_at a up up (j : Int) j (by omega) (by omega) rfl]; omega

theorem SampSums : bakekeep3_SampSums.Pure := by
  intro l0 b1 b2 _ _ _ _ _
  obtain ⟨a, ha, h1, h2⟩ := levels_is l0
  obtain ⟨p, hp, p0, p1⟩ := below_is b1 40 (by omega) (by omega)
  obtain ⟨q, hq, q0, q1⟩ := below_is b2 40 (by omega) (by omega)
  refine Ev.rounds (g := fun k => bakekeep3_SampSums.f k l0 b1 b2) ?_
  unfold bakekeep3_SampSums.f
  refine Ev.bind (f := fun k t139 => _) ha ?_
  simp only [hp, hq, Option.bind_some]
  rw [w64 (n := 1 + p) (by omega) (by omega), w64 (n := 1 + q) (by omega) (by omega)]
  obtain ⟨up, hup⟩ : ∃ up, 1 + p = up := ⟨_, rfl⟩
  obtain ⟨down, hdown⟩ : ∃ down, 1 + q = down := ⟨_, rfl⟩
  rw [hup, hdown]
  have hA := rsOk_of a up down h1 h2 (by omega) (by omega) (by omega) (by omega)
  have hB := rsOk_of a up up h1 h2 (by omega) (by omega) (by omega) (by omega)
  have hba : ∀ x ∈ a, 0 ≤ x ∧ x ≤ 1048576 := fun x hx => by have := h2 x hx; omega
  have e0 : 0 ≤ (a.length : Int) * up := Int.mul_nonneg (by omega) (by omega)
  have e1 : (a.length : Int) * up ≤ 150 * 40 := Int.mul_le_mul (by omega) (by omega) (by omega) (by omega)
  have n0 : 0 ≤ (a.length : Int) * up / down := Int.ediv_nonneg e0 (by omega)
  have n1 : (a.length : Int) * up / down ≤ 6000 := Int.le_trans (Int.ediv_le_self _ e0) (by omega)
  have n2 : (a.length : Int) * up / down * down ≤ (a.length : Int) * up := Int.ediv_mul_le _ (by omega)
  refine Ev.bind (f := fun k bt144 => _) (resample_is a up down hA) ?_
  refine Ev.bind (f := fun k bt148 => _) (resample_is a up up hB) ?_
  refine Ev.bind (f := fun k t152 => _) heard_is ?_
  simp only [if_true]
  rw [res_same a up (by omega)]
  refine Ev.bind (f := fun k t153 => _) (eq_is a (by omega)) ?_
  have hxl := res_len a up down
  have hsum : (res a up down).sum = U a up down ((a.length : Int) * up / down) := by
    rw [← S_all, res_len]
    unfold res
    rw [S_samples a up down _ _ (Nat.le_refl _), U_zero a up down (by omega), Int.toNat_of_nonneg n0]; omega
  have hle := U_le a up down ((a.length : Int) * up / down) 30 h2 (by omega) (by omega) n0 n2
  have hps := psOk a (by omega) hba
  have hxs : Ev (fun k => bakekeep3_sum.f k (res a up down)) (res a up down).sum := by
    refine sum_is _ (by rw [hxl]; omega) (fun j hj => ?_)
    rw [hxl] at hj
    have hS := S_samples a up down _ j hj
    have hU := upto_bound (j : Int) (preS a) a up down hA hps (by omega) (by omega)
    have hU0 := U_zero a up down (by omega)
    unfold res; rw [hS, hU0]; unfold U; omega
  have has := sum_pos a (by omega) hba
  have hfin : Ev (fun k => bakekeep3_SampSums.j1 k a (res a up down) false) true := by
    refine Ev.step (f := fun k => (bakekeep3_sum.f k (res a up down)).bind fun t156 => ((bakekeep3_sum.f k a).bind fun t157 => (some (decide (t156 ≤ t157))))) (fun k => ?_) ?_
    · simp only [bakekeep3_SampSums.j1]; rw [if_neg (by simp)]
    · refine Ev.bind (f := fun k t156 => _) hxs ?_
      refine Ev.bind (f := fun k t157 => _) has ?_
      rw [decide_eq_true (by omega)]; exact Ev.now true
  have ew : wrap64 ((a.length : Int) * up) = (a.length : Int) * up := w64 (by omega) (by omega)
  have et : Int.tmod ((a.length : Int) * up) down = (a.length : Int) * up % down := Int.tmod_eq_emod_of_nonneg e0
  by_cases hz : (a.length : Int) * up % down = 0
  · have hexact : (a.length : Int) * up / down * down = (a.length : Int) * up := Int.ediv_mul_cancel (Int.dvd_of_emod_eq_zero hz)
    have hsa : (res a up down).sum = a.sum := by
      rw [hsum, U_at a up down _ a.length (by omega) (Nat.le_refl _) hexact, S_all]
    refine Ev.step (f := fun k => (bakekeep3_sum.f k (res a up down)).bind fun t154 => ((bakekeep3_sum.f k a).bind fun t155 => (bakekeep3_SampSums.j1 k a (res a up down) (t154 != t155)))) (fun k => ?_) ?_
    · simp only [bakekeep3_SampSums.j0]; rw [if_neg (by simp), if_neg (by omega), ew, et, if_pos hz]
    · refine Ev.bind (f := fun k t154 => _) hxs ?_
      refine Ev.bind (f := fun k t155 => _) has ?_
      rw [hsa, bne_self_eq_false]; exact hfin
  · refine Ev.step (fun k => ?_) hfin
    simp only [bakekeep3_SampSums.j0]; rw [if_neg (by simp), if_neg (by omega), ew, et, if_neg hz]

end Go.Proofs.Ytijfinimlnedpaa.Pure
