/- The closure of Resample: the sum of the levels up to a time, rounded down, under bounds that the caller pays for. -/
import Derived.Test.YtijfinimlnedpaaPPerx0
namespace Go.Proofs.Ytijfinimlnedpaa.PPer
open Go.RowKit Go.Proofs.YtijfinimlnedpaaW.PrintWords Go.Proofs.YtijfinimlnedpaaW.PrintLast Go.Proofs.YtijfinimlnedpaaW.PrintMore
set_option linter.unusedVariables false

/-- The sum up to a time. -/
def upto (p l : List Int) (up down k : Int) : Int := if k * down % up = 0 then rd p (k * down / up) else rd p (k * down / up) + (k * down % up) * rd l (k * down / up) / up

theorem int_at {w : World} {A : Option Addr} {n : Nat} {xs : List Int} (h : Kd.C (Kd.int .i64) w A n xs) (i : Int) (h0 : 0 ≤ i) (h1 : i < n) : ∃ ad, A = some ad ∧ w.cell? (ad.add i.toNat) = some (.int .i64 (rd xs i)) := by
  obtain ⟨ad, c, e, _, hK, hc⟩ := Kd.C_get h 0 i h0 h1
  obtain rfl : c = [.int .i64 (xs.getD i.toNat 0)] := hK
  have h2 := hc 0 _ rfl
  refine ⟨ad, e, ?_⟩
  rw [show i.toNat * (Kd.int .i64).sz + 0 = i.toNat from by show i.toNat * 1 + 0 = i.toNat; omega] at h2
  exact h2

set_option maxHeartbeats 1000000 in
theorem upto_zero (k up down : Int) (p l : List Int) (Ap Al : Option Addr) (cp cl : Nat) (D U Pb Lb : Addr) (w : World)
    (hd : w.cell? D = some (.int .i64 down)) (hu : w.cell? U = some (.int .i64 up)) (hp : w.cell? Pb = some (.slice Ap p.length cp)) (hl : w.cell? Lb = some (.slice Al l.length cl))
    (hP : Kd.C (Kd.int .i64) w Ap p.length p)
    (u0 : 1 ≤ up) (u1 : up ≤ 1000) (k0 : 0 ≤ k * down) (k1 : k * down ≤ 1000000000) (hj : k * down / up < p.length) (hz : k * down % up = 0) :
    Calls Try.prog 63 #[.int .i64 k, .pointer (some D), .pointer (some U), .pointer (some Pb), .pointer (some Lb)] w fun e w' => e = .returned (.int .i64 (upto p l up down k)) ∧ Drawn0 w w' := by
  have HP : Aside0 (upto p l up down k = rd p (k * down / up)) := ⟨by unfold upto; rw [if_pos hz]⟩
  have j0 : 0 ≤ k * down / up := Int.ediv_nonneg k0 (by omega)
  obtain ⟨ad, rfl, hcell⟩ := int_at hP _ j0 hj
  have hz' : (k * down % up == 0) = true := by simp [hz]
  have HZ := Aside0.mk hz
  clear hz hP
  generalize hm : k * down = m at *
  have hw1 : IntKind.i64.wrap m = m := IntWalk.i64_in _ (by omega)
  have hw2 : m.tdiv up = m / up := Int.tdiv_eq_ediv_of_nonneg k0
  have hw3 : m.tmod up = m % up := Int.tmod_eq_emod_of_nonneg k0
  have hw4 : IntKind.i64.wrap (m / up) = m / up := IntWalk.i64_in _ (by constructor; omega; exact Int.le_trans (Int.ediv_le_self _ k0) (by omega))
  have hup : (up == 0) = false := by simp; omega
  have hup2 : ¬ up = 0 := by omega
  go_enter Try.func63, Try.ntmps63
  go_wp2
  go_quiet (fail)
  clear hw1 hw2 hw3 hw4
  have hj' : m / up < (p.length : Int) := hj
  go_wp2
  go_ret
  exact ⟨by rw [HP.out]; rfl, _, rfl⟩

set_option maxHeartbeats 1000000 in
theorem upto_part (k up down : Int) (p l : List Int) (Ap Al : Option Addr) (cp cl : Nat) (D U Pb Lb : Addr) (w : World)
    (hd : w.cell? D = some (.int .i64 down)) (hu : w.cell? U = some (.int .i64 up)) (hp : w.cell? Pb = some (.slice Ap p.length cp)) (hl : w.cell? Lb = some (.slice Al l.length cl))
    (hP : Kd.C (Kd.int .i64) w Ap p.length p) (hL : Kd.C (Kd.int .i64) w Al l.length l)
    (u0 : 1 ≤ up) (u1 : up ≤ 1000) (k0 : 0 ≤ k * down) (k1 : k * down ≤ 1000000000) (hj : k * down / up < p.length) (hj2 : k * down / up < l.length) (hz : k * down % up ≠ 0)
    (hb : 0 ≤ rd l (k * down / up) ∧ rd l (k * down / up) ≤ 1048576) (hb2 : 0 ≤ rd p (k * down / up) ∧ rd p (k * down / up) ≤ 200000000000) :
    Calls Try.prog 63 #[.int .i64 k, .pointer (some D), .pointer (some U), .pointer (some Pb), .pointer (some Lb)] w fun e w' => e = .returned (.int .i64 (upto p l up down k)) ∧ Drawn0 w w' := by
  have HP : Aside0 (upto p l up down k = rd p (k * down / up) + (k * down % up) * rd l (k * down / up) / up) := ⟨by unfold upto; rw [if_neg hz]⟩
  have j0 : 0 ≤ k * down / up := Int.ediv_nonneg k0 (by omega)
  obtain ⟨ad, rfl, hcell⟩ := int_at hP _ j0 hj
  obtain ⟨ad2, rfl, hcell2⟩ := int_at hL _ j0 hj2
  have hz' : (k * down % up == 0) = false := by simp [hz]
  have HZ := Aside0.mk hz
  have m0 : 0 ≤ k * down % up := Int.emod_nonneg _ (by omega)
  have m1 : k * down % up < up := Int.emod_lt_of_pos _ (by omega)
  clear hz hP hL
  generalize hm : k * down = m at *
  have hw1 : IntKind.i64.wrap m = m := IntWalk.i64_in _ (by omega)
  have hw2 : m.tdiv up = m / up := Int.tdiv_eq_ediv_of_nonneg k0
  have hw3 : m.tmod up = m % up := Int.tmod_eq_emod_of_nonneg k0
  have hw4 : IntKind.i64.wrap (m / up) = m / up := IntWalk.i64_in _ (by constructor; omega; exact Int.le_trans (Int.ediv_le_self _ k0) (by omega))
  have hup : (up == 0) = false := by simp; omega
  have hup2 : ¬ up = 0 := by omega
  have q0 : 0 ≤ (m % up) * rd l (m / up) := Int.mul_nonneg m0 hb.1
  have q1 : (m % up) * rd l (m / up) ≤ 1000 * 1048576 := Int.mul_le_mul (by omega) hb.2 hb.1 (by omega)
  have v1 : IntKind.i64.wrap ((m % up) * rd l (m / up)) = (m % up) * rd l (m / up) := IntWalk.i64_in _ (by omega)
  have v2 : ((m % up) * rd l (m / up)).tdiv up = (m % up) * rd l (m / up) / up := Int.tdiv_eq_ediv_of_nonneg q0
  have z0 : 0 ≤ (m % up) * rd l (m / up) / up := Int.ediv_nonneg q0 (by omega)
  have z1 : (m % up) * rd l (m / up) / up ≤ 1000 * 1048576 := Int.le_trans (Int.ediv_le_self _ q0) q1
  have v3 : IntKind.i64.wrap ((m % up) * rd l (m / up) / up) = (m % up) * rd l (m / up) / up := IntWalk.i64_in _ (by omega)
  have v4 : IntKind.i64.wrap (rd p (m / up) + (m % up) * rd l (m / up) / up) = rd p (m / up) + (m % up) * rd l (m / up) / up := IntWalk.i64_in _ (by omega)
  have hj' : m / up < (p.length : Int) := hj
  have hj2' : m / up < (l.length : Int) := hj2
  go_enter Try.func63, Try.ntmps63
  go_wp2
  go_quiet (fail)
  clear hw1 hw2 hw3 hw4
  go_wp2
  go_quiet (fail)
  go_wp2
  go_ret
  exact ⟨by rw [HP.out]; rfl, _, (World.drewN_drewN _ _ _)⟩
end Go.Proofs.Ytijfinimlnedpaa.PPer
