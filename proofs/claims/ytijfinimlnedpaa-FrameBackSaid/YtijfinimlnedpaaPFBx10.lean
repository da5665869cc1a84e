/- slices.EqualFunc of equal lists of frames, walked by hand: true. -/
import Derived.Test.YtijfinimlnedpaaPFBx0
namespace Go.Proofs.Ytijfinimlnedpaa.PFB
open Go.RowKit Go.Proofs.YtijfinimlnedpaaW.PrintWords Go.Proofs.YtijfinimlnedpaaW.PrintLast Go.Proofs.YtijfinimlnedpaaW.PrintMore
set_option linter.unusedVariables false

theorem at_I {w : World} {A : Option Addr} {n : Nat} {xs : List Int} (h : Kd.C (Kd.int .i64) w A n xs) (i : Int) (h0 : 0 ≤ i) (h1 : i < n) : ∃ ad, A = some ad ∧ w.cell? (ad.add i.toNat) = some (.int .i64 (rd xs i)) := by
  obtain ⟨ad, c, e, _, hK, hc⟩ := Kd.C_get h (0 : Int) i h0 h1
  have hK' : c = [.int .i64 (xs.getD i.toNat 0)] := hK
  subst hK'
  have h2 := hc 0 _ rfl
  have h3 : w.cell? (ad.add (i.toNat * 1 + 0)) = some (.int .i64 (xs.getD i.toNat 0)) := h2
  rw [Nat.mul_one, Nat.add_zero] at h3
  exact ⟨ad, e, h3⟩

set_option maxRecDepth 100000 in
set_option maxHeartbeats 4000000 in
theorem eqframe_calls (A B : Option Addr) (c d : Nat) (row : List Int) (w : World) (hA : Kd.C (Kd.int .i64) w A row.length row) (hB : Kd.C (Kd.int .i64) w B row.length row) :
    Calls Try.prog 42 #[.slice A row.length c, .slice B row.length d] w fun e w' => e = .returned (.bool true) ∧ Drawn0 w w' := by
  have HA := Aside0.mk hA
  have HB := Aside0.mk hB
  have hl : row.length ≤ 9223372036854775807 := hA.2.1
  clear hA hB
  go_enter Try.func42, Try.ntmps42
  go_wp2
  go_loopw [13] (fun v13 wr => ∃ j : Nat, j ≤ row.length ∧ v13 = .int .i64 j ∧ Aside0 (Drawn0 w wr)) (fun v13 _ => row.length - (intOf v13).toNat)
  case atStart => exact ⟨0, by omega, rfl, ⟨Drawn0.refl _⟩⟩
  case round =>
    obtain ⟨j, hj, rfl, HW⟩ := hrel
    obtain ⟨w1, rfl⟩ : ∃ w1 : World, w1 = wr := ⟨_, rfl⟩
    by_cases hlt : j < row.length
    · obtain ⟨a, ea, g0⟩ := at_I (Kd.C_below HA.out HW.out.below) (j : Int) (by omega) (by omega)
      obtain ⟨b, eb, k0⟩ := at_I (Kd.C_below HB.out HW.out.below) (j : Int) (by omega) (by omega)
      subst ea eb
      generalize rd row (j : Int) = r at *
      rw [Int.toNat_natCast] at g0 k0
      go_wp2_with fail
      go_quiet (fail)
      go_wp2
      exact ⟨⟨j + 1, by omega, by go_num, ⟨HW.out.step nq⟩⟩, by simp [intOf]; omega⟩
    · have hje : j = row.length := by omega
      go_wp2
      go_ret
      exact ⟨rfl, HW.out⟩

theorem drawn_trans {a b c : World} (h : Drawn0 a b) (k : Drawn0 b c) : Drawn0 a c := by
  obtain ⟨n, rfl⟩ := k.out
  exact h.step n

set_option maxRecDepth 100000 in
set_option maxHeartbeats 4000000 in
theorem eqlit_calls (A B : Option Addr) (c d : Nat) (row : List Int) (w : World) (hA : Kd.C (Kd.int .i64) w A row.length row) (hB : Kd.C (Kd.int .i64) w B row.length row) :
    Calls Try.prog 41 #[.slice A row.length c, .slice B row.length d] w fun e w' => e = .returned (.bool true) ∧ Drawn0 w w' := by
  have C1 := Aside0.mk (eqframe_calls A B c d row w hA hB)
  clear hA hB
  go_enter Try.func41, Try.ntmps41
  go_wp2_with fail
  (with_reducible refine C1.out.mono ?_)
  rintro e w1 ⟨rfl, hb⟩
  have HB := Aside0.mk hb
  clear hb
  go_wp2
  go_ret
  exact ⟨rfl, HB.out⟩

set_option maxRecDepth 100000 in
set_option maxHeartbeats 4000000 in
theorem eqfunc_calls (A B : Option Addr) (c d : Nat) (t : List (List Int)) (w : World) (hA : Kd.C (Kd.slice 3 (Kd.int .i64)) w A t.length t) (hB : Kd.C (Kd.slice 3 (Kd.int .i64)) w B t.length t) :
    Calls Try.prog 40 #[.slice A t.length c, .slice B t.length d, .func (.func 41) #[] #[]] w fun e w' => e = .returned (.bool true) ∧ Drawn0 w w' := by
  have HA := Aside0.mk hA
  have HB := Aside0.mk hB
  have hl : t.length ≤ 9223372036854775807 := hA.2.1
  clear hA hB
  go_enter Try.func40, Try.ntmps40
  go_wp2
  go_loopw [17] (fun v17 wr => ∃ j : Nat, j ≤ t.length ∧ v17 = .int .i64 j ∧ Aside0 (Drawn0 w wr)) (fun v17 _ => t.length - (intOf v17).toNat)
  case atStart => exact ⟨0, by omega, rfl, ⟨Drawn0.refl _⟩⟩
  case round =>
    obtain ⟨j, hj, rfl, HW⟩ := hrel
    obtain ⟨w1, rfl⟩ : ∃ w1 : World, w1 = wr := ⟨_, rfl⟩
    by_cases hlt : j < t.length
    · obtain ⟨a, A1, c1, ea, g0, g1, g2⟩ := at_L3 (Kd.C_below HA.out HW.out.below) (j : Int) (by omega) (by omega)
      obtain ⟨b, B1, d1, eb, k0, k1, k2⟩ := at_L3 (Kd.C_below HB.out HW.out.below) (j : Int) (by omega) (by omega)
      subst ea eb
      generalize rd_L3 t (j : Int) = r at *
      rw [Int.toNat_natCast] at g0 k0
      have C1 := Aside0.mk (eqlit_calls A1 B1 c1 d1 r w1 g2 k2)
      clear g1 g2 k1 k2
      go_wp2_with fail
      (with_reducible refine C1.out.mono ?_)
      rintro e w2 ⟨rfl, hb⟩
      have HW2 : Aside0 (Drawn0 w w2) := ⟨drawn_trans HW.out hb⟩
      clear hb g0 k0 C1 HW
      go_wp2
      go_roundw
      case rel => exact ⟨j + 1, by omega, by go_num, HW2⟩
      case measure => simp [intOf]; omega
    · have hje : j = t.length := by omega
      go_wp2
      go_ret
      exact ⟨rfl, HW.out⟩

def frame_Frame.f (l0 : List (List Int)) (l1 : List (List Int)) : Option (Bool) := if l0 = l1 then some true else none
theorem frame_Frame.calls (A0 : Option Addr) (c0 : Nat) (l0 : List (List Int)) (A1 : Option Addr) (c1 : Nat) (l1 : List (List Int)) (r : Bool) (w : World) (hr0 : Kd.C (Kd.slice 3 (Kd.int .i64)) w A0 l0.length l0) (hc0 : l0.length ≤ c0) (hr1 : Kd.C (Kd.slice 3 (Kd.int .i64)) w A1 l1.length l1) (hc1 : l1.length ≤ c1) (h : frame_Frame.f l0 l1 = some r) :
    Calls Try.prog 40 #[.slice A0 l0.length c0, .slice A1 l1.length c1, .func (.func 41) #[] #[]] w fun e w' => e = .returned (.bool r) ∧ Drawn0 w w' := by
  unfold frame_Frame.f at h
  split at h
  · rename_i he
    subst he
    obtain rfl := Option.some.inj h
    exact eqfunc_calls A0 A1 c0 c1 l0 w hr0 hr1
  · cases h
end Go.Proofs.Ytijfinimlnedpaa.PFB
