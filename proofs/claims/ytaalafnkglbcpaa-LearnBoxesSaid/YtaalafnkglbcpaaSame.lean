/- learn.Same of a table and itself (read at two places): true. -/
import Derived.Test.YtaalafnkglbcpaaPLx0
namespace Go.Proofs.Ytaalafnkglbcpaa.PL
open Go.RowKit Go.Proofs.YtaalafnkglbcpaaW.PrintWords Go.Proofs.YtaalafnkglbcpaaW.PrintLast Go.Proofs.YtaalafnkglbcpaaW.PrintMore
set_option linter.unusedVariables false

set_option maxRecDepth 100000 in
set_option maxHeartbeats 4000000 in
theorem eqrow_calls (A B : Option Addr) (c d : Nat) (row : List S77) (w : World) (hA : Kd.C k77 w A row.length row) (hB : Kd.C k77 w B row.length row) :
    Calls Try.prog 45 #[.slice A row.length c, .slice B row.length d] w fun e w' => e = .returned (.bool true) ∧ Below w.heap.size w w' := by
  have HA := Aside0.mk hA
  have HB := Aside0.mk hB
  have hl : row.length ≤ 9223372036854775807 := hA.2.1
  clear hA hB
  go_enter Try.func45, Try.ntmps45
  go_wp2
  go_loopw [13] (fun v13 wr => ∃ j : Nat, j ≤ row.length ∧ v13 = .int .i64 j ∧ Aside0 (Below w.heap.size w wr)) (fun v13 _ => row.length - (intOf v13).toNat)
  case atStart => exact ⟨0, by omega, rfl, ⟨Below.refl _ _⟩⟩
  case round =>
    obtain ⟨j, hj, rfl, HW⟩ := hrel
    obtain ⟨w1, rfl⟩ : ∃ w1 : World, w1 = wr := ⟨_, rfl⟩
    by_cases hlt : j < row.length
    · obtain ⟨a, ea, g0, g1⟩ := at_T77 (Kd.C_below HA.out HW.out) (j : Int) (by omega) (by omega)
      obtain ⟨b, eb, k0, k1⟩ := at_T77 (Kd.C_below HB.out HW.out) (j : Int) (by omega) (by omega)
      subst ea eb
      generalize rd_T77 row (j : Int) = r at *
      obtain ⟨f0, f1⟩ := r
      dsimp only at g0 g1 k0 k1
      rw [Int.toNat_natCast] at g0 g1 k0 k1
      go_wp2_with fail
      go_quiet (fail)
      go_wp2
      exact ⟨⟨j + 1, by omega, by go_num, ⟨pw_below_drewN HW.out nq⟩⟩, by simp [intOf]; omega⟩
    · have hje : j = row.length := by omega
      go_wp2
      go_ret
      exact ⟨rfl, HW.out⟩

set_option maxRecDepth 100000 in
set_option maxHeartbeats 4000000 in
theorem eqlit_calls (A B : Option Addr) (c d : Nat) (row : List S77) (w : World) (hA : Kd.C k77 w A row.length row) (hB : Kd.C k77 w B row.length row) :
    Calls Try.prog 44 #[.slice A row.length c, .slice B row.length d] w fun e w' => e = .returned (.bool true) ∧ Below w.heap.size w w' := by
  have C1 := Aside0.mk (eqrow_calls A B c d row w hA hB)
  clear hA hB
  go_enter Try.func44, Try.ntmps44
  go_wp2_with fail
  (with_reducible refine C1.out.mono ?_)
  rintro e w1 ⟨rfl, hb⟩
  have HB := Aside0.mk hb
  clear hb
  go_wp2
  go_ret
  exact ⟨rfl, HB.out⟩

set_option maxRecDepth 100000 in
set_option maxHeartbeats 4000000 in
theorem eqfunc_calls (A B : Option Addr) (c d : Nat) (t : List (List S77)) (w : World) (hA : Kd.C (Kd.slice 77 k77) w A t.length t) (hB : Kd.C (Kd.slice 77 k77) w B t.length t) :
    Calls Try.prog 43 #[.slice A t.length c, .slice B t.length d, .func (.func 44) #[] #[]] w fun e w' => e = .returned (.bool true) ∧ Below w.heap.size w w' := by
  have HA := Aside0.mk hA
  have HB := Aside0.mk hB
  have hl : t.length ≤ 9223372036854775807 := hA.2.1
  clear hA hB
  go_enter Try.func43, Try.ntmps43
  go_wp2
  go_loopw [17] (fun v17 wr => ∃ j : Nat, j ≤ t.length ∧ v17 = .int .i64 j ∧ Aside0 (Below w.heap.size w wr)) (fun v17 _ => t.length - (intOf v17).toNat)
  case atStart => exact ⟨0, by omega, rfl, ⟨Below.refl _ _⟩⟩
  case round =>
    obtain ⟨j, hj, rfl, HW⟩ := hrel
    obtain ⟨w1, rfl⟩ : ∃ w1 : World, w1 = wr := ⟨_, rfl⟩
    by_cases hlt : j < t.length
    · obtain ⟨a, A1, c1, ea, g0, g1, g2⟩ := at_L2 (Kd.C_below HA.out HW.out) (j : Int) (by omega) (by omega)
      obtain ⟨b, B1, d1, eb, k0, k1, k2⟩ := at_L2 (Kd.C_below HB.out HW.out) (j : Int) (by omega) (by omega)
      subst ea eb
      generalize rd_L2 t (j : Int) = r at *
      rw [Int.toNat_natCast] at g0 k0
      have C1 := Aside0.mk (eqlit_calls A1 B1 c1 d1 r w1 g2 k2)
      clear g1 g2 k1 k2
      go_wp2_with fail
      (with_reducible refine C1.out.mono ?_)
      rintro e w2 ⟨rfl, hb⟩
      have HW2 : Aside0 (Below w.heap.size w w2) := ⟨HW.out.trans (hb.mono HW.out.size)⟩
      clear hb g0 k0 C1 HW
      go_wp2
      go_roundw
      case rel => exact ⟨j + 1, by omega, by go_num, HW2⟩
      case measure => simp [intOf]; omega
    · have hje : j = t.length := by omega
      go_wp2
      go_ret
      exact ⟨rfl, HW.out⟩

open Classical in
noncomputable def learn_Same.f (a0_0 : Int) (a0_1 : Int) (l0_2 : List (List (S77))) (a1_0 : Int) (a1_1 : Int) (l1_2 : List (List (S77))) : Option (Bool) := if a0_0 = a1_0 ∧ a0_1 = a1_1 ∧ l0_2 = l1_2 then some true else none
set_option maxHeartbeats 8000000 in
set_option maxRecDepth 100000 in
theorem learn_Same.calls (a0_0 : Int) (a0_1 : Int) (A0_2 : Option Addr) (c0_2 : Nat) (l0_2 : List (List (S77))) (a1_0 : Int) (a1_1 : Int) (A1_2 : Option Addr) (c1_2 : Nat) (l1_2 : List (List (S77))) (r : Bool) (w : World) (hr0_2 : Kd.C (Kd.slice 77 k77) w A0_2 l0_2.length l0_2) (hc0_2 : l0_2.length ≤ c0_2) (hr1_2 : Kd.C (Kd.slice 77 k77) w A1_2 l1_2.length l1_2) (hc1_2 : l1_2.length ≤ c1_2) (h : learn_Same.f a0_0 a0_1 l0_2 a1_0 a1_1 l1_2 = some r) :
    Calls Try.prog 16 #[.agg #[.int .i64 a0_0, .int .i64 a0_1, .slice A0_2 l0_2.length c0_2], .agg #[.int .i64 a1_0, .int .i64 a1_1, .slice A1_2 l1_2.length c1_2]] w fun e w' => e = .returned (.bool r) ∧ Below w.heap.size w w' := by
  unfold learn_Same.f at h
  split at h
  case isFalse => cases h
  case isTrue hh =>
  obtain ⟨rfl, rfl, rfl⟩ := hh
  obtain rfl := Option.some.inj h
  clear h hc0_2 hc1_2
  have C1 := Aside0.mk (fun (W : World) (hW : Below w.heap.size w W) => eqfunc_calls A0_2 A1_2 c0_2 c1_2 l0_2 W (Kd.C_below hr0_2 hW) (Kd.C_below hr1_2 hW))
  clear hr0_2 hr1_2
  go_enter Try.func16, Try.ntmps16
  go_upto_region 1 with fail
  go_wp2_with fail
  (with_reducible refine (C1.out _ ?b).mono ?_)
  case b => exact below_alloc (below_alloc (Below.refl _ _) _) _
  rintro e w2 ⟨rfl, hb⟩
  have HB : Aside0 (Below w.heap.size w w2) := ⟨(below_alloc (below_alloc (Below.refl _ _) _) _).trans (hb.mono (by simp; omega))⟩
  clear hb
  go_wp2
  go_ret
  exact ⟨rfl, HB.out⟩
end Go.Proofs.Ytaalafnkglbcpaa.PL
