/- slices.Index and slices.Contains of numbers, the law's closures: walked by hand. Own text of this claim. -/
import Derived.Test.YtgagbfaodeakaabMnBase
namespace Go.Proofs.Ytgagbfaodeakaab.PMiniNeeds
open Go.RowKit Go.Proofs.YtgagbfaodeakaabW.PrintWords Go.Proofs.YtgagbfaodeakaabW.PrintLast Go.Proofs.YtgagbfaodeakaabW.PrintMore
set_option linter.unusedVariables false
set_option linter.unusedSimpArgs false
def IdxIs (xs : List Int) (v : Int) (w : World) (e : Ending) (w' : World) : Prop := ∃ n : Int, e = .returned (.int .i64 n) ∧ decide (0 ≤ n) = decide (v ∈ xs) ∧ w' = w
set_option maxHeartbeats 2000000 in
set_option maxRecDepth 100000 in
theorem index_calls (A : Option Addr) (c : Nat) (xs : List Int) (v : Int) (w : World) (hA : Kd.C (Kd.int .i64) w A xs.length xs) (hl : xs.length ≤ 1000000) :
    Calls Try.prog 17 #[.slice A xs.length c, .int .i64 v] w (IdxIs xs v w) := by
  have HA := Aside0.mk hA
  have HL := Aside0.mk hl
  clear hA hl
  go_enter Try.func17, Try.ntmps17
  go_wp2
  go_loop [8] (fun t8 => ∃ k : Nat, k ≤ xs.length ∧ t8 = .int .i64 (k : Int) ∧ Aside0 (∀ j, j < k → rd xs (j : Int) ≠ v)) (fun t8 => xs.length - (intOf t8).toNat)
  case atStart => exact ⟨0, by omega, rfl, ⟨fun j h => by omega⟩⟩
  case round =>
    obtain ⟨k, hk, rfl, HJ⟩ := hrel
    have hl2 : (xs.length : Int) ≤ 1000000 := by have := HL.out; omega
    by_cases hlt : k < xs.length
    · obtain ⟨a, ea, ha⟩ := Kd.at_int HA.out (k : Int) (by omega) (by omega)
      subst ea
      rw [Int.toNat_natCast] at ha
      by_cases hv : v = rd xs (k : Int)
      · have hb : (v == rd xs (k : Int)) = true := beq_iff_eq.mpr hv
        have hin : v ∈ xs := by
          rw [hv]; unfold rd
          rw [Int.toNat_natCast, List.getD_eq_getElem?_getD, List.getElem?_eq_getElem hlt]
          exact List.getElem_mem hlt
        have HIN := Aside0.mk hin
        clear hv hin
        go_wp2
        go_ret
        exact ⟨_, rfl, by rw [decide_eq_true HIN.out, decide_eq_true (by omega)], rfl⟩
      · have hb : (v == rd xs (k : Int)) = false := beq_eq_false_iff_ne.mpr hv
        have HV := Aside0.mk hv
        clear hv
        go_wp2
        go_round
        case rel => exact ⟨k + 1, by omega, by go_num, ⟨fun j h => by
          rcases Nat.lt_or_ge j k with h' | h'
          · exact HJ.out j h'
          · rw [show j = k by omega]; exact fun e => HV.out e.symm⟩⟩
        case measure => simp [intOf]; omega
    · have hkn : k = xs.length := by omega
      subst hkn
      have hno : v ∉ xs := fun hin => by
        obtain ⟨i, hi, e⟩ := List.getElem_of_mem hin
        refine HJ.out i hi ?_
        unfold rd
        rw [Int.toNat_natCast, List.getD_eq_getElem?_getD, List.getElem?_eq_getElem hi]; exact e
      have HNO := Aside0.mk hno
      clear hno
      go_wp2
      go_ret
      exact ⟨_, rfl, by rw [decide_eq_false HNO.out]; rfl, rfl⟩
set_option maxHeartbeats 2000000 in
set_option maxRecDepth 100000 in
theorem contains_calls (A : Option Addr) (c : Nat) (xs : List Int) (v : Int) (w : World) (hA : Kd.C (Kd.int .i64) w A xs.length xs) (hl : xs.length ≤ 1000000) :
    Calls Try.prog 9 #[.slice A xs.length c, .int .i64 v] w fun e w' => e = .returned (.bool (decide (v ∈ xs))) ∧ w = w' := by
  have C := Aside0.mk (index_calls A c xs v w hA hl)
  clear hA hl
  go_enter Try.func9, Try.ntmps9
  go_wp2_with fail
  (with_reducible refine C.out.mono ?_)
  rintro e w' ⟨n, rfl, hn, rfl⟩
  have HN := Aside0.mk hn
  clear hn
  go_wp2
  go_ret
  exact ⟨by rw [← HN.out]; rfl, rfl⟩
end Go.Proofs.Ytgagbfaodeakaab.PMiniNeeds
