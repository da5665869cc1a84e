/- The law's closures and mini's ask, walked by hand. Own text of this claim. -/
import Derived.Test.YtgagbfaodeakaabMnHas
import Derived.Test.YtgagbfaodeakaabMnClone
namespace Go.Proofs.Ytgagbfaodeakaab.PMiniNeeds
open Go.RowKit Go.Proofs.YtgagbfaodeakaabW.PrintWords Go.Proofs.YtgagbfaodeakaabW.PrintLast Go.Proofs.YtgagbfaodeakaabW.PrintMore
set_option linter.unusedVariables false
set_option linter.unusedSimpArgs false

/-- All that is needed is there. -/
def has (need u : List Int) : Bool := need.all fun k => decide (k ∈ u)
set_option maxHeartbeats 2000000 in
set_option maxRecDepth 100000 in
theorem need_calls (gn : Nat) (A An : Option Addr) (c cn : Nat) (u need : List Int) (w : World) (hn : w.cell? ⟨gn, 0, none⟩ = some (.slice An need.length cn)) (hN : Kd.C (Kd.int .i64) w An need.length need) (hu : Kd.C (Kd.int .i64) w A u.length u) (hl : u.length ≤ 1000) (hl2 : need.length ≤ 1000) :
    Calls Try.prog 8 #[.slice A u.length c, .pointer (some ⟨gn, 0, none⟩)] w fun e w' => e = .returned (.bool (has need u)) ∧ w = w' := by
  have HN := Aside0.mk hN
  have HU := Aside0.mk hu
  have HL := Aside0.mk hl
  have HL2 := Aside0.mk hl2
  clear hN hu hl hl2
  go_enter Try.func8, Try.ntmps8
  go_wp2
  clear hn
  go_loop [8] (fun t8 => ∃ k : Nat, k ≤ need.length ∧ t8 = .int .i64 (k : Int) ∧ Aside0 (∀ j, j < k → rd need (j : Int) ∈ u)) (fun t8 => need.length - (intOf t8).toNat)
  case atStart => exact ⟨0, by omega, rfl, ⟨fun j h => by omega⟩⟩
  case round =>
    obtain ⟨k, hk, rfl, HJ⟩ := hrel
    have hl3 : (need.length : Int) ≤ 1000 := by have := HL2.out; omega
    by_cases hlt : k < need.length
    · obtain ⟨a, ea, ha⟩ := Kd.at_int HN.out (k : Int) (by omega) (by omega)
      subst ea
      rw [Int.toNat_natCast] at ha
      have C := Aside0.mk (contains_calls A c u (rd need (k : Int)) w HU.out (by have := HL.out; omega))
      have hm : rd need (k : Int) ∈ need := by
        unfold rd
        rw [Int.toNat_natCast, List.getD_eq_getElem?_getD, List.getElem?_eq_getElem hlt]
        exact List.getElem_mem hlt
      have HM := Aside0.mk hm
      clear hm
      by_cases hv : rd need (k : Int) ∈ u
      · have hb : decide (rd need (k : Int) ∈ u) = true := decide_eq_true hv
        have HV := Aside0.mk hv
        rw [hb] at C
        clear hv hb
        go_wp2_with fail
        (with_reducible refine C.out.mono ?_)
        rintro e w' ⟨rfl, rfl⟩
        go_wp2
        go_round
        case rel => exact ⟨k + 1, by omega, by go_num, ⟨fun j h => by
          rcases Nat.lt_or_ge j k with h' | h'
          · exact HJ.out j h'
          · rw [show j = k by omega]; exact HV.out⟩⟩
        case measure => simp [intOf]; omega
      · have hb : decide (rd need (k : Int) ∈ u) = false := decide_eq_false hv
        have HV := Aside0.mk hv
        rw [hb] at C
        clear hv hb
        go_wp2_with fail
        (with_reducible refine C.out.mono ?_)
        rintro e w' ⟨rfl, rfl⟩
        go_wp2
        go_ret
        refine ⟨?_, rfl⟩
        rw [show has need u = false from Bool.eq_false_iff.mpr fun h => HV.out (of_decide_eq_true (List.all_eq_true.1 h _ HM.out))]
        rfl
    · have hkn : k = need.length := by omega
      subst hkn
      go_wp2
      go_ret
      refine ⟨?_, rfl⟩
      rw [show has need u = true from List.all_eq_true.2 fun x hx => by
        obtain ⟨i, hi, e⟩ := List.getElem_of_mem hx
        have h := HJ.out i hi
        unfold rd at h
        rw [Int.toNat_natCast, List.getD_eq_getElem?_getD, List.getElem?_eq_getElem hi] at h
        exact decide_eq_true (by rw [← e]; exact h)]
      rfl
set_option maxHeartbeats 2000000 in
set_option maxRecDepth 100000 in
theorem two_calls (A : Option Addr) (c : Nat) (u : List Int) (w : World) (hu : Kd.C (Kd.int .i64) w A u.length u) (hl : u.length ≤ 1000) :
    Calls Try.prog 18 #[.slice A u.length c] w fun e w' => e = .returned (.bool (decide ((2 : Int) ∈ u))) ∧ w = w' := by
  have C := Aside0.mk (contains_calls A c u 2 w hu (by omega))
  clear hu hl
  go_enter Try.func18, Try.ntmps18
  go_wp2_with fail
  (with_reducible refine C.out.mono ?_)
  rintro e w' ⟨rfl, rfl⟩
  go_wp2
  go_ret
  exact ⟨rfl, rfl⟩
set_option maxHeartbeats 4000000 in
set_option maxRecDepth 100000 in
theorem askN_calls (ga gn n : Nat) (b : Bool) (A : Option Addr) (c : Nat) (u : List Int) (w : World) (hb : w.heap[ga]? = some (.cells #[.func (.func 8) #[] #[.pointer (some ⟨gn, 0, none⟩)], .int .i64 (n : Int)] 38 (0, 0))) (hn : n < 20000) (hu : ∀ W', Kept w W' (fun k => k = ga) → Kd.C (Kd.int .i64) W' A u.length u) (hc : u.length ≤ c) (hl : u.length ≤ 1000)
    (hcl : ∀ (W : World) (A : Option Addr) (c : Nat), Kept w W (fun k => k = ga) → Kd.C (Kd.int .i64) W A u.length u → Calls Try.prog 8 #[.slice A u.length c, .pointer (some ⟨gn, 0, none⟩)] W fun e W' => e = .returned (.bool b) ∧ W = W') :
    Calls Try.prog 14 #[.pointer (some ⟨ga, 0, none⟩), .slice A u.length c] w fun e w' => e = .returned (.bool b) ∧ w'.heap[ga]? = some (.cells #[.func (.func 8) #[] #[.pointer (some ⟨gn, 0, none⟩)], .int .i64 ((n + 1 : Nat) : Int)] 38 (0, 0)) ∧ Kept w w' (fun k => k = ga) := by
  have hu38 := Try.underlying38
  have q1 : w.cell? ⟨ga, 1, none⟩ = some (.int .i64 (n : Int)) := (blk_cell hb 1).trans rfl
  have f1 : w.frozen? ⟨ga, 1, none⟩ = false := blk_frozen hb 1
  have d1 : decide ((20000 : Int) ≤ (n : Int)) = false := decide_eq_false (by omega)
  have d2 : (n : Int) < 20000 := by omega
  have HB := Aside0.mk hb
  have HU := Aside0.mk hu
  have HC := Aside0.mk hc
  have HL := Aside0.mk hl
  have HCL := Aside0.mk hcl
  clear hb hn hu hc hl hcl
  go_enter Try.func14, Try.ntmps14
  go_upto_region 4 with (fail)
  have hnn : (n : Int) + 1 = ((n + 1 : Nat) : Int) := by omega
  have B1 : Aside0 ((w.setCell ⟨ga, 1, none⟩ (.int .i64 ((n : Int) + 1))).heap[ga]? = some (.cells #[.func (.func 8) #[] #[.pointer (some ⟨gn, 0, none⟩)], .int .i64 ((n : Int) + 1)] 38 (0, 0))) := ⟨blk_put HB.out 1 _ rfl⟩
  have K1 : Aside0 (Kept w (w.setCell ⟨ga, 1, none⟩ (.int .i64 ((n : Int) + 1))) (fun k => k = ga)) := ⟨Kept.setCell (S := fun k => k = ga) (p := ⟨ga, 1, none⟩) (Kept.refl w _) (Or.inl rfl) _⟩
  have HNN := Aside0.mk hnn
  clear q1 f1 d1 d2 hnn HB
  generalize w.setCell ⟨ga, 1, none⟩ (.int .i64 ((n : Int) + 1)) = w1 at *
  have q0 : w1.cell? ⟨ga, 0, none⟩ = some (.func (.func 8) #[] #[.pointer (some ⟨gn, 0, none⟩)]) := (blk_cell B1.out 0).trans rfl
  go_region_held3 (fun w' => w'.cell? ⟨ga, 0, none⟩ = some (.func (.func 8) #[] #[.pointer (some ⟨gn, 0, none⟩)]))
    (first | go_keep | exact CK2.out)
    (first
      | (go_at_call 15; (refine (clone_I.calls A c u u _ (HU.out _ K1.out.drew) HC.out (by unfold clone_I.f; rw [if_pos (by have := HL.out; omega)])).mono ?_; rintro e w2 ⟨v2, rfl, ho2, hb2⟩; have K2 := Aside0.mk (K1.out.drew.below hb2); have B2 := Aside0.mk (blk_below (blk_drew B1.out) hb2); have O2 := Aside0.mk ho2; clear ho2 hb2; have CK2 := Aside0.mk ((blk_cell B2.out 0).trans (show _ = some (Value.func (.func 8) #[] #[.pointer (some ⟨gn, 0, none⟩)]) from rfl)); obtain ⟨A2, cc2, e2⟩ := Kd.R_slice O2.out; subst e2))
      | (go_at_call 8; (refine (HCL.out _ A2 cc2 K2.out (Kd.R_reads' O2.out).2.2).mono ?_; rintro e w3 ⟨rfl, rfl⟩)))
  go_wp2
  go_ret
  exact ⟨rfl, by rw [← HNN.out]; exact B2.out, K2.out⟩
set_option maxHeartbeats 4000000 in
set_option maxRecDepth 100000 in
theorem askT_calls (ga  n : Nat) (b : Bool) (A : Option Addr) (c : Nat) (u : List Int) (w : World) (hb : w.heap[ga]? = some (.cells #[.func (.func 18) #[] #[], .int .i64 (n : Int)] 38 (0, 0))) (hn : n < 20000) (hu : ∀ W', Kept w W' (fun k => k = ga) → Kd.C (Kd.int .i64) W' A u.length u) (hc : u.length ≤ c) (hl : u.length ≤ 1000)
    (hcl : ∀ (W : World) (A : Option Addr) (c : Nat), Kept w W (fun k => k = ga) → Kd.C (Kd.int .i64) W A u.length u → Calls Try.prog 18 #[.slice A u.length c] W fun e W' => e = .returned (.bool b) ∧ W = W') :
    Calls Try.prog 14 #[.pointer (some ⟨ga, 0, none⟩), .slice A u.length c] w fun e w' => e = .returned (.bool b) ∧ w'.heap[ga]? = some (.cells #[.func (.func 18) #[] #[], .int .i64 ((n + 1 : Nat) : Int)] 38 (0, 0)) ∧ Kept w w' (fun k => k = ga) := by
  have hu38 := Try.underlying38
  have q1 : w.cell? ⟨ga, 1, none⟩ = some (.int .i64 (n : Int)) := (blk_cell hb 1).trans rfl
  have f1 : w.frozen? ⟨ga, 1, none⟩ = false := blk_frozen hb 1
  have d1 : decide ((20000 : Int) ≤ (n : Int)) = false := decide_eq_false (by omega)
  have d2 : (n : Int) < 20000 := by omega
  have HB := Aside0.mk hb
  have HU := Aside0.mk hu
  have HC := Aside0.mk hc
  have HL := Aside0.mk hl
  have HCL := Aside0.mk hcl
  clear hb hn hu hc hl hcl
  go_enter Try.func14, Try.ntmps14
  go_upto_region 4 with (fail)
  have hnn : (n : Int) + 1 = ((n + 1 : Nat) : Int) := by omega
  have B1 : Aside0 ((w.setCell ⟨ga, 1, none⟩ (.int .i64 ((n : Int) + 1))).heap[ga]? = some (.cells #[.func (.func 18) #[] #[], .int .i64 ((n : Int) + 1)] 38 (0, 0))) := ⟨blk_put HB.out 1 _ rfl⟩
  have K1 : Aside0 (Kept w (w.setCell ⟨ga, 1, none⟩ (.int .i64 ((n : Int) + 1))) (fun k => k = ga)) := ⟨Kept.setCell (S := fun k => k = ga) (p := ⟨ga, 1, none⟩) (Kept.refl w _) (Or.inl rfl) _⟩
  have HNN := Aside0.mk hnn
  clear q1 f1 d1 d2 hnn HB
  generalize w.setCell ⟨ga, 1, none⟩ (.int .i64 ((n : Int) + 1)) = w1 at *
  have q0 : w1.cell? ⟨ga, 0, none⟩ = some (.func (.func 18) #[] #[]) := (blk_cell B1.out 0).trans rfl
  go_region_held3 (fun w' => w'.cell? ⟨ga, 0, none⟩ = some (.func (.func 18) #[] #[]))
    (first | go_keep | exact CK2.out)
    (first
      | (go_at_call 15; (refine (clone_I.calls A c u u _ (HU.out _ K1.out.drew) HC.out (by unfold clone_I.f; rw [if_pos (by have := HL.out; omega)])).mono ?_; rintro e w2 ⟨v2, rfl, ho2, hb2⟩; have K2 := Aside0.mk (K1.out.drew.below hb2); have B2 := Aside0.mk (blk_below (blk_drew B1.out) hb2); have O2 := Aside0.mk ho2; clear ho2 hb2; have CK2 := Aside0.mk ((blk_cell B2.out 0).trans (show _ = some (Value.func (.func 18) #[] #[]) from rfl)); obtain ⟨A2, cc2, e2⟩ := Kd.R_slice O2.out; subst e2))
      | (go_at_call 18; (refine (HCL.out _ A2 cc2 K2.out (Kd.R_reads' O2.out).2.2).mono ?_; rintro e w3 ⟨rfl, rfl⟩)))
  go_wp2
  go_ret
  exact ⟨rfl, by rw [← HNN.out]; exact B2.out, K2.out⟩
end Go.Proofs.Ytgagbfaodeakaab.PMiniNeeds
