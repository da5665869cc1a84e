/- slices.Concat, walked by hand: all numbers of the lists, one list behind the other. -/
import Derived.Test.YtgagbfaodeakaabPMiniNeedsx0
import Derived.Test.YtgagbfaodeakaabMnGrow
namespace Go.Proofs.Ytgagbfaodeakaab.PMiniNeeds
open Go.RowKit Go.Proofs.YtgagbfaodeakaabW.PrintWords Go.Proofs.YtgagbfaodeakaabW.PrintLast Go.Proofs.YtgagbfaodeakaabW.PrintMore
set_option linter.unusedVariables false

def lens (l : List (List Int)) (i : Nat) : Nat := ((l.take i).map List.length).sum
def slices_Concat_int_int.f (l0 : List (List Int)) : Option (List Int) := if l0.length ≤ 1000 ∧ lens l0 l0.length ≤ 1000000 then some l0.flatten else none

theorem lens_succ (l : List (List Int)) (i : Nat) (h : i < l.length) : lens l (i + 1) = lens l i + (l.getD i []).length := by
  unfold lens
  rw [List.take_succ_eq_append_getElem h, List.map_append, List.sum_append_nat]
  simp [List.getD_eq_getElem?_getD, List.getElem?_eq_getElem h]
theorem lens_le (l : List (List Int)) : ∀ d i : Nat, i + d = l.length → lens l i ≤ lens l l.length := by
  intro d
  induction d with
  | zero => intro i h; rw [show i = l.length by omega]; exact Nat.le_refl _
  | succ d ih =>
    intro i h
    have h1 := ih (i + 1) (by omega)
    have h2 := lens_succ l i (by omega)
    omega
theorem flat_succ (l : List (List Int)) (i : Nat) (h : i < l.length) : (l.take (i + 1)).flatten = (l.take i).flatten ++ l.getD i [] := by
  rw [List.take_succ_eq_append_getElem h, List.flatten_append]
  simp [List.getD_eq_getElem?_getD, List.getElem?_eq_getElem h]
theorem flat_len (l : List (List Int)) (i : Nat) : (l.take i).flatten.length = lens l i := by
  unfold lens; rw [List.length_flatten]

theorem row_at {w : World} {A : Option Addr} {n : Nat} {xs : List (List Int)} (h : Kd.C (Kd.slice 3 (Kd.int .i64)) w A n xs) (i : Nat) (h1 : i < n) :
    ∃ ad B c, A = some ad ∧ w.cell? (ad.add i) = some (.slice B (xs.getD i []).length c) ∧ (xs.getD i []).length ≤ c ∧ Kd.C (Kd.int .i64) w B (xs.getD i []).length (xs.getD i []) := by
  obtain ⟨ad, c, e, _, hK, hc⟩ := Kd.C_get h [] (i : Int) (by omega) (by omega)
  obtain ⟨B, q, hcs, hl, hC⟩ := hK
  rw [Int.toNat_natCast] at hcs hl hC hc
  subst hcs
  have h2 := hc 0 _ rfl
  rw [show i * (Kd.slice 3 (Kd.int .i64)).sz + 0 = i from by show i * 1 + 0 = i; omega] at h2
  exact ⟨ad, B, q, e, h2, hl, hC⟩

set_option maxRecDepth 100000 in
set_option maxHeartbeats 2000000 in
theorem concat_walk (A0 : Option Addr) (c0 : Nat) (l0 : List (List Int)) (w : World) (hr0 : Kd.C (Kd.slice 3 (Kd.int .i64)) w A0 l0.length l0) (hc0 : l0.length ≤ c0) (h1 : l0.length ≤ 1000) (h2 : lens l0 l0.length ≤ 1000000) :
    Calls Try.prog 16 #[.slice A0 l0.length c0] w fun e w' => ∃ v0_ : Value, e = .returned (v0_) ∧ Kd.R (Kd.int .i64) 3 w' w.heap.size (fun _ => True) v0_ l0.flatten ∧ Below w.heap.size w w' := by
  have HR0 := Aside0.mk hr0
  have H2 := Aside0.mk h2
  clear hr0 h2
  go_enter Try.func16, Try.ntmps16
  go_wp2
  go_loop [3, 11] (fun v3 v11 => ∃ i : Nat, i ≤ l0.length ∧ v11 = .int .i64 i ∧ v3 = .int .i64 ((lens l0 i : Nat) : Int)) (fun _ v11 => l0.length - (intOf v11).toNat)
  case atStart => exact ⟨0, by omega, rfl, by simp [lens]⟩
  case round =>
    obtain ⟨i, hi, rfl, rfl⟩ := hrel
    by_cases hlt : i < l0.length
    · obtain ⟨ad, B, q, rfl, g0, g1, _⟩ := row_at HR0.out i (by omega)
      have hs := lens_succ l0 i hlt
      have hle := lens_le l0 (l0.length - (i + 1)) (i + 1) (by omega)
      have hb : lens l0 i + (l0.getD i []).length ≤ 1000000 := by have := H2.out; omega
      have HS := Aside0.mk hs
      have hnn : 0 ≤ ((lens l0 i : Nat) : Int) + (((l0.getD i []).length : Nat) : Int) := by omega
      have hnn2 : decide (((lens l0 i : Nat) : Int) + (((l0.getD i []).length : Nat) : Int) < 0) = false := decide_eq_false (by omega)
      generalize hx : l0.getD i [] = x at *
      clear hx hs hle
      go_wp2
      go_round
      case rel => exact ⟨i + 1, by omega, by go_num, by rw [HS.out]; push_cast; rfl⟩
      case measure => simp [intOf]; omega
    · have hie : i = l0.length := by omega
      have G := Aside0.mk (grow_nil ((lens l0 i : Nat) : Int) w (by omega) (by have := H2.out; rw [hie]; omega))
      clear hie
      go_wp2_with fail
      (with_reducible refine G.out.mono ?_)
      rintro e w1 ⟨v1, rfl, hr1, hb1⟩
      have HR1 := Aside0.mk hr1
      have HB1 := Aside0.mk hb1
      clear hr1 hb1 G
      go_wp2
      go_loopw [6, 27] (fun v6 v27 wr => ∃ i : Nat, i ≤ l0.length ∧ v27 = .int .i64 i ∧ Aside0 (Kd.R (Kd.int .i64) 3 wr w.heap.size (fun _ => True) v6 (l0.take i).flatten) ∧ Aside0 (Below w.heap.size w wr)) (fun _ v27 _ => l0.length - (intOf v27).toNat)
      case atStart => exact ⟨0, by omega, rfl, by simpa using HR1, HB1⟩
      case round =>
        obtain ⟨j, hj, rfl, HR, HB⟩ := hrel
        by_cases hjl : j < l0.length
        · obtain ⟨ad, B, q, rfl, g0, g1, g2⟩ := row_at (Kd.C_below HR0.out HB.out) j (by omega)
          have hs := lens_succ l0 j hjl
          have hle := lens_le l0 (l0.length - (j + 1)) (j + 1) (by omega)
          have hf := flat_succ l0 j hjl
          have hfl := flat_len l0 j
          have SL : Aside0 ((l0.take j).flatten.length + (l0.getD j []).length ≤ 1000000) := ⟨by have := H2.out; omega⟩
          have HF := Aside0.mk hf
          generalize hx : l0.getD j [] = x at *
          have G2 := Aside0.mk g2
          clear hx hs hle hf hfl g2
          go_wp2_with ((with_reducible refine gate_builtin (b := .append) (xs := #[.tmp 31, .tmp 32]) rfl ?_); at_builtin; refine Kd.R_append_rows (Kd.int .i64) (w0 := w) w.heap.size rfl (.tmp 31) (.tmp 32) 22 3 (.int .i64 0) 8 rfl Try.underlying22 info3 rfl (by decide) (by omega) u6 (l0.take j).flatten x _ _ _ (fun _ => True) (fun _ => False) rfl rfl ?aO ?aR (fun _ _ h => h) (fun _ h => h.elim) ?aF ?aB ?aS ?aL ?_; (case aO => exact HR.out); (case aR => exact G2.out); (case aF => exact (fun _ _ => trivial)); (case aB => exact HB.out); (case aS => exact HB.out.size); (case aL => have := SL.out; omega); intro v7 w7 ho hb hg hat; have HR7 := Aside0.mk ho; have HB7 := Aside0.mk hb; clear ho hb hg hat)
          go_roundw
          case rel => exact ⟨j + 1, by omega, by go_num, ⟨by rw [HF.out]; exact HR7.out⟩, HB7⟩
          case measure => simp [intOf]; omega
        · have hje : (l0.take j).flatten = l0.flatten := by rw [List.take_of_length_le (by omega)]
          have HR' := HR.out
          rw [hje] at HR'
          have HR2 := Aside0.mk HR'
          clear hje HR'
          go_wp2
          go_ret
          exact ⟨_, rfl, HR2.out, HB.out⟩

theorem slices_Concat_int_int.calls (A0 : Option Addr) (c0 : Nat) (l0 : List (List Int)) (r : List Int) (w : World) (hr0 : Kd.C (Kd.slice 3 (Kd.int .i64)) w A0 l0.length l0) (hc0 : l0.length ≤ c0) (h : slices_Concat_int_int.f l0 = some r) :
    Calls Try.prog 16 #[.slice A0 l0.length c0] w fun e w' => ∃ v0_ : Value, e = .returned (v0_) ∧ Kd.R (Kd.int .i64) 3 w' w.heap.size (fun _ => True) v0_ r ∧ Below w.heap.size w w' := by
  unfold slices_Concat_int_int.f at h
  split at h
  · rename_i h1
    obtain rfl := Option.some.inj h
    exact concat_walk A0 c0 l0 w hr0 hc0 h1.1 h1.2
  · cases h

end Go.Proofs.Ytgagbfaodeakaab.PMiniNeeds
