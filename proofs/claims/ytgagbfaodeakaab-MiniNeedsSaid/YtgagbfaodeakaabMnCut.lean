/- The law's fact (cut, function 10), walked by hand. Own text of this claim. -/
import Derived.Test.YtgagbfaodeakaabMnPlain
import Derived.Test.YtgagbfaodeakaabPMiniNeedsx7
import Derived.Test.YtgagbfaodeakaabPMiniNeedsx1
namespace Go.Proofs.Ytgagbfaodeakaab.PMiniNeeds
open Go.RowKit Go.Proofs.YtgagbfaodeakaabW.PrintWords Go.Proofs.YtgagbfaodeakaabW.PrintLast Go.Proofs.YtgagbfaodeakaabW.PrintMore
set_option linter.unusedVariables false
set_option linter.unusedSimpArgs false
theorem wnextM {n : Nat} (h : n ≤ 1000000) : wrap64 ((n : Int) + 1) = ((n + 1 : Nat) : Int) := by unfold wrap64; omega
theorem eq_l0M (l : List Int) (hl : l.length ≤ 1000) : ∀ d i : Nat, i + d = l.length → Ev (fun k => slices_Equal_int_int.l0 k l l (l.length : Int) (i : Int)) true := by
  intro d
  induction d with
  | zero => intro i hi; refine Ev.step (fun k => ?_) (Ev.now _); simp only [slices_Equal_int_int.l0]; rw [if_neg (by omega)]
  | succ d ih =>
    intro i hi
    refine Ev.step (fun k => ?_) (ih (i + 1) (by omega))
    simp only [slices_Equal_int_int.l0]; rw [if_pos (by omega), if_pos (by omega), if_pos (by omega), if_pos (by omega), if_pos trivial, wnextM (by omega)]
theorem eq_isM (l : List Int) (hl : l.length ≤ 1000) : ∃ k, slices_Equal_int_int.f k l l = some true :=
  (Ev.congr (fun k => by unfold slices_Equal_int_int.f; rw [if_pos rfl]; rfl) (eq_l0M l hl l.length 0 (by omega))).rounds
theorem has_two (u : List Int) : has [2] u = decide ((2 : Int) ∈ u) := by simp [has]
theorem asks_two (w : World) : Asks (has [2]) (.func (.func 18) #[] #[]) w := fun ga n A c u W hga hb hbk hn hu hc hl => by
  rw [has_two]
  exact askT_calls ga n _ A c u W hbk hn hu hc hl (fun W A c hk hC => two_calls A c u W hC hl)
theorem asks_need (gn : Nat) (An : Option Addr) (cn : Nat) (need : List Int) (w : World) (hgn : w.cell? ⟨gn, 0, none⟩ = some (.slice An need.length cn)) (hN : ∀ W', Kept w W' (fun _ => False) → Kd.C (Kd.int .i64) W' An need.length need) (hl2 : need.length ≤ 1000) : Asks (has need) (.func (.func 8) #[] #[.pointer (some ⟨gn, 0, none⟩)]) w := fun ga n A c u W hga hb hbk hn hu hc hl => by
  have hg := World.block_lt_of_cell? w _ hgn
  refine askN_calls ga gn n _ A c u W hbk hn hu hc hl (fun W2 A c hk hC => need_calls gn A An c cn u need W2 ?_ (hN W2 ?_) hC hl hl2)
  · exact cell_kept ((hb.cell hg).trans hgn) hk (by show gn ≠ ga; have : gn < w.heap.size := hg; omega)
  · exact ⟨Nat.le_trans hb.size hk.1, fun i hi _ => (hk.2 i (Nat.lt_of_lt_of_le hi hb.size) (by omega)).trans (hb.block i hi), (Calm.below hb).trans hk.3⟩
/-- A literal of numbers reads. -/
theorem lit_C {W : World} {n : Nat} {xs : List Int} (hb : W.heap[n]? = some (.cells (xs.map (Value.int .i64)).toArray 3 (0, 0))) (hl : xs.length ≤ 1000) : Kd.C (Kd.int .i64) W (some ⟨n, 0, none⟩) xs.length xs := by
  have h : Kd.R (Kd.int .i64) 3 W 0 (fun _ => True) (.slice (some ⟨n, 0, none⟩) xs.length xs.length) xs :=
    Kd.R_of_own (enc := Value.int .i64) (h1 := fun _ => rfl) ⟨by simp [encs], .inr ⟨n, xs.length, _, rfl, Nat.zero_le _, hb, Nat.le_refl _, by unfold maxLen; omega, by simp, by rw [Nat.mul_one]; exact List.take_of_length_le (by simp)⟩⟩ (fun _ _ => trivial)
  exact (Kd.R_reads' h).2.2
theorem lit_keeps {W : World} {n : Nat} {xs : List Int} (hb : W.heap[n]? = some (.cells (xs.map (Value.int .i64)).toArray 3 (0, 0))) (hl : xs.length ≤ 1000) : ∀ W', Kept W W' (fun _ => False) → Kd.C (Kd.int .i64) W' (some ⟨n, 0, none⟩) xs.length xs := fun W' hk => lit_C (blk_kept hb hk (fun h => h)) hl
set_option maxHeartbeats 4000000 in
set_option maxRecDepth 100000 in
theorem cut_calls (w : World) : Calls Try.prog 10 #[] w fun e w' => e = .returned (.bool true) ∧ Below w.heap.size w w' := by
  have b1 := blk_new w (.cells #[.int .i64 1, .int .i64 2, .int .i64 3] 3)
  have C1 := Aside0.mk (make_calls (has [2]) (.func 18) #[] #[] (some ⟨w.heap.size, 0, none⟩) 3 [1, 2, 3] (w.alloc (.cells #[.int .i64 1, .int .i64 2, .int .i64 3] 3)) (asks_two _) (lit_C (xs := [1, 2, 3]) b1 (by decide)) (lit_keeps (xs := [1, 2, 3]) b1 (by decide)) (by decide) (by decide) (by decide))
  rw [show ([1, 2, 3] : List Int).length = 3 from rfl] at C1
  clear b1
  go_enter Try.func10, Try.ntmps10
  go_wp2_with fail
  (with_reducible refine C1.out.mono ?_)
  rintro e w2 ⟨v, n, out, rfl, hn, hr, hb, hs, hP, hL⟩
  have ho : out = [2] := left_is (need := [2]) (by simp) (by decide) hs hP hL
  subst ho
  have HR := Aside0.mk hr
  have HB := Aside0.mk (below_then (below_alloc (Below.refl w.heap.size w) (.cells #[.int .i64 1, .int .i64 2, .int .i64 3] 3)) (below_alloc (Below.refl w.heap.size w) (.cells #[.int .i64 1, .int .i64 2, .int .i64 3] 3)).size hb)
  have hnd : decide ((0 : Int) < (n : Int)) = true := decide_eq_true (by omega)
  have hnd2 : decide (0 < n) = true := decide_eq_true hn
  clear hr hb hs hP hL hn C1
  obtain ⟨A, c, e1⟩ := Kd.R_slice HR.out
  rw [show ([2] : List Int).length = 1 from rfl] at e1
  subst e1
  obtain ⟨k, hk⟩ := eq_isM [2] (by decide)
  have C2 := Aside0.mk (slices_Equal_int_int.calls k A c [2] (some ⟨w2.heap.size, 0, none⟩) 1 [2] true (w2.alloc (.cells #[.int .i64 2] 3)) (Kd.R_reads' (Kd.R_alloc HR.out _)).2.2 (Kd.R_reads' HR.out).2.1 (lit_C (xs := [2]) (blk_new _ _) (by decide)) (Nat.le_refl _) hk)
  rw [show ([2] : List Int).length = 1 from rfl] at C2
  clear hk
  go_wp2_with fail
  (with_reducible refine C2.out.mono ?_)
  rintro e w3 ⟨rfl, hd⟩
  have HB3 := Aside0.mk (hd.below)
  clear hd C2
  go_wp2
  go_ret
  exact ⟨rfl, below_then (below_then HB.out HB.out.size (below_alloc (Below.refl _ _) _)) (below_then HB.out HB.out.size (below_alloc (Below.refl _ _) _)).size HB3.out⟩
end Go.Proofs.Ytgagbfaodeakaab.PMiniNeeds
