/- Resample, walked by hand: under bounds, the samples are the differences of the sums up to the times. -/
import Derived.Test.YtijfinimlnedpaaPPerx3
import Derived.Test.YtijfinimlnedpaaPPerx4
import Derived.Test.YtijfinimlnedpaaPPerx5
import Derived.Test.YtijfinimlnedpaaPPerUpto
namespace Go.Proofs.Ytijfinimlnedpaa.PPer
open Go.RowKit Go.Proofs.YtijfinimlnedpaaW.PrintWords Go.Proofs.YtijfinimlnedpaaW.PrintLast Go.Proofs.YtijfinimlnedpaaW.PrintMore
set_option linter.unusedVariables false

/-- Where the walk is told: levels and a ratio in range, and not too many samples. -/
def RsOk (l : List Int) (up down : Int) : Prop := l.length ≤ 100000 ∧ (∀ x ∈ l, 0 ≤ x ∧ x ≤ 1048576) ∧ (1 ≤ up ∧ up ≤ 1000) ∧ (1 ≤ down ∧ down ≤ 1000) ∧ (l.length : Int) * up / down ≤ 100000
instance (l : List Int) (up down : Int) : Decidable (RsOk l up down) := by unfold RsOk; infer_instance
def PsOk (l p : List Int) : Prop := p.length = l.length + 1 ∧ ∀ x ∈ p, 0 ≤ x ∧ x ≤ 200000000000
instance (l p : List Int) : Decidable (PsOk l p) := by unfold PsOk; infer_instance
def samples (p l : List Int) (up down : Int) (n : Nat) : List Int := (List.range n).map fun i : Nat => upto p l up down ((i : Int) + 1) - upto p l up down (i : Int)
theorem samples_succ (p l : List Int) (up down : Int) (n : Nat) : samples p l up down (n + 1) = samples p l up down n ++ [upto p l up down ((n : Int) + 1) - upto p l up down (n : Int)] := by
  unfold samples; rw [List.range_succ, List.map_append]; rfl
theorem samples_len (p l : List Int) (up down : Int) (n : Nat) : (samples p l up down n).length = n := by unfold samples; simp

def samp_Resample.f (k : Nat) (l0 : List Int) (a1 : Int) (a2 : Int) : Option (List Int × Int) :=
  if RsOk l0 a1 a2 then (samp_Check.f k l0).bind fun t => if t = 0 then (samp_sums.f k l0).bind fun p => if PsOk l0 p then some (samples p l0 a1 a2 ((l0.length : Int) * a1 / a2).toNat, 0) else none else none else none
theorem samp_Resample.mono : ∀ a0 a1 a2 k, LeO (samp_Resample.f k a0 a1 a2) (samp_Resample.f (k + 1) a0 a1 a2) := by
  intro a0 a1 a2 k r h
  unfold samp_Resample.f at h ⊢
  split at h
  · rename_i h1
    rw [if_pos h1]
    obtain ⟨t, ht, h⟩ := Option.bind_eq_some_iff.mp h
    rw [samp_Check.mono _ _ _ ht, Option.bind_some]
    split at h
    · rename_i h2
      rw [if_pos h2]
      obtain ⟨p, hp, h⟩ := Option.bind_eq_some_iff.mp h
      rw [samp_sums.mono _ _ _ hp, Option.bind_some]
      exact h
    · cases h
  · cases h

theorem rd_bound (l : List Int) (lo hi : Int) (h : ∀ x ∈ l, lo ≤ x ∧ x ≤ hi) (i : Int) (h0 : 0 ≤ i) (h1 : i < l.length) : lo ≤ rd l i ∧ rd l i ≤ hi := by
  unfold rd
  have hi' : i.toNat < l.length := by omega
  rw [List.getD_eq_getElem?_getD, List.getElem?_eq_getElem hi']
  exact h _ (List.getElem_mem _)

theorem upto_any (k : Int) (p l : List Int) (up down : Int) (Ap Al : Option Addr) (cp cl : Nat) (D U Pb Lb : Addr) (w : World)
    (hd : w.cell? D = some (.int .i64 down)) (hu : w.cell? U = some (.int .i64 up)) (hp : w.cell? Pb = some (.slice Ap p.length cp)) (hl : w.cell? Lb = some (.slice Al l.length cl))
    (hP : Kd.C (Kd.int .i64) w Ap p.length p) (hL : Kd.C (Kd.int .i64) w Al l.length l) (hok : RsOk l up down) (hps : PsOk l p) (k0 : 0 ≤ k) (k1 : k ≤ (l.length : Int) * up / down) :
    Calls Try.prog 63 #[.int .i64 k, .pointer (some D), .pointer (some U), .pointer (some Pb), .pointer (some Lb)] w fun e w' => e = .returned (.int .i64 (upto p l up down k)) ∧ Drawn0 w w' := by
  obtain ⟨h1, h2, ⟨h3, h4⟩, ⟨h5, h6⟩, h7⟩ := hok
  obtain ⟨h8, h9⟩ := hps
  have e0 : 0 ≤ k * down := Int.mul_nonneg k0 (by omega)
  have e1 : k * down ≤ (l.length : Int) * up := Int.le_trans (Int.mul_le_mul_of_nonneg_right k1 (by omega)) (Int.ediv_mul_le _ (by omega))
  have e2 : (l.length : Int) * up ≤ 100000 * 1000 := Int.mul_le_mul (by omega) h4 (by omega) (by omega)
  have j0 : 0 ≤ k * down / up := Int.ediv_nonneg e0 (by omega)
  have j1 : k * down / up ≤ l.length := Int.ediv_le_of_le_mul (by omega) e1
  by_cases hz : k * down % up = 0
  · exact upto_zero k up down p l Ap Al cp cl D U Pb Lb w hd hu hp hl hP h3 h4 e0 (by omega) (by omega) hz
  · have j2 : k * down / up < l.length := by
      rcases Int.lt_or_eq_of_le j1 with h | h
      · exact h
      · exfalso
        have hm := Int.mul_ediv_add_emod (k * down) up
        have hm0 := Int.emod_nonneg (k * down) (show up ≠ 0 by omega)
        rw [h, Int.mul_comm up] at hm
        omega
    exact upto_part k up down p l Ap Al cp cl D U Pb Lb w hd hu hp hl hP hL h3 h4 e0 (by omega) (by omega) j2 hz (rd_bound l _ _ h2 _ j0 j2) (rd_bound p _ _ h9 _ j0 (by omega))

theorem upto_bound (k : Int) (p l : List Int) (up down : Int) (hok : RsOk l up down) (hps : PsOk l p) (k0 : 0 ≤ k) (k1 : k ≤ (l.length : Int) * up / down) : 0 ≤ upto p l up down k ∧ upto p l up down k ≤ 300000000000 := by
  obtain ⟨h1, h2, ⟨h3, h4⟩, ⟨h5, h6⟩, h7⟩ := hok
  obtain ⟨h8, h9⟩ := hps
  have e0 : 0 ≤ k * down := Int.mul_nonneg k0 (by omega)
  have e1 : k * down ≤ (l.length : Int) * up := Int.le_trans (Int.mul_le_mul_of_nonneg_right k1 (by omega)) (Int.ediv_mul_le _ (by omega))
  have j0 : 0 ≤ k * down / up := Int.ediv_nonneg e0 (by omega)
  have j1 : k * down / up ≤ l.length := Int.ediv_le_of_le_mul (by omega) e1
  have b1 := rd_bound p _ _ h9 _ j0 (by omega)
  unfold upto
  split
  · omega
  · rename_i hz
    have j2 : k * down / up < l.length := by
      rcases Int.lt_or_eq_of_le j1 with h | h
      · exact h
      · exfalso
        have hm := Int.mul_ediv_add_emod (k * down) up
        have hm0 := Int.emod_nonneg (k * down) (show up ≠ 0 by omega)
        rw [h, Int.mul_comm up] at hm
        omega
    have b2 := rd_bound l _ _ h2 _ j0 j2
    have m0 : 0 ≤ k * down % up := Int.emod_nonneg _ (by omega)
    have m1 : k * down % up < up := Int.emod_lt_of_pos _ (by omega)
    have q0 : 0 ≤ (k * down % up) * rd l (k * down / up) := Int.mul_nonneg m0 b2.1
    have q1 : (k * down % up) * rd l (k * down / up) ≤ 1000 * 1048576 := Int.mul_le_mul (by omega) b2.2 b2.1 (by omega)
    have z0 : 0 ≤ (k * down % up) * rd l (k * down / up) / up := Int.ediv_nonneg q0 (by omega)
    have z1 : (k * down % up) * rd l (k * down / up) / up ≤ 1000 * 1048576 := Int.le_trans (Int.ediv_le_self _ q0) q1
    omega

set_option maxHeartbeats 2000000 in
theorem samp_Resample.calls (k : Nat) (A0 : Option Addr) (c0 : Nat) (l0 : List Int) (a1 : Int) (a2 : Int) (r1 : List Int) (r2 : Int) (w : World) (hr0 : Kd.C (Kd.int .i64) w A0 l0.length l0) (hc0 : l0.length ≤ c0) (h : samp_Resample.f k l0 a1 a2 = some (r1, r2)) :
    Calls Try.prog 16 #[.slice A0 l0.length c0, .int .i64 a1, .int .i64 a2] w fun e w' => ∃ v0_ : Value, e = .returned (.tuple #[v0_, .int .i64 r2]) ∧ Kd.R (Kd.int .i64) 3 w' w.heap.size (fun _ => True) v0_ r1 ∧ Below w.heap.size w w' := by
  unfold samp_Resample.f at h
  by_cases hok : RsOk l0 a1 a2
  case neg => rw [if_neg hok] at h; cases h
  rw [if_pos hok] at h
  obtain ⟨t, ht, h⟩ := Option.bind_eq_some_iff.mp h
  by_cases h0 : t = 0
  case neg => rw [if_neg h0] at h; cases h
  subst h0
  rw [if_pos rfl] at h
  obtain ⟨p, hp, h⟩ := Option.bind_eq_some_iff.mp h
  by_cases hps : PsOk l0 p
  case neg => rw [if_neg hps] at h; cases h
  rw [if_pos hps] at h
  simp only [Option.some.injEq, Prod.mk.injEq] at h
  obtain ⟨hr1, rfl⟩ := h
  have HOK := Aside0.mk hok
  have HPS := Aside0.mk hps
  have HT := Aside0.mk ht
  have HP := Aside0.mk hp
  have HR0 := Aside0.mk hr0
  have HC0 := Aside0.mk hc0
  have HR1 := Aside0.mk hr1
  have HRT : Aside0 (samp_ratio.f a1 a2 = some true) := ⟨by
    obtain ⟨_, _, ⟨h3, h4⟩, ⟨h5, h6⟩, _⟩ := hok
    unfold samp_ratio.f; rw [if_pos h3, if_pos h4, if_pos h5, decide_eq_true h6]⟩
  obtain ⟨q1, q2, ⟨q3, q4⟩, ⟨q5, q6⟩, q7⟩ := hok
  have e0 : 0 ≤ (l0.length : Int) * a1 := Int.mul_nonneg (by omega) (by omega)
  have e1 : (l0.length : Int) * a1 ≤ 100000 * 1000 := Int.mul_le_mul (by omega) q4 (by omega) (by omega)
  have e2 : 0 ≤ (l0.length : Int) * a1 / a2 := Int.ediv_nonneg e0 (by omega)
  clear hps ht hp hr0 hc0 hr1 q2
  go_enter Try.func16, Try.ntmps16
  go_wp2_with (first | (go_at_call 60; (with_reducible refine (samp_Check.calls k _ _ l0 0 _ ?side1 ?side2 HT.out).mono ?_); (case side1 => repeat (first | exact HR0.out | (with_reducible refine Kd.C_alloc ?_ _) | (with_reducible refine Kd.C_drewN ?_ _) | (with_reducible refine Kd.C_drew ?_))); (case side2 => exact HC0.out); rintro e w' ⟨rfl, ⟨nd, rfl⟩⟩) | (go_at_call 61; (with_reducible refine (samp_ratio.calls a1 a2 true _ HRT.out).mono ?_); rintro e w' ⟨rfl, ⟨nd2, rfl⟩⟩))
  generalize hW1 : ((((w.alloc (Obj.cells #[Value.slice A0 l0.length c0] 22)).alloc (Obj.cells #[Value.int IntKind.i64 a1] 3)).alloc (Obj.cells #[Value.int IntKind.i64 a2] 3)).drewN (nd + nd2)) = W1
  have hb0 : Below w.heap.size w W1 := by rw [← hW1]; exact (pw_below_drewN (below_alloc (below_alloc (below_alloc (Below.refl _ _) _) _) _) _)
  have hz1 : W1.heap.size = w.heap.size + 3 := by rw [← hW1]; simp
  have hcl : W1.cell? ⟨w.heap.size, 0, none⟩ = some (.slice A0 l0.length c0) := by clear hb0 hz1; subst hW1; go_simp
  have hcu : W1.cell? ⟨w.heap.size + 1, 0, none⟩ = some (.int .i64 a1) := by clear hb0 hz1 hcl; subst hW1; go_simp
  have hcd : W1.cell? ⟨w.heap.size + 2, 0, none⟩ = some (.int .i64 a2) := by clear hb0 hz1 hcl hcu; subst hW1; go_simp
  have HW1 := Aside0.mk hW1
  clear hW1
  have HRW := Aside0.mk (Kd.C_below HR0.out hb0)
  refine (samp_sums.calls k _ _ l0 p _ HRW.out HC0.out HP.out).mono ?_
  rintro e w2 ⟨vp, rfl, HRp, HBp⟩
  obtain ⟨Ap, cp, rfl, hcp, HCp⟩ := Kd.R_reads HRp
  go_wp2
  generalize hWB : w2.alloc (Obj.cells #[Value.slice Ap p.length cp] 22) = WB
  have hzB : WB.heap.size = w2.heap.size + 1 := by rw [← hWB]; simp
  have hz2 : w.heap.size + 3 ≤ w2.heap.size := by have := HBp.size; omega
  have hb2 : Below W1.heap.size W1 WB := by rw [← hWB]; exact below_alloc HBp _
  have kcl : WB.cell? ⟨w.heap.size, 0, none⟩ = some (.slice A0 l0.length c0) := (hb2.cell (p := ⟨w.heap.size, 0, none⟩) (by show w.heap.size < _; omega)).trans hcl
  have kcu : WB.cell? ⟨w.heap.size + 1, 0, none⟩ = some (.int .i64 a1) := (hb2.cell (p := ⟨w.heap.size + 1, 0, none⟩) (by show w.heap.size + 1 < _; omega)).trans hcu
  have kcd : WB.cell? ⟨w.heap.size + 2, 0, none⟩ = some (.int .i64 a2) := (hb2.cell (p := ⟨w.heap.size + 2, 0, none⟩) (by show w.heap.size + 2 < _; omega)).trans hcd
  have kcp : WB.cell? ⟨w2.heap.size, 0, none⟩ = some (.slice Ap p.length cp) := by clear hzB hb2 kcl kcu kcd; subst hWB; go_simp
  have KP : Aside0 (Kd.C (Kd.int .i64) WB Ap p.length p) := ⟨by rw [← hWB]; exact Kd.C_alloc HCp _⟩
  have KL : Aside0 (Kd.C (Kd.int .i64) WB A0 l0.length l0) := ⟨Kd.C_below HRW.out hb2⟩
  have hbW : Below w.heap.size w WB := hb0.trans (hb2.mono (by omega))
  clear hcl hcu hcd hb2 HRp HBp HCp hb0 hWB HW1 HRW HT HP hcp
  have KB := Aside0.mk hbW
  clear hbW
  go_loopw [12, 35] (fun v12 v35 wr => ∃ i : Nat, (i : Int) ≤ (l0.length : Int) * a1 / a2 ∧ v35 = .int .i64 i ∧ Aside0 (Kd.R (Kd.int .i64) 3 wr WB.heap.size (fun _ => True) v12 (samples p l0 a1 a2 i)) ∧ Aside0 (Below WB.heap.size WB wr)) (fun _ v35 _ => ((l0.length : Int) * a1 / a2).toNat - (intOf v35).toNat)
  case atStart => exact ⟨0, by omega, rfl, ⟨Kd.R_nil _ _ _ _ _⟩, ⟨Below.refl _ _⟩⟩
  case round =>
    obtain ⟨i, hi, rfl, HR, HB⟩ := hrel
    by_cases hlt : (i : Int) < (l0.length : Int) * a1 / a2
    · have bl := HB.out
      have zz := bl.size
      have dcl : wr.cell? ⟨w.heap.size, 0, none⟩ = some (.slice A0 l0.length c0) := (bl.cell (p := ⟨w.heap.size, 0, none⟩) (by show w.heap.size < _; omega)).trans kcl
      have dcu : wr.cell? ⟨w.heap.size + 1, 0, none⟩ = some (.int .i64 a1) := (bl.cell (p := ⟨w.heap.size + 1, 0, none⟩) (by show w.heap.size + 1 < _; omega)).trans kcu
      have dcd : wr.cell? ⟨w.heap.size + 1 + 1, 0, none⟩ = some (.int .i64 a2) := (bl.cell (p := ⟨w.heap.size + 1 + 1, 0, none⟩) (by show w.heap.size + 1 + 1 < _; omega)).trans kcd
      have dcp : wr.cell? ⟨w2.heap.size, 0, none⟩ = some (.slice Ap p.length cp) := (bl.cell (p := ⟨w2.heap.size, 0, none⟩) (by show w2.heap.size < _; omega)).trans kcp
      have DP := Aside0.mk (Kd.C_below KP.out bl)
      have DL := Aside0.mk (Kd.C_below KL.out bl)
      have u1 := upto_bound ((i : Int) + 1) p l0 a1 a2 HOK.out HPS.out (by omega) (by omega)
      have u2 := upto_bound (i : Int) p l0 a1 a2 HOK.out HPS.out (by omega) (by omega)
      have c1 := upto_any ((i : Int) + 1) p l0 a1 a2 Ap A0 cp c0 ⟨w.heap.size + 1 + 1, 0, none⟩ ⟨w.heap.size + 1, 0, none⟩ ⟨w2.heap.size, 0, none⟩ ⟨w.heap.size, 0, none⟩ wr dcd dcu dcp dcl DP.out DL.out HOK.out HPS.out (by omega) (by omega)
      have c2 := fun m => upto_any (i : Int) p l0 a1 a2 Ap A0 cp c0 ⟨w.heap.size + 1 + 1, 0, none⟩ ⟨w.heap.size + 1, 0, none⟩ ⟨w2.heap.size, 0, none⟩ ⟨w.heap.size, 0, none⟩ (wr.drewN m) (by go_simp) (by go_simp) (by go_simp) (by go_simp) (Kd.C_drewN DP.out m) (Kd.C_drewN DL.out m) HOK.out HPS.out (by omega) (by omega)
      have hsc := samples_succ p l0 a1 a2 i
      generalize hA : upto p l0 a1 a2 ((i : Int) + 1) = A at *
      generalize hB : upto p l0 a1 a2 (i : Int) = B at *
      have C1 := Aside0.mk c1
      have C2 := Aside0.mk c2
      have HSC := Aside0.mk hsc
      have slen := samples_len p l0 a1 a2 i
      have SLEN := Aside0.mk slen
      clear c1 c2 hA hB hsc slen dcl dcu dcd dcp bl zz
      go_wp2_with fail
      refine C1.out.mono ?_
      rintro e w3 ⟨rfl, n1, rfl⟩
      go_wp2_with fail
      refine (C2.out n1).mono ?_
      rintro e w3 ⟨rfl, n2, rfl⟩
      go_wp2_with ((with_reducible refine gate_builtin (b := .append) (xs := #[.tmp 38, .tmp 47]) rfl ?_); at_builtin; refine Kd.R_append (Kd.int .i64) (w0 := WB) WB.heap.size rfl (.tmp 38) (.tmp 47) 22 3 (.int .i64 0) 8 rfl Try.underlying22 info3 rfl (by decide) (by omega) u12 (samples p l0 a1 a2 i) (A - B) [.int .i64 (A - B)] (fun _ => True) (fun _ => False) rfl rfl ?aP (fun _ hk => hk.elim) ?aF ?aO ?aB ?aS ?aL ?_; (case aP => exact rfl); (case aB => exact (by repeat (first | (with_reducible first | exact HB.out | apply below_alloc | apply pw_below_drewN | apply below_drew1) | exact HB.out))); (case aF => exact (fun _ _ => trivial)); (case aO => exact (by (with_reducible repeat (first | apply Kd.R_alloc | apply Kd.R_drewN | apply Kd.R_drew)); exact HR.out)); (case aS => exact (below_size (by repeat (first | (with_reducible first | exact HB.out | apply below_alloc | apply pw_below_drewN | apply below_drew1) | exact HB.out)))); (case aL => have := SLEN.out; omega); intro v105 w11 ho hb hg hat; have n0_ := Aside0.mk hb; have n1_ := Aside0.mk ho; clear HB HR; have HB := n0_; have HR := n1_; clear n0_ n1_; clear ho hb hg hat)
      go_roundw
      case rel => exact ⟨i + 1, by omega, by go_num, ⟨by rw [HSC.out]; exact HR.out⟩, ⟨HB.out⟩⟩
      case measure => simp [intOf]; omega
    · have hie : (i : Int) = (l0.length : Int) * a1 / a2 := by omega
      have HS : Aside0 (samples p l0 a1 a2 i = r1) := ⟨by rw [← HR1.out, ← hie]; rfl⟩
      clear hie
      go_wp2
      go_ret2
      exact ⟨u12, rfl, by rw [← HS.out]; exact Kd.R_lower HR.out (by omega), KB.out.trans (HB.out.mono (by omega))⟩

end Go.Proofs.Ytijfinimlnedpaa.PPer
