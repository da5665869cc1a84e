/- Smooth, walked by hand: under bounds, each sample is the mean of the levels up to it. -/
import Derived.Test.YtijfinimlnedpaaPSampx6
import Derived.Deep.RegionHeld3
import Derived.StillTactics
namespace Go.Proofs.Ytijfinimlnedpaa.PSamp
open Go.RowKit Go.Proofs.YtijfinimlnedpaaW.PrintWords Go.Proofs.YtijfinimlnedpaaW.PrintLast Go.Proofs.YtijfinimlnedpaaW.PrintMore
set_option linter.unusedVariables false
attribute [local go_sem] max2_int min2_int max_two min_two

/-- The mean at place i. -/
def meanAt (p : List Int) (n : Int) (i : Nat) : Int := if (i : Int) + 1 < n then (rd p ((i : Int) + 1) - rd p 0) / ((i : Int) + 1) else (rd p ((i : Int) + 1) - rd p ((i : Int) + 1 - n)) / n
def means (p : List Int) (n : Int) (m : Nat) : List Int := (List.range m).map fun i : Nat => meanAt p n i
theorem means_succ (p : List Int) (n : Int) (m : Nat) : means p n (m + 1) = means p n m ++ [meanAt p n m] := by
  unfold means; rw [List.range_succ, List.map_append]; rfl
theorem means_len (p : List Int) (n : Int) (m : Nat) : (means p n m).length = m := by unfold means; simp

def SmOk (l : List Int) (n : Int) : Prop := l.length ≤ 100000 ∧ 1 ≤ n ∧ n ≤ 1000
instance (l : List Int) (n : Int) : Decidable (SmOk l n) := by unfold SmOk; infer_instance
/-- Sums in range that do not decrease. -/
def PmOk (l p : List Int) : Prop := PsOk l p ∧ ∀ i ∈ List.range l.length, ∀ j ∈ List.range (i + 1), rd p (j : Int) ≤ rd p ((i : Int) + 1)

noncomputable def samp_Smooth.f (k : Nat) (l0 : List Int) (a1 : Int) : Option (List Int × Int) := by
  classical
  exact if SmOk l0 a1 then (samp_Check.f k l0).bind fun t => if t = 0 then (samp_sums.f k l0).bind fun p => if PmOk l0 p then some (means p a1 l0.length, 0) else none else none else none

theorem add_blk (a : Addr) (n : Nat) : (a.add n).block = a.block := by cases n <;> simp [Addr.add]
theorem keep_cell {W w1 : World} {u : Value} {a : Addr} {v : Value} (hg : W.drew.grownBy w1 u.ownBlock) (hne : some a.block ≠ u.ownBlock) (h : W.cell? a = some v) : w1.cell? a = some v :=
  cell_grown hg (v := v) (by simpa using h) hne

set_option maxRecDepth 100000 in
set_option maxHeartbeats 2000000 in
theorem samp_Smooth.calls (k : Nat) (A0 : Option Addr) (c0 : Nat) (l0 : List Int) (a1 : Int) (r1 : List Int) (r2 : Int) (w : World) (hr0 : Kd.C (Kd.int .i64) w A0 l0.length l0) (hc0 : l0.length ≤ c0) (h : samp_Smooth.f k l0 a1 = some (r1, r2)) :
    Calls Try.prog 27 #[.slice A0 l0.length c0, .int .i64 a1] w fun e w' => ∃ v0_ : Value, e = .returned (.tuple #[v0_, .int .i64 r2]) ∧ Kd.R (Kd.int .i64) 3 w' w.heap.size (fun _ => True) v0_ r1 ∧ Below w.heap.size w w' := by
  unfold samp_Smooth.f at h
  by_cases hok : SmOk l0 a1
  case neg => rw [if_neg hok] at h; cases h
  rw [if_pos hok] at h
  obtain ⟨t, ht, h⟩ := Option.bind_eq_some_iff.mp h
  by_cases h0 : t = 0
  case neg => rw [if_neg h0] at h; cases h
  subst h0
  rw [if_pos rfl] at h
  obtain ⟨p, hp, h⟩ := Option.bind_eq_some_iff.mp h
  by_cases hps : PmOk l0 p
  case neg => rw [if_neg hps] at h; cases h
  rw [if_pos hps] at h
  simp only [Option.some.injEq, Prod.mk.injEq] at h
  obtain ⟨hr1, rfl⟩ := h
  have HPS := Aside0.mk hps
  have HT := Aside0.mk ht
  have HP := Aside0.mk hp
  have HR0 := Aside0.mk hr0
  have HC0 := Aside0.mk hc0
  have HR1 := Aside0.mk hr1
  obtain ⟨q1, q2, q3⟩ := hok
  have HPL := Aside0.mk hps.1.1
  clear hps ht hp hr0 hc0 hr1
  go_enter Try.func27, Try.ntmps27
  go_wp2_with (first | (go_at_call 60; (with_reducible refine (samp_Check.calls k _ _ l0 0 _ ?side1 ?side2 HT.out).mono ?_); (case side1 => repeat (first | exact HR0.out | (with_reducible refine Kd.C_alloc ?_ _) | (with_reducible refine Kd.C_drewN ?_ _) | (with_reducible refine Kd.C_drew ?_))); (case side2 => exact HC0.out); rintro e w' ⟨rfl, ⟨nd, rfl⟩⟩))
  have HRW := Aside0.mk (Kd.C_drewN HR0.out nd)
  refine (samp_sums.calls k _ _ l0 p _ HRW.out HC0.out HP.out).mono ?_
  rintro e w2 ⟨vp, rfl, HRp, HBp⟩
  obtain ⟨Ap, cp, rfl, hcp, HCp⟩ := Kd.R_reads HRp
  have hBw : Below w.heap.size w w2 := by simpa using (pw_below_drewN (Below.refl w.heap.size w) nd).trans HBp
  have KP := Aside0.mk HCp
  have KB := Aside0.mk hBw
  have KZ : Aside0 (w.heap.size ≤ w2.heap.size) := ⟨hBw.size⟩
  clear HRp HBp HCp hBw HT HP HRW hcp
  go_wp2
  go_loopw [8, 26] (fun v8 v26 wr => ∃ i : Nat, i ≤ l0.length ∧ v26 = .int .i64 i ∧ Aside0 (Kd.R (Kd.int .i64) 3 wr w2.heap.size (fun _ => True) v8 (means p a1 i)) ∧ Aside0 (Below w2.heap.size w2 wr)) (fun _ v26 _ => l0.length - (intOf v26).toNat)
  case atStart => exact ⟨0, by omega, rfl, ⟨Kd.R_nil _ _ _ _ _⟩, ⟨Below.refl _ _⟩⟩
  case round =>
    obtain ⟨i, hi, rfl, HR, HB⟩ := hrel
    by_cases hlt : i < l0.length
    · have DP := Aside0.mk (Kd.C_below KP.out HB.out)
      have hsc := means_succ p a1 i
      have hb := HPS.out
      have hpl := HPL.out
      obtain ⟨⟨-, hb2⟩, hb3⟩ := hb
      have hb4 := rd_bound p _ _ hb2 ((i : Int) + 1) (by omega) (by omega)
      obtain ⟨ad, hAd, hc1⟩ := int_at DP.out ((i : Int) + 1) (by omega) (by omega)
      have SLEN := Aside0.mk (means_len p a1 i)
      by_cases hn' : (i : Int) + 1 < a1
      case neg =>
        have hn : a1 ≤ (i : Int) + 1 := by omega
        have hb5 := rd_bound p _ _ hb2 ((i : Int) + 1 - a1) (by omega) (by omega)
        obtain ⟨ad2, hAd2, hc2⟩ := int_at DP.out ((i : Int) + 1 - a1) (by omega) (by omega)
        have hle := hb3 i (List.mem_range.2 hlt) ((i : Int) + 1 - a1).toNat (List.mem_range.2 (by omega))
        rw [show (((i : Int) + 1 - a1).toNat : Int) = (i : Int) + 1 - a1 by omega] at hle
        have hme : meanAt p a1 i = (rd p ((i : Int) + 1) - rd p ((i : Int) + 1 - a1)) / a1 := by unfold meanAt; rw [if_neg hn']
        generalize hX : rd p ((i : Int) + 1) = X at *
        generalize hY : rd p ((i : Int) + 1 - a1) = Y at *
        rw [hme] at hsc
        have HSC := Aside0.mk hsc
        subst hAd
        obtain rfl : ad = ad2 := by injection hAd2
        have hc1' : wr.cell? (ad.add (i + 1)) = some (.int .i64 X) := hc1
        have b1 : ((i : Int) + 1) < (p.length : Int) := by omega
        have b2 : ((i : Int) + 1 - a1) < (p.length : Int) := by omega
        have b3 : 0 ≤ (i : Int) + 1 - a1 := by omega
        have b4 : a1 ≤ (i : Int) + 1 := by omega
        have hmin : decide ((i : Int) + 1 < a1) = false := decide_eq_false (by omega)
        have e1 : IntKind.i64.wrap ((i : Int) + 1) = (i : Int) + 1 := IntWalk.i64_in _ (by omega)
        have e2 : IntKind.i64.wrap ((i : Int) + 1 - a1) = (i : Int) + 1 - a1 := IntWalk.i64_in _ (by omega)
        have e3 : IntKind.i64.wrap (X - Y) = X - Y := IntWalk.i64_in _ (by omega)
        have e4 : (X - Y).tdiv a1 = (X - Y) / a1 := Int.tdiv_eq_ediv_of_nonneg (by omega)
        have e5 : IntKind.i64.wrap ((X - Y) / a1) = (X - Y) / a1 := IntWalk.i64_in _ (by constructor; have := Int.ediv_nonneg (show 0 ≤ X - Y by omega) (show 0 ≤ a1 by omega); omega; exact Int.le_trans (Int.ediv_le_self _ (by omega)) (by omega))
        have e6 : (a1 == 0) = false := by simp; omega
        have E1 := Aside0.mk e1; have E2 := Aside0.mk e2; have E3 := Aside0.mk e3; have E4 := Aside0.mk e4; have E5 := Aside0.mk e5
        clear hX hY hme hsc hAd2 e1 e2 e3 e4 e5 hb3 hb2 hpl
        go_wp2
        have e1 := E1.out; have e2 := E2.out; have e3 := E3.out; have e4 := E4.out; have e5 := E5.out
        clear E1 E2 E3 E4 E5
        have b0 : 0 ≤ (i : Int) + 1 := by omega
        have b7 : ¬ a1 = 0 := by omega
        have LTA : Aside0 (ad.block < wr.heap.size) := ⟨Kd.C_lt DP.out (by omega) (by decide)⟩
        have NEA : Aside0 (some ad.block ≠ u8.ownBlock) := ⟨fun e => by
          have h1 := Kd.R_base HR.out ad.block e.symm
          have h2 := Kd.C_lt KP.out (by have := HPL.out; omega) (by decide)
          omega⟩
        have hs1 : wr.cell? ⟨ad.block, ad.off + (i + 1), none⟩ = some (.int .i64 X) := hc1'
        go_region_held3 (fun w' => w'.cell? ⟨ad.block, ad.off + (i + 1), none⟩ = some (.int .i64 X) ∧ w'.cell? (ad.add ((i : Int) + 1 - a1).toNat) = some (.int .i64 Y))
          (first
            | go_keep
            | (refine ⟨?_, ?_⟩
               · exact keep_cell n2_.out (a := ⟨ad.block, ad.off + (i + 1), none⟩) NEA.out hs1
               · exact keep_cell n2_.out (a := ad.add ((i : Int) + 1 - a1).toNat) (by rw [add_blk]; exact NEA.out) hc2))
          ((rw [show (wr.alloc (Obj.cells #[Value.int IntKind.i64 ((X - Y) / a1)] 3)).drew = wr.drew.alloc (Obj.cells #[Value.int IntKind.i64 ((X - Y) / a1)] 3) from rfl]; refine Kd.R_append_step (Kd.int .i64) (w0 := w2) w2.heap.size rfl (.tmp 33) (.tmp 49) 22 3 (.int .i64 0) 8 rfl Try.underlying22 info3 rfl (by decide) (by omega) u8 (means p a1 i) ((X - Y) / a1) [.int .i64 ((X - Y) / a1)] (fun _ => True) (fun _ => False) rfl rfl rfl (fun _ hk => hk.elim) (fun _ _ => trivial) (Kd.R_drew HR.out) (below_drew HB.out) (below_size (below_drew HB.out)) (by have := SLEN.out; omega) ?_; intro v105 w11 ho hb hg hat; have n0_ := Aside0.mk hb; have n1_ := Aside0.mk ho; have n2_ := Aside0.mk hg; clear ho hb hg hat))
        go_wp2
        go_roundw
        case rel => exact ⟨i + 1, by omega, by go_num, ⟨by rw [HSC.out]; exact n1_.out⟩, ⟨n0_.out⟩⟩
        case measure => simp [intOf]; omega
      case pos =>
        have hb5 := rd_bound p _ _ hb2 0 (by omega) (by omega)
        obtain ⟨ad2, hAd2, hc2⟩ := int_at DP.out 0 (by omega) (by omega)
        have hle := hb3 i (List.mem_range.2 hlt) 0 (List.mem_range.2 (by omega))
        rw [show ((0 : Nat) : Int) = 0 from rfl] at hle
        have hc2' : wr.cell? ad2 = some (.int .i64 (rd p 0)) := hc2
        have hme : meanAt p a1 i = (rd p ((i : Int) + 1) - rd p 0) / ((i : Int) + 1) := by unfold meanAt; rw [if_pos hn']
        generalize hX : rd p ((i : Int) + 1) = X at *
        generalize hY : rd p 0 = Y at *
        rw [hme] at hsc
        have HSC := Aside0.mk hsc
        subst hAd
        obtain rfl : ad = ad2 := by injection hAd2
        have hc1' : wr.cell? (ad.add (i + 1)) = some (.int .i64 X) := hc1
        have b1 : ((i : Int) + 1) < (p.length : Int) := by omega
        have b2 : (0 : Int) < (p.length : Int) := by omega
        have b2' : 0 < p.length := by omega
        have b2'' : ¬ p.length = 0 := by omega
        have hmin : decide ((i : Int) + 1 < a1) = true := decide_eq_true (by omega)
        have e1 : IntKind.i64.wrap ((i : Int) + 1) = (i : Int) + 1 := IntWalk.i64_in _ (by omega)
        have e2 : IntKind.i64.wrap 0 = 0 := IntWalk.i64_in _ (by omega)
        have e3 : IntKind.i64.wrap (X - Y) = X - Y := IntWalk.i64_in _ (by omega)
        have e4 : (X - Y).tdiv ((i : Int) + 1) = (X - Y) / ((i : Int) + 1) := Int.tdiv_eq_ediv_of_nonneg (by omega)
        have e5 : IntKind.i64.wrap ((X - Y) / ((i : Int) + 1)) = (X - Y) / ((i : Int) + 1) := IntWalk.i64_in _ (by constructor; have := Int.ediv_nonneg (show 0 ≤ X - Y by omega) (show 0 ≤ (i : Int) + 1 by omega); omega; exact Int.le_trans (Int.ediv_le_self _ (by omega)) (by omega))
        have e6 : ((i : Int) + 1 == 0) = false := by simp; omega
        have E1 := Aside0.mk e1; have E2 := Aside0.mk e2; have E3 := Aside0.mk e3; have E4 := Aside0.mk e4; have E5 := Aside0.mk e5
        clear hX hY hme hsc hAd2 e1 e2 e3 e4 e5 hb3 hb2 hpl
        go_wp2
        have e1 := E1.out; have e2 := E2.out; have e3 := E3.out; have e4 := E4.out; have e5 := E5.out
        clear E1 E2 E3 E4 E5
        have b0 : 0 ≤ (i : Int) + 1 := by omega
        have b7 : ¬ (i : Int) + 1 = 0 := by omega
        have LTA : Aside0 (ad.block < wr.heap.size) := ⟨Kd.C_lt DP.out (by omega) (by decide)⟩
        have NEA : Aside0 (some ad.block ≠ u8.ownBlock) := ⟨fun e => by
          have h1 := Kd.R_base HR.out ad.block e.symm
          have h2 := Kd.C_lt KP.out (by have := HPL.out; omega) (by decide)
          omega⟩
        have hs1 : wr.cell? ⟨ad.block, ad.off + (i + 1), none⟩ = some (.int .i64 X) := hc1'
        go_region_held3 (fun w' => w'.cell? ⟨ad.block, ad.off + (i + 1), none⟩ = some (.int .i64 X) ∧ w'.cell? ad = some (.int .i64 Y))
          (first
            | go_keep
            | (refine ⟨?_, ?_⟩
               · exact keep_cell n2_.out (a := ⟨ad.block, ad.off + (i + 1), none⟩) NEA.out hs1
               · exact keep_cell n2_.out (a := ad) NEA.out hc2'))
          ((rw [show (wr.alloc (Obj.cells #[Value.int IntKind.i64 ((X - Y) / ((i : Int) + 1))] 3)).drew = wr.drew.alloc (Obj.cells #[Value.int IntKind.i64 ((X - Y) / ((i : Int) + 1))] 3) from rfl]; refine Kd.R_append_step (Kd.int .i64) (w0 := w2) w2.heap.size rfl (.tmp 33) (.tmp 49) 22 3 (.int .i64 0) 8 rfl Try.underlying22 info3 rfl (by decide) (by omega) u8 (means p a1 i) ((X - Y) / ((i : Int) + 1)) [.int .i64 ((X - Y) / ((i : Int) + 1))] (fun _ => True) (fun _ => False) rfl rfl rfl (fun _ hk => hk.elim) (fun _ _ => trivial) (Kd.R_drew HR.out) (below_drew HB.out) (below_size (below_drew HB.out)) (by have := SLEN.out; omega) ?_; intro v105 w11 ho hb hg hat; have n0_ := Aside0.mk hb; have n1_ := Aside0.mk ho; have n2_ := Aside0.mk hg; clear ho hb hg hat))
        go_wp2
        go_roundw
        case rel => exact ⟨i + 1, by omega, by go_num, ⟨by rw [HSC.out]; exact n1_.out⟩, ⟨n0_.out⟩⟩
        case measure => simp [intOf]; omega
    · have hie : i = l0.length := by omega
      have HS : Aside0 (means p a1 i = r1) := ⟨by rw [← HR1.out, hie]⟩
      clear hie
      go_wp2
      go_ret2
      exact ⟨u8, rfl, by rw [← HS.out]; exact Kd.R_lower HR.out KZ.out, KB.out.trans (HB.out.mono KZ.out)⟩
end Go.Proofs.Ytijfinimlnedpaa.PSamp
