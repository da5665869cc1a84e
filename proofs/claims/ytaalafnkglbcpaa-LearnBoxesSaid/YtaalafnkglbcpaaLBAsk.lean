/- Contracts of the learner: cloning, finding, asking, answering, rows, tests. Own text of this claim. -/
import Derived.Test.YtaalafnkglbcpaaPLx0
import Derived.WalkSpells
import Derived.Test.YtaalafnkglbcpaaPLx11
import Derived.Test.YtaalafnkglbcpaaPLx7
import Derived.Test.YtaalafnkglbcpaaPGx10
namespace Go.Proofs.Ytaalafnkglbcpaa.PL
open Go.RowKit Go.Proofs.YtaalafnkglbcpaaW.PrintWords Go.Proofs.YtaalafnkglbcpaaW.PrintLast Go.Proofs.YtaalafnkglbcpaaW.PrintMore
set_option linter.unusedVariables false

/-- A literal without elements. -/
theorem R_empty {α : Type} (d : Kd α) (e : Nat) (W : World) (base : Nat) (hb : base ≤ W.heap.size) : d.R e (W.alloc (.cells #[] e)) base (fun _ => True) (.slice (some ⟨W.heap.size, 0, none⟩) 0 0) [] :=
  ⟨fun _ _ => trivial, [], World.ownsRow_lit (base := base) (e := e) (size := d.sz) W #[] 0 hb (by simp [maxLen]) (by simp), Reps.none _ _⟩
def clone_I.f (l0 : List Int) : Option (List Int) := if l0.length ≤ 1000000 then some l0 else none
set_option maxHeartbeats 2000000 in
set_option maxRecDepth 100000 in
theorem clone_I.calls (A0 : Option Addr) (c0 : Nat) (l0 : List (Int)) (r : List (Int)) (w : World) (hr0 : Kd.C (Kd.int .i64) w A0 l0.length l0) (hc0 : l0.length ≤ c0) (h : clone_I.f l0 = some r) :
    Calls Try.prog 56 #[.slice A0 l0.length c0] w fun e w' => ∃ v0_ : Value, e = .returned (v0_) ∧ Kd.R (Kd.int .i64) 3 w' w.heap.size (fun _ => True) v0_ r ∧ Below w.heap.size w w' := by
  unfold clone_I.f at h
  split at h
  · rename_i h1
    obtain rfl := Option.some.inj h
    clear h
    have HR0 := Aside0.mk hr0
    have HC0 := Aside0.mk hc0
    have HL := Aside0.mk h1
    clear hr0 hc0 h1
    cases A0 with
    | none =>
      have h0 : l0 = [] := by
        cases l0 with
        | nil => rfl
        | cons x t => obtain ⟨ad, c, e, _⟩ := Kd.C_get HR0.out (0 : Int) 0 (by omega) (by simp); cases e
      subst h0
      have hq := fun (W : World) => Lib.run_eql_slice_nil (P := Try.prog) W 22 3 none 0 c0 0 0 Try.underlying22
      go_enter Try.func56, Try.ntmps56
      go_wp2
      go_ret
      exact ⟨_, rfl, Kd.R_nil _ _ _ _ _, Below.refl _ _⟩
    | some ad =>
      have hq := fun (W : World) => Lib.run_eql_slice_nil (P := Try.prog) W 22 3 (some ad) l0.length c0 0 0 Try.underlying22
      go_enter Try.func56, Try.ntmps56
      go_wp2_with ((with_reducible refine gate_builtin (b := .append) (xs := #[.tmp 5, .tmp 6]) rfl ?_); at_builtin; refine Kd.R_append_rows (Kd.int .i64) (w0 := w) w.heap.size rfl (.tmp 5) (.tmp 6) 22 3 (.int .i64 0) 8 rfl Try.underlying22 info3 rfl (by decide) (by omega) (.slice (some ⟨w.heap.size, 0, none⟩) 0 0) [] l0 _ _ _ (fun _ => True) (fun _ => False) rfl rfl ?aO ?aR (fun _ _ h => h) (fun _ h => h.elim) ?aF ?aB ?aS ?aL ?_; (case aO => exact R_empty _ _ _ _ (Nat.le_refl _)); (case aR => exact Kd.C_alloc HR0.out _); (case aF => exact (fun _ _ => trivial)); (case aB => exact below_alloc (Below.refl _ _) _); (case aS => simp); (case aL => have := HL.out; simp; omega); intro v7 w7 ho hb hg hat; have HR7 := Aside0.mk ho; have HB7 := Aside0.mk hb; clear ho hb hg hat)
      go_ret
      exact ⟨_, rfl, by simpa using HR7.out, HB7.out⟩
  · cases h
end Go.Proofs.Ytaalafnkglbcpaa.PL

namespace Go.Proofs.Ytaalafnkglbcpaa.PL
open Go.RowKit Go.Proofs.YtaalafnkglbcpaaW.PrintWords Go.Proofs.YtaalafnkglbcpaaW.PrintLast Go.Proofs.YtaalafnkglbcpaaW.PrintMore
set_option linter.unusedVariables false
set_option linter.unusedSimpArgs false

theorem bw64 {n : Int} (h0 : -9223372036854775808 ≤ n) (h1 : n ≤ 9223372036854775807) : wrap64 n = n := by unfold wrap64; omega
theorem eqI_l0 (l m : List Int) (hlm : l.length = m.length) (hb : l.length ≤ 9000000000000000) : ∀ d i : Nat, i + d = l.length → (∀ j, j < i → rd l (j : Int) = rd m (j : Int)) → Ev (fun k => slices_Equal_int_int.l0 k l m (l.length : Int) (i : Int)) (decide (l = m)) := by
  intro d
  induction d with
  | zero =>
    intro i hi hj
    have he : l = m := List.ext_getElem hlm fun j h1 h2 => by
      have := hj j (by omega)
      simpa [rd, List.getD_eq_getElem?_getD, List.getElem?_eq_getElem h1, List.getElem?_eq_getElem h2] using this
    refine Ev.step (f := fun _ => some (decide (l = m))) (fun k => ?_) (Ev.now _)
    simp only [slices_Equal_int_int.l0]; rw [if_neg (by omega), decide_eq_true he]
  | succ d ih =>
    intro i hi hj
    have e1 : wrap64 ((i : Int) + 1) = ((i + 1 : Nat) : Int) := by rw [bw64 (by omega) (by omega)]; omega
    by_cases hq : rd l (i : Int) = rd m (i : Int)
    · refine Ev.step (fun k => ?_) (ih (i + 1) (by omega) (fun j h => by
        rcases Nat.lt_or_ge j i with h' | h'
        · exact hj j h'
        · rw [show j = i by omega]; exact hq))
      simp only [slices_Equal_int_int.l0]
      rw [if_pos (by omega), if_pos (by omega), if_pos (by omega), if_pos (by omega), if_pos hq, e1]
    · have hne : ¬ l = m := fun e => hq (by rw [e])
      refine Ev.step (f := fun _ => some (decide (l = m))) (fun k => ?_) (Ev.now _)
      simp only [slices_Equal_int_int.l0]
      rw [if_pos (by omega), if_pos (by omega), if_pos (by omega), if_pos (by omega), if_neg hq, decide_eq_false hne]
theorem eqI_is (l m : List Int) (hb : l.length ≤ 9000000000000000) : ∃ k, slices_Equal_int_int.f k l m = some (decide (l = m)) := by
  by_cases h : l.length = m.length
  · obtain ⟨k, hk⟩ := (eqI_l0 l m h hb l.length 0 (by omega) (fun j h => by omega)).rounds
    exact ⟨k, by unfold slices_Equal_int_int.f; rw [if_pos (by omega)]; exact hk⟩
  · refine ⟨0, ?_⟩
    unfold slices_Equal_int_int.f
    rw [if_neg (by omega), decide_eq_false (fun e => h (by rw [e]))]

def rd_L3b (xs : List (List Int)) (i : Nat) : List Int := xs.getD i []
theorem at_L3b {w : World} {A : Option Addr} {n : Nat} {xs : List (List Int)} (h : Kd.C (Kd.slice 3 (Kd.int .i64)) w A n xs) (i : Nat) (h1 : i < n) : ∃ ad A0 c0, A = some ad ∧ w.cell? (ad.add i) = some (.slice A0 (rd_L3b xs i).length c0) ∧ (rd_L3b xs i).length ≤ c0 ∧ Kd.C (Kd.int .i64) w A0 (rd_L3b xs i).length (rd_L3b xs i) := by
  obtain ⟨ad, c, e, _, hK, hc0⟩ := Kd.C_get h ([] : List Int) (i : Int) (by omega) (by omega)
  have hc : ∀ j u, c[j]? = some u → w.cell? (ad.add ((i : Int).toNat * 1 + j)) = some u := hc0
  obtain ⟨A0, c0, rfl, l0, g0⟩ := hK
  exact ⟨ad, A0, c0, e, by have hq := hc 0 _ rfl; rwa [Nat.mul_one, Nat.add_zero, Int.toNat_natCast] at hq, l0, g0⟩

set_option maxHeartbeats 2000000 in
set_option maxRecDepth 100000 in
theorem same76_calls (Ax Ar : Option Addr) (cx cr g : Nat) (x r : List Int) (w : World) (hx : Kd.C (Kd.int .i64) w Ax x.length x) (hcx : x.length ≤ cx) (hr : Kd.C (Kd.int .i64) w Ar r.length r) (hcr : r.length ≤ cr) (hb : x.length ≤ 9000000000000000) (hg : w.cell? ⟨g, 0, none⟩ = some (.slice Ar r.length cr)) :
    Calls Try.prog 76 #[.slice Ax x.length cx, .pointer (some ⟨g, 0, none⟩)] w fun e w' => e = .returned (.bool (decide (x = r))) ∧ Drawn0 w w' := by
  obtain ⟨k, hk⟩ := eqI_is x r hb
  have C1 := Aside0.mk (slices_Equal_int_int.calls k Ax cx x Ar cr r (decide (x = r)) w hx hcx hr hcr hk)
  clear hx hcx hr hcr hk hb
  go_enter Try.func76, Try.ntmps76
  go_wp2_with fail
  (with_reducible refine C1.out.mono ?_)
  rintro e w1 ⟨rfl, hb⟩
  have HB := Aside0.mk hb
  clear hb
  go_wp2
  go_ret
  exact ⟨rfl, HB.out⟩

set_option maxHeartbeats 2000000 in
set_option maxRecDepth 100000 in
theorem same55_calls (Ax Ar : Option Addr) (cx cr g : Nat) (x r : List Int) (w : World) (hx : Kd.C (Kd.int .i64) w Ax x.length x) (hcx : x.length ≤ cx) (hr : Kd.C (Kd.int .i64) w Ar r.length r) (hcr : r.length ≤ cr) (hb : x.length ≤ 9000000000000000) (hg : w.cell? ⟨g, 0, none⟩ = some (.slice Ar r.length cr)) :
    Calls Try.prog 55 #[.slice Ax x.length cx, .pointer (some ⟨g, 0, none⟩)] w fun e w' => e = .returned (.bool (decide (x = r))) ∧ Drawn0 w w' := by
  obtain ⟨k, hk⟩ := eqI_is x r hb
  have C1 := Aside0.mk (slices_Equal_int_int.calls k Ax cx x Ar cr r (decide (x = r)) w hx hcx hr hcr hk)
  clear hx hcx hr hcr hk hb
  go_enter Try.func55, Try.ntmps55
  go_wp2_with fail
  (with_reducible refine C1.out.mono ?_)
  rintro e w1 ⟨rfl, hb⟩
  have HB := Aside0.mk hb
  clear hb
  go_wp2
  go_ret
  exact ⟨rfl, HB.out⟩

/-- Where r stands first among rows; -1: nowhere. -/
def idxR (xs : List (List Int)) (r : List Int) : Int := if xs.findIdx (fun x => decide (x = r)) < xs.length then (xs.findIdx (fun x => decide (x = r)) : Nat) else -1
theorem idxR_at {xs : List (List Int)} {r : List Int} {j : Nat} (hj : j < xs.length) (h : rd_L3b xs j = r) (hn : ∀ i, i < j → rd_L3b xs i ≠ r) : idxR xs r = (j : Int) := by
  have : xs.findIdx (fun x => decide (x = r)) = j := by
    refine (List.findIdx_eq hj).2 ⟨?_, fun i hi => ?_⟩
    · have : xs[j] = r := by rw [← h]; unfold rd_L3b; rw [List.getD_eq_getElem?_getD, List.getElem?_eq_getElem hj]; rfl
      exact decide_eq_true this
    · have h2 := hn i hi
      unfold rd_L3b at h2
      rw [List.getD_eq_getElem?_getD, List.getElem?_eq_getElem (show i < xs.length by omega)] at h2
      exact decide_eq_false h2
  unfold idxR
  rw [this, if_pos hj]
theorem idxR_no {xs : List (List Int)} {r : List Int} (hn : ∀ i, i < xs.length → rd_L3b xs i ≠ r) : idxR xs r = -1 := by
  unfold idxR
  rw [if_neg]
  intro h
  have h1 := List.findIdx_getElem (w := h)
  have h2 := hn _ h
  unfold rd_L3b at h2
  rw [List.getD_eq_getElem?_getD, List.getElem?_eq_getElem h] at h2
  exact h2 (of_decide_eq_true h1)

set_option maxHeartbeats 4000000 in
set_option maxRecDepth 100000 in
theorem find76_calls (A Ar : Option Addr) (c cr g : Nat) (xs : List (List Int)) (r : List Int) (w : World) (hA : Kd.C (Kd.slice 3 (Kd.int .i64)) w A xs.length xs) (hr : Kd.C (Kd.int .i64) w Ar r.length r) (hcr : r.length ≤ cr) (hb : ∀ x ∈ xs, x.length ≤ 9000000000000000) (hg : w.cell? ⟨g, 0, none⟩ = some (.slice Ar r.length cr)) :
    Calls Try.prog 75 #[.slice A xs.length c, .func (.func 76) #[] #[.pointer (some ⟨g, 0, none⟩)]] w fun e w' => e = .returned (.int .i64 (idxR xs r)) ∧ Drawn0 w w' := by
  have HA := Aside0.mk hA
  have HR := Aside0.mk hr
  have HCR := Aside0.mk hcr
  have HB := Aside0.mk hb
  have HG := Aside0.mk hg
  have hl : xs.length ≤ 9223372036854775807 := hA.2.1
  clear hA hr hcr hb hg
  go_enter Try.func75, Try.ntmps75
  go_wp2
  go_loopw [8] (fun v8 wr => ∃ j : Nat, j ≤ xs.length ∧ v8 = .int .i64 j ∧ Aside0 (∀ i, i < j → rd_L3b xs i ≠ r) ∧ Aside0 (Drawn0 w wr)) (fun v8 _ => xs.length - (intOf v8).toNat)
  case atStart => exact ⟨0, by omega, rfl, ⟨fun i h => by omega⟩, ⟨Drawn0.refl _⟩⟩
  case round =>
    obtain ⟨j, hj, rfl, HN, HW⟩ := hrel
    obtain ⟨nd, rfl⟩ := HW.out
    clear HW
    by_cases hlt : j < xs.length
    · obtain ⟨a, A1, c1, ea, g0, g1, g2⟩ := at_L3b (Kd.C_drewN HA.out nd) j hlt
      subst ea
      have hbx : (rd_L3b xs j).length ≤ 9000000000000000 := HB.out _ (by unfold rd_L3b; rw [List.getD_eq_getElem?_getD, List.getElem?_eq_getElem hlt]; exact List.getElem_mem hlt)
      generalize ex : rd_L3b xs j = x at *
      have EX := Aside0.mk ex
      clear ex
      have C1 := Aside0.mk (same76_calls A1 Ar c1 cr g x r (w.drewN nd) g2 g1 (Kd.C_drewN HR.out nd) HCR.out hbx (by have := HG.out; exact this))
      clear g1 g2 hbx
      have HJ := Aside0.mk hlt
      have HJ2 := Aside0.mk hj
      go_wp2_with fail
      (with_reducible refine C1.out.mono ?_)
      rintro e w2 ⟨rfl, hd⟩
      have HW2 : Aside0 (Drawn0 w w2) := ⟨by obtain ⟨m, rfl⟩ := hd; exact ⟨nd + m, by rw [World.drewN_drewN]⟩⟩
      clear hd g0 C1
      by_cases hq : x = r
      · have hq0 : decide (x = r) = true := decide_eq_true hq
        have HQ := Aside0.mk hq
        clear hq
        go_wp2
        go_ret
        exact ⟨by rw [idxR_at HJ.out (EX.out.trans HQ.out) HN.out]; rfl, HW2.out⟩
      · have hq0 : decide (x = r) = false := decide_eq_false hq
        have HQ := Aside0.mk hq
        clear hq
        go_wp2
        go_roundw
        case rel => exact ⟨j + 1, by omega, by go_num, ⟨fun i h => by
          rcases Nat.lt_or_ge i j with h' | h'
          · exact HN.out i h'
          · rw [show i = j by omega, EX.out]; exact HQ.out⟩, HW2⟩
        case measure => simp [intOf]; omega
    · have hje : j = xs.length := by omega
      have HJE := Aside0.mk hje
      clear hje
      go_wp2
      go_ret
      exact ⟨by rw [idxR_no (fun i h => HN.out i (by have := HJE.out; omega))]; rfl, ⟨nd, rfl⟩⟩

set_option maxHeartbeats 4000000 in
set_option maxRecDepth 100000 in
theorem find55_calls (A Ar : Option Addr) (c cr g : Nat) (xs : List (List Int)) (r : List Int) (w : World) (hA : Kd.C (Kd.slice 3 (Kd.int .i64)) w A xs.length xs) (hr : Kd.C (Kd.int .i64) w Ar r.length r) (hcr : r.length ≤ cr) (hb : ∀ x ∈ xs, x.length ≤ 9000000000000000) (hg : w.cell? ⟨g, 0, none⟩ = some (.slice Ar r.length cr)) :
    Calls Try.prog 75 #[.slice A xs.length c, .func (.func 55) #[] #[.pointer (some ⟨g, 0, none⟩)]] w fun e w' => e = .returned (.int .i64 (idxR xs r)) ∧ Drawn0 w w' := by
  have HA := Aside0.mk hA
  have HR := Aside0.mk hr
  have HCR := Aside0.mk hcr
  have HB := Aside0.mk hb
  have HG := Aside0.mk hg
  have hl : xs.length ≤ 9223372036854775807 := hA.2.1
  clear hA hr hcr hb hg
  go_enter Try.func75, Try.ntmps75
  go_wp2
  go_loopw [8] (fun v8 wr => ∃ j : Nat, j ≤ xs.length ∧ v8 = .int .i64 j ∧ Aside0 (∀ i, i < j → rd_L3b xs i ≠ r) ∧ Aside0 (Drawn0 w wr)) (fun v8 _ => xs.length - (intOf v8).toNat)
  case atStart => exact ⟨0, by omega, rfl, ⟨fun i h => by omega⟩, ⟨Drawn0.refl _⟩⟩
  case round =>
    obtain ⟨j, hj, rfl, HN, HW⟩ := hrel
    obtain ⟨nd, rfl⟩ := HW.out
    clear HW
    by_cases hlt : j < xs.length
    · obtain ⟨a, A1, c1, ea, g0, g1, g2⟩ := at_L3b (Kd.C_drewN HA.out nd) j hlt
      subst ea
      have hbx : (rd_L3b xs j).length ≤ 9000000000000000 := HB.out _ (by unfold rd_L3b; rw [List.getD_eq_getElem?_getD, List.getElem?_eq_getElem hlt]; exact List.getElem_mem hlt)
      generalize ex : rd_L3b xs j = x at *
      have EX := Aside0.mk ex
      clear ex
      have C1 := Aside0.mk (same55_calls A1 Ar c1 cr g x r (w.drewN nd) g2 g1 (Kd.C_drewN HR.out nd) HCR.out hbx (by have := HG.out; exact this))
      clear g1 g2 hbx
      have HJ := Aside0.mk hlt
      have HJ2 := Aside0.mk hj
      go_wp2_with fail
      (with_reducible refine C1.out.mono ?_)
      rintro e w2 ⟨rfl, hd⟩
      have HW2 : Aside0 (Drawn0 w w2) := ⟨by obtain ⟨m, rfl⟩ := hd; exact ⟨nd + m, by rw [World.drewN_drewN]⟩⟩
      clear hd g0 C1
      by_cases hq : x = r
      · have hq0 : decide (x = r) = true := decide_eq_true hq
        have HQ := Aside0.mk hq
        clear hq
        go_wp2
        go_ret
        exact ⟨by rw [idxR_at HJ.out (EX.out.trans HQ.out) HN.out]; rfl, HW2.out⟩
      · have hq0 : decide (x = r) = false := decide_eq_false hq
        have HQ := Aside0.mk hq
        clear hq
        go_wp2
        go_roundw
        case rel => exact ⟨j + 1, by omega, by go_num, ⟨fun i h => by
          rcases Nat.lt_or_ge i j with h' | h'
          · exact HN.out i h'
          · rw [show i = j by omega, EX.out]; exact HQ.out⟩, HW2⟩
        case measure => simp [intOf]; omega
    · have hje : j = xs.length := by omega
      have HJE := Aside0.mk hje
      clear hje
      go_wp2
      go_ret
      exact ⟨by rw [idxR_no (fun i h => HN.out i (by have := HJE.out; omega))]; rfl, ⟨nd, rfl⟩⟩

theorem idxR_mem (xs : List (List Int)) (r : List Int) : decide (0 ≤ idxR xs r) = decide (r ∈ xs) := by
  unfold idxR
  by_cases h : r ∈ xs
  · have : xs.findIdx (fun x => decide (x = r)) < xs.length := List.findIdx_lt_length_of_exists ⟨r, h, by simp⟩
    rw [if_pos this, decide_eq_true h, decide_eq_true (by omega)]
  · have : ¬ xs.findIdx (fun x => decide (x = r)) < xs.length := fun hl => h (by
      have h1 := List.findIdx_getElem (w := hl)
      have h2 : xs[xs.findIdx (fun x => decide (x = r))] = r := of_decide_eq_true h1
      rw [← h2]; exact List.getElem_mem hl)
    rw [if_neg this, decide_eq_false h]; rfl
set_option maxHeartbeats 2000000 in
set_option maxRecDepth 100000 in
theorem contains_calls (A Ar : Option Addr) (c cr g : Nat) (xs : List (List Int)) (r : List Int) (w : World) (hA : Kd.C (Kd.slice 3 (Kd.int .i64)) w A xs.length xs) (hr : Kd.C (Kd.int .i64) w Ar r.length r) (hcr : r.length ≤ cr) (hb : ∀ x ∈ xs, x.length ≤ 9000000000000000) (hg : w.cell? ⟨g, 0, none⟩ = some (.slice Ar r.length cr)) :
    Calls Try.prog 54 #[.slice A xs.length c, .func (.func 55) #[] #[.pointer (some ⟨g, 0, none⟩)]] w fun e w' => e = .returned (.bool (decide (r ∈ xs))) ∧ Drawn0 w w' := by
  have C1 := Aside0.mk (find55_calls A Ar c cr g xs r w hA hr hcr hb hg)
  clear hA hr hcr hb hg
  go_enter Try.func54, Try.ntmps54
  go_wp2_with fail
  (with_reducible refine C1.out.mono ?_)
  rintro e w1 ⟨rfl, hb⟩
  have HB := Aside0.mk hb
  have HI := Aside0.mk (idxR_mem xs r)
  clear hb
  go_wp2
  go_ret
  exact ⟨by rw [← HI.out]; rfl, HB.out⟩
end Go.Proofs.Ytaalafnkglbcpaa.PL

namespace Go.Proofs.Ytaalafnkglbcpaa.PL
open Go.RowKit Go.Proofs.YtaalafnkglbcpaaW.PrintWords Go.Proofs.YtaalafnkglbcpaaW.PrintLast Go.Proofs.YtaalafnkglbcpaaW.PrintMore
set_option linter.unusedVariables false
set_option linter.unusedSimpArgs false

set_option maxHeartbeats 2000000 in
set_option maxRecDepth 100000 in
theorem good_calls (n outs : Int) (p g : Nat) (w : World) (h0 : 0 ≤ n) (h1 : n < shl .i64 1 outs) (ho : 0 ≤ outs ∧ outs ≤ 10) (hp : w.cell? ⟨p, 0, none⟩ = some (.pointer (some ⟨g, 0, none⟩))) (hg : w.cell? ⟨g, 1, none⟩ = some (.int .i64 outs)) :
    Calls Try.prog 90 #[.int .i64 n, .pointer (some ⟨p, 0, none⟩)] w fun e w' => e = .returned (.bool false) ∧ Drawn0 w w' := by
  have d0 : decide (n < 0) = false := decide_eq_false (by omega)
  have d1 : decide (shl .i64 1 outs ≤ n) = false := decide_eq_false (by omega)
  have d2 : decide (outs < 0) = false := decide_eq_false (by omega)
  have d3 : 0 ≤ outs := ho.1
  have hu93 := Try.underlying93
  have HN := Aside0.mk h1
  clear h0 h1 ho
  go_enter Try.func90, Try.ntmps90
  go_wp2
  go_ret
  exact ⟨by first | rfl | (simp; done) | (simp [*]; done) | (simp [*]; have := HN.out; rw [show shl .i64 1 outs = wrap64 (2 ^ min outs.toNat 64) by unfold shl; rw [i64_w, Int.one_mul]; rfl] at this; exact this), by repeat (first | exact Drawn0.refl _ | apply Drawn0.step)⟩

set_option maxHeartbeats 4000000 in
set_option maxRecDepth 100000 in
theorem none_calls (A : Option Addr) (c p g : Nat) (xs : List Int) (outs : Int) (w : World) (hA : Kd.C (Kd.int .i64) w A xs.length xs) (hb : ∀ x ∈ xs, 0 ≤ x ∧ x < shl .i64 1 outs) (ho : 0 ≤ outs ∧ outs ≤ 10) (hp : w.cell? ⟨p, 0, none⟩ = some (.pointer (some ⟨g, 0, none⟩))) (hg : w.cell? ⟨g, 1, none⟩ = some (.int .i64 outs)) :
    Calls Try.prog 104 #[.slice A xs.length c, .func (.func 90) #[] #[.pointer (some ⟨p, 0, none⟩)]] w fun e w' => e = .returned (.int .i64 (-1)) ∧ Drawn0 w w' := by
  have HA := Aside0.mk hA
  have HB := Aside0.mk hb
  have HOO := Aside0.mk ho
  have HP := Aside0.mk hp
  have HG := Aside0.mk hg
  have hl : xs.length ≤ 9223372036854775807 := hA.2.1
  clear hA hb ho hp hg
  go_enter Try.func104, Try.ntmps104
  go_wp2
  go_loopw [8] (fun v8 wr => ∃ j : Nat, j ≤ xs.length ∧ v8 = .int .i64 j ∧ Aside0 (Drawn0 w wr)) (fun v8 _ => xs.length - (intOf v8).toNat)
  case atStart => exact ⟨0, by omega, rfl, ⟨Drawn0.refl _⟩⟩
  case round =>
    obtain ⟨j, hj, rfl, HW⟩ := hrel
    obtain ⟨nd, rfl⟩ := HW.out
    clear HW
    by_cases hlt : j < xs.length
    · obtain ⟨a, ea, g0⟩ := Kd.at_int (Kd.C_drewN HA.out nd) (j : Int) (by omega) (by omega)
      subst ea
      rw [Int.toNat_natCast] at g0
      have hx : 0 ≤ rd xs (j : Int) ∧ rd xs (j : Int) < shl .i64 1 outs := HB.out _ (by unfold rd; rw [Int.toNat_natCast, List.getD_eq_getElem?_getD, List.getElem?_eq_getElem hlt]; exact List.getElem_mem hlt)
      generalize rd xs (j : Int) = x at *
      have C1 := Aside0.mk (good_calls x outs p g (w.drewN nd) hx.1 hx.2 HOO.out (by have := HP.out; exact this) (by have := HG.out; exact this))
      clear hx
      go_wp2_with fail
      (with_reducible refine C1.out.mono ?_)
      rintro e w2 ⟨rfl, hd⟩
      have HW2 : Aside0 (Drawn0 w w2) := ⟨by obtain ⟨m, rfl⟩ := hd; exact ⟨nd + m, by rw [World.drewN_drewN]⟩⟩
      clear hd g0 C1
      go_wp2
      go_roundw
      case rel => exact ⟨j + 1, by omega, by go_num, HW2⟩
      case measure => simp [intOf]; omega
    · have hje : j = xs.length := by omega
      go_wp2
      go_ret
      exact ⟨rfl, ⟨nd, rfl⟩⟩
set_option maxHeartbeats 2000000 in
set_option maxRecDepth 100000 in
theorem allgood_calls (A : Option Addr) (c p g : Nat) (xs : List Int) (outs : Int) (w : World) (hA : Kd.C (Kd.int .i64) w A xs.length xs) (hb : ∀ x ∈ xs, 0 ≤ x ∧ x < shl .i64 1 outs) (ho : 0 ≤ outs ∧ outs ≤ 10) (hp : w.cell? ⟨p, 0, none⟩ = some (.pointer (some ⟨g, 0, none⟩))) (hg : w.cell? ⟨g, 1, none⟩ = some (.int .i64 outs)) :
    Calls Try.prog 89 #[.slice A xs.length c, .func (.func 90) #[] #[.pointer (some ⟨p, 0, none⟩)]] w fun e w' => e = .returned (.bool false) ∧ Drawn0 w w' := by
  have C1 := Aside0.mk (none_calls A c p g xs outs w hA hb ho hp hg)
  clear hA hb ho hp hg
  go_enter Try.func89, Try.ntmps89
  go_wp2_with fail
  (with_reducible refine C1.out.mono ?_)
  rintro e w1 ⟨rfl, hb⟩
  have HB := Aside0.mk hb
  clear hb
  go_wp2
  go_ret
  exact ⟨rfl, HB.out⟩
end Go.Proofs.Ytaalafnkglbcpaa.PL

namespace Go.Proofs.Ytaalafnkglbcpaa.PL
open Go.RowKit Go.Proofs.YtaalafnkglbcpaaW.PrintWords Go.Proofs.YtaalafnkglbcpaaW.PrintLast Go.Proofs.YtaalafnkglbcpaaW.PrintMore
set_option linter.unusedVariables false
set_option linter.unusedSimpArgs false

set_option maxHeartbeats 4000000 in
set_option maxRecDepth 100000 in
theorem ask_calls (k gb : Nat) (ins outs : Int) (A0 Aw : Option Addr) (c0 cw : Nat) (t : List (List S77)) (word out : List Int) (w : World) (hb : w.heap[gb]? = some (.cells #[.int .i64 ins, .int .i64 outs, .slice A0 t.length c0] 25 (0, 0)))
    (ht : Kd.C (Kd.slice 77 k77) w A0 t.length t) (hc0 : t.length ≤ c0) (hw : Kd.C (Kd.int .i64) w Aw word.length word) (hcw : word.length ≤ cw) (h : learn_Run.f k ins outs t word = some (out, 0)) :
    Calls Try.prog 57 #[.slice Aw word.length cw, .pointer (some ⟨gb, 0, none⟩)] w fun e w' => ∃ v : Value, e = .returned v ∧ Kd.R (Kd.int .i64) 3 w' w.heap.size (fun _ => True) v out ∧ Below w.heap.size w w' := by
  have hu25 := Try.underlying25
  have C1 := Aside0.mk (learn_Run.calls k ins outs A0 c0 t Aw cw word out 0 w ht hc0 hw hcw h)
  have q0 : w.cell? ⟨gb, 0, none⟩ = some (.int .i64 ins) := (blk_cell hb 0).trans rfl
  have q1 : w.cell? ⟨gb, 1, none⟩ = some (.int .i64 outs) := (blk_cell hb 1).trans rfl
  have q2 : w.cell? ⟨gb, 2, none⟩ = some (.slice A0 t.length c0) := (blk_cell hb 2).trans rfl
  clear hb ht hc0 hw hcw h
  go_enter Try.func57, Try.ntmps57
  go_wp2_with fail
  (with_reducible refine C1.out.mono ?_)
  rintro e w1 ⟨v, rfl, ho, hb⟩
  have HO := Aside0.mk ho
  have HB := Aside0.mk hb
  clear ho hb
  obtain ⟨A, c, rfl⟩ := Kd.R_slice HO.out
  go_wp2
  go_ret
  exact ⟨_, rfl, HO.out, HB.out⟩
end Go.Proofs.Ytaalafnkglbcpaa.PL

namespace Go.Proofs.Ytaalafnkglbcpaa.PL
open Go.RowKit Go.Proofs.YtaalafnkglbcpaaW.PrintWords Go.Proofs.YtaalafnkglbcpaaW.PrintLast Go.Proofs.YtaalafnkglbcpaaW.PrintMore
set_option linter.unusedVariables false
def Calm (w W : World) : Prop := W.os = w.os ∧ W.tape = w.tape ∧ W.output = w.output
theorem Calm.refl (w : World) : Calm w w := ⟨rfl, rfl, rfl⟩
theorem Calm.trans {w W W2 : World} (h : Calm w W) (k : Calm W W2) : Calm w W2 := ⟨k.1.trans h.1, k.2.1.trans h.2.1, k.2.2.trans h.2.2⟩
theorem Calm.below {B : Nat} {w W : World} (h : Below B w W) : Calm w W := ⟨h.os, h.tape, h.output⟩
theorem Calm.grown {w W : World} {row : Option Nat} (h : w.grownBy W row) : Calm w W := ⟨h.os, h.tape, h.output⟩
theorem Calm.set (w : World) (p : Addr) (u : Value) : Calm w (w.setCell p u) := ⟨rfl, rfl, rfl⟩
structure Kept (w W : World) (S : Nat → Prop) : Prop where
  sz : w.heap.size ≤ W.heap.size
  bl : ∀ i, i < w.heap.size → ¬ S i → W.heap[i]? = w.heap[i]?
  calm : Calm w W
section
variable {w W W2 : World} {S S2 S' : Nat → Prop}
theorem Kept.refl (w : World) (S : Nat → Prop) : Kept w w S := ⟨Nat.le_refl _, fun _ _ _ => rfl, Calm.refl w⟩
theorem Kept.of_below (h : Below w.heap.size w W) (S : Nat → Prop) : Kept w W S := ⟨h.size, fun i hi _ => h.block i hi, Calm.below h⟩
theorem Kept.mono (h : Kept w W S) (hs : ∀ k, S k → S' k) : Kept w W S' := ⟨h.1, fun i hi hn => h.2 i hi (fun hk => hn (hs i hk)), h.3⟩
theorem Kept.then_ (h : Kept w W S) (k : Kept W W2 S2) (hs : ∀ k, S2 k → S k ∨ w.heap.size ≤ k) : Kept w W2 S :=
  ⟨Nat.le_trans h.1 k.1, fun i hi hn => (k.2 i (Nat.lt_of_lt_of_le hi h.1) (fun h2 => (hs i h2).elim hn (fun h3 => by omega))).trans (h.2 i hi hn), h.3.trans k.3⟩
theorem Kept.below (h : Kept w W S) (hb : Below W.heap.size W W2) : Kept w W2 S := h.then_ (Kept.of_below hb (fun _ => False)) (fun _ hk => hk.elim)
theorem Kept.alloc (h : Kept w W S) (o : Obj) : Kept w (W.alloc o) S := h.below (below_alloc (Below.refl _ _) o)
theorem Kept.drew (h : Kept w W S) : Kept w W.drew S := ⟨h.1, h.2, h.3⟩
theorem Kept.drewN (h : Kept w W S) (m : Nat) : Kept w (W.drewN m) S := ⟨h.1, h.2, h.3⟩
theorem Kept.setCell (h : Kept w W S) {p : Addr} (hp : S p.block ∨ w.heap.size ≤ p.block) (u : Value) : Kept w (W.setCell p u) S :=
  h.then_ (S2 := fun k => k = p.block) ⟨by simp [World.setCell], fun i _ hn => Below.heap_setCell W p u i hn, Calm.set W p u⟩ (fun k hk => by rw [hk]; exact hp)
theorem Kept.old (h : Kept w W S) : Go.Proofs.YtaalafnkglbcpaaW.PrintWords.Kept w W S := ⟨h.1, h.2⟩
theorem blk_kept {g : Nat} {o : Obj} (hb : W.heap[g]? = some o) (hk : Kept W W2 S) (hne : ¬ S g) : W2.heap[g]? = some o := Go.Proofs.YtaalafnkglbcpaaW.PrintWords.blk_kept hb hk.old hne
theorem cell_kept {a : Addr} {v : Value} (hc : W.cell? a = some v) (hk : Kept W W2 S) (hne : ¬ S a.block) : W2.cell? a = some v := Go.Proofs.YtaalafnkglbcpaaW.PrintWords.cell_kept hc hk.old hne
theorem Kd.R_kept {α : Type} {d : Kd α} {e base : Nat} {ok : Nat → Prop} {v : Value} {xs : List α} (h : d.R e W base ok v xs) (hk : Kept W W2 S) (hne : ∀ k, ok k → ¬ S k) : d.R e W2 base ok v xs := Go.Proofs.YtaalafnkglbcpaaW.PrintWords.Kd.R_kept h hk.old hne
theorem Kd.C_kept_own {α : Type} {d : Kd α} {e base n : Nat} {A : Option Addr} {c : Nat} {ok : Nat → Prop} {xs : List α} (h : d.R e W base ok (.slice A n c) xs) (hok : ∀ k, ok k → ¬ S k) : ∀ W', Kept W W' S → d.C W' A n xs := fun W' hk => Go.Proofs.YtaalafnkglbcpaaW.PrintWords.Kd.C_kept_own h hok W' hk.old
end
end Go.Proofs.Ytaalafnkglbcpaa.PL

namespace Go.Proofs.Ytaalafnkglbcpaa.PL
open Go.RowKit Go.Proofs.YtaalafnkglbcpaaW.PrintWords Go.Proofs.YtaalafnkglbcpaaW.PrintLast Go.Proofs.YtaalafnkglbcpaaW.PrintMore
set_option linter.unusedVariables false
set_option linter.unusedSimpArgs false

/-- The learner's cells. -/
abbrev LC (ins outs : Int) (gb : Nat) (asked : Int) (tv wv : Value) : Array Value := #[.int .i64 ins, .int .i64 outs, .func (.func 57) #[] #[.pointer (some ⟨gb, 0, none⟩)], .int .i64 asked, .bool false, tv, wv]
def LB (w : World) (g : Nat) (ins outs : Int) (gb : Nat) (asked : Int) (tv wv : Value) : Prop := w.heap[g]? = some (.cells (LC ins outs gb asked tv wv) 93 (0, 0))

set_option maxHeartbeats 8000000 in
set_option maxRecDepth 100000 in
theorem answer_calls (k g gb m : Nat) (ins outs asked : Int) (tv wv : Value) (A0 Aw : Option Addr) (c0 cw : Nat) (t : List (List S77)) (word out : List Int) (w : World) (hL : LB w g ins outs gb asked tv wv) (hgb : g ≠ gb)
    (hb : w.heap[gb]? = some (.cells #[.int .i64 ins, .int .i64 outs, .slice A0 t.length c0] 25 (0, 0)))
    (ht : ∀ W', Kept w W' (fun k => k = g) → Kd.C (Kd.slice 77 k77) W' A0 t.length t) (hc0 : t.length ≤ c0) (hw : ∀ W', Kept w W' (fun k => k = g) → Kd.C (Kd.int .i64) W' Aw word.length word) (hcw : word.length ≤ cw) (hwl : word.length ≤ 100000)
    (h : learn_Run.f k ins outs t word = some (out, 0)) (hlen : out.length = word.length) (hout : ∀ x ∈ out, 0 ≤ x ∧ x < shl .i64 1 outs) (ho : 0 ≤ outs ∧ outs ≤ 10) (hm : m ≤ word.length) (hm1 : 1 ≤ m) (ha : 0 ≤ asked ∧ asked ≤ 1000000000000000) :
    Calls Try.prog 74 #[.pointer (some ⟨g, 0, none⟩), .slice Aw word.length cw, .int .i64 (m : Int)] w fun e w' => ∃ v : Value, e = .returned v ∧ Kd.R (Kd.int .i64) 3 w' w.heap.size (fun _ => True) v (out.drop (out.length - m)) ∧ LB w' g ins outs gb (asked + 1) tv wv ∧ Kept w w' (fun k => k = g) := by
  have hg : g < w.heap.size := blk_lt hL
  have hu93 := Try.underlying93
  have q3 : (w.alloc (.cells #[.pointer (some ⟨g, 0, none⟩)] 90)).cell? ⟨g, 3, none⟩ = some (.int .i64 asked) := (blk_cell (blk_alloc hL _) 3).trans rfl
  have f3 : (w.alloc (.cells #[.pointer (some ⟨g, 0, none⟩)] 90)).frozen? ⟨g, 3, none⟩ = false := blk_frozen (blk_alloc hL _) 3
  have hne : w.heap.size ≠ g := by omega
  have ha1 : wrap64 (asked + 1) = asked + 1 := by unfold wrap64; omega
  have HL := Aside0.mk hL
  have HB := Aside0.mk hb
  have HT := Aside0.mk ht
  have HC0 := Aside0.mk hc0
  have HW := Aside0.mk hw
  have HCW := Aside0.mk hcw
  have HWL := Aside0.mk hwl
  have HH := Aside0.mk h
  have HLEN := Aside0.mk hlen
  have HOUT := Aside0.mk hout
  have HOO := Aside0.mk ho
  have HM := Aside0.mk hm
  have HM1 := Aside0.mk hm1
  have HGB := Aside0.mk hgb
  have HGL := Aside0.mk hg
  clear hL hb ht hc0 hw hcw hwl h hlen hout ho hm hm1 ha hg hgb
  go_enter Try.func74, Try.ntmps74
  go_upto_region 2 with (fail)
  rw [ha1]
  have L1 : Aside0 (LB ((w.alloc (.cells #[.pointer (some ⟨g, 0, none⟩)] 90)).setCell ⟨g, 3, none⟩ (.int .i64 (asked + 1))) g ins outs gb (asked + 1) tv wv) := ⟨blk_put (blk_alloc HL.out _) 3 _ rfl⟩
  have P1 : Aside0 (((w.alloc (.cells #[.pointer (some ⟨g, 0, none⟩)] 90)).setCell ⟨g, 3, none⟩ (.int .i64 (asked + 1))).heap[w.heap.size]? = some (.cells #[.pointer (some ⟨g, 0, none⟩)] 90 (0, 0))) := ⟨blk_far (blk_new w _) (by simpa using hne) _⟩
  have K1 : Aside0 (Kept w ((w.alloc (.cells #[.pointer (some ⟨g, 0, none⟩)] 90)).setCell ⟨g, 3, none⟩ (.int .i64 (asked + 1))) (fun k => k = g)) := ⟨Kept.setCell (S := fun k => k = g) (p := ⟨g, 3, none⟩) ((Kept.refl w (fun k => k = g)).alloc _) (Or.inl rfl) _⟩
  have Z1 : Aside0 (w.heap.size < ((w.alloc (.cells #[.pointer (some ⟨g, 0, none⟩)] 90)).setCell ⟨g, 3, none⟩ (.int .i64 (asked + 1))).heap.size) := ⟨blk_lt P1.out⟩
  clear q3 f3 HL ha1
  generalize ((w.alloc (.cells #[.pointer (some ⟨g, 0, none⟩)] 90)).setCell ⟨g, 3, none⟩ (.int .i64 (asked + 1))) = w1 at L1 P1 K1 Z1 ⊢
  have c1 : w1.cell? ⟨w.heap.size, 0, none⟩ = some (.pointer (some ⟨g, 0, none⟩)) := (blk_cell P1.out 0).trans rfl
  have c2 : w1.cell? ⟨g, 2, none⟩ = some (.func (.func 57) #[] #[.pointer (some ⟨gb, 0, none⟩)]) := (blk_cell L1.out 2).trans rfl
  go_region_held3 (fun w' => w'.cell? ⟨w.heap.size, 0, none⟩ = some (.pointer (some ⟨g, 0, none⟩)) ∧ w'.cell? ⟨g, 2, none⟩ = some (.func (.func 57) #[] #[.pointer (some ⟨gb, 0, none⟩)]))
    (first | go_keep | exact ⟨C3.out.1, C3.out.2⟩ | exact ⟨C2.out.1, C2.out.2⟩)
    (first
      | (go_at_call 56; (refine (clone_I.calls Aw cw word word _ (HW.out _ K1.out.drew) HCW.out (by unfold clone_I.f; rw [if_pos (by have := HWL.out; omega)])).mono ?_; rintro e w2 ⟨v2, rfl, ho2, hb2⟩; have K2 := Aside0.mk (K1.out.drew.below hb2); have L2 := Aside0.mk (blk_below (blk_drew L1.out) hb2); have P2 := Aside0.mk (blk_below (blk_drew P1.out) hb2); have O2 := Aside0.mk ho2; clear ho2 hb2; have C2 := Aside0.mk (And.intro ((blk_cell P2.out 0).trans (show _ = some (Value.pointer (some ⟨g, 0, none⟩)) from rfl)) ((blk_cell L2.out 2).trans (show _ = some (Value.func (.func 57) #[] #[.pointer (some ⟨gb, 0, none⟩)]) from rfl))); obtain ⟨A2, cc2, e2⟩ := Kd.R_slice O2.out; subst e2))
      | (go_at_call 57; (refine (ask_calls k gb ins outs A0 A2 c0 cc2 t word out _ (blk_kept HB.out K2.out (fun e => HGB.out e.symm)) (HT.out _ K2.out) HC0.out (Kd.R_reads' O2.out).2.2 (Kd.R_reads' O2.out).2.1 HH.out).mono ?_; rintro e w3 ⟨v3, rfl, ho3, hb3⟩; have K3 := Aside0.mk (K2.out.below hb3); have L3 := Aside0.mk (blk_below L2.out hb3); have P3 := Aside0.mk (blk_below P2.out hb3); have O3 := Aside0.mk ho3; clear ho3 hb3; have C3 := Aside0.mk (And.intro ((blk_cell P3.out 0).trans (show _ = some (Value.pointer (some ⟨g, 0, none⟩)) from rfl)) ((blk_cell L3.out 2).trans (show _ = some (Value.func (.func 57) #[] #[.pointer (some ⟨gb, 0, none⟩)]) from rfl))); obtain ⟨A3, cc3, e3⟩ := Kd.R_slice O3.out; subst e3)))
  obtain ⟨d, hd⟩ : ∃ d : Nat, d + m = out.length := ⟨out.length - m, by have := HM.out; have := HLEN.out; omega⟩
  have hl0 : ((out.length : Int) != (word.length : Int)) = false := by rw [HLEN.out]; simp
  have hs0 : wrap64 ((out.length : Int) - (m : Int)) = (d : Int) := by unfold wrap64; have := HLEN.out; have := HWL.out; omega
  have HD := Aside0.mk hd
  have hd0 : (0 : Int) ≤ (d : Int) := by omega
  have hd1 : (d : Int) ≤ (out.length : Int) := by omega
  have hd2 : (d : Int) ≤ (cc3 : Int) := by have := (Kd.R_reads' O3.out).2.1; omega
  have C4 := Aside0.mk (allgood_calls A3 cc3 w.heap.size g out outs w3 (Kd.R_reads' O3.out).2.2 HOUT.out HOO.out C3.out.1 ((blk_cell L3.out 1).trans rfl))
  clear hd C2 P2 L2 O2
  go_wp2_with fail
  (with_reducible refine C4.out.mono ?_)
  rintro e w4 ⟨rfl, hb4⟩
  obtain ⟨nd, rfl⟩ := hb4
  clear C4
  have hcd : ¬ cc3 = d := by have := (Kd.R_reads' O3.out).2.1; have := HD.out; have := HM1.out; omega
  have C5 : Kd.C (Kd.int .i64) (w3.drewN nd) (Option.map (fun x => x.add d) A3) (out.drop d).length (out.drop d) := by
    have h5 := Kd.C_drop (m := d) (c := cc3) (Kd.C_drewN (Kd.R_reads' O3.out).2.2 nd) (by have := HD.out; omega) (Kd.R_reads' O3.out).2.1
    rw [if_neg hcd, show d * (Kd.int .i64).sz = d from Nat.mul_one d] at h5
    exact h5
  have C6 := Aside0.mk (clone_I.calls (Option.map (fun x => x.add d) A3) (cc3 - d) (out.drop d) (out.drop d) (w3.drewN nd) C5 (by rw [List.length_drop]; have := (Kd.R_reads' O3.out).2.1; omega) (by unfold clone_I.f; rw [if_pos (by rw [List.length_drop]; have := HLEN.out; have := HWL.out; omega)]))
  rw [List.length_drop] at C6
  clear C5
  go_wp2_with fail
  (with_reducible refine C6.out.mono ?_)
  rintro e w5 ⟨v5, rfl, ho5, hb5⟩
  have O5 := Aside0.mk ho5
  have L5 := Aside0.mk (blk_below (blk_drewN L3.out nd) hb5)
  have K5 := Aside0.mk ((K3.out.drewN nd).below hb5)
  clear ho5 hb5 C6
  obtain ⟨A5, cc5, e5⟩ := Kd.R_slice O5.out
  subst e5
  go_wp2
  go_ret
  refine ⟨_, rfl, ?_, L5.out, K5.out⟩
  rw [show out.length - m = d by have := HD.out; omega]
  have h6 := O5.out
  rw [List.length_drop] at h6
  exact Kd.R_lower h6 (K3.out.drewN nd).1
end Go.Proofs.Ytaalafnkglbcpaa.PL

namespace Go.Proofs.Ytaalafnkglbcpaa.PL
open Go.RowKit Go.Proofs.YtaalafnkglbcpaaW.PrintWords Go.Proofs.YtaalafnkglbcpaaW.PrintLast Go.Proofs.YtaalafnkglbcpaaW.PrintMore
set_option linter.unusedVariables false
set_option linter.unusedSimpArgs false

/-- A literal of two rows. -/
theorem C_two (W : World) (e : Nat) (A B : Option Addr) (ca cb : Nat) (x y : List Int) (hx : Kd.C (Kd.int .i64) W A x.length x) (hca : x.length ≤ ca) (hy : Kd.C (Kd.int .i64) W B y.length y) (hcb : y.length ≤ cb) :
    Kd.C (Kd.slice 3 (Kd.int .i64)) (W.alloc (.cells #[.slice A x.length ca, .slice B y.length cb] e)) (some ⟨W.heap.size, 0, none⟩) [x, y].length [x, y] := by
  refine ⟨rfl, by simp, fun _ => ⟨_, rfl, fun j p hj => ?_⟩⟩
  match j, hj with
  | 0, hj =>
    obtain rfl := Option.some.inj hj
    exact ⟨[.slice A x.length ca], rfl, ⟨A, ca, rfl, hca, Kd.C_alloc hx _⟩, fun i u hu => by
      cases i with
      | zero => simp at hu; subst hu; go_simp
      | succ i => simp at hu⟩
  | 1, hj =>
    obtain rfl := Option.some.inj hj
    exact ⟨[.slice B y.length cb], rfl, ⟨B, cb, rfl, hcb, Kd.C_alloc hy _⟩, fun i u hu => by
      cases i with
      | zero => simp at hu; subst hu; go_simp; rfl
      | succ i => simp at hu⟩
  | j + 2, hj => simp at hj
/-- What the tests show: of each test the answer to its own letters. -/
def shows (f : List Int → List Int) (word : List Int) (tests : List (List Int)) : List Int := (tests.map fun x => (f (word ++ x)).drop ((f (word ++ x)).length - x.length)).flatten
theorem shows_snoc (f : List Int → List Int) (word : List Int) (tests : List (List Int)) (j : Nat) (hj : j < tests.length) :
    shows f word (tests.take (j + 1)) = shows f word (tests.take j) ++ (f (word ++ rd_L3b tests j)).drop ((f (word ++ rd_L3b tests j)).length - (rd_L3b tests j).length) := by
  unfold shows
  rw [List.take_succ_eq_append_getElem hj, List.map_append, List.flatten_append]
  simp [rd_L3b, List.getD_eq_getElem?_getD, List.getElem?_eq_getElem hj]

theorem shows_len (f : List Int → List Int) (word : List Int) : ∀ (tests : List (List Int)), (∀ x ∈ tests, x.length ≤ 1000) → tests.length ≤ 1000 → ∀ j, (shows f word (tests.take j)).length ≤ 1000000 := by
  have key : ∀ l : List (List Int), (∀ x ∈ l, x.length ≤ 1000) → (shows f word l).length ≤ 1000 * l.length := by
    intro l
    induction l with
    | nil => intro _; simp [shows]
    | cons a l ih =>
      intro h
      have h1 := ih (fun x hx => h x (by simp [hx]))
      have h2 := h a (by simp)
      have e : shows f word (a :: l) = (f (word ++ a)).drop ((f (word ++ a)).length - a.length) ++ shows f word l := rfl
      rw [e, List.length_append, List.length_drop, List.length_cons]
      omega
  intro tests h hl j
  have h1 := key (tests.take j) (fun x hx => h x (List.mem_of_mem_take hx))
  have h2 : (tests.take j).length ≤ 1000 := by rw [List.length_take]; omega
  omega
/-- What is asked of a word: the box's run of it is f's. -/
structure Asks (ins outs : Int) (t : List (List S77)) (f : List Int → List Int) (u : List Int) : Prop where
  run : ∃ k, learn_Run.f k ins outs t u = some (f u, 0)
  len : (f u).length = u.length
  good : ∀ x ∈ f u, 0 ≤ x ∧ x < shl .i64 1 outs
set_option maxHeartbeats 8000000 in
set_option maxRecDepth 100000 in
theorem row_calls (f : List Int → List Int) (g gb : Nat) (ins outs asked : Int) (wv : Value) (A0 Aw At : Option Addr) (c0 cw ct : Nat) (t : List (List S77)) (word : List Int) (tests : List (List Int)) (w : World) (hL : LB w g ins outs gb asked (.slice At tests.length ct) wv) (hgb : g ≠ gb)
    (hb : w.heap[gb]? = some (.cells #[.int .i64 ins, .int .i64 outs, .slice A0 t.length c0] 25 (0, 0)))
    (ht : ∀ W', Kept w W' (fun k => k = g) → Kd.C (Kd.slice 77 k77) W' A0 t.length t) (hc0 : t.length ≤ c0) (hw : ∀ W', Kept w W' (fun k => k = g) → Kd.C (Kd.int .i64) W' Aw word.length word) (hcw : word.length ≤ cw)
    (htt : ∀ W', Kept w W' (fun k => k = g) → Kd.C (Kd.slice 3 (Kd.int .i64)) W' At tests.length tests) (htl : tests.length ≤ 1000) (hwl : word.length ≤ 1000) (htw : ∀ x ∈ tests, 1 ≤ x.length ∧ x.length ≤ 1000)
    (hf : ∀ x ∈ tests, Asks ins outs t f (word ++ x)) (ho : 0 ≤ outs ∧ outs ≤ 10) (ha : 0 ≤ asked ∧ asked + 1000 ≤ 1000000000000000) :
    Calls Try.prog 73 #[.pointer (some ⟨g, 0, none⟩), .slice Aw word.length cw] w fun e w' => ∃ v : Value, e = .returned v ∧ Kd.R (Kd.int .i64) 3 w' w.heap.size (fun k => k ≠ g) v (shows f word tests) ∧ LB w' g ins outs gb (asked + tests.length) (.slice At tests.length ct) wv ∧ Kept w w' (fun k => k = g) := by
  have HL := Aside0.mk hL
  have HB := Aside0.mk hb
  have HT := Aside0.mk ht
  have HC0 := Aside0.mk hc0
  have HW := Aside0.mk hw
  have HCW := Aside0.mk hcw
  have HTT := Aside0.mk htt
  have HTL := Aside0.mk htl
  have HWL := Aside0.mk hwl
  have HTW := Aside0.mk htw
  have HF := Aside0.mk hf
  have HOO := Aside0.mk ho
  have HA := Aside0.mk ha
  have HGB := Aside0.mk hgb
  have HGL := Aside0.mk (blk_lt hL)
  have hu93 := Try.underlying93
  have q5 : w.cell? ⟨g, 5, none⟩ = some (.slice At tests.length ct) := (blk_cell hL 5).trans rfl
  clear hL hb ht hc0 hw hcw htt htl hwl htw hf ho ha hgb
  go_enter Try.func73, Try.ntmps73
  go_wp2
  go_loopw [5, 13] (fun v5 v13 wr => ∃ j : Nat, j ≤ tests.length ∧ v13 = .int .i64 j ∧ Aside0 (Kd.R (Kd.int .i64) 3 wr w.heap.size (fun k => k ≠ g) v5 (shows f word (tests.take j))) ∧ Aside0 (LB wr g ins outs gb (asked + (j : Int)) (.slice At tests.length ct) wv) ∧ Aside0 (Kept w wr (fun k => k = g))) (fun _ v13 _ => tests.length - (intOf v13).toNat)
  case atStart => exact ⟨0, by omega, rfl, ⟨by simpa [shows] using Kd.R_nil _ _ _ _ _⟩, ⟨by simpa using HL.out⟩, ⟨Kept.refl _ _⟩⟩
  case round =>
    obtain ⟨j, hj, rfl, HO, HLJ, HK⟩ := hrel
    obtain ⟨w1, rfl⟩ : ∃ w1 : World, w1 = wr := ⟨_, rfl⟩
    obtain ⟨Ao, co, eo⟩ := Kd.R_slice HO.out
    subst eo
    by_cases hlt : j < tests.length
    · obtain ⟨a, A1, c1, ea, g0, g1, g2⟩ := at_L3b (HTT.out _ HK.out) j hlt
      subst ea
      have hxm : rd_L3b tests j ∈ tests := by unfold rd_L3b; rw [List.getD_eq_getElem?_getD, List.getElem?_eq_getElem hlt]; exact List.getElem_mem hlt
      have HX := Aside0.mk (HTW.out _ hxm)
      have HFX := Aside0.mk (HF.out _ hxm)
      have HS := Aside0.mk (shows_snoc f word tests j hlt)
      clear hxm
      generalize rd_L3b tests j = x at *
      have G1 := Aside0.mk g1
      have G2 := Aside0.mk g2
      have HJ := Aside0.mk hlt
      clear g1 g2
      have hl2 : (tests.length : Int) ≤ 1000 := by have := HTL.out; omega
      have C2 := Aside0.mk (PG.slices_Concat_int_int.calls (some ⟨w1.heap.size, 0, none⟩) 2 [word, x] (word ++ x) (w1.alloc (.cells #[.slice Aw word.length cw, .slice A1 x.length c1] 22)) (C_two w1 22 Aw A1 cw c1 word x (HW.out _ HK.out) HCW.out G2.out G1.out) (Nat.le_refl _) (by unfold PG.slices_Concat_int_int.f; rw [if_pos ⟨by simp, by have := HX.out; have := HWL.out; simp [PG.lens]; omega⟩]; simp))
      go_wp2_with fail
      refine C2.out.mono ?_
      rintro e w2 ⟨v2, rfl, ho2, hb2⟩
      have K2 := Aside0.mk ((HK.out.alloc (.cells #[.slice Aw word.length cw, .slice A1 x.length c1] 22)).below hb2)
      have L2 := Aside0.mk (blk_below (blk_alloc HLJ.out (.cells #[.slice Aw word.length cw, .slice A1 x.length c1] 22)) hb2)
      have O2 := Aside0.mk (Kd.R_mono (Kd.R_bound ho2) (ok' := fun k => k ≠ g) (fun k hk => by have := hk.2.1; have := (HK.out.alloc (.cells #[.slice Aw word.length cw, .slice A1 x.length c1] 22)).1; have := HGL.out; omega))
      have HO2 := Aside0.mk (Kd.R_below (Kd.R_alloc HO.out (.cells #[.slice Aw word.length cw, .slice A1 x.length c1] 22)) hb2)
      clear ho2 hb2 C2 HO HLJ HK
      obtain ⟨A2, c2, e2⟩ := Kd.R_slice O2.out
      subst e2
      obtain ⟨kx, hkx⟩ := HFX.out.run
      have C3 := Aside0.mk (answer_calls kx g gb x.length ins outs (asked + (j : Int)) (.slice (some a) tests.length ct) wv A0 A2 c0 c2 t (word ++ x) (f (word ++ x)) w2 L2.out HGB.out (blk_kept HB.out K2.out (fun e => HGB.out e.symm)) (fun W' h => HT.out W' (K2.out.then_ h (fun _ h => .inl h))) HC0.out (Kd.C_kept_own O2.out (fun k hk => hk)) (Kd.R_reads' O2.out).2.1 (by have := HX.out; have := HWL.out; simp; omega) hkx HFX.out.len HFX.out.good HOO.out (by simp) HX.out.1 (by have := HA.out; omega))
      rw [List.length_append] at C3
      clear hkx
      go_wp2_with fail
      (with_reducible refine C3.out.mono ?_)
      rintro e w3 ⟨v3, rfl, ho3, l3, k3⟩
      have K3 := Aside0.mk (K2.out.then_ k3 (fun _ h => .inl h))
      have L3 := Aside0.mk l3
      have O3 := Aside0.mk ho3
      have HO3 := Aside0.mk (Kd.R_kept HO2.out k3 (fun k hk => hk))
      clear ho3 l3 k3 C3 L2 O2 HO2 K2
      obtain ⟨A3, c3, e3⟩ := Kd.R_slice O3.out
      subst e3
      have HLS := Aside0.mk (shows_len f word tests (fun x hx => (HTW.out x hx).2) HTL.out j)
      have HY := Aside0.mk (show ((f (word ++ x)).drop ((f (word ++ x)).length - x.length)).length ≤ 1000 by rw [List.length_drop]; have := HX.out; omega)
      generalize ey : (f (word ++ x)).drop ((f (word ++ x)).length - x.length) = y at *
      go_wp2_with ((with_reducible refine gate_builtin (b := .append) (xs := #[.tmp 17, .tmp 25]) rfl ?_); at_builtin; refine Kd.R_append_rows (Kd.int .i64) (w0 := w3) w.heap.size rfl (.tmp 17) (.tmp 25) 22 3 (.int .i64 0) 8 rfl Try.underlying22 info3 rfl (by decide) (by omega) (.slice Ao (shows f word (tests.take j)).length co) (shows f word (tests.take j)) y A3 _ _ (fun k => k ≠ g) (fun _ => False) rfl rfl ?aO ?aR (fun _ _ h => h) (fun _ h => h.elim) ?aF ?aB ?aS ?aL ?_; (case aO => exact HO3.out); (case aR => exact (Kd.R_reads' O3.out).2.2); (case aF => intro k hk; have := K3.out.1; have := HGL.out; omega); (case aB => exact Below.refl _ _); (case aS => exact K3.out.1); (case aL => have := HY.out; have := HLS.out; omega); intro v7 w7 ho hb hg hat; have O7 := Aside0.mk ho; have B7 := Aside0.mk hb; clear ho hb hg hat)
      go_roundw
      case rel => exact ⟨j + 1, by omega, by go_num, ⟨by rw [HS.out]; exact O7.out⟩, ⟨by have h := (B7.out.block g HGL.out).trans L3.out; rwa [show asked + (j : Int) + 1 = asked + ((j + 1 : Nat) : Int) by omega] at h⟩, ⟨Nat.le_trans K3.out.1 B7.out.size, fun i hi hn => (B7.out.block i hi).trans (K3.out.2 i hi hn), K3.out.3.trans (Calm.below B7.out)⟩⟩
      case measure => simp [intOf]; omega
    · have hje : j = tests.length := by omega
      subst hje
      go_wp2
      go_ret
      exact ⟨_, rfl, by rw [show shows f word tests = shows f word (tests.take tests.length) by rw [List.take_length]]; exact HO.out, HLJ.out, HK.out⟩
end Go.Proofs.Ytaalafnkglbcpaa.PL

namespace Go.Proofs.Ytaalafnkglbcpaa.PL
open Go.RowKit Go.Proofs.YtaalafnkglbcpaaW.PrintWords Go.Proofs.YtaalafnkglbcpaaW.PrintLast Go.Proofs.YtaalafnkglbcpaaW.PrintMore
set_option linter.unusedVariables false
set_option linter.unusedSimpArgs false

/-- A literal of three rows. -/
theorem C_three (W : World) (e : Nat) (A B D : Option Addr) (ca cb cd : Nat) (x y z : List Int) (hx : Kd.C (Kd.int .i64) W A x.length x) (hca : x.length ≤ ca) (hy : Kd.C (Kd.int .i64) W B y.length y) (hcb : y.length ≤ cb) (hz : Kd.C (Kd.int .i64) W D z.length z) (hcd : z.length ≤ cd) :
    Kd.C (Kd.slice 3 (Kd.int .i64)) (W.alloc (.cells #[.slice A x.length ca, .slice B y.length cb, .slice D z.length cd] e)) (some ⟨W.heap.size, 0, none⟩) [x, y, z].length [x, y, z] := by
  refine ⟨rfl, by simp, fun _ => ⟨_, rfl, fun j p hj => ?_⟩⟩
  match j, hj with
  | 0, hj =>
    obtain rfl := Option.some.inj hj
    exact ⟨[.slice A x.length ca], rfl, ⟨A, ca, rfl, hca, Kd.C_alloc hx _⟩, fun i u hu => by
      cases i with
      | zero => simp at hu; subst hu; go_simp
      | succ i => simp at hu⟩
  | 1, hj =>
    obtain rfl := Option.some.inj hj
    exact ⟨[.slice B y.length cb], rfl, ⟨B, cb, rfl, hcb, Kd.C_alloc hy _⟩, fun i u hu => by
      cases i with
      | zero => simp at hu; subst hu; go_simp; rfl
      | succ i => simp at hu⟩
  | 2, hj =>
    obtain rfl := Option.some.inj hj
    exact ⟨[.slice D z.length cd], rfl, ⟨D, cd, rfl, hcd, Kd.C_alloc hz _⟩, fun i u hu => by
      cases i with
      | zero => simp at hu; subst hu; go_simp; rfl
      | succ i => simp at hu⟩
  | j + 3, hj => simp at hj

/-- What the closure tells of a word u: all tests stood, or one told wrongly that is now 'found'. -/
def TestPost (f G : List Int → List Int) (g gb gf : Nat) (ins outs asked : Int) (tv wv : Value) (pre : List Int) (tests : List (List Int)) (w : World) (e : Ending) (w' : World) : Prop :=
  ∃ n : Nat, n ≤ tests.length ∧ LB w' g ins outs gb (asked + n) tv wv ∧ Kept w w' (fun k => k = g ∨ k = gf) ∧
    ((e = .returned (.bool true) ∧ (∀ x ∈ tests, f (pre ++ x) = G (pre ++ x)) ∧ w'.heap[gf]? = w.heap[gf]?) ∨
     (e = .returned (.bool false) ∧ ∃ x ∈ tests, f (pre ++ x) ≠ G (pre ++ x) ∧ ∃ (A : Option Addr) (c : Nat), w'.heap[gf]? = some (.cells #[.slice A (pre ++ x).length c] 22 (0, 0)) ∧ Kd.R (Kd.int .i64) 3 w' w.heap.size (fun k => k ≠ g ∧ k ≠ gf) (.slice A (pre ++ x).length c) (pre ++ x)))
set_option maxHeartbeats 8000000 in
set_option maxRecDepth 100000 in
theorem test_calls (f G : List Int → List Int) (g gb p gw gt gf : Nat) (ins outs asked : Int) (wv : Value) (A0 A9 Aw Ay At : Option Addr) (c0 c9 cw cy ct : Nat) (t T : List (List S77)) (way y : List Int) (tests : List (List Int)) (w : World)
    (hL : LB w g ins outs gb asked (.slice At tests.length ct) wv) (hgb : gb ≠ g ∧ gb ≠ gf) (hp : p ≠ g ∧ p ≠ gf) (hgw : gw ≠ g ∧ gw ≠ gf) (hgt : gt ≠ g ∧ gt ≠ gf) (hgf : gf ≠ g)
    (hb : w.heap[gb]? = some (.cells #[.int .i64 ins, .int .i64 outs, .slice A0 t.length c0] 25 (0, 0)))
    (bp : w.heap[p]? = some (.cells #[.pointer (some ⟨g, 0, none⟩)] 90 (0, 0))) (bw : w.heap[gw]? = some (.cells #[.slice Aw way.length cw] 22 (0, 0))) (bt : w.heap[gt]? = some (.cells #[.int .i64 ins, .int .i64 outs, .slice A9 T.length c9] 25 (0, 0))) (bf : w.heap[gf]? = some (.cells #[.slice none 0 0] 22 (0, 0)))
    (ht : ∀ W', Kept w W' (fun k => k = g ∨ k = gf) → Kd.C (Kd.slice 77 k77) W' A0 t.length t) (hc0 : t.length ≤ c0) (hT : ∀ W', Kept w W' (fun k => k = g ∨ k = gf) → Kd.C (Kd.slice 77 k77) W' A9 T.length T) (hc9 : T.length ≤ c9)
    (hw : ∀ W', Kept w W' (fun k => k = g ∨ k = gf) → Kd.C (Kd.int .i64) W' Aw way.length way) (hcw : way.length ≤ cw) (hy : ∀ W', Kept w W' (fun k => k = g ∨ k = gf) → Kd.C (Kd.int .i64) W' Ay y.length y) (hcy : y.length ≤ cy)
    (htt : ∀ W', Kept w W' (fun k => k = g ∨ k = gf) → Kd.C (Kd.slice 3 (Kd.int .i64)) W' At tests.length tests) (htl : tests.length ≤ 1000) (hwl : way.length ≤ 1000 ∧ y.length ≤ 1000) (htw : ∀ x ∈ tests, 1 ≤ x.length ∧ x.length ≤ 1000)
    (hf : ∀ x ∈ tests, Asks ins outs t f (way ++ y ++ x)) (hG : ∀ x ∈ tests, Asks ins outs T G (way ++ y ++ x)) (ho : 0 ≤ outs ∧ outs ≤ 10) (ha : 0 ≤ asked ∧ asked + 1000 ≤ 1000000000000000) :
    Calls Try.prog 78 #[.slice Ay y.length cy, .pointer (some ⟨p, 0, none⟩), .pointer (some ⟨gw, 0, none⟩), .pointer (some ⟨gt, 0, none⟩), .pointer (some ⟨gf, 0, none⟩)] w (TestPost f G g gb gf ins outs asked (.slice At tests.length ct) wv (way ++ y) tests w) := by
  have HL := Aside0.mk hL
  have HGB := Aside0.mk hgb
  have HP := Aside0.mk hp
  have HGW := Aside0.mk hgw
  have HGT := Aside0.mk hgt
  have HGF := Aside0.mk hgf
  have HB := Aside0.mk hb
  have BP := Aside0.mk bp
  have BW := Aside0.mk bw
  have BT := Aside0.mk bt
  have BF := Aside0.mk bf
  have HT := Aside0.mk ht
  have HC0 := Aside0.mk hc0
  have HTT' := Aside0.mk hT
  have HC9 := Aside0.mk hc9
  have HW := Aside0.mk hw
  have HCW := Aside0.mk hcw
  have HY := Aside0.mk hy
  have HCY := Aside0.mk hcy
  have HTT := Aside0.mk htt
  have HTL := Aside0.mk htl
  have HWL := Aside0.mk hwl
  have HTW := Aside0.mk htw
  have HF := Aside0.mk hf
  have HG := Aside0.mk hG
  have HOO := Aside0.mk ho
  have HA := Aside0.mk ha
  have HGL := Aside0.mk (And.intro (blk_lt hL) (blk_lt bf))
  have hu93 := Try.underlying93
  have hu25 := Try.underlying25
  have q1 : w.cell? ⟨p, 0, none⟩ = some (.pointer (some ⟨g, 0, none⟩)) := (blk_cell bp 0).trans rfl
  have q5 : w.cell? ⟨g, 5, none⟩ = some (.slice At tests.length ct) := (blk_cell hL 5).trans rfl
  clear hL hgb hp hgw hgt hgf hb bp bw bt bf ht hc0 hT hc9 hw hcw hy hcy htt htl hwl htw hf hG ho ha
  go_enter Try.func78, Try.ntmps78
  go_wp2
  clear q1 q5
  go_loopw [18] (fun v18 wr => ∃ j : Nat, j ≤ tests.length ∧ v18 = .int .i64 j ∧ Aside0 (∀ i, i < j → f (way ++ y ++ rd_L3b tests i) = G (way ++ y ++ rd_L3b tests i)) ∧ Aside0 (LB wr g ins outs gb (asked + (j : Int)) (.slice At tests.length ct) wv) ∧ Aside0 (Kept w wr (fun k => k = g ∨ k = gf)) ∧ Aside0 (wr.heap[gf]? = some (.cells #[.slice none 0 0] 22 (0, 0)))) (fun v18 _ => tests.length - (intOf v18).toNat)
  case atStart => exact ⟨0, by omega, rfl, ⟨fun i h => by omega⟩, ⟨by simpa using HL.out⟩, ⟨Kept.refl _ _⟩, BF⟩
  case round =>
    obtain ⟨j, hj, rfl, HE, HLJ, HK, HBF⟩ := hrel
    obtain ⟨w1, rfl⟩ : ∃ w1 : World, w1 = wr := ⟨_, rfl⟩
    have P1 := Aside0.mk (blk_kept BP.out HK.out (fun h => h.elim HP.out.1 HP.out.2))
    have W1 := Aside0.mk (blk_kept BW.out HK.out (fun h => h.elim HGW.out.1 HGW.out.2))
    have T1 := Aside0.mk (blk_kept BT.out HK.out (fun h => h.elim HGT.out.1 HGT.out.2))
    by_cases hlt : j < tests.length
    · obtain ⟨a, A1, c1, ea, g0, g1, g2⟩ := at_L3b (HTT.out _ HK.out) j hlt
      subst ea
      have hxm : rd_L3b tests j ∈ tests := by unfold rd_L3b; rw [List.getD_eq_getElem?_getD, List.getElem?_eq_getElem hlt]; exact List.getElem_mem hlt
      have HXM := Aside0.mk hxm
      have HX := Aside0.mk (HTW.out _ hxm)
      have HFX := Aside0.mk (HF.out _ hxm)
      have HGX := Aside0.mk (HG.out _ hxm)
      clear hxm
      generalize ex : rd_L3b tests j = x at *
      have EX := Aside0.mk ex
      have G1 := Aside0.mk g1
      have G2 := Aside0.mk g2
      have HJ := Aside0.mk hlt
      clear g1 g2 ex
      have hl2 : (tests.length : Int) ≤ 1000 := by have := HTL.out; omega
      have r1 : w1.cell? ⟨gw, 0, none⟩ = some (.slice Aw way.length cw) := (blk_cell W1.out 0).trans rfl
      have C2 := Aside0.mk (PG.slices_Concat_int_int.calls (some ⟨w1.heap.size, 0, none⟩) 3 [way, y, x] (way ++ y ++ x) (w1.alloc (.cells #[.slice Aw way.length cw, .slice Ay y.length cy, .slice A1 x.length c1] 22)) (C_three w1 22 Aw Ay A1 cw cy c1 way y x (HW.out _ HK.out) HCW.out (HY.out _ HK.out) HCY.out G2.out G1.out) (Nat.le_refl _) (by unfold PG.slices_Concat_int_int.f; rw [if_pos ⟨by simp, by have := HX.out; have := HWL.out; simp [PG.lens]; omega⟩]; simp))
      go_wp2_with fail
      refine C2.out.mono ?_
      rintro e w2 ⟨v2, rfl, ho2, hb2⟩
      have K2 := Aside0.mk ((HK.out.alloc (.cells #[.slice Aw way.length cw, .slice Ay y.length cy, .slice A1 x.length c1] 22)).below hb2)
      have L2 := Aside0.mk (blk_below (blk_alloc HLJ.out (.cells #[.slice Aw way.length cw, .slice Ay y.length cy, .slice A1 x.length c1] 22)) hb2)
      have F2 := Aside0.mk (blk_below (blk_alloc HBF.out (.cells #[.slice Aw way.length cw, .slice Ay y.length cy, .slice A1 x.length c1] 22)) hb2)
      have T2 := Aside0.mk (blk_below (blk_alloc T1.out (.cells #[.slice Aw way.length cw, .slice Ay y.length cy, .slice A1 x.length c1] 22)) hb2)
      have P2 := Aside0.mk (blk_below (blk_alloc P1.out (.cells #[.slice Aw way.length cw, .slice Ay y.length cy, .slice A1 x.length c1] 22)) hb2)
      have O2 := Aside0.mk (Kd.R_lower (base' := w.heap.size) (Kd.R_mono (Kd.R_bound ho2) (ok' := fun k => k ≠ g ∧ k ≠ gf) (fun k hk => by have := hk.2.1; have := (HK.out.alloc (.cells #[.slice Aw way.length cw, .slice Ay y.length cy, .slice A1 x.length c1] 22)).1; have := HGL.out; constructor <;> omega)) (HK.out.alloc (.cells #[.slice Aw way.length cw, .slice Ay y.length cy, .slice A1 x.length c1] 22)).1)
      clear ho2 hb2 C2 HLJ HK HBF P1 W1 T1 r1
      obtain ⟨A2, c2, e2⟩ := Kd.R_slice O2.out
      subst e2
      obtain ⟨kx, hkx⟩ := HFX.out.run
      obtain ⟨kg, hkg⟩ := HGX.out.run
      have HUL : Aside0 ((way ++ y ++ x).length ≤ 100000) := ⟨by have := HX.out; have := HWL.out; simp; omega⟩
      have HU1 : Aside0 (1 ≤ (way ++ y ++ x).length) := ⟨by have := HX.out; simp; omega⟩
      generalize eu : way ++ y ++ x = u at *
      have EU := Aside0.mk eu
      clear eu
      have t0 : w2.cell? ⟨gt, 0, none⟩ = some (.int .i64 ins) := (blk_cell T2.out 0).trans rfl
      have t1 : w2.cell? ⟨gt, 1, none⟩ = some (.int .i64 outs) := (blk_cell T2.out 1).trans rfl
      have t2 : w2.cell? ⟨gt, 2, none⟩ = some (.slice A9 T.length c9) := (blk_cell T2.out 2).trans rfl
      have C3 := Aside0.mk (learn_Run.calls kg ins outs A9 c9 T A2 c2 u (G u) 0 w2 (HTT'.out _ K2.out) HC9.out (Kd.R_reads' O2.out).2.2 (Kd.R_reads' O2.out).2.1 hkg)
      clear hkg
      go_wp2_with fail
      (with_reducible refine C3.out.mono ?_)
      rintro e w3 ⟨v3, rfl, ho3, hb3⟩
      have K3 := Aside0.mk (K2.out.below hb3)
      have L3 := Aside0.mk (blk_below L2.out hb3)
      have F3 := Aside0.mk (blk_below F2.out hb3)
      have P3 := Aside0.mk (blk_below P2.out hb3)
      have U3 := Aside0.mk (Kd.R_below O2.out hb3)
      have O3 := Aside0.mk (Kd.R_mono (Kd.R_bound ho3) (ok' := fun k => k ≠ g ∧ k ≠ gf) (fun k hk => by have := hk.2.1; have := K2.out.1; have := HGL.out; constructor <;> omega))
      clear ho3 hb3 C3 K2 L2 F2 T2 P2 O2 t0 t1 t2
      obtain ⟨A3, c3, e3⟩ := Kd.R_slice O3.out
      subst e3
      have s1 : w3.cell? ⟨p, 0, none⟩ = some (.pointer (some ⟨g, 0, none⟩)) := (blk_cell P3.out 0).trans rfl
      have C4 := Aside0.mk (answer_calls kx g gb u.length ins outs (asked + (j : Int)) (.slice (some a) tests.length ct) wv A0 A2 c0 c2 t u (f u) w3 L3.out HGB.out.1.symm (blk_kept HB.out K3.out (fun h => h.elim HGB.out.1 HGB.out.2)) (fun W' h => HT.out W' (K3.out.then_ h (fun _ h => .inl (.inl h)))) HC0.out (Kd.C_kept_own U3.out (fun k hk => hk.1)) (Kd.R_reads' U3.out).2.1 HUL.out hkx HFX.out.len HFX.out.good HOO.out (Nat.le_refl _) HU1.out (by have := HA.out; omega))
      clear hkx
      go_wp2_with fail
      (with_reducible refine C4.out.mono ?_)
      rintro e w4 ⟨v4, rfl, ho4, l4, k4⟩
      have K4 := Aside0.mk (K3.out.then_ k4 (fun _ h => .inl (.inl h)))
      have L4 := Aside0.mk l4
      have F4 := Aside0.mk (blk_kept F3.out k4 HGF.out)
      have P4 := Aside0.mk (blk_kept P3.out k4 HP.out.1)
      have U4 := Aside0.mk (Kd.R_kept U3.out k4 (fun k hk => hk.1))
      have V4 := Aside0.mk (Kd.R_kept O3.out k4 (fun k hk => hk.1))
      have O4 : Aside0 (Kd.R (Kd.int .i64) 3 w4 w3.heap.size (fun _ => True) v4 (f u)) := ⟨by have h := ho4; rwa [HFX.out.len, Nat.sub_self, List.drop_zero] at h⟩
      clear ho4 l4 k4 C4 K3 L3 F3 P3 U3 O3 s1
      obtain ⟨A4, c4, e4⟩ := Kd.R_slice O4.out
      subst e4
      have s1 : w4.cell? ⟨p, 0, none⟩ = some (.pointer (some ⟨g, 0, none⟩)) := (blk_cell P4.out 0).trans rfl
      have s4 : w4.cell? ⟨g, 4, none⟩ = some (.bool false) := (blk_cell L4.out 4).trans rfl
      obtain ⟨ke, hke⟩ := eqI_is (f u) (G u) (by have := HFX.out.len; have := HUL.out; omega)
      have C5 := Aside0.mk (slices_Equal_int_int.calls ke A4 c4 (f u) A3 c3 (G u) (decide (f u = G u)) w4 (Kd.R_reads' O4.out).2.2 (Kd.R_reads' O4.out).2.1 (Kd.R_reads' V4.out).2.2 (Kd.R_reads' V4.out).2.1 hke)
      clear hke
      go_wp2_with fail
      (with_reducible refine C5.out.mono ?_)
      rintro e w5 ⟨rfl, hd5⟩
      obtain ⟨nd, rfl⟩ := hd5
      clear C5 s1 s4
      have K5 := Aside0.mk (K4.out.drewN nd)
      have L5 := Aside0.mk (blk_drewN L4.out nd)
      have F5 := Aside0.mk (blk_drewN F4.out nd)
      have P5 := Aside0.mk (blk_drewN P4.out nd)
      have U5 := Aside0.mk (Kd.R_drewN U4.out nd)
      clear K4 L4 F4 P4 U4
      by_cases hq : f u = G u
      · have hq0 : decide (f u = G u) = true := decide_eq_true hq
        have HQ := Aside0.mk hq
        clear hq
        go_wp2
        go_roundw
        case rel => exact ⟨j + 1, by omega, by go_num, ⟨fun i h => by
          rcases Nat.lt_or_ge i j with h' | h'
          · exact HE.out i h'
          · rw [show i = j by omega, EX.out, EU.out]; exact HQ.out⟩, ⟨by have h := L5.out; rwa [show asked + (j : Int) + 1 = asked + ((j + 1 : Nat) : Int) by omega] at h⟩, K5, F5⟩
        case measure => simp [intOf]; omega
      · have hq0 : decide (f u = G u) = false := decide_eq_false hq
        have HQ := Aside0.mk hq
        clear hq
        have r1 : (w4.drewN nd).cell? ⟨gf, 0, none⟩ = some (.slice none 0 0) := (blk_cell F5.out 0).trans rfl
        have r2 : (w4.drewN nd).frozen? ⟨gf, 0, none⟩ = false := blk_frozen F5.out 0
        go_wp2
        go_ret
        refine ⟨j + 1, HJ.out, ?_, Kept.setCell (S := fun k => k = g ∨ k = gf) (p := ⟨gf, 0, none⟩) K5.out (Or.inl (Or.inr rfl)) _, .inr ⟨rfl, x, HXM.out, by rw [EU.out]; exact HQ.out, A2, c2, by rw [EU.out]; exact blk_put F5.out 0 _ rfl, by rw [EU.out]; exact Kd.R_far (p := ⟨gf, 0, none⟩) U5.out (fun k hk => hk.2) _⟩⟩
        have h := blk_far L5.out (p := ⟨gf, 0, none⟩) HGF.out.symm (.slice A2 u.length c2)
        rw [show asked + (j : Int) + 1 = asked + ((j + 1 : Nat) : Int) by omega] at h
        exact h
    · have hje : j = tests.length := by omega
      subst hje
      have s1 : w1.cell? ⟨p, 0, none⟩ = some (.pointer (some ⟨g, 0, none⟩)) := (blk_cell P1.out 0).trans rfl
      have s4 : w1.cell? ⟨g, 4, none⟩ = some (.bool false) := (blk_cell HLJ.out 4).trans rfl
      go_wp2
      go_ret
      refine ⟨tests.length, Nat.le_refl _, HLJ.out, HK.out, .inl ⟨rfl, fun x hx => ?_, HBF.out.trans BF.out.symm⟩⟩
      obtain ⟨i, hi, rfl⟩ := List.getElem_of_mem hx
      have := HE.out i hi
      unfold rd_L3b at this
      rwa [List.getD_eq_getElem?_getD, List.getElem?_eq_getElem hi] at this
end Go.Proofs.Ytaalafnkglbcpaa.PL
