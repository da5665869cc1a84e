/- The plain law of GateHangs: a gate on which no output hangs can be another one. No condition beyond the given statement. -/
import Derived.Test.YtaalafnkglbcpaaGateVals
namespace Go.Proofs.Ytaalafnkglbcpaa.Pure
open Go.RowKit Go.Proofs.Ytaalafnkglbcpaa.PG Go.Proofs.YtaalafnkglbcpaaW.PrintWords Go.Proofs.YtaalafnkglbcpaaW.PrintLast Go.Proofs.YtaalafnkglbcpaaW.PrintMore
set_option linter.unusedVariables false

theorem gc_of {ins : Int} {gates : List S50} {outs next init : List Int} (v : ValidC ins gates outs next init) : GC gates next where
  k0 := fun i hi => by have := gate_kind (ok_at v.gok i hi); exact ⟨this.1, this.2.1⟩
  kin := fun i hi x hx => by have := kin_lt (ok_at v.gok i hi) x hx; omega
  fl := fun i hi h => (gate_kind (ok_at v.gok i hi)).2.2.1 h
  nx := v.nok
theorem index_ev (l : List Int) (x : Int) (hl : l.length ≤ 1000) : ∀ d i : Nat, i + d = l.length → ∃ q : Int, Ev (fun k => slices_Index_int_int.l0 k l x (l.length : Int) (i : Int)) q ∧ (q < 0 → x ∉ l.drop i) := by
  intro d
  induction d with
  | zero => intro i hi; refine ⟨-1, Ev.step (fun k => ?_) (Ev.now _), fun _ => by rw [List.drop_eq_nil_of_le (by omega)]; simp⟩; simp only [slices_Index_int_int.l0]; rw [if_neg (by omega)]
  | succ d ih =>
    intro i hi
    have hil : i < l.length := by omega
    have e : rd l (i : Int) = l[i] := by rw [rd_nat, List.getD_eq_getElem?_getD, List.getElem?_eq_getElem hil]; rfl
    by_cases hx : x = rd l (i : Int)
    · refine ⟨(i : Int), Ev.step (fun k => ?_) (Ev.now _), fun h => by omega⟩
      simp only [slices_Index_int_int.l0]; rw [if_pos (by omega), if_pos (by omega), if_pos (by omega), if_pos hx]
    · obtain ⟨q, h1, h2⟩ := ih (i + 1) (by omega)
      refine ⟨q, Ev.step (fun k => ?_) h1, fun h => ?_⟩
      · simp only [slices_Index_int_int.l0]; rw [if_pos (by omega), if_pos (by omega), if_pos (by omega), if_neg hx, wnext (by omega)]
      · rw [List.drop_eq_getElem_cons hil]
        intro hm
        rcases List.mem_cons.1 hm with h3 | h3
        · exact hx (h3.trans e.symm)
        · exact h2 h h3
theorem contains_ev (l : List Int) (x : Int) (hl : l.length ≤ 1000) : ∃ b, Ev (fun k => slices_Contains_int_int.f k l x) b ∧ (b = false → x ∉ l) := by
  obtain ⟨q, h1, h2⟩ := index_ev l x hl l.length 0 (by omega)
  refine ⟨decide (q ≥ 0), ?_, fun h => ?_⟩
  · refine Ev.bind (f := fun _ t225 => some (decide (t225 ≥ 0))) (g := fun k => slices_Index_int_int.f k l x) (Ev.congr (fun k => by unfold slices_Index_int_int.f; rfl) h1) (Ev.now _)
  · have := of_decide_eq_false h
    exact h2 (by omega)
theorem usedL_mem {gates : List S50} {next outs : List Int} {j : Nat} (hj : j < gates.length) (h : OnOut gates next outs j) : (j : Int) ∈ usedL gates next outs := by
  classical
  unfold usedL
  exact List.mem_map.2 ⟨j, List.mem_filter.2 ⟨List.mem_range.2 hj, decide_eq_true h⟩, rfl⟩
theorem usedL_len (gates : List S50) (next outs : List Int) : (usedL gates next outs).length ≤ gates.length := by
  classical
  unfold usedL
  rw [List.length_map]
  exact Nat.le_trans (List.length_filter_le _ _) (by simp)

def cst : S50 := ⟨0, 0, 0, 0, 1⟩
theorem rd_set50 (gates : List S50) (k j : Nat) (h : j ≠ k) : rd_T50 (gates.set k cst) (j : Int) = rd_T50 gates (j : Int) := by
  unfold rd_T50
  rw [Int.toNat_natCast, List.getD_eq_getElem?_getD, List.getElem?_set_ne (by omega), ← List.getD_eq_getElem?_getD]
section
variable {ins : Int} {gates : List S50} {outs next init : List Int}
theorem valid_set (v : ValidC ins gates outs next init) (k : Nat) (hk : k < gates.length) : ValidC ins (gates.set k cst) outs next init := by
  have hlen : (gates.set k cst).length = gates.length := List.length_set
  have hok : GatesOk ins next.length (gates.set k cst) := fun i hi => by
    rw [hlen] at hi
    by_cases e : i = k
    · subst e
      rw [List.getD_eq_getElem?_getD, List.getElem?_set_self hi]
      unfold GateOk
      left
      exact ⟨rfl, rfl, rfl, rfl, by decide, by decide⟩
    · rw [List.getD_eq_getElem?_getD, List.getElem?_set_ne (by omega), ← List.getD_eq_getElem?_getD]
      exact v.gok i hi
  exact { i0 := v.i0, i1 := v.i1, g0 := by rw [hlen]; exact v.g0, g1 := by rw [hlen]; exact v.g1, gok := hok, o0 := v.o0, o1 := v.o1, ook := by rw [hlen]; exact v.ook, n1 := v.n1, nok := by rw [hlen]; exact v.nok, il := v.il, iok := v.iok }

/-- Two states that are alike where an output hangs on them. -/
def Alike (gates : List S50) (next outs : List Int) (s s' : Int) : Prop := ∀ j, j < gates.length → OnOut gates next outs j → (rd_T50 gates (j : Int)).f0 = 2 → sbit s (rd_T50 gates (j : Int)).f4 = sbit s' (rd_T50 gates (j : Int)).f4
theorem same_vals (v : ValidC ins gates outs next init) {k : Nat} (hk : k < gates.length) (hun : ¬ OnOut gates next outs k) {s s' x : Int} (ha : Alike gates next outs s s') {r r' : List Int} (h : Upto gates s x gates.length r) (h' : Upto (gates.set k cst) s' x gates.length r') :
    ∀ n j : Nat, j < n → j < gates.length → OnOut gates next outs j → rd r (j : Int) = rd r' (j : Int) := by
  intro n
  induction n with
  | zero => intro j hj; omega
  | succ n ih =>
    intro j hj hjl hr
    have hjk : j ≠ k := fun e => hun (e ▸ hr)
    have hok := ok_at v.gok j hjl
    rw [h.2 j hjl, h'.2 j hjl, rd_set50 _ _ _ hjk]
    refine gv_congr hok (fun h2 => ha j hjl hr h2) (fun y hy => ?_)
    have hy2 := kin_lt hok y hy
    have hry : OnOut gates next outs y.toNat := OnOut.kid hjl hr (by unfold kids; exact List.mem_append_left _ hy)
    have := ih y.toNat (by omega) (by omega) hry
    rwa [show ((y.toNat : Nat) : Int) = y by omega] at this

theorem runs_alike (v : ValidC ins gates outs next init) {k : Nat} (hk : k < gates.length) (hun : ¬ OnOut gates next outs k) (w : List Int) (hw : w.length ≤ 60) (hb : InR (shl .i64 1 ins) w) : ∀ d i : Nat, ∀ (acc : List Int) (s s' : Int), i + d = w.length → acc.length = i → Alike gates next outs s s' →
    ∃ res, res.length ≤ 60 ∧ Ev (fun q => gate_Run.l0 q acc s w (w.length : Int) (i : Int) ins gates outs next init) (res, 0) ∧ Ev (fun q => gate_Run.l0 q acc s' w (w.length : Int) (i : Int) ins (gates.set k cst) outs next init) (res, 0) := by
  have v' := valid_set v k hk
  have hlen : (gates.set k cst).length = gates.length := List.length_set
  have o1 := v.o1; have n1 := v.n1; have i0 := v.i0
  intro d
  induction d with
  | zero =>
    intro i acc s s' hi ha hal
    refine ⟨acc, by omega, Ev.step (fun k => ?_) (Ev.now _), Ev.step (fun k => ?_) (Ev.now _)⟩ <;> simp only [gate_Run.l0] <;> rw [if_neg (by omega)]
  | succ d ih =>
    intro i acc s s' hi ha hal
    have hr := rd_in hb i (by omega)
    obtain ⟨r, hr1, hr2⟩ := vals_is v s (rd w (i : Int))
    obtain ⟨r', hq1, hq2⟩ := vals_is v' s' (rd w (i : Int))
    rw [hlen] at hq2
    have hsame := same_vals v hk hun hal hr2 hq2 gates.length
    have b1 := bits_f r outs (by rw [hr2.1]; exact v.ook) (by omega)
    have b2 := bits_f r' outs (by rw [hq2.1, hlen]; exact v.ook) (by omega)
    have c1 := bits_f r next (by rw [hr2.1]; exact v.nok) (by omega)
    have c2 := bits_f r' next (by rw [hq2.1, hlen]; exact v.nok) (by omega)
    have ho : bitsF r' outs 0 0 = bitsF r outs 0 0 := bitsF_congr _ _ _ _ _ (fun y hy => by
      have hy2 := v.ook y hy
      have := hsame y.toNat (by omega) (by omega) (OnOut.out hy)
      rw [show ((y.toNat : Nat) : Int) = y by omega] at this
      exact this.symm)
    rw [ho] at b2
    have hal2 : Alike gates next outs (bitsF r next 0 0) (bitsF r' next 0 0) := fun j hjl hrj h2 => by
      have hf := (gate_kind (ok_at v.gok j hjl)).2.2.1 h2
      obtain ⟨n, hn⟩ : ∃ n : Nat, (rd_T50 gates (j : Int)).f4 = (n : Int) := ⟨(rd_T50 gates (j : Int)).f4.toNat, by omega⟩
      rw [hn] at hf
      have hnl : n < next.length := by omega
      have hmem : next.getD n 0 ∈ next := by rw [List.getD_eq_getElem?_getD, List.getElem?_eq_getElem hnl]; exact List.getElem_mem _
      have hyb := v.nok _ hmem
      have hry : OnOut gates next outs (next.getD n 0).toNat := OnOut.kid hjl hrj (by
        unfold kids
        rw [if_pos h2, hn, rd_nat]
        exact List.mem_append_right _ (by simp))
      have h01 : ∀ y ∈ next, rd r y = 0 ∨ rd r y = 1 := fun y hy => by
        have hy2 := v.nok y hy
        have := vals_01 v.gok hr2 gates.length y.toNat (by omega) (by omega)
        rwa [show ((y.toNat : Nat) : Int) = y by omega] at this
      have h01' : ∀ y ∈ next, rd r' y = 0 ∨ rd r' y = 1 := fun y hy => by
        have hy2 := v.nok y hy
        have := vals_01 v'.gok (by rw [hlen]; exact hq2) gates.length y.toNat (by omega) (by rw [hlen]; omega)
        rwa [show ((y.toNat : Nat) : Int) = y by omega] at this
      rw [hn, bitsF_bit r next n1 h01 n hnl, bitsF_bit r' next n1 h01' n hnl]
      have := hsame (next.getD n 0).toNat (by omega) (by omega) hry
      rwa [show (((next.getD n 0).toNat : Nat) : Int) = next.getD n 0 by omega] at this
    obtain ⟨res, h0, h1, h2⟩ := ih (i + 1) (acc ++ [bitsF r outs 0 0]) (bitsF r next 0 0) (bitsF r' next 0 0) (by omega) (by simp; omega) hal2
    refine ⟨res, h0, ?_, ?_⟩
    · refine Ev.step (f := fun k => gate_Run.j1 k acc s (rd w (i : Int)) w (w.length : Int) (i : Int) false ins gates outs next init) (fun k => ?_) ?_
      · have hd : decide ((rd w (i : Int)) ≥ (shl .i64 1 ins)) = false := decide_eq_false (by omega)
        simp only [gate_Run.l0]; rw [if_pos (by omega), if_pos (by omega), if_pos (by omega), if_neg (by omega), if_pos (by omega), hd]
      · refine Ev.step (f := fun k => (gate_values.f k ins gates outs next init s (rd w (i : Int))).bind fun t175 => ((gate_bits.f k t175 outs).bind fun t178 => (if acc.length < 17592186044416 then ((gate_bits.f k t175 next).bind fun t182 => (gate_Run.l0 k (acc ++ [t178]) t182 w (w.length : Int) (wrap64 ((i : Int) + 1)) ins gates outs next init)) else (none)))) (fun k => ?_) ?_
        · simp only [gate_Run.j1]; rw [if_neg (by decide)]
        · refine Ev.bind hr1 (Ev.bind b1 ?_)
          refine Ev.congr (f := fun k => (gate_bits.f k r next).bind fun t182 => (gate_Run.l0 k (acc ++ [bitsF r outs 0 0]) t182 w (w.length : Int) (wrap64 ((i : Int) + 1)) ins gates outs next init)) (fun k => by rw [if_pos (by omega)]) ?_
          refine Ev.bind c1 (Ev.congr (fun k => ?_) h1)
          rw [wnext (by omega)]
    · refine Ev.step (f := fun q => gate_Run.j1 q acc s' (rd w (i : Int)) w (w.length : Int) (i : Int) false ins (gates.set k cst) outs next init) (fun q => ?_) ?_
      · have hd : decide ((rd w (i : Int)) ≥ (shl .i64 1 ins)) = false := decide_eq_false (by omega)
        simp only [gate_Run.l0]; rw [if_pos (by omega), if_pos (by omega), if_pos (by omega), if_neg (by omega), if_pos (by omega), hd]
      · refine Ev.step (f := fun q => (gate_values.f q ins (gates.set k cst) outs next init s' (rd w (i : Int))).bind fun t175 => ((gate_bits.f q t175 outs).bind fun t178 => (if acc.length < 17592186044416 then ((gate_bits.f q t175 next).bind fun t182 => (gate_Run.l0 q (acc ++ [t178]) t182 w (w.length : Int) (wrap64 ((i : Int) + 1)) ins (gates.set k cst) outs next init)) else (none)))) (fun q => ?_) ?_
        · simp only [gate_Run.j1]; rw [if_neg (by decide)]
        · refine Ev.bind hq1 (Ev.bind b2 ?_)
          refine Ev.congr (f := fun q => (gate_bits.f q r' next).bind fun t182 => (gate_Run.l0 q (acc ++ [bitsF r outs 0 0]) t182 w (w.length : Int) (wrap64 ((i : Int) + 1)) ins (gates.set k cst) outs next init)) (fun q => by rw [if_pos (by omega)]) ?_
          refine Ev.bind c2 (Ev.congr (fun q => ?_) h2)
          rw [wnext (by omega)]
end

theorem GateHangs : bakekeep3_GateHangs.Pure := by
  intro ⟨ins, gates, outs, next, init⟩ v l1 a2 _ _ _ _
  simp only at v
  have v1 := v.g0; have v2 := v.g1; have v3 := v.o1; have v4 := v.n1; have v5 := v.il
  obtain ⟨q, hq, q0, q1⟩ := below_is a2 (gates.length : Int) (by omega) (by omega)
  obtain ⟨k, rfl⟩ : ∃ k : Nat, q = (k : Int) := ⟨q.toNat, by omega⟩
  have hk : k < gates.length := by omega
  have hch := check_is v
  have hused : gate_Used.f ins gates outs next init = some (usedL gates next outs, 0) := by
    unfold gate_Used.f
    exact if_pos ⟨gc_of v, by omega, by omega, v.ook, by omega, Ev.rounds hch⟩
  obtain ⟨b, hb, hbf⟩ := contains_ev (usedL gates next outs) (k : Int) (by have := usedL_len gates next outs; omega)
  refine Ev.rounds (g := fun n => bakekeep3_GateHangs.f n (ins, gates, outs, next, init) l1 a2) ?_
  unfold bakekeep3_GateHangs.f
  simp only [hused, Option.bind_some, hq]
  refine Ev.bind gated_is ?_
  simp only [if_true]
  refine Ev.step (f := fun n => (slices_Contains_int_int.f n (usedL gates next outs) (k : Int)).bind fun t234 => (if t234 = true then (some true) else ((api_Gate.f gates).bind fun t236 => (if 0 ≤ (k : Int) then (if (k : Int) < (t236.length : Int) then ((bakekeep3_word.f n l1 ins).bind fun t240 => ((gate_Run.f n ins gates outs next init t240).bind fun bt243 => ((gate_Run.f n ins (t236.set ((k : Int)).toNat (⟨0, 0, 0, 0, 1⟩ : S50)) outs next init t240).bind fun bt247 => (if bt243.2 = 0 then (if bt247.2 = 0 then ((slices_Equal_int_int.f n bt243.1 bt247.1).bind fun t251 => (some t251)) else (some false)) else (some false))))) else (none)) else (none))))) (fun n => ?_) ?_
  · simp only [bakekeep3_GateHangs.j0]
    rfl
  refine Ev.bind hb ?_
  cases b with
  | true => simp only [if_true]; exact Ev.now true
  | false =>
    simp only [Bool.false_eq_true, if_false]
    have hun : ¬ OnOut gates next outs k := fun h => hbf rfl (usedL_mem hk h)
    have hcl : api_Gate.f gates = some gates := by unfold api_Gate.f; rw [if_pos (by omega)]
    simp only [hcl, Option.bind_some, if_pos q0, if_pos q1, Int.toNat_natCast]
    obtain ⟨w, hw, hw1, hw2⟩ := word_is ins v.i0 v.i1 l1
    obtain ⟨s, hs⟩ := start_is ins gates outs next init (by omega)
    obtain ⟨res, h0, h1, h2⟩ := runs_alike v hk hun w hw1 hw2 w.length 0 [] s s (by omega) rfl (fun _ _ _ _ => rfl)
    have hrun : Ev (fun n => gate_Run.f n ins gates outs next init w) (res, 0) := by
      unfold gate_Run.f
      refine Ev.bind (check_is v) ?_
      refine Ev.congr (f := fun n => (gate_Start.f n ins gates outs next init).bind fun t173 => (gate_Run.l0 n ([] : List Int) t173 w (w.length : Int) 0 ins gates outs next init)) (fun n => by rw [if_pos rfl]) ?_
      exact Ev.bind hs h1
    have hrun2 : Ev (fun n => gate_Run.f n ins (gates.set k (⟨0, 0, 0, 0, 1⟩ : S50)) outs next init w) (res, 0) := by
      unfold gate_Run.f
      refine Ev.bind (check_is (valid_set v k hk)) ?_
      refine Ev.congr (f := fun n => (gate_Start.f n ins (gates.set k cst) outs next init).bind fun t173 => (gate_Run.l0 n ([] : List Int) t173 w (w.length : Int) 0 ins (gates.set k cst) outs next init)) (fun n => by rw [if_pos rfl]; rfl) ?_
      exact Ev.bind (Ev.congr (fun n => by unfold gate_Start.f; rfl) hs) h2
    refine Ev.bind hw (Ev.bind hrun (Ev.bind hrun2 ?_))
    simp only [if_true]
    exact Ev.bind (equal_self res (by omega)) (Ev.now _)
end Go.Proofs.Ytaalafnkglbcpaa.Pure
