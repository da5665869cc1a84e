/- The values of gates in plain Lean: each gate's value out of those of its inputs; bits of the next state. -/
import Derived.Test.YtaalafnkglbcpaaGatePlainH
import Derived.Test.YtaalafnkglbcpaaPGHangs
import Derived.Laws.BitsLemmas
namespace Go.Proofs.Ytaalafnkglbcpaa.Pure
open Go.RowKit Go.Proofs.Ytaalafnkglbcpaa.PG Go.Proofs.YtaalafnkglbcpaaW.PrintWords Go.Proofs.YtaalafnkglbcpaaW.PrintLast Go.Proofs.YtaalafnkglbcpaaW.PrintMore
set_option linter.unusedVariables false
set_option linter.unusedSimpArgs false

/-- A bit of a state or of an input. -/
def sbit (s n : Int) : Int := Go.bits .and .i64 (shr .i64 s n) 1
theorem and1 (a : Int) : Go.bits .and .i64 a 1 = 0 ∨ Go.bits .and .i64 a 1 = 1 := by
  have h1 : (BitVec.ofInt 64 a &&& BitVec.ofInt 64 1).toNat ≤ 1 := by rw [BitVec.toNat_and]; exact Nat.and_le_right
  have h2 : Go.bits .and .i64 a 1 = IntKind.i64.wrap ((BitVec.ofInt 64 a &&& BitVec.ofInt 64 1).toNat : Int) := rfl
  rw [h2, IntKind.wrap_i64]
  omega
/-- A gate's value out of those of the gates ahead of it. -/
def gv (g : S50) (s x : Int) (l : List Int) : Int :=
  if g.f0 = 0 then g.f4 else if g.f0 = 1 then sbit x g.f4 else if g.f0 = 2 then sbit s g.f4 else if g.f0 = 3 then wrap64 (1 - rd l g.f1)
  else if g.f0 = 4 then Go.bits .and .i64 (rd l g.f1) (rd l g.f2) else if g.f0 = 5 then Go.bits .or .i64 (rd l g.f1) (rd l g.f2) else if g.f0 = 6 then Go.bits .xor .i64 (rd l g.f1) (rd l g.f2)
  else if rd l g.f1 = 1 then rd l g.f2 else rd l g.f3
theorem gv_congr {ins nf : Int} {i : Nat} {g : S50} (h : GateOk ins nf i g) {s s' x : Int} {l l' : List Int} (hs : g.f0 = 2 → sbit s g.f4 = sbit s' g.f4) (hl : ∀ y ∈ kin g, rd l y = rd l' y) : gv g s x l = gv g s' x l' := by
  unfold GateOk at h
  unfold kin at hl
  unfold gv
  rcases h with ⟨k0, -, -, -, h1, h2⟩ | ⟨k0, -, -, -, h1, h2⟩ | ⟨k0, -, -, -, h1, h2⟩ | ⟨k0, h1, h2, -, -, -⟩ | ⟨k0 | k0 | k0, h1, h2, h3, h4, -, -⟩ | ⟨k0, h1, h2, h3, h4, h5, h6, -⟩
  · simp [k0]
  · simp [k0]
  · simp [k0, hs k0]
  · rw [k0] at hl ⊢
    have a := hl g.f1 (by show g.f1 ∈ [g.f1, g.f2, g.f3].take 1; simp)
    simp [a]
  · rw [k0] at hl ⊢
    have a := hl g.f1 (by show g.f1 ∈ [g.f1, g.f2, g.f3].take 2; simp)
    have b := hl g.f2 (by show g.f2 ∈ [g.f1, g.f2, g.f3].take 2; simp)
    simp [a, b]
  · rw [k0] at hl ⊢
    have a := hl g.f1 (by show g.f1 ∈ [g.f1, g.f2, g.f3].take 2; simp)
    have b := hl g.f2 (by show g.f2 ∈ [g.f1, g.f2, g.f3].take 2; simp)
    simp [a, b]
  · rw [k0] at hl ⊢
    have a := hl g.f1 (by show g.f1 ∈ [g.f1, g.f2, g.f3].take 2; simp)
    have b := hl g.f2 (by show g.f2 ∈ [g.f1, g.f2, g.f3].take 2; simp)
    simp [a, b]
  · rw [k0] at hl ⊢
    have a := hl g.f1 (by show g.f1 ∈ [g.f1, g.f2, g.f3].take 3; simp)
    have b := hl g.f2 (by show g.f2 ∈ [g.f1, g.f2, g.f3].take 3; simp)
    have c := hl g.f3 (by show g.f3 ∈ [g.f1, g.f2, g.f3].take 3; simp)
    simp [a, b, c]
theorem kin_lt {ins nf : Int} {i : Nat} {g : S50} (h : GateOk ins nf i g) : ∀ y ∈ kin g, 0 ≤ y ∧ y < i := by
  unfold GateOk at h
  unfold kin
  intro y hy
  rcases h with ⟨k0, -, -, -, h1, h2⟩ | ⟨k0, -, -, -, h1, h2⟩ | ⟨k0, -, -, -, h1, h2⟩ | ⟨k0, h1, h2, -, -, -⟩ | ⟨k0 | k0 | k0, h1, h2, h3, h4, -, -⟩ | ⟨k0, h1, h2, h3, h4, h5, h6, -⟩ <;> rw [k0] at hy
  · replace hy : y ∈ [g.f1, g.f2, g.f3].take 0 := hy
    simp at hy
  · replace hy : y ∈ [g.f1, g.f2, g.f3].take 0 := hy
    simp at hy
  · replace hy : y ∈ [g.f1, g.f2, g.f3].take 0 := hy
    simp at hy
  · replace hy : y ∈ [g.f1, g.f2, g.f3].take 1 := hy
    simp at hy; omega
  · replace hy : y ∈ [g.f1, g.f2, g.f3].take 2 := hy
    simp at hy; omega
  · replace hy : y ∈ [g.f1, g.f2, g.f3].take 2 := hy
    simp at hy; omega
  · replace hy : y ∈ [g.f1, g.f2, g.f3].take 2 := hy
    simp at hy; omega
  · replace hy : y ∈ [g.f1, g.f2, g.f3].take 3 := hy
    simp at hy; omega
theorem gate_kind {ins nf : Int} {i : Nat} {g : S50} (h : GateOk ins nf i g) : 0 ≤ g.f0 ∧ g.f0 < 8 ∧ (g.f0 = 2 → 0 ≤ g.f4 ∧ g.f4 < nf) ∧ (g.f0 = 0 → 0 ≤ g.f4 ∧ g.f4 < 2) := by
  unfold GateOk at h; omega
theorem rd_set_ne (l : List Int) (i : Nat) (u y : Int) (h0 : 0 ≤ y) (h : y ≠ (i : Int)) : rd (l.set i u) y = rd l y := by
  unfold rd
  rw [List.getD_eq_getElem?_getD, List.getElem?_set_ne (by omega), ← List.getD_eq_getElem?_getD]
theorem rd_set_self (l : List Int) (i : Nat) (u : Int) (h : i < l.length) : rd (l.set i u) (i : Int) = u := by
  unfold rd
  rw [Int.toNat_natCast, List.getD_eq_getElem?_getD, List.getElem?_set_self h]; rfl

/-- All gates ahead of i have their values. -/
def Upto (gates : List S50) (s x : Int) (i : Nat) (l : List Int) : Prop := l.length = gates.length ∧ ∀ j, j < i → rd l (j : Int) = gv (rd_T50 gates (j : Int)) s x l
theorem Upto.step {ins nf : Int} {gates : List S50} {s x : Int} {i : Nat} {l : List Int} (hg : GatesOk ins nf gates) (h : Upto gates s x i l) (hi : i < gates.length) {u : Int} (hu : u = gv (rd_T50 gates (i : Int)) s x l) : Upto gates s x (i + 1) (l.set i u) := by
  have ok : ∀ j, j < gates.length → GateOk ins nf j (rd_T50 gates (j : Int)) := fun j hj => by
    have : rd_T50 gates (j : Int) = gates.getD j z50 := by unfold rd_T50; simp
    rw [this]; exact hg j hj
  refine ⟨by rw [List.length_set]; exact h.1, fun j hj => ?_⟩
  by_cases e : j = i
  · subst e
    rw [rd_set_self _ _ _ (by rw [h.1]; exact hi), hu]
    exact gv_congr (ok j hi) (fun _ => rfl) (fun y hy => by have := kin_lt (ok j hi) y hy; rw [rd_set_ne _ _ _ _ this.1 (by omega)])
  · rw [rd_set_ne _ _ _ _ (by omega) (by omega), h.2 j (by omega)]
    exact gv_congr (ok j (by omega)) (fun _ => rfl) (fun y hy => by have := kin_lt (ok j (by omega)) y hy; rw [rd_set_ne _ _ _ _ this.1 (by omega)])

theorem vals_l0 (ins nf s x : Int) (gates : List S50) (hg : gates.length ≤ 30) (h : GatesOk ins nf gates) : ∀ d i : Nat, ∀ l : List Int, i + d = gates.length → Upto gates s x i l →
    ∃ r, Ev (fun k => gate_values.l0 k s x l gates (gates.length : Int) (i : Int)) r ∧ Upto gates s x gates.length r := by
  intro d
  induction d with
  | zero => intro i l hi hl; refine ⟨l, Ev.step (fun k => ?_) (Ev.now _), by rw [← show i = gates.length by omega]; exact hl⟩; simp only [gate_values.l0]; rw [if_neg (by omega)]
  | succ d ih =>
    intro i l hi hu0
    have hl := hu0.1
    have hgk := h i (by omega)
    have hr : rd_T50 gates (i : Int) = gates.getD i z50 := by unfold rd_T50; simp
    have go : ∀ u : Int, u = gv (rd_T50 gates (i : Int)) s x l → (∀ k, gate_values.l0 (k + 1) s x l gates (gates.length : Int) (i : Int) = gate_values.l0 k s x (l.set (i : Int).toNat u) gates (gates.length : Int) (wrap64 ((i : Int) + 1))) → ∃ r, Ev (fun k => gate_values.l0 k s x l gates (gates.length : Int) (i : Int)) r ∧ Upto gates s x gates.length r := by
      intro u hu2 hu
      obtain ⟨r, h1, h2⟩ := ih (i + 1) (l.set i u) (by omega) (Upto.step h hu0 (by omega) hu2)
      refine ⟨r, Ev.step (fun k => ?_) h1, h2⟩
      rw [hu, wnext (by omega), Int.toNat_natCast]
    have hp1 : (i : Int) < (gates.length : Int) := by omega
    have hp2 : (0 : Int) ≤ (i : Int) := by omega
    have hp3 : (i : Int) < (l.length : Int) := by omega
    rw [← hr] at hgk
    have hgk' := hgk
    unfold GateOk at hgk
    rcases hgk with ⟨k0, -, -, -, h1, h2⟩ | ⟨k0, -, -, -, h1, h2⟩ | ⟨k0, -, -, -, h1, h2⟩ | ⟨k0, h1, h2, -, -, -⟩ | ⟨k0 | k0 | k0, h1, h2, h3, h4, -, -⟩ | ⟨k0, h1, h2, h3, h4, h5, h6, -⟩
    · exact go (rd_T50 gates (i : Int)).f4 (by simp [gv, k0]) (fun k => by simp only [gate_values.l0]; simp only [hp1, hp2, hp3, k0, if_true])
    · exact go (sbit x (rd_T50 gates (i : Int)).f4) (by simp [gv, k0]) (fun k => by simp only [gate_values.l0]; simp only [hp1, hp2, hp3, k0, h1, if_true]; rfl)
    · exact go (sbit s (rd_T50 gates (i : Int)).f4) (by simp [gv, k0]) (fun k => by simp only [gate_values.l0]; simp only [hp1, hp2, hp3, k0, h1, if_true]; rfl)
    · have q1 : (rd_T50 gates (i : Int)).f1 < (l.length : Int) := by omega
      exact go (wrap64 (1 - rd l (rd_T50 gates (i : Int)).f1)) (by simp [gv, k0]) (fun k => by simp only [gate_values.l0]; simp only [hp1, hp2, hp3, k0, h1, q1, if_true]; rfl)
    · have q1 : (rd_T50 gates (i : Int)).f1 < (l.length : Int) := by omega
      have q2 : (rd_T50 gates (i : Int)).f2 < (l.length : Int) := by omega
      exact go (Go.bits .and .i64 (rd l (rd_T50 gates (i : Int)).f1) (rd l (rd_T50 gates (i : Int)).f2)) (by simp [gv, k0]) (fun k => by simp only [gate_values.l0]; simp only [hp1, hp2, hp3, k0, h1, h3, q1, q2, if_true]; rfl)
    · have q1 : (rd_T50 gates (i : Int)).f1 < (l.length : Int) := by omega
      have q2 : (rd_T50 gates (i : Int)).f2 < (l.length : Int) := by omega
      exact go (Go.bits .or .i64 (rd l (rd_T50 gates (i : Int)).f1) (rd l (rd_T50 gates (i : Int)).f2)) (by simp [gv, k0]) (fun k => by simp only [gate_values.l0]; simp only [hp1, hp2, hp3, k0, h1, h3, q1, q2, if_true]; rfl)
    · have q1 : (rd_T50 gates (i : Int)).f1 < (l.length : Int) := by omega
      have q2 : (rd_T50 gates (i : Int)).f2 < (l.length : Int) := by omega
      exact go (Go.bits .xor .i64 (rd l (rd_T50 gates (i : Int)).f1) (rd l (rd_T50 gates (i : Int)).f2)) (by simp [gv, k0]) (fun k => by simp only [gate_values.l0]; simp only [hp1, hp2, hp3, k0, h1, h3, q1, q2, if_true]; rfl)
    · have q1 : (rd_T50 gates (i : Int)).f1 < (l.length : Int) := by omega
      have q2 : (rd_T50 gates (i : Int)).f2 < (l.length : Int) := by omega
      have q3 : (rd_T50 gates (i : Int)).f3 < (l.length : Int) := by omega
      have e1 : rd (l.set (i : Int).toNat (rd l (rd_T50 gates (i : Int)).f3)) (rd_T50 gates (i : Int)).f1 = rd l (rd_T50 gates (i : Int)).f1 := by rw [Int.toNat_natCast, rd_set_ne _ _ _ _ h1 (by omega)]
      have e2 : rd (l.set (i : Int).toNat (rd l (rd_T50 gates (i : Int)).f3)) (rd_T50 gates (i : Int)).f2 = rd l (rd_T50 gates (i : Int)).f2 := by rw [Int.toNat_natCast, rd_set_ne _ _ _ _ h3 (by omega)]
      by_cases hb : rd l (rd_T50 gates (i : Int)).f1 = 1
      · exact go (rd l (rd_T50 gates (i : Int)).f2) (by simp [gv, k0, hb]) (fun k => by simp only [gate_values.l0]; simp only [hp1, hp2, hp3, k0, h1, h3, h5, q1, q2, q3, e1, e2, hb, if_true, Option.bind_some, List.set_set]; rfl)
      · exact go (rd l (rd_T50 gates (i : Int)).f3) (by simp [gv, k0, hb]) (fun k => by simp only [gate_values.l0]; simp only [hp1, hp2, hp3, k0, h1, h3, h5, q1, q2, q3, e1, e2, hb, if_true, if_false, Option.bind_some]; rfl)
theorem vals_is {ins : Int} {gates : List S50} {outs next init : List Int} (v : ValidC ins gates outs next init) (s x : Int) : ∃ r, Ev (fun k => gate_values.f k ins gates outs next init s x) r ∧ Upto gates s x gates.length r := by
  have v2 := v.g1
  obtain ⟨r, h1, h2⟩ := vals_l0 ins next.length s x gates v.g1 v.gok gates.length 0 (List.replicate gates.length 0) (by omega) ⟨by simp, fun j hj => by omega⟩
  refine ⟨r, Ev.congr (fun k => ?_) h1, h2⟩
  unfold gate_values.f
  rw [if_pos (by omega), if_pos (by omega), Int.toNat_natCast]; rfl
theorem ok_at {ins nf : Int} {gates : List S50} (hg : GatesOk ins nf gates) (j : Nat) (hj : j < gates.length) : GateOk ins nf j (rd_T50 gates (j : Int)) := by
  have : rd_T50 gates (j : Int) = gates.getD j z50 := by unfold rd_T50; simp
  rw [this]; exact hg j hj
/-- All values are 0 or 1. -/
theorem vals_01 {ins nf : Int} {gates : List S50} (hg : GatesOk ins nf gates) {s x : Int} {r : List Int} (h : Upto gates s x gates.length r) : ∀ n j : Nat, j < n → j < gates.length → rd r (j : Int) = 0 ∨ rd r (j : Int) = 1 := by
  intro n
  induction n with
  | zero => intro j hj; omega
  | succ n ih =>
    intro j hj hjl
    have hok := ok_at hg j hjl
    rw [h.2 j hjl]
    have hin : ∀ y : Int, 0 ≤ y → y < j → rd r y = 0 ∨ rd r y = 1 := fun y h0 h1 => by
      obtain ⟨m, rfl⟩ : ∃ m : Nat, y = (m : Int) := ⟨y.toNat, by omega⟩
      exact ih m (by omega) (by omega)
    unfold GateOk at hok
    unfold gv
    rcases hok with ⟨k0, -, -, -, h1, h2⟩ | ⟨k0, -, -, -, h1, h2⟩ | ⟨k0, -, -, -, h1, h2⟩ | ⟨k0, h1, h2, -, -, -⟩ | ⟨k0 | k0 | k0, h1, h2, h3, h4, -, -⟩ | ⟨k0, h1, h2, h3, h4, h5, h6, -⟩
    · rw [if_pos k0]; omega
    · rw [if_neg (by omega), if_pos k0]; exact and1 _
    · rw [if_neg (by omega), if_neg (by omega), if_pos k0]; exact and1 _
    · rw [if_neg (by omega), if_neg (by omega), if_neg (by omega), if_pos k0]
      rcases hin _ h1 h2 with e | e <;> rw [e] <;> decide +kernel
    · rw [if_neg (by omega), if_neg (by omega), if_neg (by omega), if_neg (by omega), if_pos k0]
      rcases hin _ h1 h2 with e | e <;> rcases hin _ h3 h4 with e' | e' <;> rw [e, e'] <;> decide
    · rw [if_neg (by omega), if_neg (by omega), if_neg (by omega), if_neg (by omega), if_neg (by omega), if_pos k0]
      rcases hin _ h1 h2 with e | e <;> rcases hin _ h3 h4 with e' | e' <;> rw [e, e'] <;> decide
    · rw [if_neg (by omega), if_neg (by omega), if_neg (by omega), if_neg (by omega), if_neg (by omega), if_neg (by omega), if_pos k0]
      rcases hin _ h1 h2 with e | e <;> rcases hin _ h3 h4 with e' | e' <;> rw [e, e'] <;> decide
    · rw [if_neg (by omega), if_neg (by omega), if_neg (by omega), if_neg (by omega), if_neg (by omega), if_neg (by omega), if_neg (by omega)]
      split
      · exact hin _ h3 h4
      · exact hin _ h5 h6

/-- The number that bits make. -/
def bitsF (v : List Int) : List Int → Nat → Int → Int
  | [], _, acc => acc
  | y :: t, i, acc => bitsF v t (i + 1) (Go.bits .or .i64 acc (shl .i64 (rd v y) (i : Int)))
theorem bits_ev (v l : List Int) (h : InR v.length l) (hl : l.length ≤ 1000) : ∀ d i : Nat, ∀ x : Int, i + d = l.length → Ev (fun k => gate_bits.l0 k v x l (l.length : Int) (i : Int)) (bitsF v (l.drop i) i x) := by
  intro d
  induction d with
  | zero => intro i x hi; rw [List.drop_eq_nil_of_le (by omega)]; refine Ev.step (fun k => ?_) (Ev.now x); simp only [gate_bits.l0]; rw [if_neg (by omega)]
  | succ d ih =>
    intro i x hi
    have hr := rd_in h i (by omega)
    have hil : i < l.length := by omega
    have e : rd l (i : Int) = l[i] := by rw [rd_nat, List.getD_eq_getElem?_getD, List.getElem?_eq_getElem hil]; rfl
    rw [List.drop_eq_getElem_cons hil]
    have h2 := ih (i + 1) (Go.bits .or .i64 x (shl .i64 (rd v (rd l (i : Int))) (i : Int))) (by omega)
    rw [e] at h2
    refine Ev.step (fun k => ?_) (show Ev _ (bitsF v (l[i] :: l.drop (i + 1)) i x) from h2)
    rw [← e]
    simp only [gate_bits.l0]; rw [if_pos (by omega), if_pos (by omega), if_pos (by omega), if_pos hr.1, if_pos hr.2, wnext (by omega)]
theorem bits_f (v l : List Int) (h : InR v.length l) (hl : l.length ≤ 1000) : Ev (fun k => gate_bits.f k v l) (bitsF v l 0 0) :=
  Ev.congr (fun k => by unfold gate_bits.f; rfl) (bits_ev v l h hl l.length 0 0 (by omega))
theorem bitsF_congr (v v' : List Int) : ∀ (l : List Int) (i : Nat) (acc : Int), (∀ y ∈ l, rd v y = rd v' y) → bitsF v l i acc = bitsF v' l i acc := by
  intro l
  induction l with
  | nil => intro i acc _; rfl
  | cons y t ih =>
    intro i acc h
    simp only [bitsF]
    rw [h y List.mem_cons_self]
    exact ih _ _ (fun z hz => h z (List.mem_cons_of_mem _ hz))
/-- A bit of the number that up to three bits make. -/
theorem bitsF_bit (v l : List Int) (hl : l.length ≤ 3) (h : ∀ y ∈ l, rd v y = 0 ∨ rd v y = 1) (n : Nat) (hn : n < l.length) : sbit (bitsF v l 0 0) (n : Int) = rd v (l.getD n 0) := by
  match l, hl, h, hn with
  | [], _, _, hn => simp at hn
  | [a], _, h, hn =>
    have ha := h a (by simp)
    have : n = 0 := by simpa using hn
    subst this
    simp only [bitsF, List.getD_cons_zero]
    rcases ha with e | e <;> rw [e] <;> decide
  | [a, b], _, h, hn =>
    have ha := h a (by simp)
    have hb := h b (by simp)
    have : n = 0 ∨ n = 1 := by simp at hn; omega
    simp only [bitsF]
    rcases this with rfl | rfl
    · show sbit _ _ = rd v a
      rcases ha with e | e <;> rcases hb with e' | e' <;> rw [e, e'] <;> decide
    · show sbit _ _ = rd v b
      rcases ha with e | e <;> rcases hb with e' | e' <;> rw [e, e'] <;> decide
  | [a, b, c], _, h, hn =>
    have ha := h a (by simp)
    have hb := h b (by simp)
    have hc := h c (by simp)
    have : n = 0 ∨ n = 1 ∨ n = 2 := by simp at hn; omega
    simp only [bitsF]
    rcases this with rfl | rfl | rfl
    · show sbit _ _ = rd v a
      rcases ha with e | e <;> rcases hb with e' | e' <;> rcases hc with e2 | e2 <;> rw [e, e', e2] <;> decide
    · show sbit _ _ = rd v b
      rcases ha with e | e <;> rcases hb with e' | e' <;> rcases hc with e2 | e2 <;> rw [e, e', e2] <;> decide
    · show sbit _ _ = rd v c
      rcases ha with e | e <;> rcases hb with e' | e' <;> rcases hc with e2 | e2 <;> rw [e, e', e2] <;> decide
  | _ :: _ :: _ :: _ :: _, hl, _, _ => simp at hl
end Go.Proofs.Ytaalafnkglbcpaa.Pure
