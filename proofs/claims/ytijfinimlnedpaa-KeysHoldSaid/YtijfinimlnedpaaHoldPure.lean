/- What the functions of keys, and those of the laws about them, compute. -/
import Derived.Test.YtijfinimlnedpaaPHoldx8
import Derived.Test.YtijfinimlnedpaaPHoldx6
namespace Go.Proofs.Ytijfinimlnedpaa.HoldPure
open Go.RowKit Go.Proofs.Ytijfinimlnedpaa.PHold Go.Proofs.YtijfinimlnedpaaW.PrintWords Go.Proofs.YtijfinimlnedpaaW.PrintLast Go.Proofs.YtijfinimlnedpaaW.PrintMore

theorem w64 {n : Int} (h0 : -9223372036854775808 ≤ n) (h1 : n ≤ 9223372036854775807) : wrap64 n = n := by unfold wrap64; omega

theorem rd_nat (l : List Int) (i : Nat) : rd l (i : Int) = l.getD i 0 := by unfold rd; simp

/-- Times are in order and in range. -/
def OkT (l : List Int) : Prop := l.length ≤ 500 ∧ (∀ i : Nat, i < l.length → 0 ≤ l.getD i 0 ∧ l.getD i 0 ≤ 100000) ∧ ∀ i : Nat, i + 1 < l.length → l.getD i 0 ≤ l.getD (i + 1) 0

theorem times_l0 (l : List Int) (h : OkT l) : ∀ d i : Nat, i + d = l.length → Ev (fun k => keys_times.l0 k l l (l.length : Int) (i : Int)) 0 := by
  obtain ⟨hn, hb, hs⟩ := h
  intro d
  induction d with
  | zero =>
    intro i hi
    refine Ev.step (f := fun _ => some 0) (fun k => ?_) (Ev.now 0)
    simp only [keys_times.l0]; rw [if_neg (by omega)]
  | succ d ih =>
    intro i hi
    have hb' := hb i (by omega)
    have e1 : wrap64 ((i : Int) + 1) = ((i + 1 : Nat) : Int) := by rw [w64 (by omega) (by omega)]; omega
    refine Ev.step (f := fun k => keys_times.j1 k l i (rd l i) l l.length i false) (fun k => ?_) ?_
    · simp only [keys_times.l0]; rw [if_pos (by omega), if_pos (by omega), if_pos (by omega), rd_nat, if_neg (by omega), decide_eq_false (by omega)]
    · refine Ev.step (f := fun k => keys_times.l0 k l l l.length ((i + 1 : Nat) : Int)) (fun k => ?_) (ih (i + 1) (by omega))
      simp only [keys_times.j1]; rw [if_neg (by simp), e1]
      by_cases h0 : (i : Int) > 0
      · have hs' := hs (i - 1) (by omega)
        have e2 : wrap64 ((i : Int) - 1) = ((i - 1 : Nat) : Int) := by rw [w64 (by omega) (by omega)]; omega
        rw [show i - 1 + 1 = i by omega] at hs'
        rw [if_pos h0, e2, if_pos (by omega), if_pos (by omega), rd_nat, rd_nat, if_neg (by omega)]
      · rw [if_neg h0]

theorem times_ok (l : List Int) (h : OkT l) : Ev (fun k => keys_times.f k l) 0 := by
  refine Ev.congr (f := fun k => keys_times.l0 k l l (l.length : Int) ((0 : Nat) : Int)) (fun k => ?_) (times_l0 l h l.length 0 (by omega))
  unfold keys_times.f; rw [if_neg (by have := h.1; omega)]; rfl

/-- The changes of lines: pairs of times and lines, one for each time at most. -/
def inp (c : ByteArray) : Int → List (Int × Int) → List S42
  | _, [] => []
  | last, (t, n) :: rest => if rest.head?.map Prod.fst = some t then inp c last rest else if n = last then inp c last rest else ⟨t, c, n⟩ :: inp c n rest

theorem zip_drop (A B : List Int) (i : Nat) (hA : i < A.length) (hB : i < B.length) : (A.zip B).drop i = (A.getD i 0, B.getD i 0) :: (A.zip B).drop (i + 1) := by
  have hz : i < (A.zip B).length := by simp; omega
  rw [List.drop_eq_getElem_cons hz]
  simp [List.getElem_zip, List.getD_eq_getElem?_getD, List.getElem?_eq_getElem hA, List.getElem?_eq_getElem hB]

theorem inputs_l0 (c : ByteArray) (A B : List Int) (hl : A.length = B.length) (hn : A.length ≤ 500) : ∀ d i : Nat, ∀ (out : List S42) (last : Int), i + d = A.length → out.length ≤ i →
    Ev (fun k => keys_inputs.l0 k c A out last B (B.length : Int) (i : Int)) (out ++ inp c last ((A.zip B).drop i)) := by
  intro d
  induction d with
  | zero =>
    intro i out last hi ho
    refine Ev.step (f := fun _ => some out) (fun k => ?_) ?_
    · simp only [keys_inputs.l0]; rw [if_neg (by omega)]
    · rw [List.drop_eq_nil_of_le (by simp; omega)]; simp only [inp, List.append_nil]; exact Ev.now out
  | succ d ih =>
    intro i out last hi ho
    have e1 : wrap64 ((i : Int) + 1) = ((i + 1 : Nat) : Int) := by rw [w64 (by omega) (by omega)]; omega
    rw [zip_drop A B i (by omega) (by omega)]
    refine Ev.step (f := fun k => keys_inputs.j1 k c A out last i (rd B i) B B.length i (decide (((A.zip B).drop (i + 1)).head?.map Prod.fst = some (A.getD i 0)))) (fun k => ?_) ?_
    · simp only [keys_inputs.l0]; rw [if_pos (by omega), if_pos (by omega), if_pos (by omega), e1]
      by_cases hlt : i + 1 < A.length
      · rw [if_pos (by omega), if_pos (by omega), if_pos (by omega), zip_drop A B (i + 1) hlt (by omega)]; simp only [rd_nat]
        congr 1
        simp only [List.head?_cons, Option.map_some, Option.some.injEq]
        rw [Bool.eq_iff_iff]; simp
      · rw [if_neg (by omega), List.drop_eq_nil_of_le (by simp; omega)]; simp
    · simp only [inp]
      by_cases hc : ((A.zip B).drop (i + 1)).head?.map Prod.fst = some (A.getD i 0)
      · rw [if_pos hc, decide_eq_true hc]
        refine Ev.step (fun k => ?_) (ih (i + 1) out last (by omega) (by omega))
        simp only [keys_inputs.j1]; rw [if_pos (by simp), e1]
      · rw [if_neg hc, decide_eq_false hc]
        by_cases hq : B.getD i 0 = last
        · rw [if_pos hq]
          refine Ev.step (fun k => ?_) (ih (i + 1) out last (by omega) (by omega))
          simp only [keys_inputs.j1]; rw [if_neg (by simp), e1, rd_nat, if_pos hq]
        · rw [if_neg hq]
          have h1 := ih (i + 1) (out ++ [⟨A.getD i 0, c, B.getD i 0⟩]) (B.getD i 0) (by omega) (by simp; omega)
          rw [List.append_assoc, List.singleton_append] at h1
          refine Ev.step (fun k => ?_) h1
          simp only [keys_inputs.j1]; rw [if_neg (by simp), e1, rd_nat, rd_nat, if_neg hq, if_pos (by omega), if_pos (by omega), if_pos (by omega)]

theorem inputs_is (c : ByteArray) (A B : List Int) (hl : A.length = B.length) (hn : A.length ≤ 500) : Ev (fun k => keys_inputs.f k c A B) (inp c 0 (A.zip B)) := by
  have h := inputs_l0 c A B hl hn A.length 0 [] 0 (by omega) (by simp)
  exact h


/-! ### the lines -/
def clr (v k : Nat) : Nat := v &&& (255 - 2 ^ k)
theorem shl_one : ∀ k : Nat, k < 8 → shl .i64 1 (k : Int) = ((2 ^ k : Nat) : Int) := by decide +kernel
theorem andNot_is : ∀ v : Nat, v < 256 → ∀ k : Nat, k < 8 → Go.bits .andNot .i64 (v : Int) ((2 ^ k : Nat) : Int) = ((clr v k : Nat) : Int) := by decide +kernel
theorem or_is : ∀ v : Nat, v < 256 → ∀ k : Nat, k < 8 → Go.bits .or .i64 (v : Int) ((2 ^ k : Nat) : Int) = ((v ||| 2 ^ k : Nat) : Int) := by decide +kernel
theorem bit_is : ∀ v : Nat, v < 256 → ∀ k : Nat, k < 8 → (Go.bits .and .i64 (shr .i64 (v : Int) (k : Int)) 1 == 1) = v.testBit k := by decide +kernel
theorem clr_lt (v k : Nat) (h : v < 256) : clr v k < 256 := Nat.lt_of_le_of_lt Nat.and_le_left h
theorem set_lt (v k : Nat) (h : v < 256) (hk : k < 8) : v ||| 2 ^ k < 256 := Nat.or_lt_two_pow (n := 8) h (Nat.pow_lt_pow_right (by decide) hk)

def stepL (v : Nat) (x : S107) : Nat := if x.f2 = true then clr v x.f1.toNat ||| 2 ^ x.f1.toNat else clr v x.f1.toNat
def linesL : Nat → List S107 → List Int
  | _, [] => []
  | v, x :: r => (stepL v x : Int) :: linesL (stepL v x) r
def pairsL : Nat → List S107 → List (Int × Int)
  | _, [] => []
  | v, x :: r => (x.f0, (stepL v x : Int)) :: pairsL (stepL v x) r
theorem zip_lines (l : List S107) : ∀ v, (l.map S107.f0).zip (linesL v l) = pairsL v l := by
  induction l with
  | nil => intro v; rfl
  | cons x r ih => intro v; simp [linesL, pairsL, ih]
theorem lines_len (l : List S107) : ∀ v, (linesL v l).length = l.length := by
  induction l with
  | nil => intro v; rfl
  | cons x r ih => intro v; simp [linesL, ih]
theorem stepL_lt (v : Nat) (x : S107) (hv : v < 256) (hk : 0 ≤ x.f1 ∧ x.f1 ≤ 7) : stepL v x < 256 := by
  unfold stepL; split
  · exact set_lt _ _ (clr_lt _ _ hv) (by omega)
  · exact clr_lt _ _ hv

def OkK (l : List S107) : Prop := OkT (l.map S107.f0) ∧ ∀ x ∈ l, 0 ≤ x.f1 ∧ x.f1 ≤ 7

theorem drop_T107 (l : List S107) (i : Nat) (h : i < l.length) : l.drop i = rd_T107 l (i : Int) :: l.drop (i + 1) := by
  rw [List.drop_eq_getElem_cons h]; simp [rd_T107, List.getD_eq_getElem?_getD, List.getElem?_eq_getElem h]

theorem board_l1 (c : ByteArray) (A : List Int) (l : List S107) (hA : A.length = l.length) (hn : l.length ≤ 500) (hk : ∀ x ∈ l, 0 ≤ x.f1 ∧ x.f1 ≤ 7) : ∀ d i v : Nat, ∀ acc : List Int, i + d = l.length → acc.length = i → v < 256 →
    Ev (fun k => keys_Board.l1 k c A acc (v : Int) l (l.length : Int) (i : Int)) (inp c 0 (A.zip (acc ++ linesL v (l.drop i))), 0) := by
  intro d
  induction d with
  | zero =>
    intro i v acc hi ha hv
    rw [List.drop_eq_nil_of_le (by omega)]; simp only [linesL, List.append_nil]
    refine Ev.step (fun k => ?_) (Ev.bind (f := fun _ t => some (t, 0)) (inputs_is c A acc (by omega) (by omega)) (Ev.now (inp c 0 (A.zip acc), (0 : Int))))
    simp only [keys_Board.l1]; rw [if_neg (by omega)]
  | succ d ih =>
    intro i v acc hi ha hv
    have e1 : wrap64 ((i : Int) + 1) = ((i + 1 : Nat) : Int) := by rw [w64 (by omega) (by omega)]; omega
    have hx := drop_T107 l i (by omega)
    have hm : rd_T107 l (i : Int) ∈ l := List.mem_of_mem_drop (hx ▸ List.mem_cons_self)
    generalize hxx : rd_T107 l (i : Int) = x at *
    have hkx := hk x hm
    obtain ⟨q, hq⟩ : ∃ q : Nat, x.f1 = (q : Int) := ⟨x.f1.toNat, by omega⟩
    have hq8 : q < 8 := by omega
    have hst : stepL v x < 256 := stepL_lt v x hv hkx
    have h1 := ih (i + 1) (stepL v x) (acc ++ [(stepL v x : Int)]) (by omega) (by simp; omega) hst
    rw [List.append_assoc, List.singleton_append] at h1
    rw [hx]; simp only [linesL]
    refine Ev.step (f := fun k => keys_Board.j2 k c A acc (v : Int) l l.length i false x.f0 x.f1 x.f2) (fun k => ?_) ?_
    · simp only [keys_Board.l1]; rw [if_pos (by omega), if_pos (by omega), if_pos (by omega), hxx, if_neg (by omega), decide_eq_false (by omega)]
    · refine Ev.step (fun k => ?_) h1
      simp only [keys_Board.j2]; rw [if_neg (by simp), if_pos (by omega), hq, shl_one q hq8, andNot_is v hv q hq8, or_is _ (clr_lt v q hv) q hq8, e1]
      unfold stepL; rw [hq, Int.toNat_natCast]
      by_cases hd : x.f2 = true
      · rw [if_pos hd, if_pos (by omega), if_pos hd]
      · rw [if_neg hd, if_pos (by omega), if_neg hd]

theorem board_l0 (c : ByteArray) (l : List S107) (h : OkK l) : ∀ d i : Nat, i + d = l.length →
    Ev (fun k => keys_Board.l0 k c l ((l.take i).map S107.f0) l (l.length : Int) (i : Int)) (inp c 0 (pairsL 0 l), 0) := by
  have hn : l.length ≤ 500 := by have := h.1.1; simpa using this
  intro d
  induction d with
  | zero =>
    intro i hi
    rw [List.take_of_length_le (by omega)]
    have h2 := board_l1 c (l.map S107.f0) l (by simp) hn h.2 l.length 0 0 [] (by omega) rfl (by omega)
    rw [List.nil_append, List.drop_zero, zip_lines] at h2
    refine Ev.step (fun k => ?_) (Ev.bind (f := fun k t => if t = 0 then (keys_Board.l1 k c (l.map S107.f0) ([] : List Int) 0 l (l.length : Int) 0) else (some (([] : List (S42)), t))) (times_ok _ h.1) ?_)
    · simp only [keys_Board.l0]; rw [if_neg (by omega)]
    · exact Ev.congr (fun k => by rw [if_pos rfl]; rfl) h2
  | succ d ih =>
    intro i hi
    have e1 : wrap64 ((i : Int) + 1) = ((i + 1 : Nat) : Int) := by rw [w64 (by omega) (by omega)]; omega
    refine Ev.step (fun k => ?_) (ih (i + 1) (by omega))
    simp only [keys_Board.l0]; rw [if_pos (by omega), if_pos (by omega), if_pos (by omega), e1, if_pos (by simp; omega)]
    congr 1
    rw [List.take_succ_eq_append_getElem (show i < l.length by omega), List.map_append]
    simp [rd_T107, List.getD_eq_getElem?_getD, List.getElem?_eq_getElem (show i < l.length by omega)]

theorem board_is (c : ByteArray) (l : List S107) (h : OkK l) : Ev (fun k => keys_Board.f k c l) (inp c 0 (pairsL 0 l), 0) := board_l0 c l h l.length 0 (by omega)


def Good (c : ByteArray) : Int → Int → List S42 → Prop
  | _, _, [] => True
  | last, t, x :: r => x.f1 = c ∧ t < x.f0 ∧ x.f0 ≤ 100000 ∧ x.f2 ≠ last ∧ 0 ≤ x.f2 ∧ x.f2 ≤ 255 ∧ Good c x.f2 x.f0 r

/-- Times as a list: few, in range, in order. -/
def OkP (l : List Int) : Prop := l.length ≤ 500 ∧ (∀ x ∈ l, 0 ≤ x ∧ x ≤ 100000) ∧ l.Pairwise (· ≤ ·)
theorem okT_of (l : List Int) (h : OkP l) : OkT l := by
  obtain ⟨h1, h2, h3⟩ := h
  refine ⟨h1, fun i hi => ?_, fun i hi => ?_⟩
  · have := h2 l[i] (List.getElem_mem _)
    simpa [List.getD_eq_getElem?_getD, List.getElem?_eq_getElem hi] using this
  · have := List.pairwise_iff_getElem.1 h3 i (i + 1) (by omega) hi (by omega)
    simpa [List.getD_eq_getElem?_getD, List.getElem?_eq_getElem hi, List.getElem?_eq_getElem (show i < l.length by omega)] using this

/-! ### the keys that are drawn -/
theorem below_is (x n : Int) (hn : 0 < n) (hb : n ≤ 1000000) : ∃ r, bakemake_Below.f x n = some r ∧ 0 ≤ r ∧ r < n := by
  have h1 := Int.tmod_lt_of_pos x hn
  have h2 := Int.lt_tmod_of_pos x hn
  unfold bakemake_Below.f
  rw [if_neg (by omega)]
  by_cases h : Int.tmod x n < 0
  · rw [if_pos h, w64 (by omega) (by omega)]; exact ⟨_, rfl, by omega, by omega⟩
  · rw [if_neg h]; exact ⟨_, rfl, by omega, by omega⟩

def KInv (acc : List S107) (at_ : Int) : Prop := (acc.map S107.f0).Pairwise (· ≤ ·) ∧ (∀ x ∈ acc, 0 ≤ x.f0 ∧ x.f0 ≤ at_) ∧ (∀ x ∈ acc, 0 ≤ x.f1 ∧ x.f1 ≤ 7) ∧ 0 ≤ at_ ∧ at_ ≤ 30 * acc.length

theorem kinv_snoc (acc : List S107) (a t : Int) (x : S107) (h : KInv acc a) (h0 : 0 ≤ t) (h1 : t < 30) (hx : x.f0 = a + t) (hk : 0 ≤ x.f1 ∧ x.f1 ≤ 7) : KInv (acc ++ [x]) (a + t) := by
  obtain ⟨p, q, r, s, u⟩ := h
  refine ⟨?_, ?_, ?_, by omega, by simp; omega⟩
  · rw [List.map_append, List.pairwise_append]
    refine ⟨p, by simp, ?_⟩
    intro y hy z hz
    obtain ⟨y', hy', rfl⟩ := List.mem_map.1 hy
    have := q y' hy'
    simp at hz; omega
  · intro y hy
    rcases List.mem_append.1 hy with hy | hy
    · have := q y hy; omega
    · simp at hy; subst hy; omega
  · intro y hy
    rcases List.mem_append.1 hy with hy | hy
    · exact r y hy
    · simp at hy; subst hy; exact hk

theorem keys_l0 (l : List Int) (_hl : l.length ≤ 140737488351232) : ∀ d i : Nat, ∀ (acc : List S107) (a : Int), i + 2 * d = 40 → 2 * acc.length = i → KInv acc a →
    ∃ r, Ev (fun k => bakekeep3_Keys.l0 k l acc a (i : Int)) r ∧ r.length ≤ 20 ∧ ∃ b, KInv r b := by
  intro d
  induction d with
  | zero =>
    intro i acc a hi ha hk
    refine ⟨acc, ?_, by omega, a, hk⟩
    by_cases h : wrap64 ((i : Int) + 1) < (l.length : Int)
    · refine Ev.step (f := fun k => bakekeep3_Keys.j1 k l acc a i false) (fun k => ?_) (Ev.step (fun k => ?_) (Ev.now _))
      · simp only [bakekeep3_Keys.l0]; rw [if_pos h, decide_eq_false (by omega)]
      · simp only [bakekeep3_Keys.j1]; rw [if_neg (by simp)]
    · refine Ev.step (f := fun k => bakekeep3_Keys.j1 k l acc a i false) (fun k => ?_) (Ev.step (fun k => ?_) (Ev.now _))
      · simp only [bakekeep3_Keys.l0]; rw [if_neg h]
      · simp only [bakekeep3_Keys.j1]; rw [if_neg (by simp)]
  | succ d ih =>
    intro i acc a hi ha hk
    have e1 : wrap64 ((i : Int) + 1) = ((i + 1 : Nat) : Int) := by rw [w64 (by omega) (by omega)]; omega
    have e2 : wrap64 ((i : Int) + 2) = ((i + 2 : Nat) : Int) := by rw [w64 (by omega) (by omega)]; omega
    by_cases h : ((i + 1 : Nat) : Int) < (l.length : Int)
    · obtain ⟨r, hr, r0, r1⟩ := below_is (rd l (i : Int)) 30 (by omega) (by omega)
      obtain ⟨q, hq, q0, q1⟩ := below_is (rd l ((i + 1 : Nat) : Int)) 8 (by omega) (by omega)
      have hk' := kinv_snoc acc a r ⟨a + r, q, (Go.bits .and .i64 (rd l ((i + 1 : Nat) : Int)) 8) != 0⟩ hk r0 r1 rfl ⟨q0, by show q ≤ 7; omega⟩
      have ⟨_, _, _, a0, a1⟩ := hk
      obtain ⟨R, hR, hR2, hR3⟩ := ih (i + 2) _ _ (by omega) (by simp; omega) hk'
      refine ⟨R, ?_, hR2, hR3⟩
      refine Ev.step (f := fun k => bakekeep3_Keys.j1 k l acc a i true) (fun k => ?_) (Ev.step (fun k => ?_) hR)
      · simp only [bakekeep3_Keys.l0]; rw [e1, if_pos h, decide_eq_true (by omega)]
      · simp only [bakekeep3_Keys.j1]; rw [if_pos trivial, if_pos (by omega), if_pos (by omega), hr, Option.bind_some, e1, if_pos (by omega), if_pos h, hq, Option.bind_some, if_pos (by omega), e2, w64 (by omega) (by omega)]
    · refine ⟨acc, ?_, by omega, a, hk⟩
      refine Ev.step (f := fun k => bakekeep3_Keys.j1 k l acc a i false) (fun k => ?_) (Ev.step (fun k => ?_) (Ev.now _))
      · simp only [bakekeep3_Keys.l0]; rw [e1, if_neg h]
      · simp only [bakekeep3_Keys.j1]; rw [if_neg (by simp)]

theorem keys_is (l : List Int) (hl : l.length ≤ 140737488351232) : ∃ r, Ev (fun k => bakekeep3_Keys.f k l) r ∧ r.length ≤ 20 ∧ OkP (r.map S107.f0) ∧ ∀ x ∈ r, 0 ≤ x.f1 ∧ x.f1 ≤ 7 := by
  obtain ⟨r, h1, h2, b, h3⟩ := keys_l0 l hl 20 0 [] 0 (by omega) rfl ⟨by simp, by simp, by simp, by omega, by simp⟩
  obtain ⟨p, q, s, u, v⟩ := h3
  refine ⟨r, h1, h2, ⟨by simp; omega, ?_, p⟩, s⟩
  intro x hx
  obtain ⟨y, hy, rfl⟩ := List.mem_map.1 hx
  have := q y hy; omega

/-! ### what the inputs are like -/
theorem good_weak (c : ByteArray) (l : List S42) (last t t' : Int) (h : Good c last t l) (ht : t' ≤ t) : Good c last t' l := by
  cases l with
  | nil => exact h
  | cons x r => obtain ⟨h1, h2, h3⟩ := h; exact ⟨h1, by omega, h3⟩

theorem inp_good (c : ByteArray) : ∀ (P : List (Int × Int)) (last t : Int), (P.map Prod.fst).Pairwise (· ≤ ·) → (∀ p ∈ P, t ≤ p.1 ∧ p.1 ≤ 100000 ∧ 0 ≤ p.2 ∧ p.2 ≤ 255) → Good c last (t - 1) (inp c last P) := by
  intro P
  induction P with
  | nil => intro _ _ _ _; trivial
  | cons x r ih =>
    intro last t hp hb
    obtain ⟨u, n⟩ := x
    rw [List.map_cons, List.pairwise_cons] at hp
    obtain ⟨hp1, hp2⟩ := hp
    have hb1 := hb (u, n) List.mem_cons_self
    have hb2 : ∀ p ∈ r, u ≤ p.1 ∧ p.1 ≤ 100000 ∧ 0 ≤ p.2 ∧ p.2 ≤ 255 := fun p hpr => ⟨hp1 p.1 (List.mem_map_of_mem hpr), (hb p (List.mem_cons_of_mem _ hpr)).2⟩
    simp only at hb1
    simp only [inp]
    have hw := good_weak c _ last (u - 1) (t - 1) (ih last u hp2 hb2) (by omega)
    split
    · exact hw
    · rename_i hne
      split
      · exact hw
      · rename_i hne2
        refine ⟨rfl, by show t - 1 < u; omega, hb1.2.1, hne2, hb1.2.2.1, hb1.2.2.2, ?_⟩
        have hb3 : ∀ p ∈ r, u + 1 ≤ p.1 ∧ p.1 ≤ 100000 ∧ 0 ≤ p.2 ∧ p.2 ≤ 255 := by
          cases r with
          | nil => intro p hp; simp at hp
          | cons y s =>
            have hy := hb2 y List.mem_cons_self
            have hne3 : y.1 ≠ u := fun e => hne (by simp [e])
            intro p hpr
            have hq := hb2 p hpr
            rw [List.map_cons, List.pairwise_cons] at hp2
            rcases List.mem_cons.1 hpr with rfl | hps
            · exact ⟨by omega, hq.2⟩
            · have := hp2.1 p.1 (List.mem_map_of_mem hps)
              exact ⟨by omega, hq.2⟩
        have h9 := ih n (u + 1) hp2 hb3
        rwa [show u + 1 - 1 = u by omega] at h9


theorem inp_len (c : ByteArray) : ∀ (P : List (Int × Int)) (last : Int), (inp c last P).length ≤ P.length := by
  intro P
  induction P with
  | nil => intro _; simp [inp]
  | cons x r ih =>
    intro last
    obtain ⟨u, n⟩ := x
    simp only [inp]
    split
    · have := ih last; simp; omega
    · split
      · have := ih last; simp; omega
      · have := ih n; simp; omega
theorem pairs_len (l : List S107) : ∀ v, (pairsL v l).length = l.length := by
  induction l with
  | nil => intro v; rfl
  | cons x r ih => intro v; simp [pairsL, ih]
theorem pairs_fst (l : List S107) : ∀ v, (pairsL v l).map Prod.fst = l.map S107.f0 := by
  induction l with
  | nil => intro v; rfl
  | cons x r ih => intro v; simp [pairsL, ih]
theorem pairs_snd (l : List S107) : ∀ v, v < 256 → (∀ x ∈ l, 0 ≤ x.f1 ∧ x.f1 ≤ 7) → ∀ p ∈ pairsL v l, 0 ≤ p.2 ∧ p.2 ≤ 255 := by
  induction l with
  | nil => intro v _ _ p hp; simp [pairsL] at hp
  | cons x r ih =>
    intro v hv hk p hp
    have hs := stepL_lt v x hv (hk x List.mem_cons_self)
    simp only [pairsL] at hp
    rcases List.mem_cons.1 hp with rfl | hp
    · exact ⟨by simp, by simp; omega⟩
    · exact ih _ hs (fun y hy => hk y (List.mem_cons_of_mem _ hy)) p hp
theorem pairs_append (A B : List S107) : ∀ v, pairsL v (A ++ B) = pairsL v A ++ pairsL (A.foldl stepL v) B := by
  induction A with
  | nil => intro v; rfl
  | cons x r ih => intro v; simp [pairsL, ih]

theorem good_sorted (c : ByteArray) : ∀ (l : List S42) (last t : Int), Good c last t l → (l.map S42.f0).Pairwise (· ≤ ·) ∧ ∀ x ∈ l, t < x.f0 ∧ x.f0 ≤ 100000 := by
  intro l
  induction l with
  | nil => intro _ _ _; simp
  | cons x r ih =>
    intro last t h
    obtain ⟨h1, h2, h3, h4, h5, h6, h7⟩ := h
    obtain ⟨p, q⟩ := ih _ _ h7
    refine ⟨?_, ?_⟩
    · rw [List.map_cons, List.pairwise_cons]
      refine ⟨fun y hy => ?_, p⟩
      obtain ⟨z, hz, rfl⟩ := List.mem_map.1 hy
      have := q z hz; omega
    · intro y hy
      rcases List.mem_cons.1 hy with rfl | hy
      · exact ⟨h2, h3⟩
      · have := q y hy; exact ⟨by omega, this.2⟩

theorem eq_l0 (l : List S42) (hn : l.length ≤ 500) : ∀ d i : Nat, i + d = l.length → Ev (fun k => api_Input_24.l0 k l l (l.length : Int) (i : Int)) true := by
  intro d
  induction d with
  | zero =>
    intro i hi
    refine Ev.step (fun k => ?_) (Ev.now true)
    simp only [api_Input_24.l0]; rw [if_neg (by omega)]
  | succ d ih =>
    intro i hi
    have e1 : wrap64 ((i : Int) + 1) = ((i + 1 : Nat) : Int) := by rw [w64 (by omega) (by omega)]; omega
    refine Ev.step (fun k => ?_) (ih (i + 1) (by omega))
    simp only [api_Input_24.l0]; rw [if_pos (by omega), if_pos (by omega), if_pos (by omega), if_pos (by omega), if_neg (by simp), e1]
theorem eq_is (l : List S42) (hn : l.length ≤ 500) : Ev (fun k => api_Input_24.f k l l) true :=
  Ev.congr (fun k => by unfold api_Input_24.f; rw [if_pos rfl]; rfl) (eq_l0 l hn l.length 0 (by omega))

theorem typed_is : Ev (fun k => bakekeep3_typed.f k) true := Ev.of bakekeep3_typed.mono (k := 40) (by decide +kernel)

end Go.Proofs.Ytijfinimlnedpaa.HoldPure
