/- The plain law of KeysBack: what the keys of a keyboard make as inputs is made again by the keys that Back finds. No condition beyond the given statement. -/
import Derived.Test.YtijfinimlnedpaaPKeysBackx6
namespace Go.Proofs.Ytijfinimlnedpaa.Pure
open Go.RowKit Go.Proofs.Ytijfinimlnedpaa.PKeysBack Go.Proofs.YtijfinimlnedpaaW.PrintWords Go.Proofs.YtijfinimlnedpaaW.PrintLast Go.Proofs.YtijfinimlnedpaaW.PrintMore

theorem w64 {n : Int} (h0 : -9223372036854775808 ≤ n) (h1 : n ≤ 9223372036854775807) : wrap64 n = n := by unfold wrap64; omega

theorem rd_nat (l : List Int) (i : Nat) : rd l (i : Int) = l.getD i 0 := by unfold rd; simp

/-- Times are in order and in range. -/
def OkT (l : List Int) : Prop := l.length ≤ 500 ∧ (∀ i : Nat, i < l.length → 0 ≤ l.getD i 0 ∧ l.getD i 0 ≤ 100000) ∧ ∀ i : Nat, i + 1 < l.length → l.getD i 0 ≤ l.getD (i + 1) 0

theorem times_l0 (l : List Int) (h : OkT l) : ∀ d i : Nat, i + d = l.length → Ev (fun k => keys_times.l0 k l l (l.length : Int) (i : Int)) 0 := by
  obtain ⟨hn, hb, hs⟩ := h
  intro d
  induction d with
  | zero =>
    intro i hi
    refine Ev.step (f := fun _ => some 0) (fun k => ?_) (Ev.now 0)
    simp only [keys_times.l0]; rw [if_neg (by omega)]
  | succ d ih =>
    intro i hi
    have hb' := hb i (by omega)
    have e1 : wrap64 ((i : Int) + 1) = ((i + 1 : Nat) : Int) := by rw [w64 (by omega) (by omega)]; omega
    refine Ev.step (f := fun k => keys_times.j1 k l i (rd l i) l l.length i false) (fun k => ?_) ?_
    · simp only [keys_times.l0]; rw [if_pos (by omega), if_pos (by omega), if_pos (by omega), rd_nat, if_neg (by omega), decide_eq_false (by omega)]
    · refine Ev.step (f := fun k => keys_times.l0 k l l l.length ((i + 1 : Nat) : Int)) (fun k => ?_) (ih (i + 1) (by omega))
      simp only [keys_times.j1]; rw [if_neg (by simp), e1]
      by_cases h0 : (i : Int) > 0
      · have hs' := hs (i - 1) (by omega)
        have e2 : wrap64 ((i : Int) - 1) = ((i - 1 : Nat) : Int) := by rw [w64 (by omega) (by omega)]; omega
        rw [show i - 1 + 1 = i by omega] at hs'
        rw [if_pos h0, e2, if_pos (by omega), if_pos (by omega), rd_nat, rd_nat, if_neg (by omega)]
      · rw [if_neg h0]

theorem times_ok (l : List Int) (h : OkT l) : Ev (fun k => keys_times.f k l) 0 := by
  refine Ev.congr (f := fun k => keys_times.l0 k l l (l.length : Int) ((0 : Nat) : Int)) (fun k => ?_) (times_l0 l h l.length 0 (by omega))
  unfold keys_times.f; rw [if_neg (by have := h.1; omega)]; rfl

/-- The changes of lines: pairs of times and lines, one for each time at most. -/
def inp (c : ByteArray) : Int → List (Int × Int) → List S42
  | _, [] => []
  | last, (t, n) :: rest => if rest.head?.map Prod.fst = some t then inp c last rest else if n = last then inp c last rest else ⟨t, c, n⟩ :: inp c n rest

theorem zip_drop (A B : List Int) (i : Nat) (hA : i < A.length) (hB : i < B.length) : (A.zip B).drop i = (A.getD i 0, B.getD i 0) :: (A.zip B).drop (i + 1) := by
  have hz : i < (A.zip B).length := by simp; omega
  rw [List.drop_eq_getElem_cons hz]
  simp [List.getElem_zip, List.getD_eq_getElem?_getD, List.getElem?_eq_getElem hA, List.getElem?_eq_getElem hB]

theorem inputs_l0 (c : ByteArray) (A B : List Int) (hl : A.length = B.length) (hn : A.length ≤ 500) : ∀ d i : Nat, ∀ (out : List S42) (last : Int), i + d = A.length → out.length ≤ i →
    Ev (fun k => keys_inputs.l0 k c A out last B (B.length : Int) (i : Int)) (out ++ inp c last ((A.zip B).drop i)) := by
  intro d
  induction d with
  | zero =>
    intro i out last hi ho
    refine Ev.step (f := fun _ => some out) (fun k => ?_) ?_
    · simp only [keys_inputs.l0]; rw [if_neg (by omega)]
    · rw [List.drop_eq_nil_of_le (by simp; omega)]; simp only [inp, List.append_nil]; exact Ev.now out
  | succ d ih =>
    intro i out last hi ho
    have e1 : wrap64 ((i : Int) + 1) = ((i + 1 : Nat) : Int) := by rw [w64 (by omega) (by omega)]; omega
    rw [zip_drop A B i (by omega) (by omega)]
    refine Ev.step (f := fun k => keys_inputs.j1 k c A out last i (rd B i) B B.length i (decide (((A.zip B).drop (i + 1)).head?.map Prod.fst = some (A.getD i 0)))) (fun k => ?_) ?_
    · simp only [keys_inputs.l0]; rw [if_pos (by omega), if_pos (by omega), if_pos (by omega), e1]
      by_cases hlt : i + 1 < A.length
      · rw [if_pos (by omega), if_pos (by omega), if_pos (by omega), zip_drop A B (i + 1) hlt (by omega)]; simp only [rd_nat]
        congr 1
        simp only [List.head?_cons, Option.map_some, Option.some.injEq]
        rw [Bool.eq_iff_iff]; simp
      · rw [if_neg (by omega), List.drop_eq_nil_of_le (by simp; omega)]; simp
    · simp only [inp]
      by_cases hc : ((A.zip B).drop (i + 1)).head?.map Prod.fst = some (A.getD i 0)
      · rw [if_pos hc, decide_eq_true hc]
        refine Ev.step (fun k => ?_) (ih (i + 1) out last (by omega) (by omega))
        simp only [keys_inputs.j1]; rw [if_pos (by simp), e1]
      · rw [if_neg hc, decide_eq_false hc]
        by_cases hq : B.getD i 0 = last
        · rw [if_pos hq]
          refine Ev.step (fun k => ?_) (ih (i + 1) out last (by omega) (by omega))
          simp only [keys_inputs.j1]; rw [if_neg (by simp), e1, rd_nat, if_pos hq]
        · rw [if_neg hq]
          have h1 := ih (i + 1) (out ++ [⟨A.getD i 0, c, B.getD i 0⟩]) (B.getD i 0) (by omega) (by simp; omega)
          rw [List.append_assoc, List.singleton_append] at h1
          refine Ev.step (fun k => ?_) h1
          simp only [keys_inputs.j1]; rw [if_neg (by simp), e1, rd_nat, rd_nat, if_neg hq, if_pos (by omega), if_pos (by omega), if_pos (by omega)]

theorem inputs_is (c : ByteArray) (A B : List Int) (hl : A.length = B.length) (hn : A.length ≤ 500) : Ev (fun k => keys_inputs.f k c A B) (inp c 0 (A.zip B)) := by
  have h := inputs_l0 c A B hl hn A.length 0 [] 0 (by omega) (by simp)
  exact h


/-! ### the lines -/
def clr (v k : Nat) : Nat := v &&& (255 - 2 ^ k)
theorem shl_one : ∀ k : Nat, k < 8 → shl .i64 1 (k : Int) = ((2 ^ k : Nat) : Int) := by decide +kernel
theorem andNot_is : ∀ v : Nat, v < 256 → ∀ k : Nat, k < 8 → Go.bits .andNot .i64 (v : Int) ((2 ^ k : Nat) : Int) = ((clr v k : Nat) : Int) := by decide +kernel
theorem or_is : ∀ v : Nat, v < 256 → ∀ k : Nat, k < 8 → Go.bits .or .i64 (v : Int) ((2 ^ k : Nat) : Int) = ((v ||| 2 ^ k : Nat) : Int) := by decide +kernel
theorem bit_is : ∀ v : Nat, v < 256 → ∀ k : Nat, k < 8 → (Go.bits .and .i64 (shr .i64 (v : Int) (k : Int)) 1 == 1) = v.testBit k := by decide +kernel
theorem clr_lt (v k : Nat) (h : v < 256) : clr v k < 256 := Nat.lt_of_le_of_lt Nat.and_le_left h
theorem set_lt (v k : Nat) (h : v < 256) (hk : k < 8) : v ||| 2 ^ k < 256 := Nat.or_lt_two_pow (n := 8) h (Nat.pow_lt_pow_right (by decide) hk)

def stepL (v : Nat) (x : S107) : Nat := if x.f2 = true then clr v x.f1.toNat ||| 2 ^ x.f1.toNat else clr v x.f1.toNat
def linesL : Nat → List S107 → List Int
  | _, [] => []
  | v, x :: r => (stepL v x : Int) :: linesL (stepL v x) r
def pairsL : Nat → List S107 → List (Int × Int)
  | _, [] => []
  | v, x :: r => (x.f0, (stepL v x : Int)) :: pairsL (stepL v x) r
theorem zip_lines (l : List S107) : ∀ v, (l.map S107.f0).zip (linesL v l) = pairsL v l := by
  induction l with
  | nil => intro v; rfl
  | cons x r ih => intro v; simp [linesL, pairsL, ih]
theorem lines_len (l : List S107) : ∀ v, (linesL v l).length = l.length := by
  induction l with
  | nil => intro v; rfl
  | cons x r ih => intro v; simp [linesL, ih]
theorem stepL_lt (v : Nat) (x : S107) (hv : v < 256) (hk : 0 ≤ x.f1 ∧ x.f1 ≤ 7) : stepL v x < 256 := by
  unfold stepL; split
  · exact set_lt _ _ (clr_lt _ _ hv) (by omega)
  · exact clr_lt _ _ hv

def OkK (l : List S107) : Prop := OkT (l.map S107.f0) ∧ ∀ x ∈ l, 0 ≤ x.f1 ∧ x.f1 ≤ 7

theorem drop_T107 (l : List S107) (i : Nat) (h : i < l.length) : l.drop i = rd_T107 l (i : Int) :: l.drop (i + 1) := by
  rw [List.drop_eq_getElem_cons h]; simp [rd_T107, List.getD_eq_getElem?_getD, List.getElem?_eq_getElem h]

theorem board_l1 (c : ByteArray) (A : List Int) (l : List S107) (hA : A.length = l.length) (hn : l.length ≤ 500) (hk : ∀ x ∈ l, 0 ≤ x.f1 ∧ x.f1 ≤ 7) : ∀ d i v : Nat, ∀ acc : List Int, i + d = l.length → acc.length = i → v < 256 →
    Ev (fun k => keys_Board.l1 k c A acc (v : Int) l (l.length : Int) (i : Int)) (inp c 0 (A.zip (acc ++ linesL v (l.drop i))), 0) := by
  intro d
  induction d with
  | zero =>
    intro i v acc hi ha hv
    rw [List.drop_eq_nil_of_le (by omega)]; simp only [linesL, List.append_nil]
    refine Ev.step (fun k => ?_) (Ev.bind (f := fun _ t => some (t, 0)) (inputs_is c A acc (by omega) (by omega)) (Ev.now (inp c 0 (A.zip acc), (0 : Int))))
    simp only [keys_Board.l1]; rw [if_neg (by omega)]
  | succ d ih =>
    intro i v acc hi ha hv
    have e1 : wrap64 ((i : Int) + 1) = ((i + 1 : Nat) : Int) := by rw [w64 (by omega) (by omega)]; omega
    have hx := drop_T107 l i (by omega)
    have hm : rd_T107 l (i : Int) ∈ l := List.mem_of_mem_drop (hx ▸ List.mem_cons_self)
    generalize hxx : rd_T107 l (i : Int) = x at *
    have hkx := hk x hm
    obtain ⟨q, hq⟩ : ∃ q : Nat, x.f1 = (q : Int) := ⟨x.f1.toNat, by omega⟩
    have hq8 : q < 8 := by omega
    have hst : stepL v x < 256 := stepL_lt v x hv hkx
    have h1 := ih (i + 1) (stepL v x) (acc ++ [(stepL v x : Int)]) (by omega) (by simp; omega) hst
    rw [List.append_assoc, List.singleton_append] at h1
    rw [hx]; simp only [linesL]
    refine Ev.step (f := fun k => keys_Board.j2 k c A acc (v : Int) l l.length i false x.f0 x.f1 x.f2) (fun k => ?_) ?_
    · simp only [keys_Board.l1]; rw [if_pos (by omega), if_pos (by omega), if_pos (by omega), hxx, if_neg (by omega), decide_eq_false (by omega)]
    · refine Ev.step (fun k => ?_) h1
      simp only [keys_Board.j2]; rw [if_neg (by simp), if_pos (by omega), hq, shl_one q hq8, andNot_is v hv q hq8, or_is _ (clr_lt v q hv) q hq8, e1]
      unfold stepL; rw [hq, Int.toNat_natCast]
      by_cases hd : x.f2 = true
      · rw [if_pos hd, if_pos (by omega), if_pos hd]
      · rw [if_neg hd, if_pos (by omega), if_neg hd]

theorem board_l0 (c : ByteArray) (l : List S107) (h : OkK l) : ∀ d i : Nat, i + d = l.length →
    Ev (fun k => keys_Board.l0 k c l ((l.take i).map S107.f0) l (l.length : Int) (i : Int)) (inp c 0 (pairsL 0 l), 0) := by
  have hn : l.length ≤ 500 := by have := h.1.1; simpa using this
  intro d
  induction d with
  | zero =>
    intro i hi
    rw [List.take_of_length_le (by omega)]
    have h2 := board_l1 c (l.map S107.f0) l (by simp) hn h.2 l.length 0 0 [] (by omega) rfl (by omega)
    rw [List.nil_append, List.drop_zero, zip_lines] at h2
    refine Ev.step (fun k => ?_) (Ev.bind (f := fun k t => if t = 0 then (keys_Board.l1 k c (l.map S107.f0) ([] : List Int) 0 l (l.length : Int) 0) else (some (([] : List (S42)), t))) (times_ok _ h.1) ?_)
    · simp only [keys_Board.l0]; rw [if_neg (by omega)]
    · exact Ev.congr (fun k => by rw [if_pos rfl]; rfl) h2
  | succ d ih =>
    intro i hi
    have e1 : wrap64 ((i : Int) + 1) = ((i + 1 : Nat) : Int) := by rw [w64 (by omega) (by omega)]; omega
    refine Ev.step (fun k => ?_) (ih (i + 1) (by omega))
    simp only [keys_Board.l0]; rw [if_pos (by omega), if_pos (by omega), if_pos (by omega), e1, if_pos (by simp; omega)]
    congr 1
    rw [List.take_succ_eq_append_getElem (show i < l.length by omega), List.map_append]
    simp [rd_T107, List.getD_eq_getElem?_getD, List.getElem?_eq_getElem (show i < l.length by omega)]

theorem board_is (c : ByteArray) (l : List S107) (h : OkK l) : Ev (fun k => keys_Board.f k c l) (inp c 0 (pairsL 0 l), 0) := board_l0 c l h l.length 0 (by omega)


/-! ### the keys behind the inputs -/
def segD (t : Int) (a b : Nat) (d : Bool) (ks : List Nat) : List S107 := (ks.filter fun k : Nat => (a.testBit k != b.testBit k) && (b.testBit k == d)).map fun k : Nat => (⟨t, (k : Int), d⟩ : S107)
def seg (t : Int) (a b : Nat) : List S107 := segD t a b false (List.range' 0 8) ++ segD t a b true (List.range' 0 8)
def keysOf : Nat → List S42 → List S107
  | _, [] => []
  | a, x :: r => seg x.f0 a x.f2.toNat ++ keysOf x.f2.toNat r

theorem segD_len (t : Int) (a b : Nat) (d : Bool) (ks : List Nat) : (segD t a b d ks).length ≤ ks.length := by
  unfold segD; rw [List.length_map]; exact List.length_filter_le _ _
theorem seg_len (t : Int) (a b : Nat) : (seg t a b).length ≤ 16 := by
  unfold seg; rw [List.length_append]
  have h1 := segD_len t a b false (List.range' 0 8); have h2 := segD_len t a b true (List.range' 0 8)
  simp only [List.length_range'] at h1 h2; omega

theorem w01 : wrap64 (0 + 1) = 1 := by unfold wrap64; decide
theorem w11 : wrap64 (1 + 1) = 2 := by unfold wrap64; decide
theorem back_l3 (c : ByteArray) (l : List S42) (n1 n2 : Int) (ds : List Bool) (m i2 : Int) (t : Int) (f1 : ByteArray) (a b : Nat) (ha : a < 256) (hb : b < 256) (d : Bool) (R : List S107 × Int) :
    ∀ n j : Nat, ∀ out : List S107, j + n = 8 → out.length + n ≤ 100000 →
    Ev (fun k => keys_Back.l2 k c (out ++ segD t a b d (List.range' j n)) (a : Int) l n1 n2 ds m (wrap64 (i2 + 1)) t f1 (b : Int)) R →
    Ev (fun k => keys_Back.l3 k c out (a : Int) d l n1 n2 ds m i2 (j : Int) t f1 (b : Int)) R := by
  intro n
  induction n with
  | zero =>
    intro j out hj ho h
    refine Ev.step (fun k => ?_) h
    simp only [keys_Back.l3]; rw [if_neg (by omega)]; simp [segD]
  | succ n ih =>
    intro j out hj ho h
    have e1 : wrap64 ((j : Int) + 1) = ((j + 1 : Nat) : Int) := by rw [w64 (by omega) (by omega)]; omega
    have hA := bit_is a ha j (by omega)
    have hB := bit_is b hb j (by omega)
    rw [List.range'_succ] at h
    by_cases h1 : (a.testBit j != b.testBit j) = true
    · by_cases h2 : (b.testBit j == d) = true
      · have h' := ih (j + 1) (out ++ [⟨t, (j : Int), d⟩]) (by omega) (by simp; omega) (by
          simp only [segD, List.filter_cons, h1, h2, Bool.and_self, if_true, List.map_cons] at h
          simpa [segD] using h)
        refine Ev.step (fun k => ?_) h'
        simp only [keys_Back.l3]; rw [if_pos (by omega), if_pos (by omega), hA, hB, if_pos h1, if_pos h2, if_pos (by omega), e1]
      · have h' := ih (j + 1) out (by omega) (by omega) (by
          simp only [segD, List.filter_cons, h1, eq_false_of_ne_true h2, Bool.and_false, Bool.false_eq_true, if_false] at h
          simpa [segD] using h)
        refine Ev.step (fun k => ?_) h'
        simp only [keys_Back.l3]; rw [if_pos (by omega), if_pos (by omega), hA, hB, if_pos h1, if_neg h2, e1]
    · have h' := ih (j + 1) out (by omega) (by omega) (by
        simp only [segD, List.filter_cons, eq_false_of_ne_true h1, Bool.false_and, Bool.false_eq_true, if_false] at h
        simpa [segD] using h)
      refine Ev.step (fun k => ?_) h'
      simp only [keys_Back.l3]; rw [if_pos (by omega), if_pos (by omega), hA, hB, if_neg h1, e1]

def Good (c : ByteArray) : Int → Int → List S42 → Prop
  | _, _, [] => True
  | last, t, x :: r => x.f1 = c ∧ t < x.f0 ∧ x.f0 ≤ 100000 ∧ x.f2 ≠ last ∧ 0 ≤ x.f2 ∧ x.f2 ≤ 255 ∧ Good c x.f2 x.f0 r

theorem drop_T42 (l : List S42) (i : Nat) (h : i < l.length) : l.drop i = rd_T42 l (i : Int) :: l.drop (i + 1) := by
  rw [List.drop_eq_getElem_cons h]; simp [rd_T42, List.getD_eq_getElem?_getD, List.getElem?_eq_getElem h]

theorem back_l1 (c : ByteArray) (l : List S42) (hn : l.length ≤ 500) : ∀ d i a : Nat, ∀ t : Int, ∀ out : List S107, i + d = l.length → out.length ≤ 16 * i → a < 256 → Good c (a : Int) t (l.drop i) →
    Ev (fun k => keys_Back.l1 k c out (a : Int) l (l.length : Int) (i : Int)) (out ++ keysOf a (l.drop i), 0) := by
  intro d
  induction d with
  | zero =>
    intro i a t out hi ho ha hg
    rw [List.drop_eq_nil_of_le (by omega)]; simp only [keysOf, List.append_nil]
    refine Ev.step (fun k => ?_) (Ev.now _)
    simp only [keys_Back.l1]; rw [if_neg (by omega)]
  | succ d ih =>
    intro i a t out hi ho ha hg
    have e1 : wrap64 ((i : Int) + 1) = ((i + 1 : Nat) : Int) := by rw [w64 (by omega) (by omega)]; omega
    have hx := drop_T42 l i (by omega)
    rw [hx] at hg ⊢
    generalize hxx : rd_T42 l (i : Int) = x at *
    obtain ⟨h1, h2, h3, h4, h5, h6, h7⟩ := hg
    obtain ⟨b, hb⟩ : ∃ b : Nat, x.f2 = (b : Int) := ⟨x.f2.toNat, by omega⟩
    have hb8 : b < 256 := by omega
    have hl := seg_len x.f0 a b
    have hs1 := segD_len x.f0 a b false (List.range' 0 8)
    have hs2 := segD_len x.f0 a b true (List.range' 0 8)
    simp only [List.length_range'] at hs1 hs2
    rw [hb] at h7
    have hr := ih (i + 1) b x.f0 (out ++ seg x.f0 a b) (by omega) (by rw [List.length_append]; omega) hb8 h7
    simp only [keysOf]
    rw [hb, Int.toNat_natCast]
    refine Ev.step (f := fun k => keys_Back.j2 k c out (a : Int) l l.length i false x.f0 x.f1 x.f2) (fun k => ?_) ?_
    · simp only [keys_Back.l1]; rw [if_pos (by omega), if_pos (by omega), if_pos (by omega), hxx, if_pos (by rw [h1]), if_neg (by omega), decide_eq_false (by omega)]
    · refine Ev.step (f := fun k => keys_Back.l2 k c out (a : Int) l l.length i [false, true] (([false, true] : List Bool).length : Int) 0 x.f0 x.f1 (b : Int)) (fun k => ?_) ?_
      · simp only [keys_Back.j2]; rw [if_neg (by simp), hb]; rfl
      · refine Ev.step (f := fun k => keys_Back.l3 k c out (a : Int) false l l.length i [false, true] 2 0 ((0 : Nat) : Int) x.f0 x.f1 (b : Int)) (fun k => ?_) ?_
        · simp only [keys_Back.l2]; rw [if_pos (by decide), if_pos (by decide), if_pos (by decide)]; rfl
        · refine back_l3 c l l.length i [false, true] 2 0 x.f0 x.f1 a b ha hb8 false _ 8 0 out rfl (by omega) ?_
          refine Ev.step (f := fun k => keys_Back.l3 k c (out ++ segD x.f0 a b false (List.range' 0 8)) (a : Int) true l l.length i [false, true] 2 1 ((0 : Nat) : Int) x.f0 x.f1 (b : Int)) (fun k => ?_) ?_
          · simp only [keys_Back.l2]; rw [w01, if_pos (by decide), if_pos (by decide), if_pos (by decide)]; rfl
          · refine back_l3 c l l.length i [false, true] 2 1 x.f0 x.f1 a b ha hb8 true _ 8 0 _ rfl (by rw [List.length_append]; omega) ?_
            rw [← List.append_assoc]
            refine Ev.step (fun k => ?_) hr
            simp only [keys_Back.l2]; rw [w11, if_neg (by decide), e1, List.append_assoc]; rfl


/-- Times as a list: few, in range, in order. -/
def OkP (l : List Int) : Prop := l.length ≤ 500 ∧ (∀ x ∈ l, 0 ≤ x ∧ x ≤ 100000) ∧ l.Pairwise (· ≤ ·)
theorem okT_of (l : List Int) (h : OkP l) : OkT l := by
  obtain ⟨h1, h2, h3⟩ := h
  refine ⟨h1, fun i hi => ?_, fun i hi => ?_⟩
  · have := h2 l[i] (List.getElem_mem _)
    simpa [List.getD_eq_getElem?_getD, List.getElem?_eq_getElem hi] using this
  · have := List.pairwise_iff_getElem.1 h3 i (i + 1) (by omega) hi (by omega)
    simpa [List.getD_eq_getElem?_getD, List.getElem?_eq_getElem hi, List.getElem?_eq_getElem (show i < l.length by omega)] using this

theorem back_l0 (c : ByteArray) (l : List S42) (h : OkP (l.map S42.f0)) (hg : Good c 0 (-1) l) : ∀ d i : Nat, i + d = l.length →
    Ev (fun k => keys_Back.l0 k c l ((l.take i).map S42.f0) l (l.length : Int) (i : Int)) (keysOf 0 l, 0) := by
  have hn : l.length ≤ 500 := by have := h.1; simpa using this
  intro d
  induction d with
  | zero =>
    intro i hi
    rw [List.take_of_length_le (by omega)]
    have h2 := back_l1 c l hn l.length 0 0 (-1) [] (by omega) (by simp) (by omega) hg
    rw [List.nil_append, List.drop_zero] at h2
    refine Ev.step (fun k => ?_) (Ev.bind (f := fun k t => if t = 0 then (keys_Back.l1 k c ([] : List (S107)) 0 l (l.length : Int) 0) else (some (([] : List (S107)), t))) (times_ok _ (okT_of _ h)) ?_)
    · simp only [keys_Back.l0]; rw [if_neg (by omega)]
    · exact Ev.congr (fun k => by rw [if_pos rfl]; rfl) h2
  | succ d ih =>
    intro i hi
    have e1 : wrap64 ((i : Int) + 1) = ((i + 1 : Nat) : Int) := by rw [w64 (by omega) (by omega)]; omega
    refine Ev.step (fun k => ?_) (ih (i + 1) (by omega))
    simp only [keys_Back.l0]; rw [if_pos (by omega), if_pos (by omega), if_pos (by omega), e1, if_pos (by simp; omega)]
    congr 1
    rw [List.take_succ_eq_append_getElem (show i < l.length by omega), List.map_append]
    simp [rd_T42, List.getD_eq_getElem?_getD, List.getElem?_eq_getElem (show i < l.length by omega)]

theorem back_is (c : ByteArray) (l : List S42) (h : OkP (l.map S42.f0)) (hg : Good c 0 (-1) l) : Ev (fun k => keys_Back.f k c l) (keysOf 0 l, 0) := back_l0 c l h hg l.length 0 (by omega)

/-! ### the keys that are drawn -/
theorem below_is (x n : Int) (hn : 0 < n) (hb : n ≤ 1000000) : ∃ r, bakemake_Below.f x n = some r ∧ 0 ≤ r ∧ r < n := by
  have h1 := Int.tmod_lt_of_pos x hn
  have h2 := Int.lt_tmod_of_pos x hn
  unfold bakemake_Below.f
  rw [if_neg (by omega)]
  by_cases h : Int.tmod x n < 0
  · rw [if_pos h, w64 (by omega) (by omega)]; exact ⟨_, rfl, by omega, by omega⟩
  · rw [if_neg h]; exact ⟨_, rfl, by omega, by omega⟩

def KInv (acc : List S107) (at_ : Int) : Prop := (acc.map S107.f0).Pairwise (· ≤ ·) ∧ (∀ x ∈ acc, 0 ≤ x.f0 ∧ x.f0 ≤ at_) ∧ (∀ x ∈ acc, 0 ≤ x.f1 ∧ x.f1 ≤ 7) ∧ 0 ≤ at_ ∧ at_ ≤ 30 * acc.length

theorem kinv_snoc (acc : List S107) (a t : Int) (x : S107) (h : KInv acc a) (h0 : 0 ≤ t) (h1 : t < 30) (hx : x.f0 = a + t) (hk : 0 ≤ x.f1 ∧ x.f1 ≤ 7) : KInv (acc ++ [x]) (a + t) := by
  obtain ⟨p, q, r, s, u⟩ := h
  refine ⟨?_, ?_, ?_, by omega, by simp; omega⟩
  · rw [List.map_append, List.pairwise_append]
    refine ⟨p, by simp, ?_⟩
    intro y hy z hz
    obtain ⟨y', hy', rfl⟩ := List.mem_map.1 hy
    have := q y' hy'
    simp at hz; omega
  · intro y hy
    rcases List.mem_append.1 hy with hy | hy
    · have := q y hy; omega
    · simp at hy; subst hy; omega
  · intro y hy
    rcases List.mem_append.1 hy with hy | hy
    · exact r y hy
    · simp at hy; subst hy; exact hk

theorem keys_l0 (l : List Int) (_hl : l.length ≤ 140737488351232) : ∀ d i : Nat, ∀ (acc : List S107) (a : Int), i + 2 * d = 40 → 2 * acc.length = i → KInv acc a →
    ∃ r, Ev (fun k => bakekeep3_Keys.l0 k l acc a (i : Int)) r ∧ r.length ≤ 20 ∧ ∃ b, KInv r b := by
  intro d
  induction d with
  | zero =>
    intro i acc a hi ha hk
    refine ⟨acc, ?_, by omega, a, hk⟩
    by_cases h : wrap64 ((i : Int) + 1) < (l.length : Int)
    · refine Ev.step (f := fun k => bakekeep3_Keys.j1 k l acc a i false) (fun k => ?_) (Ev.step (fun k => ?_) (Ev.now _))
      · simp only [bakekeep3_Keys.l0]; rw [if_pos h, decide_eq_false (by omega)]
      · simp only [bakekeep3_Keys.j1]; rw [if_neg (by simp)]
    · refine Ev.step (f := fun k => bakekeep3_Keys.j1 k l acc a i false) (fun k => ?_) (Ev.step (fun k => ?_) (Ev.now _))
      · simp only [bakekeep3_Keys.l0]; rw [if_neg h]
      · simp only [bakekeep3_Keys.j1]; rw [if_neg (by simp)]
  | succ d ih =>
    intro i acc a hi ha hk
    have e1 : wrap64 ((i : Int) + 1) = ((i + 1 : Nat) : Int) := by rw [w64 (by omega) (by omega)]; omega
    have e2 : wrap64 ((i : Int) + 2) = ((i + 2 : Nat) : Int) := by rw [w64 (by omega) (by omega)]; omega
    by_cases h : ((i + 1 : Nat) : Int) < (l.length : Int)
    · obtain ⟨r, hr, r0, r1⟩ := below_is (rd l (i : Int)) 30 (by omega) (by omega)
      obtain ⟨q, hq, q0, q1⟩ := below_is (rd l ((i + 1 : Nat) : Int)) 8 (by omega) (by omega)
      have hk' := kinv_snoc acc a r ⟨a + r, q, (Go.bits .and .i64 (rd l ((i + 1 : Nat) : Int)) 8) != 0⟩ hk r0 r1 rfl ⟨q0, by show q ≤ 7; omega⟩
      have ⟨_, _, _, a0, a1⟩ := hk
      obtain ⟨R, hR, hR2, hR3⟩ := ih (i + 2) _ _ (by omega) (by simp; omega) hk'
      refine ⟨R, ?_, hR2, hR3⟩
      refine Ev.step (f := fun k => bakekeep3_Keys.j1 k l acc a i true) (fun k => ?_) (Ev.step (fun k => ?_) hR)
      · simp only [bakekeep3_Keys.l0]; rw [e1, if_pos h, decide_eq_true (by omega)]
      · simp only [bakekeep3_Keys.j1]; rw [if_pos trivial, if_pos (by omega), if_pos (by omega), hr, Option.bind_some, e1, if_pos (by omega), if_pos h, hq, Option.bind_some, if_pos (by omega), e2, w64 (by omega) (by omega)]
    · refine ⟨acc, ?_, by omega, a, hk⟩
      refine Ev.step (f := fun k => bakekeep3_Keys.j1 k l acc a i false) (fun k => ?_) (Ev.step (fun k => ?_) (Ev.now _))
      · simp only [bakekeep3_Keys.l0]; rw [e1, if_neg h]
      · simp only [bakekeep3_Keys.j1]; rw [if_neg (by simp)]

theorem keys_is (l : List Int) (hl : l.length ≤ 140737488351232) : ∃ r, Ev (fun k => bakekeep3_Keys.f k l) r ∧ r.length ≤ 20 ∧ OkP (r.map S107.f0) ∧ ∀ x ∈ r, 0 ≤ x.f1 ∧ x.f1 ≤ 7 := by
  obtain ⟨r, h1, h2, b, h3⟩ := keys_l0 l hl 20 0 [] 0 (by omega) rfl ⟨by simp, by simp, by simp, by omega, by simp⟩
  obtain ⟨p, q, s, u, v⟩ := h3
  refine ⟨r, h1, h2, ⟨by simp; omega, ?_, p⟩, s⟩
  intro x hx
  obtain ⟨y, hy, rfl⟩ := List.mem_map.1 hx
  have := q y hy; omega

/-! ### what the inputs are like -/
theorem good_weak (c : ByteArray) (l : List S42) (last t t' : Int) (h : Good c last t l) (ht : t' ≤ t) : Good c last t' l := by
  cases l with
  | nil => exact h
  | cons x r => obtain ⟨h1, h2, h3⟩ := h; exact ⟨h1, by omega, h3⟩

theorem inp_good (c : ByteArray) : ∀ (P : List (Int × Int)) (last t : Int), (P.map Prod.fst).Pairwise (· ≤ ·) → (∀ p ∈ P, t ≤ p.1 ∧ p.1 ≤ 100000 ∧ 0 ≤ p.2 ∧ p.2 ≤ 255) → Good c last (t - 1) (inp c last P) := by
  intro P
  induction P with
  | nil => intro _ _ _ _; trivial
  | cons x r ih =>
    intro last t hp hb
    obtain ⟨u, n⟩ := x
    rw [List.map_cons, List.pairwise_cons] at hp
    obtain ⟨hp1, hp2⟩ := hp
    have hb1 := hb (u, n) List.mem_cons_self
    have hb2 : ∀ p ∈ r, u ≤ p.1 ∧ p.1 ≤ 100000 ∧ 0 ≤ p.2 ∧ p.2 ≤ 255 := fun p hpr => ⟨hp1 p.1 (List.mem_map_of_mem hpr), (hb p (List.mem_cons_of_mem _ hpr)).2⟩
    simp only at hb1
    simp only [inp]
    have hw := good_weak c _ last (u - 1) (t - 1) (ih last u hp2 hb2) (by omega)
    split
    · exact hw
    · rename_i hne
      split
      · exact hw
      · rename_i hne2
        refine ⟨rfl, by show t - 1 < u; omega, hb1.2.1, hne2, hb1.2.2.1, hb1.2.2.2, ?_⟩
        have hb3 : ∀ p ∈ r, u + 1 ≤ p.1 ∧ p.1 ≤ 100000 ∧ 0 ≤ p.2 ∧ p.2 ≤ 255 := by
          cases r with
          | nil => intro p hp; simp at hp
          | cons y s =>
            have hy := hb2 y List.mem_cons_self
            have hne3 : y.1 ≠ u := fun e => hne (by simp [e])
            intro p hpr
            have hq := hb2 p hpr
            rw [List.map_cons, List.pairwise_cons] at hp2
            rcases List.mem_cons.1 hpr with rfl | hps
            · exact ⟨by omega, hq.2⟩
            · have := hp2.1 p.1 (List.mem_map_of_mem hps)
              exact ⟨by omega, hq.2⟩
        have h9 := ih n (u + 1) hp2 hb3
        rwa [show u + 1 - 1 = u by omega] at h9


theorem inp_len (c : ByteArray) : ∀ (P : List (Int × Int)) (last : Int), (inp c last P).length ≤ P.length := by
  intro P
  induction P with
  | nil => intro _; simp [inp]
  | cons x r ih =>
    intro last
    obtain ⟨u, n⟩ := x
    simp only [inp]
    split
    · have := ih last; simp; omega
    · split
      · have := ih last; simp; omega
      · have := ih n; simp; omega
theorem pairs_len (l : List S107) : ∀ v, (pairsL v l).length = l.length := by
  induction l with
  | nil => intro v; rfl
  | cons x r ih => intro v; simp [pairsL, ih]
theorem pairs_fst (l : List S107) : ∀ v, (pairsL v l).map Prod.fst = l.map S107.f0 := by
  induction l with
  | nil => intro v; rfl
  | cons x r ih => intro v; simp [pairsL, ih]
theorem pairs_snd (l : List S107) : ∀ v, v < 256 → (∀ x ∈ l, 0 ≤ x.f1 ∧ x.f1 ≤ 7) → ∀ p ∈ pairsL v l, 0 ≤ p.2 ∧ p.2 ≤ 255 := by
  induction l with
  | nil => intro v _ _ p hp; simp [pairsL] at hp
  | cons x r ih =>
    intro v hv hk p hp
    have hs := stepL_lt v x hv (hk x List.mem_cons_self)
    simp only [pairsL] at hp
    rcases List.mem_cons.1 hp with rfl | hp
    · exact ⟨by simp, by simp; omega⟩
    · exact ih _ hs (fun y hy => hk y (List.mem_cons_of_mem _ hy)) p hp
theorem pairs_append (A B : List S107) : ∀ v, pairsL v (A ++ B) = pairsL v A ++ pairsL (A.foldl stepL v) B := by
  induction A with
  | nil => intro v; rfl
  | cons x r ih => intro v; simp [pairsL, ih]

theorem good_sorted (c : ByteArray) : ∀ (l : List S42) (last t : Int), Good c last t l → (l.map S42.f0).Pairwise (· ≤ ·) ∧ ∀ x ∈ l, t < x.f0 ∧ x.f0 ≤ 100000 := by
  intro l
  induction l with
  | nil => intro _ _ _; simp
  | cons x r ih =>
    intro last t h
    obtain ⟨h1, h2, h3, h4, h5, h6, h7⟩ := h
    obtain ⟨p, q⟩ := ih _ _ h7
    refine ⟨?_, ?_⟩
    · rw [List.map_cons, List.pairwise_cons]
      refine ⟨fun y hy => ?_, p⟩
      obtain ⟨z, hz, rfl⟩ := List.mem_map.1 hy
      have := q z hz; omega
    · intro y hy
      rcases List.mem_cons.1 hy with rfl | hy
      · exact ⟨h2, h3⟩
      · have := q y hy; exact ⟨by omega, this.2⟩

/-! ### back and forth -/
theorem mask_bit : ∀ k : Nat, k < 8 → ∀ j : Nat, j < 8 → (255 - 2 ^ k).testBit j = !(j == k) := by decide +kernel
theorem high_bit (v j : Nat) (hv : v < 256) (hj : 8 ≤ j) : v.testBit j = false := Nat.testBit_lt_two_pow (Nat.lt_of_lt_of_le hv (Nat.pow_le_pow_right (n := 2) (by decide) hj))
theorem clr_bit (v k j : Nat) (hv : v < 256) (hk : k < 8) : (clr v k).testBit j = (v.testBit j && !(j == k)) := by
  unfold clr
  rw [Nat.testBit_and]
  by_cases hj : j < 8
  · rw [mask_bit k hk j hj]
  · rw [high_bit v j hv (by omega)]; simp
theorem set_bit (v k j : Nat) : (v ||| 2 ^ k).testBit j = (v.testBit j || (j == k)) := by
  rw [Nat.testBit_or, Nat.testBit_two_pow]
  congr 1
  rw [Bool.eq_iff_iff]; simp; exact eq_comm

theorem fold_bit (t : Int) (d : Bool) : ∀ (ks : List Nat) (v : Nat), (∀ k ∈ ks, k < 8) → v < 256 →
    (ks.map fun k : Nat => (⟨t, (k : Int), d⟩ : S107)).foldl stepL v < 256 ∧ ∀ j, ((ks.map fun k : Nat => (⟨t, (k : Int), d⟩ : S107)).foldl stepL v).testBit j = if d = true then (v.testBit j || ks.contains j) else (v.testBit j && !ks.contains j) := by
  intro ks
  induction ks with
  | nil => intro v _ hv; refine ⟨hv, fun j => ?_⟩; cases d <;> simp
  | cons k r ih =>
    intro v hk hv
    have hk8 := hk k List.mem_cons_self
    have hs : stepL v ⟨t, (k : Int), d⟩ < 256 := stepL_lt _ _ hv ⟨by simp, by simp; omega⟩
    obtain ⟨h1, h2⟩ := ih (stepL v ⟨t, (k : Int), d⟩) (fun x hx => hk x (List.mem_cons_of_mem _ hx)) hs
    refine ⟨h1, fun j => ?_⟩
    rw [List.map_cons, List.foldl_cons, h2 j]
    cases d
    · simp only [stepL, Int.toNat_natCast, Bool.false_eq_true, if_false, clr_bit v k j hv hk8, List.contains_cons]
      cases v.testBit j <;> cases j == k <;> simp
    · simp only [stepL, Int.toNat_natCast, if_true, clr_bit v k j hv hk8, set_bit, List.contains_cons]
      cases v.testBit j <;> cases j == k <;> simp

theorem seg_fold (t : Int) (a b : Nat) (ha : a < 256) (hb : b < 256) : (seg t a b).foldl stepL a = b := by
  unfold seg segD
  rw [List.foldl_append]
  have hr : ∀ (p : Nat → Bool), ∀ k ∈ (List.range' 0 8).filter p, k < 8 := by
    intro p k hk; have := (List.mem_filter.1 hk).1; simp at this; omega
  obtain ⟨h1, h2⟩ := fold_bit t false _ a (hr fun k : Nat => (a.testBit k != b.testBit k) && (b.testBit k == false)) ha
  obtain ⟨h3, h4⟩ := fold_bit t true _ _ (hr fun k : Nat => (a.testBit k != b.testBit k) && (b.testBit k == true)) h1
  apply Nat.eq_of_testBit_eq
  intro j
  rw [h4 j, h2 j]
  have hc : ∀ p : Nat → Bool, ((List.range' 0 8).filter p).contains j = (decide (j < 8) && p j) := by
    intro p; rw [Bool.eq_iff_iff]; simp [List.mem_filter]
  rw [hc, hc]
  by_cases hj : j < 8
  · rw [decide_eq_true hj]; cases a.testBit j <;> cases b.testBit j <;> simp
  · rw [high_bit a j ha (by omega), high_bit b j hb (by omega)]; simp

theorem seg_mem (t : Int) (a b : Nat) : ∀ x ∈ seg t a b, x.f0 = t ∧ 0 ≤ x.f1 ∧ x.f1 ≤ 7 := by
  intro x hx
  unfold seg segD at hx
  rcases List.mem_append.1 hx with hx | hx
  all_goals
    obtain ⟨k, hk, rfl⟩ := List.mem_map.1 hx
    have := (List.mem_filter.1 hk).1
    simp at this
    exact ⟨rfl, by simp, by simp; omega⟩

theorem seg_ne (t : Int) (a b : Nat) (ha : a < 256) (hb : b < 256) (h : b ≠ a) : seg t a b ≠ [] := by
  intro e
  have := seg_fold t a b ha hb
  rw [e] at this; exact h this.symm

theorem inp_seg (c : ByteArray) (t : Int) (Q : List (Int × Int)) (hQ : Q.head?.map Prod.fst ≠ some t) : ∀ (A : List S107) (v : Nat) (last : Int), A ≠ [] → (∀ x ∈ A, x.f0 = t) → ((A.foldl stepL v : Nat) : Int) ≠ last →
    inp c last (pairsL v A ++ Q) = ⟨t, c, ((A.foldl stepL v : Nat) : Int)⟩ :: inp c ((A.foldl stepL v : Nat) : Int) Q := by
  intro A
  induction A with
  | nil => intro _ _ h; exact absurd rfl h
  | cons x r ih =>
    intro v last _ ht hl
    have hx := ht x List.mem_cons_self
    cases r with
    | nil =>
      simp only [pairsL, List.foldl_cons, List.foldl_nil, List.cons_append, List.nil_append, inp] at hl ⊢
      rw [hx, if_neg hQ, if_neg hl]
    | cons y s =>
      have hy := ht y (List.mem_cons_of_mem _ List.mem_cons_self)
      have h9 := ih (stepL v x) last (by simp) (fun z hz => ht z (List.mem_cons_of_mem _ hz)) hl
      rw [List.foldl_cons]
      rw [← h9]
      simp only [pairsL, List.cons_append, inp]
      rw [if_pos (by simp [hx, hy])]

theorem back_forth (c : ByteArray) : ∀ (l : List S42) (a : Nat) (t : Int), a < 256 → Good c (a : Int) t l → inp c (a : Int) (pairsL a (keysOf a l)) = l := by
  intro l
  induction l with
  | nil => intro a t _ _; rfl
  | cons x r ih =>
    intro a t ha hg
    obtain ⟨h1, h2, h3, h4, h5, h6, h7⟩ := hg
    obtain ⟨b, hb⟩ : ∃ b : Nat, x.f2 = (b : Int) := ⟨x.f2.toNat, by omega⟩
    have hb8 : b < 256 := by omega
    have hba : b ≠ a := fun e => h4 (by rw [hb, e])
    have hf := seg_fold x.f0 a b ha hb8
    simp only [keysOf]
    rw [hb, Int.toNat_natCast, pairs_append, hf]
    rw [hb] at h7
    rw [inp_seg c x.f0 _ ?_ (seg x.f0 a b) a (a : Int) (seg_ne _ _ _ ha hb8 hba) (fun z hz => (seg_mem _ _ _ z hz).1) (by rw [hf]; exact fun e => hba (by exact_mod_cast e)), hf, ih b x.f0 hb8 h7]
    · rw [← h1, ← hb]
    · cases r with
      | nil => simp [keysOf, pairsL]
      | cons y s =>
        obtain ⟨g1, g2, g3, g4, g5, g6, g7⟩ := h7
        have hne := seg_ne y.f0 b y.f2.toNat hb8 (by omega) (fun e => g4 (by omega))
        simp only [keysOf]
        obtain ⟨z, zs, hz⟩ := List.exists_cons_of_ne_nil hne
        have hz0 := (seg_mem y.f0 b y.f2.toNat z (by rw [hz]; exact List.mem_cons_self)).1
        rw [hz]; simp only [List.cons_append, pairsL, List.head?_cons, Option.map_some, ne_eq, Option.some.injEq]
        omega

theorem keysOf_ok (c : ByteArray) : ∀ (l : List S42) (a : Nat) (t : Int), Good c (a : Int) t l → (keysOf a l).length ≤ 16 * l.length ∧ ((keysOf a l).map S107.f0).Pairwise (· ≤ ·) ∧ ∀ x ∈ keysOf a l, t < x.f0 ∧ x.f0 ≤ 100000 ∧ 0 ≤ x.f1 ∧ x.f1 ≤ 7 := by
  intro l
  induction l with
  | nil => intro a t _; simp [keysOf]
  | cons x r ih =>
    intro a t hg
    obtain ⟨h1, h2, h3, h4, h5, h6, h7⟩ := hg
    have e : x.f2 = ((x.f2.toNat : Nat) : Int) := by omega
    rw [e] at h7
    obtain ⟨q1, q2, q3⟩ := ih _ _ h7
    have hl := seg_len x.f0 a x.f2.toNat
    have hm := seg_mem x.f0 a x.f2.toNat
    simp only [keysOf]
    refine ⟨by simp; omega, ?_, ?_⟩
    · rw [List.map_append, List.pairwise_append]
      refine ⟨?_, q2, ?_⟩
      · rw [List.pairwise_map]
        have hall : ∀ L : List S107, (∀ y ∈ L, y.f0 = x.f0) → L.Pairwise (fun a b => a.f0 ≤ b.f0) := by
          intro L
          induction L with
          | nil => intro _; exact List.Pairwise.nil
          | cons y s ihs =>
            intro h
            refine List.Pairwise.cons (fun z hz => ?_) (ihs fun z hz => h z (List.mem_cons_of_mem _ hz))
            rw [h y List.mem_cons_self, h z (List.mem_cons_of_mem _ hz)]; exact Int.le_refl _
        exact hall _ fun y hy => (hm y hy).1
      · intro y hy z hz
        obtain ⟨y', hy', rfl⟩ := List.mem_map.1 hy
        obtain ⟨z', hz', rfl⟩ := List.mem_map.1 hz
        rw [(hm y' hy').1]; have := q3 z' hz'; omega
    · intro y hy
      rcases List.mem_append.1 hy with hy | hy
      · have := hm y hy; exact ⟨by omega, by omega, this.2⟩
      · have := q3 y hy; exact ⟨by omega, this.2⟩

theorem eq_l0 (l : List S42) (hn : l.length ≤ 500) : ∀ d i : Nat, i + d = l.length → Ev (fun k => api_Input.l0 k l l (l.length : Int) (i : Int)) true := by
  intro d
  induction d with
  | zero =>
    intro i hi
    refine Ev.step (fun k => ?_) (Ev.now true)
    simp only [api_Input.l0]; rw [if_neg (by omega)]
  | succ d ih =>
    intro i hi
    have e1 : wrap64 ((i : Int) + 1) = ((i + 1 : Nat) : Int) := by rw [w64 (by omega) (by omega)]; omega
    refine Ev.step (fun k => ?_) (ih (i + 1) (by omega))
    simp only [api_Input.l0]; rw [if_pos (by omega), if_pos (by omega), if_pos (by omega), if_pos (by omega), if_neg (by simp), e1]
theorem eq_is (l : List S42) (hn : l.length ≤ 500) : Ev (fun k => api_Input.f k l l) true :=
  Ev.congr (fun k => by unfold api_Input.f; rw [if_pos rfl]; rfl) (eq_l0 l hn l.length 0 (by omega))

theorem typed_is : Ev (fun k => bakekeep3_typed.f k) true := Ev.of bakekeep3_typed.mono (k := 40) (by decide +kernel)

theorem KeysBack : bakekeep3_KeysBack.Pure := by
  intro l0 _ hl _
  obtain ⟨ks, hk, hk1, hk2, hk3⟩ := keys_is l0 (by omega)
  let c : ByteArray := ⟨#[112]⟩
  have hA := board_is c ks ⟨okT_of _ hk2, hk3⟩
  have hp := pairs_snd ks 0 (by omega) hk3
  have hg : Good c ((0 : Nat) : Int) (-1) (inp c 0 (pairsL 0 ks)) := by
    refine inp_good c _ 0 0 (by rw [pairs_fst]; exact hk2.2.2) (fun p hp' => ?_)
    have h1 : p.1 ∈ ks.map S107.f0 := by rw [← pairs_fst ks 0]; exact List.mem_map_of_mem hp'
    have h2 := hk2.2.1 p.1 h1
    have h3 := hp p hp'
    exact ⟨h2.1, h2.2, h3⟩
  have hal : (inp c 0 (pairsL 0 ks)).length ≤ 20 := by have := inp_len c (pairsL 0 ks) 0; rw [pairs_len] at this; omega
  generalize inp c 0 (pairsL 0 ks) = a at *
  obtain ⟨s1, s2⟩ := good_sorted c a _ _ hg
  have hB := back_is c a ⟨by simp; omega, fun x hx => by obtain ⟨y, hy, rfl⟩ := List.mem_map.1 hx; have := s2 y hy; omega, s1⟩ hg
  obtain ⟨q1, q2, q3⟩ := keysOf_ok c a 0 (-1) hg
  have hC := board_is c (keysOf 0 a) ⟨okT_of _ ⟨by simp; omega, fun x hx => by obtain ⟨y, hy, rfl⟩ := List.mem_map.1 hx; have := q3 y hy; omega, q2⟩, fun x hx => (q3 x hx).2.2⟩
  have hbf := back_forth c a 0 (-1) (by omega) hg
  rw [show ((0 : Nat) : Int) = 0 from rfl] at hbf
  rw [hbf] at hC
  refine Ev.rounds (g := fun k => bakekeep3_KeysBack.f k l0) ?_
  unfold bakekeep3_KeysBack.f
  refine Ev.bind (f := fun k t163 => _) hk ?_
  refine Ev.bind (f := fun k bt166 => _) hA ?_
  refine Ev.bind (f := fun k bt170 => _) hB ?_
  refine Ev.bind (f := fun k bt174 => _) hC ?_
  refine Ev.bind (f := fun k t178 => _) typed_is ?_
  simp only [if_true]
  exact Ev.bind (f := fun k t179 => _) (eq_is a (by omega)) (Ev.now true)

end Go.Proofs.Ytijfinimlnedpaa.Pure
