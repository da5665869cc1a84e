/- The plain law of SampMixed: mixing does not depend on the order, and adds up; smoothing by 1 changes nothing, and stays in the range. No condition beyond the given statement. -/
import Derived.Test.YtijfinimlnedpaaMixWalk
import Derived.Test.YtijfinimlnedpaaSampPure
namespace Go.Proofs.Ytijfinimlnedpaa.Pure
open Go.RowKit Go.Proofs.Ytijfinimlnedpaa.PSamp Go.Proofs.Ytijfinimlnedpaa.SampPure Go.Proofs.YtijfinimlnedpaaW.PrintWords Go.Proofs.YtijfinimlnedpaaW.PrintLast Go.Proofs.YtijfinimlnedpaaW.PrintMore

/-! ### Mix -/
def addTo (a b : List Int) : List Int := (List.range (max a.length b.length)).map fun i => a.getD i 0 + b.getD i 0
def part (a b : List Int) (i : Nat) : List Int := (List.range a.length).map fun j => if j < i then a.getD j 0 + b.getD j 0 else a.getD j 0
theorem addTo_comm (a b : List Int) : addTo a b = addTo b a := by
  unfold addTo; rw [Nat.max_comm]
  apply List.map_congr_left
  intro i _; exact Int.add_comm _ _
theorem addTo_nil (a : List Int) : addTo [] a = a := by
  apply List.ext_getElem
  · simp [addTo]
  · intro i h1 h2; simp [addTo, List.getD_eq_getElem?_getD, List.getElem?_eq_getElem h2]
theorem addTo_len (a b : List Int) : (addTo a b).length = max a.length b.length := by simp [addTo]
theorem part_zero (a b : List Int) : part a b 0 = a := by
  apply List.ext_getElem
  · simp [part]
  · intro i h1 h2; simp [part, List.getD_eq_getElem?_getD, List.getElem?_eq_getElem h2]
theorem part_len (a b : List Int) (i : Nat) : (part a b i).length = a.length := by simp [part]
theorem part_get (a b : List Int) (i : Nat) (h : i < a.length) : (part a b i).getD i 0 = a.getD i 0 := by
  simp [part, List.getD_eq_getElem?_getD, List.getElem?_range h]
theorem part_succ (a b : List Int) (i : Nat) (_h : i < a.length) : (part a b i).set i (a.getD i 0 + b.getD i 0) = part a b (i + 1) := by
  apply List.ext_getElem
  · simp [part]
  · intro j h1 h2
    rw [List.getElem_set]
    simp only [part, List.getElem_map, List.getElem_range]
    by_cases e : i = j
    · subst e; simp
    · rw [if_neg e]
      by_cases h3 : j < i
      · rw [if_pos h3, if_pos (by omega)]
      · rw [if_neg h3, if_neg (by omega)]
/-- A list with zeros behind it. -/
def pad (a : List Int) (n : Nat) : List Int := a ++ List.replicate (n - a.length) 0
theorem pad_len (a : List Int) (n : Nat) : (pad a n).length = max a.length n := by simp [pad]; omega
theorem pad_get (a : List Int) (n i : Nat) : (pad a n).getD i 0 = a.getD i 0 := by
  unfold pad
  rw [List.getD_eq_getElem?_getD, List.getD_eq_getElem?_getD]
  by_cases h : i < a.length
  · rw [List.getElem?_append_left h]
  · rw [List.getElem?_append_right (by omega), List.getElem?_eq_none (show a.length ≤ i by omega), List.getElem?_replicate]
    split <;> rfl
theorem pad_part (a b : List Int) : part (pad a b.length) b b.length = addTo a b := by
  unfold part addTo
  rw [pad_len]
  apply List.map_congr_left
  intro i _
  rw [pad_get]
  split
  · rfl
  · rename_i h
    rw [List.getD_eq_getElem?_getD (l := b), List.getElem?_eq_none (show b.length ≤ i by omega)]; simp
theorem pad_snoc (a : List Int) (n : Nat) (h : a.length < n) : pad (a ++ [0]) n = pad a n := by
  unfold pad
  rw [List.append_assoc, List.length_append, List.length_singleton, show n - a.length = (n - (a.length + 1)) + 1 by omega, List.replicate_succ]; rfl
theorem pad_all (a : List Int) (n : Nat) (h : n ≤ a.length) : pad a n = a := by
  unfold pad; rw [show n - a.length = 0 by omega]; simp

theorem mix_l2 (ls : List (List Int)) (n i0 : Int) (a b : List Int) (hab : b.length ≤ a.length) (hl : a.length ≤ 1000) (ha : ∀ j, 0 ≤ a.getD j 0 ∧ a.getD j 0 ≤ 10000) (hb : ∀ j, 0 ≤ b.getD j 0 ∧ b.getD j 0 ≤ 10000) (R : List Int × Int) :
    ∀ d i : Nat, i + d = b.length → Ev (fun k => samp_Mix.l0 k (part a b b.length) ls n (wrap64 (i0 + 1))) R → Ev (fun k => samp_Mix.l2 k (part a b i) ls n i0 b (b.length : Int) (i : Int)) R := by
  intro d
  induction d with
  | zero =>
    intro i hi h
    refine Ev.step (fun k => ?_) h
    simp only [samp_Mix.l2]; rw [if_neg (by omega), show i = b.length by omega]
  | succ d ih =>
    intro i hi h
    have e1 : wrap64 ((i : Int) + 1) = ((i + 1 : Nat) : Int) := by rw [w64 (by omega) (by omega)]; omega
    have hA := ha i; have hB := hb i
    refine Ev.step (fun k => ?_) (ih (i + 1) (by omega) h)
    simp only [samp_Mix.l2]; rw [if_pos (by omega), if_pos (by omega), if_pos (by omega), if_pos (by rw [part_len]; omega), e1, rd_nat, rd_nat, part_get a b i (by omega), Int.toNat_natCast, w64 (by omega) (by omega), part_succ a b i (by omega)]

theorem mix_l1 (ls : List (List Int)) (n i0 : Int) (b : List Int) (hb : b.length ≤ 1000) (R : List Int × Int) :
    ∀ (d : Nat) (a : List Int), b.length - a.length = d → a.length ≤ 1000 → Ev (fun k => samp_Mix.l2 k (pad a b.length) ls n i0 b (b.length : Int) 0) R → Ev (fun k => samp_Mix.l1 k a b ls n i0) R := by
  intro d
  induction d with
  | zero =>
    intro a hd ha h
    rw [pad_all a _ (by omega)] at h
    refine Ev.step (fun k => ?_) h
    simp only [samp_Mix.l1]; rw [if_neg (by omega)]
  | succ d ih =>
    intro a hd ha h
    refine Ev.step (fun k => ?_) (ih (a ++ [0]) (by simp; omega) (by simp; omega) (by rw [pad_snoc a _ (by omega)]; exact h))
    simp only [samp_Mix.l1]; rw [if_pos (by omega), if_pos (by omega)]

theorem getD_b (l : List Int) (lo hi : Int) (h : ∀ x ∈ l, lo ≤ x ∧ x ≤ hi) (h0 : lo ≤ 0) (h1 : 0 ≤ hi) (j : Nat) : lo ≤ l.getD j 0 ∧ l.getD j 0 ≤ hi := by
  by_cases hj : j < l.length
  · exact getD_bound l lo hi h j hj
  · rw [List.getD_eq_getElem?_getD, List.getElem?_eq_none (by omega)]; simp; exact ⟨h0, h1⟩

theorem mix_add (ls : List (List Int)) (hn : ls.length ≤ 10) (i : Nat) (hi : i < ls.length) (a b : List Int) (hls : rd_L1 ls (i : Int) = b) (hal : a.length ≤ 1000) (hbl : b.length ≤ 1000) (ha : ∀ x ∈ a, 0 ≤ x ∧ x ≤ 10000) (hb : ∀ x ∈ b, 0 ≤ x ∧ x ≤ 10000) (R : List Int × Int)
    (h : Ev (fun k => samp_Mix.l0 k (addTo a b) ls (ls.length : Int) ((i + 1 : Nat) : Int)) R) : Ev (fun k => samp_Mix.l0 k a ls (ls.length : Int) (i : Int)) R := by
  have e1 : wrap64 ((i : Int) + 1) = ((i + 1 : Nat) : Int) := by rw [w64 (by omega) (by omega)]; omega
  rw [← e1, ← pad_part] at h
  have hA := getD_b a 0 10000 ha (by omega) (by omega)
  have hB := getD_b b 0 10000 hb (by omega) (by omega)
  have h2 := mix_l2 ls (ls.length : Int) (i : Int) (pad a b.length) b (by rw [pad_len]; omega) (by rw [pad_len]; omega) (fun j => by rw [pad_get]; exact hA j) hB R b.length 0 (by omega) h
  rw [part_zero] at h2
  have h3 := mix_l1 ls (ls.length : Int) (i : Int) b hbl R _ a rfl hal h2
  refine Ev.step (f := fun k => (samp_Check.f k b).bind fun t173 => (if t173 = 0 then (samp_Mix.l1 k a b ls (ls.length : Int) (i : Int)) else (some (([] : List Int), t173)))) (fun k => ?_) ?_
  · simp only [samp_Mix.l0]; rw [if_pos (by omega), if_pos (by omega), if_pos (by omega), hls]
  · refine Ev.bind (f := fun k t173 => _) (check_is b (by omega) (fun x hx => by have := hb x hx; omega)) ?_
    simp only [if_true]; exact h3

theorem mix_l3 (x : List Int) (hx : ∀ y ∈ x, 0 ≤ y ∧ y ≤ 1048576) (hl : x.length ≤ 1000) : ∀ d i : Nat, i + d = x.length → Ev (fun k => samp_Mix.l3 k x x (x.length : Int) (i : Int)) (x, 0) := by
  intro d
  induction d with
  | zero =>
    intro i hi
    refine Ev.step (fun k => ?_) (Ev.now _)
    simp only [samp_Mix.l3]; rw [if_neg (by omega)]
  | succ d ih =>
    intro i hi
    have e1 : wrap64 ((i : Int) + 1) = ((i + 1 : Nat) : Int) := by rw [w64 (by omega) (by omega)]; omega
    have hb := rd_bound x _ _ hx (i : Int) (by omega) (by omega)
    refine Ev.step (fun k => ?_) (ih (i + 1) (by omega))
    simp only [samp_Mix.l3]; rw [if_pos (by omega), if_pos (by omega), if_pos (by omega), if_neg (by omega), e1]

theorem addTo_b (a b : List Int) (ha : ∀ x ∈ a, 0 ≤ x ∧ x ≤ 30) (hb : ∀ x ∈ b, 0 ≤ x ∧ x ≤ 30) : ∀ x ∈ addTo a b, 0 ≤ x ∧ x ≤ 60 := by
  intro x hx
  obtain ⟨i, _, rfl⟩ := List.mem_map.1 hx
  have hA := getD_b a 0 30 ha (by omega) (by omega) i
  have hB := getD_b b 0 30 hb (by omega) (by omega) i
  omega

theorem mix_is (a b : List Int) (hal : a.length ≤ 150) (hbl : b.length ≤ 150) (ha : ∀ x ∈ a, 0 ≤ x ∧ x ≤ 30) (hb : ∀ x ∈ b, 0 ≤ x ∧ x ≤ 30) : Ev (fun k => samp_Mix.f k [a, b]) (addTo a b, 0) := by
  have hx := addTo_b a b ha hb
  have h3 : Ev (fun k => samp_Mix.l0 k (addTo a b) [a, b] (([a, b] : List (List Int)).length : Int) ((2 : Nat) : Int)) (addTo a b, 0) := by
    refine Ev.step (fun k => ?_) (mix_l3 (addTo a b) (fun y hy => by have := hx y hy; omega) (by rw [addTo_len]; omega) _ 0 (Nat.zero_add _))
    simp only [samp_Mix.l0]; rw [if_neg (by simp)]; rfl
  have h2 := mix_add [a, b] (by simp) 1 (by simp) a b rfl (by omega) (by omega) (fun x hx => by have := ha x hx; omega) (fun x hx => by have := hb x hx; omega) _ h3
  have h1 := mix_add [a, b] (by simp) 0 (by simp) [] a rfl (by simp) (by omega) (by simp) (fun x hx => by have := ha x hx; omega) (addTo a b, 0) (by rw [addTo_nil]; exact h2)
  exact h1

/-! ### sums of lists -/
theorem sum_getD (l : List Int) : ∀ n : Nat, l.length ≤ n → ((List.range n).map fun i => l.getD i 0).sum = l.sum := by
  have key : ∀ n : Nat, ((List.range n).map fun i => l.getD i 0).sum = S l n := by
    intro n
    induction n with
    | zero => simp [S]
    | succ n ih =>
      rw [List.range_succ, List.map_append, List.sum_append_int, ih]
      simp only [List.map_cons, List.map_nil, List.sum_cons, List.sum_nil, Int.add_zero]
      by_cases h : n < l.length
      · rw [S_succ l n h]
      · rw [List.getD_eq_getElem?_getD, List.getElem?_eq_none (by omega)]
        unfold S; rw [List.take_of_length_le (by omega), List.take_of_length_le (by omega)]; simp
  intro n hn
  rw [key n]; unfold S; rw [List.take_of_length_le hn]
theorem sum_map_add (f g : Nat → Int) : ∀ l : List Nat, (l.map fun i => f i + g i).sum = (l.map f).sum + (l.map g).sum := by
  intro l
  induction l with
  | nil => simp
  | cons x r ih => simp only [List.map_cons, List.sum_cons, ih]; omega
theorem addTo_sum (a b : List Int) : (addTo a b).sum = a.sum + b.sum := by
  unfold addTo; rw [sum_map_add (fun i => a.getD i 0) (fun i => b.getD i 0), sum_getD a _ (by omega), sum_getD b _ (by omega)]

/-! ### Smooth -/
theorem pmOk (l : List Int) (hl : l.length ≤ 100000) (hb : ∀ x ∈ l, 0 ≤ x ∧ x ≤ 1048576) : PmOk l (preS l) := by
  refine ⟨psOk l hl hb, fun i hi j hj => ?_⟩
  have hi' := List.mem_range.1 hi
  have hj' := List.mem_range.1 hj
  have e : ((i : Int) + 1) = ((i + 1 : Nat) : Int) := by push_cast; rfl
  rw [e, rd_preS l j (by omega), rd_preS l (i + 1) (by omega)]
  have := S_mono l _ hb (i + 1 - j) j (by omega)
  rwa [show j + (i + 1 - j) = i + 1 by omega] at this

theorem smooth_is (l : List Int) (n : Int) (hl : l.length ≤ 100000) (hb : ∀ x ∈ l, 0 ≤ x ∧ x ≤ 1048576) (n0 : 1 ≤ n) (n1 : n ≤ 1000) : Ev (fun k => samp_Smooth.f k l n) (means (preS l) n l.length, 0) := by
  unfold samp_Smooth.f
  simp only [if_pos (show SmOk l n from ⟨hl, n0, n1⟩)]
  refine Ev.bind (f := fun k t => _) (check_is l hl hb) ?_
  simp only [if_true]
  refine Ev.bind (f := fun k p => _) (sums_is l hl hb) ?_
  simp only [if_pos (pmOk l hl hb)]
  exact Ev.now _

/-- The mean of the last m of i + 1 levels. -/
theorem meanAt_is (l : List Int) (n : Int) (n0 : 1 ≤ n) (i : Nat) (hi : i < l.length) : ∃ m : Nat, 1 ≤ m ∧ m ≤ i + 1 ∧ (n = 1 → m = 1) ∧ meanAt (preS l) n i = (S l (i + 1) - S l (i + 1 - m)) / (m : Int) := by
  have e : ((i : Int) + 1) = ((i + 1 : Nat) : Int) := by push_cast; rfl
  unfold meanAt
  by_cases h : (i : Int) + 1 < n
  · refine ⟨i + 1, by omega, by omega, by omega, ?_⟩
    rw [if_pos h, e, rd_preS l (i + 1) (by omega), show (0 : Int) = ((0 : Nat) : Int) from rfl, rd_preS l 0 (by omega), show i + 1 - (i + 1) = 0 by omega]
  · refine ⟨n.toNat, by omega, by omega, by omega, ?_⟩
    rw [if_neg h]
    have e2 : ((i : Int) + 1 - n) = ((i + 1 - n.toNat : Nat) : Int) := by omega
    rw [e2, e, rd_preS l (i + 1) (by omega), rd_preS l _ (by omega)]
    congr 1; omega

theorem S_diff (l : List Int) (lo hi : Int) (hb : ∀ x ∈ l, lo ≤ x ∧ x ≤ hi) : ∀ m j : Nat, j + m ≤ l.length → lo * m ≤ S l (j + m) - S l j ∧ S l (j + m) - S l j ≤ hi * m := by
  intro m
  induction m with
  | zero => intro j _; simp
  | succ m ih =>
    intro j hj
    have h1 := ih j (by omega)
    have hg := getD_bound l lo hi hb (j + m) (by omega)
    rw [show j + (m + 1) = (j + m) + 1 by omega, S_succ l (j + m) (by omega)]
    have e1 : lo * ((m + 1 : Nat) : Int) = lo * m + lo := by push_cast; rw [Int.mul_add, Int.mul_one]
    have e2 : hi * ((m + 1 : Nat) : Int) = hi * m + hi := by push_cast; rw [Int.mul_add, Int.mul_one]
    omega

theorem meanAt_b (l : List Int) (n : Int) (n0 : 1 ≤ n) (lo hi : Int) (hb : ∀ x ∈ l, lo ≤ x ∧ x ≤ hi) (i : Nat) (hi' : i < l.length) : lo ≤ meanAt (preS l) n i ∧ meanAt (preS l) n i ≤ hi := by
  obtain ⟨m, m1, m2, _, he⟩ := meanAt_is l n n0 i hi'
  have hd := S_diff l lo hi hb m (i + 1 - m) (by omega)
  rw [show i + 1 - m + m = i + 1 by omega] at hd
  rw [he]
  exact ⟨Int.le_ediv_of_mul_le (by omega) hd.1, Int.ediv_le_of_le_mul (by omega) hd.2⟩

theorem means_one (l : List Int) : means (preS l) 1 l.length = l := by
  apply List.ext_getElem
  · rw [means_len]
  · intro i h1 h2
    have hi : i < l.length := h2
    obtain ⟨m, _, _, hm, he⟩ := meanAt_is l 1 (by omega) i hi
    obtain rfl := hm rfl
    have e : (means (preS l) 1 l.length)[i] = meanAt (preS l) 1 i := by simp [means]
    rw [e, he, show i + 1 - 1 = i by omega, S_succ l i hi]
    simp [List.getD_eq_getElem?_getD, List.getElem?_eq_getElem hi]
    omega


/-! ### Range -/
theorem range_l0 (l : List Int) (hl : l.length ≤ 1000) : ∀ d i : Nat, ∀ lo hi : Int, i + d = l.length → (∀ j : Nat, j < i → lo ≤ l.getD j 0 ∧ l.getD j 0 ≤ hi) → lo ∈ l → hi ∈ l →
    ∃ lo' hi', Ev (fun k => samp_Range.l0 k lo hi l (l.length : Int) (i : Int)) (lo', hi', 0) ∧ (∀ j : Nat, j < l.length → lo' ≤ l.getD j 0 ∧ l.getD j 0 ≤ hi') ∧ lo' ∈ l ∧ hi' ∈ l := by
  intro d
  induction d with
  | zero =>
    intro i lo hi h1 h2 h3 h4
    refine ⟨lo, hi, Ev.step (fun k => ?_) (Ev.now _), fun j hj => h2 j (by omega), h3, h4⟩
    simp only [samp_Range.l0]; rw [if_neg (by omega)]
  | succ d ih =>
    intro i lo hi h1 h2 h3 h4
    have e1 : wrap64 ((i : Int) + 1) = ((i + 1 : Nat) : Int) := by rw [w64 (by omega) (by omega)]; omega
    have hg : l.getD i 0 ∈ l := by
      rw [List.getD_eq_getElem?_getD, List.getElem?_eq_getElem (show i < l.length by omega)]; exact List.getElem_mem _
    generalize hx : l.getD i 0 = x at *
    have hmn : mn lo x ∈ l ∧ mn lo x ≤ lo ∧ mn lo x ≤ x := by unfold mn; split; exact ⟨hg, by omega, by omega⟩; exact ⟨h3, by omega, by omega⟩
    have hmx : mx hi x ∈ l ∧ hi ≤ mx hi x ∧ x ≤ mx hi x := by unfold mx; split; exact ⟨hg, by omega, by omega⟩; exact ⟨h4, by omega, by omega⟩
    obtain ⟨lo', hi', g1, g2⟩ := ih (i + 1) (mn lo x) (mx hi x) (by omega) (fun j hj => by
      rcases Nat.lt_or_ge j i with h | h
      · have := h2 j h; omega
      · obtain rfl : j = i := by omega
        rw [hx]; omega) hmn.1 hmx.1
    refine ⟨lo', hi', Ev.step (fun k => ?_) g1, g2⟩
    simp only [samp_Range.l0]; rw [if_pos (by omega), if_pos (by omega), if_pos (by omega), rd_nat, hx, e1]

theorem range_is (l : List Int) (hl : l.length ≤ 1000) (hb : ∀ x ∈ l, 0 ≤ x ∧ x ≤ 1048576) : ∃ lo hi, Ev (fun k => samp_Range.f k l) (lo, hi, 0) ∧ (l = [] → lo = 0 ∧ hi = 0) ∧ (l ≠ [] → (∀ x ∈ l, lo ≤ x ∧ x ≤ hi) ∧ lo ∈ l ∧ hi ∈ l) := by
  by_cases he : l = []
  · subst he
    refine ⟨0, 0, ?_, fun _ => ⟨rfl, rfl⟩, fun h => absurd rfl h⟩
    unfold samp_Range.f
    refine Ev.bind (f := fun k t => _) (check_is [] (by simp) hb) ?_
    simp only [if_true]; exact Ev.now _
  · have hpos : 0 < l.length := List.length_pos_iff.2 he
    have hg : l.getD 0 0 ∈ l := by
      rw [List.getD_eq_getElem?_getD, List.getElem?_eq_getElem hpos]; exact List.getElem_mem _
    obtain ⟨lo, hi, h1, h2, h3, h4⟩ := range_l0 l hl l.length 0 (l.getD 0 0) (l.getD 0 0) (by omega) (fun j hj => by omega) hg hg
    refine ⟨lo, hi, ?_, fun h => absurd h he, fun _ => ⟨fun x hx => ?_, h3, h4⟩⟩
    · unfold samp_Range.f
      refine Ev.bind (f := fun k t => _) (check_is l (by omega) hb) ?_
      simp only [if_true]
      simp only [if_neg (show ¬ (l.length : Int) = 0 by omega), if_pos (show 0 < (l.length : Int) by omega)]; exact h1
    · obtain ⟨j, hj, rfl⟩ := List.getElem_of_mem hx
      have := h2 j hj
      simpa [List.getD_eq_getElem?_getD, List.getElem?_eq_getElem hj] using this

/-! ### the law -/
theorem mixed_ok (l0 l1 : List Int) (n : Int) : ∃ k a b x z v q sa sb lo hi jj kk, MixedOk l0 l1 n k a b x z v q sa sb lo hi jj kk := by
  obtain ⟨a, ⟨K1, g1⟩, a1, a2⟩ := levels_is l0
  obtain ⟨b, ⟨K2, g2⟩, b1, b2⟩ := levels_is l1
  obtain ⟨q, g3, q0, q1⟩ := below_is n 20 (by omega) (by omega)
  have ba : ∀ x ∈ a, 0 ≤ x ∧ x ≤ 1048576 := fun x hx => by have := a2 x hx; omega
  have bb : ∀ x ∈ b, 0 ≤ x ∧ x ≤ 1048576 := fun x hx => by have := b2 x hx; omega
  have hx := addTo_b a b a2 b2
  have bx : ∀ x ∈ addTo a b, 0 ≤ x ∧ x ≤ 1048576 := fun x h => by have := hx x h; omega
  have lx : (addTo a b).length ≤ 150 := by rw [addTo_len]; omega
  obtain ⟨K4, g4⟩ := mix_is a b a1 b1 a2 b2
  obtain ⟨K5, g5⟩ := mix_is b a b1 a1 b2 a2
  rw [addTo_comm b a] at g5
  obtain ⟨K6, g6⟩ := smooth_is a 1 (by omega) ba (by omega) (by omega)
  rw [means_one] at g6
  obtain ⟨K7, g7⟩ := smooth_is a (1 + q) (by omega) ba (by omega) (by omega)
  have vl := means_len (preS a) (1 + q) a.length
  have vb : ∀ x ∈ means (preS a) (1 + q) a.length, ∃ i : Nat, i < a.length ∧ x = meanAt (preS a) (1 + q) i := by
    intro x hx
    obtain ⟨i, hi, rfl⟩ := List.mem_map.1 hx
    exact ⟨i, List.mem_range.1 hi, rfl⟩
  have bv : ∀ x ∈ means (preS a) (1 + q) a.length, 0 ≤ x ∧ x ≤ 1048576 := by
    intro x hx
    obtain ⟨i, hi, rfl⟩ := vb x hx
    exact meanAt_b a (1 + q) (by omega) _ _ ba i hi
  obtain ⟨lo, hi, ⟨K8, g8⟩, r1, r2⟩ := range_is a (by omega) ba
  obtain ⟨jj, kk, ⟨K9, g9⟩, s1, s2⟩ := range_is (means (preS a) (1 + q) a.length) (by omega) bv
  obtain ⟨KA, gA⟩ := heard_is
  obtain ⟨KB, gB⟩ := eq_is (addTo a b) (by omega)
  obtain ⟨KC, gC⟩ := sum_pos (addTo a b) (by omega) bx
  rw [addTo_sum] at gC
  obtain ⟨KD, gD⟩ := sum_pos a (by omega) ba
  obtain ⟨KE, gE⟩ := sum_pos b (by omega) bb
  obtain ⟨KF, gF⟩ := eq_is a (by omega)
  have sa := S_bound a 30 a2 a.length (by omega)
  have sb := S_bound b 30 b2 b.length (by omega)
  rw [S_all] at sa sb
  have hl : lo ≤ jj ∧ kk ≤ hi := by
    by_cases he : a = []
    · obtain ⟨e1, e2⟩ := r1 he
      have he' : means (preS a) (1 + q) a.length = [] := List.eq_nil_of_length_eq_zero (by rw [vl, he]; rfl)
      obtain ⟨e3, e4⟩ := s1 he'
      omega
    · obtain ⟨f1, f2, f3⟩ := r2 he
      have he' : means (preS a) (1 + q) a.length ≠ [] := fun e => by
        rw [e] at vl; exact he (List.eq_nil_of_length_eq_zero vl.symm)
      obtain ⟨_, f5, f6⟩ := s2 he'
      obtain ⟨i, hi', e1⟩ := vb _ f5
      obtain ⟨j, hj', e2⟩ := vb _ f6
      rw [e1, e2]
      exact ⟨(meanAt_b a (1 + q) (by omega) lo hi f1 i hi').1, (meanAt_b a (1 + q) (by omega) lo hi f1 j hj').2⟩
  let k := K1 + K2 + K4 + K5 + K6 + K7 + K8 + K9 + KA + KB + KC + KD + KE + KF
  exact ⟨k, a, b, addTo a b, a, means (preS a) (1 + q) a.length, q, a.sum, b.sum, lo, hi, jj, kk,
    { la := g1 k (by omega), lb := g2 k (by omega), mx := g4 k (by omega), my := g5 k (by omega), sz := g6 k (by omega), bq := g3, q0 := q0, q1 := by omega, sv := g7 k (by omega), ra := g8 k (by omega), rv := g9 k (by omega),
      he := gA k (by omega), xx := gB k (by omega), sx := gC k (by omega), sa' := gD k (by omega), sb' := gE k (by omega), sb0 := by omega, sb1 := by omega, za := gF k (by omega), vl := vl, lj := hl.1, kh := hl.2 }⟩

theorem mixed_walk (a0 : Option Addr) (len0 cap0 : Nat) (z0 : List Int) (a1 : Option Addr) (len1 cap1 : Nat) (z1 : List Int) (a2 : Int) (w : World)
    (w0 : (a0 = none ∧ len0 = 0 ∧ cap0 = 0 ∧ z0 = []) ∨ ∃ x, a0 = some x ∧ len0 ≤ cap0 ∧ cap0 ≤ maxLen ∧ z0.length = cap0 ∧ (∀ i, i < z0.length → w.cell? (x.add i) = some (.int .i64 (z0.getD i 0))) ∧ ∀ n ∈ z0, (Lit.int .i64 n).wf = true)
    (w1 : (a1 = none ∧ len1 = 0 ∧ cap1 = 0 ∧ z1 = []) ∨ ∃ x, a1 = some x ∧ len1 ≤ cap1 ∧ cap1 ≤ maxLen ∧ z1.length = cap1 ∧ (∀ i, i < z1.length → w.cell? (x.add i) = some (.int .i64 (z1.getD i 0))) ∧ ∀ n ∈ z1, (Lit.int .i64 n).wf = true) :
    Calls Try.prog 7 #[.slice a0 len0 cap0, .slice a1 len1 cap1, .int .i64 a2] w fun e w' => e = .returned (.bool true) ∧ Below w.heap.size w w' := by
  obtain ⟨l0, rfl, hr0, _, _, hc0⟩ := ReadsInt.ofRowC w0
  obtain ⟨l1, rfl, hr1, _, _, hc1⟩ := ReadsInt.ofRowC w1
  obtain ⟨k, a, b, x, z, v, q, sa, sb, lo, hi, jj, kk, H⟩ := mixed_ok l0 l1 a2
  exact mixed_calls l0 l1 a2 k a b x z v q sa sb lo hi jj kk H _ _ _ _ w (Kd.C_of_reads (d := (0 : Int)) (h1 := fun _ => rfl) hr0) hc0 (Kd.C_of_reads (d := (0 : Int)) (h1 := fun _ => rfl) hr1) hc1

end Go.Proofs.Ytijfinimlnedpaa.Pure
