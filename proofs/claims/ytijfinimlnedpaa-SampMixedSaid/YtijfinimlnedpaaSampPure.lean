/- What the functions of samp, and those of the laws about it, compute: plain facts on lists of whole numbers. -/
import Derived.Test.YtijfinimlnedpaaPSampx8
import Derived.Test.YtijfinimlnedpaaPSampx9
import Derived.Test.YtijfinimlnedpaaPSampx2
namespace Go.Proofs.Ytijfinimlnedpaa.SampPure
open Go.RowKit Go.Proofs.Ytijfinimlnedpaa.PSamp Go.Proofs.YtijfinimlnedpaaW.PrintWords Go.Proofs.YtijfinimlnedpaaW.PrintLast Go.Proofs.YtijfinimlnedpaaW.PrintMore

theorem w64 {n : Int} (h0 : -9223372036854775808 ≤ n) (h1 : n ≤ 9223372036854775807) : wrap64 n = n := by unfold wrap64; omega
theorem rd_nat (l : List Int) (i : Nat) : rd l (i : Int) = l.getD i 0 := by unfold rd; simp
theorem below_is (x n : Int) (hn : 0 < n) (hb : n ≤ 1000000) : ∃ r, bakemake_Below.f x n = some r ∧ 0 ≤ r ∧ r < n := by
  have h1 := Int.tmod_lt_of_pos x hn
  have h2 := Int.lt_tmod_of_pos x hn
  unfold bakemake_Below.f
  rw [if_neg (by omega)]
  by_cases h : Int.tmod x n < 0
  · rw [if_pos h, w64 (by omega) (by omega)]; exact ⟨_, rfl, by omega, by omega⟩
  · rw [if_neg h]; exact ⟨_, rfl, by omega, by omega⟩

/-! ### levels -/
theorem levels_l0 (l : List Int) (hl : l.length ≤ 150) : ∀ d i : Nat, ∀ acc : List Int, i + d = l.length → acc.length = i → (∀ x ∈ acc, 0 ≤ x ∧ x ≤ 30) →
    ∃ r, Ev (fun k => bakekeep3_levels.l0 k acc l (l.length : Int) (i : Int)) r ∧ r.length ≤ 150 ∧ ∀ x ∈ r, 0 ≤ x ∧ x ≤ 30 := by
  intro d
  induction d with
  | zero =>
    intro i acc hi ha hb
    refine ⟨acc, Ev.step (fun k => ?_) (Ev.now _), by omega, hb⟩
    simp only [bakekeep3_levels.l0]; rw [if_neg (by omega)]
  | succ d ih =>
    intro i acc hi ha hb
    have e1 : wrap64 ((i : Int) + 1) = ((i + 1 : Nat) : Int) := by rw [w64 (by omega) (by omega)]; omega
    obtain ⟨q, hq, q0, q1⟩ := below_is (rd l (i : Int)) 31 (by omega) (by omega)
    obtain ⟨r, hr, h1, h2⟩ := ih (i + 1) (acc ++ [q]) (by omega) (by simp; omega) (fun x hx => by
      rcases List.mem_append.1 hx with hx | hx
      · exact hb x hx
      · simp at hx; omega)
    refine ⟨r, Ev.step (fun k => ?_) hr, h1, h2⟩
    simp only [bakekeep3_levels.l0]; rw [if_pos (by omega), if_pos (by omega), if_pos (by omega), hq, Option.bind_some, if_pos (by omega), e1]

theorem levels_is (l : List Int) : ∃ r, Ev (fun k => bakekeep3_levels.f k l) r ∧ r.length ≤ 150 ∧ ∀ x ∈ r, 0 ≤ x ∧ x ≤ 30 := by
  have hm : 0 ≤ mn (l.length : Int) 150 ∧ mn (l.length : Int) 150 ≤ l.length ∧ mn (l.length : Int) 150 ≤ 150 := by unfold mn; split <;> omega
  obtain ⟨h0, h1, h2⟩ := hm
  generalize hq : mn (l.length : Int) 150 = m at *
  have hlen : (l.take m.toNat).length ≤ 150 := by rw [List.length_take]; omega
  obtain ⟨r, hr, h3⟩ := levels_l0 (l.take m.toNat) hlen _ 0 [] (Nat.zero_add _) rfl (by simp)
  refine ⟨r, Ev.congr (fun k => ?_) hr, h3⟩
  unfold bakekeep3_levels.f; rw [hq, if_pos h0, if_pos h1]; rfl

/-! ### Check -/
theorem check_l0 (l : List Int) (hl : l.length ≤ 100000) (hb : ∀ x ∈ l, 0 ≤ x ∧ x ≤ 1048576) : ∀ d i : Nat, i + d = l.length → Ev (fun k => samp_Check.l0 k l (l.length : Int) (i : Int)) 0 := by
  intro d
  induction d with
  | zero =>
    intro i hi
    refine Ev.step (fun k => ?_) (Ev.now _)
    simp only [samp_Check.l0]; rw [if_neg (by omega)]
  | succ d ih =>
    intro i hi
    have e1 : wrap64 ((i : Int) + 1) = ((i + 1 : Nat) : Int) := by rw [w64 (by omega) (by omega)]; omega
    have hr := rd_bound l _ _ hb (i : Int) (by omega) (by omega)
    refine Ev.step (fun k => ?_) (ih (i + 1) (by omega))
    simp only [samp_Check.l0]; rw [if_pos (by omega), if_pos (by omega), if_pos (by omega), if_neg (by omega), if_neg (by omega), e1]
theorem check_is (l : List Int) (hl : l.length ≤ 100000) (hb : ∀ x ∈ l, 0 ≤ x ∧ x ≤ 1048576) : Ev (fun k => samp_Check.f k l) 0 :=
  Ev.congr (fun k => by unfold samp_Check.f; rw [if_neg (by omega)]; rfl) (check_l0 l hl hb l.length 0 (by omega))

/-! ### sums -/
def S (l : List Int) (j : Nat) : Int := (l.take j).sum
theorem S_zero (l : List Int) : S l 0 = 0 := by simp [S]
theorem S_succ (l : List Int) (j : Nat) (h : j < l.length) : S l (j + 1) = S l j + l.getD j 0 := by
  unfold S; rw [List.take_succ_eq_append_getElem h, List.sum_append_int]
  simp [List.getD_eq_getElem?_getD, List.getElem?_eq_getElem h]
theorem S_all (l : List Int) : S l l.length = l.sum := by unfold S; rw [List.take_length]
theorem getD_bound (l : List Int) (lo hi : Int) (h : ∀ x ∈ l, lo ≤ x ∧ x ≤ hi) (j : Nat) (hj : j < l.length) : lo ≤ l.getD j 0 ∧ l.getD j 0 ≤ hi := by
  rw [List.getD_eq_getElem?_getD, List.getElem?_eq_getElem hj]; exact h _ (List.getElem_mem _)
theorem S_bound (l : List Int) (hi : Int) (h : ∀ x ∈ l, 0 ≤ x ∧ x ≤ hi) : ∀ j : Nat, j ≤ l.length → 0 ≤ S l j ∧ S l j ≤ hi * j := by
  intro j
  induction j with
  | zero => intro _; rw [S_zero]; simp
  | succ j ih =>
    intro hj
    have := ih (by omega)
    have hb := getD_bound l 0 hi h j (by omega)
    rw [S_succ l j (by omega)]
    have e : hi * ((j + 1 : Nat) : Int) = hi * j + hi := by push_cast; rw [Int.mul_add, Int.mul_one]
    omega
theorem S_mono (l : List Int) (hi : Int) (h : ∀ x ∈ l, 0 ≤ x ∧ x ≤ hi) : ∀ d i : Nat, i + d ≤ l.length → S l i ≤ S l (i + d) := by
  intro d
  induction d with
  | zero => intro i _; simp
  | succ d ih =>
    intro i hi'
    have h1 := ih i (by omega)
    have hb := getD_bound l 0 hi h (i + d) (by omega)
    rw [show i + (d + 1) = (i + d) + 1 by omega, S_succ l (i + d) (by omega)]; omega
def preS (l : List Int) : List Int := (List.range (l.length + 1)).map fun j => S l j
theorem preS_len (l : List Int) : (preS l).length = l.length + 1 := by simp [preS]
theorem rd_preS (l : List Int) (j : Nat) (h : j ≤ l.length) : rd (preS l) (j : Int) = S l j := by
  rw [rd_nat, List.getD_eq_getElem?_getD, preS, List.getElem?_map, List.getElem?_range (by omega)]; rfl

theorem sums_l0 (l : List Int) (hl : l.length ≤ 100000) (hb : ∀ x ∈ l, 0 ≤ x ∧ x ≤ 1048576) : ∀ d i : Nat, i + d = l.length →
    Ev (fun k => samp_sums.l0 k ((List.range (i + 1)).map fun j => S l j) l (l.length : Int) (i : Int)) (preS l) := by
  intro d
  induction d with
  | zero =>
    intro i hi
    refine Ev.step (fun k => ?_) (Ev.now _)
    simp only [samp_sums.l0]; rw [if_neg (by omega), show i = l.length by omega]; rfl
  | succ d ih =>
    intro i hi
    have e1 : wrap64 ((i : Int) + 1) = ((i + 1 : Nat) : Int) := by rw [w64 (by omega) (by omega)]; omega
    have hlen : ((List.range (i + 1)).map fun j => S l j).length = i + 1 := by simp
    have e2 : wrap64 ((((List.range (i + 1)).map fun j => S l j).length : Int) - 1) = (i : Int) := by rw [hlen, w64 (by omega) (by omega)]; omega
    have hr := getD_bound l 0 _ hb i (by omega)
    have hS := S_bound l _ hb i (by omega)
    have e3 : rd ((List.range (i + 1)).map fun j => S l j) (i : Int) = S l i := by
      rw [rd_nat, List.getD_eq_getElem?_getD, List.getElem?_map, List.getElem?_range (by omega)]; rfl
    have e4 : wrap64 (S l i + rd l (i : Int)) = S l (i + 1) := by
      rw [rd_nat, S_succ l i (by omega), w64 (by omega) (by omega)]
    refine Ev.step (fun k => ?_) (ih (i + 1) (by omega))
    simp only [samp_sums.l0]; rw [e2, if_pos (by omega), if_pos (by omega), if_pos (by omega), if_pos (by omega), if_pos (by omega), if_pos (by omega), e1, e3, e4]
    congr 1
    rw [show i + 1 + 1 = (i + 1) + 1 by rfl, List.range_succ (n := i + 1), List.map_append]; rfl
theorem sums_is (l : List Int) (hl : l.length ≤ 100000) (hb : ∀ x ∈ l, 0 ≤ x ∧ x ≤ 1048576) : Ev (fun k => samp_sums.f k l) (preS l) := by
  have h := sums_l0 l hl hb l.length 0 (by omega)
  rw [show ((List.range (0 + 1)).map fun j => S l j) = [0] by simp [S]] at h
  exact h

/-! ### Resample -/
def U (l : List Int) (up down k : Int) : Int := upto (preS l) l up down k
def res (l : List Int) (up down : Int) : List Int := samples (preS l) l up down ((l.length : Int) * up / down).toNat

theorem psOk (l : List Int) (hl : l.length ≤ 100000) (hb : ∀ x ∈ l, 0 ≤ x ∧ x ≤ 1048576) : PsOk l (preS l) := by
  refine ⟨preS_len l, fun x hx => ?_⟩
  obtain ⟨j, hj, rfl⟩ := List.mem_map.1 hx
  have hj' : j ≤ l.length := by have := List.mem_range.1 hj; omega
  have h := S_bound l _ hb j hj'
  show 0 ≤ S l j ∧ S l j ≤ _
  omega

theorem resample_is (l : List Int) (up down : Int) (h : RsOk l up down) : Ev (fun k => samp_Resample.f k l up down) (res l up down, 0) := by
  have h' := h
  obtain ⟨h1, h2, _⟩ := h'
  unfold samp_Resample.f
  simp only [if_pos h]
  refine Ev.bind (f := fun k t => if t = 0 then (samp_sums.f k l).bind fun p => if PsOk l p then some (samples p l up down ((l.length : Int) * up / down).toNat, 0) else none else none) (check_is l h1 h2) ?_
  simp only [if_true]
  refine Ev.bind (f := fun k p => if PsOk l p then some (samples p l up down ((l.length : Int) * up / down).toNat, (0 : Int)) else none) (sums_is l h1 h2) ?_
  simp only [if_pos (psOk l h1 h2)]
  exact Ev.now _

theorem res_len (l : List Int) (up down : Int) : (res l up down).length = ((l.length : Int) * up / down).toNat := samples_len _ _ _ _ _

theorem S_samples (l : List Int) (up down : Int) (n : Nat) : ∀ m : Nat, m ≤ n → S (samples (preS l) l up down n) m = U l up down (m : Int) - U l up down 0 := by
  intro m
  induction m with
  | zero => intro _; rw [S_zero]; simp
  | succ m ih =>
    intro hm
    rw [S_succ _ m (by rw [samples_len]; omega), ih (by omega)]
    have e : (samples (preS l) l up down n).getD m 0 = U l up down ((m : Int) + 1) - U l up down (m : Int) := by
      unfold samples
      rw [List.getD_eq_getElem?_getD, List.getElem?_map, List.getElem?_range (by omega)]; rfl
    rw [e]; push_cast; omega

theorem U_at (l : List Int) (up down k : Int) (j : Nat) (hu : 0 < up) (hj : j ≤ l.length) (h : k * down = (j : Int) * up) : U l up down k = S l j := by
  unfold U upto
  have e1 : k * down % up = 0 := by rw [h]; exact Int.mul_emod_left _ _
  have e2 : k * down / up = (j : Int) := by rw [h]; exact Int.mul_ediv_cancel _ (by omega)
  rw [if_pos e1, e2, rd_preS l j hj]

theorem U_le (l : List Int) (up down k hi : Int) (hb : ∀ x ∈ l, 0 ≤ x ∧ x ≤ hi) (hu : 0 < up) (hd : 0 < down) (k0 : 0 ≤ k) (k1 : k * down ≤ (l.length : Int) * up) : U l up down k ≤ l.sum := by
  have e0 : 0 ≤ k * down := Int.mul_nonneg k0 (by omega)
  obtain ⟨j, hj⟩ : ∃ j : Nat, k * down / up = (j : Int) := ⟨(k * down / up).toNat, by have := Int.ediv_nonneg e0 (show 0 ≤ up by omega); omega⟩
  have j1 : k * down / up ≤ l.length := Int.ediv_le_of_le_mul (by omega) k1
  have hjl : j ≤ l.length := by omega
  rw [← S_all]
  unfold U upto
  rw [hj, rd_preS l j hjl]
  have hm := S_mono l hi hb (l.length - j) j (by omega)
  rw [show j + (l.length - j) = l.length by omega] at hm
  split
  · exact hm
  · rename_i hz
    have j2 : j < l.length := by
      rcases Nat.lt_or_eq_of_le hjl with h | h
      · exact h
      · exfalso
        have hm := Int.mul_ediv_add_emod (k * down) up
        have hm0 := Int.emod_nonneg (k * down) (show up ≠ 0 by omega)
        rw [hj, h, Int.mul_comm up] at hm
        omega
    have hm2 := S_mono l hi hb (l.length - (j + 1)) (j + 1) (by omega)
    rw [show j + 1 + (l.length - (j + 1)) = l.length by omega, S_succ l j j2] at hm2
    have hg := getD_bound l 0 hi hb j j2
    have m0 : 0 ≤ k * down % up := Int.emod_nonneg _ (by omega)
    have m1 : k * down % up < up := Int.emod_lt_of_pos _ hu
    rw [rd_nat]
    have q : (k * down % up) * l.getD j 0 / up ≤ l.getD j 0 := by
      refine Int.ediv_le_of_le_mul hu ?_
      rw [Int.mul_comm (l.getD j 0)]
      exact Int.mul_le_mul_of_nonneg_right (by omega) hg.1
    omega

/-! ### Equal, sum -/
theorem eq_l0 (l : List Int) (hn : l.length ≤ 1000000) : ∀ d i : Nat, i + d = l.length → Ev (fun k => slices_Equal_int_int.l0 k l l (l.length : Int) (i : Int)) true := by
  intro d
  induction d with
  | zero =>
    intro i hi
    refine Ev.step (fun k => ?_) (Ev.now true)
    simp only [slices_Equal_int_int.l0]; rw [if_neg (by omega)]
  | succ d ih =>
    intro i hi
    have e1 : wrap64 ((i : Int) + 1) = ((i + 1 : Nat) : Int) := by rw [w64 (by omega) (by omega)]; omega
    refine Ev.step (fun k => ?_) (ih (i + 1) (by omega))
    simp only [slices_Equal_int_int.l0]; rw [if_pos (by omega), if_pos (by omega), if_pos (by omega), if_pos (by omega), if_pos trivial, e1]
theorem eq_is (l : List Int) (hn : l.length ≤ 1000000) : Ev (fun k => slices_Equal_int_int.f k l l) true :=
  Ev.congr (fun k => by unfold slices_Equal_int_int.f; rw [if_pos rfl]; rfl) (eq_l0 l hn l.length 0 (by omega))

theorem sum_l0 (l : List Int) (hl : l.length ≤ 100000) (hb : ∀ j : Nat, j ≤ l.length → -1000000000000000 ≤ S l j ∧ S l j ≤ 1000000000000000) : ∀ d i : Nat, i + d = l.length → Ev (fun k => bakekeep3_sum.l0 k (S l i) l (l.length : Int) (i : Int)) l.sum := by
  intro d
  induction d with
  | zero =>
    intro i hi
    refine Ev.step (fun k => ?_) (Ev.now _)
    simp only [bakekeep3_sum.l0]; rw [if_neg (by omega), show i = l.length by omega, S_all]
  | succ d ih =>
    intro i hi
    have e1 : wrap64 ((i : Int) + 1) = ((i + 1 : Nat) : Int) := by rw [w64 (by omega) (by omega)]; omega
    have hS := hb (i + 1) (by omega)
    have e4 : wrap64 (S l i + rd l (i : Int)) = S l (i + 1) := by
      rw [rd_nat, ← S_succ l i (by omega), w64 (by omega) (by omega)]
    refine Ev.step (fun k => ?_) (ih (i + 1) (by omega))
    simp only [bakekeep3_sum.l0]; rw [if_pos (by omega), if_pos (by omega), if_pos (by omega), e4, e1]
theorem sum_is (l : List Int) (hl : l.length ≤ 100000) (hb : ∀ j : Nat, j ≤ l.length → -1000000000000000 ≤ S l j ∧ S l j ≤ 1000000000000000) : Ev (fun k => bakekeep3_sum.f k l) l.sum := by
  have h := sum_l0 l hl hb l.length 0 (by omega)
  rw [S_zero] at h; exact h
theorem sum_pos (l : List Int) (hl : l.length ≤ 100000) (hb : ∀ x ∈ l, 0 ≤ x ∧ x ≤ 1048576) : Ev (fun k => bakekeep3_sum.f k l) l.sum :=
  sum_is l hl (fun j hj => by have := S_bound l _ hb j hj; omega)

theorem heard_is : Ev (fun k => bakekeep3_heard.f k) true := Ev.of bakekeep3_heard.mono (k := 20) (by decide +kernel)

/-- The levels back from up and down by the same. -/
theorem ext_S (l m : List Int) (hlen : l.length = m.length) (h : ∀ j : Nat, j ≤ l.length → S l j = S m j) : l = m := by
  apply List.ext_getElem hlen
  intro i h1 h2
  have a1 := S_succ l i h1
  have a2 := S_succ m i h2
  have b1 := h i (by omega)
  have b2 := h (i + 1) (by omega)
  have e1 : l.getD i 0 = l[i] := by simp [List.getD_eq_getElem?_getD, List.getElem?_eq_getElem h1]
  have e2 : m.getD i 0 = m[i] := by simp [List.getD_eq_getElem?_getD, List.getElem?_eq_getElem h2]
  rw [← e1, ← e2]; omega

theorem U_zero (l : List Int) (up down : Int) (hu : 0 < up) : U l up down 0 = 0 := by
  rw [U_at l up down 0 0 hu (by omega) (by simp), S_zero]

end Go.Proofs.Ytijfinimlnedpaa.SampPure
