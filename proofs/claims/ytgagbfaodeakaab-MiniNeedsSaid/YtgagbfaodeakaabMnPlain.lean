/- Making smaller a list that is bad because of some elements leaves just these: plain Lean. Own text of this claim. -/
import Derived.Test.YtgagbfaodeakaabMnMake
import Derived.Test.YtgagbfaodeakaabMnSort
namespace Go.Proofs.Ytgagbfaodeakaab.PMiniNeeds
open Go.RowKit Go.Proofs.YtgagbfaodeakaabW.PrintWords Go.Proofs.YtgagbfaodeakaabW.PrintLast Go.Proofs.YtgagbfaodeakaabW.PrintMore
set_option linter.unusedVariables false
set_option linter.unusedSimpArgs false
theorem has_iff {need u : List Int} : has need u = true ↔ ∀ k ∈ need, k ∈ u := by
  unfold has
  rw [List.all_eq_true]
  exact ⟨fun h k hk => of_decide_eq_true (h k hk), fun h k hk => decide_eq_true (h k hk)⟩
/-- Two lists in order with the same elements are the same. -/
theorem strict_ext : ∀ (l m : List Int), l.Pairwise (· < ·) → m.Pairwise (· < ·) → (∀ x, x ∈ l ↔ x ∈ m) → l = m
  | [], [], _, _, _ => rfl
  | [], b :: m, _, _, h => by have := (h b).2 (by simp); cases this
  | a :: l, [], _, _, h => by have := (h a).1 (by simp); cases this
  | a :: l, b :: m, hl, hm, h => by
    obtain ⟨h1, h2⟩ := List.pairwise_cons.1 hl
    obtain ⟨h3, h4⟩ := List.pairwise_cons.1 hm
    have hab : a = b := by
      have ha := (h a).1 (by simp)
      have hb := (h b).2 (by simp)
      rcases List.mem_cons.1 ha with e | ha
      · exact e
      · rcases List.mem_cons.1 hb with e | hb
        · exact e.symm
        · have := h1 b hb; have := h3 a ha; omega
    subst hab
    rw [strict_ext l m h2 h4 (fun x => ?_)]
    constructor
    · intro hx
      rcases List.mem_cons.1 ((h x).1 (by simp [hx])) with e | h5
      · have := h1 x hx; omega
      · exact h5
    · intro hx
      rcases List.mem_cons.1 ((h x).2 (by simp [hx])) with e | h5
      · have := h3 x hx; omega
      · exact h5
theorem nodup_strict {l : List Int} (h : l.Pairwise (· < ·)) : l.Nodup := h.imp (fun h => by omega)
/-- What is left are just the elements that are needed. -/
theorem left_is {need out l0 : List Int} (hn : need.Pairwise (· < ·)) (h0 : l0.Pairwise (· < ·)) (hs : List.Sublist out l0) (hP : has need out = true) (hL : ∀ i, i < out.length → has need (out.eraseIdx i) = false) : out = need := by
  have ho := h0.sublist hs
  refine strict_ext _ _ ho hn (fun x => ⟨fun hx => ?_, fun hx => has_iff.1 hP x hx⟩)
  obtain ⟨i, hi, rfl⟩ := List.getElem_of_mem hx
  apply Classical.byContradiction
  intro hno
  have h1 := hL i hi
  rw [← Bool.not_eq_true, has_iff] at h1
  refine h1 (fun k hk => ?_)
  have h2 := has_iff.1 hP k hk
  rw [List.mem_eraseIdx_iff_getElem]
  obtain ⟨j, hj, e⟩ := List.getElem_of_mem h2
  exact ⟨j, hj, fun hij => hno (by subst hij; rw [e]; exact hk), e⟩
section
variable {zs : List Int}
theorem zs_get {j : Nat} (hj : j < zs.length) : zs.toArray[j]! = zs[j] := by simp [hj]
theorem compact_mem (x : Int) : x ∈ Go.Lib.compact zs ↔ x ∈ zs := by
  unfold Go.Lib.compact Go.Lib.compactUpTo
  constructor
  · intro h
    obtain ⟨j, hj, rfl⟩ := List.mem_map.1 h
    have hj := List.mem_range.1 (List.mem_filter.1 hj).1
    rw [zs_get hj]
    exact List.getElem_mem hj
  · intro h
    obtain ⟨j, hj, rfl⟩ := List.getElem_of_mem h
    induction j using Nat.strongRecOn with
    | ind j ih =>
      by_cases hk : Go.Lib.keeps zs.toArray j = true
      · exact List.mem_map.2 ⟨j, List.mem_filter.2 ⟨List.mem_range.2 hj, hk⟩, zs_get hj⟩
      · have hp : 0 < j := by
          rcases Nat.eq_zero_or_pos j with e | e
          · subst e; exact absurd (Go.Lib.keeps_lt_one _ 0 (by omega)) hk
          · exact e
        have he : zs[j] = zs[j - 1] := by
          apply Classical.byContradiction
          intro hne
          refine hk (Go.Lib.keeps_pos ?_)
          rw [zs_get hj, zs_get (by omega)]
          exact hne
        have := ih (j - 1) (by omega) (by omega) (List.getElem_mem _)
        rw [he]; exact this
theorem compact_strict (hs : zs.Pairwise (· ≤ ·)) : (Go.Lib.compact zs).Pairwise (· < ·) := by
  unfold Go.Lib.compact Go.Lib.compactUpTo
  rw [List.pairwise_map]
  refine List.Pairwise.imp_of_mem (fun {a b} ha hb hab => ?_) (List.Pairwise.filter _ List.pairwise_lt_range)
  have ha' := List.mem_range.1 (List.mem_filter.1 ha).1
  have hb' := List.mem_range.1 (List.mem_filter.1 hb).1
  rw [zs_get ha', zs_get hb']
  have hle : ∀ i j (hi : i < zs.length) (hj : j < zs.length), i ≤ j → zs[i] ≤ zs[j] := fun i j hi hj hij => by
    rcases Nat.eq_or_lt_of_le hij with e | e
    · subst e; exact Int.le_refl _
    · exact List.pairwise_iff_getElem.1 hs i j hi hj e
  have h1 := hle a (b - 1) ha' (by omega) (by omega)
  have h2 := hle (b - 1) b (by omega) hb' (by omega)
  have h3 : zs[b] ≠ zs[b - 1] := fun e => by
    have hk := (List.mem_filter.1 hb).2
    rw [Go.Lib.keeps_neg (by omega) (by rw [zs_get hb', zs_get (by omega)]; exact e)] at hk
    cases hk
  omega
end
theorem sorted_merge (xs : List Int) : (xs.mergeSort fun x y => decide (x ≤ y)).Pairwise (· ≤ ·) := by
  have := List.pairwise_mergeSort (le := fun x y : Int => decide (x ≤ y)) (fun a b c h1 h2 => by simp at *; omega) (fun a b => by simp; omega) xs
  exact this.imp (fun h => by simpa using h)
/-- The needed elements, in order, each once. -/
def once (xs : List Int) : List Int := Go.Lib.compact (xs.mergeSort fun x y => decide (x ≤ y))
theorem once_strict (xs : List Int) : (once xs).Pairwise (· < ·) := compact_strict (sorted_merge xs)
theorem once_mem (xs : List Int) (x : Int) : x ∈ once xs ↔ x ∈ xs := (compact_mem x).trans List.mem_mergeSort
theorem once_len (xs : List Int) : (once xs).length ≤ xs.length := by
  have h1 : (Go.Lib.compact (xs.mergeSort fun x y => decide (x ≤ y))).length ≤ (xs.mergeSort fun x y => decide (x ≤ y)).length := by
    unfold Go.Lib.compact Go.Lib.compactUpTo
    rw [List.length_map]
    exact Nat.le_trans (List.length_filter_le _ _) (by simp)
  rwa [List.length_mergeSort] at h1
def upto (n : Nat) : List Int := (List.range n).map fun i : Nat => (i : Int)
theorem upto_strict (n : Nat) : (upto n).Pairwise (· < ·) := by
  unfold upto
  rw [List.pairwise_map]
  exact List.pairwise_lt_range.imp (fun h => by omega)
theorem upto_mem {n : Nat} {x : Int} : x ∈ upto n ↔ 0 ≤ x ∧ x < n := by
  unfold upto
  rw [List.mem_map]
  constructor
  · rintro ⟨a, ha, rfl⟩
    have := List.mem_range.1 ha
    omega
  · rintro ⟨h1, h2⟩
    exact ⟨x.toNat, List.mem_range.2 (by omega), by omega⟩
end Go.Proofs.Ytgagbfaodeakaab.PMiniNeeds
