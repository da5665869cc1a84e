/- slices.Sort and slices.Compact of a row of the call's own: the shelf's contracts in the words of rows. Own text of this claim. -/
import Derived.Test.YtgagbfaodeakaabMnBase
import Derived.Test.YtgagbfaodeakaabMnShelf
namespace Go.Proofs.Ytgagbfaodeakaab.PMiniNeeds
open Go.RowKit Go.Proofs.YtgagbfaodeakaabW.PrintWords Go.Proofs.YtgagbfaodeakaabW.PrintLast Go.Proofs.YtgagbfaodeakaabW.PrintMore
set_option linter.unusedVariables false
set_option linter.unusedSimpArgs false

open Go.Sort in
theorem put_heap (W : World) (q g : Nat) (d : List Int) (os : Array Obj) (cur : Array Value) (h : W.heap[g]? = some (.cells cur 3 (0, 0))) :
    (grow (putRow (Value.int .i64) (Go.Sort.ahead W q) g 0 d.toArray) os).heap[g]? = some (.cells (putCells (Value.int .i64) 0 d.toArray cur) 3 (0, 0)) := by
  have hg : g < W.heap.size := blk_lt h
  have e : (grow (putRow (Value.int .i64) (Go.Sort.ahead W q) g 0 d.toArray) os).heap = W.heap.modify g (onCells (putCells (Value.int .i64) 0 d.toArray)) ++ os := rfl
  rw [e, Array.getElem?_append_left (by simpa using hg), Array.getElem?_modify, if_pos rfl, h]
  rfl
open Go.Sort in
theorem put_kept (W : World) (q g : Nat) (d : List Int) (os : Array Obj) : Kept W (grow (putRow (Value.int .i64) (Go.Sort.ahead W q) g 0 d.toArray) os) (fun k => k = g) := by
  have e : (grow (putRow (Value.int .i64) (Go.Sort.ahead W q) g 0 d.toArray) os).heap = W.heap.modify g (onCells (putCells (Value.int .i64) 0 d.toArray)) ++ os := rfl
  refine ⟨by rw [e]; simp, fun i hi hn => ?_, ⟨rfl, rfl, rfl⟩⟩
  rw [e, Array.getElem?_append_left (by simpa using hi), Array.getElem?_modify, if_neg (fun h => hn h.symm)]
open Go.Sort in
theorem put_take (d : List Int) (cur : Array Value) (h : d.length ≤ cur.size) : (putCells (Value.int .i64) 0 d.toArray cur).toList.take d.length = d.map (Value.int .i64) := by
  apply List.ext_getElem?
  intro i
  rw [List.getElem?_take, List.getElem?_map]
  by_cases hi : i < d.length
  · rw [if_pos hi, Array.getElem?_toList]
    unfold putCells
    rw [Array.getElem?_mapIdx, Array.getElem?_eq_getElem (by omega), List.getElem?_eq_getElem hi]
    simp [hi]
  · rw [if_neg hi, List.getElem?_eq_none (by omega)]; rfl
open Go.Sort in
theorem put_own {W : World} {base g n cap : Nat} {ok : Nat → Prop} {xs d : List Int} (h : Kd.R (Kd.int .i64) 3 W base ok (.slice (some ⟨g, 0, none⟩) n cap) xs) (hd : d.length = xs.length) (q : Nat) (os : Array Obj) :
    Kd.R (Kd.int .i64) 3 (grow (putRow (Value.int .i64) (Go.Sort.ahead W q) g 0 d.toArray) os) base ok (.slice (some ⟨g, 0, none⟩) d.length cap) d := by
  have hn := (Kd.R_reads' h).1
  obtain ⟨hok, inner, ⟨hl, hor⟩, hr⟩ := h
  refine Kd.R_of_own (enc := Value.int .i64) (h1 := fun _ => rfl) ⟨by simp [encs], .inr ?_⟩ hok
  rcases hor with ⟨e, _⟩ | ⟨g', cap', cur, e, hb, hh, h1, h2, h3, h4⟩
  · cases e
  · injection e with e1 e2 e3
    injection e1 with e1
    injection e1 with e1
    subst e1 e3
    have h3' : cur.size = cap := by rw [h3]; exact Nat.mul_one _
    exact ⟨g, cap, _, rfl, hb, put_heap W q g d os cur hh, by omega, h2, by unfold putCells; rw [Array.size_mapIdx]; exact h3, by rw [Nat.mul_one]; exact put_take d cur (by omega)⟩
theorem own_holds {W : World} {base g n cap : Nat} {ok : Nat → Prop} {xs : List Int} (h : Kd.R (Kd.int .i64) 3 W base ok (.slice (some ⟨g, 0, none⟩) n cap) xs) : Go.Sort.Holds (Value.int .i64) W g 0 xs.toArray := by
  intro j hj
  have hj' : j < xs.length := by simpa using hj
  have hn := (Kd.R_reads' h).1
  obtain ⟨ad, e, hc⟩ := Kd.at_int (Kd.R_reads' h).2.2 (j : Int) (by omega) (by omega)
  obtain rfl : (⟨g, 0, none⟩ : Addr) = ad := by injection e
  rw [Int.toNat_natCast, add_plain] at hc
  refine ⟨?_, ?_⟩
  · rw [Nat.zero_add, hc]
    unfold rd
    rw [Int.toNat_natCast, List.getD_eq_getElem?_getD, List.getElem?_eq_getElem hj']
    simp [hj']
  · obtain ⟨cells, hb⟩ := Kd.R_typed h g (by simp [Value.ownBlock])
    exact blk_frozen hb _
/-- The numbers of a row, sorted and each once. -/
theorem sort_calls (v : Value) (xs : List Int) (base : Nat) (ok : Nat → Prop) (w : World) (h : Kd.R (Kd.int .i64) 3 w base ok v xs) (hl : xs.length ≤ 1000) :
    Calls Try.prog 5 #[v] w fun e w' => e = .returned (.tuple #[]) ∧ ∃ d : List Int, d.length = xs.length ∧ d = xs.mergeSort (fun x y => decide (x ≤ y)) ∧ Kd.R (Kd.int .i64) 3 w' base ok v d ∧ Kept w w' (fun k => some k = v.ownBlock) := by
  by_cases hp : 0 < xs.length
  · obtain ⟨g, cap, rfl, h1, h2, h3⟩ := Kd.R_form h hp
    refine (Try.slices_Sort_int g 0 cap xs w (own_holds h) h2 (by omega)).mono ?_
    rintro e w' ⟨rfl, q, os, rfl⟩
    have hd : (xs.mergeSort fun x y => decide (x ≤ y)).length = xs.length := List.length_mergeSort _
    refine ⟨rfl, _, hd, rfl, ?_, (put_kept w q g _ os).mono (fun k hk => by subst hk; rfl)⟩
    have := put_own h hd q os
    rwa [hd] at this
  · obtain rfl : xs = [] := List.eq_nil_of_length_eq_zero (by omega)
    obtain ⟨A, c, rfl⟩ := Kd.R_slice h
    refine (Try.slices_Sort_int_none A c w).mono ?_
    rintro e w' ⟨rfl, rfl⟩
    exact ⟨rfl, [], rfl, by simp, h, Kept.refl _ _⟩
theorem compact_calls (v : Value) (xs : List Int) (base : Nat) (ok : Nat → Prop) (w : World) (h : Kd.R (Kd.int .i64) 3 w base ok v xs) (hl : xs.length ≤ 1000) :
    Calls Try.prog 6 #[v] w fun e w' => ∃ v', e = .returned v' ∧ Kd.R (Kd.int .i64) 3 w' base ok v' (Go.Lib.compact xs) ∧ v'.ownBlock = v.ownBlock ∧ Kept w w' (fun k => some k = v.ownBlock) := by
  by_cases hp : 0 < xs.length
  · obtain ⟨g, cap, rfl, h1, h2, h3⟩ := Kd.R_form h hp
    refine (Try.slices_Compact_int g 0 cap xs w (own_holds h) (by omega) (Kd.R_reads' h).2.1).mono ?_
    rintro e w' ⟨rfl, q, rfl⟩
    have hcl : (Go.Lib.compact xs).length ≤ xs.length := by
      unfold Go.Lib.compact Go.Lib.compactUpTo
      rw [List.length_map]
      exact Nat.le_trans (List.length_filter_le _ _) (by simp)
    have hd : (Go.Lib.compact xs ++ List.replicate (xs.length - (Go.Lib.compact xs).length) 0).length = xs.length := by rw [List.length_append, List.length_replicate]; omega
    have h4 := put_own h hd q #[]
    have h5 := put_kept w q g (Go.Lib.compact xs ++ List.replicate (xs.length - (Go.Lib.compact xs).length) 0) #[]
    rw [Go.Sort.grow_empty] at h4 h5
    refine ⟨_, rfl, ?_, rfl, h5.mono (fun k hk => by subst hk; rfl)⟩
    have h6 := Kd.R_take (m := (Go.Lib.compact xs).length) h4 (by rw [hd]; exact hcl)
    rwa [List.take_left' rfl] at h6
  · obtain rfl : xs = [] := List.eq_nil_of_length_eq_zero (by omega)
    obtain ⟨A, c, rfl⟩ := Kd.R_slice h
    refine (Try.slices_Compact_int_empty A c w).mono ?_
    rintro e w' ⟨rfl, rfl⟩
    exact ⟨_, rfl, h, rfl, Kept.refl _ _⟩
end Go.Proofs.Ytgagbfaodeakaab.PMiniNeeds
