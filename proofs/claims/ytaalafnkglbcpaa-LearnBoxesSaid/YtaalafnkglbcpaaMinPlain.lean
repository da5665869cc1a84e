/- The least table: the plain law. It gives the same outputs, and is its own least one. -/
import Derived.Test.YtaalafnkglbcpaaMinInv
namespace Go.Proofs.Ytaalafnkglbcpaa.PL
open Go.RowKit
set_option linter.unusedVariables false

noncomputable def img (t : Tab) (reps : List Nat) (r : S77) : S77 := ⟨r.f0, (idxB t reps r.f1.toNat : Nat)⟩
theorem getD_of_lt {α : Type} (l : List α) (z : α) {i : Nat} (h : i < l.length) : l.getD i z = l[i] := by rw [List.getD_eq_getElem?_getD, List.getElem?_eq_getElem h]; rfl
theorem pre_getD {l m : List Nat} (h : l <+: m) {i : Nat} (hi : i < l.length) : m.getD i 0 = l.getD i 0 := by
  obtain ⟨e, rfl⟩ := h
  rw [List.getD_eq_getElem?_getD, List.getD_eq_getElem?_getD, List.getElem?_append_left hi]
theorem idxB_pre {t : Tab} {reps reps' : List Nat} (hr : Rchd t reps') (hp : reps <+: reps') {q : Nat} (h : idxB t reps q < reps.length) : idxB t reps' q = idxB t reps q :=
  idxB_eq hr (Nat.lt_of_lt_of_le h hp.length_le) (by rw [pre_getD hp h]; exact idxB_lt h)

theorem row_inv (t : Tab) : ∀ (rs : List S77) (reps : List Nat) (row : List S77), Rchd t reps → (∀ r ∈ rs, r.f1.toNat < t.length) →
    reps <+: (minRow t rs reps row).1 ∧ Rchd t (minRow t rs reps row).1 ∧ (minRow t rs reps row).2 = row ++ rs.map (img t (minRow t rs reps row).1) ∧ ∀ r ∈ rs, idxB t (minRow t rs reps row).1 r.f1.toNat < (minRow t rs reps row).1.length := by
  intro rs
  induction rs with
  | nil => intro reps row hr _; exact ⟨List.prefix_refl _, hr, by simp [minRow], fun _ h => by cases h⟩
  | cons r rs ih =>
    intro reps row hr hlt
    have hq := hlt r (by simp)
    by_cases hf : idxB t reps r.f1.toNat < reps.length
    · have e : minRow t (r :: rs) reps row = minRow t rs reps (row ++ [⟨r.f0, (idxB t reps r.f1.toNat : Nat)⟩]) := by rw [minRow, if_pos hf]
      rw [e]
      obtain ⟨a, b, c, d⟩ := ih reps (row ++ [⟨r.f0, (idxB t reps r.f1.toNat : Nat)⟩]) hr (fun x hx => hlt x (by simp [hx]))
      have k := idxB_pre b a hf
      refine ⟨a, b, ?_, ?_⟩
      · rw [c, List.map_cons, List.append_assoc]
        show _ = row ++ (img t _ r :: _)
        unfold img
        rw [k]; rfl
      · intro x hx
        rcases List.mem_cons.1 hx with rfl | hx
        · rw [k]; exact Nat.lt_of_lt_of_le hf a.length_le
        · exact d x hx
    · have hn := idxB_not hf
      have e : minRow t (r :: rs) reps row = minRow t rs (reps ++ [r.f1.toNat]) (row ++ [⟨r.f0, (idxB t reps r.f1.toNat : Nat)⟩]) := by rw [minRow, if_neg hf]
      rw [e]
      have hr1 := hr.add hq hn.2
      obtain ⟨a, b, c, d⟩ := ih (reps ++ [r.f1.toNat]) (row ++ [⟨r.f0, (idxB t reps r.f1.toNat : Nat)⟩]) hr1 (fun x hx => hlt x (by simp [hx]))
      have hk : idxB t (reps ++ [r.f1.toNat]) r.f1.toNat = reps.length := idxB_eq hr1 (by simp) (by rw [List.getD_eq_getElem?_getD]; simp; exact Bis.refl _ _)
      have k := idxB_pre b a (by rw [hk]; simp)
      rw [hk] at k
      refine ⟨(List.prefix_append _ _).trans a, b, ?_, ?_⟩
      · rw [c, List.map_cons, List.append_assoc]
        show _ = row ++ (img t _ r :: _)
        unfold img
        rw [k, hn.1]; rfl
      · intro x hx
        rcases List.mem_cons.1 hx with rfl | hx
        · rw [k]; have := a.length_le; simp at this; omega
        · exact d x hx

/-- All that will be reached. -/
noncomputable def minEnd (t : Tab) : Nat → Nat → List Nat → List Nat
  | 0, _, reps => reps
  | n + 1, i, reps => if i < reps.length then minEnd t n (i + 1) (minRow t (roww t (reps.getD i 0)) reps []).1 else reps

structure Sofar (t : Tab) (i : Nat) (reps : List Nat) (out : Tab) : Prop where
  len : out.length = i
  le : i ≤ reps.length
  row : ∀ k, k < i → out.getD k [] = (roww t (reps.getD k 0)).map (img t reps)
  cls : ∀ k, k < i → ∀ r ∈ roww t (reps.getD k 0), idxB t reps r.f1.toNat < reps.length

theorem TabR.tgt {t : Tab} (h : TabR t) {s : Nat} (hs : s < t.length) : ∀ r ∈ roww t s, r.f1.toNat < t.length := fun r hr => by
  have := h.ok _ (roww_mem hs) r hr
  omega
theorem reps_lt {t : Tab} {reps : List Nat} (h : Rchd t reps) {i : Nat} (hi : i < reps.length) : reps.getD i 0 < t.length := by
  rw [getD_of_lt _ _ hi]; exact h.lt _ (List.getElem_mem hi)

theorem Sofar.step {t : Tab} (ht : TabR t) {i : Nat} {reps : List Nat} {out : Tab} (hr : Rchd t reps) (h : Sofar t i reps out) (hi : i < reps.length) :
    reps <+: (minRow t (roww t (reps.getD i 0)) reps []).1 ∧ Rchd t (minRow t (roww t (reps.getD i 0)) reps []).1 ∧
      Sofar t (i + 1) (minRow t (roww t (reps.getD i 0)) reps []).1 (out ++ [(minRow t (roww t (reps.getD i 0)) reps []).2]) := by
  obtain ⟨a, b, c, d⟩ := row_inv t (roww t (reps.getD i 0)) reps [] hr (ht.tgt (reps_lt hr hi))
  have al := a.length_le
  refine ⟨a, b, ⟨by simp [h.len], by omega, fun k hk => ?_, fun k hk => ?_⟩⟩
  · rw [pre_getD a (by omega)]
    by_cases e : k = i
    · subst e
      rw [List.getD_eq_getElem?_getD, List.getElem?_append_right (by rw [h.len]; exact Nat.le_refl _), h.len]
      simpa using c
    · rw [List.getD_eq_getElem?_getD, List.getElem?_append_left (by rw [h.len]; omega), ← List.getD_eq_getElem?_getD, h.row k (by omega)]
      apply List.map_congr_left
      intro r hr'
      unfold img
      rw [idxB_pre b a (h.cls k (by omega) r hr')]
  · rw [pre_getD a (by omega)]
    intro r hr'
    by_cases e : k = i
    · subst e; exact d r hr'
    · have := h.cls k (by omega) r hr'
      rw [idxB_pre b a this]
      omega

theorem go_inv {t : Tab} (ht : TabR t) : ∀ (n i : Nat) (reps : List Nat) (out : Tab), Rchd t reps → Sofar t i reps out → t.length < n + i →
    reps <+: minEnd t n i reps ∧ Rchd t (minEnd t n i reps) ∧ Sofar t (minEnd t n i reps).length (minEnd t n i reps) (minGo t n i reps out) := by
  intro n
  induction n with
  | zero => intro i reps out hr h hn; have := hr.le; have := h.le; omega
  | succ n ih =>
    intro i reps out hr h hn
    by_cases hi : i < reps.length
    · simp only [minEnd, minGo, if_pos hi]
      obtain ⟨a, b, c⟩ := h.step ht hr hi
      obtain ⟨d, e, f⟩ := ih (i + 1) _ _ b c (by omega)
      exact ⟨a.trans d, e, f⟩
    · simp only [minEnd, minGo, if_neg hi]
      have : i = reps.length := by have := h.le; omega
      subst this
      exact ⟨List.prefix_refl _, hr, h⟩

/-! ### the least table, told apart -/
noncomputable def fin (t : Tab) : List Nat := minEnd t (t.length + 1) 0 [0]
theorem Sofar.start (t : Tab) : Sofar t 0 [0] [] := ⟨rfl, by simp, fun k hk => by omega, fun k hk => by omega⟩
theorem fin_is {t : Tab} (ht : TabR t) : [0] <+: fin t ∧ Rchd t (fin t) ∧ Sofar t (fin t).length (fin t) (minRows t) :=
  go_inv ht (t.length + 1) 0 [0] [] (Rchd.one ht.n1) (Sofar.start t) (by omega)

section
variable {t : Tab} (ht : TabR t)
include ht
theorem min_len : (minRows t).length = (fin t).length := (fin_is ht).2.2.len
theorem fin_pos : 0 < (fin t).length := by have := (fin_is ht).1.length_le; simp at this; omega
theorem fin_zero : (fin t).getD 0 0 = 0 := by rw [pre_getD (fin_is ht).1 (by simp)]; rfl
theorem fin_len_le : (fin t).length ≤ t.length := (fin_is ht).2.1.le
theorem min_row {x : Nat} (hx : x < (fin t).length) : roww (minRows t) x = (roww t ((fin t).getD x 0)).map (img t (fin t)) := (fin_is ht).2.2.row x hx
theorem min_cel {x a : Nat} (hx : x < (fin t).length) (ha : a < (roww t ((fin t).getD x 0)).length) : cel (minRows t) x a = img t (fin t) (cel t ((fin t).getD x 0) a) := by
  unfold cel
  rw [min_row ht hx, getD_of_lt _ _ (by rw [List.length_map]; exact ha), getD_of_lt _ _ ha, List.getElem_map]
theorem min_to {x a : Nat} (hx : x < (fin t).length) (ha : a < (roww t ((fin t).getD x 0)).length) : (cel (minRows t) x a).f1.toNat = idxB t (fin t) (cel t ((fin t).getD x 0) a).f1.toNat ∧ (cel (minRows t) x a).f1.toNat < (fin t).length ∧ Bis t ((fin t).getD (cel (minRows t) x a).f1.toNat 0) (cel t ((fin t).getD x 0) a).f1.toNat := by
  have h1 := (fin_is ht).2.2.cls x hx _ (cel_mem ha)
  have h2 : (cel (minRows t) x a).f1.toNat = idxB t (fin t) (cel t ((fin t).getD x 0) a).f1.toNat := by rw [min_cel ht hx ha]; unfold img; simp
  rw [h2]
  exact ⟨rfl, h1, idxB_lt h1⟩
theorem min_out {x a : Nat} (hx : x < (fin t).length) (ha : a < (roww t ((fin t).getD x 0)).length) : (cel (minRows t) x a).f0 = (cel t ((fin t).getD x 0) a).f0 := by rw [min_cel ht hx ha]; rfl
theorem min_rlen {x : Nat} (hx : x < (fin t).length) : (roww (minRows t) x).length = (roww t ((fin t).getD x 0)).length := by rw [min_row ht hx, List.length_map]

theorem bis_min {x y : Nat} (hx : x < (fin t).length) (hy : y < (fin t).length) (h : Bis (minRows t) x y) : x = y := by
  have hb : Bis t ((fin t).getD x 0) ((fin t).getD y 0) := by
    refine ⟨fun a b => ∃ x y, x < (fin t).length ∧ y < (fin t).length ∧ Bis (minRows t) x y ∧ Bis t a ((fin t).getD x 0) ∧ Bis t b ((fin t).getD y 0), ⟨x, y, hx, hy, h, Bis.refl _ _, Bis.refl _ _⟩, ?_⟩
    rintro a b ⟨x, y, hx, hy, hxy, ha, hb⟩
    have l1 := ha.like
    have l2 := hb.like
    have l3 := hxy.like
    rw [Like, min_rlen ht hx, min_rlen ht hy] at l3
    refine ⟨by rw [l1.1, l3.1, l2.1], fun i hi => ?_⟩
    have i1 : i < (roww t ((fin t).getD x 0)).length := by rw [← l1.1]; exact hi
    have i2 : i < (roww t ((fin t).getD y 0)).length := by rw [← l3.1]; exact i1
    have i3 : i < (roww t b).length := by rw [l2.1]; exact i2
    have t1 := min_to ht hx i1
    have t2 := min_to ht hy i2
    refine ⟨by rw [(l1.2 i hi).1, (l2.2 i i3).1, ← min_out ht hx i1, ← min_out ht hy i2, (l3.2 i i1).1], _, _, t1.2.1, t2.2.1, (l3.2 i i1).2, (l1.2 i hi).2.trans t1.2.2.symm, (l2.2 i i3).2.trans t2.2.2.symm⟩
  rw [getD_of_lt _ _ hx, getD_of_lt _ _ hy] at hb
  exact (fin_is ht).2.1.apart x y hx hy hb

theorem min_tabR : TabR (minRows t) := by
  have hl := min_len ht
  have hp := fin_pos ht
  have hle := fin_len_le ht
  have key : ∀ row ∈ minRows t, ∃ x, x < (fin t).length ∧ row = roww (minRows t) x := fun row hr => by
    obtain ⟨x, hx, e⟩ := List.getElem_of_mem hr
    exact ⟨x, by omega, by unfold roww; rw [getD_of_lt _ _ hx, e]⟩
  refine ⟨by omega, by have := ht.n2; omega, ?_, ?_⟩
  · obtain ⟨m, h1, h2⟩ := ht.m
    refine ⟨m, h1, fun row hr => ?_⟩
    obtain ⟨x, hx, rfl⟩ := key row hr
    rw [min_rlen ht hx]
    exact h2 _ (roww_mem (reps_lt (fin_is ht).2.1 hx))
  · intro row hr r hr'
    obtain ⟨x, hx, rfl⟩ := key row hr
    obtain ⟨a, ha, rfl⟩ := List.getElem_of_mem hr'
    have ha' : a < (roww t ((fin t).getD x 0)).length := by rw [← min_rlen ht hx]; exact ha
    have e : (roww (minRows t) x)[a] = cel (minRows t) x a := by unfold cel; rw [getD_of_lt _ _ ha]
    rw [e]
    have h1 := ht.cel (reps_lt (fin_is ht).2.1 hx) ha'
    have h2 := min_to ht hx ha'
    rw [min_out ht hx ha']
    have h3 : 0 ≤ (cel (minRows t) x a).f1 := by rw [min_cel ht hx ha']; unfold img; simp
    exact ⟨h1.1, h1.2.1, h3, by omega⟩

theorem idx_range (n j : Nat) (hn : n ≤ (fin t).length) (hj : j < (fin t).length) : idxB (minRows t) (List.range n) j = if j < n then j else n := by
  by_cases h : idxB (minRows t) (List.range n) j < (List.range n).length
  · have h1 := idxB_lt h
    rw [List.length_range] at h
    rw [getD_of_lt _ _ (by rw [List.length_range]; exact h), List.getElem_range] at h1
    have := bis_min ht (by omega) hj h1
    rw [if_pos (by omega)]; exact this
  · have h1 := idxB_not h
    rw [List.length_range] at h1
    rw [if_neg (fun hj' => h1.2 j (List.mem_range.2 hj') (Bis.refl _ _))]
    exact h1.1

theorem lock_row : ∀ (rs : List S77) (reps : List Nat) (row : List S77), Rchd t reps → (∀ r ∈ rs, r.f1.toNat < t.length) → (minRow t rs reps row).1 <+: fin t →
    minRow (minRows t) (rs.map (img t (fin t))) (List.range reps.length) row = (List.range (minRow t rs reps row).1.length, (minRow t rs reps row).2) := by
  intro rs
  induction rs with
  | nil => intro reps row _ _ _; rfl
  | cons r rs ih =>
    intro reps row hr hlt hp
    have hq := hlt r (by simp)
    have hF := (fin_is ht).2.1
    by_cases hf : idxB t reps r.f1.toNat < reps.length
    · have e : minRow t (r :: rs) reps row = minRow t rs reps (row ++ [⟨r.f0, (idxB t reps r.f1.toNat : Nat)⟩]) := by rw [minRow, if_pos hf]
      rw [e] at hp ⊢
      have hpre := (row_inv t rs reps (row ++ [⟨r.f0, (idxB t reps r.f1.toNat : Nat)⟩]) hr (fun x hx => hlt x (by simp [hx]))).1.trans hp
      have k := idxB_pre hF hpre hf
      have kl := hpre.length_le
      rw [← ih reps _ hr (fun x hx => hlt x (by simp [hx])) hp, List.map_cons, minRow]
      have h1 : (img t (fin t) r).f1.toNat = idxB t reps r.f1.toNat := by unfold img; rw [k]; simp
      rw [h1, idx_range ht _ _ kl (by omega), if_pos hf, List.length_range, if_pos hf]
      rfl
    · have hn := idxB_not hf
      have e : minRow t (r :: rs) reps row = minRow t rs (reps ++ [r.f1.toNat]) (row ++ [⟨r.f0, (idxB t reps r.f1.toNat : Nat)⟩]) := by rw [minRow, if_neg hf]
      rw [e] at hp ⊢
      have hr1 := hr.add hq hn.2
      have hpre := (row_inv t rs (reps ++ [r.f1.toNat]) (row ++ [⟨r.f0, (idxB t reps r.f1.toNat : Nat)⟩]) hr1 (fun x hx => hlt x (by simp [hx]))).1.trans hp
      have hk : idxB t (reps ++ [r.f1.toNat]) r.f1.toNat = reps.length := idxB_eq hr1 (by simp) (by rw [List.getD_eq_getElem?_getD]; simp; exact Bis.refl _ _)
      have k := idxB_pre hF hpre (by rw [hk]; simp)
      rw [hk] at k
      have kl := hpre.length_le
      rw [List.length_append, List.length_singleton] at kl
      have h2 := ih (reps ++ [r.f1.toNat]) (row ++ [⟨r.f0, (idxB t reps r.f1.toNat : Nat)⟩]) hr1 (fun x hx => hlt x (by simp [hx])) hp
      rw [← h2, List.map_cons, minRow]
      have h1 : (img t (fin t) r).f1.toNat = reps.length := by unfold img; rw [k]; simp
      rw [h1, idx_range ht _ _ (by omega) (by omega), if_neg (Nat.lt_irrefl _), List.length_range, if_neg (Nat.lt_irrefl _), List.length_append, List.length_singleton, List.range_succ, hn.1]
      rfl

theorem lock_go : ∀ (n n' i : Nat) (reps : List Nat) (out : Tab), Rchd t reps → Sofar t i reps out → t.length < n + i → (fin t).length < n' + i → minEnd t n i reps = fin t →
    minGo (minRows t) n' i (List.range reps.length) out = minGo t n i reps out := by
  intro n
  induction n with
  | zero => intro n' i reps out hr h hn _ _; have := hr.le; have := h.le; omega
  | succ n ih =>
    intro n' i reps out hr h hn hn' he
    have hpre : reps <+: fin t := by rw [← he]; exact (go_inv ht _ _ _ _ hr h hn).1
    have hpl := hpre.length_le
    have hle := h.le
    cases n' with
    | zero => omega
    | succ n' =>
      by_cases hi : i < reps.length
      · obtain ⟨a, b, c⟩ := h.step ht hr hi
        simp only [minEnd, if_pos hi] at he
        have hp2 : (minRow t (roww t (reps.getD i 0)) reps []).1 <+: fin t := by rw [← he]; exact (go_inv ht _ _ _ _ b c (by omega)).1
        have hi2 : i < (List.range reps.length).length := by rw [List.length_range]; exact hi
        simp only [minGo, if_pos hi, if_pos hi2]
        have hg : (List.range reps.length).getD i 0 = i := by rw [getD_of_lt _ _ hi2, List.getElem_range]
        have hrow : roww (minRows t) i = (roww t (reps.getD i 0)).map (img t (fin t)) := by rw [min_row ht (by omega), pre_getD hpre hi]
        rw [hg, hrow, lock_row ht _ _ _ hr (ht.tgt (reps_lt hr hi)) hp2]
        exact ih n' (i + 1) _ _ b c (by omega) (by omega) he
      · have hi2 : ¬ i < (List.range reps.length).length := by rw [List.length_range]; exact hi
        simp only [minGo, if_neg hi, if_neg hi2]

/-- It is its own least one. -/
theorem min_min : minRows (minRows t) = minRows t := by
  have h := lock_go ht (t.length + 1) ((minRows t).length + 1) 0 [0] [] (Rchd.one ht.n1) (Sofar.start t) (by omega) (by have := min_len ht; omega) rfl
  exact h
end
end Go.Proofs.Ytaalafnkglbcpaa.PL
