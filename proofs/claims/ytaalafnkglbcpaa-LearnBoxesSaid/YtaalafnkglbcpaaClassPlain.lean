/- Classes of states: the plain law. States are alike if no inputs tell them apart; a class list that no pass refines is just that. -/
import Derived.Test.YtaalafnkglbcpaaTabInv
namespace Go.Proofs.Ytaalafnkglbcpaa.PL
open Go.RowKit
set_option linter.unusedVariables false

abbrev Tab := List (List S77)
def roww (t : Tab) (s : Nat) : List S77 := t.getD s []
def cel (t : Tab) (s a : Nat) : S77 := (roww t s).getD a z77
def Like (t : Tab) (R : Nat → Nat → Prop) (x y : Nat) : Prop := (roww t x).length = (roww t y).length ∧ ∀ a, a < (roww t x).length → (cel t x a).f0 = (cel t y a).f0 ∧ R (cel t x a).f1.toNat (cel t y a).f1.toNat
/-- No inputs tell x and y apart. -/
def Bis (t : Tab) (x y : Nat) : Prop := ∃ R : Nat → Nat → Prop, R x y ∧ ∀ x y, R x y → Like t R x y

theorem Like.mono {t : Tab} {R S : Nat → Nat → Prop} {x y : Nat} (h : Like t R x y) (hs : ∀ x y, R x y → S x y) : Like t S x y := ⟨h.1, fun a ha => ⟨(h.2 a ha).1, hs _ _ (h.2 a ha).2⟩⟩
theorem Bis.refl (t : Tab) (x : Nat) : Bis t x x := ⟨Eq, rfl, fun x y h => by subst h; exact ⟨rfl, fun _ _ => ⟨rfl, rfl⟩⟩⟩
theorem Bis.symm {t : Tab} {x y : Nat} (h : Bis t x y) : Bis t y x := by
  obtain ⟨R, h, hR⟩ := h
  exact ⟨fun a b => R b a, h, fun x y hxy => ⟨(hR _ _ hxy).1.symm, fun a ha => by
    have h1 := (hR _ _ hxy)
    have h2 := h1.2 a (by rw [h1.1]; exact ha)
    exact ⟨h2.1.symm, h2.2⟩⟩⟩
theorem Bis.trans {t : Tab} {x y z : Nat} (h : Bis t x y) (g : Bis t y z) : Bis t x z := by
  obtain ⟨R, h, hR⟩ := h
  obtain ⟨S, g, hS⟩ := g
  refine ⟨fun a b => ∃ c, R a c ∧ S c b, ⟨y, h, g⟩, ?_⟩
  rintro a b ⟨c, h1, h2⟩
  have l1 := hR _ _ h1
  have l2 := hS _ _ h2
  exact ⟨l1.1.trans l2.1, fun i hi => ⟨(l1.2 i hi).1.trans (l2.2 i (by rw [← l1.1]; exact hi)).1, _, (l1.2 i hi).2, (l2.2 i (by rw [← l1.1]; exact hi)).2⟩⟩
theorem Bis.like {t : Tab} {x y : Nat} (h : Bis t x y) : Like t (Bis t) x y := by
  obtain ⟨R, h, hR⟩ := h
  exact (hR _ _ h).mono fun a b hab => ⟨R, hab, hR⟩

/-- A table's rows, as Check lets them pass. -/
structure TabR (t : Tab) : Prop where
  n1 : 1 ≤ t.length
  n2 : t.length ≤ 64
  m : ∃ m, m ≤ 16 ∧ ∀ row ∈ t, row.length = m
  ok : ∀ row ∈ t, ∀ r ∈ row, 0 ≤ r.f0 ∧ r.f0 < 1024 ∧ 0 ≤ r.f1 ∧ r.f1 < t.length

theorem roww_mem {t : Tab} {s : Nat} (h : s < t.length) : roww t s ∈ t := by
  unfold roww; rw [List.getD_eq_getElem?_getD, List.getElem?_eq_getElem h]; exact List.getElem_mem h
theorem cel_mem {t : Tab} {s a : Nat} (h : a < (roww t s).length) : cel t s a ∈ roww t s := by
  unfold cel; rw [List.getD_eq_getElem?_getD, List.getElem?_eq_getElem h]; exact List.getElem_mem h
theorem TabR.cel {t : Tab} (h : TabR t) {s a : Nat} (hs : s < t.length) (ha : a < (roww t s).length) : 0 ≤ (cel t s a).f0 ∧ (cel t s a).f0 < 1024 ∧ 0 ≤ (cel t s a).f1 ∧ (cel t s a).f1 < t.length := h.ok _ (roww_mem hs) _ (cel_mem ha)
theorem TabR.len {t : Tab} (h : TabR t) {s s' : Nat} (hs : s < t.length) (hs' : s' < t.length) : (roww t s).length = (roww t s').length := by
  obtain ⟨m, _, hm⟩ := h.m
  rw [hm _ (roww_mem hs), hm _ (roww_mem hs')]
theorem TabR.len_le {t : Tab} (h : TabR t) {s : Nat} (hs : s < t.length) : (roww t s).length ≤ 16 := by
  obtain ⟨m, h1, hm⟩ := h.m
  rw [hm _ (roww_mem hs)]; exact h1

/-! ### keys -/
def cl (c : List Int) (s : Nat) : Int := c.getD s 0
def trip (c : List Int) (r : S77) : List Int := [r.f0 % 256, (r.f0 / 256) % 256, cl c r.f1.toNat % 256]
def keyB (t : Tab) (c : List Int) (s : Nat) : List Int := (cl c s % 256) :: ((roww t s).map (trip c)).flatten

theorem flat_inj : ∀ (l m : List (List Int)), (∀ x ∈ l, x.length = 3) → (∀ x ∈ m, x.length = 3) → l.flatten = m.flatten → l = m
  | [], [], _, _, _ => rfl
  | [], y :: m, _, h2, h => by
    have q := h2 y (by simp)
    have h' := congrArg List.length h
    simp only [List.flatten_cons, List.flatten_nil, List.length_append, List.length_nil] at h'; omega
  | x :: l, [], h1, _, h => by
    have q := h1 x (by simp)
    have h' := congrArg List.length h
    simp only [List.flatten_cons, List.flatten_nil, List.length_append, List.length_nil] at h'; omega
  | x :: l, y :: m, h1, h2, h => by
    simp only [List.flatten_cons] at h
    have hx := h1 x (by simp)
    have hy := h2 y (by simp)
    obtain ⟨a, b⟩ := List.append_inj h (by omega)
    rw [a, flat_inj l m (fun x hx => h1 x (by simp [hx])) (fun x hx => h2 x (by simp [hx])) b]

theorem str_inj {xs ys : List Int} (h1 : ∀ x ∈ xs, 0 ≤ x ∧ x < 256) (h2 : ∀ x ∈ ys, 0 ≤ x ∧ x < 256) (h : strOfNums xs = strOfNums ys) : xs = ys := by
  have h' := congrArg (fun b : ByteArray => b.data.toList) h
  simp only [strOfNums_data] at h'
  have hl : xs.length = ys.length := by simpa using congrArg List.length h'
  apply List.ext_getElem hl
  intro i a b
  have e : (xs.map fun n => UInt8.ofNat n.toNat)[i]? = (ys.map fun n => UInt8.ofNat n.toNat)[i]? := by rw [h']
  rw [List.getElem?_map, List.getElem?_map, List.getElem?_eq_getElem a, List.getElem?_eq_getElem b] at e
  simp only [Option.map_some, Option.some.injEq] at e
  have e2 := congrArg UInt8.toNat e
  have g1 := h1 _ (List.getElem_mem a)
  have g2 := h2 _ (List.getElem_mem b)
  simp only [UInt8.toNat_ofNat', Nat.reducePow] at e2
  rw [Nat.mod_eq_of_lt (by omega), Nat.mod_eq_of_lt (by omega)] at e2
  omega

theorem key_range (t : Tab) (c : List Int) (s : Nat) : ∀ x ∈ keyB t c s, 0 ≤ x ∧ x < 256 := by
  intro x hx
  simp only [keyB, List.mem_cons, List.mem_flatten, List.mem_map] at hx
  rcases hx with rfl | ⟨l, ⟨r, _, rfl⟩, hx⟩
  · exact ⟨Int.emod_nonneg _ (by decide), Int.emod_lt_of_pos _ (by decide)⟩
  · simp only [trip, List.mem_cons, List.not_mem_nil, or_false] at hx
    rcases hx with rfl | rfl | rfl <;> exact ⟨Int.emod_nonneg _ (by decide), Int.emod_lt_of_pos _ (by decide)⟩

/-- Classes that are small. -/
def Small (t : Tab) (c : List Int) : Prop := ∀ s, s < t.length → 0 ≤ cl c s ∧ cl c s < 64

theorem key_iff {t : Tab} (h : TabR t) {c : List Int} (hc : Small t c) {s s' : Nat} (hs : s < t.length) (hs' : s' < t.length) :
    strOfNums (keyB t c s) = strOfNums (keyB t c s') ↔ cl c s = cl c s' ∧ Like t (fun x y => cl c x = cl c y) s s' := by
  constructor
  · intro e
    have e := str_inj (key_range t c s) (key_range t c s') e
    simp only [keyB, List.cons.injEq] at e
    obtain ⟨e0, e1⟩ := e
    have c1 := hc s hs
    have c2 := hc s' hs'
    refine ⟨by rw [Int.emod_eq_of_lt c1.1 (by omega), Int.emod_eq_of_lt c2.1 (by omega)] at e0; exact e0, h.len hs hs', ?_⟩
    have e2 := flat_inj _ _ (by simp [trip]) (by simp [trip]) e1
    intro a ha
    have ha' : a < (roww t s').length := by rw [← h.len hs hs']; exact ha
    have e3 : ((roww t s).map (trip c))[a]? = ((roww t s').map (trip c))[a]? := by rw [e2]
    rw [List.getElem?_map, List.getElem?_map, List.getElem?_eq_getElem ha, List.getElem?_eq_getElem ha'] at e3
    have k1 : (roww t s)[a] = cel t s a := by unfold cel; rw [List.getD_eq_getElem?_getD, List.getElem?_eq_getElem ha]; rfl
    have k2 : (roww t s')[a] = cel t s' a := by unfold cel; rw [List.getD_eq_getElem?_getD, List.getElem?_eq_getElem ha']; rfl
    rw [k1, k2] at e3
    simp only [Option.map_some, Option.some.injEq, trip, List.cons.injEq, and_true] at e3
    have r1 := h.cel hs ha
    have r2 := h.cel hs' ha'
    have n1 := hc (cel t s a).f1.toNat (by omega)
    have n2 := hc (cel t s' a).f1.toNat (by omega)
    obtain ⟨x1, x2, x3⟩ := e3
    rw [Int.emod_eq_of_lt n1.1 (by omega), Int.emod_eq_of_lt n2.1 (by omega)] at x3
    exact ⟨by omega, x3⟩
  · rintro ⟨e0, e1, e2⟩
    have : (roww t s).map (trip c) = (roww t s').map (trip c) := by
      apply List.ext_getElem (by simp [e1])
      intro a ha ha'
      simp only [List.length_map] at ha ha'
      have k1 : (roww t s)[a] = cel t s a := by unfold cel; rw [List.getD_eq_getElem?_getD, List.getElem?_eq_getElem ha]; rfl
      have k2 : (roww t s')[a] = cel t s' a := by unfold cel; rw [List.getD_eq_getElem?_getD, List.getElem?_eq_getElem ha']; rfl
      rw [List.getElem_map, List.getElem_map, k1, k2]
      obtain ⟨a1, a2⟩ := e2 a ha
      simp only [trip, a1]
      rw [a2]
    simp only [keyB, e0, this]

/-! ### a pass -/
/-- While a pass goes: ks are the keys that were seen, nx the classes given so far. -/
structure PassI {κ : Type} (key : Nat → κ) (n s : Nat) (ks : List κ) (nx : List Int) : Prop where
  len : nx.length = n
  nodup : ks.Nodup
  small : ks.length ≤ s
  old : ∀ k ∈ ks, ∃ x, x < s ∧ key x = k
  at' : ∀ x, x < s → ∃ i : Nat, cl nx x = i ∧ ks[i]? = some (key x)

theorem cl_set (nx : List Int) (s : Nat) (v : Int) (h : s < nx.length) (x : Nat) : cl (nx.set s v) x = if x = s then v else cl nx x := by
  unfold cl
  rw [List.getD_eq_getElem?_getD, List.getD_eq_getElem?_getD, List.getElem?_set]
  by_cases e : x = s
  · subst e; simp [h]
  · rw [if_neg (fun e' => e e'.symm), if_neg e]

variable {κ : Type} {key : Nat → κ} {n s : Nat} {ks : List κ} {nx : List Int}
theorem PassI.start (key : Nat → κ) (n : Nat) : PassI key n 0 [] (List.replicate n 0) :=
  ⟨by simp, List.nodup_nil, Nat.le_refl _, fun _ h => (by cases h), fun _ h => absurd h (Nat.not_lt_zero _)⟩
theorem PassI.known (h : PassI key n s ks nx) (hs : s < n) {i : Nat} (hi : ks[i]? = some (key s)) : PassI key n (s + 1) ks (nx.set s i) :=
  ⟨by rw [List.length_set]; exact h.len, h.nodup, by have := h.small; omega, fun k hk => by obtain ⟨x, h1, h2⟩ := h.old k hk; exact ⟨x, by omega, h2⟩, fun x hx => by
    rw [cl_set _ _ _ (by rw [h.len]; exact hs)]
    by_cases e : x = s
    · rw [if_pos e, e]; exact ⟨i, rfl, hi⟩
    · rw [if_neg e]; exact h.at' x (by omega)⟩
theorem PassI.fresh (h : PassI key n s ks nx) (hs : s < n) (hk : key s ∉ ks) : PassI key n (s + 1) (ks ++ [key s]) (nx.set s (ks.length : Nat)) :=
  ⟨by rw [List.length_set]; exact h.len, by rw [List.nodup_append]; exact ⟨h.nodup, by simp, fun a ha b hb => by simp at hb; subst hb; intro e; subst e; exact hk ha⟩, by have := h.small; simp; omega,
    fun k hk' => by
      rcases List.mem_append.1 hk' with hk' | hk'
      · obtain ⟨x, h1, h2⟩ := h.old k hk'; exact ⟨x, by omega, h2⟩
      · simp at hk'; exact ⟨s, by omega, hk'.symm⟩, fun x hx => by
    rw [cl_set _ _ _ (by rw [h.len]; exact hs)]
    by_cases e : x = s
    · rw [if_pos e, e]; exact ⟨ks.length, rfl, by simp⟩
    · rw [if_neg e]
      obtain ⟨i, h1, h2⟩ := h.at' x (by omega)
      exact ⟨i, h1, by rw [List.getElem?_append_left (by rcases Nat.lt_or_ge i ks.length with q | q; exact q; rw [List.getElem?_eq_none q] at h2; cases h2)]; exact h2⟩⟩

theorem nodup_inj : ∀ {ks : List κ}, ks.Nodup → ∀ {i j : Nat} {k : κ}, ks[i]? = some k → ks[j]? = some k → i = j
  | [], _, i, _, _, h, _ => by simp at h
  | a :: r, hn, 0, 0, _, _, _ => rfl
  | a :: r, hn, 0, j + 1, k, h1, h2 => by
    simp at h1 h2; subst h1
    exact absurd (List.mem_of_getElem? h2) (List.nodup_cons.1 hn).1
  | a :: r, hn, i + 1, 0, k, h1, h2 => by
    simp at h1 h2; subst h2
    exact absurd (List.mem_of_getElem? h1) (List.nodup_cons.1 hn).1
  | a :: r, hn, i + 1, j + 1, k, h1, h2 => by
    simp at h1 h2
    rw [nodup_inj (List.nodup_cons.1 hn).2 h1 h2]

theorem PassI.iff (h : PassI key n n ks nx) {x y : Nat} (hx : x < n) (hy : y < n) : cl nx x = cl nx y ↔ key x = key y := by
  obtain ⟨i, h1, h2⟩ := h.at' x hx
  obtain ⟨j, g1, g2⟩ := h.at' y hy
  rw [h1, g1]
  constructor
  · intro e
    have : i = j := by omega
    subst this
    rw [h2] at g2; injection g2
  · intro e
    rw [← e] at g2
    rw [nodup_inj h.nodup h2 g2]
theorem PassI.range (h : PassI key n n ks nx) {x : Nat} (hx : x < n) : 0 ≤ cl nx x ∧ cl nx x < ks.length := by
  obtain ⟨i, h1, h2⟩ := h.at' x hx
  have : i < ks.length := by
    rcases Nat.lt_or_ge i ks.length with q | q
    · exact q
    · rw [List.getElem?_eq_none q] at h2; cases h2
  omega
theorem PassI.onto (h : PassI key n n ks nx) {v : Nat} (hv : v < ks.length) : ∃ x, x < n ∧ cl nx x = v := by
  obtain ⟨x, h1, h2⟩ := h.old _ (List.getElem_mem hv)
  obtain ⟨i, g1, g2⟩ := h.at' x h1
  have : i = v := nodup_inj h.nodup g2 (by rw [h2]; exact List.getElem?_eq_getElem hv)
  exact ⟨x, h1, by rw [g1, this]⟩

/-! ### from pass to pass -/
structure ClsI (t : Tab) (c : List Int) (N : Nat) : Prop where
  len : c.length = t.length
  range : ∀ s, s < t.length → 0 ≤ cl c s ∧ cl c s < N
  onto : ∀ v, v < N → ∃ s, s < t.length ∧ cl c s = (v : Int)
  bis : ∀ x y, x < t.length → y < t.length → Bis t x y → cl c x = cl c y

theorem cover : ∀ (N : Nat) (L : List Nat), (∀ v, v < N → v ∈ L) → N ≤ L.length
  | 0, _, _ => Nat.zero_le _
  | N + 1, L, h => by
    have h1 := h N (by omega)
    have h2 := cover N (L.erase N) (fun v hv => (List.mem_erase_of_ne (by omega)).2 (h v (by omega)))
    rw [List.length_erase_of_mem h1] at h2
    have : 0 < L.length := List.length_pos_of_mem h1
    omega
theorem cover_inj {N : Nat} {L : List Nat} (h : ∀ v, v < N → v ∈ L) (hl : L.length ≤ N) {i j : Nat} (hi : i < L.length) (hj : j < L.length) (e : L[i] = L[j]) : i = j := by
  rcases Nat.lt_trichotomy i j with q | q | q
  · exfalso
    have := cover N (L.eraseIdx j) (fun v hv => by
      obtain ⟨k, hk, hkv⟩ := List.getElem_of_mem (h v hv)
      by_cases ek : k = j
      · subst ek
        rw [List.mem_eraseIdx_iff_getElem]
        exact ⟨i, hi, by omega, by rw [e]; exact hkv⟩
      · rw [List.mem_eraseIdx_iff_getElem]
        exact ⟨k, hk, ek, hkv⟩)
    rw [List.length_eraseIdx_of_lt hj] at this
    omega
  · exact q
  · exfalso
    have := cover N (L.eraseIdx i) (fun v hv => by
      obtain ⟨k, hk, hkv⟩ := List.getElem_of_mem (h v hv)
      by_cases ek : k = i
      · subst ek
        rw [List.mem_eraseIdx_iff_getElem]
        exact ⟨j, hj, by omega, by rw [← e]; exact hkv⟩
      · rw [List.mem_eraseIdx_iff_getElem]
        exact ⟨k, hk, ek, hkv⟩)
    rw [List.length_eraseIdx_of_lt hi] at this
    omega

/-- Who of N' classes covers N: as many or more, and if as many, it is one to one. -/
theorem merge_iff {n N N' : Nat} {c d : List Int} (hr : ∀ s, s < n → 0 ≤ cl c s ∧ cl c s < N) (ho : ∀ v, v < N → ∃ s, s < n ∧ cl c s = (v : Int))
    (hr' : ∀ s, s < n → 0 ≤ cl d s ∧ cl d s < N') (ho' : ∀ v, v < N' → ∃ s, s < n ∧ cl d s = (v : Int)) (hf : ∀ x y, x < n → y < n → cl d x = cl d y → cl c x = cl c y) :
    N ≤ N' ∧ (N' = N → ∀ x y, x < n → y < n → cl c x = cl c y → cl d x = cl d y) := by
  classical
  let g : Nat → Nat := fun v => if h : v < N' then (cl c (ho' v h).choose).toNat else 0
  have hg : ∀ x, x < n → g (cl d x).toNat = (cl c x).toNat := by
    intro x hx
    have h1 := hr' x hx
    have h2 : (cl d x).toNat < N' := by omega
    have h3 := (ho' _ h2).choose_spec
    show (if h : (cl d x).toNat < N' then (cl c (ho' _ h).choose).toNat else 0) = _
    rw [dif_pos h2, hf _ x h3.1 hx (by rw [h3.2]; omega)]
  have hc : ∀ v, v < N → v ∈ (List.range N').map g := by
    intro v hv
    obtain ⟨x, h1, h2⟩ := ho v hv
    have h3 := hr' x h1
    exact List.mem_map.2 ⟨(cl d x).toNat, List.mem_range.2 (by omega), by rw [hg x h1, h2]; omega⟩
  refine ⟨by have := cover N _ hc; simpa using this, fun e x y hx hy hxy => ?_⟩
  have h3 := hr' x hx
  have h4 := hr' y hy
  have hi : (cl d x).toNat < ((List.range N').map g).length := by simp; omega
  have hj : (cl d y).toNat < ((List.range N').map g).length := by simp; omega
  have := cover_inj hc (by simp; omega) hi hj (by
    simp only [List.getElem_map, List.getElem_range]
    rw [hg x hx, hg y hy, hxy])
  omega

theorem ClsI.start {t : Tab} (h : TabR t) : ClsI t (List.replicate t.length 0) 1 := by
  have e : ∀ s, cl (List.replicate t.length (0 : Int)) s = 0 := by
    intro s; unfold cl
    rw [List.getD_eq_getElem?_getD, List.getElem?_replicate]
    split <;> rfl
  exact ⟨by simp, fun s _ => by rw [e]; decide, fun v hv => ⟨0, h.n1, by rw [e]; omega⟩, fun x y _ _ _ => by rw [e, e]⟩
theorem ClsI.le {t : Tab} {c : List Int} {N : Nat} (h : ClsI t c N) : N ≤ t.length := by
  have := cover N ((List.range t.length).map fun s => (cl c s).toNat) (fun v hv => by
    obtain ⟨s, h1, h2⟩ := h.onto v hv
    exact List.mem_map.2 ⟨s, List.mem_range.2 h1, by rw [h2]; omega⟩)
  simpa using this
theorem ClsI.small {t : Tab} (ht : TabR t) {c : List Int} {N : Nat} (h : ClsI t c N) : Small t c := fun s hs => by
  have h1 := h.le
  have h2 := h.range s hs
  have h3 := ht.n2
  exact ⟨h2.1, by omega⟩
/-- A pass more. -/
theorem ClsI.pass {t : Tab} (ht : TabR t) {c nx : List Int} {N : Nat} {ks : List Lit} (h : ClsI t c N) {lit : ByteArray → Lit} (hl : ∀ a b, lit a = lit b → a = b) (hp : PassI (fun s => lit (strOfNums (keyB t c s))) t.length t.length ks nx) :
    ClsI t nx ks.length ∧ N ≤ ks.length ∧ (ks.length = N → ∀ x y, x < t.length → y < t.length → (cl nx x = cl nx y ↔ Bis t x y)) := by
  have hs := h.small ht
  have hiff : ∀ x y, x < t.length → y < t.length → (cl nx x = cl nx y ↔ (cl c x = cl c y ∧ Like t (fun x y => cl c x = cl c y) x y)) := fun x y hx hy =>
    (hp.iff hx hy).trans ⟨fun e => (key_iff ht hs hx hy).1 (hl _ _ e), fun e => congrArg lit ((key_iff ht hs hx hy).2 e)⟩
  have hnew : ClsI t nx ks.length := ⟨hp.len, fun s hs => hp.range hs, fun v hv => hp.onto hv, fun x y hx hy hb => (hiff x y hx hy).2 ⟨h.bis x y hx hy hb, hb.like.1, fun a ha => by
    have h1 := hb.like.2 a ha
    have r1 := ht.cel hx ha
    have r2 := ht.cel hy (a := a) (by rw [← ht.len hx hy]; exact ha)
    exact ⟨h1.1, h.bis _ _ (by omega) (by omega) h1.2⟩⟩⟩
  have hm := merge_iff h.range h.onto hnew.range hnew.onto (fun x y hx hy e => ((hiff x y hx hy).1 e).1)
  refine ⟨hnew, hm.1, fun e x y hx hy => ⟨fun exy => ?_, hnew.bis x y hx hy⟩⟩
  refine ⟨fun a b => a < t.length ∧ b < t.length ∧ cl nx a = cl nx b, ⟨hx, hy, exy⟩, ?_⟩
  rintro a b ⟨ha, hb, hab⟩
  have h1 := ((hiff a b ha hb).1 hab).2
  refine ⟨h1.1, fun i hi => ⟨(h1.2 i hi).1, ?_⟩⟩
  have r1 := ht.cel ha hi
  have r2 := ht.cel hb (a := i) (by rw [← ht.len ha hb]; exact hi)
  exact ⟨by omega, by omega, hm.2 e _ _ (by omega) (by omega) (h1.2 i hi).2⟩
end Go.Proofs.Ytaalafnkglbcpaa.PL
