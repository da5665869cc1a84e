/- frame.Of, what it computes: the color of each cycle is that of the last thing shown before it, or the first one. -/
import Derived.Test.YtijfinimlnedpaaFtOf
namespace Go.Proofs.Ytijfinimlnedpaa.PFT
open Go.RowKit Go.Proofs.YtijfinimlnedpaaW.PrintWords Go.Proofs.YtijfinimlnedpaaW.PrintLast Go.Proofs.YtijfinimlnedpaaW.PrintMore
set_option linter.unusedVariables false

theorem w64 {n : Int} (h0 : -9223372036854775808 ≤ n) (h1 : n ≤ 9223372036854775807) : wrap64 n = n := by unfold wrap64; omega

/-- What is shown: all by one chip, times go up, colors are colors. -/
def okO (c : ByteArray) : Int → List S126 → Bool
  | _, [] => true
  | last, o :: r => decide (o.f1.toList = c.toList) && decide (last < o.f0) && decide (0 ≤ o.f0 ∧ o.f0 ≤ 100000) && decide (0 ≤ o.f2 ∧ o.f2 ≤ 15) && okO c o.f0 r
/-- The color of cycle i. -/
def col : Int → List S126 → Nat → Int
  | first, [], _ => first
  | first, o :: r, i => if (i : Int) < o.f0 then first else col o.f2 r i

theorem okO_cons {c : ByteArray} {last : Int} {o : S126} {r : List S126} (h : okO c last (o :: r) = true) : o.f1.toList = c.toList ∧ last < o.f0 ∧ 0 ≤ o.f0 ∧ o.f0 ≤ 100000 ∧ 0 ≤ o.f2 ∧ o.f2 ≤ 15 ∧ okO c o.f0 r = true := by
  simp only [okO, Bool.and_eq_true, decide_eq_true_eq] at h
  obtain ⟨⟨⟨⟨h1, h2⟩, h3, h4⟩, h5, h6⟩, h7⟩ := h
  exact ⟨h1, h2, h3, h4, h5, h6, h7⟩

theorem drop_rd (l : List S126) (i : Nat) (h : i < l.length) : l.drop i = rd_T126 l (i : Int) :: l.drop (i + 1) := by
  rw [List.drop_eq_getElem_cons h]; simp [rd_T126, List.getD_eq_getElem?_getD, List.getElem?_eq_getElem h]

theorem check_l0 (c : ByteArray) (l : List S126) (hn : l.length ≤ 9000000000000000) : ∀ d i : Nat, ∀ last : Int, i + d = l.length → okO c last (l.drop i) = true → Ev (fun k => frame_Check.l0 k c last l (l.length : Int) (i : Int)) 0 := by
  intro d
  induction d with
  | zero =>
    intro i last hi _
    refine Ev.step (f := fun _ => some 0) (fun k => ?_) (Ev.now 0)
    simp only [frame_Check.l0]; rw [if_neg (by omega)]
  | succ d ih =>
    intro i last hi h
    rw [drop_rd l i (by omega)] at h
    obtain ⟨h1, h2, h3, h4, h5, h6, h7⟩ := okO_cons h
    generalize hx : rd_T126 l (i : Int) = x at *
    have e1 : wrap64 ((i : Int) + 1) = ((i + 1 : Nat) : Int) := by rw [w64 (by omega) (by omega)]; omega
    refine Ev.step (f := fun k => frame_Check.j1 k c last l (l.length : Int) (i : Int) false x.f0 x.f1 x.f2) (fun k => ?_) (Ev.step (fun k => ?_) (ih (i + 1) x.f0 (by omega) h7))
    · simp only [frame_Check.l0]; rw [if_pos (by omega), if_pos (by omega), if_pos (by omega), hx, if_pos h1, if_neg (by omega), if_neg (by omega), if_neg (by omega), decide_eq_false (by omega)]
    · simp only [frame_Check.j1]; rw [if_neg (by simp), if_neg (by omega), e1]
theorem check_is (c : ByteArray) (l : List S126) (hn : l.length ≤ 9000000000000000) (h : okO c (-1) l = true) : Ev (fun k => frame_Check.f k l c) 0 := check_l0 c l hn l.length 0 (-1) (by omega) h

section
variable (C : Nat → Int) (L : Nat)
/-- The first cycles have their colors. -/
def CI (at_ : Nat) (xs : List Int) : Prop := xs.length = L ∧ ∀ i, i < at_ → xs[i]? = some (C i)
theorem CI_set {C : Nat → Int} {L at_ : Nat} {xs : List Int} (h : CI C L at_ xs) (hl : at_ < L) (v : Int) (hv : C at_ = v) : CI C L (at_ + 1) (xs.set at_ v) := by
  obtain ⟨h1, h2⟩ := h
  refine ⟨by rw [List.length_set, h1], fun i hi => ?_⟩
  rw [List.getElem?_set]
  by_cases e : at_ = i
  · subst e; rw [if_pos rfl, if_pos (by omega), hv]
  · rw [if_neg e]; exact h2 i (by omega)
theorem CI_all {C : Nat → Int} {L : Nat} {xs : List Int} (h : CI C L L xs) : xs = (List.range L).map C := by
  apply List.ext_getElem?
  intro i
  by_cases hi : i < L
  · rw [h.2 i hi]; simp [hi]
  · rw [List.getElem?_eq_none (by rw [h.1]; omega), List.getElem?_eq_none (by simp; omega)]

theorem of_l2 (hL : L ≤ 1000000) (c : Int) : ∀ d at_ : Nat, ∀ xs : List Int, at_ + d = L → CI C L at_ xs → (∀ i, at_ ≤ i → i < L → C i = c) → Ev (fun k => frame_OfA.l2 k c xs (at_ : Int)) ((List.range L).map C, 0) := by
  intro d
  induction d with
  | zero =>
    intro at_ xs hd h _
    obtain rfl : at_ = L := by omega
    have hx := CI_all h
    have hl := h.1
    refine Ev.step (f := fun _ => some (xs, 0)) (fun k => ?_) (by rw [hx]; exact Ev.now _)
    simp only [frame_OfA.l2]; rw [if_neg (by omega)]
  | succ d ih =>
    intro at_ xs hd h hc
    have hl := h.1
    have e1 : wrap64 ((at_ : Int) + 1) = ((at_ + 1 : Nat) : Int) := by rw [w64 (by omega) (by omega)]; omega
    refine Ev.step (fun k => ?_) (ih (at_ + 1) (xs.set at_ c) (by omega) (CI_set h (by omega) c (hc at_ (Nat.le_refl _) (by omega))) (fun i h1 h2 => hc i (by omega) h2))
    simp only [frame_OfA.l2]; rw [if_pos (by omega), if_pos (by omega), e1, Int.toNat_natCast]

theorem of_l1 (hL : L ≤ 1000000) (x1 : ByteArray) (c : Int) (l : List S126) (x40 x41 t : Int) (s : ByteArray) (v : Int) (r : List Int × Int) (e : Nat) (he : L ≤ e ∨ t ≤ (e : Int))
    (hnext : ∀ xs, CI C L e xs → Ev (fun k => frame_OfA.l0 k x1 v xs (e : Int) l x40 (wrap64 (x41 + 1))) r) : ∀ d at_ : Nat, ∀ xs : List Int, at_ + d = e → CI C L at_ xs → (∀ i, at_ ≤ i → i < e → i < L ∧ (i : Int) < t ∧ C i = c) →
    Ev (fun k => frame_OfA.l1 k x1 c xs (at_ : Int) l x40 x41 t s v) r := by
  intro d
  induction d with
  | zero =>
    intro at_ xs hd h _
    obtain rfl : at_ = e := by omega
    have hl := h.1
    refine Ev.step (fun k => ?_) (hnext xs h)
    simp only [frame_OfA.l1]
    by_cases h1 : (at_ : Int) < (xs.length : Int)
    · rw [if_pos h1, if_neg (by omega)]
    · rw [if_neg h1]
  | succ d ih =>
    intro at_ xs hd h hc
    have hl := h.1
    obtain ⟨c1, c2, c3⟩ := hc at_ (Nat.le_refl _) (by omega)
    have e1 : wrap64 ((at_ : Int) + 1) = ((at_ + 1 : Nat) : Int) := by rw [w64 (by omega) (by omega)]; omega
    refine Ev.step (fun k => ?_) (ih (at_ + 1) (xs.set at_ c) (by omega) (CI_set h c1 c c3) (fun i h1 h2 => hc i (by omega) h2))
    simp only [frame_OfA.l1]; rw [if_pos (by omega), if_pos c2, if_pos (by omega), e1, Int.toNat_natCast]

theorem of_l0 (hL : L ≤ 1000000) (x1 : ByteArray) (l : List S126) (hn : l.length ≤ 9000000000000000) : ∀ d j at_ : Nat, ∀ (c last : Int) (xs : List Int), j + d = l.length → at_ ≤ L → okO x1 last (l.drop j) = true → CI C L at_ xs → (∀ i, at_ ≤ i → i < L → C i = col c (l.drop j) i) →
    Ev (fun k => frame_OfA.l0 k x1 c xs (at_ : Int) l (l.length : Int) (j : Int)) ((List.range L).map C, 0) := by
  intro d
  induction d with
  | zero =>
    intro j at_ c last xs hd hat _ h hc
    have hnil : l.drop j = [] := List.drop_eq_nil_of_le (by omega)
    rw [hnil] at hc
    refine Ev.step (fun k => ?_) (of_l2 C L hL c (L - at_) at_ xs (by omega) h (fun i h1 h2 => hc i h1 h2))
    simp only [frame_OfA.l0]; rw [if_neg (by omega)]
  | succ d ih =>
    intro j at_ c last xs hd hat hok h hc
    rw [drop_rd l j (by omega)] at hok hc
    obtain ⟨h1, h2, h3, h4, h5, h6, h7⟩ := okO_cons hok
    generalize hx : rd_T126 l (j : Int) = x at *
    have e1 : wrap64 ((j : Int) + 1) = ((j + 1 : Nat) : Int) := by rw [w64 (by omega) (by omega)]; omega
    obtain ⟨t, ht⟩ : ∃ t : Nat, x.f0 = (t : Int) := ⟨x.f0.toNat, by omega⟩
    obtain ⟨e, he⟩ : ∃ e, max at_ (min L t) = e := ⟨_, rfl⟩
    refine Ev.step (f := fun k => frame_OfA.l1 k x1 c xs (at_ : Int) l (l.length : Int) (j : Int) x.f0 x.f1 x.f2) (fun k => ?_) ?_
    · simp only [frame_OfA.l0]; rw [if_pos (by omega), if_pos (by omega), if_pos (by omega), hx, if_pos h1]
    · refine of_l1 C L hL x1 c l _ _ x.f0 x.f1 x.f2 _ e (by omega) (fun ys hy => ?_) (e - at_) at_ xs (by omega) h (fun i h1 h2 => ⟨by omega, by omega, ?_⟩)
      · rw [e1]
        refine ih (j + 1) e x.f2 x.f0 ys (by omega) (by omega) h7 hy (fun i h1 h2 => ?_)
        rw [hc i (by omega) h2]
        simp only [col]
        rw [if_neg (by omega)]
      · rw [hc i h1 (by omega)]
        simp only [col]
        rw [if_pos (by omega)]
end

def all (first : Int) (l : List S126) (n : Nat) : List Int := (List.range (n * 2560)).map (col first l)
theorem of_is (c : ByteArray) (first n : Int) (l : List S126) (hn : l.length ≤ 9000000000000000) (hok : okO c (-1) l = true) (n0 : 0 ≤ n) (n1 : n ≤ 40) (f0 : 0 ≤ first) (f1 : first ≤ 15) : Ev (fun k => frame_OfA.f k l c first n) (all first l n.toNat, 0) := by
  have h := of_l0 (col first l) (n.toNat * 2560) (by omega) c l hn l.length 0 0 first (-1) (List.replicate (n.toNat * 2560) 0) (by omega) (by omega) hok ⟨by simp, fun i hi => by omega⟩ (fun i _ _ => rfl)
  have e1 : wrap64 (wrap64 (n * 64) * 40) = ((n.toNat * 2560 : Nat) : Int) := by rw [w64 (n := n * 64) (by omega) (by omega), w64 (by omega) (by omega)]; omega
  refine Ev.congr (f := fun k => (frame_Check.f k l c).bind fun t103 => if t103 = 0 then (if n < 0 then (frame_OfA.j0 k l c first n true) else (frame_OfA.j0 k l c first n (decide (n > 40)))) else (some (([] : List Int), t103))) (fun k => rfl) ?_
  refine Ev.bind (check_is c l hn hok) ?_
  refine Ev.congr (f := fun k => frame_OfA.j0 k l c first n false) (fun k => by rw [if_pos rfl, if_neg (by omega), decide_eq_false (by omega)]) ?_
  refine Ev.step (f := fun k => frame_OfA.j1 k l c first n false) (fun k => by simp only [frame_OfA.j0]; rw [if_neg (by simp), if_neg (by omega), decide_eq_false (by omega)]) ?_
  refine Ev.step (fun k => ?_) h
  simp only [frame_OfA.j1]
  rw [if_neg (by simp), e1, if_pos (by omega), if_pos (by rw [Int.toNat_natCast]; omega), Int.toNat_natCast]
  rfl

def frame_Of.f (l0 : List (S126)) (a1 : ByteArray) (a2 : Int) (a3 : Int) : Option ((List (List Int)) × Int) :=
  if l0.length ≤ 9000000000000000 ∧ okO a1 (-1) l0 = true ∧ 0 ≤ a3 ∧ a3 ≤ 40 ∧ 0 ≤ a2 ∧ a2 ≤ 15 then some (pieces (all a2 l0 a3.toNat) a3.toNat, 0) else none
theorem frame_Of.calls (A0 : Option Addr) (c0 : Nat) (l0 : List (S126)) (a1 : ByteArray) (a2 : Int) (a3 : Int) (r1 : List (List Int)) (r2 : Int) (w : World) (hr0 : Kd.C k126 w A0 l0.length l0) (hc0 : l0.length ≤ c0) (h : frame_Of.f l0 a1 a2 a3 = some (r1, r2)) :
    Calls Try.prog 36 #[.slice A0 l0.length c0, .string a1, .int .i64 a2, .int .i64 a3] w fun e w' => ∃ v0_ : Value, e = .returned (.tuple #[v0_, .int .i64 r2]) ∧ Kd.S (Kd.slice 3 (Kd.int .i64)) 70 w' w.heap.size (fun _ => True) v0_ r1 ∧ Below w.heap.size w w' := by
  unfold frame_Of.f at h
  split at h
  case isFalse => cases h
  rename_i hh
  obtain ⟨h1, h2, h3, h4, h5, h6⟩ := hh
  simp only [Option.some.injEq, Prod.mk.injEq] at h
  obtain ⟨rfl, rfl⟩ := h
  obtain ⟨k, hk⟩ := Ev.rounds (of_is a1 a2 a3 l0 h1 h2 h3 h4 h5 h6)
  exact frame_OfA.calls k A0 c0 l0 a1 a2 a3 _ 0 w a3.toNat (by omega) (fun _ => by simp [all]) hr0 hc0 hk
end Go.Proofs.Ytijfinimlnedpaa.PFT
