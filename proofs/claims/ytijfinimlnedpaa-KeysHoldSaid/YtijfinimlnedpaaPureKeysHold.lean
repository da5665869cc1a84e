/- The plain law of KeysHold: inputs that hold stay, and all that are left hold; what is steady is steady again. No condition beyond the given statement. -/
import Derived.Test.YtijfinimlnedpaaPHoldx11
import Derived.Test.YtijfinimlnedpaaHoldPure
namespace Go.Proofs.Ytijfinimlnedpaa.Pure
open Go.RowKit Go.Proofs.Ytijfinimlnedpaa.PHold Go.Proofs.Ytijfinimlnedpaa.HoldPure Go.Proofs.YtijfinimlnedpaaW.PrintWords Go.Proofs.YtijfinimlnedpaaW.PrintLast Go.Proofs.YtijfinimlnedpaaW.PrintMore
set_option linter.unusedVariables false

/-- Each stands n cycles behind the one before it, and changes something. -/
def Apart (c : ByteArray) (n : Int) : Option (Int × Int) → List S42 → Prop
  | _, [] => True
  | last, x :: r => x.f1 = c ∧ 0 ≤ x.f0 ∧ x.f0 ≤ 100000 ∧ 0 ≤ x.f2 ∧ x.f2 ≤ 255 ∧ (∀ t v, last = some (t, v) → t + n ≤ x.f0 ∧ v ≠ x.f2) ∧ Apart c n (some (x.f0, x.f2)) r

theorem apart_same (c : ByteArray) (n : Int) : ∀ (l : List S42) (last : Option (Int × Int)), Apart c n last l → std n (last.map Prod.snd) l = l := by
  intro l
  induction l with
  | nil => intro _ _; rfl
  | cons x r ih =>
    intro last h
    obtain ⟨h1, h2, h3, h4, h5, h6, h7⟩ := h
    simp only [std]
    rw [if_neg]
    · rw [if_neg]
      · rw [show (some x.f2) = (some (x.f0, x.f2)).map Prod.snd from rfl, ih _ h7]
      · intro e
        cases last with
        | none => simp at e
        | some p =>
          obtain ⟨t, v⟩ := p
          simp at e
          exact (h6 t v rfl).2 e
    · rintro ⟨y, hy, hlt⟩
      cases r with
      | nil => simp at hy
      | cons z s =>
        simp at hy
        subst hy
        have := h7.2.2.2.2.2.1 _ _ rfl
        omega

/-- What is left holds. -/
theorem std_apart (c : ByteArray) (n : Int) (n0 : 0 ≤ n) : ∀ (l : List S42) (g t : Int) (last : Option (Int × Int)), HoldPure.Good c g t l → (∀ x ∈ l, 0 ≤ x.f0) → (∀ t' v x r, last = some (t', v) → l = x :: r → t' + n ≤ x.f0) →
    Apart c n last (std n (last.map Prod.snd) l) := by
  intro l
  induction l with
  | nil => intro _ _ _ _ _ _; trivial
  | cons x r ih =>
    intro g t last hg h0 hl
    obtain ⟨h1, h2, h3, h4, h5, h6, h7⟩ := hg
    have hx0 := h0 x List.mem_cons_self
    have h0' : ∀ y ∈ r, 0 ≤ y.f0 := fun y hy => h0 y (List.mem_cons_of_mem _ hy)
    have hnext : ∀ t' v y s, last = some (t', v) → r = y :: s → t' + n ≤ y.f0 := by
      intro t' v y s e e2
      have a1 := hl t' v x r e rfl
      subst e2
      have a2 := h7.2.1
      omega
    simp only [std]
    split
    · exact ih _ _ last h7 h0' hnext
    · rename_i hno
      split
      · exact ih _ _ last h7 h0' hnext
      · rename_i hne
        refine ⟨h1, hx0, h3, h5, h6, ?_, ?_⟩
        · intro t' v e
          refine ⟨hl t' v x r e rfl, fun e2 => hne ?_⟩
          rw [e]; simp [e2]
        · have h9 := ih x.f2 x.f0 (some (x.f0, x.f2)) h7 h0' (by
            intro t' v y s e e2
            simp only [Option.some.injEq, Prod.mk.injEq] at e
            obtain ⟨rfl, rfl⟩ := e
            subst e2
            rcases Int.lt_or_le (y.f0 - x.f0) n with hlt | hge
            · exact absurd ⟨y, rfl, hlt⟩ hno
            · omega)
          exact h9

/-- With 0 cycles nothing goes. -/
theorem good_apart (c : ByteArray) : ∀ (l : List S42) (g t : Int) (last : Option (Int × Int)), HoldPure.Good c g t l → (∀ x ∈ l, 0 ≤ x.f0) → (last = none ∨ last = some (t, g)) → Apart c 0 last l := by
  intro l
  induction l with
  | nil => intro _ _ _ _ _ _; trivial
  | cons x r ih =>
    intro g t last hg h0 hl
    obtain ⟨h1, h2, h3, h4, h5, h6, h7⟩ := hg
    refine ⟨h1, h0 x List.mem_cons_self, h3, h5, h6, ?_, ih _ _ _ h7 (fun y hy => h0 y (List.mem_cons_of_mem _ hy)) (.inr rfl)⟩
    intro t' v e
    rcases hl with hl | hl
    · rw [hl] at e; cases e
    · rw [hl] at e
      simp only [Option.some.injEq, Prod.mk.injEq] at e
      obtain ⟨rfl, rfl⟩ := e
      exact ⟨by omega, fun e => h4 e.symm⟩

/-- Something stays. -/
theorem std_ne (n : Int) : ∀ (l : List S42), l ≠ [] → std n none l ≠ [] := by
  intro l
  induction l with
  | nil => intro h; exact absurd rfl h
  | cons x r ih =>
    intro _
    simp only [std]
    split
    · rename_i h
      obtain ⟨y, hy, _⟩ := h
      exact ih (by intro e; rw [e] at hy; simp at hy)
    · rw [if_neg (by simp)]; simp

/-- The times of what stands apart. -/
theorem apart_times (c : ByteArray) (n : Int) (n0 : 0 ≤ n) : ∀ (l : List S42) (last : Option (Int × Int)), Apart c n last l → (l.map S42.f0).Pairwise (· ≤ ·) ∧ (∀ x ∈ l, 0 ≤ x.f0 ∧ x.f0 ≤ 100000 ∧ x.f1 = c ∧ 0 ≤ x.f2 ∧ x.f2 ≤ 255) ∧ ∀ t v, last = some (t, v) → ∀ x ∈ l, t ≤ x.f0 := by
  intro l
  induction l with
  | nil => intro _ _; simp
  | cons x r ih =>
    intro last h
    obtain ⟨h1, h2, h3, h4, h5, h6, h7⟩ := h
    obtain ⟨p, q, s⟩ := ih _ h7
    refine ⟨?_, ?_, ?_⟩
    · rw [List.map_cons, List.pairwise_cons]
      refine ⟨fun y hy => ?_, p⟩
      obtain ⟨z, hz, rfl⟩ := List.mem_map.1 hy
      exact s _ _ rfl z hz
    · intro y hy
      rcases List.mem_cons.1 hy with rfl | hy
      · exact ⟨h2, h3, h1, h4, h5⟩
      · exact q y hy
    · intro t v e y hy
      have a1 := (h6 t v e).1
      rcases List.mem_cons.1 hy with rfl | hy
      · omega
      · have := s _ _ rfl y hy; omega

theorem rd_cons (x : S42) (r : List S42) (i : Nat) : rd_T42 (x :: r) ((i + 1 : Nat) : Int) = rd_T42 r (i : Int) := by
  unfold rd_T42; rw [Int.toNat_natCast, Int.toNat_natCast]; rfl

theorem apart_at (c : ByteArray) (n : Int) : ∀ (l : List S42) (last : Option (Int × Int)), Apart c n last l → ∀ i : Nat, i + 1 < l.length → (rd_T42 l (i : Int)).f0 + n ≤ (rd_T42 l ((i + 1 : Nat) : Int)).f0 ∧ (rd_T42 l (i : Int)).f2 ≠ (rd_T42 l ((i + 1 : Nat) : Int)).f2 := by
  intro l
  induction l with
  | nil => intro _ _ i hi; simp at hi
  | cons x r ih =>
    intro last h i hi
    obtain ⟨h1, h2, h3, h4, h5, h6, h7⟩ := h
    cases i with
    | zero =>
      cases r with
      | nil => simp at hi
      | cons y s =>
        have := h7.2.2.2.2.2.1 _ _ rfl
        simpa [rd_T42] using this
    | succ i =>
      rw [rd_cons, rd_cons]
      exact ih _ h7 i (by simpa using hi)

theorem times_k (l : List S42) (h : OkP (l.map S42.f0)) : ∃ k, keys_times.f k (l.map S42.f0) = some 0 := Ev.rounds (times_ok _ (okT_of _ h))

theorem wf255 (v : Int) (h0 : 0 ≤ v) (h1 : v ≤ 255) : (Lit.int .i64 v).wf = true := WalkArith.wf_i64 (by omega)

theorem stOk_of (c : ByteArray) (hc : c.size ≤ maxLen) (l : List S42) (n m : Int) (n0 : 0 ≤ n) (m0 : 0 ≤ m) (m1 : m ≤ 100000) (hl : l.length ≤ 500) (last : Option (Int × Int)) (h : Apart c n last l) : StOk l m := by
  obtain ⟨p, q, _⟩ := apart_times c n n0 l last h
  refine ⟨hl, fun x hx => ⟨(q x hx).1, (q x hx).2.1⟩, m0, m1, times_k l ⟨by simpa using hl, fun x hx => ?_, p⟩, c, hc, fun x hx => ⟨(q x hx).2.2.1, wf255 _ (q x hx).2.2.2.1 (q x hx).2.2.2.2⟩⟩
  obtain ⟨y, hy, rfl⟩ := List.mem_map.1 hx
  have := q y hy; omega

open Classical in
theorem steady_is (l : List S42) (n : Int) (h : StOk l n) : keys_Steady.f l n = some (std n none l, 0) := by
  unfold keys_Steady.f; rw [if_pos h]

theorem hold_l0 (c : ByteArray) (n : Int) (a s : List S42) (n0 : 0 ≤ n) (hs : s.length ≤ 500) (hA : Apart c n none s) (hne : a ≠ [] → s ≠ []) : ∀ d i : Nat, i + d + 1 = s.length →
    Ev (fun k => bakekeep3_KeysHold.l0 k n a s ((s.length : Int) - 1) (i : Int)) true := by
  have hb := (apart_times c n n0 s none hA).2.1
  intro d
  induction d with
  | zero =>
    intro i hi
    refine Ev.step (fun k => ?_) (Ev.now true)
    simp only [bakekeep3_KeysHold.l0]; rw [if_neg (by omega)]
    by_cases h0 : (a.length : Int) = 0
    · rw [if_pos h0]
    · rw [if_neg h0, decide_eq_true (by omega)]
  | succ d ih =>
    intro i hi
    have e1 : wrap64 ((i : Int) + 1) = ((i + 1 : Nat) : Int) := by rw [w64 (by omega) (by omega)]; omega
    obtain ⟨h1, h2⟩ := apart_at c n s none hA i (by omega)
    have hm : ∀ j : Nat, j < s.length → 0 ≤ (rd_T42 s (j : Int)).f0 ∧ (rd_T42 s (j : Int)).f0 ≤ 100000 := fun j hj => by
      have := hb _ (rd_mem s j hj); omega
    have hm1 := hm i (by omega)
    have hm2 := hm (i + 1) (by omega)
    refine Ev.step (fun k => ?_) (ih (i + 1) (by omega))
    simp only [bakekeep3_KeysHold.l0]; rw [if_pos (by omega), e1, if_pos (by omega), if_pos (by omega), if_pos (by omega), if_pos (by omega), w64 (by omega) (by omega), if_neg (by omega), if_neg h2]

theorem KeysHold : bakekeep3_KeysHold.Pure := by
  intro l0 b1 _ hl _ _
  obtain ⟨ks, hk, hk1, hk2, hk3⟩ := keys_is l0 (by omega)
  let c : ByteArray := ⟨#[112]⟩
  have hcs : c.size ≤ maxLen := by show 1 ≤ maxLen; unfold maxLen; omega
  have hA := board_is c ks ⟨okT_of _ hk2, hk3⟩
  have hp := pairs_snd ks 0 (by omega) hk3
  have hg : HoldPure.Good c ((0 : Nat) : Int) (-1) (inp c 0 (pairsL 0 ks)) := by
    refine inp_good c _ 0 0 (by rw [pairs_fst]; exact hk2.2.2) (fun p hp' => ?_)
    have h1 : p.1 ∈ ks.map S107.f0 := by rw [← pairs_fst ks 0]; exact List.mem_map_of_mem hp'
    have h2 := hk2.2.1 p.1 h1
    have h3 := hp p hp'
    exact ⟨h2.1, h2.2, h3⟩
  have hal : (inp c 0 (pairsL 0 ks)).length ≤ 20 := by have := inp_len c (pairsL 0 ks) 0; rw [pairs_len] at this; omega
  generalize inp c 0 (pairsL 0 ks) = a at *
  obtain ⟨s1, s2⟩ := good_sorted c a _ _ hg
  have h0 : ∀ x ∈ a, 0 ≤ x.f0 := fun x hx => by have := s2 x hx; omega
  obtain ⟨n, hn, n0, n1⟩ := below_is b1 30 (by omega) (by omega)
  have hAa := good_apart c a _ _ none hg h0 (.inl rfl)
  have hAs : Apart c n none (std n none a) := std_apart c n n0 a _ _ none hg h0 (by intro _ _ _ _ e; cases e)
  have hsl : (std n none a).length ≤ 20 := by have := std_len n a none; omega
  have e1 := steady_is a n (stOk_of c hcs a 0 n (by omega) n0 (by omega) (by omega) none hAa)
  have e2 := steady_is (std n none a) n (stOk_of c hcs _ n n n0 n0 (by omega) (by omega) none hAs)
  have e3 := steady_is a 0 (stOk_of c hcs a 0 0 (by omega) (by omega) (by omega) (by omega) none hAa)
  have f2 : std n none (std n none a) = std n none a := apart_same c n _ none hAs
  have f3 : std 0 none a = a := apart_same c 0 a none hAa
  rw [f2] at e2
  rw [f3] at e3
  refine Ev.rounds (g := fun k => bakekeep3_KeysHold.f k l0 b1) ?_
  unfold bakekeep3_KeysHold.f
  refine Ev.bind (f := fun k t => _) hk ?_
  refine Ev.bind (f := fun k t => _) hA ?_
  simp only [hn, Option.bind_some, e1, e2, e3]
  refine Ev.bind (f := fun k t => _) typed_is ?_
  simp only [if_true]
  refine Ev.bind (f := fun k t => _) (eq_is a (by omega)) ?_
  simp only [if_true]
  refine Ev.bind (f := fun k t => _) (eq_is (std n none a) (by omega)) ?_
  have hne := std_ne n a
  generalize std n none a = s at *
  refine Ev.step (f := fun k => bakekeep3_KeysHold.l0 k n a s ((s.length : Int) - 1) 0) (fun k => ?_) ?_
  · simp only [bakekeep3_KeysHold.j0]; rw [if_neg (by simp), w64 (by omega) (by omega)]
  · by_cases he : s = []
    · have ha : a = [] := by
        rcases Classical.em (a = []) with h | h
        · exact h
        · exact absurd he (hne h)
      subst he; subst ha
      refine Ev.step (fun k => ?_) (Ev.now true)
      simp [bakekeep3_KeysHold.l0]
    · have hpos : 0 < s.length := List.length_pos_iff.2 he
      exact hold_l0 c n a s n0 (by omega) hAs hne (s.length - 1) 0 (by omega)

end Go.Proofs.Ytijfinimlnedpaa.Pure
