/- The plain law of FrameBack: frames shown again are the same frames. No condition beyond the given statement. -/
import Derived.Test.YtijfinimlnedpaaPFBx11
namespace Go.Proofs.Ytijfinimlnedpaa.FrPure
open Go.RowKit Go.Proofs.Ytijfinimlnedpaa.PFB Go.Proofs.YtijfinimlnedpaaW.PrintWords Go.Proofs.YtijfinimlnedpaaW.PrintLast Go.Proofs.YtijfinimlnedpaaW.PrintMore
set_option linter.unusedVariables false
set_option linter.unusedSimpArgs false

/-! ### the changes of a list of colors -/
def chg (c : ByteArray) : Int → Nat → List Int → List S126
  | _, _, [] => []
  | x, i, a :: r => if a = x then chg c x (i + 1) r else ⟨(i : Int), c, a⟩ :: chg c a (i + 1) r
def lst : Int → List Int → Int
  | x, [] => x
  | _, a :: r => lst a r
theorem chg_append (c : ByteArray) : ∀ (l : List Int) (x : Int) (i : Nat) (m : List Int), chg c x i (l ++ m) = chg c x i l ++ chg c (lst x l) (i + l.length) m := by
  intro l
  induction l with
  | nil => intro x i m; simp [chg, lst]
  | cons a r ih =>
    intro x i m
    simp only [List.cons_append, chg, lst, List.length_cons]
    split
    · rename_i h; subst h; rw [ih, show i + (r.length + 1) = i + 1 + r.length by omega]
    · rw [ih, List.cons_append, show i + (r.length + 1) = i + 1 + r.length by omega]
theorem chg_len (c : ByteArray) : ∀ (l : List Int) (x : Int) (i : Nat), (chg c x i l).length ≤ l.length := by
  intro l
  induction l with
  | nil => intro x i; simp [chg]
  | cons a r ih =>
    intro x i
    simp only [chg]
    split
    · have := ih x (i + 1); simp; omega
    · have := ih a (i + 1); simp; omega
theorem chg_ok (c : ByteArray) : ∀ (l : List Int) (x : Int) (i : Nat) (last : Int), last < (i : Int) → i + l.length ≤ 100001 → (∀ a ∈ l, 0 ≤ a ∧ a ≤ 15) → okO c last (chg c x i l) = true := by
  intro l
  induction l with
  | nil => intro x i last _ _ _; rfl
  | cons a r ih =>
    intro x i last h1 h2 h3
    simp only [List.length_cons] at h2
    simp only [chg]
    split
    · exact ih x (i + 1) last (by omega) (by omega) (fun b hb => h3 b (List.mem_cons_of_mem _ hb))
    · have ha := h3 a List.mem_cons_self
      simp only [okO, Bool.and_eq_true, decide_eq_true_eq]
      exact ⟨⟨⟨⟨trivial, h1⟩, by omega, by omega⟩, ha⟩, ih a (i + 1) (i : Int) (by omega) (by omega) (fun b hb => h3 b (List.mem_cons_of_mem _ hb))⟩
theorem col_before (c : ByteArray) : ∀ (l : List Int) (x : Int) (i m : Nat), m < i → col x (chg c x i l) m = x := by
  intro l
  induction l with
  | nil => intro x i m _; rfl
  | cons a r ih =>
    intro x i m h
    simp only [chg]
    split
    · exact ih x (i + 1) m (by omega)
    · simp only [col]; rw [if_pos (by omega)]
theorem col_chg (c : ByteArray) : ∀ (l : List Int) (x : Int) (i m : Nat), i ≤ m → m < i + l.length → col x (chg c x i l) m = l.getD (m - i) 0 := by
  intro l
  induction l with
  | nil => intro x i m h1 h2; simp at h2; omega
  | cons a r ih =>
    intro x i m h1 h2
    simp only [List.length_cons] at h2
    simp only [chg]
    split
    · rename_i h
      by_cases e : m = i
      · subst e; rw [col_before c r x (m + 1) m (by omega)]; simp [h]
      · rw [ih x (i + 1) m (by omega) (by omega), show m - i = (m - (i + 1)) + 1 by omega]; simp
    · simp only [col]
      rw [if_neg (by omega)]
      by_cases e : m = i
      · subst e; rw [col_before c r a (m + 1) m (by omega)]; simp
      · rw [ih a (i + 1) m (by omega) (by omega), show m - i = (m - (i + 1)) + 1 by omega]; simp

/-! ### frame.Right and frame.Outs -/
theorem right_l0 (l : List Int) (hl : l.length ≤ 9000000000000000) (h : ∀ a ∈ l, 0 ≤ a ∧ a ≤ 15) : ∀ d i : Nat, i + d = l.length → Ev (fun k => frame_Right.l0 k l (l.length : Int) (i : Int)) 0 := by
  intro d
  induction d with
  | zero =>
    intro i hi
    refine Ev.step (f := fun _ => some 0) (fun k => ?_) (Ev.now 0)
    simp only [frame_Right.l0]; rw [if_neg (by omega)]
  | succ d ih =>
    intro i hi
    have e1 : wrap64 ((i : Int) + 1) = ((i + 1 : Nat) : Int) := by rw [w64 (by omega) (by omega)]; omega
    have hr : 0 ≤ rd l (i : Int) ∧ rd l (i : Int) ≤ 15 := by
      have := h l[i] (List.getElem_mem _)
      simpa [rd, List.getD_eq_getElem?_getD, List.getElem?_eq_getElem (show i < l.length by omega)] using this
    refine Ev.step (fun k => ?_) (ih (i + 1) (by omega))
    simp only [frame_Right.l0]; rw [if_pos (by omega), if_pos (by omega), if_pos (by omega), if_neg (by omega), if_neg (by omega), e1]
theorem right_is (l : List Int) (hl : l.length = 2560) (h : ∀ a ∈ l, 0 ≤ a ∧ a ≤ 15) : Ev (fun k => frame_Right.f k l) 0 :=
  Ev.congr (fun k => by unfold frame_Right.f; rw [if_pos (by omega)]; rfl) (right_l0 l (by omega) h l.length 0 (by omega))

theorem drop_I (l : List Int) (i : Nat) (h : i < l.length) : l.drop i = rd l (i : Int) :: l.drop (i + 1) := by
  rw [List.drop_eq_getElem_cons h]; simp [rd, List.getD_eq_getElem?_getD, List.getElem?_eq_getElem h]

theorem outs_l1 (c : ByteArray) (P : List (List Int)) (N j : Nat) (hj : j ≤ 40) (fr : List Int) (hf : fr.length = 2560) (r : List S126 × Int) : ∀ d i : Nat, ∀ (x : Int) (acc : List S126), i + d = fr.length → acc.length ≤ j * 2560 + i →
    (∀ (x' : Int) (acc' : List S126), x' = lst x (fr.drop i) → acc' = acc ++ chg c x (j * 2560 + i) (fr.drop i) → Ev (fun k => frame_Outs.l0 k c x' acc' P (N : Int) ((j + 1 : Nat) : Int)) r) →
    Ev (fun k => frame_Outs.l1 k c x acc (j : Int) P (N : Int) (j : Int) fr (fr.length : Int) (i : Int)) r := by
  intro d
  induction d with
  | zero =>
    intro i x acc hi ha h
    have e2 : wrap64 ((j : Int) + 1) = ((j + 1 : Nat) : Int) := by rw [w64 (by omega) (by omega)]; omega
    have hnil : fr.drop i = [] := List.drop_eq_nil_of_le (by omega)
    rw [hnil] at h
    refine Ev.step (fun k => ?_) (h x acc rfl (by simp [chg]))
    simp only [frame_Outs.l1]; rw [if_neg (by omega), e2]
  | succ d ih =>
    intro i x acc hi ha h
    rw [drop_I fr i (by omega)] at h
    have e1 : wrap64 ((i : Int) + 1) = ((i + 1 : Nat) : Int) := by rw [w64 (by omega) (by omega)]; omega
    have e3 : wrap64 (wrap64 (wrap64 ((j : Int) * 64) * 40) + (i : Int)) = ((j * 2560 + i : Nat) : Int) := by
      rw [w64 (n := (j : Int) * 64) (by omega) (by omega), w64 (n := (j : Int) * 64 * 40) (by omega) (by omega), w64 (by omega) (by omega)]; omega
    by_cases hx : rd fr (i : Int) = x
    · simp only [chg, lst] at h
      rw [if_pos hx] at h
      refine Ev.step (fun k => ?_) (ih (i + 1) x acc (by omega) (by omega) (fun x' acc' h1 h2 => h x' acc' (by rw [h1, hx]) (by rw [h2]; simp only [Nat.add_assoc])))
      simp only [frame_Outs.l1]; rw [if_pos (by omega), if_pos (by omega), if_pos (by omega), if_pos hx, e1]
    · simp only [chg, lst] at h
      rw [if_neg hx] at h
      refine Ev.step (fun k => ?_) (ih (i + 1) (rd fr (i : Int)) (acc ++ [⟨((j * 2560 + i : Nat) : Int), c, rd fr (i : Int)⟩]) (by omega) (by simp; omega) (fun x' acc' h1 h2 => h x' acc' h1 (by rw [h2, List.append_assoc]; simp only [List.singleton_append, Nat.add_assoc])))
      simp only [frame_Outs.l1]; rw [if_pos (by omega), if_pos (by omega), if_pos (by omega), if_neg hx, if_pos (by omega), e1, e3]

theorem pieces_at (A : List Int) (n j : Nat) (h : j < n) : rd_L3 (pieces A n) (j : Int) = (A.drop (j * 2560)).take 2560 := by
  unfold rd_L3 pieces
  rw [Int.toNat_natCast, List.getD_eq_getElem?_getD]
  simp [h]
theorem lst_append : ∀ (l m : List Int) (x : Int), lst x (l ++ m) = lst (lst x l) m := by
  intro l
  induction l with
  | nil => intro m x; rfl
  | cons a r ih => intro m x; exact ih m a

theorem split_at' (A : List Int) (a b : Nat) : A.drop a = (A.drop a).take b ++ A.drop (a + b) := by rw [← List.drop_drop, List.take_append_drop]
set_option maxRecDepth 100000 in
theorem outs_l0 (c : ByteArray) (A : List Int) (n : Nat) (hn : n ≤ 39) (hA : A.length = n * 2560) (hr : ∀ a ∈ A, 0 ≤ a ∧ a ≤ 15) : ∀ d j : Nat, ∀ (x : Int) (acc : List S126), j + d = n → acc.length ≤ j * 2560 →
    Ev (fun k => frame_Outs.l0 k c x acc (pieces A n) (n : Int) (j : Int)) (acc ++ chg c x (j * 2560) (A.drop (j * 2560)), 0) := by
  have hp : (pieces A n).length = n := by simp [pieces]
  intro d
  induction d with
  | zero =>
    intro j x acc hd ha
    have hnil : A.drop (j * 2560) = [] := List.drop_eq_nil_of_le (by rw [hA, show j = n by omega]; exact Nat.le_refl _)
    rw [hnil]
    refine Ev.step (f := fun _ => some (acc, 0)) (fun k => ?_) (by simp only [chg, List.append_nil]; exact Ev.now _)
    simp only [frame_Outs.l0]; rw [if_neg (by omega)]
  | succ d ih =>
    intro j x acc hd ha
    have hjn : j < n := by omega
    have h1 : j * 2560 + 2560 ≤ n * 2560 := by
      have : (j + 1) * 2560 ≤ n * 2560 := Nat.mul_le_mul_right _ hjn
      omega
    have hfr := pieces_at A n j hjn
    have hl : ((A.drop (j * 2560)).take 2560).length = 2560 := by rw [List.length_take, List.length_drop]; omega
    have hsplit := split_at' A (j * 2560) 2560
    rw [show j * 2560 + 2560 = (j + 1) * 2560 by omega] at hsplit
    generalize hf : (A.drop (j * 2560)).take 2560 = fr at *
    have hfa : ∀ a ∈ fr, 0 ≤ a ∧ a ≤ 15 := fun a ha => hr a (by rw [← hf] at ha; exact List.mem_of_mem_drop (List.mem_of_mem_take ha))
    refine Ev.step (fun k => ?_) (Ev.bind (f := fun k t115 => if t115 = 0 then (frame_Outs.l1 k c x acc (j : Int) (pieces A n) (n : Int) (j : Int) fr (fr.length : Int) 0) else (some (([] : List (S126)), t115))) (right_is fr hl hfa) ?_)
    · simp only [frame_Outs.l0]; rw [if_pos (by omega), if_pos (by omega), if_pos (by rw [hp]; omega), hfr]
    · refine Ev.congr (f := fun k => frame_Outs.l1 k c x acc (j : Int) (pieces A n) (n : Int) (j : Int) fr (fr.length : Int) ((0 : Nat) : Int)) (fun k => by rw [if_pos rfl]; rfl) ?_
      refine outs_l1 c (pieces A n) n j (by omega) fr hl _ fr.length 0 x acc (by omega) (by omega) (fun x' acc' hx' ha' => ?_)
      rw [List.drop_zero] at hx' ha'
      have hlen : acc'.length ≤ (j + 1) * 2560 := by
        rw [ha', List.length_append]
        have := chg_len c fr x (j * 2560 + 0)
        omega
      have h2 := ih (j + 1) x' acc' (by omega) hlen
      rw [hsplit, chg_append, hl, ← List.append_assoc, ← hx', show j * 2560 + 2560 = (j + 1) * 2560 by omega]
      rw [show acc ++ chg c x (j * 2560) fr = acc' from ha'.symm]
      exact h2
theorem outs_is (c : ByteArray) (x : Int) (A : List Int) (n : Nat) (hn : n ≤ 39) (hA : A.length = n * 2560) (hr : ∀ a ∈ A, 0 ≤ a ∧ a ≤ 15) : Ev (fun k => frame_Outs.f k (pieces A n) c x) (chg c x 0 A, 0) := by
  have hp : (pieces A n).length = n := by simp [pieces]
  have h := outs_l0 c A n hn hA hr n 0 x [] (by omega) (by simp)
  rw [List.nil_append, show 0 * 2560 = 0 from rfl, List.drop_zero] at h
  refine Ev.congr (fun k => ?_) h
  unfold frame_Outs.f
  rw [hp, if_neg (by omega)]
  rfl

/-! ### what is shown -/
theorem col_range (c : ByteArray) : ∀ (l : List S126) (first last : Int) (i : Nat), okO c last l = true → 0 ≤ first → first ≤ 15 → 0 ≤ col first l i ∧ col first l i ≤ 15 := by
  intro l
  induction l with
  | nil => intro first last i _ h1 h2; exact ⟨h1, h2⟩
  | cons o r ih =>
    intro first last i h h1 h2
    obtain ⟨_, _, _, _, g5, g6, g7⟩ := okO_cons h
    simp only [col]
    split
    · exact ⟨h1, h2⟩
    · exact ih o.f2 o.f0 i g7 g5 g6
theorem all_range (c : ByteArray) (first : Int) (l : List S126) (n : Nat) (h : okO c (-1) l = true) (h1 : 0 ≤ first) (h2 : first ≤ 15) : ∀ a ∈ all first l n, 0 ≤ a ∧ a ≤ 15 := by
  intro a ha
  obtain ⟨i, _, rfl⟩ := List.mem_map.1 ha
  exact col_range c l first (-1) i h h1 h2
theorem all_len (first : Int) (l : List S126) (n : Nat) : (all first l n).length = n * 2560 := by simp [all]
/-- Shown again: the same colors. -/
theorem all_again (c : ByteArray) (first : Int) (l : List S126) (n : Nat) : all first (chg c first 0 (all first l n)) n = all first l n := by
  apply List.ext_getElem
  · rw [all_len, all_len]
  · intro i h1 h2
    have hi : i < n * 2560 := by rw [all_len] at h1; exact h1
    rw [show (all first (chg c first 0 (all first l n)) n)[i] = col first (chg c first 0 (all first l n)) i by simp [all]]
    rw [col_chg c (all first l n) first 0 i (by omega) (by rw [all_len]; omega)]
    rw [Nat.sub_zero, List.getD_eq_getElem?_getD, List.getElem?_eq_getElem h2]
    rfl

theorem below_is (x n : Int) (hn : 0 < n) (hb : n ≤ 1000000) : ∃ r, bakemake_Below.f x n = some r ∧ 0 ≤ r ∧ r < n := by
  have h1 := Int.tmod_lt_of_pos x hn
  have h2 := Int.lt_tmod_of_pos x hn
  unfold bakemake_Below.f
  rw [if_neg (by omega)]
  by_cases h : Int.tmod x n < 0
  · rw [if_pos h, w64 (by omega) (by omega)]; exact ⟨_, rfl, by omega, by omega⟩
  · rw [if_neg h]; exact ⟨_, rfl, by omega, by omega⟩

def lat : Int → List S126 → Int
  | t, [] => t
  | _, o :: r => lat o.f0 r
theorem okO_snoc (c : ByteArray) (o : S126) (h1 : o.f1.toList = c.toList) (h3 : 0 ≤ o.f0 ∧ o.f0 ≤ 100000) (h4 : 0 ≤ o.f2 ∧ o.f2 ≤ 15) : ∀ (l : List S126) (last : Int), okO c last l = true → lat last l < o.f0 → okO c last (l ++ [o]) = true := by
  intro l
  induction l with
  | nil =>
    intro last _ h
    simp only [List.nil_append, okO, Bool.and_eq_true, decide_eq_true_eq]
    exact ⟨⟨⟨⟨h1, h⟩, h3⟩, h4⟩, trivial⟩
  | cons p r ih =>
    intro last h ht
    obtain ⟨g1, g2, g3, g4, g5, g6, g7⟩ := okO_cons h
    simp only [List.cons_append, okO, Bool.and_eq_true, decide_eq_true_eq]
    exact ⟨⟨⟨⟨g1, g2⟩, g3, g4⟩, g5, g6⟩, ih p.f0 g7 ht⟩
theorem lat_snoc (o : S126) : ∀ (l : List S126) (t : Int), lat t (l ++ [o]) = o.f0 := by
  intro l
  induction l with
  | nil => intro t; rfl
  | cons p r ih => intro t; exact ih p.f0

theorem draw_l0 (l : List Int) (hl : l.length ≤ 9000000000000000) : ∀ d i : Nat, ∀ (acc : List S126) (a : Int), i + 2 * d = 60 → 2 * acc.length = i → okO (⟨#[118]⟩ : ByteArray) (-1) acc = true → lat (-1) acc = a → -1 ≤ a → a ≤ 200 * acc.length - 1 →
    ∃ r, Ev (fun k => bakekeep3_outs.l0 k l acc a (i : Int)) r ∧ r.length ≤ 30 ∧ okO (⟨#[118]⟩ : ByteArray) (-1) r = true := by
  intro d
  induction d with
  | zero =>
    intro i acc a hi ha hok hla h1 h2
    refine ⟨acc, ?_, by omega, hok⟩
    have e1 : wrap64 ((i : Int) + 1) = ((i + 1 : Nat) : Int) := by rw [w64 (by omega) (by omega)]; omega
    refine Ev.step (f := fun k => bakekeep3_outs.j1 k l acc a (i : Int) false) (fun k => ?_) (Ev.step (f := fun _ => some acc) (fun k => ?_) (Ev.now _))
    · simp only [bakekeep3_outs.l0]
      by_cases h : wrap64 ((i : Int) + 1) < (l.length : Int)
      · rw [if_pos h, decide_eq_false (by omega)]
      · rw [if_neg h]
    · simp only [bakekeep3_outs.j1]; rw [if_neg (by simp)]
  | succ d ih =>
    intro i acc a hi ha hok hla h1 h2
    have e1 : wrap64 ((i : Int) + 1) = ((i + 1 : Nat) : Int) := by rw [w64 (by omega) (by omega)]; omega
    have e2 : wrap64 ((i : Int) + 2) = ((i + 2 : Nat) : Int) := by rw [w64 (by omega) (by omega)]; omega
    by_cases h : ((i + 1 : Nat) : Int) < (l.length : Int)
    · obtain ⟨p, hp, p0, p1⟩ := below_is (rd l (i : Int)) 200 (by omega) (by omega)
      obtain ⟨q, hq, q0, q1⟩ := below_is (rd l ((i + 1 : Nat) : Int)) 16 (by omega) (by omega)
      have e3 : wrap64 (1 + p) = 1 + p := w64 (by omega) (by omega)
      have e4 : wrap64 (a + (1 + p)) = a + (1 + p) := w64 (by omega) (by omega)
      obtain ⟨r, hr, r1, r2⟩ := ih (i + 2) (acc ++ [⟨a + (1 + p), (⟨#[118]⟩ : ByteArray), q⟩]) (a + (1 + p)) (by omega) (by simp; omega)
        (okO_snoc _ ⟨a + (1 + p), (⟨#[118]⟩ : ByteArray), q⟩ rfl ⟨by show 0 ≤ a + (1 + p); omega, by show a + (1 + p) ≤ 100000; omega⟩ ⟨q0, by show q ≤ 15; omega⟩ acc (-1) hok (by rw [hla]; show a < a + (1 + p); omega)) (lat_snoc _ acc (-1)) (by omega) (by simp; omega)
      refine ⟨r, ?_, r1, r2⟩
      refine Ev.step (f := fun k => bakekeep3_outs.j1 k l acc a (i : Int) true) (fun k => ?_) (Ev.step (fun k => ?_) hr)
      · simp only [bakekeep3_outs.l0]; rw [e1, if_pos h, decide_eq_true (by omega)]
      · simp only [bakekeep3_outs.j1]; rw [if_pos trivial, if_pos (by omega), if_pos (by omega), hp, Option.bind_some, e1, if_pos (by omega), if_pos h, hq, Option.bind_some, if_pos (by omega), e2, e3, e4]
    · refine ⟨acc, ?_, by omega, hok⟩
      refine Ev.step (f := fun k => bakekeep3_outs.j1 k l acc a (i : Int) false) (fun k => ?_) (Ev.step (f := fun _ => some acc) (fun k => ?_) (Ev.now _))
      · simp only [bakekeep3_outs.l0]; rw [e1, if_neg h]
      · simp only [bakekeep3_outs.j1]; rw [if_neg (by simp)]
theorem draw_is (l : List Int) (hl : l.length ≤ 9000000000000000) : ∃ r, Ev (fun k => bakekeep3_outs.f k l) r ∧ r.length ≤ 30 ∧ okO (⟨#[118]⟩ : ByteArray) (-1) r = true :=
  draw_l0 l hl 30 0 [] (-1) (by omega) rfl rfl rfl (by omega) (by simp)

theorem seen_is : bakekeep3_seen.f = some true := by
  have h1 : frame_Of.f (([(⟨1, (⟨#[118]⟩ : ByteArray), 3⟩ : S126)] : List (S126))) (⟨#[118]⟩ : ByteArray) 2 1 = some (pieces (all 2 [⟨1, (⟨#[118]⟩ : ByteArray), 3⟩] 1) 1, 0) := by
    unfold frame_Of.f
    rw [if_pos ⟨by simp, by decide +kernel, by omega, by omega, by omega, by omega⟩]
    rfl
  have h2 : rd_L3 (pieces (all 2 [⟨1, (⟨#[118]⟩ : ByteArray), 3⟩] 1) 1) 0 = all 2 [⟨1, (⟨#[118]⟩ : ByteArray), 3⟩] 1 := by
    have := pieces_at (all 2 [⟨1, (⟨#[118]⟩ : ByteArray), 3⟩] 1) 1 0 (by omega)
    rw [show ((0 : Nat) : Int) = 0 from rfl] at this
    rw [this, Nat.zero_mul, List.drop_zero, List.take_of_length_le (by rw [all_len]; omega)]
  have h3 : (pieces (all 2 [⟨1, (⟨#[118]⟩ : ByteArray), 3⟩] 1) 1).length = 1 := by simp [pieces]
  have h4 := all_len 2 [⟨1, (⟨#[118]⟩ : ByteArray), 3⟩] 1
  have h5 : rd (all 2 [⟨1, (⟨#[118]⟩ : ByteArray), 3⟩] 1) 1 = 3 := by
    unfold rd all
    simp [col]
  unfold bakekeep3_seen.f
  rw [h1]
  simp only [Option.bind_some]
  rw [h3, h2, h4, h5]
  rfl

theorem FrameBack : bakekeep3_FrameBack.Pure := by
  intro l0 a1 a2 hm _ _ _ _
  obtain ⟨n, hn, n0, n1⟩ := below_is a2 4 (by omega) (by omega)
  obtain ⟨f, hf, f0, f1⟩ := below_is a1 16 (by omega) (by omega)
  obtain ⟨O, hO, O1, O2⟩ := draw_is l0 (by unfold maxLen at hm; omega)
  apply Ev.rounds
  have k1 : frame_Of.f O (⟨#[118]⟩ : ByteArray) f n = some (pieces (all f O n.toNat) n.toNat, 0) := by
    unfold frame_Of.f
    rw [if_pos ⟨by omega, O2, n0, by omega, f0, by omega⟩]
  have hr := all_range (⟨#[118]⟩ : ByteArray) f O n.toNat O2 f0 (by omega)
  have hlen := all_len f O n.toNat
  have k2 := outs_is (⟨#[118]⟩ : ByteArray) f (all f O n.toNat) n.toNat (by omega) hlen hr
  have hQ := chg_ok (⟨#[118]⟩ : ByteArray) (all f O n.toNat) f 0 (-1) (by omega) (by rw [hlen]; omega) hr
  have hQl := chg_len (⟨#[118]⟩ : ByteArray) (all f O n.toNat) f 0
  have k3 : frame_Of.f (chg (⟨#[118]⟩ : ByteArray) f 0 (all f O n.toNat)) (⟨#[118]⟩ : ByteArray) f n = some (pieces (all f O n.toNat) n.toNat, 0) := by
    unfold frame_Of.f
    rw [if_pos ⟨by omega, hQ, n0, by omega, f0, by omega⟩, all_again]
  have k4 := check_is (⟨#[118]⟩ : ByteArray) (chg (⟨#[118]⟩ : ByteArray) f 0 (all f O n.toNat)) (by omega) hQ
  have hpl : ((pieces (all f O n.toNat) n.toNat).length : Int) = n := by simp [pieces]; omega
  generalize chg (⟨#[118]⟩ : ByteArray) f 0 (all f O n.toNat) = Q at *
  generalize pieces (all f O n.toNat) n.toNat = P at *
  unfold bakekeep3_FrameBack.f
  simp only [hn, hf, Option.bind_some]
  refine Ev.bind (f := fun k t132 => _) hO ?_
  simp only [k1, Option.bind_some]
  refine Ev.bind (f := fun k bt139 => _) k2 ?_
  simp only [k3, seen_is, Option.bind_some, hpl, if_true]
  unfold frame_Frame.f
  simp only [if_true, Option.bind_some]
  refine Ev.bind (f := fun k t149 => some (t149 == 0)) k4 (Ev.now _)
end Go.Proofs.Ytijfinimlnedpaa.FrPure
