/- The plain law of FrameText, first part: a text reads back as a frame with the same visible cells; what Changed tells holds of every cell that differs. Own text of this claim. -/
import Derived.Test.YtijfinimlnedpaaPFTx1
import Derived.Test.YtijfinimlnedpaaPFTx6
import Derived.Test.YtijfinimlnedpaaPFTx7
import Derived.Test.YtijfinimlnedpaaPFTx14
import Derived.Test.YtijfinimlnedpaaPFTx18
import Derived.Test.YtijfinimlnedpaaPFTx19
namespace Go.Proofs.Ytijfinimlnedpaa.FtPure
open Go.RowKit Go.Proofs.Ytijfinimlnedpaa.PFT Go.Proofs.YtijfinimlnedpaaW.PrintWords Go.Proofs.YtijfinimlnedpaaW.PrintLast Go.Proofs.YtijfinimlnedpaaW.PrintMore
set_option linter.unusedVariables false
set_option linter.unusedSimpArgs false

theorem pieces_at (A : List Int) (n j : Nat) (h : j < n) : rd_L3 (pieces A n) (j : Int) = (A.drop (j * 2560)).take 2560 := by
  unfold rd_L3 pieces
  rw [Int.toNat_natCast, List.getD_eq_getElem?_getD]
  simp [h]
theorem col_range (c : ByteArray) : ∀ (l : List S126) (first last : Int) (i : Nat), okO c last l = true → 0 ≤ first → first ≤ 15 → 0 ≤ col first l i ∧ col first l i ≤ 15 := by
  intro l
  induction l with
  | nil => intro first last i _ h1 h2; exact ⟨h1, h2⟩
  | cons o r ih =>
    intro first last i h h1 h2
    obtain ⟨_, _, _, _, g5, g6, g7⟩ := okO_cons h
    simp only [col]
    split
    · exact ⟨h1, h2⟩
    · exact ih o.f2 o.f0 i g7 g5 g6
theorem all_range (c : ByteArray) (first : Int) (l : List S126) (n : Nat) (h : okO c (-1) l = true) (h1 : 0 ≤ first) (h2 : first ≤ 15) : ∀ a ∈ all first l n, 0 ≤ a ∧ a ≤ 15 := by
  intro a ha
  obtain ⟨i, _, rfl⟩ := List.mem_map.1 ha
  exact col_range c l first (-1) i h h1 h2
theorem all_len (first : Int) (l : List S126) (n : Nat) : (all first l n).length = n * 2560 := by simp [all]
theorem below_is (x n : Int) (hn : 0 < n) (hb : n ≤ 1000000) : ∃ r, bakemake_Below.f x n = some r ∧ 0 ≤ r ∧ r < n := by
  have h1 := Int.tmod_lt_of_pos x hn
  have h2 := Int.lt_tmod_of_pos x hn
  unfold bakemake_Below.f
  rw [if_neg (by omega)]
  by_cases h : Int.tmod x n < 0
  · rw [if_pos h, w64 (by omega) (by omega)]; exact ⟨_, rfl, by omega, by omega⟩
  · rw [if_neg h]; exact ⟨_, rfl, by omega, by omega⟩
def lat : Int → List S126 → Int
  | t, [] => t
  | _, o :: r => lat o.f0 r
theorem okO_snoc (c : ByteArray) (o : S126) (h1 : o.f1.toList = c.toList) (h3 : 0 ≤ o.f0 ∧ o.f0 ≤ 100000) (h4 : 0 ≤ o.f2 ∧ o.f2 ≤ 15) : ∀ (l : List S126) (last : Int), okO c last l = true → lat last l < o.f0 → okO c last (l ++ [o]) = true := by
  intro l
  induction l with
  | nil =>
    intro last _ h
    simp only [List.nil_append, okO, Bool.and_eq_true, decide_eq_true_eq]
    exact ⟨⟨⟨⟨h1, h⟩, h3⟩, h4⟩, trivial⟩
  | cons p r ih =>
    intro last h ht
    obtain ⟨g1, g2, g3, g4, g5, g6, g7⟩ := okO_cons h
    simp only [List.cons_append, okO, Bool.and_eq_true, decide_eq_true_eq]
    exact ⟨⟨⟨⟨g1, g2⟩, g3, g4⟩, g5, g6⟩, ih p.f0 g7 ht⟩
theorem lat_snoc (o : S126) : ∀ (l : List S126) (t : Int), lat t (l ++ [o]) = o.f0 := by
  intro l
  induction l with
  | nil => intro t; rfl
  | cons p r ih => intro t; exact ih p.f0
theorem draw_l0 (l : List Int) (hl : l.length ≤ 9000000000000000) : ∀ d i : Nat, ∀ (acc : List S126) (a : Int), i + 2 * d = 60 → 2 * acc.length = i → okO (⟨#[118]⟩ : ByteArray) (-1) acc = true → lat (-1) acc = a → -1 ≤ a → a ≤ 200 * acc.length - 1 →
    ∃ r, Ev (fun k => bakekeep3_outs.l0 k l acc a (i : Int)) r ∧ r.length ≤ 30 ∧ okO (⟨#[118]⟩ : ByteArray) (-1) r = true := by
  intro d
  induction d with
  | zero =>
    intro i acc a hi ha hok hla h1 h2
    refine ⟨acc, ?_, by omega, hok⟩
    have e1 : wrap64 ((i : Int) + 1) = ((i + 1 : Nat) : Int) := by rw [w64 (by omega) (by omega)]; omega
    refine Ev.step (f := fun k => bakekeep3_outs.j1 k l acc a (i : Int) false) (fun k => ?_) (Ev.step (f := fun _ => some acc) (fun k => ?_) (Ev.now _))
    · simp only [bakekeep3_outs.l0]
      by_cases h : wrap64 ((i : Int) + 1) < (l.length : Int)
      · rw [if_pos h, decide_eq_false (by omega)]
      · rw [if_neg h]
    · simp only [bakekeep3_outs.j1]; rw [if_neg (by simp)]
  | succ d ih =>
    intro i acc a hi ha hok hla h1 h2
    have e1 : wrap64 ((i : Int) + 1) = ((i + 1 : Nat) : Int) := by rw [w64 (by omega) (by omega)]; omega
    have e2 : wrap64 ((i : Int) + 2) = ((i + 2 : Nat) : Int) := by rw [w64 (by omega) (by omega)]; omega
    by_cases h : ((i + 1 : Nat) : Int) < (l.length : Int)
    · obtain ⟨p, hp, p0, p1⟩ := below_is (rd l (i : Int)) 200 (by omega) (by omega)
      obtain ⟨q, hq, q0, q1⟩ := below_is (rd l ((i + 1 : Nat) : Int)) 16 (by omega) (by omega)
      have e3 : wrap64 (1 + p) = 1 + p := w64 (by omega) (by omega)
      have e4 : wrap64 (a + (1 + p)) = a + (1 + p) := w64 (by omega) (by omega)
      obtain ⟨r, hr, r1, r2⟩ := ih (i + 2) (acc ++ [⟨a + (1 + p), (⟨#[118]⟩ : ByteArray), q⟩]) (a + (1 + p)) (by omega) (by simp; omega)
        (okO_snoc _ ⟨a + (1 + p), (⟨#[118]⟩ : ByteArray), q⟩ rfl ⟨by show 0 ≤ a + (1 + p); omega, by show a + (1 + p) ≤ 100000; omega⟩ ⟨q0, by show q ≤ 15; omega⟩ acc (-1) hok (by rw [hla]; show a < a + (1 + p); omega)) (lat_snoc _ acc (-1)) (by omega) (by simp; omega)
      refine ⟨r, ?_, r1, r2⟩
      refine Ev.step (f := fun k => bakekeep3_outs.j1 k l acc a (i : Int) true) (fun k => ?_) (Ev.step (fun k => ?_) hr)
      · simp only [bakekeep3_outs.l0]; rw [e1, if_pos h, decide_eq_true (by omega)]
      · simp only [bakekeep3_outs.j1]; rw [if_pos trivial, if_pos (by omega), if_pos (by omega), hp, Option.bind_some, e1, if_pos (by omega), if_pos h, hq, Option.bind_some, if_pos (by omega), e2, e3, e4]
    · refine ⟨acc, ?_, by omega, hok⟩
      refine Ev.step (f := fun k => bakekeep3_outs.j1 k l acc a (i : Int) false) (fun k => ?_) (Ev.step (f := fun _ => some acc) (fun k => ?_) (Ev.now _))
      · simp only [bakekeep3_outs.l0]; rw [e1, if_neg h]
      · simp only [bakekeep3_outs.j1]; rw [if_neg (by simp)]
theorem draw_is (l : List Int) (hl : l.length ≤ 9000000000000000) : ∃ r, Ev (fun k => bakekeep3_outs.f k l) r ∧ r.length ≤ 30 ∧ okO (⟨#[118]⟩ : ByteArray) (-1) r = true :=
  draw_l0 l hl 30 0 [] (-1) (by omega) rfl rfl rfl (by omega) (by simp)
theorem seen_is : bakekeep3_seen.f = some true := by
  have h1 : frame_Of.f (([(⟨1, (⟨#[118]⟩ : ByteArray), 3⟩ : S126)] : List (S126))) (⟨#[118]⟩ : ByteArray) 2 1 = some (pieces (all 2 [⟨1, (⟨#[118]⟩ : ByteArray), 3⟩] 1) 1, 0) := by
    unfold frame_Of.f
    rw [if_pos ⟨by simp, by decide +kernel, by omega, by omega, by omega, by omega⟩]
    rfl
  have h2 : rd_L3 (pieces (all 2 [⟨1, (⟨#[118]⟩ : ByteArray), 3⟩] 1) 1) 0 = all 2 [⟨1, (⟨#[118]⟩ : ByteArray), 3⟩] 1 := by
    have := pieces_at (all 2 [⟨1, (⟨#[118]⟩ : ByteArray), 3⟩] 1) 1 0 (by omega)
    rw [show ((0 : Nat) : Int) = 0 from rfl] at this
    rw [this, Nat.zero_mul, List.drop_zero, List.take_of_length_le (by rw [all_len]; omega)]
  have h3 : (pieces (all 2 [⟨1, (⟨#[118]⟩ : ByteArray), 3⟩] 1) 1).length = 1 := by simp [pieces]
  have h4 := all_len 2 [⟨1, (⟨#[118]⟩ : ByteArray), 3⟩] 1
  have h5 : rd (all 2 [⟨1, (⟨#[118]⟩ : ByteArray), 3⟩] 1) 1 = 3 := by
    unfold rd all
    simp [col]
  unfold bakekeep3_seen.f
  rw [h1]
  simp only [Option.bind_some]
  rw [h3, h2, h4, h5]
  rfl

/-! ### Read -/
abbrev Rng (l : List Int) : Prop := ∀ a ∈ l, 0 ≤ a ∧ a ≤ 15
theorem rng_set {l : List Int} (h : Rng l) (i : Nat) {v : Int} (h0 : 0 ≤ v) (h1 : v ≤ 15) : Rng (l.set i v) := by
  intro a ha
  rcases List.mem_or_eq_of_mem_set ha with ha | rfl
  · exact h a ha
  · exact ⟨h0, h1⟩
theorem dat (l : List Int) (h : Rng l) (i : Nat) : 0 ≤ l.getD i 0 ∧ l.getD i 0 ≤ 15 := by
  by_cases hi : i < l.length
  · rw [List.getD_eq_getElem?_getD, List.getElem?_eq_getElem hi]; exact h _ (List.getElem_mem hi)
  · rw [List.getD_eq_getElem?_getD, List.getElem?_eq_none (by omega)]; decide
theorem size_strB (xs : List Int) : (strB xs).size = xs.length := List.size_toArray.trans (List.length_map _)
theorem txtL_len (x : List Int) : (txtL x).length = 1568 := (List.length_map _).trans List.length_range
theorem text_len (x : List Int) : (strB (txtL x)).size = 1568 := (size_strB _).trans (txtL_len x)
theorem strB_at (xs : List Int) (i : Nat) (hs : (i : Int).toNat < (strB xs).size) : (strB xs)[(i : Int).toNat]'hs = UInt8.ofNat (xs.getD i 0).toNat := by
  have hi : i < xs.length := by rw [size_strB] at hs; exact hs
  simp [strB, ByteArray.getElem_eq_getElem_data, hi]
theorem mapr_get (f : Nat → Int) (n i : Nat) (h : i < n) : ((List.range n).map f).getD i 0 = f i := by
  rw [List.getD_eq_getElem?_getD, List.getElem?_map, List.getElem?_range h]; rfl
theorem txtL_get (x : List Int) (i : Nat) (h : i < 1568) : (txtL x).getD i 0 = txtB x i := mapr_get (txtB x) 1568 i h
theorem bt_strB (xs : List Int) (i : Nat) (hi : i < xs.length) (h : 0 ≤ xs.getD i 0 ∧ xs.getD i 0 ≤ 255) : bt (strB xs) (i : Int) = xs.getD i 0 := by
  have hs : (i : Int).toNat < (strB xs).size := by rw [size_strB]; exact hi
  unfold bt
  rw [dif_pos hs, strB_at xs i hs, UInt8.toNat_ofNat']
  omega
theorem txtB_range (x : List Int) (h : Rng x) (i : Nat) : 0 ≤ txtB x i ∧ txtB x i ≤ 255 := by
  unfold txtB
  split
  · omega
  · have := dat x h ((i / 49 * 48 + i % 49) / 48 * 64 + (i / 49 * 48 + i % 49) % 48)
    exact dig_range this.1 this.2
theorem text_at (x : List Int) (h : Rng x) (i : Nat) (hi : i < 1568) : bt (strB (txtL x)) (i : Int) = txtB x i := by
  rw [bt_strB (txtL x) i (by rw [txtL_len]; exact hi) (by rw [txtL_get x i hi]; exact txtB_range x h i), txtL_get x i hi]
theorem dig_nat : ∀ n : Nat, n < 16 → strings_IndexByte.f hexS (dig (n : Int)) = some (n : Int) := by decide +kernel
theorem dig_is (c : Int) (h0 : 0 ≤ c) (h1 : c ≤ 15) : strings_IndexByte.f hexS (dig c) = some c := by
  obtain ⟨n, rfl⟩ : ∃ n : Nat, c = (n : Int) := ⟨c.toNat, by omega⟩
  exact dig_nat n (by omega)
theorem read_l0 (s : ByteArray) (b : Int) (b0 : 0 ≤ b) (b1 : b ≤ 15) (N : Nat) (hN : N ≤ 100000) : ∀ d i : Nat, ∀ acc : List Int, i + d = N → acc.length = N → Rng acc →
    ∃ A, A.length = N ∧ Rng A ∧ ∀ r, Ev (fun k => frame_Read.l1 k s A (s.size : Int) 0) r → Ev (fun k => frame_Read.l0 k s b acc (N : Int) (i : Int)) r := by
  intro d
  induction d with
  | zero =>
    intro i acc hi ha hr
    refine ⟨acc, ha, hr, fun r h => Ev.step (fun k => ?_) h⟩
    simp only [frame_Read.l0]; rw [if_neg (by omega)]
  | succ d ih =>
    intro i acc hi ha hr
    have e1 : wrap64 ((i : Int) + 1) = ((i + 1 : Nat) : Int) := by rw [w64 (by omega) (by omega)]; omega
    obtain ⟨A, h1, h2, h3⟩ := ih (i + 1) (acc.set i b) (by omega) (by rw [List.length_set, ha]) (rng_set hr i b0 b1)
    refine ⟨A, h1, h2, fun r h => Ev.step (fun k => ?_) (h3 r h)⟩
    simp only [frame_Read.l0]; rw [if_pos (by omega), if_pos (by omega), if_pos (by omega), e1, Int.toNat_natCast]
/-- The cell that place j of the text tells. -/
def cel (j : Nat) : Nat := j / 49 * 64 + j % 49
set_option maxHeartbeats 2000000 in
theorem read_l1 (x : List Int) (hx : Rng x) : ∀ d i : Nat, ∀ acc : List Int, i + d = 1568 → acc.length = 2560 → Rng acc → (∀ j : Nat, j < i → j % 49 ≠ 48 → acc.getD (cel j) 0 = visAt x (j / 49 * 48 + j % 49)) →
    ∃ B, B.length = 2560 ∧ Rng B ∧ (∀ j : Nat, j < 1568 → j % 49 ≠ 48 → B.getD (cel j) 0 = visAt x (j / 49 * 48 + j % 49)) ∧ Ev (fun k => frame_Read.l1 k (strB (txtL x)) acc (1568 : Int) (i : Int)) (B, 0) := by
  intro d
  induction d with
  | zero =>
    intro i acc hi ha hr hj
    refine ⟨acc, ha, hr, fun j h => hj j (by omega), Ev.step (f := fun _ => some (acc, 0)) (fun k => ?_) (Ev.now _)⟩
    simp only [frame_Read.l1]; rw [if_neg (by omega)]
  | succ d ih =>
    intro i acc hi ha hr hj
    have e1 : wrap64 ((i : Int) + 1) = ((i + 1 : Nat) : Int) := by rw [w64 (by omega) (by omega)]; omega
    have e2 : Int.tmod (i : Int) 49 = ((i % 49 : Nat) : Int) := rfl
    have e3 : Int.tdiv (i : Int) 49 = ((i / 49 : Nat) : Int) := rfl
    have ht := text_at x hx i (by omega)
    have hsz : ((strB (txtL x)).size : Int) = 1568 := by rw [text_len]; rfl
    by_cases hm : i % 49 = 48
    · obtain ⟨B, h1, h2, h3, h4⟩ := ih (i + 1) acc (by omega) ha hr (fun j h hn => hj j (by omega) hn)
      refine ⟨B, h1, h2, h3, Ev.step (fun k => ?_) h4⟩
      simp only [frame_Read.l1]
      rw [if_pos (by omega), e2, if_pos (by omega), if_pos (by omega), hsz, if_pos (by omega), ht, show txtB x i = 10 by unfold txtB; rw [if_pos hm], if_pos rfl, e1]
    · have hc : 0 ≤ visAt x (i / 49 * 48 + i % 49) ∧ visAt x (i / 49 * 48 + i % 49) ≤ 15 := dat x hx _
      have e4 : wrap64 (wrap64 (wrap64 ((i / 49 : Nat) : Int) * 64) + ((i % 49 : Nat) : Int)) = ((cel i : Nat) : Int) := by
        unfold cel
        rw [w64 (n := ((i / 49 : Nat) : Int)) (by omega) (by omega), w64 (n := ((i / 49 : Nat) : Int) * 64) (by omega) (by omega), w64 (by omega) (by omega)]; omega
      have hcel : cel i < 2560 := by unfold cel; omega
      obtain ⟨B, h1, h2, h3, h4⟩ := ih (i + 1) (acc.set (cel i) (visAt x (i / 49 * 48 + i % 49))) (by omega) (by rw [List.length_set, ha]) (rng_set hr _ hc.1 hc.2) (by
        intro j h hn
        rw [List.getD_eq_getElem?_getD, List.getElem?_set]
        by_cases hji : cel i = cel j
        · have : i = j := by unfold cel at hji; omega
          subst this
          rw [if_pos rfl, if_pos (by omega)]; rfl
        · rw [if_neg hji, ← List.getD_eq_getElem?_getD]
          exact hj j (by rcases Nat.lt_or_ge j i with h' | h'; exact h'; exact absurd (show cel i = cel j by rw [show j = i by omega]) hji) hn)
      refine ⟨B, h1, h2, h3, Ev.step (fun k => ?_) h4⟩
      simp only [frame_Read.l1]
      rw [if_pos (by omega), e2, if_neg (by omega), if_pos (by omega), hsz, if_pos (by omega), ht, show txtB x i = dig (visAt x (i / 49 * 48 + i % 49)) by unfold txtB; rw [if_neg hm],
        show (⟨#[48, 49, 50, 51, 52, 53, 54, 55, 56, 57, 97, 98, 99, 100, 101, 102]⟩ : ByteArray) = hexS from rfl, dig_is _ hc.1 hc.2, Option.bind_some, if_neg (by omega), e3, e4, if_pos (by omega), if_pos (by omega), Int.toNat_natCast, e1]
theorem read_is (x : List Int) (hx : Rng x) (b : Int) (b0 : 0 ≤ b) (b1 : b ≤ 15) : ∃ B, B.length = 2560 ∧ Rng B ∧ vis B = vis x ∧ Ev (fun k => frame_Read.f k (strB (txtL x)) b) (B, 0) := by
  obtain ⟨A, hA, hAr, hE⟩ := read_l0 (strB (txtL x)) b b0 b1 2560 (by omega) 2560 0 (List.replicate 2560 0) (by omega) List.length_replicate (by
    intro a ha
    have := List.eq_of_mem_replicate ha
    omega)
  obtain ⟨B, hB, hBr, hBc, hE2⟩ := read_l1 x hx 1568 0 A (by omega) hA hAr (fun j h => by omega)
  refine ⟨B, hB, hBr, ?_, ?_⟩
  · unfold vis
    refine List.map_congr_left (fun m hm => ?_)
    have hm' : m < 1536 := List.mem_range.1 hm
    have := hBc (m / 48 * 49 + m % 48) (by omega) (by omega)
    unfold cel at this
    rw [show (m / 48 * 49 + m % 48) / 49 = m / 48 by omega, show (m / 48 * 49 + m % 48) % 49 = m % 48 by omega] at this
    rw [show m / 48 * 48 + m % 48 = m by omega] at this
    exact this
  · have hE3 := hE (B, 0) (Ev.congr (fun k => by rw [text_len]; rfl) hE2)
    refine Ev.congr (f := fun k => frame_Read.j0 k (strB (txtL x)) b false) (fun k => ?_) (Ev.step (fun k => ?_) hE3)
    · unfold frame_Read.f; rw [if_neg (by omega), decide_eq_false (by omega)]
    · simp only [frame_Read.j0]
      rw [if_neg (by simp), text_len, if_pos (by omega), if_pos (by omega), Option.bind_some, List.length_replicate]
      rfl

/-! ### Changed -/
theorem mn_le (a b : Int) : mn a b ≤ a ∧ mn a b ≤ b := by unfold mn; split <;> omega
theorem mx_ge (a b : Int) : a ≤ mx a b ∧ b ≤ mx a b := by unfold mx; split <;> omega
abbrev InBox (L T R M : Int) (j : Nat) : Prop := L ≤ ((j % 48 : Nat) : Int) ∧ ((j % 48 : Nat) : Int) < R ∧ T ≤ ((j / 48 : Nat) : Int) ∧ ((j / 48 : Nat) : Int) < M
theorem box_more {L T R M x y : Int} {j : Nat} (h : InBox L T R M j) : InBox (mn L x) (mn T y) (mx R (x + 1)) (mx M (y + 1)) j := by
  obtain ⟨h1, h2, h3, h4⟩ := h
  have g1 := mn_le L x
  have g2 := mn_le T y
  have g3 := mx_ge R (x + 1)
  have g4 := mx_ge M (y + 1)
  exact ⟨Int.le_trans g1.1 h1, Int.lt_of_lt_of_le h2 g3.1, Int.le_trans g2.1 h3, Int.lt_of_lt_of_le h4 g4.1⟩
theorem box_new (L T R M : Int) (j : Nat) : InBox (mn L ((j % 48 : Nat) : Int)) (mn T ((j / 48 : Nat) : Int)) (mx R (((j % 48 : Nat) : Int) + 1)) (mx M (((j / 48 : Nat) : Int) + 1)) j :=
  ⟨(mn_le L _).2, Int.lt_of_lt_of_le (Int.lt_succ _) (mx_ge R _).2, (mn_le T _).2, Int.lt_of_lt_of_le (Int.lt_succ _) (mx_ge M _).2⟩
theorem chd_step (a b : List Int) (i : Nat) (hi : i < 1536) (ha : a.length = 1536) (hb : b.length = 1536) (L T R M : Int) (k : Nat) :
    frame_Changed.l0 (k + 1) a b (1536 : Int) (i : Int) L T R M = if rd a (i : Int) = rd b (i : Int) then frame_Changed.l0 k a b (1536 : Int) ((i + 1 : Nat) : Int) L T R M
      else frame_Changed.l0 k a b (1536 : Int) ((i + 1 : Nat) : Int) (mn L ((i % 48 : Nat) : Int)) (mn T ((i / 48 : Nat) : Int)) (mx R (((i % 48 : Nat) : Int) + 1)) (mx M (((i / 48 : Nat) : Int) + 1)) := by
  have e1 : wrap64 ((i : Int) + 1) = ((i + 1 : Nat) : Int) := by rw [w64 (by omega) (by omega)]; omega
  have e4 : wrap64 ((i / 48 : Nat) : Int) = ((i / 48 : Nat) : Int) := w64 (by omega) (by omega)
  have e5 : wrap64 (((i % 48 : Nat) : Int) + 1) = ((i % 48 : Nat) : Int) + 1 := w64 (by omega) (by omega)
  have e6 : wrap64 (((i / 48 : Nat) : Int) + 1) = ((i / 48 : Nat) : Int) + 1 := w64 (by omega) (by omega)
  have q1 : (i : Int) < 1536 := by omega
  have q2 : (0 : Int) ≤ (i : Int) := by omega
  have q3 : (i : Int) < (a.length : Int) := by omega
  have q4 : (i : Int) < (b.length : Int) := by omega
  have e2 : Int.tmod (i : Int) 48 = ((i % 48 : Nat) : Int) := rfl
  have e3 : Int.tdiv (i : Int) 48 = ((i / 48 : Nat) : Int) := rfl
  simp only [frame_Changed.l0]
  rw [if_pos q1, if_pos q2, if_pos q3, if_pos q4, e1, e2, e3, e4, e5, e6]
theorem chd_l0 (a b : List Int) (ha : a.length = 1536) (hb : b.length = 1536) : ∀ d i : Nat, ∀ L T R M : Int, i + d = 1536 → 0 ≤ R →
    (∀ j : Nat, j < i → rd a (j : Int) ≠ rd b (j : Int) → InBox L T R M j) →
    ∃ L' T' R' M' : Int, ∃ any : Bool, Ev (fun k => frame_Changed.l0 k a b (1536 : Int) (i : Int) L T R M) (L', T', R', M', any, 0) ∧
      ∀ j : Nat, j < 1536 → rd a (j : Int) ≠ rd b (j : Int) → any = true ∧ InBox L' T' R' M' j := by
  intro d
  induction d with
  | zero =>
    intro i L T R M hi hR hj
    have hi' : i = 1536 := hi
    have hn : ¬ (i : Int) < 1536 := by rw [hi']; decide
    by_cases h0 : R = 0
    · refine ⟨0, 0, 0, 0, false, Ev.step (f := fun _ => some (0, 0, 0, 0, false, 0)) (fun k => ?_) (Ev.now _), ?_⟩
      · simp only [frame_Changed.l0]; rw [if_neg hn, if_pos h0]
      · intro j h hne
        have := (hj j (by rw [hi']; exact h) hne).2.1
        rw [h0] at this
        exact absurd this (by simp only [Int.not_lt]; exact Int.natCast_nonneg _)
    · refine ⟨L, T, R, M, true, Ev.step (f := fun _ => some (L, T, R, M, true, 0)) (fun k => ?_) (Ev.now _), ?_⟩
      · simp only [frame_Changed.l0]; rw [if_neg hn, if_neg h0]
      · intro j h hne
        exact ⟨rfl, hj j (by rw [hi']; exact h) hne⟩
  | succ d ih =>
    intro i L T R M hi hR hj
    have hi1 : i + 1 + d = 1536 := by clear hj ih; omega
    have hil : i < 1536 := by clear hj ih; omega
    by_cases hq : rd a (i : Int) = rd b (i : Int)
    · have hj' : ∀ j : Nat, j < i + 1 → rd a (j : Int) ≠ rd b (j : Int) → InBox L T R M j := by
        intro j h hne
        rcases Nat.lt_or_ge j i with h' | h'
        · exact hj j h' hne
        · have hji : j = i := Nat.le_antisymm (Nat.le_of_lt_succ h) h'
          rw [hji] at hne
          exact absurd hq hne
      obtain ⟨L', T', R', M', any, hE, h⟩ := ih (i + 1) L T R M hi1 hR hj'
      exact ⟨L', T', R', M', any, Ev.step (fun k => by rw [chd_step a b i hil ha hb, if_pos hq]) hE, h⟩
    · have hj' : ∀ j : Nat, j < i + 1 → rd a (j : Int) ≠ rd b (j : Int) → InBox (mn L ((i % 48 : Nat) : Int)) (mn T ((i / 48 : Nat) : Int)) (mx R (((i % 48 : Nat) : Int) + 1)) (mx M (((i / 48 : Nat) : Int) + 1)) j := by
        intro j h hne
        rcases Nat.lt_or_ge j i with h' | h'
        · exact box_more (hj j h' hne)
        · have hji : j = i := Nat.le_antisymm (Nat.le_of_lt_succ h) h'
          rw [hji]
          exact box_new L T R M i
      obtain ⟨L', T', R', M', any, hE, h⟩ := ih (i + 1) _ _ _ _ hi1 (Int.le_trans hR (mx_ge R _).1) hj'
      exact ⟨L', T', R', M', any, Ev.step (fun k => by rw [chd_step a b i hil ha hb, if_neg hq]) hE, h⟩
theorem vis_l (l : List Int) : (vis l).length = 1536 := by simp [vis]
theorem chd_is (x y : List Int) (hx : x.length = 2560) (hy : y.length = 2560) (rx : Rng x) (ry : Rng y) : ∃ L T R M : Int, ∃ any : Bool, Ev (fun k => frame_Changed.f k x y) (L, T, R, M, any, 0) ∧
    ∀ j : Nat, j < 1536 → rd (vis x) (j : Int) ≠ rd (vis y) (j : Int) → any = true ∧ InBox L T R M j := by
  obtain ⟨L, T, R, M, any, hE, h⟩ := chd_l0 (vis x) (vis y) (vis_l x) (vis_l y) 1536 0 48 32 0 0 rfl (Int.le_refl _) (fun j h => absurd h (Nat.not_lt_zero _))
  refine ⟨L, T, R, M, any, ?_, h⟩
  refine Ev.bind (f := fun k bt139 => (if bt139.2 = 0 then ((frame_Seen.f k y).bind fun bt143 => (if bt143.2 = 0 then (frame_Changed.l0 k bt139.1 bt143.1 (bt139.1.length : Int) 0 48 32 0 0) else (some (0, 0, 0, 0, false, bt143.2)))) else (some (0, 0, 0, 0, false, bt139.2)))) (seen_is' x hx rx) ?_
  simp only [if_true]
  refine Ev.bind (f := fun k bt143 => (if bt143.2 = 0 then (frame_Changed.l0 k (vis x) bt143.1 ((vis x).length : Int) 0 48 32 0 0) else (some (0, 0, 0, 0, false, bt143.2)))) (seen_is' y hy ry) ?_
  simp only [if_true]
  exact Ev.congr (fun k => by rw [show ((vis x).length : Int) = 1536 by rw [vis_l]; rfl]; rfl) hE
theorem chd_same_l0 (a : List Int) (ha : a.length = 1536) : ∀ d i : Nat, i + d = 1536 → Ev (fun k => frame_Changed.l0 k a a (1536 : Int) (i : Int) 48 32 0 0) (0, 0, 0, 0, false, 0) := by
  intro d
  induction d with
  | zero =>
    intro i hi
    refine Ev.step (f := fun _ => some (0, 0, 0, 0, false, 0)) (fun k => ?_) (Ev.now _)
    simp only [frame_Changed.l0]; rw [if_neg (by omega), if_pos trivial]
  | succ d ih =>
    intro i hi
    have e1 : wrap64 ((i : Int) + 1) = ((i + 1 : Nat) : Int) := by rw [w64 (by omega) (by omega)]; omega
    refine Ev.step (fun k => ?_) (ih (i + 1) (by omega))
    simp only [frame_Changed.l0]
    rw [if_pos (by omega), if_pos (by omega), if_pos (by omega), if_pos (by omega), if_pos trivial, e1]
theorem chd_same (x y : List Int) (hx : x.length = 2560) (hy : y.length = 2560) (rx : Rng x) (ry : Rng y) (hv : vis y = vis x) : Ev (fun k => frame_Changed.f k x y) (0, 0, 0, 0, false, 0) := by
  refine Ev.bind (f := fun k bt139 => (if bt139.2 = 0 then ((frame_Seen.f k y).bind fun bt143 => (if bt143.2 = 0 then (frame_Changed.l0 k bt139.1 bt143.1 (bt139.1.length : Int) 0 48 32 0 0) else (some (0, 0, 0, 0, false, bt143.2)))) else (some (0, 0, 0, 0, false, bt139.2)))) (seen_is' x hx rx) ?_
  simp only [if_true]
  refine Ev.bind (f := fun k bt143 => (if bt143.2 = 0 then (frame_Changed.l0 k (vis x) bt143.1 ((vis x).length : Int) 0 48 32 0 0) else (some (0, 0, 0, 0, false, bt143.2)))) (hv ▸ seen_is' y hy ry) ?_
  simp only [if_true]
  exact Ev.congr (fun k => by rw [show ((vis x).length : Int) = 1536 by rw [vis_l]; rfl]; rfl) (chd_same_l0 (vis x) (vis_l x) 1536 0 (by omega))
end Go.Proofs.Ytijfinimlnedpaa.FtPure
