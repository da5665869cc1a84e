/- The plain law of KeysPen: what the functions of keys compute, a sort by insertion puts in order, and the law answers true. No condition beyond the given statement. -/
import Derived.Test.YtcicoedgjoploaaPKx21
namespace Go.Proofs.Ytcicoedgjoploaa.PenPure
open Go.RowKit Go.Proofs.Ytcicoedgjoploaa.PK Go.Proofs.YtcicoedgjoploaaW.PrintWords Go.Proofs.YtcicoedgjoploaaW.PrintLast Go.Proofs.YtcicoedgjoploaaW.PrintMore
set_option linter.unusedVariables false
set_option linter.unusedSimpArgs false

theorem w64 {n : Int} (h0 : -9223372036854775808 ≤ n) (h1 : n ≤ 9223372036854775807) : wrap64 n = n := by unfold wrap64; omega

theorem rd_nat (l : List Int) (i : Nat) : rd l (i : Int) = l.getD i 0 := by unfold rd; simp

/-- Times are in order and in range. -/
def OkT (l : List Int) : Prop := l.length ≤ 500 ∧ (∀ i : Nat, i < l.length → 0 ≤ l.getD i 0 ∧ l.getD i 0 ≤ 100000) ∧ ∀ i : Nat, i + 1 < l.length → l.getD i 0 ≤ l.getD (i + 1) 0

theorem times_l0 (l : List Int) (h : OkT l) : ∀ d i : Nat, i + d = l.length → Ev (fun k => keys_times.l0 k l l (l.length : Int) (i : Int)) 0 := by
  obtain ⟨hn, hb, hs⟩ := h
  intro d
  induction d with
  | zero =>
    intro i hi
    refine Ev.step (f := fun _ => some 0) (fun k => ?_) (Ev.now 0)
    simp only [keys_times.l0]; rw [if_neg (by omega)]
  | succ d ih =>
    intro i hi
    have hb' := hb i (by omega)
    have e1 : wrap64 ((i : Int) + 1) = ((i + 1 : Nat) : Int) := by rw [w64 (by omega) (by omega)]; omega
    refine Ev.step (f := fun k => keys_times.j1 k l i (rd l i) l l.length i false) (fun k => ?_) ?_
    · simp only [keys_times.l0]; rw [if_pos (by omega), if_pos (by omega), if_pos (by omega), rd_nat, if_neg (by omega), decide_eq_false (by omega)]
    · refine Ev.step (f := fun k => keys_times.l0 k l l l.length ((i + 1 : Nat) : Int)) (fun k => ?_) (ih (i + 1) (by omega))
      simp only [keys_times.j1]; rw [if_neg (by simp), e1]
      by_cases h0 : (i : Int) > 0
      · have hs' := hs (i - 1) (by omega)
        have e2 : wrap64 ((i : Int) - 1) = ((i - 1 : Nat) : Int) := by rw [w64 (by omega) (by omega)]; omega
        rw [show i - 1 + 1 = i by omega] at hs'
        rw [if_pos h0, e2, if_pos (by omega), if_pos (by omega), rd_nat, rd_nat, if_neg (by omega)]
      · rw [if_neg h0]

theorem times_ok (l : List Int) (h : OkT l) : Ev (fun k => keys_times.f k l) 0 := by
  refine Ev.congr (f := fun k => keys_times.l0 k l l (l.length : Int) ((0 : Nat) : Int)) (fun k => ?_) (times_l0 l h l.length 0 (by omega))
  unfold keys_times.f; rw [if_neg (by have := h.1; omega)]; rfl

/-- The changes of lines: pairs of times and lines, one for each time at most. -/
def inp (c : ByteArray) : Int → List (Int × Int) → List S62
  | _, [] => []
  | last, (t, n) :: rest => if rest.head?.map Prod.fst = some t then inp c last rest else if n = last then inp c last rest else ⟨t, c, n⟩ :: inp c n rest

theorem zip_drop (A B : List Int) (i : Nat) (hA : i < A.length) (hB : i < B.length) : (A.zip B).drop i = (A.getD i 0, B.getD i 0) :: (A.zip B).drop (i + 1) := by
  have hz : i < (A.zip B).length := by simp; omega
  rw [List.drop_eq_getElem_cons hz]
  simp [List.getElem_zip, List.getD_eq_getElem?_getD, List.getElem?_eq_getElem hA, List.getElem?_eq_getElem hB]

theorem inputs_l0 (c : ByteArray) (A B : List Int) (hl : A.length = B.length) (hn : A.length ≤ 500) : ∀ d i : Nat, ∀ (out : List S62) (last : Int), i + d = A.length → out.length ≤ i →
    Ev (fun k => keys_inputs.l0 k c A out last B (B.length : Int) (i : Int)) (out ++ inp c last ((A.zip B).drop i)) := by
  intro d
  induction d with
  | zero =>
    intro i out last hi ho
    refine Ev.step (f := fun _ => some out) (fun k => ?_) ?_
    · simp only [keys_inputs.l0]; rw [if_neg (by omega)]
    · rw [List.drop_eq_nil_of_le (by simp; omega)]; simp only [inp, List.append_nil]; exact Ev.now out
  | succ d ih =>
    intro i out last hi ho
    have e1 : wrap64 ((i : Int) + 1) = ((i + 1 : Nat) : Int) := by rw [w64 (by omega) (by omega)]; omega
    rw [zip_drop A B i (by omega) (by omega)]
    refine Ev.step (f := fun k => keys_inputs.j1 k c A out last i (rd B i) B B.length i (decide (((A.zip B).drop (i + 1)).head?.map Prod.fst = some (A.getD i 0)))) (fun k => ?_) ?_
    · simp only [keys_inputs.l0]; rw [if_pos (by omega), if_pos (by omega), if_pos (by omega), e1]
      by_cases hlt : i + 1 < A.length
      · rw [if_pos (by omega), if_pos (by omega), if_pos (by omega), zip_drop A B (i + 1) hlt (by omega)]; simp only [rd_nat]
        congr 1
        simp only [List.head?_cons, Option.map_some, Option.some.injEq]
        rw [Bool.eq_iff_iff]; simp
      · rw [if_neg (by omega), List.drop_eq_nil_of_le (by simp; omega)]; simp
    · simp only [inp]
      by_cases hc : ((A.zip B).drop (i + 1)).head?.map Prod.fst = some (A.getD i 0)
      · rw [if_pos hc, decide_eq_true hc]
        refine Ev.step (fun k => ?_) (ih (i + 1) out last (by omega) (by omega))
        simp only [keys_inputs.j1]; rw [if_pos (by simp), e1]
      · rw [if_neg hc, decide_eq_false hc]
        by_cases hq : B.getD i 0 = last
        · rw [if_pos hq]
          refine Ev.step (fun k => ?_) (ih (i + 1) out last (by omega) (by omega))
          simp only [keys_inputs.j1]; rw [if_neg (by simp), e1, rd_nat, if_pos hq]
        · rw [if_neg hq]
          have h1 := ih (i + 1) (out ++ [⟨A.getD i 0, c, B.getD i 0⟩]) (B.getD i 0) (by omega) (by simp; omega)
          rw [List.append_assoc, List.singleton_append] at h1
          refine Ev.step (fun k => ?_) h1
          simp only [keys_inputs.j1]; rw [if_neg (by simp), e1, rd_nat, rd_nat, if_neg hq, if_pos (by omega), if_pos (by omega), if_pos (by omega)]

theorem inputs_is (c : ByteArray) (A B : List Int) (hl : A.length = B.length) (hn : A.length ≤ 500) : Ev (fun k => keys_inputs.f k c A B) (inp c 0 (A.zip B)) := by
  have h := inputs_l0 c A B hl hn A.length 0 [] 0 (by omega) (by simp)
  exact h

/-- Times as a list: few, in range, in order. -/
def OkP (l : List Int) : Prop := l.length ≤ 500 ∧ (∀ x ∈ l, 0 ≤ x ∧ x ≤ 100000) ∧ l.Pairwise (· ≤ ·)
theorem okT_of (l : List Int) (h : OkP l) : OkT l := by
  obtain ⟨h1, h2, h3⟩ := h
  refine ⟨h1, fun i hi => ?_, fun i hi => ?_⟩
  · have := h2 l[i] (List.getElem_mem _)
    simpa [List.getD_eq_getElem?_getD, List.getElem?_eq_getElem hi] using this
  · have := List.pairwise_iff_getElem.1 h3 i (i + 1) (by omega) hi (by omega)
    simpa [List.getD_eq_getElem?_getD, List.getElem?_eq_getElem hi, List.getElem?_eq_getElem (show i < l.length by omega)] using this

/-! ### the keys that are drawn -/
theorem below_is (x n : Int) (hn : 0 < n) (hb : n ≤ 1000000) : ∃ r, bakemake_Below.f x n = some r ∧ 0 ≤ r ∧ r < n := by
  have h1 := Int.tmod_lt_of_pos x hn
  have h2 := Int.lt_tmod_of_pos x hn
  unfold bakemake_Below.f
  rw [if_neg (by omega)]
  by_cases h : Int.tmod x n < 0
  · rw [if_pos h, w64 (by omega) (by omega)]; exact ⟨_, rfl, by omega, by omega⟩
  · rw [if_neg h]; exact ⟨_, rfl, by omega, by omega⟩

theorem inp_of (c : ByteArray) : ∀ (l : List (Int × Int)) (last : Int), (inp c last l).length ≤ l.length ∧ ∀ x ∈ inp c last l, ∃ p ∈ l, x.f0 = p.1 := by
  intro l
  induction l with
  | nil => intro last; exact ⟨Nat.le_refl _, fun x hx => by simp [inp] at hx⟩
  | cons p r ih =>
    intro last
    obtain ⟨t, n⟩ := p
    simp only [inp]
    split
    · have h := ih last
      refine ⟨by simp; omega, fun x hx => ?_⟩
      obtain ⟨p, hp, e⟩ := h.2 x hx
      exact ⟨p, List.mem_cons_of_mem _ hp, e⟩
    · split
      · have h := ih last
        refine ⟨by simp; omega, fun x hx => ?_⟩
        obtain ⟨p, hp, e⟩ := h.2 x hx
        exact ⟨p, List.mem_cons_of_mem _ hp, e⟩
      · have h := ih n
        refine ⟨by simp; omega, fun x hx => ?_⟩
        rcases List.mem_cons.1 hx with rfl | hx
        · exact ⟨(t, n), List.mem_cons_self, rfl⟩
        · obtain ⟨p, hp, e⟩ := h.2 x hx
          exact ⟨p, List.mem_cons_of_mem _ hp, e⟩

/-! ### the sticks -/
def OkS (l : List S59) : Prop := ∀ i : Nat, i < l.length → -1 ≤ (rd_T59 l i).f1 ∧ (rd_T59 l i).f1 ≤ 1 ∧ -1 ≤ (rd_T59 l i).f2 ∧ (rd_T59 l i).f2 ≤ 1

theorem joy_l1 (c : ByteArray) (A : List Int) (l : List S59) (hA : A.length = l.length) (hn : l.length ≤ 500) (hk : OkS l) : ∀ d i : Nat, ∀ acc : List Int, i + d = l.length → acc.length = i →
    ∃ B : List Int, B.length = l.length ∧ Ev (fun k => keys_Joy.l1 k c A acc l (l.length : Int) (i : Int)) (inp c 0 (A.zip B), 0) := by
  intro d
  induction d with
  | zero =>
    intro i acc hi ha
    refine ⟨acc, by omega, ?_⟩
    refine Ev.step (fun k => ?_) (Ev.bind (f := fun _ t => some (t, 0)) (inputs_is c A acc (by omega) (by omega)) (Ev.now (inp c 0 (A.zip acc), (0 : Int))))
    simp only [keys_Joy.l1]; rw [if_neg (by omega)]
  | succ d ih =>
    intro i acc hi ha
    have e1 : wrap64 ((i : Int) + 1) = ((i + 1 : Nat) : Int) := by rw [w64 (by omega) (by omega)]; omega
    obtain ⟨a1, a2, a3, a4⟩ := hk i (by omega)
    generalize hx : rd_T59 l (i : Int) = x at *
    have e2 : wrap64 (x.f1 + 1) = x.f1 + 1 := w64 (by omega) (by omega)
    have e3 : wrap64 (x.f2 + 1) = x.f2 + 1 := w64 (by omega) (by omega)
    have step : ∀ v : Int, (∃ B : List Int, B.length = l.length ∧ Ev (fun k => keys_Joy.l1 k c A (acc ++ [v]) l (l.length : Int) ((i + 1 : Nat) : Int)) (inp c 0 (A.zip B), 0)) := fun v => ih (i + 1) (acc ++ [v]) (by omega) (by simp; omega)
    by_cases h3 : x.f3 = true
    · obtain ⟨B, hB, hE⟩ := step (Go.bits .or .i64 (Go.bits .or .i64 (rd [1, 0, 2] (x.f1 + 1)) (rd [4, 0, 8] (x.f2 + 1))) 16)
      refine ⟨B, hB, ?_⟩
      refine Ev.step (f := fun k => keys_Joy.j2 k c A acc l l.length i false x.f0 x.f1 x.f2 x.f3) (fun k => ?_) (Ev.step (fun k => ?_) hE)
      · simp only [keys_Joy.l1]; rw [if_pos (by omega), if_pos (by omega), if_pos (by omega), hx, if_neg (by omega), if_neg (by omega), if_neg (by omega), decide_eq_false (by omega)]
      · simp only [keys_Joy.j2]; rw [if_neg (by simp)]; simp only [Option.bind_some]; rw [e2, e3, if_pos (by omega), if_pos (by simp; omega), if_pos (by omega), if_pos (by simp; omega), if_pos h3, if_pos (by omega), e1]
    · obtain ⟨B, hB, hE⟩ := step (Go.bits .or .i64 (rd [1, 0, 2] (x.f1 + 1)) (rd [4, 0, 8] (x.f2 + 1)))
      refine ⟨B, hB, ?_⟩
      refine Ev.step (f := fun k => keys_Joy.j2 k c A acc l l.length i false x.f0 x.f1 x.f2 x.f3) (fun k => ?_) (Ev.step (fun k => ?_) hE)
      · simp only [keys_Joy.l1]; rw [if_pos (by omega), if_pos (by omega), if_pos (by omega), hx, if_neg (by omega), if_neg (by omega), if_neg (by omega), decide_eq_false (by omega)]
      · simp only [keys_Joy.j2]; rw [if_neg (by simp)]; simp only [Option.bind_some]; rw [e2, e3, if_pos (by omega), if_pos (by simp; omega), if_pos (by omega), if_pos (by simp; omega), if_neg h3, if_pos (by omega), e1]

theorem joy_l0 (c : ByteArray) (l : List S59) (hT : OkT (l.map S59.f0)) (hk : OkS l) : ∀ d i : Nat, i + d = l.length →
    ∃ B : List Int, B.length = l.length ∧ Ev (fun k => keys_Joy.l0 k c l ((l.take i).map S59.f0) l (l.length : Int) (i : Int)) (inp c 0 ((l.map S59.f0).zip B), 0) := by
  have hn : l.length ≤ 500 := by have := hT.1; simpa using this
  intro d
  induction d with
  | zero =>
    intro i hi
    rw [List.take_of_length_le (by omega)]
    obtain ⟨B, hB, h2⟩ := joy_l1 c (l.map S59.f0) l (by simp) hn hk l.length 0 [] (by omega) rfl
    refine ⟨B, hB, ?_⟩
    refine Ev.step (fun k => ?_) (Ev.bind (f := fun k t => if t = 0 then (keys_Joy.l1 k c (l.map S59.f0) ([] : List Int) l (l.length : Int) 0) else (some (([] : List (S62)), t))) (times_ok _ hT) ?_)
    · simp only [keys_Joy.l0]; rw [if_neg (by omega)]
    · exact Ev.congr (fun k => by rw [if_pos rfl]; rfl) h2
  | succ d ih =>
    intro i hi
    have e1 : wrap64 ((i : Int) + 1) = ((i + 1 : Nat) : Int) := by rw [w64 (by omega) (by omega)]; omega
    obtain ⟨B, hB, hE⟩ := ih (i + 1) (by omega)
    refine ⟨B, hB, ?_⟩
    refine Ev.step (fun k => ?_) hE
    simp only [keys_Joy.l0]; rw [if_pos (by omega), if_pos (by omega), if_pos (by omega), e1, if_pos (by simp; omega)]
    congr 1
    rw [List.take_succ_eq_append_getElem (show i < l.length by omega), List.map_append]
    simp [rd_T59, List.getD_eq_getElem?_getD, List.getElem?_eq_getElem (show i < l.length by omega)]

theorem joy_is (c : ByteArray) (l : List S59) (hT : OkP (l.map S59.f0)) (hk : OkS l) : ∃ r : List S62, Ev (fun k => keys_Joy.f k c l) (r, 0) ∧ r.length ≤ l.length ∧ ∀ x ∈ r, 0 ≤ x.f0 ∧ x.f0 ≤ 100000 := by
  obtain ⟨B, hB, h⟩ := joy_l0 c l (okT_of _ hT) hk l.length 0 (by omega)
  have hi := inp_of c ((l.map S59.f0).zip B) 0
  refine ⟨_, h, ?_, ?_⟩
  · have := hi.1; simp at this; omega
  · intro x hx
    obtain ⟨p, hp, e⟩ := hi.2 x hx
    have := (List.of_mem_zip hp).1
    rw [e]; exact hT.2.1 _ this

/-! ### the pen -/
theorem pens_is (c : ByteArray) (n x y : Int) (n0 : 0 ≤ n) (n1 : n < 39) (x0 : 0 ≤ x) (x1 : x < 48) (y0 : 0 ≤ y) (y1 : y < 32) :
    Ev (fun k => keys_Pens.f k c [⟨n, x, y⟩]) ([⟨n * 2560 + y * 64 + x, c, 128⟩, ⟨n * 2560 + y * 64 + x + 1, c, 0⟩], 0) := by
  have r0 : rd_T52 [⟨n, x, y⟩] 0 = ⟨n, x, y⟩ := rfl
  refine Ev.congr (f := fun k => keys_Pens.l0 k c [⟨n, x, y⟩] [] [⟨n, x, y⟩] 1 0) (fun k => by unfold keys_Pens.f; rw [if_neg (by simp)]; rfl) ?_
  refine Ev.step (f := fun k => keys_Pens.j1 k c [⟨n, x, y⟩] [] 0 [⟨n, x, y⟩] 1 0 false n x y) (fun k => ?_) ?_
  · simp only [keys_Pens.l0, r0]; rw [if_pos (by omega), if_pos (by omega), if_pos (by simp), if_neg (by omega), if_neg (by omega), if_neg (by omega), if_neg (by omega), if_neg (by omega), decide_eq_false (by omega)]
  · refine Ev.step (f := fun k => keys_Pens.l0 k c [⟨n, x, y⟩] [⟨n * 2560 + y * 64 + x, c, 128⟩, ⟨n * 2560 + y * 64 + x + 1, c, 0⟩] [⟨n, x, y⟩] 1 1) (fun k => ?_) ?_
    · simp only [keys_Pens.j1]; rw [if_neg (by simp), if_neg (by omega)]; simp only [Option.bind_some]
      rw [if_pos (by simp)]
      rw [w64 (n := n * 2560) (by omega) (by omega), w64 (n := y * 64) (by omega) (by omega), w64 (n := n * 2560 + y * 64) (by omega) (by omega), w64 (n := n * 2560 + y * 64 + x) (by omega) (by omega), w64 (n := n * 2560 + y * 64 + x + 1) (by omega) (by omega), List.nil_append, show wrap64 (0 + 1) = 1 from by unfold wrap64; omega]
    · refine Ev.step (fun k => ?_) (Ev.now _)
      simp only [keys_Pens.l0]; rw [if_neg (by omega)]

theorem place_is (n x y : Int) (n0 : 0 ≤ n) (n1 : n < 39) (x0 : 0 ≤ x) (x1 : x < 48) (y0 : 0 ≤ y) (y1 : y < 32) : watch_Place.f (n * 2560 + y * 64 + x) = some (y, x) := by
  unfold watch_Place.f
  have a1 : Int.tmod (n * 2560 + y * 64 + x) 2560 = y * 64 + x := by rw [Int.tmod_eq_emod_of_nonneg (by omega)]; omega
  have a2 : wrap64 (Int.tmod (n * 2560 + y * 64 + x) 2560 + 2560) = y * 64 + x + 2560 := by rw [a1]; exact w64 (by omega) (by omega)
  have a3 : Int.tmod (y * 64 + x + 2560) 2560 = y * 64 + x := by rw [Int.tmod_eq_emod_of_nonneg (by omega)]; omega
  rw [a2, a3, Int.tdiv_eq_ediv_of_nonneg (by omega), Int.tmod_eq_emod_of_nonneg (by omega), w64 (by omega) (by omega)]
  have b1 : (y * 64 + x) / 64 = y := by omega
  have b2 : (y * 64 + x) % 64 = x := by omega
  rw [b1, b2]

/-! ### the sort by insertion -/
theorem gtd_swp (l : List S62) (j m : Nat) (h : j + 1 < l.length) : gtd (swp l j) m = if m = j then gtd l (j + 1) else if m = j + 1 then gtd l j else gtd l m := by
  unfold swp gtd
  simp only [List.getD_eq_getElem?_getD, List.getElem?_set, List.length_set]
  by_cases h1 : m = j
  · subst h1; rw [if_pos rfl, if_pos (by omega), if_pos rfl]; rfl
  · by_cases h2 : m = j + 1
    · subst h2; rw [if_neg (by omega), if_pos rfl, if_pos h, if_neg (by omega), if_pos rfl]; rfl
    · rw [if_neg (by omega), if_neg (by omega), if_neg h1, if_neg h2]

def key (l : List S62) (i : Nat) : Int := (gtd l i).f0
theorem down_sorted (i : Nat) : ∀ (j : Nat) (l : List S62), j ≤ i → i < l.length → (∀ a b, a < b → b ≤ i → b ≠ j → key l a ≤ key l b) → ∀ a b, a < b → b ≤ i → key (down j l) a ≤ key (down j l) b := by
  intro j
  induction j with
  | zero => intro l _ _ h a b h1 h2; exact h a b h1 h2 (by omega)
  | succ j ih =>
    intro l hj hl h a b h1 h2
    simp only [down]
    split
    · rename_i hlt
      refine ih (swp l j) (by omega) (by rw [swp_len]; exact hl) ?_ a b h1 h2
      intro a b h1 h2 h3
      unfold key
      rw [gtd_swp l j a (by omega), gtd_swp l j b (by omega), if_neg h3]
      have hh := fun a b x y z => h a b x y z
      unfold key at hh
      by_cases b1 : b = j + 1
      · rw [if_pos b1]
        by_cases a1 : a = j
        · rw [if_pos a1]; omega
        · rw [if_neg a1, if_neg (by omega)]; exact hh a j (by omega) (by omega) (by omega)
      · rw [if_neg b1]
        by_cases a1 : a = j
        · rw [if_pos a1]; exact hh (j + 1) b (by omega) h2 b1
        · rw [if_neg a1]
          by_cases a2 : a = j + 1
          · rw [if_pos a2]; exact hh j b (by omega) h2 b1
          · rw [if_neg a2]; exact hh a b h1 h2 b1
    · rename_i hge
      by_cases hb : b = j + 1
      · subst hb
        by_cases ha : a = j
        · subst ha; unfold key; omega
        · have := h a j (by omega) (by omega) (by omega)
          unfold key at *; omega
      · exact h a b h1 h2 hb

theorem down_tail (j : Nat) : ∀ (l : List S62) (m : Nat), j < m → j < l.length → gtd (down j l) m = gtd l m := by
  induction j with
  | zero => intro l m _ _; rfl
  | succ j ih =>
    intro l m h hl
    simp only [down]
    split
    · rw [ih (swp l j) m (by omega) (by rw [swp_len]; omega), gtd_swp l j m (by omega), if_neg (by omega), if_neg (by omega)]
    · rfl

theorem insN_sorted : ∀ (n i : Nat) (l : List S62), i + n = l.length → (∀ a b, a < b → b < i → key l a ≤ key l b) → ∀ a b, a < b → b < l.length → key (insN n i l) a ≤ key (insN n i l) b := by
  intro n
  induction n with
  | zero => intro i l h hs a b h1 h2; exact hs a b h1 (by omega)
  | succ n ih =>
    intro i l h hs a b h1 h2
    simp only [insN]
    refine ih (i + 1) (down i l) (by rw [down_len]; omega) ?_ a b h1 (by rw [down_len]; exact h2)
    intro a b h1 h2
    exact down_sorted i i l (Nat.le_refl _) (by omega) (fun a b x y z => hs a b x (by omega)) a b h1 (by omega)
theorem isort_sorted (l : List S62) (h : 1 ≤ l.length) : ∀ a b, a < b → b < l.length → key (isort l) a ≤ key (isort l) b :=
  insN_sorted (l.length - 1) 1 l (by omega) (fun a b h1 h2 => by omega)

theorem insN_len : ∀ (n i : Nat) (l : List S62), (insN n i l).length = l.length := by
  intro n
  induction n with
  | zero => intro i l; rfl
  | succ n ih => intro i l; simp only [insN]; rw [ih, down_len]
theorem isort_len (l : List S62) : (isort l).length = l.length := insN_len _ _ _

def InAll (P : S62 → Prop) (l : List S62) : Prop := ∀ i, i < l.length → P (gtd l i)
theorem down_all (P : S62 → Prop) : ∀ (j : Nat) (l : List S62), j < l.length → InAll P l → InAll P (down j l) := by
  intro j
  induction j with
  | zero => intro l _ h; exact h
  | succ j ih =>
    intro l hj h
    simp only [down]
    split
    · refine ih (swp l j) (by rw [swp_len]; omega) ?_
      intro m hm
      rw [swp_len] at hm
      rw [gtd_swp l j m hj]
      split
      · exact h _ hj
      · split
        · exact h _ (by omega)
        · exact h _ hm
    · exact h
theorem insN_all (P : S62 → Prop) : ∀ (n i : Nat) (l : List S62), i + n = l.length → InAll P l → InAll P (insN n i l) := by
  intro n
  induction n with
  | zero => intro i l _ h; exact h
  | succ n ih =>
    intro i l hl h
    exact ih (i + 1) (down i l) (by rw [down_len]; omega) (down_all P i l (by omega) h)
theorem isort_all (P : S62 → Prop) (l : List S62) (h1 : 1 ≤ l.length) (h : InAll P l) : InAll P (isort l) := insN_all P _ _ l (by omega) h

theorem merge_is (a b : List S62) (h1 : 1 ≤ (a ++ b).length) (h2 : (a ++ b).length < 20) (h : ∀ x ∈ a ++ b, 0 ≤ x.f0 ∧ x.f0 ≤ 1000000000) :
    ∃ m, keys_Merge.f a b = some m ∧ m.length = (a ++ b).length ∧ api_Input_30.f m = some true := by
  refine ⟨isort (a ++ b), by unfold keys_Merge.f; rw [if_pos ⟨h1, h2⟩], isort_len _, ?_⟩
  unfold api_Input_30.f
  rw [if_pos]
  refine ⟨?_, ?_⟩
  · unfold srt
    rw [List.all_eq_true]
    intro i hi
    rw [isort_len] at hi
    have hi' := List.mem_range.1 hi
    exact decide_eq_true (isort_sorted (a ++ b) h1 i (i + 1) (by omega) (by omega))
  · unfold bnd
    rw [List.all_eq_true]
    intro i hi
    have hi' := List.mem_range.1 hi
    refine decide_eq_true (isort_all (fun x => 0 ≤ x.f0 ∧ x.f0 ≤ 1000000000) (a ++ b) h1 ?_ i hi')
    intro j hj
    apply h
    unfold gtd
    rw [List.getD_eq_getElem?_getD, List.getElem?_eq_getElem hj]
    exact List.getElem_mem _

theorem typed_is : Ev (fun k => bakekeep3_typed.f k) true := Ev.of bakekeep3_typed.mono (k := 40) (by decide +kernel)

/-! ### the sticks that are drawn -/
def SInv (acc : List S59) (a : Int) : Prop := (acc.map S59.f0).Pairwise (· ≤ ·) ∧ (∀ x ∈ acc, 0 ≤ x.f0 ∧ x.f0 ≤ a) ∧ (∀ x ∈ acc, -1 ≤ x.f1 ∧ x.f1 ≤ 1 ∧ -1 ≤ x.f2 ∧ x.f2 ≤ 1) ∧ 0 ≤ a ∧ a ≤ 9000 * acc.length
theorem sinv_snoc (acc : List S59) (a t : Int) (x : S59) (h : SInv acc a) (h0 : 0 ≤ t) (h1 : t < 9000) (hx : x.f0 = a + t) (hk : -1 ≤ x.f1 ∧ x.f1 ≤ 1 ∧ -1 ≤ x.f2 ∧ x.f2 ≤ 1) : SInv (acc ++ [x]) (a + t) := by
  obtain ⟨p, q, r, s, u⟩ := h
  refine ⟨?_, ?_, ?_, by omega, by simp; omega⟩
  · rw [List.map_append, List.pairwise_append]
    refine ⟨p, by simp, ?_⟩
    intro y hy z hz
    obtain ⟨y', hy', rfl⟩ := List.mem_map.1 hy
    have := q y' hy'
    simp at hz; omega
  · intro y hy
    rcases List.mem_append.1 hy with hy | hy
    · have := q y hy; omega
    · simp at hy; subst hy; omega
  · intro y hy
    rcases List.mem_append.1 hy with hy | hy
    · exact r y hy
    · simp at hy; subst hy; exact hk
theorem sinv_ok (acc : List S59) (a : Int) (h : SInv acc a) (hn : acc.length ≤ 10) : OkP (acc.map S59.f0) ∧ OkS acc := by
  obtain ⟨p, q, r, s, u⟩ := h
  refine ⟨⟨by simp; omega, ?_, p⟩, ?_⟩
  · intro x hx
    obtain ⟨y, hy, rfl⟩ := List.mem_map.1 hx
    have := q y hy; omega
  · intro i hi
    have := r acc[i] (List.getElem_mem _)
    simpa [rd_T59, List.getD_eq_getElem?_getD, List.getElem?_eq_getElem hi] using this

theorem pen_end (n x y : Int) (n0 : 0 ≤ n) (n1 : n < 39) (x0 : 0 ≤ x) (x1 : x < 48) (y0 : 0 ≤ y) (y1 : y < 32) (S : List S59) (hl : S.length ≤ 10) (h : OkP (S.map S59.f0) ∧ OkS S) (T : List Int) (i a : Int) (hi : ¬ i < (T.length : Int)) :
    Ev (fun k => bakekeep3_KeysPen.l0 k [⟨n * 2560 + y * 64 + x, (⟨#[112]⟩ : ByteArray), 128⟩, ⟨n * 2560 + y * 64 + x + 1, (⟨#[112]⟩ : ByteArray), 0⟩] 0 S a T (T.length : Int) i n x y) true := by
  obtain ⟨r, hE, r1, r2⟩ := joy_is ⟨#[113]⟩ S h.1 h.2
  generalize ht : n * 2560 + y * 64 + x = t at *
  have t0 : 0 ≤ t := by omega
  have t1 : t < 100000 := by omega
  obtain ⟨m, m1, m2, m3⟩ := merge_is [⟨t, (⟨#[112]⟩ : ByteArray), 128⟩, ⟨t + 1, (⟨#[112]⟩ : ByteArray), 0⟩] r (by simp) (by simp; omega) (by
    intro z hz
    rcases List.mem_append.1 hz with hz | hz
    · simp only [List.mem_cons, List.not_mem_nil, or_false] at hz
      rcases hz with rfl | rfl
      · exact ⟨t0, by show t ≤ _; omega⟩
      · exact ⟨by show 0 ≤ t + 1; omega, by show t + 1 ≤ _; omega⟩
    · have := r2 z hz; omega)
  refine Ev.step (fun k => ?_) (Ev.bind (f := fun k (bt203 : List S62 × Int) => ((bakekeep3_typed.f k).bind fun t207 => (if t207 = true then (if (0 : Int) = 0 then (if bt203.2 = 0 then (bakekeep3_KeysPen.j1 k [⟨t, (⟨#[112]⟩ : ByteArray), 128⟩, ⟨t + 1, (⟨#[112]⟩ : ByteArray), 0⟩] bt203.1 false n x y) else (bakekeep3_KeysPen.j1 k [⟨t, (⟨#[112]⟩ : ByteArray), 128⟩, ⟨t + 1, (⟨#[112]⟩ : ByteArray), 0⟩] bt203.1 true n x y)) else (bakekeep3_KeysPen.j1 k [⟨t, (⟨#[112]⟩ : ByteArray), 128⟩, ⟨t + 1, (⟨#[112]⟩ : ByteArray), 0⟩] bt203.1 true n x y)) else (bakekeep3_KeysPen.j1 k [⟨t, (⟨#[112]⟩ : ByteArray), 128⟩, ⟨t + 1, (⟨#[112]⟩ : ByteArray), 0⟩] bt203.1 true n x y)))) hE ?_)
  · simp only [bakekeep3_KeysPen.l0]; rw [if_neg hi]
    have q1 : ((([⟨t, (⟨#[112]⟩ : ByteArray), 128⟩, ⟨t + 1, (⟨#[112]⟩ : ByteArray), 0⟩] : List S62).length : Int) = 2) := rfl
    have q2 : ((rd_T62 [⟨t, (⟨#[112]⟩ : ByteArray), 128⟩, ⟨t + 1, (⟨#[112]⟩ : ByteArray), 0⟩] 0).f2 != 128) = false := rfl
    simp only [q1, q2, if_true, show (0 : Int) < 2 from by decide]
  · refine Ev.bind (f := fun k t207 => (if t207 = true then (if (0 : Int) = 0 then (if (r, (0 : Int)).2 = 0 then (bakekeep3_KeysPen.j1 k [⟨t, (⟨#[112]⟩ : ByteArray), 128⟩, ⟨t + 1, (⟨#[112]⟩ : ByteArray), 0⟩] r false n x y) else (bakekeep3_KeysPen.j1 k [⟨t, (⟨#[112]⟩ : ByteArray), 128⟩, ⟨t + 1, (⟨#[112]⟩ : ByteArray), 0⟩] r true n x y)) else (bakekeep3_KeysPen.j1 k [⟨t, (⟨#[112]⟩ : ByteArray), 128⟩, ⟨t + 1, (⟨#[112]⟩ : ByteArray), 0⟩] r true n x y)) else (bakekeep3_KeysPen.j1 k [⟨t, (⟨#[112]⟩ : ByteArray), 128⟩, ⟨t + 1, (⟨#[112]⟩ : ByteArray), 0⟩] r true n x y))) typed_is ?_
    refine Ev.congr (f := fun k => bakekeep3_KeysPen.j1 k [⟨t, (⟨#[112]⟩ : ByteArray), 128⟩, ⟨t + 1, (⟨#[112]⟩ : ByteArray), 0⟩] r false n x y) (fun k => by rw [if_pos rfl, if_pos rfl, if_pos rfl]) ?_
    refine Ev.step (fun k => ?_) (Ev.now true)
    simp only [bakekeep3_KeysPen.j1]
    have q3 : (rd_T62 [⟨t, (⟨#[112]⟩ : ByteArray), 128⟩, ⟨t + 1, (⟨#[112]⟩ : ByteArray), 0⟩] 0).f0 = t := rfl
    have q4 : (rd_T62 [⟨t, (⟨#[112]⟩ : ByteArray), 128⟩, ⟨t + 1, (⟨#[112]⟩ : ByteArray), 0⟩] 1).f0 = t + 1 := rfl
    have q5 : watch_Place.f t = some (y, x) := by rw [← ht]; exact place_is n x y n0 n1 x0 x1 y0 y1
    have q6 : ((([⟨t, (⟨#[112]⟩ : ByteArray), 128⟩, ⟨t + 1, (⟨#[112]⟩ : ByteArray), 0⟩] : List S62).length : Int)) = 2 := rfl
    simp only [q3, q4, q6]
    rw [if_neg (by simp), if_pos (by omega), q5, Option.bind_some, m1, Option.bind_some, if_pos rfl, if_pos rfl, if_pos (by omega), w64 (n := t + 1) (by omega) (by omega), if_pos rfl, w64 (by omega) (by omega), if_pos (by rw [m2]; simp; omega), m3]
    rfl

theorem pen_l0 (n x y : Int) (n0 : 0 ≤ n) (n1 : n < 39) (x0 : 0 ≤ x) (x1 : x < 48) (y0 : 0 ≤ y) (y1 : y < 32) (T : List Int) (hT : T.length ≤ 10) : ∀ d i : Nat, ∀ (S : List S59) (a : Int), i + d = T.length → S.length = i → SInv S a →
    Ev (fun k => bakekeep3_KeysPen.l0 k [⟨n * 2560 + y * 64 + x, (⟨#[112]⟩ : ByteArray), 128⟩, ⟨n * 2560 + y * 64 + x + 1, (⟨#[112]⟩ : ByteArray), 0⟩] 0 S a T (T.length : Int) (i : Int) n x y) true := by
  intro d
  induction d with
  | zero => intro i S a hi hs h; exact pen_end n x y n0 n1 x0 x1 y0 y1 S (by omega) (sinv_ok S a h (by omega)) T i a (by omega)
  | succ d ih =>
    intro i S a hi hs h
    have ⟨_, _, _, a0, a1⟩ := h
    have e1 : wrap64 ((i : Int) + 1) = ((i + 1 : Nat) : Int) := by rw [w64 (by omega) (by omega)]; omega
    obtain ⟨p, hp, p0, p1⟩ := below_is (rd T (i : Int)) 9000 (by omega) (by omega)
    obtain ⟨q, hq, q0, q1⟩ := below_is (rd T (i : Int)) 3 (by omega) (by omega)
    obtain ⟨s, hs', s0, s1⟩ := below_is (wrap64 (Int.tdiv (rd T (i : Int)) 3)) 3 (by omega) (by omega)
    have h1 := sinv_snoc S a p ⟨a + p, q - 1, s - 1, ((Go.bits .and .i64 (rd T (i : Int)) 1) == 1)⟩ h p0 p1 rfl ⟨by show -1 ≤ q - 1; omega, by show q - 1 ≤ 1; omega, by show -1 ≤ s - 1; omega, by show s - 1 ≤ 1; omega⟩
    refine Ev.step (fun k => ?_) (ih (i + 1) _ _ (by omega) (by simp; omega) h1)
    simp only [bakekeep3_KeysPen.l0]
    rw [if_pos (by omega), if_pos (by omega), if_pos (by omega), hp, Option.bind_some, hq, Option.bind_some, hs', Option.bind_some, if_pos (by omega), e1, w64 (n := a + p) (by omega) (by omega), w64 (n := q - 1) (by omega) (by omega), w64 (n := s - 1) (by omega) (by omega)]

theorem KeysPen : bakekeep3_KeysPen.Pure := by
  intro a0 a1 a2 l3 _ _ _ hm _ _
  obtain ⟨n, hn, n0, n1⟩ := below_is a0 39 (by omega) (by omega)
  obtain ⟨x, hx, x0, x1⟩ := below_is a1 48 (by omega) (by omega)
  obtain ⟨y, hy, y0, y1⟩ := below_is a2 32 (by omega) (by omega)
  apply Ev.rounds
  have hT : (l3.take ((mn (l3.length : Int) 10) : Int).toNat).length ≤ 10 := by
    rw [List.length_take]; unfold mn; split <;> omega
  have h0 := pen_l0 n x y n0 n1 x0 x1 y0 y1 (l3.take ((mn (l3.length : Int) 10) : Int).toNat) hT (l3.take ((mn (l3.length : Int) 10) : Int).toNat).length 0 [] 0 (by omega) rfl ⟨by simp, by simp, by simp, by omega, by simp⟩
  refine Ev.congr (fun k => by unfold bakekeep3_KeysPen.f; rw [hn, Option.bind_some, hx, Option.bind_some, hy, Option.bind_some]) (Ev.bind (f := fun k (bt191 : List S62 × Int) => (if 0 ≤ (mn (l3.length : Int) 10) then (if (mn (l3.length : Int) 10) ≤ (l3.length : Int) then (bakekeep3_KeysPen.l0 k bt191.1 bt191.2 ([] : List (S59)) 0 (l3.take ((mn (l3.length : Int) 10) : Int).toNat) ((l3.take ((mn (l3.length : Int) 10) : Int).toNat).length : Int) 0 n x y) else (none)) else (none))) (pens_is ⟨#[112]⟩ n x y n0 n1 x0 x1 y0 y1) ?_)
  refine Ev.congr (fun k => ?_) h0
  rw [if_pos (by unfold mn; split <;> omega), if_pos (by unfold mn; split <;> omega)]
  rfl
end Go.Proofs.Ytcicoedgjoploaa.PenPure
