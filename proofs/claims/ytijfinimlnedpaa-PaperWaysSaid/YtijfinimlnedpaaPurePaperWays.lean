/- PaperWays, the plain law: a line has as many places as its longer way and one more; a plotter whose pen is up makes none; more commands never take ink away. -/
import Derived.Test.YtijfinimlnedpaaPapSheet
namespace Go.Proofs.Ytijfinimlnedpaa.Pure
open Go.RowKit Go.Proofs.Ytijfinimlnedpaa.PPap Go.Proofs.YtijfinimlnedpaaW.PrintWords Go.Proofs.YtijfinimlnedpaaW.PrintLast Go.Proofs.YtijfinimlnedpaaW.PrintMore
set_option linter.unusedVariables false
set_option linter.unusedSimpArgs false

/-! counting -/
def cnt : List Bool → Nat
  | [] => 0
  | b :: t => (if b then 1 else 0) + cnt t
theorem cnt_set (s : List Bool) : ∀ p, p < s.length → s.getD p false = false → cnt (s.set p true) = cnt s + 1 := by
  induction s with
  | nil => intro p h; simp at h
  | cons b t ih =>
    intro p hp h
    cases p with
    | zero => simp at h; subst h; simp [cnt]; omega
    | succ p =>
      simp only [List.set_cons_succ, cnt]
      rw [ih p (by simpa using hp) (by simpa using h)]; omega
theorem cnt_zero (n : Nat) : cnt (List.replicate n false) = 0 := by
  induction n with
  | zero => rfl
  | succ n ih => rw [List.replicate_succ]; simp [cnt, ih]
theorem ink_l0 (l : List Bool) (hl : l.length ≤ 5000) : ∀ (m i a : Nat), i + m = l.length → a ≤ i → Ev (fun k => paper_Ink.l0 k (a : Int) l (l.length : Int) (i : Int)) (((a + cnt (l.drop i) : Nat)) : Int) := by
  intro m
  induction m with
  | zero =>
    intro i a hi ha
    refine Ev.step (fun k => ?_) (Ev.now _)
    simp only [paper_Ink.l0]
    rw [if_neg (by omega), List.drop_eq_nil_of_le (by omega)]; simp [cnt]
  | succ m ih =>
    intro i a hi ha
    have hil : i < l.length := by omega
    have hrd : rdOf false l (i : Int) = l[i] := by unfold rdOf; rw [Int.toNat_natCast, List.getD_eq_getElem?_getD, List.getElem?_eq_getElem hil]; rfl
    rw [List.drop_eq_getElem_cons hil]
    by_cases hb : l[i] = true
    · have h := ih (i + 1) (a + 1) (by omega) (by omega)
      refine Ev.step (fun k => ?_) (by rw [hb]; simp only [cnt, if_true]; rw [show a + (1 + cnt (l.drop (i + 1))) = a + 1 + cnt (l.drop (i + 1)) by omega]; exact h)
      simp only [paper_Ink.l0]
      rw [if_pos (by omega), if_pos (by omega), if_pos (by omega), hrd, if_pos hb, w64 (n := (a : Int) + 1) (by omega) (by omega), w64 (n := (i : Int) + 1) (by omega) (by omega)]
      rfl
    · have h := ih (i + 1) a (by omega) (by omega)
      have hb' : l[i] = false := by simpa using hb
      refine Ev.step (fun k => ?_) (by rw [hb']; simp only [cnt, Bool.false_eq_true, if_false, Nat.zero_add]; exact h)
      simp only [paper_Ink.l0]
      rw [if_pos (by omega), if_pos (by omega), if_pos (by omega), hrd, if_neg hb, w64 (n := (i : Int) + 1) (by omega) (by omega)]
      rfl
theorem ink_ev (l : List Bool) (hl : l.length ≤ 5000) : Ev (fun k => paper_Ink.f k l) ((cnt l : Nat) : Int) := by
  have h := ink_l0 l hl l.length 0 0 (by omega) (by omega)
  rw [Nat.zero_add] at h
  exact h

/-! what is inked stays -/
theorem getD_set_true (s : List Bool) (p q : Nat) (h : s.getD q false = true) : (s.set p true).getD q false = true := by
  rw [List.getD_eq_getElem?_getD] at h ⊢
  rw [List.getElem?_set]
  split
  · split
    · rfl
    · rename_i h1 h2; subst h1; rw [List.getElem?_eq_none (by omega)] at h; exact h
  · exact h
theorem getD_set_self (s : List Bool) (p : Nat) (h : p < s.length) : (s.set p true).getD p false = true := by
  rw [List.getD_eq_getElem?_getD, List.getElem?_set_self h]; rfl
theorem getD_set_ne (s : List Bool) (p q : Nat) (h : p ≠ q) : (s.set p true).getD q false = s.getD q false := by
  rw [List.getD_eq_getElem?_getD, List.getElem?_set_ne h, ← List.getD_eq_getElem?_getD]
theorem inks_keep (l : List S132) : ∀ s q, s.getD q false = true → (inks s l).getD q false = true := by
  induction l with
  | nil => intro s q h; exact h
  | cons d t ih => intro s q h; exact ih _ _ (getD_set_true _ _ _ h)
theorem inks_has (l : List S132) : ∀ s d, d ∈ l → pos d < s.length → (inks s l).getD (pos d) false = true := by
  induction l with
  | nil => intro s d h; cases h
  | cons e t ih =>
    intro s d h hl
    rcases List.mem_cons.1 h with h | h
    · subst h; exact inks_keep t _ _ (getD_set_self _ _ hl)
    · exact ih _ d h (by simpa using hl)
theorem go_keep_ink (t : St) (c : Cmd) (q : Nat) (h : t.s.getD q false = true) : (t.go c).s.getD q false = true := by
  cases c with
  | up => exact h
  | dn => exact getD_set_true _ _ _ h
  | mv u v => simp only [St.go]; split; exact inks_keep _ _ _ h; exact h
theorem run_keep_ink (l : List Cmd) : ∀ (t : St) (q : Nat), t.s.getD q false = true → (t.run l).s.getD q false = true := by
  induction l with
  | nil => intro t q h; exact h
  | cons c r ih => intro t q h; exact ih _ _ (go_keep_ink t c q h)
theorem run_append (t : St) (a b : List Cmd) : t.run (a ++ b) = (t.run a).run b := by unfold St.run; rw [List.foldl_append]

/-! distinct places -/
theorem cnt_inks (l : List S132) : ∀ s, (∀ d ∈ l, pos d < s.length ∧ s.getD (pos d) false = false) → l.Pairwise (fun d e => pos d ≠ pos e) → cnt (inks s l) = cnt s + l.length := by
  induction l with
  | nil => intro s _ _; rfl
  | cons d t ih =>
    intro s h hp
    have h0 := h d List.mem_cons_self
    obtain ⟨hd, ht⟩ := List.pairwise_cons.1 hp
    show cnt (inks (s.set (pos d) true) t) = _
    rw [ih _ (fun e he => ?_) ht, cnt_set _ _ h0.1 h0.2, List.length_cons]
    · omega
    · have := h e (List.mem_cons_of_mem _ he)
      refine ⟨by simpa using this.1, ?_⟩
      rw [getD_set_ne _ _ _ (hd e he)]; exact this.2
def dot (x y u v n k : Int) : S132 := ⟨rnd x u k n, rnd y v k n⟩
theorem dot_inj (x y u v : Int) (hx : 0 ≤ x ∧ x < 64) (hy : 0 ≤ y ∧ y < 64) (hu : 0 ≤ u ∧ u < 64) (hv : 0 ≤ v ∧ v < 64) (n : Int) (hn : n = steps x y u v) (h0 : 0 < n) (k j : Int) (a : 0 ≤ k) (b : k ≤ n) (c : 0 ≤ j) (d : j ≤ n) (h : pos (dot x y u v n k) = pos (dot x y u v n j)) : k = j := by
  obtain ⟨s0, s1, s2, s3, s4⟩ := steps_b x y u v hx hy hu hv
  rw [← hn] at s0 s1 s2 s3 s4
  have in64 : ∀ i, 0 ≤ i → i ≤ n → In64 (dot x y u v n i) := fun i h1 h2 => by
    have p := rnd_between x u i n h1 h2 h0
    have q := rnd_between y v i n h1 h2 h0
    refine ⟨?_, ?_⟩
    · show 0 ≤ rnd x u i n ∧ rnd x u i n < 64
      rcases Int.le_total x u with h | h
      · have := p.1 h; omega
      · have := p.2 h; omega
    · show 0 ≤ rnd y v i n ∧ rnd y v i n < 64
      rcases Int.le_total y v with h | h
      · have := q.1 h; omega
      · have := q.2 h; omega
  obtain ⟨e1, e2⟩ := pos_inj (in64 k a b) (in64 j c d) h
  replace e1 : rnd x u k n = rnd x u j n := e1
  replace e2 : rnd y v k n = rnd y v j n := e2
  rcases s2 with s | s
  · rcases (ab_le (u - x)).2.2.2 with h | h
    · have p := (rnd_long x u k n h0).1 (by omega); have q := (rnd_long x u j n h0).1 (by omega); omega
    · have p := (rnd_long x u k n h0).2 (by omega); have q := (rnd_long x u j n h0).2 (by omega); omega
  · rcases (ab_le (v - y)).2.2.2 with h | h
    · have p := (rnd_long y v k n h0).1 (by omega); have q := (rnd_long y v j n h0).1 (by omega); omega
    · have p := (rnd_long y v k n h0).2 (by omega); have q := (rnd_long y v j n h0).2 (by omega); omega
theorem rnd_zero (f t n : Int) (hn : 0 < n) : rnd f t 0 n = f := by
  unfold rnd
  rw [Int.mul_zero, Int.zero_add, Int.ediv_eq_zero_of_lt (by omega) (by omega)]; omega

/-- The sheet of one line. -/
def one (x y u v : Int) : St := St.run ⟨List.replicate 4096 false, false, 0, 0⟩ [.mv x y, .dn, .mv u v]
theorem one_is (x y u v : Int) (hx : 0 ≤ x ∧ x < 64) (hy : 0 ≤ y ∧ y < 64) (hu : 0 ≤ u ∧ u < 64) (hv : 0 ≤ v ∧ v < 64) :
    (cnt (one x y u v).s : Int) = 1 + steps x y u v ∧ (one x y u v).s.getD (y * 64 + x).toNat false = true ∧ (one x y u v).s.getD (v * 64 + u).toNat false = true := by
  obtain ⟨s0, s1, -⟩ := steps_b x y u v hx hy hu hv
  have hin := dots_in x y u v hx hy hu hv
  have hdi := dot_inj x y u v hx hy hu hv (steps x y u v) rfl
  have hs : (one x y u v).s = inks ((List.replicate 4096 false).set (pos ⟨x, y⟩) true) (dots x y u v (steps x y u v) (steps x y u v).toNat) := rfl
  have hp0 : pos (⟨x, y⟩ : S132) < 4096 := pos_lt ⟨hx, hy⟩
  rw [hs]
  have hend : (⟨u, v⟩ : S132) ∈ dots x y u v (steps x y u v) (steps x y u v).toNat := by
    unfold dots
    by_cases hz : steps x y u v = 0
    · have : u = x ∧ v = y := by
        unfold steps mx ab at hz; revert hz; repeat' split <;> omega
      rw [this.1, this.2]; exact List.mem_cons_self
    · refine List.mem_cons_of_mem _ (List.mem_map.2 ⟨(steps x y u v).toNat - 1, List.mem_range.2 (by omega), ?_⟩)
      rw [show (((steps x y u v).toNat - 1 : Nat) : Int) + 1 = steps x y u v by omega, rnd_end _ _ _ (by omega), rnd_end _ _ _ (by omega)]
  refine ⟨?_, ?_, ?_⟩
  · generalize hn : steps x y u v = n at *
    have hz : inks ((List.replicate 4096 false).set (pos ⟨x, y⟩) true) (dots x y u v n n.toNat) = inks ((List.replicate 4096 false).set (pos ⟨x, y⟩) true) ((List.range n.toNat).map fun i : Nat => dot x y u v n ((i : Int) + 1)) := by
      unfold dots
      show inks (((List.replicate 4096 false).set (pos ⟨x, y⟩) true).set (pos ⟨x, y⟩) true) _ = _
      rw [List.set_set]; rfl
    rw [hz, cnt_inks]
    · rw [cnt_set _ _ (by rw [List.length_replicate]; exact hp0) (by rw [List.getD_eq_getElem?_getD, List.getElem?_replicate]; split <;> rfl), cnt_zero, List.length_map, List.length_range]
      omega
    · intro d hd
      obtain ⟨i, hi, rfl⟩ := List.mem_map.1 hd
      have hi' := List.mem_range.1 hi
      refine ⟨by rw [List.length_set, List.length_replicate]; exact pos_lt (hin _ (by unfold dots; exact List.mem_cons_of_mem _ hd)), ?_⟩
      rw [getD_set_ne, List.getD_eq_getElem?_getD, List.getElem?_replicate]
      · split <;> rfl
      · intro e
        have h2 : pos (dot x y u v n 0) = pos (dot x y u v n ((i : Int) + 1)) := by
          rw [← e]; unfold dot; rw [rnd_zero _ _ _ (by omega), rnd_zero _ _ _ (by omega)]
        have := hdi (by omega) 0 ((i : Int) + 1) (by omega) (by omega) (by omega) (by omega) h2
        omega
    · refine List.pairwise_map.2 ?_
      refine List.Pairwise.imp_of_mem ?_ (List.pairwise_lt_range (n := n.toNat))
      intro a b ha hb hab e
      have h1 := List.mem_range.1 ha
      have h2 := List.mem_range.1 hb
      have := hdi (by omega) ((a : Int) + 1) ((b : Int) + 1) (by omega) (by omega) (by omega) (by omega) e
      omega
  · exact inks_keep _ _ _ (getD_set_self _ _ (by rw [List.length_replicate]; exact hp0))
  · exact inks_has _ _ _ hend (by rw [List.length_set, List.length_replicate]; exact pos_lt ⟨hu, hv⟩)

theorem code_append (a b : List Cmd) : code (a ++ b) = code a ++ code b := by unfold code; rw [List.flatMap_append]
theorem code_len (l : List Cmd) : (code l).length ≤ 3 * l.length := by
  induction l with
  | nil => simp [code]
  | cons c r ih =>
    have : code (c :: r) = c.bytes ++ code r := rfl
    rw [this, List.length_append, List.length_cons]
    have : c.bytes.length ≤ 3 := by cases c <;> simp [Cmd.bytes]
    omega
theorem start_ok : (⟨List.replicate 4096 false, false, 0, 0⟩ : St).ok := ⟨by rw [List.length_replicate], by decide, by decide⟩
theorem plot_f (l : List Cmd) (h : ∀ c ∈ l, c.ok) (hl : l.length ≤ 100) : Ev (fun k => paper_Plot.f k (code l)) ((St.run ⟨List.replicate 4096 false, false, 0, 0⟩ l).s, (0 : Int)) := by
  have h1 := plot_ev l ⟨List.replicate 4096 false, false, 0, 0⟩ start_ok h
  have h2 := code_len l
  refine Ev.congr (fun k => ?_) h1
  unfold paper_Plot.f
  rw [if_neg (by omega), if_pos (by decide)]

/-- What follows the last command is read. -/
theorem fin_ev (x y u v : Int) (hx : 0 ≤ x ∧ x < 64) (hy : 0 ≤ y ∧ y < 64) (hu : 0 ≤ u ∧ u < 64) (hv : 0 ≤ v ∧ v < 64) (c : List Bool) (hc : c.length = 4096) (hsub : ∀ q, (one x y u v).s.getD q false = true → c.getD q false = true) (hb : (one x y u v).s.length = 4096) :
    ∀ (m i : Nat), i + m = 4096 → Ev (fun k => bakekeep3_PaperWays.l1 k x y u v (List.replicate 4096 false) (one x y u v).s c ((one x y u v).s.length : Int) (i : Int)) true := by
  obtain ⟨h1, h2, h3⟩ := one_is x y u v hx hy hu hv
  obtain ⟨s0, s1, -⟩ := steps_b x y u v hx hy hu hv
  generalize hB : (one x y u v).s = B at *
  intro m
  induction m with
  | zero =>
    intro i hi
    have i1 := ink_ev (List.replicate 4096 false) (by rw [List.length_replicate]; omega)
    have i2 := ink_ev B (by omega)
    rw [cnt_zero] at i1
    refine Ev.step (f := fun k => (paper_Ink.f k (List.replicate 4096 false)).bind fun t201 => if t201 = 0 then ((paper_Ink.f k B).bind fun t202 => if t202 = 1 + steps x y u v then some true else some false) else some false) (fun k => ?_) ?_
    · simp only [bakekeep3_PaperWays.l1]
      rw [if_neg (by omega)]
      have e1 : wrap64 (1 + (mx (mx (mx (wrap64 (x - u)) (wrap64 (u - x))) (wrap64 (y - v))) (wrap64 (v - y)))) = 1 + steps x y u v := by
        rw [w64 (n := x - u) (by omega) (by omega), w64 (n := u - x) (by omega) (by omega), w64 (n := y - v) (by omega) (by omega), w64 (n := v - y) (by omega) (by omega)]
        have : mx (mx (mx (x - u) (u - x)) (y - v)) (v - y) = steps x y u v := by
          unfold steps mx ab; repeat' split <;> omega
        rw [this, w64 (by omega) (by omega)]
      have e2 : wrap64 (wrap64 (y * 64) + x) = y * 64 + x := by rw [w64 (n := y * 64) (by omega) (by omega), w64 (by omega) (by omega)]
      have e3 : wrap64 (wrap64 (v * 64) + u) = v * 64 + u := by rw [w64 (n := v * 64) (by omega) (by omega), w64 (by omega) (by omega)]
      have e4 : rdOf false B (y * 64 + x) = true := h2
      have e5 : rdOf false B (v * 64 + u) = true := h3
      rw [e1, e2, e3, e4, e5]
      simp only [if_pos (show 0 ≤ y * 64 + x by omega), if_pos (show y * 64 + x < (B.length : Int) by omega), if_pos (show 0 ≤ v * 64 + u by omega), if_pos (show v * 64 + u < (B.length : Int) by omega), if_true]
    · refine Ev.bind (f := fun k t => _) i1 ?_
      simp only [Int.natCast_zero, if_true]
      refine Ev.bind (f := fun k t => _) i2 ?_
      rw [if_pos h1]
      exact Ev.now true
  | succ m ih =>
    intro i hi
    have h := ih (i + 1) (by omega)
    refine Ev.step (fun k => ?_) h
    simp only [bakekeep3_PaperWays.l1]
    rw [if_pos (by omega), if_pos (by omega), if_pos (by omega), w64 (n := (i : Int) + 1) (by omega) (by omega)]
    by_cases hbi : rdOf false B (i : Int) = true
    · have hci : rdOf false c (i : Int) = true := hsub i (by unfold rdOf at hbi; rwa [Int.toNat_natCast] at hbi)
      rw [if_pos hbi, if_pos (by omega), if_pos hci]; rfl
    · rw [if_neg hbi]; rfl

/-- The further commands, one by one. -/
theorem l0_ev (l : List Int) (hl : l.length ≤ 20) (x y u v : Int) (hx : 0 ≤ x ∧ x < 64) (hy : 0 ≤ y ∧ y < 64) (hu : 0 ≤ u ∧ u < 64) (hv : 0 ≤ v ∧ v < 64) :
    ∀ (m i : Nat) (cs : List Cmd), i + m = l.length → (∀ c ∈ cs, c.ok) → cs.length ≤ i →
    Ev (fun k => bakekeep3_PaperWays.l0 k x y u v (List.replicate 4096 false) 0 (one x y u v).s 0 (code ([.mv x y, .dn, .mv u v] ++ cs)) l (l.length : Int) (i : Int)) true := by
  have hb : (one x y u v).s.length = 4096 := (St.run_ok start_ok (by
    intro c hc
    simp at hc
    rcases hc with rfl | rfl | rfl
    · exact ⟨hx, hy⟩
    · trivial
    · exact ⟨hu, hv⟩)).1
  intro m
  induction m with
  | zero =>
    intro i cs hi hcs hlen
    have hall : ∀ c ∈ ([.mv x y, .dn, .mv u v] ++ cs), c.ok := by
      intro c hc
      rcases List.mem_append.1 hc with hc | hc
      · simp at hc
        rcases hc with rfl | rfl | rfl
        · exact ⟨hx, hy⟩
        · trivial
        · exact ⟨hu, hv⟩
      · exact hcs c hc
    have hp := plot_f _ hall (by simp; omega)
    have hrun := St.run_ok start_ok hall
    have hcl := hrun.1
    have hsub : ∀ q, (one x y u v).s.getD q false = true → (St.run ⟨List.replicate 4096 false, false, 0, 0⟩ ([.mv x y, .dn, .mv u v] ++ cs)).s.getD q false = true := fun q h => by
      rw [run_append]; exact run_keep_ink _ _ _ h
    have hf := fin_ev x y u v hx hy hu hv _ hcl hsub hb 4096 0 (by omega)
    generalize St.run ⟨List.replicate 4096 false, false, 0, 0⟩ ([.mv x y, .dn, .mv u v] ++ cs) = T at *
    refine Ev.step (f := fun k => (paper_Plot.f k (code ([.mv x y, .dn, .mv u v] ++ cs))).bind fun bt => (if (0 : Int) = 0 then (if (0 : Int) = 0 then (if bt.2 = 0 then (if ((one x y u v).s.length : Int) = 4096 then (bakekeep3_PaperWays.j1 k x y u v (List.replicate 4096 false) (one x y u v).s bt.1 ((bt.1.length : Int) != 4096)) else (bakekeep3_PaperWays.j1 k x y u v (List.replicate 4096 false) (one x y u v).s bt.1 true)) else (bakekeep3_PaperWays.j1 k x y u v (List.replicate 4096 false) (one x y u v).s bt.1 true)) else (bakekeep3_PaperWays.j1 k x y u v (List.replicate 4096 false) (one x y u v).s bt.1 true)) else (bakekeep3_PaperWays.j1 k x y u v (List.replicate 4096 false) (one x y u v).s bt.1 true))) (fun k => ?_) ?_
    · simp only [bakekeep3_PaperWays.l0]
      rw [if_neg (by omega)]
      rfl
    · refine Ev.bind (f := fun k t => _) hp ?_
      simp only [if_true]
      simp only [if_pos (show ((one x y u v).s.length : Int) = 4096 by omega)]
      have hne : ((T.s.length : Int) != 4096) = false := by rw [hcl]; rfl
      simp only [hne]
      refine Ev.step (fun k => ?_) hf
      simp only [bakekeep3_PaperWays.j1, Bool.false_eq_true, if_false]
      rfl
  | succ m ih =>
    intro i cs hi hcs hlen
    have hil : i < l.length := by omega
    obtain ⟨q, hq, q0, q1⟩ := below_is (rd l (i : Int)) 3 (by omega) (by omega)
    have a1 := and63 (rd l (i : Int))
    have a2 := and63 (rd l (i : Int) / 64)
    generalize hA : Go.bits .and .i64 (rd l (i : Int)) 63 = A at *
    generalize hB : Go.bits .and .i64 (rd l (i : Int) / 64) 63 = B at *
    obtain ⟨c, hc, hcb⟩ : ∃ c : Cmd, c.ok ∧ c.bytes = rd_L5 [[117], [100], [109, A % 256, B % 256]] q := by
      have : q = 0 ∨ q = 1 ∨ q = 2 := by omega
      rcases this with rfl | rfl | rfl
      · exact ⟨.up, trivial, rfl⟩
      · exact ⟨.dn, trivial, rfl⟩
      · refine ⟨.mv A B, ⟨⟨a1.1, a1.2⟩, ⟨a2.1, a2.2⟩⟩, ?_⟩
        show [109, A, B] = [109, A % 256, B % 256]
        rw [Int.emod_eq_of_lt (by omega) (by omega), Int.emod_eq_of_lt (by omega) (by omega)]
    have h := ih (i + 1) (cs ++ [c]) (by omega) (fun d hd => by
      rcases List.mem_append.1 hd with hd | hd
      · exact hcs d hd
      · simp at hd; subst hd; exact hc) (by simp; omega)
    have hcode : code ([.mv x y, .dn, .mv u v] ++ (cs ++ [c])) = code ([.mv x y, .dn, .mv u v] ++ cs) ++ rd_L5 [[117], [100], [109, A % 256, B % 256]] q := by
      rw [← List.append_assoc, code_append _ [c], ← hcb]
      simp [code]
    have hl1 := code_len ([.mv x y, .dn, .mv u v] ++ cs)
    rw [List.length_append, show ([Cmd.mv x y, .dn, .mv u v] : List Cmd).length = 3 from rfl] at hl1
    have hl2 := code_len [c]
    have hl3 : (rd_L5 [[117], [100], [109, A % 256, B % 256]] q).length ≤ 3 := by rw [← hcb]; simpa [code] using hl2
    rw [hcode] at h
    refine Ev.step (fun k => ?_) h
    simp only [bakekeep3_PaperWays.l0]
    rw [if_pos (by omega), if_pos (by omega), if_pos (by omega), hA, hB, Option.bind_some, hq, Option.bind_some, if_pos (by omega), if_pos (by simp; omega), if_pos (by omega), w64 (n := (i : Int) + 1) (by omega) (by omega)]
    rfl

theorem PaperWays : bakekeep3_PaperWays.Pure := by
  intro l0 a1 a2 a3 a4 _ _ _ _ _ _ _
  obtain ⟨x, hx, x0, x1⟩ := below_is a1 64 (by omega) (by omega)
  obtain ⟨y, hy, y0, y1⟩ := below_is a2 64 (by omega) (by omega)
  obtain ⟨u, hu, u0, u1⟩ := below_is a3 64 (by omega) (by omega)
  obtain ⟨v, hv, v0, v1⟩ := below_is a4 64 (by omega) (by omega)
  have hm : 0 ≤ mn (l0.length : Int) 20 ∧ mn (l0.length : Int) 20 ≤ l0.length ∧ mn (l0.length : Int) 20 ≤ 20 := by unfold mn; split <;> omega
  obtain ⟨m0, m1, m2⟩ := hm
  generalize hmq : mn (l0.length : Int) 20 = mq at *
  have hlt : (l0.take mq.toNat).length ≤ 20 := by rw [List.length_take]; omega
  have p1 := plot_f [.mv x y] (by intro c hc; simp at hc; subst hc; exact ⟨⟨x0, x1⟩, y0, y1⟩) (by simp)
  have p2 := plot_f [.mv x y, .dn, .mv u v] (by
    intro c hc
    simp at hc
    rcases hc with rfl | rfl | rfl
    · exact ⟨⟨x0, x1⟩, y0, y1⟩
    · trivial
    · exact ⟨⟨u0, u1⟩, v0, v1⟩) (by simp)
  have hl := l0_ev (l0.take mq.toNat) hlt x y u v ⟨x0, x1⟩ ⟨y0, y1⟩ ⟨u0, u1⟩ ⟨v0, v1⟩ (l0.take mq.toNat).length 0 [] (by omega) (by intro c hc; cases hc) (by simp)
  refine Ev.rounds (g := fun k => bakekeep3_PaperWays.f k l0 a1 a2 a3 a4) ?_
  unfold bakekeep3_PaperWays.f
  simp only [hx, hy, hu, hv, Option.bind_some, Int.emod_eq_of_lt x0 (show x < 256 by omega), Int.emod_eq_of_lt y0 (show y < 256 by omega), Int.emod_eq_of_lt u0 (show u < 256 by omega), Int.emod_eq_of_lt v0 (show v < 256 by omega)]
  have c1 : slices_Clone_byte_byte.f [109, x, y] = some [109, x, y] := by unfold slices_Clone_byte_byte.f; rw [if_pos (by simp)]
  have c2 : slices_Clone_byte_byte.f ([109, x, y] ++ [100, 109, u, v]) = some ([109, x, y] ++ [100, 109, u, v]) := by unfold slices_Clone_byte_byte.f; rw [if_pos (by simp)]
  simp only [c1, Option.bind_some, if_pos (show [109, x, y].length + [100, 109, u, v].length < 140737488355328 by simp), c2, hmq, if_pos m0, if_pos m1]
  refine Ev.bind (f := fun k t => _) p1 ?_
  refine Ev.bind (f := fun k t => _) p2 ?_
  exact hl
end Go.Proofs.Ytijfinimlnedpaa.Pure
