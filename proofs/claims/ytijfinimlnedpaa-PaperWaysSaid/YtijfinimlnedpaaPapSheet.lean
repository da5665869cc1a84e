/- What paper.Plot comes to, in plain Lean: commands, one by one, on a sheet. -/
import Derived.Test.YtijfinimlnedpaaPPapx12
import Derived.Laws.BitsLemmas
namespace Go.Proofs.Ytijfinimlnedpaa.Pure
open Go.RowKit Go.Proofs.Ytijfinimlnedpaa.PPap Go.Proofs.YtijfinimlnedpaaW.PrintWords Go.Proofs.YtijfinimlnedpaaW.PrintLast Go.Proofs.YtijfinimlnedpaaW.PrintMore
set_option linter.unusedVariables false

theorem w64 {n : Int} (h1 : -9223372036854775808 ≤ n) (h2 : n ≤ 9223372036854775807) : wrap64 n = n := by unfold wrap64; omega
theorem below_is (x n : Int) (hn : 0 < n) (hb : n ≤ 1000000) : ∃ r, bakemake_Below.f x n = some r ∧ 0 ≤ r ∧ r < n := by
  have h1 := Int.tmod_lt_of_pos x hn
  have h2 := Int.lt_tmod_of_pos x hn
  unfold bakemake_Below.f
  rw [if_neg (by omega)]
  by_cases h : Int.tmod x n < 0
  · rw [if_pos h, w64 (by omega) (by omega)]; exact ⟨_, rfl, by omega, by omega⟩
  · rw [if_neg h]; exact ⟨_, rfl, by omega, by omega⟩
theorem and63 (a : Int) : 0 ≤ Go.bits .and .i64 a 63 ∧ Go.bits .and .i64 a 63 < 64 := by
  have h1 : (BitVec.ofInt 64 a &&& BitVec.ofInt 64 63).toNat ≤ 63 := by rw [BitVec.toNat_and]; exact Nat.and_le_right
  have h2 : Go.bits .and .i64 a 63 = IntKind.i64.wrap ((BitVec.ofInt 64 a &&& BitVec.ofInt 64 63).toNat : Int) := rfl
  rw [h2, IntKind.wrap_i64]
  omega

/-! dots -/
theorem ab_le (n : Int) : n ≤ ab n ∧ -n ≤ ab n ∧ 0 ≤ ab n ∧ (ab n = n ∨ ab n = -n) := by unfold ab; split <;> omega
/-- Between the two ends. -/
theorem rnd_between (f t k n : Int) (h0 : 0 ≤ k) (h1 : k ≤ n) (hn : 0 < n) : (f ≤ t → f ≤ rnd f t k n ∧ rnd f t k n ≤ t) ∧ (t ≤ f → t ≤ rnd f t k n ∧ rnd f t k n ≤ f) := by
  unfold rnd
  have up : ∀ d : Int, 0 ≤ d → 0 ≤ (2 * d * k + n) / (2 * n) ∧ (2 * d * k + n) / (2 * n) ≤ d := fun d hd => by
    have e1 : 0 ≤ 2 * d * k := Int.mul_nonneg (by omega) h0
    have e2 : 2 * d * k ≤ 2 * d * n := Int.mul_le_mul_of_nonneg_left h1 (by omega)
    refine ⟨Int.ediv_nonneg (by omega) (by omega), ?_⟩
    have h3 : (2 * d * k + n) / (2 * n) < d + 1 := Int.ediv_lt_of_lt_mul (by omega) (by
      rw [Int.add_mul, Int.one_mul, show d * (2 * n) = 2 * d * n from by rw [Int.mul_comm 2 d, Int.mul_assoc]]; omega)
    omega
  have dn : ∀ d : Int, d ≤ 0 → d ≤ (2 * d * k + n) / (2 * n) ∧ (2 * d * k + n) / (2 * n) ≤ 0 := fun d hd => by
    have e1 : 2 * d * k ≤ 0 := Int.mul_nonpos_of_nonpos_of_nonneg (by omega) h0
    have e2 : 2 * d * n ≤ 2 * d * k := Int.mul_le_mul_of_nonpos_left (by omega) h1
    constructor
    · refine Int.le_ediv_of_mul_le (by omega) ?_
      rw [show d * (2 * n) = 2 * d * n from by rw [Int.mul_comm 2 d, Int.mul_assoc]]; omega
    · have h3 : (2 * d * k + n) / (2 * n) < 0 + 1 := Int.ediv_lt_of_lt_mul (by omega) (by omega)
      omega
  exact ⟨fun h => by have := up (t - f) (by omega); omega, fun h => by have := dn (t - f) (by omega); omega⟩
theorem rnd_end (f t n : Int) (hn : 0 < n) : rnd f t n n = t := by
  unfold rnd
  have h : (2 * (t - f) * n + n) / (2 * n) = t - f := by
    rw [show 2 * (t - f) * n + n = n + (2 * n) * (t - f) from by rw [Int.mul_assoc, Int.mul_assoc, Int.mul_comm (t - f) n]; omega, Int.add_mul_ediv_left _ _ (by omega)]
    have : n / (2 * n) = 0 := Int.ediv_eq_zero_of_lt (by omega) (by omega)
    omega
  omega
/-- Along the longer way one by one. -/
theorem rnd_long (f t k n : Int) (hn : 0 < n) : (t - f = n → rnd f t k n = f + k) ∧ (f - t = n → rnd f t k n = f - k) := by
  unfold rnd
  have hz : n / (2 * n) = 0 := Int.ediv_eq_zero_of_lt (by omega) (by omega)
  constructor
  · intro h
    rw [h, show 2 * n * k + n = n + (2 * n) * k from by omega, Int.add_mul_ediv_left _ _ (by omega)]
    omega
  · intro h
    rw [show t - f = -n by omega, show 2 * -n * k + n = n + (2 * n) * (-k) from by
      rw [Int.mul_neg, Int.mul_neg, Int.neg_mul]; omega, Int.add_mul_ediv_left _ _ (by omega)]
    omega

/-- A place of the sheet. -/
def pos (d : S132) : Nat := (d.f1 * 64 + d.f0).toNat
def In64 (d : S132) : Prop := (0 ≤ d.f0 ∧ d.f0 < 64) ∧ (0 ≤ d.f1 ∧ d.f1 < 64)
theorem pos_lt {d : S132} (h : In64 d) : pos d < 4096 := by obtain ⟨⟨a, b⟩, c, e⟩ := h; unfold pos; omega
theorem pos_inj {d e : S132} (hd : In64 d) (he : In64 e) (h : pos d = pos e) : d.f0 = e.f0 ∧ d.f1 = e.f1 := by
  obtain ⟨⟨a, b⟩, c, g⟩ := hd; obtain ⟨⟨a2, b2⟩, c2, g2⟩ := he; unfold pos at h; omega
def inks (s : List Bool) (l : List S132) : List Bool := l.foldl (fun s d => s.set (pos d) true) s
theorem inks_len (l : List S132) : ∀ s, (inks s l).length = s.length := by
  induction l with
  | nil => intro s; rfl
  | cons d t ih => intro s; show (inks (s.set (pos d) true) t).length = _; rw [ih]; simp

theorem steps_b (x y u v : Int) (hx : 0 ≤ x ∧ x < 64) (hy : 0 ≤ y ∧ y < 64) (hu : 0 ≤ u ∧ u < 64) (hv : 0 ≤ v ∧ v < 64) : 0 ≤ steps x y u v ∧ steps x y u v < 64 ∧ (steps x y u v = ab (u - x) ∨ steps x y u v = ab (v - y)) ∧ ab (u - x) ≤ steps x y u v ∧ ab (v - y) ≤ steps x y u v := by
  unfold steps mx ab; repeat' split <;> omega
theorem dots_in (x y u v : Int) (hx : 0 ≤ x ∧ x < 64) (hy : 0 ≤ y ∧ y < 64) (hu : 0 ≤ u ∧ u < 64) (hv : 0 ≤ v ∧ v < 64) : ∀ d ∈ dots x y u v (steps x y u v) (steps x y u v).toNat, In64 d := by
  obtain ⟨s0, s1, -⟩ := steps_b x y u v hx hy hu hv
  generalize steps x y u v = n at *
  intro d hd
  unfold dots at hd
  rcases List.mem_cons.1 hd with h | h
  · subst h; exact ⟨hx, hy⟩
  · obtain ⟨i, hi, rfl⟩ := List.mem_map.1 h
    have hi' := List.mem_range.1 hi
    have a := rnd_between x u ((i : Int) + 1) n (by omega) (by omega) (by omega)
    have b := rnd_between y v ((i : Int) + 1) n (by omega) (by omega) (by omega)
    refine ⟨?_, ?_⟩
    · show 0 ≤ rnd x u ((i : Int) + 1) n ∧ rnd x u ((i : Int) + 1) n < 64
      rcases Int.le_total x u with h | h
      · have := a.1 h; omega
      · have := a.2 h; omega
    · show 0 ≤ rnd y v ((i : Int) + 1) n ∧ rnd y v ((i : Int) + 1) n < 64
      rcases Int.le_total y v with h | h
      · have := b.1 h; omega
      · have := b.2 h; omega

/-! commands -/
inductive Cmd
  | up
  | dn
  | mv (x y : Int)
def Cmd.bytes : Cmd → List Int
  | .up => [117]
  | .dn => [100]
  | .mv x y => [109, x, y]
def Cmd.ok : Cmd → Prop
  | .mv x y => (0 ≤ x ∧ x < 64) ∧ (0 ≤ y ∧ y < 64)
  | _ => True
structure St where
  s : List Bool
  d : Bool
  x : Int
  y : Int
def St.ok (t : St) : Prop := t.s.length = 4096 ∧ (0 ≤ t.x ∧ t.x < 64) ∧ (0 ≤ t.y ∧ t.y < 64)
def St.go (t : St) : Cmd → St
  | .up => { t with d := false }
  | .dn => { t with d := true, s := t.s.set (pos ⟨t.x, t.y⟩) true }
  | .mv u v => { s := if t.d then inks t.s (dots t.x t.y u v (steps t.x t.y u v) (steps t.x t.y u v).toNat) else t.s, d := t.d, x := u, y := v }
theorem St.go_ok {t : St} (h : t.ok) {c : Cmd} (hc : c.ok) : (t.go c).ok := by
  cases c with
  | up => exact h
  | dn => exact ⟨by simp [St.go, h.1], h.2⟩
  | mv u v => exact ⟨by simp only [St.go]; split <;> simp [inks_len, h.1], hc⟩
def St.run (t : St) (l : List Cmd) : St := l.foldl St.go t
theorem St.run_ok {l : List Cmd} : ∀ {t : St}, t.ok → (∀ c ∈ l, c.ok) → (t.run l).ok := by
  induction l with
  | nil => intro t h _; exact h
  | cons c r ih => intro t h hl; exact ih (St.go_ok h (hl c List.mem_cons_self)) (fun d hd => hl d (List.mem_cons_of_mem _ hd))
def code (l : List Cmd) : List Int := l.flatMap Cmd.bytes

/-- The dots of a line, one by one. -/
theorem l1_ev (x0 : List Int) (ds : List S132) (hds : ∀ d ∈ ds, In64 d) (hl : ds.length ≤ 100) (u v : Int) (r : List Bool × Int) (x6 : Bool) : ∀ (m i : Nat) (s : List Bool), i + m = ds.length → s.length = 4096 →
    Ev (fun k => if 3 ≤ (x0.length : Int) then paper_Plot.l0 k (x0.drop 3) (inks s (ds.drop i)) x6 u v else none) r → Ev (fun k => paper_Plot.l1 k x0 s x6 ds (ds.length : Int) (i : Int) u v) r := by
  intro m
  induction m with
  | zero =>
    intro i s hi hs h
    refine Ev.step (fun k => ?_) h
    simp only [paper_Plot.l1]
    rw [if_neg (by omega), show ds.drop i = [] from List.drop_eq_nil_of_le (by omega)]
    rfl
  | succ m ih =>
    intro i s hi hs h
    have hil : i < ds.length := by omega
    have hin : In64 ds[i] := hds _ (List.getElem_mem _)
    have hrd : rd_T132 ds (i : Int) = ds[i] := by unfold rd_T132; rw [Int.toNat_natCast, List.getD_eq_getElem?_getD, List.getElem?_eq_getElem hil]; rfl
    rw [List.drop_eq_getElem_cons hil] at h
    refine Ev.step (fun k => ?_) (ih (i + 1) (s.set (pos ds[i]) true) (by omega) (by simp [hs]) h)
    obtain ⟨⟨a, b⟩, c, d⟩ := hin
    simp only [paper_Plot.l1]
    rw [if_pos (by omega), if_pos (by omega), if_pos (by omega), hrd, w64 (n := ds[i].f1 * 64) (by omega) (by omega), w64 (n := ds[i].f1 * 64 + ds[i].f0) (by omega) (by omega), if_pos (by omega), if_pos (by omega), w64 (n := (i : Int) + 1) (by omega) (by omega)]
    rfl
theorem plot_ev (l : List Cmd) : ∀ (t : St), t.ok → (∀ c ∈ l, c.ok) → Ev (fun k => paper_Plot.l0 k (code l) t.s t.d t.x t.y) ((t.run l).s, (0 : Int)) := by
  induction l with
  | nil =>
    intro t ht hl
    exact Ev.step (fun k => by simp [paper_Plot.l0, code]; rfl) (Ev.now _)
  | cons c r ih =>
    intro t ht hl
    have h := ih (t.go c) (St.go_ok ht (hl c List.mem_cons_self)) (fun d hd => hl d (List.mem_cons_of_mem _ hd))
    obtain ⟨h1, ⟨h2, h3⟩, h4, h5⟩ := ht
    cases c with
    | up =>
      have e : code (Cmd.up :: r) = 117 :: code r := rfl
      rw [e]
      refine Ev.step (fun k => ?_) (Ev.step (g := fun k => paper_Plot.j1 k (117 :: code r) t.s t.d 117 true t.x t.y) (fun k => ?_) h)
      · simp only [paper_Plot.l0]
        rw [if_pos (by first | (simp; done) | (simp; omega)), if_pos (by first | (simp; done) | (simp; omega)), show rd (117 :: code r) 0 = 117 from rfl, if_pos rfl]
        rfl
      · simp only [paper_Plot.j1]
        rw [if_pos trivial, if_pos (by first | (simp; done) | (simp; omega)), if_pos (by first | (simp; done) | (simp; omega)), Option.bind_some, show rd (117 :: code r) 0 = 117 from rfl, if_neg (by decide)]
        rfl
    | dn =>
      have e : code (Cmd.dn :: r) = 100 :: code r := rfl
      rw [e]
      refine Ev.step (fun k => ?_) (Ev.step (g := fun k => paper_Plot.j1 k (100 :: code r) t.s t.d 100 true t.x t.y) (fun k => ?_) h)
      · simp only [paper_Plot.l0]
        rw [if_pos (by first | (simp; done) | (simp; omega)), if_pos (by first | (simp; done) | (simp; omega)), show rd (100 :: code r) 0 = 100 from rfl, if_neg (by omega)]
        rfl
      · simp only [paper_Plot.j1]
        rw [if_pos trivial, if_pos (by first | (simp; done) | (simp; omega)), if_pos (by first | (simp; done) | (simp; omega)), Option.bind_some, show rd (100 :: code r) 0 = 100 from rfl, if_pos rfl]
        rw [w64 (n := t.y * 64) (by omega) (by omega), w64 (n := t.y * 64 + t.x) (by omega) (by omega), if_pos (by omega), if_pos (by omega)]
        rfl
    | mv u v =>
      obtain ⟨⟨u0, u1⟩, v0, v1⟩ := hl (.mv u v) List.mem_cons_self
      have e : code (Cmd.mv u v :: r) = 109 :: u :: v :: code r := rfl
      have r1 : rd (109 :: u :: v :: code r) 1 = u := rfl
      have r2 : rd (109 :: u :: v :: code r) 2 = v := rfl
      have hlen : ((109 :: u :: v :: code r).length : Int) = (code r).length + 3 := by simp; omega
      rw [e]
      refine Ev.step (fun k => ?_) (Ev.step (g := fun k => paper_Plot.j1 k (109 :: u :: v :: code r) t.s t.d 109 false t.x t.y) (fun k => ?_) (Ev.step (g := fun k => paper_Plot.j2 k (109 :: u :: v :: code r) t.s t.d false t.x t.y u v) (f := fun k => if t.d = true then paper_Plot.l1 k (109 :: u :: v :: code r) t.s t.d (dots t.x t.y u v (steps t.x t.y u v) (steps t.x t.y u v).toNat) ((dots t.x t.y u v (steps t.x t.y u v) (steps t.x t.y u v).toNat).length : Int) 0 u v else paper_Plot.l0 k (code r) t.s t.d u v) (fun k => ?_) ?_))
      · simp only [paper_Plot.l0]
        rw [if_pos (by rw [hlen]; omega), if_pos (by rw [hlen]; omega), show rd (109 :: u :: v :: code r) 0 = 109 from rfl, if_neg (by omega)]
        rfl
      · simp only [paper_Plot.j1]
        rw [if_neg (by simp), if_pos trivial, if_neg (by rw [hlen]; omega), if_pos (by rw [hlen]; omega), if_pos (by rw [hlen]; omega), r1, r2, w64 (n := u) (by omega) (by omega), w64 (n := v) (by omega) (by omega), if_neg (by omega), decide_eq_false (by omega)]
      · simp only [paper_Plot.j2]
        rw [if_neg (by simp)]
        have hf : paper_line.f t.x t.y u v = some (dots t.x t.y u v (steps t.x t.y u v) (steps t.x t.y u v).toNat) := by
          unfold paper_line.f; rw [if_pos (by omega)]
        rw [hf, Option.bind_some, if_pos (show 3 ≤ ((109 :: u :: v :: code r).length : Int) by rw [hlen]; omega)]
        rfl
      · by_cases hd : t.d = true
        · simp only [hd, if_true]
          have hds := dots_in t.x t.y u v ⟨h2, h3⟩ ⟨h4, h5⟩ ⟨u0, u1⟩ ⟨v0, v1⟩
          obtain ⟨s0, s1, -⟩ := steps_b t.x t.y u v ⟨h2, h3⟩ ⟨h4, h5⟩ ⟨u0, u1⟩ ⟨v0, v1⟩
          refine l1_ev _ _ hds (by rw [dots_len]; omega) u v _ true (dots t.x t.y u v (steps t.x t.y u v) (steps t.x t.y u v).toNat).length 0 t.s (by omega) h1 ?_
          have hg : t.go (.mv u v) = ⟨inks t.s (dots t.x t.y u v (steps t.x t.y u v) (steps t.x t.y u v).toNat), true, u, v⟩ := by simp only [St.go, hd, if_true]
          show Ev _ (((t.go (.mv u v)).run r).s, (0 : Int))
          rw [hg] at h ⊢
          exact Ev.congr (fun k => by rw [if_pos (by rw [hlen]; omega)]; rfl) h
        · have hd' : t.d = false := by simpa using hd
          simp only [hd', Bool.false_eq_true, if_false]
          have hg : t.go (.mv u v) = ⟨t.s, false, u, v⟩ := by simp only [St.go, hd', Bool.false_eq_true, if_false]
          show Ev _ (((t.go (.mv u v)).run r).s, (0 : Int))
          rw [hg] at h ⊢
          exact h
end Go.Proofs.Ytijfinimlnedpaa.Pure
