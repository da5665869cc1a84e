/- The plain law of SampPeriods: levels that repeat have a period that is at most that; more repetitions do not change it. No condition beyond the given statement. -/
import Derived.Test.YtijfinimlnedpaaPPerx14
namespace Go.Proofs.Ytijfinimlnedpaa.Pure
open Go.RowKit Go.Proofs.Ytijfinimlnedpaa.PPer Go.Proofs.YtijfinimlnedpaaW.PrintWords Go.Proofs.YtijfinimlnedpaaW.PrintLast Go.Proofs.YtijfinimlnedpaaW.PrintMore

theorem w64 {n : Int} (h0 : -9223372036854775808 ≤ n) (h1 : n ≤ 9223372036854775807) : wrap64 n = n := by unfold wrap64; omega
theorem rd_nat (l : List Int) (i : Nat) : rd l (i : Int) = l.getD i 0 := by unfold rd; simp
theorem below_is (x n : Int) (hn : 0 < n) (hb : n ≤ 1000000) : ∃ r, bakemake_Below.f x n = some r ∧ 0 ≤ r ∧ r < n := by
  have h1 := Int.tmod_lt_of_pos x hn
  have h2 := Int.lt_tmod_of_pos x hn
  unfold bakemake_Below.f
  rw [if_neg (by omega)]
  by_cases h : Int.tmod x n < 0
  · rw [if_pos h, w64 (by omega) (by omega)]; exact ⟨_, rfl, by omega, by omega⟩
  · rw [if_neg h]; exact ⟨_, rfl, by omega, by omega⟩

theorem levels_l0 (l : List Int) (hl : l.length ≤ 150) : ∀ d i : Nat, ∀ acc : List Int, i + d = l.length → acc.length = i → (∀ x ∈ acc, 0 ≤ x ∧ x ≤ 30) →
    ∃ r, Ev (fun k => bakekeep3_levels.l0 k acc l (l.length : Int) (i : Int)) r ∧ r.length = l.length ∧ ∀ x ∈ r, 0 ≤ x ∧ x ≤ 30 := by
  intro d
  induction d with
  | zero =>
    intro i acc hi ha hb
    refine ⟨acc, Ev.step (fun k => ?_) (Ev.now _), by omega, hb⟩
    simp only [bakekeep3_levels.l0]; rw [if_neg (by omega)]
  | succ d ih =>
    intro i acc hi ha hb
    have e1 : wrap64 ((i : Int) + 1) = ((i + 1 : Nat) : Int) := by rw [w64 (by omega) (by omega)]; omega
    obtain ⟨q, hq, q0, q1⟩ := below_is (rd l (i : Int)) 31 (by omega) (by omega)
    obtain ⟨r, hr, h1, h2⟩ := ih (i + 1) (acc ++ [q]) (by omega) (by simp; omega) (fun x hx => by
      rcases List.mem_append.1 hx with hx | hx
      · exact hb x hx
      · simp at hx; omega)
    refine ⟨r, Ev.step (fun k => ?_) hr, h1, h2⟩
    simp only [bakekeep3_levels.l0]; rw [if_pos (by omega), if_pos (by omega), if_pos (by omega), hq, Option.bind_some, if_pos (by omega), e1]

theorem levels_is (l : List Int) (hl : l.length ≤ 150) : ∃ r, Ev (fun k => bakekeep3_levels.f k l) r ∧ r.length = l.length ∧ ∀ x ∈ r, 0 ≤ x ∧ x ≤ 30 := by
  have hq : mn (l.length : Int) 150 = l.length := by unfold mn; split <;> omega
  obtain ⟨r, hr, h3⟩ := levels_l0 l hl l.length 0 [] (by omega) rfl (by simp)
  refine ⟨r, Ev.congr (fun k => ?_) hr, h3⟩
  unfold bakekeep3_levels.f; rw [hq, if_pos (by omega), if_pos (by omega), Int.toNat_natCast, List.take_length]; rfl

theorem rd_b (l : List Int) (lo hi : Int) (h : ∀ x ∈ l, lo ≤ x ∧ x ≤ hi) (i : Nat) (h1 : i < l.length) : lo ≤ rd l (i : Int) ∧ rd l (i : Int) ≤ hi := by
  rw [rd_nat, List.getD_eq_getElem?_getD, List.getElem?_eq_getElem h1]; exact h _ (List.getElem_mem _)

theorem check_l0 (l : List Int) (hl : l.length ≤ 100000) (hb : ∀ x ∈ l, 0 ≤ x ∧ x ≤ 1048576) : ∀ d i : Nat, i + d = l.length → Ev (fun k => samp_Check.l0 k l (l.length : Int) (i : Int)) 0 := by
  intro d
  induction d with
  | zero =>
    intro i hi
    refine Ev.step (fun k => ?_) (Ev.now _)
    simp only [samp_Check.l0]; rw [if_neg (by omega)]
  | succ d ih =>
    intro i hi
    have e1 : wrap64 ((i : Int) + 1) = ((i + 1 : Nat) : Int) := by rw [w64 (by omega) (by omega)]; omega
    have hr := rd_b l _ _ hb i (by omega)
    refine Ev.step (fun k => ?_) (ih (i + 1) (by omega))
    simp only [samp_Check.l0]; rw [if_pos (by omega), if_pos (by omega), if_pos (by omega), if_neg (by omega), if_neg (by omega), e1]
theorem check_is (l : List Int) (hl : l.length ≤ 100000) (hb : ∀ x ∈ l, 0 ≤ x ∧ x ≤ 1048576) : Ev (fun k => samp_Check.f k l) 0 :=
  Ev.congr (fun k => by unfold samp_Check.f; rw [if_neg (by omega)]; rfl) (check_l0 l hl hb l.length 0 (by omega))
theorem heard_is : Ev (fun k => bakekeep3_heard.f k) true := Ev.of bakekeep3_heard.mono (k := 20) (by decide +kernel)

/-! ### beginnings that are ends -/
/-- The first b of the first i are the last b of them, too. -/
def Bd (l : List Int) (i b : Nat) : Prop := b < i ∧ ∀ t, t < b → l.getD t 0 = l.getD (i - b + t) 0
def LB (l : List Int) (i b : Nat) : Prop := Bd l i b ∧ ∀ c, Bd l i c → c ≤ b
theorem Bd.zero (l : List Int) (i : Nat) (h : 0 < i) : Bd l i 0 := ⟨h, fun t ht => by omega⟩
theorem Bd.tail {l : List Int} {i c : Nat} (h : Bd l (i + 1) (c + 1)) : c = 0 ∨ Bd l i c := by
  obtain ⟨h1, h2⟩ := h
  rcases Nat.eq_zero_or_pos c with hc | hc
  · exact .inl hc
  · refine .inr ⟨by omega, fun t ht => ?_⟩
    rw [h2 t (by omega)]; congr 1; omega
theorem Bd.last {l : List Int} {i c : Nat} (h : Bd l (i + 1) (c + 1)) : l.getD c 0 = l.getD i 0 := by
  obtain ⟨h1, h2⟩ := h
  rw [h2 c (by omega)]; congr 1; omega
theorem Bd.snoc {l : List Int} {i k : Nat} (h : Bd l i k) (he : l.getD i 0 = l.getD k 0) : Bd l (i + 1) (k + 1) := by
  obtain ⟨h1, h2⟩ := h
  refine ⟨by omega, fun t ht => ?_⟩
  rcases Nat.lt_or_ge t k with hk | hk
  · rw [h2 t hk]; congr 1; omega
  · obtain rfl : t = k := by omega
    rw [← he]; congr 1; omega
theorem Bd.trans {l : List Int} {i k c : Nat} (h : Bd l i k) (h' : Bd l k c) : Bd l i c := by
  obtain ⟨h1, h2⟩ := h
  obtain ⟨h3, h4⟩ := h'
  refine ⟨by omega, fun t ht => ?_⟩
  rw [h4 t ht, h2 (k - c + t) (by omega)]; congr 1; omega
theorem Bd.inner {l : List Int} {i k c : Nat} (h : Bd l i k) (h' : Bd l i c) (hck : c < k) : Bd l k c := by
  obtain ⟨h1, h2⟩ := h
  obtain ⟨h3, h4⟩ := h'
  refine ⟨hck, fun t ht => ?_⟩
  rw [h4 t ht, h2 (k - c + t) (by omega)]; congr 1; omega

/-- What is known of the table up to i. -/
def Tab (l fl : List Int) (i : Nat) : Prop := fl.length = l.length ∧ ∀ j, j < i → ∃ b : Nat, fl.getD j 0 = (b : Int) ∧ LB l (j + 1) b
theorem Tab.set {l fl : List Int} {i b : Nat} (h : Tab l fl i) (hi : i < l.length) (hb : LB l (i + 1) b) : Tab l (fl.set i (b : Int)) (i + 1) := by
  obtain ⟨h1, h2⟩ := h
  refine ⟨by rw [List.length_set]; exact h1, fun j hj => ?_⟩
  rcases Nat.lt_or_ge j i with h | h
  · obtain ⟨c, hc, hl⟩ := h2 j h
    refine ⟨c, ?_, hl⟩
    rw [← hc, List.getD_eq_getElem?_getD, List.getD_eq_getElem?_getD, List.getElem?_set_ne (by omega)]
  · obtain rfl : j = i := by omega
    refine ⟨b, ?_, hb⟩
    rw [List.getD_eq_getElem?_getD, List.getElem?_set_self (by omega)]; rfl

theorem period_l1 (l : List Int) (hn : l.length ≤ 10000) (i : Nat) (hi0 : 0 < i) (hi : i < l.length) (R : Int × Int)
    (ih : ∀ (fl : List Int) (k : Nat), Tab l fl (i + 1) → LB l (i + 1) k → Ev (fun q => samp_Period.l0 q l fl (k : Int) ((i + 1 : Nat) : Int)) R) (fl : List Int) (hT : Tab l fl i) :
    ∀ k : Nat, Bd l i k → (∀ c, Bd l (i + 1) (c + 1) → c ≤ k) → Ev (fun q => samp_Period.l1 q l fl (k : Int) (i : Int)) R := by
  intro k
  induction k using Nat.strongRecOn with
  | _ k ihk =>
    intro hb hmax
    have hki : k < i := hb.1
    have e1 : wrap64 ((i : Int) + 1) = ((i + 1 : Nat) : Int) := by rw [w64 (by omega) (by omega)]; omega
    have e2 : wrap64 ((k : Int) + 1) = ((k + 1 : Nat) : Int) := by rw [w64 (by omega) (by omega)]; omega
    have hfl := hT.1
    have hyes : l.getD i 0 = l.getD k 0 → LB l (i + 1) (k + 1) := fun he => ⟨hb.snoc he, fun c hc => by
      rcases Nat.eq_zero_or_pos c with h | h
      · omega
      · obtain ⟨d, rfl⟩ : ∃ d, c = d + 1 := ⟨c - 1, by omega⟩
        have := hmax d hc; omega⟩
    by_cases he : l.getD i 0 = l.getD k 0
    · refine Ev.step (fun q => ?_) (ih _ _ (hT.set hi (hyes he)) (hyes he))
      simp only [samp_Period.l1]
      by_cases hk0 : 0 < k
      · rw [if_pos (by omega), if_pos (by omega), if_pos (by omega), if_pos (by omega), if_pos (by omega), rd_nat, rd_nat, if_pos he, if_pos (by omega), e1, e2, Int.toNat_natCast]
      · rw [if_neg (by omega), if_pos (by omega), if_pos (by omega), if_pos (by omega), if_pos (by omega), rd_nat, rd_nat, if_pos he, if_pos (by omega), e1, e2, Int.toNat_natCast]
    · by_cases hk0 : 0 < k
      · obtain ⟨b, hbe, hlb⟩ := hT.2 (k - 1) (by omega)
        rw [show k - 1 + 1 = k by omega] at hlb
        have e3 : wrap64 ((k : Int) - 1) = ((k - 1 : Nat) : Int) := by rw [w64 (by omega) (by omega)]; omega
        refine Ev.step (fun q => ?_) (ihk b hlb.1.1 (hb.trans hlb.1) (fun c hc => ?_))
        · simp only [samp_Period.l1]; rw [if_pos (by omega), if_pos (by omega), if_pos (by omega), if_pos (by omega), if_pos (by omega), rd_nat, rd_nat, if_neg he, e3, if_pos (by omega), if_pos (by omega), rd_nat, hbe]
        · have hck := hmax c hc
          have hcne : c ≠ k := fun e => he (by rw [← hc.last, e])
          rcases hc.tail with h | h
          · omega
          · exact hlb.2 c (hb.inner h (by omega))
      · obtain rfl : k = 0 := by omega
        have hno : LB l (i + 1) 0 := ⟨Bd.zero l _ (by omega), fun c hc => by
          rcases Nat.eq_zero_or_pos c with h | h
          · omega
          · obtain ⟨d, rfl⟩ : ∃ d, c = d + 1 := ⟨c - 1, by omega⟩
            have h0 := hmax d hc
            obtain rfl : d = 0 := by omega
            exact absurd hc.last.symm he⟩
        refine Ev.step (fun q => ?_) (ih _ _ (hT.set hi hno) hno)
        simp only [samp_Period.l1]; rw [if_neg (by omega), if_pos (by omega), if_pos (by omega), if_pos (by omega), if_pos (by omega), rd_nat, rd_nat, if_neg he, if_pos (by omega), e1, Int.toNat_natCast]

theorem period_l0 (l : List Int) (hn : l.length ≤ 10000) (h1 : 1 ≤ l.length) (b : Nat) (hb : LB l l.length b) : ∀ d i : Nat, i + d = l.length → 0 < i → ∀ (fl : List Int) (k : Nat), Tab l fl i → LB l i k →
    Ev (fun q => samp_Period.l0 q l fl (k : Int) (i : Int)) ((l.length : Int) - (b : Int), 0) := by
  intro d
  induction d with
  | zero =>
    intro i hi hi0 fl k hT hk
    obtain ⟨c, hc, hl⟩ := hT.2 (l.length - 1) (by omega)
    rw [show l.length - 1 + 1 = l.length by omega] at hl
    have hcb : c = b := Nat.le_antisymm (hb.2 c hl.1) (hl.2 b hb.1)
    have hfl := hT.1
    have e3 : wrap64 ((l.length : Int) - 1) = ((l.length - 1 : Nat) : Int) := by rw [w64 (by omega) (by omega)]; omega
    have hbl := hb.1.1
    refine Ev.step (fun q => ?_) (Ev.now _)
    simp only [samp_Period.l0]; rw [if_neg (by omega), if_neg (by omega), e3, if_pos (by omega), if_pos (by omega), rd_nat, hc, hcb, w64 (by omega) (by omega)]
  | succ d ih =>
    intro i hi hi0 fl k hT hk
    refine Ev.step (fun q => ?_) (period_l1 l hn i hi0 (by omega) _ (fun fl' k' h1 h2 => ih (i + 1) (by omega) (by omega) fl' k' h1 h2) fl hT k hk.1 (fun c hc => ?_))
    · simp only [samp_Period.l0]; rw [if_pos (by omega)]
    · rcases hc.tail with h | h
      · omega
      · exact hk.2 c h

theorem LB_exists (l : List Int) (i : Nat) (h : 0 < i) : ∃ b, LB l i b := by
  classical
  have key : ∀ m : Nat, m < i → (∃ c, c ≤ m ∧ Bd l i c ∧ ∀ d, d ≤ m → Bd l i d → d ≤ c) := by
    intro m
    induction m with
    | zero => intro _; exact ⟨0, Nat.le_refl _, Bd.zero l i h, fun d hd _ => hd⟩
    | succ m ih =>
      intro hm
      by_cases hb : Bd l i (m + 1)
      · exact ⟨m + 1, Nat.le_refl _, hb, fun d hd _ => hd⟩
      · obtain ⟨c, h1, h2, h3⟩ := ih (by omega)
        refine ⟨c, by omega, h2, fun d hd hbd => ?_⟩
        rcases Nat.lt_or_ge d (m + 1) with h | h
        · exact h3 d (by omega) hbd
        · obtain rfl : d = m + 1 := by omega
          exact absurd hbd hb
  obtain ⟨c, _, h2, h3⟩ := key (i - 1) (by omega)
  exact ⟨c, h2, fun d hd => h3 d (by have := hd.1; omega) hd⟩

/-- Each one is that of so many before. -/
def Per (l : List Int) (p : Nat) : Prop := 0 < p ∧ ∀ t, t + p < l.length → l.getD t 0 = l.getD (t + p) 0

theorem period_is (l : List Int) (hn : l.length ≤ 10000) (h1 : 1 ≤ l.length) (hb : ∀ x ∈ l, 0 ≤ x ∧ x ≤ 1048576) :
    ∃ p : Nat, Ev (fun k => samp_Period.f k l) ((p : Int), 0) ∧ p ≤ l.length ∧ Per l p ∧ ∀ q, q ≤ l.length → Per l q → p ≤ q := by
  obtain ⟨b, hlb⟩ := LB_exists l l.length (by omega)
  have hbl := hlb.1.1
  have hT : Tab l (List.replicate l.length 0) 1 := ⟨by simp, fun j hj => ⟨0, by
    obtain rfl : j = 0 := by omega
    simp [List.getD_eq_getElem?_getD, show 0 < l.length by omega], Bd.zero _ _ (by omega), fun c hc => by have := hc.1; omega⟩⟩
  have h0 : LB l 1 0 := ⟨Bd.zero _ _ (by omega), fun c hc => by have := hc.1; omega⟩
  have hEv := period_l0 l hn h1 b hlb (l.length - 1) 1 (by omega) (by omega) _ 0 hT h0
  refine ⟨l.length - b, ?_, by omega, ⟨by omega, fun t ht => ?_⟩, fun q hq hP => ?_⟩
  · unfold samp_Period.f
    refine Ev.bind (f := fun k t => _) (check_is l (by omega) hb) ?_
    rw [show (((l.length - b : Nat) : Int)) = (l.length : Int) - (b : Int) by omega]
    simp only [if_true]
    simp only [if_pos (show 0 ≤ (l.length : Int) by omega), Int.toNat_natCast, if_pos (show l.length ≤ 35184372088832 by omega)]
    exact hEv
  · rw [hlb.1.2 t (by omega)]; congr 1; omega
  · have hq0 := hP.1
    have hB : Bd l l.length (l.length - q) := ⟨by omega, fun t ht => by
      rw [hP.2 t (by omega)]; congr 1; omega⟩
    have := hlb.2 _ hB
    omega

/-! ### periods of what repeats -/
theorem per_sub {l : List Int} {p m : Nat} (hp : Per l p) (hm : Per l m) (h : p < m) (hl : p + m ≤ l.length) : Per l (m - p) := by
  refine ⟨by omega, fun t ht => ?_⟩
  rcases Nat.lt_or_ge (t + m) l.length with h1 | h1
  · have a1 := hm.2 t h1
    have a2 := hp.2 (t + (m - p)) (by omega)
    rw [a1, a2]; congr 1; omega
  · have a1 := hp.2 (t - p) (by omega)
    have a2 := hm.2 (t - p) (by omega)
    rw [show t - p + p = t by omega] at a1
    rw [← a1, a2]; congr 1; omega
theorem per_dvd {l : List Int} {p : Nat} (hp : Per l p) (hmin : ∀ q, q ≤ l.length → Per l q → p ≤ q) : ∀ m : Nat, Per l m → p + m ≤ l.length → p ∣ m := by
  intro m
  induction m using Nat.strongRecOn with
  | _ m ih =>
    intro hm hl
    have hpm := hmin m (by omega) hm
    have hp0 := hp.1
    rcases Nat.eq_or_lt_of_le hpm with h | h
    · rw [h]; exact Nat.dvd_refl _
    · have h1 := ih (m - p) (by omega) (per_sub hp hm h hl) (by omega)
      have := Nat.dvd_add h1 (Nat.dvd_refl p)
      rwa [show m - p + p = m by omega] at this

theorem cont_at (a : List Int) (N t : Nat) (h : t < N) : (cont a N N).getD t 0 = a.getD (t % a.length) 0 := by rw [cont_getD a N N t h, if_pos h]
theorem cont_per (a : List Int) (N : Nat) (h : 0 < a.length) : Per (cont a N N) a.length := by
  refine ⟨h, fun t ht => ?_⟩
  rw [cont_len] at ht
  rw [cont_at a N t (by omega), cont_at a N _ ht, Nat.add_mod_right]
theorem cont_b (a : List Int) (N : Nat) (ha : ∀ x ∈ a, 0 ≤ x ∧ x ≤ 30) : ∀ x ∈ cont a N N, 0 ≤ x ∧ x ≤ 1048576 := by
  intro x hx
  obtain ⟨i, hi, rfl⟩ := List.mem_map.1 hx
  rw [if_pos (List.mem_range.1 hi)]
  rw [List.getD_eq_getElem?_getD]
  rcases Nat.lt_or_ge (i % a.length) a.length with h | h
  · rw [List.getElem?_eq_getElem h]
    have := ha _ (List.getElem_mem h)
    simp only [Option.getD_some]; omega
  · rw [List.getElem?_eq_none h]; simp
theorem per_over (a : List Int) (N M p : Nat) (h : 0 < a.length) (hN : 2 * a.length ≤ N) (hp : Per (cont a N N) p) (hpm : p ≤ a.length) : Per (cont a M M) p := by
  refine ⟨hp.1, fun t ht => ?_⟩
  rw [cont_len] at ht
  rw [cont_at a M t (by omega), cont_at a M _ ht]
  have hlt := Nat.mod_lt t h
  have := hp.2 (t % a.length) (by rw [cont_len]; omega)
  rw [cont_at a N _ (by omega), cont_at a N _ (by omega), Nat.mod_mod] at this
  rw [this]; congr 1
  rw [Nat.add_mod, Nat.mod_mod, ← Nat.add_mod]

theorem SampPeriods : bakekeep3_SampPeriods.Pure := by
  intro l0 b1 _ _ _ _
  have hm : 0 ≤ mn (l0.length : Int) 12 ∧ mn (l0.length : Int) 12 ≤ l0.length ∧ mn (l0.length : Int) 12 ≤ 12 := by unfold mn; split <;> omega
  obtain ⟨m0, m1, m2⟩ := hm
  generalize hmq : mn (l0.length : Int) 12 = mq at *
  have hlt : (l0.take mq.toNat).length ≤ 12 := by rw [List.length_take]; omega
  obtain ⟨a, ha, al, ab⟩ := levels_is (l0.take mq.toNat) (by omega)
  obtain ⟨q, hq, q0, q1⟩ := below_is b1 4 (by omega) (by omega)
  obtain ⟨c, hc⟩ : ∃ c : Nat, 2 + q = (c : Int) := ⟨(2 + q).toNat, by omega⟩
  refine Ev.rounds (g := fun k => bakekeep3_SampPeriods.f k l0 b1) ?_
  unfold bakekeep3_SampPeriods.f
  simp only [hmq, if_pos m0, if_pos m1]
  refine Ev.bind (f := fun k t => _) ha ?_
  simp only [hq, Option.bind_some]
  rw [w64 (n := 2 + q) (by omega) (by omega), hc, w64 (n := (c : Int) + 1) (by omega) (by omega)]
  have hr1 : ∀ k, slices_Repeat_int_int.f k a (c : Int) = some (cont a (a.length * c) (a.length * c)) := by
    intro k; unfold slices_Repeat_int_int.f; rw [if_pos ⟨by omega, by omega, by omega⟩, Int.toNat_natCast]
  have hr2 : ∀ k, slices_Repeat_int_int.f k a ((c : Int) + 1) = some (cont a (a.length * (c + 1)) (a.length * (c + 1))) := by
    intro k; unfold slices_Repeat_int_int.f; rw [if_pos ⟨by omega, by omega, by omega⟩, show ((c : Int) + 1).toNat = c + 1 by omega]
  simp only [hr1, hr2, Option.bind_some]
  have hm1 : a.length * c ≤ 12 * 6 := Nat.mul_le_mul (by omega) (by omega)
  have hm2 : a.length * (c + 1) ≤ 12 * 6 := Nat.mul_le_mul (by omega) (by omega)
  by_cases he : a.length = 0
  · have hz : ∀ n, a.length * n = 0 := fun n => by rw [he, Nat.zero_mul]
    have hnil : cont a 0 0 = [] := rfl
    rw [hz, hz, hnil]
    have hP : Ev (fun k => samp_Period.f k []) ((0 : Int), 0) := by
      unfold samp_Period.f
      refine Ev.bind (f := fun k t => _) (check_is [] (by simp) (by simp)) ?_
      simp only [if_true, List.length_nil]
      refine Ev.step (fun k => ?_) (Ev.now ((0 : Int), (0 : Int)))
      simp [samp_Period.l0]
    refine Ev.bind (f := fun k t => _) hP ?_
    refine Ev.bind (f := fun k t => _) hP ?_
    refine Ev.bind (f := fun k t => _) heard_is ?_
    simp only [if_true, he]
    exact Ev.now true
  · have hpos : 0 < a.length := by omega
    have hN2 : 2 * a.length ≤ a.length * c := by rw [Nat.mul_comm]; exact Nat.mul_le_mul_left _ (by omega)
    have hM2 : 2 * a.length ≤ a.length * (c + 1) := by rw [Nat.mul_comm]; exact Nat.mul_le_mul_left _ (by omega)
    obtain ⟨p, hpE, hpl, hpP, hpm⟩ := period_is (cont a (a.length * c) (a.length * c)) (by rw [cont_len]; omega) (by rw [cont_len]; omega) (cont_b a _ ab)
    obtain ⟨p', hpE', hpl', hpP', hpm'⟩ := period_is (cont a (a.length * (c + 1)) (a.length * (c + 1))) (by rw [cont_len]; omega) (by rw [cont_len]; omega) (cont_b a _ ab)
    have g1 := hpm a.length (by rw [cont_len]; omega) (cont_per a _ hpos)
    have g2 := hpm' a.length (by rw [cont_len]; omega) (cont_per a _ hpos)
    have g3 := per_dvd hpP hpm a.length (cont_per a _ hpos) (by rw [cont_len]; omega)
    have g4 : p' = p := Nat.le_antisymm (hpm' p (by rw [cont_len]; omega) (per_over a _ _ p hpos hN2 hpP g1)) (hpm p' (by rw [cont_len]; omega) (per_over a _ _ p' hpos hM2 hpP' g2))
    rw [g4] at hpE'
    have hp0 := hpP.1
    refine Ev.bind (f := fun k t => _) hpE ?_
    refine Ev.bind (f := fun k t => _) hpE' ?_
    refine Ev.bind (f := fun k t => _) heard_is ?_
    simp only [if_true]
    simp only [if_neg (show ¬ ((p : Int) > (a.length : Int)) by omega), if_neg (show ¬ (a.length : Int) = 0 by omega), if_pos (show (p : Int) > 0 by omega), if_neg (show ¬ (p : Int) = 0 by omega)]
    have hmod : ((a.length : Int) % (p : Int) == 0) = true := by
      rw [beq_iff_eq]
      obtain ⟨z, hz⟩ := g3
      rw [hz]; push_cast; exact Int.mul_emod_right _ _
    rw [hmod]; exact Ev.now true

end Go.Proofs.Ytijfinimlnedpaa.Pure
