/- Own texts of this claim, part B: contracts of the functions that the law reaches, and plain lemmas. -/
import Derived.Test.YtaalafnkglbcpaaEPA
import Derived.Laws.EntriesVeiled
/- The maker's methods constant (92), bit (79), not (82), mux (80), walked by hand. Own text of this claim. -/
section
namespace Go.Proofs.Ytaalafnkglbcpaa.SY
open Go.RowKit Go.WideMaps Go.Maps Go.Proofs.YtaalafnkglbcpaaW.PrintWords Go.Proofs.YtaalafnkglbcpaaW.PrintLast Go.Proofs.YtaalafnkglbcpaaW.PrintMore
open Go.Proofs.Ytaalafnkglbcpaa.PG (S50 z50 k50 GateOk GatesOk)
set_option linter.unusedVariables false
set_option linter.unusedSimpArgs false
set_option maxHeartbeats 4000000 in
set_option maxRecDepth 100000 in
theorem const_calls {w : World} {base B mb : Nat} {vg : Value} {gs : List S50} (h : MkI w base B mb vg gs) (k : Nat) (hk : k < gs.length) (hl : gs.length ≤ 1000) :
    Calls Try.prog 92 #[.pointer (some ⟨B, 0, none⟩), .int .i64 (k : Int)] w fun e w' => e = .returned (.tuple #[.int .i64 (gs.getD k z50).f4, .bool ((gs.getD k z50).f0 == 0)]) ∧ Drawn0 w w' := by
  obtain ⟨AG, cg, hv, hcg, hC⟩ := Kd.R_reads h.rg
  subst hv
  obtain ⟨ad, rfl, c0, c1, c2, c3, c4⟩ := PG.at_T50 hC (k : Int) (by omega) (by omega)
  have m0 : w.cell? ⟨B, 0, none⟩ = some (.slice (some ad) gs.length cg) := (blk_cell h.blk 0).trans rfl
  have hr : PG.rd_T50 gs (k : Int) = gs.getD k z50 := by unfold PG.rd_T50; simp
  rw [hr] at c0 c1 c2 c3 c4
  rw [Int.toNat_natCast] at c0 c1 c2 c3 c4
  clear hr h hC
  generalize gs.getD k z50 = g at *
  have hkl : (k : Int) < (gs.length : Int) := by omega
  go_enter Try.func92, Try.ntmps92
  go_wp2_with fail
  go_quiet (fail)
  go_wp2
  go_ret2
  exact ⟨rfl, ⟨nq, rfl⟩⟩
section
variable {w : World} {base B mb : Nat} {vg : Value} {gs : List S50} {ins nf : Int}
theorem MkPost.then_ {w w' : World} {n m : Nat} {F G : Nat → Nat → Bool} {vg' : Value} {gs' : List S50} {k : Nat} {e2 : Ending} {w2 : World} (hS : MkStep w w' B mb vg vg') (hE : Ext ins nf gs gs' n k F) (h : MkPost base B mb vg' ins nf gs' m G w' e2 w2) : MkPost base B mb vg ins nf gs (n + m) G w e2 w2 := by
  obtain ⟨vg2, gs2, k2, he, hI, hS2, hE2⟩ := h
  exact ⟨vg2, gs2, k2, he, hI, hS.then_ hS2, hE.then_ hE2⟩
theorem MkPost.cast {n m : Nat} {F G : Nat → Nat → Bool} {e2 : Ending} {w2 : World} (h : MkPost base B mb vg ins nf gs n F w e2 w2) (hn : n ≤ m) (hF : ∀ s x, F s x = G s x) : MkPost base B mb vg ins nf gs m G w e2 w2 := by
  obtain ⟨vg2, gs2, k2, he, hI, hS2, hE2⟩ := h
  exact ⟨vg2, gs2, k2, he, hI, hS2, hE2.cast hn hF⟩
theorem MkStep.drew (w : World) (B mb : Nat) (vg : Value) (n : Nat) : MkStep w (w.drewN n) B mb vg vg := ⟨(PL.Kept.refl w _).drewN n, .inl rfl⟩
theorem MkStep.alloc (w : World) (B mb : Nat) (vg : Value) (o : Obj) : MkStep w (w.alloc o) B mb vg vg := ⟨(PL.Kept.refl w _).alloc o, .inl rfl⟩
set_option maxHeartbeats 4000000 in
set_option maxRecDepth 100000 in
theorem bit_calls (h : MkI w base B mb vg gs) (hgs : GatesOk ins nf gs) (hl : gs.length < 1000) (hi : ins ≤ 1000) (hnf : nf ≤ 1000) (n : Int) (hn0 : 0 ≤ n) (hn1 : n < 2) :
    Calls Try.prog 79 #[.pointer (some ⟨B, 0, none⟩), .int .i64 n] w (MkPost base B mb vg ins nf gs 1 (fun s x => decide (n = 1)) w) := by
  have PUT := Aside0.mk (put_calls h hgs hl hi hnf ⟨0, 0, 0, 0, n⟩ (.inl ⟨rfl, rfl, rfl, rfl, hn0, hn1⟩))
  simp only [gval] at PUT
  clear h hgs
  go_enter Try.func79, Try.ntmps79
  go_wp2_with fail
  (with_reducible refine PUT.out.mono ?_)
  rintro e w' ⟨vg', gs', k, rfl, I, S, E⟩
  go_wp2
  go_ret
  exact ⟨vg', gs', k, rfl, I, S, E.cast (Nat.le_refl _) (fun s x => gb0 rfl s x _)⟩
theorem f4_of {i : Nat} {g : S50} (h : GateOk ins nf i g) (h0 : g.f0 = 0) : g.f4 = 0 ∨ g.f4 = 1 := by
  rcases h with h | h | h | ⟨h, h1, h2, h3⟩ | ⟨h, h1, h2, h3, h4, h5⟩ | ⟨h, h1, h2, h3, h4, h5, h6, h7⟩ <;> omega
theorem f1_of {i : Nat} {g : S50} (h : GateOk ins nf i g) (h0 : g.f0 = 3) : 0 ≤ g.f1 ∧ g.f1 < i := by
  rcases h with h | h | h | ⟨h, h1, h2, h3⟩ | ⟨h, h1, h2, h3, h4, h5⟩ | ⟨h, h1, h2, h3, h4, h5, h6, h7⟩ <;> omega
set_option maxHeartbeats 4000000 in
set_option maxRecDepth 100000 in
theorem not_calls (h : MkI w base B mb vg gs) (hgs : GatesOk ins nf gs) (hl : gs.length < 1000) (hi : ins ≤ 1000) (hnf : nf ≤ 1000) (a : Nat) (ha : a < gs.length) :
    Calls Try.prog 82 #[.pointer (some ⟨B, 0, none⟩), .int .i64 (a : Int)] w (MkPost base B mb vg ins nf gs 1 (fun s x => !(val gs s x a)) w) := by
  have CON := Aside0.mk (const_calls h a ha (by omega))
  have HI := Aside0.mk h
  have HGS := Aside0.mk hgs
  have hok := hgs a ha
  have hva : ∀ s x, val gs s x a = gb (gs.getD a z50) s x (bvals gs s x) := fun s x => val_at hgs ha
  obtain ⟨AG, cg, hv, hcg, hC⟩ := Kd.R_reads h.rg
  subst hv
  have CC := Aside0.mk hC
  clear h hgs hC
  generalize hg : gs.getD a z50 = g at *
  have HOK := Aside0.mk hok
  have HVA := Aside0.mk hva
  have HGD := Aside0.mk hg
  clear hok hva hg
  go_enter Try.func82, Try.ntmps82
  go_wp2_with fail
  (with_reducible refine CON.out.mono ?_)
  rintro e w1 ⟨rfl, ⟨n1, rfl⟩⟩
  have I1 := Aside0.mk (HI.out.drewN n1)
  have S1 := Aside0.mk (MkStep.drew w B mb (.slice AG gs.length cg) n1)
  have C1 := Aside0.mk (Kd.C_drewN CC.out n1)
  clear CON HI CC
  generalize w.drewN n1 = w1 at *
  by_cases h0 : g.f0 = 0
  · have b0 : (g.f0 == 0) = true := by simp [h0]
    have hf4 := f4_of HOK.out h0
    have hw : wrap64 (1 - g.f4) = 1 - g.f4 := by unfold wrap64; omega
    have BIT := Aside0.mk (bit_calls I1.out HGS.out hl hi hnf (1 - g.f4) (by omega) (by omega))
    have F : ∀ s x, decide (1 - g.f4 = 1) = !(val gs s x a) := fun s x => by
      rw [HVA.out, gb0 h0]
      rcases hf4 with h | h <;> simp [h]
    have HF := Aside0.mk F
    clear F hf4
    generalize g.f0 = g0 at *
    generalize g.f4 = g4 at *
    go_wp2_with fail
    (with_reducible refine BIT.out.mono ?_)
    rintro e w' ⟨vg', gs', k, rfl, I, S, E⟩
    go_wp2
    go_ret
    exact ⟨vg', gs', k, rfl, I, S1.out.then_ S, E.cast (Nat.le_refl _) HF.out⟩
  · have b0 : (g.f0 == 0) = false := by simp [h0]
    obtain ⟨ad, rfl, c0, c1, c2, c3, c4⟩ := PG.at_T50 C1.out (a : Int) (by omega) (by omega)
    have hr : PG.rd_T50 gs (a : Int) = gs.getD a z50 := by unfold PG.rd_T50; simp
    rw [hr, HGD.out, Int.toNat_natCast] at c0 c1 c2 c3 c4
    have m0 : w1.cell? ⟨B, 0, none⟩ = some (.slice (some ad) gs.length cg) := (blk_cell I1.out.blk 0).trans rfl
    clear hr
    have hal : (a : Int) < (gs.length : Int) := by omega
    by_cases h3 : g.f0 = 3
    · have b3 : (g.f0 == 3) = true := by simp [h3]
      have hf1 := f1_of HOK.out h3
      obtain ⟨q, hq⟩ : ∃ q : Nat, g.f1 = (q : Int) := ⟨g.f1.toNat, by omega⟩
      have E : Ext ins nf gs gs 0 q (fun s x => !(val gs s x a)) := (Ext.refl HGS.out (by omega)).cast (Nat.le_refl _) (fun s x => by rw [HVA.out, gb3 h3, hq, Int.toNat_natCast]; show _ = !!(val gs s x q); simp)
      have HE := Aside0.mk E
      clear E hf1
      generalize g.f1 = g1 at *
      subst hq
      go_wp2
      go_ret
      exact ⟨_, gs, q, rfl, I1.out.alloc _, S1.out.then_ (MkStep.alloc _ _ _ _ _), HE.out.cast (by omega) (fun _ _ => rfl)⟩
    · have b3 : (g.f0 == 3) = false := by simp [h3]
      have PUT := Aside0.mk (put_calls (I1.out.alloc (.cells #[.int .i64 g.f0, .int .i64 g.f1, .int .i64 g.f2, .int .i64 g.f3, .int .i64 g.f4] 50)) HGS.out hl hi hnf ⟨3, a, 0, 0, 0⟩ (.inr (.inr (.inr (.inl ⟨rfl, Int.natCast_nonneg a, by show (a : Int) < _; omega, rfl, rfl, rfl⟩)))))
      simp only [gval] at PUT
      go_wp2_with fail
      (with_reducible refine PUT.out.mono ?_)
      rintro e w' ⟨vg', gs', k, rfl, I, S, E⟩
      go_wp2
      go_ret
      exact ⟨vg', gs', k, rfl, I, S1.out.then_ ((MkStep.alloc _ _ _ _ _).then_ S), E.cast (Nat.le_refl _) (fun s x => by
        rw [gb3 rfl]
        show (!(bvals gs s x).getD ((a : Nat) : Int).toNat false) = _
        rw [Int.toNat_natCast]; rfl)⟩
theorem MkI.once (h : MkI w base B mb vg gs) {i j : Nat} (hi : i < gs.length) (hj : j < gs.length) (e : gs.getD i z50 = gs.getD j z50) : i = j := by
  obtain ⟨D, _, hm⟩ := h.om
  have at_ : ∀ k, k < gs.length → (gs.map litG)[k]? = some (litG (gs.getD k z50)) := fun k hk => by
    rw [List.getElem?_map, List.getElem?_eq_getElem hk, List.getD_eq_getElem?_getD, List.getElem?_eq_getElem hk]; rfl
  have h1 := hm.at' _ _ (at_ i hi) .nil
  have h2 := hm.at' _ _ (at_ j hj) .nil
  rw [e, h2] at h1
  simp only [DataW.lit.injEq, Lit.int.injEq, true_and] at h1
  omega
theorem const_is {i : Nat} {g : S50} (h : GateOk ins nf i g) (h0 : g.f0 = 0) : g = ⟨0, 0, 0, 0, g.f4⟩ := by
  obtain ⟨f0, f1, f2, f3, f4⟩ := g
  simp only at h0
  subst h0
  rcases h with ⟨h1, h2, h3, h4, h5⟩ | ⟨h, _⟩ | ⟨h, _⟩ | ⟨h, _⟩ | ⟨h, _⟩ | ⟨h, _⟩
  · simp only at h2 h3 h4
    subst h2 h3 h4; rfl
  all_goals (simp at h)
theorem two_const (h : MkI w base B mb vg gs) (hgs : GatesOk ins nf gs) {b c : Nat} (hb : b < gs.length) (hc : c < gs.length) (hne : b ≠ c) (h0 : (gs.getD b z50).f0 = 0) (h1 : (gs.getD c z50).f0 = 0) : (gs.getD b z50).f4 ≠ (gs.getD c z50).f4 := fun e => by
  refine hne (h.once hb hc ?_)
  rw [const_is (hgs b hb) h0, const_is (hgs c hc) h1, e]
set_option maxHeartbeats 8000000 in
set_option maxRecDepth 100000 in
theorem mux_calls (h : MkI w base B mb vg gs) (hgs : GatesOk ins nf gs) (hl : gs.length < 1000) (hi : ins ≤ 1000) (hnf : nf ≤ 1000) (a b c : Nat) (ha : a < gs.length) (hb : b < gs.length) (hc : c < gs.length) :
    Calls Try.prog 80 #[.pointer (some ⟨B, 0, none⟩), .int .i64 (a : Int), .int .i64 (b : Int), .int .i64 (c : Int)] w (MkPost base B mb vg ins nf gs 1 (fun s x => if val gs s x a then val gs s x b else val gs s x c) w) := by
  have CON := Aside0.mk (const_calls h a ha (by omega))
  have HI := Aside0.mk h
  have HGS := Aside0.mk hgs
  have hva : ∀ s x, val gs s x a = gb (gs.getD a z50) s x (bvals gs s x) := fun s x => val_at hgs ha
  have hvb : ∀ s x, val gs s x b = gb (gs.getD b z50) s x (bvals gs s x) := fun s x => val_at hgs hb
  have hvc : ∀ s x, val gs s x c = gb (gs.getD c z50) s x (bvals gs s x) := fun s x => val_at hgs hc
  have TWO := Aside0.mk (fun hne h0 h1 => two_const h hgs hb hc hne h0 h1)
  have OKA := Aside0.mk (f4_of (hgs a ha))
  have OKB := Aside0.mk (f4_of (hgs b hb))
  have OKC := Aside0.mk (f4_of (hgs c hc))
  clear h hgs
  have CONB := Aside0.mk (fun W (hW : MkI W base B mb vg gs) => const_calls hW b hb (by omega))
  have CONC := Aside0.mk (fun W (hW : MkI W base B mb vg gs) => const_calls hW c hc (by omega))
  generalize gs.getD a z50 = ga at *
  generalize gs.getD b z50 = gb' at *
  generalize gs.getD c z50 = gc at *
  have HVA := Aside0.mk hva
  have HVB := Aside0.mk hvb
  have HVC := Aside0.mk hvc
  clear hva hvb hvc
  obtain ⟨a0, a1, a2, a3, a4⟩ := ga
  obtain ⟨b0, b1, b2, b3, b4⟩ := gb'
  obtain ⟨c0, c1, c2, c3, c4⟩ := gc
  simp only at OKA OKB OKC TWO CON CONB CONC
  go_enter Try.func80, Try.ntmps80
  go_wp2_with fail
  (with_reducible refine CON.out.mono ?_)
  rintro e w1 ⟨rfl, ⟨n1, rfl⟩⟩
  have I1 := Aside0.mk (HI.out.drewN n1)
  have S1 := Aside0.mk (MkStep.drew w B mb vg n1)
  clear CON HI
  generalize w.drewN n1 = w1 at *
  by_cases h0 : a0 = 0
  · have e0 : (a0 == 0) = true := by simp [h0]
    by_cases h4 : a4 = 1
    · have e4 : (a4 == 1) = true := by simp [h4]
      have E := Aside0.mk ((Ext.refl HGS.out hb).cast (G := fun s x => if val gs s x a then val gs s x b else val gs s x c) (Nat.zero_le 1) (fun s x => by rw [HVA.out s x, gb0 h0]; simp [h4]))
      clear h0 h4
      go_wp2
      go_ret
      exact ⟨vg, gs, b, rfl, I1.out, S1.out, E.out⟩
    · have e4 : (a4 == 1) = false := by simp [h4]
      have E := Aside0.mk ((Ext.refl HGS.out hc).cast (G := fun s x => if val gs s x a then val gs s x b else val gs s x c) (Nat.zero_le 1) (fun s x => by rw [HVA.out s x, gb0 h0]; simp [h4]))
      clear h0 h4
      go_wp2
      go_ret
      exact ⟨vg, gs, c, rfl, I1.out, S1.out, E.out⟩
  have e0 : (a0 == 0) = false := by simp [h0]
  clear h0
  go_wp2_with fail
  (with_reducible refine (CONB.out _ I1.out).mono ?_)
  rintro e w2 ⟨rfl, ⟨n2, rfl⟩⟩
  have I2 := Aside0.mk (I1.out.drewN n2)
  have S2 := Aside0.mk (S1.out.then_ (MkStep.drew w1 B mb vg n2))
  clear I1 S1
  generalize w1.drewN n2 = w2 at *
  go_wp2_with fail
  (with_reducible refine (CONC.out _ I2.out).mono ?_)
  rintro e w3 ⟨rfl, ⟨n3, rfl⟩⟩
  have I3 := Aside0.mk (I2.out.drewN n3)
  have S3 := Aside0.mk (S2.out.then_ (MkStep.drew w2 B mb vg n3))
  clear I2 S2
  generalize w2.drewN n3 = w3 at *
  by_cases hbc : b = c
  · have ebc : ((b : Int) == (c : Int)) = true := by simp [hbc]
    have E := Aside0.mk ((Ext.refl HGS.out hb).cast (G := fun s x => if val gs s x a then val gs s x b else val gs s x c) (Nat.zero_le 1) (fun s x => by rw [hbc]; simp))
    clear hbc
    go_wp2
    go_ret
    exact ⟨vg, gs, b, rfl, I3.out, S3.out, E.out⟩
  have ebc : ((b : Int) == (c : Int)) = false := by simp; omega
  have tw := TWO.out hbc
  clear hbc
  by_cases hb0 : b0 = 0 ∧ c0 = 0
  · have eb : (b0 == 0) = true := by simp [hb0.1]
    have ec : (c0 == 0) = true := by simp [hb0.2]
    have tw2 := tw hb0.1 hb0.2
    have o1 := OKB.out hb0.1
    have o2 := OKC.out hb0.2
    have vb : ∀ s x, val gs s x b = decide (b4 = 1) := fun s x => by rw [HVB.out, gb0 hb0.1]
    have vc : ∀ s x, val gs s x c = decide (c4 = 1) := fun s x => by rw [HVC.out, gb0 hb0.2]
    clear tw hb0
    by_cases h4 : b4 = 1
    · have e4 : (b4 == 1) = true := by simp [h4]
      have h5 : c4 = 0 := by omega
      have E := Aside0.mk ((Ext.refl HGS.out ha).cast (G := fun s x => if val gs s x a then val gs s x b else val gs s x c) (Nat.zero_le 1) (fun s x => by rw [vb, vc, h4, h5]; cases val gs s x a <;> simp))
      clear h4 h5 o1 o2 vb vc tw2
      go_wp2
      go_ret
      exact ⟨vg, gs, a, rfl, I3.out, S3.out, E.out⟩
    · have e4 : (b4 == 1) = false := by simp [h4]
      have h5 : b4 = 0 := by omega
      have h6 : c4 = 1 := by omega
      have NOT := Aside0.mk ((not_calls I3.out HGS.out hl hi hnf a ha))
      have F := Aside0.mk (fun s x => show (!(val gs s x a)) = (if val gs s x a then val gs s x b else val gs s x c) by rw [vb, vc, h5, h6]; cases val gs s x a <;> simp)
      clear h4 h5 h6 o1 o2 vb vc tw2
      go_wp2_with fail
      (with_reducible refine NOT.out.mono ?_)
      rintro e w' ⟨vg', gs', k, rfl, I, S, E⟩
      go_wp2
      go_ret
      exact ⟨vg', gs', k, rfl, I, S3.out.then_ S, E.cast (Nat.le_refl _) F.out⟩
  · clear tw
    have PUT := Aside0.mk (put_calls I3.out HGS.out hl hi hnf ⟨7, a, b, c, 0⟩ (.inr (.inr (.inr (.inr (.inr ⟨rfl, Int.natCast_nonneg a, by show (a : Int) < _; omega, Int.natCast_nonneg b, by show (b : Int) < _; omega, Int.natCast_nonneg c, by show (c : Int) < _; omega, rfl⟩))))))
    simp only [gval] at PUT
    have ecase : (b0 == 0) = false ∨ ((b0 == 0) = true ∧ (c0 == 0) = false) := by
      by_cases h1 : b0 = 0
      · exact .inr ⟨by simp [h1], by simpa using fun h2 => hb0 ⟨h1, h2⟩⟩
      · exact .inl (by simp [h1])
    clear hb0
    rcases ecase with eb | ⟨eb, ec⟩
    all_goals
      go_wp2_with fail
      (with_reducible refine PUT.out.mono ?_)
      rintro e w' ⟨vg', gs', k, rfl, I, S, E⟩
      go_wp2
      go_ret
      exact ⟨vg', gs', k, rfl, I, S3.out.then_ S, E.cast (Nat.le_refl _) (fun s x => by
        rw [gb7 rfl]
        show (if (bvals gs s x).getD ((a : Nat) : Int).toNat false then (bvals gs s x).getD ((b : Nat) : Int).toNat false else (bvals gs s x).getD ((c : Nat) : Int).toNat false) = _
        rw [Int.toNat_natCast, Int.toNat_natCast, Int.toNat_natCast]; rfl)⟩
end
end Go.Proofs.Ytaalafnkglbcpaa.SY
end

/- The maker's method tree (61), walked by hand: a bit that is a function of others. Own text of this claim. -/
section
namespace Go.Proofs.Ytaalafnkglbcpaa.SY
open Go.RowKit Go.WideMaps Go.Maps Go.Proofs.YtaalafnkglbcpaaW.PrintWords Go.Proofs.YtaalafnkglbcpaaW.PrintLast Go.Proofs.YtaalafnkglbcpaaW.PrintMore
open Go.Proofs.Ytaalafnkglbcpaa.PG (S50 z50 k50 GateOk GatesOk)
set_option linter.unusedVariables false
set_option linter.unusedSimpArgs false
/-- The number that bits make, the lowest first. -/
def bitsN : List Bool → Nat
  | [] => 0
  | b :: t => b.toNat + 2 * bitsN t
theorem bitsN_lt : ∀ l : List Bool, bitsN l < 2 ^ l.length
  | [] => by simp [bitsN]
  | b :: t => by
    have := bitsN_lt t
    have hb : b.toNat ≤ 1 := by cases b <;> simp
    simp only [bitsN, List.length_cons, Nat.pow_succ]; omega
theorem bitsN_snoc : ∀ (l : List Bool) (b : Bool), bitsN (l ++ [b]) = bitsN l + (if b then 2 ^ l.length else 0)
  | [], b => by cases b <;> simp [bitsN]
  | a :: t, b => by
    rw [List.cons_append, bitsN, bitsN, bitsN_snoc t b, List.length_cons, Nat.pow_succ]
    cases b <;> simp; omega
def treeF (f : List Int) (bs : List Bool) : Bool := decide (f.getD (bitsN bs) 0 = 1)
theorem treeF_snoc (f : List Int) (bs : List Bool) (b : Bool) (hf : f.length = 2 ^ (bs.length + 1)) : treeF f (bs ++ [b]) = if b then treeF (f.drop (2 ^ bs.length)) bs else treeF (f.take (2 ^ bs.length)) bs := by
  have h := bitsN_lt bs
  unfold treeF
  rw [bitsN_snoc]
  cases b
  · simp only [Bool.false_eq_true, if_false, Nat.add_zero]
    rw [List.getD_eq_getElem?_getD, List.getD_eq_getElem?_getD, List.getElem?_take, if_pos h]
  · simp only [if_true]
    rw [List.getD_eq_getElem?_getD, List.getD_eq_getElem?_getD, List.getElem?_drop, Nat.add_comm]
def natsI (l : List Nat) : List Int := l.map fun (k : Nat) => (k : Int)
/-- What is read of a row that the maker does not write. -/
def ReadK (w : World) (B mb : Nat) (vg : Value) (A : Option Addr) (n : Nat) (xs : List Int) : Prop := ∀ W, Kept w W (MkS B mb vg) → Kd.C (Kd.int .i64) W A n xs
theorem ReadK.step {w W : World} {B mb : Nat} {vg vg' : Value} {A : Option Addr} {n : Nat} {xs : List Int} (h : ReadK w B mb vg A n xs) (s : MkStep w W B mb vg vg') : ReadK W B mb vg' A n xs := fun W2 hk => h W2 (s.then_ (W2 := W2) (vg2 := vg') ⟨hk, .inl rfl⟩).kp
theorem ReadK.now {w : World} {B mb : Nat} {vg : Value} {A : Option Addr} {n : Nat} {xs : List Int} (h : ReadK w B mb vg A n xs) : Kd.C (Kd.int .i64) w A n xs := h w (PL.Kept.refl w _)
theorem ReadK.take {w : World} {B mb : Nat} {vg : Value} {A : Option Addr} {n m : Nat} {xs : List Int} (h : ReadK w B mb vg A n xs) (hn : xs.length = n) (hm : m ≤ n) : ReadK w B mb vg A m (xs.take m) := fun W hk => by
  have h1 := Kd.C_take (m := m) (by have := h W hk; rw [← hn] at this; exact this) (by omega)
  rwa [show (xs.take m).length = m by rw [List.length_take]; omega] at h1
theorem ReadK.drop {w : World} {B mb : Nat} {vg : Value} {A : Option Addr} {n m c : Nat} {xs : List Int} (h : ReadK w B mb vg A n xs) (hn : xs.length = n) (hm : m ≤ n) (hc : n ≤ c) (hne : m < c) : ReadK w B mb vg (Option.map (fun x => x.add m) A) (n - m) (xs.drop m) := fun W hk => by
  have h1 := Kd.C_drop (m := m) (c := c) (by have := h W hk; rw [← hn] at this; exact this) (by omega) (by omega)
  rw [if_neg (by omega), List.length_drop, hn] at h1
  rwa [show m * (Kd.int .i64).sz = m from by show m * 1 = m; omega] at h1
theorem bd_of {n : Nat} : 2 ^ (n + 1 + 1) = 2 ^ (n + 1) + 2 ^ (n + 1) ∧ 2 ^ (n + 1) = 2 ^ n + 2 ^ n ∧ 0 < 2 ^ n := by
  have := Nat.two_pow_pos n
  refine ⟨?_, ?_, this⟩ <;> (rw [Nat.pow_succ]; omega)
theorem pow_wrap {n M : Nat} (hM : M = 2 ^ n) (h : M ≤ 1000) : wrap64 (2 ^ n) = (M : Int) := by
  have h1 : (2 : Int) ^ n = (M : Int) := by rw [hM]; simp
  rw [h1]; unfold wrap64; omega
set_option maxHeartbeats 8000000 in
set_option maxRecDepth 100000 in
theorem tree_calls {base B mb : Nat} {ins nf : Int} (hi : ins ≤ 1000) (hnf : nf ≤ 1000) : ∀ (n N : Nat) (w : World) (vg : Value) (gs : List S50) (Av Af : Option Addr) (cv cf : Nat) (vars : List Nat) (f : List Int), N = 2 ^ n → MkI w base B mb vg gs → GatesOk ins nf gs → gs.length + 2 ^ (n + 1) ≤ 900 → n ≤ 5 →
    vars.length = n → f.length = N → (∀ v ∈ vars, v < gs.length) → (∀ x ∈ f, 0 ≤ x ∧ x < 2) → ReadK w B mb vg Av n (natsI vars) → ReadK w B mb vg Af N f → n ≤ cv → N ≤ cf → N ≤ 100 →
    Calls Try.prog 61 #[.pointer (some ⟨B, 0, none⟩), .slice Av n cv, .slice Af N cf] w (MkPost base B mb vg ins nf gs (2 ^ (n + 1) - 1) (fun s x => treeF f (vars.map (val gs s x))) w) := by
  intro n
  induction n with
  | zero =>
    intro N w vg gs Av Af cv cf vars f hN hI hgs hl h5 hvl hfl hvs hf hV hF hcv hcf h100
    obtain rfl : vars = [] := List.eq_nil_of_length_eq_zero hvl
    obtain rfl : N = 1 := hN
    obtain ⟨x, rfl⟩ : ∃ x, f = [x] := by
      cases f with
      | nil => simp at hfl
      | cons a t => cases t with
        | nil => exact ⟨a, rfl⟩
        | cons b t => simp at hfl
    have hx := hf x (by simp)
    obtain ⟨a, ea, ha⟩ := Kd.at_int hF.now 0 (by decide) (by decide)
    subst ea
    have ha' : w.cell? a = some (.int .i64 x) := by
      rw [show (0 : Int).toNat = 0 from rfl, show a.add 0 = a from by unfold Addr.add; split <;> simp_all] at ha
      exact ha
    have BIT := Aside0.mk (bit_calls hI hgs (by have : 2 ^ (0 + 1) = 2 := rfl; omega) hi hnf x hx.1 hx.2)
    clear ha hI hgs hV hF hf hvs hfl hl
    go_enter Try.func61, Try.ntmps61
    go_wp2_with fail
    (with_reducible refine BIT.out.mono ?_)
    rintro e w' ⟨vg', gs', k, rfl, I, S, E⟩
    go_wp2
    go_ret
    exact ⟨vg', gs', k, rfl, I, S, E.cast (by decide) (fun s x => rfl)⟩
  | succ n ih =>
    intro N w vg gs Av Af cv cf vars f hN hI hgs hl h5 hvl hfl hvs hf hV hF hcv hcf h100
    obtain ⟨vs, v, rfl⟩ : ∃ vs v, vars = vs ++ [v] := ⟨vars.dropLast, vars.getLast (by intro h; subst h; simp at hvl), (List.dropLast_concat_getLast _).symm⟩
    have hvs' : vs.length = n := by simpa using hvl
    obtain ⟨M, hM⟩ : ∃ M, M = 2 ^ n := ⟨_, rfl⟩
    have hNM : N = M + M := by rw [hN, hM, Nat.pow_succ]; omega
    have hMp : 0 < M := by rw [hM]; exact Nat.two_pow_pos n
    obtain ⟨P, hP⟩ : ∃ P, P = 2 ^ (n + 1) := ⟨_, rfl⟩
    have hPP : 2 ^ (n + 1 + 1) = P + P := by rw [hP, Nat.pow_succ]; omega
    rw [hPP] at hl
    have HSH := Aside0.mk (pow_wrap hM (by omega))
    have hV1 : ReadK w B mb vg Av n (natsI vs) := by
      have h := hV.take (m := n) (by simp [natsI, hvs']) (by omega)
      rwa [show (natsI (vs ++ [v])).take n = natsI vs from by unfold natsI; rw [List.map_append, List.take_append_of_le_length (by simp [hvs']), List.take_of_length_le (by simp [hvs'])]] at h
    have hF1 : ReadK w B mb vg Af M (f.take M) := hF.take hfl (by omega)
    have hF2 : ReadK w B mb vg (Option.map (fun x => x.add M) Af) M (f.drop M) := by
      have h := hF.drop (m := M) (c := cf) hfl (by omega) (by omega) (by omega)
      rwa [show N - M = M by omega] at h
    have T1 := Aside0.mk (fun W hI1 (hst : MkStep w W B mb vg vg) => ih M W vg gs Av Af cv cf vs (f.take M) hM hI1 hgs (by rw [← hP]; omega) (by omega) hvs' (by rw [List.length_take]; omega) (fun u hu => hvs u (by simp [hu])) (fun x hx => hf x (List.mem_of_mem_take hx)) (hV1.step (W := W) (vg' := vg) hst) (hF1.step hst) (by omega) (by omega) (by omega))
    have HI := Aside0.mk hI
    have HGS := Aside0.mk hgs
    have T2 : Aside0 (∀ W vg1 gs1 cf2 L, L = M → MkI W base B mb vg1 gs1 → GatesOk ins nf gs1 → gs1.length + 2 ^ (n + 1) ≤ 900 → gs.length ≤ gs1.length → MkStep w W B mb vg vg1 → M ≤ cf2 →
        Calls Try.prog 61 #[.pointer (some ⟨B, 0, none⟩), .slice Av n cv, .slice (Option.map (fun x => x.add M) Af) L cf2] W (MkPost base B mb vg1 ins nf gs1 (2 ^ (n + 1) - 1) (fun s x => treeF (f.drop M) (vs.map (val gs1 s x))) W)) := ⟨fun W vg1 gs1 cf2 L hL hI1 hgs1 hl1 hle hst hc2 => by
      subst hL
      have hz := ih L W vg1 gs1 Av (Option.map (fun x => x.add L) Af) cv cf2 vs (f.drop L) hM hI1 hgs1 hl1 (by omega) hvs' (by rw [List.length_drop]; omega) (fun u hu => Nat.lt_of_lt_of_le (hvs u (by simp [hu])) hle) (fun x hx => hf x (List.mem_of_mem_drop hx)) (hV1.step (W := W) (vg' := vg1) hst) (hF2.step hst) (by omega) hc2 (by omega)
      with_reducible exact hz⟩
    have HV := Aside0.mk hV
    have hvlt : v < gs.length := hvs v (by simp)
    have HFS : Aside0 (∀ bs : List Bool, ∀ b, bs.length = n → treeF f (bs ++ [b]) = if b then treeF (f.drop M) bs else treeF (f.take M) bs) := ⟨fun bs b hb => by
      have h := treeF_snoc f bs b (by rw [hfl, hN, hb])
      rw [hb, ← hM] at h; exact h⟩
    have HVL := Aside0.mk hvs'
    have HVS := Aside0.mk (fun u hu => hvs u (by simp [hu]) : ∀ u ∈ vs, u < gs.length)
    have hw1 : wrap64 (((n + 1 : Nat) : Int) - 1) = (n : Int) := by unfold wrap64; omega
    have hM1 : (M : Int) ≤ (N : Int) := by omega
    have hM2 : (M : Int) ≤ (cf : Int) := by omega
    have hM0 : (0 : Int) ≤ (M : Int) := by omega
    have hcM : ¬ cf = M := by omega
    have hcd : (n : Int) ≤ (cv : Int) := by omega
    have hcd' : n ≤ cv := by omega
    have hM2' : M ≤ cf := by omega
    have hM1' : M ≤ N := by omega
    have HP := Aside0.mk hP
    have HM100 : Aside0 (N = M + M ∧ N ≤ cf) := ⟨hNM, hcf⟩
    have HCV := Aside0.mk hcv
    clear hV hF hV1 hF1 hF2 hI hgs hf hvs hvl hfl hN hM hP hPP hcv hcf h100 hvs' hNM
    go_enter Try.func61, Try.ntmps61
    go_wp2_with fail
    refine start_ (n := 10) (S := fun _ => True) (ds := []) #[false, false, false, false, false, false, false, false, false, false] (by kernel_rfl) rfl rfl trivial (fun hHeld => ?_)
    refine pure_ (i := 0) (N := (some 21)) (v := ?_) (a' := ?_) #[true, false, false, false, false, false, false, false, false, false] rfl rfl (by kernel_rfl) (fun _ _ _ h => h) (Or.inl ⟨by rfl, ?_⟩) ?_ ?_
    rotate_left
    · intro w'
      go_simp
      with_reducible rfl
    rotate_left
    · simp only [Act.put, List.setIfInBounds_toArray, List.set_cons_zero, List.set_cons_succ, i64_w, i32_w]
      rfl
    refine pure_ (i := 1) (N := (some 22)) (v := ?_) (a' := ?_) #[true, true, false, false, false, false, false, false, false, false] rfl rfl (by kernel_rfl) (fun _ _ _ h => h) (Or.inl ⟨by rfl, ?_⟩) ?_ ?_
    rotate_left
    · intro w'
      go_simp
      with_reducible rfl
    rotate_left
    · simp only [Act.put, List.setIfInBounds_toArray, List.set_cons_zero, List.set_cons_succ, i64_w, i32_w]
      rfl
    refine pure_ (i := 2) (N := (some 23)) (v := ?_) (a' := ?_) #[true, true, true, false, false, false, false, false, false, false] rfl rfl (by kernel_rfl) (fun _ _ _ h => h) (Or.inl ⟨by rfl, ?_⟩) ?_ ?_
    rotate_left
    · intro w'
      go_simp
      with_reducible rfl
    rotate_left
    · simp only [Act.put, List.setIfInBounds_toArray, List.set_cons_zero, List.set_cons_succ, i64_w, i32_w]
      rfl
    refine pure_ (i := 3) (N := (some 24)) (v := ?_) (a' := ?_) #[true, true, true, true, false, false, false, false, false, false] rfl rfl (by kernel_rfl) (fun _ _ _ h => h) (Or.inl ⟨by rfl, ?_⟩) ?_ ?_
    rotate_left
    · intro w'
      go_simp
      with_reducible rfl
    rotate_left
    · simp only [Act.put, List.setIfInBounds_toArray, List.set_cons_zero, List.set_cons_succ, i64_w, i32_w]
      rfl
    refine pure_ (i := 4) (N := (some 25)) (v := ?_) (a' := ?_) #[true, true, true, true, true, false, false, false, false, false] rfl rfl (by kernel_rfl) (fun _ _ _ h => h) (Or.inl ⟨by rfl, ?_⟩) ?_ ?_
    rotate_left
    · intro w'
      go_simp
      with_reducible rfl
    rotate_left
    · simp only [Act.put, List.setIfInBounds_toArray, List.set_cons_zero, List.set_cons_succ, i64_w, i32_w]
      rfl
    refine pure_ (i := 5) (N := (some 26)) (v := ?_) (a' := ?_) #[true, true, true, true, true, true, false, false, false, false] rfl rfl (by kernel_rfl) (fun _ _ _ h => h) (Or.inl ⟨by rfl, ?_⟩) ?_ ?_
    rotate_left
    · intro w'
      go_simp
      with_reducible rfl
    rotate_left
    · simp only [Act.put, List.setIfInBounds_toArray, List.set_cons_zero, List.set_cons_succ, i64_w, i32_w]
      rfl
    refine pure_ (i := 6) (N := (some 27)) (v := ?_) (a' := ?_) #[true, true, true, true, true, true, true, false, false, false] rfl rfl (by kernel_rfl) (fun _ _ _ h => h) (Or.inl ⟨by rfl, ?_⟩) ?_ ?_
    rotate_left
    · intro w'
      go_simp
      with_reducible rfl
    rotate_left
    · simp only [Act.put, List.setIfInBounds_toArray, List.set_cons_zero, List.set_cons_succ, i64_w, i32_w]
      rfl
    rw [HSH.out]
    refine pure_ (i := 7) (N := (some 28)) (v := ?_) (a' := ?_) #[true, true, true, true, true, true, true, true, false, false] rfl rfl (by kernel_rfl) (fun _ _ _ h => h) (Or.inl ⟨by rfl, ?_⟩) ?_ ?_
    rotate_left
    · intro w'
      go_simp
      with_reducible rfl
    rotate_left
    · simp only [Act.put, List.setIfInBounds_toArray, List.set_cons_zero, List.set_cons_succ, i64_w, i32_w]
      rfl
    refine one_ (i := 8) (N := (some 29)) #[true, true, true, true, true, true, true, true, true, false] rfl rfl (by kernel_rfl) (by decide) (fun K hK => ?_)
    refine goes_ Try.func61 (by kernel_rfl) rfl #[.pointer (some ⟨B, 0, none⟩), .slice Av n cv, .slice Af M cf] (by rfl) rfl rfl (by (try simp only [List.map_toArray, List.map_cons, List.map_nil]); first | done | rfl) ?_
    refine (T1.out w.drew (HI.out.drewN 1) (MkStep.drew w B mb vg 1)).mono ?_
    rintro e w1 ⟨vg1, gs1, k1, rfl, i1, s1, e1⟩
    refine ⟨_, rfl, ?_⟩
    have I1 := Aside0.mk i1
    have S1 := Aside0.mk (MkStep.then_ (MkStep.drew w B mb vg 1) s1)
    have E1 := Aside0.mk e1
    clear i1 s1 e1 T1
    refine hK.out _ _ trivial (fun hHeld => ?_)
    clear hK K
    refine norm_ (a' := ?_) ?_ ?_
    rotate_left
    · show Act.put _ (some 29) _ = _
      simp only [Act.put, List.setIfInBounds_toArray, List.set_cons_zero, List.set_cons_succ, i64_w, i32_w]
      rfl
    refine pure_ (i := 9) (N := (some 8)) (v := ?_) (a' := ?_) #[true, true, true, true, true, true, true, true, true, true] rfl rfl (by kernel_rfl) (fun _ _ _ h => h) (Or.inl ⟨by rfl, ?_⟩) ?_ ?_
    rotate_left
    · intro w'
      go_simp
      with_reducible rfl
    rotate_left
    · simp only [Act.put, List.setIfInBounds_toArray, List.set_cons_zero, List.set_cons_succ, i64_w, i32_w]
      rfl
    refine done_ (by kernel_rfl) ?_
    go_wp2_with fail
    refine start_ (n := 10) (S := fun _ => True) (ds := []) #[false, false, false, false, false, false, false, false, false, false] (by kernel_rfl) rfl rfl trivial (fun hHeld => ?_)
    refine pure_ (i := 0) (N := (some 30)) (v := ?_) (a' := ?_) #[true, false, false, false, false, false, false, false, false, false] rfl rfl (by kernel_rfl) (fun _ _ _ h => h) (Or.inl ⟨by rfl, ?_⟩) ?_ ?_
    rotate_left
    · intro w'
      go_simp
      with_reducible rfl
    rotate_left
    · simp only [Act.put, List.setIfInBounds_toArray, List.set_cons_zero, List.set_cons_succ, i64_w, i32_w]
      rfl
    refine pure_ (i := 1) (N := (some 31)) (v := ?_) (a' := ?_) #[true, true, false, false, false, false, false, false, false, false] rfl rfl (by kernel_rfl) (fun _ _ _ h => h) (Or.inl ⟨by rfl, ?_⟩) ?_ ?_
    rotate_left
    · intro w'
      go_simp
      with_reducible rfl
    rotate_left
    · simp only [Act.put, List.setIfInBounds_toArray, List.set_cons_zero, List.set_cons_succ, i64_w, i32_w]
      rfl
    refine pure_ (i := 2) (N := (some 32)) (v := ?_) (a' := ?_) #[true, true, true, false, false, false, false, false, false, false] rfl rfl (by kernel_rfl) (fun _ _ _ h => h) (Or.inl ⟨by rfl, ?_⟩) ?_ ?_
    rotate_left
    · intro w'
      go_simp
      with_reducible rfl
    rotate_left
    · simp only [Act.put, List.setIfInBounds_toArray, List.set_cons_zero, List.set_cons_succ, i64_w, i32_w]
      rfl
    refine pure_ (i := 3) (N := (some 33)) (v := ?_) (a' := ?_) #[true, true, true, true, false, false, false, false, false, false] rfl rfl (by kernel_rfl) (fun _ _ _ h => h) (Or.inl ⟨by rfl, ?_⟩) ?_ ?_
    rotate_left
    · intro w'
      go_simp
      with_reducible rfl
    rotate_left
    · simp only [Act.put, List.setIfInBounds_toArray, List.set_cons_zero, List.set_cons_succ, i64_w, i32_w]
      rfl
    refine pure_ (i := 4) (N := (some 34)) (v := ?_) (a' := ?_) #[true, true, true, true, true, false, false, false, false, false] rfl rfl (by kernel_rfl) (fun _ _ _ h => h) (Or.inl ⟨by rfl, ?_⟩) ?_ ?_
    rotate_left
    · intro w'
      go_simp
      with_reducible rfl
    rotate_left
    · simp only [Act.put, List.setIfInBounds_toArray, List.set_cons_zero, List.set_cons_succ, i64_w, i32_w]
      rfl
    refine pure_ (i := 5) (N := (some 35)) (v := ?_) (a' := ?_) #[true, true, true, true, true, true, false, false, false, false] rfl rfl (by kernel_rfl) (fun _ _ _ h => h) (Or.inl ⟨by rfl, ?_⟩) ?_ ?_
    rotate_left
    · intro w'
      go_simp
      with_reducible rfl
    rotate_left
    · simp only [Act.put, List.setIfInBounds_toArray, List.set_cons_zero, List.set_cons_succ, i64_w, i32_w]
      rfl
    refine pure_ (i := 6) (N := (some 36)) (v := ?_) (a' := ?_) #[true, true, true, true, true, true, true, false, false, false] rfl rfl (by kernel_rfl) (fun _ _ _ h => h) (Or.inl ⟨by rfl, ?_⟩) ?_ ?_
    rotate_left
    · intro w'
      go_simp
      with_reducible rfl
    rotate_left
    · simp only [Act.put, List.setIfInBounds_toArray, List.set_cons_zero, List.set_cons_succ, i64_w, i32_w]
      rfl
    rw [HSH.out]
    refine pure_ (i := 7) (N := (some 37)) (v := ?_) (a' := ?_) #[true, true, true, true, true, true, true, true, false, false] rfl rfl (by kernel_rfl) (fun _ _ _ h => h) (Or.inl ⟨by rfl, ?_⟩) ?_ ?_
    rotate_left
    · intro w'
      go_simp
      with_reducible rfl
    rotate_left
    · simp only [Act.put, List.setIfInBounds_toArray, List.set_cons_zero, List.set_cons_succ, i64_w, i32_w]
      rfl
    refine one_ (i := 8) (N := (some 38)) #[true, true, true, true, true, true, true, true, true, false] rfl rfl (by kernel_rfl) (by decide) (fun K hK => ?_)
    refine goes_ Try.func61 (by kernel_rfl) rfl #[.pointer (some ⟨B, 0, none⟩), .slice Av n cv, .slice (Option.map (fun x => x.add M) Af) (N - M) (cf - M)] (by rfl) rfl rfl (by (try simp only [List.map_toArray, List.map_cons, List.map_nil]); first | done | rfl) ?_
    have hE1 := E1.out.len
    have hP1 := HP.out
    refine (T2.out w1.drew vg1 gs1 (cf - M) (N - M) (by have := HM100.out; omega) (I1.out.drewN 1) E1.out.ok (by rw [← hP1]; rw [← hP1] at hE1; omega) E1.out.pre.length_le (S1.out.then_ (MkStep.drew w1 B mb vg1 1)) (by have := HM100.out; omega)).mono ?_
    rintro e w2 ⟨vg2, gs2, k2, rfl, i2, s2, e2⟩
    refine ⟨_, rfl, ?_⟩
    have I2 := Aside0.mk i2
    have S2 := Aside0.mk (S1.out.then_ (MkStep.then_ (MkStep.drew w1 B mb vg1 1) s2))
    have E2 := Aside0.mk e2
    clear i2 s2 e2 T2 I1 S1 hE1 hP1
    refine hK.out _ _ trivial (fun hHeld => ?_)
    clear hK K
    refine norm_ (a' := ?_) ?_ ?_
    rotate_left
    · show Act.put _ (some 38) _ = _
      simp only [Act.put, List.setIfInBounds_toArray, List.set_cons_zero, List.set_cons_succ, i64_w, i32_w]
      rfl
    refine pure_ (i := 9) (N := (some 9)) (v := ?_) (a' := ?_) #[true, true, true, true, true, true, true, true, true, true] rfl rfl (by kernel_rfl) (fun _ _ _ h => h) (Or.inl ⟨by rfl, ?_⟩) ?_ ?_
    rotate_left
    · intro w'
      go_simp
      with_reducible rfl
    rotate_left
    · simp only [Act.put, List.setIfInBounds_toArray, List.set_cons_zero, List.set_cons_succ, i64_w, i32_w]
      rfl
    refine done_ (by kernel_rfl) ?_
    have hv : ∃ a, Av = some a ∧ w2.cell? (a.add n) = some (.int .i64 (v : Int)) := by
      obtain ⟨a, ea, ha⟩ := Kd.at_int (HV.out w2 S2.out.kp) (n : Int) (by omega) (by omega)
      refine ⟨a, ea, ?_⟩
      rw [Int.toNat_natCast, show Go.Proofs.YtaalafnkglbcpaaW.PrintWords.rd (natsI (vs ++ [v])) (n : Int) = (v : Int) from by unfold Go.Proofs.YtaalafnkglbcpaaW.PrintWords.rd natsI; rw [Int.toNat_natCast, List.getD_eq_getElem?_getD, List.map_append, List.getElem?_append_right (by simp [HVL.out])]; simp [HVL.out]] at ha
      exact ha
    obtain ⟨a, rfl, hva⟩ := hv
    have hE1 := E1.out.len
    have hE2 := E2.out.len
    have hP1 := HP.out
    rw [← hP1] at hE1 hE2
    have MUX := Aside0.mk (mux_calls I2.out E2.out.ok (by omega) hi hnf v k2 k1 (by have := E1.out.pre.length_le; have := E2.out.pre.length_le; omega) E2.out.lt (by have := E1.out.lt; have := E2.out.pre.length_le; omega))
    have hnv : (n : Int) < ((n + 1 : Nat) : Int) := by omega
    clear hE1 hE2 hP1
    go_wp2_with fail
    (with_reducible refine MUX.out.mono ?_)
    rintro e w3 ⟨vg3, gs3, k3, rfl, i3, s3, e3⟩
    go_wp2
    go_ret
    refine ⟨vg3, gs3, k3, rfl, i3, S2.out.then_ s3, ?_⟩
    have hE := E1.out.then_ (E2.out.then_ e3)
    have hbd : 2 ^ (n + 1) - 1 + (2 ^ (n + 1) - 1 + 1) ≤ 2 ^ (n + 1 + 1) - 1 := by
      have h3 := bd_of (n := n)
      omega
    refine hE.cast hbd (fun s x => ?_)
    have hmap : ∀ gs', gs <+: gs' → vs.map (val gs' s x) = vs.map (val gs s x) := fun gs' hp => List.map_congr_left (fun u hu => val_pre hp (HVS.out u hu))
    rw [E2.out.val s x, E2.out.keeps E1.out.lt s x, E1.out.val s x, hmap gs1 E1.out.pre, val_pre (E1.out.pre.trans E2.out.pre) hvlt, List.map_append, List.map_cons, List.map_nil, HFS.out _ _ (by rw [List.length_map, HVL.out])]
end Go.Proofs.Ytaalafnkglbcpaa.SY
end

/- synth.swept (62), walked by hand: a circuit that does the same, with no more gates. Own text of this claim. -/
section
namespace Go.Proofs.Ytaalafnkglbcpaa.SY
open Go.RowKit Go.WideMaps Go.Maps Go.Proofs.YtaalafnkglbcpaaW.PrintWords Go.Proofs.YtaalafnkglbcpaaW.PrintLast Go.Proofs.YtaalafnkglbcpaaW.PrintMore
open Go.Proofs.Ytaalafnkglbcpaa.PG (S50 z50 k50 GateOk GatesOk Apart own_lt own_apart R_by)
set_option linter.unusedVariables false
set_option linter.unusedSimpArgs false
abbrev Yes : Nat → Prop := fun _ => True
/-- swept, while it makes the new circuit: c's box b1, the cell bk of keep, the new circuit's cell b10, the new numbers vt, its three rows. -/
structure SwI (w W : World) (B0 b1 bk bz b10 : Nat) (ins : Int) (vg vo vn vi vk : Value) (keep : List Bool) (vt : Value) (mp : List Int) (ug : Value) (gs : List S50) (uo : Value) (outs : List Int) (un : Value) (next : List Int) : Prop where
  hb : Below w.heap.size w W
  c1 : W.heap[b1]? = some (.cells #[.int .i64 ins, vg, vo, vn, vi] 38 (0, 0))
  y1 : W.heap[bz]? = some (.cells #[.int .i64 0, .slice none 0 0, .slice none 0 0, .slice none 0 0, .slice none 0 0] 38 (0, 0))
  lz : bz < B0
  nez : bz ≠ b10
  ck : W.heap[bk]? = some (.cells #[vk] 87 (0, 0))
  c10 : W.heap[b10]? = some (.cells #[.int .i64 ins, ug, uo, un, vi] 38 (0, 0))
  rk : Kd.R Kd.bool 4 W w.heap.size Yes vk keep
  rt : Kd.R (Kd.int .i64) 3 W w.heap.size Yes vt mp
  rg : Kd.R k50 50 W B0 Yes ug gs
  ro : Kd.R (Kd.int .i64) 3 W B0 Yes uo outs
  rn : Kd.R (Kd.int .i64) 3 W B0 Yes un next
  aon : Apart uo un
  lw : w.heap.size ≤ b10
  l1 : b1 < B0
  lk : bk < B0
  l10 : b10 < B0
  ne1 : b1 ≠ b10
  nek : bk ≠ b10
  lB : w.heap.size ≤ B0
  lt : ∀ k, vt.ownBlock = some k → k < B0
section
variable {w W W' : World} {B0 b1 bk bz b10 : Nat} {ins : Int} {vg vo vn vi vk vt ug uo un v1 : Value} {keep : List Bool} {mp mp' outs outs' next next' : List Int} {gs gs' : List S50}
theorem SwI.below (h : SwI w W B0 b1 bk bz b10 ins vg vo vn vi vk keep vt mp ug gs uo outs un next) (hb : Below W.heap.size W W') : SwI w W' B0 b1 bk bz b10 ins vg vo vn vi vk keep vt mp ug gs uo outs un next :=
  { h with hb := h.hb.trans (hb.mono h.hb.size), c1 := blk_below h.c1 hb, y1 := blk_below h.y1 hb, ck := blk_below h.ck hb, c10 := blk_below h.c10 hb, rk := Kd.R_below h.rk hb, rt := Kd.R_below h.rt hb, rg := Kd.R_below h.rg hb, ro := Kd.R_below h.ro hb, rn := Kd.R_below h.rn hb }
theorem SwI.size (h : SwI w W B0 b1 bk bz b10 ins vg vo vn vi vk keep vt mp ug gs uo outs un next) : w.heap.size ≤ W.heap.size := h.hb.size
/-- A new number. -/
theorem SwI.addTo (h : SwI w W B0 b1 bk bz b10 ins vg vo vn vi vk keep vt mp ug gs uo outs un next) (hr : Kd.R (Kd.int .i64) 3 W' w.heap.size Yes vt mp') (hg : W.grownBy W' vt.ownBlock) : SwI w W' B0 b1 bk bz b10 ins vg vo vn vi vk keep vt mp' ug gs uo outs un next := by
  have nb : ∀ {α : Type} {d : Kd α} {e : Nat} {v : Value} {xs : List α}, d.R e W B0 Yes v xs → ∀ k, vt.ownBlock = some k → v.ownBlock ≠ some k := fun hx k hk hk' => by have := (own_lt hx hk').1; have := h.lt k hk; omega
  exact { h with hb := h.hb.grown hg h.hb.size (fun k hk => (own_lt h.rt hk).1), c1 := blk_grown h.c1 hg (Kd.R_ne h.rt h.c1 (by decide)), y1 := blk_grown h.y1 hg (Kd.R_ne h.rt h.y1 (by decide)), ck := blk_grown h.ck hg (Kd.R_ne h.rt h.ck (by decide)), c10 := blk_grown h.c10 hg (Kd.R_ne h.rt h.c10 (by decide)),
                 rk := R_by rfl h.rk hg (own_apart h.rt h.rk (by decide)), rt := hr, rg := R_by rfl h.rg hg (nb h.rg), ro := R_by rfl h.ro hg (nb h.ro), rn := R_by rfl h.rn hg (nb h.rn) }
/-- A gate more. -/
theorem SwI.addGate (h : SwI w W B0 b1 bk bz b10 ins vg vo vn vi vk keep vt mp ug gs uo outs un next) (hr : Kd.R k50 50 W' B0 Yes v1 gs') (hg : W.grownBy W' ug.ownBlock) : SwI w (W'.setCell ⟨b10, 1, none⟩ v1) B0 b1 bk bz b10 ins vg vo vn vi vk keep vt mp v1 gs' uo outs un next := by
  have lo : ∀ k, ug.ownBlock = some k → B0 ≤ k := fun k hk => (own_lt h.rg hk).1
  have ne : ∀ g, g < B0 → some g ≠ ug.ownBlock := fun g hlt e => by have := lo g e.symm; omega
  have l : ∀ {α : Type} {d : Kd α} {e base : Nat} {v : Value} {xs : List α}, d.E = [] → e ≠ 38 → d.R e W base Yes v xs → (∀ k, ug.ownBlock = some k → v.ownBlock ≠ some k) → d.R e (W'.setCell ⟨b10, 1, none⟩ v1) base Yes v xs := fun hE he hx ha =>
    Kd.R_set (R_by hE hx hg ha) (blk_grown h.c10 hg (ne _ h.l10)) (by intro q hq; rw [hE] at hq; simp at hq; omega) 1 v1
  exact { h with hb := (h.hb.grown hg h.hb.size (fun k hk => by have := lo k hk; have := h.lB; omega)).setCell (show w.heap.size ≤ b10 from h.lw) _, c1 := blk_far (blk_grown h.c1 hg (ne _ h.l1)) (p := ⟨b10, 1, none⟩) (show b1 ≠ b10 from h.ne1) _, y1 := blk_far (blk_grown h.y1 hg (ne _ h.lz)) (p := ⟨b10, 1, none⟩) (show bz ≠ b10 from h.nez) _, ck := blk_far (blk_grown h.ck hg (ne _ h.lk)) (p := ⟨b10, 1, none⟩) (show bk ≠ b10 from h.nek) _, c10 := blk_put (blk_grown h.c10 hg (ne _ h.l10)) 1 _ rfl,
                 rk := l rfl (by decide) h.rk (own_apart h.rg h.rk (by decide)), rt := l rfl (by decide) h.rt (own_apart h.rg h.rt (by decide)), rg := Kd.R_set hr (blk_grown h.c10 hg (ne _ h.l10)) (by intro q hq; simp [k50, Kd.iso, Kd.pair, Kd.int, Kd.scalar] at hq; omega) 1 v1, ro := l rfl (by decide) h.ro (own_apart h.rg h.ro (by decide)), rn := l rfl (by decide) h.rn (own_apart h.rg h.rn (by decide)) }
/-- An output more. -/
theorem SwI.addOut (h : SwI w W B0 b1 bk bz b10 ins vg vo vn vi vk keep vt mp ug gs uo outs un next) (hr : Kd.R (Kd.int .i64) 3 W' B0 Yes v1 outs') (hg : W.grownBy W' uo.ownBlock) (hat : v1.ownBlock = uo.ownBlock ∨ ∃ b, v1.ownBlock = some b ∧ W.heap.size ≤ b) : SwI w (W'.setCell ⟨b10, 2, none⟩ v1) B0 b1 bk bz b10 ins vg vo vn vi vk keep vt mp ug gs v1 outs' un next := by
  have lo : ∀ k, uo.ownBlock = some k → B0 ≤ k := fun k hk => (own_lt h.ro hk).1
  have ne : ∀ g, g < B0 → some g ≠ uo.ownBlock := fun g hlt e => by have := lo g e.symm; omega
  have l : ∀ {α : Type} {d : Kd α} {e base : Nat} {v : Value} {xs : List α}, d.E = [] → e ≠ 38 → d.R e W base Yes v xs → (∀ k, uo.ownBlock = some k → v.ownBlock ≠ some k) → d.R e (W'.setCell ⟨b10, 2, none⟩ v1) base Yes v xs := fun hE he hx ha =>
    Kd.R_set (R_by hE hx hg ha) (blk_grown h.c10 hg (ne _ h.l10)) (by intro q hq; rw [hE] at hq; simp at hq; omega) 2 v1
  exact { h with hb := (h.hb.grown hg h.hb.size (fun k hk => by have := lo k hk; have := h.lB; omega)).setCell (show w.heap.size ≤ b10 from h.lw) _, c1 := blk_far (blk_grown h.c1 hg (ne _ h.l1)) (p := ⟨b10, 2, none⟩) (show b1 ≠ b10 from h.ne1) _, y1 := blk_far (blk_grown h.y1 hg (ne _ h.lz)) (p := ⟨b10, 2, none⟩) (show bz ≠ b10 from h.nez) _, ck := blk_far (blk_grown h.ck hg (ne _ h.lk)) (p := ⟨b10, 2, none⟩) (show bk ≠ b10 from h.nek) _, c10 := blk_put (blk_grown h.c10 hg (ne _ h.l10)) 2 _ rfl,
                 rk := l rfl (by decide) h.rk (own_apart h.ro h.rk (by decide)), rt := l rfl (by decide) h.rt (fun k hk hk' => by have := lo k hk; have := h.lt k hk'; omega), rg := l rfl (by decide) h.rg (own_apart h.ro h.rg (by decide)), ro := Kd.R_set hr (blk_grown h.c10 hg (ne _ h.l10)) (by intro q hq; simp [Kd.int, Kd.scalar] at hq; omega) 2 v1, rn := l rfl (by decide) h.rn (fun k hk hk' => h.aon k hk hk'), aon := h.aon.step h.rn hat }
theorem SwI.addNext (h : SwI w W B0 b1 bk bz b10 ins vg vo vn vi vk keep vt mp ug gs uo outs un next) (hr : Kd.R (Kd.int .i64) 3 W' B0 Yes v1 next') (hg : W.grownBy W' un.ownBlock) (hat : v1.ownBlock = un.ownBlock ∨ ∃ b, v1.ownBlock = some b ∧ W.heap.size ≤ b) : SwI w (W'.setCell ⟨b10, 3, none⟩ v1) B0 b1 bk bz b10 ins vg vo vn vi vk keep vt mp ug gs uo outs v1 next' := by
  have lo : ∀ k, un.ownBlock = some k → B0 ≤ k := fun k hk => (own_lt h.rn hk).1
  have ne : ∀ g, g < B0 → some g ≠ un.ownBlock := fun g hlt e => by have := lo g e.symm; omega
  have l : ∀ {α : Type} {d : Kd α} {e base : Nat} {v : Value} {xs : List α}, d.E = [] → e ≠ 38 → d.R e W base Yes v xs → (∀ k, un.ownBlock = some k → v.ownBlock ≠ some k) → d.R e (W'.setCell ⟨b10, 3, none⟩ v1) base Yes v xs := fun hE he hx ha =>
    Kd.R_set (R_by hE hx hg ha) (blk_grown h.c10 hg (ne _ h.l10)) (by intro q hq; rw [hE] at hq; simp at hq; omega) 3 v1
  exact { h with hb := (h.hb.grown hg h.hb.size (fun k hk => by have := lo k hk; have := h.lB; omega)).setCell (show w.heap.size ≤ b10 from h.lw) _, c1 := blk_far (blk_grown h.c1 hg (ne _ h.l1)) (p := ⟨b10, 3, none⟩) (show b1 ≠ b10 from h.ne1) _, y1 := blk_far (blk_grown h.y1 hg (ne _ h.lz)) (p := ⟨b10, 3, none⟩) (show bz ≠ b10 from h.nez) _, ck := blk_far (blk_grown h.ck hg (ne _ h.lk)) (p := ⟨b10, 3, none⟩) (show bk ≠ b10 from h.nek) _, c10 := blk_put (blk_grown h.c10 hg (ne _ h.l10)) 3 _ rfl,
                 rk := l rfl (by decide) h.rk (own_apart h.rn h.rk (by decide)), rt := l rfl (by decide) h.rt (fun k hk hk' => by have := lo k hk; have := h.lt k hk'; omega), rg := l rfl (by decide) h.rg (own_apart h.rn h.rg (by decide)), rn := Kd.R_set hr (blk_grown h.c10 hg (ne _ h.l10)) (by intro q hq; simp [Kd.int, Kd.scalar] at hq; omega) 3 v1, ro := l rfl (by decide) h.ro (fun k hk hk' => h.aon k hk' hk), aon := (h.aon.symm.step h.ro hat).symm }
end
/-! what is made -/
def mapG (g : S50) (mp : List Int) : S50 := ⟨g.f0, if 3 ≤ g.f0 then mp.getD g.f1.toNat 0 else g.f1, if 3 < g.f0 then mp.getD g.f2.toNat 0 else g.f2, if g.f0 = 7 then mp.getD g.f3.toNat 0 else g.f3, g.f4⟩
theorem mapG_0 (a b c d : Int) (mp : List Int) : mapG ⟨0, a, b, c, d⟩ mp = ⟨0, a, b, c, d⟩ := rfl
theorem mapG_1 (a b c d : Int) (mp : List Int) : mapG ⟨1, a, b, c, d⟩ mp = ⟨1, a, b, c, d⟩ := rfl
theorem mapG_2 (a b c d : Int) (mp : List Int) : mapG ⟨2, a, b, c, d⟩ mp = ⟨2, a, b, c, d⟩ := rfl
theorem mapG_3 (a b c d : Int) (mp : List Int) : mapG ⟨3, a, b, c, d⟩ mp = ⟨3, mp.getD a.toNat 0, b, c, d⟩ := rfl
theorem mapG_4 {k : Int} (h : k = 4 ∨ k = 5 ∨ k = 6) (a b c d : Int) (mp : List Int) : mapG ⟨k, a, b, c, d⟩ mp = ⟨k, mp.getD a.toNat 0, mp.getD b.toNat 0, c, d⟩ := by rcases h with rfl | rfl | rfl <;> rfl
theorem mapG_7 (a b c d : Int) (mp : List Int) : mapG ⟨7, a, b, c, d⟩ mp = ⟨7, mp.getD a.toNat 0, mp.getD b.toNat 0, mp.getD c.toNat 0, d⟩ := rfl
structure SwP (ins nf : Int) (gates : List S50) (keep : List Bool) (k : Nat) (mp : List Int) (gs : List S50) : Prop where
  ok : GatesOk ins nf gs
  len : gs.length ≤ k
  tl : mp.length = gates.length
  at' : ∀ j, j < k → keep.getD j false = true → ∃ m : Nat, mp.getD j 0 = (m : Int) ∧ m < gs.length ∧ ∀ s x, val gs s x m = val gates s x j
theorem getD_set_self {α : Type} (l : List α) (z u : α) (k : Nat) (h : k < l.length) : (l.set k u).getD k z = u := by
  rw [List.getD_eq_getElem?_getD, List.getElem?_set_self h]; rfl
theorem getD_set_ne {α : Type} (l : List α) (z u : α) (k j : Nat) (h : k ≠ j) : (l.set k u).getD j z = l.getD j z := by
  rw [List.getD_eq_getElem?_getD, List.getElem?_set_ne h, ← List.getD_eq_getElem?_getD]
section
variable {ins nf : Int} {gates gs : List S50} {keep : List Bool} {k : Nat} {mp : List Int}
theorem SwP.start (n : Nat) (hn : n = gates.length) : SwP ins nf gates keep 0 (List.replicate n 0) [] := ⟨GatesOk.nil _ _, Nat.le_refl _, by simp [hn], fun j hj => by omega⟩
theorem SwP.skip (h : SwP ins nf gates keep k mp gs) (hk : keep.getD k false = false) : SwP ins nf gates keep (k + 1) mp gs :=
  ⟨h.ok, by have := h.len; omega, h.tl, fun j hj hkj => h.at' j (by rcases Nat.lt_or_ge j k with h1 | h1; exact h1; have : j = k := by omega
                                                                    subst this; rw [hk] at hkj; cases hkj) hkj⟩
theorem SwP.keep_ (hgs : GatesOk ins nf gates) (h : SwP ins nf gates keep k mp gs) (hk : k < gates.length) (hc : ∀ x ∈ SM.kin (gates.getD k z50), keep.getD x.toNat false = true) : SwP ins nf gates keep (k + 1) (mp.set k (gs.length : Nat)) (gs ++ [mapG (gates.getD k z50) mp]) := by
  have hok := hgs k hk
  have hva : ∀ s x, val gates s x k = gb (gates.getD k z50) s x (bvals gates s x) := fun s x => val_at hgs hk
  generalize gates.getD k z50 = g at *
  have key : GateOk ins nf gs.length (mapG g mp) ∧ ∀ s x, gb (mapG g mp) s x (bvals gs s x) = val gates s x k := by
    obtain ⟨f0, f1, f2, f3, f4⟩ := g
    have inp : ∀ x : Int, x ∈ SM.kin ⟨f0, f1, f2, f3, f4⟩ → 0 ≤ x → x < k → ∃ m : Nat, mp.getD x.toNat 0 = (m : Int) ∧ m < gs.length ∧ ∀ s y, (bvals gs s y).getD m false = (bvals gates s y).getD x.toNat false := fun x hx h0 h1 => h.at' x.toNat (by omega) (hc x hx)
    unfold SM.kin at inp
    simp only at inp
    rcases hok with ⟨h1, h2, h3, h4, h5⟩ | ⟨h1, h2, h3, h4, h5⟩ | ⟨h1, h2, h3, h4, h5⟩ | ⟨h1, h2, h3, h4, h5, h6⟩ | ⟨h0, h2, h3, h4, h5, h6, h7⟩ | ⟨h1, h2, h3, h4, h5, h6, h7, h8⟩
    all_goals simp only at *
    · subst h1
      rw [mapG_0]
      refine ⟨.inl ⟨rfl, h2, h3, h4, h5⟩, fun s x => ?_⟩
      rw [hva]; exact (gb0 rfl s x _).trans (gb0 rfl s x _).symm
    · subst h1
      rw [mapG_1]
      refine ⟨.inr (.inl ⟨rfl, h2, h3, h4, h5⟩), fun s x => ?_⟩
      rw [hva]; exact (gb1 rfl s x _).trans (gb1 rfl s x _).symm
    · subst h1
      rw [mapG_2]
      refine ⟨.inr (.inr (.inl ⟨rfl, h2, h3, h4, h5⟩)), fun s x => ?_⟩
      rw [hva]; exact (gb2 rfl s x _).trans (gb2 rfl s x _).symm
    · subst h1
      obtain ⟨m, e, hm, hv⟩ := inp f1 (by simp [SM.nin, Go.Proofs.YtaalafnkglbcpaaW.PrintWords.rd]) h2 h3
      rw [mapG_3, e]
      refine ⟨.inr (.inr (.inr (.inl ⟨rfl, by show (0:Int) ≤ (m : Int); omega, by show (m : Int) < _; omega, h4, h5, h6⟩))), fun s x => ?_⟩
      rw [hva]
      refine (gb3 rfl s x _).trans (Eq.trans ?_ (gb3 rfl s x _).symm)
      show (!(bvals gs s x).getD ((m : Nat) : Int).toNat false) = _
      rw [Int.toNat_natCast, hv]
    · obtain ⟨m1, e1, hm1, hv1⟩ := inp f1 (by rcases h0 with rfl | rfl | rfl <;> simp [SM.nin, Go.Proofs.YtaalafnkglbcpaaW.PrintWords.rd]) h2 h3
      obtain ⟨m2, e2, hm2, hv2⟩ := inp f2 (by rcases h0 with rfl | rfl | rfl <;> simp [SM.nin, Go.Proofs.YtaalafnkglbcpaaW.PrintWords.rd]) h4 h5
      rw [mapG_4 h0, e1, e2]
      refine ⟨.inr (.inr (.inr (.inr (.inl ⟨h0, by show (0:Int) ≤ (m1 : Int); omega, by show (m1 : Int) < _; omega, by show (0:Int) ≤ (m2 : Int); omega, by show (m2 : Int) < _; omega, h6, h7⟩)))), fun s x => ?_⟩
      rw [hva]
      rcases h0 with rfl | rfl | rfl
      · refine (gb4 rfl s x _).trans (Eq.trans ?_ (gb4 rfl s x _).symm)
        show ((bvals gs s x).getD ((m1 : Nat) : Int).toNat false && (bvals gs s x).getD ((m2 : Nat) : Int).toNat false) = _
        rw [Int.toNat_natCast, Int.toNat_natCast, hv1, hv2]
      · refine (gb5 rfl s x _).trans (Eq.trans ?_ (gb5 rfl s x _).symm)
        show ((bvals gs s x).getD ((m1 : Nat) : Int).toNat false || (bvals gs s x).getD ((m2 : Nat) : Int).toNat false) = _
        rw [Int.toNat_natCast, Int.toNat_natCast, hv1, hv2]
      · refine (gb6 rfl s x _).trans (Eq.trans ?_ (gb6 rfl s x _).symm)
        show (xor ((bvals gs s x).getD ((m1 : Nat) : Int).toNat false) ((bvals gs s x).getD ((m2 : Nat) : Int).toNat false)) = _
        rw [Int.toNat_natCast, Int.toNat_natCast, hv1, hv2]
    · subst h1
      obtain ⟨m1, e1, hm1, hv1⟩ := inp f1 (by simp [SM.nin, Go.Proofs.YtaalafnkglbcpaaW.PrintWords.rd]) h2 h3
      obtain ⟨m2, e2, hm2, hv2⟩ := inp f2 (by simp [SM.nin, Go.Proofs.YtaalafnkglbcpaaW.PrintWords.rd]) h4 h5
      obtain ⟨m3, e3, hm3, hv3⟩ := inp f3 (by simp [SM.nin, Go.Proofs.YtaalafnkglbcpaaW.PrintWords.rd]) h6 h7
      rw [mapG_7, e1, e2, e3]
      refine ⟨.inr (.inr (.inr (.inr (.inr ⟨rfl, by show (0:Int) ≤ (m1 : Int); omega, by show (m1 : Int) < _; omega, by show (0:Int) ≤ (m2 : Int); omega, by show (m2 : Int) < _; omega, by show (0:Int) ≤ (m3 : Int); omega, by show (m3 : Int) < _; omega, h8⟩)))), fun s x => ?_⟩
      rw [hva]
      refine (gb7 rfl s x _).trans (Eq.trans ?_ (gb7 rfl s x _).symm)
      show (if (bvals gs s x).getD ((m1 : Nat) : Int).toNat false then (bvals gs s x).getD ((m2 : Nat) : Int).toNat false else (bvals gs s x).getD ((m3 : Nat) : Int).toNat false) = _
      rw [Int.toNat_natCast, Int.toNat_natCast, Int.toNat_natCast, hv1, hv2, hv3]
  refine ⟨h.ok.snoc key.1, by have := h.len; simp; omega, by simp [h.tl], fun j hj hkj => ?_⟩
  by_cases e : k = j
  · subst e
    refine ⟨gs.length, getD_set_self _ _ _ _ (by rw [h.tl]; exact hk), by simp, fun s x => ?_⟩
    rw [← key.2 s x]
    exact (put_new h.ok key.1).val s x
  · obtain ⟨m, h1, h2, h3⟩ := h.at' j (by omega) hkj
    exact ⟨m, by rw [getD_set_ne _ _ _ _ _ e]; exact h1, by simp; omega, fun s x => by rw [val_pre (List.prefix_append _ _) h2]; exact h3 s x⟩
end
end Go.Proofs.Ytaalafnkglbcpaa.SY
end

/- synth.swept (62), the walk. Own text of this claim. -/
section
namespace Go.Proofs.Ytaalafnkglbcpaa.SY
open Go.RowKit Go.WideMaps Go.Maps Go.Proofs.YtaalafnkglbcpaaW.PrintWords Go.Proofs.YtaalafnkglbcpaaW.PrintLast Go.Proofs.YtaalafnkglbcpaaW.PrintMore
open Go.Proofs.Ytaalafnkglbcpaa.PG (S50 z50 k50 GateOk GatesOk Apart own_lt own_apart R_by)
set_option linter.unusedVariables false
set_option linter.unusedSimpArgs false
theorem gc_of {ins nf : Int} {gates : List S50} (h : GatesOk ins nf gates) : SM.GC gates := by
  have hr : ∀ i : Nat, PG.rd_T50 gates (i : Int) = gates.getD i z50 := fun i => by unfold PG.rd_T50; simp
  refine ⟨fun i hi => ?_, fun i hi x hx => ?_⟩
  · rw [hr]
    rcases h i hi with h | h | h | h | h | h <;> omega
  · rw [hr] at hx
    have hok := h i hi
    generalize gates.getD i z50 = g at *
    obtain ⟨f0, f1, f2, f3, f4⟩ := g
    unfold SM.kin at hx
    rcases hok with ⟨h1, h2⟩ | ⟨h1, h2⟩ | ⟨h1, h2⟩ | ⟨h1, h2⟩ | ⟨h0, h2⟩ | ⟨h1, h2⟩
    all_goals simp only at *
    · subst h1; simp [SM.nin, Go.Proofs.YtaalafnkglbcpaaW.PrintWords.rd] at hx
    · subst h1; simp [SM.nin, Go.Proofs.YtaalafnkglbcpaaW.PrintWords.rd] at hx
    · subst h1; simp [SM.nin, Go.Proofs.YtaalafnkglbcpaaW.PrintWords.rd] at hx
    · subst h1; simp [SM.nin, Go.Proofs.YtaalafnkglbcpaaW.PrintWords.rd] at hx; subst hx; omega
    · rcases h0 with rfl | rfl | rfl <;> (simp [SM.nin, Go.Proofs.YtaalafnkglbcpaaW.PrintWords.rd] at hx; rcases hx with rfl | rfl <;> omega)
    · subst h1; simp [SM.nin, Go.Proofs.YtaalafnkglbcpaaW.PrintWords.rd] at hx; rcases hx with rfl | rfl | rfl <;> omega
theorem kinds4 {ins nf : Int} {k : Nat} {f0 f1 f2 f3 f4 : Int} (h : GateOk ins nf k ⟨f0, f1, f2, f3, f4⟩) (mp : List Int) :
    ((decide (3 ≤ f0) = false ∧ decide (3 < f0) = false ∧ (f0 == 7) = false) ∧ mapG ⟨f0, f1, f2, f3, f4⟩ mp = ⟨f0, f1, f2, f3, f4⟩) ∨
    (∃ x1 : Nat, f1 = (x1 : Int) ∧ x1 < k ∧ (decide (3 ≤ f0) = true ∧ decide (3 < f0) = false ∧ (f0 == 7) = false) ∧ mapG ⟨f0, f1, f2, f3, f4⟩ mp = ⟨f0, mp.getD x1 0, f2, f3, f4⟩) ∨
    (∃ x1 x2 : Nat, f1 = (x1 : Int) ∧ f2 = (x2 : Int) ∧ x1 < k ∧ x2 < k ∧ (decide (3 ≤ f0) = true ∧ decide (3 < f0) = true ∧ (f0 == 7) = false) ∧ mapG ⟨f0, f1, f2, f3, f4⟩ mp = ⟨f0, mp.getD x1 0, mp.getD x2 0, f3, f4⟩) ∨
    (∃ x1 x2 x3 : Nat, f1 = (x1 : Int) ∧ f2 = (x2 : Int) ∧ f3 = (x3 : Int) ∧ x1 < k ∧ x2 < k ∧ x3 < k ∧ (decide (3 ≤ f0) = true ∧ decide (3 < f0) = true ∧ (f0 == 7) = true) ∧ mapG ⟨f0, f1, f2, f3, f4⟩ mp = ⟨f0, mp.getD x1 0, mp.getD x2 0, mp.getD x3 0, f4⟩) := by
  rcases h with ⟨h1, h2⟩ | ⟨h1, h2⟩ | ⟨h1, h2⟩ | ⟨h1, h2, h3, h4⟩ | ⟨h0, h2, h3, h4, h5, h6⟩ | ⟨h1, h2, h3, h4, h5, h6, h7, h8⟩
  all_goals simp only at *
  · subst h1; exact .inl ⟨⟨by decide, by decide, by decide⟩, rfl⟩
  · subst h1; exact .inl ⟨⟨by decide, by decide, by decide⟩, rfl⟩
  · subst h1; exact .inl ⟨⟨by decide, by decide, by decide⟩, rfl⟩
  · subst h1
    obtain ⟨x1, rfl⟩ : ∃ x1 : Nat, f1 = (x1 : Int) := ⟨f1.toNat, by omega⟩
    exact .inr (.inl ⟨x1, rfl, by omega, ⟨by decide, by decide, by decide⟩, rfl⟩)
  · obtain ⟨x1, rfl⟩ : ∃ x1 : Nat, f1 = (x1 : Int) := ⟨f1.toNat, by omega⟩
    obtain ⟨x2, rfl⟩ : ∃ x2 : Nat, f2 = (x2 : Int) := ⟨f2.toNat, by omega⟩
    refine .inr (.inr (.inl ⟨x1, x2, rfl, rfl, by omega, by omega, ?_, mapG_4 h0 _ _ _ _ _⟩))
    rcases h0 with rfl | rfl | rfl <;> exact ⟨by decide, by decide, by decide⟩
  · subst h1
    obtain ⟨x1, rfl⟩ : ∃ x1 : Nat, f1 = (x1 : Int) := ⟨f1.toNat, by omega⟩
    obtain ⟨x2, rfl⟩ : ∃ x2 : Nat, f2 = (x2 : Int) := ⟨f2.toNat, by omega⟩
    obtain ⟨x3, rfl⟩ : ∃ x3 : Nat, f3 = (x3 : Int) := ⟨f3.toNat, by omega⟩
    exact .inr (.inr (.inr ⟨x1, x2, x3, rfl, rfl, rfl, by omega, by omega, by omega, ⟨by decide, by decide, by decide⟩, rfl⟩))
theorem int_in {w : World} {tb n c : Nat} {xs : List Int} (h : Kd.C (Kd.int .i64) w (some ⟨tb, 0, none⟩) n xs) (i : Nat) (h1 : i < n) : w.cell? ⟨tb, i, none⟩ = some (.int .i64 (xs.getD i 0)) := by
  obtain ⟨ad, c, e, _, hK, hc⟩ := Kd.C_get h 0 (i : Int) (by omega) (by omega)
  obtain rfl : c = [.int .i64 (xs.getD (i : Int).toNat 0)] := hK
  have h2 := hc 0 _ rfl
  obtain rfl : (⟨tb, 0, none⟩ : Addr) = ad := by injection e
  rw [Int.toNat_natCast, show i * (Kd.int .i64).sz + 0 = i from by show i * 1 + 0 = i; omega, add_plain] at h2
  exact h2
def SwPost (ins nf : Int) (gates : List S50) (outs next : List Nat) (vi : Value) (w : World) (e : Ending) (w' : World) : Prop :=
  ∃ (ug uo un : Value) (gs : List S50) (outs' next' : List Nat), e = .returned (.agg #[.int .i64 ins, ug, uo, un, vi]) ∧ Kd.R k50 50 w' w.heap.size Yes ug gs ∧ Kd.R (Kd.int .i64) 3 w' w.heap.size Yes uo (natsI outs') ∧ Kd.R (Kd.int .i64) 3 w' w.heap.size Yes un (natsI next') ∧ Apart uo un ∧ Below w.heap.size w w' ∧
    GatesOk ins nf gs ∧ gs.length ≤ gates.length ∧ (∀ k ∈ outs', k < gs.length) ∧ (∀ k ∈ next', k < gs.length) ∧ (∀ s x, outs'.map (val gs s x) = outs.map (val gates s x)) ∧ (∀ s x, next'.map (val gs s x) = next.map (val gates s x))
theorem info4b : (Try.prog.info? 4).map (fun i => (i.zero, i.size, i.bytes)) = some (some (.bool false), 1, 1) := by kernel_rfl
theorem nat_at {w : World} {A : Option Addr} {l : List Nat} (h : Kd.C (Kd.int .i64) w A l.length (natsI l)) (i : Nat) (hi : i < l.length) : ∃ a, A = some a ∧ w.cell? (a.add i) = some (.int .i64 (l.getD i 0 : Nat)) := by
  obtain ⟨a, ea, ha⟩ := Kd.at_int h (i : Int) (by omega) (by omega)
  refine ⟨a, ea, ?_⟩
  rw [Int.toNat_natCast, show Go.Proofs.YtaalafnkglbcpaaW.PrintWords.rd (natsI l) (i : Int) = ((l.getD i 0 : Nat) : Int) from by
    unfold Go.Proofs.YtaalafnkglbcpaaW.PrintWords.rd natsI
    rw [Int.toNat_natCast, List.getD_eq_getElem?_getD, List.getD_eq_getElem?_getD, List.getElem?_map, List.getElem?_eq_getElem hi]; rfl] at ha
  exact ha
theorem getD_mem' {l : List Nat} {i : Nat} (hi : i < l.length) : l.getD i 0 ∈ l := by
  rw [List.getD_eq_getElem?_getD, List.getElem?_eq_getElem hi]; exact List.getElem_mem _
set_option maxHeartbeats 8000000 in
set_option maxRecDepth 100000 in
theorem swept_calls (w : World) (ins nf : Int) (gates : List S50) (outs next : List Nat) (Ag Ao An : Option Addr) (cg co cn : Nat) (Ai : Option Addr) (li ci : Nat) (hG : Kd.C k50 w Ag gates.length gates) (hO : Kd.C (Kd.int .i64) w Ao outs.length (natsI outs)) (hN : Kd.C (Kd.int .i64) w An next.length (natsI next))
    (hgs : GatesOk ins nf gates) (hg0 : 1 ≤ gates.length) (hl : gates.length ≤ 900) (ho : ∀ k ∈ outs, k < gates.length) (hn : ∀ k ∈ next, k < gates.length) (hol : outs.length ≤ 100) (hnl : next.length ≤ 100) :
    Calls Try.prog 62 #[.agg #[.int .i64 ins, .slice Ag gates.length cg, .slice Ao outs.length co, .slice An next.length cn, .slice Ai li ci]] w (SwPost ins nf gates outs next (.slice Ai li ci) w) := by
  have HG := Aside0.mk hG
  have HO := Aside0.mk hO
  have HN := Aside0.mk hN
  have HGS := Aside0.mk hgs
  have HOI := Aside0.mk ho
  have HNI := Aside0.mk hn
  clear hG hO hN hgs ho hn
  go_enter Try.func62, Try.ntmps62
  obtain ⟨n0, hn0⟩ : ∃ n0, n0 = w.heap.size := ⟨_, rfl⟩
  have HB1 := Aside0.mk (below_alloc (below_alloc (Below.refl w.heap.size w) (Obj.cells #[.int .i64 ins, .slice Ag gates.length cg, .slice Ao outs.length co, .slice An next.length cn, .slice Ai li ci] 38)) (Obj.cells #[.int .i64 0, .slice none 0 0, .slice none 0 0, .slice none 0 0, .slice none 0 0] 38))
  have X1 := Aside0.mk (blk_alloc (blk_new w (Obj.cells #[.int .i64 ins, .slice Ag gates.length cg, .slice Ao outs.length co, .slice An next.length cn, .slice Ai li ci] 38)) (Obj.cells #[.int .i64 0, .slice none 0 0, .slice none 0 0, .slice none 0 0, .slice none 0 0] 38))
  have Y1 : Aside0 (((w.alloc (Obj.cells #[.int .i64 ins, .slice Ag gates.length cg, .slice Ao outs.length co, .slice An next.length cn, .slice Ai li ci] 38)).alloc (Obj.cells #[.int .i64 0, .slice none 0 0, .slice none 0 0, .slice none 0 0, .slice none 0 0] 38)).heap[w.heap.size + 1]? = some (.cells #[.int .i64 0, .slice none 0 0, .slice none 0 0, .slice none 0 0, .slice none 0 0] 38 (0, 0))) := ⟨by
    have h := blk_new (w.alloc (Obj.cells #[.int .i64 ins, .slice Ag gates.length cg, .slice Ao outs.length co, .slice An next.length cn, .slice Ai li ci] 38)) (Obj.cells #[.int .i64 0, .slice none 0 0, .slice none 0 0, .slice none 0 0, .slice none 0 0] 38)
    rwa [show (w.alloc (Obj.cells #[.int .i64 ins, .slice Ag gates.length cg, .slice Ao outs.length co, .slice An next.length cn, .slice Ai li ci] 38)).heap.size = w.heap.size + 1 by simp] at h⟩
  have SZ1 : Aside0 (((w.alloc (Obj.cells #[.int .i64 ins, .slice Ag gates.length cg, .slice Ao outs.length co, .slice An next.length cn, .slice Ai li ci] 38)).alloc (Obj.cells #[.int .i64 0, .slice none 0 0, .slice none 0 0, .slice none 0 0, .slice none 0 0] 38)).heap.size = w.heap.size + 2) := ⟨by simp⟩
  go_wp2_with ((with_reducible refine gate_dst (N := 20) rfl ?_); refine Kd.R_make Kd.bool (w0 := ((w.alloc (Obj.cells #[.int .i64 ins, .slice Ag gates.length cg, .slice Ao outs.length co, .slice An next.length cn, .slice Ai li ci] 38)).alloc (Obj.cells #[.int .i64 0, .slice none 0 0, .slice none 0 0, .slice none 0 0, .slice none 0 0] 38))) ((w.alloc (Obj.cells #[.int .i64 ins, .slice Ag gates.length cg, .slice Ao outs.length co, .slice An next.length cn, .slice Ai li ci] 38)).alloc (Obj.cells #[.int .i64 0, .slice none 0 0, .slice none 0 0, .slice none 0 0, .slice none 0 0] 38)).heap.size 4 rfl (N := 20) rfl 87 _ _ rfl (gates.length : Int) rfl rfl Try.underlying87 (.bool false) 1 info4b rfl (by decide) (by omega) false (ok := fun _ => True) (okp := fun _ => True) rfl (fun _ hk => hk) trivial (by omega) (by rw [Int.toNat_natCast]; omega) (Below.refl _ _) (Nat.le_refl _) ?_; intro v20 w2 ho2 hb2 hg2 hn2; rw [Int.toNat_natCast] at ho2; obtain ⟨sb, cs, hv2, hsb2, hsb3⟩ := Kd.R_form ho2 (by rw [List.length_replicate]; omega); rw [List.length_replicate] at hv2; subst hv2; rw [SZ1.out] at ho2 hsb2; have HO2 := Aside0.mk ho2; have HB2 : Aside0 (Below w.heap.size w w2) := ⟨HB1.out.trans (hb2.mono (by rw [SZ1.out]; omega))⟩; have X2 := Aside0.mk (blk_below X1.out hb2); have Y2 := Aside0.mk (blk_below Y1.out hb2); have hsz2 := hb2.size; rw [SZ1.out] at hsz2; have p2 : w2.cell? ⟨w.heap.size, 2, none⟩ = some (.slice Ao outs.length co) := (blk_cell X2.out 2).trans rfl; have z2 : w.heap.size < w2.heap.size := (by omega); clear ho2 hb2 hg2 hn2)
  have hsb4 := hsb3.1
  have M0 : Aside0 (SM.MarkAt w (((w2.alloc (Obj.cells #[Value.slice (some ⟨sb, 0, none⟩) gates.length cs] 87)).alloc (Obj.cells #[Value.func (Fn.func 81) #[] #[Value.pointer (some ⟨w2.heap.size, 0, none⟩), Value.pointer (some ⟨w.heap.size, 0, none⟩), Value.pointer (some ⟨w2.heap.size + 1, 0, none⟩)]] 88))) gates Ag cg w.heap.size w2.heap.size (w2.heap.size + 1) sb cs (List.replicate gates.length false)) := ⟨{
    hb := below_alloc (below_alloc HB2.out _) _, sz := by simp,
    c1 := SM.cell_al (SM.cell_al ((blk_cell X2.out 1).trans rfl) _) _,
    sc := by go_simp, mc := by go_simp, nc := by omega, ns := by omega, nm := by omega, lo := by omega, hs := Kd.R_alloc (Kd.R_alloc (Kd.R_lower HO2.out (by omega)) _) _ }⟩
  have X3 := Aside0.mk (blk_alloc (blk_alloc X2.out (Obj.cells #[Value.slice (some ⟨sb, 0, none⟩) gates.length cs] 87)) (Obj.cells #[Value.func (Fn.func 81) #[] #[Value.pointer (some ⟨w2.heap.size, 0, none⟩), Value.pointer (some ⟨w.heap.size, 0, none⟩), Value.pointer (some ⟨w2.heap.size + 1, 0, none⟩)]] 88))
  have Y3 := Aside0.mk (blk_alloc (blk_alloc Y2.out (Obj.cells #[Value.slice (some ⟨sb, 0, none⟩) gates.length cs] 87)) (Obj.cells #[Value.func (Fn.func 81) #[] #[Value.pointer (some ⟨w2.heap.size, 0, none⟩), Value.pointer (some ⟨w.heap.size, 0, none⟩), Value.pointer (some ⟨w2.heap.size + 1, 0, none⟩)]] 88))
  have K3 := Aside0.mk (blk_alloc (blk_new w2 (Obj.cells #[Value.slice (some ⟨sb, 0, none⟩) gates.length cs] 87)) (Obj.cells #[Value.func (Fn.func 81) #[] #[Value.pointer (some ⟨w2.heap.size, 0, none⟩), Value.pointer (some ⟨w.heap.size, 0, none⟩), Value.pointer (some ⟨w2.heap.size + 1, 0, none⟩)]] 88))
  generalize ((w2.alloc (Obj.cells #[Value.slice (some ⟨sb, 0, none⟩) gates.length cs] 87)).alloc (Obj.cells #[Value.func (Fn.func 81) #[] #[Value.pointer (some ⟨w2.heap.size, 0, none⟩), Value.pointer (some ⟨w.heap.size, 0, none⟩), Value.pointer (some ⟨w2.heap.size + 1, 0, none⟩)]] 88)) = W0 at *
  have NE : Aside0 (w.heap.size ≠ sb ∧ w.heap.size + 1 ≠ sb ∧ w2.heap.size ≠ sb ∧ w.heap.size + 2 ≤ sb ∧ sb < w2.heap.size ∧ w.heap.size + 2 ≤ w2.heap.size) := ⟨by omega, by omega, by omega, by omega, by omega, by omega⟩
  clear hsb2 hsb3 HO2 HB2 X2 Y2 HB1 X1 Y1 SZ1 hsz2 hsb4 p2 z2
  obtain ⟨Sb, hSb⟩ : ∃ Sb, Sb = w2.heap.size := ⟨_, rfl⟩
  rw [← hSb] at M0 K3 NE ⊢
  clear hSb
  have CR := Aside0.mk (fun W s2 x (hM : SM.MarkAt w W gates Ag cg w.heap.size Sb (Sb + 1) sb cs s2) (hx : x < gates.length) => SM.mark_calls w gates Ag cg w.heap.size Sb (Sb + 1) sb cs HG.out (gc_of HGS.out) (by omega) x W s2 x (Nat.le_refl _) hM hx)
  go_loopw [6, 25] (fun _ v25 wr => ∃ (i : Nat) (s2 : List Bool), i ≤ outs.length ∧ v25 = .int .i64 i ∧ Aside0 (SM.MarkAt w wr gates Ag cg w.heap.size Sb (Sb + 1) sb cs s2) ∧ Aside0 (SM.Anew gates (List.replicate gates.length false) s2) ∧ Aside0 (∀ j, j < i → s2.getD (outs.getD j 0) false = true) ∧ Aside0 (W0.grownBy wr (some sb))) (fun _ v25 _ => outs.length - (intOf v25).toNat)
  case atStart => exact ⟨0, _, by omega, rfl, M0, ⟨SM.Anew.refl _⟩, ⟨fun j hj => by omega⟩, ⟨SM.grown_below (Below.refl _ _) _⟩⟩
  case round =>
    obtain ⟨i, s2, hi, rfl, M2, HA, HD, HG3⟩ := hrel
    obtain ⟨w3, rfl⟩ : ∃ w3 : World, w3 = wr := ⟨_, rfl⟩
    by_cases hlt : i < outs.length
    · have hxo := HOI.out _ (getD_mem' hlt)
      obtain ⟨ado, hado, hoc⟩ := nat_at (Kd.C_below HO.out M2.out.hb) i hlt
      subst hado
      have HD2 := HD
      generalize hxx : outs.getD i 0 = x at *
      have HXX := Aside0.mk hxx
      have mc := M2.out.mc
      have CL := Aside0.mk (CR.out w3 s2 x M2.out hxo)
      have hio : (i : Int) < (outs.length : Int) := by omega
      clear hxx
      go_wp2_with fail
      (with_reducible refine CL.out.mono ?_)
      rintro e w5 ⟨⟨v5, rfl⟩, s5, m5, a5, k5, g5⟩
      have M5 := Aside0.mk m5
      have A5 : Aside0 (SM.Anew gates (List.replicate gates.length false) s5) := ⟨HA.out.trans a5⟩
      have D5 : Aside0 (∀ j, j < i + 1 → s5.getD (outs.getD j 0) false = true) := ⟨fun j hj => by
        by_cases e : j = i
        · subst e; rw [HXX.out]; exact k5
        · exact a5.2.1 _ (HD2.out j (by omega))⟩
      have G5 : Aside0 (W0.grownBy w5 (some sb)) := ⟨SM.grown_trans HG3.out g5⟩
      clear m5 a5 k5 g5 CL mc hoc
      go_wp2
      go_roundw
      case rel => exact ⟨i + 1, s5, by omega, by go_num, M5, A5, D5, G5⟩
      case measure => simp [intOf]; omega
    · have HDO : Aside0 (∀ k ∈ outs, s2.getD k false = true) := ⟨fun k hk => by
        obtain ⟨j, hj, he⟩ := List.mem_iff_getElem.1 hk
        have h := HD.out j (by omega)
        rwa [List.getD_eq_getElem?_getD (l := outs), List.getElem?_eq_getElem hj, Option.getD_some, he] at h⟩
      have X4 := Aside0.mk (blk_grown X3.out HG3.out (fun e => NE.out.1 (by injection e)))
      have p3 : w3.cell? ⟨w.heap.size, 3, none⟩ = some (.slice An next.length cn) := (blk_cell X4.out 3).trans rfl
      clear HD M0
      go_wp2
      go_loopw [8, 36] (fun _ v36 wr => ∃ (i : Nat) (s3 : List Bool), i ≤ next.length ∧ v36 = .int .i64 i ∧ Aside0 (SM.MarkAt w wr gates Ag cg w.heap.size Sb (Sb + 1) sb cs s3) ∧ Aside0 (SM.Anew gates (List.replicate gates.length false) s3) ∧ Aside0 (∀ k ∈ outs, s3.getD k false = true) ∧ Aside0 (∀ j, j < i → s3.getD (next.getD j 0) false = true) ∧ Aside0 (W0.grownBy wr (some sb))) (fun _ v36 _ => next.length - (intOf v36).toNat)
      case atStart => exact ⟨0, s2, by omega, rfl, M2, HA, HDO, ⟨fun j hj => by omega⟩, HG3⟩
      case round =>
        obtain ⟨i3, s3, hi3, rfl, M3, HA3, HDO3, HD, HG4⟩ := hrel
        obtain ⟨w4, rfl⟩ : ∃ w4 : World, w4 = wr := ⟨_, rfl⟩
        clear M2 HA HDO HG3 X4 p3 hi hlt
        by_cases hlt : i3 < next.length
        · have hxo := HNI.out _ (getD_mem' hlt)
          obtain ⟨ado, hado, hoc⟩ := nat_at (Kd.C_below HN.out M3.out.hb) i3 hlt
          subst hado
          have HD2 := HD
          generalize hxx : next.getD i3 0 = x at *
          have HXX := Aside0.mk hxx
          have mc := M3.out.mc
          have CL := Aside0.mk (CR.out w4 s3 x M3.out hxo)
          have hio : (i3 : Int) < (next.length : Int) := by omega
          clear hxx
          go_wp2_with fail
          (with_reducible refine CL.out.mono ?_)
          rintro e w5 ⟨⟨v5, rfl⟩, s5, m5, a5, k5, g5⟩
          have M5 := Aside0.mk m5
          have A5 : Aside0 (SM.Anew gates (List.replicate gates.length false) s5) := ⟨HA3.out.trans a5⟩
          have O5 : Aside0 (∀ k ∈ outs, s5.getD k false = true) := ⟨fun k hk => a5.2.1 _ (HDO3.out k hk)⟩
          have D5 : Aside0 (∀ j, j < i3 + 1 → s5.getD (next.getD j 0) false = true) := ⟨fun j hj => by
            by_cases e : j = i3
            · subst e; rw [HXX.out]; exact k5
            · exact a5.2.1 _ (HD2.out j (by omega))⟩
          have G5 : Aside0 (W0.grownBy w5 (some sb)) := ⟨SM.grown_trans HG4.out g5⟩
          clear m5 a5 k5 g5 CL mc hoc
          go_wp2
          go_roundw
          case rel => exact ⟨i3 + 1, s5, by omega, by go_num, M5, A5, O5, D5, G5⟩
          case measure => simp [intOf]; omega
        · have HDN : Aside0 (∀ k ∈ next, s3.getD k false = true) := ⟨fun k hk => by
            obtain ⟨j, hj, he⟩ := List.mem_iff_getElem.1 hk
            have h := HD.out j (by omega)
            rwa [List.getD_eq_getElem?_getD (l := next), List.getElem?_eq_getElem hj, Option.getD_some, he] at h⟩
          have KIDS : Aside0 (∀ j, s3.getD j false = true → ∀ x ∈ SM.kids gates j, s3.getD x.toNat false = true) := ⟨fun j hj => HA3.out.2.2 j hj (by rw [List.getD_eq_getElem?_getD, List.getElem?_replicate]; split <;> rfl)⟩
          have X5 := Aside0.mk (blk_grown X3.out HG4.out (fun e => NE.out.1 (by injection e)))
          have Y5 := Aside0.mk (blk_grown Y3.out HG4.out (fun e => NE.out.2.1 (by injection e)))
          have K5 := Aside0.mk (blk_grown K3.out HG4.out (fun e => NE.out.2.2.1 (by injection e)))
          have BL5 := Aside0.mk M3.out.hb
          have RK5 := Aside0.mk M3.out.hs
          have LK5 := Aside0.mk M3.out.sz
          have Z5 := Aside0.mk (blk_lt K5.out)
          have p1 : w4.cell? ⟨w.heap.size, 1, none⟩ = some (.slice Ag gates.length cg) := (blk_cell X5.out 1).trans rfl
          clear HD X3 Y3 K3 HG4 M3 HA3 CR hi3
          go_wp2_with ((with_reducible refine gate_dst (N := 47) rfl ?_); refine Kd.R_make (Kd.int .i64) (w0 := w4) w4.heap.size 3 rfl (N := 47) rfl 22 _ _ rfl (gates.length : Int) rfl rfl Try.underlying22 (.int .i64 0) 8 PG.info3 rfl (by decide) (by omega) (0 : Int) (ok := fun _ => True) (okp := fun _ => True) rfl (fun _ hk => hk) trivial (by omega) (by rw [Int.toNat_natCast]; omega) (Below.refl _ _) (Nat.le_refl _) ?_; intro v47 w5 ho2 hb2 hg2 hn2; rw [Int.toNat_natCast] at ho2; obtain ⟨tb, ct, hv2, htb2, htb3⟩ := Kd.R_form ho2 (by rw [List.length_replicate]; omega); rw [List.length_replicate] at hv2; subst hv2; have RT6 := Aside0.mk ho2; have BL6 := Aside0.mk (BL5.out.trans (hb2.mono BL5.out.size)); have X6 := Aside0.mk (blk_below X5.out hb2); have Y6 := Aside0.mk (blk_below Y5.out hb2); have K6 := Aside0.mk (blk_below K5.out hb2); have RK6 := Aside0.mk (Kd.R_below RK5.out hb2); have TL6 := Aside0.mk htb3.1; have p6 : w5.cell? ⟨w.heap.size, 0, none⟩ = some (.int .i64 ins) := (blk_cell X6.out 0).trans rfl; have p7 : w5.cell? ⟨w.heap.size, 4, none⟩ = some (.slice Ai li ci) := (blk_cell X6.out 4).trans rfl; have p8 : w5.cell? ⟨w.heap.size, 1, none⟩ = some (.slice Ag gates.length cg) := (blk_cell X6.out 1).trans rfl; have z6 : w.heap.size < w5.heap.size := blk_lt X6.out; clear ho2 hb2 hg2 hn2 htb2 htb3)
          have I7 : Aside0 (SwI w (w5.alloc (Obj.cells #[.int .i64 ins, .slice none 0 0, .slice none 0 0, .slice none 0 0, .slice Ai li ci] 38)) (w5.heap.size + 1) w.heap.size Sb (w.heap.size + 1) w5.heap.size ins (.slice Ag gates.length cg) (.slice Ao outs.length co) (.slice An next.length cn) (.slice Ai li ci) (.slice (some ⟨sb, 0, none⟩) gates.length cs) s3 (.slice (some ⟨tb, 0, none⟩) gates.length ct) (List.replicate gates.length 0) (.slice none 0 0) [] (.slice none 0 0) [] (.slice none 0 0) []) := ⟨{
            hb := below_alloc BL6.out _, c1 := blk_alloc X6.out _, y1 := blk_alloc Y6.out _, ck := blk_alloc K6.out _, c10 := blk_new _ _, rk := Kd.R_alloc RK6.out _, rt := Kd.R_alloc (Kd.R_lower RT6.out BL5.out.size) _,
            rg := Kd.R_nil _ _ _ _ _, ro := Kd.R_nil _ _ _ _ _, rn := Kd.R_nil _ _ _ _ _, aon := fun k hk => by simp [Value.ownBlock] at hk, lw := BL6.out.size, l1 := by omega, lk := by have := blk_lt K6.out; omega, lz := by have := blk_lt Y6.out; omega, l10 := by omega,
            ne1 := by omega, nek := by have := blk_lt K6.out; omega, nez := by have := blk_lt Y6.out; omega, lB := by have := BL6.out.size; omega, lt := fun k hk => by simp [Value.ownBlock] at hk; have := TL6.out; omega }⟩
          generalize w5.alloc (Obj.cells #[.int .i64 ins, .slice none 0 0, .slice none 0 0, .slice none 0 0, .slice Ai li ci] 38) = w6 at *
          generalize w5.heap.size = b10 at *
          have PW := Aside0.mk (SwP.start (ins := ins) (nf := nf) (gates := gates) (keep := s3) gates.length rfl)
          clear X5 Y5 K5 BL5 RK5 RT6 BL6 X6 Y6 K6 RK6 TL6 p6 p7 p8 p1 z6
          obtain ⟨bz, hbz⟩ : ∃ bz, bz = w.heap.size + 1 := ⟨_, rfl⟩
          obtain ⟨b1, hb1⟩ : ∃ b1, b1 = w.heap.size := ⟨_, rfl⟩
          rw [← hbz] at I7 ⊢
          rw [← hb1] at I7
          rw [show (⟨w.heap.size, 0, none⟩ : Addr) = ⟨b1, 0, none⟩ from by rw [hb1]]
          have LBZ : Aside0 (w.heap.size ≤ bz) := ⟨by omega⟩
          clear hbz hb1 Z5
          have NEK : Aside0 (tb < b10 + 1) := ⟨I7.out.lt tb (by simp [Value.ownBlock])⟩
          go_loopw [11, 56] (fun _ v56 wr => ∃ (k : Nat) (mp : List Int) (ug : Value) (gs : List S50), k ≤ gates.length ∧ v56 = .int .i64 k ∧ Aside0 (SwI w wr (b10 + 1) b1 Sb bz b10 ins (.slice Ag gates.length cg) (.slice Ao outs.length co) (.slice An next.length cn) (.slice Ai li ci) (.slice (some ⟨sb, 0, none⟩) gates.length cs) s3 (.slice (some ⟨tb, 0, none⟩) gates.length ct) mp ug gs (.slice none 0 0) [] (.slice none 0 0) []) ∧ Aside0 (SwP ins nf gates s3 k mp gs)) (fun _ v56 _ => gates.length - (intOf v56).toNat)
          case atStart => exact ⟨0, _, _, _, by omega, rfl, I7, PW⟩
          case round =>
            obtain ⟨k, mp, ug, gs, hk, rfl, I, PP⟩ := hrel
            obtain ⟨w7, rfl⟩ : ∃ w7 : World, w7 = wr := ⟨_, rfl⟩
            clear I7 PW
            by_cases hkl : k < gates.length
            · obtain ⟨ad, rfl, e0, e1, e2, e3, e4⟩ := PG.at_T50 (Kd.C_below HG.out I.out.hb) (k : Int) (by omega) (by omega)
              have hgd : PG.rd_T50 gates (k : Int) = gates.getD k z50 := by unfold PG.rd_T50; simp
              rw [hgd, Int.toNat_natCast] at e0 e1 e2 e3 e4
              have hok := HGS.out k hkl
              have KD : Aside0 (s3.getD k false = true → ∀ x ∈ SM.kin (gates.getD k z50), s3.getD x.toNat false = true) := ⟨fun h x hx => KIDS.out k h x (by unfold SM.kids; rw [hgd]; exact hx)⟩
              have PK : Aside0 (s3.getD k false = true → SwP ins nf gates s3 (k + 1) (mp.set k (gs.length : Nat)) (gs ++ [mapG (gates.getD k z50) mp])) := ⟨fun h => SwP.keep_ HGS.out PP.out hkl (KD.out h)⟩
              generalize gates.getD k z50 = g at *
              obtain ⟨f0, f1, f2, f3, f4⟩ := g
              simp only at e0 e1 e2 e3 e4
              have HOK := Aside0.mk hok
              have kb := SM.bool_at (c := 0) (Kd.R_reads' I.out.rk).2.2 k (by rw [LK5.out]; exact hkl)
              have kc : w7.cell? ⟨Sb, 0, none⟩ = some (.slice (some ⟨sb, 0, none⟩) gates.length cs) := (blk_cell I.out.ck 0).trans rfl
              have hkl2 : (k : Int) < (gates.length : Int) := by omega
              have I8 := Aside0.mk (I.out.below (below_alloc (Below.refl _ _) (Obj.cells #[.int .i64 f0, .int .i64 f1, .int .i64 f2, .int .i64 f3, .int .i64 f4] 50)))
              have BG8 := Aside0.mk (blk_new w7 (Obj.cells #[.int .i64 f0, .int .i64 f1, .int .i64 f2, .int .i64 f3, .int .i64 f4] 50))
              have BB8 := Aside0.mk (below_alloc (Below.refl w7.heap.size w7) (Obj.cells #[.int .i64 f0, .int .i64 f1, .int .i64 f2, .int .i64 f3, .int .i64 f4] 50))
              have TB7 : Aside0 (tb < w7.heap.size) := ⟨Kd.R_lt I.out.rt tb (by simp [Value.ownBlock])⟩
              clear hok hgd KD
              go_upto_region 19 with (fail)
              generalize w7.alloc (Obj.cells #[.int .i64 f0, .int .i64 f1, .int .i64 f2, .int .i64 f3, .int .i64 f4] 50) = w8 at *
              obtain ⟨gb, hgb⟩ : ∃ gb, gb = w7.heap.size := ⟨_, rfl⟩
              rw [← hgb] at BG8 ⊢
              have kb8 := SM.bool_at (c := 0) (Kd.R_reads' I8.out.rk).2.2 k (by rw [LK5.out]; exact hkl)
              have kc8 : w8.cell? ⟨Sb, 0, none⟩ = some (.slice (some ⟨sb, 0, none⟩) gates.length cs) := (blk_cell I8.out.ck 0).trans rfl
              clear e0 e1 e2 e3 e4 kb kc
              cases hb : s3.getD k false with
              | false =>
                have PS := Aside0.mk (PP.out.skip hb)
                rw [hb] at kb8
                clear PK hb
                go_wp2
                go_roundw
                case rel => exact ⟨k + 1, mp, ug, gs, by omega, by go_num, I8, PS⟩
                case measure => simp [intOf]; omega
              | true =>
                have P2 := Aside0.mk (PK.out hb)
                rw [hb] at kb8
                have TC := Aside0.mk (fun x (hx : x < k) => int_in (c := ct) (Kd.R_reads' I8.out.rt).2.2 x (show x < mp.length by rw [PP.out.tl]; omega))
                have LT := Aside0.mk PP.out.tl
                have HNG : Aside0 (tb ≠ gb ∧ w7.heap.size ≤ gb) := ⟨by rw [hgb]; have := TB7.out; omega, by omega⟩
                have z0 : w8.cell? ⟨gb, 0, none⟩ = some (.int .i64 f0) := (blk_cell BG8.out 0).trans rfl
                have z1 : w8.cell? ⟨gb, 1, none⟩ = some (.int .i64 f1) := (blk_cell BG8.out 1).trans rfl
                have z2 : w8.cell? ⟨gb, 2, none⟩ = some (.int .i64 f2) := (blk_cell BG8.out 2).trans rfl
                have z3 : w8.cell? ⟨gb, 3, none⟩ = some (.int .i64 f3) := (blk_cell BG8.out 3).trans rfl
                have y1 : w8.frozen? ⟨gb, 1, none⟩ = false := blk_frozen BG8.out 1
                have y2 : w8.frozen? ⟨gb, 2, none⟩ = false := blk_frozen BG8.out 2
                have y3 : w8.frozen? ⟨gb, 3, none⟩ = false := blk_frozen BG8.out 3
                have hng := HNG.out.1
                have htl : mp.length = gates.length := LT.out
                clear PK hb PP hgb htl
                rcases kinds4 HOK.out mp with ⟨⟨u1, u2, u3⟩, hm⟩ | ⟨x1, rfl, hx1, ⟨u1, u2, u3⟩, hm⟩ | ⟨x1, x2, rfl, rfl, hx1, hx2, ⟨u1, u2, u3⟩, hm⟩ | ⟨x1, x2, x3, rfl, rfl, rfl, hx1, hx2, hx3, ⟨u1, u2, u3⟩, hm⟩
                · rw [hm] at P2
                  clear hm
                  go_upto_region 26 with (fail)
                  have BX : Aside0 ((w8).heap[gb]? = some (.cells #[.int .i64 f0, .int .i64 (f1), .int .i64 (f2), .int .i64 (f3), .int .i64 f4] 50 (0, 0))) := ⟨BG8.out⟩
                  have BBX : Aside0 (Below w7.heap.size w7 (w8)) := ⟨by
                    have h1 := HNG.out.2
                    have h2 := BB8.out
                    first
                      | exact h2
                      | exact h2.setCell h1 _
                      | exact (h2.setCell h1 _).setCell h1 _
                      | exact ((h2.setCell h1 _).setCell h1 _).setCell h1 _⟩
                  have IX := Aside0.mk (I.out.below BBX.out)
                  generalize (w8) = w9 at *
                  generalize hF1 : (f1) = F1 at *
                  generalize hF2 : (f2) = F2 at *
                  generalize hF3 : (f3) = F3 at *
                  clear I8 BG8 BB8 z0 z1 z2 z3 y1 y2 y3 hng kb8 kc8 TC HOK hF1 hF2 hF3 u1 u2 u3
                  obtain ⟨AU, cu, rfl⟩ := Kd.R_slice IX.out.rg
                  have q9 : w9.cell? ⟨b10, 1, none⟩ = some (.slice AU gs.length cu) := (blk_cell IX.out.c10 1).trans rfl
                  have HCC : Aside0 (∀ (j : Nat) (u : Value), [Value.int .i64 (mp.getD k 0)][j]? = some u → w9.cell? ⟨tb, (k : Int).toNat * (Kd.int .i64).sz + j, none⟩ = some u) := ⟨fun j u hj => by
                    rw [Int.toNat_natCast, show k * (Kd.int .i64).sz + j = k + j from by show k * 1 + j = _; omega]
                    cases j with
                    | zero =>
                      simp at hj; subst hj
                      have h := int_in (c := ct) (Kd.R_reads' IX.out.rt).2.2 k (by rw [LT.out]; exact hkl)
                      rw [List.getD_eq_getElem?_getD] at h
                      exact h
                    | succ j => simp at hj⟩
                  have RT9 : Aside0 (Kd.R (Kd.int .i64) 3 w9 w.heap.size (fun _ => True) (.slice (some ⟨tb, 0, none⟩) gates.length ct) mp) := ⟨IX.out.rt⟩
                  have GL : Aside0 (gs.length ≤ 900) := ⟨by have := P2.out.len; simp at this; omega⟩
                  have LB9 : Aside0 (b10 + 1 ≤ w9.heap.size) := ⟨by have := blk_lt IX.out.c10; omega⟩
                  have NTG : Aside0 (some tb ≠ (Value.slice AU gs.length cu).ownBlock) := ⟨fun e => by have h1 := Kd.R_base IX.out.rg tb e.symm; have h2 := NEK.out; omega⟩
                  have NGB : Aside0 (gb ≠ tb ∧ some gb ≠ (Value.slice AU gs.length cu).ownBlock) := ⟨fun e => HNG.out.1 e.symm, fun e => by have h1 := Kd.R_lt I.out.rg gb e.symm; have h2 := HNG.out.2; omega⟩
                  go_wp2_with (first
                    | ((with_reducible refine gate_store (p := 98) (v := .tmp 97) rfl ?_); refine Kd.R_store (Kd.int .i64) (w0 := w) w.heap.size rfl rfl 3 (.tmp 98) (.tmp 97) rfl 3 (g := tb) (n := gates.length) (cap := ct) (o' := k) (k : Int) 0 mp ((gs.length : Nat) : Int) (.int .i64 ((gs.length : Nat) : Int)) [.int .i64 ((gs.length : Nat) : Int)] [.int .i64 (mp.getD k 0)] (fun _ => True) (fun _ => False) rfl (by rw [Int.toNat_natCast]; show k = k * 1 + 0; omega) rfl rfl PL.info3s (by intro q hq; simp at hq; subst hq; rfl) RT9.out (by omega) (by omega) rfl HCC.out (by show 0 + 1 ≤ 1; omega) rfl (fun _ hk => hk.elim) IX.out.hb ?_; intro w10 hs10 hb10 hg10; rw [Int.toNat_natCast] at hs10; have I10 := Aside0.mk (IX.out.addTo hs10 hg10); have B10 := Aside0.mk (blk_grown BX.out hg10 (fun e => NGB.out.1 (by injection e))); have q10 : w10.cell? ⟨b10, 1, none⟩ = some (.slice AU gs.length cu) := (blk_cell I10.out.c10 1).trans rfl; have r0 : w10.cell? ⟨gb, 0, none⟩ = some (.int .i64 f0) := (blk_cell B10.out 0).trans rfl; have r1 : w10.cell? ⟨gb, 1, none⟩ = some (.int .i64 F1) := (blk_cell B10.out 1).trans rfl; have r2 : w10.cell? ⟨gb, 2, none⟩ = some (.int .i64 F2) := (blk_cell B10.out 2).trans rfl; have r3 : w10.cell? ⟨gb, 3, none⟩ = some (.int .i64 F3) := (blk_cell B10.out 3).trans rfl; have r4 : w10.cell? ⟨gb, 4, none⟩ = some (.int .i64 f4) := (blk_cell B10.out 4).trans rfl; have LB10 : Aside0 (b10 + 1 ≤ w10.heap.size) := ⟨by have := blk_lt I10.out.c10; omega⟩; clear hs10 hb10 hg10 q9)
                    | ((with_reducible refine gate_builtin (b := .append) (xs := #[.tmp 100, .tmp 102]) rfl ?_); at_builtin; refine Kd.R_append k50 (w0 := w10) (b10 + 1) rfl (.tmp 100) (.tmp 102) 36 50 (.agg #[.int .i64 0, .int .i64 0, .int .i64 0, .int .i64 0, .int .i64 0]) 40 rfl Try.underlying36 info50p rfl (by decide) (by omega) (.slice AU gs.length cu) gs (⟨f0, F1, F2, F3, f4⟩ : S50) [.int .i64 f0, .int .i64 F1, .int .i64 F2, .int .i64 F3, .int .i64 f4] (fun _ => True) (fun _ => False) rfl ?aX ?aP (fun _ hk => hk.elim) (fun _ _ => trivial) I10.out.rg (Below.refl _ _) ?aS ?aL ?_; (case aX => first | rfl | (simp; done)); (case aP => exact PG.k50_mkM _ _ _ ⟨f0, F1, F2, F3, f4⟩); (case aS => exact LB10.out); (case aL => have := GL.out; omega); intro v11 w11 ho hb hg hat; have I11 := Aside0.mk (I10.out.addGate ho hg); have qq := (blk_grown I10.out.c10 hg (Kd.R_ne I10.out.rg I10.out.c10 (by decide))); have q11 : w11.cell? ⟨b10, 1, none⟩ = some (.slice AU gs.length cu) := (blk_cell qq 1).trans rfl; have fr11 : w11.frozen? ⟨b10, 1, none⟩ = false := blk_frozen qq 1; obtain ⟨A11, c11, e11⟩ := Kd.R_slice ho; rw [List.length_append, List.length_singleton] at e11; subst e11; clear ho hb hg hat qq))
                  go_roundw
                  case rel => exact ⟨k + 1, _, _, _, by omega, by go_num, I11, P2⟩
                  case measure => simp [intOf]; omega
                · rw [hm] at P2
                  have c1 := TC.out x1 hx1
                  have i1 : (x1 : Int) < (gates.length : Int) := by omega
                  simp only [List.getD_eq_getElem?_getD] at P2
                  clear hm
                  go_upto_region 26 with (fail)
                  clear c1
                  have BX : Aside0 ((w8.setCell ⟨gb, 1, none⟩ (.int .i64 (mp[x1]?.getD 0))).heap[gb]? = some (.cells #[.int .i64 f0, .int .i64 (mp[x1]?.getD 0), .int .i64 (f2), .int .i64 (f3), .int .i64 f4] 50 (0, 0))) := ⟨blk_put (BG8.out) 1 _ rfl⟩
                  have BBX : Aside0 (Below w7.heap.size w7 (w8.setCell ⟨gb, 1, none⟩ (.int .i64 (mp[x1]?.getD 0)))) := ⟨by
                    have h1 := HNG.out.2
                    have h2 := BB8.out
                    first
                      | exact h2
                      | exact h2.setCell h1 _
                      | exact (h2.setCell h1 _).setCell h1 _
                      | exact ((h2.setCell h1 _).setCell h1 _).setCell h1 _⟩
                  have IX := Aside0.mk (I.out.below BBX.out)
                  generalize (w8.setCell ⟨gb, 1, none⟩ (.int .i64 (mp[x1]?.getD 0))) = w9 at *
                  generalize hF1 : (mp[x1]?.getD 0) = F1 at *
                  generalize hF2 : (f2) = F2 at *
                  generalize hF3 : (f3) = F3 at *
                  clear I8 BG8 BB8 z0 z1 z2 z3 y1 y2 y3 hng kb8 kc8 TC HOK hF1 hF2 hF3 u1 u2 u3
                  obtain ⟨AU, cu, rfl⟩ := Kd.R_slice IX.out.rg
                  have q9 : w9.cell? ⟨b10, 1, none⟩ = some (.slice AU gs.length cu) := (blk_cell IX.out.c10 1).trans rfl
                  have HCC : Aside0 (∀ (j : Nat) (u : Value), [Value.int .i64 (mp.getD k 0)][j]? = some u → w9.cell? ⟨tb, (k : Int).toNat * (Kd.int .i64).sz + j, none⟩ = some u) := ⟨fun j u hj => by
                    rw [Int.toNat_natCast, show k * (Kd.int .i64).sz + j = k + j from by show k * 1 + j = _; omega]
                    cases j with
                    | zero =>
                      simp at hj; subst hj
                      have h := int_in (c := ct) (Kd.R_reads' IX.out.rt).2.2 k (by rw [LT.out]; exact hkl)
                      rw [List.getD_eq_getElem?_getD] at h
                      exact h
                    | succ j => simp at hj⟩
                  have RT9 : Aside0 (Kd.R (Kd.int .i64) 3 w9 w.heap.size (fun _ => True) (.slice (some ⟨tb, 0, none⟩) gates.length ct) mp) := ⟨IX.out.rt⟩
                  have GL : Aside0 (gs.length ≤ 900) := ⟨by have := P2.out.len; simp at this; omega⟩
                  have LB9 : Aside0 (b10 + 1 ≤ w9.heap.size) := ⟨by have := blk_lt IX.out.c10; omega⟩
                  have NTG : Aside0 (some tb ≠ (Value.slice AU gs.length cu).ownBlock) := ⟨fun e => by have h1 := Kd.R_base IX.out.rg tb e.symm; have h2 := NEK.out; omega⟩
                  have NGB : Aside0 (gb ≠ tb ∧ some gb ≠ (Value.slice AU gs.length cu).ownBlock) := ⟨fun e => HNG.out.1 e.symm, fun e => by have h1 := Kd.R_lt I.out.rg gb e.symm; have h2 := HNG.out.2; omega⟩
                  go_wp2_with (first
                    | ((with_reducible refine gate_store (p := 98) (v := .tmp 97) rfl ?_); refine Kd.R_store (Kd.int .i64) (w0 := w) w.heap.size rfl rfl 3 (.tmp 98) (.tmp 97) rfl 3 (g := tb) (n := gates.length) (cap := ct) (o' := k) (k : Int) 0 mp ((gs.length : Nat) : Int) (.int .i64 ((gs.length : Nat) : Int)) [.int .i64 ((gs.length : Nat) : Int)] [.int .i64 (mp.getD k 0)] (fun _ => True) (fun _ => False) rfl (by rw [Int.toNat_natCast]; show k = k * 1 + 0; omega) rfl rfl PL.info3s (by intro q hq; simp at hq; subst hq; rfl) RT9.out (by omega) (by omega) rfl HCC.out (by show 0 + 1 ≤ 1; omega) rfl (fun _ hk => hk.elim) IX.out.hb ?_; intro w10 hs10 hb10 hg10; rw [Int.toNat_natCast] at hs10; have I10 := Aside0.mk (IX.out.addTo hs10 hg10); have B10 := Aside0.mk (blk_grown BX.out hg10 (fun e => NGB.out.1 (by injection e))); have q10 : w10.cell? ⟨b10, 1, none⟩ = some (.slice AU gs.length cu) := (blk_cell I10.out.c10 1).trans rfl; have r0 : w10.cell? ⟨gb, 0, none⟩ = some (.int .i64 f0) := (blk_cell B10.out 0).trans rfl; have r1 : w10.cell? ⟨gb, 1, none⟩ = some (.int .i64 F1) := (blk_cell B10.out 1).trans rfl; have r2 : w10.cell? ⟨gb, 2, none⟩ = some (.int .i64 F2) := (blk_cell B10.out 2).trans rfl; have r3 : w10.cell? ⟨gb, 3, none⟩ = some (.int .i64 F3) := (blk_cell B10.out 3).trans rfl; have r4 : w10.cell? ⟨gb, 4, none⟩ = some (.int .i64 f4) := (blk_cell B10.out 4).trans rfl; have LB10 : Aside0 (b10 + 1 ≤ w10.heap.size) := ⟨by have := blk_lt I10.out.c10; omega⟩; clear hs10 hb10 hg10 q9)
                    | ((with_reducible refine gate_builtin (b := .append) (xs := #[.tmp 100, .tmp 102]) rfl ?_); at_builtin; refine Kd.R_append k50 (w0 := w10) (b10 + 1) rfl (.tmp 100) (.tmp 102) 36 50 (.agg #[.int .i64 0, .int .i64 0, .int .i64 0, .int .i64 0, .int .i64 0]) 40 rfl Try.underlying36 info50p rfl (by decide) (by omega) (.slice AU gs.length cu) gs (⟨f0, F1, F2, F3, f4⟩ : S50) [.int .i64 f0, .int .i64 F1, .int .i64 F2, .int .i64 F3, .int .i64 f4] (fun _ => True) (fun _ => False) rfl ?aX ?aP (fun _ hk => hk.elim) (fun _ _ => trivial) I10.out.rg (Below.refl _ _) ?aS ?aL ?_; (case aX => first | rfl | (simp; done)); (case aP => exact PG.k50_mkM _ _ _ ⟨f0, F1, F2, F3, f4⟩); (case aS => exact LB10.out); (case aL => have := GL.out; omega); intro v11 w11 ho hb hg hat; have I11 := Aside0.mk (I10.out.addGate ho hg); have qq := (blk_grown I10.out.c10 hg (Kd.R_ne I10.out.rg I10.out.c10 (by decide))); have q11 : w11.cell? ⟨b10, 1, none⟩ = some (.slice AU gs.length cu) := (blk_cell qq 1).trans rfl; have fr11 : w11.frozen? ⟨b10, 1, none⟩ = false := blk_frozen qq 1; obtain ⟨A11, c11, e11⟩ := Kd.R_slice ho; rw [List.length_append, List.length_singleton] at e11; subst e11; clear ho hb hg hat qq))
                  go_roundw
                  case rel => exact ⟨k + 1, _, _, _, by omega, by go_num, I11, P2⟩
                  case measure => simp [intOf]; omega
                · rw [hm] at P2
                  have c1 := TC.out x1 hx1
                  have i1 : (x1 : Int) < (gates.length : Int) := by omega
                  have c2 := TC.out x2 hx2
                  have i2 : (x2 : Int) < (gates.length : Int) := by omega
                  simp only [List.getD_eq_getElem?_getD] at P2
                  clear hm
                  go_upto_region 26 with (fail)
                  clear c1 c2
                  have BX : Aside0 (((w8.setCell ⟨gb, 1, none⟩ (.int .i64 (mp[x1]?.getD 0))).setCell ⟨gb, 2, none⟩ (.int .i64 (mp[x2]?.getD 0))).heap[gb]? = some (.cells #[.int .i64 f0, .int .i64 (mp[x1]?.getD 0), .int .i64 (mp[x2]?.getD 0), .int .i64 (f3), .int .i64 f4] 50 (0, 0))) := ⟨blk_put (blk_put (BG8.out) 1 _ rfl) 2 _ rfl⟩
                  have BBX : Aside0 (Below w7.heap.size w7 ((w8.setCell ⟨gb, 1, none⟩ (.int .i64 (mp[x1]?.getD 0))).setCell ⟨gb, 2, none⟩ (.int .i64 (mp[x2]?.getD 0)))) := ⟨by
                    have h1 := HNG.out.2
                    have h2 := BB8.out
                    first
                      | exact h2
                      | exact h2.setCell h1 _
                      | exact (h2.setCell h1 _).setCell h1 _
                      | exact ((h2.setCell h1 _).setCell h1 _).setCell h1 _⟩
                  have IX := Aside0.mk (I.out.below BBX.out)
                  generalize ((w8.setCell ⟨gb, 1, none⟩ (.int .i64 (mp[x1]?.getD 0))).setCell ⟨gb, 2, none⟩ (.int .i64 (mp[x2]?.getD 0))) = w9 at *
                  generalize hF1 : (mp[x1]?.getD 0) = F1 at *
                  generalize hF2 : (mp[x2]?.getD 0) = F2 at *
                  generalize hF3 : (f3) = F3 at *
                  clear I8 BG8 BB8 z0 z1 z2 z3 y1 y2 y3 hng kb8 kc8 TC HOK hF1 hF2 hF3 u1 u2 u3
                  obtain ⟨AU, cu, rfl⟩ := Kd.R_slice IX.out.rg
                  have q9 : w9.cell? ⟨b10, 1, none⟩ = some (.slice AU gs.length cu) := (blk_cell IX.out.c10 1).trans rfl
                  have HCC : Aside0 (∀ (j : Nat) (u : Value), [Value.int .i64 (mp.getD k 0)][j]? = some u → w9.cell? ⟨tb, (k : Int).toNat * (Kd.int .i64).sz + j, none⟩ = some u) := ⟨fun j u hj => by
                    rw [Int.toNat_natCast, show k * (Kd.int .i64).sz + j = k + j from by show k * 1 + j = _; omega]
                    cases j with
                    | zero =>
                      simp at hj; subst hj
                      have h := int_in (c := ct) (Kd.R_reads' IX.out.rt).2.2 k (by rw [LT.out]; exact hkl)
                      rw [List.getD_eq_getElem?_getD] at h
                      exact h
                    | succ j => simp at hj⟩
                  have RT9 : Aside0 (Kd.R (Kd.int .i64) 3 w9 w.heap.size (fun _ => True) (.slice (some ⟨tb, 0, none⟩) gates.length ct) mp) := ⟨IX.out.rt⟩
                  have GL : Aside0 (gs.length ≤ 900) := ⟨by have := P2.out.len; simp at this; omega⟩
                  have LB9 : Aside0 (b10 + 1 ≤ w9.heap.size) := ⟨by have := blk_lt IX.out.c10; omega⟩
                  have NTG : Aside0 (some tb ≠ (Value.slice AU gs.length cu).ownBlock) := ⟨fun e => by have h1 := Kd.R_base IX.out.rg tb e.symm; have h2 := NEK.out; omega⟩
                  have NGB : Aside0 (gb ≠ tb ∧ some gb ≠ (Value.slice AU gs.length cu).ownBlock) := ⟨fun e => HNG.out.1 e.symm, fun e => by have h1 := Kd.R_lt I.out.rg gb e.symm; have h2 := HNG.out.2; omega⟩
                  go_wp2_with (first
                    | ((with_reducible refine gate_store (p := 98) (v := .tmp 97) rfl ?_); refine Kd.R_store (Kd.int .i64) (w0 := w) w.heap.size rfl rfl 3 (.tmp 98) (.tmp 97) rfl 3 (g := tb) (n := gates.length) (cap := ct) (o' := k) (k : Int) 0 mp ((gs.length : Nat) : Int) (.int .i64 ((gs.length : Nat) : Int)) [.int .i64 ((gs.length : Nat) : Int)] [.int .i64 (mp.getD k 0)] (fun _ => True) (fun _ => False) rfl (by rw [Int.toNat_natCast]; show k = k * 1 + 0; omega) rfl rfl PL.info3s (by intro q hq; simp at hq; subst hq; rfl) RT9.out (by omega) (by omega) rfl HCC.out (by show 0 + 1 ≤ 1; omega) rfl (fun _ hk => hk.elim) IX.out.hb ?_; intro w10 hs10 hb10 hg10; rw [Int.toNat_natCast] at hs10; have I10 := Aside0.mk (IX.out.addTo hs10 hg10); have B10 := Aside0.mk (blk_grown BX.out hg10 (fun e => NGB.out.1 (by injection e))); have q10 : w10.cell? ⟨b10, 1, none⟩ = some (.slice AU gs.length cu) := (blk_cell I10.out.c10 1).trans rfl; have r0 : w10.cell? ⟨gb, 0, none⟩ = some (.int .i64 f0) := (blk_cell B10.out 0).trans rfl; have r1 : w10.cell? ⟨gb, 1, none⟩ = some (.int .i64 F1) := (blk_cell B10.out 1).trans rfl; have r2 : w10.cell? ⟨gb, 2, none⟩ = some (.int .i64 F2) := (blk_cell B10.out 2).trans rfl; have r3 : w10.cell? ⟨gb, 3, none⟩ = some (.int .i64 F3) := (blk_cell B10.out 3).trans rfl; have r4 : w10.cell? ⟨gb, 4, none⟩ = some (.int .i64 f4) := (blk_cell B10.out 4).trans rfl; have LB10 : Aside0 (b10 + 1 ≤ w10.heap.size) := ⟨by have := blk_lt I10.out.c10; omega⟩; clear hs10 hb10 hg10 q9)
                    | ((with_reducible refine gate_builtin (b := .append) (xs := #[.tmp 100, .tmp 102]) rfl ?_); at_builtin; refine Kd.R_append k50 (w0 := w10) (b10 + 1) rfl (.tmp 100) (.tmp 102) 36 50 (.agg #[.int .i64 0, .int .i64 0, .int .i64 0, .int .i64 0, .int .i64 0]) 40 rfl Try.underlying36 info50p rfl (by decide) (by omega) (.slice AU gs.length cu) gs (⟨f0, F1, F2, F3, f4⟩ : S50) [.int .i64 f0, .int .i64 F1, .int .i64 F2, .int .i64 F3, .int .i64 f4] (fun _ => True) (fun _ => False) rfl ?aX ?aP (fun _ hk => hk.elim) (fun _ _ => trivial) I10.out.rg (Below.refl _ _) ?aS ?aL ?_; (case aX => first | rfl | (simp; done)); (case aP => exact PG.k50_mkM _ _ _ ⟨f0, F1, F2, F3, f4⟩); (case aS => exact LB10.out); (case aL => have := GL.out; omega); intro v11 w11 ho hb hg hat; have I11 := Aside0.mk (I10.out.addGate ho hg); have qq := (blk_grown I10.out.c10 hg (Kd.R_ne I10.out.rg I10.out.c10 (by decide))); have q11 : w11.cell? ⟨b10, 1, none⟩ = some (.slice AU gs.length cu) := (blk_cell qq 1).trans rfl; have fr11 : w11.frozen? ⟨b10, 1, none⟩ = false := blk_frozen qq 1; obtain ⟨A11, c11, e11⟩ := Kd.R_slice ho; rw [List.length_append, List.length_singleton] at e11; subst e11; clear ho hb hg hat qq))
                  go_roundw
                  case rel => exact ⟨k + 1, _, _, _, by omega, by go_num, I11, P2⟩
                  case measure => simp [intOf]; omega
                · rw [hm] at P2
                  have c1 := TC.out x1 hx1
                  have i1 : (x1 : Int) < (gates.length : Int) := by omega
                  have c2 := TC.out x2 hx2
                  have i2 : (x2 : Int) < (gates.length : Int) := by omega
                  have c3 := TC.out x3 hx3
                  have i3 : (x3 : Int) < (gates.length : Int) := by omega
                  simp only [List.getD_eq_getElem?_getD] at P2
                  clear hm
                  go_upto_region 26 with (fail)
                  clear c1 c2 c3
                  have BX : Aside0 ((((w8.setCell ⟨gb, 1, none⟩ (.int .i64 (mp[x1]?.getD 0))).setCell ⟨gb, 2, none⟩ (.int .i64 (mp[x2]?.getD 0))).setCell ⟨gb, 3, none⟩ (.int .i64 (mp[x3]?.getD 0))).heap[gb]? = some (.cells #[.int .i64 f0, .int .i64 (mp[x1]?.getD 0), .int .i64 (mp[x2]?.getD 0), .int .i64 (mp[x3]?.getD 0), .int .i64 f4] 50 (0, 0))) := ⟨blk_put (blk_put (blk_put (BG8.out) 1 _ rfl) 2 _ rfl) 3 _ rfl⟩
                  have BBX : Aside0 (Below w7.heap.size w7 (((w8.setCell ⟨gb, 1, none⟩ (.int .i64 (mp[x1]?.getD 0))).setCell ⟨gb, 2, none⟩ (.int .i64 (mp[x2]?.getD 0))).setCell ⟨gb, 3, none⟩ (.int .i64 (mp[x3]?.getD 0)))) := ⟨by
                    have h1 := HNG.out.2
                    have h2 := BB8.out
                    first
                      | exact h2
                      | exact h2.setCell h1 _
                      | exact (h2.setCell h1 _).setCell h1 _
                      | exact ((h2.setCell h1 _).setCell h1 _).setCell h1 _⟩
                  have IX := Aside0.mk (I.out.below BBX.out)
                  generalize (((w8.setCell ⟨gb, 1, none⟩ (.int .i64 (mp[x1]?.getD 0))).setCell ⟨gb, 2, none⟩ (.int .i64 (mp[x2]?.getD 0))).setCell ⟨gb, 3, none⟩ (.int .i64 (mp[x3]?.getD 0))) = w9 at *
                  generalize hF1 : (mp[x1]?.getD 0) = F1 at *
                  generalize hF2 : (mp[x2]?.getD 0) = F2 at *
                  generalize hF3 : (mp[x3]?.getD 0) = F3 at *
                  clear I8 BG8 BB8 z0 z1 z2 z3 y1 y2 y3 hng kb8 kc8 TC HOK hF1 hF2 hF3 u1 u2 u3
                  obtain ⟨AU, cu, rfl⟩ := Kd.R_slice IX.out.rg
                  have q9 : w9.cell? ⟨b10, 1, none⟩ = some (.slice AU gs.length cu) := (blk_cell IX.out.c10 1).trans rfl
                  have HCC : Aside0 (∀ (j : Nat) (u : Value), [Value.int .i64 (mp.getD k 0)][j]? = some u → w9.cell? ⟨tb, (k : Int).toNat * (Kd.int .i64).sz + j, none⟩ = some u) := ⟨fun j u hj => by
                    rw [Int.toNat_natCast, show k * (Kd.int .i64).sz + j = k + j from by show k * 1 + j = _; omega]
                    cases j with
                    | zero =>
                      simp at hj; subst hj
                      have h := int_in (c := ct) (Kd.R_reads' IX.out.rt).2.2 k (by rw [LT.out]; exact hkl)
                      rw [List.getD_eq_getElem?_getD] at h
                      exact h
                    | succ j => simp at hj⟩
                  have RT9 : Aside0 (Kd.R (Kd.int .i64) 3 w9 w.heap.size (fun _ => True) (.slice (some ⟨tb, 0, none⟩) gates.length ct) mp) := ⟨IX.out.rt⟩
                  have GL : Aside0 (gs.length ≤ 900) := ⟨by have := P2.out.len; simp at this; omega⟩
                  have LB9 : Aside0 (b10 + 1 ≤ w9.heap.size) := ⟨by have := blk_lt IX.out.c10; omega⟩
                  have NTG : Aside0 (some tb ≠ (Value.slice AU gs.length cu).ownBlock) := ⟨fun e => by have h1 := Kd.R_base IX.out.rg tb e.symm; have h2 := NEK.out; omega⟩
                  have NGB : Aside0 (gb ≠ tb ∧ some gb ≠ (Value.slice AU gs.length cu).ownBlock) := ⟨fun e => HNG.out.1 e.symm, fun e => by have h1 := Kd.R_lt I.out.rg gb e.symm; have h2 := HNG.out.2; omega⟩
                  go_wp2_with (first
                    | ((with_reducible refine gate_store (p := 98) (v := .tmp 97) rfl ?_); refine Kd.R_store (Kd.int .i64) (w0 := w) w.heap.size rfl rfl 3 (.tmp 98) (.tmp 97) rfl 3 (g := tb) (n := gates.length) (cap := ct) (o' := k) (k : Int) 0 mp ((gs.length : Nat) : Int) (.int .i64 ((gs.length : Nat) : Int)) [.int .i64 ((gs.length : Nat) : Int)] [.int .i64 (mp.getD k 0)] (fun _ => True) (fun _ => False) rfl (by rw [Int.toNat_natCast]; show k = k * 1 + 0; omega) rfl rfl PL.info3s (by intro q hq; simp at hq; subst hq; rfl) RT9.out (by omega) (by omega) rfl HCC.out (by show 0 + 1 ≤ 1; omega) rfl (fun _ hk => hk.elim) IX.out.hb ?_; intro w10 hs10 hb10 hg10; rw [Int.toNat_natCast] at hs10; have I10 := Aside0.mk (IX.out.addTo hs10 hg10); have B10 := Aside0.mk (blk_grown BX.out hg10 (fun e => NGB.out.1 (by injection e))); have q10 : w10.cell? ⟨b10, 1, none⟩ = some (.slice AU gs.length cu) := (blk_cell I10.out.c10 1).trans rfl; have r0 : w10.cell? ⟨gb, 0, none⟩ = some (.int .i64 f0) := (blk_cell B10.out 0).trans rfl; have r1 : w10.cell? ⟨gb, 1, none⟩ = some (.int .i64 F1) := (blk_cell B10.out 1).trans rfl; have r2 : w10.cell? ⟨gb, 2, none⟩ = some (.int .i64 F2) := (blk_cell B10.out 2).trans rfl; have r3 : w10.cell? ⟨gb, 3, none⟩ = some (.int .i64 F3) := (blk_cell B10.out 3).trans rfl; have r4 : w10.cell? ⟨gb, 4, none⟩ = some (.int .i64 f4) := (blk_cell B10.out 4).trans rfl; have LB10 : Aside0 (b10 + 1 ≤ w10.heap.size) := ⟨by have := blk_lt I10.out.c10; omega⟩; clear hs10 hb10 hg10 q9)
                    | ((with_reducible refine gate_builtin (b := .append) (xs := #[.tmp 100, .tmp 102]) rfl ?_); at_builtin; refine Kd.R_append k50 (w0 := w10) (b10 + 1) rfl (.tmp 100) (.tmp 102) 36 50 (.agg #[.int .i64 0, .int .i64 0, .int .i64 0, .int .i64 0, .int .i64 0]) 40 rfl Try.underlying36 info50p rfl (by decide) (by omega) (.slice AU gs.length cu) gs (⟨f0, F1, F2, F3, f4⟩ : S50) [.int .i64 f0, .int .i64 F1, .int .i64 F2, .int .i64 F3, .int .i64 f4] (fun _ => True) (fun _ => False) rfl ?aX ?aP (fun _ hk => hk.elim) (fun _ _ => trivial) I10.out.rg (Below.refl _ _) ?aS ?aL ?_; (case aX => first | rfl | (simp; done)); (case aP => exact PG.k50_mkM _ _ _ ⟨f0, F1, F2, F3, f4⟩); (case aS => exact LB10.out); (case aL => have := GL.out; omega); intro v11 w11 ho hb hg hat; have I11 := Aside0.mk (I10.out.addGate ho hg); have qq := (blk_grown I10.out.c10 hg (Kd.R_ne I10.out.rg I10.out.c10 (by decide))); have q11 : w11.cell? ⟨b10, 1, none⟩ = some (.slice AU gs.length cu) := (blk_cell qq 1).trans rfl; have fr11 : w11.frozen? ⟨b10, 1, none⟩ = false := blk_frozen qq 1; obtain ⟨A11, c11, e11⟩ := Kd.R_slice ho; rw [List.length_append, List.length_singleton] at e11; subst e11; clear ho hb hg hat qq))
                  go_roundw
                  case rel => exact ⟨k + 1, _, _, _, by omega, by go_num, I11, P2⟩
                  case measure => simp [intOf]; omega
            · obtain rfl : k = gates.length := by omega
              have TO : Aside0 (∀ x, x < gates.length → s3.getD x false = true → ∃ m : Nat, mp.getD x 0 = (m : Int) ∧ m < gs.length ∧ ∀ s y, val gs s y m = val gates s y x) := ⟨PP.out.at'⟩
              have GOK := Aside0.mk PP.out.ok
              have GLEN := Aside0.mk PP.out.len
              have LT := Aside0.mk PP.out.tl
              obtain ⟨AU, cu, rfl⟩ := Kd.R_slice I.out.rg
              have p2 : w7.cell? ⟨b1, 2, none⟩ = some (.slice Ao outs.length co) := (blk_cell I.out.c1 2).trans rfl
              clear PP
              go_wp2
              go_loopw [14, 109] (fun _ v109 wr => ∃ (i : Nat) (uo : Value) (lo : List Nat), i ≤ outs.length ∧ v109 = .int .i64 i ∧ Aside0 (SwI w wr (b10 + 1) b1 Sb bz b10 ins (.slice Ag gates.length cg) (.slice Ao outs.length co) (.slice An next.length cn) (.slice Ai li ci) (.slice (some ⟨sb, 0, none⟩) gates.length cs) s3 (.slice (some ⟨tb, 0, none⟩) gates.length ct) mp (.slice AU gs.length cu) gs uo (natsI lo) (.slice none 0 0) []) ∧ Aside0 (lo.length = i ∧ (∀ m ∈ lo, m < gs.length) ∧ ∀ s x, lo.map (val gs s x) = (outs.take i).map (val gates s x))) (fun _ v109 _ => outs.length - (intOf v109).toNat)
              case atStart => exact ⟨0, _, [], by omega, rfl, I, ⟨rfl, fun m hm => (by cases hm), fun s x => by simp⟩⟩
              case round =>
                obtain ⟨i5, uo, lo, hi5, rfl, I2, L2⟩ := hrel
                obtain ⟨w11, rfl⟩ : ∃ w11 : World, w11 = wr := ⟨_, rfl⟩
                clear I p2
                by_cases hlo : i5 < outs.length
                · obtain ⟨ado, hado, hoc⟩ := nat_at (Kd.C_below HO.out I2.out.hb) i5 hlo
                  subst hado
                  have hxo := HOI.out _ (getD_mem' hlo)
                  have hxk := HDO3.out _ (getD_mem' hlo)
                  have TK : Aside0 (outs.take (i5 + 1) = outs.take i5 ++ [outs.getD i5 0]) := ⟨by rw [List.take_succ_eq_append_getElem hlo, List.getD_eq_getElem?_getD, List.getElem?_eq_getElem hlo]; rfl⟩
                  generalize outs.getD i5 0 = x at *
                  obtain ⟨m, hm1, hm2, hm3⟩ := TO.out x hxo hxk
                  have HM3 := Aside0.mk hm3
                  have hic : (i5 : Int) < (outs.length : Int) := by omega
                  clear hm3 hxk
                  go_wp2_with fail
                  obtain ⟨AO, cO, rfl⟩ := Kd.R_slice I2.out.ro
                  have tc := int_in (c := ct) (Kd.R_reads' I2.out.rt).2.2 x (by rw [LT.out]; exact hxo)
                  rw [hm1] at tc
                  have oc : w11.cell? ⟨b10, 2, none⟩ = some (.slice AO (natsI lo).length cO) := (blk_cell I2.out.c10 2).trans rfl
                  have hnl : (natsI lo).length = lo.length := by simp [natsI]
                  rw [hnl] at oc I2
                  have hxn : (x : Int) < (gates.length : Int) := by omega
                  refine start_ (n := 10) (S := fun w' => w'.cell? ⟨b10, 2, none⟩ = some (.slice AO lo.length cO) ∧ w'.cell? ⟨tb, x, none⟩ = some (.int .i64 (m : Int))) (ds := [9]) #[false, false, false, false, false, false, false, false, false, false] (by kernel_rfl) rfl rfl ⟨oc, tc⟩ (fun hHeld => ?_)
                  have I3 := Aside0.mk (I2.out.below (below_drew (Below.refl _ _)))
                  clear I2 oc tc
                  generalize w11.drew = w12 at *
                  refine pure_ (i := 0) (N := (some 113)) (v := ?_) (a' := ?_) #[true, false, false, false, false, false, false, false, false, false] rfl rfl (by kernel_rfl) (fun _ _ _ h => h) (Or.inl ⟨by rfl, ?_⟩) ?_ ?_
                  rotate_left
                  · intro w'
                    go_simp
                    with_reducible rfl
                  rotate_left
                  · simp only [Act.put, List.setIfInBounds_toArray, List.set_cons_zero, List.set_cons_succ, i64_w, i32_w]
                    rfl
                  refine take_ (i := 1) (N := (some 114)) (v := ?_) (a' := ?_) #[true, true, false, false, false, false, false, false, false, false] rfl rfl (by kernel_rfl) (fun _ _ _ h => h) (Or.inl ⟨by rfl, ?_⟩) hHeld ?_ ?_
                  rotate_left
                  · rintro w' ⟨s0, s1⟩
                    go_simp
                    with_reducible rfl
                  rotate_left
                  · simp only [Act.put, List.setIfInBounds_toArray, List.set_cons_zero, List.set_cons_succ, i64_w, i32_w]
                    rfl
                  refine pure_ (i := 2) (N := (some 115)) (v := ?_) (a' := ?_) #[true, true, true, false, false, false, false, false, false, false] rfl rfl (by kernel_rfl) (fun _ _ _ h => h) (Or.inl ⟨by rfl, ?_⟩) ?_ ?_
                  rotate_left
                  · intro w'
                    go_simp
                    with_reducible rfl
                  rotate_left
                  · simp only [Act.put, List.setIfInBounds_toArray, List.set_cons_zero, List.set_cons_succ, i64_w, i32_w]
                    rfl
                  refine pure_ (i := 3) (N := (some 116)) (v := ?_) (a' := ?_) #[true, true, true, true, false, false, false, false, false, false] rfl rfl (by kernel_rfl) (fun _ _ _ h => h) (Or.inl ⟨by rfl, ?_⟩) ?_ ?_
                  rotate_left
                  · intro w'
                    go_simp
                    with_reducible rfl
                  rotate_left
                  · simp only [Act.put, List.setIfInBounds_toArray, List.set_cons_zero, List.set_cons_succ, i64_w, i32_w]
                    rfl
                  refine pure_ (i := 4) (N := (some 117)) (v := ?_) (a' := ?_) #[true, true, true, true, true, false, false, false, false, false] rfl rfl (by kernel_rfl) (fun _ _ _ h => h) (Or.inl ⟨by rfl, ?_⟩) ?_ ?_
                  rotate_left
                  · intro w'
                    go_simp
                    with_reducible rfl
                  rotate_left
                  · simp only [Act.put, List.setIfInBounds_toArray, List.set_cons_zero, List.set_cons_succ, i64_w, i32_w]
                    rfl
                  refine take_ (i := 5) (N := (some 118)) (v := ?_) (a' := ?_) #[true, true, true, true, true, true, false, false, false, false] rfl rfl (by kernel_rfl) (fun _ _ _ h => h) (Or.inl ⟨by rfl, ?_⟩) hHeld ?_ ?_
                  rotate_left
                  · rintro w' ⟨s0, s1⟩
                    go_simp
                    with_reducible rfl
                  rotate_left
                  · simp only [Act.put, List.setIfInBounds_toArray, List.set_cons_zero, List.set_cons_succ, i64_w, i32_w]
                    rfl
                  refine one_ (i := 6) (N := (some 119)) #[true, true, true, true, true, true, true, false, false, false] rfl rfl (by kernel_rfl) (by decide) (fun K hK => ?_)
                  refine value_ (w1 := ?_) (v := ?_) (by rfl) rfl ?_ ?_
                  rotate_left 2
                  · go_simp
                    constructor
                    · rfl
                    · rfl
                  refine hK.out _ _ ⟨(World.cell?_alloc_lt _ _ _ (World.block_lt_of_cell? _ _ hHeld.1)).trans hHeld.1, (World.cell?_alloc_lt _ _ _ (World.block_lt_of_cell? _ _ hHeld.2)).trans hHeld.2⟩ (fun hHeld => ?_)
                  clear hK K
                  refine norm_ (a' := ?_) ?_ ?_
                  rotate_left
                  · show Act.put _ (some 119) _ = _
                    simp only [Act.put, List.setIfInBounds_toArray, List.set_cons_zero, List.set_cons_succ, i64_w, i32_w]
                    rfl
                  refine one_ (i := 7) (N := (some 120)) #[true, true, true, true, true, true, true, true, false, false] rfl rfl (by kernel_rfl) (by decide) (fun K hK => ?_)
                  refine Kd.R_append_step (Kd.int .i64) (w0 := w12) (b10 + 1) (by rfl) (.tmp 114) (.tmp 119) 22 3 (.int .i64 0) 8 rfl Try.underlying22 PG.info3 rfl (by decide) (by omega) (.slice AO lo.length cO) (natsI lo) (m : Int) [.int .i64 (m : Int)] (fun _ => True) (fun _ => False) rfl rfl rfl (fun _ hk => hk.elim) (fun _ _ => trivial) I3.out.ro (Below.refl _ _) (by have h1 := blk_lt I3.out.c10; omega) (by rw [hnl]; have := L2.out.1; omega) ?_
                  intro v13 w13 ho hb hg hat
                  have e13 : natsI lo ++ [(m : Int)] = natsI (lo ++ [m]) := by simp [natsI]
                  rw [e13] at ho
                  have I4 := Aside0.mk (I3.out.addOut ho hg hat)
                  have B13 := Aside0.mk (blk_grown I3.out.c10 hg (Kd.R_ne I3.out.ro I3.out.c10 (by decide)))
                  have T13 : w13.cell? ⟨tb, x, none⟩ = some (.int .i64 (m : Int)) := by
                    have h := int_in (c := ct) (Kd.R_reads' (R_by rfl I3.out.rt hg (fun k hk hk' => by have h1 := Kd.R_base I3.out.ro k hk; have h2 := I3.out.lt k hk'; omega))).2.2 x (by rw [LT.out]; exact hxo)
                    rwa [hm1] at h
                  obtain ⟨A13, c13, e14⟩ := Kd.R_slice ho
                  rw [show (natsI (lo ++ [m])).length = lo.length + 1 by simp [natsI]] at e14
                  subst e14
                  have Q13 := Aside0.mk (blk_cell B13.out 2)
                  clear ho hb hg hat I3
                  refine hK.out _ _ ⟨(blk_cell B13.out 2).trans rfl, T13⟩ (fun hHeld => ?_)
                  clear hK K
                  refine norm_ (a' := ?_) ?_ ?_
                  rotate_left
                  · show Act.put _ (some 120) _ = _
                    simp only [Act.put, List.setIfInBounds_toArray, List.set_cons_zero, List.set_cons_succ, i64_w, i32_w]
                    rfl
                  refine pure_ (i := 8) (N := (some 121)) (v := ?_) (a' := ?_) #[true, true, true, true, true, true, true, true, true, false] rfl rfl (by kernel_rfl) (fun _ _ _ h => h) (Or.inl ⟨by rfl, ?_⟩) ?_ ?_
                  rotate_left
                  · intro w'
                    go_simp
                    with_reducible rfl
                  rotate_left
                  · simp only [Act.put, List.setIfInBounds_toArray, List.set_cons_zero, List.set_cons_succ, i64_w, i32_w]
                    rfl
                  refine last_ (i := 9) (N := none) #[true, true, true, true, true, true, true, true, true, true] rfl rfl (by kernel_rfl) (by decide) (fun K hK => ?_)
                  have q13 : w13.cell? ⟨b10, 2, none⟩ = some (.slice AO lo.length cO) := (blk_cell B13.out 2).trans rfl
                  have f13 : w13.frozen? ⟨b10, 2, none⟩ = false := blk_frozen B13.out 2
                  refine skip_ (w1 := ?_) (by rfl) rfl ?_ ?_
                  rotate_left
                  · go_simp
                    rfl
                  refine hK.out _ _ ?_
                  clear hK K
                  refine done_ (by kernel_rfl) ?_
                  clear q13 f13 B13 T13 Q13
                  generalize w13.setCell ⟨b10, 2, none⟩ (.slice A13 (lo.length + 1) c13) = w14 at *
                  have L4 : Aside0 ((lo ++ [m]).length = i5 + 1 ∧ (∀ k ∈ lo ++ [m], k < gs.length) ∧ ∀ s y, (lo ++ [m]).map (val gs s y) = (outs.take (i5 + 1)).map (val gates s y)) := ⟨by simp [L2.out.1], fun k hk => by
                      rcases List.mem_append.1 hk with h | h
                      · exact L2.out.2.1 k h
                      · have : k = m := by simpa using h
                        omega, fun s y => by rw [TK.out, List.map_append, List.map_append, L2.out.2.2 s y]; simp [HM3.out s y]⟩
                  go_wp2
                  go_roundw
                  case rel => exact ⟨i5 + 1, _, lo ++ [m], by omega, by go_num, I4, L4⟩
                  case measure => simp [intOf]; omega
                · obtain ⟨AO2, cO2, rfl⟩ := Kd.R_slice I2.out.ro
                  have LO : Aside0 (lo.length = outs.length ∧ (∀ m ∈ lo, m < gs.length) ∧ ∀ s x, lo.map (val gs s x) = outs.map (val gates s x)) := ⟨by have := L2.out.1; omega, L2.out.2.1, fun s x => by rw [L2.out.2.2 s x, List.take_of_length_le (by omega)]⟩
                  have p3 : w11.cell? ⟨b1, 3, none⟩ = some (.slice An next.length cn) := (blk_cell I2.out.c1 3).trans rfl
                  clear L2 hi5
                  go_wp2
                  go_loopw [16, 126] (fun _ v126 wr => ∃ (i : Nat) (un : Value) (ln : List Nat), i ≤ next.length ∧ v126 = .int .i64 i ∧ Aside0 (SwI w wr (b10 + 1) b1 Sb bz b10 ins (.slice Ag gates.length cg) (.slice Ao outs.length co) (.slice An next.length cn) (.slice Ai li ci) (.slice (some ⟨sb, 0, none⟩) gates.length cs) s3 (.slice (some ⟨tb, 0, none⟩) gates.length ct) mp (.slice AU gs.length cu) gs (.slice AO2 (natsI lo).length cO2) (natsI lo) un (natsI ln)) ∧ Aside0 (ln.length = i ∧ (∀ m ∈ ln, m < gs.length) ∧ ∀ s x, ln.map (val gs s x) = (next.take i).map (val gates s x))) (fun _ v126 _ => next.length - (intOf v126).toNat)
                  case atStart => exact ⟨0, _, [], by omega, rfl, I2, ⟨rfl, fun m hm => (by cases hm), fun s x => by simp⟩⟩
                  case round =>
                    obtain ⟨i6, un, ln, hi6, rfl, I2', L2⟩ := hrel
                    obtain ⟨w11', rfl⟩ : ∃ w11' : World, w11' = wr := ⟨_, rfl⟩
                    clear I2 p3
                    have I2 := I2'
                    clear I2'
                    obtain ⟨w11, rfl⟩ : ∃ w11 : World, w11 = w11' := ⟨_, rfl⟩
                    by_cases hlo2 : i6 < next.length
                    · obtain ⟨ado, hado, hoc⟩ := nat_at (Kd.C_below HN.out I2.out.hb) i6 hlo2
                      subst hado
                      have hxo := HNI.out _ (getD_mem' hlo2)
                      have hxk := HDN.out _ (getD_mem' hlo2)
                      have TK : Aside0 (next.take (i6 + 1) = next.take i6 ++ [next.getD i6 0]) := ⟨by rw [List.take_succ_eq_append_getElem hlo2, List.getD_eq_getElem?_getD, List.getElem?_eq_getElem hlo2]; rfl⟩
                      generalize next.getD i6 0 = x at *
                      obtain ⟨m, hm1, hm2, hm3⟩ := TO.out x hxo hxk
                      have HM3 := Aside0.mk hm3
                      have hic : (i6 : Int) < (next.length : Int) := by omega
                      clear hm3 hxk
                      go_wp2_with fail
                      obtain ⟨AO, cO, rfl⟩ := Kd.R_slice I2.out.rn
                      have tc := int_in (c := ct) (Kd.R_reads' I2.out.rt).2.2 x (by rw [LT.out]; exact hxo)
                      rw [hm1] at tc
                      have oc : w11.cell? ⟨b10, 3, none⟩ = some (.slice AO (natsI ln).length cO) := (blk_cell I2.out.c10 3).trans rfl
                      have hnl : (natsI ln).length = ln.length := by simp [natsI]
                      rw [hnl] at oc I2
                      have hxn : (x : Int) < (gates.length : Int) := by omega
                      refine start_ (n := 10) (S := fun w' => w'.cell? ⟨b10, 3, none⟩ = some (.slice AO ln.length cO) ∧ w'.cell? ⟨tb, x, none⟩ = some (.int .i64 (m : Int))) (ds := [9]) #[false, false, false, false, false, false, false, false, false, false] (by kernel_rfl) rfl rfl ⟨oc, tc⟩ (fun hHeld => ?_)
                      have I3 := Aside0.mk (I2.out.below (below_drew (Below.refl _ _)))
                      clear I2 oc tc
                      generalize w11.drew = w12 at *
                      refine pure_ (i := 0) (N := (some 130)) (v := ?_) (a' := ?_) #[true, false, false, false, false, false, false, false, false, false] rfl rfl (by kernel_rfl) (fun _ _ _ h => h) (Or.inl ⟨by rfl, ?_⟩) ?_ ?_
                      rotate_left
                      · intro w'
                        go_simp
                        with_reducible rfl
                      rotate_left
                      · simp only [Act.put, List.setIfInBounds_toArray, List.set_cons_zero, List.set_cons_succ, i64_w, i32_w]
                        rfl
                      refine take_ (i := 1) (N := (some 131)) (v := ?_) (a' := ?_) #[true, true, false, false, false, false, false, false, false, false] rfl rfl (by kernel_rfl) (fun _ _ _ h => h) (Or.inl ⟨by rfl, ?_⟩) hHeld ?_ ?_
                      rotate_left
                      · rintro w' ⟨s0, s1⟩
                        go_simp
                        with_reducible rfl
                      rotate_left
                      · simp only [Act.put, List.setIfInBounds_toArray, List.set_cons_zero, List.set_cons_succ, i64_w, i32_w]
                        rfl
                      refine pure_ (i := 2) (N := (some 132)) (v := ?_) (a' := ?_) #[true, true, true, false, false, false, false, false, false, false] rfl rfl (by kernel_rfl) (fun _ _ _ h => h) (Or.inl ⟨by rfl, ?_⟩) ?_ ?_
                      rotate_left
                      · intro w'
                        go_simp
                        with_reducible rfl
                      rotate_left
                      · simp only [Act.put, List.setIfInBounds_toArray, List.set_cons_zero, List.set_cons_succ, i64_w, i32_w]
                        rfl
                      refine pure_ (i := 3) (N := (some 133)) (v := ?_) (a' := ?_) #[true, true, true, true, false, false, false, false, false, false] rfl rfl (by kernel_rfl) (fun _ _ _ h => h) (Or.inl ⟨by rfl, ?_⟩) ?_ ?_
                      rotate_left
                      · intro w'
                        go_simp
                        with_reducible rfl
                      rotate_left
                      · simp only [Act.put, List.setIfInBounds_toArray, List.set_cons_zero, List.set_cons_succ, i64_w, i32_w]
                        rfl
                      refine pure_ (i := 4) (N := (some 134)) (v := ?_) (a' := ?_) #[true, true, true, true, true, false, false, false, false, false] rfl rfl (by kernel_rfl) (fun _ _ _ h => h) (Or.inl ⟨by rfl, ?_⟩) ?_ ?_
                      rotate_left
                      · intro w'
                        go_simp
                        with_reducible rfl
                      rotate_left
                      · simp only [Act.put, List.setIfInBounds_toArray, List.set_cons_zero, List.set_cons_succ, i64_w, i32_w]
                        rfl
                      refine take_ (i := 5) (N := (some 135)) (v := ?_) (a' := ?_) #[true, true, true, true, true, true, false, false, false, false] rfl rfl (by kernel_rfl) (fun _ _ _ h => h) (Or.inl ⟨by rfl, ?_⟩) hHeld ?_ ?_
                      rotate_left
                      · rintro w' ⟨s0, s1⟩
                        go_simp
                        with_reducible rfl
                      rotate_left
                      · simp only [Act.put, List.setIfInBounds_toArray, List.set_cons_zero, List.set_cons_succ, i64_w, i32_w]
                        rfl
                      refine one_ (i := 6) (N := (some 136)) #[true, true, true, true, true, true, true, false, false, false] rfl rfl (by kernel_rfl) (by decide) (fun K hK => ?_)
                      refine value_ (w1 := ?_) (v := ?_) (by rfl) rfl ?_ ?_
                      rotate_left 2
                      · go_simp
                        constructor
                        · rfl
                        · rfl
                      refine hK.out _ _ ⟨(World.cell?_alloc_lt _ _ _ (World.block_lt_of_cell? _ _ hHeld.1)).trans hHeld.1, (World.cell?_alloc_lt _ _ _ (World.block_lt_of_cell? _ _ hHeld.2)).trans hHeld.2⟩ (fun hHeld => ?_)
                      clear hK K
                      refine norm_ (a' := ?_) ?_ ?_
                      rotate_left
                      · show Act.put _ (some 136) _ = _
                        simp only [Act.put, List.setIfInBounds_toArray, List.set_cons_zero, List.set_cons_succ, i64_w, i32_w]
                        rfl
                      refine one_ (i := 7) (N := (some 137)) #[true, true, true, true, true, true, true, true, false, false] rfl rfl (by kernel_rfl) (by decide) (fun K hK => ?_)
                      refine Kd.R_append_step (Kd.int .i64) (w0 := w12) (b10 + 1) (by rfl) (.tmp 131) (.tmp 136) 22 3 (.int .i64 0) 8 rfl Try.underlying22 PG.info3 rfl (by decide) (by omega) (.slice AO ln.length cO) (natsI ln) (m : Int) [.int .i64 (m : Int)] (fun _ => True) (fun _ => False) rfl rfl rfl (fun _ hk => hk.elim) (fun _ _ => trivial) I3.out.rn (Below.refl _ _) (by have h1 := blk_lt I3.out.c10; omega) (by rw [hnl]; have := L2.out.1; omega) ?_
                      intro v13 w13 ho hb hg hat
                      have e13 : natsI ln ++ [(m : Int)] = natsI (ln ++ [m]) := by simp [natsI]
                      rw [e13] at ho
                      have I4 := Aside0.mk (I3.out.addNext ho hg hat)
                      have B13 := Aside0.mk (blk_grown I3.out.c10 hg (Kd.R_ne I3.out.rn I3.out.c10 (by decide)))
                      have T13 : w13.cell? ⟨tb, x, none⟩ = some (.int .i64 (m : Int)) := by
                        have h := int_in (c := ct) (Kd.R_reads' (R_by rfl I3.out.rt hg (fun k hk hk' => by have h1 := Kd.R_base I3.out.rn k hk; have h2 := I3.out.lt k hk'; omega))).2.2 x (by rw [LT.out]; exact hxo)
                        rwa [hm1] at h
                      obtain ⟨A13, c13, e14⟩ := Kd.R_slice ho
                      rw [show (natsI (ln ++ [m])).length = ln.length + 1 by simp [natsI]] at e14
                      subst e14
                      have Q13 := Aside0.mk (blk_cell B13.out 3)
                      clear ho hb hg hat I3
                      refine hK.out _ _ ⟨(blk_cell B13.out 3).trans rfl, T13⟩ (fun hHeld => ?_)
                      clear hK K
                      refine norm_ (a' := ?_) ?_ ?_
                      rotate_left
                      · show Act.put _ (some 137) _ = _
                        simp only [Act.put, List.setIfInBounds_toArray, List.set_cons_zero, List.set_cons_succ, i64_w, i32_w]
                        rfl
                      refine pure_ (i := 8) (N := (some 138)) (v := ?_) (a' := ?_) #[true, true, true, true, true, true, true, true, true, false] rfl rfl (by kernel_rfl) (fun _ _ _ h => h) (Or.inl ⟨by rfl, ?_⟩) ?_ ?_
                      rotate_left
                      · intro w'
                        go_simp
                        with_reducible rfl
                      rotate_left
                      · simp only [Act.put, List.setIfInBounds_toArray, List.set_cons_zero, List.set_cons_succ, i64_w, i32_w]
                        rfl
                      refine last_ (i := 9) (N := none) #[true, true, true, true, true, true, true, true, true, true] rfl rfl (by kernel_rfl) (by decide) (fun K hK => ?_)
                      have q13 : w13.cell? ⟨b10, 3, none⟩ = some (.slice AO ln.length cO) := (blk_cell B13.out 3).trans rfl
                      have f13 : w13.frozen? ⟨b10, 3, none⟩ = false := blk_frozen B13.out 3
                      refine skip_ (w1 := ?_) (by rfl) rfl ?_ ?_
                      rotate_left
                      · go_simp
                        rfl
                      refine hK.out _ _ ?_
                      clear hK K
                      refine done_ (by kernel_rfl) ?_
                      clear q13 f13 B13 T13 Q13
                      generalize w13.setCell ⟨b10, 3, none⟩ (.slice A13 (ln.length + 1) c13) = w14 at *
                      have L4 : Aside0 ((ln ++ [m]).length = i6 + 1 ∧ (∀ k ∈ ln ++ [m], k < gs.length) ∧ ∀ s y, (ln ++ [m]).map (val gs s y) = (next.take (i6 + 1)).map (val gates s y)) := ⟨by simp [L2.out.1], fun k hk => by
                          rcases List.mem_append.1 hk with h | h
                          · exact L2.out.2.1 k h
                          · have : k = m := by simpa using h
                            omega, fun s y => by rw [TK.out, List.map_append, List.map_append, L2.out.2.2 s y]; simp [HM3.out s y]⟩
                      go_wp2
                      go_roundw
                      case rel => exact ⟨i6 + 1, _, ln ++ [m], by omega, by go_num, I4, L4⟩
                      case measure => simp [intOf]; omega
                    · obtain ⟨AN2, cN2, rfl⟩ := Kd.R_slice I2.out.rn
                      have LN : Aside0 ((∀ m ∈ ln, m < gs.length) ∧ ∀ s x, ln.map (val gs s x) = next.map (val gates s x)) := ⟨L2.out.2.1, fun s x => by rw [L2.out.2.2 s x, List.take_of_length_le (by omega)]⟩
                      have LNL : Aside0 (ln.length = next.length) := ⟨by have := L2.out.1; omega⟩
                      clear L2 hi6
                      rw [show (natsI lo).length = lo.length by simp [natsI], show (natsI ln).length = ln.length by simp [natsI]] at I2
                      have hb0 := I2.out.y1
                      have hrc0 := (blk_cell hb0 0).trans (show _ = some (Value.int .i64 0) from rfl)
                      have hrf0 := blk_frozen hb0 0
                      have hb1 := blk_put hb0 0 (.int .i64 ins) rfl
                      have hrc1 := (blk_cell hb1 1).trans (show _ = some (Value.slice none 0 0) from rfl)
                      have hrf1 := blk_frozen hb1 1
                      have hb2 := blk_put hb1 1 (.slice AU gs.length cu) rfl
                      have hrc2 := (blk_cell hb2 2).trans (show _ = some (Value.slice none 0 0) from rfl)
                      have hrf2 := blk_frozen hb2 2
                      have hb3 := blk_put hb2 2 (.slice AO2 lo.length cO2) rfl
                      have hrc3 := (blk_cell hb3 3).trans (show _ = some (Value.slice none 0 0) from rfl)
                      have hrf3 := blk_frozen hb3 3
                      have hb4 := blk_put hb3 3 (.slice AN2 ln.length cN2) rfl
                      have hrc4 := (blk_cell hb4 4).trans (show _ = some (Value.slice none 0 0) from rfl)
                      have hrf4 := blk_frozen hb4 4
                      have hb5 := blk_put hb4 4 (.slice Ai li ci) rfl
                      have HB5 := Aside0.mk hb5
                      clear hb0 hb1 hb2 hb3 hb4 hb5
                      have hl0 := (blk_cell I2.out.c10 0).trans (show _ = some (Value.int .i64 ins) from rfl)
                      have hl1 := (blk_cell I2.out.c10 1).trans (show _ = some (Value.slice AU gs.length cu) from rfl)
                      have hl2 := (blk_cell I2.out.c10 2).trans (show _ = some (Value.slice AO2 lo.length cO2) from rfl)
                      have hl3 := (blk_cell I2.out.c10 3).trans (show _ = some (Value.slice AN2 ln.length cN2) from rfl)
                      have hl4 := (blk_cell I2.out.c10 4).trans (show _ = some (Value.slice Ai li ci) from rfl)
                      go_wp2_with fail
                      refine bodyPost_ret (results_cell_row (fn := Try.f62) rfl _ _ bz 38 #[.int .i64 ins, .slice AU gs.length cu, .slice AO2 lo.length cO2, .slice AN2 ln.length cN2, .slice Ai li ci] (0, 0) _ rfl HB5.out Try.underlying38 rfl (by kernel_rfl)) rfl ?_
                      have st : ∀ {α : Type} {d : Kd α} {e : Nat} {v : Value} {xs : List α}, d.E = [] → e ≠ 38 → d.R e w11 (b10 + 1) Yes v xs → d.R e (((((w11.setCell ⟨bz, 0, none⟩ (.int .i64 ins)).setCell ⟨bz, 1, none⟩ (.slice AU gs.length cu)).setCell ⟨bz, 2, none⟩ (.slice AO2 lo.length cO2)).setCell ⟨bz, 3, none⟩ (.slice AN2 ln.length cN2)).setCell ⟨bz, 4, none⟩ (.slice Ai li ci)) w.heap.size Yes v xs := fun hE he hx => by
                        have hlz : bz < b10 + 1 := I2.out.lz
                        exact Kd.R_lower (PG.R_set hE (PG.R_set hE (PG.R_set hE (PG.R_set hE (PG.R_set hE hx (p := ⟨bz, 0, none⟩) hlz _) (p := ⟨bz, 1, none⟩) hlz _) (p := ⟨bz, 2, none⟩) hlz _) (p := ⟨bz, 3, none⟩) hlz _) (p := ⟨bz, 4, none⟩) hlz _) I2.out.lB
                      exact ⟨_, _, _, gs, lo, ln, rfl, st rfl (by decide) I2.out.rg, st rfl (by decide) I2.out.ro, st rfl (by decide) I2.out.rn, I2.out.aon,
                        ((((I2.out.hb.setCell LBZ.out _).setCell LBZ.out _).setCell LBZ.out _).setCell LBZ.out _).setCell LBZ.out _, GOK.out, GLEN.out, LO.out.2.1, LN.out.1, LO.out.2.2, LN.out.2⟩
end Go.Proofs.Ytaalafnkglbcpaa.SY
end

/- bakemake.Table, walked by hand: whatever the numbers are, a valid table is made. -/
section
namespace Go.Proofs.Ytaalafnkglbcpaa.PL
open Go.RowKit Go.Proofs.YtaalafnkglbcpaaW.PrintWords Go.Proofs.YtaalafnkglbcpaaW.PrintLast Go.Proofs.YtaalafnkglbcpaaW.PrintMore
open Go.Proofs.Ytaalafnkglbcpaa.PG (StreamAt next_calls NextPost own_apart sl_eq)
set_option linter.unusedVariables false

def RowOk (ins outs n : Int) (row : List S77) : Prop := (row.length : Int) = wrap64 (2 ^ ins.toNat) ∧ ∀ r ∈ row, 0 ≤ r.f0 ∧ r.f0 < wrap64 (2 ^ outs.toNat) ∧ 0 ≤ r.f1 ∧ r.f1 < n
/-- A valid table. -/
structure ValidT (ins outs : Int) (rows : List (List S77)) : Prop where
  i0 : 1 ≤ ins
  i1 : ins ≤ 2
  o0 : 1 ≤ outs
  o1 : outs ≤ 3
  r0 : 1 ≤ rows.length
  r1 : rows.length ≤ 6
  ok : ∀ row ∈ rows, RowOk ins outs rows.length row
def TabPost (w0 : World) (e : Ending) (w' : World) : Prop := ∃ (ins outs : Int) (vr : Value) (rows : List (List S77)), e = .returned (.agg #[.int .i64 ins, .int .i64 outs, vr]) ∧ ValidT ins outs rows ∧ Kd.S (Kd.slice 77 k77) 75 w' w0.heap.size (fun _ => True) vr rows ∧ Below w0.heap.size w0 w'

set_option maxRecDepth 100000 in
set_option maxHeartbeats 8000000 in
theorem table_calls (A0 : Option Addr) (c0 : Nat) (l0 : List Int) (w0 : World) (hr0 : Kd.C (Kd.int .i64) w0 A0 l0.length l0) (hc0 : l0.length ≤ c0) :
    Calls Try.prog 11 #[.slice A0 l0.length c0] w0 (TabPost w0) := by
  have HR0 := Aside0.mk hr0
  have HC0 := Aside0.mk hc0
  clear hr0 hc0
  go_enter Try.func11, Try.ntmps11
  go_wp2_with fail
  have hB1 : Below w0.heap.size w0 ((w0.alloc (Obj.cells #[Value.int IntKind.i64 0, Value.int IntKind.i64 0, Value.slice none 0 0] 25)).alloc (Obj.cells #[Value.slice A0 l0.length c0] 73)) := below_alloc (below_alloc (Below.refl _ _) _) _
  have hS1 : StreamAt w0 ((w0.alloc (Obj.cells #[Value.int IntKind.i64 0, Value.int IntKind.i64 0, Value.slice none 0 0] 25)).alloc (Obj.cells #[Value.slice A0 l0.length c0] 73)) (w0.heap.size + 1) :=
    ⟨A0, c0, l0, by simpa using blk_new (w0.alloc (Obj.cells #[Value.int IntKind.i64 0, Value.int IntKind.i64 0, Value.slice none 0 0] 25)) (Obj.cells #[Value.slice A0 l0.length c0] 73), HC0.out, HR0.out⟩
  have hR1 : ((w0.alloc (Obj.cells #[Value.int IntKind.i64 0, Value.int IntKind.i64 0, Value.slice none 0 0] 25)).alloc (Obj.cells #[Value.slice A0 l0.length c0] 73)).heap[w0.heap.size]? = some (.cells #[.int .i64 0, .int .i64 0, .slice none 0 0] 25 (0, 0)) := blk_alloc (blk_new _ _) _
  have hZ1 : ((w0.alloc (Obj.cells #[Value.int IntKind.i64 0, Value.int IntKind.i64 0, Value.slice none 0 0] 25)).alloc (Obj.cells #[Value.slice A0 l0.length c0] 73)).heap.size = w0.heap.size + 2 := by simp
  generalize hW1 : ((w0.alloc (Obj.cells #[Value.int IntKind.i64 0, Value.int IntKind.i64 0, Value.slice none 0 0] 25)).alloc (Obj.cells #[Value.slice A0 l0.length c0] 73)) = W1 at *
  clear hW1
  (with_reducible refine (next_calls w0 W1 (w0.heap.size + 1) 2 hS1 hB1 (by omega) (by omega)).mono ?_)
  rintro e w1 ⟨r1, rfl, r10, r11, hg1, hz1, hs1⟩
  have hb1 := hB1.grown hg1 hB1.size (fun k hk => by injection hk with hk; omega)
  have hr1 := blk_grown hR1 hg1 (by simp)
  go_wp2_with fail
  (with_reducible refine (next_calls w0 w1 (w0.heap.size + 1) 3 hs1 hb1 (by omega) (by omega)).mono ?_)
  rintro e w2 ⟨r2, rfl, r20, r21, hg2, hz2, hs2⟩
  have hzz : w2.heap.size = w0.heap.size + 2 := by omega
  have HB2 := Aside0.mk (hb1.grown hg2 hb1.size (fun k hk => by injection hk with hk; omega))
  have HR2 := Aside0.mk (blk_grown hr1 hg2 (by simp))
  have HS2 := Aside0.mk hs2
  clear hB1 hS1 hR1 hZ1 hg1 hz1 hs1 HR0 HC0 hb1 hr1 hg2 hz2 hs2
  go_wp2_with fail
  have HI2 : Aside0 (TInv w0 (w2.alloc (Obj.cells #[Value.int IntKind.i64 (1 + r1), Value.int IntKind.i64 (1 + r2), Value.slice none 0 0] 25)) (1 + r1) (1 + r2) (.slice none 0 0) [] (.slice none 0 0) []) := ⟨{
    hb := below_alloc HB2.out _, res := blk_alloc HR2.out _, st := HS2.out.kept (World.grownBy_alloc _ _ none) (by simp), blk := by rw [← hzz]; exact blk_new _ _, rr := Kd.S_nil _ _ _ _ _, r6 := Kd.R_nil _ _ _ _ _ }⟩
  obtain ⟨ins, hins⟩ : ∃ ins, 1 + r1 = ins := ⟨_, rfl⟩
  obtain ⟨outs, houts⟩ : ∃ outs, 1 + r2 = outs := ⟨_, rfl⟩
  have hi0 : 1 ≤ ins := by omega
  have hi1 : ins ≤ 2 := by omega
  have ho0 : 1 ≤ outs := by omega
  have ho1 : outs ≤ 3 := by omega
  rw [hins, houts] at HI2 ⊢
  generalize w2.alloc (Obj.cells #[Value.int IntKind.i64 ins, Value.int IntKind.i64 outs, Value.slice none 0 0] 25) = W2 at *
  clear hzz HB2 HR2 HS2
  have HINS := Aside0.mk (And.intro hins houts)
  clear hins houts
  (with_reducible refine (next_calls w0 W2 (w0.heap.size + 1) 6 HI2.out.st HI2.out.hb (by omega) (by omega)).mono ?_)
  rintro e w3 ⟨r3, rfl, r30, r31, hg3, hz3, hs3⟩
  have HI3 := Aside0.mk (HI2.out.asked hg3 hs3)
  clear hg3 hz3 hs3 HI2
  go_wp2
  obtain ⟨n, hn⟩ : ∃ n, 1 + r3 = n := ⟨_, rfl⟩
  have hn0 : 1 ≤ n := by omega
  have hn1 : n ≤ 6 := by omega
  rw [hn]
  have HN := Aside0.mk hn
  clear hn
  have SI : Aside0 (1 ≤ wrap64 (2 ^ ins.toNat) ∧ wrap64 (2 ^ ins.toNat) ≤ 4) := ⟨by
    have : ins = 1 ∨ ins = 2 := by omega
    rcases this with h | h <;> subst h <;> decide +kernel⟩
  have SO : Aside0 (1 ≤ wrap64 (2 ^ outs.toNat) ∧ wrap64 (2 ^ outs.toNat) ≤ 8) := ⟨by
    have : outs = 1 ∨ outs = 2 ∨ outs = 3 := by omega
    rcases this with h | h | h <;> subst h <;> decide +kernel⟩
  go_loopw [6, 21] (fun v6 v21 wr => ∃ (i : Nat) (vr : Value) (rows : List (List S77)), (i : Int) ≤ n ∧ v21 = .int .i64 i ∧ Aside0 (TInv w0 wr ins outs vr rows (.slice none 0 0) []) ∧ Aside0 (rows.length = i ∧ ∀ row ∈ rows, RowOk ins outs n row)) (fun _ v21 _ => n.toNat - (intOf v21).toNat)
  case atStart => exact ⟨0, _, [], by omega, rfl, HI3, ⟨rfl, fun _ h => by cases h⟩⟩
  case round =>
    obtain ⟨i, vr, rows, hi, rfl, HI, HG⟩ := hrel
    obtain ⟨WA, rfl⟩ : ∃ WA : World, WA = wr := ⟨_, rfl⟩
    by_cases hlt : (i : Int) < n
    · have hc0 := (blk_cell HI.out.blk 0).trans (show _ = some (.int .i64 ins) from rfl)
      go_wp2_with fail
      clear hc0
      have HIO := HI
      clear HI
      obtain ⟨NR, hNR⟩ : ∃ NR : Nat, wrap64 (2 ^ ins.toNat) = (NR : Int) := ⟨(wrap64 (2 ^ ins.toNat)).toNat, by have := SI.out; omega⟩
      have nr0 : 1 ≤ NR := by have := SI.out; omega
      have nr1 : NR ≤ 4 := by have := SI.out; omega
      rw [hNR]
      have HNR := Aside0.mk hNR
      clear hNR
      go_loopw [6, 26] (fun v6 v26 wr => ∃ (j : Nat) (row : List S77), j ≤ NR ∧ v26 = .int .i64 j ∧ Aside0 (TInv w0 wr ins outs vr rows v6 row) ∧ Aside0 (row.length = j ∧ ∀ r ∈ row, 0 ≤ r.f0 ∧ r.f0 < wrap64 (2 ^ outs.toNat) ∧ 0 ≤ r.f1 ∧ r.f1 < n)) (fun _ v26 _ => NR - (intOf v26).toNat)
      case atStart => exact ⟨0, [], by omega, rfl, HIO, ⟨rfl, fun _ h => by cases h⟩⟩
      case round =>
        clear HIO
        obtain ⟨j, row, hj, rfl, HI, HW⟩ := hrel
        obtain ⟨WA, rfl⟩ : ∃ WA : World, WA = wr := ⟨_, rfl⟩
        by_cases hjl : j < NR
        · have hc1 := (blk_cell HI.out.blk 1).trans (show _ = some (.int .i64 outs) from rfl)
          go_wp2_with fail
          (with_reducible refine (next_calls w0 WA (w0.heap.size + 1) (wrap64 (2 ^ outs.toNat)) HI.out.st HI.out.hb (by have := SO.out; omega) (by have := SO.out; omega)).mono ?_)
          rintro e w5 ⟨x5, rfl, x50, x51, hg5, hz5, hs5⟩
          have HI5 := Aside0.mk (HI.out.asked hg5 hs5)
          clear hg5 hz5 hs5 HI hc1
          go_wp2_with fail
          (with_reducible refine (next_calls w0 w5 (w0.heap.size + 1) n HI5.out.st HI5.out.hb (by omega) (by omega)).mono ?_)
          rintro e w6 ⟨x6, rfl, x60, x61, hg6, hz6, hs6⟩
          have HI6 := Aside0.mk (HI5.out.asked hg6 hs6)
          clear hg6 hz6 hs6 HI5
          have SL : Aside0 (row.length ≤ 4) := ⟨by have := HW.out.1; omega⟩
          go_wp2_with ((with_reducible refine gate_builtin (b := .append) (xs := #[.tmp 28, .tmp 38]) rfl ?_); at_builtin; refine Kd.R_append k77 (w0 := w6) (w0.heap.size + 3) rfl (.tmp 28) (.tmp 38) 75 77 (.agg #[.int .i64 0, .int .i64 0]) 16 rfl Try.underlying75 info77 rfl (by decide) (by omega) _ row ⟨x5, x6⟩ [.int .i64 x5, .int .i64 x6] (fun _ => True) (fun _ => False) rfl ?aX ?aP (fun _ hk => hk.elim) (fun _ _ => trivial) HI6.out.r6 (Below.refl _ _) ?aS ?aL ?_; (case aX => first | rfl | (simp; done)); (case aP => first | exact rfl | exact k77_mkM _ _ _ _); (case aS => have h1_ := blk_lt HI6.out.blk; omega); (case aL => have h1_ := SL.out; first | omega | (simp; omega)); intro v7 w7 ho hb hg hat; have HR7 := Aside0.mk ho; have HG7 := Aside0.mk hg; have HA7 := Aside0.mk hat; clear ho hb hg hat)
          go_roundw
          case rel => exact ⟨j + 1, row ++ [⟨x5, x6⟩], by omega, by go_num, ⟨HI6.out.addRow HR7.out HG7.out HA7.out⟩, ⟨by simp [HW.out.1], fun r hr => by
            rcases List.mem_append.1 hr with hr | hr
            · exact HW.out.2 r hr
            · simp at hr; subst hr; exact ⟨x50, x51, x60, x61⟩⟩⟩
          case measure => simp [intOf]; omega
        · have hje : j = NR := by omega
          subst hje
          obtain ⟨A6, q6, hv6, hl6, hq6⟩ := Kd.R_reads HI.out.r6
          subst hv6
          clear hl6 hq6
          obtain ⟨AR, qR, hvR⟩ := Kd.S_slice HI.out.rr
          subst hvR
          have hc2 := (blk_cell HI.out.blk 2).trans (show _ = some (.slice AR rows.length qR) from rfl)
          have HT6 := Aside0.mk (Kd.R_typed HI.out.r6)
          go_wp2_with ((with_reducible refine gate_builtin (b := .append) (xs := #[.tmp 42, .tmp 44]) rfl ?_); at_builtin; refine Kd.S_append (Kd.slice 77 k77) (w0 := WA) (w0.heap.size + 3) rfl (.tmp 42) (.tmp 44) 23 75 (.slice none 0 0) 24 rfl Try.underlying23 info75 rfl (by decide) (by omega) (.slice AR rows.length qR) rows row [.slice A6 row.length q6] (fun _ => True) (fun k => some k = (Value.slice A6 row.length q6).ownBlock) rfl ?aX ⟨_, rfl, Kd.R_flat (fun h => h) HI.out.r6 (fun k hk _ => hk.symm)⟩ ?aO (fun _ _ => trivial) ?aR (Below.refl _ _) ?aS ?aL ?_; (case aX => first | rfl | (simp; done)); (case aO => exact (fun k hk => ⟨trivial, by obtain ⟨cells, hc⟩ := HT6.out k hk.symm; exact Kd.S_ne HI.out.rr hc (by decide)⟩)); (case aR => exact Kd.S_mono HI.out.rr (fun k hk => ⟨trivial, hk⟩)); (case aS => have h1_ := blk_lt HI.out.blk; omega); (case aL => have := HG.out.1; omega); intro v7 w7 ho hb hg hat; obtain ⟨A7, q7, hv7⟩ := Kd.S_slice ho; rw [List.length_append, List.length_singleton] at hv7; subst hv7; have HR7 := Aside0.mk ho; have HG7 := Aside0.mk hg; have hne_ : ∀ g, g < w0.heap.size + 3 → some g ≠ (Value.slice AR rows.length qR).ownBlock := (fun g hg2 e => by have := Kd.S_base HI.out.rr g e.symm; omega); have hb7 := blk_grown HI.out.blk hg (hne_ _ (by omega)); have hc7 := (blk_cell hb7 2).trans (show _ = some (.slice AR rows.length qR) from rfl); have hf7 := blk_frozen hb7 2; clear ho hb hg hat hne_ hb7)
          have HN6 : Aside0 (rows.length + 1 ≤ 1000) := ⟨by have := HG.out.1; omega⟩
          go_roundw
          case rel => exact ⟨i + 1, _, rows ++ [row], by omega, by go_num, ⟨TInv.addState HI.out HR7.out HG7.out⟩, ⟨by simp [HG.out.1], fun r hr => by
            rcases List.mem_append.1 hr with hr | hr
            · exact HG.out.2 r hr
            · simp at hr; subst hr; exact ⟨by rw [HNR.out]; have := HW.out.1; omega, HW.out.2⟩⟩⟩
          case measure => simp [intOf]; omega
    · have hie : (i : Int) = n := by omega
      obtain ⟨AR, qR, hvR⟩ := Kd.S_slice HI.out.rr
      subst hvR
      have hb0 := HI.out.res
      have hrc0 := (blk_cell hb0 0).trans (show _ = some (.int .i64 0) from rfl)
      have hrf0 := blk_frozen hb0 0
      have hb1 : (WA.setCell ⟨w0.heap.size, 0, none⟩ (.int .i64 ins)).heap[w0.heap.size]? = some (.cells #[.int .i64 ins, .int .i64 0, .slice none 0 0] 25 (0, 0)) := blk_put hb0 0 _ rfl
      have hrc1 := (blk_cell hb1 1).trans (show _ = some (.int .i64 0) from rfl)
      have hrf1 := blk_frozen hb1 1
      have hb2 : ((WA.setCell ⟨w0.heap.size, 0, none⟩ (.int .i64 ins)).setCell ⟨w0.heap.size, 1, none⟩ (.int .i64 outs)).heap[w0.heap.size]? = some (.cells #[.int .i64 ins, .int .i64 outs, .slice none 0 0] 25 (0, 0)) := blk_put hb1 1 _ rfl
      have hrc2 := (blk_cell hb2 2).trans (show _ = some (.slice none 0 0) from rfl)
      have hrf2 := blk_frozen hb2 2
      have hb3 : (((WA.setCell ⟨w0.heap.size, 0, none⟩ (.int .i64 ins)).setCell ⟨w0.heap.size, 1, none⟩ (.int .i64 outs)).setCell ⟨w0.heap.size, 2, none⟩ (.slice AR rows.length qR)).heap[w0.heap.size]? = some (.cells #[.int .i64 ins, .int .i64 outs, .slice AR rows.length qR] 25 (0, 0)) := blk_put hb2 2 _ rfl
      have HB3 := Aside0.mk hb3
      have hl0 := (blk_cell HI.out.blk 0).trans (show _ = some (.int .i64 ins) from rfl)
      have hl1 := (blk_cell HI.out.blk 1).trans (show _ = some (.int .i64 outs) from rfl)
      have hl2 := (blk_cell HI.out.blk 2).trans (show _ = some (.slice AR rows.length qR) from rfl)
      clear hb0 hb1 hb2 hb3
      go_wp2_with fail
      refine bodyPost_ret (results_cell_row (fn := Try.f11) rfl _ _ w0.heap.size 25 #[.int .i64 ins, .int .i64 outs, .slice AR rows.length qR] (0, 0) _ rfl HB3.out Try.underlying25 rfl (by kernel_rfl)) rfl ?_
      have v1 := HG.out.1
      exact ⟨ins, outs, _, rows, rfl, { i0 := hi0, i1 := hi1, o0 := ho0, o1 := ho1, r0 := by omega, r1 := by omega, ok := fun r hr => by rw [v1, hie]; exact HG.out.2 r hr },
        Kd.S_lower (S_putU (p := ⟨w0.heap.size, 2, none⟩) (S_putU (p := ⟨w0.heap.size, 1, none⟩) (S_putU (p := ⟨w0.heap.size, 0, none⟩) (Kd.S_mono HI.out.rr (fun _ _ => trivial)) (by show w0.heap.size < _; omega) _) (by show w0.heap.size < _; omega) _) (by show w0.heap.size < _; omega) _) (by omega),
        ((HI.out.hb.setCell (Nat.le_refl _) _).setCell (Nat.le_refl _) _).setCell (Nat.le_refl _) _⟩
end Go.Proofs.Ytaalafnkglbcpaa.PL
end

/- The closure row of synth.Of (60), walked by hand: the row of a table for a state and an input in one number. Own text of this claim. -/
section
namespace Go.Proofs.Ytaalafnkglbcpaa.SY
open Go.RowKit Go.WideMaps Go.Maps Go.Proofs.YtaalafnkglbcpaaW.PrintWords Go.Proofs.YtaalafnkglbcpaaW.PrintLast Go.Proofs.YtaalafnkglbcpaaW.PrintMore
open Go.Proofs.Ytaalafnkglbcpaa.PG (S50 z50 k50 GateOk GatesOk Apart own_lt own_apart R_by)
open Go.Proofs.Ytaalafnkglbcpaa.PL (S77 z77 k77 Tab roww cel)
set_option linter.unusedVariables false
set_option linter.unusedSimpArgs false
/-- The row for number x: the input in the lowest bits; states that there are not do as state 0. -/
def rowAt (t : Tab) (I x : Nat) : S77 := cel t (if x / 2 ^ I < t.length then x / 2 ^ I else 0) (x % 2 ^ I)
theorem wraps_i64 : ∀ n : Int, 0 ≤ n → n < 2 ^ 10 → IntKind.i64.wrap n = n := fun n h0 h1 => by rw [IntKind.wrap_i64]; have : n < 1024 := h1; omega
theorem and_mask1 (x : Nat) (hx : x ≤ 1000) : Go.bits .and .i64 (x : Int) 1 = ((x % 2 : Nat) : Int) := by
  have h := bits_mask .i64 10 (by decide) wraps_i64 1 (by decide) (x : Int) (by omega) (by show (x : Int) < 1024; omega)
  have e : (2 : Int) ^ 1 - 1 = 1 := by decide
  rw [e] at h
  rw [h]; simp
theorem and_mask3 (x : Nat) (hx : x ≤ 1000) : Go.bits .and .i64 (x : Int) 3 = ((x % 4 : Nat) : Int) := by
  have h := bits_mask .i64 10 (by decide) wraps_i64 2 (by decide) (x : Int) (by omega) (by show (x : Int) < 1024; omega)
  have e : (2 : Int) ^ 2 - 1 = 3 := by decide
  rw [e] at h
  rw [h]; simp
set_option maxHeartbeats 4000000 in
set_option maxRecDepth 100000 in
theorem row_calls (w : World) (b1 I : Nat) (outs : Int) (Ar : Option Addr) (cr : Nat) (t : Tab) (x : Nat) (hI : I = 1 ∨ I = 2) (hx : x ≤ 1000) (ht0 : 1 ≤ t.length) (ht : t.length ≤ 6) (hlen : ∀ s, s < t.length → (roww t s).length = 2 ^ I)
    (hb : w.heap[b1]? = some (.cells #[.int .i64 (I : Int), .int .i64 outs, .slice Ar t.length cr] 25 (0, 0))) (hR : Kd.C (Kd.slice 77 k77) w Ar t.length t) :
    Calls Try.prog 60 #[.int .i64 (x : Int), .pointer (some ⟨b1, 0, none⟩)] w fun e w' => e = .returned (.agg #[.int .i64 (rowAt t I x).f0, .int .i64 (rowAt t I x).f1]) ∧ Below w.heap.size w w' := by
  have q0 : w.cell? ⟨b1, 0, none⟩ = some (.int .i64 (I : Int)) := (blk_cell hb 0).trans rfl
  have q2 : w.cell? ⟨b1, 2, none⟩ = some (.slice Ar t.length cr) := (blk_cell hb 2).trans rfl
  have HB := Aside0.mk hb
  have HR := Aside0.mk hR
  have HL := Aside0.mk hlen
  have hbl := blk_lt hb
  clear hb hR hlen
  go_enter Try.func60, Try.ntmps60
  rcases hI with rfl | rfl
  · obtain ⟨s, hs⟩ : ∃ s : Nat, (x : Int) / 2 = (s : Int) := ⟨x / 2, by omega⟩
    have HS : Aside0 (s = x / 2) := ⟨by omega⟩
    by_cases hlt : s < t.length
    · have h1 : decide ((t.length : Int) ≤ (s : Int)) = false := decide_eq_false (by omega)
      go_wp2_with fail
      obtain ⟨i, hi⟩ : ∃ i : Nat, i = x % 2 := ⟨_, rfl⟩
      have hi2 : i < 2 := by omega
      have HI := Aside0.mk hi
      have hrow : rowAt t 1 x = cel t s i := by unfold rowAt; rw [show x / 2 ^ 1 = s from by rw [HS.out], show x % 2 ^ 1 = i from by rw [HI.out], if_pos hlt]
      have HROW := Aside0.mk hrow
      have hlen2 := HL.out s (by omega)
      rw [show 2 ^ 1 = 2 from rfl] at hlen2
      have hr2 : PL.rd_L2 t ((s : Nat) : Int) = roww t s := by unfold PL.rd_L2 roww; simp
      obtain ⟨ad, A0, c0, rfl, hcA, hcB, hcC⟩ := PL.at_L2 HR.out ((s : Nat) : Int) (by omega) (by omega)
      rw [hr2, hlen2] at hcA hcC
      rw [Int.toNat_natCast] at hcA
      obtain ⟨a2, rfl, d0, d1⟩ := PL.at_T77 (i := (i : Int)) hcC (by omega) (by omega)
      have hr3 : PL.rd_T77 (roww t s) (i : Int) = cel t s i := by unfold PL.rd_T77 cel; simp
      rw [hr3, Int.toNat_natCast] at d0 d1
      generalize cel t s i = r at *
      have HAND : Aside0 (Go.bits .and .i64 (x : Int) 1 = (i : Int)) := ⟨by rw [HI.out]; exact and_mask1 x hx⟩
      have X0 : Aside0 (Below w.heap.size w (w.alloc (Obj.cells #[.int .i64 0, .int .i64 0] 77))) := ⟨below_alloc (Below.refl _ _) _⟩
      have G0 := Aside0.mk (blk_new w (Obj.cells #[.int .i64 0, .int .i64 0] 77))
      have hB := X0.out
      have hh := And.intro (blk_cell (blk_below HB.out hB) 0) (And.intro (blk_cell (blk_below HB.out hB) 2) (And.intro (hB.cell (World.block_lt_of_cell? _ _ hcA) |>.trans hcA) (And.intro (hB.cell (World.block_lt_of_cell? _ _ d0) |>.trans d0) (hB.cell (World.block_lt_of_cell? _ _ d1) |>.trans d1))))
      clear hi hcA hcB hcC d0 d1 hr2 hr3 hB q0 q2 hrow hlen2
      generalize hge : w.heap.size = g0 at *
      have HGe := Aside0.mk hge
      clear hge
      generalize w.alloc (Obj.cells #[.int .i64 0, .int .i64 0] 77) = w1 at *
      refine start_ (n := 14) (S := fun w' => w'.cell? ⟨b1, 0, none⟩ = some (.int .i64 1) ∧ w'.cell? ⟨b1, 2, none⟩ = some (.slice (some ad) t.length cr) ∧ w'.cell? (ad.add s) = some (.slice (some a2) 2 c0) ∧ w'.cell? (a2.add (i * 2)) = some (.int .i64 r.f0) ∧ w'.cell? ⟨(a2.add (i * 2)).block, (a2.add (i * 2)).off + 1, none⟩ = some (.int .i64 r.f1)) (ds := [13]) #[false, false, false, false, false, false, false, false, false, false, false, false, false, false] (by kernel_rfl) rfl rfl ⟨hh.1, hh.2.1, hh.2.2.1, hh.2.2.2.1, hh.2.2.2.2⟩ (fun hHeld => ?_)
      have X1 : Aside0 (Below g0 w w1.drew) := ⟨below_drew X0.out⟩
      have G1 := Aside0.mk (blk_drewN G0.out 1)
      rw [show w1.drewN 1 = w1.drew from rfl] at G1
      clear X0 G0 hh
      generalize w1.drew = w2 at *
      refine pure_ (i := 0) (N := (some 14)) (v := ?_) (a' := ?_) #[true, false, false, false, false, false, false, false, false, false, false, false, false, false] rfl rfl (by kernel_rfl) (fun _ _ _ h => h) (Or.inl ⟨by rfl, ?_⟩) ?_ ?_
      rotate_left
      · intro w'
        go_simp
        with_reducible rfl
      rotate_left
      · simp only [Act.put, List.setIfInBounds_toArray, List.set_cons_zero, List.set_cons_succ, i64_w, i32_w]
        rfl
      refine take_ (i := 1) (N := (some 15)) (v := ?_) (a' := ?_) #[true, true, false, false, false, false, false, false, false, false, false, false, false, false] rfl rfl (by kernel_rfl) (fun _ _ _ h => h) (Or.inl ⟨by rfl, ?_⟩) hHeld ?_ ?_
      rotate_left
      · rintro w' ⟨s0, s1, s2, s3, s4⟩
        go_simp
        with_reducible rfl
      rotate_left
      · simp only [Act.put, List.setIfInBounds_toArray, List.set_cons_zero, List.set_cons_succ, i64_w, i32_w]
        rfl
      refine pure_ (i := 2) (N := (some 16)) (v := ?_) (a' := ?_) #[true, true, true, false, false, false, false, false, false, false, false, false, false, false] rfl rfl (by kernel_rfl) (fun _ _ _ h => h) (Or.inl ⟨by rfl, ?_⟩) ?_ ?_
      rotate_left
      · intro w'
        go_simp
        with_reducible rfl
      rotate_left
      · simp only [Act.put, List.setIfInBounds_toArray, List.set_cons_zero, List.set_cons_succ, i64_w, i32_w]
        rfl
      refine pure_ (i := 3) (N := (some 17)) (v := ?_) (a' := ?_) #[true, true, true, true, false, false, false, false, false, false, false, false, false, false] rfl rfl (by kernel_rfl) (fun _ _ _ h => h) (Or.inl ⟨by rfl, ?_⟩) ?_ ?_
      rotate_left
      · intro w'
        go_simp
        with_reducible rfl
      rotate_left
      · simp only [Act.put, List.setIfInBounds_toArray, List.set_cons_zero, List.set_cons_succ, i64_w, i32_w]
        rfl
      refine take_ (i := 4) (N := (some 18)) (v := ?_) (a' := ?_) #[true, true, true, true, true, false, false, false, false, false, false, false, false, false] rfl rfl (by kernel_rfl) (fun _ _ _ h => h) (Or.inl ⟨by rfl, ?_⟩) hHeld ?_ ?_
      rotate_left
      · rintro w' ⟨s0, s1, s2, s3, s4⟩
        go_simp
        with_reducible rfl
      rotate_left
      · simp only [Act.put, List.setIfInBounds_toArray, List.set_cons_zero, List.set_cons_succ, i64_w, i32_w]
        rfl
      refine pure_ (i := 5) (N := (some 19)) (v := ?_) (a' := ?_) #[true, true, true, true, true, true, false, false, false, false, false, false, false, false] rfl rfl (by kernel_rfl) (fun _ _ _ h => h) (Or.inl ⟨by rfl, ?_⟩) ?_ ?_
      rotate_left
      · intro w'
        go_simp
        with_reducible rfl
      rotate_left
      · simp only [Act.put, List.setIfInBounds_toArray, List.set_cons_zero, List.set_cons_succ, i64_w, i32_w]
        rfl
      refine pure_ (i := 6) (N := (some 20)) (v := ?_) (a' := ?_) #[true, true, true, true, true, true, true, false, false, false, false, false, false, false] rfl rfl (by kernel_rfl) (fun _ _ _ h => h) (Or.inl ⟨by rfl, ?_⟩) ?_ ?_
      rotate_left
      · intro w'
        go_simp
        with_reducible rfl
      rotate_left
      · simp only [Act.put, List.setIfInBounds_toArray, List.set_cons_zero, List.set_cons_succ, i64_w, i32_w]
        rfl
      refine take_ (i := 7) (N := (some 21)) (v := ?_) (a' := ?_) #[true, true, true, true, true, true, true, true, false, false, false, false, false, false] rfl rfl (by kernel_rfl) (fun _ _ _ h => h) (Or.inl ⟨by rfl, ?_⟩) hHeld ?_ ?_
      rotate_left
      · rintro w' ⟨s0, s1, s2, s3, s4⟩
        go_simp
        with_reducible rfl
      rotate_left
      · simp only [Act.put, List.setIfInBounds_toArray, List.set_cons_zero, List.set_cons_succ, i64_w, i32_w]
        rfl
      refine pure_ (i := 8) (N := (some 22)) (v := ?_) (a' := ?_) #[true, true, true, true, true, true, true, true, true, false, false, false, false, false] rfl rfl (by kernel_rfl) (fun _ _ _ h => h) (Or.inl ⟨by rfl, ?_⟩) ?_ ?_
      rotate_left
      · intro w'
        go_simp
        with_reducible rfl
      rotate_left
      · simp only [Act.put, List.setIfInBounds_toArray, List.set_cons_zero, List.set_cons_succ, i64_w, i32_w]
        rfl
      refine pure_ (i := 9) (N := (some 23)) (v := ?_) (a' := ?_) #[true, true, true, true, true, true, true, true, true, true, false, false, false, false] rfl rfl (by kernel_rfl) (fun _ _ _ h => h) (Or.inl ⟨by rfl, ?_⟩) ?_ ?_
      rotate_left
      · intro w'
        go_simp
        with_reducible rfl
      rotate_left
      · simp only [Act.put, List.setIfInBounds_toArray, List.set_cons_zero, List.set_cons_succ, i64_w, i32_w]
        rfl
      refine pure_ (i := 10) (N := (some 24)) (v := ?_) (a' := ?_) #[true, true, true, true, true, true, true, true, true, true, true, false, false, false] rfl rfl (by kernel_rfl) (fun _ _ _ h => h) (Or.inl ⟨by rfl, ?_⟩) ?_ ?_
      rotate_left
      · intro w'
        go_simp
        with_reducible rfl
      rotate_left
      · simp only [Act.put, List.setIfInBounds_toArray, List.set_cons_zero, List.set_cons_succ, i64_w, i32_w]
        rfl
      rw [show wrap64 (wrap64 (2 : Int) - 1) = 1 from by decide +kernel, HAND.out]
      have hid : (i : Int) < 2 := by omega
      refine pure_ (i := 11) (N := (some 25)) (v := ?_) (a' := ?_) #[true, true, true, true, true, true, true, true, true, true, true, true, false, false] rfl rfl (by kernel_rfl) (fun _ _ _ h => h) (Or.inl ⟨by rfl, ?_⟩) ?_ ?_
      rotate_left
      · intro w'
        go_simp
        with_reducible rfl
      rotate_left
      · simp only [Act.put, List.setIfInBounds_toArray, List.set_cons_zero, List.set_cons_succ, i64_w, i32_w]
        rfl
      refine take_ (i := 12) (N := (some 26)) (v := ?_) (a' := ?_) #[true, true, true, true, true, true, true, true, true, true, true, true, true, false] rfl rfl (by kernel_rfl) (fun _ _ _ h => h) (Or.inl ⟨by rfl, ?_⟩) hHeld ?_ ?_
      rotate_left
      · rintro w' ⟨s0, s1, s2, s3, s4⟩
        go_simp
        with_reducible rfl
      rotate_left
      · simp only [Act.put, List.setIfInBounds_toArray, List.set_cons_zero, List.set_cons_succ, i64_w, i32_w]
        rfl
      refine last_ (i := 13) (N := none) #[true, true, true, true, true, true, true, true, true, true, true, true, true, true] rfl rfl (by kernel_rfl) (by decide) (fun K hK => ?_)
      have hrc0 := (blk_cell G1.out 0).trans (show _ = some (Value.int .i64 0) from rfl)
      have hrf0 := blk_frozen G1.out 0
      have hb1 := blk_put G1.out 0 (.int .i64 r.f0) rfl
      have hrc1 := (blk_cell hb1 1).trans (show _ = some (Value.int .i64 0) from rfl)
      have hrf1 := blk_frozen hb1 1
      have hb2 := blk_put hb1 1 (.int .i64 r.f1) rfl
      have HB2 := Aside0.mk hb2
      clear hb1 hb2
      refine skip_ (w1 := ?_) (by rfl) rfl ?_ ?_
      rotate_left
      · go_simp
        rfl
      refine hK.out _ _ ?_
      clear hK K
      refine done_ (by kernel_rfl) ?_
      go_wp2_with fail
      refine bodyPost_ret (results_cell_row (fn := Try.f60) rfl _ _ g0 77 #[.int .i64 r.f0, .int .i64 r.f1] (0, 0) _ rfl HB2.out Try.underlying77 rfl (by kernel_rfl)) rfl ?_
      exact ⟨by rw [HROW.out], Below.mono ((X1.out.setCell (Nat.le_refl _) _).setCell (Nat.le_refl _) _) (Nat.le_of_eq HGe.out)⟩
    · have h1 : decide ((t.length : Int) ≤ (s : Int)) = true := decide_eq_true (by omega)
      go_wp2_with fail
      obtain ⟨i, hi⟩ : ∃ i : Nat, i = x % 2 := ⟨_, rfl⟩
      have hi2 : i < 2 := by omega
      have HI := Aside0.mk hi
      have hrow : rowAt t 1 x = cel t 0 i := by unfold rowAt; rw [show x / 2 ^ 1 = s from by rw [HS.out], show x % 2 ^ 1 = i from by rw [HI.out], if_neg hlt]
      have HROW := Aside0.mk hrow
      have hlen2 := HL.out 0 (by omega)
      rw [show 2 ^ 1 = 2 from rfl] at hlen2
      have hr2 : PL.rd_L2 t ((0 : Nat) : Int) = roww t 0 := by unfold PL.rd_L2 roww; simp
      obtain ⟨ad, A0, c0, rfl, hcA, hcB, hcC⟩ := PL.at_L2 HR.out ((0 : Nat) : Int) (by omega) (by omega)
      rw [hr2, hlen2] at hcA hcC
      rw [Int.toNat_natCast] at hcA
      obtain ⟨a2, rfl, d0, d1⟩ := PL.at_T77 (i := (i : Int)) hcC (by omega) (by omega)
      have hr3 : PL.rd_T77 (roww t 0) (i : Int) = cel t 0 i := by unfold PL.rd_T77 cel; simp
      rw [hr3, Int.toNat_natCast] at d0 d1
      generalize cel t 0 i = r at *
      have HAND : Aside0 (Go.bits .and .i64 (x : Int) 1 = (i : Int)) := ⟨by rw [HI.out]; exact and_mask1 x hx⟩
      have X0 : Aside0 (Below w.heap.size w (w.alloc (Obj.cells #[.int .i64 0, .int .i64 0] 77))) := ⟨below_alloc (Below.refl _ _) _⟩
      have G0 := Aside0.mk (blk_new w (Obj.cells #[.int .i64 0, .int .i64 0] 77))
      have hB := X0.out
      rw [show ad.add 0 = ad from by unfold Addr.add; split <;> simp_all] at hcA
      have hpos : 0 < t.length := ht0
      have hh := And.intro (blk_cell (blk_below HB.out hB) 0) (And.intro (blk_cell (blk_below HB.out hB) 2) (And.intro (hB.cell (World.block_lt_of_cell? _ _ hcA) |>.trans hcA) (And.intro (hB.cell (World.block_lt_of_cell? _ _ d0) |>.trans d0) (hB.cell (World.block_lt_of_cell? _ _ d1) |>.trans d1))))
      clear hi hcA hcB hcC d0 d1 hr2 hr3 hB q0 q2 hrow hlen2
      generalize hge : w.heap.size = g0 at *
      have HGe := Aside0.mk hge
      clear hge
      generalize w.alloc (Obj.cells #[.int .i64 0, .int .i64 0] 77) = w1 at *
      refine start_ (n := 14) (S := fun w' => w'.cell? ⟨b1, 0, none⟩ = some (.int .i64 1) ∧ w'.cell? ⟨b1, 2, none⟩ = some (.slice (some ad) t.length cr) ∧ w'.cell? ad = some (.slice (some a2) 2 c0) ∧ w'.cell? (a2.add (i * 2)) = some (.int .i64 r.f0) ∧ w'.cell? ⟨(a2.add (i * 2)).block, (a2.add (i * 2)).off + 1, none⟩ = some (.int .i64 r.f1)) (ds := [13]) #[false, false, false, false, false, false, false, false, false, false, false, false, false, false] (by kernel_rfl) rfl rfl ⟨hh.1, hh.2.1, hh.2.2.1, hh.2.2.2.1, hh.2.2.2.2⟩ (fun hHeld => ?_)
      have X1 : Aside0 (Below g0 w w1.drew) := ⟨below_drew X0.out⟩
      have G1 := Aside0.mk (blk_drewN G0.out 1)
      rw [show w1.drewN 1 = w1.drew from rfl] at G1
      clear X0 G0 hh
      generalize w1.drew = w2 at *
      refine pure_ (i := 0) (N := (some 14)) (v := ?_) (a' := ?_) #[true, false, false, false, false, false, false, false, false, false, false, false, false, false] rfl rfl (by kernel_rfl) (fun _ _ _ h => h) (Or.inl ⟨by rfl, ?_⟩) ?_ ?_
      rotate_left
      · intro w'
        go_simp
        with_reducible rfl
      rotate_left
      · simp only [Act.put, List.setIfInBounds_toArray, List.set_cons_zero, List.set_cons_succ, i64_w, i32_w]
        rfl
      refine take_ (i := 1) (N := (some 15)) (v := ?_) (a' := ?_) #[true, true, false, false, false, false, false, false, false, false, false, false, false, false] rfl rfl (by kernel_rfl) (fun _ _ _ h => h) (Or.inl ⟨by rfl, ?_⟩) hHeld ?_ ?_
      rotate_left
      · rintro w' ⟨s0, s1, s2, s3, s4⟩
        go_simp
        with_reducible rfl
      rotate_left
      · simp only [Act.put, List.setIfInBounds_toArray, List.set_cons_zero, List.set_cons_succ, i64_w, i32_w]
        rfl
      refine pure_ (i := 2) (N := (some 16)) (v := ?_) (a' := ?_) #[true, true, true, false, false, false, false, false, false, false, false, false, false, false] rfl rfl (by kernel_rfl) (fun _ _ _ h => h) (Or.inl ⟨by rfl, ?_⟩) ?_ ?_
      rotate_left
      · intro w'
        go_simp
        with_reducible rfl
      rotate_left
      · simp only [Act.put, List.setIfInBounds_toArray, List.set_cons_zero, List.set_cons_succ, i64_w, i32_w]
        rfl
      refine pure_ (i := 3) (N := (some 17)) (v := ?_) (a' := ?_) #[true, true, true, true, false, false, false, false, false, false, false, false, false, false] rfl rfl (by kernel_rfl) (fun _ _ _ h => h) (Or.inl ⟨by rfl, ?_⟩) ?_ ?_
      rotate_left
      · intro w'
        go_simp
        with_reducible rfl
      rotate_left
      · simp only [Act.put, List.setIfInBounds_toArray, List.set_cons_zero, List.set_cons_succ, i64_w, i32_w]
        rfl
      refine take_ (i := 4) (N := (some 18)) (v := ?_) (a' := ?_) #[true, true, true, true, true, false, false, false, false, false, false, false, false, false] rfl rfl (by kernel_rfl) (fun _ _ _ h => h) (Or.inl ⟨by rfl, ?_⟩) hHeld ?_ ?_
      rotate_left
      · rintro w' ⟨s0, s1, s2, s3, s4⟩
        go_simp
        with_reducible rfl
      rotate_left
      · simp only [Act.put, List.setIfInBounds_toArray, List.set_cons_zero, List.set_cons_succ, i64_w, i32_w]
        rfl
      refine pure_ (i := 5) (N := (some 19)) (v := ?_) (a' := ?_) #[true, true, true, true, true, true, false, false, false, false, false, false, false, false] rfl rfl (by kernel_rfl) (fun _ _ _ h => h) (Or.inl ⟨by rfl, ?_⟩) ?_ ?_
      rotate_left
      · intro w'
        go_simp
        with_reducible rfl
      rotate_left
      · simp only [Act.put, List.setIfInBounds_toArray, List.set_cons_zero, List.set_cons_succ, i64_w, i32_w]
        rfl
      refine pure_ (i := 6) (N := (some 20)) (v := ?_) (a' := ?_) #[true, true, true, true, true, true, true, false, false, false, false, false, false, false] rfl rfl (by kernel_rfl) (fun _ _ _ h => h) (Or.inl ⟨by rfl, ?_⟩) ?_ ?_
      rotate_left
      · intro w'
        go_simp
        with_reducible rfl
      rotate_left
      · simp only [Act.put, List.setIfInBounds_toArray, List.set_cons_zero, List.set_cons_succ, i64_w, i32_w]
        rfl
      refine take_ (i := 7) (N := (some 21)) (v := ?_) (a' := ?_) #[true, true, true, true, true, true, true, true, false, false, false, false, false, false] rfl rfl (by kernel_rfl) (fun _ _ _ h => h) (Or.inl ⟨by rfl, ?_⟩) hHeld ?_ ?_
      rotate_left
      · rintro w' ⟨s0, s1, s2, s3, s4⟩
        go_simp
        with_reducible rfl
      rotate_left
      · simp only [Act.put, List.setIfInBounds_toArray, List.set_cons_zero, List.set_cons_succ, i64_w, i32_w]
        rfl
      refine pure_ (i := 8) (N := (some 22)) (v := ?_) (a' := ?_) #[true, true, true, true, true, true, true, true, true, false, false, false, false, false] rfl rfl (by kernel_rfl) (fun _ _ _ h => h) (Or.inl ⟨by rfl, ?_⟩) ?_ ?_
      rotate_left
      · intro w'
        go_simp
        with_reducible rfl
      rotate_left
      · simp only [Act.put, List.setIfInBounds_toArray, List.set_cons_zero, List.set_cons_succ, i64_w, i32_w]
        rfl
      refine pure_ (i := 9) (N := (some 23)) (v := ?_) (a' := ?_) #[true, true, true, true, true, true, true, true, true, true, false, false, false, false] rfl rfl (by kernel_rfl) (fun _ _ _ h => h) (Or.inl ⟨by rfl, ?_⟩) ?_ ?_
      rotate_left
      · intro w'
        go_simp
        with_reducible rfl
      rotate_left
      · simp only [Act.put, List.setIfInBounds_toArray, List.set_cons_zero, List.set_cons_succ, i64_w, i32_w]
        rfl
      refine pure_ (i := 10) (N := (some 24)) (v := ?_) (a' := ?_) #[true, true, true, true, true, true, true, true, true, true, true, false, false, false] rfl rfl (by kernel_rfl) (fun _ _ _ h => h) (Or.inl ⟨by rfl, ?_⟩) ?_ ?_
      rotate_left
      · intro w'
        go_simp
        with_reducible rfl
      rotate_left
      · simp only [Act.put, List.setIfInBounds_toArray, List.set_cons_zero, List.set_cons_succ, i64_w, i32_w]
        rfl
      rw [show wrap64 (wrap64 (2 : Int) - 1) = 1 from by decide +kernel, HAND.out]
      have hid : (i : Int) < 2 := by omega
      refine pure_ (i := 11) (N := (some 25)) (v := ?_) (a' := ?_) #[true, true, true, true, true, true, true, true, true, true, true, true, false, false] rfl rfl (by kernel_rfl) (fun _ _ _ h => h) (Or.inl ⟨by rfl, ?_⟩) ?_ ?_
      rotate_left
      · intro w'
        go_simp
        with_reducible rfl
      rotate_left
      · simp only [Act.put, List.setIfInBounds_toArray, List.set_cons_zero, List.set_cons_succ, i64_w, i32_w]
        rfl
      refine take_ (i := 12) (N := (some 26)) (v := ?_) (a' := ?_) #[true, true, true, true, true, true, true, true, true, true, true, true, true, false] rfl rfl (by kernel_rfl) (fun _ _ _ h => h) (Or.inl ⟨by rfl, ?_⟩) hHeld ?_ ?_
      rotate_left
      · rintro w' ⟨s0, s1, s2, s3, s4⟩
        go_simp
        with_reducible rfl
      rotate_left
      · simp only [Act.put, List.setIfInBounds_toArray, List.set_cons_zero, List.set_cons_succ, i64_w, i32_w]
        rfl
      refine last_ (i := 13) (N := none) #[true, true, true, true, true, true, true, true, true, true, true, true, true, true] rfl rfl (by kernel_rfl) (by decide) (fun K hK => ?_)
      have hrc0 := (blk_cell G1.out 0).trans (show _ = some (Value.int .i64 0) from rfl)
      have hrf0 := blk_frozen G1.out 0
      have hb1 := blk_put G1.out 0 (.int .i64 r.f0) rfl
      have hrc1 := (blk_cell hb1 1).trans (show _ = some (Value.int .i64 0) from rfl)
      have hrf1 := blk_frozen hb1 1
      have hb2 := blk_put hb1 1 (.int .i64 r.f1) rfl
      have HB2 := Aside0.mk hb2
      clear hb1 hb2
      refine skip_ (w1 := ?_) (by rfl) rfl ?_ ?_
      rotate_left
      · go_simp
        rfl
      refine hK.out _ _ ?_
      clear hK K
      refine done_ (by kernel_rfl) ?_
      go_wp2_with fail
      refine bodyPost_ret (results_cell_row (fn := Try.f60) rfl _ _ g0 77 #[.int .i64 r.f0, .int .i64 r.f1] (0, 0) _ rfl HB2.out Try.underlying77 rfl (by kernel_rfl)) rfl ?_
      exact ⟨by rw [HROW.out], Below.mono ((X1.out.setCell (Nat.le_refl _) _).setCell (Nat.le_refl _) _) (Nat.le_of_eq HGe.out)⟩
  · obtain ⟨s, hs⟩ : ∃ s : Nat, (x : Int) / 4 = (s : Int) := ⟨x / 4, by omega⟩
    have HS : Aside0 (s = x / 4) := ⟨by omega⟩
    by_cases hlt : s < t.length
    · have h1 : decide ((t.length : Int) ≤ (s : Int)) = false := decide_eq_false (by omega)
      go_wp2_with fail
      obtain ⟨i, hi⟩ : ∃ i : Nat, i = x % 4 := ⟨_, rfl⟩
      have hi2 : i < 4 := by omega
      have HI := Aside0.mk hi
      have hrow : rowAt t 2 x = cel t s i := by unfold rowAt; rw [show x / 2 ^ 2 = s from by rw [HS.out], show x % 2 ^ 2 = i from by rw [HI.out], if_pos hlt]
      have HROW := Aside0.mk hrow
      have hlen2 := HL.out s (by omega)
      rw [show 2 ^ 2 = 4 from rfl] at hlen2
      have hr2 : PL.rd_L2 t ((s : Nat) : Int) = roww t s := by unfold PL.rd_L2 roww; simp
      obtain ⟨ad, A0, c0, rfl, hcA, hcB, hcC⟩ := PL.at_L2 HR.out ((s : Nat) : Int) (by omega) (by omega)
      rw [hr2, hlen2] at hcA hcC
      rw [Int.toNat_natCast] at hcA
      obtain ⟨a2, rfl, d0, d1⟩ := PL.at_T77 (i := (i : Int)) hcC (by omega) (by omega)
      have hr3 : PL.rd_T77 (roww t s) (i : Int) = cel t s i := by unfold PL.rd_T77 cel; simp
      rw [hr3, Int.toNat_natCast] at d0 d1
      generalize cel t s i = r at *
      have HAND : Aside0 (Go.bits .and .i64 (x : Int) 3 = (i : Int)) := ⟨by rw [HI.out]; exact and_mask3 x hx⟩
      have X0 : Aside0 (Below w.heap.size w (w.alloc (Obj.cells #[.int .i64 0, .int .i64 0] 77))) := ⟨below_alloc (Below.refl _ _) _⟩
      have G0 := Aside0.mk (blk_new w (Obj.cells #[.int .i64 0, .int .i64 0] 77))
      have hB := X0.out
      have hh := And.intro (blk_cell (blk_below HB.out hB) 0) (And.intro (blk_cell (blk_below HB.out hB) 2) (And.intro (hB.cell (World.block_lt_of_cell? _ _ hcA) |>.trans hcA) (And.intro (hB.cell (World.block_lt_of_cell? _ _ d0) |>.trans d0) (hB.cell (World.block_lt_of_cell? _ _ d1) |>.trans d1))))
      clear hi hcA hcB hcC d0 d1 hr2 hr3 hB q0 q2 hrow hlen2
      generalize hge : w.heap.size = g0 at *
      have HGe := Aside0.mk hge
      clear hge
      generalize w.alloc (Obj.cells #[.int .i64 0, .int .i64 0] 77) = w1 at *
      refine start_ (n := 14) (S := fun w' => w'.cell? ⟨b1, 0, none⟩ = some (.int .i64 2) ∧ w'.cell? ⟨b1, 2, none⟩ = some (.slice (some ad) t.length cr) ∧ w'.cell? (ad.add s) = some (.slice (some a2) 4 c0) ∧ w'.cell? (a2.add (i * 2)) = some (.int .i64 r.f0) ∧ w'.cell? ⟨(a2.add (i * 2)).block, (a2.add (i * 2)).off + 1, none⟩ = some (.int .i64 r.f1)) (ds := [13]) #[false, false, false, false, false, false, false, false, false, false, false, false, false, false] (by kernel_rfl) rfl rfl ⟨hh.1, hh.2.1, hh.2.2.1, hh.2.2.2.1, hh.2.2.2.2⟩ (fun hHeld => ?_)
      have X1 : Aside0 (Below g0 w w1.drew) := ⟨below_drew X0.out⟩
      have G1 := Aside0.mk (blk_drewN G0.out 1)
      rw [show w1.drewN 1 = w1.drew from rfl] at G1
      clear X0 G0 hh
      generalize w1.drew = w2 at *
      refine pure_ (i := 0) (N := (some 14)) (v := ?_) (a' := ?_) #[true, false, false, false, false, false, false, false, false, false, false, false, false, false] rfl rfl (by kernel_rfl) (fun _ _ _ h => h) (Or.inl ⟨by rfl, ?_⟩) ?_ ?_
      rotate_left
      · intro w'
        go_simp
        with_reducible rfl
      rotate_left
      · simp only [Act.put, List.setIfInBounds_toArray, List.set_cons_zero, List.set_cons_succ, i64_w, i32_w]
        rfl
      refine take_ (i := 1) (N := (some 15)) (v := ?_) (a' := ?_) #[true, true, false, false, false, false, false, false, false, false, false, false, false, false] rfl rfl (by kernel_rfl) (fun _ _ _ h => h) (Or.inl ⟨by rfl, ?_⟩) hHeld ?_ ?_
      rotate_left
      · rintro w' ⟨s0, s1, s2, s3, s4⟩
        go_simp
        with_reducible rfl
      rotate_left
      · simp only [Act.put, List.setIfInBounds_toArray, List.set_cons_zero, List.set_cons_succ, i64_w, i32_w]
        rfl
      refine pure_ (i := 2) (N := (some 16)) (v := ?_) (a' := ?_) #[true, true, true, false, false, false, false, false, false, false, false, false, false, false] rfl rfl (by kernel_rfl) (fun _ _ _ h => h) (Or.inl ⟨by rfl, ?_⟩) ?_ ?_
      rotate_left
      · intro w'
        go_simp
        with_reducible rfl
      rotate_left
      · simp only [Act.put, List.setIfInBounds_toArray, List.set_cons_zero, List.set_cons_succ, i64_w, i32_w]
        rfl
      refine pure_ (i := 3) (N := (some 17)) (v := ?_) (a' := ?_) #[true, true, true, true, false, false, false, false, false, false, false, false, false, false] rfl rfl (by kernel_rfl) (fun _ _ _ h => h) (Or.inl ⟨by rfl, ?_⟩) ?_ ?_
      rotate_left
      · intro w'
        go_simp
        with_reducible rfl
      rotate_left
      · simp only [Act.put, List.setIfInBounds_toArray, List.set_cons_zero, List.set_cons_succ, i64_w, i32_w]
        rfl
      refine take_ (i := 4) (N := (some 18)) (v := ?_) (a' := ?_) #[true, true, true, true, true, false, false, false, false, false, false, false, false, false] rfl rfl (by kernel_rfl) (fun _ _ _ h => h) (Or.inl ⟨by rfl, ?_⟩) hHeld ?_ ?_
      rotate_left
      · rintro w' ⟨s0, s1, s2, s3, s4⟩
        go_simp
        with_reducible rfl
      rotate_left
      · simp only [Act.put, List.setIfInBounds_toArray, List.set_cons_zero, List.set_cons_succ, i64_w, i32_w]
        rfl
      refine pure_ (i := 5) (N := (some 19)) (v := ?_) (a' := ?_) #[true, true, true, true, true, true, false, false, false, false, false, false, false, false] rfl rfl (by kernel_rfl) (fun _ _ _ h => h) (Or.inl ⟨by rfl, ?_⟩) ?_ ?_
      rotate_left
      · intro w'
        go_simp
        with_reducible rfl
      rotate_left
      · simp only [Act.put, List.setIfInBounds_toArray, List.set_cons_zero, List.set_cons_succ, i64_w, i32_w]
        rfl
      refine pure_ (i := 6) (N := (some 20)) (v := ?_) (a' := ?_) #[true, true, true, true, true, true, true, false, false, false, false, false, false, false] rfl rfl (by kernel_rfl) (fun _ _ _ h => h) (Or.inl ⟨by rfl, ?_⟩) ?_ ?_
      rotate_left
      · intro w'
        go_simp
        with_reducible rfl
      rotate_left
      · simp only [Act.put, List.setIfInBounds_toArray, List.set_cons_zero, List.set_cons_succ, i64_w, i32_w]
        rfl
      refine take_ (i := 7) (N := (some 21)) (v := ?_) (a' := ?_) #[true, true, true, true, true, true, true, true, false, false, false, false, false, false] rfl rfl (by kernel_rfl) (fun _ _ _ h => h) (Or.inl ⟨by rfl, ?_⟩) hHeld ?_ ?_
      rotate_left
      · rintro w' ⟨s0, s1, s2, s3, s4⟩
        go_simp
        with_reducible rfl
      rotate_left
      · simp only [Act.put, List.setIfInBounds_toArray, List.set_cons_zero, List.set_cons_succ, i64_w, i32_w]
        rfl
      refine pure_ (i := 8) (N := (some 22)) (v := ?_) (a' := ?_) #[true, true, true, true, true, true, true, true, true, false, false, false, false, false] rfl rfl (by kernel_rfl) (fun _ _ _ h => h) (Or.inl ⟨by rfl, ?_⟩) ?_ ?_
      rotate_left
      · intro w'
        go_simp
        with_reducible rfl
      rotate_left
      · simp only [Act.put, List.setIfInBounds_toArray, List.set_cons_zero, List.set_cons_succ, i64_w, i32_w]
        rfl
      refine pure_ (i := 9) (N := (some 23)) (v := ?_) (a' := ?_) #[true, true, true, true, true, true, true, true, true, true, false, false, false, false] rfl rfl (by kernel_rfl) (fun _ _ _ h => h) (Or.inl ⟨by rfl, ?_⟩) ?_ ?_
      rotate_left
      · intro w'
        go_simp
        with_reducible rfl
      rotate_left
      · simp only [Act.put, List.setIfInBounds_toArray, List.set_cons_zero, List.set_cons_succ, i64_w, i32_w]
        rfl
      refine pure_ (i := 10) (N := (some 24)) (v := ?_) (a' := ?_) #[true, true, true, true, true, true, true, true, true, true, true, false, false, false] rfl rfl (by kernel_rfl) (fun _ _ _ h => h) (Or.inl ⟨by rfl, ?_⟩) ?_ ?_
      rotate_left
      · intro w'
        go_simp
        with_reducible rfl
      rotate_left
      · simp only [Act.put, List.setIfInBounds_toArray, List.set_cons_zero, List.set_cons_succ, i64_w, i32_w]
        rfl
      rw [show wrap64 (wrap64 (4 : Int) - 1) = 3 from by decide +kernel, HAND.out]
      have hid : (i : Int) < 4 := by omega
      refine pure_ (i := 11) (N := (some 25)) (v := ?_) (a' := ?_) #[true, true, true, true, true, true, true, true, true, true, true, true, false, false] rfl rfl (by kernel_rfl) (fun _ _ _ h => h) (Or.inl ⟨by rfl, ?_⟩) ?_ ?_
      rotate_left
      · intro w'
        go_simp
        with_reducible rfl
      rotate_left
      · simp only [Act.put, List.setIfInBounds_toArray, List.set_cons_zero, List.set_cons_succ, i64_w, i32_w]
        rfl
      refine take_ (i := 12) (N := (some 26)) (v := ?_) (a' := ?_) #[true, true, true, true, true, true, true, true, true, true, true, true, true, false] rfl rfl (by kernel_rfl) (fun _ _ _ h => h) (Or.inl ⟨by rfl, ?_⟩) hHeld ?_ ?_
      rotate_left
      · rintro w' ⟨s0, s1, s2, s3, s4⟩
        go_simp
        with_reducible rfl
      rotate_left
      · simp only [Act.put, List.setIfInBounds_toArray, List.set_cons_zero, List.set_cons_succ, i64_w, i32_w]
        rfl
      refine last_ (i := 13) (N := none) #[true, true, true, true, true, true, true, true, true, true, true, true, true, true] rfl rfl (by kernel_rfl) (by decide) (fun K hK => ?_)
      have hrc0 := (blk_cell G1.out 0).trans (show _ = some (Value.int .i64 0) from rfl)
      have hrf0 := blk_frozen G1.out 0
      have hb1 := blk_put G1.out 0 (.int .i64 r.f0) rfl
      have hrc1 := (blk_cell hb1 1).trans (show _ = some (Value.int .i64 0) from rfl)
      have hrf1 := blk_frozen hb1 1
      have hb2 := blk_put hb1 1 (.int .i64 r.f1) rfl
      have HB2 := Aside0.mk hb2
      clear hb1 hb2
      refine skip_ (w1 := ?_) (by rfl) rfl ?_ ?_
      rotate_left
      · go_simp
        rfl
      refine hK.out _ _ ?_
      clear hK K
      refine done_ (by kernel_rfl) ?_
      go_wp2_with fail
      refine bodyPost_ret (results_cell_row (fn := Try.f60) rfl _ _ g0 77 #[.int .i64 r.f0, .int .i64 r.f1] (0, 0) _ rfl HB2.out Try.underlying77 rfl (by kernel_rfl)) rfl ?_
      exact ⟨by rw [HROW.out], Below.mono ((X1.out.setCell (Nat.le_refl _) _).setCell (Nat.le_refl _) _) (Nat.le_of_eq HGe.out)⟩
    · have h1 : decide ((t.length : Int) ≤ (s : Int)) = true := decide_eq_true (by omega)
      go_wp2_with fail
      obtain ⟨i, hi⟩ : ∃ i : Nat, i = x % 4 := ⟨_, rfl⟩
      have hi2 : i < 4 := by omega
      have HI := Aside0.mk hi
      have hrow : rowAt t 2 x = cel t 0 i := by unfold rowAt; rw [show x / 2 ^ 2 = s from by rw [HS.out], show x % 2 ^ 2 = i from by rw [HI.out], if_neg hlt]
      have HROW := Aside0.mk hrow
      have hlen2 := HL.out 0 (by omega)
      rw [show 2 ^ 2 = 4 from rfl] at hlen2
      have hr2 : PL.rd_L2 t ((0 : Nat) : Int) = roww t 0 := by unfold PL.rd_L2 roww; simp
      obtain ⟨ad, A0, c0, rfl, hcA, hcB, hcC⟩ := PL.at_L2 HR.out ((0 : Nat) : Int) (by omega) (by omega)
      rw [hr2, hlen2] at hcA hcC
      rw [Int.toNat_natCast] at hcA
      obtain ⟨a2, rfl, d0, d1⟩ := PL.at_T77 (i := (i : Int)) hcC (by omega) (by omega)
      have hr3 : PL.rd_T77 (roww t 0) (i : Int) = cel t 0 i := by unfold PL.rd_T77 cel; simp
      rw [hr3, Int.toNat_natCast] at d0 d1
      generalize cel t 0 i = r at *
      have HAND : Aside0 (Go.bits .and .i64 (x : Int) 3 = (i : Int)) := ⟨by rw [HI.out]; exact and_mask3 x hx⟩
      have X0 : Aside0 (Below w.heap.size w (w.alloc (Obj.cells #[.int .i64 0, .int .i64 0] 77))) := ⟨below_alloc (Below.refl _ _) _⟩
      have G0 := Aside0.mk (blk_new w (Obj.cells #[.int .i64 0, .int .i64 0] 77))
      have hB := X0.out
      rw [show ad.add 0 = ad from by unfold Addr.add; split <;> simp_all] at hcA
      have hpos : 0 < t.length := ht0
      have hh := And.intro (blk_cell (blk_below HB.out hB) 0) (And.intro (blk_cell (blk_below HB.out hB) 2) (And.intro (hB.cell (World.block_lt_of_cell? _ _ hcA) |>.trans hcA) (And.intro (hB.cell (World.block_lt_of_cell? _ _ d0) |>.trans d0) (hB.cell (World.block_lt_of_cell? _ _ d1) |>.trans d1))))
      clear hi hcA hcB hcC d0 d1 hr2 hr3 hB q0 q2 hrow hlen2
      generalize hge : w.heap.size = g0 at *
      have HGe := Aside0.mk hge
      clear hge
      generalize w.alloc (Obj.cells #[.int .i64 0, .int .i64 0] 77) = w1 at *
      refine start_ (n := 14) (S := fun w' => w'.cell? ⟨b1, 0, none⟩ = some (.int .i64 2) ∧ w'.cell? ⟨b1, 2, none⟩ = some (.slice (some ad) t.length cr) ∧ w'.cell? ad = some (.slice (some a2) 4 c0) ∧ w'.cell? (a2.add (i * 2)) = some (.int .i64 r.f0) ∧ w'.cell? ⟨(a2.add (i * 2)).block, (a2.add (i * 2)).off + 1, none⟩ = some (.int .i64 r.f1)) (ds := [13]) #[false, false, false, false, false, false, false, false, false, false, false, false, false, false] (by kernel_rfl) rfl rfl ⟨hh.1, hh.2.1, hh.2.2.1, hh.2.2.2.1, hh.2.2.2.2⟩ (fun hHeld => ?_)
      have X1 : Aside0 (Below g0 w w1.drew) := ⟨below_drew X0.out⟩
      have G1 := Aside0.mk (blk_drewN G0.out 1)
      rw [show w1.drewN 1 = w1.drew from rfl] at G1
      clear X0 G0 hh
      generalize w1.drew = w2 at *
      refine pure_ (i := 0) (N := (some 14)) (v := ?_) (a' := ?_) #[true, false, false, false, false, false, false, false, false, false, false, false, false, false] rfl rfl (by kernel_rfl) (fun _ _ _ h => h) (Or.inl ⟨by rfl, ?_⟩) ?_ ?_
      rotate_left
      · intro w'
        go_simp
        with_reducible rfl
      rotate_left
      · simp only [Act.put, List.setIfInBounds_toArray, List.set_cons_zero, List.set_cons_succ, i64_w, i32_w]
        rfl
      refine take_ (i := 1) (N := (some 15)) (v := ?_) (a' := ?_) #[true, true, false, false, false, false, false, false, false, false, false, false, false, false] rfl rfl (by kernel_rfl) (fun _ _ _ h => h) (Or.inl ⟨by rfl, ?_⟩) hHeld ?_ ?_
      rotate_left
      · rintro w' ⟨s0, s1, s2, s3, s4⟩
        go_simp
        with_reducible rfl
      rotate_left
      · simp only [Act.put, List.setIfInBounds_toArray, List.set_cons_zero, List.set_cons_succ, i64_w, i32_w]
        rfl
      refine pure_ (i := 2) (N := (some 16)) (v := ?_) (a' := ?_) #[true, true, true, false, false, false, false, false, false, false, false, false, false, false] rfl rfl (by kernel_rfl) (fun _ _ _ h => h) (Or.inl ⟨by rfl, ?_⟩) ?_ ?_
      rotate_left
      · intro w'
        go_simp
        with_reducible rfl
      rotate_left
      · simp only [Act.put, List.setIfInBounds_toArray, List.set_cons_zero, List.set_cons_succ, i64_w, i32_w]
        rfl
      refine pure_ (i := 3) (N := (some 17)) (v := ?_) (a' := ?_) #[true, true, true, true, false, false, false, false, false, false, false, false, false, false] rfl rfl (by kernel_rfl) (fun _ _ _ h => h) (Or.inl ⟨by rfl, ?_⟩) ?_ ?_
      rotate_left
      · intro w'
        go_simp
        with_reducible rfl
      rotate_left
      · simp only [Act.put, List.setIfInBounds_toArray, List.set_cons_zero, List.set_cons_succ, i64_w, i32_w]
        rfl
      refine take_ (i := 4) (N := (some 18)) (v := ?_) (a' := ?_) #[true, true, true, true, true, false, false, false, false, false, false, false, false, false] rfl rfl (by kernel_rfl) (fun _ _ _ h => h) (Or.inl ⟨by rfl, ?_⟩) hHeld ?_ ?_
      rotate_left
      · rintro w' ⟨s0, s1, s2, s3, s4⟩
        go_simp
        with_reducible rfl
      rotate_left
      · simp only [Act.put, List.setIfInBounds_toArray, List.set_cons_zero, List.set_cons_succ, i64_w, i32_w]
        rfl
      refine pure_ (i := 5) (N := (some 19)) (v := ?_) (a' := ?_) #[true, true, true, true, true, true, false, false, false, false, false, false, false, false] rfl rfl (by kernel_rfl) (fun _ _ _ h => h) (Or.inl ⟨by rfl, ?_⟩) ?_ ?_
      rotate_left
      · intro w'
        go_simp
        with_reducible rfl
      rotate_left
      · simp only [Act.put, List.setIfInBounds_toArray, List.set_cons_zero, List.set_cons_succ, i64_w, i32_w]
        rfl
      refine pure_ (i := 6) (N := (some 20)) (v := ?_) (a' := ?_) #[true, true, true, true, true, true, true, false, false, false, false, false, false, false] rfl rfl (by kernel_rfl) (fun _ _ _ h => h) (Or.inl ⟨by rfl, ?_⟩) ?_ ?_
      rotate_left
      · intro w'
        go_simp
        with_reducible rfl
      rotate_left
      · simp only [Act.put, List.setIfInBounds_toArray, List.set_cons_zero, List.set_cons_succ, i64_w, i32_w]
        rfl
      refine take_ (i := 7) (N := (some 21)) (v := ?_) (a' := ?_) #[true, true, true, true, true, true, true, true, false, false, false, false, false, false] rfl rfl (by kernel_rfl) (fun _ _ _ h => h) (Or.inl ⟨by rfl, ?_⟩) hHeld ?_ ?_
      rotate_left
      · rintro w' ⟨s0, s1, s2, s3, s4⟩
        go_simp
        with_reducible rfl
      rotate_left
      · simp only [Act.put, List.setIfInBounds_toArray, List.set_cons_zero, List.set_cons_succ, i64_w, i32_w]
        rfl
      refine pure_ (i := 8) (N := (some 22)) (v := ?_) (a' := ?_) #[true, true, true, true, true, true, true, true, true, false, false, false, false, false] rfl rfl (by kernel_rfl) (fun _ _ _ h => h) (Or.inl ⟨by rfl, ?_⟩) ?_ ?_
      rotate_left
      · intro w'
        go_simp
        with_reducible rfl
      rotate_left
      · simp only [Act.put, List.setIfInBounds_toArray, List.set_cons_zero, List.set_cons_succ, i64_w, i32_w]
        rfl
      refine pure_ (i := 9) (N := (some 23)) (v := ?_) (a' := ?_) #[true, true, true, true, true, true, true, true, true, true, false, false, false, false] rfl rfl (by kernel_rfl) (fun _ _ _ h => h) (Or.inl ⟨by rfl, ?_⟩) ?_ ?_
      rotate_left
      · intro w'
        go_simp
        with_reducible rfl
      rotate_left
      · simp only [Act.put, List.setIfInBounds_toArray, List.set_cons_zero, List.set_cons_succ, i64_w, i32_w]
        rfl
      refine pure_ (i := 10) (N := (some 24)) (v := ?_) (a' := ?_) #[true, true, true, true, true, true, true, true, true, true, true, false, false, false] rfl rfl (by kernel_rfl) (fun _ _ _ h => h) (Or.inl ⟨by rfl, ?_⟩) ?_ ?_
      rotate_left
      · intro w'
        go_simp
        with_reducible rfl
      rotate_left
      · simp only [Act.put, List.setIfInBounds_toArray, List.set_cons_zero, List.set_cons_succ, i64_w, i32_w]
        rfl
      rw [show wrap64 (wrap64 (4 : Int) - 1) = 3 from by decide +kernel, HAND.out]
      have hid : (i : Int) < 4 := by omega
      refine pure_ (i := 11) (N := (some 25)) (v := ?_) (a' := ?_) #[true, true, true, true, true, true, true, true, true, true, true, true, false, false] rfl rfl (by kernel_rfl) (fun _ _ _ h => h) (Or.inl ⟨by rfl, ?_⟩) ?_ ?_
      rotate_left
      · intro w'
        go_simp
        with_reducible rfl
      rotate_left
      · simp only [Act.put, List.setIfInBounds_toArray, List.set_cons_zero, List.set_cons_succ, i64_w, i32_w]
        rfl
      refine take_ (i := 12) (N := (some 26)) (v := ?_) (a' := ?_) #[true, true, true, true, true, true, true, true, true, true, true, true, true, false] rfl rfl (by kernel_rfl) (fun _ _ _ h => h) (Or.inl ⟨by rfl, ?_⟩) hHeld ?_ ?_
      rotate_left
      · rintro w' ⟨s0, s1, s2, s3, s4⟩
        go_simp
        with_reducible rfl
      rotate_left
      · simp only [Act.put, List.setIfInBounds_toArray, List.set_cons_zero, List.set_cons_succ, i64_w, i32_w]
        rfl
      refine last_ (i := 13) (N := none) #[true, true, true, true, true, true, true, true, true, true, true, true, true, true] rfl rfl (by kernel_rfl) (by decide) (fun K hK => ?_)
      have hrc0 := (blk_cell G1.out 0).trans (show _ = some (Value.int .i64 0) from rfl)
      have hrf0 := blk_frozen G1.out 0
      have hb1 := blk_put G1.out 0 (.int .i64 r.f0) rfl
      have hrc1 := (blk_cell hb1 1).trans (show _ = some (Value.int .i64 0) from rfl)
      have hrf1 := blk_frozen hb1 1
      have hb2 := blk_put hb1 1 (.int .i64 r.f1) rfl
      have HB2 := Aside0.mk hb2
      clear hb1 hb2
      refine skip_ (w1 := ?_) (by rfl) rfl ?_ ?_
      rotate_left
      · go_simp
        rfl
      refine hK.out _ _ ?_
      clear hK K
      refine done_ (by kernel_rfl) ?_
      go_wp2_with fail
      refine bodyPost_ret (results_cell_row (fn := Try.f60) rfl _ _ g0 77 #[.int .i64 r.f0, .int .i64 r.f1] (0, 0) _ rfl HB2.out Try.underlying77 rfl (by kernel_rfl)) rfl ?_
      exact ⟨by rw [HROW.out], Below.mono ((X1.out.setCell (Nat.le_refl _) _).setCell (Nat.le_refl _) _) (Nat.le_of_eq HGe.out)⟩
end Go.Proofs.Ytaalafnkglbcpaa.SY
end
