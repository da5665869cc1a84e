/- The contract of the function LearnBoxes. Own text of this claim. -/
import Derived.Test.YtaalafnkglbcpaaLBAsk
import Derived.Test.YtaalafnkglbcpaaLBLearn
namespace Go.Proofs.Ytaalafnkglbcpaa.PL
open Go.RowKit Go.Proofs.YtaalafnkglbcpaaW.PrintWords Go.Proofs.YtaalafnkglbcpaaW.PrintLast Go.Proofs.YtaalafnkglbcpaaW.PrintMore
set_option linter.unusedVariables false
set_option linter.unusedSimpArgs false

set_option maxHeartbeats 2000000 in
set_option maxRecDepth 100000 in
theorem box_calls (ins outs : Int) (A0 : Option Addr) (c0 n0 : Nat) (w : World) :
    Calls Try.prog 29 #[.agg #[.int .i64 ins, .int .i64 outs, .slice A0 n0 c0]] w fun e w' => e = .returned (.func (.func 57) #[] #[.pointer (some ⟨w.heap.size, 0, none⟩)]) ∧ w'.heap[w.heap.size]? = some (.cells #[.int .i64 ins, .int .i64 outs, .slice A0 n0 c0] 25 (0, 0)) ∧ Below w.heap.size w w' := by
  have hu25 := Try.underlying25
  have hmf : ∀ (fn : Fn) (first cap : Array Value) (w : World), (Instr.makeFunc fn first cap).run Try.prog w = .ok (.func fn first cap) w := fun _ _ _ _ => rfl
  go_enter Try.func29, Try.ntmps29
  go_wp2
  go_ret
  exact ⟨rfl, blk_new _ _, below_alloc (Below.refl _ _) _⟩
end Go.Proofs.Ytaalafnkglbcpaa.PL

namespace Go.Proofs.Ytaalafnkglbcpaa.PL
open Go.RowKit Go.Proofs.YtaalafnkglbcpaaW.PrintWords Go.Proofs.YtaalafnkglbcpaaW.PrintLast Go.Proofs.YtaalafnkglbcpaaW.PrintMore
attribute [local go_sem] max2_int min2_int max_two min_two max_three min_three max_four min_four
set_option linter.unusedVariables false
set_option linter.unusedSimpArgs false
/-- What the law holds: the table, its least table. -/
structure BI (w W : World) (p q : Nat) (ins outs : Int) (v1 : Value) (t : Tab) (v3 : Value) : Prop where
  x : W.heap[p]? = some (.cells #[.int .i64 ins, .int .i64 outs, v1] 25 (0, 0))
  m : W.heap[q]? = some (.cells #[.int .i64 ins, .int .i64 outs, v3] 25 (0, 0))
  s2 : Kd.S (Kd.slice 77 k77) 75 W w.heap.size (fun _ => True) v1 t
  s3 : Kd.S (Kd.slice 77 k77) 75 W w.heap.size (fun _ => True) v3 (minRows t)
  b : Below w.heap.size w W
theorem BI.below {w W W' : World} {p q : Nat} {ins outs : Int} {v1 v3 : Value} {t : Tab} (h : BI w W p q ins outs v1 t v3) (hb : Below W.heap.size W W') : BI w W' p q ins outs v1 t v3 :=
  ⟨blk_below h.x hb, blk_below h.m hb, Kd.S_below h.s2 hb, Kd.S_below h.s3 hb, below_then h.b h.b.size hb⟩
theorem BI.drew {w W : World} {p q : Nat} {ins outs : Int} {v1 v3 : Value} {t : Tab} (h : BI w W p q ins outs v1 t v3) : BI w W.drew p q ins outs v1 t v3 := h.below (below_drew (Below.refl _ _))
theorem BI.reads {w W : World} {p q : Nat} {ins outs : Int} {A1 : Option Addr} {c1 : Nat} {v3 : Value} {t : Tab} (h : BI w W p q ins outs (.slice A1 t.length c1) t v3) : ∀ W', Kept W W' (fun _ => False) → Kd.C (Kd.slice 77 k77) W' A1 t.length t :=
  fun W' hk => (Kd.S_reads' (Kd.S_kept h.s2 hk.old (fun _ _ h => h))).2.2
theorem S_set25 {W : World} {base b i : Nat} {ok : Nat → Prop} {v : Value} {xs : List (List S77)} {cs : Array Value} (h : Kd.S (Kd.slice 77 k77) 75 W base ok v xs) (hb : W.heap[b]? = some (.cells cs 25 (0, 0))) (u : Value) : Kd.S (Kd.slice 77 k77) 75 (W.setCell ⟨b, i, none⟩ u) base ok v xs :=
  Kd.S_mono (Kd.S_far (p := ⟨b, i, none⟩) (Kd.S_types h hb (by intro q hq; simp [Kd.slice, k77, Kd.iso, Kd.pair, Kd.int, Kd.scalar] at hq; omega)) (fun k hk => hk.2) u) (fun k hk => hk.1)
theorem BI.set {w W : World} {p q b i : Nat} {ins outs : Int} {v1 v3 : Value} {t : Tab} {cs : Array Value} (h : BI w W p q ins outs v1 t v3) (hb : W.heap[b]? = some (.cells cs 25 (0, 0))) (h1 : p ≠ b) (h2 : q ≠ b) (lo : w.heap.size ≤ b) (u : Value) : BI w (W.setCell ⟨b, i, none⟩ u) p q ins outs v1 t v3 :=
  ⟨blk_far h.x (p := ⟨b, i, none⟩) h1 u, blk_far h.m (p := ⟨b, i, none⟩) h2 u, S_set25 h.s2 hb u, S_set25 h.s3 hb u, h.b.setCell (show w.heap.size ≤ b from lo) u⟩
theorem min_few {t : Tab} (h : TabR t) : (minRows t).length ≤ t.length := by
  rw [min_len h]
  exact (fin_is h).2.1.le
set_option maxHeartbeats 8000000 in
set_option maxRecDepth 100000 in
theorem boxes_calls (A0 : Option Addr) (c0 : Nat) (l0 : List Int) (more : Int) (w : World) (hr0 : Kd.C (Kd.int .i64) w A0 l0.length l0) (hc0 : l0.length ≤ c0) :
    Calls Try.prog 6 #[.slice A0 l0.length c0, .int .i64 more] w fun e w' => e = .returned (.bool true) ∧ Below w.heap.size w w' := by
  have hu25 := Try.underlying25
  have C0 := Aside0.mk (table_calls A0 c0 l0 w hr0 hc0)
  clear hr0 hc0
  go_enter Try.func6, Try.ntmps6
  go_wp2_with fail
  (with_reducible refine C0.out.mono ?_)
  rintro e w1 ⟨ins, outs, v1, t, rfl, hV, hs1, hb1⟩
  obtain ⟨A1, c1, e1⟩ := Kd.S_slice hs1
  subst e1
  have V := Aside0.mk hV
  have HO := Aside0.mk (valid_ok hV)
  have S1 := Aside0.mk hs1
  have B1 := Aside0.mk hb1
  clear hV hs1 hb1 C0
  have X2 := Aside0.mk (blk_new w1 (.cells #[.int .i64 ins, .int .i64 outs, .slice A1 t.length c1] 25))
  have S2 := Aside0.mk (Kd.S_alloc S1.out (.cells #[.int .i64 ins, .int .i64 outs, .slice A1 t.length c1] 25))
  have B2 := Aside0.mk (below_alloc B1.out (.cells #[.int .i64 ins, .int .i64 outs, .slice A1 t.length c1] 25))
  obtain ⟨kc, hkc⟩ := HO.out.tabOK.1
  have C2 := Aside0.mk (min_calls kc A1 c1 t ins outs (w1.alloc (.cells #[.int .i64 ins, .int .i64 outs, .slice A1 t.length c1] 25)) (Kd.S_reads' S2.out).2.2 (Kd.S_reads' S2.out).2.1 hkc HO.out.tab)
  clear hkc S1 B1
  go_wp2_with fail
  (with_reducible refine C2.out.mono ?_)
  rintro e w3 ⟨v3, rfl, hs3, hb3⟩
  obtain ⟨A3, c3, e3⟩ := Kd.S_slice hs3
  subst e3
  have B3 := Aside0.mk (B2.out.trans (hb3.mono B2.out.size))
  have X3 := Aside0.mk (blk_below X2.out hb3)
  have S23 := Aside0.mk (Kd.S_below S2.out hb3)
  have S33 := Aside0.mk (Kd.S_lower hs3 B2.out.size)
  have I4 : Aside0 (BI w (w3.alloc (.cells #[.int .i64 ins, .int .i64 outs, .slice A3 (minRows t).length c3] 25)) w1.heap.size w3.heap.size ins outs (.slice A1 t.length c1) t (.slice A3 (minRows t).length c3)) := ⟨⟨blk_alloc X3.out _, blk_new _ _, Kd.S_alloc S23.out _, Kd.S_alloc S33.out _, below_alloc B3.out _⟩⟩
  clear hs3 hb3 B3 X3 S23 S33 X2 S2 B2 C2
  have C5 := Aside0.mk (bakekeep3_learned.calls true (w3.alloc (.cells #[.int .i64 ins, .int .i64 outs, .slice A3 (minRows t).length c3] 25)) learned_is)
  go_wp2_with fail
  (with_reducible refine C5.out.mono ?_)
  rintro e w5 ⟨rfl, hb5⟩
  have I5 := Aside0.mk (I4.out.below hb5)
  clear hb5 C5 I4
  have hfew := min_few HO.out.tab
  have hp1 : 1 ≤ (minRows t).length := HO.out.min.n1
  have HFEW := Aside0.mk hfew
  have HP1 := Aside0.mk hp1
  have hl6 : t.length ≤ 6 := V.out.r1
  have x2 : w5.cell? ⟨w1.heap.size, 2, none⟩ = some (.slice A1 t.length c1) := (blk_cell I5.out.x 2).trans rfl
  have m2 : w5.cell? ⟨w3.heap.size, 2, none⟩ = some (.slice A3 (minRows t).length c3) := (blk_cell I5.out.m 2).trans rfl
  have d1 : (((minRows t).length : Int) == 0) = false := beq_eq_false_iff_ne.mpr (by omega)
  have d2 : decide (t.length < (minRows t).length) = false := decide_eq_false (by omega)
  have d3 : decide ((t.length : Int) < ((minRows t).length : Int)) = false := decide_eq_false (by omega)
  have HL6 := Aside0.mk hl6
  clear hp1 hfew hl6
  go_upto_region 5 with (fail)
  clear x2 m2 d1 d2 d3
  obtain ⟨v, hv, hv0, hv1⟩ := below_is more 2 (by decide) (by decide)
  obtain ⟨vn, rfl⟩ : ∃ vn : Nat, v = (vn : Int) := ⟨v.toNat, by omega⟩
  obtain ⟨st, hst, hst1, hst2⟩ : ∃ st : Nat, (if ((minRows t).length : Int) + (vn : Int) < 6 then ((minRows t).length : Int) + (vn : Int) else 6) = (st : Int) ∧ (minRows t).length ≤ st ∧ st ≤ 6 := by
    have h1 := HFEW.out; have h2 := HL6.out
    split
    · exact ⟨(minRows t).length + vn, by omega, by omega, by omega⟩
    · exact ⟨6, rfl, by omega, by omega⟩
  obtain ⟨KN, hK, hK4⟩ : ∃ KN : Nat, shl .i64 1 ins = (KN : Int) ∧ KN ≤ 4 := by
    have h1 := V.out.i0; have h2 := V.out.i1
    have : ins = 1 ∨ ins = 2 := by omega
    rcases this with rfl | rfl
    · exact ⟨2, by decide +kernel, by decide⟩
    · exact ⟨4, by decide +kernel, by decide⟩
  have hadd : wrap64 (((minRows t).length : Int) + (vn : Int)) = ((minRows t).length : Int) + (vn : Int) := by unfold wrap64; have := HFEW.out; have := HL6.out; omega
  have HV := Aside0.mk hv
  have HST := Aside0.mk hst
  have HST1 := Aside0.mk hst1
  have HST2 := Aside0.mk hst2
  have HKK := Aside0.mk hK
  have HK4 := Aside0.mk hK4
  have HADD := Aside0.mk hadd
  clear hv hv0 hv1 hst hst1 hst2 hK hK4 hadd
  refine start_ (n := 22) (S := fun w' => w'.cell? ⟨w1.heap.size, 0, none⟩ = some (.int .i64 ins) ∧ w'.cell? ⟨w1.heap.size, 1, none⟩ = some (.int .i64 outs) ∧ w'.cell? ⟨w1.heap.size, 2, none⟩ = some (.slice A1 t.length c1) ∧ w'.cell? ⟨w3.heap.size, 2, none⟩ = some (.slice A3 (minRows t).length c3)) (ds := []) #[false, false, false, false, false, false, false, false, false, false, false, false, false, false, false, false, false, false, false, false, false, false] (by kernel_rfl) rfl rfl ⟨(blk_cell I5.out.x 0).trans rfl, (blk_cell I5.out.x 1).trans rfl, (blk_cell I5.out.x 2).trans rfl, (blk_cell I5.out.m 2).trans rfl⟩ (fun hHeld => ?_)
  have I6 := Aside0.mk I5.out.drew
  clear I5
  generalize w5.drew = w6 at *
  refine pure_ (i := 0) (N := (some 40)) (v := ?_) (a' := ?_) #[true, false, false, false, false, false, false, false, false, false, false, false, false, false, false, false, false, false, false, false, false, false] rfl rfl (by kernel_rfl) (fun _ _ _ h => h) (Or.inl ⟨by rfl, ?_⟩) ?_ ?_
  rotate_left
  · intro w'
    go_simp
    with_reducible rfl
  rotate_left
  · simp only [Act.put, List.setIfInBounds_toArray, List.set_cons_zero, List.set_cons_succ, i64_w, i32_w]
    rfl
  refine pure_ (i := 2) (N := (some 42)) (v := ?_) (a' := ?_) #[true, false, true, false, false, false, false, false, false, false, false, false, false, false, false, false, false, false, false, false, false, false] rfl rfl (by kernel_rfl) (fun _ _ _ h => h) (Or.inl ⟨by rfl, ?_⟩) ?_ ?_
  rotate_left
  · intro w'
    go_simp
    with_reducible rfl
  rotate_left
  · simp only [Act.put, List.setIfInBounds_toArray, List.set_cons_zero, List.set_cons_succ, i64_w, i32_w]
    rfl
  refine pure_ (i := 4) (N := (some 44)) (v := ?_) (a' := ?_) #[true, false, true, false, true, false, false, false, false, false, false, false, false, false, false, false, false, false, false, false, false, false] rfl rfl (by kernel_rfl) (fun _ _ _ h => h) (Or.inl ⟨by rfl, ?_⟩) ?_ ?_
  rotate_left
  · intro w'
    go_simp
    with_reducible rfl
  rotate_left
  · simp only [Act.put, List.setIfInBounds_toArray, List.set_cons_zero, List.set_cons_succ, i64_w, i32_w]
    rfl
  refine pure_ (i := 7) (N := (some 47)) (v := ?_) (a' := ?_) #[true, false, true, false, true, false, false, true, false, false, false, false, false, false, false, false, false, false, false, false, false, false] rfl rfl (by kernel_rfl) (fun _ _ _ h => h) (Or.inl ⟨by rfl, ?_⟩) ?_ ?_
  rotate_left
  · intro w'
    go_simp
    with_reducible rfl
  rotate_left
  · simp only [Act.put, List.setIfInBounds_toArray, List.set_cons_zero, List.set_cons_succ, i64_w, i32_w]
    rfl
  refine take_ (i := 1) (N := (some 41)) (v := ?_) (a' := ?_) #[true, true, true, false, true, false, false, true, false, false, false, false, false, false, false, false, false, false, false, false, false, false] rfl rfl (by kernel_rfl) (fun _ _ _ h => h) (Or.inl ⟨by rfl, ?_⟩) hHeld ?_ ?_
  rotate_left
  · rintro w' ⟨s0, s1, s2, s3⟩
    go_simp
    with_reducible rfl
  rotate_left
  · simp only [Act.put, List.setIfInBounds_toArray, List.set_cons_zero, List.set_cons_succ, i64_w, i32_w]
    rfl
  refine take_ (i := 3) (N := (some 43)) (v := ?_) (a' := ?_) #[true, true, true, true, true, false, false, true, false, false, false, false, false, false, false, false, false, false, false, false, false, false] rfl rfl (by kernel_rfl) (fun _ _ _ h => h) (Or.inl ⟨by rfl, ?_⟩) hHeld ?_ ?_
  rotate_left
  · rintro w' ⟨s0, s1, s2, s3⟩
    go_simp
    with_reducible rfl
  rotate_left
  · simp only [Act.put, List.setIfInBounds_toArray, List.set_cons_zero, List.set_cons_succ, i64_w, i32_w]
    rfl
  refine take_ (i := 5) (N := (some 45)) (v := ?_) (a' := ?_) #[true, true, true, true, true, true, false, true, false, false, false, false, false, false, false, false, false, false, false, false, false, false] rfl rfl (by kernel_rfl) (fun _ _ _ h => h) (Or.inl ⟨by rfl, ?_⟩) hHeld ?_ ?_
  rotate_left
  · rintro w' ⟨s0, s1, s2, s3⟩
    go_simp
    with_reducible rfl
  rotate_left
  · simp only [Act.put, List.setIfInBounds_toArray, List.set_cons_zero, List.set_cons_succ, i64_w, i32_w]
    rfl
  refine pure_ (i := 6) (N := (some 46)) (v := ?_) (a' := ?_) #[true, true, true, true, true, true, true, true, false, false, false, false, false, false, false, false, false, false, false, false, false, false] rfl rfl (by kernel_rfl) (fun _ _ _ h => h) (Or.inl ⟨by rfl, ?_⟩) ?_ ?_
  rotate_left
  · intro w'
    go_simp
    with_reducible rfl
  rotate_left
  · simp only [Act.put, List.setIfInBounds_toArray, List.set_cons_zero, List.set_cons_succ, i64_w, i32_w]
    rfl
  refine take_ (i := 11) (N := (some 51)) (v := ?_) (a' := ?_) #[true, true, true, true, true, true, true, true, false, false, false, true, false, false, false, false, false, false, false, false, false, false] rfl rfl (by kernel_rfl) (fun _ _ _ h => h) (Or.inl ⟨by rfl, ?_⟩) hHeld ?_ ?_
  rotate_left
  · rintro w' ⟨s0, s1, s2, s3⟩
    go_simp
    with_reducible rfl
  rotate_left
  · simp only [Act.put, List.setIfInBounds_toArray, List.set_cons_zero, List.set_cons_succ, i64_w, i32_w]
    rfl
  refine join_ (σ := Nat × Value × Option Addr × Nat × Int) 3 #[true, true, true, true, true, true, true, true, true, true, true, true, true, true, true, true, true, true, true, false, false, false] (fun s => [(48, .int .i64 (vn : Int)), (49, .int .i64 (((minRows t).length : Int) + (vn : Int))), (50, .int .i64 (st : Int)), (52, s.2.1), (53, .tuple #[.agg #[.int .i64 ins, .int .i64 outs, .slice s.2.2.1 (minRows t).length s.2.2.2.1], .int .i64 s.2.2.2.2, .int .i64 0]), (39, .tuple #[.agg #[.int .i64 ins, .int .i64 outs, .slice s.2.2.1 (minRows t).length s.2.2.2.1], .int .i64 s.2.2.2.2, .int .i64 0]), (54, .agg #[.int .i64 ins, .int .i64 outs, .slice s.2.2.1 (minRows t).length s.2.2.2.1]), (55, .int .i64 s.2.2.2.2), (56, .int .i64 0), (8, .pointer (some ⟨s.1, 0, none⟩))]) (fun s w' => BI w w' w1.heap.size w3.heap.size ins outs (.slice A1 t.length c1) t (.slice A3 (minRows t).length c3) ∧ 0 < s.2.2.2.2 ∧ w'.heap[s.1]? = some (.cells #[.int .i64 0, .int .i64 0, .slice none 0 0] 25 (0, 0)) ∧ w6.heap.size ≤ s.1 ∧ Kd.S (Kd.slice 77 k77) 75 w' w.heap.size (fun _ => True) (.slice s.2.2.1 (minRows t).length s.2.2.2.1) (minRows t)) ?_ ?_
  rotate_left
  · intro hCont
    refine two_ (i := 8) (j := 18) (Ni := (some 48)) (Nj := (some 8)) #[true, true, true, true, true, true, true, true, true, false, false, true, false, false, false, false, false, false, false, false, false, false] #[true, true, true, true, true, true, true, true, false, false, false, true, false, false, false, false, false, false, true, false, false, false] rfl rfl rfl rfl (by kernel_rfl) (by decide) (by decide) (fun K hK => ?_) (fun K hK => ?_)
    · skip
      refine goes_ Try.func12 (by kernel_rfl) rfl #[.int .i64 more, .int .i64 2] (by rfl) rfl rfl (by (try simp only [List.map_toArray, List.map_cons, List.map_nil]); first | done | rfl) ?_
      refine (bakemake_Below.calls more 2 (vn : Int) w6 HV.out).mono ?_
      rintro e wb ⟨rfl, hd⟩
      refine ⟨_, rfl, ?_⟩
      have hbb := hd.below
      have IB_ := Aside0.mk (I6.out.below hbb)
      have LB_ := Aside0.mk (show w6.heap.size ≤ wb.heap.size from Nat.le_trans (by exact Nat.le_refl _) hbb.size)
      clear hd hbb
      refine hK.out _ _ ⟨(blk_cell IB_.out.x 0).trans rfl, (blk_cell IB_.out.x 1).trans rfl, (blk_cell IB_.out.x 2).trans rfl, (blk_cell IB_.out.m 2).trans rfl⟩ (fun hHeld => ?_)
      clear hK K
      refine norm_ (a' := ?_) ?_ ?_
      rotate_left
      · show Act.put _ (some 48) _ = _
        simp only [Act.put, List.setIfInBounds_toArray, List.set_cons_zero, List.set_cons_succ, i64_w, i32_w]
        rfl
      refine pure_ (i := 9) (N := (some 49)) (v := ?_) (a' := ?_) #[true, true, true, true, true, true, true, true, true, true, false, true, false, false, false, false, false, false, false, false, false, false] rfl rfl (by kernel_rfl) (fun _ _ _ h => h) (Or.inl ⟨by rfl, ?_⟩) ?_ ?_
      rotate_left
      · intro w'
        go_simp
        with_reducible rfl
      rotate_left
      · simp only [Act.put, List.setIfInBounds_toArray, List.set_cons_zero, List.set_cons_succ, i64_w, i32_w]
        rfl
      rw [HADD.out]
      refine pure_ (i := 10) (N := (some 50)) (v := ?_) (a' := ?_) #[true, true, true, true, true, true, true, true, true, true, true, true, false, false, false, false, false, false, false, false, false, false] rfl rfl (by kernel_rfl) (fun _ _ _ h => h) (Or.inl ⟨by rfl, ?_⟩) ?_ ?_
      rotate_left
      · intro w'
        go_simp
        with_reducible rfl
      rotate_left
      · simp only [Act.put, List.setIfInBounds_toArray, List.set_cons_zero, List.set_cons_succ, i64_w, i32_w]
        rfl
      rw [HST.out]
      refine two_ (i := 12) (j := 18) (Ni := (some 52)) (Nj := (some 8)) #[true, true, true, true, true, true, true, true, true, true, true, true, true, false, false, false, false, false, false, false, false, false] #[true, true, true, true, true, true, true, true, true, true, true, true, false, false, false, false, false, false, true, false, false, false] rfl rfl rfl rfl (by kernel_rfl) (by decide) (by decide) (fun K hK => ?_) (fun K hK => ?_)
      · skip
        refine goes_ Try.func29 (by kernel_rfl) rfl #[.agg #[.int .i64 ins, .int .i64 outs, .slice A1 t.length c1]] (by rfl) rfl rfl (by (try simp only [List.map_toArray, List.map_cons, List.map_nil]); first | done | rfl) ?_
        refine (box_calls ins outs A1 c1 t.length wb).mono ?_
        rintro e wc ⟨rfl, hG, hbc⟩
        refine ⟨_, rfl, ?_⟩
        have IC_ := Aside0.mk (IB_.out.below hbc)
        have GC_ := Aside0.mk hG
        have LC_ := Aside0.mk (show w6.heap.size ≤ wc.heap.size from Nat.le_trans (by exact LB_.out) hbc.size)
        clear hG hbc
        refine hK.out _ _ ⟨(blk_cell IC_.out.x 0).trans rfl, (blk_cell IC_.out.x 1).trans rfl, (blk_cell IC_.out.x 2).trans rfl, (blk_cell IC_.out.m 2).trans rfl⟩ (fun hHeld => ?_)
        clear hK K
        refine norm_ (a' := ?_) ?_ ?_
        rotate_left
        · show Act.put _ (some 52) _ = _
          simp only [Act.put, List.setIfInBounds_toArray, List.set_cons_zero, List.set_cons_succ, i64_w, i32_w]
          rfl
        refine two_ (i := 13) (j := 18) (Ni := (some 53)) (Nj := (some 8)) #[true, true, true, true, true, true, true, true, true, true, true, true, true, true, false, false, false, false, false, false, false, false] #[true, true, true, true, true, true, true, true, true, true, true, true, true, false, false, false, false, false, true, false, false, false] rfl rfl rfl rfl (by kernel_rfl) (by decide) (by decide) (fun K hK => ?_) (fun K hK => ?_)
        · skip
          refine goes_ Try.func28 (by kernel_rfl) rfl #[.int .i64 ins, .int .i64 outs, .int .i64 (st : Int), .func (.func 57) #[] #[.pointer (some ⟨wb.heap.size, 0, none⟩)]] (by rfl) rfl rfl (by (try simp only [List.map_toArray, List.map_cons, List.map_nil]); first | done | rfl) ?_
          refine (learn_calls t ins outs st KN wb.heap.size A1 c1 wc HO.out HKK.out HK4.out ⟨by have := V.out.i0; omega, V.out.i1⟩ HST2.out HST1.out GC_.out (BI.reads IC_.out) (Kd.S_reads' IC_.out.s2).2.1).mono ?_
          rintro e wd ⟨vd, nn, hnn, rfl, hsd, hbd⟩
          obtain ⟨Ad, cd, ed⟩ := Kd.S_slice hsd
          subst ed
          refine ⟨_, rfl, ?_⟩
          have ID_ := Aside0.mk (IC_.out.below hbd)
          have SD_ := Aside0.mk (Kd.S_lower hsd IC_.out.b.size)
          have ND_ := Aside0.mk hnn
          have LD_ := Aside0.mk (show w6.heap.size ≤ wd.heap.size from Nat.le_trans (by exact LC_.out) hbd.size)
          clear hnn hsd hbd
          refine hK.out _ _ ⟨(blk_cell ID_.out.x 0).trans rfl, (blk_cell ID_.out.x 1).trans rfl, (blk_cell ID_.out.x 2).trans rfl, (blk_cell ID_.out.m 2).trans rfl⟩ (fun hHeld => ?_)
          clear hK K
          refine norm_ (a' := ?_) ?_ ?_
          rotate_left
          · show Act.put _ (some 53) _ = _
            simp only [Act.put, List.setIfInBounds_toArray, List.set_cons_zero, List.set_cons_succ, i64_w, i32_w]
            rfl
          refine pure_ (i := 14) (N := (some 39)) (v := ?_) (a' := ?_) #[true, true, true, true, true, true, true, true, true, true, true, true, true, true, true, false, false, false, false, false, false, false] rfl rfl (by kernel_rfl) (fun _ _ _ h => h) (Or.inl ⟨by rfl, ?_⟩) ?_ ?_
          rotate_left
          · intro w'
            go_simp
            with_reducible rfl
          rotate_left
          · simp only [Act.put, List.setIfInBounds_toArray, List.set_cons_zero, List.set_cons_succ, i64_w, i32_w]
            rfl
          refine pure_ (i := 15) (N := (some 54)) (v := ?_) (a' := ?_) #[true, true, true, true, true, true, true, true, true, true, true, true, true, true, true, true, false, false, false, false, false, false] rfl rfl (by kernel_rfl) (fun _ _ _ h => h) (Or.inl ⟨by rfl, ?_⟩) ?_ ?_
          rotate_left
          · intro w'
            go_simp
            with_reducible rfl
          rotate_left
          · simp only [Act.put, List.setIfInBounds_toArray, List.set_cons_zero, List.set_cons_succ, i64_w, i32_w]
            rfl
          refine pure_ (i := 16) (N := (some 55)) (v := ?_) (a' := ?_) #[true, true, true, true, true, true, true, true, true, true, true, true, true, true, true, true, true, false, false, false, false, false] rfl rfl (by kernel_rfl) (fun _ _ _ h => h) (Or.inl ⟨by rfl, ?_⟩) ?_ ?_
          rotate_left
          · intro w'
            go_simp
            with_reducible rfl
          rotate_left
          · simp only [Act.put, List.setIfInBounds_toArray, List.set_cons_zero, List.set_cons_succ, i64_w, i32_w]
            rfl
          refine pure_ (i := 17) (N := (some 56)) (v := ?_) (a' := ?_) #[true, true, true, true, true, true, true, true, true, true, true, true, true, true, true, true, true, true, false, false, false, false] rfl rfl (by kernel_rfl) (fun _ _ _ h => h) (Or.inl ⟨by rfl, ?_⟩) ?_ ?_
          rotate_left
          · intro w'
            go_simp
            with_reducible rfl
          rotate_left
          · simp only [Act.put, List.setIfInBounds_toArray, List.set_cons_zero, List.set_cons_succ, i64_w, i32_w]
            rfl
          refine one_ (i := 18) (N := (some 8)) #[true, true, true, true, true, true, true, true, true, true, true, true, true, true, true, true, true, true, true, false, false, false] rfl rfl (by kernel_rfl) (by decide) (fun K hK => ?_)
          refine value_ (w1 := ?_) (v := ?_) (by rfl) rfl ?_ ?_
          rotate_left 2
          · go_simp
            constructor
            · rfl
            · rfl
          have I8_ := Aside0.mk (ID_.out.below (below_alloc (Below.refl _ _) (.cells #[.int .i64 0, .int .i64 0, .slice none 0 0] 25)))
          have T8_ := Aside0.mk (blk_new wd (.cells #[.int .i64 0, .int .i64 0, .slice none 0 0] 25))
          have S8_ := Aside0.mk (Kd.S_alloc SD_.out (.cells #[.int .i64 0, .int .i64 0, .slice none 0 0] 25))
          obtain ⟨wa, hwa⟩ : ∃ wa, wa = wd.alloc (.cells #[.int .i64 0, .int .i64 0, .slice none 0 0] 25) := ⟨_, rfl⟩
          rw [← hwa] at I8_ T8_ S8_ ⊢
          obtain ⟨b8, hb8⟩ : ∃ b8, b8 = wd.heap.size := ⟨_, rfl⟩
          have Z8_ : Aside0 (w6.heap.size ≤ b8) := ⟨by rw [hb8]; exact LD_.out⟩
          rw [← hb8] at T8_ ⊢
          have LE_ := Aside0.mk (show w6.heap.size ≤ wa.heap.size from by have h1 := blk_lt T8_.out; have h2 := Z8_.out; omega)
          clear hwa hb8
          refine hK.out _ _ ⟨(blk_cell I8_.out.x 0).trans rfl, (blk_cell I8_.out.x 1).trans rfl, (blk_cell I8_.out.x 2).trans rfl, (blk_cell I8_.out.m 2).trans rfl⟩ (fun hHeld => ?_)
          clear hK K
          refine norm_ (a' := ?_) ?_ ?_
          rotate_left
          · show Act.put _ (some 8) _ = _
            simp only [Act.put, List.setIfInBounds_toArray, List.set_cons_zero, List.set_cons_succ, i64_w, i32_w]
            rfl
          exact norm_ (by simp only [putAll, Act.put, List.setIfInBounds_toArray, List.set_cons_zero, List.set_cons_succ]) (hCont (b8, .func (.func 57) #[] #[.pointer (some ⟨wb.heap.size, 0, none⟩)], Ad, cd, nn) _ ⟨I8_.out, ND_.out, T8_.out, Z8_.out, S8_.out⟩)
        · skip
          refine value_ (w1 := ?_) (v := ?_) (by rfl) rfl ?_ ?_
          rotate_left 2
          · go_simp
            constructor
            · rfl
            · rfl
          have I8_ := Aside0.mk (IC_.out.below (below_alloc (Below.refl _ _) (.cells #[.int .i64 0, .int .i64 0, .slice none 0 0] 25)))
          have T8_ := Aside0.mk (blk_new wc (.cells #[.int .i64 0, .int .i64 0, .slice none 0 0] 25))
          have G8_ := Aside0.mk (blk_alloc GC_.out (.cells #[.int .i64 0, .int .i64 0, .slice none 0 0] 25))
          obtain ⟨wa, hwa⟩ : ∃ wa, wa = wc.alloc (.cells #[.int .i64 0, .int .i64 0, .slice none 0 0] 25) := ⟨_, rfl⟩
          rw [← hwa] at I8_ T8_ G8_ ⊢
          obtain ⟨b8, hb8⟩ : ∃ b8, b8 = wc.heap.size := ⟨_, rfl⟩
          have Z8_ : Aside0 (w6.heap.size ≤ b8) := ⟨by rw [hb8]; exact LC_.out⟩
          rw [← hb8] at T8_ ⊢
          have LE_ := Aside0.mk (show w6.heap.size ≤ wa.heap.size from by have h1 := blk_lt T8_.out; have h2 := Z8_.out; omega)
          clear hwa hb8
          refine hK.out _ _ ⟨(blk_cell I8_.out.x 0).trans rfl, (blk_cell I8_.out.x 1).trans rfl, (blk_cell I8_.out.x 2).trans rfl, (blk_cell I8_.out.m 2).trans rfl⟩ (fun hHeld => ?_)
          clear hK K
          refine norm_ (a' := ?_) ?_ ?_
          rotate_left
          · show Act.put _ (some 8) _ = _
            simp only [Act.put, List.setIfInBounds_toArray, List.set_cons_zero, List.set_cons_succ, i64_w, i32_w]
            rfl
          refine one_ (i := 13) (N := (some 53)) #[true, true, true, true, true, true, true, true, true, true, true, true, true, true, false, false, false, false, true, false, false, false] rfl rfl (by kernel_rfl) (by decide) (fun K hK => ?_)
          refine goes_ Try.func28 (by kernel_rfl) rfl #[.int .i64 ins, .int .i64 outs, .int .i64 (st : Int), .func (.func 57) #[] #[.pointer (some ⟨wb.heap.size, 0, none⟩)]] (by rfl) rfl rfl (by (try simp only [List.map_toArray, List.map_cons, List.map_nil]); first | done | rfl) ?_
          refine (learn_calls t ins outs st KN wb.heap.size A1 c1 wa HO.out HKK.out HK4.out ⟨by have := V.out.i0; omega, V.out.i1⟩ HST2.out HST1.out G8_.out (BI.reads I8_.out) (Kd.S_reads' I8_.out.s2).2.1).mono ?_
          rintro e wd ⟨vd, nn, hnn, rfl, hsd, hbd⟩
          obtain ⟨Ad, cd, ed⟩ := Kd.S_slice hsd
          subst ed
          refine ⟨_, rfl, ?_⟩
          have ID_ := Aside0.mk (I8_.out.below hbd)
          have SD_ := Aside0.mk (Kd.S_lower hsd I8_.out.b.size)
          have ND_ := Aside0.mk hnn
          have LD_ := Aside0.mk (show w6.heap.size ≤ wd.heap.size from Nat.le_trans (by exact LE_.out) hbd.size)
          have TD_ := Aside0.mk (blk_below T8_.out hbd)
          clear hnn hsd hbd
          refine hK.out _ _ ⟨(blk_cell ID_.out.x 0).trans rfl, (blk_cell ID_.out.x 1).trans rfl, (blk_cell ID_.out.x 2).trans rfl, (blk_cell ID_.out.m 2).trans rfl⟩ (fun hHeld => ?_)
          clear hK K
          refine norm_ (a' := ?_) ?_ ?_
          rotate_left
          · show Act.put _ (some 53) _ = _
            simp only [Act.put, List.setIfInBounds_toArray, List.set_cons_zero, List.set_cons_succ, i64_w, i32_w]
            rfl
          refine pure_ (i := 14) (N := (some 39)) (v := ?_) (a' := ?_) #[true, true, true, true, true, true, true, true, true, true, true, true, true, true, true, false, false, false, true, false, false, false] rfl rfl (by kernel_rfl) (fun _ _ _ h => h) (Or.inl ⟨by rfl, ?_⟩) ?_ ?_
          rotate_left
          · intro w'
            go_simp
            with_reducible rfl
          rotate_left
          · simp only [Act.put, List.setIfInBounds_toArray, List.set_cons_zero, List.set_cons_succ, i64_w, i32_w]
            rfl
          refine pure_ (i := 15) (N := (some 54)) (v := ?_) (a' := ?_) #[true, true, true, true, true, true, true, true, true, true, true, true, true, true, true, true, false, false, true, false, false, false] rfl rfl (by kernel_rfl) (fun _ _ _ h => h) (Or.inl ⟨by rfl, ?_⟩) ?_ ?_
          rotate_left
          · intro w'
            go_simp
            with_reducible rfl
          rotate_left
          · simp only [Act.put, List.setIfInBounds_toArray, List.set_cons_zero, List.set_cons_succ, i64_w, i32_w]
            rfl
          refine pure_ (i := 16) (N := (some 55)) (v := ?_) (a' := ?_) #[true, true, true, true, true, true, true, true, true, true, true, true, true, true, true, true, true, false, true, false, false, false] rfl rfl (by kernel_rfl) (fun _ _ _ h => h) (Or.inl ⟨by rfl, ?_⟩) ?_ ?_
          rotate_left
          · intro w'
            go_simp
            with_reducible rfl
          rotate_left
          · simp only [Act.put, List.setIfInBounds_toArray, List.set_cons_zero, List.set_cons_succ, i64_w, i32_w]
            rfl
          refine pure_ (i := 17) (N := (some 56)) (v := ?_) (a' := ?_) #[true, true, true, true, true, true, true, true, true, true, true, true, true, true, true, true, true, true, true, false, false, false] rfl rfl (by kernel_rfl) (fun _ _ _ h => h) (Or.inl ⟨by rfl, ?_⟩) ?_ ?_
          rotate_left
          · intro w'
            go_simp
            with_reducible rfl
          rotate_left
          · simp only [Act.put, List.setIfInBounds_toArray, List.set_cons_zero, List.set_cons_succ, i64_w, i32_w]
            rfl
          exact norm_ (by simp only [putAll, Act.put, List.setIfInBounds_toArray, List.set_cons_zero, List.set_cons_succ]) (hCont (b8, .func (.func 57) #[] #[.pointer (some ⟨wb.heap.size, 0, none⟩)], Ad, cd, nn) _ ⟨ID_.out, ND_.out, TD_.out, Z8_.out, SD_.out⟩)
      · skip
        refine value_ (w1 := ?_) (v := ?_) (by rfl) rfl ?_ ?_
        rotate_left 2
        · go_simp
          constructor
          · rfl
          · rfl
        have I8_ := Aside0.mk (IB_.out.below (below_alloc (Below.refl _ _) (.cells #[.int .i64 0, .int .i64 0, .slice none 0 0] 25)))
        have T8_ := Aside0.mk (blk_new wb (.cells #[.int .i64 0, .int .i64 0, .slice none 0 0] 25))
        obtain ⟨wa, hwa⟩ : ∃ wa, wa = wb.alloc (.cells #[.int .i64 0, .int .i64 0, .slice none 0 0] 25) := ⟨_, rfl⟩
        rw [← hwa] at I8_ T8_  ⊢
        obtain ⟨b8, hb8⟩ : ∃ b8, b8 = wb.heap.size := ⟨_, rfl⟩
        have Z8_ : Aside0 (w6.heap.size ≤ b8) := ⟨by rw [hb8]; exact LB_.out⟩
        rw [← hb8] at T8_ ⊢
        have LE_ := Aside0.mk (show w6.heap.size ≤ wa.heap.size from by have h1 := blk_lt T8_.out; have h2 := Z8_.out; omega)
        clear hwa hb8
        refine hK.out _ _ ⟨(blk_cell I8_.out.x 0).trans rfl, (blk_cell I8_.out.x 1).trans rfl, (blk_cell I8_.out.x 2).trans rfl, (blk_cell I8_.out.m 2).trans rfl⟩ (fun hHeld => ?_)
        clear hK K
        refine norm_ (a' := ?_) ?_ ?_
        rotate_left
        · show Act.put _ (some 8) _ = _
          simp only [Act.put, List.setIfInBounds_toArray, List.set_cons_zero, List.set_cons_succ, i64_w, i32_w]
          rfl
        refine one_ (i := 12) (N := (some 52)) #[true, true, true, true, true, true, true, true, true, true, true, true, true, false, false, false, false, false, true, false, false, false] rfl rfl (by kernel_rfl) (by decide) (fun K hK => ?_)
        refine goes_ Try.func29 (by kernel_rfl) rfl #[.agg #[.int .i64 ins, .int .i64 outs, .slice A1 t.length c1]] (by rfl) rfl rfl (by (try simp only [List.map_toArray, List.map_cons, List.map_nil]); first | done | rfl) ?_
        refine (box_calls ins outs A1 c1 t.length wa).mono ?_
        rintro e wc ⟨rfl, hG, hbc⟩
        refine ⟨_, rfl, ?_⟩
        have IC_ := Aside0.mk (I8_.out.below hbc)
        have GC_ := Aside0.mk hG
        have LC_ := Aside0.mk (show w6.heap.size ≤ wc.heap.size from Nat.le_trans (by exact LE_.out) hbc.size)
        have TC_ := Aside0.mk (blk_below T8_.out hbc)
        clear hG hbc
        refine hK.out _ _ ⟨(blk_cell IC_.out.x 0).trans rfl, (blk_cell IC_.out.x 1).trans rfl, (blk_cell IC_.out.x 2).trans rfl, (blk_cell IC_.out.m 2).trans rfl⟩ (fun hHeld => ?_)
        clear hK K
        refine norm_ (a' := ?_) ?_ ?_
        rotate_left
        · show Act.put _ (some 52) _ = _
          simp only [Act.put, List.setIfInBounds_toArray, List.set_cons_zero, List.set_cons_succ, i64_w, i32_w]
          rfl
        refine one_ (i := 13) (N := (some 53)) #[true, true, true, true, true, true, true, true, true, true, true, true, true, true, false, false, false, false, true, false, false, false] rfl rfl (by kernel_rfl) (by decide) (fun K hK => ?_)
        refine goes_ Try.func28 (by kernel_rfl) rfl #[.int .i64 ins, .int .i64 outs, .int .i64 (st : Int), .func (.func 57) #[] #[.pointer (some ⟨wa.heap.size, 0, none⟩)]] (by rfl) rfl rfl (by (try simp only [List.map_toArray, List.map_cons, List.map_nil]); first | done | rfl) ?_
        refine (learn_calls t ins outs st KN wa.heap.size A1 c1 wc HO.out HKK.out HK4.out ⟨by have := V.out.i0; omega, V.out.i1⟩ HST2.out HST1.out GC_.out (BI.reads IC_.out) (Kd.S_reads' IC_.out.s2).2.1).mono ?_
        rintro e wd ⟨vd, nn, hnn, rfl, hsd, hbd⟩
        obtain ⟨Ad, cd, ed⟩ := Kd.S_slice hsd
        subst ed
        refine ⟨_, rfl, ?_⟩
        have ID_ := Aside0.mk (IC_.out.below hbd)
        have SD_ := Aside0.mk (Kd.S_lower hsd IC_.out.b.size)
        have ND_ := Aside0.mk hnn
        have LD_ := Aside0.mk (show w6.heap.size ≤ wd.heap.size from Nat.le_trans (by exact LC_.out) hbd.size)
        have TD_ := Aside0.mk (blk_below TC_.out hbd)
        clear hnn hsd hbd
        refine hK.out _ _ ⟨(blk_cell ID_.out.x 0).trans rfl, (blk_cell ID_.out.x 1).trans rfl, (blk_cell ID_.out.x 2).trans rfl, (blk_cell ID_.out.m 2).trans rfl⟩ (fun hHeld => ?_)
        clear hK K
        refine norm_ (a' := ?_) ?_ ?_
        rotate_left
        · show Act.put _ (some 53) _ = _
          simp only [Act.put, List.setIfInBounds_toArray, List.set_cons_zero, List.set_cons_succ, i64_w, i32_w]
          rfl
        refine pure_ (i := 14) (N := (some 39)) (v := ?_) (a' := ?_) #[true, true, true, true, true, true, true, true, true, true, true, true, true, true, true, false, false, false, true, false, false, false] rfl rfl (by kernel_rfl) (fun _ _ _ h => h) (Or.inl ⟨by rfl, ?_⟩) ?_ ?_
        rotate_left
        · intro w'
          go_simp
          with_reducible rfl
        rotate_left
        · simp only [Act.put, List.setIfInBounds_toArray, List.set_cons_zero, List.set_cons_succ, i64_w, i32_w]
          rfl
        refine pure_ (i := 15) (N := (some 54)) (v := ?_) (a' := ?_) #[true, true, true, true, true, true, true, true, true, true, true, true, true, true, true, true, false, false, true, false, false, false] rfl rfl (by kernel_rfl) (fun _ _ _ h => h) (Or.inl ⟨by rfl, ?_⟩) ?_ ?_
        rotate_left
        · intro w'
          go_simp
          with_reducible rfl
        rotate_left
        · simp only [Act.put, List.setIfInBounds_toArray, List.set_cons_zero, List.set_cons_succ, i64_w, i32_w]
          rfl
        refine pure_ (i := 16) (N := (some 55)) (v := ?_) (a' := ?_) #[true, true, true, true, true, true, true, true, true, true, true, true, true, true, true, true, true, false, true, false, false, false] rfl rfl (by kernel_rfl) (fun _ _ _ h => h) (Or.inl ⟨by rfl, ?_⟩) ?_ ?_
        rotate_left
        · intro w'
          go_simp
          with_reducible rfl
        rotate_left
        · simp only [Act.put, List.setIfInBounds_toArray, List.set_cons_zero, List.set_cons_succ, i64_w, i32_w]
          rfl
        refine pure_ (i := 17) (N := (some 56)) (v := ?_) (a' := ?_) #[true, true, true, true, true, true, true, true, true, true, true, true, true, true, true, true, true, true, true, false, false, false] rfl rfl (by kernel_rfl) (fun _ _ _ h => h) (Or.inl ⟨by rfl, ?_⟩) ?_ ?_
        rotate_left
        · intro w'
          go_simp
          with_reducible rfl
        rotate_left
        · simp only [Act.put, List.setIfInBounds_toArray, List.set_cons_zero, List.set_cons_succ, i64_w, i32_w]
          rfl
        exact norm_ (by simp only [putAll, Act.put, List.setIfInBounds_toArray, List.set_cons_zero, List.set_cons_succ]) (hCont (b8, .func (.func 57) #[] #[.pointer (some ⟨wa.heap.size, 0, none⟩)], Ad, cd, nn) _ ⟨ID_.out, ND_.out, TD_.out, Z8_.out, SD_.out⟩)
    · skip
      refine value_ (w1 := ?_) (v := ?_) (by rfl) rfl ?_ ?_
      rotate_left 2
      · go_simp
        constructor
        · rfl
        · rfl
      have I8_ := Aside0.mk (I6.out.below (below_alloc (Below.refl _ _) (.cells #[.int .i64 0, .int .i64 0, .slice none 0 0] 25)))
      have T8_ := Aside0.mk (blk_new w6 (.cells #[.int .i64 0, .int .i64 0, .slice none 0 0] 25))
      obtain ⟨wa, hwa⟩ : ∃ wa, wa = w6.alloc (.cells #[.int .i64 0, .int .i64 0, .slice none 0 0] 25) := ⟨_, rfl⟩
      rw [← hwa] at I8_ T8_  ⊢
      obtain ⟨b8, hb8⟩ : ∃ b8, b8 = w6.heap.size := ⟨_, rfl⟩
      have Z8_ : Aside0 (w6.heap.size ≤ b8) := ⟨by rw [hb8]; exact Nat.le_refl _⟩
      rw [← hb8] at T8_ ⊢
      have LE_ := Aside0.mk (show w6.heap.size ≤ wa.heap.size from by have h1 := blk_lt T8_.out; have h2 := Z8_.out; omega)
      clear hwa hb8
      refine hK.out _ _ ⟨(blk_cell I8_.out.x 0).trans rfl, (blk_cell I8_.out.x 1).trans rfl, (blk_cell I8_.out.x 2).trans rfl, (blk_cell I8_.out.m 2).trans rfl⟩ (fun hHeld => ?_)
      clear hK K
      refine norm_ (a' := ?_) ?_ ?_
      rotate_left
      · show Act.put _ (some 8) _ = _
        simp only [Act.put, List.setIfInBounds_toArray, List.set_cons_zero, List.set_cons_succ, i64_w, i32_w]
        rfl
      refine one_ (i := 8) (N := (some 48)) #[true, true, true, true, true, true, true, true, true, false, false, true, false, false, false, false, false, false, true, false, false, false] rfl rfl (by kernel_rfl) (by decide) (fun K hK => ?_)
      refine goes_ Try.func12 (by kernel_rfl) rfl #[.int .i64 more, .int .i64 2] (by rfl) rfl rfl (by (try simp only [List.map_toArray, List.map_cons, List.map_nil]); first | done | rfl) ?_
      refine (bakemake_Below.calls more 2 (vn : Int) wa HV.out).mono ?_
      rintro e wb ⟨rfl, hd⟩
      refine ⟨_, rfl, ?_⟩
      have hbb := hd.below
      have IB_ := Aside0.mk (I8_.out.below hbb)
      have LB_ := Aside0.mk (show w6.heap.size ≤ wb.heap.size from Nat.le_trans (by exact LE_.out) hbb.size)
      have TB_ := Aside0.mk (blk_below T8_.out hbb)
      clear hd hbb
      refine hK.out _ _ ⟨(blk_cell IB_.out.x 0).trans rfl, (blk_cell IB_.out.x 1).trans rfl, (blk_cell IB_.out.x 2).trans rfl, (blk_cell IB_.out.m 2).trans rfl⟩ (fun hHeld => ?_)
      clear hK K
      refine norm_ (a' := ?_) ?_ ?_
      rotate_left
      · show Act.put _ (some 48) _ = _
        simp only [Act.put, List.setIfInBounds_toArray, List.set_cons_zero, List.set_cons_succ, i64_w, i32_w]
        rfl
      refine pure_ (i := 9) (N := (some 49)) (v := ?_) (a' := ?_) #[true, true, true, true, true, true, true, true, true, true, false, true, false, false, false, false, false, false, true, false, false, false] rfl rfl (by kernel_rfl) (fun _ _ _ h => h) (Or.inl ⟨by rfl, ?_⟩) ?_ ?_
      rotate_left
      · intro w'
        go_simp
        with_reducible rfl
      rotate_left
      · simp only [Act.put, List.setIfInBounds_toArray, List.set_cons_zero, List.set_cons_succ, i64_w, i32_w]
        rfl
      rw [HADD.out]
      refine pure_ (i := 10) (N := (some 50)) (v := ?_) (a' := ?_) #[true, true, true, true, true, true, true, true, true, true, true, true, false, false, false, false, false, false, true, false, false, false] rfl rfl (by kernel_rfl) (fun _ _ _ h => h) (Or.inl ⟨by rfl, ?_⟩) ?_ ?_
      rotate_left
      · intro w'
        go_simp
        with_reducible rfl
      rotate_left
      · simp only [Act.put, List.setIfInBounds_toArray, List.set_cons_zero, List.set_cons_succ, i64_w, i32_w]
        rfl
      rw [HST.out]
      refine one_ (i := 12) (N := (some 52)) #[true, true, true, true, true, true, true, true, true, true, true, true, true, false, false, false, false, false, true, false, false, false] rfl rfl (by kernel_rfl) (by decide) (fun K hK => ?_)
      refine goes_ Try.func29 (by kernel_rfl) rfl #[.agg #[.int .i64 ins, .int .i64 outs, .slice A1 t.length c1]] (by rfl) rfl rfl (by (try simp only [List.map_toArray, List.map_cons, List.map_nil]); first | done | rfl) ?_
      refine (box_calls ins outs A1 c1 t.length wb).mono ?_
      rintro e wc ⟨rfl, hG, hbc⟩
      refine ⟨_, rfl, ?_⟩
      have IC_ := Aside0.mk (IB_.out.below hbc)
      have GC_ := Aside0.mk hG
      have LC_ := Aside0.mk (show w6.heap.size ≤ wc.heap.size from Nat.le_trans (by exact LB_.out) hbc.size)
      have TC_ := Aside0.mk (blk_below TB_.out hbc)
      clear hG hbc
      refine hK.out _ _ ⟨(blk_cell IC_.out.x 0).trans rfl, (blk_cell IC_.out.x 1).trans rfl, (blk_cell IC_.out.x 2).trans rfl, (blk_cell IC_.out.m 2).trans rfl⟩ (fun hHeld => ?_)
      clear hK K
      refine norm_ (a' := ?_) ?_ ?_
      rotate_left
      · show Act.put _ (some 52) _ = _
        simp only [Act.put, List.setIfInBounds_toArray, List.set_cons_zero, List.set_cons_succ, i64_w, i32_w]
        rfl
      refine one_ (i := 13) (N := (some 53)) #[true, true, true, true, true, true, true, true, true, true, true, true, true, true, false, false, false, false, true, false, false, false] rfl rfl (by kernel_rfl) (by decide) (fun K hK => ?_)
      refine goes_ Try.func28 (by kernel_rfl) rfl #[.int .i64 ins, .int .i64 outs, .int .i64 (st : Int), .func (.func 57) #[] #[.pointer (some ⟨wb.heap.size, 0, none⟩)]] (by rfl) rfl rfl (by (try simp only [List.map_toArray, List.map_cons, List.map_nil]); first | done | rfl) ?_
      refine (learn_calls t ins outs st KN wb.heap.size A1 c1 wc HO.out HKK.out HK4.out ⟨by have := V.out.i0; omega, V.out.i1⟩ HST2.out HST1.out GC_.out (BI.reads IC_.out) (Kd.S_reads' IC_.out.s2).2.1).mono ?_
      rintro e wd ⟨vd, nn, hnn, rfl, hsd, hbd⟩
      obtain ⟨Ad, cd, ed⟩ := Kd.S_slice hsd
      subst ed
      refine ⟨_, rfl, ?_⟩
      have ID_ := Aside0.mk (IC_.out.below hbd)
      have SD_ := Aside0.mk (Kd.S_lower hsd IC_.out.b.size)
      have ND_ := Aside0.mk hnn
      have LD_ := Aside0.mk (show w6.heap.size ≤ wd.heap.size from Nat.le_trans (by exact LC_.out) hbd.size)
      have TD_ := Aside0.mk (blk_below TC_.out hbd)
      clear hnn hsd hbd
      refine hK.out _ _ ⟨(blk_cell ID_.out.x 0).trans rfl, (blk_cell ID_.out.x 1).trans rfl, (blk_cell ID_.out.x 2).trans rfl, (blk_cell ID_.out.m 2).trans rfl⟩ (fun hHeld => ?_)
      clear hK K
      refine norm_ (a' := ?_) ?_ ?_
      rotate_left
      · show Act.put _ (some 53) _ = _
        simp only [Act.put, List.setIfInBounds_toArray, List.set_cons_zero, List.set_cons_succ, i64_w, i32_w]
        rfl
      refine pure_ (i := 14) (N := (some 39)) (v := ?_) (a' := ?_) #[true, true, true, true, true, true, true, true, true, true, true, true, true, true, true, false, false, false, true, false, false, false] rfl rfl (by kernel_rfl) (fun _ _ _ h => h) (Or.inl ⟨by rfl, ?_⟩) ?_ ?_
      rotate_left
      · intro w'
        go_simp
        with_reducible rfl
      rotate_left
      · simp only [Act.put, List.setIfInBounds_toArray, List.set_cons_zero, List.set_cons_succ, i64_w, i32_w]
        rfl
      refine pure_ (i := 15) (N := (some 54)) (v := ?_) (a' := ?_) #[true, true, true, true, true, true, true, true, true, true, true, true, true, true, true, true, false, false, true, false, false, false] rfl rfl (by kernel_rfl) (fun _ _ _ h => h) (Or.inl ⟨by rfl, ?_⟩) ?_ ?_
      rotate_left
      · intro w'
        go_simp
        with_reducible rfl
      rotate_left
      · simp only [Act.put, List.setIfInBounds_toArray, List.set_cons_zero, List.set_cons_succ, i64_w, i32_w]
        rfl
      refine pure_ (i := 16) (N := (some 55)) (v := ?_) (a' := ?_) #[true, true, true, true, true, true, true, true, true, true, true, true, true, true, true, true, true, false, true, false, false, false] rfl rfl (by kernel_rfl) (fun _ _ _ h => h) (Or.inl ⟨by rfl, ?_⟩) ?_ ?_
      rotate_left
      · intro w'
        go_simp
        with_reducible rfl
      rotate_left
      · simp only [Act.put, List.setIfInBounds_toArray, List.set_cons_zero, List.set_cons_succ, i64_w, i32_w]
        rfl
      refine pure_ (i := 17) (N := (some 56)) (v := ?_) (a' := ?_) #[true, true, true, true, true, true, true, true, true, true, true, true, true, true, true, true, true, true, true, false, false, false] rfl rfl (by kernel_rfl) (fun _ _ _ h => h) (Or.inl ⟨by rfl, ?_⟩) ?_ ?_
      rotate_left
      · intro w'
        go_simp
        with_reducible rfl
      rotate_left
      · simp only [Act.put, List.setIfInBounds_toArray, List.set_cons_zero, List.set_cons_succ, i64_w, i32_w]
        rfl
      exact norm_ (by simp only [putAll, Act.put, List.setIfInBounds_toArray, List.set_cons_zero, List.set_cons_succ]) (hCont (b8, .func (.func 57) #[] #[.pointer (some ⟨wb.heap.size, 0, none⟩)], Ad, cd, nn) _ ⟨ID_.out, ND_.out, TD_.out, Z8_.out, SD_.out⟩)
  rintro ⟨b8, vb, Ad, cd, nn⟩ w9 ⟨i9, n9, t9, z9, s9⟩
  have I9 := Aside0.mk i9
  have N9 := Aside0.mk n9
  have T9 := Aside0.mk t9
  have Z9 := Aside0.mk z9
  have S9 := Aside0.mk s9
  clear i9 n9 t9 z9 s9
  simp only at N9 T9 Z9 S9
  refine norm_ (a' := ?_) ?_ ?_
  rotate_left
  · simp only [putAll, Act.put, List.setIfInBounds_toArray, List.set_cons_zero, List.set_cons_succ]
    rfl
  refine one_ (i := 19) (N := none) #[true, true, true, true, true, true, true, true, true, true, true, true, true, true, true, true, true, true, true, true, false, false] rfl rfl (by kernel_rfl) (by decide) (fun K hK => ?_)
  have hg0 := (blk_cell T9.out 0).trans (show _ = some (Value.int .i64 0) from rfl)
  have hg1 := (blk_cell T9.out 1).trans (show _ = some (Value.int .i64 0) from rfl)
  have hg2 := (blk_cell T9.out 2).trans (show _ = some (Value.slice none 0 0) from rfl)
  have hf0 := blk_frozen T9.out 0
  have hf1 := blk_frozen T9.out 1
  have hf2 := blk_frozen T9.out 2
  refine skip_ (w1 := ?_) (by rfl) rfl ?_ ?_
  rotate_left
  · go_simp
    rfl
  have hp8 : w1.heap.size ≠ b8 := by have h1 := blk_lt I6.out.x; have h2 := Z9.out; omega
  have hq8 : w3.heap.size ≠ b8 := by have h1 := blk_lt I6.out.m; have h2 := Z9.out; omega
  have hlo : w.heap.size ≤ b8 := by have h1 := I6.out.b.size; have h2 := Z9.out; omega
  have T9a := Aside0.mk (blk_put (cs' := #[.int .i64 ins, .int .i64 0, .slice none 0 0]) T9.out 0 (.int .i64 ins) rfl)
  have T9b := Aside0.mk (blk_put (cs' := #[.int .i64 ins, .int .i64 outs, .slice none 0 0]) T9a.out 1 (.int .i64 outs) rfl)
  have T10 := Aside0.mk (blk_put (cs' := #[.int .i64 ins, .int .i64 outs, .slice Ad (minRows t).length cd]) T9b.out 2 (.slice Ad (minRows t).length cd) rfl)
  have I10 := Aside0.mk (((I9.out.set (i := 0) T9.out hp8 hq8 hlo (.int .i64 ins)).set (i := 1) T9a.out hp8 hq8 hlo (.int .i64 outs)).set (i := 2) T9b.out hp8 hq8 hlo (.slice Ad (minRows t).length cd))
  have S10 := Aside0.mk (S_set25 (i := 2) (S_set25 (i := 1) (S_set25 (i := 0) S9.out T9.out (.int .i64 ins)) T9a.out (.int .i64 outs)) T9b.out (.slice Ad (minRows t).length cd))
  clear hg0 hg1 hg2 hf0 hf1 hf2 T9 T9a T9b I9 S9 hp8 hq8 hlo
  generalize ((w9.setCell ⟨b8, 0, none⟩ (.int .i64 ins)).setCell ⟨b8, 1, none⟩ (.int .i64 outs)).setCell ⟨b8, 2, none⟩ (.slice Ad (minRows t).length cd) = w10 at *
  refine hK.out _ _ ⟨(blk_cell I10.out.x 0).trans rfl, (blk_cell I10.out.x 1).trans rfl, (blk_cell I10.out.x 2).trans rfl, (blk_cell I10.out.m 2).trans rfl⟩ (fun hHeld => ?_)
  clear hK K
  refine pure_ (i := 20) (N := (some 9)) (v := ?_) (a' := ?_) #[true, true, true, true, true, true, true, true, true, true, true, true, true, true, true, true, true, true, true, true, true, false] rfl rfl (by kernel_rfl) (fun _ _ _ h => h) (Or.inl ⟨by rfl, ?_⟩) ?_ ?_
  rotate_left
  · intro w'
    go_simp
    with_reducible rfl
  rotate_left
  · simp only [Act.put, List.setIfInBounds_toArray, List.set_cons_zero, List.set_cons_succ, i64_w, i32_w]
    rfl
  refine pure_ (i := 21) (N := (some 10)) (v := ?_) (a' := ?_) #[true, true, true, true, true, true, true, true, true, true, true, true, true, true, true, true, true, true, true, true, true, true] rfl rfl (by kernel_rfl) (fun _ _ _ h => h) (Or.inl ⟨by rfl, ?_⟩) ?_ ?_
  rotate_left
  · intro w'
    go_simp
    with_reducible rfl
  rotate_left
  · simp only [Act.put, List.setIfInBounds_toArray, List.set_cons_zero, List.set_cons_succ, i64_w, i32_w]
    rfl
  refine done_ (by kernel_rfl) ?_
  have x0 : w10.cell? ⟨b8, 0, none⟩ = some (.int .i64 ins) := (blk_cell T10.out 0).trans rfl
  have x1 : w10.cell? ⟨b8, 1, none⟩ = some (.int .i64 outs) := (blk_cell T10.out 1).trans rfl
  have x2 : w10.cell? ⟨b8, 2, none⟩ = some (.slice Ad (minRows t).length cd) := (blk_cell T10.out 2).trans rfl
  have m0 : w10.cell? ⟨w3.heap.size, 0, none⟩ = some (.int .i64 ins) := (blk_cell I10.out.m 0).trans rfl
  have m1 : w10.cell? ⟨w3.heap.size, 1, none⟩ = some (.int .i64 outs) := (blk_cell I10.out.m 1).trans rfl
  have m2 : w10.cell? ⟨w3.heap.size, 2, none⟩ = some (.slice A3 (minRows t).length c3) := (blk_cell I10.out.m 2).trans rfl
  have hnd : decide (0 < nn) = true := decide_eq_true N9.out
  have CS := Aside0.mk (learn_Same.calls ins outs Ad cd (minRows t) ins outs A3 c3 (minRows t) true w10 (Kd.S_reads' S10.out).2.2 (Kd.S_reads' S10.out).2.1 (Kd.S_reads' I10.out.s3).2.2 (Kd.S_reads' I10.out.s3).2.1 (by unfold learn_Same.f; rw [if_pos ⟨rfl, rfl, rfl⟩]))
  clear I6
  go_wp2_with fail
  (with_reducible refine CS.out.mono ?_)
  rintro e w11 ⟨rfl, hb11⟩
  have B11 := Aside0.mk (below_then I10.out.b I10.out.b.size hb11)
  clear hb11
  go_wp2
  go_ret
  exact ⟨rfl, B11.out⟩
theorem boxes_walk (a0 : Option Addr) (len0 cap0 : Nat) (z0 : List Int) (a1 : Int) (w : World) (w0 : (a0 = none ∧ len0 = 0 ∧ cap0 = 0 ∧ z0 = []) ∨ ∃ x, a0 = some x ∧ len0 ≤ cap0 ∧ cap0 ≤ maxLen ∧ z0.length = cap0 ∧ (∀ i, i < z0.length → w.cell? (x.add i) = some (.int .i64 (z0.getD i 0))) ∧ ∀ n ∈ z0, (Lit.int .i64 n).wf = true) :
    Calls Try.prog 6 #[.slice a0 len0 cap0, .int .i64 a1] w fun e w' => e = .returned (.bool true) ∧ Below w.heap.size w w' := by
  obtain ⟨l0, rfl, hr0, hm0, hw0, hc0⟩ := ReadsInt.ofRowC w0
  exact boxes_calls _ _ l0 a1 w (Kd.C_of_reads (d := (0 : Int)) (h1 := fun _ => rfl) hr0) hc0
end Go.Proofs.Ytaalafnkglbcpaa.PL
