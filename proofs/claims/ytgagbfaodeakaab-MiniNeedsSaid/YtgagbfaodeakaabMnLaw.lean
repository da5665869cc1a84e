/- The law MiniNeeds (function 3), walked by hand. Own text of this claim. -/
import Derived.Test.YtgagbfaodeakaabMnCut
namespace Go.Proofs.Ytgagbfaodeakaab.PMiniNeeds
open Go.RowKit Go.Proofs.YtgagbfaodeakaabW.PrintWords Go.Proofs.YtgagbfaodeakaabW.PrintLast Go.Proofs.YtgagbfaodeakaabW.PrintMore
attribute [local go_sem] max2_int min2_int max_two min_two max_three min_three max_four min_four
set_option linter.unusedVariables false
set_option linter.unusedSimpArgs false
theorem below_isM (x n : Int) (hn : 0 < n) (h16 : n ≤ 1000) : ∃ v, bakemake_Below.f x n = some v ∧ 0 ≤ v ∧ v < n := by
  have h1 := Int.tmod_lt_of_pos x hn
  have h2 := Int.lt_tmod_of_pos x hn
  unfold bakemake_Below.f
  rw [if_neg (by omega)]
  by_cases h : Int.tmod x n < 0
  · rw [if_pos h]
    refine ⟨_, rfl, ?_⟩
    have : wrap64 (Int.tmod x n + n) = Int.tmod x n + n := by unfold wrap64; omega
    omega
  · rw [if_neg h]; exact ⟨_, rfl, by omega, h1⟩
/-- The needed elements in their cell, and the list. -/
structure NInv (w W : World) (gn : Nat) (vn : Value) (need : List Int) (va : Value) (n : Nat) : Prop where
  b : Below w.heap.size w W
  lo : w.heap.size ≤ gn
  g : W.heap[gn]? = some (.cells #[vn] 22 (0, 0))
  rn : Kd.R (Kd.int .i64) 3 W w.heap.size (fun _ => True) vn need
  ra : Kd.R (Kd.int .i64) 3 W w.heap.size (fun k => True ∧ some k ≠ vn.ownBlock) va (upto n)
section
variable {w W W' : World} {gn n : Nat} {vn va v1 : Value} {need need' : List Int}
theorem NInv.below (h : NInv w W gn vn need va n) (hb : Below W.heap.size W W') : NInv w W' gn vn need va n :=
  ⟨below_then h.b h.b.size hb, h.lo, blk_below h.g hb, Kd.R_below h.rn hb, Kd.R_below h.ra hb⟩
theorem NInv.add (h : NInv w W gn vn need va n) (hr : Kd.R (Kd.int .i64) 3 W' w.heap.size (fun _ => True) v1 need') (hg : W.grownBy W' vn.ownBlock) (hat : v1.ownBlock = vn.ownBlock ∨ ∃ b, v1.ownBlock = some b ∧ W.heap.size ≤ b) : NInv w (W'.setCell ⟨gn, 0, none⟩ v1) gn v1 need' va n := by
  have hb := blk_grown h.g hg (Kd.R_ne h.rn h.g (by decide))
  have ty : ∀ {ok : Nat → Prop} {v : Value} {xs : List Int}, Kd.R (Kd.int .i64) 3 W' w.heap.size ok v xs → Kd.R (Kd.int .i64) 3 (W'.setCell ⟨gn, 0, none⟩ v1) w.heap.size ok v xs := fun hh =>
    Kd.R_mono (Kd.R_far (p := ⟨gn, 0, none⟩) (Kd.R_types hh hb (by intro q hq; simp [Kd.int, Kd.scalar] at hq; omega)) (fun k hk => hk.2) v1) (fun k hk => hk.1)
  exact ⟨(h.b.grown hg h.b.size (Kd.R_base h.rn)).setCell (show w.heap.size ≤ gn from h.lo) _, h.lo, blk_put hb 0 _ rfl, ty hr, ty (Kd.R_after h.ra hg hat)⟩
theorem NInv.put (h : NInv w W gn vn need va n) (hr : Kd.R (Kd.int .i64) 3 W' w.heap.size (fun _ => True) v1 need') (hk : Kept W W' (fun k => some k = vn.ownBlock)) (ho : v1.ownBlock = vn.ownBlock) : Below w.heap.size w W' ∧ W'.heap[gn]? = some (.cells #[vn] 22 (0, 0)) ∧ Kd.R (Kd.int .i64) 3 W' w.heap.size (fun _ => True) v1 need' ∧ Kd.R (Kd.int .i64) 3 W' w.heap.size (fun k => True ∧ some k ≠ v1.ownBlock) va (upto n) :=
  ⟨⟨hk.calm.1.trans h.b.os, hk.calm.2.1.trans h.b.tape, hk.calm.2.2.trans h.b.output, Nat.le_trans h.b.size hk.1, fun i hi => (hk.2 i (Nat.lt_of_lt_of_le hi h.b.size) (fun e => by have := Kd.R_base h.rn i e.symm; omega)).trans (h.b.block i hi)⟩, blk_kept h.g hk (fun e => Kd.R_ne h.rn h.g (by decide) e), hr, by rw [ho]; exact Kd.R_kept h.ra hk (fun k hk => hk.2)⟩
theorem NInv.store {vo : Value} (hb : Below w.heap.size w W) (lo : w.heap.size ≤ gn) (hg : W.heap[gn]? = some (.cells #[vo] 22 (0, 0))) (hr : Kd.R (Kd.int .i64) 3 W w.heap.size (fun _ => True) v1 need') (ha : Kd.R (Kd.int .i64) 3 W w.heap.size (fun k => True ∧ some k ≠ v1.ownBlock) va (upto n)) : NInv w (W.setCell ⟨gn, 0, none⟩ v1) gn v1 need' va n := by
  have ty : ∀ {ok : Nat → Prop} {v : Value} {xs : List Int}, Kd.R (Kd.int .i64) 3 W w.heap.size ok v xs → Kd.R (Kd.int .i64) 3 (W.setCell ⟨gn, 0, none⟩ v1) w.heap.size ok v xs := fun hh =>
    Kd.R_mono (Kd.R_far (p := ⟨gn, 0, none⟩) (Kd.R_types hh hg (by intro q hq; simp [Kd.int, Kd.scalar] at hq; omega)) (fun k hk => hk.2) v1) (fun k hk => hk.1)
  exact ⟨hb.setCell (show w.heap.size ≤ gn from lo) _, lo, blk_put hg 0 _ rfl, ty hr, ty ha⟩
end
theorem upto_len (n : Nat) : (upto n).length = n := by unfold upto; simp
theorem upto_set (k n : Nat) (h : k < n) : (upto k ++ List.replicate (n - k) (0 : Int)).set k (k : Int) = upto (k + 1) ++ List.replicate (n - (k + 1)) 0 := by
  obtain ⟨m, hm⟩ : ∃ m, n - k = m + 1 := ⟨n - k - 1, by omega⟩
  rw [hm, show n - (k + 1) = m by omega, List.set_append, if_neg (by rw [upto_len]; omega), upto_len, Nat.sub_self]
  unfold upto
  rw [List.range_succ, List.map_append, List.replicate_succ, List.set_cons_zero]
  simp
set_option maxHeartbeats 8000000 in
set_option maxRecDepth 100000 in
theorem needs_calls (A0 A1 : Option Addr) (c0 c1 : Nat) (l0 l1 : List Int) (w : World) (hr0 : Kd.C (Kd.int .i64) w A0 l0.length l0) (hc0 : l0.length ≤ c0) (hm0 : l0.length ≤ 9223372036854775807) (hr1 : Kd.C (Kd.int .i64) w A1 l1.length l1) (hc1 : l1.length ≤ c1) (hm1 : l1.length ≤ 9223372036854775807) :
    Calls Try.prog 3 #[.slice A0 l0.length c0, .slice A1 l1.length c1] w fun e w' => e = .returned (.bool true) ∧ Below w.heap.size w w' := by
  have HR1 := Aside0.mk hr1
  have HC1 := Aside0.mk hc1
  obtain ⟨nn, hmn, hn1⟩ : ∃ nn : Nat, (if (60 : Int) < (l0.length : Int) then 60 else (l0.length : Int)) = (nn : Int) ∧ nn ≤ 60 := by
    split
    · exact ⟨60, rfl, by omega⟩
    · exact ⟨l0.length, rfl, by omega⟩
  obtain ⟨mm, hmm, hm1', hm2⟩ : ∃ mm : Nat, (if (5 : Int) < (l1.length : Int) then 5 else (l1.length : Int)) = (mm : Int) ∧ mm ≤ 5 ∧ mm ≤ l1.length := by
    split
    · exact ⟨5, rfl, by omega, by omega⟩
    · exact ⟨l1.length, rfl, by omega, by omega⟩
  have HN := Aside0.mk hn1
  have HM := Aside0.mk (And.intro hm1' hm2)
  have HMM := Aside0.mk hmm
  clear hr0 hc0 hr1 hc1 hmm
  go_enter Try.func3, Try.ntmps3
  go_wp2_with ((with_reducible refine gate_dst (N := 16) rfl ?_); refine Kd.R_make (Kd.int .i64) (w0 := w) w.heap.size 3 rfl (N := 16) rfl 22 _ _ rfl (nn : Int) rfl rfl Try.underlying22 (.int .i64 0) 8 info3 rfl (by decide) (by omega) (0 : Int) (ok := fun _ => True) (okp := fun _ => True) rfl (fun _ hk => hk) trivial (by omega) (by rw [Int.toNat_natCast]; omega) (Below.refl _ _) (Nat.le_refl _) ?_; intro v16 w2 ho2 hb2 hg2 hn2; rw [Int.toNat_natCast] at ho2; have HO2 := Aside0.mk ho2; have HB2 := Aside0.mk hb2; obtain ⟨A2, c2, e2⟩ := Kd.R_slice ho2; rw [List.length_replicate] at e2; subst e2; clear ho2 hb2 hg2 hn2)
  clear hmn
  -- HERE
  have hnn : (nn : Int) ≤ 60 := by have := HN.out; omega
  go_loopw [19] (fun v19 wr => ∃ k : Nat, k ≤ nn ∧ v19 = .int .i64 (k : Int) ∧ Aside0 (Kd.R (Kd.int .i64) 3 wr w.heap.size (fun _ => True) (.slice A2 nn c2) (upto k ++ List.replicate (nn - k) 0)) ∧ Aside0 (Below w.heap.size w wr)) (fun v19 _ => nn - (intOf v19).toNat)
  case atStart => exact ⟨0, by omega, rfl, ⟨by simpa [upto] using HO2.out⟩, HB2⟩
  case round =>
    obtain ⟨k, hk, rfl, HO, HB⟩ := hrel
    obtain ⟨w3, rfl⟩ : ∃ w3 : World, w3 = wr := ⟨_, rfl⟩
    clear HO2 HB2
    by_cases hlt : k < nn
    · obtain ⟨g3, c3, e3, hb3, -⟩ := Kd.R_form HO.out (by rw [List.length_append, upto_len, List.length_replicate]; omega)
      injection e3 with e3 e4 e5
      clear e4
      subst e3
      subst e5
      have hcf := Kd.R_celln (0 : Int) HO.out (k : Int) (by omega) (by omega)
      rw [Int.toNat_natCast] at hcf
      have hc3 := hcf.1
      have hf3 := hcf.2
      clear hcf
      have hp3 := Kd.R_putn HO.out (k : Int) (k : Int)
      rw [Int.toNat_natCast, upto_set k nn hlt] at hp3
      have HP3 := Aside0.mk hp3
      have HB3 := Aside0.mk hb3
      clear hp3 hb3
      go_wp2
      go_roundw
      case rel => exact ⟨k + 1, by omega, by go_num, HP3, ⟨HB.out.setCell (show w.heap.size ≤ g3 from HB3.out) _⟩⟩
      case measure => simp [intOf]; omega
    · have hkn : k = nn := by omega
      subst hkn
      have HA : Aside0 (Kd.R (Kd.int .i64) 3 w3 w.heap.size (fun _ => True) (.slice A2 k c2) (upto k)) := ⟨by have h := HO.out; rwa [Nat.sub_self, List.replicate_zero, List.append_nil] at h⟩
      clear HO
      have hmm := HMM.out
      have hx1 : (mm : Int) ≤ (l1.length : Int) := by have := HM.out; omega
      have hx2 : (mm : Int) ≤ (c1 : Int) := by have := HM.out; have := HC1.out; omega
      have hx3 : (mm : Int) ≤ 5 := by have := HM.out; omega
      have B4 := Aside0.mk (below_alloc HB.out (.cells #[.slice none 0 0] 22))
      have A4 := Aside0.mk (Kd.R_alloc HA.out (.cells #[.slice none 0 0] 22))
      have G4 := Aside0.mk (blk_new w3 (.cells #[.slice none 0 0] 22))
      have HG4 := Aside0.mk HB.out.size
      have CR1 := Aside0.mk (Kd.C_take (m := mm) HR1.out (by have := HM.out; omega))
      go_wp2
      clear hmm
      generalize w3.alloc (.cells #[.slice none 0 0] 22) = w4 at *
      generalize w3.heap.size = gn at *
      -- HERE2
      have I4 : Aside0 (NInv w w4 gn (.slice none 0 0) [] (.slice A2 k c2) k) := ⟨⟨B4.out, HG4.out, G4.out, Kd.R_nil _ _ _ _ _, Kd.R_mono A4.out (fun k _ => ⟨trivial, by simp [Value.ownBlock]⟩)⟩⟩
      have HKN := Aside0.mk hnn
      have CRB : Aside0 (∀ W, Below w.heap.size w W → Kd.C (Kd.int .i64) W A1 mm (l1.take mm)) := ⟨fun W h => by
        have h1 := Kd.C_below CR1.out h
        rwa [show (l1.take mm).length = mm by rw [List.length_take]; have := HM.out; omega] at h1⟩
      clear B4 A4 G4 HA HB CR1 hx1 hx2
      go_loopw [33] (fun v33 wr => ∃ (j : Nat) (vn : Value) (need : List Int), j ≤ mm ∧ v33 = .int .i64 (j : Int) ∧ Aside0 (NInv w wr gn vn need (.slice A2 k c2) k) ∧ Aside0 (need.length ≤ j ∧ ∀ x ∈ need, 0 ≤ x ∧ x < (k : Int))) (fun v33 _ => mm - (intOf v33).toNat)
      case atStart => exact ⟨0, _, [], by omega, rfl, I4, ⟨by simp, fun x hx => by cases hx⟩⟩
      case round =>
        obtain ⟨j, vn, need, hj, rfl, IJ, NJ⟩ := hrel
        obtain ⟨w5, rfl⟩ : ∃ w5 : World, w5 = wr := ⟨_, rfl⟩
        clear I4
        obtain ⟨A5, c5, e5⟩ := Kd.R_slice IJ.out.rn
        subst e5
        by_cases hlt : j < mm
        · obtain ⟨a, ea, ha⟩ := Kd.at_int (CRB.out w5 IJ.out.b) (j : Int) (by omega) (by omega)
          subst ea
          rw [Int.toNat_natCast] at ha
          generalize hx : rd (l1.take mm) (j : Int) = x at *
          clear hx
          by_cases hk0 : 0 < k
          · have hkd : decide (0 < k) = true := decide_eq_true hk0
            have hkd2 : decide ((0 : Int) < (k : Int)) = true := decide_eq_true (by omega)
            obtain ⟨bv, hbv, hb0, hb1⟩ := below_isM x (k : Int) (by omega) (by omega)
            have HBV := Aside0.mk hbv
            have HBR := Aside0.mk (And.intro hb0 hb1)
            have HNL := Aside0.mk NJ.out.1
            have HNR := Aside0.mk NJ.out.2
            clear hbv hb0 hb1
            have q5 : w5.cell? ⟨gn, 0, none⟩ = some (.slice A5 need.length c5) := (blk_cell IJ.out.g 0).trans rfl
            go_upto_region 12 with (fail)
            clear hkd hkd2
            refine start_ (n := 8) (S := fun w' => w'.cell? ⟨gn, 0, none⟩ = some (.slice A5 need.length c5)) (ds := [7]) #[false, false, false, false, false, false, false, false] (by kernel_rfl) rfl rfl q5 (fun hHeld => ?_)
            have I6 := Aside0.mk (IJ.out.below (below_drew (Below.refl _ _)))
            clear q5
            generalize w5.drew = w6 at *
            refine pure_ (i := 1) (N := (some 41)) (v := ?_) (a' := ?_) #[false, true, false, false, false, false, false, false] rfl rfl (by kernel_rfl) (fun _ _ _ h => h) (Or.inl ⟨by rfl, ?_⟩) ?_ ?_
            rotate_left
            · intro w'
              go_simp
              with_reducible rfl
            rotate_left
            · simp only [Act.put, List.setIfInBounds_toArray, List.set_cons_zero, List.set_cons_succ, i64_w, i32_w]
              rfl
            refine pure_ (i := 2) (N := (some 42)) (v := ?_) (a' := ?_) #[false, true, true, false, false, false, false, false] rfl rfl (by kernel_rfl) (fun _ _ _ h => h) (Or.inl ⟨by rfl, ?_⟩) ?_ ?_
            rotate_left
            · intro w'
              go_simp
              with_reducible rfl
            rotate_left
            · simp only [Act.put, List.setIfInBounds_toArray, List.set_cons_zero, List.set_cons_succ, i64_w, i32_w]
              rfl
            refine pure_ (i := 3) (N := (some 43)) (v := ?_) (a' := ?_) #[false, true, true, true, false, false, false, false] rfl rfl (by kernel_rfl) (fun _ _ _ h => h) (Or.inl ⟨by rfl, ?_⟩) ?_ ?_
            rotate_left
            · intro w'
              go_simp
              with_reducible rfl
            rotate_left
            · simp only [Act.put, List.setIfInBounds_toArray, List.set_cons_zero, List.set_cons_succ, i64_w, i32_w]
              rfl
            refine take_ (i := 0) (N := (some 40)) (v := ?_) (a' := ?_) #[true, true, true, true, false, false, false, false] rfl rfl (by kernel_rfl) (fun _ _ _ h => h) (Or.inl ⟨by rfl, ?_⟩) hHeld ?_ ?_
            rotate_left
            · rintro w' s0
              go_simp
              with_reducible rfl
            rotate_left
            · simp only [Act.put, List.setIfInBounds_toArray, List.set_cons_zero, List.set_cons_succ, i64_w, i32_w]
              rfl
            refine one_ (i := 4) (N := (some 44)) #[true, true, true, true, true, false, false, false] rfl rfl (by kernel_rfl) (by decide) (fun K hK => ?_)
            refine goes_ Try.func4 (by kernel_rfl) rfl #[.int .i64 x, .int .i64 (k : Int)] (by rfl) rfl rfl (by (try simp only [List.map_toArray, List.map_cons, List.map_nil]); first | done | rfl) ?_
            refine (bakemake_Below.calls x (k : Int) bv w6 HBV.out).mono ?_
            rintro e w7 ⟨rfl, hd⟩
            refine ⟨_, rfl, ?_⟩
            have I7 := Aside0.mk (I6.out.below hd.below)
            clear hd I6
            refine hK.out _ _ ((blk_cell I7.out.g 0).trans rfl) (fun hHeld => ?_)
            clear hK K
            refine norm_ (a' := ?_) ?_ ?_
            rotate_left
            · show Act.put _ (some 44) _ = _
              simp only [Act.put, List.setIfInBounds_toArray, List.set_cons_zero, List.set_cons_succ, i64_w, i32_w]
              rfl
            refine one_ (i := 5) (N := (some 45)) #[true, true, true, true, true, true, false, false] rfl rfl (by kernel_rfl) (by decide) (fun K hK => ?_)
            refine value_ (w1 := ?_) (v := ?_) (by rfl) rfl ?_ ?_
            rotate_left 2
            · go_simp
              constructor
              · rfl
              · rfl
            refine hK.out _ _ ((World.cell?_alloc_lt _ _ _ (World.block_lt_of_cell? _ _ hHeld)).trans hHeld) (fun hHeld => ?_)
            clear hK K
            refine norm_ (a' := ?_) ?_ ?_
            rotate_left
            · show Act.put _ (some 45) _ = _
              simp only [Act.put, List.setIfInBounds_toArray, List.set_cons_zero, List.set_cons_succ, i64_w, i32_w]
              rfl
            refine one_ (i := 6) (N := (some 46)) #[true, true, true, true, true, true, true, false] rfl rfl (by kernel_rfl) (by decide) (fun K hK => ?_)
            refine Kd.R_append_step (Kd.int .i64) (w0 := w7) w.heap.size (by rfl) (.tmp 40) (.tmp 45) 22 3 (.int .i64 0) 8 rfl Try.underlying22 info3 rfl (by decide) (by omega) (.slice A5 need.length c5) need bv [.int .i64 bv] (fun _ => True) (fun _ => False) rfl rfl rfl (fun _ h => h.elim) (fun _ _ => trivial) I7.out.rn (Below.refl _ _) I7.out.b.size (by have := HNL.out; have := HM.out; omega) ?_
            intro v8 w8 ho hb hg hat
            obtain ⟨A8, c8, e8⟩ := Kd.R_slice ho
            rw [List.length_append, List.length_singleton] at e8
            subst e8
            have I8 := Aside0.mk (I7.out.add ho hg hat)
            have g8 := Aside0.mk (blk_grown I7.out.g hg (Kd.R_ne I7.out.rn I7.out.g (by decide)))
            clear ho hb hg hat
            refine hK.out _ _ ((blk_cell g8.out 0).trans rfl) (fun hHeld => ?_)
            clear hK K
            refine norm_ (a' := ?_) ?_ ?_
            rotate_left
            · show Act.put _ (some 46) _ = _
              simp only [Act.put, List.setIfInBounds_toArray, List.set_cons_zero, List.set_cons_succ, i64_w, i32_w]
              rfl
            refine last_ (i := 7) (N := none) #[true, true, true, true, true, true, true, true] rfl rfl (by kernel_rfl) (by decide) (fun K hK => ?_)
            have q8 : w8.cell? ⟨gn, 0, none⟩ = some (.slice A5 need.length c5) := (blk_cell g8.out 0).trans rfl
            have f8 : w8.frozen? ⟨gn, 0, none⟩ = false := blk_frozen g8.out 0
            refine skip_ (w1 := ?_) (by rfl) rfl ?_ ?_
            rotate_left
            · go_simp
              rfl
            refine hK.out _ _ ?_
            clear hK K
            refine done_ (by kernel_rfl) ?_
            clear q8 f8 g8
            generalize w8.setCell ⟨gn, 0, none⟩ (.slice A8 (need.length + 1) c8) = w9 at *
            go_wp2
            go_roundw
            case rel => exact ⟨j + 1, _, need ++ [bv], by omega, by go_num, I8, ⟨by rw [List.length_append, List.length_singleton]; have := HNL.out; omega, fun y hy => by
              rcases List.mem_append.1 hy with hy | hy
              · exact HNR.out y hy
              · rcases List.mem_singleton.1 hy with rfl
                exact HBR.out⟩⟩
            case measure => simp [intOf]; omega
          · have hkd : decide (0 < k) = false := decide_eq_false hk0
            have hkd2 : decide ((0 : Int) < (k : Int)) = false := decide_eq_false (by omega)
            go_wp2
            go_roundw
            case rel => exact ⟨j + 1, _, need, by omega, by go_num, IJ, ⟨by have := NJ.out.1; omega, NJ.out.2⟩⟩
            case measure => simp [intOf]; omega
        · -- HERE3
          have q5 : w5.cell? ⟨gn, 0, none⟩ = some (.slice A5 need.length c5) := (blk_cell IJ.out.g 0).trans rfl
          have HNR := Aside0.mk NJ.out.2
          have HNL : Aside0 (need.length ≤ 5) := ⟨by have := NJ.out.1; have := HM.out; omega⟩
          have C6 := Aside0.mk (sort_calls (.slice A5 need.length c5) need w.heap.size (fun _ => True) w5 IJ.out.rn (by have := HNL.out; omega))
          go_wp2_with fail
          (with_reducible refine C6.out.mono ?_)
          rintro e w6 ⟨rfl, d, hdl, hd, hr6, hk6⟩
          have I6 : Aside0 (NInv w w6 gn (.slice A5 need.length c5) d (.slice A2 k c2) k) := ⟨by
            obtain ⟨h1, h2, h3, h4⟩ := IJ.out.put hr6 hk6 rfl
            exact ⟨h1, IJ.out.lo, h2, h3, h4⟩⟩
          have HD := Aside0.mk hd
          have HDL : Aside0 (d.length ≤ 5) := ⟨by have := HNL.out; omega⟩
          clear hdl hd hr6 hk6 C6 q5
          have q6 : w6.cell? ⟨gn, 0, none⟩ = some (.slice A5 need.length c5) := (blk_cell I6.out.g 0).trans rfl
          have C7 := Aside0.mk (compact_calls (.slice A5 need.length c5) d w.heap.size (fun _ => True) w6 I6.out.rn (by have := HDL.out; omega))
          go_wp2_with fail
          (with_reducible refine C7.out.mono ?_)
          rintro e w7 ⟨v7, rfl, hr7, ho7, hk7⟩
          obtain ⟨h71, h72, h73, h74⟩ := I6.out.put hr7 hk7 ho7
          have HON : Aside0 (Go.Lib.compact d = once need) := ⟨by unfold once; rw [← HD.out]⟩
          rw [HON.out] at h73
          obtain ⟨A7, c7, e7⟩ := Kd.R_slice h73
          subst e7
          have I8 := Aside0.mk (NInv.store h71 I6.out.lo h72 h73 h74)
          have G7 := Aside0.mk h72
          clear hr7 ho7 hk7 h71 h72 h73 h74 C7 q6
          have q7 : w7.cell? ⟨gn, 0, none⟩ = some (.slice A5 need.length c5) := (blk_cell G7.out 0).trans rfl
          have f7 : w7.frozen? ⟨gn, 0, none⟩ = false := blk_frozen G7.out 0
          have HOL : Aside0 ((once need).length ≤ 5) := ⟨by have := once_len need; have := HNL.out; omega⟩
          have huk : (upto k).length = k := upto_len k
          have C9 := Aside0.mk (make_calls (has (once need)) (.func 8) #[] #[.pointer (some ⟨gn, 0, none⟩)] A2 c2 (upto k) (w7.setCell ⟨gn, 0, none⟩ (.slice A7 (once need).length c7))
            (asks_need gn A7 c7 (once need) _ ((blk_cell I8.out.g 0).trans rfl) (fun W' h => (Kd.R_reads' (Kd.R_kept I8.out.rn h (fun _ _ h => h))).2.2) (by have := HOL.out; omega))
            (Kd.R_reads' I8.out.ra).2.2 (fun W' h => (Kd.R_reads' (Kd.R_kept I8.out.ra h (fun _ _ h => h))).2.2) (by have := (Kd.R_reads' I8.out.ra).2.1; rw [huk]; exact this) (by rw [huk]; have := HKN.out; omega) (has_iff.2 fun x hx => upto_mem.2 (HNR.out x ((once_mem need x).1 hx))))
          rw [huk] at C9
          clear huk
          have hmf : ∀ (fn : Fn) (first cap : Array Value) (w : World), (Instr.makeFunc fn first cap).run Try.prog w = .ok (.func fn first cap) w := fun _ _ _ _ => rfl
          go_wp2_with fail
          (with_reducible refine C9.out.mono ?_)
          rintro e w9 ⟨v9, n9, out, rfl, hn9, hr9, hb9, hs9, hP9, hL9⟩
          have ho9 : out = once need := left_is (once_strict need) (upto_strict k) hs9 hP9 hL9
          subst ho9
          have I9 := Aside0.mk (I8.out.below hb9)
          have R9 := Aside0.mk hr9
          clear hn9 hr9 hb9 hs9 hP9 hL9 C9 q7 f7 I8
          obtain ⟨A9, c9, e9⟩ := Kd.R_slice R9.out
          subst e9
          have C10 := Aside0.mk (cut_calls w9)
          go_wp2_with fail
          (with_reducible refine C10.out.mono ?_)
          rintro e w10 ⟨rfl, hb10⟩
          have I10 := Aside0.mk (I9.out.below hb10)
          have R10 := Aside0.mk (Kd.R_below R9.out hb10)
          clear hb10 C10
          have q10 : w10.cell? ⟨gn, 0, none⟩ = some (.slice A7 (once need).length c7) := (blk_cell I10.out.g 0).trans rfl
          obtain ⟨ke, hke⟩ := eq_isM (once need) (by have := HOL.out; omega)
          have C11 := Aside0.mk (slices_Equal_int_int.calls ke A9 c9 (once need) A7 c7 (once need) true w10 (Kd.R_reads' R10.out).2.2 (Kd.R_reads' R10.out).2.1 (Kd.R_reads' I10.out.rn).2.2 (Kd.R_reads' I10.out.rn).2.1 hke)
          clear hke
          go_wp2_with fail
          (with_reducible refine C11.out.mono ?_)
          rintro e w11 ⟨rfl, hd11⟩
          have B11 := Aside0.mk (I10.out.below hd11.below).b
          clear hd11 C11
          go_wp2
          go_ret
          exact ⟨rfl, B11.out⟩
theorem needs_walk (a0 : Option Addr) (len0 cap0 : Nat) (z0 : List Int) (a1 : Option Addr) (len1 cap1 : Nat) (z1 : List Int) (w : World) (w0 : (a0 = none ∧ len0 = 0 ∧ cap0 = 0 ∧ z0 = []) ∨ ∃ x, a0 = some x ∧ len0 ≤ cap0 ∧ cap0 ≤ maxLen ∧ z0.length = cap0 ∧ (∀ i, i < z0.length → w.cell? (x.add i) = some (.int .i64 (z0.getD i 0))) ∧ ∀ n ∈ z0, (Lit.int .i64 n).wf = true)
    (w1 : (a1 = none ∧ len1 = 0 ∧ cap1 = 0 ∧ z1 = []) ∨ ∃ x, a1 = some x ∧ len1 ≤ cap1 ∧ cap1 ≤ maxLen ∧ z1.length = cap1 ∧ (∀ i, i < z1.length → w.cell? (x.add i) = some (.int .i64 (z1.getD i 0))) ∧ ∀ n ∈ z1, (Lit.int .i64 n).wf = true) :
    Calls Try.prog 3 #[.slice a0 len0 cap0, .slice a1 len1 cap1] w fun e w' => e = .returned (.bool true) ∧ Below w.heap.size w w' := by
  obtain ⟨l0, rfl, hr0, hm0, hw0, hc0⟩ := ReadsInt.ofRowC w0
  obtain ⟨l1, rfl, hr1, hm1, hw1, hc1⟩ := ReadsInt.ofRowC w1
  exact needs_calls _ _ _ _ l0 l1 w (Kd.C_of_reads (d := (0 : Int)) (h1 := fun _ => rfl) hr0) hc0 hm0 (Kd.C_of_reads (d := (0 : Int)) (h1 := fun _ => rfl) hr1) hc1 hm1
end Go.Proofs.Ytgagbfaodeakaab.PMiniNeeds
