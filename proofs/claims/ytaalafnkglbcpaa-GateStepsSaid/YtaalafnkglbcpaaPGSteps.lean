-- An own text of this claim, written by wip/tools/surro.py over the kit's print.
import Derived.Test.YtaalafnkglbcpaaPGx0
import Derived.Test.YtaalafnkglbcpaaPGx1
import Derived.Test.YtaalafnkglbcpaaCircuit
import Derived.Test.YtaalafnkglbcpaaPGx5
import Derived.Test.YtaalafnkglbcpaaPGx6
import Derived.Test.YtaalafnkglbcpaaPGx14
import Derived.Test.YtaalafnkglbcpaaPGx15
import Derived.Test.YtaalafnkglbcpaaPGx16
import Derived.Test.YtaalafnkglbcpaaPGx17
namespace Go.Proofs.Ytaalafnkglbcpaa.PG
open Go.RowKit Go.Proofs.YtaalafnkglbcpaaW.PrintWords Go.Proofs.YtaalafnkglbcpaaW.PrintLast Go.Proofs.YtaalafnkglbcpaaW.PrintMore
attribute [local go_sem] max2_int min2_int max_two min_two max_three min_three max_four min_four   -- for this text's walks alone
set_option linter.unusedVariables false
set_option linter.unusedSimpArgs false

/-! ### bakekeep3_GateSteps: function 4 -/
mutual
def bakekeep3_GateSteps.l0 : Nat → List Int → Int → Int → List Int → List Int → Int → Int → Int → List (S50) → List Int → List Int → List Int → Option (Bool)
  | 0, _, _, _, _, _, _, _, _, _, _, _, _ => none
  | k + 1, x7, x8, x9, x10, x33, x34, x35, x232000, x232001, x232002, x232003, x232004 => if x35 < x34 then (if 0 ≤ x35 then (if x35 < (x33.length : Int) then ((gate_Values.f k x232000 x232001 x232002 x232003 x232004 x9 (rd x33 x35)).bind fun bt243 => (if bt243.2 = 0 then (bakekeep3_GateSteps.j1 k x7 x8 x9 x10 (rd x33 x35) bt243.1 x33 x34 x35 ((bt243.1.length : Int) != (x232001.length : Int)) x232000 x232001 x232002 x232003 x232004) else (bakekeep3_GateSteps.j1 k x7 x8 x9 x10 (rd x33 x35) bt243.1 x33 x34 x35 true x232000 x232001 x232002 x232003 x232004))) else (none)) else (none)) else ((bakekeep3_gated.f k).bind fun t240 => (if t240 = true then (if x8 = 0 then ((slices_Equal_int_int.f k x7 x10).bind fun t241 => (some t241)) else (some false)) else (some false)))
def bakekeep3_GateSteps.j1 : Nat → List Int → Int → Int → List Int → Int → List Int → List Int → Int → Int → Bool → Int → List (S50) → List Int → List Int → List Int → Option (Bool)
  | 0, _, _, _, _, _, _, _, _, _, _, _, _, _, _, _ => none
  | k + 1, x7, x8, x9, x10, x12, x13, x33, x34, x35, x55, x232000, x232001, x232002, x232003, x232004 => if x55 = true then (some false) else (bakekeep3_GateSteps.l1 k x7 x8 x9 x10 x12 x13 0 x33 x34 x35 x232002 (x232002.length : Int) 0 x232000 x232001 x232002 x232003 x232004)
def bakekeep3_GateSteps.l1 : Nat → List Int → Int → Int → List Int → Int → List Int → Int → List Int → Int → Int → List Int → Int → Int → Int → List (S50) → List Int → List Int → List Int → Option (Bool)
  | 0, _, _, _, _, _, _, _, _, _, _, _, _, _, _, _, _, _, _ => none
  | k + 1, x7, x8, x9, x10, x12, x13, x15, x33, x34, x35, x57, x58, x59, x232000, x232001, x232002, x232003, x232004 => if x59 < x58 then (if 0 ≤ x59 then (if x59 < (x57.length : Int) then (if 0 ≤ (rd x57 x59) then (if (rd x57 x59) < (x13.length : Int) then (bakekeep3_GateSteps.l1 k x7 x8 x9 x10 x12 x13 (Go.bits .or .i64 x15 (shl .i64 (rd x13 (rd x57 x59)) x59)) x33 x34 x35 x57 x58 (wrap64 (x59 + 1)) x232000 x232001 x232002 x232003 x232004) else (none)) else (none)) else (none)) else (none)) else ((gate_Step.f k x232000 x232001 x232002 x232003 x232004 x9 x12).bind fun bt249 => (if bt249.1 = x15 then (if x10.length < 17592186044416 then (bakekeep3_GateSteps.l0 k x7 x8 bt249.2 (x10 ++ [bt249.1]) x33 x34 (wrap64 (x35 + 1)) x232000 x232001 x232002 x232003 x232004) else (none)) else (some false)))
end
abbrev CircT := Int × List S50 × List Int × List Int × List Int
def bakekeep3_GateSteps.f (k : Nat) (bt218 : CircT) (l1 : List Int) : Option (Bool) := ((bakekeep3_word.f k l1 bt218.1).bind fun t232 => ((gate_Run.f k bt218.1 bt218.2.1 bt218.2.2.1 bt218.2.2.2.1 bt218.2.2.2.2 t232).bind fun bt235 => ((gate_Start.f k bt218.1 bt218.2.1 bt218.2.2.1 bt218.2.2.2.1 bt218.2.2.2.2).bind fun t239 => (bakekeep3_GateSteps.l0 k bt235.1 bt235.2 t239 ([] : List Int) t232 (t232.length : Int) 0 bt218.1 bt218.2.1 bt218.2.2.1 bt218.2.2.2.1 bt218.2.2.2.2))))
theorem bakekeep3_GateSteps.mono_l : ∀ k, (∀ y0 y1 y2 y3 y4 y5 y6 y7 y8 y9 y10 y11, LeO (bakekeep3_GateSteps.l0 k y0 y1 y2 y3 y4 y5 y6 y7 y8 y9 y10 y11) (bakekeep3_GateSteps.l0 (k + 1) y0 y1 y2 y3 y4 y5 y6 y7 y8 y9 y10 y11)) ∧ (∀ y0 y1 y2 y3 y4 y5 y6 y7 y8 y9 y10 y11 y12 y13 y14, LeO (bakekeep3_GateSteps.j1 k y0 y1 y2 y3 y4 y5 y6 y7 y8 y9 y10 y11 y12 y13 y14) (bakekeep3_GateSteps.j1 (k + 1) y0 y1 y2 y3 y4 y5 y6 y7 y8 y9 y10 y11 y12 y13 y14)) ∧ (∀ y0 y1 y2 y3 y4 y5 y6 y7 y8 y9 y10 y11 y12 y13 y14 y15 y16 y17, LeO (bakekeep3_GateSteps.l1 k y0 y1 y2 y3 y4 y5 y6 y7 y8 y9 y10 y11 y12 y13 y14 y15 y16 y17) (bakekeep3_GateSteps.l1 (k + 1) y0 y1 y2 y3 y4 y5 y6 y7 y8 y9 y10 y11 y12 y13 y14 y15 y16 y17))
  | 0 => ⟨fun _ _ _ _ _ _ _ _ _ _ _ _ r h => by simp [bakekeep3_GateSteps.l0] at h, fun _ _ _ _ _ _ _ _ _ _ _ _ _ _ _ r h => by simp [bakekeep3_GateSteps.j1] at h, fun _ _ _ _ _ _ _ _ _ _ _ _ _ _ _ _ _ _ r h => by simp [bakekeep3_GateSteps.l1] at h⟩
  | k + 1 => by
    obtain ⟨ih0, ih1, ih2⟩ := bakekeep3_GateSteps.mono_l k
    refine ⟨?_, ?_, ?_⟩
    · intro y0 y1 y2 y3 y4 y5 y6 y7 y8 y9 y10 y11
      unfold bakekeep3_GateSteps.l0
      repeat' first
      | (with_reducible exact ih0 _ _ _ _ _ _ _ _ _ _ _ _)
      | (with_reducible exact ih1 _ _ _ _ _ _ _ _ _ _ _ _ _ _ _)
      | (with_reducible exact ih2 _ _ _ _ _ _ _ _ _ _ _ _ _ _ _ _ _ _)
      | (with_reducible exact bakekeep3_gated.mono _)
      | (with_reducible exact bakekeep3_word.mono _ _ _)
      | (with_reducible exact gate_Run.mono _ _ _ _ _ _ _)
      | (with_reducible exact gate_Start.mono _ _ _ _ _ _)
      | (with_reducible exact gate_Step.mono _ _ _ _ _ _ _ _)
      | (with_reducible exact gate_Values.mono _ _ _ _ _ _ _ _)
      | (with_reducible exact slices_Equal_int_int.mono _ _ _)
      | (with_reducible exact LeO.refl _)
      | (with_reducible exact LeO.none _)
      | (with_reducible refine LeO.ite ?_ ?_)
      | (with_reducible refine LeO.bind ?_ (fun _ => ?_))
      | exact ih0 _ _ _ _ _ _ _ _ _ _ _ _
      | exact ih1 _ _ _ _ _ _ _ _ _ _ _ _ _ _ _
      | exact ih2 _ _ _ _ _ _ _ _ _ _ _ _ _ _ _ _ _ _
      | exact bakekeep3_gated.mono _
      | exact bakekeep3_word.mono _ _ _
      | exact gate_Run.mono _ _ _ _ _ _ _
      | exact gate_Start.mono _ _ _ _ _ _
      | exact gate_Step.mono _ _ _ _ _ _ _ _
      | exact gate_Values.mono _ _ _ _ _ _ _ _
      | exact slices_Equal_int_int.mono _ _ _
      | exact LeO.none _
      | refine LeO.ite ?_ ?_
      | refine LeO.bind ?_ (fun _ => ?_)
    · intro y0 y1 y2 y3 y4 y5 y6 y7 y8 y9 y10 y11 y12 y13 y14
      unfold bakekeep3_GateSteps.j1
      repeat' first
      | (with_reducible exact ih0 _ _ _ _ _ _ _ _ _ _ _ _)
      | (with_reducible exact ih1 _ _ _ _ _ _ _ _ _ _ _ _ _ _ _)
      | (with_reducible exact ih2 _ _ _ _ _ _ _ _ _ _ _ _ _ _ _ _ _ _)
      | (with_reducible exact bakekeep3_gated.mono _)
      | (with_reducible exact bakekeep3_word.mono _ _ _)
      | (with_reducible exact gate_Run.mono _ _ _ _ _ _ _)
      | (with_reducible exact gate_Start.mono _ _ _ _ _ _)
      | (with_reducible exact gate_Step.mono _ _ _ _ _ _ _ _)
      | (with_reducible exact gate_Values.mono _ _ _ _ _ _ _ _)
      | (with_reducible exact slices_Equal_int_int.mono _ _ _)
      | (with_reducible exact LeO.refl _)
      | (with_reducible exact LeO.none _)
      | (with_reducible refine LeO.ite ?_ ?_)
      | (with_reducible refine LeO.bind ?_ (fun _ => ?_))
      | exact ih0 _ _ _ _ _ _ _ _ _ _ _ _
      | exact ih1 _ _ _ _ _ _ _ _ _ _ _ _ _ _ _
      | exact ih2 _ _ _ _ _ _ _ _ _ _ _ _ _ _ _ _ _ _
      | exact bakekeep3_gated.mono _
      | exact bakekeep3_word.mono _ _ _
      | exact gate_Run.mono _ _ _ _ _ _ _
      | exact gate_Start.mono _ _ _ _ _ _
      | exact gate_Step.mono _ _ _ _ _ _ _ _
      | exact gate_Values.mono _ _ _ _ _ _ _ _
      | exact slices_Equal_int_int.mono _ _ _
      | exact LeO.none _
      | refine LeO.ite ?_ ?_
      | refine LeO.bind ?_ (fun _ => ?_)
    · intro y0 y1 y2 y3 y4 y5 y6 y7 y8 y9 y10 y11 y12 y13 y14 y15 y16 y17
      unfold bakekeep3_GateSteps.l1
      repeat' first
      | (with_reducible exact ih0 _ _ _ _ _ _ _ _ _ _ _ _)
      | (with_reducible exact ih1 _ _ _ _ _ _ _ _ _ _ _ _ _ _ _)
      | (with_reducible exact ih2 _ _ _ _ _ _ _ _ _ _ _ _ _ _ _ _ _ _)
      | (with_reducible exact bakekeep3_gated.mono _)
      | (with_reducible exact bakekeep3_word.mono _ _ _)
      | (with_reducible exact gate_Run.mono _ _ _ _ _ _ _)
      | (with_reducible exact gate_Start.mono _ _ _ _ _ _)
      | (with_reducible exact gate_Step.mono _ _ _ _ _ _ _ _)
      | (with_reducible exact gate_Values.mono _ _ _ _ _ _ _ _)
      | (with_reducible exact slices_Equal_int_int.mono _ _ _)
      | (with_reducible exact LeO.refl _)
      | (with_reducible exact LeO.none _)
      | (with_reducible refine LeO.ite ?_ ?_)
      | (with_reducible refine LeO.bind ?_ (fun _ => ?_))
      | exact ih0 _ _ _ _ _ _ _ _ _ _ _ _
      | exact ih1 _ _ _ _ _ _ _ _ _ _ _ _ _ _ _
      | exact ih2 _ _ _ _ _ _ _ _ _ _ _ _ _ _ _ _ _ _
      | exact bakekeep3_gated.mono _
      | exact bakekeep3_word.mono _ _ _
      | exact gate_Run.mono _ _ _ _ _ _ _
      | exact gate_Start.mono _ _ _ _ _ _
      | exact gate_Step.mono _ _ _ _ _ _ _ _
      | exact gate_Values.mono _ _ _ _ _ _ _ _
      | exact slices_Equal_int_int.mono _ _ _
      | exact LeO.none _
      | refine LeO.ite ?_ ?_
      | refine LeO.bind ?_ (fun _ => ?_)
theorem bakekeep3_GateSteps.mono : ∀ a0 a1 k, LeO (bakekeep3_GateSteps.f k a0 a1) (bakekeep3_GateSteps.f (k + 1) a0 a1) := by
  intro a0 a1 k
  obtain ⟨ih0, ih1, ih2⟩ := bakekeep3_GateSteps.mono_l k
  unfold bakekeep3_GateSteps.f
  repeat' first
      | (with_reducible exact ih0 _ _ _ _ _ _ _ _ _ _ _ _)
      | (with_reducible exact ih1 _ _ _ _ _ _ _ _ _ _ _ _ _ _ _)
      | (with_reducible exact ih2 _ _ _ _ _ _ _ _ _ _ _ _ _ _ _ _ _ _)
      | (with_reducible exact bakekeep3_gated.mono _)
      | (with_reducible exact bakekeep3_word.mono _ _ _)
      | (with_reducible exact gate_Run.mono _ _ _ _ _ _ _)
      | (with_reducible exact gate_Start.mono _ _ _ _ _ _)
      | (with_reducible exact gate_Step.mono _ _ _ _ _ _ _ _)
      | (with_reducible exact gate_Values.mono _ _ _ _ _ _ _ _)
      | (with_reducible exact slices_Equal_int_int.mono _ _ _)
      | (with_reducible exact LeO.refl _)
      | (with_reducible exact LeO.none _)
      | (with_reducible refine LeO.ite ?_ ?_)
      | (with_reducible refine LeO.bind ?_ (fun _ => ?_))
      | exact ih0 _ _ _ _ _ _ _ _ _ _ _ _
      | exact ih1 _ _ _ _ _ _ _ _ _ _ _ _ _ _ _
      | exact ih2 _ _ _ _ _ _ _ _ _ _ _ _ _ _ _ _ _ _
      | exact bakekeep3_gated.mono _
      | exact bakekeep3_word.mono _ _ _
      | exact gate_Run.mono _ _ _ _ _ _ _
      | exact gate_Start.mono _ _ _ _ _ _
      | exact gate_Step.mono _ _ _ _ _ _ _ _
      | exact gate_Values.mono _ _ _ _ _ _ _ _
      | exact slices_Equal_int_int.mono _ _ _
      | exact LeO.none _
      | refine LeO.ite ?_ ?_
      | refine LeO.bind ?_ (fun _ => ?_)
theorem R_okI {e base : Nat} {W : World} {ok : Nat → Prop} {v : Value} {xs : List Int} (h : Kd.R (Kd.int .i64) e W base Yes v xs) (hok : ∀ k, v.ownBlock = some k → ok k) : Kd.R (Kd.int .i64) e W base ok v xs := ⟨hok, h.2.imp_ (fun _ _ hp => hp)⟩
set_option maxHeartbeats 8000000 in
set_option maxRecDepth 100000 in
theorem bakekeep3_GateSteps.calls (A0 : Option Addr) (c0 : Nat) (l0 : List Int) (A1 : Option Addr) (c1 : Nat) (l1 : List Int) (r : Bool) (w : World) (hr0 : Kd.C (Kd.int .i64) w A0 l0.length l0) (hc0 : l0.length ≤ c0) (hr1 : Kd.C (Kd.int .i64) w A1 l1.length l1) (hc1 : l1.length ≤ c1) (h : ∀ c : CircT, ValidC c.1 c.2.1 c.2.2.1 c.2.2.2.1 c.2.2.2.2 → ∃ k, bakekeep3_GateSteps.f k c l1 = some r) :
    Calls Try.prog 4 #[.slice A0 l0.length c0, .slice A1 l1.length c1] w fun e w' => e = .returned (.bool r) ∧ Below w.heap.size w w' := by
  have hu38 := Try.underlying38
  have HR0 := Aside0.mk hr0
  have HC0 := Aside0.mk hc0
  clear hr0 hc0
  have HR1 := Aside0.mk hr1
  have HC1 := Aside0.mk hc1
  clear hr1 hc1
  have HB := Aside0.mk (Below.refl w.heap.size w)
  go_enter Try.func4, Try.ntmps4
  go_wp2_with fail
  (with_reducible refine (circuit_calls _ _ l0 _ HR0.out HC0.out).mono ?_)
  rintro e w7 ⟨t218, v220, v223, v226, v229, t219, t222, t225, t228, rfl, hV, ho0, ho1, ho2, ho3, ap1, ap2, ap3, hb⟩
  obtain ⟨k, h⟩ := h (t218, t219, t222, t225, t228) hV
  have H : ((bakekeep3_word.f k l1 t218).bind fun t232 => ((gate_Run.f k t218 t219 t222 t225 t228 t232).bind fun bt235 => ((gate_Start.f k t218 t219 t222 t225 t228).bind fun t239 => (bakekeep3_GateSteps.l0 k bt235.1 bt235.2 t239 ([] : List Int) t232 (t232.length : Int) 0 t218 t219 t222 t225 t228)))) = some r := h
  replace H := Option.bind_eq_some_iff.mp H
  obtain ⟨t232, A40, H⟩ := H
  replace H : ((gate_Run.f k t218 t219 t222 t225 t228 t232).bind fun bt235 => ((gate_Start.f k t218 t219 t222 t225 t228).bind fun t239 => (bakekeep3_GateSteps.l0 k bt235.1 bt235.2 t239 ([] : List Int) t232 (t232.length : Int) 0 t218 t219 t222 t225 t228))) = some r := H
  clear h
  have A4 := Aside0.mk A40
  clear A40
  replace H := Option.bind_eq_some_iff.mp H
  obtain ⟨⟨t235, t238⟩, A50, H⟩ := H
  replace H : ((gate_Start.f k t218 t219 t222 t225 t228).bind fun t239 => (bakekeep3_GateSteps.l0 k t235 t238 t239 ([] : List Int) t232 (t232.length : Int) 0 t218 t219 t222 t225 t228)) = some r := H
  have A5 := Aside0.mk A50
  clear A50
  replace H := Option.bind_eq_some_iff.mp H
  obtain ⟨t239, A60, H⟩ := H
  replace H : (bakekeep3_GateSteps.l0 k t235 t238 t239 ([] : List Int) t232 (t232.length : Int) 0 t218 t219 t222 t225 t228) = some r := H
  have A6 := Aside0.mk A60
  clear A60
  have H' := Aside0.mk H
  clear H
  have HO221 := Aside0.mk ho0
  have HO224 : Aside0 (Kd.R (Kd.int .i64) 3 w7 w.heap.size (fun k_ => some k_ ≠ (v226 : Value).ownBlock ∧ some k_ ≠ (v229 : Value).ownBlock) v223 t222) := ⟨R_okI ho1 (fun k hk => ⟨fun e => ap1 k hk e.symm, fun e => ap2 k hk e.symm⟩)⟩
  have HO227 : Aside0 (Kd.R (Kd.int .i64) 3 w7 w.heap.size (fun k_ => some k_ ≠ (v223 : Value).ownBlock ∧ some k_ ≠ (v229 : Value).ownBlock) v226 t225) := ⟨R_okI ho2 (fun k hk => ⟨fun e => ap1 k e.symm hk, fun e => ap3 k hk e.symm⟩)⟩
  have HO230 : Aside0 (Kd.R (Kd.int .i64) 3 w7 w.heap.size (fun k_ => some k_ ≠ (v223 : Value).ownBlock ∧ some k_ ≠ (v226 : Value).ownBlock) v229 t228) := ⟨R_okI ho3 (fun k hk => ⟨fun e => ap2 k e.symm hk, fun e => ap3 k e.symm hk⟩)⟩
  clear HB
  have HB := Aside0.mk hb
  clear hb ho0 ho1 ho2 ho3 ap1 ap2 ap3 hV
  go_wp2_with (first | ((with_reducible refine gate_dst (N := 5) rfl ?_); (try (refine gate_guard (by rfl) ?_; dsimp only)); refine box_event ?hg (N := 5) ?hd (cs := #[.int .i64 0, .slice none 0 0, .slice none 0 0, .slice none 0 0, .slice none 0 0]) (t := 38) ?hr ?_; (case hd => rfl); (case hg => rfl); (case hr => first | (go_simp; done) | (go_simp; rfl)); intro gb231 hg w8 hbox hb; have n0_ := Aside0.mk (Kd.R_below (by (with_reducible repeat (first | apply Kd.R_alloc | apply Kd.R_drewN | apply Kd.R_drew)); exact HO221.out) hb); have n1_ := Aside0.mk (Kd.R_below (by (with_reducible repeat (first | apply Kd.R_alloc | apply Kd.R_drewN | apply Kd.R_drew)); exact HO224.out) hb); have n2_ := Aside0.mk (Kd.R_below (by (with_reducible repeat (first | apply Kd.R_alloc | apply Kd.R_drewN | apply Kd.R_drew)); exact HO227.out) hb); have n3_ := Aside0.mk (Kd.R_below (by (with_reducible repeat (first | apply Kd.R_alloc | apply Kd.R_drewN | apply Kd.R_drew)); exact HO230.out) hb); have n4_ := Aside0.mk (below_step (by repeat (first | (with_reducible first | exact HB.out | apply below_alloc | apply pw_below_drewN | apply below_drew1) | exact HB.out)) hb); have n5_ := Aside0.mk (hbox); have n6_ := Aside0.mk ((by rw [hg]; exact (below_size (by repeat (first | (with_reducible first | exact HB.out | apply below_alloc | apply pw_below_drewN | apply below_drew1) | exact HB.out))) : w.heap.size ≤ gb231)); have n7_ := Aside0.mk ((by rw [hg]; exact (below_size (by repeat (first | (with_reducible first | exact HB.out | apply below_alloc | apply pw_below_drewN | apply below_drew1) | exact HB.out))) : w.heap.size ≤ gb231)); clear HO221; clear HO224; clear HO227; clear HO230; clear HB; have HO221 := n0_; have HO224 := n1_; have HO227 := n2_; have HO230 := n3_; have HB := n4_; have BK231 := n5_; have GW231 := n6_; have GE231 := n7_; clear n0_ n1_ n2_ n3_ n4_ n5_ n6_ n7_; clear hb hbox hg; have hcz9_0 : w8.cell? ⟨gb231, 0, none⟩ = some (.int .i64 0) := (blk_cell BK231.out 0).trans rfl; have hcz9_1 : w8.cell? ⟨gb231, 1, none⟩ = some (.slice none 0 0) := (blk_cell BK231.out 1).trans rfl; have hcz9_2 : w8.cell? ⟨gb231, 2, none⟩ = some (.slice none 0 0) := (blk_cell BK231.out 2).trans rfl; have hcz9_3 : w8.cell? ⟨gb231, 3, none⟩ = some (.slice none 0 0) := (blk_cell BK231.out 3).trans rfl; have hcz9_4 : w8.cell? ⟨gb231, 4, none⟩ = some (.slice none 0 0) := (blk_cell BK231.out 4).trans rfl; have hfz9_0 := blk_frozen BK231.out 0; have hfz9_1 := blk_frozen BK231.out 1; have hfz9_2 := blk_frozen BK231.out 2; have hfz9_3 := blk_frozen BK231.out 3; have hfz9_4 := blk_frozen BK231.out 4; obtain ⟨Ao10, co10, eo10⟩ := Kd.R_slice HO221.out; subst eo10; obtain ⟨Ao11, co11, eo11⟩ := Kd.R_slice HO224.out; subst eo11; obtain ⟨Ao12, co12, eo12⟩ := Kd.R_slice HO227.out; subst eo12; obtain ⟨Ao13, co13, eo13⟩ := Kd.R_slice HO230.out; subst eo13) | ((with_reducible refine gate_callee (f := 19) rfl ?_); refine goesL_ (some 24) rfl rfl Try.func19 (by kernel_rfl) rfl #[.slice A1 l1.length c1, .int .i64 t218] rfl (by (try simp only [List.map_toArray, List.map_cons, List.map_nil]); first | done | rfl | (simp only [List.length_drop, List.length_take]; rfl)) ?_; (with_reducible refine (bakekeep3_word.calls k _ _ l1 t218 t232 _ ?side1 ?side2 A4.out).mono ?_); (case side1 => exact Kd.C_below HR1.out (by repeat (first | (with_reducible first | exact HB.out | apply below_alloc | apply pw_below_drewN | apply below_drew1 | refine below_set ?_ GE231.out) | exact HB.out))); (case side2 => exact HC1.out); rintro e w14 ⟨v233, rfl, ho0, hb⟩; refine ⟨_, rfl, ?_⟩; have n0_ := Aside0.mk (Kd.R_below (by (with_reducible repeat (first | apply Kd.R_alloc | apply Kd.R_drewN | apply Kd.R_drew)); exact (Kd.R_mono (Kd.R_far (p := ⟨gb231, 4, none⟩) (Kd.R_far (p := ⟨gb231, 3, none⟩) (Kd.R_far (p := ⟨gb231, 2, none⟩) (Kd.R_far (p := ⟨gb231, 1, none⟩) (Kd.R_far (p := ⟨gb231, 0, none⟩) (Kd.R_types HO221.out BK231.out (by decide)) (fun _ hk => hk.2) (.int .i64 t218)) (fun _ hk => hk.2) (.slice Ao10 t219.length co10)) (fun _ hk => hk.2) (.slice Ao11 t222.length co11)) (fun _ hk => hk.2) (.slice Ao12 t225.length co12)) (fun _ hk => hk.2) (.slice Ao13 t228.length co13)) (fun _ h_ => h_.1))) hb); have n1_ := Aside0.mk (Kd.R_elder' (by (with_reducible repeat (first | apply Kd.R_alloc | apply Kd.R_drewN | apply Kd.R_drew)); exact (Kd.R_mono (Kd.R_far (p := ⟨gb231, 4, none⟩) (Kd.R_far (p := ⟨gb231, 3, none⟩) (Kd.R_far (p := ⟨gb231, 2, none⟩) (Kd.R_far (p := ⟨gb231, 1, none⟩) (Kd.R_far (p := ⟨gb231, 0, none⟩) (Kd.R_types HO224.out BK231.out (by decide)) (fun _ hk => hk.2) (.int .i64 t218)) (fun _ hk => hk.2) (.slice Ao10 t219.length co10)) (fun _ hk => hk.2) (.slice Ao11 t222.length co11)) (fun _ hk => hk.2) (.slice Ao12 t225.length co12)) (fun _ hk => hk.2) (.slice Ao13 t228.length co13)) (fun _ h_ => h_.1))) (Kd.R_base ho0) hb); have n2_ := Aside0.mk (Kd.R_elder' (by (with_reducible repeat (first | apply Kd.R_alloc | apply Kd.R_drewN | apply Kd.R_drew)); exact (Kd.R_mono (Kd.R_far (p := ⟨gb231, 4, none⟩) (Kd.R_far (p := ⟨gb231, 3, none⟩) (Kd.R_far (p := ⟨gb231, 2, none⟩) (Kd.R_far (p := ⟨gb231, 1, none⟩) (Kd.R_far (p := ⟨gb231, 0, none⟩) (Kd.R_types HO227.out BK231.out (by decide)) (fun _ hk => hk.2) (.int .i64 t218)) (fun _ hk => hk.2) (.slice Ao10 t219.length co10)) (fun _ hk => hk.2) (.slice Ao11 t222.length co11)) (fun _ hk => hk.2) (.slice Ao12 t225.length co12)) (fun _ hk => hk.2) (.slice Ao13 t228.length co13)) (fun _ h_ => h_.1))) (Kd.R_base ho0) hb); have n3_ := Aside0.mk (Kd.R_elder' (by (with_reducible repeat (first | apply Kd.R_alloc | apply Kd.R_drewN | apply Kd.R_drew)); exact (Kd.R_mono (Kd.R_far (p := ⟨gb231, 4, none⟩) (Kd.R_far (p := ⟨gb231, 3, none⟩) (Kd.R_far (p := ⟨gb231, 2, none⟩) (Kd.R_far (p := ⟨gb231, 1, none⟩) (Kd.R_far (p := ⟨gb231, 0, none⟩) (Kd.R_types HO230.out BK231.out (by decide)) (fun _ hk => hk.2) (.int .i64 t218)) (fun _ hk => hk.2) (.slice Ao10 t219.length co10)) (fun _ hk => hk.2) (.slice Ao11 t222.length co11)) (fun _ hk => hk.2) (.slice Ao12 t225.length co12)) (fun _ hk => hk.2) (.slice Ao13 t228.length co13)) (fun _ h_ => h_.1))) (Kd.R_base ho0) hb); have n4_ := Aside0.mk (Kd.R_lower (Kd.R_new' (Kd.R_new' (Kd.R_new' ho0 (Kd.R_lt (by (with_reducible repeat (first | apply Kd.R_alloc | apply Kd.R_drewN | apply Kd.R_drew)); exact (Kd.R_mono (Kd.R_far (p := ⟨gb231, 4, none⟩) (Kd.R_far (p := ⟨gb231, 3, none⟩) (Kd.R_far (p := ⟨gb231, 2, none⟩) (Kd.R_far (p := ⟨gb231, 1, none⟩) (Kd.R_far (p := ⟨gb231, 0, none⟩) (Kd.R_types HO224.out BK231.out (by decide)) (fun _ hk => hk.2) (.int .i64 t218)) (fun _ hk => hk.2) (.slice Ao10 t219.length co10)) (fun _ hk => hk.2) (.slice Ao11 t222.length co11)) (fun _ hk => hk.2) (.slice Ao12 t225.length co12)) (fun _ hk => hk.2) (.slice Ao13 t228.length co13)) (fun _ h_ => h_.1))))) (Kd.R_lt (by (with_reducible repeat (first | apply Kd.R_alloc | apply Kd.R_drewN | apply Kd.R_drew)); exact (Kd.R_mono (Kd.R_far (p := ⟨gb231, 4, none⟩) (Kd.R_far (p := ⟨gb231, 3, none⟩) (Kd.R_far (p := ⟨gb231, 2, none⟩) (Kd.R_far (p := ⟨gb231, 1, none⟩) (Kd.R_far (p := ⟨gb231, 0, none⟩) (Kd.R_types HO227.out BK231.out (by decide)) (fun _ hk => hk.2) (.int .i64 t218)) (fun _ hk => hk.2) (.slice Ao10 t219.length co10)) (fun _ hk => hk.2) (.slice Ao11 t222.length co11)) (fun _ hk => hk.2) (.slice Ao12 t225.length co12)) (fun _ hk => hk.2) (.slice Ao13 t228.length co13)) (fun _ h_ => h_.1))))) (Kd.R_lt (by (with_reducible repeat (first | apply Kd.R_alloc | apply Kd.R_drewN | apply Kd.R_drew)); exact (Kd.R_mono (Kd.R_far (p := ⟨gb231, 4, none⟩) (Kd.R_far (p := ⟨gb231, 3, none⟩) (Kd.R_far (p := ⟨gb231, 2, none⟩) (Kd.R_far (p := ⟨gb231, 1, none⟩) (Kd.R_far (p := ⟨gb231, 0, none⟩) (Kd.R_types HO230.out BK231.out (by decide)) (fun _ hk => hk.2) (.int .i64 t218)) (fun _ hk => hk.2) (.slice Ao10 t219.length co10)) (fun _ hk => hk.2) (.slice Ao11 t222.length co11)) (fun _ hk => hk.2) (.slice Ao12 t225.length co12)) (fun _ hk => hk.2) (.slice Ao13 t228.length co13)) (fun _ h_ => h_.1))))) (below_size (by repeat (first | (with_reducible first | exact HB.out | apply below_alloc | apply pw_below_drewN | apply below_drew1 | refine below_set ?_ GE231.out) | exact HB.out)))); have n5_ := Aside0.mk (blk_below (g := gb231) (o := .cells #[.int .i64 t218, .slice Ao10 t219.length co10, .slice Ao11 t222.length co11, .slice Ao12 t225.length co12, .slice Ao13 t228.length co13] 38 (0, 0)) (by (with_reducible repeat (first | refine blk_drewN ?_ _ | refine blk_drew ?_ | refine blk_alloc ?_ _)); refine blk_put (cs := #[.int .i64 t218, .slice Ao10 t219.length co10, .slice Ao11 t222.length co11, .slice Ao12 t225.length co12, .slice none 0 0]) ?_ 4 _ rfl; (with_reducible repeat (first | refine blk_drewN ?_ _ | refine blk_drew ?_ | refine blk_alloc ?_ _)); refine blk_put (cs := #[.int .i64 t218, .slice Ao10 t219.length co10, .slice Ao11 t222.length co11, .slice none 0 0, .slice none 0 0]) ?_ 3 _ rfl; (with_reducible repeat (first | refine blk_drewN ?_ _ | refine blk_drew ?_ | refine blk_alloc ?_ _)); refine blk_put (cs := #[.int .i64 t218, .slice Ao10 t219.length co10, .slice none 0 0, .slice none 0 0, .slice none 0 0]) ?_ 2 _ rfl; (with_reducible repeat (first | refine blk_drewN ?_ _ | refine blk_drew ?_ | refine blk_alloc ?_ _)); refine blk_put (cs := #[.int .i64 t218, .slice none 0 0, .slice none 0 0, .slice none 0 0, .slice none 0 0]) ?_ 1 _ rfl; (with_reducible repeat (first | refine blk_drewN ?_ _ | refine blk_drew ?_ | refine blk_alloc ?_ _)); refine blk_put (cs := #[.int .i64 0, .slice none 0 0, .slice none 0 0, .slice none 0 0, .slice none 0 0]) ?_ 0 _ rfl; (with_reducible repeat (first | refine blk_drewN ?_ _ | refine blk_drew ?_ | refine blk_alloc ?_ _)); exact BK231.out) hb); have n6_ := Aside0.mk (below_step (by repeat (first | (with_reducible first | exact HB.out | apply below_alloc | apply pw_below_drewN | apply below_drew1 | refine below_set ?_ GE231.out) | exact HB.out)) hb); clear HO221; clear HO224; clear HO227; clear HO230; clear BK231; clear HB; have HO221 := n0_; have HO224 := n1_; have HO227 := n2_; have HO230 := n3_; have HO234 := n4_; have BK231 := n5_; have HB := n6_; clear n0_ n1_ n2_ n3_ n4_ n5_ n6_; (try clear hb); (try clear hb2); (try clear hk); (try clear hi); (try clear ho0); have hcz15_0 : w14.cell? ⟨gb231, 0, none⟩ = some (.int .i64 t218) := (blk_cell BK231.out 0).trans rfl; have hcz15_1 : w14.cell? ⟨gb231, 1, none⟩ = some (.slice Ao10 t219.length co10) := (blk_cell BK231.out 1).trans rfl; have hcz15_2 : w14.cell? ⟨gb231, 2, none⟩ = some (.slice Ao11 t222.length co11) := (blk_cell BK231.out 2).trans rfl; have hcz15_3 : w14.cell? ⟨gb231, 3, none⟩ = some (.slice Ao12 t225.length co12) := (blk_cell BK231.out 3).trans rfl; have hcz15_4 : w14.cell? ⟨gb231, 4, none⟩ = some (.slice Ao13 t228.length co13) := (blk_cell BK231.out 4).trans rfl; have hfz15_0 := blk_frozen BK231.out 0; have hfz15_1 := blk_frozen BK231.out 1; have hfz15_2 := blk_frozen BK231.out 2; have hfz15_3 := blk_frozen BK231.out 3; have hfz15_4 := blk_frozen BK231.out 4; obtain ⟨Ao16, co16, eo16⟩ := Kd.R_slice HO234.out; subst eo16) | ((with_reducible refine gate_callee (f := 20) rfl ?_); refine goesL_ (some 28) rfl rfl Try.func20 (by kernel_rfl) rfl #[.agg #[.int .i64 t218, .slice Ao10 t219.length co10, .slice Ao11 t222.length co11, .slice Ao12 t225.length co12, .slice Ao13 t228.length co13], .slice Ao16 t232.length co16] rfl (by (try simp only [List.map_toArray, List.map_cons, List.map_nil]); first | done | rfl | (simp only [List.length_drop, List.length_take]; rfl)) ?_; (with_reducible refine (gate_Run.calls k t218 _ _ t219 _ _ t222 _ _ t225 _ _ t228 _ _ t232 t235 t238 _ ?side1 ?side2 ?side3 ?side4 ?side5 ?side6 ?side7 ?side8 ?side9 ?side10 A5.out).mono ?_); (case side1 => repeat (first | exact (Kd.R_reads' HO221.out).2.2 | (with_reducible refine Kd.C_alloc ?_ _) | (with_reducible refine Kd.C_drewN ?_ _) | (with_reducible refine Kd.C_drew ?_))); (case side2 => exact (Kd.R_reads' HO221.out).2.1); (case side3 => repeat (first | exact (Kd.R_reads' HO224.out).2.2 | (with_reducible refine Kd.C_alloc ?_ _) | (with_reducible refine Kd.C_drewN ?_ _) | (with_reducible refine Kd.C_drew ?_))); (case side4 => exact (Kd.R_reads' HO224.out).2.1); (case side5 => repeat (first | exact (Kd.R_reads' HO227.out).2.2 | (with_reducible refine Kd.C_alloc ?_ _) | (with_reducible refine Kd.C_drewN ?_ _) | (with_reducible refine Kd.C_drew ?_))); (case side6 => exact (Kd.R_reads' HO227.out).2.1); (case side7 => repeat (first | exact (Kd.R_reads' HO230.out).2.2 | (with_reducible refine Kd.C_alloc ?_ _) | (with_reducible refine Kd.C_drewN ?_ _) | (with_reducible refine Kd.C_drew ?_))); (case side8 => exact (Kd.R_reads' HO230.out).2.1); (case side9 => repeat (first | exact (Kd.R_reads' HO234.out).2.2 | (with_reducible refine Kd.C_alloc ?_ _) | (with_reducible refine Kd.C_drewN ?_ _) | (with_reducible refine Kd.C_drew ?_))); (case side10 => exact (Kd.R_reads' HO234.out).2.1); rintro e w17 ⟨v236, rfl, ho0, hb⟩; refine ⟨_, rfl, ?_⟩; have n0_ := Aside0.mk (Kd.R_below (by (with_reducible repeat (first | apply Kd.R_alloc | apply Kd.R_drewN | apply Kd.R_drew)); exact HO221.out) hb); have n1_ := Aside0.mk (Kd.R_elder' (by (with_reducible repeat (first | apply Kd.R_alloc | apply Kd.R_drewN | apply Kd.R_drew)); exact HO224.out) (Kd.R_base ho0) hb); have n2_ := Aside0.mk (Kd.R_elder' (by (with_reducible repeat (first | apply Kd.R_alloc | apply Kd.R_drewN | apply Kd.R_drew)); exact HO227.out) (Kd.R_base ho0) hb); have n3_ := Aside0.mk (Kd.R_elder' (by (with_reducible repeat (first | apply Kd.R_alloc | apply Kd.R_drewN | apply Kd.R_drew)); exact HO230.out) (Kd.R_base ho0) hb); have n4_ := Aside0.mk (Kd.R_elder' (by (with_reducible repeat (first | apply Kd.R_alloc | apply Kd.R_drewN | apply Kd.R_drew)); exact HO234.out) (Kd.R_base ho0) hb); have n5_ := Aside0.mk (Kd.R_lower (Kd.R_new' (Kd.R_new' (Kd.R_new' (Kd.R_new' ho0 (Kd.R_lt (by (with_reducible repeat (first | apply Kd.R_alloc | apply Kd.R_drewN | apply Kd.R_drew)); exact HO224.out))) (Kd.R_lt (by (with_reducible repeat (first | apply Kd.R_alloc | apply Kd.R_drewN | apply Kd.R_drew)); exact HO227.out))) (Kd.R_lt (by (with_reducible repeat (first | apply Kd.R_alloc | apply Kd.R_drewN | apply Kd.R_drew)); exact HO230.out))) (Kd.R_lt (by (with_reducible repeat (first | apply Kd.R_alloc | apply Kd.R_drewN | apply Kd.R_drew)); exact HO234.out))) (below_size (by repeat (first | (with_reducible first | exact HB.out | apply below_alloc | apply pw_below_drewN | apply below_drew1 | refine below_set ?_ GE231.out) | exact HB.out)))); have n6_ := Aside0.mk (blk_below (g := gb231) (o := .cells #[.int .i64 t218, .slice Ao10 t219.length co10, .slice Ao11 t222.length co11, .slice Ao12 t225.length co12, .slice Ao13 t228.length co13] 38 (0, 0)) (by (with_reducible repeat (first | refine blk_drewN ?_ _ | refine blk_drew ?_ | refine blk_alloc ?_ _)); exact BK231.out) hb); have n7_ := Aside0.mk (below_step (by repeat (first | (with_reducible first | exact HB.out | apply below_alloc | apply pw_below_drewN | apply below_drew1 | refine below_set ?_ GE231.out) | exact HB.out)) hb); clear HO221; clear HO224; clear HO227; clear HO230; clear HO234; clear BK231; clear HB; have HO221 := n0_; have HO224 := n1_; have HO227 := n2_; have HO230 := n3_; have HO234 := n4_; have HO237 := n5_; have BK231 := n6_; have HB := n7_; clear n0_ n1_ n2_ n3_ n4_ n5_ n6_ n7_; (try clear hb); (try clear hb2); (try clear hk); (try clear hi); (try clear ho0); have hcz18_0 : w17.cell? ⟨gb231, 0, none⟩ = some (.int .i64 t218) := (blk_cell BK231.out 0).trans rfl; have hcz18_1 : w17.cell? ⟨gb231, 1, none⟩ = some (.slice Ao10 t219.length co10) := (blk_cell BK231.out 1).trans rfl; have hcz18_2 : w17.cell? ⟨gb231, 2, none⟩ = some (.slice Ao11 t222.length co11) := (blk_cell BK231.out 2).trans rfl; have hcz18_3 : w17.cell? ⟨gb231, 3, none⟩ = some (.slice Ao12 t225.length co12) := (blk_cell BK231.out 3).trans rfl; have hcz18_4 : w17.cell? ⟨gb231, 4, none⟩ = some (.slice Ao13 t228.length co13) := (blk_cell BK231.out 4).trans rfl; have hfz18_0 := blk_frozen BK231.out 0; have hfz18_1 := blk_frozen BK231.out 1; have hfz18_2 := blk_frozen BK231.out 2; have hfz18_3 := blk_frozen BK231.out 3; have hfz18_4 := blk_frozen BK231.out 4) | ((with_reducible refine gate_callee (f := 21) rfl ?_); refine goesL_ (some 32) rfl rfl Try.func21 (by kernel_rfl) rfl #[.agg #[.int .i64 t218, .slice Ao10 t219.length co10, .slice Ao11 t222.length co11, .slice Ao12 t225.length co12, .slice Ao13 t228.length co13]] rfl (by (try simp only [List.map_toArray, List.map_cons, List.map_nil]); first | done | rfl | (simp only [List.length_drop, List.length_take]; rfl)) ?_; (with_reducible refine (gate_Start.calls k t218 _ _ t219 _ _ t222 _ _ t225 _ _ t228 t239 _ ?side1 ?side2 ?side3 ?side4 ?side5 ?side6 ?side7 ?side8 A6.out).mono ?_); (case side1 => repeat (first | exact (Kd.R_reads' HO221.out).2.2 | (with_reducible refine Kd.C_alloc ?_ _) | (with_reducible refine Kd.C_drewN ?_ _) | (with_reducible refine Kd.C_drew ?_))); (case side2 => exact (Kd.R_reads' HO221.out).2.1); (case side3 => repeat (first | exact (Kd.R_reads' HO224.out).2.2 | (with_reducible refine Kd.C_alloc ?_ _) | (with_reducible refine Kd.C_drewN ?_ _) | (with_reducible refine Kd.C_drew ?_))); (case side4 => exact (Kd.R_reads' HO224.out).2.1); (case side5 => repeat (first | exact (Kd.R_reads' HO227.out).2.2 | (with_reducible refine Kd.C_alloc ?_ _) | (with_reducible refine Kd.C_drewN ?_ _) | (with_reducible refine Kd.C_drew ?_))); (case side6 => exact (Kd.R_reads' HO227.out).2.1); (case side7 => repeat (first | exact (Kd.R_reads' HO230.out).2.2 | (with_reducible refine Kd.C_alloc ?_ _) | (with_reducible refine Kd.C_drewN ?_ _) | (with_reducible refine Kd.C_drew ?_))); (case side8 => exact (Kd.R_reads' HO230.out).2.1); rintro e w19 ⟨rfl, hb⟩; refine ⟨_, rfl, ?_⟩; have n0_ := Aside0.mk (Kd.R_below (by (with_reducible repeat (first | apply Kd.R_alloc | apply Kd.R_drewN | apply Kd.R_drew)); exact HO221.out) hb); have n1_ := Aside0.mk (Kd.R_below (by (with_reducible repeat (first | apply Kd.R_alloc | apply Kd.R_drewN | apply Kd.R_drew)); exact HO224.out) hb); have n2_ := Aside0.mk (Kd.R_below (by (with_reducible repeat (first | apply Kd.R_alloc | apply Kd.R_drewN | apply Kd.R_drew)); exact HO227.out) hb); have n3_ := Aside0.mk (Kd.R_below (by (with_reducible repeat (first | apply Kd.R_alloc | apply Kd.R_drewN | apply Kd.R_drew)); exact HO230.out) hb); have n4_ := Aside0.mk (Kd.R_below (by (with_reducible repeat (first | apply Kd.R_alloc | apply Kd.R_drewN | apply Kd.R_drew)); exact HO234.out) hb); have n5_ := Aside0.mk (Kd.R_below (by (with_reducible repeat (first | apply Kd.R_alloc | apply Kd.R_drewN | apply Kd.R_drew)); exact HO237.out) hb); have n6_ := Aside0.mk (blk_below (g := gb231) (o := .cells #[.int .i64 t218, .slice Ao10 t219.length co10, .slice Ao11 t222.length co11, .slice Ao12 t225.length co12, .slice Ao13 t228.length co13] 38 (0, 0)) (by (with_reducible repeat (first | refine blk_drewN ?_ _ | refine blk_drew ?_ | refine blk_alloc ?_ _)); exact BK231.out) hb); have n7_ := Aside0.mk (below_step (by repeat (first | (with_reducible first | exact HB.out | apply below_alloc | apply pw_below_drewN | apply below_drew1 | refine below_set ?_ GE231.out) | exact HB.out)) hb); clear HO221; clear HO224; clear HO227; clear HO230; clear HO234; clear HO237; clear BK231; clear HB; have HO221 := n0_; have HO224 := n1_; have HO227 := n2_; have HO230 := n3_; have HO234 := n4_; have HO237 := n5_; have BK231 := n6_; have HB := n7_; clear n0_ n1_ n2_ n3_ n4_ n5_ n6_ n7_; (try clear hb); (try clear hb2); (try clear hk); (try clear hi)))
  go_loopg [9, 10, 35] k (fun kq v9 v10 v35 w' => ∃ (x9_1 : Int) (x10_1 : List Int) (x35_1 : Int), v9 = .int .i64 x9_1 ∧ v35 = .int .i64 x35_1 ∧ Aside0 (bakekeep3_GateSteps.l0 kq t235 t238 x9_1 x10_1 t232 (t232.length : Int) x35_1 t218 t219 t222 t225 t228 = some r) ∧ Aside0 (kq ≤ k) ∧ Aside0 (Kd.R (Kd.int .i64) 3 w' w.heap.size (fun k_ => some k_ ≠ (v10 : Value).ownBlock ∧ some k_ ≠ ((.slice Ao16 t232.length co16) : Value).ownBlock ∧ some k_ ≠ ((.slice Ao11 t222.length co11) : Value).ownBlock ∧ some k_ ≠ ((.slice Ao12 t225.length co12) : Value).ownBlock ∧ some k_ ≠ ((.slice Ao13 t228.length co13) : Value).ownBlock) v236 t235) ∧ Aside0 (Kd.R (Kd.int .i64) 3 w' w.heap.size (fun k_ => some k_ ≠ (v236 : Value).ownBlock ∧ some k_ ≠ ((.slice Ao16 t232.length co16) : Value).ownBlock ∧ some k_ ≠ ((.slice Ao11 t222.length co11) : Value).ownBlock ∧ some k_ ≠ ((.slice Ao12 t225.length co12) : Value).ownBlock ∧ some k_ ≠ ((.slice Ao13 t228.length co13) : Value).ownBlock) v10 x10_1) ∧ Aside0 (Kd.R (Kd.int .i64) 3 w' w.heap.size (fun k_ => some k_ ≠ (v236 : Value).ownBlock ∧ some k_ ≠ (v10 : Value).ownBlock ∧ some k_ ≠ ((.slice Ao11 t222.length co11) : Value).ownBlock ∧ some k_ ≠ ((.slice Ao12 t225.length co12) : Value).ownBlock ∧ some k_ ≠ ((.slice Ao13 t228.length co13) : Value).ownBlock) (.slice Ao16 t232.length co16) t232) ∧ Aside0 (Kd.R k50 50 w' w.heap.size (fun _ => True) (.slice Ao10 t219.length co10) t219) ∧ Aside0 (Kd.R (Kd.int .i64) 3 w' w.heap.size (fun k_ => some k_ ≠ (v236 : Value).ownBlock ∧ some k_ ≠ (v10 : Value).ownBlock ∧ some k_ ≠ ((.slice Ao16 t232.length co16) : Value).ownBlock ∧ some k_ ≠ ((.slice Ao12 t225.length co12) : Value).ownBlock ∧ some k_ ≠ ((.slice Ao13 t228.length co13) : Value).ownBlock) (.slice Ao11 t222.length co11) t222) ∧ Aside0 (Kd.R (Kd.int .i64) 3 w' w.heap.size (fun k_ => some k_ ≠ (v236 : Value).ownBlock ∧ some k_ ≠ (v10 : Value).ownBlock ∧ some k_ ≠ ((.slice Ao16 t232.length co16) : Value).ownBlock ∧ some k_ ≠ ((.slice Ao11 t222.length co11) : Value).ownBlock ∧ some k_ ≠ ((.slice Ao13 t228.length co13) : Value).ownBlock) (.slice Ao12 t225.length co12) t225) ∧ Aside0 (Kd.R (Kd.int .i64) 3 w' w.heap.size (fun k_ => some k_ ≠ (v236 : Value).ownBlock ∧ some k_ ≠ (v10 : Value).ownBlock ∧ some k_ ≠ ((.slice Ao16 t232.length co16) : Value).ownBlock ∧ some k_ ≠ ((.slice Ao11 t222.length co11) : Value).ownBlock ∧ some k_ ≠ ((.slice Ao12 t225.length co12) : Value).ownBlock) (.slice Ao13 t228.length co13) t228) ∧ Aside0 (w'.heap[gb231]? = some (.cells #[.int .i64 t218, (.slice Ao10 t219.length co10), (.slice Ao11 t222.length co11), (.slice Ao12 t225.length co12), (.slice Ao13 t228.length co13)] 38 (0, 0))) ∧ Aside0 (Below w.heap.size w w'))
  case atStart => exact ⟨(t239), (([] : List Int)), (0), (by first | rfl | (simp; done) | (simp [*]; done)), (by first | rfl | (simp; done) | (simp [*]; done)), H', ⟨Nat.le_refl _⟩, ⟨by (with_reducible repeat (first | apply Kd.R_alloc | apply Kd.R_drewN | apply Kd.R_drew)); exact Kd.R_mono HO237.out (fun _ hk => ⟨(by simp [Value.ownBlock]), ⟨hk.2, ⟨hk.1.1.1.2, ⟨hk.1.1.2, hk.1.2⟩⟩⟩⟩)⟩, ⟨by first | exact Kd.R_nil _ _ _ _ _ | exact Kd.N_nil _ _ _ _ _ | exact Kd.V_nil _ _ _ _ _ | exact Kd.Q_nil _ _ _ _ _ | exact Kd.S_nil _ _ _ _ _⟩, ⟨by (with_reducible repeat (first | apply Kd.R_alloc | apply Kd.R_drewN | apply Kd.R_drew)); exact Kd.R_mono HO234.out (fun _ hk => ⟨hk.2, ⟨(by simp [Value.ownBlock]), ⟨hk.1.1.1.2, ⟨hk.1.1.2, hk.1.2⟩⟩⟩⟩)⟩, ⟨by (with_reducible repeat (first | apply Kd.R_alloc | apply Kd.R_drewN | apply Kd.R_drew)); exact HO221.out⟩, ⟨by (with_reducible repeat (first | apply Kd.R_alloc | apply Kd.R_drewN | apply Kd.R_drew)); exact Kd.R_mono HO224.out (fun _ hk => ⟨hk.2, ⟨(by simp [Value.ownBlock]), ⟨hk.1.2, ⟨hk.1.1.1, hk.1.1.2⟩⟩⟩⟩)⟩, ⟨by (with_reducible repeat (first | apply Kd.R_alloc | apply Kd.R_drewN | apply Kd.R_drew)); exact Kd.R_mono HO227.out (fun _ hk => ⟨hk.2, ⟨(by simp [Value.ownBlock]), ⟨hk.1.2, ⟨hk.1.1.1, hk.1.1.2⟩⟩⟩⟩)⟩, ⟨by (with_reducible repeat (first | apply Kd.R_alloc | apply Kd.R_drewN | apply Kd.R_drew)); exact Kd.R_mono HO230.out (fun _ hk => ⟨hk.2, ⟨(by simp [Value.ownBlock]), ⟨hk.1.2, ⟨hk.1.1.1, hk.1.1.2⟩⟩⟩⟩)⟩, ⟨by (with_reducible repeat (first | refine blk_drewN ?_ _ | refine blk_drew ?_ | refine blk_alloc ?_ _)); exact BK231.out⟩, ⟨by repeat (first | (with_reducible first | exact HB.out | apply below_alloc | apply pw_below_drewN | apply below_drew1 | refine below_set ?_ GE231.out) | exact HB.out)⟩⟩
  case round =>
    clear H'
    try clear c1
    try clear c2
    try clear p2
    try clear p3
    try clear c4
    try clear c18
    try clear c19
    try clear hcz15_0
    try clear hcz15_1
    try clear hcz15_2
    try clear hcz15_3
    try clear hcz15_4
    try clear hcz18_0
    try clear hcz18_1
    try clear hcz18_2
    try clear hcz18_3
    try clear hcz18_4
    try clear hcz9_0
    try clear hcz9_1
    try clear hcz9_2
    try clear hcz9_3
    try clear hcz9_4
    try clear hfz15_0
    try clear hfz15_1
    try clear hfz15_2
    try clear hfz15_3
    try clear hfz15_4
    try clear hfz18_0
    try clear hfz18_1
    try clear hfz18_2
    try clear hfz18_3
    try clear hfz18_4
    try clear hfz9_0
    try clear hfz9_1
    try clear hfz9_2
    try clear hfz9_3
    try clear hfz9_4
    obtain ⟨x9_1, x10_1, x35_1, rfl, rfl, HA, HK1, HO_7, HO_10, HO_33, HO_232001, HO_232002, HO_232003, HO_232004, BK231, HB⟩ := hrel
    cases gk with
    | zero => exact absurd HA.out (by simp [bakekeep3_GateSteps.l0])
    | succ k1 =>
      have H := HA.out
      clear HA
      simp only [bakekeep3_GateSteps.l0] at H
      by_cases c20 : x35_1 < (t232.length : Int)
      · rw [if_pos c20] at H
        have c20b0 : decide (x35_1 < (t232.length : Int)) = true := decide_eq_true c20
        clear c20
        by_cases c21 : 0 ≤ x35_1
        · rw [if_pos c21] at H
          have c21b0 : decide (0 ≤ x35_1) = true := decide_eq_true c21
          clear c21
          by_cases c22 : x35_1 < (t232.length : Int)
          · rw [if_pos c22] at H
            have c22b0 : decide (x35_1 < (t232.length : Int)) = true := decide_eq_true c22
            clear c22
            replace H := Option.bind_eq_some_iff.mp H
            obtain ⟨⟨t243, t246⟩, A230, H⟩ := H
            replace H : (if t246 = 0 then (bakekeep3_GateSteps.j1 k1 t235 t238 x9_1 x10_1 (rd t232 x35_1) t243 t232 (t232.length : Int) x35_1 ((t243.length : Int) != (t219.length : Int)) t218 t219 t222 t225 t228) else (bakekeep3_GateSteps.j1 k1 t235 t238 x9_1 x10_1 (rd t232 x35_1) t243 t232 (t232.length : Int) x35_1 true t218 t219 t222 t225 t228)) = some r := H
            have A23 := Aside0.mk A230
            clear A230
            have HC24 := Aside0.mk H
            clear H
            have p242 : 0 ≤ (x35_1 : Int) := of_decide_eq_true (by first | (with_reducible assumption) | assumption)
            have q242 : x35_1 < (t232.length : Int) := of_decide_eq_true (by first | (with_reducible assumption) | assumption)
            obtain ⟨ad242, e242, hx242_0⟩ := Kd.at_int (Kd.R_reads' HO_33.out).2.2 x35_1 p242 q242
            cases e242
            replace p242 := eq_true p242
            replace q242 := eq_true q242
            have hcz25_0 : wr.cell? ⟨gb231, 0, none⟩ = some (.int .i64 t218) := (blk_cell BK231.out 0).trans rfl
            have hcz25_1 : wr.cell? ⟨gb231, 1, none⟩ = some (.slice Ao10 t219.length co10) := (blk_cell BK231.out 1).trans rfl
            have hcz25_2 : wr.cell? ⟨gb231, 2, none⟩ = some (.slice Ao11 t222.length co11) := (blk_cell BK231.out 2).trans rfl
            have hcz25_3 : wr.cell? ⟨gb231, 3, none⟩ = some (.slice Ao12 t225.length co12) := (blk_cell BK231.out 3).trans rfl
            have hcz25_4 : wr.cell? ⟨gb231, 4, none⟩ = some (.slice Ao13 t228.length co13) := (blk_cell BK231.out 4).trans rfl
            have hfz25_0 := blk_frozen BK231.out 0
            have hfz25_1 := blk_frozen BK231.out 1
            have hfz25_2 := blk_frozen BK231.out 2
            have hfz25_3 := blk_frozen BK231.out 3
            have hfz25_4 := blk_frozen BK231.out 4
            go_upto_region 10 with (first | ((with_reducible refine gate_callee (f := 22) rfl ?_); refine goesL_ (some 43) rfl rfl Try.func22 (by kernel_rfl) rfl #[.agg #[.int .i64 t218, .slice Ao10 t219.length co10, .slice Ao11 t222.length co11, .slice Ao12 t225.length co12, .slice Ao13 t228.length co13], .int .i64 x9_1, .int .i64 (rd t232 x35_1)] rfl (by (try simp only [List.map_toArray, List.map_cons, List.map_nil]); first | done | rfl | (simp only [List.length_drop, List.length_take]; rfl)) ?_; (with_reducible refine (gate_Values.calls k1 t218 _ _ t219 _ _ t222 _ _ t225 _ _ t228 x9_1 (rd t232 x35_1) t243 t246 _ ?side1 ?side2 ?side3 ?side4 ?side5 ?side6 ?side7 ?side8 A23.out).mono ?_); (case side1 => repeat (first | exact (Kd.R_reads' HO_232001.out).2.2 | (with_reducible refine Kd.C_alloc ?_ _) | (with_reducible refine Kd.C_drewN ?_ _) | (with_reducible refine Kd.C_drew ?_))); (case side2 => exact (Kd.R_reads' HO_232001.out).2.1); (case side3 => repeat (first | exact (Kd.R_reads' HO_232002.out).2.2 | (with_reducible refine Kd.C_alloc ?_ _) | (with_reducible refine Kd.C_drewN ?_ _) | (with_reducible refine Kd.C_drew ?_))); (case side4 => exact (Kd.R_reads' HO_232002.out).2.1); (case side5 => repeat (first | exact (Kd.R_reads' HO_232003.out).2.2 | (with_reducible refine Kd.C_alloc ?_ _) | (with_reducible refine Kd.C_drewN ?_ _) | (with_reducible refine Kd.C_drew ?_))); (case side6 => exact (Kd.R_reads' HO_232003.out).2.1); (case side7 => repeat (first | exact (Kd.R_reads' HO_232004.out).2.2 | (with_reducible refine Kd.C_alloc ?_ _) | (with_reducible refine Kd.C_drewN ?_ _) | (with_reducible refine Kd.C_drew ?_))); (case side8 => exact (Kd.R_reads' HO_232004.out).2.1); rintro e w26 ⟨v244, rfl, ho0, hb⟩; refine ⟨_, rfl, ?_⟩; have n0_ := Aside0.mk (Kd.R_elder' (by (with_reducible repeat (first | apply Kd.R_alloc | apply Kd.R_drewN | apply Kd.R_drew)); exact HO_7.out) (Kd.R_base ho0) hb); have n1_ := Aside0.mk (Kd.R_elder' (by (with_reducible repeat (first | apply Kd.R_alloc | apply Kd.R_drewN | apply Kd.R_drew)); exact HO_10.out) (Kd.R_base ho0) hb); have n2_ := Aside0.mk (Kd.R_elder' (by (with_reducible repeat (first | apply Kd.R_alloc | apply Kd.R_drewN | apply Kd.R_drew)); exact HO_33.out) (Kd.R_base ho0) hb); have n3_ := Aside0.mk (Kd.R_below (by (with_reducible repeat (first | apply Kd.R_alloc | apply Kd.R_drewN | apply Kd.R_drew)); exact HO_232001.out) hb); have n4_ := Aside0.mk (Kd.R_elder' (by (with_reducible repeat (first | apply Kd.R_alloc | apply Kd.R_drewN | apply Kd.R_drew)); exact HO_232002.out) (Kd.R_base ho0) hb); have n5_ := Aside0.mk (Kd.R_elder' (by (with_reducible repeat (first | apply Kd.R_alloc | apply Kd.R_drewN | apply Kd.R_drew)); exact HO_232003.out) (Kd.R_base ho0) hb); have n6_ := Aside0.mk (Kd.R_elder' (by (with_reducible repeat (first | apply Kd.R_alloc | apply Kd.R_drewN | apply Kd.R_drew)); exact HO_232004.out) (Kd.R_base ho0) hb); have n7_ := Aside0.mk (Kd.R_lower (Kd.R_new' (Kd.R_new' (Kd.R_new' (Kd.R_new' (Kd.R_new' (Kd.R_new' ho0 (Kd.R_lt (by (with_reducible repeat (first | apply Kd.R_alloc | apply Kd.R_drewN | apply Kd.R_drew)); exact HO_7.out))) (Kd.R_lt (by (with_reducible repeat (first | apply Kd.R_alloc | apply Kd.R_drewN | apply Kd.R_drew)); exact HO_10.out))) (Kd.R_lt (by (with_reducible repeat (first | apply Kd.R_alloc | apply Kd.R_drewN | apply Kd.R_drew)); exact HO_33.out))) (Kd.R_lt (by (with_reducible repeat (first | apply Kd.R_alloc | apply Kd.R_drewN | apply Kd.R_drew)); exact HO_232002.out))) (Kd.R_lt (by (with_reducible repeat (first | apply Kd.R_alloc | apply Kd.R_drewN | apply Kd.R_drew)); exact HO_232003.out))) (Kd.R_lt (by (with_reducible repeat (first | apply Kd.R_alloc | apply Kd.R_drewN | apply Kd.R_drew)); exact HO_232004.out))) (below_size (by repeat (first | (with_reducible first | exact HB.out | apply below_alloc | apply pw_below_drewN | apply below_drew1 | refine below_set ?_ GE231.out) | exact HB.out)))); have n8_ := Aside0.mk (blk_below (g := gb231) (o := .cells #[.int .i64 t218, .slice Ao10 t219.length co10, .slice Ao11 t222.length co11, .slice Ao12 t225.length co12, .slice Ao13 t228.length co13] 38 (0, 0)) (by (with_reducible repeat (first | refine blk_drewN ?_ _ | refine blk_drew ?_ | refine blk_alloc ?_ _)); exact BK231.out) hb); have n9_ := Aside0.mk (below_step (by repeat (first | (with_reducible first | exact HB.out | apply below_alloc | apply pw_below_drewN | apply below_drew1 | refine below_set ?_ GE231.out) | exact HB.out)) hb); clear HO_7; clear HO_10; clear HO_33; clear HO_232001; clear HO_232002; clear HO_232003; clear HO_232004; clear BK231; clear HB; have HO_7 := n0_; have HO_10 := n1_; have HO_33 := n2_; have HO_232001 := n3_; have HO_232002 := n4_; have HO_232003 := n5_; have HO_232004 := n6_; have HO245 := n7_; have BK231 := n8_; have HB := n9_; clear n0_ n1_ n2_ n3_ n4_ n5_ n6_ n7_ n8_ n9_; (try clear hb); (try clear hb2); (try clear hk); (try clear hi); (try clear ho0)))
            (try simp only [Act.put, List.setIfInBounds_toArray, List.set_cons_zero, List.set_cons_succ])
            go_cut [55] (fun v55 wc => ∃ (kq : Nat) (x55_23 : Bool), v55 = .bool x55_23 ∧ Aside0 (bakekeep3_GateSteps.j1 kq t235 t238 x9_1 x10_1 (rd t232 x35_1) t243 t232 (t232.length : Int) x35_1 x55_23 t218 t219 t222 t225 t228 = some r) ∧ Aside0 (kq ≤ k1) ∧ Aside0 (Kd.R (Kd.int .i64) 3 wc w.heap.size (fun k_ => some k_ ≠ (u10 : Value).ownBlock ∧ some k_ ≠ (v244 : Value).ownBlock ∧ some k_ ≠ ((.slice (some ad242) t232.length co16) : Value).ownBlock ∧ some k_ ≠ ((.slice Ao11 t222.length co11) : Value).ownBlock ∧ some k_ ≠ ((.slice Ao12 t225.length co12) : Value).ownBlock ∧ some k_ ≠ ((.slice Ao13 t228.length co13) : Value).ownBlock) v236 t235) ∧ Aside0 (Kd.R (Kd.int .i64) 3 wc w.heap.size (fun k_ => some k_ ≠ (v236 : Value).ownBlock ∧ some k_ ≠ (v244 : Value).ownBlock ∧ some k_ ≠ ((.slice (some ad242) t232.length co16) : Value).ownBlock ∧ some k_ ≠ ((.slice Ao11 t222.length co11) : Value).ownBlock ∧ some k_ ≠ ((.slice Ao12 t225.length co12) : Value).ownBlock ∧ some k_ ≠ ((.slice Ao13 t228.length co13) : Value).ownBlock) u10 x10_1) ∧ Aside0 (Kd.R (Kd.int .i64) 3 wc w.heap.size (fun k_ => some k_ ≠ (v236 : Value).ownBlock ∧ some k_ ≠ (u10 : Value).ownBlock ∧ some k_ ≠ ((.slice (some ad242) t232.length co16) : Value).ownBlock ∧ some k_ ≠ ((.slice Ao11 t222.length co11) : Value).ownBlock ∧ some k_ ≠ ((.slice Ao12 t225.length co12) : Value).ownBlock ∧ some k_ ≠ ((.slice Ao13 t228.length co13) : Value).ownBlock) v244 t243) ∧ Aside0 (Kd.R (Kd.int .i64) 3 wc w.heap.size (fun k_ => some k_ ≠ (v236 : Value).ownBlock ∧ some k_ ≠ (u10 : Value).ownBlock ∧ some k_ ≠ (v244 : Value).ownBlock ∧ some k_ ≠ ((.slice Ao11 t222.length co11) : Value).ownBlock ∧ some k_ ≠ ((.slice Ao12 t225.length co12) : Value).ownBlock ∧ some k_ ≠ ((.slice Ao13 t228.length co13) : Value).ownBlock) (.slice (some ad242) t232.length co16) t232) ∧ Aside0 (Kd.R k50 50 wc w.heap.size (fun _ => True) (.slice Ao10 t219.length co10) t219) ∧ Aside0 (Kd.R (Kd.int .i64) 3 wc w.heap.size (fun k_ => some k_ ≠ (v236 : Value).ownBlock ∧ some k_ ≠ (u10 : Value).ownBlock ∧ some k_ ≠ (v244 : Value).ownBlock ∧ some k_ ≠ ((.slice (some ad242) t232.length co16) : Value).ownBlock ∧ some k_ ≠ ((.slice Ao12 t225.length co12) : Value).ownBlock ∧ some k_ ≠ ((.slice Ao13 t228.length co13) : Value).ownBlock) (.slice Ao11 t222.length co11) t222) ∧ Aside0 (Kd.R (Kd.int .i64) 3 wc w.heap.size (fun k_ => some k_ ≠ (v236 : Value).ownBlock ∧ some k_ ≠ (u10 : Value).ownBlock ∧ some k_ ≠ (v244 : Value).ownBlock ∧ some k_ ≠ ((.slice (some ad242) t232.length co16) : Value).ownBlock ∧ some k_ ≠ ((.slice Ao11 t222.length co11) : Value).ownBlock ∧ some k_ ≠ ((.slice Ao13 t228.length co13) : Value).ownBlock) (.slice Ao12 t225.length co12) t225) ∧ Aside0 (Kd.R (Kd.int .i64) 3 wc w.heap.size (fun k_ => some k_ ≠ (v236 : Value).ownBlock ∧ some k_ ≠ (u10 : Value).ownBlock ∧ some k_ ≠ (v244 : Value).ownBlock ∧ some k_ ≠ ((.slice (some ad242) t232.length co16) : Value).ownBlock ∧ some k_ ≠ ((.slice Ao11 t222.length co11) : Value).ownBlock ∧ some k_ ≠ ((.slice Ao12 t225.length co12) : Value).ownBlock) (.slice Ao13 t228.length co13) t228) ∧ Aside0 (wc.heap[gb231]? = some (.cells #[.int .i64 t218, (.slice Ao10 t219.length co10), (.slice Ao11 t222.length co11), (.slice Ao12 t225.length co12), (.slice Ao13 t228.length co13)] 38 (0, 0))) ∧ Aside0 (Below w.heap.size w wc))
            case first =>
              have H := HC24.out
              clear HC24
              by_cases c27 : t246 = 0
              · rw [if_pos c27] at H
                have c27b0 : (t246 == 0) = true := beq_iff_eq.mpr c27
                have c27b1 : (t246 != 0) = false := bne_eq_false_iff_eq.mpr c27
                clear c27
                (first | rw [c27b0] | (simp only [i64_w, i32_w]; rw [c27b0]) | skip)
                have H' := Aside0.mk H
                clear H
                obtain ⟨Ao28, co28, eo28⟩ := Kd.R_slice HO245.out
                subst eo28
                have hcz29_0 : w26.cell? ⟨gb231, 0, none⟩ = some (.int .i64 t218) := (blk_cell BK231.out 0).trans rfl
                have hcz29_1 : w26.cell? ⟨gb231, 1, none⟩ = some (.slice Ao10 t219.length co10) := (blk_cell BK231.out 1).trans rfl
                have hcz29_2 : w26.cell? ⟨gb231, 2, none⟩ = some (.slice Ao11 t222.length co11) := (blk_cell BK231.out 2).trans rfl
                have hcz29_3 : w26.cell? ⟨gb231, 3, none⟩ = some (.slice Ao12 t225.length co12) := (blk_cell BK231.out 3).trans rfl
                have hcz29_4 : w26.cell? ⟨gb231, 4, none⟩ = some (.slice Ao13 t228.length co13) := (blk_cell BK231.out 4).trans rfl
                have hfz29_0 := blk_frozen BK231.out 0
                have hfz29_1 := blk_frozen BK231.out 1
                have hfz29_2 := blk_frozen BK231.out 2
                have hfz29_3 := blk_frozen BK231.out 3
                have hfz29_4 := blk_frozen BK231.out 4
                go_wp2
                go_meet
                case rel => exact ⟨_, (((t243.length : Int) != (t219.length : Int))), (by first | rfl | (simp; done) | (simp [*]; done)), H', ⟨by have := HK1.out; first | omega | exact Nat.le_refl _⟩, ⟨by (with_reducible repeat (first | apply Kd.R_alloc | apply Kd.R_drewN | apply Kd.R_drew)); exact Kd.R_mono HO_7.out (fun _ hk => ⟨hk.1.1, ⟨hk.2, ⟨hk.1.2.1, ⟨hk.1.2.2.1, ⟨hk.1.2.2.2.1, hk.1.2.2.2.2⟩⟩⟩⟩⟩)⟩, ⟨by (with_reducible repeat (first | apply Kd.R_alloc | apply Kd.R_drewN | apply Kd.R_drew)); exact Kd.R_mono HO_10.out (fun _ hk => ⟨hk.1.1, ⟨hk.2, ⟨hk.1.2.1, ⟨hk.1.2.2.1, ⟨hk.1.2.2.2.1, hk.1.2.2.2.2⟩⟩⟩⟩⟩)⟩, ⟨by (with_reducible repeat (first | apply Kd.R_alloc | apply Kd.R_drewN | apply Kd.R_drew)); exact Kd.R_mono HO245.out (fun _ hk => ⟨hk.1.1.1.1.1.2, ⟨hk.1.1.1.1.2, ⟨hk.1.1.1.2, ⟨hk.1.1.2, ⟨hk.1.2, hk.2⟩⟩⟩⟩⟩)⟩, ⟨by (with_reducible repeat (first | apply Kd.R_alloc | apply Kd.R_drewN | apply Kd.R_drew)); exact Kd.R_mono HO_33.out (fun _ hk => ⟨hk.1.1, ⟨hk.1.2.1, ⟨hk.2, ⟨hk.1.2.2.1, ⟨hk.1.2.2.2.1, hk.1.2.2.2.2⟩⟩⟩⟩⟩)⟩, ⟨by (with_reducible repeat (first | apply Kd.R_alloc | apply Kd.R_drewN | apply Kd.R_drew)); exact HO_232001.out⟩, ⟨by (with_reducible repeat (first | apply Kd.R_alloc | apply Kd.R_drewN | apply Kd.R_drew)); exact Kd.R_mono HO_232002.out (fun _ hk => ⟨hk.1.1, ⟨hk.1.2.1, ⟨hk.2, ⟨hk.1.2.2.1, ⟨hk.1.2.2.2.1, hk.1.2.2.2.2⟩⟩⟩⟩⟩)⟩, ⟨by (with_reducible repeat (first | apply Kd.R_alloc | apply Kd.R_drewN | apply Kd.R_drew)); exact Kd.R_mono HO_232003.out (fun _ hk => ⟨hk.1.1, ⟨hk.1.2.1, ⟨hk.2, ⟨hk.1.2.2.1, ⟨hk.1.2.2.2.1, hk.1.2.2.2.2⟩⟩⟩⟩⟩)⟩, ⟨by (with_reducible repeat (first | apply Kd.R_alloc | apply Kd.R_drewN | apply Kd.R_drew)); exact Kd.R_mono HO_232004.out (fun _ hk => ⟨hk.1.1, ⟨hk.1.2.1, ⟨hk.2, ⟨hk.1.2.2.1, ⟨hk.1.2.2.2.1, hk.1.2.2.2.2⟩⟩⟩⟩⟩)⟩, ⟨by (with_reducible repeat (first | refine blk_drewN ?_ _ | refine blk_drew ?_ | refine blk_alloc ?_ _)); exact BK231.out⟩, ⟨by repeat (first | (with_reducible first | exact HB.out | apply below_alloc | apply pw_below_drewN | apply below_drew1 | refine below_set ?_ GE231.out) | exact HB.out)⟩⟩
              · rw [if_neg c27] at H
                have c27b0 : (t246 == 0) = false := beq_eq_false_iff_ne.mpr c27
                have c27b1 : (t246 != 0) = true := bne_iff_ne.mpr c27
                (first | rw [c27b0] | (simp only [i64_w, i32_w]; rw [c27b0]) | skip)
                have H' := Aside0.mk H
                clear H
                go_wp2
                go_meet
                case rel => exact ⟨_, (true), (by first | rfl | (simp; done) | (simp [*]; done)), H', ⟨by have := HK1.out; first | omega | exact Nat.le_refl _⟩, ⟨by (with_reducible repeat (first | apply Kd.R_alloc | apply Kd.R_drewN | apply Kd.R_drew)); exact Kd.R_mono HO_7.out (fun _ hk => ⟨hk.1.1, ⟨hk.2, ⟨hk.1.2.1, ⟨hk.1.2.2.1, ⟨hk.1.2.2.2.1, hk.1.2.2.2.2⟩⟩⟩⟩⟩)⟩, ⟨by (with_reducible repeat (first | apply Kd.R_alloc | apply Kd.R_drewN | apply Kd.R_drew)); exact Kd.R_mono HO_10.out (fun _ hk => ⟨hk.1.1, ⟨hk.2, ⟨hk.1.2.1, ⟨hk.1.2.2.1, ⟨hk.1.2.2.2.1, hk.1.2.2.2.2⟩⟩⟩⟩⟩)⟩, ⟨by (with_reducible repeat (first | apply Kd.R_alloc | apply Kd.R_drewN | apply Kd.R_drew)); exact Kd.R_mono HO245.out (fun _ hk => ⟨hk.1.1.1.1.1.2, ⟨hk.1.1.1.1.2, ⟨hk.1.1.1.2, ⟨hk.1.1.2, ⟨hk.1.2, hk.2⟩⟩⟩⟩⟩)⟩, ⟨by (with_reducible repeat (first | apply Kd.R_alloc | apply Kd.R_drewN | apply Kd.R_drew)); exact Kd.R_mono HO_33.out (fun _ hk => ⟨hk.1.1, ⟨hk.1.2.1, ⟨hk.2, ⟨hk.1.2.2.1, ⟨hk.1.2.2.2.1, hk.1.2.2.2.2⟩⟩⟩⟩⟩)⟩, ⟨by (with_reducible repeat (first | apply Kd.R_alloc | apply Kd.R_drewN | apply Kd.R_drew)); exact HO_232001.out⟩, ⟨by (with_reducible repeat (first | apply Kd.R_alloc | apply Kd.R_drewN | apply Kd.R_drew)); exact Kd.R_mono HO_232002.out (fun _ hk => ⟨hk.1.1, ⟨hk.1.2.1, ⟨hk.2, ⟨hk.1.2.2.1, ⟨hk.1.2.2.2.1, hk.1.2.2.2.2⟩⟩⟩⟩⟩)⟩, ⟨by (with_reducible repeat (first | apply Kd.R_alloc | apply Kd.R_drewN | apply Kd.R_drew)); exact Kd.R_mono HO_232003.out (fun _ hk => ⟨hk.1.1, ⟨hk.1.2.1, ⟨hk.2, ⟨hk.1.2.2.1, ⟨hk.1.2.2.2.1, hk.1.2.2.2.2⟩⟩⟩⟩⟩)⟩, ⟨by (with_reducible repeat (first | apply Kd.R_alloc | apply Kd.R_drewN | apply Kd.R_drew)); exact Kd.R_mono HO_232004.out (fun _ hk => ⟨hk.1.1, ⟨hk.1.2.1, ⟨hk.2, ⟨hk.1.2.2.1, ⟨hk.1.2.2.2.1, hk.1.2.2.2.2⟩⟩⟩⟩⟩)⟩, ⟨by (with_reducible repeat (first | refine blk_drewN ?_ _ | refine blk_drew ?_ | refine blk_alloc ?_ _)); exact BK231.out⟩, ⟨by repeat (first | (with_reducible first | exact HB.out | apply below_alloc | apply pw_below_drewN | apply below_drew1 | refine below_set ?_ GE231.out) | exact HB.out)⟩⟩
            case rest =>
              clear HC24
              try clear c1
              try clear c2
              try clear p2
              try clear q2
              try clear hx2
              try clear p3
              try clear c4
              try clear c18
              try clear c19
              try clear c20
              try clear c20b0
              try clear c21
              try clear c21b0
              try clear c22
              try clear c22b0
              try clear p24
              try clear q24
              try clear hx24
              try clear c27
              try clear c27b0
              try clear c27b1
              try clear hcz15_0
              try clear hcz15_1
              try clear hcz15_2
              try clear hcz15_3
              try clear hcz15_4
              try clear hcz18_0
              try clear hcz18_1
              try clear hcz18_2
              try clear hcz18_3
              try clear hcz18_4
              try clear hcz25_0
              try clear hcz25_1
              try clear hcz25_2
              try clear hcz25_3
              try clear hcz25_4
              try clear hcz29_0
              try clear hcz29_1
              try clear hcz29_2
              try clear hcz29_3
              try clear hcz29_4
              try clear hcz9_0
              try clear hcz9_1
              try clear hcz9_2
              try clear hcz9_3
              try clear hcz9_4
              try clear hfz15_0
              try clear hfz15_1
              try clear hfz15_2
              try clear hfz15_3
              try clear hfz15_4
              try clear hfz18_0
              try clear hfz18_1
              try clear hfz18_2
              try clear hfz18_3
              try clear hfz18_4
              try clear hfz25_0
              try clear hfz25_1
              try clear hfz25_2
              try clear hfz25_3
              try clear hfz25_4
              try clear hfz29_0
              try clear hfz29_1
              try clear hfz29_2
              try clear hfz29_3
              try clear hfz29_4
              try clear hfz9_0
              try clear hfz9_1
              try clear hfz9_2
              try clear hfz9_3
              try clear hfz9_4
              try clear hx242_0
              try clear p2
              try clear p242
              try clear p3
              try clear q242
              obtain ⟨kq, x55_23, rfl, HA, HJ23, HO_7, HO_10, HO_13, HO_33, HO_232001, HO_232002, HO_232003, HO_232004, BK231, HB⟩ := hcut
              cases kq with
              | zero => exact absurd HA.out (by simp [bakekeep3_GateSteps.j1])
              | succ kj23 =>
                have H := HA.out
                clear HA
                simp only [bakekeep3_GateSteps.j1] at H
                by_cases c30 : x55_23 = true
                · subst c30
                  have H1 : (some false) = some r := by rw [if_pos rfl] at H; exact H
                  clear H
                  have H := H1
                  clear H1
                  obtain rfl := Option.some.inj H
                  go_wp2
                  go_ret
                  exact ⟨by first | rfl | (simp [errW_none, errW_some] <;> rfl) | (simp [*, errW_none, errW_some] <;> rfl), by repeat (first | (with_reducible first | exact HB.out | apply below_alloc | apply pw_below_drewN | apply below_drew1 | refine below_set ?_ GE231.out) | exact HB.out)⟩
                · replace c30 := Bool.eq_false_iff.mpr c30
                  subst c30
                  have H1 : (bakekeep3_GateSteps.l1 kj23 t235 t238 x9_1 x10_1 (rd t232 x35_1) t243 0 t232 (t232.length : Int) x35_1 t222 (t222.length : Int) 0 t218 t219 t222 t225 t228) = some r := by rw [if_neg (show ¬ (false = true) by decide)] at H; exact H
                  clear H
                  have H := H1
                  clear H1
                  have H' := Aside0.mk H
                  clear H
                  have hcz31_0 : wc.cell? ⟨gb231, 0, none⟩ = some (.int .i64 t218) := (blk_cell BK231.out 0).trans rfl
                  have hcz31_1 : wc.cell? ⟨gb231, 1, none⟩ = some (.slice Ao10 t219.length co10) := (blk_cell BK231.out 1).trans rfl
                  have hcz31_2 : wc.cell? ⟨gb231, 2, none⟩ = some (.slice Ao11 t222.length co11) := (blk_cell BK231.out 2).trans rfl
                  have hcz31_3 : wc.cell? ⟨gb231, 3, none⟩ = some (.slice Ao12 t225.length co12) := (blk_cell BK231.out 3).trans rfl
                  have hcz31_4 : wc.cell? ⟨gb231, 4, none⟩ = some (.slice Ao13 t228.length co13) := (blk_cell BK231.out 4).trans rfl
                  have hfz31_0 := blk_frozen BK231.out 0
                  have hfz31_1 := blk_frozen BK231.out 1
                  have hfz31_2 := blk_frozen BK231.out 2
                  have hfz31_3 := blk_frozen BK231.out 3
                  have hfz31_4 := blk_frozen BK231.out 4
                  go_wp2
                  go_loopg [15, 59] kj23 (fun kq v15 v59 w' => ∃ (x15_3 : Int) (x59_3 : Int), v15 = .int .i64 x15_3 ∧ v59 = .int .i64 x59_3 ∧ Aside0 (bakekeep3_GateSteps.l1 kq t235 t238 x9_1 x10_1 (rd t232 x35_1) t243 x15_3 t232 (t232.length : Int) x35_1 t222 (t222.length : Int) x59_3 t218 t219 t222 t225 t228 = some r) ∧ Aside0 (kq ≤ kj23) ∧ Aside0 (Kd.R (Kd.int .i64) 3 w' w.heap.size (fun k_ => some k_ ≠ (u10 : Value).ownBlock ∧ some k_ ≠ (v244 : Value).ownBlock ∧ some k_ ≠ ((.slice (some ad242) t232.length co16) : Value).ownBlock ∧ some k_ ≠ ((.slice Ao11 t222.length co11) : Value).ownBlock ∧ some k_ ≠ ((.slice Ao11 t222.length co11) : Value).ownBlock ∧ some k_ ≠ ((.slice Ao12 t225.length co12) : Value).ownBlock ∧ some k_ ≠ ((.slice Ao13 t228.length co13) : Value).ownBlock) v236 t235) ∧ Aside0 (Kd.R (Kd.int .i64) 3 w' w.heap.size (fun k_ => some k_ ≠ (v236 : Value).ownBlock ∧ some k_ ≠ (v244 : Value).ownBlock ∧ some k_ ≠ ((.slice (some ad242) t232.length co16) : Value).ownBlock ∧ some k_ ≠ ((.slice Ao11 t222.length co11) : Value).ownBlock ∧ some k_ ≠ ((.slice Ao11 t222.length co11) : Value).ownBlock ∧ some k_ ≠ ((.slice Ao12 t225.length co12) : Value).ownBlock ∧ some k_ ≠ ((.slice Ao13 t228.length co13) : Value).ownBlock) u10 x10_1) ∧ Aside0 (Kd.R (Kd.int .i64) 3 w' w.heap.size (fun k_ => some k_ ≠ (v236 : Value).ownBlock ∧ some k_ ≠ (u10 : Value).ownBlock ∧ some k_ ≠ ((.slice (some ad242) t232.length co16) : Value).ownBlock ∧ some k_ ≠ ((.slice Ao11 t222.length co11) : Value).ownBlock ∧ some k_ ≠ ((.slice Ao11 t222.length co11) : Value).ownBlock ∧ some k_ ≠ ((.slice Ao12 t225.length co12) : Value).ownBlock ∧ some k_ ≠ ((.slice Ao13 t228.length co13) : Value).ownBlock) v244 t243) ∧ Aside0 (Kd.R (Kd.int .i64) 3 w' w.heap.size (fun k_ => some k_ ≠ (v236 : Value).ownBlock ∧ some k_ ≠ (u10 : Value).ownBlock ∧ some k_ ≠ (v244 : Value).ownBlock ∧ some k_ ≠ ((.slice Ao11 t222.length co11) : Value).ownBlock ∧ some k_ ≠ ((.slice Ao11 t222.length co11) : Value).ownBlock ∧ some k_ ≠ ((.slice Ao12 t225.length co12) : Value).ownBlock ∧ some k_ ≠ ((.slice Ao13 t228.length co13) : Value).ownBlock) (.slice (some ad242) t232.length co16) t232) ∧ Aside0 (Kd.R (Kd.int .i64) 3 w' w.heap.size (fun k_ => some k_ ≠ (v236 : Value).ownBlock ∧ some k_ ≠ (u10 : Value).ownBlock ∧ some k_ ≠ (v244 : Value).ownBlock ∧ some k_ ≠ ((.slice (some ad242) t232.length co16) : Value).ownBlock ∧ some k_ ≠ ((.slice Ao12 t225.length co12) : Value).ownBlock ∧ some k_ ≠ ((.slice Ao13 t228.length co13) : Value).ownBlock) (.slice Ao11 t222.length co11) t222) ∧ Aside0 (Kd.R k50 50 w' w.heap.size (fun _ => True) (.slice Ao10 t219.length co10) t219) ∧ Aside0 (Kd.R (Kd.int .i64) 3 w' w.heap.size (fun k_ => some k_ ≠ (v236 : Value).ownBlock ∧ some k_ ≠ (u10 : Value).ownBlock ∧ some k_ ≠ (v244 : Value).ownBlock ∧ some k_ ≠ ((.slice (some ad242) t232.length co16) : Value).ownBlock ∧ some k_ ≠ ((.slice Ao12 t225.length co12) : Value).ownBlock ∧ some k_ ≠ ((.slice Ao13 t228.length co13) : Value).ownBlock) (.slice Ao11 t222.length co11) t222) ∧ Aside0 (Kd.R (Kd.int .i64) 3 w' w.heap.size (fun k_ => some k_ ≠ (v236 : Value).ownBlock ∧ some k_ ≠ (u10 : Value).ownBlock ∧ some k_ ≠ (v244 : Value).ownBlock ∧ some k_ ≠ ((.slice (some ad242) t232.length co16) : Value).ownBlock ∧ some k_ ≠ ((.slice Ao11 t222.length co11) : Value).ownBlock ∧ some k_ ≠ ((.slice Ao11 t222.length co11) : Value).ownBlock ∧ some k_ ≠ ((.slice Ao13 t228.length co13) : Value).ownBlock) (.slice Ao12 t225.length co12) t225) ∧ Aside0 (Kd.R (Kd.int .i64) 3 w' w.heap.size (fun k_ => some k_ ≠ (v236 : Value).ownBlock ∧ some k_ ≠ (u10 : Value).ownBlock ∧ some k_ ≠ (v244 : Value).ownBlock ∧ some k_ ≠ ((.slice (some ad242) t232.length co16) : Value).ownBlock ∧ some k_ ≠ ((.slice Ao11 t222.length co11) : Value).ownBlock ∧ some k_ ≠ ((.slice Ao11 t222.length co11) : Value).ownBlock ∧ some k_ ≠ ((.slice Ao12 t225.length co12) : Value).ownBlock) (.slice Ao13 t228.length co13) t228) ∧ Aside0 (w'.heap[gb231]? = some (.cells #[.int .i64 t218, (.slice Ao10 t219.length co10), (.slice Ao11 t222.length co11), (.slice Ao12 t225.length co12), (.slice Ao13 t228.length co13)] 38 (0, 0))) ∧ Aside0 (Below w.heap.size w w'))
                  case atStart => exact ⟨(0), (0), (by first | rfl | (simp; done) | (simp [*]; done)), (by first | rfl | (simp; done) | (simp [*]; done)), H', ⟨Nat.le_refl _⟩, ⟨by (with_reducible repeat (first | apply Kd.R_alloc | apply Kd.R_drewN | apply Kd.R_drew)); exact Kd.R_mono HO_7.out (fun _ hk => ⟨hk.1, ⟨hk.2.1, ⟨hk.2.2.1, ⟨hk.2.2.2.1, ⟨hk.2.2.2.1, ⟨hk.2.2.2.2.1, hk.2.2.2.2.2⟩⟩⟩⟩⟩⟩)⟩, ⟨by (with_reducible repeat (first | apply Kd.R_alloc | apply Kd.R_drewN | apply Kd.R_drew)); exact Kd.R_mono HO_10.out (fun _ hk => ⟨hk.1, ⟨hk.2.1, ⟨hk.2.2.1, ⟨hk.2.2.2.1, ⟨hk.2.2.2.1, ⟨hk.2.2.2.2.1, hk.2.2.2.2.2⟩⟩⟩⟩⟩⟩)⟩, ⟨by (with_reducible repeat (first | apply Kd.R_alloc | apply Kd.R_drewN | apply Kd.R_drew)); exact Kd.R_mono HO_13.out (fun _ hk => ⟨hk.1, ⟨hk.2.1, ⟨hk.2.2.1, ⟨hk.2.2.2.1, ⟨hk.2.2.2.1, ⟨hk.2.2.2.2.1, hk.2.2.2.2.2⟩⟩⟩⟩⟩⟩)⟩, ⟨by (with_reducible repeat (first | apply Kd.R_alloc | apply Kd.R_drewN | apply Kd.R_drew)); exact Kd.R_mono HO_33.out (fun _ hk => ⟨hk.1, ⟨hk.2.1, ⟨hk.2.2.1, ⟨hk.2.2.2.1, ⟨hk.2.2.2.1, ⟨hk.2.2.2.2.1, hk.2.2.2.2.2⟩⟩⟩⟩⟩⟩)⟩, ⟨by (with_reducible repeat (first | apply Kd.R_alloc | apply Kd.R_drewN | apply Kd.R_drew)); exact HO_232002.out⟩, ⟨by (with_reducible repeat (first | apply Kd.R_alloc | apply Kd.R_drewN | apply Kd.R_drew)); exact HO_232001.out⟩, ⟨by (with_reducible repeat (first | apply Kd.R_alloc | apply Kd.R_drewN | apply Kd.R_drew)); exact HO_232002.out⟩, ⟨by (with_reducible repeat (first | apply Kd.R_alloc | apply Kd.R_drewN | apply Kd.R_drew)); exact Kd.R_mono HO_232003.out (fun _ hk => ⟨hk.1, ⟨hk.2.1, ⟨hk.2.2.1, ⟨hk.2.2.2.1, ⟨hk.2.2.2.2.1, ⟨hk.2.2.2.2.1, hk.2.2.2.2.2⟩⟩⟩⟩⟩⟩)⟩, ⟨by (with_reducible repeat (first | apply Kd.R_alloc | apply Kd.R_drewN | apply Kd.R_drew)); exact Kd.R_mono HO_232004.out (fun _ hk => ⟨hk.1, ⟨hk.2.1, ⟨hk.2.2.1, ⟨hk.2.2.2.1, ⟨hk.2.2.2.2.1, ⟨hk.2.2.2.2.1, hk.2.2.2.2.2⟩⟩⟩⟩⟩⟩)⟩, ⟨by (with_reducible repeat (first | refine blk_drewN ?_ _ | refine blk_drew ?_ | refine blk_alloc ?_ _)); exact BK231.out⟩, ⟨by repeat (first | (with_reducible first | exact HB.out | apply below_alloc | apply pw_below_drewN | apply below_drew1 | refine below_set ?_ GE231.out) | exact HB.out)⟩⟩
                  case round =>
                    clear H'
                    try clear c1
                    try clear c2
                    try clear p2
                    try clear q2
                    try clear hx2
                    try clear c3
                    try clear p3
                    try clear c4
                    try clear c18
                    try clear c19
                    try clear c20
                    try clear c20b0
                    try clear c21
                    try clear c21b0
                    try clear c22
                    try clear c22b0
                    try clear p24
                    try clear q24
                    try clear hx24
                    try clear c27
                    try clear c27b0
                    try clear c27b1
                    try clear c30
                    try clear hcz15_0
                    try clear hcz15_1
                    try clear hcz15_2
                    try clear hcz15_3
                    try clear hcz15_4
                    try clear hcz18_0
                    try clear hcz18_1
                    try clear hcz18_2
                    try clear hcz18_3
                    try clear hcz18_4
                    try clear hcz25_0
                    try clear hcz25_1
                    try clear hcz25_2
                    try clear hcz25_3
                    try clear hcz25_4
                    try clear hcz29_0
                    try clear hcz29_1
                    try clear hcz29_2
                    try clear hcz29_3
                    try clear hcz29_4
                    try clear hcz31_0
                    try clear hcz31_1
                    try clear hcz31_2
                    try clear hcz31_3
                    try clear hcz31_4
                    try clear hcz9_0
                    try clear hcz9_1
                    try clear hcz9_2
                    try clear hcz9_3
                    try clear hcz9_4
                    try clear hfz15_0
                    try clear hfz15_1
                    try clear hfz15_2
                    try clear hfz15_3
                    try clear hfz15_4
                    try clear hfz18_0
                    try clear hfz18_1
                    try clear hfz18_2
                    try clear hfz18_3
                    try clear hfz18_4
                    try clear hfz25_0
                    try clear hfz25_1
                    try clear hfz25_2
                    try clear hfz25_3
                    try clear hfz25_4
                    try clear hfz29_0
                    try clear hfz29_1
                    try clear hfz29_2
                    try clear hfz29_3
                    try clear hfz29_4
                    try clear hfz31_0
                    try clear hfz31_1
                    try clear hfz31_2
                    try clear hfz31_3
                    try clear hfz31_4
                    try clear hfz9_0
                    try clear hfz9_1
                    try clear hfz9_2
                    try clear hfz9_3
                    try clear hfz9_4
                    try clear hx242_0
                    try clear p2
                    try clear p24
                    try clear p242
                    try clear p3
                    try clear q2
                    try clear q24
                    try clear q242
                    obtain ⟨x15_3, x59_3, rfl, rfl, HA, HK3, HO_7, HO_10, HO_13, HO_33, HO_57, HO_232001, HO_232002, HO_232003, HO_232004, BK231, HB⟩ := hrel
                    cases gk with
                    | zero => exact absurd HA.out (by simp [bakekeep3_GateSteps.l1])
                    | succ k3 =>
                      have H := HA.out
                      clear HA
                      simp only [bakekeep3_GateSteps.l1] at H
                      by_cases c32 : x59_3 < (t222.length : Int)
                      · rw [if_pos c32] at H
                        have c32b0 : decide (x59_3 < (t222.length : Int)) = true := decide_eq_true c32
                        clear c32
                        by_cases c33 : 0 ≤ x59_3
                        · rw [if_pos c33] at H
                          have c33b0 : decide (0 ≤ x59_3) = true := decide_eq_true c33
                          clear c33
                          by_cases c34 : x59_3 < (t222.length : Int)
                          · rw [if_pos c34] at H
                            have c34b0 : decide (x59_3 < (t222.length : Int)) = true := decide_eq_true c34
                            clear c34
                            by_cases c35 : 0 ≤ (rd t222 x59_3)
                            · rw [if_pos c35] at H
                              have c35b0 : decide (0 ≤ (rd t222 x59_3)) = true := decide_eq_true c35
                              clear c35
                              by_cases c36 : (rd t222 x59_3) < (t243.length : Int)
                              · rw [if_pos c36] at H
                                have c36b0 : decide ((rd t222 x59_3) < (t243.length : Int)) = true := decide_eq_true c36
                                clear c36
                                have c37b0 := eq_true (of_decide_eq_true (by first | (with_reducible assumption) | assumption) : 0 ≤ x59_3)
                                obtain ⟨ji38, hji38⟩ : ∃ j_ : Int, (shl .i64 (rd t243 (rd t222 x59_3)) x59_3) = j_ := ⟨_, rfl⟩
                                replace H : (bakekeep3_GateSteps.l1 k3 t235 t238 x9_1 x10_1 (rd t232 x35_1) t243 (Go.bits .or .i64 x15_3 (ji38)) t232 (t232.length : Int) x35_1 t222 (t222.length : Int) (wrap64 (x59_3 + 1)) t218 t219 t222 t225 t228) = some r := by first | (rw [hji38] at H; exact H) | (simp only [hji38] at H ⊢; exact H)
                                have hji38_ : (IntKind.i64.wrap ((rd t243 (rd t222 x59_3)) * 2 ^ min x59_3.toNat 64)) = ji38 := hji38
                                have hji38z : x59_3 ≤ 64 → (IntKind.i64.wrap ((rd t243 (rd t222 x59_3)) * 2 ^ x59_3.toNat)) = ji38 := shl_small hji38
                                have hji38y : (wrap64 ((rd t243 (rd t222 x59_3)) * 2 ^ min x59_3.toNat 64)) = ji38 := (i64_w _).symm.trans hji38_
                                have hji38x : x59_3 ≤ 64 → (wrap64 ((rd t243 (rd t222 x59_3)) * 2 ^ x59_3.toNat)) = ji38 := fun h_ => (i64_w _).symm.trans (hji38z h_)
                                have H' := Aside0.mk H
                                clear H
                                have p247 : 0 ≤ (x59_3 : Int) := of_decide_eq_true (by first | (with_reducible assumption) | assumption)
                                have q247 : x59_3 < (t222.length : Int) := of_decide_eq_true (by first | (with_reducible assumption) | assumption)
                                obtain ⟨ad247, e247, hx247_0⟩ := Kd.at_int (Kd.R_reads' HO_57.out).2.2 x59_3 p247 q247
                                cases e247
                                replace p247 := eq_true p247
                                replace q247 := eq_true q247
                                obtain ⟨Ao39, co39, eo39⟩ := Kd.R_slice HO_13.out
                                subst eo39
                                have p248 : 0 ≤ ((rd t222 x59_3) : Int) := of_decide_eq_true (by first | (with_reducible assumption) | assumption)
                                have q248 : (rd t222 x59_3) < (t243.length : Int) := of_decide_eq_true (by first | (with_reducible assumption) | assumption)
                                obtain ⟨ad248, e248, hx248_0⟩ := Kd.at_int (Kd.R_reads' HO_13.out).2.2 (rd t222 x59_3) p248 q248
                                cases e248
                                replace p248 := eq_true p248
                                replace q248 := eq_true q248
                                go_wp2
                                go_roundg k3
                                case measure => have := HK1.out; have := HJ23.out; have := HK3.out; omega
                                case rel => exact ⟨(Go.bits .or .i64 x15_3 (ji38)), (wrap64 (x59_3 + 1)), (by first | rfl | (simp; done) | (simp only [← hji38] <;> (first | rfl | simp)) | (simp [*]; done)), (by first | rfl | (simp; done) | (simp [*]; done)), H', ⟨by have := HK1.out; have := HJ23.out; have := HK3.out; omega⟩, ⟨by (with_reducible repeat (first | apply Kd.R_alloc | apply Kd.R_drewN | apply Kd.R_drew)); exact HO_7.out⟩, ⟨by (with_reducible repeat (first | apply Kd.R_alloc | apply Kd.R_drewN | apply Kd.R_drew)); exact HO_10.out⟩, ⟨by (with_reducible repeat (first | apply Kd.R_alloc | apply Kd.R_drewN | apply Kd.R_drew)); exact HO_13.out⟩, ⟨by (with_reducible repeat (first | apply Kd.R_alloc | apply Kd.R_drewN | apply Kd.R_drew)); exact HO_33.out⟩, ⟨by (with_reducible repeat (first | apply Kd.R_alloc | apply Kd.R_drewN | apply Kd.R_drew)); exact HO_57.out⟩, ⟨by (with_reducible repeat (first | apply Kd.R_alloc | apply Kd.R_drewN | apply Kd.R_drew)); exact HO_232001.out⟩, ⟨by (with_reducible repeat (first | apply Kd.R_alloc | apply Kd.R_drewN | apply Kd.R_drew)); exact HO_232002.out⟩, ⟨by (with_reducible repeat (first | apply Kd.R_alloc | apply Kd.R_drewN | apply Kd.R_drew)); exact HO_232003.out⟩, ⟨by (with_reducible repeat (first | apply Kd.R_alloc | apply Kd.R_drewN | apply Kd.R_drew)); exact HO_232004.out⟩, ⟨by (with_reducible repeat (first | refine blk_drewN ?_ _ | refine blk_drew ?_ | refine blk_alloc ?_ _)); exact BK231.out⟩, ⟨by repeat (first | (with_reducible first | exact HB.out | apply below_alloc | apply pw_below_drewN | apply below_drew1 | refine below_set ?_ GE231.out) | exact HB.out)⟩⟩
                              · rw [if_neg c36] at H
                                exact absurd H (by simp)
                            · rw [if_neg c35] at H
                              exact absurd H (by simp)
                          · rw [if_neg c34] at H
                            exact absurd H (by simp)
                        · rw [if_neg c33] at H
                          exact absurd H (by simp)
                      · rw [if_neg c32] at H
                        have c32b0 : decide (x59_3 < (t222.length : Int)) = false := decide_eq_false c32
                        clear c32
                        replace H := Option.bind_eq_some_iff.mp H
                        obtain ⟨⟨t249, t250⟩, A400, H⟩ := H
                        replace H : (if t249 = x15_3 then (if x10_1.length < 17592186044416 then (bakekeep3_GateSteps.l0 k3 t235 t238 t250 (x10_1 ++ [t249]) t232 (t232.length : Int) (wrap64 (x35_1 + 1)) t218 t219 t222 t225 t228) else (none)) else (some false)) = some r := H
                        have A40 := Aside0.mk A400
                        clear A400
                        by_cases c41 : t249 = x15_3
                        · rw [if_pos c41] at H
                          have c41b0 : (t249 == x15_3) = true := beq_iff_eq.mpr c41
                          have c41b1 : (t249 != x15_3) = false := bne_eq_false_iff_eq.mpr c41
                          clear c41
                          by_cases c42 : x10_1.length < 17592186044416
                          · rw [if_pos c42] at H
                            have LMc42 := Aside0.mk c42
                            clear c42
                            obtain ⟨y251, hy251⟩ : ∃ y_ : List Int, y_ = (x10_1 ++ [t249]) := ⟨_, rfl⟩
                            replace H : (bakekeep3_GateSteps.l0 k3 t235 t238 t250 y251 t232 (t232.length : Int) (wrap64 (x35_1 + 1)) t218 t219 t222 t225 t228) = some r := by first | (rw [hy251]; with_reducible exact H) | (have H2_ := (Option.bind_some _ _).symm.trans H; rw [hy251]; with_reducible exact H2_) | (have H2_ := (Option.bind_some _ _).symm.trans H; with_reducible exact H2_) | with_reducible exact H | (rw [hy251]; exact H) | exact H
                            have Ny251 := Aside0.mk hy251
                            clear hy251
                            have H' := Aside0.mk H
                            clear H
                            have hcz43_0 : wr.cell? ⟨gb231, 0, none⟩ = some (.int .i64 t218) := (blk_cell BK231.out 0).trans rfl
                            have hcz43_1 : wr.cell? ⟨gb231, 1, none⟩ = some (.slice Ao10 t219.length co10) := (blk_cell BK231.out 1).trans rfl
                            have hcz43_2 : wr.cell? ⟨gb231, 2, none⟩ = some (.slice Ao11 t222.length co11) := (blk_cell BK231.out 2).trans rfl
                            have hcz43_3 : wr.cell? ⟨gb231, 3, none⟩ = some (.slice Ao12 t225.length co12) := (blk_cell BK231.out 3).trans rfl
                            have hcz43_4 : wr.cell? ⟨gb231, 4, none⟩ = some (.slice Ao13 t228.length co13) := (blk_cell BK231.out 4).trans rfl
                            have hfz43_0 := blk_frozen BK231.out 0
                            have hfz43_1 := blk_frozen BK231.out 1
                            have hfz43_2 := blk_frozen BK231.out 2
                            have hfz43_3 := blk_frozen BK231.out 3
                            have hfz43_4 := blk_frozen BK231.out 4
                            go_wp2_with (first | ((with_reducible refine gate_callee (f := 23) rfl ?_); refine goesL_ (some 77) rfl rfl Try.func23 (by kernel_rfl) rfl #[.agg #[.int .i64 t218, .slice Ao10 t219.length co10, .slice Ao11 t222.length co11, .slice Ao12 t225.length co12, .slice Ao13 t228.length co13], .int .i64 x9_1, .int .i64 (rd t232 x35_1)] rfl (by (try simp only [List.map_toArray, List.map_cons, List.map_nil]); first | done | rfl | (simp only [List.length_drop, List.length_take]; rfl)) ?_; (with_reducible refine (gate_Step.calls k3 t218 _ _ t219 _ _ t222 _ _ t225 _ _ t228 x9_1 (rd t232 x35_1) t249 t250 _ ?side1 ?side2 ?side3 ?side4 ?side5 ?side6 ?side7 ?side8 A40.out).mono ?_); (case side1 => repeat (first | exact (Kd.R_reads' HO_232001.out).2.2 | (with_reducible refine Kd.C_alloc ?_ _) | (with_reducible refine Kd.C_drewN ?_ _) | (with_reducible refine Kd.C_drew ?_))); (case side2 => exact (Kd.R_reads' HO_232001.out).2.1); (case side3 => repeat (first | exact (Kd.R_reads' HO_232002.out).2.2 | (with_reducible refine Kd.C_alloc ?_ _) | (with_reducible refine Kd.C_drewN ?_ _) | (with_reducible refine Kd.C_drew ?_))); (case side4 => exact (Kd.R_reads' HO_232002.out).2.1); (case side5 => repeat (first | exact (Kd.R_reads' HO_232003.out).2.2 | (with_reducible refine Kd.C_alloc ?_ _) | (with_reducible refine Kd.C_drewN ?_ _) | (with_reducible refine Kd.C_drew ?_))); (case side6 => exact (Kd.R_reads' HO_232003.out).2.1); (case side7 => repeat (first | exact (Kd.R_reads' HO_232004.out).2.2 | (with_reducible refine Kd.C_alloc ?_ _) | (with_reducible refine Kd.C_drewN ?_ _) | (with_reducible refine Kd.C_drew ?_))); (case side8 => exact (Kd.R_reads' HO_232004.out).2.1); rintro e w44 ⟨rfl, hb⟩; refine ⟨_, rfl, ?_⟩; have n0_ := Aside0.mk (Kd.R_below (by (with_reducible repeat (first | apply Kd.R_alloc | apply Kd.R_drewN | apply Kd.R_drew)); exact HO_7.out) hb); have n1_ := Aside0.mk (Kd.R_below (by (with_reducible repeat (first | apply Kd.R_alloc | apply Kd.R_drewN | apply Kd.R_drew)); exact HO_10.out) hb); have n2_ := Aside0.mk (Kd.R_below (by (with_reducible repeat (first | apply Kd.R_alloc | apply Kd.R_drewN | apply Kd.R_drew)); exact HO_13.out) hb); have n3_ := Aside0.mk (Kd.R_below (by (with_reducible repeat (first | apply Kd.R_alloc | apply Kd.R_drewN | apply Kd.R_drew)); exact HO_33.out) hb); have n4_ := Aside0.mk (Kd.R_below (by (with_reducible repeat (first | apply Kd.R_alloc | apply Kd.R_drewN | apply Kd.R_drew)); exact HO_57.out) hb); have n5_ := Aside0.mk (Kd.R_below (by (with_reducible repeat (first | apply Kd.R_alloc | apply Kd.R_drewN | apply Kd.R_drew)); exact HO_232001.out) hb); have n6_ := Aside0.mk (Kd.R_below (by (with_reducible repeat (first | apply Kd.R_alloc | apply Kd.R_drewN | apply Kd.R_drew)); exact HO_232002.out) hb); have n7_ := Aside0.mk (Kd.R_below (by (with_reducible repeat (first | apply Kd.R_alloc | apply Kd.R_drewN | apply Kd.R_drew)); exact HO_232003.out) hb); have n8_ := Aside0.mk (Kd.R_below (by (with_reducible repeat (first | apply Kd.R_alloc | apply Kd.R_drewN | apply Kd.R_drew)); exact HO_232004.out) hb); have n9_ := Aside0.mk (blk_below (g := gb231) (o := .cells #[.int .i64 t218, .slice Ao10 t219.length co10, .slice Ao11 t222.length co11, .slice Ao12 t225.length co12, .slice Ao13 t228.length co13] 38 (0, 0)) (by (with_reducible repeat (first | refine blk_drewN ?_ _ | refine blk_drew ?_ | refine blk_alloc ?_ _)); exact BK231.out) hb); have n10_ := Aside0.mk (below_step (by repeat (first | (with_reducible first | exact HB.out | apply below_alloc | apply pw_below_drewN | apply below_drew1 | refine below_set ?_ GE231.out) | exact HB.out)) hb); clear HO_7; clear HO_10; clear HO_13; clear HO_33; clear HO_57; clear HO_232001; clear HO_232002; clear HO_232003; clear HO_232004; clear BK231; clear HB; have HO_7 := n0_; have HO_10 := n1_; have HO_13 := n2_; have HO_33 := n3_; have HO_57 := n4_; have HO_232001 := n5_; have HO_232002 := n6_; have HO_232003 := n7_; have HO_232004 := n8_; have BK231 := n9_; have HB := n10_; clear n0_ n1_ n2_ n3_ n4_ n5_ n6_ n7_ n8_ n9_ n10_; (try clear hb); (try clear hb2); (try clear hk); (try clear hi)) | ((with_reducible refine gate_builtin (b := .append) (xs := #[.tmp 83, .tmp 85]) rfl ?_); (try (refine gate_guard (by rfl) ?_; dsimp only)); at_builtin; refine Kd.R_append (Kd.int .i64) (w0 := w) w.heap.size rfl (.tmp 83) (.tmp 85) 22 3 (.int .i64 0) 8 rfl Try.underlying22 info3 rfl (by decide) (by omega) u10 x10_1 t249 [.int .i64 t249] (fun k_ => some k_ ≠ (v236 : Value).ownBlock ∧ some k_ ≠ (v244 : Value).ownBlock ∧ some k_ ≠ (.slice (some ad242) t232.length co16 : Value).ownBlock ∧ some k_ ≠ (.slice Ao11 t222.length co11 : Value).ownBlock ∧ some k_ ≠ (.slice Ao11 t222.length co11 : Value).ownBlock ∧ some k_ ≠ (.slice Ao12 t225.length co12 : Value).ownBlock ∧ some k_ ≠ (.slice Ao13 t228.length co13 : Value).ownBlock) (fun _ => False) rfl rfl ?aP (fun _ hk => hk.elim) ?aF ?aO ?aB ?aS ?aL ?_; (case aP => exact rfl); (case aB => exact (by repeat (first | (with_reducible first | exact HB.out | apply below_alloc | apply pw_below_drewN | apply below_drew1 | refine below_set ?_ GE231.out) | exact HB.out))); (case aF => exact (fun k_ hk => ⟨Kd.fresh' (Kd.R_lt (by (with_reducible repeat (first | apply Kd.R_alloc | apply Kd.R_drewN | apply Kd.R_drew)); exact HO_7.out)) k_ hk, Kd.fresh' (Kd.R_lt (by (with_reducible repeat (first | apply Kd.R_alloc | apply Kd.R_drewN | apply Kd.R_drew)); exact HO_13.out)) k_ hk, Kd.fresh' (Kd.R_lt (by (with_reducible repeat (first | apply Kd.R_alloc | apply Kd.R_drewN | apply Kd.R_drew)); exact HO_33.out)) k_ hk, Kd.fresh' (Kd.R_lt (by (with_reducible repeat (first | apply Kd.R_alloc | apply Kd.R_drewN | apply Kd.R_drew)); exact HO_57.out)) k_ hk, Kd.fresh' (Kd.R_lt (by (with_reducible repeat (first | apply Kd.R_alloc | apply Kd.R_drewN | apply Kd.R_drew)); exact HO_232002.out)) k_ hk, Kd.fresh' (Kd.R_lt (by (with_reducible repeat (first | apply Kd.R_alloc | apply Kd.R_drewN | apply Kd.R_drew)); exact HO_232003.out)) k_ hk, Kd.fresh' (Kd.R_lt (by (with_reducible repeat (first | apply Kd.R_alloc | apply Kd.R_drewN | apply Kd.R_drew)); exact HO_232004.out)) k_ hk⟩)); (case aO => exact (by (with_reducible repeat (first | apply Kd.R_alloc | apply Kd.R_drewN | apply Kd.R_drew)); exact HO_10.out)); (case aS => exact (below_size (by repeat (first | (with_reducible first | exact HB.out | apply below_alloc | apply pw_below_drewN | apply below_drew1 | refine below_set ?_ GE231.out) | exact HB.out)))); (case aL => have := LMc42.out; omega); intro v252 w45 ho hb hg hat; rw [← Ny251.out] at ho; have n0_ := Aside0.mk (Kd.R_after (ok := (fun k_ => some k_ ≠ (v244 : Value).ownBlock ∧ some k_ ≠ (.slice (some ad242) t232.length co16 : Value).ownBlock ∧ some k_ ≠ (.slice Ao11 t222.length co11 : Value).ownBlock ∧ some k_ ≠ (.slice Ao11 t222.length co11 : Value).ownBlock ∧ some k_ ≠ (.slice Ao12 t225.length co12 : Value).ownBlock ∧ some k_ ≠ (.slice Ao13 t228.length co13 : Value).ownBlock)) (by (with_reducible repeat (first | apply Kd.R_alloc | apply Kd.R_drewN | apply Kd.R_drew)); exact Kd.R_mono HO_7.out (fun _ hk => ⟨⟨hk.2.1, ⟨hk.2.2.1, ⟨hk.2.2.2.1, ⟨hk.2.2.2.2.1, ⟨hk.2.2.2.2.2.1, hk.2.2.2.2.2.2⟩⟩⟩⟩⟩, hk.1⟩)) hg hat); have n1_ := Aside0.mk (Kd.R_after (ok := (fun k_ => some k_ ≠ (v236 : Value).ownBlock ∧ some k_ ≠ (.slice (some ad242) t232.length co16 : Value).ownBlock ∧ some k_ ≠ (.slice Ao11 t222.length co11 : Value).ownBlock ∧ some k_ ≠ (.slice Ao11 t222.length co11 : Value).ownBlock ∧ some k_ ≠ (.slice Ao12 t225.length co12 : Value).ownBlock ∧ some k_ ≠ (.slice Ao13 t228.length co13 : Value).ownBlock)) (by (with_reducible repeat (first | apply Kd.R_alloc | apply Kd.R_drewN | apply Kd.R_drew)); exact Kd.R_mono HO_13.out (fun _ hk => ⟨⟨hk.1, ⟨hk.2.2.1, ⟨hk.2.2.2.1, ⟨hk.2.2.2.2.1, ⟨hk.2.2.2.2.2.1, hk.2.2.2.2.2.2⟩⟩⟩⟩⟩, hk.2.1⟩)) hg hat); have n2_ := Aside0.mk (Kd.R_after (ok := (fun k_ => some k_ ≠ (v236 : Value).ownBlock ∧ some k_ ≠ (v244 : Value).ownBlock ∧ some k_ ≠ (.slice Ao11 t222.length co11 : Value).ownBlock ∧ some k_ ≠ (.slice Ao11 t222.length co11 : Value).ownBlock ∧ some k_ ≠ (.slice Ao12 t225.length co12 : Value).ownBlock ∧ some k_ ≠ (.slice Ao13 t228.length co13 : Value).ownBlock)) (by (with_reducible repeat (first | apply Kd.R_alloc | apply Kd.R_drewN | apply Kd.R_drew)); exact Kd.R_mono HO_33.out (fun _ hk => ⟨⟨hk.1, ⟨hk.2.2.1, ⟨hk.2.2.2.1, ⟨hk.2.2.2.2.1, ⟨hk.2.2.2.2.2.1, hk.2.2.2.2.2.2⟩⟩⟩⟩⟩, hk.2.1⟩)) hg hat); have n3_ := Aside0.mk (Kd.R_after (ok := (fun k_ => some k_ ≠ (v236 : Value).ownBlock ∧ some k_ ≠ (v244 : Value).ownBlock ∧ some k_ ≠ (.slice (some ad242) t232.length co16 : Value).ownBlock ∧ some k_ ≠ (.slice Ao12 t225.length co12 : Value).ownBlock ∧ some k_ ≠ (.slice Ao13 t228.length co13 : Value).ownBlock)) (by (with_reducible repeat (first | apply Kd.R_alloc | apply Kd.R_drewN | apply Kd.R_drew)); exact Kd.R_mono HO_57.out (fun _ hk => ⟨⟨hk.1, ⟨hk.2.2.1, ⟨hk.2.2.2.1, ⟨hk.2.2.2.2.1, hk.2.2.2.2.2⟩⟩⟩⟩, hk.2.1⟩)) hg hat); have n4_ := Aside0.mk (Kd.R_over' (by (with_reducible repeat (first | apply Kd.R_alloc | apply Kd.R_drewN | apply Kd.R_drew)); exact HO_232001.out) (Kd.R_typed (by (with_reducible repeat (first | apply Kd.R_alloc | apply Kd.R_drewN | apply Kd.R_drew)); exact HO_10.out)) (by decide) hg); have n5_ := Aside0.mk (Kd.R_after (ok := (fun k_ => some k_ ≠ (v236 : Value).ownBlock ∧ some k_ ≠ (v244 : Value).ownBlock ∧ some k_ ≠ (.slice (some ad242) t232.length co16 : Value).ownBlock ∧ some k_ ≠ (.slice Ao12 t225.length co12 : Value).ownBlock ∧ some k_ ≠ (.slice Ao13 t228.length co13 : Value).ownBlock)) (by (with_reducible repeat (first | apply Kd.R_alloc | apply Kd.R_drewN | apply Kd.R_drew)); exact Kd.R_mono HO_232002.out (fun _ hk => ⟨⟨hk.1, ⟨hk.2.2.1, ⟨hk.2.2.2.1, ⟨hk.2.2.2.2.1, hk.2.2.2.2.2⟩⟩⟩⟩, hk.2.1⟩)) hg hat); have n6_ := Aside0.mk (Kd.R_after (ok := (fun k_ => some k_ ≠ (v236 : Value).ownBlock ∧ some k_ ≠ (v244 : Value).ownBlock ∧ some k_ ≠ (.slice (some ad242) t232.length co16 : Value).ownBlock ∧ some k_ ≠ (.slice Ao11 t222.length co11 : Value).ownBlock ∧ some k_ ≠ (.slice Ao11 t222.length co11 : Value).ownBlock ∧ some k_ ≠ (.slice Ao13 t228.length co13 : Value).ownBlock)) (by (with_reducible repeat (first | apply Kd.R_alloc | apply Kd.R_drewN | apply Kd.R_drew)); exact Kd.R_mono HO_232003.out (fun _ hk => ⟨⟨hk.1, ⟨hk.2.2.1, ⟨hk.2.2.2.1, ⟨hk.2.2.2.2.1, ⟨hk.2.2.2.2.2.1, hk.2.2.2.2.2.2⟩⟩⟩⟩⟩, hk.2.1⟩)) hg hat); have n7_ := Aside0.mk (Kd.R_after (ok := (fun k_ => some k_ ≠ (v236 : Value).ownBlock ∧ some k_ ≠ (v244 : Value).ownBlock ∧ some k_ ≠ (.slice (some ad242) t232.length co16 : Value).ownBlock ∧ some k_ ≠ (.slice Ao11 t222.length co11 : Value).ownBlock ∧ some k_ ≠ (.slice Ao11 t222.length co11 : Value).ownBlock ∧ some k_ ≠ (.slice Ao12 t225.length co12 : Value).ownBlock)) (by (with_reducible repeat (first | apply Kd.R_alloc | apply Kd.R_drewN | apply Kd.R_drew)); exact Kd.R_mono HO_232004.out (fun _ hk => ⟨⟨hk.1, ⟨hk.2.2.1, ⟨hk.2.2.2.1, ⟨hk.2.2.2.2.1, ⟨hk.2.2.2.2.2.1, hk.2.2.2.2.2.2⟩⟩⟩⟩⟩, hk.2.1⟩)) hg hat); have n8_ := Aside0.mk (blk_grown (g := gb231) (o := .cells #[.int .i64 t218, .slice Ao10 t219.length co10, .slice Ao11 t222.length co11, .slice Ao12 t225.length co12, .slice Ao13 t228.length co13] 38 (0, 0)) (by (with_reducible repeat (first | refine blk_drewN ?_ _ | refine blk_drew ?_ | refine blk_alloc ?_ _)); exact BK231.out) hg (Kd.R_ne HO_10.out BK231.out (by decide))); have n9_ := Aside0.mk (hb); have n10_ := Aside0.mk (ho); clear HO_7; clear HO_13; clear HO_33; clear HO_57; clear HO_232001; clear HO_232002; clear HO_232003; clear HO_232004; clear BK231; clear HB; clear HO_10; have HO_7 := n0_; have HO_13 := n1_; have HO_33 := n2_; have HO_57 := n3_; have HO_232001 := n4_; have HO_232002 := n5_; have HO_232003 := n6_; have HO_232004 := n7_; have BK231 := n8_; have HB := n9_; have HO253 := n10_; clear n0_ n1_ n2_ n3_ n4_ n5_ n6_ n7_ n8_ n9_ n10_; clear ho hb hg hat))
                            go_roundg k3
                            case measure => have := HK1.out; have := HJ23.out; have := HK3.out; omega
                            case rel => exact ⟨(t250), (y251), (wrap64 (x35_1 + 1)), (by first | rfl | (simp; done) | (simp [*]; done)), (by first | rfl | (simp; done) | (simp [*]; done)), H', ⟨by have := HK1.out; have := HJ23.out; have := HK3.out; omega⟩, ⟨by (with_reducible repeat (first | apply Kd.R_alloc | apply Kd.R_drewN | apply Kd.R_drew)); exact Kd.R_mono HO_7.out (fun _ hk => ⟨hk.2, ⟨hk.1.2.1, ⟨hk.1.2.2.2.1, ⟨hk.1.2.2.2.2.1, hk.1.2.2.2.2.2⟩⟩⟩⟩)⟩, ⟨by (with_reducible repeat (first | apply Kd.R_alloc | apply Kd.R_drewN | apply Kd.R_drew)); exact Kd.R_mono HO253.out (fun _ hk => ⟨hk.1, ⟨hk.2.2.1, ⟨hk.2.2.2.2.1, ⟨hk.2.2.2.2.2.1, hk.2.2.2.2.2.2⟩⟩⟩⟩)⟩, ⟨by (with_reducible repeat (first | apply Kd.R_alloc | apply Kd.R_drewN | apply Kd.R_drew)); exact Kd.R_mono HO_33.out (fun _ hk => ⟨hk.1.1, ⟨hk.2, ⟨hk.1.2.2.2.1, ⟨hk.1.2.2.2.2.1, hk.1.2.2.2.2.2⟩⟩⟩⟩)⟩, ⟨by (with_reducible repeat (first | apply Kd.R_alloc | apply Kd.R_drewN | apply Kd.R_drew)); exact HO_232001.out⟩, ⟨by (with_reducible repeat (first | apply Kd.R_alloc | apply Kd.R_drewN | apply Kd.R_drew)); exact Kd.R_mono HO_232002.out (fun _ hk => ⟨hk.1.1, ⟨hk.2, ⟨hk.1.2.2.1, ⟨hk.1.2.2.2.1, hk.1.2.2.2.2⟩⟩⟩⟩)⟩, ⟨by (with_reducible repeat (first | apply Kd.R_alloc | apply Kd.R_drewN | apply Kd.R_drew)); exact Kd.R_mono HO_232003.out (fun _ hk => ⟨hk.1.1, ⟨hk.2, ⟨hk.1.2.2.1, ⟨hk.1.2.2.2.2.1, hk.1.2.2.2.2.2⟩⟩⟩⟩)⟩, ⟨by (with_reducible repeat (first | apply Kd.R_alloc | apply Kd.R_drewN | apply Kd.R_drew)); exact Kd.R_mono HO_232004.out (fun _ hk => ⟨hk.1.1, ⟨hk.2, ⟨hk.1.2.2.1, ⟨hk.1.2.2.2.2.1, hk.1.2.2.2.2.2⟩⟩⟩⟩)⟩, ⟨by (with_reducible repeat (first | refine blk_drewN ?_ _ | refine blk_drew ?_ | refine blk_alloc ?_ _)); exact BK231.out⟩, ⟨by repeat (first | (with_reducible first | exact HB.out | apply below_alloc | apply pw_below_drewN | apply below_drew1 | refine below_set ?_ GE231.out) | exact HB.out)⟩⟩
                          · rw [if_neg c42] at H
                            exact absurd H (by simp)
                        · rw [if_neg c41] at H
                          have c41b0 : (t249 == x15_3) = false := beq_eq_false_iff_ne.mpr c41
                          have c41b1 : (t249 != x15_3) = true := bne_iff_ne.mpr c41
                          obtain rfl := Option.some.inj H
                          have hcz46_0 : wr.cell? ⟨gb231, 0, none⟩ = some (.int .i64 t218) := (blk_cell BK231.out 0).trans rfl
                          have hcz46_1 : wr.cell? ⟨gb231, 1, none⟩ = some (.slice Ao10 t219.length co10) := (blk_cell BK231.out 1).trans rfl
                          have hcz46_2 : wr.cell? ⟨gb231, 2, none⟩ = some (.slice Ao11 t222.length co11) := (blk_cell BK231.out 2).trans rfl
                          have hcz46_3 : wr.cell? ⟨gb231, 3, none⟩ = some (.slice Ao12 t225.length co12) := (blk_cell BK231.out 3).trans rfl
                          have hcz46_4 : wr.cell? ⟨gb231, 4, none⟩ = some (.slice Ao13 t228.length co13) := (blk_cell BK231.out 4).trans rfl
                          have hfz46_0 := blk_frozen BK231.out 0
                          have hfz46_1 := blk_frozen BK231.out 1
                          have hfz46_2 := blk_frozen BK231.out 2
                          have hfz46_3 := blk_frozen BK231.out 3
                          have hfz46_4 := blk_frozen BK231.out 4
                          go_wp2_with (first | ((with_reducible refine gate_callee (f := 23) rfl ?_); refine goesL_ (some 77) rfl rfl Try.func23 (by kernel_rfl) rfl #[.agg #[.int .i64 t218, .slice Ao10 t219.length co10, .slice Ao11 t222.length co11, .slice Ao12 t225.length co12, .slice Ao13 t228.length co13], .int .i64 x9_1, .int .i64 (rd t232 x35_1)] rfl (by (try simp only [List.map_toArray, List.map_cons, List.map_nil]); first | done | rfl | (simp only [List.length_drop, List.length_take]; rfl)) ?_; (with_reducible refine (gate_Step.calls k3 t218 _ _ t219 _ _ t222 _ _ t225 _ _ t228 x9_1 (rd t232 x35_1) t249 t250 _ ?side1 ?side2 ?side3 ?side4 ?side5 ?side6 ?side7 ?side8 A40.out).mono ?_); (case side1 => repeat (first | exact (Kd.R_reads' HO_232001.out).2.2 | (with_reducible refine Kd.C_alloc ?_ _) | (with_reducible refine Kd.C_drewN ?_ _) | (with_reducible refine Kd.C_drew ?_))); (case side2 => exact (Kd.R_reads' HO_232001.out).2.1); (case side3 => repeat (first | exact (Kd.R_reads' HO_232002.out).2.2 | (with_reducible refine Kd.C_alloc ?_ _) | (with_reducible refine Kd.C_drewN ?_ _) | (with_reducible refine Kd.C_drew ?_))); (case side4 => exact (Kd.R_reads' HO_232002.out).2.1); (case side5 => repeat (first | exact (Kd.R_reads' HO_232003.out).2.2 | (with_reducible refine Kd.C_alloc ?_ _) | (with_reducible refine Kd.C_drewN ?_ _) | (with_reducible refine Kd.C_drew ?_))); (case side6 => exact (Kd.R_reads' HO_232003.out).2.1); (case side7 => repeat (first | exact (Kd.R_reads' HO_232004.out).2.2 | (with_reducible refine Kd.C_alloc ?_ _) | (with_reducible refine Kd.C_drewN ?_ _) | (with_reducible refine Kd.C_drew ?_))); (case side8 => exact (Kd.R_reads' HO_232004.out).2.1); rintro e w47 ⟨rfl, hb⟩; refine ⟨_, rfl, ?_⟩; have n0_ := Aside0.mk (Kd.R_below (by (with_reducible repeat (first | apply Kd.R_alloc | apply Kd.R_drewN | apply Kd.R_drew)); exact HO_7.out) hb); have n1_ := Aside0.mk (Kd.R_below (by (with_reducible repeat (first | apply Kd.R_alloc | apply Kd.R_drewN | apply Kd.R_drew)); exact HO_10.out) hb); have n2_ := Aside0.mk (Kd.R_below (by (with_reducible repeat (first | apply Kd.R_alloc | apply Kd.R_drewN | apply Kd.R_drew)); exact HO_13.out) hb); have n3_ := Aside0.mk (Kd.R_below (by (with_reducible repeat (first | apply Kd.R_alloc | apply Kd.R_drewN | apply Kd.R_drew)); exact HO_33.out) hb); have n4_ := Aside0.mk (Kd.R_below (by (with_reducible repeat (first | apply Kd.R_alloc | apply Kd.R_drewN | apply Kd.R_drew)); exact HO_57.out) hb); have n5_ := Aside0.mk (Kd.R_below (by (with_reducible repeat (first | apply Kd.R_alloc | apply Kd.R_drewN | apply Kd.R_drew)); exact HO_232001.out) hb); have n6_ := Aside0.mk (Kd.R_below (by (with_reducible repeat (first | apply Kd.R_alloc | apply Kd.R_drewN | apply Kd.R_drew)); exact HO_232002.out) hb); have n7_ := Aside0.mk (Kd.R_below (by (with_reducible repeat (first | apply Kd.R_alloc | apply Kd.R_drewN | apply Kd.R_drew)); exact HO_232003.out) hb); have n8_ := Aside0.mk (Kd.R_below (by (with_reducible repeat (first | apply Kd.R_alloc | apply Kd.R_drewN | apply Kd.R_drew)); exact HO_232004.out) hb); have n9_ := Aside0.mk (blk_below (g := gb231) (o := .cells #[.int .i64 t218, .slice Ao10 t219.length co10, .slice Ao11 t222.length co11, .slice Ao12 t225.length co12, .slice Ao13 t228.length co13] 38 (0, 0)) (by (with_reducible repeat (first | refine blk_drewN ?_ _ | refine blk_drew ?_ | refine blk_alloc ?_ _)); exact BK231.out) hb); have n10_ := Aside0.mk (below_step (by repeat (first | (with_reducible first | exact HB.out | apply below_alloc | apply pw_below_drewN | apply below_drew1 | refine below_set ?_ GE231.out) | exact HB.out)) hb); clear HO_7; clear HO_10; clear HO_13; clear HO_33; clear HO_57; clear HO_232001; clear HO_232002; clear HO_232003; clear HO_232004; clear BK231; clear HB; have HO_7 := n0_; have HO_10 := n1_; have HO_13 := n2_; have HO_33 := n3_; have HO_57 := n4_; have HO_232001 := n5_; have HO_232002 := n6_; have HO_232003 := n7_; have HO_232004 := n8_; have BK231 := n9_; have HB := n10_; clear n0_ n1_ n2_ n3_ n4_ n5_ n6_ n7_ n8_ n9_ n10_; (try clear hb); (try clear hb2); (try clear hk); (try clear hi)))
                          go_ret
                          exact ⟨by first | rfl | (simp [errW_none, errW_some] <;> rfl) | (simp [*, errW_none, errW_some] <;> rfl), by repeat (first | (with_reducible first | exact HB.out | apply below_alloc | apply pw_below_drewN | apply below_drew1 | refine below_set ?_ GE231.out) | exact HB.out)⟩
          · rw [if_neg c22] at H
            exact absurd H (by simp)
        · rw [if_neg c21] at H
          exact absurd H (by simp)
      · rw [if_neg c20] at H
        have c20b0 : decide (x35_1 < (t232.length : Int)) = false := decide_eq_false c20
        clear c20
        replace H := Option.bind_eq_some_iff.mp H
        obtain ⟨t240, A480, H⟩ := H
        replace H : (if t240 = true then (if t238 = 0 then ((slices_Equal_int_int.f k1 t235 x10_1).bind fun t241 => (some t241)) else (some false)) else (some false)) = some r := H
        have A48 := Aside0.mk A480
        clear A480
        by_cases c49 : t240 = true
        · subst c49
          have H1 : (if t238 = 0 then ((slices_Equal_int_int.f k1 t235 x10_1).bind fun t241 => (some t241)) else (some false)) = some r := by rw [if_pos rfl] at H; exact H
          clear H
          have H := H1
          clear H1
          by_cases c50 : t238 = 0
          · rw [if_pos c50] at H
            have c50b0 : (t238 == 0) = true := beq_iff_eq.mpr c50
            have c50b1 : (t238 != 0) = false := bne_eq_false_iff_eq.mpr c50
            clear c50
            replace H := Option.bind_eq_some_iff.mp H
            obtain ⟨t241, A510, H⟩ := H
            replace H : (some t241) = some r := H
            have A51 := Aside0.mk A510
            clear A510
            obtain rfl := Option.some.inj H
            go_wp2_with (first | ((with_reducible refine gate_callee (f := 24) rfl ?_); refine goesL_ (some 88) rfl rfl Try.func24 (by kernel_rfl) rfl #[] rfl (by (try simp only [List.map_toArray, List.map_cons, List.map_nil]); first | done | rfl | (simp only [List.length_drop, List.length_take]; rfl)) ?_; (with_reducible refine (bakekeep3_gated.calls k1  true _ A48.out).mono ?_); rintro e w52 ⟨rfl, hb⟩; refine ⟨_, rfl, ?_⟩; have n0_ := Aside0.mk (Kd.R_below (by (with_reducible repeat (first | apply Kd.R_alloc | apply Kd.R_drewN | apply Kd.R_drew)); exact HO_7.out) hb); have n1_ := Aside0.mk (Kd.R_below (by (with_reducible repeat (first | apply Kd.R_alloc | apply Kd.R_drewN | apply Kd.R_drew)); exact HO_10.out) hb); have n2_ := Aside0.mk (Kd.R_below (by (with_reducible repeat (first | apply Kd.R_alloc | apply Kd.R_drewN | apply Kd.R_drew)); exact HO_33.out) hb); have n3_ := Aside0.mk (Kd.R_below (by (with_reducible repeat (first | apply Kd.R_alloc | apply Kd.R_drewN | apply Kd.R_drew)); exact HO_232001.out) hb); have n4_ := Aside0.mk (Kd.R_below (by (with_reducible repeat (first | apply Kd.R_alloc | apply Kd.R_drewN | apply Kd.R_drew)); exact HO_232002.out) hb); have n5_ := Aside0.mk (Kd.R_below (by (with_reducible repeat (first | apply Kd.R_alloc | apply Kd.R_drewN | apply Kd.R_drew)); exact HO_232003.out) hb); have n6_ := Aside0.mk (Kd.R_below (by (with_reducible repeat (first | apply Kd.R_alloc | apply Kd.R_drewN | apply Kd.R_drew)); exact HO_232004.out) hb); have n7_ := Aside0.mk (blk_below (g := gb231) (o := .cells #[.int .i64 t218, .slice Ao10 t219.length co10, .slice Ao11 t222.length co11, .slice Ao12 t225.length co12, .slice Ao13 t228.length co13] 38 (0, 0)) (by (with_reducible repeat (first | refine blk_drewN ?_ _ | refine blk_drew ?_ | refine blk_alloc ?_ _)); exact BK231.out) hb); have n8_ := Aside0.mk (below_step (by repeat (first | (with_reducible first | exact HB.out | apply below_alloc | apply pw_below_drewN | apply below_drew1 | refine below_set ?_ GE231.out) | exact HB.out)) hb); clear HO_7; clear HO_10; clear HO_33; clear HO_232001; clear HO_232002; clear HO_232003; clear HO_232004; clear BK231; clear HB; have HO_7 := n0_; have HO_10 := n1_; have HO_33 := n2_; have HO_232001 := n3_; have HO_232002 := n4_; have HO_232003 := n5_; have HO_232004 := n6_; have BK231 := n7_; have HB := n8_; clear n0_ n1_ n2_ n3_ n4_ n5_ n6_ n7_ n8_; (try clear hb); (try clear hb2); (try clear hk); (try clear hi); obtain ⟨Ao53, co53, eo53⟩ := Kd.R_slice HO_7.out; subst eo53; obtain ⟨Ao54, co54, eo54⟩ := Kd.R_slice HO_10.out; subst eo54) | (go_at_call 17; (with_reducible refine (slices_Equal_int_int.calls k1 _ _ t235 _ _ x10_1 t241 _ ?side1 ?side2 ?side3 ?side4 A51.out).mono ?_); (case side1 => repeat (first | exact (Kd.R_reads' HO_7.out).2.2 | (with_reducible refine Kd.C_alloc ?_ _) | (with_reducible refine Kd.C_drewN ?_ _) | (with_reducible refine Kd.C_drew ?_))); (case side2 => exact (Kd.R_reads' HO_7.out).2.1); (case side3 => repeat (first | exact (Kd.R_reads' HO_10.out).2.2 | (with_reducible refine Kd.C_alloc ?_ _) | (with_reducible refine Kd.C_drewN ?_ _) | (with_reducible refine Kd.C_drew ?_))); (case side4 => exact (Kd.R_reads' HO_10.out).2.1); rintro e w' ⟨rfl, ⟨nd, rfl⟩⟩))
            go_ret
            exact ⟨by first | rfl | (simp [errW_none, errW_some] <;> rfl) | (simp [*, errW_none, errW_some] <;> rfl), by repeat (first | (with_reducible first | exact HB.out | apply below_alloc | apply pw_below_drewN | apply below_drew1 | refine below_set ?_ GE231.out) | exact HB.out)⟩
          · rw [if_neg c50] at H
            have c50b0 : (t238 == 0) = false := beq_eq_false_iff_ne.mpr c50
            have c50b1 : (t238 != 0) = true := bne_iff_ne.mpr c50
            obtain rfl := Option.some.inj H
            go_wp2_with (first | ((with_reducible refine gate_callee (f := 24) rfl ?_); refine goesL_ (some 88) rfl rfl Try.func24 (by kernel_rfl) rfl #[] rfl (by (try simp only [List.map_toArray, List.map_cons, List.map_nil]); first | done | rfl | (simp only [List.length_drop, List.length_take]; rfl)) ?_; (with_reducible refine (bakekeep3_gated.calls k1  true _ A48.out).mono ?_); rintro e w55 ⟨rfl, hb⟩; refine ⟨_, rfl, ?_⟩; have n0_ := Aside0.mk (Kd.R_below (by (with_reducible repeat (first | apply Kd.R_alloc | apply Kd.R_drewN | apply Kd.R_drew)); exact HO_7.out) hb); have n1_ := Aside0.mk (Kd.R_below (by (with_reducible repeat (first | apply Kd.R_alloc | apply Kd.R_drewN | apply Kd.R_drew)); exact HO_10.out) hb); have n2_ := Aside0.mk (Kd.R_below (by (with_reducible repeat (first | apply Kd.R_alloc | apply Kd.R_drewN | apply Kd.R_drew)); exact HO_33.out) hb); have n3_ := Aside0.mk (Kd.R_below (by (with_reducible repeat (first | apply Kd.R_alloc | apply Kd.R_drewN | apply Kd.R_drew)); exact HO_232001.out) hb); have n4_ := Aside0.mk (Kd.R_below (by (with_reducible repeat (first | apply Kd.R_alloc | apply Kd.R_drewN | apply Kd.R_drew)); exact HO_232002.out) hb); have n5_ := Aside0.mk (Kd.R_below (by (with_reducible repeat (first | apply Kd.R_alloc | apply Kd.R_drewN | apply Kd.R_drew)); exact HO_232003.out) hb); have n6_ := Aside0.mk (Kd.R_below (by (with_reducible repeat (first | apply Kd.R_alloc | apply Kd.R_drewN | apply Kd.R_drew)); exact HO_232004.out) hb); have n7_ := Aside0.mk (blk_below (g := gb231) (o := .cells #[.int .i64 t218, .slice Ao10 t219.length co10, .slice Ao11 t222.length co11, .slice Ao12 t225.length co12, .slice Ao13 t228.length co13] 38 (0, 0)) (by (with_reducible repeat (first | refine blk_drewN ?_ _ | refine blk_drew ?_ | refine blk_alloc ?_ _)); exact BK231.out) hb); have n8_ := Aside0.mk (below_step (by repeat (first | (with_reducible first | exact HB.out | apply below_alloc | apply pw_below_drewN | apply below_drew1 | refine below_set ?_ GE231.out) | exact HB.out)) hb); clear HO_7; clear HO_10; clear HO_33; clear HO_232001; clear HO_232002; clear HO_232003; clear HO_232004; clear BK231; clear HB; have HO_7 := n0_; have HO_10 := n1_; have HO_33 := n2_; have HO_232001 := n3_; have HO_232002 := n4_; have HO_232003 := n5_; have HO_232004 := n6_; have BK231 := n7_; have HB := n8_; clear n0_ n1_ n2_ n3_ n4_ n5_ n6_ n7_ n8_; (try clear hb); (try clear hb2); (try clear hk); (try clear hi)))
            go_ret
            exact ⟨by first | rfl | (simp [errW_none, errW_some] <;> rfl) | (simp [*, errW_none, errW_some] <;> rfl), by repeat (first | (with_reducible first | exact HB.out | apply below_alloc | apply pw_below_drewN | apply below_drew1 | refine below_set ?_ GE231.out) | exact HB.out)⟩
        · replace c49 := Bool.eq_false_iff.mpr c49
          subst c49
          have H1 : (some false) = some r := by rw [if_neg (show ¬ (false = true) by decide)] at H; exact H
          clear H
          have H := H1
          clear H1
          obtain rfl := Option.some.inj H
          go_wp2_with (first | ((with_reducible refine gate_callee (f := 24) rfl ?_); refine goesL_ (some 88) rfl rfl Try.func24 (by kernel_rfl) rfl #[] rfl (by (try simp only [List.map_toArray, List.map_cons, List.map_nil]); first | done | rfl | (simp only [List.length_drop, List.length_take]; rfl)) ?_; (with_reducible refine (bakekeep3_gated.calls k1  false _ A48.out).mono ?_); rintro e w56 ⟨rfl, hb⟩; refine ⟨_, rfl, ?_⟩; have n0_ := Aside0.mk (Kd.R_below (by (with_reducible repeat (first | apply Kd.R_alloc | apply Kd.R_drewN | apply Kd.R_drew)); exact HO_7.out) hb); have n1_ := Aside0.mk (Kd.R_below (by (with_reducible repeat (first | apply Kd.R_alloc | apply Kd.R_drewN | apply Kd.R_drew)); exact HO_10.out) hb); have n2_ := Aside0.mk (Kd.R_below (by (with_reducible repeat (first | apply Kd.R_alloc | apply Kd.R_drewN | apply Kd.R_drew)); exact HO_33.out) hb); have n3_ := Aside0.mk (Kd.R_below (by (with_reducible repeat (first | apply Kd.R_alloc | apply Kd.R_drewN | apply Kd.R_drew)); exact HO_232001.out) hb); have n4_ := Aside0.mk (Kd.R_below (by (with_reducible repeat (first | apply Kd.R_alloc | apply Kd.R_drewN | apply Kd.R_drew)); exact HO_232002.out) hb); have n5_ := Aside0.mk (Kd.R_below (by (with_reducible repeat (first | apply Kd.R_alloc | apply Kd.R_drewN | apply Kd.R_drew)); exact HO_232003.out) hb); have n6_ := Aside0.mk (Kd.R_below (by (with_reducible repeat (first | apply Kd.R_alloc | apply Kd.R_drewN | apply Kd.R_drew)); exact HO_232004.out) hb); have n7_ := Aside0.mk (blk_below (g := gb231) (o := .cells #[.int .i64 t218, .slice Ao10 t219.length co10, .slice Ao11 t222.length co11, .slice Ao12 t225.length co12, .slice Ao13 t228.length co13] 38 (0, 0)) (by (with_reducible repeat (first | refine blk_drewN ?_ _ | refine blk_drew ?_ | refine blk_alloc ?_ _)); exact BK231.out) hb); have n8_ := Aside0.mk (below_step (by repeat (first | (with_reducible first | exact HB.out | apply below_alloc | apply pw_below_drewN | apply below_drew1 | refine below_set ?_ GE231.out) | exact HB.out)) hb); clear HO_7; clear HO_10; clear HO_33; clear HO_232001; clear HO_232002; clear HO_232003; clear HO_232004; clear BK231; clear HB; have HO_7 := n0_; have HO_10 := n1_; have HO_33 := n2_; have HO_232001 := n3_; have HO_232002 := n4_; have HO_232003 := n5_; have HO_232004 := n6_; have BK231 := n7_; have HB := n8_; clear n0_ n1_ n2_ n3_ n4_ n5_ n6_ n7_ n8_; (try clear hb); (try clear hb2); (try clear hk); (try clear hi)))
          go_ret
          exact ⟨by first | rfl | (simp [errW_none, errW_some] <;> rfl) | (simp [*, errW_none, errW_some] <;> rfl), by repeat (first | (with_reducible first | exact HB.out | apply below_alloc | apply pw_below_drewN | apply below_drew1 | refine below_set ?_ GE231.out) | exact HB.out)⟩

/-- THE ONE PURE STATEMENT of bakekeep3_GateSteps: yours. -/
def bakekeep3_GateSteps.Pure : Prop := ∀ (c : CircT), ValidC c.1 c.2.1 c.2.2.1 c.2.2.2.1 c.2.2.2.2 → ∀ (l1 : List Int), l1.length ≤ maxLen → l1.length * 8 ≤ 140737488351232 → (∀ x ∈ l1, (Lit.int .i64 x).wf = true) → ∃ k, bakekeep3_GateSteps.f k c l1 = some true
theorem bakekeep3_GateSteps.walk (P : bakekeep3_GateSteps.Pure) (a0 : Option Addr) (len0 cap0 : Nat) (z0 : List Int) (a1 : Option Addr) (len1 cap1 : Nat) (z1 : List Int) (w : World) (w0 : (a0 = none ∧ len0 = 0 ∧ cap0 = 0 ∧ z0 = []) ∨ ∃ x, a0 = some x ∧ len0 ≤ cap0 ∧ cap0 ≤ maxLen ∧ z0.length = cap0 ∧ (∀ i, i < z0.length → w.cell? (x.add i) = some (.int .i64 (z0.getD i 0))) ∧ ∀ n ∈ z0, (Lit.int .i64 n).wf = true) (y0 : len0 * 8 ≤ 140737488351232) (w1 : (a1 = none ∧ len1 = 0 ∧ cap1 = 0 ∧ z1 = []) ∨ ∃ x, a1 = some x ∧ len1 ≤ cap1 ∧ cap1 ≤ maxLen ∧ z1.length = cap1 ∧ (∀ i, i < z1.length → w.cell? (x.add i) = some (.int .i64 (z1.getD i 0))) ∧ ∀ n ∈ z1, (Lit.int .i64 n).wf = true) (y1 : len1 * 8 ≤ 140737488351232) :
    Calls Try.prog 4 #[.slice a0 len0 cap0, .slice a1 len1 cap1] w fun e w' => e = .returned (.bool true) ∧ Below w.heap.size w w' := by
  obtain ⟨l0, rfl, hr0, hm0, hw0, hc0⟩ := ReadsInt.ofRowC w0
  obtain ⟨l1, rfl, hr1, hm1, hw1, hc1⟩ := ReadsInt.ofRowC w1
  have h := fun c hc => P c hc l1 hm1 y1 hw1
  refine (bakekeep3_GateSteps.calls _ _ l0 _ _ l1 true w (Kd.C_of_reads (d := (0 : Int)) (h1 := fun _ => rfl) hr0) hc0 (Kd.C_of_reads (d := (0 : Int)) (h1 := fun _ => rfl) hr1) hc1 h).mono ?_
  rintro e w' ⟨rfl, hd⟩
  exact ⟨rfl, hd⟩

end Go.Proofs.Ytaalafnkglbcpaa.PG
