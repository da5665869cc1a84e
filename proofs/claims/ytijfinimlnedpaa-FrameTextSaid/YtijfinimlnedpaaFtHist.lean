-- An own text of this claim: frame.Colors (function 59): how often each of the sixteen colours is seen, as an array of counts whose sum is told.
import Derived.Test.YtijfinimlnedpaaPFTx9
import Derived.Test.YtijfinimlnedpaaPFTx14
import Derived.Deep.WholeRow
import Derived.Laws.ResultCell
import Derived.Deep.MidRow
namespace Go.Proofs.Ytijfinimlnedpaa.PFT
open Go.RowKit Go.Proofs.YtijfinimlnedpaaW.PrintWords Go.Proofs.YtijfinimlnedpaaW.PrintLast Go.Proofs.YtijfinimlnedpaaW.PrintMore
attribute [local go_sem] max2_int min2_int max_two min_two max_three min_three max_four min_four   -- for this text's walks alone
set_option linter.unusedVariables false
set_option linter.unusedSimpArgs false

/-- Sixteen counts, none below zero, n in all. -/
def Hist (cs : List Int) (n : Int) : Prop := cs.length = 16 ∧ (∀ c ∈ cs, 0 ≤ c) ∧ cs.sum = n
theorem sum_nonneg : ∀ {cs : List Int}, (∀ c ∈ cs, 0 ≤ c) → 0 ≤ cs.sum
  | [], _ => by simp
  | a :: cs, h => by
    have h1 := h a (by simp)
    have h2 := sum_nonneg (cs := cs) (fun c hc => h c (by simp [hc]))
    simp only [List.sum_cons]; omega
theorem hist_zero : Hist (List.replicate 16 0) 0 := ⟨by decide, by decide, by decide⟩
theorem sum_set : ∀ (cs : List Int) (i : Nat) (v : Int), i < cs.length → (cs.set i v).sum = cs.sum - cs.getD i 0 + v
  | [], _, _, h => by simp at h
  | a :: cs, 0, v, _ => by simp only [List.set_cons_zero, List.sum_cons, List.getD_cons_zero]; omega
  | a :: cs, i + 1, v, h => by
    have := sum_set cs i v (by simpa using h)
    simp only [List.set_cons_succ, List.sum_cons, List.getD_cons_succ, this]; omega
theorem sum_take_succ : ∀ (cs : List Int) (i : Nat), i < cs.length → (cs.take (i + 1)).sum = (cs.take i).sum + cs.getD i 0
  | [], _, h => by simp at h
  | a :: cs, 0, _ => by simp
  | a :: cs, i + 1, h => by
    have := sum_take_succ cs i (by simpa using h)
    simp only [List.take_succ_cons, List.sum_cons, List.getD_cons_succ, this]; omega
theorem sum_split (cs : List Int) (i : Nat) : cs.sum = (cs.take i).sum + (cs.drop i).sum := by
  rw [← List.sum_append, List.take_append_drop]
theorem Hist.take {cs : List Int} {n : Int} (h : Hist cs n) (i : Nat) : 0 ≤ (cs.take i).sum ∧ (cs.take i).sum ≤ n := by
  have h1 := sum_nonneg (cs := cs.take i) (fun c hc => h.2.1 c (List.mem_of_mem_take hc))
  have h2 := sum_nonneg (cs := cs.drop i) (fun c hc => h.2.1 c (List.mem_of_mem_drop hc))
  have h3 := sum_split cs i
  have h4 := h.2.2
  omega
theorem getD_mem {cs : List Int} {i : Nat} (h : i < cs.length) : cs.getD i 0 ∈ cs := by
  rw [List.getD_eq_getElem?_getD, List.getElem?_eq_getElem h]; exact List.getElem_mem h
theorem Hist.get {cs : List Int} {n : Int} (h : Hist cs n) {i : Nat} (hi : i < 16) : 0 ≤ cs.getD i 0 ∧ cs.getD i 0 ≤ n := by
  have h0 := h.2.1 _ (getD_mem (by rw [h.1]; exact hi) : cs.getD i 0 ∈ cs)
  have h1 := sum_take_succ cs i (by rw [h.1]; exact hi)
  have h2 := (h.take (i + 1)).2
  have h3 := (h.take i).1
  omega
theorem Hist.step {cs : List Int} {n : Int} (h : Hist cs n) {i : Nat} (hi : i < 16) : Hist (cs.set i (cs.getD i 0 + 1)) (n + 1) := by
  refine ⟨by rw [List.length_set]; exact h.1, ?_, ?_⟩
  · intro c hc
    rcases List.mem_or_eq_of_mem_set hc with hc | rfl
    · exact h.2.1 c hc
    · have := (h.get hi).1; omega
  · rw [sum_set cs i _ (by rw [h.1]; exact hi), h.2.2]; omega
def cellsC (cs : List Int) : Array Value := (cs.map (Value.int .i64)).toArray
theorem cellsC_size (cs : List Int) : (cellsC cs).size = cs.length := by simp [cellsC]
theorem cellsC_get (cs : List Int) (i : Nat) (h : i < cs.length) : (cellsC cs)[i]? = some (.int .i64 (cs.getD i 0)) := by
  simp [cellsC, h]
theorem cellsC_set (cs : List Int) (i : Nat) (v : Int) : (cellsC cs).setIfInBounds i (.int .i64 v) = cellsC (cs.set i v) := by
  simp [cellsC, List.map_set]
theorem below_setCells {base b : Nat} {w : World} (hb : base ≤ b) : ∀ (vs : List Value) (o : Nat) (W : World), Below base w W → Below base w (W.setCells b o vs)
  | [], _, _, h => h
  | v :: vs, o, W, h => below_setCells hb vs (o + 1) _ (h.setCell hb v)
theorem cellsC_one (cs : List Int) : (cellsC cs).all (·.oneCell') = true := by
  simp [cellsC, Value.oneCell']
theorem info100 : (Try.prog.info? 100).map (fun i => (i.zero, i.size)) = some (some (.agg (cellsC (List.replicate 16 0))), 16) := by kernel_rfl

theorem vis_len (l : List Int) : (vis l).length = 1536 := by simp [vis]
theorem vis_cols (l : List Int) (h : cols l = true) : ∀ a ∈ vis l, 0 ≤ a ∧ a ≤ 15 := by
  intro a ha
  unfold vis at ha
  obtain ⟨i, _, rfl⟩ := List.mem_map.1 ha
  unfold visAt
  by_cases hi : i / 48 * 64 + i % 48 < l.length
  · exact cols_all h _ (getD_mem hi)
  · rw [List.getD_eq_getElem?_getD, List.getElem?_eq_none (by omega)]; decide
theorem there_cells {w : World} {g : Nat} (h : w.heap[g]? = some (.cells (cellsC (List.replicate 16 0)) 100 (0, 0))) : w.there g 0 16 := by
  intro j hj
  rw [Nat.zero_add]
  refine ⟨?_, blk_frozen h j⟩
  rw [blk_cell h j, cellsC_get _ j (by simpa using hj)]; rfl
theorem there_cells' {w : World} {g : Nat} {cs : List Int} {n : Int} (hH : Hist cs n) (h : w.heap[g]? = some (.cells (cellsC (List.replicate 16 0)) 100 (0, 0))) : w.there g 0 (cellsC cs).size := by rw [cellsC_size, hH.1]; exact there_cells h
theorem info_cells {cs : List Int} {n : Int} (hH : Hist cs n) : (Try.prog.info? 100).map (·.size) = some (cellsC cs).size := by rw [cellsC_size, hH.1]; kernel_rfl
theorem index_cells {cs : List Int} {n : Int} (hH : Hist cs n) (x : Int) (h0 : 0 ≤ x) (h1 : x < 16) (w : World) : (Instr.index 100 (.agg (cellsC cs)) (.int .i64 x)).run Try.prog w = .ok (.int .i64 (cs.getD x.toNat 0)) w := by
  have h2 : 0 ≤ x ∧ x < 16 := ⟨h0, h1⟩
  have h3 := cellsC_get cs x.toNat (by rw [hH.1]; omega)
  have hi : (Try.prog.info? 3).map (·.size) = some 1 := by kernel_rfl
  cases hq : Try.prog.info? 3 with
  | none => simp [hq] at hi
  | some i =>
    simp [hq] at hi
    simp [Instr.index, run_underlying Try.underlying100, asIntOf, h2, go_sem, sizeOf, typeInfo, hq, hi, part, run_underlying Try.underlying3, isAgg, h3]
theorem store_arr {P : Program} {oi : Oper} {a : Act} {w : World} (ty : TypeId) (x y : Operand) {b : Nat} {cells : Array Value} (ho : oi.op = .store ty x y) (hx : a.eval x = .pointer (some ⟨b, 0, none⟩)) (hy : a.eval y = .agg cells)
    (ht : w.there b 0 cells.size) (hi : (P.info? ty).map (·.size) = some cells.size) (h1 : cells.all (·.oneCell') = true) : (execOp a.eval oi).run P w = .ok .skip (w.setCells b 0 cells.toList) := by
  unfold execOp
  simp only [ho, hx, hy, Instr.storeAt, Instr.sureAddr, Sem.run_bind, Sem.run_pure, Result.andThen_ok, run_storeVar_mid w b 0 ty cells ht hi h1]

set_option maxHeartbeats 8000000 in
set_option maxRecDepth 100000 in
theorem frame_Colors.calls (k : Nat) (A0 : Option Addr) (c0 : Nat) (l0 vs : List Int) (w : World) (hr0 : Kd.C (Kd.int .i64) w A0 l0.length l0) (hc0 : l0.length ≤ c0) (h : frame_Seen.f k l0 = some (vs, 0)) (hv : vs.length = 1536) (hb : ∀ a ∈ vs, 0 ≤ a ∧ a ≤ 15) :
    Calls Try.prog 59 #[.slice A0 l0.length c0] w fun e w' => ∃ cs : List Int, e = .returned (.tuple #[.agg (cellsC cs), .int .i64 0]) ∧ Hist cs 1536 ∧ Below w.heap.size w w' := by
  have HR0 := Aside0.mk hr0
  have HC0 := Aside0.mk hc0
  have HS := Aside0.mk h
  have HV := Aside0.mk hv
  have HE := Aside0.mk hb
  clear hr0 hc0 h hv hb
  have HB := Aside0.mk (Below.refl w.heap.size w)
  go_enter Try.func59, Try.ntmps59
  go_upto_region 2 with (first | ((with_reducible refine gate_callee (f := 58) rfl ?_); refine goesL_ (some 11) rfl rfl Try.func58 (by kernel_rfl) rfl #[.slice A0 l0.length c0] rfl (by (try simp only [List.map_toArray, List.map_cons, List.map_nil]); first | done | rfl | (simp only [List.length_drop, List.length_take]; rfl)) ?_; (with_reducible refine (frame_Seen.calls k _ _ l0 vs 0 _ ?side1 ?side2 HS.out).mono ?_); (case side1 => repeat (first | exact HR0.out | (with_reducible refine Kd.C_alloc ?_ _) | (with_reducible refine Kd.C_drewN ?_ _) | (with_reducible refine Kd.C_drew ?_))); (case side2 => exact HC0.out); rintro e w9 ⟨v151, rfl, ho0, hb⟩; refine ⟨_, rfl, ?_⟩; have BK2 := Aside0.mk (blk_below (g := w.heap.size) (o := .cells (cellsC (List.replicate 16 0)) 100 (0, 0)) (by (with_reducible repeat (first | refine blk_drewN ?_ _ | refine blk_drew ?_)); exact blk_new _ _) hb); have n0_ := Aside0.mk (Kd.R_lower ho0 (below_size (by repeat (first | (with_reducible first | exact HB.out | apply below_alloc | apply pw_below_drewN | apply below_drew1) | exact HB.out)))); have n1_ := Aside0.mk (below_step (by repeat (first | (with_reducible first | exact HB.out | apply below_alloc | apply pw_below_drewN | apply below_drew1) | exact HB.out)) hb); clear HB; have HO := n0_; have HB := n1_; clear n0_ n1_; clear hb ho0; obtain ⟨Ao10, co10, eo10⟩ := Kd.R_slice HO.out; subst eo10))
  go_wp2
  have hle := Aside0.mk (blk_lt BK2.out)
  have GE6 := Aside0.mk (Nat.le_of_lt (blk_lt BK2.out))
  have BK6 := Aside0.mk (blk_new w9 (.cells (cellsC (List.replicate 16 0)) 100))
  have n2_ := Aside0.mk (blk_alloc BK2.out (.cells (cellsC (List.replicate 16 0)) 100))
  have n3_ := Aside0.mk (Kd.R_alloc HO.out (.cells (cellsC (List.replicate 16 0)) 100))
  have n4_ := Aside0.mk (below_alloc HB.out (.cells (cellsC (List.replicate 16 0)) 100))
  clear BK2 HO HB
  have BK2 := n2_; have HO := n3_; have HB := n4_
  clear n2_ n3_ n4_
  go_loopg [16] 1536 (fun kq v16 w' => ∃ (x : Int) (cs : List Int), v16 = .int .i64 x ∧ Aside0 ((kq : Int) + x = 1536 ∧ 0 ≤ x) ∧ Aside0 (Hist cs x) ∧ Aside0 (w'.heap[w9.heap.size]? = some (.cells (cellsC cs) 100 (0, 0))) ∧ Aside0 (w'.heap[w.heap.size]? = some (.cells (cellsC (List.replicate 16 0)) 100 (0, 0))) ∧ Aside0 ((Kd.int .i64).R 3 w' w.heap.size (fun _ => True) (.slice Ao10 vs.length co10) vs) ∧ Aside0 (Below w.heap.size w w'))
  case atStart => exact ⟨0, List.replicate 16 0, rfl, ⟨by omega⟩, ⟨hist_zero⟩, BK6, BK2, HO, HB⟩
  case round =>
    clear BK6 BK2 HO HB
    obtain ⟨x, cs, rfl, HK, HH, BK6, BK2, HO, HB⟩ := hrel
    have hxr : x ≤ 1536 ∧ 0 ≤ x := by have := HK.out; omega
    by_cases c : x < (vs.length : Int)
    · have c0 : decide (x < (vs.length : Int)) = true := decide_eq_true c
      have p18 : 0 ≤ x := hxr.2
      have q18 : x < (vs.length : Int) := c
      obtain ⟨a, ea⟩ : ∃ a, a = rd vs x := ⟨_, rfl⟩
      have ha : 0 ≤ a ∧ a ≤ 15 := by
        rw [ea]; exact HE.out _ (by unfold rd; exact getD_mem (by omega))
      obtain ⟨ad18, e18, hx18⟩ := Kd.at_int (Kd.R_reads' HO.out).2.2 x p18 q18
      rw [← ea] at hx18
      have ea' := Aside0.mk ea
      clear ea
      cases e18
      have pa : 0 ≤ (a : Int) := ha.1
      have qa : (a : Int) < 16 := by omega
      have hcell : wr.cell? ⟨w9.heap.size, a.toNat, none⟩ = some (.int .i64 (cs.getD a.toNat 0)) := (blk_cell BK6.out a.toNat).trans (cellsC_get cs a.toNat (by have := HH.out.1; omega))
      have hfr : wr.frozen? ⟨w9.heap.size, a.toNat, none⟩ = false := blk_frozen BK6.out a.toNat
      replace p18 := eq_true p18
      replace q18 := eq_true q18
      have HA := Aside0.mk ha
      have HX := Aside0.mk hxr
      have HC := Aside0.mk c
      clear ha c hxr
      generalize ec : cs.getD a.toNat 0 = n at hcell
      have EC := Aside0.mk ec
      clear ec
      go_wp2
      have hn := HH.out.get (i := a.toNat) (by have := HA.out; omega)
      have hw : wrap64 (n + 1) = n + 1 := w64 (by have := EC.out; omega) (by have := EC.out; have := HX.out; omega)
      have hx1 : wrap64 (x + 1) = x + 1 := w64 (by have := HX.out; omega) (by have := HX.out; omega)
      cases gk with
      | zero => exact absurd HK.out (by have := HC.out; have := HV.out; omega)
      | succ k1 =>
        go_roundg k1
        case measure => omega
        case rel => exact ⟨x + 1, cs.set a.toNat (cs.getD a.toNat 0 + 1), by rw [hx1], ⟨by have := HK.out; have := HX.out; omega⟩, ⟨HH.out.step (by have := HA.out; omega)⟩, ⟨blk_put BK6.out _ _ (by rw [hw, ← EC.out, cellsC_set])⟩, ⟨blk_far BK2.out (by have := hle.out; simp; omega) _⟩, ⟨Kd.R_set HO.out BK6.out (by simp [Kd.int, Kd.scalar]) _ _⟩, ⟨below_set HB.out GE6.out⟩⟩
    · have c0 : decide (x < (vs.length : Int)) = false := decide_eq_false c
      have ex : x = 1536 := by have := HV.out; omega
      have HC := Aside0.mk c
      have EX := Aside0.mk ex
      have HX := Aside0.mk hxr
      clear c ex hxr
      have hr6 : wr.rangeAt w9.heap.size 0 (cs.map (Value.int .i64)) := by
        intro j v hj
        rw [Nat.zero_add, blk_cell BK6.out j]
        exact (by simpa [cellsC] using hj)
      have HR6 := Aside0.mk hr6
      clear hr6
      have ht2 : wr.there w.heap.size 0 16 := by
        intro j hj
        rw [Nat.zero_add]
        refine ⟨?_, blk_frozen BK2.out j⟩
        rw [blk_cell BK2.out j, cellsC_get _ j (by simpa using hj)]; rfl
      have HT2 := Aside0.mk ht2
      clear ht2
      have HI := Aside0.mk (show (Try.prog.info? 100).map (·.size) = some (cs.map (Value.int .i64)).length by rw [List.length_map, HH.out.1]; kernel_rfl)
      have HI2 := Aside0.mk (show (Try.prog.info? 100).map (·.size) = some (cellsC cs).size by rw [cellsC_size, HH.out.1]; kernel_rfl)
      have HT3 := Aside0.mk (show wr.there w.heap.size 0 (cellsC cs).size by rw [cellsC_size, HH.out.1]; exact HT2.out)
      go_wp2_with (first | ((with_reducible refine gate_dst (N := 26) rfl ?_); refine wpList_load_mid rfl 100 (.tmp 6) rfl w9.heap.size 0 rfl (cs.map (Value.int .i64)) (.array 16 3) HR6.out Try.underlying100 rfl HI.out ?_; rw [show (Value.agg (cs.map (Value.int .i64)).toArray) = .agg (cellsC cs) from rfl]) | ((with_reducible refine gate_store (t := 100) (p := 2) rfl ?_); refine wpList_store_mid rfl 100 (.tmp 2) (.tmp 26) rfl w.heap.size 0 (cells := cellsC cs) rfl rfl HT3.out HI2.out (cellsC_one cs) ?_))
      have hld : (loadVar 100 ⟨w.heap.size, 0, none⟩).run Try.prog (wr.setCells w.heap.size 0 (cellsC cs).toList) = .ok (.agg (cs.map (Value.int .i64)).toArray) (wr.setCells w.heap.size 0 (cellsC cs).toList) :=
        run_loadVar_mid _ w.heap.size 0 100 (cs.map (Value.int .i64)) (.array 16 3) (by
          have hq := World.rangeAt_setCells_same wr w.heap.size 0 (cellsC cs).toList (by simpa using HT3.out)
          rwa [show (cellsC cs).toList = cs.map (Value.int .i64) from by simp [cellsC]] at hq ⊢) Try.underlying100 rfl HI.out
      refine bodyPost_ret (v := .tuple #[.agg (cellsC cs), .int .i64 0]) ?_ rfl ⟨cs, rfl, EX.out ▸ HH.out, ?_⟩
      · rw [results_cell_tmp rfl]; simp [asAddr, Result.andThen, hld]; rfl
      · exact below_setCells (Nat.le_refl _) _ _ _ HB.out

end Go.Proofs.Ytijfinimlnedpaa.PFT
