/- learn.Min, walked by hand. -/
import Derived.Test.YtaalafnkglbcpaaMinInv
import Derived.Test.YtaalafnkglbcpaaPLx4
namespace Go.Proofs.Ytaalafnkglbcpaa.PL
open Go.RowKit Go.WideMaps Go.Maps Go.Proofs.YtaalafnkglbcpaaW.PrintWords Go.Proofs.YtaalafnkglbcpaaW.PrintLast Go.Proofs.YtaalafnkglbcpaaW.PrintMore
set_option linter.unusedVariables false

theorem add_zero' (a : Addr) : a.add 0 = a := by unfold Addr.add; split <;> simp_all
def kapp (c : List Int) (p : Nat) : Lit := .int .i64 (cl c p)
def ints (l : List Nat) : List Int := l.map Int.ofNat

set_option maxRecDepth 100000 in
set_option maxHeartbeats 8000000 in
theorem min_calls (k : Nat) (A0 : Option Addr) (c0 : Nat) (t : Tab) (ins outs : Int) (w : World) (hr0 : Kd.C (Kd.slice 77 k77) w A0 t.length t) (hc0 : t.length ≤ c0) (hk : learn_Check.f k ins outs t = some 0) (ht : TabR t) :
    Calls Try.prog 13 #[.agg #[.int .i64 ins, .int .i64 outs, .slice A0 t.length c0]] w fun e w' => ∃ v : Value, e = .returned (.tuple #[.agg #[.int .i64 ins, .int .i64 outs, v], .int .i64 0]) ∧ Kd.S (Kd.slice 77 k77) 75 w' w.heap.size (fun _ => True) v (minRows t) ∧ Below w.heap.size w w' := by
  have HR0 := Aside0.mk hr0
  have HC0 := Aside0.mk hc0
  have HT := Aside0.mk ht
  have HK := Aside0.mk hk
  have n1 := ht.n1
  have n2 := ht.n2
  clear hr0 hc0 ht hk
  have HB := Aside0.mk (Below.refl w.heap.size w)
  go_enter Try.func13, Try.ntmps13
  go_upto_region 1 with (first
    | ((with_reducible refine gate_dst (N := 1) rfl ?_); refine box_event ?hg (N := 1) ?hd (cs := #[.int .i64 ins, .int .i64 outs, .slice A0 t.length c0]) (t := 25) ?hr ?_; (case hd => rfl); (case hg => rfl); (case hr => first | (go_simp; done) | (go_simp; rfl)); intro gb hg w3 hbox hb; have n0_ := Aside0.mk (below_step HB.out hb); have BK := Aside0.mk hbox; have GE := Aside0.mk ((by rw [hg]; exact Nat.le_refl _) : w.heap.size ≤ gb); have GL := Aside0.mk (blk_lt hbox); clear HB; have HB := n0_; clear n0_; clear hb hbox hg)
    | fail)
  have hz0 : w3.heap.size < (w3.alloc (Obj.cells #[Value.int .i64 0, Value.int .i64 0, Value.slice none 0 0] 25)).heap.size := by simp
  have RB : Aside0 ((w3.alloc (Obj.cells #[Value.int .i64 0, Value.int .i64 0, Value.slice none 0 0] 25)).heap[w3.heap.size]? = some (.cells #[.int .i64 0, .int .i64 0, .slice none 0 0] 25 (0, 0))) := ⟨blk_new _ _⟩
  have BK1 : Aside0 ((w3.alloc (Obj.cells #[Value.int .i64 0, Value.int .i64 0, Value.slice none 0 0] 25)).heap[gb]? = some (.cells #[.int .i64 ins, .int .i64 outs, .slice A0 t.length c0] 25 (0, 0))) := ⟨blk_alloc BK.out _⟩
  have HB1 : Aside0 (Below w.heap.size w (w3.alloc (Obj.cells #[Value.int .i64 0, Value.int .i64 0, Value.slice none 0 0] 25))) := ⟨below_alloc HB.out _⟩
  have hgr : gb < w3.heap.size := GL.out
  have RL : Aside0 (w.heap.size ≤ w3.heap.size) := ⟨HB.out.size⟩
  obtain ⟨rb, hrb⟩ : ∃ rb, w3.heap.size = rb := ⟨_, rfl⟩
  rw [hrb] at RB hz0 hgr RL ⊢
  generalize w3.alloc (Obj.cells #[Value.int .i64 0, Value.int .i64 0, Value.slice none 0 0] 25) = w4 at *
  clear hrb BK HB GL
  have hcz0 : w4.cell? ⟨gb, 0, none⟩ = some (.int .i64 ins) := (blk_cell BK1.out 0).trans rfl
  have hcz1 : w4.cell? ⟨gb, 1, none⟩ = some (.int .i64 outs) := (blk_cell BK1.out 1).trans rfl
  have hcz2 : w4.cell? ⟨gb, 2, none⟩ = some (.slice A0 t.length c0) := (blk_cell BK1.out 2).trans rfl
  go_wp2_with fail
  (with_reducible refine (learn_Check.calls k ins outs A0 c0 t 0 w4 (Kd.C_below HR0.out HB1.out) HC0.out HK.out).mono ?_)
  rintro e w5 ⟨rfl, hb5⟩
  have HB5 : Aside0 (Below w.heap.size w w5) := ⟨HB1.out.trans (hb5.mono HB1.out.size)⟩
  have RB5 : Aside0 (w5.heap[rb]? = some (.cells #[.int .i64 0, .int .i64 0, .slice none 0 0] 25 (0, 0))) := ⟨(hb5.block rb hz0).trans RB.out⟩
  have BK5 : Aside0 (w5.heap[gb]? = some (.cells #[.int .i64 ins, .int .i64 outs, .slice A0 t.length c0] 25 (0, 0))) := ⟨(hb5.block gb (by omega)).trans BK1.out⟩
  clear hcz0 hcz1 hcz2 hb5 HB1 RB BK1 hz0
  have hcz0 : w5.cell? ⟨gb, 0, none⟩ = some (.int .i64 ins) := (blk_cell BK5.out 0).trans rfl
  have hcz1 : w5.cell? ⟨gb, 1, none⟩ = some (.int .i64 outs) := (blk_cell BK5.out 1).trans rfl
  have hcz2 : w5.cell? ⟨gb, 2, none⟩ = some (.slice A0 t.length c0) := (blk_cell BK5.out 2).trans rfl
  go_wp2_with fail
  (with_reducible refine (classes_calls A0 c0 t ins outs w5 (Kd.C_below HR0.out HB5.out) HC0.out HT.out).mono ?_)
  rintro e w1 ⟨v5, c, rfl, hr5, hb6, hcl, hcr, hci⟩
  have hz0 := blk_lt RB5.out
  have HB6 : Aside0 (Below w.heap.size w w1) := ⟨HB5.out.trans (hb6.mono HB5.out.size)⟩
  have RB6 : Aside0 (w1.heap[rb]? = some (.cells #[.int .i64 0, .int .i64 0, .slice none 0 0] 25 (0, 0))) := ⟨(hb6.block rb hz0).trans RB5.out⟩
  have BK6 : Aside0 (w1.heap[gb]? = some (.cells #[.int .i64 ins, .int .i64 outs, .slice A0 t.length c0] 25 (0, 0))) := ⟨(hb6.block gb (by omega)).trans BK5.out⟩
  clear hcz0 hcz1 hcz2 hb6 HB5 RB5 BK5 hz0
  obtain ⟨A5, q5, hv5, hl5, hq5⟩ := Kd.R_reads hr5
  rw [hcl] at hv5
  subst hv5
  have H5 := Aside0.mk hq5
  have HCR := Aside0.mk hcr
  have HCI := Aside0.mk hci
  clear hr5 hq5 hl5 hcr hci
  have hcz0 : w1.cell? ⟨gb, 0, none⟩ = some (.int .i64 ins) := (blk_cell BK6.out 0).trans rfl
  have hcz1 : w1.cell? ⟨gb, 1, none⟩ = some (.int .i64 outs) := (blk_cell BK6.out 1).trans rfl
  have hmm := @run_makeMap Try.prog
  go_upto_region 6 with fail
  have hz1 : (w1.alloc (Obj.cells #[Value.int .i64 ins, Value.int .i64 outs, Value.slice none 0 0] 25)).heap.size = w1.heap.size + 1 := by simp
  have BO : Aside0 ((w1.alloc (Obj.cells #[Value.int .i64 ins, Value.int .i64 outs, Value.slice none 0 0] 25)).heap[w1.heap.size]? = some (.cells #[.int .i64 ins, .int .i64 outs, .slice none 0 0] 25 (0, 0))) := ⟨blk_new _ _⟩
  have HBo : Aside0 (Below w1.heap.size w1 (w1.alloc (Obj.cells #[Value.int .i64 ins, Value.int .i64 outs, Value.slice none 0 0] 25))) := ⟨below_alloc (Below.refl _ _) _⟩
  generalize w1.alloc (Obj.cells #[Value.int .i64 ins, Value.int .i64 outs, Value.slice none 0 0] 25) = w6 at *
  clear hcz0 hcz1
  obtain ⟨a5, e5, hy5⟩ := Kd.at_int (Kd.C_below H5.out HBo.out) 0 (by omega) (by omega)
  subst e5
  have hy : w6.cell? a5 = some (.int .i64 (cl c 0)) := by
    have h : w6.cell? (a5.add 0) = some (.int .i64 (cl c 0)) := hy5
    rwa [show a5.add 0 = a5 from add_zero' a5] at h
  have hy' : (w6.alloc (Obj.map #[] 0)).cell? a5 = some (.int .i64 (cl c 0)) := (World.cell?_alloc_lt _ _ _ (World.block_lt_of_cell? _ _ hy)).trans hy
  clear hy hy5
  have hc0 := HCR.out 0 n1
  have OM0 : Aside0 ((w6.alloc (Obj.map #[] 0)).ownsMap Try.prog 3 (plainElem (H := Unit) Try.prog 3) w6.heap.size 0 (.map [])) := ⟨World.ownsMap_made w6 _ _ _⟩
  have BO' : Aside0 ((w6.alloc (Obj.map #[] 0)).heap[w1.heap.size]? = some (.cells #[.int .i64 ins, .int .i64 outs, .slice none 0 0] 25 (0, 0))) := ⟨blk_alloc BO.out _⟩
  have HBo' : Aside0 (Below w1.heap.size w1 (w6.alloc (Obj.map #[] 0))) := ⟨below_alloc HBo.out _⟩
  rw [hz1] at OM0
  have hz1' : (w6.alloc (Obj.map #[] 0)).heap.size = w1.heap.size + 2 := by simp; omega
  have HWF := fun (n : Nat) (h : n ≤ 1000) => wf_small n h
  have hkc : (Lit.int .i64 (cl c 0)).wf = true := by
    have h := wf_small (cl c 0).toNat (by omega)
    rwa [Int.toNat_of_nonneg hc0.1] at h
  go_wp2_with (first
    | (refine wpList_insert_own _ rfl (.tmp 27) (.tmp 30) (.const (.int .i64 0)) 80 rfl 3 3 lawI Try.underlying80 _ (w1.heap.size + 1) 0 (.map []) (by rw [← hz1]; rfl) OM0.out (by unfold maxLen; omega) (.int .i64 (cl c 0)) (.int .i64 0) _ rfl rfl (keyOf_int_mk Try.underlying3 hkc) (.lit (.int .i64 0)) [] (plainElem_int Try.underlying3 (wf_small 0 (by omega))) ?_; intro w7 hown7 hgrow7; have OM7 := Aside0.mk hown7; have HB7 : Aside0 (Below w1.heap.size w1 w7) := ⟨HBo'.out.grown hgrow7 HBo'.out.size (fun k hk => by cases hk; omega)⟩; have BO7 : Aside0 (w7.heap[w1.heap.size]? = some (.cells #[.int .i64 ins, .int .i64 outs, .slice none 0 0] 25 (0, 0))) := ⟨blk_grown BO'.out hgrow7 (by simp)⟩; clear hown7 hgrow7 hy')
    | ((with_reducible refine gate_dst (N := 32) rfl ?_); refine Kd.R_lit (Kd.int .i64) (w0 := w7) w7.heap.size 3 ?hg (N := 32) ?hd (xs := ([0] : List Int)) (inner := [.int .i64 0]) (ok := fun _ => True) (okp := fun _ => True) ?hr ?hp (fun _ hk => hk) trivial (Below.refl _ _) (Nat.le_refl _) (by simp) ?_; (case hd => rfl); (case hg => rfl); (case hr => first | (go_simp; done) | (go_simp; rfl)); (case hp => exact (Reps.one (show Kd.M (Kd.int .i64) _ _ _ 0 [.int .i64 0] from rfl) (Reps.none _ _))); intro v8 w8 ho hb hg_ hnew_; have HQ8 := Aside0.mk ho; have HB8 := Aside0.mk hb; clear ho hb hg_ hnew_))
  have HZ7 : Aside0 (w1.heap.size + 2 ≤ w7.heap.size) := ⟨by have := OM7.out.lt; omega⟩
  have MI0 : Aside0 (MapIs (DataW.put (.map []) (kapp c 0) (.lit (.int .i64 0))) ([0].map (kapp c))) := ⟨MapIs.start.put (k := kapp c 0) (lawI.key (keyOf_int_mk Try.underlying3 hkc)) (by simp)⟩
  have I0 : Aside0 (MInv w1 w8 ins outs (.slice none 0 0) [] v8 (ints ([0].drop 0)) (.slice none 0 0) [] 1 (DataW.put (.map []) (kapp c 0) (.lit (.int .i64 0)))) := ⟨{
    hb := HB7.out.trans (HB8.out.mono (by have := HZ7.out; omega)), blk := (HB8.out.block _ (blk_lt BO7.out)).trans BO7.out, om := owns_below OM7.out OM7.out.lt HB8.out, rr := Kd.S_nil _ _ _ _ _,
    td := Kd.Q_of_R (Kd.R_lower HQ8.out HZ7.out), r9 := Kd.R_nil _ _ _ _ _ }⟩
  have RC0 : Aside0 (Rchd t [0]) := ⟨Rchd.one n1⟩
  (try rw [hz1])
  clear HZ7 OM7 BO7 HB7 HB8 HQ8 OM0 BO BO' HBo HBo' hz1 hz1' HWF hkc hc0
  go_loopg [8] (t.length + 1) (fun kq v8 wr => ∃ (i m : Nat) (reps : List Nat) (out : Tab) (vr : Value) (D : DataW Unit), kq + i = t.length + 1 ∧ i ≤ reps.length ∧ m ≤ reps.length ∧ Aside0 (MInv w1 wr ins outs vr out v8 (ints (reps.drop i)) (.slice none 0 0) [] m D) ∧ Aside0 (MapIs D (reps.map (kapp c))) ∧ Aside0 (Rchd t reps) ∧ Aside0 (out.length = i) ∧ Aside0 (minGo t kq i reps out = minRows t))
  case atStart => exact ⟨0, 1, [0], [], _, _, by omega, by simp, by simp, I0, MI0, RC0, ⟨rfl⟩, ⟨rfl⟩⟩
  case round =>
    obtain ⟨i, m, reps, out, vr, D, hki, hi, hm, HM, MI, RC, HL, HG⟩ := hrel
    obtain ⟨w9, rfl⟩ : ∃ w9 : World, w9 = wr := ⟨_, rfl⟩
    clear I0 MI0 RC0
    have hrl := RC.out.le
    obtain ⟨A8, q8, hv8, hq8⟩ := Kd.Q_slice HM.out.td
    have hl8 : (ints (reps.drop i)).length = reps.length - i := by unfold ints; rw [List.length_map, List.length_drop]
    rw [hl8] at hv8
    subst hv8
    by_cases hlt : i < reps.length
    · have hp : reps.getD i 0 < t.length := RC.out.lt _ (by rw [List.getD_eq_getElem?_getD, List.getElem?_eq_getElem hlt]; exact List.getElem_mem _)
      have hc8 := (Kd.Q_reads' HM.out.td).2.2
      obtain ⟨a8, e8, hx8⟩ := Kd.at_int hc8 0 (by omega) (by rw [hl8]; omega)
      subst e8
      have hx : w9.cell? a8 = some (.int .i64 (reps.getD i 0 : Nat)) := by
        have h : w9.cell? (a8.add 0) = some (.int .i64 ((ints (reps.drop i)).getD 0 0)) := hx8
        rw [show a8.add 0 = a8 from add_zero' a8] at h
        rw [h]
        unfold ints
        rw [List.drop_eq_getElem_cons hlt]
        simp [List.getD_eq_getElem?_getD, List.getElem?_eq_getElem hlt]
      have hbk : w9.cell? ⟨gb, 2, none⟩ = some (.slice A0 t.length c0) := (HM.out.hb.cell (p := ⟨gb, 2, none⟩) (by show gb < _; have := blk_lt BK6.out; omega)).trans ((blk_cell BK6.out 2).trans rfl)
      have HM9 := HM
      clear hc8 hx8 HM
      generalize hpp : reps.getD i 0 = p at *
      have HP := Aside0.mk hpp
      obtain ⟨k1, hk1⟩ : ∃ k1, gk = k1 + 1 := ⟨gk - 1, by omega⟩
      clear hpp
      obtain ⟨ad, A1, c1, e1, hx1w, hl1, hi1⟩ := at_L2 HR0.out (p : Int) (by omega) (by omega)
      subst e1
      have hrow : rd_L2 t (p : Int) = roww t p := rfl
      rw [Int.toNat_natCast, hrow] at hx1w
      rw [hrow] at hl1 hi1
      have hx1 : w9.cell? (ad.add p) = some (.slice A1 (roww t p).length c1) := (HM9.out.hb.cell (p := ad.add p) (Nat.lt_of_lt_of_le (World.block_lt_of_cell? w _ hx1w) HB6.out.size)).trans ((HB6.out.cell (p := ad.add p) (World.block_lt_of_cell? w _ hx1w)).trans hx1w)
      clear hx1w
      have hlr := HT.out.len_le hp
      have HI1 := Aside0.mk hi1
      clear hrow hi1
      have b1 : 0 < ((reps.length - i : Nat) : Int) := by omega
      have b1n : 0 < reps.length - i := by omega
      have b1d : decide (0 < reps.length - i) = true := decide_eq_true b1n
      go_wp2_with fail
      go_quiet (fail)
      have HM10 : Aside0 (MInv w1 (w9.drewN nq) ins outs vr out (.slice (some a8) (reps.length - i) q8) (ints (reps.drop i)) (.slice none 0 0) [] m D) := ⟨HM9.out.drewN nq⟩
      clear HM9 hx1 hbk hx
      go_wp2_with fail
      generalize w9.drewN nq = w10 at *
      generalize hrw : roww t p = row at *
      have HRW := Aside0.mk hrw
      clear hrw
      have HRT : Aside0 (∀ (W : World), Below w1.heap.size w1 W → Kd.C k77 W A1 row.length row) := ⟨fun W hW => Kd.C_below (Kd.C_below HI1.out HB6.out) hW⟩
      go_loopw [8, 9, 44] (fun v8 v9 v44 wr => ∃ (j m : Nat) (reps' : List Nat) (rw' : List S77) (D : DataW Unit), j ≤ row.length ∧ v44 = .int .i64 j ∧ i < reps'.length ∧ m ≤ reps'.length ∧ Aside0 (MInv w1 wr ins outs vr out v8 (ints (reps'.drop i)) v9 rw' m D) ∧ Aside0 (MapIs D (reps'.map (kapp c))) ∧ Aside0 (Rchd t reps') ∧ Aside0 (rw'.length = j) ∧ Aside0 (minRow t (row.drop j) reps' rw' = minRow t row reps [])) (fun _ _ v44 _ => row.length - (intOf v44).toNat)
      case atStart => exact ⟨0, m, reps, [], D, by omega, rfl, hlt, hm, HM10, MI, RC, ⟨rfl⟩, ⟨rfl⟩⟩
      case round =>
        clear HM10 MI RC hm hrl hl8
        obtain ⟨j, m, reps', rw', D, hj, rfl, hir, hm, HM, MI, RC, HLr, HGr⟩ := hrel
        obtain ⟨w11, rfl⟩ : ∃ w11 : World, w11 = wr := ⟨_, rfl⟩
        by_cases hjl : j < row.length
        · obtain ⟨ad2, e2, g0, g1⟩ := at_T77 (HRT.out w11 HM.out.hb) (j : Int) (by omega) (by omega)
          subst e2
          rw [Int.toNat_natCast] at g0 g1
          have hrd : rd_T77 row (j : Int) = cel t p j := by rw [← HRW.out]; rfl
          rw [hrd] at g0 g1
          have hcel := HT.out.cel hp (a := j) (by rw [HRW.out]; exact hjl)
          have hdr : row.drop j = cel t p j :: row.drop (j + 1) := by
            rw [List.drop_eq_getElem_cons hjl, ← hrd]
            simp [rd_T77, List.getD_eq_getElem?_getD, List.getElem?_eq_getElem hjl]
          have hg := HGr.out
          rw [hdr] at hg
          have HG2 := Aside0.mk hg
          clear hrd hdr hg HGr
          generalize cel t p j = r at *
          obtain ⟨f0, f1⟩ := r
          dsimp only at hcel g0 g1
          have HCE := Aside0.mk hcel
          have h10 := hcel.2.2.1
          have h11 := hcel.2.2.2
          clear hcel
          go_upto_region 13 with fail
          have HM12 : Aside0 (MInv w1 (w11.alloc (Obj.cells #[Value.int .i64 f0, Value.int .i64 f1] 77)) ins outs vr out u8 (ints (reps'.drop i)) u9 rw' m D) := ⟨HM.out.alloc _⟩
          have BT : Aside0 ((w11.alloc (Obj.cells #[Value.int .i64 f0, Value.int .i64 f1] 77)).heap[w11.heap.size]? = some (.cells #[.int .i64 f0, .int .i64 f1] 77 (0, 0))) := ⟨blk_new _ _⟩
          have TL : Aside0 (w1.heap.size + 2 ≤ w11.heap.size) := ⟨HM.out.size⟩
          have TN8 : Aside0 (some w11.heap.size ≠ u8.ownBlock) := ⟨fun e => by have := Kd.Q_lt HM.out.td _ e.symm; omega⟩
          have TN9 : Aside0 (some w11.heap.size ≠ u9.ownBlock) := ⟨fun e => by have := Kd.R_lt HM.out.r9 _ e.symm; omega⟩
          clear HM g0 g1
          generalize w11.alloc (Obj.cells #[Value.int .i64 f0, Value.int .i64 f1] 77) = w12 at *
          obtain ⟨tb, htb⟩ : ∃ tb, w11.heap.size = tb := ⟨_, rfl⟩
          rw [htb] at BT TL TN8 TN9 ⊢
          clear htb
          obtain ⟨a55, e55, hy55⟩ := Kd.at_int (Kd.C_below H5.out HM12.out.hb) f1 (by omega) (by omega)
          obtain rfl : a5 = a55 := by injection e55
          have hy : w12.cell? (a5.add f1.toNat) = some (.int .i64 (cl c f1.toNat)) := hy55
          have A5L : Aside0 (a5.block < w1.heap.size) := ⟨Kd.C_lt H5.out (by omega) (by decide)⟩
          have hq0 : w12.cell? ⟨tb, 0, none⟩ = some (.int .i64 f0) := (blk_cell BT.out 0).trans rfl
          have hq1 : w12.cell? ⟨tb, 1, none⟩ = some (.int .i64 f1) := (blk_cell BT.out 1).trans rfl
          have hcrr := HCR.out f1.toNat (by omega)
          have hwk : (Lit.int .i64 (cl c f1.toNat)).wf = true := by
            have h := wf_small (cl c f1.toNat).toNat (by omega)
            rwa [Int.toNat_of_nonneg hcrr.1] at h
          have HKey := Aside0.mk (keyOf_int_mk (P := Try.prog) Try.underlying3 hwk)
          have HKl := Aside0.mk (lawI.key (keyOf_int_mk (P := Try.prog) Try.underlying3 hwk))
          have hrl := RC.out.le
          clear e55 hy55 hwk hcrr
          by_cases hin : idxB t reps' f1.toNat < reps'.length
          · have hbis := idxB_lt hin
            have hmem : (reps'.map (kapp c))[idxB t reps' f1.toNat]? = some (kapp c f1.toNat) := by
              have h2 : reps'.getD (idxB t reps' f1.toNat) 0 = reps'[idxB t reps' f1.toNat] := by rw [List.getD_eq_getElem?_getD, List.getElem?_eq_getElem hin]; rfl
              rw [List.getElem?_map, List.getElem?_eq_getElem hin, Option.map_some, ← h2]
              unfold kapp
              rw [(HCI.out _ _ (by rw [h2]; exact RC.out.lt _ (List.getElem_mem hin)) (by omega)).2 hbis]
            have HHas : Aside0 (Maps.has D (kapp c f1.toNat) = true) := ⟨(MI.out.has _).2 (List.mem_of_getElem? hmem)⟩
            have HVal : Aside0 (∀ z, D.atKey (kapp c f1.toNat) z = .lit (.int .i64 (idxB t reps' f1.toNat : Nat))) := ⟨MI.out.at' _ _ hmem⟩
            have hstep := HG2.out
            simp only [minRow, if_pos hin] at hstep
            have HST := Aside0.mk hstep
            clear hbis hmem hstep HG2
            obtain ⟨ix, hix⟩ : ∃ ix, idxB t reps' f1.toNat = ix := ⟨_, rfl⟩
            rw [hix] at HVal HST hin
            clear hix
            go_wp2_with (first
              | (at_lookup; refine wpList_lookup_own_ok_int _ rfl (.tmp 49) (.tmp 54) 80 rfl 3 3 .i64 lawI Try.underlying80 Try.underlying3 (zero3 _) (w1.heap.size + 1) m D rfl HM12.out.om (.int .i64 (cl c f1.toNat)) _ rfl HKey.out ?_; intro cc hat hwf; rw [show Lit.int .i64 (cl c f1.toNat) = kapp c f1.toNat from rfl, HHas.out]; have hcv : cc = ix := (by have h := hat.symm.trans (HVal.out _); simpa using h); clear hat hwf; subst hcv)
              | ((with_reducible refine gate_builtin (b := .append) (xs := #[.tmp 74, .tmp 79]) rfl ?_); at_builtin; refine Kd.R_append k77 (w0 := w12) (w1.heap.size + 2) rfl (.tmp 74) (.tmp 79) 75 77 (.agg #[.int .i64 0, .int .i64 0]) 16 rfl Try.underlying75 info77 rfl (by decide) (by omega) u9 rw' ⟨f0, (ix : Int)⟩ [.int .i64 f0, .int .i64 (ix : Int)] (fun _ => True) (fun _ => False) rfl ?aX ?aP (fun _ hk => hk.elim) (fun _ _ => trivial) HM12.out.r9 (Below.refl _ _) ?aS ?aL ?_; (case aX => first | rfl | (simp; done)); (case aP => first | exact rfl | exact k77_mkM _ _ _ _); (case aS => exact HM12.out.size); (case aL => have h1_ := HLr.out; first | omega | (simp; omega)); intro v20 w20 ho hb hg hat; have HR20 := Aside0.mk ho; have HG20 := Aside0.mk hg; have HA20 := Aside0.mk hat; clear ho hb hg hat))
            go_roundw
            case rel => exact ⟨j + 1, m, reps', _, D, by omega, by go_num, hir, hm, ⟨HM12.out.addRow HR20.out HG20.out HA20.out⟩, MI, RC, ⟨by simp [HLr.out]⟩, HST⟩
            case measure => simp [intOf]; omega
          · have hno := idxB_not hin
            have hnm : kapp c f1.toNat ∉ reps'.map (kapp c) := fun hmem => by
              obtain ⟨p', h1, h2⟩ := List.mem_map.1 hmem
              have h3 : cl c p' = cl c f1.toNat := by unfold kapp at h2; injection h2
              exact hno.2 p' h1 ((HCI.out _ _ (RC.out.lt _ h1) (by omega)).1 h3)
            have HHas : Aside0 (Maps.has D (kapp c f1.toNat) = false) := ⟨by
              cases h : Maps.has D (kapp c f1.toNat)
              · rfl
              · exact absurd ((MI.out.has _).1 h) hnm⟩
            have MI2 : Aside0 (MapIs (D.put (kapp c f1.toNat) (.lit (.int .i64 (reps'.length : Nat)))) ((reps' ++ [f1.toNat]).map (kapp c))) := ⟨by
              have h := MI.out.put HKl.out hnm
              rw [List.length_map] at h
              rw [List.map_append]; exact h⟩
            have RC2 : Aside0 (Rchd t (reps' ++ [f1.toNat])) := ⟨RC.out.add (by omega) hno.2⟩
            have hstep := HG2.out
            simp only [minRow, if_neg hin] at hstep
            rw [hno.1] at hstep
            have HST := Aside0.mk hstep
            have HWF : Aside0 ((Lit.int .i64 (reps'.length : Nat)).wf = true) := ⟨wf_small _ (by omega)⟩
            have HLT : Aside0 ((ints (reps'.drop i)).length ≤ 64) := ⟨by unfold ints; rw [List.length_map, List.length_drop]; omega⟩
            have HDR : Aside0 (ints ((reps' ++ [f1.toNat]).drop i) = ints (reps'.drop i) ++ [f1]) := ⟨by
              unfold ints
              rw [List.drop_append_of_le_length (by omega), List.map_append]
              simp [Int.toNat_of_nonneg h10]⟩
            clear hstep HG2 hno hnm hin
            go_wp2_with (first
              | (at_lookup; refine wpList_lookup_own_ok_int _ rfl (.tmp 49) (.tmp 54) 80 rfl 3 3 .i64 lawI Try.underlying80 Try.underlying3 (zero3 _) (w1.heap.size + 1) m D rfl HM12.out.om (.int .i64 (cl c f1.toNat)) _ rfl HKey.out ?_; intro cc hat hwf; rw [show Lit.int .i64 (cl c f1.toNat) = kapp c f1.toNat from rfl, HHas.out]; clear hat hwf)
              | (at_len; first | (refine wpList_len_own _ rfl (.tmp 60) 80 rfl 3 3 Try.underlying80 _ (w1.heap.size + 1) m D rfl HM12.out.om ?_; rw [MI.out.size, List.length_map]))
              | (at_mapUpdate; refine wpList_mapUpdate_own _ rfl (.tmp 62) (.tmp 67) (.tmp 68) 80 rfl 3 3 lawI Try.underlying80 _ (w1.heap.size + 1) m D rfl HM12.out.om (by unfold maxLen; omega) (.int .i64 (cl c f1.toNat)) (.int .i64 (reps'.length : Nat)) _ rfl rfl HKey.out _ [] (plainElem_int Try.underlying3 HWF.out) ?_; intro w13 hown13 hgrow13; have HM13 := Aside0.mk (HM12.out.putMap hown13 hgrow13); have BT13 : Aside0 (w13.heap[tb]? = some (.cells #[.int .i64 f0, .int .i64 f1] 77 (0, 0))) := ⟨blk_grown BT.out hgrow13 (by have := TL.out; simp; omega)⟩; have hq1' : w13.cell? ⟨tb, 1, none⟩ = some (.int .i64 f1) := (blk_cell BT13.out 1).trans rfl; clear hown13 hgrow13)
              | ((with_reducible refine gate_builtin (b := .append) (xs := #[.tmp 69, .tmp 72]) rfl ?_); at_builtin; refine Kd.Q_append (Kd.int .i64) (w0 := w13) (w1.heap.size + 2) rfl (.tmp 69) (.tmp 72) 22 3 (.int .i64 0) 8 rfl Try.underlying22 info3 rfl (by decide) (by omega) u8 (ints (reps'.drop i)) f1 [.int .i64 f1] (fun _ => True) (fun _ => False) rfl ?aX ?aP (fun _ hk => hk.elim) (fun _ _ => trivial) HM13.out.td (Below.refl _ _) ?aS ?aL ?_; (case aX => first | rfl | (simp; done)); (case aP => first | exact rfl); (case aS => exact HM13.out.size); (case aL => have h1_ := HLT.out; first | omega | (simp; omega)); intro v14 w14 ho hb hg hat; have HM14 := Aside0.mk (HM13.out.addTodo ho hg); have BT14 : Aside0 (w14.heap[tb]? = some (.cells #[.int .i64 f0, .int .i64 f1] 77 (0, 0))) := ⟨blk_grown BT13.out hg TN8.out⟩; have hq0' : w14.cell? ⟨tb, 0, none⟩ = some (.int .i64 f0) := (blk_cell BT14.out 0).trans rfl; clear ho hb hg hat)
              | ((with_reducible refine gate_builtin (b := .append) (xs := #[.tmp 74, .tmp 79]) rfl ?_); at_builtin; refine Kd.R_append k77 (w0 := w14) (w1.heap.size + 2) rfl (.tmp 74) (.tmp 79) 75 77 (.agg #[.int .i64 0, .int .i64 0]) 16 rfl Try.underlying75 info77 rfl (by decide) (by omega) u9 rw' ⟨f0, ((reps'.length : Nat) : Int)⟩ [.int .i64 f0, .int .i64 ((reps'.length : Nat) : Int)] (fun _ => True) (fun _ => False) rfl ?aX ?aP (fun _ hk => hk.elim) (fun _ _ => trivial) HM14.out.r9 (Below.refl _ _) ?aS ?aL ?_; (case aX => first | rfl | (simp; done)); (case aP => first | exact rfl | exact k77_mkM _ _ _ _); (case aS => exact HM14.out.size); (case aL => have h1_ := HLr.out; first | omega | (simp; omega)); intro v20 w20 ho hb hg hat; have HR20 := Aside0.mk ho; have HG20 := Aside0.mk hg; have HA20 := Aside0.mk hat; clear ho hb hg hat))
            go_roundw
            case rel => exact ⟨j + 1, m + 1, reps' ++ [f1.toNat], _, _, by omega, by go_num, by simp; omega, by simp; omega, ⟨by rw [HDR.out]; exact HM14.out.addRow HR20.out HG20.out HA20.out⟩, MI2, RC2, ⟨by simp [HLr.out]⟩, HST⟩
            case measure => simp [intOf]; omega
        · have hje : j = row.length := by omega
          have hg := HGr.out
          rw [hje, List.drop_length] at hg
          simp only [minRow] at hg
          have HG3 := Aside0.mk hg
          have hlj : rw'.length = row.length := by rw [← hje]; exact HLr.out
          clear hg HGr
          have hl8 : (ints (reps'.drop i)).length = reps'.length - i := by unfold ints; rw [List.length_map, List.length_drop]
          obtain ⟨A9, q9, hv9, hl9, hq9⟩ := Kd.R_reads HM.out.r9
          subst hv9
          clear hl9 hq9
          obtain ⟨AR, qR, hvR⟩ := Kd.S_slice HM.out.rr
          subst hvR
          obtain ⟨g88, o88, q88, hv88, hg88, hg89, _⟩ := Kd.Q_form HM.out.td (by rw [hl8]; omega)
          rw [hl8] at hv88
          clear hg88 hg89
          subst hv88
          have hQD := Kd.Q_drop HM.out.td (k := 1) (by rw [hl8]; omega)
          have HQD := Aside0.mk hQD
          have hrl := RC.out.le
          have hc2 := (blk_cell HM.out.blk 2).trans (show _ = some (.slice AR out.length qR) from rfl)
          have HT6 := Aside0.mk (Kd.R_typed HM.out.r9)
          clear hQD
          have HLJ := Aside0.mk hlj
          clear hlj
          have HNX : Aside0 (minGo t k1 (i + 1) reps' (out ++ [rw']) = minRows t) := ⟨by
            have h := HG.out
            rw [hk1] at h
            simp only [minGo, if_pos hlt] at h
            rw [HP.out, HRW.out, ← HG3.out] at h
            exact h⟩
          have HDR : Aside0 ((ints (reps'.drop i)).drop 1 = ints (reps'.drop (i + 1))) := ⟨by unfold ints; rw [← List.map_drop, List.drop_drop]⟩
          go_wp2_with ((with_reducible refine gate_builtin (b := .append) (xs := #[.tmp 83, .tmp 85]) rfl ?_); at_builtin; refine Kd.S_append (Kd.slice 77 k77) (w0 := w11) (w1.heap.size + 2) rfl (.tmp 83) (.tmp 85) 23 75 (.slice none 0 0) 24 rfl Try.underlying23 info75 rfl (by decide) (by omega) (.slice AR out.length qR) out rw' [.slice A9 rw'.length q9] (fun _ => True) (fun k => some k = (Value.slice A9 rw'.length q9).ownBlock) rfl ?aX ⟨_, rfl, Kd.R_flat (fun h => h) HM.out.r9 (fun k hk _ => hk.symm)⟩ ?aO (fun _ _ => trivial) ?aR (Below.refl _ _) ?aS ?aL ?_; (case aX => first | rfl | (simp; done)); (case aO => exact (fun k hk => ⟨trivial, by obtain ⟨cells, hc⟩ := HT6.out k hk.symm; exact Kd.S_ne HM.out.rr hc (by decide)⟩)); (case aR => exact Kd.S_mono HM.out.rr (fun k hk => ⟨trivial, hk⟩)); (case aS => exact HM.out.size); (case aL => have h1_ := HL.out; omega); intro v7 w7 ho hb hg hat; obtain ⟨A7, q7, hv7⟩ := Kd.S_slice ho; rw [List.length_append, List.length_singleton] at hv7; subst hv7; have HR7 := Aside0.mk ho; have HG7 := Aside0.mk hg; have hne_ : ∀ g, g < w1.heap.size + 2 → some g ≠ (Value.slice AR out.length qR).ownBlock := (fun g hg2 e => by have := Kd.S_base HM.out.rr g e.symm; omega); have hb7 := blk_grown HM.out.blk hg (hne_ _ (by omega)); have hc7 := (blk_cell hb7 2).trans (show _ = some (.slice AR out.length qR) from rfl); have hf7 := blk_frozen hb7 2; clear ho hb hg hat hne_ hb7)
          all_goals
            have HMF := Aside0.mk (MInv.addState HM.out HR7.out HG7.out)
            have hQ := Kd.Q_drop HMF.out.td (k := 1) (by rw [hl8]; omega)
            rw [HDR.out] at hQ
          all_goals
            go_roundg k1
            case measure => omega
            case rel => exact ⟨i + 1, m, reps', out ++ [rw'], _, D, by omega, by omega, hm, ⟨MInv.dropTodo HMF.out (by first | (rw [if_pos (by assumption)] at hQ; exact hQ) | (rw [if_neg (by assumption)] at hQ; exact hQ) | (simpa [*] using hQ))⟩, MI, RC, ⟨by simp [HL.out]⟩, HNX⟩
    · have hout : out = minRows t := by
        have h := HG.out
        cases gk with
        | zero => exact h
        | succ n => simp only [minGo, if_neg hlt] at h; exact h
      have HOUT := Aside0.mk hout
      clear hout
      obtain ⟨AR, qR, hvR⟩ := Kd.S_slice HM.out.rr
      subst hvR
      have hrb1 : rb < w1.heap.size := blk_lt RB6.out
      have hb0 : w9.heap[rb]? = some (.cells #[.int .i64 0, .int .i64 0, .slice none 0 0] 25 (0, 0)) := (HM.out.hb.block rb hrb1).trans RB6.out
      have hrc0 := (blk_cell hb0 0).trans (show _ = some (.int .i64 0) from rfl)
      have hrf0 := blk_frozen hb0 0
      have hb1 : (w9.setCell ⟨rb, 0, none⟩ (.int .i64 ins)).heap[rb]? = some (.cells #[.int .i64 ins, .int .i64 0, .slice none 0 0] 25 (0, 0)) := blk_put hb0 0 _ rfl
      have hrc1 := (blk_cell hb1 1).trans (show _ = some (.int .i64 0) from rfl)
      have hrf1 := blk_frozen hb1 1
      have hb2 : ((w9.setCell ⟨rb, 0, none⟩ (.int .i64 ins)).setCell ⟨rb, 1, none⟩ (.int .i64 outs)).heap[rb]? = some (.cells #[.int .i64 ins, .int .i64 outs, .slice none 0 0] 25 (0, 0)) := blk_put hb1 1 _ rfl
      have hrc2 := (blk_cell hb2 2).trans (show _ = some (.slice none 0 0) from rfl)
      have hrf2 := blk_frozen hb2 2
      have hb3 : (((w9.setCell ⟨rb, 0, none⟩ (.int .i64 ins)).setCell ⟨rb, 1, none⟩ (.int .i64 outs)).setCell ⟨rb, 2, none⟩ (.slice AR out.length qR)).heap[rb]? = some (.cells #[.int .i64 ins, .int .i64 outs, .slice AR out.length qR] 25 (0, 0)) := blk_put hb2 2 _ rfl
      have HB3 := Aside0.mk hb3
      have hl0 := (blk_cell HM.out.blk 0).trans (show _ = some (.int .i64 ins) from rfl)
      have hl1 := (blk_cell HM.out.blk 1).trans (show _ = some (.int .i64 outs) from rfl)
      have hl2 := (blk_cell HM.out.blk 2).trans (show _ = some (.slice AR out.length qR) from rfl)
      have hN : ¬ 0 < reps.length - i := by omega
      have hN2 : reps.length - i = 0 := by omega
      have hN3 : decide (0 < reps.length - i) = false := decide_eq_false hN
      clear hb0 hb1 hb2 hb3
      go_wp2_with fail
      refine bodyPost_ret (results_ct (fn := Try.f13) rfl _ _ rb 25 #[.int .i64 ins, .int .i64 outs, .slice AR out.length qR] (0, 0) _ rfl HB3.out Try.underlying25 rfl (by kernel_rfl)) rfl ?_
      have hS : Kd.S (Kd.slice 77 k77) 75 w9 w.heap.size (fun _ => True) (.slice AR out.length qR) out := Kd.S_lower (Kd.S_mono HM.out.rr (fun _ _ => trivial)) (by have := HB6.out.size; omega)
      have hS1 : Kd.S (Kd.slice 77 k77) 75 w9 (w1.heap.size + 2) (fun _ => True) (.slice AR out.length qR) out := Kd.S_mono HM.out.rr (fun _ _ => trivial)
      exact ⟨_, rfl, by rw [← HOUT.out]; exact Kd.S_lower (S_putU (p := ⟨rb, 2, none⟩) (S_putU (p := ⟨rb, 1, none⟩) (S_putU (p := ⟨rb, 0, none⟩) hS1 (by show rb < _; omega) _) (by show rb < _; omega) _) (by show rb < _; omega) _) (by have := HB6.out.size; omega),
        (((HB6.out.trans (HM.out.hb.mono HB6.out.size)).setCell RL.out _).setCell RL.out _).setCell RL.out _⟩
end Go.Proofs.Ytaalafnkglbcpaa.PL
