/- Own texts of this claim, part E: contracts of the functions that the law reaches, and plain lemmas. -/
import Derived.Test.YtaalafnkglbcpaaEPD
/- The contract of the function EqualProofs (10): it answers true. Own text of this claim (mkproofs.py). -/
section
namespace Go.Proofs.Ytaalafnkglbcpaa.SY
open Go.RowKit Go.WideMaps Go.Maps Go.Proofs.YtaalafnkglbcpaaW.PrintWords Go.Proofs.YtaalafnkglbcpaaW.PrintLast Go.Proofs.YtaalafnkglbcpaaW.PrintMore
open Go.Proofs.Ytaalafnkglbcpaa.PL (S77 z77 k77 Tab TabR roww cel OKT info3)
open Go.Proofs.Ytaalafnkglbcpaa.PG (S50 z50 k50 GateOk GatesOk)
set_option linter.unusedVariables false
set_option linter.unusedSimpArgs false
/-- Two rows in one row. -/
theorem C_twoP {W : World} {h : Nat} {A B : Option Addr} {n m ca cb : Nat} {xs ys : List P2} (hh : W.heap[h]? = some (.cells #[.slice A n ca, .slice B m cb] 65 (0, 0))) (hx : k69.C W A n xs) (hy : k69.C W B m ys) (hnx : n = xs.length) (hmy : m = ys.length) (hca : n ≤ ca) (hcb : m ≤ cb) : (Kd.slice 69 k69).C W (some ⟨h, 0, none⟩) 2 [xs, ys] := by
  subst hnx
  subst hmy
  refine ⟨rfl, by decide, fun _ => ⟨_, rfl, fun j p hj => ?_⟩⟩
  match j, hj with
  | 0, hj =>
    simp at hj; subst hj
    refine ⟨[.slice A xs.length ca], rfl, ⟨_, _, rfl, hca, hx⟩, fun i u hi => ?_⟩
    match i, hi with
    | 0, hi => simp at hi; subst hi; exact (blk_cell hh 0).trans rfl
    | i + 1, hi => simp at hi
  | 1, hj =>
    simp at hj; subst hj
    refine ⟨[.slice B ys.length cb], rfl, ⟨_, _, rfl, hcb, hy⟩, fun i u hi => ?_⟩
    match i, hi with
    | 0, hi => simp at hi; subst hi; exact (blk_cell hh 1).trans rfl
    | i + 1, hi => simp at hi
  | j + 2, hj => simp at hj
theorem conc2 (W : World) (h : Nat) (A B : Option Addr) (n m ca cb : Nat) (xs ys : List P2) (hh : W.heap[h]? = some (.cells #[.slice A n ca, .slice B m cb] 65 (0, 0))) (hx : k69.C W A n xs) (hy : k69.C W B m ys) (hnx : n = xs.length) (hmy : m = ys.length) (hca : n ≤ ca) (hcb : m ≤ cb) (hl : xs.length + ys.length ≤ 1000) :
    Calls Try.prog 38 #[.slice (some ⟨h, 0, none⟩) 2 2] W fun e w' => ∃ v : Value, e = .returned v ∧ Kd.R k69 69 w' W.heap.size (fun _ => True) v (xs ++ ys) ∧ Below W.heap.size W w' := by
  have h2 := CP.concat_walk (some ⟨h, 0, none⟩) 2 [xs, ys] W (C_twoP hh hx hy hnx hmy hca hcb) (Nat.le_refl 2) (by show 2 ≤ 1000; omega) (by
    show ((([xs, ys].take 2).map List.length)).sum ≤ 1000000
    simp
    omega)
  rw [show [xs, ys].flatten = xs ++ ys from by simp] at h2
  exact h2
theorem Cir.start_ltn {c : Cir} (h : c.init.length = c.next.length) : c.start < 2 ^ c.next.length := by
  unfold Cir.start
  have h1 := bitsN_lt c.init
  rwa [h] at h1
theorem Cir.nxt_ltn (c : Cir) (s x : Nat) : c.nxt s x < 2 ^ c.next.length := by
  unfold Cir.nxt
  have h := bitsN_lt (c.next.map (val c.gs s x))
  rwa [List.length_map] at h
theorem CertOk.small {c : Cir} {t : Tab} {ps : List P2} (h : CertOk c t ps) (hi : c.init.length = c.next.length) : ∀ p ∈ ps, p.1 < 2 ^ c.next.length :=
  h.reach (fun p => p.1 < 2 ^ c.next.length) (Cir.start_ltn hi) (fun p x _ _ => Cir.nxt_ltn c p.1 x)
theorem less_mem {ps : List P2} {k : Nat} {p : P2} (h : p ∈ ps.take k ++ ps.drop (k + 1)) : p ∈ ps := by
  rcases List.mem_append.1 h with h | h
  · exact List.mem_of_mem_take h
  · exact List.mem_of_mem_drop h
theorem less_nodup {ps : List P2} (h : ps.Nodup) (k : Nat) : (ps.take k ++ ps.drop (k + 1)).Nodup := by
  have hs : (ps.take k ++ ps.drop (k + 1)).Sublist ps := by
    have h1 : (ps.drop (k + 1)).Sublist (ps.drop k) := by
      rw [show ps.drop (k + 1) = (ps.drop k).drop 1 from by rw [List.drop_drop]]
      exact List.drop_sublist _ _
    have h2 := (List.Sublist.refl (ps.take k)).append h1
    rwa [List.take_append_drop] at h2
  exact hs.nodup h
theorem less_len {ps : List P2} {k : Nat} (hk : k < ps.length) : (ps.take k ++ ps.drop (k + 1)).length + 1 = ps.length := by
  rw [List.length_append, List.length_take, List.length_drop]; omega
set_option maxHeartbeats 16000000 in
set_option maxRecDepth 100000 in
theorem proofs_calls (w : World) (A0 : Option Addr) (c0 : Nat) (l0 : List Int) (kk : Int) (hr0 : Kd.C (Kd.int .i64) w A0 l0.length l0) (hc0 : l0.length ≤ c0) :
    Calls Try.prog 10 #[.slice A0 l0.length c0, .int .i64 kk] w fun e w' => e = .returned (.bool true) ∧ Below w.heap.size w w' := by
  have TC := Aside0.mk (PL.table_calls A0 c0 l0 w hr0 hc0)
  clear hr0 hc0
  go_enter Try.func10, Try.ntmps10
  go_wp2_with fail
  (with_reducible refine TC.out.mono ?_)
  rintro e w1 ⟨insI, outsI, vr, t, rfl, hv, hS, hb1⟩
  obtain ⟨I, rfl⟩ : ∃ I : Nat, insI = (I : Int) := ⟨insI.toNat, by have := hv.i0; omega⟩
  obtain ⟨O, rfl⟩ : ∃ O : Nat, outsI = (O : Int) := ⟨outsI.toNat, by have := hv.o0; omega⟩
  obtain ⟨Ar, cr, rfl, hcr, hCr⟩ := Kd.S_reads hS
  have T1 := Aside0.mk (blk_new w1 (Obj.cells #[.int .i64 (I : Int), .int .i64 (O : Int), .slice Ar t.length cr] 25))
  have ALH := Aside0.mk (below_alloc (Below.refl w1.heap.size w1) (Obj.cells #[.int .i64 (I : Int), .int .i64 (O : Int), .slice Ar t.length cr] 25))
  have OC := Aside0.mk (of2_calls (w1.alloc (Obj.cells #[.int .i64 (I : Int), .int .i64 (O : Int), .slice Ar t.length cr] 25)) I O Ar cr t (by have := hv.i0; have := hv.i1; omega) (by have := hv.o0; omega) (by have := hv.o1; omega) hv.r1 (PL.valid_ok hv) (Kd.C_below hCr ALH.out) hcr)
  have CR := Aside0.mk hCr
  have OKt := Aside0.mk (PL.valid_ok hv)
  have h6 := hv.r1
  have HB1 := Aside0.mk hb1
  clear TC hv hS hb1 hCr
  go_wp2_with fail
  (with_reducible refine OC.out.mono ?_)
  rintro e w3 ⟨c, Ag, Ao, An, Ai, cg, co, cn, ci, rfl, hin, hb, ok, hd, hi, ho, hn⟩
  subst hi
  subst ho
  have T3 := Aside0.mk (blk_alloc (blk_below T1.out hb) (Obj.cells #[.int .i64 (c.ins : Int), .slice Ag c.gs.length cg, .slice Ao c.outs.length co, .slice An c.next.length cn, .slice Ai c.init.length ci] 38))
  have K3 := Aside0.mk (blk_new w3 (Obj.cells #[.int .i64 (c.ins : Int), .slice Ag c.gs.length cg, .slice Ao c.outs.length co, .slice An c.next.length cn, .slice Ai c.init.length ci] 38))
  have AL3 := Aside0.mk (below_alloc (Below.refl w3.heap.size w3) (Obj.cells #[.int .i64 (c.ins : Int), .slice Ag c.gs.length cg, .slice Ao c.outs.length co, .slice An c.next.length cn, .slice Ai c.init.length ci] 38))
  have HB3w := Aside0.mk (ALH.out.trans ((hb.trans (AL3.out.mono hb.size)).mono ALH.out.size))
  have HIN := Aside0.mk (hin.below AL3.out)
  have CR3 := Aside0.mk (Kd.C_below CR.out HB3w.out)
  have OK := Aside0.mk ok
  have HD := Aside0.mk hd
  have HN := hn
  clear OC hb T1 ALH AL3 hin ok hd hn CR
  dsimp only [Cir.V]
  go_upto_region 3 with (fail)
  generalize w3.alloc (Obj.cells #[.int .i64 (c.ins : Int), .slice Ag c.gs.length cg, .slice Ao c.outs.length co, .slice An c.next.length cn, .slice Ai c.init.length ci] 38) = w4 at *
  obtain ⟨kb, hkb⟩ : ∃ kb, w3.heap.size = kb := ⟨_, rfl⟩
  obtain ⟨tb, htb⟩ : ∃ tb, w1.heap.size = tb := ⟨_, rfl⟩
  have HB4 := Aside0.mk (HB1.out.trans (HB3w.out.mono HB1.out.size))
  rw [hkb] at K3 ⊢
  rw [htb] at T3 ⊢
  clear hkb htb HB1 HB3w
  obtain ⟨q0, q1, q2, q3, q4⟩ := box5 K3.out
  obtain ⟨p0, p1, p2⟩ := box3 T3.out
  have CC := Aside0.mk (cert_calls w4 c Ag Ao An Ai cg co cn ci Ar cr t OK.out HIN.out OKt.out CR3.out hcr HN h6 HD.out)
  dsimp only [Cir.V] at CC
  go_wp2_with fail
  (with_reducible refine CC.out.mono ?_)
  rintro e w5 ⟨v, ps, rfl, hb, hr, hok, hlt, hdg⟩
  have h1 : 1 ≤ ps.length := List.length_pos_of_mem hok.hd
  have hl6 : ps.length ≤ 6 := by omega
  obtain ⟨g, cap, rfl, _, _, _⟩ := Kd.R_form hr h1
  have PS5 := Aside0.mk hr
  have PSM := Aside0.mk hr
  have COK := Aside0.mk hok
  have DG := Aside0.mk hdg
  have HR5 := Aside0.mk hb
  have SM := Aside0.mk (same_calls w5)
  clear CC hb hr hok hdg q0 q1 q2 q3 q4 p0 p1 p2 PSM hlt
  obtain ⟨n, hn⟩ : ∃ n, ps.length = n := ⟨_, rfl⟩
  have HLN := Aside0.mk hn
  rw [hn] at h1 hl6 PS5 ⊢
  clear hn
  have hnz : ¬ n = 0 := by omega
  have hnz2 : ¬ ((n : Int) = 0) := by omega
  have hnz3 : ((n : Int) == 0) = false := beq_eq_false_iff_ne.mpr hnz2
  obtain ⟨j0, hj, hj0, hj1⟩ := PL.below_is kk (n : Int) (by omega) (by omega)
  obtain ⟨j, rfl⟩ : ∃ j : Nat, j0 = (j : Int) := ⟨j0.toNat, by omega⟩
  have hjn : j < n := by omega
  go_wp2_with fail
  (with_reducible refine SM.out.mono ?_)
  rintro e w6 ⟨rfl, hb⟩
  have HR6 := Aside0.mk (HR5.out.trans (hb.mono HR5.out.size))
  have PS6 := Aside0.mk (Kd.R_below PS5.out hb)
  have BC := Aside0.mk (PL.bakemake_Below.calls kk (n : Int) (j : Int) w6 hj)
  clear SM hb HR5 PS5 hj hj0 hj1
  go_wp2_with fail
  (with_reducible refine BC.out.mono ?_)
  rintro e w7 ⟨rfl, hd⟩
  have HR7 := Aside0.mk (HR6.out.trans (hd.below.mono HR6.out.size))
  have PS7 := Aside0.mk (Kd.R_below PS6.out hd.below)
  clear BC hd HR6 PS6
  go_upto_region 9 with (fail)
  obtain ⟨vq, hvq⟩ : ∃ vq, Value.slice (if cap = j + 1 then (some (⟨g, 0, none⟩ : Addr)) else (some (⟨g, 0, none⟩ : Addr)).map (·.add ((j + 1) * 2))) (n - (j + 1)) (cap - (j + 1)) = vq := ⟨_, rfl⟩
  obtain ⟨Bq, cq, hvq2⟩ : ∃ Bq cq, vq = .slice Bq (n - (j + 1)) cq := ⟨_, _, hvq.symm⟩
  have hcap := (Kd.R_reads' PS7.out).2.1
  have hcut0 : ∀ W : World, (Instr.slice 65 (.slice (some ⟨g, 0, none⟩) n cap) none (some (.int .i64 (j : Int))) none).run Try.prog W = .ok (.slice (some ⟨g, 0, none⟩) j cap) W := fun W => by
    obtain ⟨i0, hi0, hi1⟩ := Option.map_eq_some_iff.1 info69
    exact cut_to (P := Try.prog) 65 69 .i64 Try.underlying65 hi0 (some ⟨g, 0, none⟩) n cap (j : Int) (by omega) (by omega) hcap W
  have hcut : ∀ W : World, (Instr.slice 65 (.slice (some ⟨g, 0, none⟩) n cap) (some (.int .i64 ((j : Int) + 1))) none none).run Try.prog W = .ok vq W := fun W => by
    obtain ⟨i0, hi0, hi1⟩ := Option.map_eq_some_iff.1 info69
    simp only [Prod.mk.injEq] at hi1
    rw [← hvq]
    exact cut_from (P := Try.prog) 65 69 .i64 Try.underlying65 hi0 2 hi1.2.1 (some ⟨g, 0, none⟩) n cap ((j : Int) + 1) (by omega) (by omega) W
  have hw1 : wrap64 ((j : Int) + 1) = (j : Int) + 1 := by unfold wrap64; omega
  have QD7 : Aside0 (Kd.Q k69 69 w7 w4.heap.size (fun _ => True) (.slice Bq (n - (j + 1)) cq) (ps.drop (j + 1))) := ⟨by
    have h := Kd.Q_drop (k := j + 1) (Kd.Q_of_R PS7.out) (by rw [HLN.out]; omega)
    rw [← hvq2, ← hvq]; exact h⟩
  subst hvq2
  clear hvq
  refine start_ (n := 10) (S := fun _ => True) (ds := []) #[false, false, false, false, false, false, false, false, false, false] (by kernel_rfl) rfl rfl trivial (fun hHeld => ?_)
  have HR8 := Aside0.mk (below_drew HR7.out)
  have PS8 := Aside0.mk (Kd.R_drew PS7.out)
  have QD8 := Aside0.mk (Kd.Q_below QD7.out (below_drew (Below.refl w7.heap.size w7)))
  clear HR7 PS7 QD7
  generalize w7.drew = w8 at *
  refine pure_ (i := 0) (N := (some 46)) (v := ?_) (a' := ?_) #[true, false, false, false, false, false, false, false, false, false] rfl rfl (by kernel_rfl) (fun _ _ _ h => h) (Or.inl ⟨by rfl, ?_⟩) ?_ ?_
  rotate_left
  · intro w'
    go_simp
    with_reducible rfl
  rotate_left
  · simp only [Act.put, List.setIfInBounds_toArray, List.set_cons_zero, List.set_cons_succ, i64_w, i32_w]
    rfl
  refine pure_ (i := 1) (N := (some 47)) (v := ?_) (a' := ?_) #[true, true, false, false, false, false, false, false, false, false] rfl rfl (by kernel_rfl) (fun _ _ _ h => h) (Or.inl ⟨by rfl, ?_⟩) ?_ ?_
  rotate_left
  · intro w'
    go_simp
    with_reducible rfl
  rotate_left
  · simp only [Act.put, List.setIfInBounds_toArray, List.set_cons_zero, List.set_cons_succ, i64_w, i32_w]
    rfl
  refine pure_ (i := 2) (N := (some 48)) (v := ?_) (a' := ?_) #[true, true, true, false, false, false, false, false, false, false] rfl rfl (by kernel_rfl) (fun _ _ _ h => h) (Or.inl ⟨by rfl, ?_⟩) ?_ ?_
  rotate_left
  · intro w'
    go_simp
    with_reducible rfl
  rotate_left
  · simp only [Act.put, List.setIfInBounds_toArray, List.set_cons_zero, List.set_cons_succ, i64_w, i32_w]
    rfl
  refine pure_ (i := 3) (N := (some 49)) (v := ?_) (a' := ?_) #[true, true, true, true, false, false, false, false, false, false] rfl rfl (by kernel_rfl) (fun _ _ _ h => h) (Or.inl ⟨by rfl, ?_⟩) ?_ ?_
  rotate_left
  · intro w'
    go_simp
    with_reducible rfl
  rotate_left
  · simp only [Act.put, List.setIfInBounds_toArray, List.set_cons_zero, List.set_cons_succ, i64_w, i32_w]
    rfl
  refine pure_ (i := 4) (N := (some 50)) (v := ?_) (a' := ?_) #[true, true, true, true, true, false, false, false, false, false] rfl rfl (by kernel_rfl) (fun _ _ _ h => h) (Or.inl ⟨by rfl, ?_⟩) ?_ ?_
  rotate_left
  · intro w'
    go_simp
    with_reducible rfl
  rotate_left
  · simp only [Act.put, List.setIfInBounds_toArray, List.set_cons_zero, List.set_cons_succ, i64_w, i32_w]
    rfl
  refine pure_ (i := 5) (N := (some 51)) (v := ?_) (a' := ?_) #[true, true, true, true, true, true, false, false, false, false] rfl rfl (by kernel_rfl) (fun _ _ _ h => h) (Or.inl ⟨by rfl, ?_⟩) ?_ ?_
  rotate_left
  · intro w'
    go_simp
    with_reducible rfl
  rotate_left
  · simp only [Act.put, List.setIfInBounds_toArray, List.set_cons_zero, List.set_cons_succ, i64_w, i32_w]
    rfl
  refine pure_ (i := 6) (N := (some 52)) (v := ?_) (a' := ?_) #[true, true, true, true, true, true, true, false, false, false] rfl rfl (by kernel_rfl) (fun _ _ _ h => h) (Or.inl ⟨by rfl, ?_⟩) ?_ ?_
  rotate_left
  · intro w'
    go_simp
    with_reducible rfl
  rotate_left
  · simp only [Act.put, List.setIfInBounds_toArray, List.set_cons_zero, List.set_cons_succ, i64_w, i32_w]
    rfl
  refine one_ (i := 7) (N := (some 53)) #[true, true, true, true, true, true, true, true, false, false] rfl rfl (by kernel_rfl) (by decide) (fun K hK => ?_)
  refine value_ (w1 := ?_) (v := ?_) (by rfl) rfl ?_ ?_
  rotate_left 2
  · go_simp
    constructor
    · rfl
    · rfl
  refine hK.out _ _ trivial (fun hHeld => ?_)
  clear hK K
  refine norm_ (a' := ?_) ?_ ?_
  rotate_left
  · show Act.put _ (some 53) _ = _
    simp only [Act.put, List.setIfInBounds_toArray, List.set_cons_zero, List.set_cons_succ, i64_w, i32_w]
    rfl
  have Z9 := Aside0.mk (blk_new w8 (Obj.cells #[.slice (some ⟨g, 0, none⟩) j cap, .slice Bq (n - (j + 1)) cq] 65))
  have AL9 := Aside0.mk (below_alloc (Below.refl w8.heap.size w8) (Obj.cells #[.slice (some ⟨g, 0, none⟩) j cap, .slice Bq (n - (j + 1)) cq] 65))
  have HR9 := Aside0.mk (HR8.out.trans (AL9.out.mono HR8.out.size))
  have PS9 := Aside0.mk (Kd.R_below PS8.out AL9.out)
  have QD9 := Aside0.mk (Kd.Q_below QD8.out AL9.out)
  clear AL9 HR8 PS8 QD8
  generalize w8.alloc (Obj.cells #[.slice (some ⟨g, 0, none⟩) j cap, .slice Bq (n - (j + 1)) cq] 65) = w9 at *
  have PT9 := Aside0.mk (Kd.R_take (m := j) PS9.out (by rw [HLN.out]; omega))
  have tl : (ps.take j).length = j := by rw [List.length_take]; have := HLN.out; omega
  have dl : (ps.drop (j + 1)).length = n - (j + 1) := by rw [List.length_drop]; have := HLN.out; omega
  have hC1 := (Kd.R_reads' PT9.out).2
  have hC2 := (Kd.Q_reads' QD9.out).2
  rw [tl] at hC1
  rw [dl] at hC2
  have CN := Aside0.mk (conc2 w9 w8.heap.size (some ⟨g, 0, none⟩) Bq j (n - (j + 1)) cap cq (ps.take j) (ps.drop (j + 1)) Z9.out hC1.2 hC2.2 tl.symm dl.symm hC1.1 hC2.1 (by omega))
  clear Z9 PT9 QD9 tl dl hC1 hC2
  refine one_ (i := 8) (N := (some 54)) #[true, true, true, true, true, true, true, true, true, false] rfl rfl (by kernel_rfl) (by decide) (fun K hK => ?_)
  refine goes_ Try.func38 (by kernel_rfl) rfl #[.slice (some ⟨w8.heap.size, 0, none⟩) 2 2] (by rfl) rfl rfl (by (try simp only [List.map_toArray, List.map_cons, List.map_nil]); first | done | rfl) ?_
  refine CN.out.mono ?_
  rintro e w10 ⟨vl, rfl, hrl, hb⟩
  refine ⟨_, rfl, ?_⟩
  refine hK.out _ _ trivial (fun hHeld => ?_)
  clear hK K
  refine norm_ (a' := ?_) ?_ ?_
  rotate_left
  · show Act.put _ (some 54) _ = _
    simp only [Act.put, List.setIfInBounds_toArray, List.set_cons_zero, List.set_cons_succ, i64_w, i32_w]
    rfl
  refine pure_ (i := 9) (N := (some 10)) (v := ?_) (a' := ?_) #[true, true, true, true, true, true, true, true, true, true] rfl rfl (by kernel_rfl) (fun _ _ _ h => h) (Or.inl ⟨by rfl, ?_⟩) ?_ ?_
  rotate_left
  · intro w'
    go_simp
    with_reducible rfl
  rotate_left
  · simp only [Act.put, List.setIfInBounds_toArray, List.set_cons_zero, List.set_cons_succ, i64_w, i32_w]
    rfl
  refine done_ (by kernel_rfl) ?_
  have HR10 := Aside0.mk (HR9.out.trans (hb.mono HR9.out.size))
  have PS10 := Aside0.mk (Kd.R_below PS9.out hb)
  obtain ⟨Al, cl, rfl, hcl, hCl⟩ := Kd.R_reads hrl
  have CL10 := Aside0.mk hCl
  have LLN := Aside0.mk (less_len (ps := ps) (k := j) (by rw [HLN.out]; exact hjn))
  have NCL := Aside0.mk (COK.out.less (k := j) (by rw [HLN.out]; exact hjn))
  have SML := Aside0.mk (COK.out.small OK.out.il)
  clear CN hb hrl hCl HR9 PS9 hcut hcut0 hw1
  have A1 := Aside0.mk (accept_calls w10 c Ag Ao An Ai cg co cn ci Ar cr t ps (some ⟨g, 0, none⟩) cap OK.out (HIN.out.below HR10.out) OKt.out (Kd.C_below CR3.out HR10.out) hcr h6 HD.out (Kd.R_reads' PS10.out).2.2 (by rw [HLN.out]; omega) COK.out.nd DG.out SML.out)
  have A2 := Aside0.mk (fun W (hb : Below w10.heap.size w10 W) => accept_calls W c Ag Ao An Ai cg co cn ci Ar cr t (ps.take j ++ ps.drop (j + 1)) Al cl OK.out ((HIN.out.below HR10.out).below hb) OKt.out (Kd.C_below (Kd.C_below CR3.out HR10.out) hb) hcr h6 HD.out (Kd.C_below CL10.out hb) (by have := LLN.out; have := HLN.out; omega) (less_nodup COK.out.nd j) (fun p hp => DG.out p (less_mem hp)) (fun p hp => SML.out p (less_mem hp)))
  rw [HLN.out] at A1
  obtain ⟨lq, hlq⟩ : ∃ lq, (ps.take j ++ ps.drop (j + 1)).length = lq := ⟨_, rfl⟩
  rw [hlq] at A2 ⊢
  dsimp only [Cir.V] at A1 A2
  have K10 := Aside0.mk (blk_below K3.out HR10.out)
  have T10 := Aside0.mk (blk_below T3.out HR10.out)
  clear hlq K3 T3 PS10 CL10
  obtain ⟨q0, q1, q2, q3, q4⟩ := box5 K10.out
  obtain ⟨p0, p1, p2⟩ := box3 T10.out
  go_wp2_with fail
  (with_reducible refine A1.out.mono ?_)
  rintro e w11 ⟨r1, rfl, hb, hcase⟩
  obtain rfl : r1 = 0 := by
    rcases hcase with ⟨h, _⟩ | ⟨_, h⟩
    · exact h
    · exact absurd COK.out.closed h
  have K11 := Aside0.mk (blk_below K10.out hb)
  have T11 := Aside0.mk (blk_below T10.out hb)
  have HR11 := Aside0.mk (HR10.out.trans (hb.mono HR10.out.size))
  have A2' := Aside0.mk (A2.out w11 hb)
  clear A1 A2 K10 T10 HR10 hb hcase q0 q1 q2 q3 q4 p0 p1 p2
  obtain ⟨q0, q1, q2, q3, q4⟩ := box5 K11.out
  obtain ⟨p0, p1, p2⟩ := box3 T11.out
  go_wp2_with fail
  (with_reducible refine A2'.out.mono ?_)
  rintro e w12 ⟨r2, rfl, hb, hcase⟩
  obtain rfl : r2 = 13 := by
    rcases hcase with ⟨_, h⟩ | ⟨h, _⟩
    · exact absurd h NCL.out
    · exact h
  have HBF := Aside0.mk (HB4.out.trans ((HR11.out.trans (hb.mono HR11.out.size)).mono HB4.out.size))
  clear A2' K11 T11 HR11 hb hcase q0 q1 q2 q3 q4 p0 p1 p2
  go_wp2_with fail
  go_ret
  exact ⟨rfl, HBF.out⟩
theorem proofs_walk (a0 : Option Addr) (len0 cap0 : Nat) (z0 : List Int) (a1 : Int) (w : World) (w0 : (a0 = none ∧ len0 = 0 ∧ cap0 = 0 ∧ z0 = []) ∨ ∃ x, a0 = some x ∧ len0 ≤ cap0 ∧ cap0 ≤ maxLen ∧ z0.length = cap0 ∧ (∀ i, i < z0.length → w.cell? (x.add i) = some (.int .i64 (z0.getD i 0))) ∧ ∀ n ∈ z0, (Lit.int .i64 n).wf = true) :
    Calls Try.prog 10 #[.slice a0 len0 cap0, .int .i64 a1] w fun e w' => e = .returned (.bool true) ∧ Below w.heap.size w w' := by
  obtain ⟨l0, rfl, hr0, hm0, hw0, hc0⟩ := ReadsInt.ofRowC w0
  exact proofs_calls w _ _ l0 a1 (Kd.C_of_reads (d := (0 : Int)) (h1 := fun _ => rfl) hr0) hc0
end Go.Proofs.Ytaalafnkglbcpaa.SY
end
