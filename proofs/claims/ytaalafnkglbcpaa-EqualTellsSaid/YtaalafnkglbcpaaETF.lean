/- Own texts of this claim, part F: contracts of the functions that the law reaches, and plain lemmas. -/
import Derived.Test.YtaalafnkglbcpaaETE
/- The contract of the function EqualTells (7): it answers true. Own text of this claim. -/
section
namespace Go.Proofs.Ytaalafnkglbcpaa.SY
open Go.RowKit Go.WideMaps Go.Maps Go.Proofs.YtaalafnkglbcpaaW.PrintWords Go.Proofs.YtaalafnkglbcpaaW.PrintLast Go.Proofs.YtaalafnkglbcpaaW.PrintMore
open Go.Proofs.Ytaalafnkglbcpaa.PL (S77 z77 k77 Tab TabR roww cel OKT info3)
open Go.Proofs.Ytaalafnkglbcpaa.PG (S50 z50 k50 GateOk GatesOk)
set_option linter.unusedVariables false
set_option linter.unusedSimpArgs false
theorem runO_T (t : Tab) (l : List Nat) : ∀ s, PL.runO t s (natsI l) = runT t s l := by
  induction l with
  | nil => intro s; rfl
  | cons x l ih =>
    intro s
    have h : natsI (x :: l) = (x : Int) :: natsI l := rfl
    rw [h]
    simp only [PL.runO, runT, Int.toNat_natCast]
    rw [ih]
/-- learn.Run of a right table, over plain numbers. -/
theorem lrun_calls (w : World) (I O : Nat) (Ar : Option Addr) (cr : Nat) (t : Tab) (A : Option Addr) (ca : Nat) (l : List Nat) (hT : OKT (I : Int) (O : Int) t) (hR : Kd.C (Kd.slice 77 k77) w Ar t.length t) (hcr : t.length ≤ cr) (hA : Kd.C (Kd.int .i64) w A l.length (natsI l)) (hca : l.length ≤ ca) (hl : l.length ≤ 60) (hlt : ∀ x ∈ l, x < 2 ^ I) :
    Calls Try.prog 14 #[.agg #[.int .i64 (I : Int), .int .i64 (O : Int), .slice Ar t.length cr], .slice A l.length ca] w fun e w' => ∃ v, e = .returned (.tuple #[v, .int .i64 0]) ∧ Kd.R (Kd.int .i64) 3 w' w.heap.size Yes v (runT t 0 l) ∧ Below w.heap.size w w' := by
  have en : (natsI l).length = l.length := by simp [natsI]
  obtain ⟨k, hk⟩ := (PL.run_is hT (natsI l) (fun x hx => by
    unfold natsI at hx
    obtain ⟨n, hn, rfl⟩ := List.mem_map.1 hx
    have h1 := hT.i1
    rw [shl_nat I (by omega)]
    have := hlt n hn
    omega) (by omega)).rounds
  rw [runO_T] at hk
  have h := PL.learn_Run.calls k (I : Int) (O : Int) Ar cr t A ca (natsI l) (runT t 0 l) 0 w hR hcr (by rw [en]; exact hA) (by omega) hk
  rw [en] at h
  exact h
theorem tells_runs {c : Cir} {t : Tab} {l : List Nat} (h : Tells c t l) : (∀ x ∈ l, x < 2 ^ c.ins) ∧ ∃ (X : List Int) (a b : Int) (n : Nat), natsI (c.runO c.start l) = X ++ [a] ∧ runT t 0 l = X ++ [b] ∧ a ≠ b ∧ X.length = n ∧ l.length = n + 1 := by
  obtain ⟨l0, x, p, rfl, hp, hx, he⟩ := h
  obtain ⟨h1, h2⟩ := run_snoc (t := t) hp.st hp.tt x
  refine ⟨fun y hy => ?_, runT t 0 l0, _, _, l0.length, by rw [h1, hp.eq], h2, he, runT_len _ _ _, by simp⟩
  rcases List.mem_append.1 hy with hy | hy
  · exact hp.lt y hy
  · rw [List.mem_singleton.1 hy]; exact hx
set_option maxHeartbeats 16000000 in
set_option maxRecDepth 100000 in
theorem tells_calls (w : World) (A0 : Option Addr) (c0 : Nat) (l0 : List Int) (A1 : Option Addr) (c1 : Nat) (l1 : List Int) (A2 : Option Addr) (c2 : Nat) (l2 : List Int)
    (hr0 : Kd.C (Kd.int .i64) w A0 l0.length l0) (hc0 : l0.length ≤ c0) (hr1 : Kd.C (Kd.int .i64) w A1 l1.length l1) (hc1 : l1.length ≤ c1) (hr2 : Kd.C (Kd.int .i64) w A2 l2.length l2) (hc2 : l2.length ≤ c2) :
    Calls Try.prog 7 #[.slice A0 l0.length c0, .slice A1 l1.length c1, .slice A2 l2.length c2] w fun e w' => e = .returned (.bool true) ∧ Below w.heap.size w w' := by
  have TC := Aside0.mk (PL.table_calls A0 c0 l0 w hr0 hc0)
  have TC2 := Aside0.mk (fun W (hb : Below w.heap.size w W) => PL.table_calls A1 c1 l1 W (Kd.C_below hr1 hb) hc1)
  have WC := Aside0.mk (fun W (hb : Below w.heap.size w W) I (hI : I ≤ 4) => word_calls W A2 c2 l2 I hI (Kd.C_below hr2 hb) hc2)
  clear hr0 hr1 hr2 hc0 hc1 hc2
  go_enter Try.func7, Try.ntmps7
  go_wp2_with fail
  (with_reducible refine TC.out.mono ?_)
  rintro e w1 ⟨insI, outsI, vr, t, rfl, hv, hS, hb1⟩
  obtain ⟨I, rfl⟩ : ∃ I : Nat, insI = (I : Int) := ⟨insI.toNat, by have := hv.i0; omega⟩
  obtain ⟨O, rfl⟩ : ∃ O : Nat, outsI = (O : Int) := ⟨outsI.toNat, by have := hv.o0; omega⟩
  have OKt := Aside0.mk (PL.valid_ok hv)
  have hI : I ≤ 2 := by have := hv.i1; omega
  have h6 := hv.r1
  obtain ⟨Ar, cr, rfl, hcr, hCr⟩ := Kd.S_reads hS
  have CR := Aside0.mk hCr
  have HB1 := Aside0.mk hb1
  clear TC hv hS hb1 hCr
  have T1 := Aside0.mk (blk_new w1 (Obj.cells #[.int .i64 (I : Int), .int .i64 (O : Int), .slice Ar t.length cr] 25))
  have ALH := Aside0.mk (below_alloc (Below.refl w1.heap.size w1) (Obj.cells #[.int .i64 (I : Int), .int .i64 (O : Int), .slice Ar t.length cr] 25))
  have CT := Aside0.mk (TC2.out (w1.alloc (Obj.cells #[.int .i64 (I : Int), .int .i64 (O : Int), .slice Ar t.length cr] 25)) (HB1.out.trans (ALH.out.mono HB1.out.size)))
  go_wp2_with fail
  (with_reducible refine CT.out.mono ?_)
  rintro e w2 ⟨insI, outsI, vr, t2, rfl, hv, hS, hb2⟩
  obtain ⟨I2, rfl⟩ : ∃ I : Nat, insI = (I : Int) := ⟨insI.toNat, by have := hv.i0; omega⟩
  obtain ⟨O2, rfl⟩ : ∃ O : Nat, outsI = (O : Int) := ⟨outsI.toNat, by have := hv.o0; omega⟩
  obtain ⟨Ar2, cr2, rfl, hcr2, hCr2⟩ := Kd.S_reads hS
  have OC := Aside0.mk (of2_calls w2 I2 O2 Ar2 cr2 t2 (by have := hv.i0; have := hv.i1; omega) (by have := hv.o0; omega) (by have := hv.o1; omega) hv.r1 (PL.valid_ok hv) hCr2 hcr2)
  have T2 := Aside0.mk (blk_below T1.out hb2)
  have HB2w := Aside0.mk (ALH.out.trans (hb2.mono ALH.out.size))
  clear CT hv hS hb2 T1 ALH hCr2
  go_wp2_with fail
  (with_reducible refine OC.out.mono ?_)
  rintro e w3 ⟨c, Ag, Ao, An, Ai, cg, co, cn, ci, rfl, hin, hb, ok, hd, hi, ho, hn⟩
  have T3 := Aside0.mk (blk_alloc (blk_below T2.out hb) (Obj.cells #[.int .i64 (c.ins : Int), .slice Ag c.gs.length cg, .slice Ao c.outs.length co, .slice An c.next.length cn, .slice Ai c.init.length ci] 38))
  have K3 := Aside0.mk (blk_new w3 (Obj.cells #[.int .i64 (c.ins : Int), .slice Ag c.gs.length cg, .slice Ao c.outs.length co, .slice An c.next.length cn, .slice Ai c.init.length ci] 38))
  have ALH := Aside0.mk (below_alloc (Below.refl w3.heap.size w3) (Obj.cells #[.int .i64 (c.ins : Int), .slice Ag c.gs.length cg, .slice Ao c.outs.length co, .slice An c.next.length cn, .slice Ai c.init.length ci] 38))
  have HB3w := Aside0.mk (HB2w.out.trans ((hb.trans (ALH.out.mono hb.size)).mono HB2w.out.size))
  have HIN := Aside0.mk (hin.below ALH.out)
  have OK := Aside0.mk ok
  have HN := hn
  clear OC hb T2 HB2w ALH hin ok hd hn hi ho TC2
  dsimp only [Cir.V]
  go_upto_region 3 with (fail)
  generalize w3.alloc (Obj.cells #[.int .i64 (c.ins : Int), .slice Ag c.gs.length cg, .slice Ao c.outs.length co, .slice An c.next.length cn, .slice Ai c.init.length ci] 38) = w4 at *
  obtain ⟨kb, hkb⟩ : ∃ kb, w3.heap.size = kb := ⟨_, rfl⟩
  rw [hkb] at K3 ⊢
  clear hkb
  have HB4 := Aside0.mk (HB1.out.trans (HB3w.out.mono HB1.out.size))
  obtain ⟨q0, q1, q2, q3, q4⟩ := box5 K3.out
  obtain ⟨p0, p1, p2⟩ := box3 T3.out
  by_cases hio : c.ins = I ∧ c.outs.length = O
  · obtain ⟨rfl, rfl⟩ := hio
    have HR4 := HB3w
    have HIN4 := HIN
    have K4 := K3
    have T4 := T3
    clear HB3w HIN K3 T3
    have FC := Aside0.mk (find_calls w4 c Ag Ao An Ai cg co cn ci Ar cr t OK.out HIN4.out OKt.out (Kd.C_below CR.out HR4.out) hcr HN h6)
    dsimp only [Cir.V] at FC
    go_wp2_with fail
    (with_reducible refine FC.out.mono ?_)
    rintro e w5 ⟨v10, b, rfl, hb, hcase⟩
    have K5 := Aside0.mk (blk_below K4.out hb)
    have T5 := Aside0.mk (blk_below T4.out hb)
    have HB5 := Aside0.mk (HB4.out.trans (hb.mono HB4.out.size))
    have HR5 := Aside0.mk (HR4.out.trans (hb.mono HR4.out.size))
    have HIN5 := Aside0.mk (HIN4.out.below hb)
    clear K4 T4 HB4 HR4 HIN4  hb
    clear FC q0 q1 q2 q3 q4 p0 p1 p2
    have SM := Aside0.mk (same_calls w5)
    rcases hcase with ⟨rfl, rfl, NT⟩ | ⟨rfl, l, A, cap, rfl, hcap, hCl, htl, hl49, _⟩
    · skip
      have NT := Aside0.mk NT
      go_wp2_with fail
      (with_reducible refine SM.out.mono ?_)
      rintro e w6 ⟨rfl, hb⟩
      have K6 := Aside0.mk (blk_below K5.out hb)
      have T6 := Aside0.mk (blk_below T5.out hb)
      have HB6 := Aside0.mk (HB5.out.trans (hb.mono HB5.out.size))
      have HR6 := Aside0.mk (HR5.out.trans (hb.mono HR5.out.size))
      have HIN6 := Aside0.mk (HIN5.out.below hb)
      clear K5 T5 HB5 HR5 HIN5  hb
      obtain ⟨q0, q1, q2, q3, q4⟩ := box5 K6.out
      obtain ⟨p0, p1, p2⟩ := box3 T6.out
      have WD := Aside0.mk (WC.out w6 HB6.out c.ins (by omega))
      go_wp2_with fail
      (with_reducible refine WD.out.mono ?_)
      rintro e w7 ⟨v13, wd, rfl, hr13, hw60, hwlt, hb⟩
      have K7 := Aside0.mk (blk_below K6.out hb)
      have T7 := Aside0.mk (blk_below T6.out hb)
      have HB7 := Aside0.mk (HB6.out.trans (hb.mono HB6.out.size))
      have HR7 := Aside0.mk (HR6.out.trans (hb.mono HR6.out.size))
      have HIN7 := Aside0.mk (HIN6.out.below hb)
      clear K6 T6 HB6 HR6 HIN6  hb
      clear q0 q1 q2 q3 q4 p0 p1 p2
      obtain ⟨A13, c13, hv13, hl13, hC13⟩ := Kd.R_reads hr13
      have en : (natsI wd).length = wd.length := by simp [natsI]
      rw [en] at hv13 hl13 hC13
      subst hv13
      have C137 := Aside0.mk hC13
      have WLT := Aside0.mk hwlt
      have EQL := Aside0.mk (NT.out.run wd hwlt)
      clear SM WD hr13 hC13 hwlt NT en
      obtain ⟨q0, q1, q2, q3, q4⟩ := box5 K7.out
      obtain ⟨p0, p1, p2⟩ := box3 T7.out
      have RC := Aside0.mk (run_calls w7 c Ag Ao An Ai cg co cn ci A13 c13 wd OK.out HIN7.out C137.out WLT.out (by omega))
      dsimp only [Cir.V] at RC
      go_wp2_with fail
      (with_reducible refine RC.out.mono ?_)
      rintro e w8 ⟨v14, rfl, hr14, hb⟩
      have K8 := Aside0.mk (blk_below K7.out hb)
      have T8 := Aside0.mk (blk_below T7.out hb)
      have HB8 := Aside0.mk (HB7.out.trans (hb.mono HB7.out.size))
      have HR8 := Aside0.mk (HR7.out.trans (hb.mono HR7.out.size))
      have HIN8 := Aside0.mk (HIN7.out.below hb)
      have C138 := Aside0.mk (Kd.C_below C137.out hb)
      clear K7 T7 HB7 HR7 HIN7 C137 hb
      clear q0 q1 q2 q3 q4 p0 p1 p2
      obtain ⟨A14, c14, hv14, hl14, hC14⟩ := Kd.R_reads hr14
      subst hv14
      have C148 := Aside0.mk hC14
      have LC := Aside0.mk (lrun_calls w8 c.ins c.outs.length Ar cr t A13 c13 wd OKt.out (Kd.C_below CR.out HR8.out) hcr C138.out hl13 hw60 WLT.out)
      clear RC hr14 hC14
      obtain ⟨q0, q1, q2, q3, q4⟩ := box5 K8.out
      obtain ⟨p0, p1, p2⟩ := box3 T8.out
      go_wp2_with fail
      (with_reducible refine LC.out.mono ?_)
      rintro e w9 ⟨v16, rfl, hr16, hb⟩
      rw [← EQL.out] at hr16
      have K9 := Aside0.mk (blk_below K8.out hb)
      have T9 := Aside0.mk (blk_below T8.out hb)
      have HB9 := Aside0.mk (HB8.out.trans (hb.mono HB8.out.size))
      have HR9 := Aside0.mk (HR8.out.trans (hb.mono HR8.out.size))
      have HIN9 := Aside0.mk (HIN8.out.below hb)
      have C149 := Aside0.mk (Kd.C_below C148.out hb)
      clear K8 T8 HB8 HR8 HIN8 C148 hb
      clear q0 q1 q2 q3 q4 p0 p1 p2
      obtain ⟨A16, c16, hv16, hl16, hC16⟩ := Kd.R_reads hr16
      subst hv16
      have LL : (natsI (c.runO c.start wd)).length ≤ 60 := by simp [natsI, Cir.runO_len]; exact hw60
      obtain ⟨k, hk⟩ := (PL.eq_is (natsI (c.runO c.start wd)) (by omega)).rounds
      have EQ := Aside0.mk (PL.slices_Equal_int_int.calls k A14 c14 _ A16 c16 _ true w9 C149.out hl14 hC16 hl16 hk)
      clear LC hr16 hC16 hk EQL
      generalize natsI (c.runO c.start wd) = L at *
      go_wp2_with fail
      (with_reducible refine EQ.out.mono ?_)
      rintro e w10 ⟨rfl, hd⟩
      have HB10 := Aside0.mk (HB9.out.trans (hd.below.mono HB9.out.size))
      clear EQ hd
      go_wp2_with fail
      go_ret
      exact ⟨rfl, HB10.out⟩
    · skip
      obtain ⟨hllt, X, x, y, n, hrx, hry, hxy, hXn, hln⟩ := tells_runs htl
      have LLT := Aside0.mk hllt
      have RX := Aside0.mk hrx
      have RY := Aside0.mk hry
      have CL5 := Aside0.mk hCl
      have HLN := Aside0.mk hln
      have HXN := Aside0.mk hXn
      have hn49 : n ≤ 48 := by omega
      have hcap' : n + 1 ≤ cap := by omega
      clear hCl htl hllt hrx hry hXn
      rw [hln]
      clear hln hcap
      go_wp2_with fail
      (with_reducible refine SM.out.mono ?_)
      rintro e w6 ⟨rfl, hb⟩
      have K6 := Aside0.mk (blk_below K5.out hb)
      have T6 := Aside0.mk (blk_below T5.out hb)
      have HB6 := Aside0.mk (HB5.out.trans (hb.mono HB5.out.size))
      have HR6 := Aside0.mk (HR5.out.trans (hb.mono HR5.out.size))
      have HIN6 := Aside0.mk (HIN5.out.below hb)
      have CL6 := Aside0.mk (Kd.C_below CL5.out hb)
      clear K5 T5 HB5 HR5 HIN5 CL5 hb
      obtain ⟨q0, q1, q2, q3, q4⟩ := box5 K6.out
      obtain ⟨p0, p1, p2⟩ := box3 T6.out
      have WD := Aside0.mk (WC.out w6 HB6.out c.ins (by omega))
      go_wp2_with fail
      (with_reducible refine WD.out.mono ?_)
      rintro e w7 ⟨v13, wd, rfl, hr13, hw60, hwlt, hb⟩
      have K7 := Aside0.mk (blk_below K6.out hb)
      have T7 := Aside0.mk (blk_below T6.out hb)
      have HB7 := Aside0.mk (HB6.out.trans (hb.mono HB6.out.size))
      have HR7 := Aside0.mk (HR6.out.trans (hb.mono HR6.out.size))
      have HIN7 := Aside0.mk (HIN6.out.below hb)
      have CL7 := Aside0.mk (Kd.C_below CL6.out hb)
      clear K6 T6 HB6 HR6 HIN6 CL6 hb
      clear q0 q1 q2 q3 q4 p0 p1 p2
      clear SM WD hr13 hwlt hw60
      obtain ⟨q0, q1, q2, q3, q4⟩ := box5 K7.out
      obtain ⟨p0, p1, p2⟩ := box3 T7.out
      have RC := Aside0.mk (run_calls w7 c Ag Ao An Ai cg co cn ci A cap l OK.out HIN7.out CL7.out LLT.out (by have := HLN.out; omega))
      dsimp only [Cir.V] at RC
      rw [HLN.out, RX.out] at RC
      go_wp2_with fail
      (with_reducible refine RC.out.mono ?_)
      rintro e w8 ⟨v14, rfl, hr14, hb⟩
      have K8 := Aside0.mk (blk_below K7.out hb)
      have T8 := Aside0.mk (blk_below T7.out hb)
      have HB8 := Aside0.mk (HB7.out.trans (hb.mono HB7.out.size))
      have HR8 := Aside0.mk (HR7.out.trans (hb.mono HR7.out.size))
      have HIN8 := Aside0.mk (HIN7.out.below hb)
      have CL8 := Aside0.mk (Kd.C_below CL7.out hb)
      clear K7 T7 HB7 HR7 HIN7 CL7 hb
      clear q0 q1 q2 q3 q4 p0 p1 p2
      obtain ⟨A14, c14, hv14, hl14, hC14⟩ := Kd.R_reads hr14
      rw [List.length_append, List.length_singleton, HXN.out] at hv14 hl14 hC14
      subst hv14
      have C148 := Aside0.mk hC14
      have LC := Aside0.mk (lrun_calls w8 c.ins c.outs.length Ar cr t A cap l OKt.out (Kd.C_below CR.out HR8.out) hcr CL8.out (by have := HLN.out; omega) (by have := HLN.out; omega) LLT.out)
      rw [HLN.out, RY.out] at LC
      clear RC hr14 hC14
      obtain ⟨q0, q1, q2, q3, q4⟩ := box5 K8.out
      obtain ⟨p0, p1, p2⟩ := box3 T8.out
      go_wp2_with fail
      (with_reducible refine LC.out.mono ?_)
      rintro e w9 ⟨v16, rfl, hr16, hb⟩
      have K9 := Aside0.mk (blk_below K8.out hb)
      have T9 := Aside0.mk (blk_below T8.out hb)
      have HB9 := Aside0.mk (HB8.out.trans (hb.mono HB8.out.size))
      have HR9 := Aside0.mk (HR8.out.trans (hb.mono HR8.out.size))
      have HIN9 := Aside0.mk (HIN8.out.below hb)
      have C149 := Aside0.mk (Kd.C_below C148.out hb)
      clear K8 T8 HB8 HR8 HIN8 C148 hb
      clear q0 q1 q2 q3 q4 p0 p1 p2
      obtain ⟨A16, c16, hv16, hl16, hC16⟩ := Kd.R_reads hr16
      rw [List.length_append, List.length_singleton, HXN.out] at hv16 hl16 hC16
      subst hv16
      obtain ⟨k, hk⟩ := (PL.eq_is X (by have := HXN.out; omega)).rounds
      have EQ := Aside0.mk (fun m => PL.slices_Equal_int_int.calls k A14 c14 X A16 c16 X true (w9.drewN m) (by
        have h := Kd.C_take (m := n) (show Kd.C (Kd.int .i64) w9 A14 (X ++ [x]).length (X ++ [x]) from by rw [List.length_append, List.length_singleton, HXN.out]; exact C149.out) (by rw [List.length_append, List.length_singleton, HXN.out]; omega)
        rw [List.take_left' HXN.out] at h
        exact Kd.C_drewN h m) (by have := HXN.out; omega) (by
        have h := Kd.C_take (m := n) (show Kd.C (Kd.int .i64) w9 A16 (X ++ [y]).length (X ++ [y]) from by rw [List.length_append, List.length_singleton, HXN.out]; exact hC16) (by rw [List.length_append, List.length_singleton, HXN.out]; omega)
        rw [List.take_left' HXN.out] at h
        exact Kd.C_drewN h m) (by have := HXN.out; omega) hk)
      rw [HXN.out] at EQ
      obtain ⟨ad14, e14, y14⟩ := Kd.at_int C149.out (n : Int) (by omega) (by omega)
      subst e14
      obtain ⟨ad16, e16, y16⟩ := Kd.at_int hC16 (n : Int) (by omega) (by omega)
      subst e16
      rw [Int.toNat_natCast] at y14 y16
      rw [show Go.Proofs.YtaalafnkglbcpaaW.PrintWords.rd (X ++ [x]) (n : Int) = x from by unfold Go.Proofs.YtaalafnkglbcpaaW.PrintWords.rd; rw [Int.toNat_natCast, ← HXN.out]; exact getD_app_at _ _ _] at y14
      rw [show Go.Proofs.YtaalafnkglbcpaaW.PrintWords.rd (X ++ [y]) (n : Int) = y from by unfold Go.Proofs.YtaalafnkglbcpaaW.PrintWords.rd; rw [Int.toNat_natCast, ← HXN.out]; exact getD_app_at _ _ _] at y16
      clear LC hr16 hC16 hk RX RY LLT
      have hw64 : wrap64 ((n : Int) + 1 - 1) = (n : Int) := by unfold wrap64; omega
      go_upto_region 18 with (fail)
      go_quiet ((go_at_call 17; (with_reducible refine (EQ.out _).mono ?_); rintro e w' ⟨rfl, ⟨nd, rfl⟩⟩; (try first | exact ⟨rfl, _, World.drewN_drewN _ _ _⟩ | exact ⟨rfl, _, Eq.trans (World.drewN_drewN _ _ _) (congrArg (World.drewN _) (Nat.add_assoc _ _ _))⟩)))
      go_wp2
      go_ret
      exact ⟨by
        have h : (x != y) = true := by simpa using hxy
        show Ending.returned (.bool (x != y)) = _
        rw [h], pw_below_drewN HB9.out _⟩
  · skip
    have SM := Aside0.mk (same_calls w4)
    clear HIN HB3w
    by_cases h1 : c.ins = I
    · have h2 : ¬ c.outs.length = O := fun e => hio ⟨h1, e⟩
      have h2i : ¬ (c.outs.length : Int) = (O : Int) := fun e => h2 (by exact_mod_cast e)
      subst h1
      clear hio
      go_wp2_with fail
      (with_reducible refine SM.out.mono ?_)
      rintro e w5 ⟨rfl, hb⟩
      have HB5 := Aside0.mk (HB4.out.trans (hb.mono HB4.out.size))
      clear SM hb q0 q1 q2 q3 q4 p0 p1 p2
      go_wp2_with fail
      go_ret
      exact ⟨rfl, HB5.out⟩
    · have h1i : ¬ (c.ins : Int) = (I : Int) := fun e => h1 (by exact_mod_cast e)
      clear hio
      go_wp2_with fail
      (with_reducible refine SM.out.mono ?_)
      rintro e w5 ⟨rfl, hb⟩
      have HB5 := Aside0.mk (HB4.out.trans (hb.mono HB4.out.size))
      clear SM hb q0 q1 q2 q3 q4 p0 p1 p2
      go_wp2_with fail
      go_ret
      exact ⟨rfl, HB5.out⟩
theorem tells_walk (a0 : Option Addr) (len0 cap0 : Nat) (z0 : List Int) (a1 : Option Addr) (len1 cap1 : Nat) (z1 : List Int) (a2 : Option Addr) (len2 cap2 : Nat) (z2 : List Int) (w : World) (w0 : (a0 = none ∧ len0 = 0 ∧ cap0 = 0 ∧ z0 = []) ∨ ∃ x, a0 = some x ∧ len0 ≤ cap0 ∧ cap0 ≤ maxLen ∧ z0.length = cap0 ∧ (∀ i, i < z0.length → w.cell? (x.add i) = some (.int .i64 (z0.getD i 0))) ∧ ∀ n ∈ z0, (Lit.int .i64 n).wf = true) (w1 : (a1 = none ∧ len1 = 0 ∧ cap1 = 0 ∧ z1 = []) ∨ ∃ x, a1 = some x ∧ len1 ≤ cap1 ∧ cap1 ≤ maxLen ∧ z1.length = cap1 ∧ (∀ i, i < z1.length → w.cell? (x.add i) = some (.int .i64 (z1.getD i 0))) ∧ ∀ n ∈ z1, (Lit.int .i64 n).wf = true) (w2 : (a2 = none ∧ len2 = 0 ∧ cap2 = 0 ∧ z2 = []) ∨ ∃ x, a2 = some x ∧ len2 ≤ cap2 ∧ cap2 ≤ maxLen ∧ z2.length = cap2 ∧ (∀ i, i < z2.length → w.cell? (x.add i) = some (.int .i64 (z2.getD i 0))) ∧ ∀ n ∈ z2, (Lit.int .i64 n).wf = true) :
    Calls Try.prog 7 #[.slice a0 len0 cap0, .slice a1 len1 cap1, .slice a2 len2 cap2] w fun e w' => e = .returned (.bool true) ∧ Below w.heap.size w w' := by
  obtain ⟨l0, rfl, hr0, hm0, hw0, hc0⟩ := ReadsInt.ofRowC w0
  obtain ⟨l1, rfl, hr1, hm1, hw1, hc1⟩ := ReadsInt.ofRowC w1
  obtain ⟨l2, rfl, hr2, hm2, hw2, hc2⟩ := ReadsInt.ofRowC w2
  exact tells_calls w _ _ l0 _ _ l1 _ _ l2 (Kd.C_of_reads (d := (0 : Int)) (h1 := fun _ => rfl) hr0) hc0 (Kd.C_of_reads (d := (0 : Int)) (h1 := fun _ => rfl) hr1) hc1 (Kd.C_of_reads (d := (0 : Int)) (h1 := fun _ => rfl) hr2) hc2
end Go.Proofs.Ytaalafnkglbcpaa.SY
end
