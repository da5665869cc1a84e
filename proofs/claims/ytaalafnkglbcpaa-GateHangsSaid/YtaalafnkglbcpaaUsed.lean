/- gate.Used, walked by hand: the gates on which an output hangs, in order. -/
import Derived.Test.YtaalafnkglbcpaaMark
import Derived.Test.YtaalafnkglbcpaaPGx11
import Derived.Laws.EntriesVeiled
namespace Go.Proofs.Ytaalafnkglbcpaa.PG
open Go.RowKit Go.Proofs.YtaalafnkglbcpaaW.PrintWords Go.Proofs.YtaalafnkglbcpaaW.PrintLast Go.Proofs.YtaalafnkglbcpaaW.PrintMore
set_option linter.unusedVariables false

/-- The gates on which an output hangs. -/
inductive OnOut (gates : List S50) (next outs : List Int) : Nat → Prop
  | out {x : Int} : x ∈ outs → OnOut gates next outs x.toNat
  | kid {j : Nat} {x : Int} : j < gates.length → OnOut gates next outs j → x ∈ kids gates next j → OnOut gates next outs x.toNat
open Classical in
noncomputable def usedL (gates : List S50) (next outs : List Int) : List Int := ((List.range gates.length).filter (fun j => decide (OnOut gates next outs j))).map (fun j : Nat => (j : Int))
/-- What is asked of a circuit. -/
structure UsedOk (ins : Int) (gates : List S50) (outs next init : List Int) : Prop where
  gc : GC gates next
  len : gates.length ≤ 1000
  len1 : 1 ≤ gates.length
  out : ∀ x ∈ outs, 0 ≤ x ∧ x < gates.length
  outl : outs.length ≤ 1000
  chk : ∃ k, gate_Check.f k ins gates outs next init = some 0
noncomputable def gate_Used.f (a0_0 : Int) (l0_1 : List (S50)) (l0_2 : List Int) (l0_3 : List Int) (l0_4 : List Int) : Option (List Int × Int) := by
  classical
  exact if UsedOk a0_0 l0_1 l0_2 l0_3 l0_4 then some (usedL l0_1 l0_3 l0_2, 0) else none

/-- The numbers of those that are marked. -/
def trues (s : List Bool) (i : Nat) : List Int := ((List.range i).filter (fun j => s.getD j false)).map (fun j : Nat => (j : Int))
theorem trues_succ (s : List Bool) (i : Nat) : trues s (i + 1) = trues s i ++ (if s.getD i false = true then [(i : Int)] else []) := by
  unfold trues
  rw [List.range_succ, List.filter_append, List.map_append, List.filter_cons, List.filter_nil]
  cases h : s.getD i false <;> rfl
theorem trues_len (s : List Bool) (i : Nat) : (trues s i).length ≤ i := by
  unfold trues
  rw [List.length_map]
  exact Nat.le_trans (List.length_filter_le _ _) (by simp)

theorem info4b : (Try.prog.info? 4).map (fun i => (i.zero, i.size, i.bytes)) = some (some (.bool false), 1, 1) := by kernel_rfl
set_option maxHeartbeats 4000000 in
set_option maxRecDepth 100000 in
theorem used_walk (k : Nat) (ins : Int) (Ag : Option Addr) (cg : Nat) (gates : List S50) (Ao : Option Addr) (co : Nat) (outs : List Int) (An : Option Addr) (cn : Nat) (next : List Int) (Ai : Option Addr) (ci : Nat) (init : List Int) (w : World)
    (hG : Kd.C k50 w Ag gates.length gates) (hg : gates.length ≤ cg) (hO : Kd.C (Kd.int .i64) w Ao outs.length outs) (ho : outs.length ≤ co) (hN : Kd.C (Kd.int .i64) w An next.length next) (hn : next.length ≤ cn) (hI : Kd.C (Kd.int .i64) w Ai init.length init) (hi : init.length ≤ ci)
    (gc : GC gates next) (hl : gates.length ≤ 1000) (hl1 : 1 ≤ gates.length) (hout : ∀ x ∈ outs, 0 ≤ x ∧ x < gates.length) (hol : outs.length ≤ 1000) (hch : gate_Check.f k ins gates outs next init = some 0) :
    Calls Try.prog 25 #[.agg #[.int .i64 ins, .slice Ag gates.length cg, .slice Ao outs.length co, .slice An next.length cn, .slice Ai init.length ci]] w fun e w' => ∃ v0_ : Value, e = .returned (.tuple #[v0_, .int .i64 0]) ∧ Kd.R (Kd.int .i64) 3 w' w.heap.size (fun _ => True) v0_ (usedL gates next outs) ∧ Below w.heap.size w w' := by
  have HG := Aside0.mk hG
  have HO := Aside0.mk hO
  have HN := Aside0.mk hN
  have HOUT := Aside0.mk hout
  have HCH := Aside0.mk (gate_Check.calls k ins Ag cg gates (fun k_ => k_ < (w.alloc (Obj.cells #[.int .i64 ins, .slice Ag gates.length cg, .slice Ao outs.length co, .slice An next.length cn, .slice Ai init.length ci] 38)).heap.size) Ao co outs (fun k_ => k_ < (w.alloc (Obj.cells #[.int .i64 ins, .slice Ag gates.length cg, .slice Ao outs.length co, .slice An next.length cn, .slice Ai init.length ci] 38)).heap.size) An cn next Ai ci init 0 (w.alloc (Obj.cells #[.int .i64 ins, .slice Ag gates.length cg, .slice Ao outs.length co, .slice An next.length cn, .slice Ai init.length ci] 38)) (Kd.C_alloc hG _) hg (Kd.V_mk ho (Kd.C_F (Kd.heap_int .i64) (Kd.C_alloc hO _))) (Kd.V_mk hn (Kd.C_F (Kd.heap_int .i64) (Kd.C_alloc hN _))) (Kd.C_alloc hI _) hi hch)
  clear hG hO hN hI hch hout hg ho hn hi
  go_enter Try.func25, Try.ntmps25
  go_wp2_with fail
  (with_reducible refine HCH.out.mono ?_)
  rintro e w1 ⟨rfl, hb1⟩
  have HB1 : Aside0 (Below w.heap.size w w1) := ⟨(below_alloc (Below.refl _ _) _).trans (hb1.mono (by simp))⟩
  have z1 : w.heap.size < w1.heap.size := by have := hb1.size; simp at this; omega
  have q1 : w1.cell? ⟨w.heap.size, 1, none⟩ = some (.slice Ag gates.length cg) := (hb1.cell (p := ⟨w.heap.size, 1, none⟩) (by simp)).trans (by go_simp)
  have q2 : w1.cell? ⟨w.heap.size, 2, none⟩ = some (.slice Ao outs.length co) := (hb1.cell (p := ⟨w.heap.size, 2, none⟩) (by simp)).trans (by go_simp)
  have q3 : w1.cell? ⟨w.heap.size, 3, none⟩ = some (.slice An next.length cn) := (hb1.cell (p := ⟨w.heap.size, 3, none⟩) (by simp)).trans (by go_simp)
  clear hb1 HCH
  go_wp2_with ((with_reducible refine gate_dst (N := 20) rfl ?_); refine Kd.R_make Kd.bool (w0 := w1) w1.heap.size 4 rfl (N := 20) rfl 87 _ _ rfl (gates.length : Int) rfl rfl Try.underlying87 (.bool false) 1 info4b rfl (by decide) (by omega) false (ok := fun _ => True) (okp := fun _ => True) rfl (fun _ hk => hk) trivial (by omega) (by rw [Int.toNat_natCast]; omega) (Below.refl _ _) (Nat.le_refl _) ?_; intro v20 w2 ho2 hb2 hg2 hn2; rw [Int.toNat_natCast] at ho2; obtain ⟨sb, cs, hv2, hsb2, hsb3⟩ := Kd.R_form ho2 (by rw [List.length_replicate]; omega); rw [List.length_replicate] at hv2; subst hv2; have HO2 := Aside0.mk ho2; have HB2 := Aside0.mk hb2; have p2 : w2.cell? ⟨w.heap.size, 2, none⟩ = some (.slice Ao outs.length co) := (hb2.cell (p := ⟨w.heap.size, 2, none⟩) z1).trans q2; have z2 : w.heap.size < w2.heap.size := Nat.lt_of_lt_of_le z1 hb2.size; clear ho2 hb2 hg2 hn2)
  have hsb4 := hsb3.1
  have M0 : Aside0 (MarkAt w (((w2.alloc (Obj.cells #[Value.slice (some ⟨sb, 0, none⟩) gates.length cs] 87)).alloc (Obj.cells #[Value.func (Fn.func 49) #[] #[Value.pointer (some ⟨w2.heap.size, 0, none⟩), Value.pointer (some ⟨w.heap.size, 0, none⟩), Value.pointer (some ⟨w2.heap.size + 1, 0, none⟩)]] 88))) gates next Ag An cg cn w.heap.size w2.heap.size (w2.heap.size + 1) sb cs (List.replicate gates.length false)) := ⟨{
    hb := below_alloc (below_alloc (HB1.out.trans (HB2.out.mono HB1.out.size)) _) _, sz := by simp,
    c1 := cell_al (cell_al ((HB2.out.cell (p := ⟨w.heap.size, 1, none⟩) z1).trans q1) _) _, c3 := cell_al (cell_al ((HB2.out.cell (p := ⟨w.heap.size, 3, none⟩) z1).trans q3) _) _,
    sc := by go_simp, mc := by go_simp, nc := by omega, ns := by omega, nm := by omega, lo := by omega, hs := Kd.R_alloc (Kd.R_alloc (Kd.R_lower HO2.out HB1.out.size) _) _ }⟩
  have hWB : Aside0 (Below w.heap.size w ((w2.alloc (Obj.cells #[Value.slice (some ⟨sb, 0, none⟩) gates.length cs] 87)).alloc (Obj.cells #[Value.func (Fn.func 49) #[] #[Value.pointer (some ⟨w2.heap.size, 0, none⟩), Value.pointer (some ⟨w.heap.size, 0, none⟩), Value.pointer (some ⟨w2.heap.size + 1, 0, none⟩)]] 88))) := ⟨M0.out.hb⟩
  generalize ((w2.alloc (Obj.cells #[Value.slice (some ⟨sb, 0, none⟩) gates.length cs] 87)).alloc (Obj.cells #[Value.func (Fn.func 49) #[] #[Value.pointer (some ⟨w2.heap.size, 0, none⟩), Value.pointer (some ⟨w.heap.size, 0, none⟩), Value.pointer (some ⟨w2.heap.size + 1, 0, none⟩)]] 88)) = W0 at *
  have HSBL : Aside0 (sb < W0.heap.size) := ⟨Kd.R_lt M0.out.hs sb (by simp [Value.ownBlock])⟩
  go_loopw [8, 25] (fun _ v25 wr => ∃ (i : Nat) (s2 : List Bool), i ≤ outs.length ∧ v25 = .int .i64 i ∧ Aside0 (MarkAt w wr gates next Ag An cg cn w.heap.size w2.heap.size (w2.heap.size + 1) sb cs s2) ∧ Aside0 (Anew gates next (List.replicate gates.length false) s2) ∧ Aside0 (∀ j, j < i → s2.getD (outs.getD j 0).toNat false = true) ∧ Aside0 (∀ j, s2.getD j false = true → OnOut gates next outs j) ∧ Aside0 (W0.grownBy wr (some sb))) (fun _ v25 _ => outs.length - (intOf v25).toNat)
  case atStart => exact ⟨0, _, by omega, rfl, M0, ⟨Anew.refl _⟩, ⟨fun j hj => by omega⟩, ⟨fun j hj => by rw [List.getD_eq_getElem?_getD, List.getElem?_replicate] at hj; split at hj <;> cases hj⟩, ⟨grown_below (Below.refl _ _) _⟩⟩
  case round =>
    obtain ⟨i, s2, hi, rfl, M2, HA, HD, HR2, HG3⟩ := hrel
    by_cases hlt : i < outs.length
    · have hxo := HOUT.out (outs.getD i 0) (by rw [List.getD_eq_getElem?_getD, List.getElem?_eq_getElem hlt]; exact List.getElem_mem _)
      have hRx : OnOut gates next outs (outs.getD i 0).toNat := OnOut.out (by rw [List.getD_eq_getElem?_getD, List.getElem?_eq_getElem hlt]; exact List.getElem_mem _)
      obtain ⟨ado, hado, hoc⟩ := int_at (Kd.C_below HO.out M2.out.hb) i hlt
      subst hado
      have HXE : Aside0 (∃ x : Nat, outs.getD i 0 = (x : Int)) := ⟨⟨(outs.getD i 0).toNat, by omega⟩⟩
      have HD2 := HD
      generalize hxx : outs.getD i 0 = X at *
      obtain ⟨x, rfl⟩ := HXE.out
      rw [Int.toNat_natCast] at hRx
      have HXX := Aside0.mk hxx
      have mc := M2.out.mc
      have CL := Aside0.mk (mark_calls w gates next Ag An cg cn w.heap.size w2.heap.size (w2.heap.size + 1) sb cs (OnOut gates next outs) HG.out HN.out gc hl (fun j hj hr x hx => OnOut.kid hj hr hx) (unseen s2) wr s2 x (Nat.le_refl _) M2.out (by omega) hRx HR2.out)
      clear hxx HXE HD
      go_wp2_with fail
      (with_reducible refine CL.out.mono ?_)
      rintro e w5 ⟨⟨v5, rfl⟩, s5, m5, a5, k5, r5, g5⟩
      have M5 := Aside0.mk m5
      have A5 : Aside0 (Anew gates next (List.replicate gates.length false) s5) := ⟨HA.out.trans a5⟩
      have D5 : Aside0 (∀ j, j < i + 1 → s5.getD (outs.getD j 0).toNat false = true) := ⟨fun j hj => by
        by_cases e : j = i
        · subst e; rw [HXX.out, Int.toNat_natCast]; exact k5
        · exact a5.2.1 _ (HD2.out j (by omega))⟩
      have R5 := Aside0.mk r5
      have G5 : Aside0 (W0.grownBy w5 (some sb)) := ⟨grown_trans HG3.out g5⟩
      clear m5 a5 k5 r5 g5 CL mc hoc
      go_wp2
      go_roundw
      case rel => exact ⟨i + 1, s5, by omega, by go_num, M5, A5, D5, R5, G5⟩
      case measure => simp [intOf]; omega
    · have hio : i = outs.length := by omega
      subst hio
      have hreach : ∀ j, OnOut gates next outs j → s2.getD j false = true := by
        intro j hj
        induction hj with
        | out hx =>
          obtain ⟨q, hq, he⟩ := List.mem_iff_getElem.1 hx
          have := HD.out q hq
          rw [List.getD_eq_getElem?_getD (l := outs), List.getElem?_eq_getElem hq] at this
          rw [← he]; exact this
        | kid hjl hj hx ih => exact HA.out.2.2 _ ih (by rw [List.getD_eq_getElem?_getD, List.getElem?_replicate]; split <;> rfl) _ hx
      have HTR : Aside0 (trues s2 gates.length = usedL gates next outs) := ⟨by
        classical
        unfold trues usedL
        congr 1
        refine List.filter_congr (fun j _ => ?_)
        cases hb : s2.getD j false with
        | true => exact (decide_eq_true (HR2.out j hb)).symm
        | false => exact (decide_eq_false (fun h => by rw [hreach j h] at hb; cases hb)).symm⟩
      have HSZ : Aside0 (s2.length = gates.length) := ⟨M2.out.sz⟩
      have HCS : Aside0 (Kd.C Kd.bool wr (some ⟨sb, 0, none⟩) s2.length s2) := ⟨(Kd.R_reads' M2.out.hs).2.2⟩
      have HW4 : Aside0 (Below w.heap.size w wr) := ⟨M2.out.hb⟩
      have sc := M2.out.sc
      obtain ⟨W4, rfl⟩ : ∃ W4 : World, W4 = wr := ⟨_, rfl⟩
      clear hreach HD
      go_wp2
      go_loopw [9, 35] (fun v9 v35 wr => ∃ j : Nat, j ≤ gates.length ∧ v35 = .int .i64 j ∧ Aside0 (Kd.R (Kd.int .i64) 3 wr W4.heap.size (fun _ => True) v9 (trues s2 j)) ∧ Aside0 (Below W4.heap.size W4 wr)) (fun _ v35 _ => gates.length - (intOf v35).toNat)
      case atStart => exact ⟨0, by omega, rfl, ⟨Kd.R_nil _ _ _ _ _⟩, ⟨Below.refl _ _⟩⟩
      case round =>
        obtain ⟨j, hj, rfl, HRt, HBt⟩ := hrel
        by_cases hjl : j < gates.length
        · have hbc := bool_at (c := 0) (Kd.C_below HCS.out HBt.out) j (by rw [HSZ.out]; exact hjl)
          have HTS := Aside0.mk (trues_succ s2 j)
          have HTL := Aside0.mk (trues_len s2 j)
          cases hb : s2.getD j false with
          | true =>
            rw [hb] at hbc
            have HB' := Aside0.mk hb
            clear hb
            go_wp2_with ((with_reducible refine gate_builtin (b := .append) (xs := #[.tmp 41, .tmp 43]) rfl ?_); at_builtin; refine Kd.R_append (Kd.int .i64) (w0 := wr) W4.heap.size rfl (.tmp 41) (.tmp 43) 22 3 (.int .i64 0) 8 rfl Try.underlying22 info3 rfl (by decide) (by omega) u9 (trues s2 j) (j : Int) [.int .i64 (j : Int)] (fun _ => True) (fun _ => False) rfl ?aX rfl (fun _ hk => hk.elim) (fun _ _ => trivial) HRt.out (Below.refl _ _) ?aS ?aL ?_; (case aX => first | rfl | (simp; done)); (case aS => exact HBt.out.size); (case aL => have := HTL.out; omega); intro v7 w7 ho hb hg hat; have HO7 := Aside0.mk ho; have HB7 := Aside0.mk hb; clear ho hb hg hat)
            go_roundw
            case rel => exact ⟨j + 1, by omega, by go_num, ⟨by rw [HTS.out, if_pos HB'.out]; exact HO7.out⟩, ⟨HBt.out.trans HB7.out⟩⟩
            case measure => simp [intOf]; omega
          | false =>
            rw [hb] at hbc
            have HB' := Aside0.mk hb
            clear hb
            go_wp2
            go_roundw
            case rel => exact ⟨j + 1, by omega, by go_num, ⟨by rw [HTS.out, HB'.out, if_neg (by simp), List.append_nil]; exact HRt.out⟩, HBt⟩
            case measure => simp [intOf]; omega
        · have hje : j = gates.length := by omega
          subst hje
          go_wp2
          go_ret2
          exact ⟨_, rfl, by rw [← HTR.out]; exact Kd.R_lower HRt.out HW4.out.size, HW4.out.trans (HBt.out.mono HW4.out.size)⟩

theorem gate_Used.calls (a0_0 : Int) (A0_1 : Option Addr) (c0_1 : Nat) (l0_1 : List (S50)) (A0_2 : Option Addr) (c0_2 : Nat) (l0_2 : List Int) (A0_3 : Option Addr) (c0_3 : Nat) (l0_3 : List Int) (A0_4 : Option Addr) (c0_4 : Nat) (l0_4 : List Int) (r1 : List Int) (r2 : Int) (w : World) (hr0_1 : Kd.C k50 w A0_1 l0_1.length l0_1) (hc0_1 : l0_1.length ≤ c0_1) (hr0_2 : Kd.C (Kd.int .i64) w A0_2 l0_2.length l0_2) (hc0_2 : l0_2.length ≤ c0_2) (hr0_3 : Kd.C (Kd.int .i64) w A0_3 l0_3.length l0_3) (hc0_3 : l0_3.length ≤ c0_3) (hr0_4 : Kd.C (Kd.int .i64) w A0_4 l0_4.length l0_4) (hc0_4 : l0_4.length ≤ c0_4) (h : gate_Used.f a0_0 l0_1 l0_2 l0_3 l0_4 = some (r1, r2)) :
    Calls Try.prog 25 #[.agg #[.int .i64 a0_0, .slice A0_1 l0_1.length c0_1, .slice A0_2 l0_2.length c0_2, .slice A0_3 l0_3.length c0_3, .slice A0_4 l0_4.length c0_4]] w fun e w' => ∃ v0_ : Value, e = .returned (.tuple #[v0_, .int .i64 r2]) ∧ Kd.R (Kd.int .i64) 3 w' w.heap.size (fun _ => True) v0_ r1 ∧ Below w.heap.size w w' := by
  unfold gate_Used.f at h
  split at h
  · rename_i h1
    simp only [Option.some.injEq, Prod.mk.injEq] at h
    obtain ⟨rfl, rfl⟩ := h
    obtain ⟨k, hk⟩ := h1.chk
    exact used_walk k a0_0 A0_1 c0_1 l0_1 A0_2 c0_2 l0_2 A0_3 c0_3 l0_3 A0_4 c0_4 l0_4 w hr0_1 hc0_1 hr0_2 hc0_2 hr0_3 hc0_3 hr0_4 hc0_4 h1.gc h1.len h1.len1 h1.out h1.outl hk
  · cases h
end Go.Proofs.Ytaalafnkglbcpaa.PG
