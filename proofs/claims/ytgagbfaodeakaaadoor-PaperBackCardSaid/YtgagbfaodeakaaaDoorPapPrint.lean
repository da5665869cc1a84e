/- paper.Print, walked by hand: lines of paper. -/
import Derived.Test.YtgagbfaodeakaaaDoorPapPlain
namespace Go.Proofs.YtgagbfaodeakaaaDoor.PPaperBack
open Go.RowKit Go.Proofs.YtgagbfaodeakaaaDoorW.PrintWords Go.Proofs.YtgagbfaodeakaaaDoorW.PrintLast Go.Proofs.YtgagbfaodeakaaaDoorW.PrintMore
attribute [local go_sem] max2_int min2_int max_two min_two max_three min_three max_four min_four
set_option linter.unusedVariables false

theorem byte_at {w : World} {A : Option Addr} {n : Nat} {xs : List Int} (h : Kd.C (Kd.int .u8) w A n xs) (i : Nat) (h1 : i < n) : ∃ ad, A = some ad ∧ w.cell? (ad.add i) = some (.int .u8 (rd xs (i : Int))) := by
  obtain ⟨ad, c, e, _, hK, hc⟩ := Kd.C_get h 0 (i : Int) (by omega) (by omega)
  obtain rfl : c = [.int .u8 (xs.getD (i : Int).toNat 0)] := hK
  have h2 := hc 0 _ rfl
  refine ⟨ad, e, ?_⟩
  rw [show (i : Int).toNat * (Kd.int .u8).sz + 0 = i from by rw [Int.toNat_natCast]; show i * 1 + 0 = i; omega] at h2
  exact h2
theorem min_spell (q : Nat) : (if ((q : Int) / 8 + 1) * 8 < 40 then ((q : Int) / 8 + 1) * 8 else 40) = ((min 40 ((q / 8 + 1) * 8) : Nat) : Int) := by split <;> omega
theorem max_spell (q : Nat) : (if (0 : Int) < (q : Int) - 1 then (q : Int) - 1 else 0) = ((q - 1 : Nat) : Int) := by split <;> omega

theorem info9s : (Tryd.prog.info? 9).map (fun i => (i.zero, i.size, i.bytes)) = some (some (.string ⟨#[]⟩), 1, 16) := by kernel_rfl
set_option maxHeartbeats 4000000 in
set_option maxRecDepth 100000 in
theorem print_walk (l : List Int) (sF : PS) (A0 : Option Addr) (c0 : Nat) (w : World) (hC : Kd.C (Kd.int .u8) w A0 l.length l) (hl : l.length ≤ 20000) (hb : ∀ x ∈ l, 0 ≤ x ∧ x ≤ 255) (hs : prun l ⟨[], 0, 0⟩ = some sF) :
    Calls Tryd.prog 7 #[.slice A0 l.length c0] w fun e w' => ∃ v : Value, e = .returned (.tuple #[v, .int .i64 0]) ∧ Kd.R Kd.string 9 w' w.heap.size (fun _ => True) v (stripE (outs sF.rows)) ∧ Below w.heap.size w w' := by
  have HC := Aside0.mk hC
  have HB8 := Aside0.mk hb
  have HS := Aside0.mk hs
  have hlt0 : decide (20000 < (l.length : Int)) = false := decide_eq_false (by omega)
  clear hC hb hs
  go_enter Tryd.func7, Tryd.ntmps7
  go_wp2
  go_loopw [4, 5, 6, 17] (fun v4 v5 v6 v17 wr => ∃ (i : Nat) (s : PS), i ≤ l.length ∧ v17 = .int .i64 i ∧ v5 = .int .i64 (s.line : Int) ∧ v6 = .int .i64 (s.col : Int) ∧ s.line < 400 ∧ s.col ≤ 40 ∧ Aside0 (prun (l.drop i) s = some sF) ∧ Aside0 (POk s) ∧ Aside0 (Kd.S kL 26 wr w.heap.size (fun _ => True) v4 s.rows) ∧ Aside0 (Below w.heap.size w wr)) (fun _ _ _ v17 _ => l.length - (intOf v17).toNat)
  case atStart => exact ⟨0, ⟨[], 0, 0⟩, by omega, rfl, rfl, rfl, by simp, by simp, HS, ⟨⟨by simp, by simp, by simp, by simp⟩⟩, ⟨Kd.S_nil _ _ _ _ _⟩, ⟨Below.refl _ _⟩⟩
  case round =>
    obtain ⟨i, s, hi, rfl, rfl, rfl, hln, hcl, HP, HOK, HSS, HB⟩ := hrel
    by_cases hlt : i < l.length
    · obtain ⟨s', hm, hl', hrun⟩ := prun_drop l i s sF hlt HP.out
      have HOK' := Aside0.mk (pmove_ok HOK.out hm hl')
      have HRUN := Aside0.mk hrun
      obtain ⟨ad, rfl, hcell⟩ := byte_at (Kd.C_below HC.out HB.out) i hlt
      have hbb : 0 ≤ rd l (i : Int) ∧ rd l (i : Int) ≤ 255 := HB8.out _ (by unfold rd; rw [Int.toNat_natCast, List.getD_eq_getElem?_getD, List.getElem?_eq_getElem hlt]; exact List.getElem_mem _)
      obtain ⟨cb0, cb1⟩ := hbb
      generalize rd l (i : Int) = c at *
      clear hrun HP
      unfold pmove at hm
      by_cases h13 : c = 13
      · rw [if_pos h13] at hm
        injection hm with hm
        subst hm
        subst h13
        go_wp2
        go_roundw
        case rel => exact ⟨i + 1, (⟨s.rows, s.line, 0⟩ : PS), by omega, by go_num, by first | rfl | go_num, by first | rfl | go_num, hl', by first | omega | (simp; omega) | simp, HRUN, HOK', HSS, HB⟩
        case measure => simp [intOf]; omega
      rw [if_neg h13] at hm
      have b13 : (c == 13) = false := by simp [h13]
      clear h13
      by_cases h10 : c = 10
      · rw [if_pos h10] at hm
        injection hm with hm
        subst hm
        subst h10
        have hl2 : s.line + 1 < 400 := hl'
        go_wp2
        go_roundw
        case rel => exact ⟨i + 1, (⟨s.rows, s.line + 1, s.col⟩ : PS), by omega, by go_num, by first | rfl | go_num, by first | rfl | go_num, hl', by first | omega | (simp; omega) | simp, HRUN, HOK', HSS, HB⟩
        case measure => simp [intOf]; omega
      rw [if_neg h10] at hm
      have b10 : (c == 10) = false := by simp [h10]
      clear h10
      by_cases h12 : c = 12
      · rw [if_pos h12] at hm
        injection hm with hm
        subst hm
        subst h12
        have hl2 : (s.line / 20 + 1) * 20 < 400 := hl'
        go_wp2
        go_roundw
        case rel => exact ⟨i + 1, (⟨s.rows, (s.line / 20 + 1) * 20, s.col⟩ : PS), by omega, by go_num, by first | rfl | go_num, by first | rfl | go_num, hl', by first | omega | (simp; omega) | simp, HRUN, HOK', HSS, HB⟩
        case measure => simp [intOf]; omega
      rw [if_neg h12] at hm
      have b12 : (c == 12) = false := by simp [h12]
      clear h12
      by_cases h9 : c = 9
      · rw [if_pos h9] at hm
        injection hm with hm
        subst hm
        subst h9
        have hsp := min_spell s.col
        go_wp2
        go_roundw
        case rel => exact ⟨i + 1, (⟨s.rows, s.line, min 40 ((s.col / 8 + 1) * 8)⟩ : PS), by omega, by go_num, by first | rfl | go_num, by first | rfl | go_num, hl', by first | omega | (simp; omega) | simp, HRUN, HOK', HSS, HB⟩
        case measure => simp [intOf]; omega
      rw [if_neg h9] at hm
      have b9 : (c == 9) = false := by simp [h9]
      clear h9
      by_cases h8 : c = 8
      · rw [if_pos h8] at hm
        injection hm with hm
        subst hm
        subst h8
        have hsp := max_spell s.col
        go_wp2
        go_roundw
        case rel => exact ⟨i + 1, (⟨s.rows, s.line, s.col - 1⟩ : PS), by omega, by go_num, by first | rfl | go_num, by first | rfl | go_num, hl', by first | omega | (simp; omega) | simp, HRUN, HOK', HSS, HB⟩
        case measure => simp [intOf]; omega
      rw [if_neg h8] at hm
      have b8 : (c == 8) = false := by simp [h8]
      clear h8
      by_cases hbad : c < 32 ∨ 126 < c
      · rw [if_pos hbad] at hm; cases hm
      rw [if_neg hbad] at hm
      have b32 : decide (c < 32) = false := decide_eq_false (by omega)
      have b126 : decide (126 < c) = false := decide_eq_false (by omega)
      by_cases h40 : s.col = 40
      · rw [if_pos h40] at hm
        injection hm with hm
        subst hm
        have b40 : ((s.col : Int) == 40) = true := by simp [h40]
        have hl2 : s.line + 1 < 400 := hl'
        have PW := Aside0.mk (put_walk w.heap.size s.rows u4 (s.line + 1) 0 c wr HSS.out HB.out.size (by omega) (by omega) (by omega) (by omega) (by have := HOK.out.len; omega) (fun r hr => by have := HOK.out.row r hr; omega))
        have PW2 := PW.out
        rw [show ((s.line + 1 : Nat) : Int) = (s.line : Int) + 1 from rfl, show ((0 : Nat) : Int) = 0 from rfl] at PW2
        have PW3 := Aside0.mk PW2
        clear h40 PW PW2
        go_wp2_with fail
        (with_reducible refine PW3.out.mono ?_)
        rintro e w5 ⟨v5, rfl, hs5, hb5⟩
        have HS5 := Aside0.mk hs5
        have HB5 : Aside0 (Below w.heap.size w w5) := ⟨HB.out.trans hb5⟩
        clear hs5 hb5 PW3
        go_wp2
        go_roundw
        case rel => exact ⟨i + 1, (⟨putF s.rows (s.line + 1) 0 c, s.line + 1, 1⟩ : PS), by omega, by go_num, by first | rfl | go_num, by first | rfl | go_num, hl', by simp, HRUN, HOK', HS5, HB5⟩
        case measure => simp [intOf]; omega
      · rw [if_neg h40] at hm
        injection hm with hm
        subst hm
        have b40 : ((s.col : Int) == 40) = false := by simp; omega
        have PW := Aside0.mk (put_walk w.heap.size s.rows u4 s.line s.col c wr HSS.out HB.out.size (by omega) (by omega) (by omega) (by omega) (by have := HOK.out.len; omega) (fun r hr => by have := HOK.out.row r hr; omega))
        go_wp2_with fail
        (with_reducible refine PW.out.mono ?_)
        rintro e w5 ⟨v5, rfl, hs5, hb5⟩
        have HS5 := Aside0.mk hs5
        have HB5 : Aside0 (Below w.heap.size w w5) := ⟨HB.out.trans hb5⟩
        clear hs5 hb5 PW
        go_wp2
        go_roundw
        case rel => exact ⟨i + 1, (⟨putF s.rows s.line s.col c, s.line, s.col + 1⟩ : PS), by omega, by go_num, by first | rfl | go_num, by first | rfl | go_num, hl', by simp; omega, HRUN, HOK', HS5, HB5⟩
        case measure => simp [intOf]; omega
    · have hsf : s = sF := by
        have h := HP.out
        rw [List.drop_eq_nil_of_le (by omega)] at h
        exact Option.some.inj h
      subst hsf
      obtain ⟨AL, cL, hvL⟩ := Kd.S_slice HSS.out
      subst hvL
      obtain ⟨w1, rfl⟩ : ∃ w1 : World, w1 = wr := ⟨_, rfl⟩
      have hlen := HOK.out.len
      have HSS1 := HSS
      have HB1 := HB
      clear HP HSS HB
      go_wp2
      go_loopw [9, 73] (fun v9 v73 wr => ∃ j : Nat, j ≤ s.rows.length ∧ v73 = .int .i64 j ∧ Aside0 (Kd.R Kd.string 9 wr w1.heap.size (fun _ => True) v9 (outs (s.rows.take j))) ∧ Aside0 (Kd.S kL 26 wr w.heap.size (fun k => k < w1.heap.size) (.slice AL s.rows.length cL) s.rows) ∧ Aside0 (Below w1.heap.size w1 wr)) (fun _ v73 _ => s.rows.length - (intOf v73).toNat)
      case atStart => exact ⟨0, by omega, rfl, ⟨Kd.R_nil _ _ _ _ _⟩, ⟨Kd.S_mono (Kd.S_bound HSS1.out) (fun _ hk => hk.2.2.1)⟩, ⟨Below.refl _ _⟩⟩
      case round =>
        obtain ⟨j, hj, rfl, HR, HS2, HB2⟩ := hrel
        by_cases hjl : j < s.rows.length
        · obtain ⟨g, cap2, hv2, -, -⟩ := Kd.S_form HS2.out (by omega)
          have hA : AL = some ⟨g, 0, none⟩ := by injection hv2
          have hcc : cL = cap2 := by injection hv2
          subst hA
          subst hcc
          obtain ⟨cs, hcs, hM, hcell⟩ := Kd.S_get HS2.out [] (j : Int) (by omega) (by omega)
          rw [Int.toNat_natCast] at hM hcell
          obtain ⟨vr, rfl, hR⟩ := hM
          obtain ⟨Ar, cr, rfl, hcr, -⟩ := Kd.R_reads hR
          have hc1 := hcell 0 _ rfl
          rw [show j * kL.sz + 0 = j from by show j * 1 + 0 = j; omega, add_plain] at hc1
          have hrl := HOK.out.row (s.rows.getD j []) (by rw [List.getD_eq_getElem?_getD, List.getElem?_eq_getElem hjl]; exact List.getElem_mem _)
          have HSU := Aside0.mk (outs_succ s.rows j hjl)
          have HOL : Aside0 ((outs (s.rows.take j)).length ≤ 401) := ⟨by rw [outs_len, List.length_take]; omega⟩
          have HT := Aside0.mk (paper_trim.calls 100 _ _ _ (s.rows.getD j []) (trimF (s.rows.getD j [])) wr (Kd.R_V hR) (trim_ev _ (by omega) 100 (by omega)))
          have hjq : (j : Int) < (s.rows.length : Int) := by omega
          generalize s.rows.getD j [] = row at *
          clear hcell hR hv2 hcs hcr
          go_wp2_with fail
          (with_reducible refine HT.out.mono ?_)
          rintro e w5 ⟨v5, rfl, hv5, hb5⟩
          obtain ⟨A5, c5, rfl⟩ := Kd.V_slice hv5
          have hcv := Kd.C_string (P := Tryd.prog) (A := A5) (c := c5) Tryd.underlying26 Tryd.underlying5 Tryd.underlying9 (Kd.V_reads' hv5).2.2
          have HR5 : Aside0 (Kd.R Kd.string 9 w5 w1.heap.size (fun _ => True) u9 (outs (s.rows.take j))) := ⟨Kd.R_below HR.out hb5⟩
          have HS5 : Aside0 (Kd.S kL 26 w5 w.heap.size (fun k => k < w1.heap.size) (.slice (some ⟨g, 0, none⟩) s.rows.length cL) s.rows) := ⟨Kd.S_below HS2.out hb5⟩
          have HB5 : Aside0 (Below w1.heap.size w1 w5) := ⟨HB2.out.trans (hb5.mono HB2.out.size)⟩
          clear hv5 hb5 HT
          go_wp2_with ((with_reducible refine gate_builtin (b := .append) (xs := #[.tmp 77, .tmp 81]) rfl ?_); at_builtin; refine Kd.R_append Kd.string (w0 := w5) w1.heap.size rfl (.tmp 77) (.tmp 81) 23 9 (.string ⟨#[]⟩) 16 rfl Tryd.underlying23 info9s rfl (by decide) (by omega) u9 (outs (s.rows.take j)) (strOfNums (trimF row)) [.string (strOfNums (trimF row))] (fun _ => True) (fun _ => False) rfl ?aX rfl (fun _ hk => hk.elim) (fun _ _ => trivial) HR5.out (Below.refl _ _) ?aS ?aL ?_; (case aX => first | rfl | (simp; done)); (case aS => exact HB5.out.size); (case aL => have := HOL.out; omega); intro v7 w7 ho hb hg hat; have HO7 := Aside0.mk ho; have HB7 := Aside0.mk hb; have HG7 := Aside0.mk hg; clear ho hb hg hat)
          go_roundw
          case rel => exact ⟨j + 1, by omega, by go_num, ⟨by rw [HSU.out]; exact HO7.out⟩, ⟨Kd.S_grown HS5.out HG7.out (fun k hk e => by have := Kd.R_base HR5.out k e.symm; omega)⟩, ⟨HB5.out.trans HB7.out⟩⟩
          case measure => simp [intOf]; omega
        · have hje : s.rows.take j = s.rows := List.take_of_length_le (by omega)
          have hR := HR.out
          rw [hje] at hR
          obtain ⟨A9, c9, rfl⟩ := Kd.R_slice hR
          have HRO := Aside0.mk hR
          have HBB : Aside0 (Below w.heap.size w wr) := ⟨HB1.out.trans (HB2.out.mono HB1.out.size)⟩
          have HLO : Aside0 (w.heap.size ≤ w1.heap.size) := ⟨HB1.out.size⟩
          obtain ⟨w2, rfl⟩ : ∃ w2 : World, w2 = wr := ⟨_, rfl⟩
          clear hje hR HR HS2 HB2
          go_wp2
          go_loopw [9] (fun v9 wr => wr = w2 ∧ ∃ o : List ByteArray, o.length ≤ 401 ∧ Aside0 (stripE o = stripE (outs s.rows)) ∧ Aside0 (Kd.R Kd.string 9 w2 w1.heap.size (fun _ => True) v9 o)) (fun v9 _ => lenV v9)
          case atStart => exact ⟨rfl, outs s.rows, by rw [outs_len]; omega, ⟨rfl⟩, HRO⟩
          case round =>
            obtain ⟨rfl, o, ho, HE, HRo⟩ := hrel
            have hcase : o = [] ∨ ∃ q x, o = q ++ [x] := by
              cases o with
              | nil => exact Or.inl rfl
              | cons a t => exact Or.inr ⟨(a :: t).dropLast, (a :: t).getLast (by simp), (List.dropLast_concat_getLast _).symm⟩
            rcases hcase with rfl | ⟨q, x, rfl⟩
            · obtain ⟨Ao, co, rfl⟩ := Kd.R_slice HRo.out
              have HX : Aside0 (stripE (outs s.rows) = []) := ⟨HE.out.symm⟩
              go_wp2
              go_ret2
              exact ⟨_, rfl, by rw [HX.out]; exact Kd.R_lower HRo.out HLO.out, HBB.out⟩
            · obtain ⟨go, co, hvo, -, -⟩ := Kd.R_form HRo.out (by simp)
              subst hvo
              have hql : (q ++ [x]).length = q.length + 1 := by simp
              have hRq := HRo.out
              have hrc := Kd.C_get (Kd.R_reads' hRq).2.2 ByteArray.empty (q.length : Int) (by omega) (by rw [hql]; omega)
              obtain ⟨ad, cb, hadd, hcb, hKb, hcb2⟩ := hrc
              obtain rfl : cb = [.string ((q ++ [x]).getD (q.length : Int).toNat ByteArray.empty)] := hKb
              have hb0 := hcb2 0 _ rfl
              obtain rfl : (⟨go, 0, none⟩ : Addr) = ad := by injection hadd
              rw [Int.toNat_natCast, show q.length * Kd.string.sz + 0 = q.length from by show q.length * 1 + 0 = _; omega, add_plain, show (q ++ [x]).getD q.length ByteArray.empty = x from by simp] at hb0
              rw [hql] at hRq ⊢
              have HRq := Aside0.mk hRq
              have hqq : (q.length : Int) < ((q.length + 1 : Nat) : Int) := by omega
              have hlq : q.length ≤ 400 := by omega
              have hqc : q.length ≤ co := by have := (Kd.R_reads' hRq).2.1; omega
              by_cases hx : x.toList = []
              · have hx2 : x.toList.isEmpty = true := by simp [hx]
                have HX : Aside0 (stripE q = stripE (outs s.rows)) := ⟨by have h := HE.out; rw [stripE_snoc, if_pos hx] at h; exact h⟩
                clear hadd hcb hcb2 HE hRq
                go_wp2
                go_roundw
                case rel => exact ⟨by first | rfl | trivial, q, by omega, HX, ⟨by have h := Kd.R_take HRq.out (show q.length ≤ (q ++ [x]).length by simp); simpa using h⟩⟩
                case measure => simp [lenV]
              · have hx2 : x.toList.isEmpty = false := by simp [hx]
                have HX : Aside0 (stripE (outs s.rows) = q ++ [x]) := ⟨by have h := HE.out; rw [stripE_snoc, if_neg hx] at h; exact h.symm⟩
                clear hadd hcb hcb2 HE hRq
                go_wp2
                go_ret2
                exact ⟨_, rfl, by rw [HX.out]; exact Kd.R_lower HRq.out HLO.out, HBB.out⟩
end Go.Proofs.YtgagbfaodeakaaaDoor.PPaperBack
