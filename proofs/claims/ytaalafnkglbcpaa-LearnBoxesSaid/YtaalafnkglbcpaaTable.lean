/- bakemake.Table, walked by hand: whatever the numbers are, a valid table is made. -/
import Derived.Test.YtaalafnkglbcpaaTabInv
namespace Go.Proofs.Ytaalafnkglbcpaa.PL
open Go.RowKit Go.Proofs.YtaalafnkglbcpaaW.PrintWords Go.Proofs.YtaalafnkglbcpaaW.PrintLast Go.Proofs.YtaalafnkglbcpaaW.PrintMore
open Go.Proofs.Ytaalafnkglbcpaa.PG (StreamAt next_calls NextPost own_apart sl_eq)
set_option linter.unusedVariables false

theorem tnext {j : Nat} (h : (j : Int) ≤ 3) : wrap64 ((j : Int) + 1) = ((j + 1 : Nat) : Int) := by unfold wrap64; omega
def RowOk (ins outs n : Int) (row : List S77) : Prop := (row.length : Int) = wrap64 (2 ^ ins.toNat) ∧ ∀ r ∈ row, 0 ≤ r.f0 ∧ r.f0 < wrap64 (2 ^ outs.toNat) ∧ 0 ≤ r.f1 ∧ r.f1 < n
/-- A valid table. -/
structure ValidT (ins outs : Int) (rows : List (List S77)) : Prop where
  i0 : 1 ≤ ins
  i1 : ins ≤ 2
  o0 : 1 ≤ outs
  o1 : outs ≤ 3
  r0 : 1 ≤ rows.length
  r1 : rows.length ≤ 6
  ok : ∀ row ∈ rows, RowOk ins outs rows.length row
def TabPost (w0 : World) (e : Ending) (w' : World) : Prop := ∃ (ins outs : Int) (vr : Value) (rows : List (List S77)), e = .returned (.agg #[.int .i64 ins, .int .i64 outs, vr]) ∧ ValidT ins outs rows ∧ Kd.S (Kd.slice 77 k77) 75 w' w0.heap.size (fun _ => True) vr rows ∧ Below w0.heap.size w0 w'

set_option maxRecDepth 100000 in
set_option maxHeartbeats 8000000 in
theorem table_calls (A0 : Option Addr) (c0 : Nat) (l0 : List Int) (w0 : World) (hr0 : Kd.C (Kd.int .i64) w0 A0 l0.length l0) (hc0 : l0.length ≤ c0) :
    Calls Try.prog 11 #[.slice A0 l0.length c0] w0 (TabPost w0) := by
  have HR0 := Aside0.mk hr0
  have HC0 := Aside0.mk hc0
  clear hr0 hc0
  go_enter Try.func11, Try.ntmps11
  go_wp2_with fail
  have hB1 : Below w0.heap.size w0 ((w0.alloc (Obj.cells #[Value.int IntKind.i64 0, Value.int IntKind.i64 0, Value.slice none 0 0] 25)).alloc (Obj.cells #[Value.slice A0 l0.length c0] 73)) := below_alloc (below_alloc (Below.refl _ _) _) _
  have hS1 : StreamAt w0 ((w0.alloc (Obj.cells #[Value.int IntKind.i64 0, Value.int IntKind.i64 0, Value.slice none 0 0] 25)).alloc (Obj.cells #[Value.slice A0 l0.length c0] 73)) (w0.heap.size + 1) :=
    ⟨A0, c0, l0, by simpa using blk_new (w0.alloc (Obj.cells #[Value.int IntKind.i64 0, Value.int IntKind.i64 0, Value.slice none 0 0] 25)) (Obj.cells #[Value.slice A0 l0.length c0] 73), HC0.out, HR0.out⟩
  have hR1 : ((w0.alloc (Obj.cells #[Value.int IntKind.i64 0, Value.int IntKind.i64 0, Value.slice none 0 0] 25)).alloc (Obj.cells #[Value.slice A0 l0.length c0] 73)).heap[w0.heap.size]? = some (.cells #[.int .i64 0, .int .i64 0, .slice none 0 0] 25 (0, 0)) := blk_alloc (blk_new _ _) _
  have hZ1 : ((w0.alloc (Obj.cells #[Value.int IntKind.i64 0, Value.int IntKind.i64 0, Value.slice none 0 0] 25)).alloc (Obj.cells #[Value.slice A0 l0.length c0] 73)).heap.size = w0.heap.size + 2 := by simp
  generalize hW1 : ((w0.alloc (Obj.cells #[Value.int IntKind.i64 0, Value.int IntKind.i64 0, Value.slice none 0 0] 25)).alloc (Obj.cells #[Value.slice A0 l0.length c0] 73)) = W1 at *
  clear hW1
  (with_reducible refine (next_calls w0 W1 (w0.heap.size + 1) 2 hS1 hB1 (by omega) (by omega)).mono ?_)
  rintro e w1 ⟨r1, rfl, r10, r11, hg1, hz1, hs1⟩
  have hb1 := hB1.grown hg1 hB1.size (fun k hk => by injection hk with hk; omega)
  have hr1 := blk_grown hR1 hg1 (by simp)
  go_wp2_with fail
  (with_reducible refine (next_calls w0 w1 (w0.heap.size + 1) 3 hs1 hb1 (by omega) (by omega)).mono ?_)
  rintro e w2 ⟨r2, rfl, r20, r21, hg2, hz2, hs2⟩
  have hzz : w2.heap.size = w0.heap.size + 2 := by omega
  have HB2 := Aside0.mk (hb1.grown hg2 hb1.size (fun k hk => by injection hk with hk; omega))
  have HR2 := Aside0.mk (blk_grown hr1 hg2 (by simp))
  have HS2 := Aside0.mk hs2
  clear hB1 hS1 hR1 hZ1 hg1 hz1 hs1 HR0 HC0 hb1 hr1 hg2 hz2 hs2
  go_wp2_with fail
  have HI2 : Aside0 (TInv w0 (w2.alloc (Obj.cells #[Value.int IntKind.i64 (1 + r1), Value.int IntKind.i64 (1 + r2), Value.slice none 0 0] 25)) (1 + r1) (1 + r2) (.slice none 0 0) [] (.slice none 0 0) []) := ⟨{
    hb := below_alloc HB2.out _, res := blk_alloc HR2.out _, st := HS2.out.kept (World.grownBy_alloc _ _ none) (by simp), blk := by rw [← hzz]; exact blk_new _ _, rr := Kd.S_nil _ _ _ _ _, r6 := Kd.R_nil _ _ _ _ _ }⟩
  obtain ⟨ins, hins⟩ : ∃ ins, 1 + r1 = ins := ⟨_, rfl⟩
  obtain ⟨outs, houts⟩ : ∃ outs, 1 + r2 = outs := ⟨_, rfl⟩
  have hi0 : 1 ≤ ins := by omega
  have hi1 : ins ≤ 2 := by omega
  have ho0 : 1 ≤ outs := by omega
  have ho1 : outs ≤ 3 := by omega
  rw [hins, houts] at HI2 ⊢
  generalize w2.alloc (Obj.cells #[Value.int IntKind.i64 ins, Value.int IntKind.i64 outs, Value.slice none 0 0] 25) = W2 at *
  clear hzz HB2 HR2 HS2
  have HINS := Aside0.mk (And.intro hins houts)
  clear hins houts
  (with_reducible refine (next_calls w0 W2 (w0.heap.size + 1) 6 HI2.out.st HI2.out.hb (by omega) (by omega)).mono ?_)
  rintro e w3 ⟨r3, rfl, r30, r31, hg3, hz3, hs3⟩
  have HI3 := Aside0.mk (HI2.out.asked hg3 hs3)
  clear hg3 hz3 hs3 HI2
  go_wp2
  obtain ⟨n, hn⟩ : ∃ n, 1 + r3 = n := ⟨_, rfl⟩
  have hn0 : 1 ≤ n := by omega
  have hn1 : n ≤ 6 := by omega
  rw [hn]
  have HN := Aside0.mk hn
  clear hn
  have SI : Aside0 (1 ≤ wrap64 (2 ^ ins.toNat) ∧ wrap64 (2 ^ ins.toNat) ≤ 4) := ⟨by
    have : ins = 1 ∨ ins = 2 := by omega
    rcases this with h | h <;> subst h <;> decide +kernel⟩
  have SO : Aside0 (1 ≤ wrap64 (2 ^ outs.toNat) ∧ wrap64 (2 ^ outs.toNat) ≤ 8) := ⟨by
    have : outs = 1 ∨ outs = 2 ∨ outs = 3 := by omega
    rcases this with h | h | h <;> subst h <;> decide +kernel⟩
  go_loopw [6, 21] (fun v6 v21 wr => ∃ (i : Nat) (vr : Value) (rows : List (List S77)), (i : Int) ≤ n ∧ v21 = .int .i64 i ∧ Aside0 (TInv w0 wr ins outs vr rows (.slice none 0 0) []) ∧ Aside0 (rows.length = i ∧ ∀ row ∈ rows, RowOk ins outs n row)) (fun _ v21 _ => n.toNat - (intOf v21).toNat)
  case atStart => exact ⟨0, _, [], by omega, rfl, HI3, ⟨rfl, fun _ h => by cases h⟩⟩
  case round =>
    obtain ⟨i, vr, rows, hi, rfl, HI, HG⟩ := hrel
    obtain ⟨WA, rfl⟩ : ∃ WA : World, WA = wr := ⟨_, rfl⟩
    by_cases hlt : (i : Int) < n
    · have hc0 := (blk_cell HI.out.blk 0).trans (show _ = some (.int .i64 ins) from rfl)
      go_wp2_with fail
      clear hc0
      have HIO := HI
      clear HI
      obtain ⟨NR, hNR⟩ : ∃ NR : Nat, wrap64 (2 ^ ins.toNat) = (NR : Int) := ⟨(wrap64 (2 ^ ins.toNat)).toNat, by have := SI.out; omega⟩
      have nr0 : 1 ≤ NR := by have := SI.out; omega
      have nr1 : NR ≤ 4 := by have := SI.out; omega
      rw [hNR]
      have HNR := Aside0.mk hNR
      clear hNR
      go_loopw [6, 26] (fun v6 v26 wr => ∃ (j : Nat) (row : List S77), j ≤ NR ∧ v26 = .int .i64 j ∧ Aside0 (TInv w0 wr ins outs vr rows v6 row) ∧ Aside0 (row.length = j ∧ ∀ r ∈ row, 0 ≤ r.f0 ∧ r.f0 < wrap64 (2 ^ outs.toNat) ∧ 0 ≤ r.f1 ∧ r.f1 < n)) (fun _ v26 _ => NR - (intOf v26).toNat)
      case atStart => exact ⟨0, [], by omega, rfl, HIO, ⟨rfl, fun _ h => by cases h⟩⟩
      case round =>
        clear HIO
        obtain ⟨j, row, hj, rfl, HI, HW⟩ := hrel
        obtain ⟨WA, rfl⟩ : ∃ WA : World, WA = wr := ⟨_, rfl⟩
        by_cases hjl : j < NR
        · have hc1 := (blk_cell HI.out.blk 1).trans (show _ = some (.int .i64 outs) from rfl)
          go_wp2_with fail
          (with_reducible refine (next_calls w0 WA (w0.heap.size + 1) (wrap64 (2 ^ outs.toNat)) HI.out.st HI.out.hb (by have := SO.out; omega) (by have := SO.out; omega)).mono ?_)
          rintro e w5 ⟨x5, rfl, x50, x51, hg5, hz5, hs5⟩
          have HI5 := Aside0.mk (HI.out.asked hg5 hs5)
          clear hg5 hz5 hs5 HI hc1
          go_wp2_with fail
          (with_reducible refine (next_calls w0 w5 (w0.heap.size + 1) n HI5.out.st HI5.out.hb (by omega) (by omega)).mono ?_)
          rintro e w6 ⟨x6, rfl, x60, x61, hg6, hz6, hs6⟩
          have HI6 := Aside0.mk (HI5.out.asked hg6 hs6)
          clear hg6 hz6 hs6 HI5
          have SL : Aside0 (row.length ≤ 4) := ⟨by have := HW.out.1; omega⟩
          go_wp2_with ((with_reducible refine gate_builtin (b := .append) (xs := #[.tmp 28, .tmp 38]) rfl ?_); at_builtin; refine Kd.R_append k77 (w0 := w6) (w0.heap.size + 3) rfl (.tmp 28) (.tmp 38) 75 77 (.agg #[.int .i64 0, .int .i64 0]) 16 rfl Try.underlying75 info77 rfl (by decide) (by omega) _ row ⟨x5, x6⟩ [.int .i64 x5, .int .i64 x6] (fun _ => True) (fun _ => False) rfl ?aX ?aP (fun _ hk => hk.elim) (fun _ _ => trivial) HI6.out.r6 (Below.refl _ _) ?aS ?aL ?_; (case aX => first | rfl | (simp; done)); (case aP => first | exact rfl | exact k77_mkM _ _ _ _); (case aS => have h1_ := blk_lt HI6.out.blk; omega); (case aL => have h1_ := SL.out; first | omega | (simp; omega)); intro v7 w7 ho hb hg hat; have HR7 := Aside0.mk ho; have HG7 := Aside0.mk hg; have HA7 := Aside0.mk hat; clear ho hb hg hat)
          go_roundw
          case rel => exact ⟨j + 1, row ++ [⟨x5, x6⟩], by omega, by go_num, ⟨HI6.out.addRow HR7.out HG7.out HA7.out⟩, ⟨by simp [HW.out.1], fun r hr => by
            rcases List.mem_append.1 hr with hr | hr
            · exact HW.out.2 r hr
            · simp at hr; subst hr; exact ⟨x50, x51, x60, x61⟩⟩⟩
          case measure => simp [intOf]; omega
        · have hje : j = NR := by omega
          subst hje
          obtain ⟨A6, q6, hv6, hl6, hq6⟩ := Kd.R_reads HI.out.r6
          subst hv6
          clear hl6 hq6
          obtain ⟨AR, qR, hvR⟩ := Kd.S_slice HI.out.rr
          subst hvR
          have hc2 := (blk_cell HI.out.blk 2).trans (show _ = some (.slice AR rows.length qR) from rfl)
          have HT6 := Aside0.mk (Kd.R_typed HI.out.r6)
          go_wp2_with ((with_reducible refine gate_builtin (b := .append) (xs := #[.tmp 42, .tmp 44]) rfl ?_); at_builtin; refine Kd.S_append (Kd.slice 77 k77) (w0 := WA) (w0.heap.size + 3) rfl (.tmp 42) (.tmp 44) 23 75 (.slice none 0 0) 24 rfl Try.underlying23 info75 rfl (by decide) (by omega) (.slice AR rows.length qR) rows row [.slice A6 row.length q6] (fun _ => True) (fun k => some k = (Value.slice A6 row.length q6).ownBlock) rfl ?aX ⟨_, rfl, Kd.R_flat (fun h => h) HI.out.r6 (fun k hk _ => hk.symm)⟩ ?aO (fun _ _ => trivial) ?aR (Below.refl _ _) ?aS ?aL ?_; (case aX => first | rfl | (simp; done)); (case aO => exact (fun k hk => ⟨trivial, by obtain ⟨cells, hc⟩ := HT6.out k hk.symm; exact Kd.S_ne HI.out.rr hc (by decide)⟩)); (case aR => exact Kd.S_mono HI.out.rr (fun k hk => ⟨trivial, hk⟩)); (case aS => have h1_ := blk_lt HI.out.blk; omega); (case aL => have := HG.out.1; omega); intro v7 w7 ho hb hg hat; obtain ⟨A7, q7, hv7⟩ := Kd.S_slice ho; rw [List.length_append, List.length_singleton] at hv7; subst hv7; have HR7 := Aside0.mk ho; have HG7 := Aside0.mk hg; have hne_ : ∀ g, g < w0.heap.size + 3 → some g ≠ (Value.slice AR rows.length qR).ownBlock := (fun g hg2 e => by have := Kd.S_base HI.out.rr g e.symm; omega); have hb7 := blk_grown HI.out.blk hg (hne_ _ (by omega)); have hc7 := (blk_cell hb7 2).trans (show _ = some (.slice AR rows.length qR) from rfl); have hf7 := blk_frozen hb7 2; clear ho hb hg hat hne_ hb7)
          have HN6 : Aside0 (rows.length + 1 ≤ 1000) := ⟨by have := HG.out.1; omega⟩
          go_roundw
          case rel => exact ⟨i + 1, _, rows ++ [row], by omega, by go_num, ⟨TInv.addState HI.out HR7.out HG7.out⟩, ⟨by simp [HG.out.1], fun r hr => by
            rcases List.mem_append.1 hr with hr | hr
            · exact HG.out.2 r hr
            · simp at hr; subst hr; exact ⟨by rw [HNR.out]; have := HW.out.1; omega, HW.out.2⟩⟩⟩
          case measure => simp [intOf]; omega
    · have hie : (i : Int) = n := by omega
      obtain ⟨AR, qR, hvR⟩ := Kd.S_slice HI.out.rr
      subst hvR
      have hb0 := HI.out.res
      have hrc0 := (blk_cell hb0 0).trans (show _ = some (.int .i64 0) from rfl)
      have hrf0 := blk_frozen hb0 0
      have hb1 : (WA.setCell ⟨w0.heap.size, 0, none⟩ (.int .i64 ins)).heap[w0.heap.size]? = some (.cells #[.int .i64 ins, .int .i64 0, .slice none 0 0] 25 (0, 0)) := blk_put hb0 0 _ rfl
      have hrc1 := (blk_cell hb1 1).trans (show _ = some (.int .i64 0) from rfl)
      have hrf1 := blk_frozen hb1 1
      have hb2 : ((WA.setCell ⟨w0.heap.size, 0, none⟩ (.int .i64 ins)).setCell ⟨w0.heap.size, 1, none⟩ (.int .i64 outs)).heap[w0.heap.size]? = some (.cells #[.int .i64 ins, .int .i64 outs, .slice none 0 0] 25 (0, 0)) := blk_put hb1 1 _ rfl
      have hrc2 := (blk_cell hb2 2).trans (show _ = some (.slice none 0 0) from rfl)
      have hrf2 := blk_frozen hb2 2
      have hb3 : (((WA.setCell ⟨w0.heap.size, 0, none⟩ (.int .i64 ins)).setCell ⟨w0.heap.size, 1, none⟩ (.int .i64 outs)).setCell ⟨w0.heap.size, 2, none⟩ (.slice AR rows.length qR)).heap[w0.heap.size]? = some (.cells #[.int .i64 ins, .int .i64 outs, .slice AR rows.length qR] 25 (0, 0)) := blk_put hb2 2 _ rfl
      have HB3 := Aside0.mk hb3
      have hl0 := (blk_cell HI.out.blk 0).trans (show _ = some (.int .i64 ins) from rfl)
      have hl1 := (blk_cell HI.out.blk 1).trans (show _ = some (.int .i64 outs) from rfl)
      have hl2 := (blk_cell HI.out.blk 2).trans (show _ = some (.slice AR rows.length qR) from rfl)
      clear hb0 hb1 hb2 hb3
      go_wp2_with fail
      refine bodyPost_ret (results_cell_row (fn := Try.f11) rfl _ _ w0.heap.size 25 #[.int .i64 ins, .int .i64 outs, .slice AR rows.length qR] (0, 0) _ rfl HB3.out Try.underlying25 rfl (by kernel_rfl)) rfl ?_
      have v1 := HG.out.1
      exact ⟨ins, outs, _, rows, rfl, { i0 := hi0, i1 := hi1, o0 := ho0, o1 := ho1, r0 := by omega, r1 := by omega, ok := fun r hr => by rw [v1, hie]; exact HG.out.2 r hr },
        Kd.S_lower (S_putU (p := ⟨w0.heap.size, 2, none⟩) (S_putU (p := ⟨w0.heap.size, 1, none⟩) (S_putU (p := ⟨w0.heap.size, 0, none⟩) (Kd.S_mono HI.out.rr (fun _ _ => trivial)) (by show w0.heap.size < _; omega) _) (by show w0.heap.size < _; omega) _) (by show w0.heap.size < _; omega) _) (by omega),
        ((HI.out.hb.setCell (Nat.le_refl _) _).setCell (Nat.le_refl _) _).setCell (Nat.le_refl _) _⟩
end Go.Proofs.Ytaalafnkglbcpaa.PL
