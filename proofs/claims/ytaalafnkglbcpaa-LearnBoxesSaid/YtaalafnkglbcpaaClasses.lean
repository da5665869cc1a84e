/- learn.classes, walked by hand: the classes that come back are those of states that no inputs tell apart. -/
import Derived.Test.YtaalafnkglbcpaaClassPlain
import Derived.Maps.Own
import Derived.Maps.OwnOps
import Derived.Maps.OwnSet
import Derived.Maps.Views
namespace Go.Proofs.Ytaalafnkglbcpaa.PL
open Go.RowKit Go.WideMaps Go.Maps Go.Proofs.YtaalafnkglbcpaaW.PrintWords Go.Proofs.YtaalafnkglbcpaaW.PrintLast Go.Proofs.YtaalafnkglbcpaaW.PrintMore
set_option linter.unusedVariables false

def litS (b : ByteArray) : Lit := .string b.data.toList
theorem lawS : Maps.Keyed Try.prog 9 := Maps.string_keyed Try.underlying9
theorem zero3 (w : World) : (zeroValue 3).run Try.prog w = .ok (.int .i64 0) w := by kernel_rfl
theorem owns_below {W W' : World} {k e : TypeId} {b m : Nat} {D : DataW Unit} (h : W.ownsMap Try.prog k (plainElem Try.prog e) b m D) (hb : b < W.heap.size) (hB : Below W.heap.size W W') : W'.ownsMap Try.prog k (plainElem Try.prog e) b m D :=
  h.kept (row := none) ⟨hB.os, hB.tape, hB.output, hB.size, fun k hk _ => hB.block k hk⟩ (by simp)
theorem owns_drewN {W : World} {k e : TypeId} {b m : Nat} {D : DataW Unit} (h : W.ownsMap Try.prog k (plainElem Try.prog e) b m D) (q : Nat) : (W.drewN q).ownsMap Try.prog k (plainElem Try.prog e) b m D := by
  obtain ⟨es, clock, h1, h2⟩ := h
  exact ⟨es, clock, by simpa using h1, h2⟩

/-- The map tells of each key that was seen how many were seen before. -/
structure MapIs (D : DataW Unit) (ks : List Lit) : Prop where
  tidy : Tidy D
  size : Maps.size D = ks.length
  has : ∀ k, Maps.has D k = true ↔ k ∈ ks
  at' : ∀ (i : Nat) (k : Lit), ks[i]? = some k → ∀ z, D.atKey k z = .lit (.int .i64 i)
theorem MapIs.start : MapIs (.map []) [] := ⟨tidy_empty, rfl, fun k => by simp [Maps.has], fun i k h => by simp at h⟩
theorem MapIs.put {D : DataW Unit} {ks : List Lit} (h : MapIs D ks) {k : Lit} (hk : WideAt.IsKeyLit k) (hn : k ∉ ks) : MapIs (D.put k (.lit (.int .i64 (ks.length : Nat)))) (ks ++ [k]) := by
  refine ⟨h.tidy.put hk _, ?_, fun k' => ?_, fun i k' hi z => ?_⟩
  · rw [Maps.size_put h.tidy, if_neg (fun e => hn ((h.has k).1 e)), h.size, List.length_append, List.length_singleton]
  · by_cases e : k' = k
    · subst e; simp [Maps.has_put_same h.tidy.isMap hk]
    · rw [Maps.has_put_other e, h.has]; simp [e]
  · rcases Nat.lt_or_ge i ks.length with q | q
    · rw [List.getElem?_append_left q] at hi
      have : k' ≠ k := fun e => hn (by subst e; exact List.mem_of_getElem? hi)
      rw [Maps.atKey_put_other this]; exact h.at' i k' hi z
    · rw [List.getElem?_append_right q] at hi
      have : i = ks.length := by
        rcases Nat.lt_or_ge (i - ks.length) 1 with q' | q'
        · omega
        · rw [List.getElem?_eq_none (by simpa using q')] at hi; cases hi
      subst this
      simp at hi; subst hi
      exact Maps.atKey_put_same h.tidy.isMap hk _ z

theorem wrap_u8 (x : Int) : IntKind.u8.wrap x = x % 256 := rfl
def keyPre (c : List Int) (v : Int) (row : List S77) (j : Nat) : List Int := (v % 256) :: ((row.take j).map (trip c)).flatten
theorem keyPre_succ (c : List Int) (v : Int) (row : List S77) (j : Nat) (h : j < row.length) : keyPre c v row (j + 1) = keyPre c v row j ++ trip c (row.getD j z77) := by
  unfold keyPre
  rw [List.take_succ_eq_append_getElem h, List.map_append, List.flatten_append]
  simp [List.getD_eq_getElem?_getD, List.getElem?_eq_getElem h]
theorem keyPre_len (c : List Int) (v : Int) (row : List S77) : ∀ j, j ≤ row.length → (keyPre c v row j).length = 3 * j + 1
  | 0, _ => by simp [keyPre]
  | j + 1, h => by rw [keyPre_succ c v row j (by omega), List.length_append, keyPre_len c v row j (by omega)]; simp [trip]; omega
theorem C_new3 (W : World) (a b c : Int) : (Kd.int .u8).C (W.alloc (Obj.cells #[Value.int .u8 a, Value.int .u8 b, Value.int .u8 c] 5)) (some ⟨W.heap.size, 0, none⟩) 3 [a, b, c] := by
  refine Kd.C_of_reads (enc := Value.int .u8) (d := (0 : Int)) ⟨rfl, by decide, fun _ => ⟨_, rfl, fun i hi => ?_⟩⟩
  have : i = 0 ∨ i = 1 ∨ i = 2 := by omega
  rcases this with rfl | rfl | rfl <;> go_simp
theorem add_blk (a : Addr) (n : Nat) : (a.add n).block = a.block := by unfold Addr.add; split <;> rfl
theorem wf_small (n : Nat) (h : n ≤ 1000) : (Lit.int .i64 (n : Nat)).wf = true := by
  have h1 : IntKind.min .i64 = -9223372036854775808 := by decide
  have h2 : IntKind.max .i64 = 9223372036854775807 := by decide
  simp only [Lit.wf, h1, h2, Bool.and_eq_true, decide_eq_true_eq]; omega
theorem cells_grown {W W' : World} {g : Nat} {p : Addr} {v : Value} (hg : W.grownBy W' (some g)) (hn : p.block ≠ g) (h : W.cell? p = some v) : W'.cell? p = some v := cell_grown hg h (by simpa using hn)
theorem info3s : (Try.prog.info? 3).map (·.size) = some 1 := by kernel_rfl
theorem info5u : (Try.prog.info? 5).map (fun i => (i.zero, i.size, i.bytes)) = some (some (.int .u8 0), 1, 1) := by kernel_rfl
def ClassPost (t : Tab) (w : World) (e : Ending) (w' : World) : Prop := ∃ (v : Value) (c : List Int), e = .returned v ∧ Kd.R (Kd.int .i64) 3 w' w.heap.size (fun _ => True) v c ∧ Below w.heap.size w w' ∧ c.length = t.length ∧ (∀ s, s < t.length → 0 ≤ cl c s ∧ cl c s < 64) ∧ ∀ x y, x < t.length → y < t.length → (cl c x = cl c y ↔ Bis t x y)

set_option maxRecDepth 100000 in
set_option maxHeartbeats 8000000 in
theorem classes_calls (A0 : Option Addr) (c0 : Nat) (t : Tab) (ins outs : Int) (w : World) (hr0 : Kd.C (Kd.slice 77 k77) w A0 t.length t) (hc0 : t.length ≤ c0) (ht : TabR t) :
    Calls Try.prog 42 #[.agg #[.int .i64 ins, .int .i64 outs, .slice A0 t.length c0]] w (ClassPost t w) := by
  have HR0 := Aside0.mk hr0
  have HC0 := Aside0.mk hc0
  have HT := Aside0.mk ht
  have n1 := ht.n1
  have n2 := ht.n2
  clear hr0 hc0 ht
  have HB := Aside0.mk (Below.refl w.heap.size w)
  go_enter Try.func42, Try.ntmps42
  go_wp2_with (first
    | ((with_reducible refine gate_dst (N := 1) rfl ?_); refine box_event ?hg (N := 1) ?hd (cs := #[.int .i64 ins, .int .i64 outs, .slice A0 t.length c0]) (t := 25) ?hr ?_; (case hd => rfl); (case hg => rfl); (case hr => first | (go_simp; done) | (go_simp; rfl)); intro gb hg w3 hbox hb; have n0_ := Aside0.mk (below_step HB.out hb); have BK := Aside0.mk hbox; have GE := Aside0.mk ((by rw [hg]; exact Nat.le_refl _) : w.heap.size ≤ gb); have GL := Aside0.mk (blk_lt hbox); clear HB; have HB := n0_; clear n0_; clear hb hbox hg; have hcz2 : w3.cell? ⟨gb, 2, none⟩ = some (.slice A0 t.length c0) := (blk_cell BK.out 2).trans rfl)
    | ((with_reducible refine gate_dst (N := 17) rfl ?_); refine Kd.R_make (Kd.int .i64) (w0 := w3) w3.heap.size 3 rfl (N := 17) rfl 22 _ _ rfl (t.length : Int) rfl rfl Try.underlying22 (.int .i64 0) 8 info3 rfl (by decide) (by omega) (0 : Int) (ok := fun _ => True) (okp := fun _ => True) rfl (fun _ hk => hk) trivial (by omega) (by rw [Int.toNat_natCast]; omega) (Below.refl _ _) (Nat.le_refl _) ?_; intro v17 w2 ho2 hb2 hg2 hn2; rw [Int.toNat_natCast] at ho2; have HO2 := Aside0.mk ho2; have HB2 := Aside0.mk hb2; clear ho2 hb2 hg2 hn2 hcz2))
  have HBb : Aside0 (Below w.heap.size w w2) := ⟨HB.out.trans (HB2.out.mono HB.out.size)⟩
  have BK2 : Aside0 (w2.heap[gb]? = some (.cells #[.int .i64 ins, .int .i64 outs, .slice A0 t.length c0] 25 (0, 0))) := ⟨(HB2.out.block gb GL.out).trans BK.out⟩
  have HO2' : Aside0 (Kd.R (Kd.int .i64) 3 w2 w.heap.size (fun _ => True) v17 (List.replicate t.length 0)) := ⟨Kd.R_lower HO2.out HB.out.size⟩
  clear HO2 HB HB2 BK
  go_loopw [3, 4] (fun v3 v4 wr => ∃ (N : Nat) (c : List Int), v4 = .int .i64 N ∧ Aside0 (Kd.R (Kd.int .i64) 3 wr w.heap.size (fun _ => True) v3 c) ∧ Aside0 (ClsI t c N) ∧ Aside0 (Below w.heap.size w wr) ∧ Aside0 (wr.heap[gb]? = some (.cells #[.int .i64 ins, .int .i64 outs, .slice A0 t.length c0] 25 (0, 0)))) (fun _ v4 _ => t.length - (intOf v4).toNat)
  case atStart => exact ⟨1, _, rfl, HO2', ⟨ClsI.start HT.out⟩, HBb, BK2⟩
  case round =>
    obtain ⟨N, c, rfl, HR, HI, HB, BK⟩ := hrel
    obtain ⟨w1, rfl⟩ : ∃ w1 : World, w1 = wr := ⟨_, rfl⟩
    clear HBb BK2 HO2'
    obtain ⟨A3, q3, hv3, hl3, hq3⟩ := Kd.R_reads HR.out
    have hlc := HI.out.len
    rw [hlc] at hv3
    subst hv3
    have hmm := @run_makeMap Try.prog
    have H3 := Aside0.mk hq3
    have L3 := Aside0.mk hl3
    clear hl3 hq3
    have hcz2 : w1.cell? ⟨gb, 2, none⟩ = some (.slice A0 t.length c0) := (blk_cell BK.out 2).trans rfl
    have GL1 : Aside0 (gb < w1.heap.size) := ⟨blk_lt BK.out⟩
    have OM0 : Aside0 ((w1.alloc (Obj.map #[] 0)).ownsMap Try.prog 9 (plainElem (H := Unit) Try.prog 3) w1.heap.size 0 (.map [])) := ⟨World.ownsMap_made w1 _ _ _⟩
    go_wp2_with (first
      | ((with_reducible refine gate_dst (N := 21) rfl ?_); refine Kd.R_make (Kd.int .i64) (w0 := w1.alloc (Obj.map #[] 0)) (w1.alloc (Obj.map #[] 0)).heap.size 3 rfl (N := 21) rfl 22 _ _ rfl (t.length : Int) rfl rfl Try.underlying22 (.int .i64 0) 8 info3 rfl (by decide) (by omega) (0 : Int) (ok := fun _ => True) (okp := fun _ => True) rfl (fun _ hk => hk) trivial (by omega) (by rw [Int.toNat_natCast]; omega) (Below.refl _ _) (Nat.le_refl _) ?_; intro v21 w4 ho4 hb4 hg4 hn4; rw [Int.toNat_natCast] at ho4; obtain ⟨nb, q21, hv21, hnb1, hnb2⟩ := Kd.R_form ho4 (by rw [List.length_replicate]; omega); rw [List.length_replicate] at hv21; subst hv21; have HO4 := Aside0.mk ho4; have HB4 := Aside0.mk hb4; have q4 : w4.cell? ⟨gb, 2, none⟩ = some (.slice A0 t.length c0) := (hb4.cell (p := ⟨gb, 2, none⟩) (by simp; have := GL1.out; omega)).trans ((World.cell?_alloc_lt _ _ _ GL1.out).trans hcz2); clear ho4 hb4 hg4 hn4 hcz2)
      | fail)
    have hnb : w1.heap.size + 1 ≤ nb := by have h := hnb1; rw [show (w1.alloc (Obj.map #[] 0)).heap.size = w1.heap.size + 1 by simp] at h; exact h
    have HB4' : Aside0 (Below w1.heap.size w1 w4) := ⟨(below_alloc (Below.refl _ _) _).trans (HB4.out.mono (by simp))⟩
    have OM4 : Aside0 (w4.ownsMap Try.prog 9 (plainElem (H := Unit) Try.prog 3) w1.heap.size 0 (.map [])) := ⟨owns_below OM0.out (by simp) HB4.out⟩
    have HO4' : Aside0 (Kd.R (Kd.int .i64) 3 w4 w1.heap.size (fun _ => True) (.slice (some ⟨nb, 0, none⟩) t.length q21) (List.replicate t.length 0)) := ⟨Kd.R_lower HO4.out (by simp)⟩
    have HZ4 : Aside0 (w1.heap.size + 1 ≤ w4.heap.size) := ⟨by have := HB4.out.size; simpa using this⟩
    clear HO4 OM0 HB4 hnb1 hnb2
    go_loopw [25] (fun v25 wr => ∃ (s m : Nat) (ks : List Lit) (nx : List Int) (D : DataW Unit), s ≤ t.length ∧ m ≤ s ∧ v25 = .int .i64 s ∧ Aside0 (Below w1.heap.size w1 wr) ∧ Aside0 (wr.ownsMap Try.prog 9 (plainElem (H := Unit) Try.prog 3) w1.heap.size m D) ∧ Aside0 (Kd.R (Kd.int .i64) 3 wr w1.heap.size (fun _ => True) (.slice (some ⟨nb, 0, none⟩) t.length q21) nx) ∧ Aside0 (MapIs D ks) ∧ Aside0 (PassI (fun s => litS (strOfNums (keyB t c s))) t.length s ks nx)) (fun v25 _ => t.length - (intOf v25).toNat)
    case atStart => exact ⟨0, 0, [], _, _, by omega, by omega, rfl, HB4', OM4, HO4', ⟨MapIs.start⟩, ⟨PassI.start _ _⟩⟩
    case round =>
      obtain ⟨s, m, ks, nx, D, hs, hms, rfl, HBs, OM, HO, MI, PI⟩ := hrel
      obtain ⟨w5, rfl⟩ : ∃ w5 : World, w5 = wr := ⟨_, rfl⟩
      clear HB4' OM4 HO4' HZ4
      by_cases hlt : s < t.length
      · obtain ⟨ad, A1, c1, e1, hx1, hl1, hi1⟩ := at_L2 (Kd.C_below (Kd.C_below HR0.out HB.out) HBs.out) (s : Int) (by omega) (by omega)
        subst e1
        have hrow : rd_L2 t (s : Int) = roww t s := rfl
        rw [Int.toNat_natCast, hrow] at hx1
        rw [hrow] at hl1 hi1
        have hlr := HT.out.len_le hlt
        have HCEL : Aside0 (∀ a, a < (roww t s).length → 0 ≤ (cel t s a).f0 ∧ (cel t s a).f0 < 1024 ∧ 0 ≤ (cel t s a).f1 ∧ (cel t s a).f1 < t.length) := ⟨fun a ha => HT.out.cel hlt ha⟩
        have HKB : Aside0 (keyB t c s = keyPre c (cl c s) (roww t s) (roww t s).length) := ⟨by unfold keyB keyPre; rw [List.take_length]⟩
        have HRD : Aside0 (∀ a : Nat, rd_T77 (roww t s) (a : Int) = cel t s a) := ⟨fun a => rfl⟩
        have HI1 := Aside0.mk hi1
        clear hrow hi1
        generalize hrw : roww t s = row at *
        have HRW := Aside0.mk hrw
        clear hrw
        obtain ⟨a3, e3, hy1⟩ := Kd.at_int (Kd.C_below H3.out HBs.out) (s : Int) (by omega) (by omega)
        subst e3
        have hy1' : w5.cell? (a3.add s) = some (.int .i64 (cl c s)) := by rw [Int.toNat_natCast] at hy1; exact hy1
        clear hy1
        go_wp2_with (first
          | ((with_reducible refine gate_dst (N := 35) rfl ?_); (refine Kd.R_lit (Kd.int .u8) (w0 := w5) w5.heap.size 5 ?hg (N := 35) ?hd (xs := ([IntKind.u8.wrap (cl c s)] : List Int)) (inner := [.int .u8 (IntKind.u8.wrap (cl c s))]) (ok := fun _ => True) (okp := fun _ => True) ?hr ?hp (fun _ hk => hk) trivial (Below.refl _ _) (Nat.le_refl _) (by simp) ?_; (case hd => rfl); (case hg => rfl); (case hr => first | (go_simp; done) | (go_simp; rfl)); (case hp => exact (Reps.one (show Kd.M (Kd.int .u8) _ _ _ (IntKind.u8.wrap (cl c s)) [.int .u8 (IntKind.u8.wrap (cl c s))] from rfl) (Reps.none _ _))); intro v35 w6 ho hb hg_ hnew_; have HK := Aside0.mk ho; have HBk := Aside0.mk hb; clear ho hb hg_ hnew_))
          | fail)
        have HK0 : Aside0 (Kd.R (Kd.int .u8) 5 w6 w5.heap.size (fun _ => True) v35 (keyPre c (cl c s) row 0)) := ⟨by have h := HK.out; rw [wrap_u8] at h; exact h⟩
        clear HK
        go_loopw [9, 38] (fun v9 v38 wr => ∃ j : Nat, j ≤ row.length ∧ v38 = .int .i64 j ∧ Aside0 (Kd.R (Kd.int .u8) 5 wr w5.heap.size (fun _ => True) v9 (keyPre c (cl c s) row j)) ∧ Aside0 (Below w5.heap.size w5 wr)) (fun _ v38 _ => row.length - (intOf v38).toNat)
        case atStart => exact ⟨0, by omega, rfl, HK0, HBk⟩
        case round =>
          obtain ⟨j, hj, rfl, HK, HBk⟩ := hrel
          obtain ⟨w7, rfl⟩ : ∃ w7 : World, w7 = wr := ⟨_, rfl⟩
          clear HK0
          by_cases hjl : j < row.length
          · have hcel := HCEL.out j hjl
            obtain ⟨ad2, e2, g0, g1⟩ := at_T77 (Kd.C_below HI1.out HBk.out) (j : Int) (by omega) (by omega)
            subst e2
            rw [Int.toNat_natCast] at g0 g1
            rw [HRD.out j] at g0 g1
            have TR : Aside0 (keyPre c (cl c s) row (j + 1) = keyPre c (cl c s) row j ++ trip c (cel t s j)) := ⟨by rw [keyPre_succ c (cl c s) row j hjl, ← HRD.out j]; rfl⟩
            generalize cel t s j = r at *
            obtain ⟨f0, f1⟩ := r
            dsimp only at hcel g0 g1
            have hcl := HI.out.small HT.out f1.toNat (by omega)
            obtain ⟨a4, e4, hz1⟩ := Kd.at_int (Kd.C_below (Kd.C_below H3.out HBs.out) HBk.out) f1 (by omega) (by omega)
            have hz : w7.cell? (a4.add f1.toNat) = some (.int .i64 (cl c f1.toNat)) := hz1
            have e4' : a3 = a4 := by injection e4
            subst e4'
            clear e4 hz1
            have h1 : f1 < (t.length : Int) := hcel.2.2.2
            go_wp2_with fail
            have c0' : (w7.alloc (Obj.cells #[Value.int .i64 f0, Value.int .i64 f1] 77)).cell? ⟨w7.heap.size, 0, none⟩ = some (.int .i64 f0) := by go_simp
            have c1' : (w7.alloc (Obj.cells #[Value.int .i64 f0, Value.int .i64 f1] 77)).cell? ⟨w7.heap.size, 1, none⟩ = some (.int .i64 f1) := by go_simp
            have LT4 : Aside0 (a3.block < w1.heap.size) := ⟨by have h := Kd.C_lt H3.out (by omega) (by decide); exact h⟩
            have c2' : (w7.alloc (Obj.cells #[Value.int .i64 f0, Value.int .i64 f1] 77)).cell? (a3.add f1.toNat) = some (.int .i64 (cl c f1.toNat)) := (World.cell?_alloc_lt _ _ _ (World.block_lt_of_cell? _ _ hz)).trans hz
            have HK8 : Aside0 (Kd.R (Kd.int .u8) 5 (w7.alloc (Obj.cells #[Value.int .i64 f0, Value.int .i64 f1] 77)) w5.heap.size (fun _ => True) u9 (keyPre c (cl c s) row j)) := ⟨Kd.R_alloc HK.out _⟩
            have HB8 : Aside0 (Below w5.heap.size w5 (w7.alloc (Obj.cells #[Value.int .i64 f0, Value.int .i64 f1] 77))) := ⟨below_alloc HBk.out _⟩
            have NE1 : Aside0 (∀ k, k < w5.heap.size → some k ≠ u9.ownBlock) := ⟨fun k hk e => by have := Kd.R_base HK.out k e.symm; omega⟩
            have NE2 : Aside0 (some w7.heap.size ≠ u9.ownBlock) := ⟨fun e => by have := Kd.R_lt HK.out _ e.symm; omega⟩
            have Z15 : Aside0 (w1.heap.size ≤ w5.heap.size) := ⟨HBs.out.size⟩
            have hkl := keyPre_len c (cl c s) row j hj
            have KL : Aside0 ((keyPre c (cl c s) row j).length ≤ 100) := ⟨by omega⟩
            generalize w7.alloc (Obj.cells #[Value.int .i64 f0, Value.int .i64 f1] 77) = w8 at *
            clear g0 g1 hz HK HBk hkl
            go_region_held3 (fun w' => w'.cell? ⟨w7.heap.size, 0, none⟩ = some (.int .i64 f0) ∧ w'.cell? ⟨w7.heap.size, 1, none⟩ = some (.int .i64 f1) ∧ w'.cell? (a3.add f1.toNat) = some (.int .i64 (cl c f1.toNat)))
              (first
                | go_keep
                | (refine ⟨?_, ?_, ?_⟩
                   · exact cell_grown n2_.out (v := .int .i64 f0) ((World.cell?_alloc_lt w8.drew _ ⟨w7.heap.size, 0, none⟩ (World.block_lt_of_cell? w8 _ c0')).trans c0') NE2.out
                   · exact cell_grown n2_.out (v := .int .i64 f1) ((World.cell?_alloc_lt w8.drew _ ⟨w7.heap.size, 1, none⟩ (World.block_lt_of_cell? w8 _ c1')).trans c1') NE2.out
                   · exact cell_grown n2_.out (v := .int .i64 (cl c f1.toNat)) ((World.cell?_alloc_lt w8.drew _ (a3.add f1.toNat) (World.block_lt_of_cell? w8 _ c2')).trans c2') (by rw [add_blk]; exact NE1.out _ (by have := LT4.out; have := Z15.out; omega))))
              ((rw [show (w8.alloc (Obj.cells #[Value.int .u8 (IntKind.u8.wrap f0), Value.int .u8 (IntKind.u8.wrap (f0 / 256)), Value.int .u8 (IntKind.u8.wrap (cl c f1.toNat))] 5)).drew = w8.drew.alloc (Obj.cells #[Value.int .u8 (IntKind.u8.wrap f0), Value.int .u8 (IntKind.u8.wrap (f0 / 256)), Value.int .u8 (IntKind.u8.wrap (cl c f1.toNat))] 5) from rfl]; refine Kd.R_append_rows_step (Kd.int .u8) (w0 := w5) w5.heap.size rfl (.tmp 42) (.tmp 56) 118 5 (.int .u8 0) 1 rfl Try.underlying118 info5u rfl (by decide) (by omega) u9 (keyPre c (cl c s) row j) [IntKind.u8.wrap f0, IntKind.u8.wrap (f0 / 256), IntKind.u8.wrap (cl c f1.toNat)] _ _ _ (fun _ => True) (fun _ => False) rfl rfl (Kd.R_alloc (Kd.R_drew HK8.out) _) (C_new3 w8.drew _ _ _) (fun _ _ h => h) (fun _ h => h.elim) (fun _ _ => trivial) (below_alloc (below_drew HB8.out) _) (by have := (below_drew HB8.out).size; simp at this ⊢; omega) (by have := KL.out; omega) ?_; intro v105 w11 ho hb hg hat; have n0_ := Aside0.mk hb; have n1_ := Aside0.mk ho; have n2_ := Aside0.mk hg; clear ho hb hg hat))
            go_wp2
            go_roundw
            case rel => exact ⟨j + 1, by omega, by go_num, ⟨by rw [TR.out]; exact n1_.out⟩, n0_⟩
            case measure => simp [intOf]; omega
          · have hje : j = row.length := by omega
            subst hje
            rw [← HKB.out] at HK
            have HKBL : Aside0 ((keyB t c s).length = 3 * row.length + 1) := ⟨by rw [HKB.out, keyPre_len c (cl c s) row _ (Nat.le_refl _)]⟩
            clear HCEL HRD HKB hj hjl
            have hkl : (keyB t c s).length ≤ 100 := by rw [HKBL.out]; omega
            generalize hkey : keyB t c s = kb at *
            obtain ⟨A9, q9, hv9, hl9, hq9⟩ := Kd.R_reads HK.out
            subst hv9
            have hcv := fun (W : World) (h : (Kd.int .u8).C W A9 kb.length kb) => Kd.C_string (P := Try.prog) (c := q9) Try.underlying118 Try.underlying5 Try.underlying9 h
            have hcv7 := hcv w7 hq9
            have hks : (strOfNums kb).size ≤ maxLen := by rw [strOfNums_size]; unfold maxLen; omega
            have HKey := Aside0.mk (keyOf_string_mk (P := Try.prog) Try.underlying9 hks)
            have HKl := Aside0.mk (lawS.key (keyOf_string_mk (P := Try.prog) Try.underlying9 hks))
            have OM7 : Aside0 (w7.ownsMap Try.prog 9 (plainElem (H := Unit) Try.prog 3) w1.heap.size m D) := ⟨owns_below OM.out (OM.out.lt) HBk.out⟩
            have HO7 : Aside0 (Kd.R (Kd.int .i64) 3 w7 w1.heap.size (fun _ => True) (.slice (some ⟨nb, 0, none⟩) t.length q21) nx) := ⟨Kd.R_below HO.out HBk.out⟩
            have HB7 : Aside0 (Below w1.heap.size w1 w7) := ⟨HBs.out.trans (HBk.out.mono HBs.out.size)⟩
            have hnl := PI.out.len
            have hcz := Kd.at_int (Kd.R_reads' HO7.out).2.2 (s : Int) (by omega) (by omega)
            have hcc : ∀ (j : Nat) (u : Value), [Value.int .i64 (cl nx s)][j]? = some u → w7.cell? ⟨nb, (s : Int).toNat * (Kd.int .i64).sz + j, none⟩ = some u := fun j u hj => by
              obtain ⟨adn, en, hcn⟩ := hcz
              cases j with
              | zero =>
                simp at hj; subst hj
                injection en with en
                subst en
                have e : (⟨nb, 0, none⟩ : Addr).add (s : Int).toNat = ⟨nb, (s : Int).toNat * (Kd.int .i64).sz + 0, none⟩ := by show (⟨nb, 0, none⟩ : Addr).add (s : Int).toNat = ⟨nb, (s : Int).toNat * 1 + 0, none⟩; rw [Int.toNat_natCast]; unfold Addr.add; split <;> simp_all
                rw [← e]; exact hcn
              | succ j => simp at hj
            have HCC := Aside0.mk hcc
            clear HK HBk OM HO HBs hcv hq9 hl9 hks hcz hcc
            by_cases hin : litS (strOfNums kb) ∈ ks
            · obtain ⟨i, hi, hik⟩ := List.getElem_of_mem hin
              have hik' : ks[i]? = some (litS (strOfNums kb)) := by rw [List.getElem?_eq_getElem hi, hik]
              have HHas : Aside0 (Maps.has D (litS (strOfNums kb)) = true) := ⟨(MI.out.has _).2 hin⟩
              have HVal : Aside0 (∀ z, D.atKey (litS (strOfNums kb)) z = .lit (.int .i64 i)) := ⟨MI.out.at' i _ hik'⟩
              go_wp2_with (first
                | (at_lookup; refine wpList_lookup_own_ok_int _ rfl (.tmp 60) (.tmp 62) 117 rfl 9 3 .i64 lawS Try.underlying117 Try.underlying3 (zero3 _) w1.heap.size m D rfl OM7.out (.string (strOfNums kb)) _ rfl HKey.out ?_; intro cc hat hwf; rw [show Lit.string (strOfNums kb).data.toList = litS (strOfNums kb) from rfl, HHas.out]; have hcv : cc = i := (by have h := hat.symm.trans (HVal.out _); simpa using h); clear hat hwf; subst hcv)
                | ((with_reducible refine gate_store (p := 77) (v := .tmp 76) rfl ?_); refine Kd.R_store (Kd.int .i64) (w0 := w1) w1.heap.size rfl rfl 3 (.tmp 77) (.tmp 76) rfl 3 (g := nb) (n := t.length) (cap := q21) (o' := s) (s : Int) 0 nx ((i : Int) : Int) (.int .i64 (i : Int)) [.int .i64 (i : Int)] [.int .i64 (cl nx s)] (fun _ => True) (fun _ => False) rfl (by rw [Int.toNat_natCast]; show s = s * 1 + 0; omega) rfl rfl info3s (by intro q hq; simp at hq; subst hq; rfl) HO7.out (by omega) (by omega) rfl HCC.out (by show 0 + 1 ≤ 1; omega) rfl (fun _ hk => hk.elim) HB7.out ?_; intro w9 hs9 hb9 hg9; have HS9 := Aside0.mk hs9; have HB9 := Aside0.mk hb9; have HG9 := Aside0.mk hg9; clear hs9 hb9 hg9))
              go_roundw
              case rel => exact ⟨s + 1, m, ks, nx.set s (i : Nat), D, by omega, by omega, by go_num, HB9, ⟨OM7.out.kept HG9.out (by simp; omega)⟩, ⟨HS9.out⟩, MI, ⟨PI.out.known hlt (by rw [hkey]; exact hik')⟩⟩
              case measure => simp [intOf]; omega
            · have HHas : Aside0 (Maps.has D (litS (strOfNums kb)) = false) := ⟨by
                cases h : Maps.has D (litS (strOfNums kb))
                · rfl
                · exact absurd ((MI.out.has _).1 h) hin⟩
              have HWF : Aside0 ((Lit.int .i64 (ks.length : Nat)).wf = true) := ⟨wf_small _ (by have := PI.out.small; omega)⟩
              go_wp2_with (first
                | (at_lookup; refine wpList_lookup_own_ok_int _ rfl (.tmp 60) (.tmp 62) 117 rfl 9 3 .i64 lawS Try.underlying117 Try.underlying3 (zero3 _) w1.heap.size m D rfl OM7.out (.string (strOfNums kb)) _ rfl HKey.out ?_; intro cc hat hwf; rw [show Lit.string (strOfNums kb).data.toList = litS (strOfNums kb) from rfl, HHas.out]; clear hat hwf)
                | (at_len; refine wpList_len_own _ rfl (.tmp 68) 117 rfl 9 3 Try.underlying117 _ w1.heap.size m D rfl OM7.out ?_; rw [MI.out.size])
                | (at_mapUpdate; refine wpList_mapUpdate_own _ rfl (.tmp 70) (.tmp 72) (.tmp 73) 117 rfl 9 3 lawS Try.underlying117 _ w1.heap.size m D rfl OM7.out (by unfold maxLen; omega) (.string (strOfNums kb)) (.int .i64 (ks.length : Nat)) _ rfl rfl HKey.out _ [] (plainElem_int Try.underlying3 HWF.out) ?_; intro w8 hown8 hgrow8; have OM8 := Aside0.mk hown8; have HO8 : Aside0 (Kd.R (Kd.int .i64) 3 w8 w1.heap.size (fun _ => True) (.slice (some ⟨nb, 0, none⟩) t.length q21) nx) := ⟨Kd.R_grown1 HO7.out rfl hgrow8 (by simp [Value.ownBlock]; omega)⟩; have HB8 : Aside0 (Below w1.heap.size w1 w8) := ⟨HB7.out.grown hgrow8 HB7.out.size (fun k hk => by cases hk; exact Nat.le_refl _)⟩; have HCC8 := Aside0.mk (fun j u hj => cells_grown hgrow8 (by simp; omega) (HCC.out j u hj)); clear hown8 hgrow8)
                | ((with_reducible refine gate_store (p := 77) (v := .tmp 76) rfl ?_); refine Kd.R_store (Kd.int .i64) (w0 := w1) w1.heap.size rfl rfl 3 (.tmp 77) (.tmp 76) rfl 3 (g := nb) (n := t.length) (cap := q21) (o' := s) (s : Int) 0 nx ((ks.length : Int) : Int) (.int .i64 (ks.length : Int)) [.int .i64 (ks.length : Int)] [.int .i64 (cl nx s)] (fun _ => True) (fun _ => False) rfl (by rw [Int.toNat_natCast]; show s = s * 1 + 0; omega) rfl rfl info3s (by intro q hq; simp at hq; subst hq; rfl) HO8.out (by omega) (by omega) rfl HCC8.out (by show 0 + 1 ≤ 1; omega) rfl (fun _ hk => hk.elim) HB8.out ?_; intro w9 hs9 hb9 hg9; have HS9 := Aside0.mk hs9; have HB9 := Aside0.mk hb9; have HG9 := Aside0.mk hg9; clear hs9 hb9 hg9))
              go_roundw
              case rel => exact ⟨s + 1, m + 1, ks ++ [litS (strOfNums kb)], nx.set s (ks.length : Nat), _, by omega, by omega, by go_num, HB9, ⟨OM8.out.kept HG9.out (by simp; omega)⟩, ⟨HS9.out⟩, ⟨MI.out.put HKl.out hin⟩, ⟨by have h := PI.out.fresh hlt (by rw [hkey]; exact hin); rw [hkey] at h; exact h⟩⟩
              case measure => simp [intOf]; omega
      · have hse : s = t.length := by omega
        subst hse
        have HO5 : Aside0 (Kd.R (Kd.int .i64) 3 w5 w.heap.size (fun _ => True) (.slice (some ⟨nb, 0, none⟩) t.length q21) nx) := ⟨Kd.R_lower HO.out HB.out.size⟩
        have HB5 : Aside0 (Below w.heap.size w w5) := ⟨HB.out.trans (HBs.out.mono HB.out.size)⟩
        have BK5 : Aside0 (w5.heap[gb]? = some (.cells #[.int .i64 ins, .int .i64 outs, .slice A0 t.length c0] 25 (0, 0))) := ⟨(HBs.out.block gb GL1.out).trans BK.out⟩
        have hp := HI.out.pass HT.out (lit := litS) (fun a b h => by
          have h' : a.data.toList = b.data.toList := by injection h
          have h2 : a.data = b.data := by exact Array.toList_inj.1 h'
          cases a; cases b; simp_all) PI.out
        have HP := Aside0.mk hp
        have hle := hp.2.1
        have hle2 := hp.1.le
        clear hp
        by_cases hN : ks.length = N
        · have hb : ((ks.length : Int) == (N : Int)) = true := by simp [hN]
          go_wp2_with (at_len; first | (refine wpList_len_own _ rfl (.tmp 80) 117 rfl 9 3 Try.underlying117 _ w1.heap.size m D rfl OM.out ?_; rw [MI.out.size]) | (refine wpList_len_own _ rfl (.tmp 85) 117 rfl 9 3 Try.underlying117 _ w1.heap.size m D rfl OM.out ?_; rw [MI.out.size]))
          go_ret
          exact ⟨_, nx, rfl, HO5.out, HB5.out, PI.out.len, fun s hs => HP.out.1.small HT.out s hs, HP.out.2.2 hN⟩
        · have hb : ((ks.length : Int) == (N : Int)) = false := by simp; omega
          go_wp2_with (at_len; first | (refine wpList_len_own _ rfl (.tmp 80) 117 rfl 9 3 Try.underlying117 _ w1.heap.size m D rfl OM.out ?_; rw [MI.out.size]) | (refine wpList_len_own _ rfl (.tmp 85) 117 rfl 9 3 Try.underlying117 _ w1.heap.size m D rfl OM.out ?_; rw [MI.out.size]))
          go_roundw
          case rel => exact ⟨ks.length, nx, rfl, HO5, ⟨HP.out.1⟩, HB5, BK5⟩
          case measure => simp [intOf]; omega
end Go.Proofs.Ytaalafnkglbcpaa.PL
