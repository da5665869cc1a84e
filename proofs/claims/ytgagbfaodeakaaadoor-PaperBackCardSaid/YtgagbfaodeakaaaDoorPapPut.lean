/- paper.put, walked by hand: a character is put into lines of its own; a space leaves what is there. -/
import Derived.Test.YtgagbfaodeakaaaDoorPPaperBackx0
namespace Go.Proofs.YtgagbfaodeakaaaDoor.PPaperBack
open Go.RowKit Go.Proofs.YtgagbfaodeakaaaDoorW.PrintWords Go.Proofs.YtgagbfaodeakaaaDoorW.PrintLast Go.Proofs.YtgagbfaodeakaaaDoorW.PrintMore
set_option linter.unusedVariables false

/-- The lines' kind. -/
abbrev kL : Kd (List Int) := Kd.slice 5 (Kd.int .u8)
def ext {α : Type} (l : List α) (n : Nat) (z : α) : List α := l ++ List.replicate (n - l.length) z
theorem ext_len {α : Type} (l : List α) (n : Nat) (z : α) : (ext l n z).length = max l.length n := by unfold ext; simp; omega
theorem ext_full {α : Type} (l : List α) (n : Nat) (z : α) (h : n ≤ l.length) : ext l n z = l := by unfold ext; rw [show n - l.length = 0 by omega]; simp
theorem ext_snoc {α : Type} (l : List α) (n : Nat) (z : α) (h : l.length < n) : ext (l ++ [z]) n z = ext l n z := by
  unfold ext
  rw [List.append_assoc, List.length_append, List.length_singleton, show n - l.length = (n - (l.length + 1)) + 1 by omega, List.replicate_succ]
  rfl
def putRow (r : List Int) (col : Nat) (c : Int) : List Int := if c = 32 then ext r (col + 1) 32 else (ext r (col + 1) 32).set col c
def putF (rows : List (List Int)) (line col : Nat) (c : Int) : List (List Int) := (ext rows (line + 1) []).set line (putRow ((ext rows (line + 1) []).getD line []) col c)

/-- The length of a slice's value; of the one that a place holds. -/
def lenV : Value → Nat
  | .slice _ n _ => n
  | _ => 0
def lenAt (W : World) (g i : Nat) : Nat := match W.cell? ⟨g, i, none⟩ with
  | some v => lenV v
  | none => 0

theorem lenAt_S {W : World} {base g n cap : Nat} {ok : Nat → Prop} {rows : List (List Int)} (h : Kd.S kL 26 W base ok (.slice (some ⟨g, 0, none⟩) n cap) rows) (L : Nat) (hL : L < n) : lenAt W g L = (rows.getD L []).length := by
  obtain ⟨oki, cs, hcl, hM, hcell, hoki, hH⟩ := Kd.S_lend h [] (L : Int) (by omega) (by omega)
  rw [Int.toNat_natCast] at hM hcell
  obtain ⟨vr, rfl, hR⟩ := hM
  obtain ⟨Ar, cr, rfl, hcr, -⟩ := Kd.R_reads hR
  have hc1 := hcell 0 _ rfl
  rw [show L * kL.sz + 0 = L from by show L * 1 + 0 = L; omega] at hc1
  unfold lenAt
  rw [hc1]
  rfl
theorem getD_set {α : Type} (l : List α) (L : Nat) (x z : α) (h : L < l.length) : (l.set L x).getD L z = x := by
  rw [List.getD_eq_getElem?_getD, List.getElem?_set_self h]; rfl
theorem info26 : (Tryd.prog.info? 26).map (fun i => (i.zero, i.size, i.bytes)) = some (some (.slice none 0 0), 1, 24) := by kernel_rfl
theorem info5s : (Tryd.prog.info? 5).map (·.size) = some 1 := by kernel_rfl
theorem info26s : (Tryd.prog.info? 26).map (·.size) = some 1 := by kernel_rfl
set_option maxHeartbeats 1000000 in
set_option maxRecDepth 100000 in
theorem put_walk (base : Nat) (rows : List (List Int)) (v0 : Value) (L C : Nat) (c : Int) (w : World) (hS : Kd.S kL 26 w base (fun _ => True) v0 rows) (hbase : base ≤ w.heap.size)
    (hL : L ≤ 1000) (hC : C ≤ 1000) (c0 : 0 ≤ c) (c1 : c ≤ 255) (hr : rows.length ≤ 1001) (hrow : ∀ r ∈ rows, r.length ≤ 1001) :
    Calls Tryd.prog 14 #[v0, .int .i64 (L : Int), .int .i64 (C : Int), .int .u8 c] w fun e w' => ∃ v1 : Value, e = .returned v1 ∧ Kd.S kL 26 w' base (fun _ => True) v1 (putF rows L C c) ∧ Below base w w' := by
  have HS := Aside0.mk hS
  have HBASE := Aside0.mk hbase
  have HR := Aside0.mk hr
  have HROW := Aside0.mk hrow
  clear hS hbase hr hrow
  obtain ⟨A0, cc0, hv0⟩ := Kd.S_slice HS.out
  subst hv0
  go_enter Tryd.func14, Tryd.ntmps14
  go_wp2
  go_loopw [0] (fun v wr => ∃ rows' : List (List Int), rows'.length ≤ 1001 ∧ Aside0 (ext rows' (L + 1) [] = ext rows (L + 1) []) ∧ Aside0 (∀ r ∈ rows', r.length ≤ 1001) ∧ Aside0 (Kd.S kL 26 wr base (fun _ => True) v rows') ∧ Aside0 (Below base w wr)) (fun v wr => L + 1 - lenV v)
  case atStart => exact ⟨rows, HR.out, ⟨rfl⟩, HROW, HS, ⟨Below.refl _ _⟩⟩
  case round =>
    obtain ⟨rows', hl1, HE, HW, HS1, HB⟩ := hrel
    obtain ⟨A1, cc1, hv1⟩ := Kd.S_slice HS1.out
    subst hv1
    by_cases hlt : rows'.length ≤ L
    · have hlt2 : decide (rows'.length ≤ L) = true := decide_eq_true hlt
      have hlt3 : decide ((rows'.length : Int) ≤ (L : Int)) = true := decide_eq_true (by omega)
      go_wp2_with ((with_reducible refine gate_builtin (b := .append) (xs := #[.tmp 13, .tmp 14]) rfl ?_); at_builtin; refine Kd.S_append kL (w0 := wr) base rfl (.tmp 13) (.tmp 14) 42 26 (.slice none 0 0) 24 rfl Tryd.underlying42 info26 rfl (by decide) (by omega) (.slice A1 rows'.length cc1) rows' [] [.slice none 0 0] (fun _ => True) (fun _ => False) rfl ?aX ⟨_, rfl, Kd.R_nil _ _ _ _ _⟩ (fun _ hk => hk.elim) (fun _ _ => trivial) (Kd.S_mono HS1.out (fun _ _ => ⟨trivial, fun h => h⟩)) (Below.refl _ _) ?aS ?aL ?_; (case aX => first | rfl | (simp; done)); (case aS => have h1_ := HB.out.size; have h2_ := HBASE.out; omega); (case aL => omega); intro v7 w7 ho hb hg hat; have HO7 := Aside0.mk ho; have HB7 := Aside0.mk hb; clear ho hb hg hat)
      obtain ⟨A2, cc2, hv2⟩ := Kd.S_slice HO7.out
      subst hv2
      go_roundw
      case rel => exact ⟨rows' ++ [[]], by simp; omega, ⟨by rw [ext_snoc _ _ _ (by omega)]; exact HE.out⟩, ⟨fun r hr => by rcases List.mem_append.1 hr with h | h; exact HW.out r h; simp at h; subst h; simp⟩, HO7, ⟨HB.out.trans HB7.out⟩⟩
      case measure => simp [lenV]; omega
    · have hlt2 : decide (rows'.length ≤ L) = false := decide_eq_false hlt
      have hlt3 : decide ((rows'.length : Int) ≤ (L : Int)) = false := decide_eq_false (by omega)
      obtain ⟨g, cc2, hv1, -⟩ := Kd.S_form HS1.out (by omega)
      have hA : A1 = some ⟨g, 0, none⟩ := by injection hv1
      have hcc : cc1 = cc2 := by injection hv1
      subst hA
      subst hcc
      have HEQ : Aside0 (rows' = ext rows (L + 1) []) := ⟨by rw [← HE.out, ext_full _ _ _ (by omega)]⟩
      clear hv1 HE
      obtain ⟨w1, hw1⟩ : ∃ w1 : World, wr = w1 := ⟨_, rfl⟩
      subst hw1
      go_wp2
      go_loopw [22] (fun _ wr => ∃ row : List Int, row.length ≤ 1001 ∧ Aside0 (ext row (C + 1) 32 = ext (rows'.getD L []) (C + 1) 32) ∧ Aside0 (Kd.S kL 26 wr base (fun _ => True) (.slice (some ⟨g, 0, none⟩) rows'.length cc1) (rows'.set L row)) ∧ Aside0 (Below base w wr)) (fun _ wr => C + 1 - lenAt wr g L)
      case atStart =>
        refine ⟨rows'.getD L [], ?_, ⟨rfl⟩, ⟨?_⟩, HB⟩
        · rw [List.getD_eq_getElem?_getD, List.getElem?_eq_getElem (show L < rows'.length by omega)]
          exact HW.out _ (List.getElem_mem _)
        · rw [List.getD_eq_getElem?_getD, List.getElem?_eq_getElem (show L < rows'.length by omega)]
          simpa using HS1.out
      case round =>
        obtain ⟨row, hrl, HE2, HS2, HB2⟩ := hrel
        obtain ⟨oki, cs, hcl, hM, hcell, hoki, hH⟩ := Kd.S_lend HS2.out [] (L : Int) (by omega) (by omega)
        have hget : (rows'.set L row).getD (L : Int).toNat [] = row := by
          rw [Int.toNat_natCast, List.getD_eq_getElem?_getD, List.getElem?_set_self (by omega)]; rfl
        rw [hget] at hM
        obtain ⟨vr, rfl, hR⟩ := hM
        obtain ⟨Ar, cr, rfl, hcr, -⟩ := Kd.R_reads hR
        have hc1 := hcell 0 _ rfl
        rw [show (L : Int).toNat * kL.sz + 0 = L from by rw [Int.toNat_natCast]; show L * 1 + 0 = L; omega] at hc1
        have HR2 := Aside0.mk hR
        have HH := Aside0.mk hH
        have HOK := Aside0.mk hoki
        have hLlt : (L : Int) < (rows'.length : Int) := by omega
        clear hcl hcell hoki hH hget hR hcr
        by_cases hlt : row.length ≤ C
        · have hlt2 : decide (row.length ≤ C) = true := decide_eq_true hlt
          have hlt3 : decide ((row.length : Int) ≤ (C : Int)) = true := decide_eq_true (by omega)
          have HZ : Aside0 (base ≤ wr.heap.size) := ⟨by have := HB2.out.size; have := HBASE.out; omega⟩
          have HRw : Aside0 (Kd.R (Kd.int .u8) 5 wr base (fun k => oki k ∨ True ∧ wr.heap.size ≤ k) (.slice Ar row.length cr) row) := ⟨Kd.R_mono HR2.out (fun _ hk => Or.inl hk)⟩
          have HHw := Aside0.mk (Kd.H_widen HH.out)
          have HC1 := Aside0.mk hc1
          go_wp2_with (first
            | ((with_reducible refine gate_builtin (b := .append) (xs := #[.tmp 28, .tmp 29]) rfl ?_); at_builtin; refine Kd.R_append (Kd.int .u8) (w0 := wr) base rfl (.tmp 28) (.tmp 29) 26 5 (.int .u8 0) 1 rfl Tryd.underlying26 info5 rfl (by decide) (by omega) (.slice Ar row.length cr) row 32 [.int .u8 32] (fun k => oki k ∨ True ∧ wr.heap.size ≤ k) (fun _ => False) rfl ?aX rfl (fun _ hk => hk.elim) (fun _ hk => Or.inr ⟨trivial, hk⟩) HRw.out (Below.refl _ _) ?aS ?aL ?_; (case aX => first | rfl | (simp; done)); (case aS => exact HZ.out); (case aL => omega); intro v7 w7 ho hb hg hat; obtain ⟨A7, c7, hv7, -, -⟩ := Kd.R_reads ho; rw [List.length_append, List.length_singleton] at hv7; subst hv7; have HO7 := Aside0.mk ho; have HB7 := Aside0.mk hb; have HG7 := Aside0.mk hg; clear ho hb hg hat)
            | ((with_reducible refine gate_store (p := 31) (v := .tmp 30) rfl ?_); (refine Kd.H_store kL (w0 := w7) base rfl rfl 26 (.tmp 31) (.tmp 30) rfl 26 (g := g) (n := rows'.length) (cap := cc1) (o' := L) (L : Int) 0 (rows'.set L row) (row ++ [32]) (.slice A7 (row.length + 1) c7) [.slice A7 (row.length + 1) c7] [.slice Ar row.length cr] (fun _ => True) (fun k => oki k ∨ True ∧ wr.heap.size ≤ k) (fun k => oki k ∨ True ∧ wr.heap.size ≤ k) rfl (by rw [Int.toNat_natCast]; show L = L * 1 + 0; omega) rfl rfl info26s (by intro q hq; simp at hq; subst hq; rfl) (Kd.H_grown HHw.out HG7.out (fun k hk => HRw.out.1 k hk)) (by omega) (by omega) (by show 0 + 1 ≤ 1; omega) ⟨_, rfl, HO7.out⟩ (fun _ hk => hk) (Below.refl _ _) ?_); intro w8 hs8 hb8 hg8; have HS8 := Aside0.mk hs8; have HB8 := Aside0.mk hb8; clear hs8 hb8 hg8))
          go_roundw
          case rel => exact ⟨row ++ [32], by simp; omega, ⟨by rw [ext_snoc _ _ _ (by omega)]; exact HE2.out⟩, ⟨by have h := HS8.out; rw [Int.toNat_natCast, List.set_set] at h; exact h⟩, ⟨HB2.out.trans (HB7.out.trans HB8.out)⟩⟩
          case measure =>
            have h8 := lenAt_S HS8.out L (by omega)
            have h2 := lenAt_S HS2.out L (by omega)
            rw [getD_set _ _ _ _ (by omega)] at h2
            rw [Int.toNat_natCast, getD_set _ _ _ _ (by simp; omega)] at h8
            rw [h8, h2]
            simp
            omega
        · have hlt2 : decide (row.length ≤ C) = false := decide_eq_false hlt
          have hlt3 : decide ((row.length : Int) ≤ (C : Int)) = false := decide_eq_false (by omega)
          have HRE : Aside0 (row = ext (rows'.getD L []) (C + 1) 32) := ⟨by rw [← HE2.out, ext_full _ _ _ (by omega)]⟩
          by_cases hc : c = 32
          · have hc2 : (c != 32) = false := by simp [hc]
            have HP : Aside0 (putF rows L C c = rows'.set L row) := ⟨by unfold putF putRow; rw [← HEQ.out, if_pos hc, ← HRE.out]⟩
            clear hc
            go_wp2
            go_ret
            exact ⟨_, rfl, by rw [HP.out]; exact HS2.out, HB2.out⟩
          · have hc2 : (c != 32) = true := by simp [hc]
            have HP : Aside0 (putF rows L C c = rows'.set L (row.set C c)) := ⟨by unfold putF putRow; rw [← HEQ.out, if_neg hc, ← HRE.out]⟩
            clear hc
            have hClt : (C : Int) < (row.length : Int) := by omega
            obtain ⟨g2, cr2, hAr, -, -⟩ := Kd.R_form HR2.out (by omega)
            have hA2 : Ar = some ⟨g2, 0, none⟩ := by injection hAr
            have hcr2 : cr = cr2 := by injection hAr
            subst hA2
            subst hcr2
            clear hAr
            have hrc := Kd.C_get (Kd.R_reads' HR2.out).2.2 0 (C : Int) (by omega) (by omega)
            obtain ⟨ad, cb, hadd, hcb, hKb, hcb2⟩ := hrc
            obtain rfl : cb = [.int .u8 (row.getD (C : Int).toNat 0)] := hKb
            have hb0 := hcb2 0 _ rfl
            obtain rfl : (⟨g2, 0, none⟩ : Addr) = ad := by injection hadd
            have hcc : ∀ (j : Nat) (u : Value), [Value.int IntKind.u8 (row.getD (C : Int).toNat 0)][j]? = some u → wr.cell? ⟨g2, (C : Int).toNat * (Kd.int .u8).sz + j, none⟩ = some u := fun j u hj => by have h := hcb2 j u hj; rwa [add_plain] at h
            have HC2 := Aside0.mk hcc
            clear hcc
            clear hadd hcb hb0 hcb2
            go_wp2_with ((with_reducible refine gate_store (p := 40) (v := .tmp 39) rfl ?_); (refine Kd.R_store (Kd.int .u8) (w0 := wr) base rfl rfl 5 (.tmp 40) (.tmp 39) rfl 5 (g := g2) (n := row.length) (cap := cr) (o' := C) (C : Int) 0 row c (.int .u8 c) [.int .u8 c] [.int .u8 (row.getD (C : Int).toNat 0)] oki (fun _ => False) rfl (by rw [Int.toNat_natCast]; show C = C * 1 + 0; omega) rfl rfl info5s (by intro q hq; simp at hq; subst hq; rfl) HR2.out (by omega) (by omega) rfl HC2.out (by show 0 + 1 ≤ 1; omega) rfl (fun _ hk => hk.elim) (Below.refl _ _) ?_); intro w8 hs8 hb8 hg8; have HS8 := Aside0.mk hs8; have HB8 := Aside0.mk hb8; have HG8 := Aside0.mk hg8; clear hs8 hb8 hg8)
            go_ret
            refine ⟨_, rfl, ?_, HB2.out.trans HB8.out⟩
            rw [HP.out]
            have h1 := Kd.H_grown HH.out HG8.out (fun k hk => by injection hk with hk; subst hk; exact HR2.out.1 _ (by simp [Value.ownBlock]))
            have h2 := Kd.H_back (okp := oki) (x' := row.set C c) h1 (by rw [Int.toNat_natCast] at HS8; exact ⟨_, rfl, by have h := HS8.out; simpa using h⟩) (fun _ hk => hk)
            rw [Int.toNat_natCast, List.set_set] at h2
            exact h2
end Go.Proofs.YtgagbfaodeakaaaDoor.PPaperBack
