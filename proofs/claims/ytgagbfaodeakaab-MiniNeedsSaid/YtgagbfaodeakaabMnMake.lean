/- mini.Make of numbers (function 7), walked by hand over an abstract question. Own text of this claim. -/
import Derived.Test.YtgagbfaodeakaabMnAsk
import Derived.Test.YtgagbfaodeakaabMnConcat
namespace Go.Proofs.Ytgagbfaodeakaab.PMiniNeeds
open Go.RowKit Go.Proofs.YtgagbfaodeakaabW.PrintWords Go.Proofs.YtgagbfaodeakaabW.PrintLast Go.Proofs.YtgagbfaodeakaabW.PrintMore
attribute [local go_sem] max2_int min2_int max_two min_two max_three min_three max_four min_four
set_option linter.unusedVariables false
set_option linter.unusedSimpArgs false
/-- A literal of two rows. -/
theorem C_two (W : World) (e : Nat) (A B : Option Addr) (ca cb : Nat) (x y : List Int) (hx : Kd.C (Kd.int .i64) W A x.length x) (hca : x.length ≤ ca) (hy : Kd.C (Kd.int .i64) W B y.length y) (hcb : y.length ≤ cb) :
    Kd.C (Kd.slice 3 (Kd.int .i64)) (W.alloc (.cells #[.slice A x.length ca, .slice B y.length cb] e)) (some ⟨W.heap.size, 0, none⟩) [x, y].length [x, y] := by
  refine ⟨rfl, by simp, fun _ => ⟨_, rfl, fun j p hj => ?_⟩⟩
  match j, hj with
  | 0, hj =>
    obtain rfl := Option.some.inj hj
    exact ⟨[.slice A x.length ca], rfl, ⟨A, ca, rfl, hca, Kd.C_alloc hx _⟩, fun i u hu => by
      cases i with
      | zero => simp at hu; subst hu; go_simp
      | succ i => simp at hu⟩
  | 1, hj =>
    obtain rfl := Option.some.inj hj
    exact ⟨[.slice B y.length cb], rfl, ⟨B, cb, rfl, hcb, Kd.C_alloc hy _⟩, fun i u hu => by
      cases i with
      | zero => simp at hu; subst hu; go_simp; rfl
      | succ i => simp at hu⟩
  | j + 2, hj => simp at hj

theorem World.heap_size_alloc' (W : World) (o : Obj) : (W.alloc o).heap.size = W.heap.size + 1 := by simp
def lenOf : Value → Nat
  | .slice _ n _ => n
  | _ => 0
/-- A question: what ask answers. -/
def Asks (P : List Int → Bool) (fv : Value) (w : World) : Prop :=
  ∀ (ga n : Nat) (A : Option Addr) (c : Nat) (u : List Int) (W : World), w.heap.size ≤ ga → Below w.heap.size w W → W.heap[ga]? = some (.cells #[fv, .int .i64 (n : Int)] 38 (0, 0)) → n < 20000 → (∀ W', Kept W W' (fun k => k = ga) → Kd.C (Kd.int .i64) W' A u.length u) → u.length ≤ c → u.length ≤ 1000 →
    Calls Try.prog 14 #[.pointer (some ⟨ga, 0, none⟩), .slice A u.length c] W fun e W' => e = .returned (.bool (P u)) ∧ W'.heap[ga]? = some (.cells #[fv, .int .i64 ((n + 1 : Nat) : Int)] 38 (0, 0)) ∧ Kept W W' (fun k => k = ga)
def MakePost (P : List Int → Bool) (l0 : List Int) (w : World) (e : Ending) (w' : World) : Prop :=
  ∃ (v : Value) (n : Nat) (out : List Int), e = .returned (.tuple #[v, .int .i64 (n : Int), .int .i64 0]) ∧ 0 < n ∧ Kd.R (Kd.int .i64) 3 w' w.heap.size (fun _ => True) v out ∧ Below w.heap.size w w' ∧ List.Sublist out l0 ∧ P out = true ∧ ∀ i, i < out.length → P (out.eraseIdx i) = false
/-- What Make holds: its asker's block, its list. -/
structure KInv (w W : World) (ga : Nat) (fv : Value) (n : Nat) (v : Value) (out : List Int) : Prop where
  gl : w.heap.size ≤ ga
  b : Below w.heap.size w W
  a : W.heap[ga]? = some (.cells #[fv, .int .i64 (n : Int)] 38 (0, 0))
  r : Kd.R (Kd.int .i64) 3 W w.heap.size (fun k => k ≠ ga) v out
theorem KInv.below {w W W' : World} {ga n : Nat} {fv v : Value} {out : List Int} (h : KInv w W ga fv n v out) (hb : Below W.heap.size W W') : KInv w W' ga fv n v out :=
  ⟨h.gl, below_then h.b h.b.size hb, blk_below h.a hb, Kd.R_below h.r hb⟩
theorem KInv.asked {w W W' : World} {ga n n' : Nat} {fv v : Value} {out : List Int} (h : KInv w W ga fv n v out) (hk : Kept W W' (fun k => k = ga)) (ha : W'.heap[ga]? = some (.cells #[fv, .int .i64 (n' : Int)] 38 (0, 0))) : KInv w W' ga fv n' v out :=
  ⟨h.gl, ⟨hk.calm.1.trans h.b.os, hk.calm.2.1.trans h.b.tape, hk.calm.2.2.trans h.b.output, Nat.le_trans h.b.size hk.1, fun i hi => (hk.2 i (Nat.lt_of_lt_of_le hi h.b.size) (by have := h.gl; omega)).trans (h.b.block i hi)⟩, ha, Kd.R_kept h.r hk (fun k hk => hk)⟩
set_option maxHeartbeats 8000000 in
set_option maxRecDepth 100000 in
theorem make_calls (P : List Int → Bool) (ff : Fn) (pa qa : Array Value) (A0 : Option Addr) (c0 : Nat) (l0 : List Int) (w : World) (hask : Asks P (.func ff pa qa) w) (hr : Kd.C (Kd.int .i64) w A0 l0.length l0) (hr' : ∀ W', Kept w W' (fun _ => False) → Kd.C (Kd.int .i64) W' A0 l0.length l0) (hc0 : l0.length ≤ c0) (hl : l0.length ≤ 60) (hP : P l0 = true) :
    Calls Try.prog 7 #[.slice A0 l0.length c0, .func ff pa qa] w (MakePost P l0 w) := by
  have hu38 := Try.underlying38
  have HASK := Aside0.mk hask
  have HR := Aside0.mk hr'
  have HC0 := Aside0.mk hc0
  have HL := Aside0.mk hl
  have HP := Aside0.mk hP
  have hl2 : (l0.length : Int) ≤ 60 := by omega
  clear hask hr hr' hc0 hl hP
  go_enter Try.func7, Try.ntmps7
  go_wp2_with fail
  have K0 : Aside0 (Kept w (w.alloc (.cells #[.func ff pa qa, .int .i64 0] 38)) (fun _ => False)) := ⟨(Kept.refl w _).alloc _⟩
  have C1 := Aside0.mk (HASK.out w.heap.size 0 A0 c0 l0 (w.alloc (.cells #[.func ff pa qa, .int .i64 0] 38)) (Nat.le_refl _) (below_alloc (Below.refl _ _) _) (blk_new w _) (by decide) (fun W' h => HR.out W' (K0.out.then_ h (fun k h => .inr (by omega)))) HC0.out (by omega))
  (with_reducible refine C1.out.mono ?_)
  rintro e w2 ⟨rfl, a2, k2⟩
  rw [HP.out]
  have A2 := Aside0.mk a2
  have K2 := Aside0.mk (K0.out.then_ k2 (fun k h => .inr (by omega)))
  clear a2 k2 K0 C1
  have C3 := Aside0.mk (clone_I.calls A0 c0 l0 l0 w2 (HR.out _ K2.out) HC0.out (by unfold clone_I.f; rw [if_pos (by have := HL.out; omega)]))
  go_wp2_with fail
  (with_reducible refine C3.out.mono ?_)
  rintro e w3 ⟨v3, rfl, ho3, hb3⟩
  have hgs : w.heap.size < w2.heap.size := blk_lt A2.out
  have I3 : Aside0 (KInv w w3 w.heap.size (.func ff pa qa) 1 v3 l0) := ⟨{ gl := Nat.le_refl _, b := ⟨hb3.os.trans K2.out.calm.1, hb3.tape.trans K2.out.calm.2.1, hb3.output.trans K2.out.calm.2.2, Nat.le_trans K2.out.1 hb3.size, fun i hi => (hb3.block i (Nat.lt_of_lt_of_le hi K2.out.1)).trans (K2.out.2 i hi (fun h => h))⟩, a := blk_below A2.out hb3, r := Kd.R_lower (Kd.R_mono (Kd.R_bound ho3) (fun k hk => by have := hk.2.1; omega)) K2.out.1 }⟩
  clear ho3 hb3 hgs A2 K2 C3 HR
  obtain ⟨A3, c3, e3⟩ := Kd.R_slice I3.out.r
  subst e3
  obtain ⟨z0, hmx, hz1, hz2⟩ : ∃ z0 : Nat, (if (l0.length : Int) / 2 < 1 then 1 else (l0.length : Int) / 2) = (z0 : Int) ∧ 1 ≤ z0 ∧ z0 ≤ 30 := by
    have := HL.out
    split
    · exact ⟨1, rfl, by omega, by omega⟩
    · exact ⟨l0.length / 2, by omega, by omega, by omega⟩
  go_wp2
  clear hmx
  go_loopw [8, 9] (fun v8 v9 wr => ∃ (n z : Nat) (out : List Int), v9 = .int .i64 (z : Int) ∧ 1 ≤ z ∧ Aside0 (KInv w wr w.heap.size (.func ff pa qa) n v8 out) ∧ Aside0 (n + 60 * (z + out.length) ≤ 5461 ∧ 1 ≤ n ∧ out.length ≤ 60) ∧ Aside0 (List.Sublist out l0 ∧ P out = true)) (fun v8 v9 _ => lenOf v8 + (intOf v9).toNat)
  case atStart => exact ⟨1, z0, l0, rfl, hz1, I3, ⟨by have := HL.out; omega, by omega, HL.out⟩, ⟨List.Sublist.refl _, HP.out⟩⟩
  case round =>
    obtain ⟨n0, z, out0, rfl, hz, IO, NO, PO⟩ := hrel
    obtain ⟨w4, rfl⟩ : ∃ w4 : World, w4 = wr := ⟨_, rfl⟩
    clear I3
    obtain ⟨A4, c4, e4⟩ := Kd.R_slice IO.out.r
    subst e4
    have HZ := Aside0.mk hz
    by_cases hp : 0 < out0.length
    · have hp2 : decide ((0 : Int) < (out0.length : Int)) = true := decide_eq_true (by omega)
      have HPO := Aside0.mk hp
      go_wp2
      clear hp2 hp
      go_loopw [8, 10, 11] (fun v8 v10 v11 wr => ∃ (n i : Nat) (ct : Bool) (out : List Int), v10 = .bool ct ∧ v11 = .int .i64 (i : Int) ∧ Aside0 (KInv w wr w.heap.size (.func ff pa qa) n v8 out) ∧ Aside0 (n + (out.length - i) ≤ n0 + out0.length ∧ 1 ≤ n ∧ i ≤ 200 ∧ out.length ≤ out0.length) ∧ Aside0 (List.Sublist out l0 ∧ P out = true) ∧ Aside0 ((ct = false → out = out0 ∧ (z = 1 → ∀ j, j < i → j < out.length → P (out.eraseIdx j) = false)) ∧ (ct = true → out.length < out0.length))) (fun v8 _ v11 _ => lenOf v8 - (intOf v11).toNat)
      case atStart => exact ⟨n0, 0, false, out0, rfl, rfl, IO, ⟨by omega, by have := NO.out; omega, by omega, by omega⟩, PO, ⟨fun _ => ⟨rfl, fun _ j h => by omega⟩, fun h => by cases h⟩⟩
      case round =>
        obtain ⟨n, i, ct, out, rfl, rfl, II, NI, PI, CI⟩ := hrel
        obtain ⟨w5, rfl⟩ : ∃ w5 : World, w5 = wr := ⟨_, rfl⟩
        obtain ⟨A5, c5, e5⟩ := Kd.R_slice II.out.r
        subst e5
        have hz30 : z ≤ 91 := by have := NO.out; omega
        have hi2 : (i : Int) ≤ 200 := by have := NI.out; omega
        have ho2 : (out.length : Int) ≤ 60 := by have := NI.out; have := NO.out; omega
        have hz2 : (z : Int) ≤ 91 := by omega
        by_cases hlt : i < out.length
        · have HLT := Aside0.mk hlt
          obtain ⟨j, hj, hj1, hj2⟩ : ∃ j : Nat, (if (out.length : Int) < (i : Int) + (z : Int) then (out.length : Int) else (i : Int) + (z : Int)) = (j : Int) ∧ i < j ∧ j ≤ out.length := by
            split
            · exact ⟨out.length, rfl, hlt, Nat.le_refl _⟩
            · exact ⟨i + z, by omega, by omega, by omega⟩
          have hcl := (Kd.R_reads' II.out.r).2.1
          have hadd : wrap64 ((i : Int) + (z : Int)) = (i : Int) + (z : Int) := by unfold wrap64; omega
          go_upto_region 10 with (fail)
          have hx1 : (i : Int) ≤ (out.length : Int) := by omega
          have hx2 : (0 : Int) ≤ (i : Int) := by omega
          have hx3 : (i : Int) ≤ (c5 : Int) := by omega
          have hx4 : (j : Int) ≤ (out.length : Int) := by omega
          have hx5 : (0 : Int) ≤ (j : Int) := by omega
          have hx6 : (j : Int) ≤ (c5 : Int) := by omega
          have HJ := Aside0.mk (And.intro hj1 hj2)
          have CT := Aside0.mk (Kd.C_take (m := i) (Kd.R_reads' II.out.r).2.2 (by omega))
          have htl : (out.take i).length = i := by rw [List.length_take]; omega
          have hdl : (out.drop j).length = out.length - j := List.length_drop
          have HTL := Aside0.mk htl
          have HDL := Aside0.mk hdl
          have HTR : Aside0 ((out.take i ++ out.drop j).length ≤ 60) := ⟨by rw [List.length_append, htl, hdl]; omega⟩
          clear htl hdl
          have CD := Aside0.mk (Kd.C_drop (m := j) (c := c5) (Kd.R_reads' II.out.r).2.2 hj2 hcl)
          have hadd2 : IntKind.i64.wrap ((i : Int) + (z : Int)) = (i : Int) + (z : Int) := by rw [IntWalk.i64_in _ (by omega)]
          have HJZ : Aside0 (z = 1 → j = i + 1) := ⟨fun h => by subst h; rw [if_neg (by omega)] at hj; omega⟩
          by_cases hcj : c5 = j
          · have hjo : j = out.length := by omega
            subst hjo
            subst hcj
            have hdn : out.drop out.length = [] := List.drop_of_length_le (Nat.le_refl _)
            have C6 := Aside0.mk (slices_Concat_int_int.calls (some ⟨w5.drew.heap.size, 0, none⟩) 2 [out.take i, out.drop out.length] (out.take i ++ out.drop out.length) (w5.drew.alloc (.cells #[.slice A5 (out.take i).length out.length, .slice A5 (out.drop out.length).length 0] 22)) (C_two w5.drew 22 A5 A5 out.length 0 (out.take i) (out.drop out.length) (Kd.C_drew CT.out) (by rw [HTL.out]; omega) (by have h := CD.out; rw [if_pos rfl] at h; exact Kd.C_drew h) (by rw [HDL.out]; omega)) (Nat.le_refl _) (by unfold slices_Concat_int_int.f; rw [if_pos ⟨by simp, by have := HTL.out; have := HDL.out; simp [lens]; omega⟩]; simp))
            rw [HTL.out, HDL.out, Nat.sub_self] at C6
            clear hdn
            go_region_held3 (fun w' => True)
              (trivial)
              (first | (go_at_call 16; (refine (C6.out).mono ?_); rintro e w6 ⟨v6, rfl, ho6, hb6⟩; have HB6 := Aside0.mk hb6; have HO6 := Aside0.mk ho6; clear ho6 hb6))
            have hbb : Below w5.heap.size w5 w6 := by
              have h := HB6.out
              exact below_then (below_alloc (below_drew (Below.refl _ _)) _) (below_alloc (below_drew (Below.refl _ _)) _).size h
            have hg5 : w.heap.size < w5.heap.size := blk_lt II.out.a
            have HU6 : Aside0 (Kd.R (Kd.int .i64) 3 w6 w.heap.size (fun k => k ≠ w.heap.size) v6 (out.take i ++ out.drop out.length)) := ⟨by
              have h := Kd.R_bound HO6.out
              refine Kd.R_lower (Kd.R_mono h (fun k hk => ?_)) ?_
              · have h1 := hk.2.1
                rw [World.heap_size_alloc'] at h1
                have hdr : w5.drew.heap.size = w5.heap.size := rfl
                omega
              · rw [World.heap_size_alloc']
                have hdr : w5.drew.heap.size = w5.heap.size := rfl
                omega⟩
            have I6 := Aside0.mk (II.out.below hbb)
            clear hbb hg5 HB6 HO6 C6
            obtain ⟨A6, c6, e6⟩ := Kd.R_slice HU6.out
            subst e6
            have HUZ : Aside0 ((out.take i ++ out.drop out.length).length = i + (out.length - out.length)) := ⟨by rw [List.length_append, HTL.out, HDL.out]⟩
            have HSU : Aside0 (List.Sublist (out.take i ++ out.drop out.length) out) := ⟨by
              have h1 : List.Sublist (out.drop out.length) (out.drop i) := List.drop_sublist_drop_left out (Nat.le_of_lt HJ.out.1)
              have h2 := (List.Sublist.refl (out.take i)).append h1
              rwa [List.take_append_drop] at h2⟩
            have HER : Aside0 (z = 1 → out.eraseIdx i = out.take i ++ out.drop out.length) := ⟨fun h => by rw [List.eraseIdx_eq_take_drop_succ, HJZ.out h]⟩
            have C7 := Aside0.mk (HASK.out w.heap.size n A6 c6 (out.take i ++ out.drop out.length) w6 (Nat.le_refl _) I6.out.b I6.out.a (by have := NI.out; have := NO.out; omega) (Kd.C_kept_own HU6.out (fun k hk => hk)) (Kd.R_reads' HU6.out).2.1 (by have := HTR.out; omega))
            clear HTR
            generalize out.take i ++ out.drop out.length = u at *
            by_cases hPu : P u = true
            · rw [hPu] at C7
              have HPU := Aside0.mk hPu
              clear hPu
              go_wp2_with fail
              (with_reducible refine C7.out.mono ?_)
              rintro e w7 ⟨rfl, a7, k7⟩
              have I7 := Aside0.mk (I6.out.asked k7 a7)
              have U7 := Aside0.mk (Kd.R_kept HU6.out k7 (fun k hk => hk))
              clear a7 k7 C7
              go_wp2
              go_roundw
              case rel => exact ⟨n + 1, i, true, u, rfl, rfl, ⟨⟨I7.out.gl, I7.out.b, I7.out.a, U7.out⟩⟩, ⟨by have h1 := HUZ.out; have h2 := HJ.out; have h3 := NI.out; omega, by omega, by have := NI.out; omega, by have h1 := HSU.out.length_le; have h3 := NI.out; omega⟩, ⟨HSU.out.trans PI.out.1, HPU.out⟩, ⟨fun h => (by cases h), fun _ => by have h1 := HUZ.out; have h2 := HJ.out; have h3 := NI.out; omega⟩⟩
              case measure => simp [intOf, lenOf]; have h1 := HUZ.out; have h2 := HJ.out; omega
            · have hPf : P u = false := by simpa using hPu
              rw [hPf] at C7
              have HPU := Aside0.mk hPf
              clear hPu hPf
              go_wp2_with fail
              (with_reducible refine C7.out.mono ?_)
              rintro e w7 ⟨rfl, a7, k7⟩
              have I7 := Aside0.mk (I6.out.asked k7 a7)
              clear a7 k7 C7
              go_wp2
              go_roundw
              case rel => exact ⟨n + 1, i + z, ct, out, rfl, by go_num, I7, ⟨by have h2 := HJ.out; have h3 := NI.out; have h4 := HZ.out; omega, by omega, by have h3 := NI.out; have h4 := NO.out; omega, by have h3 := NI.out; omega⟩, PI, ⟨fun h => ⟨(CI.out.1 h).1, fun h1 q hq1 hq2 => by
                rcases Nat.lt_or_ge q i with h3 | h3
                · exact (CI.out.1 h).2 h1 q h3 hq2
                · rw [show q = i by omega, HER.out h1]; exact HPU.out⟩, CI.out.2⟩⟩
              case measure => simp [intOf, lenOf]; have h4 := HZ.out; omega
          · have CD2 : Aside0 (Kd.C (Kd.int .i64) w5 (A5.map (·.add j)) (out.drop j).length (out.drop j)) := ⟨by
              have h := CD.out
              rw [if_neg hcj, show j * (Kd.int .i64).sz = j from Nat.mul_one j] at h
              exact h⟩
            clear CD
            have C6 := Aside0.mk (slices_Concat_int_int.calls (some ⟨w5.drew.heap.size, 0, none⟩) 2 [out.take i, out.drop j] (out.take i ++ out.drop j) (w5.drew.alloc (.cells #[.slice A5 (out.take i).length c5, .slice (A5.map (·.add j)) (out.drop j).length (c5 - j)] 22)) (C_two w5.drew 22 A5 (A5.map (·.add j)) c5 (c5 - j) (out.take i) (out.drop j) (Kd.C_drew CT.out) (by rw [HTL.out]; omega) (Kd.C_drew CD2.out) (by rw [HDL.out]; omega)) (Nat.le_refl _) (by unfold slices_Concat_int_int.f; rw [if_pos ⟨by simp, by have := HTL.out; have := HDL.out; simp [lens]; omega⟩]; simp))
            rw [HTL.out, HDL.out] at C6
            go_region_held3 (fun w' => True)
              (trivial)
              (first | (go_at_call 16; (refine (C6.out).mono ?_); rintro e w6 ⟨v6, rfl, ho6, hb6⟩; have HB6 := Aside0.mk hb6; have HO6 := Aside0.mk ho6; clear ho6 hb6))
            have hbb : Below w5.heap.size w5 w6 := by
              have h := HB6.out
              exact below_then (below_alloc (below_drew (Below.refl _ _)) _) (below_alloc (below_drew (Below.refl _ _)) _).size h
            have hg5 : w.heap.size < w5.heap.size := blk_lt II.out.a
            have HU6 : Aside0 (Kd.R (Kd.int .i64) 3 w6 w.heap.size (fun k => k ≠ w.heap.size) v6 (out.take i ++ out.drop j)) := ⟨by
              have h := Kd.R_bound HO6.out
              refine Kd.R_lower (Kd.R_mono h (fun k hk => ?_)) ?_
              · have h1 := hk.2.1
                rw [World.heap_size_alloc'] at h1
                have hdr : w5.drew.heap.size = w5.heap.size := rfl
                omega
              · rw [World.heap_size_alloc']
                have hdr : w5.drew.heap.size = w5.heap.size := rfl
                omega⟩
            have I6 := Aside0.mk (II.out.below hbb)
            clear hbb hg5 HB6 HO6 C6
            obtain ⟨A6, c6, e6⟩ := Kd.R_slice HU6.out
            subst e6
            have HUZ : Aside0 ((out.take i ++ out.drop j).length = i + (out.length - j)) := ⟨by rw [List.length_append, HTL.out, HDL.out]⟩
            have HSU : Aside0 (List.Sublist (out.take i ++ out.drop j) out) := ⟨by
              have h1 : List.Sublist (out.drop j) (out.drop i) := List.drop_sublist_drop_left out (Nat.le_of_lt HJ.out.1)
              have h2 := (List.Sublist.refl (out.take i)).append h1
              rwa [List.take_append_drop] at h2⟩
            have HER : Aside0 (z = 1 → out.eraseIdx i = out.take i ++ out.drop j) := ⟨fun h => by rw [List.eraseIdx_eq_take_drop_succ, HJZ.out h]⟩
            have C7 := Aside0.mk (HASK.out w.heap.size n A6 c6 (out.take i ++ out.drop j) w6 (Nat.le_refl _) I6.out.b I6.out.a (by have := NI.out; have := NO.out; omega) (Kd.C_kept_own HU6.out (fun k hk => hk)) (Kd.R_reads' HU6.out).2.1 (by have := HTR.out; omega))
            clear HTR
            generalize out.take i ++ out.drop j = u at *
            by_cases hPu : P u = true
            · rw [hPu] at C7
              have HPU := Aside0.mk hPu
              clear hPu
              go_wp2_with fail
              (with_reducible refine C7.out.mono ?_)
              rintro e w7 ⟨rfl, a7, k7⟩
              have I7 := Aside0.mk (I6.out.asked k7 a7)
              have U7 := Aside0.mk (Kd.R_kept HU6.out k7 (fun k hk => hk))
              clear a7 k7 C7
              go_wp2
              go_roundw
              case rel => exact ⟨n + 1, i, true, u, rfl, rfl, ⟨⟨I7.out.gl, I7.out.b, I7.out.a, U7.out⟩⟩, ⟨by have h1 := HUZ.out; have h2 := HJ.out; have h3 := NI.out; omega, by omega, by have := NI.out; omega, by have h1 := HSU.out.length_le; have h3 := NI.out; omega⟩, ⟨HSU.out.trans PI.out.1, HPU.out⟩, ⟨fun h => (by cases h), fun _ => by have h1 := HUZ.out; have h2 := HJ.out; have h3 := NI.out; omega⟩⟩
              case measure => simp [intOf, lenOf]; have h1 := HUZ.out; have h2 := HJ.out; omega
            · have hPf : P u = false := by simpa using hPu
              rw [hPf] at C7
              have HPU := Aside0.mk hPf
              clear hPu hPf
              go_wp2_with fail
              (with_reducible refine C7.out.mono ?_)
              rintro e w7 ⟨rfl, a7, k7⟩
              have I7 := Aside0.mk (I6.out.asked k7 a7)
              clear a7 k7 C7
              go_wp2
              go_roundw
              case rel => exact ⟨n + 1, i + z, ct, out, rfl, by go_num, I7, ⟨by have h2 := HJ.out; have h3 := NI.out; have h4 := HZ.out; omega, by omega, by have h3 := NI.out; have h4 := NO.out; omega, by have h3 := NI.out; omega⟩, PI, ⟨fun h => ⟨(CI.out.1 h).1, fun h1 q hq1 hq2 => by
                rcases Nat.lt_or_ge q i with h3 | h3
                · exact (CI.out.1 h).2 h1 q h3 hq2
                · rw [show q = i by omega, HER.out h1]; exact HPU.out⟩, CI.out.2⟩⟩
              case measure => simp [intOf, lenOf]; have h4 := HZ.out; omega
        · have HGE := Aside0.mk (Nat.le_of_not_lt hlt)
          clear hlt
          have hge : decide ((i : Int) < (out.length : Int)) = false := decide_eq_false (by have := HGE.out; omega)
          have hge2 : decide (i < out.length) = false := decide_eq_false (by have := HGE.out; omega)
          by_cases hz1 : z = 1
          · subst hz1
            cases ct with
            | false =>
              have q1 : w5.cell? ⟨w.heap.size, 1, none⟩ = some (.int .i64 (n : Int)) := (blk_cell II.out.a 1).trans rfl
              have d2 : (n : Int) < 20000 := by have h1 := NO.out; have h2 := NI.out; omega
              have d3 : decide ((20000 : Int) ≤ (n : Int)) = false := decide_eq_false (by omega)
              go_upto_region 19 with (fail)
              go_quiet (fail)
              go_wp2
              go_ret3
              exact ⟨_, n, out, rfl, by have := NI.out; omega, Kd.R_mono (Kd.R_drewN II.out.r _) (fun k _ => trivial), pw_below_drewN II.out.b _, PI.out.1, PI.out.2, fun q hq => (CI.out.1 (by trivial)).2 (by trivial) q (by have := HGE.out; omega) hq⟩
            | true =>
              go_wp2
              go_roundw
              case rel => exact ⟨n, 1, out, rfl, Nat.le_refl _, II, ⟨by have h1 := NO.out; have h2 := NI.out; have h3 := CI.out.2 (by trivial); omega, by have := NI.out; omega, by have h1 := NO.out; have h2 := NI.out; omega⟩, PI⟩
              case measure => simp [intOf, lenOf]; have h3 := CI.out.2 (by trivial); omega
          · have hzb : ((z : Int) == 1) = false := beq_eq_false_iff_ne.mpr (by omega)
            have hzc : decide ((1 : Int) < (z : Int)) = true := decide_eq_true (by have := HZ.out; omega)
            have hz0 : (0 : Int) ≤ (z : Int) := by omega
            have HZD := Aside0.mk (show 1 ≤ z / 2 ∧ z / 2 < z from by have := HZ.out; omega)
            go_wp2
            go_roundw
            case rel => exact ⟨n, z / 2, out, congrArg (Value.int .i64) (show (z : Int) / 2 = ((z / 2 : Nat) : Int) by omega), HZD.out.1, II, ⟨by have h1 := NO.out; have h2 := NI.out; have h3 := HZD.out; omega, by have := NI.out; omega, by have h1 := NO.out; have h2 := NI.out; omega⟩, PI⟩
            case measure => simp [intOf, lenOf]; have h2 := NI.out; have h3 := HZD.out; omega
    · have h0 : out0.length = 0 := by omega
      have H0 := Aside0.mk h0
      have hp2 : decide ((0 : Int) < (out0.length : Int)) = false := decide_eq_false (by omega)
      have hp3 : decide (0 < out0.length) = false := decide_eq_false (by omega)
      have q1 : w4.cell? ⟨w.heap.size, 1, none⟩ = some (.int .i64 (n0 : Int)) := (blk_cell IO.out.a 1).trans rfl
      have d2 : (n0 : Int) < 20000 := by have h1 := NO.out; omega
      have d3 : decide ((20000 : Int) ≤ (n0 : Int)) = false := decide_eq_false (by omega)
      clear h0 hp
      go_upto_region 19 with (fail)
      go_quiet (fail)
      go_wp2
      go_ret3
      exact ⟨_, n0, out0, rfl, by have := NO.out; omega, Kd.R_mono (Kd.R_drewN IO.out.r _) (fun k _ => trivial), pw_below_drewN IO.out.b _, PO.out.1, PO.out.2, fun q hq => by have := H0.out; omega⟩
end Go.Proofs.Ytgagbfaodeakaab.PMiniNeeds
