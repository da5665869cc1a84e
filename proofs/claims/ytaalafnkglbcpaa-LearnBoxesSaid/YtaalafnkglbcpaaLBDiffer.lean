/- Contracts of the learner: words, and the search for a word that the table tells wrongly. Own text of this claim. -/
import Derived.Test.YtaalafnkglbcpaaLBAsk
import Derived.Test.YtaalafnkglbcpaaLBMach
import Derived.Laws.EntriesVeiled
namespace Go.Proofs.Ytaalafnkglbcpaa.PL
open Go.RowKit Go.Proofs.YtaalafnkglbcpaaW.PrintWords Go.Proofs.YtaalafnkglbcpaaW.PrintLast Go.Proofs.YtaalafnkglbcpaaW.PrintMore
set_option linter.unusedVariables false
set_option linter.unusedSimpArgs false

/-- All words behind y of at most m letters more stand all the tests. -/
def AllStand (f G : List Int → List Int) (ins : Int) (way : List Int) (tests : List (List Int)) (y : List Int) (m : Nat) : Prop := ∀ v, InW ins v → v.length ≤ m → ∀ x ∈ tests, f (way ++ (y ++ v) ++ x) = G (way ++ (y ++ v) ++ x)
theorem allStand_step {f G : List Int → List Int} {ins : Int} {way : List Int} {tests : List (List Int)} {y : List Int} {m : Nat} (h0 : ∀ x ∈ tests, f (way ++ y ++ x) = G (way ++ y ++ x)) (h : ∀ a : Int, 0 ≤ a → a < shl .i64 1 ins → AllStand f G ins way tests (y ++ [a]) m) : AllStand f G ins way tests y (m + 1) := by
  intro v hv hl x hx
  cases v with
  | nil => rw [List.append_nil]; exact h0 x hx
  | cons a v =>
    have ha := hv a (by simp)
    have := h a ha.1 ha.2 v (fun b hb => hv b (by simp [hb])) (by simpa using hl) x hx
    rw [show y ++ [a] ++ v = y ++ a :: v by simp] at this
    exact this
theorem allStand_zero {f G : List Int → List Int} {ins : Int} {way : List Int} {tests : List (List Int)} {y : List Int} (h0 : ∀ x ∈ tests, f (way ++ y ++ x) = G (way ++ y ++ x)) : AllStand f G ins way tests y 0 := by
  intro v hv hl x hx
  have : v = [] := List.eq_nil_of_length_eq_zero (by omega)
  subst this
  rw [List.append_nil]; exact h0 x hx

/-- The five cells of the walk's closure. -/
structure Five (W : World) (gF gy gn gl gk g n : Nat) (x1 x2 x3 x4 v : Value) : Prop where
  cF : W.heap[gF]? = some (.cells #[.func (.func 78) #[] #[x1, x2, x3, x4]] 62 (0, 0))
  cy : W.heap[gy]? = some (.cells #[v] 22 (0, 0))
  cn : W.heap[gn]? = some (.cells #[.int .i64 (n : Int)] 3 (0, 0))
  cl : W.heap[gl]? = some (.cells #[.pointer (some ⟨g, 0, none⟩)] 90 (0, 0))
  ck : W.heap[gk]? = some (.cells #[.func (.func 91) #[] #[.pointer (some ⟨gF, 0, none⟩), .pointer (some ⟨gy, 0, none⟩), .pointer (some ⟨gn, 0, none⟩), .pointer (some ⟨gl, 0, none⟩), .pointer (some ⟨gk, 0, none⟩)]] 33 (0, 0))
/-- All words behind y of at most m letters more are good. -/
def AllG (Good : List Int → Prop) (ins : Int) (y : List Int) (m : Nat) : Prop := ∀ v, InW ins v → v.length ≤ m → Good (y ++ v)
theorem allG_zero {Good : List Int → Prop} {ins : Int} {y : List Int} (h : Good y) : AllG Good ins y 0 := by
  intro v hv hl
  have : v = [] := List.eq_nil_of_length_eq_zero (by omega)
  subst this
  rw [List.append_nil]; exact h
theorem allG_step {Good : List Int → Prop} {ins : Int} {y : List Int} {m : Nat} (h0 : Good y) (h : ∀ a : Int, 0 ≤ a → a < shl .i64 1 ins → AllG Good ins (y ++ [a]) m) : AllG Good ins y (m + 1) := by
  intro v hv hl
  cases v with
  | nil => rw [List.append_nil]; exact h0
  | cons a v =>
    have ha := hv a (by simp)
    have := h a ha.1 ha.2 v (fun b hb => hv b (by simp [hb])) (by simpa using hl)
    rw [show y ++ [a] ++ v = y ++ a :: v by simp] at this
    exact this
end Go.Proofs.Ytaalafnkglbcpaa.PL

namespace Go.Proofs.Ytaalafnkglbcpaa.PL
open Go.RowKit Go.Proofs.YtaalafnkglbcpaaW.PrintWords Go.Proofs.YtaalafnkglbcpaaW.PrintLast Go.Proofs.YtaalafnkglbcpaaW.PrintMore
set_option linter.unusedVariables false
set_option linter.unusedSimpArgs false
/-- How many words there are of at most m letters out of K. -/
def wc (K : Nat) : Nat → Nat
  | 0 => 1
  | m + 1 => 1 + K * wc K m
def WalkPost (I : Nat → World → Prop) (Bad : World → Prop) (Good : List Int → Prop) (S : Nat → Prop) (base gF gy gn gl gk g n : Nat) (x1 x2 x3 x4 : Value) (ins : Int) (y : List Int) (m c0 : Nat) (W : World) (e : Ending) (W' : World) : Prop :=
  (∀ i, i < base → ¬ S i → W'.heap[i]? = W.heap[i]?) ∧ (W.heap.size ≤ W'.heap.size ∧ Calm W W') ∧ ∃ v : Value, Five W' gF gy gn gl gk g n x1 x2 x3 x4 v ∧
    ((e = .returned (.bool true) ∧ I (c0 + wc (shl .i64 1 ins).toNat m) W' ∧ AllG Good ins y m ∧ Kd.R (Kd.int .i64) 3 W' base (fun k => k ≠ gF ∧ k ≠ gy ∧ k ≠ gn ∧ k ≠ gl ∧ k ≠ gk ∧ ¬ S k) v y) ∨ (e = .returned (.bool false) ∧ Bad W'))
/-- The callback's contract. -/
def Callb (I : Nat → World → Prop) (M : Nat) (Bad : World → Prop) (Good : List Int → Prop) (S : Nat → Prop) (n : Nat) (x1 x2 x3 x4 : Value) (ins : Int) : Prop :=
  ∀ (c0 : Nat) (W : World) (A : Option Addr) (c : Nat) (u : List Int), c0 + 1 ≤ M → I c0 W → (∀ W', Kept W W' S → Kd.C (Kd.int .i64) W' A u.length u) → u.length ≤ c → u.length ≤ n → InW ins u →
    Calls Try.prog 78 #[.slice A u.length c, x1, x2, x3, x4] W fun e W' => Kept W W' S ∧ ((e = .returned (.bool true) ∧ Good u ∧ I (c0 + 1) W') ∨ (e = .returned (.bool false) ∧ Bad W'))
set_option maxHeartbeats 4000000 in
set_option maxRecDepth 100000 in
theorem walk_zero (I : Nat → World → Prop) (M : Nat) (Bad : World → Prop) (Good : List Int → Prop) (S : Nat → Prop) (base gF gy gn gl gk g n : Nat) (x1 x2 x3 x4 : Value) (ins : Int) (hc : Callb I M Bad Good S n x1 x2 x3 x4 ins) (hS : ∀ k, S k → k < base) (hF : base ≤ gF ∧ base ≤ gy ∧ base ≤ gn ∧ base ≤ gl ∧ base ≤ gk)
    (c0 : Nat) (W : World) (v : Value) (y : List Int) (hM : c0 + 1 ≤ M) (hy : y.length = n) (hn : n ≤ 1000) (hi : InW ins y) (h5 : Five W gF gy gn gl gk g n x1 x2 x3 x4 v) (hr : Kd.R (Kd.int .i64) 3 W base (fun k => k ≠ gF ∧ k ≠ gy ∧ k ≠ gn ∧ k ≠ gl ∧ k ≠ gk ∧ ¬ S k) v y) (hI : I c0 W) :
    Calls Try.prog 91 #[.pointer (some ⟨gF, 0, none⟩), .pointer (some ⟨gy, 0, none⟩), .pointer (some ⟨gn, 0, none⟩), .pointer (some ⟨gl, 0, none⟩), .pointer (some ⟨gk, 0, none⟩)] W (WalkPost I Bad Good S base gF gy gn gl gk g n x1 x2 x3 x4 ins y 0 c0 W) := by
  obtain ⟨A, c, rfl⟩ := Kd.R_slice hr
  have C1 := Aside0.mk (hc c0 W A c y hM hI (Kd.C_kept_own hr (fun k hk => hk.2.2.2.2.2)) (Kd.R_reads' hr).2.1 (by omega) hi)
  have q0 : W.cell? ⟨gF, 0, none⟩ = some (.func (.func 78) #[] #[x1, x2, x3, x4]) := (blk_cell h5.cF 0).trans rfl
  have q1 : W.cell? ⟨gy, 0, none⟩ = some (.slice A y.length c) := (blk_cell h5.cy 0).trans rfl
  have H5 := Aside0.mk h5
  have HR := Aside0.mk hr
  have HS := Aside0.mk hS
  have HFF := Aside0.mk hF
  have HY := Aside0.mk hy
  have HN := Aside0.mk hn
  clear hr hc hS hF hy hi h5 hI hn hM
  go_enter Try.func91, Try.ntmps91
  go_wp2_with fail
  (with_reducible refine C1.out.mono ?_)
  rintro e w1 ⟨hk, hres⟩
  have K1 := Aside0.mk hk
  have F1 : Aside0 (Five w1 gF gy gn gl gk g n x1 x2 x3 x4 (.slice A y.length c)) := ⟨⟨blk_kept H5.out.cF hk (fun h => by have := HS.out _ h; have := HFF.out; omega), blk_kept H5.out.cy hk (fun h => by have := HS.out _ h; have := HFF.out; omega), blk_kept H5.out.cn hk (fun h => by have := HS.out _ h; have := HFF.out; omega), blk_kept H5.out.cl hk (fun h => by have := HS.out _ h; have := HFF.out; omega), blk_kept H5.out.ck hk (fun h => by have := HS.out _ h; have := HFF.out; omega)⟩⟩
  have R1 := Aside0.mk (Kd.R_kept HR.out hk (fun k h => h.2.2.2.2.2))
  clear hk q0 q1 C1
  rcases hres with ⟨rfl, hg, hI⟩ | ⟨rfl, hB⟩
  · have HG := Aside0.mk hg
    have HI := Aside0.mk hI
    clear hg hI
    have q1 : w1.cell? ⟨gy, 0, none⟩ = some (.slice A y.length c) := (blk_cell F1.out.cy 0).trans rfl
    have q2 : w1.cell? ⟨gn, 0, none⟩ = some (.int .i64 (n : Int)) := (blk_cell F1.out.cn 0).trans rfl
    have q3 : ((y.length : Int) == (n : Int)) = true := by rw [HY.out]; simp
    go_wp2
    go_ret
    exact ⟨fun i h1 h2 => K1.out.2 i (by have := HFF.out; have := blk_lt H5.out.cF; omega) h2, ⟨K1.out.1, K1.out.3⟩, _, F1.out, .inl ⟨rfl, HI.out, allG_zero HG.out, R1.out⟩⟩
  · have HB := Aside0.mk hB
    clear hB
    go_wp2
    go_ret
    exact ⟨fun i h1 h2 => K1.out.2 i (by have := HFF.out; have := blk_lt H5.out.cF; omega) h2, ⟨K1.out.1, K1.out.3⟩, _, F1.out, .inr ⟨rfl, HB.out⟩⟩
end Go.Proofs.Ytaalafnkglbcpaa.PL

namespace Go.Proofs.Ytaalafnkglbcpaa.PL
open Go.RowKit Go.Proofs.YtaalafnkglbcpaaW.PrintWords Go.Proofs.YtaalafnkglbcpaaW.PrintLast Go.Proofs.YtaalafnkglbcpaaW.PrintMore
set_option linter.unusedVariables false
set_option linter.unusedSimpArgs false
set_option maxHeartbeats 4000000 in
set_option maxRecDepth 100000 in
theorem walk_succ (I : Nat → World → Prop) (M : Nat) (Bad : World → Prop) (Good : List Int → Prop) (S : Nat → Prop) (base gF gy gn gl gk g n : Nat) (x1 x2 x3 x4 : Value) (ins : Int) (hc : Callb I M Bad Good S n x1 x2 x3 x4 ins) (hS : ∀ k, S k → k < base) (hF : base ≤ gF ∧ base ≤ gy ∧ base ≤ gn ∧ base ≤ gl ∧ base ≤ gk)
    (c0 : Nat) (W : World) (v : Value) (y : List Int) (m : Nat) (hM : c0 + wc (shl .i64 1 ins).toNat (m + 1) ≤ M) (hy : y.length + (m + 1) = n) (hn : n ≤ 1000) (hins : 0 ≤ ins ∧ ins ≤ 2) (hg : ∀ c W', I c W' → W'.cell? ⟨g, 0, none⟩ = some (.int .i64 ins)) (hIb : ∀ c W W', I c W → Below base W W' → I c W')
    (ih : ∀ (c0 : Nat) (W : World) (v : Value) (y : List Int), c0 + wc (shl .i64 1 ins).toNat m ≤ M → y.length + m = n → InW ins y → Five W gF gy gn gl gk g n x1 x2 x3 x4 v → Kd.R (Kd.int .i64) 3 W base (fun k => k ≠ gF ∧ k ≠ gy ∧ k ≠ gn ∧ k ≠ gl ∧ k ≠ gk ∧ ¬ S k) v y → I c0 W →
      Calls Try.prog 91 #[.pointer (some ⟨gF, 0, none⟩), .pointer (some ⟨gy, 0, none⟩), .pointer (some ⟨gn, 0, none⟩), .pointer (some ⟨gl, 0, none⟩), .pointer (some ⟨gk, 0, none⟩)] W (WalkPost I Bad Good S base gF gy gn gl gk g n x1 x2 x3 x4 ins y m c0 W)) (hi : InW ins y) (h5 : Five W gF gy gn gl gk g n x1 x2 x3 x4 v) (hr : Kd.R (Kd.int .i64) 3 W base (fun k => k ≠ gF ∧ k ≠ gy ∧ k ≠ gn ∧ k ≠ gl ∧ k ≠ gk ∧ ¬ S k) v y) (hI : I c0 W) :
    Calls Try.prog 91 #[.pointer (some ⟨gF, 0, none⟩), .pointer (some ⟨gy, 0, none⟩), .pointer (some ⟨gn, 0, none⟩), .pointer (some ⟨gl, 0, none⟩), .pointer (some ⟨gk, 0, none⟩)] W (WalkPost I Bad Good S base gF gy gn gl gk g n x1 x2 x3 x4 ins y (m + 1) c0 W) := by
  obtain ⟨A, c, rfl⟩ := Kd.R_slice hr
  have C1 := Aside0.mk (hc c0 W A c y (by unfold wc at hM; omega) hI (Kd.C_kept_own hr (fun k hk => hk.2.2.2.2.2)) (Kd.R_reads' hr).2.1 (by omega) hi)
  have q0 : W.cell? ⟨gF, 0, none⟩ = some (.func (.func 78) #[] #[x1, x2, x3, x4]) := (blk_cell h5.cF 0).trans rfl
  have q1 : W.cell? ⟨gy, 0, none⟩ = some (.slice A y.length c) := (blk_cell h5.cy 0).trans rfl
  have H5 := Aside0.mk h5
  have HR := Aside0.mk hr
  have HIW := Aside0.mk hi
  have HS := Aside0.mk hS
  have HFF := Aside0.mk hF
  have HY := Aside0.mk hy
  have HI0 := Aside0.mk hins
  have HG0 := Aside0.mk hg
  have HIB := Aside0.mk hIb
  have IH := Aside0.mk ih
  have HN := Aside0.mk hn
  have HM := Aside0.mk hM
  clear hr hc hS hF hy hi h5 hI hn hins hg hIb ih hM
  go_enter Try.func91, Try.ntmps91
  go_wp2_with fail
  (with_reducible refine C1.out.mono ?_)
  rintro e w1 ⟨hk, hres⟩
  have K1 := Aside0.mk hk
  have F1 : Aside0 (Five w1 gF gy gn gl gk g n x1 x2 x3 x4 (.slice A y.length c)) := ⟨⟨blk_kept H5.out.cF hk (fun h => by have := HS.out _ h; have := HFF.out; omega), blk_kept H5.out.cy hk (fun h => by have := HS.out _ h; have := HFF.out; omega), blk_kept H5.out.cn hk (fun h => by have := HS.out _ h; have := HFF.out; omega), blk_kept H5.out.cl hk (fun h => by have := HS.out _ h; have := HFF.out; omega), blk_kept H5.out.ck hk (fun h => by have := HS.out _ h; have := HFF.out; omega)⟩⟩
  have R1 := Aside0.mk (Kd.R_kept HR.out hk (fun k h => h.2.2.2.2.2))
  clear hk q0 q1 C1
  rcases hres with ⟨rfl, hg, hI⟩ | ⟨rfl, hB⟩
  · have HG := Aside0.mk hg
    have HI := Aside0.mk hI
    clear hg hI
    have q1 : w1.cell? ⟨gy, 0, none⟩ = some (.slice A y.length c) := (blk_cell F1.out.cy 0).trans rfl
    have q2 : w1.cell? ⟨gn, 0, none⟩ = some (.int .i64 (n : Int)) := (blk_cell F1.out.cn 0).trans rfl
    have q3 : ((y.length : Int) == (n : Int)) = false := beq_eq_false_iff_ne.mpr (by have := HY.out; omega)
    have q4 : w1.cell? ⟨gl, 0, none⟩ = some (.pointer (some ⟨g, 0, none⟩)) := (blk_cell F1.out.cl 0).trans rfl
    have q5 := HG0.out _ w1 HI.out
    have q6 : decide (ins < 0) = false := decide_eq_false (by have := HI0.out; omega)
    have q7 : 0 ≤ ins := HI0.out.1
    have hu93 := Try.underlying93
    obtain ⟨K, hK1, hK2, hK3⟩ : ∃ K : Nat, wrap64 (2 ^ min ins.toNat 64) = (K : Int) ∧ shl .i64 1 ins = (K : Int) ∧ K ≤ 4 := by
      have e : shl .i64 1 ins = wrap64 (2 ^ min ins.toNat 64) := by unfold shl; rw [i64_w, Int.one_mul]; rfl
      have : ins = 0 ∨ ins = 1 ∨ ins = 2 := by have := HI0.out; omega
      rcases this with rfl | rfl | rfl
      · exact ⟨1, by decide +kernel, by decide +kernel, by decide⟩
      · exact ⟨2, by decide +kernel, by decide +kernel, by decide⟩
      · exact ⟨4, by decide +kernel, by decide +kernel, by decide⟩
    have HK2 := Aside0.mk hK2
    have HK3 := Aside0.mk hK3
    clear hK2 hK3
    go_wp2_with fail
    rw [hK1]
    clear hK1
    have hK4 : (K : Int) ≤ 4 := by have := HK3.out; omega
    clear q1 q2 q3 q4 q5 q6 q7
    go_loopw [20] (fun v20 wr => ∃ j : Nat, j ≤ K ∧ v20 = .int .i64 j ∧ Aside0 (I (c0 + 1 + j * wc K m) wr) ∧ Aside0 (∀ i, i < base → ¬ S i → wr.heap[i]? = W.heap[i]?) ∧ Aside0 (W.heap.size ≤ wr.heap.size ∧ Calm W wr) ∧ Aside0 (∃ (A : Option Addr) (c : Nat), Five wr gF gy gn gl gk g n x1 x2 x3 x4 (.slice A y.length c) ∧ Kd.R (Kd.int .i64) 3 wr base (fun k => k ≠ gF ∧ k ≠ gy ∧ k ≠ gn ∧ k ≠ gl ∧ k ≠ gk ∧ ¬ S k) (.slice A y.length c) y) ∧ Aside0 (∀ a : Int, 0 ≤ a → a < (j : Int) → AllG Good ins (y ++ [a]) m)) (fun v20 _ => K - (intOf v20).toNat)
    case atStart => exact ⟨0, by omega, rfl, ⟨by rw [Nat.zero_mul]; exact HI.out⟩, ⟨fun i h1 h2 => K1.out.2 i (by have := HFF.out; have := blk_lt H5.out.cF; omega) h2⟩, ⟨K1.out.1, K1.out.3⟩, ⟨_, _, F1.out, R1.out⟩, ⟨fun a h1 h2 => by omega⟩⟩
    case round =>
      obtain ⟨j, hj, rfl, HJI, HJF, HJZ, HJ5, HJG⟩ := hrel
      obtain ⟨w2, rfl⟩ : ∃ w2 : World, w2 = wr := ⟨_, rfl⟩
      obtain ⟨A2, c2, f2, r2⟩ := HJ5.out
      have F2 := Aside0.mk f2
      have R2 := Aside0.mk r2
      clear f2 r2 HJ5 HI K1 F1 R1 HR H5
      by_cases hlt : j < K
      · have HLT := Aside0.mk hlt
        have q1 : w2.cell? ⟨gy, 0, none⟩ = some (.slice A2 y.length c2) := (blk_cell F2.out.cy 0).trans rfl
        have hcl : ((y.length + 1 : Nat) : Int) ≤ 1000 := by have := HY.out; have := HN.out; omega
        go_wp2_with ((with_reducible refine gate_builtin (b := .append) (xs := #[.tmp 23, .tmp 25]) rfl ?_); at_builtin; refine Kd.R_append (Kd.int .i64) (w0 := w2) (W := w2) base rfl (.tmp 23) (.tmp 25) 22 3 (.int .i64 0) 8 rfl Try.underlying22 info3 rfl (by decide) (by omega) (.slice A2 y.length c2) y (j : Int) [.int .i64 (j : Int)] (fun k => k ≠ gF ∧ k ≠ gy ∧ k ≠ gn ∧ k ≠ gl ∧ k ≠ gk ∧ ¬ S k) (fun _ => False) rfl rfl ?aM (fun _ h => h.elim) ?aF ?aO ?aB ?aS ?aL ?_; (case aM => rfl); (case aF => (intro k hk; have := HS.out k; have := HFF.out; have h1 := blk_lt F2.out.cF; have h2 := blk_lt F2.out.cy; have h3 := blk_lt F2.out.cn; have h4 := blk_lt F2.out.cl; have h5 := blk_lt F2.out.ck; exact ⟨by omega, by omega, by omega, by omega, by omega, fun h => by have := HS.out k h; omega⟩)); (case aO => exact R2.out); (case aB => exact Below.refl _ _); (case aS => have h1 := blk_lt F2.out.cF; have := HFF.out; omega); (case aL => have := HY.out; have := HN.out; omega); intro v7 w7 ho hb hg hat; have B7 := Aside0.mk hb; have G7 := Aside0.mk hg; have O7 := Aside0.mk ho; clear ho hb hg hat; obtain ⟨A7, c7, e7⟩ := Kd.R_slice O7.out; subst e7; have r1 : w7.cell? ⟨gy, 0, none⟩ = some (.slice A2 y.length c2) := (blk_cell (blk_grown F2.out.cy G7.out (Kd.R_away R2.out (fun k hk => hk.2.1))) 0).trans rfl; have r2 : w7.frozen? ⟨gy, 0, none⟩ = false := blk_frozen (blk_grown F2.out.cy G7.out (Kd.R_away R2.out (fun k hk => hk.2.1))) 0; have r3 : (w7.setCell ⟨gy, 0, none⟩ (.slice A7 (y.length + 1) c7)).cell? ⟨gk, 0, none⟩ = some (.func (.func 91) #[] #[.pointer (some ⟨gF, 0, none⟩), .pointer (some ⟨gy, 0, none⟩), .pointer (some ⟨gn, 0, none⟩), .pointer (some ⟨gl, 0, none⟩), .pointer (some ⟨gk, 0, none⟩)]) := (blk_cell (blk_far (blk_grown F2.out.ck G7.out (Kd.R_away R2.out (fun k hk => hk.2.2.2.2.1))) (p := ⟨gy, 0, none⟩) (blk_ne F2.out.ck F2.out.cy (by decide)) _) 0).trans rfl)
        have hz7 : (y ++ [(j : Int)]).length = y.length + 1 := by simp
        have F7 : ∀ u, Five (w7.setCell ⟨gy, 0, none⟩ u) gF gy gn gl gk g n x1 x2 x3 x4 u := fun u =>
          ⟨blk_far (blk_grown F2.out.cF G7.out (Kd.R_away R2.out (fun k hk => hk.1))) (p := ⟨gy, 0, none⟩) (blk_ne F2.out.cF F2.out.cy (by decide)) _,
           blk_put (blk_grown F2.out.cy G7.out (Kd.R_away R2.out (fun k hk => hk.2.1))) 0 _ rfl,
           blk_far (blk_grown F2.out.cn G7.out (Kd.R_away R2.out (fun k hk => hk.2.2.1))) (p := ⟨gy, 0, none⟩) (blk_ne F2.out.cn F2.out.cy (by decide)) _,
           blk_far (blk_grown F2.out.cl G7.out (Kd.R_away R2.out (fun k hk => hk.2.2.2.1))) (p := ⟨gy, 0, none⟩) (blk_ne F2.out.cl F2.out.cy (by decide)) _,
           blk_far (blk_grown F2.out.ck G7.out (Kd.R_away R2.out (fun k hk => hk.2.2.2.2.1))) (p := ⟨gy, 0, none⟩) (blk_ne F2.out.ck F2.out.cy (by decide)) _⟩
        have F8 := Aside0.mk (F7 (.slice A7 (y.length + 1) c7))
        have R8 := Aside0.mk (Kd.R_far (p := ⟨gy, 0, none⟩) O7.out (fun k hk => hk.2.1) (.slice A7 (y.length + 1) c7))
        rw [hz7] at R8
        have B8 : Aside0 (Below base w2 (w7.setCell ⟨gy, 0, none⟩ (.slice A7 (y.length + 1) c7))) := ⟨B7.out.setCell (show base ≤ gy from HFF.out.2.1) _⟩
        have HZ7 := Aside0.mk hz7
        clear r1 r2 r3 q1 F7 hz7 O7 G7 B7 R2
        generalize (w7.setCell ⟨gy, 0, none⟩ (.slice A7 (y.length + 1) c7)) = w8 at *
        have HC9 : Aside0 (c0 + 1 + j * wc K m + wc (shl .i64 1 ins).toNat m ≤ M) := ⟨by
          have h1 := HM.out
          rw [HK2.out] at h1 ⊢
          simp only [wc, Int.toNat_natCast] at h1 ⊢
          have h2 := Nat.mul_le_mul_right (wc K m) (show j + 1 ≤ K from HLT.out)
          rw [Nat.add_mul, Nat.one_mul] at h2
          omega⟩
        have C9 := Aside0.mk (IH.out (c0 + 1 + j * wc K m) w8 _ (y ++ [(j : Int)]) HC9.out (by have := HY.out; rw [HZ7.out]; omega) (fun b hb => by
          rcases List.mem_append.1 hb with hb | hb
          · exact HIW.out b hb
          · rcases List.mem_singleton.1 hb with rfl
            have := HLT.out; have := HK2.out; omega) F8.out R8.out (HIB.out _ _ _ HJI.out B8.out))
        (with_reducible refine C9.out.mono ?_)
        rintro e w9 ⟨hk1, hk2, v9, f9, hres⟩
        have KF := Aside0.mk hk1
        have KZ := Aside0.mk hk2
        have F9 := Aside0.mk f9
        clear hk1 hk2 f9 C9 F2 F8 R8
        rcases hres with ⟨rfl, hI, hg, r9⟩ | ⟨rfl, hB⟩
        · have R9 := Aside0.mk r9
          have hr9 := Kd.R_slice r9
          rw [HZ7.out] at hr9
          obtain ⟨A9, c9, e9⟩ := hr9
          subst e9
          clear r9
          have HI9 := Aside0.mk hI
          have HG9 := Aside0.mk hg
          clear hI hg
          have r1 : w9.cell? ⟨gy, 0, none⟩ = some (.slice A9 (y.length + 1) c9) := (blk_cell F9.out.cy 0).trans rfl
          have r2 : w9.frozen? ⟨gy, 0, none⟩ = false := blk_frozen F9.out.cy 0
          have hc9 : y.length + 1 ≤ c9 := by have := (Kd.R_reads' R9.out).2.1; exact this
          go_wp2
          have hsl := Kd.R_take (m := y.length) R9.out (by rw [HZ7.out]; omega)
          rw [List.take_left'  rfl] at hsl
          have F10 : Five (w9.setCell ⟨gy, 0, none⟩ (.slice A9 y.length c9)) gF gy gn gl gk g n x1 x2 x3 x4 (.slice A9 y.length c9) :=
            ⟨blk_far F9.out.cF (p := ⟨gy, 0, none⟩) (blk_ne F9.out.cF F9.out.cy (by decide)) _,
             blk_put F9.out.cy 0 _ rfl,
             blk_far F9.out.cn (p := ⟨gy, 0, none⟩) (blk_ne F9.out.cn F9.out.cy (by decide)) _,
             blk_far F9.out.cl (p := ⟨gy, 0, none⟩) (blk_ne F9.out.cl F9.out.cy (by decide)) _,
             blk_far F9.out.ck (p := ⟨gy, 0, none⟩) (blk_ne F9.out.ck F9.out.cy (by decide)) _⟩
          have hgy : base ≤ gy := HFF.out.2.1
          have B10 : Below base w9 (w9.setCell ⟨gy, 0, none⟩ (.slice A9 y.length c9)) := (Below.refl _ _).setCell hgy _
          go_roundw
          case rel => exact ⟨j + 1, by have := HLT.out; omega, by go_num, ⟨by have h := HIB.out _ _ _ HI9.out B10; rw [HK2.out, Int.toNat_natCast, Nat.add_assoc, ← Nat.succ_mul] at h; exact h⟩, ⟨fun i h1 h2 => (B10.block i h1).trans ((KF.out i h1 h2).trans ((B8.out.block i h1).trans (HJF.out i h1 h2)))⟩, ⟨Nat.le_trans (Nat.le_trans HJZ.out.1 B8.out.size) (Nat.le_trans KZ.out.1 B10.size), ((HJZ.out.2.trans (Calm.below B8.out)).trans KZ.out.2).trans (Calm.below B10)⟩, ⟨A9, c9, F10, Kd.R_far (p := ⟨gy, 0, none⟩) hsl (fun k hk => hk.2.1) _⟩, ⟨fun a h1 h2 => by
            rcases Int.lt_or_le a (j : Int) with h | h
            · exact HJG.out a h1 h
            · obtain rfl : a = (j : Int) := by omega
              exact HG9.out⟩⟩
          case measure => simp [intOf]; omega
        · have HB := Aside0.mk hB
          clear hB
          go_wp2
          go_ret
          exact ⟨fun i h1 h2 => (KF.out i h1 h2).trans ((B8.out.block i h1).trans (HJF.out i h1 h2)), ⟨Nat.le_trans (Nat.le_trans HJZ.out.1 B8.out.size) KZ.out.1, (HJZ.out.2.trans (Calm.below B8.out)).trans KZ.out.2⟩, _, F9.out, .inr ⟨rfl, HB.out⟩⟩
      · have hjk : j = K := by omega
        subst hjk
        go_wp2
        go_ret
        exact ⟨HJF.out, HJZ.out, _, F2.out, .inl ⟨rfl, by have h := HJI.out; rw [HK2.out, Int.toNat_natCast, wc, ← Nat.add_assoc]; exact h, allG_step HG.out (fun a h1 h2 => HJG.out a h1 (by rwa [HK2.out] at h2)), R2.out⟩⟩
  · have HB := Aside0.mk hB
    clear hB
    go_wp2
    go_ret
    exact ⟨fun i h1 h2 => K1.out.2 i (by have := HFF.out; have := blk_lt H5.out.cF; omega) h2, ⟨K1.out.1, K1.out.3⟩, _, F1.out, .inr ⟨rfl, HB.out⟩⟩
end Go.Proofs.Ytaalafnkglbcpaa.PL

namespace Go.Proofs.Ytaalafnkglbcpaa.PL
open Go.RowKit Go.Proofs.YtaalafnkglbcpaaW.PrintWords Go.Proofs.YtaalafnkglbcpaaW.PrintLast Go.Proofs.YtaalafnkglbcpaaW.PrintMore
set_option linter.unusedVariables false
set_option linter.unusedSimpArgs false
theorem walk_all (I : Nat → World → Prop) (M : Nat) (Bad : World → Prop) (Good : List Int → Prop) (S : Nat → Prop) (base gF gy gn gl gk g n : Nat) (x1 x2 x3 x4 : Value) (ins : Int) (hc : Callb I M Bad Good S n x1 x2 x3 x4 ins) (hS : ∀ k, S k → k < base) (hF : base ≤ gF ∧ base ≤ gy ∧ base ≤ gn ∧ base ≤ gl ∧ base ≤ gk)
    (hn : n ≤ 1000) (hins : 0 ≤ ins ∧ ins ≤ 2) (hg : ∀ c W', I c W' → W'.cell? ⟨g, 0, none⟩ = some (.int .i64 ins)) (hIb : ∀ c W W', I c W → Below base W W' → I c W') :
    ∀ (m c0 : Nat) (W : World) (v : Value) (y : List Int), c0 + wc (shl .i64 1 ins).toNat m ≤ M → y.length + m = n → InW ins y → Five W gF gy gn gl gk g n x1 x2 x3 x4 v → Kd.R (Kd.int .i64) 3 W base (fun k => k ≠ gF ∧ k ≠ gy ∧ k ≠ gn ∧ k ≠ gl ∧ k ≠ gk ∧ ¬ S k) v y → I c0 W →
      Calls Try.prog 91 #[.pointer (some ⟨gF, 0, none⟩), .pointer (some ⟨gy, 0, none⟩), .pointer (some ⟨gn, 0, none⟩), .pointer (some ⟨gl, 0, none⟩), .pointer (some ⟨gk, 0, none⟩)] W (WalkPost I Bad Good S base gF gy gn gl gk g n x1 x2 x3 x4 ins y m c0 W) := by
  intro m
  induction m with
  | zero => intro c0 W v y hM hy hi h5 hr hI; exact walk_zero I M Bad Good S base gF gy gn gl gk g n x1 x2 x3 x4 ins hc hS hF c0 W v y hM (by omega) hn hi h5 hr hI
  | succ m ih => intro c0 W v y hM hy hi h5 hr hI; exact walk_succ I M Bad Good S base gF gy gn gl gk g n x1 x2 x3 x4 ins hc hS hF c0 W v y m hM hy hn hins hg hIb ih hi h5 hr hI
theorem five_new (W : World) (o0 o1 o2 o3 o4 : Obj) : (((((W.alloc o0).alloc o1).alloc o2).alloc o3).alloc o4).heap[W.heap.size]? = some o0 ∧ (((((W.alloc o0).alloc o1).alloc o2).alloc o3).alloc o4).heap[W.heap.size + 1]? = some o1 ∧ (((((W.alloc o0).alloc o1).alloc o2).alloc o3).alloc o4).heap[W.heap.size + 1 + 1]? = some o2 ∧ (((((W.alloc o0).alloc o1).alloc o2).alloc o3).alloc o4).heap[W.heap.size + 1 + 1 + 1]? = some o3 ∧ (((((W.alloc o0).alloc o1).alloc o2).alloc o3).alloc o4).heap[W.heap.size + 1 + 1 + 1 + 1]? = some o4 := by
  have hz : ∀ (V : World) (o : Obj), (V.alloc o).heap.size = V.heap.size + 1 := fun V o => by simp
  have h0 := blk_new W o0
  have h1 := blk_new (W.alloc o0) o1
  have h2 := blk_new ((W.alloc o0).alloc o1) o2
  have h3 := blk_new (((W.alloc o0).alloc o1).alloc o2) o3
  have h4 := blk_new ((((W.alloc o0).alloc o1).alloc o2).alloc o3) o4
  simp only [hz] at h1 h2 h3 h4
  exact ⟨blk_alloc (blk_alloc (blk_alloc (blk_alloc h0 _) _) _) _, blk_alloc (blk_alloc (blk_alloc h1 _) _) _, blk_alloc (blk_alloc h2 _) _, blk_alloc h3 _, h4⟩
set_option maxHeartbeats 4000000 in
set_option maxRecDepth 100000 in
theorem words_calls (I : Nat → World → Prop) (M : Nat) (Bad : World → Prop) (Good : List Int → Prop) (S : Nat → Prop) (g n : Nat) (x1 x2 x3 x4 : Value) (ins : Int) (W : World) (hc : Callb I M Bad Good S n x1 x2 x3 x4 ins) (hS : ∀ k, S k → k < W.heap.size)
    (hn : n ≤ 1000) (hins : 0 ≤ ins ∧ ins ≤ 2) (hg : ∀ c W', I c W' → W'.cell? ⟨g, 0, none⟩ = some (.int .i64 ins)) (hIb : ∀ c W1 W2, I c W1 → Below W.heap.size W1 W2 → I c W2) (c0 : Nat) (hM : c0 + wc (shl .i64 1 ins).toNat n ≤ M) (hI : I c0 W) :
    Calls Try.prog 77 #[.pointer (some ⟨g, 0, none⟩), .int .i64 (n : Int), .func (.func 78) #[] #[x1, x2, x3, x4]] W fun e W' => Kept W W' S ∧ ((e = .returned (.bool true) ∧ I (c0 + wc (shl .i64 1 ins).toNat n) W' ∧ AllG Good ins [] n) ∨ (e = .returned (.bool false) ∧ Bad W')) := by
  have C1 := Aside0.mk (walk_all I M Bad Good S W.heap.size (W.heap.size + 1 + 1) (W.heap.size + 1 + 1 + 1) (W.heap.size + 1) W.heap.size (W.heap.size + 1 + 1 + 1 + 1) g n x1 x2 x3 x4 ins hc hS (by omega) hn hins hg hIb n c0)
  have HIB := Aside0.mk hIb
  have HI := Aside0.mk hI
  have HM := Aside0.mk hM
  clear hc hS hn hins hg hIb hI hM
  go_enter Try.func77, Try.ntmps77
  go_wp2_with fail
  have h5 := five_new W (.cells #[.pointer (some ⟨g, 0, none⟩)] 90) (.cells #[.int .i64 (n : Int)] 3) (.cells #[.func (.func 78) #[] #[x1, x2, x3, x4]] 62) (.cells #[.slice none 0 0] 22) (.cells #[.func (.func 91) #[] #[.pointer (some ⟨W.heap.size + 1 + 1, 0, none⟩), .pointer (some ⟨W.heap.size + 1 + 1 + 1, 0, none⟩), .pointer (some ⟨W.heap.size + 1, 0, none⟩), .pointer (some ⟨W.heap.size, 0, none⟩), .pointer (some ⟨W.heap.size + 1 + 1 + 1 + 1, 0, none⟩)]] 33)
  have B5 : Below W.heap.size W (((((W.alloc (.cells #[.pointer (some ⟨g, 0, none⟩)] 90)).alloc (.cells #[.int .i64 (n : Int)] 3)).alloc (.cells #[.func (.func 78) #[] #[x1, x2, x3, x4]] 62)).alloc (.cells #[.slice none 0 0] 22)).alloc (.cells #[.func (.func 91) #[] #[.pointer (some ⟨W.heap.size + 1 + 1, 0, none⟩), .pointer (some ⟨W.heap.size + 1 + 1 + 1, 0, none⟩), .pointer (some ⟨W.heap.size + 1, 0, none⟩), .pointer (some ⟨W.heap.size, 0, none⟩), .pointer (some ⟨W.heap.size + 1 + 1 + 1 + 1, 0, none⟩)]] 33)) := below_alloc (below_alloc (below_alloc (below_alloc (below_alloc (Below.refl _ _) _) _) _) _) _
  have C2 := Aside0.mk (C1.out _ (.slice none 0 0) [] HM.out (by simp) (fun b hb => by cases hb) ⟨h5.2.2.1, h5.2.2.2.1, h5.2.1, h5.1, h5.2.2.2.2⟩ (Kd.R_nil _ _ _ _ _) (HIB.out _ _ _ HI.out B5))
  have B6 := Aside0.mk B5
  clear h5 B5 C1
  (with_reducible refine C2.out.mono ?_)
  rintro e w9 ⟨hk1, hk2, v9, f9, hres⟩
  have K9 : Aside0 (Kept W w9 S) := ⟨⟨Nat.le_trans B6.out.size hk2.1, fun i h1 h2 => (hk1 i h1 h2).trans (B6.out.block i h1), (Calm.below B6.out).trans hk2.2⟩⟩
  clear hk1 hk2 f9 C2
  rcases hres with ⟨rfl, hI, hg, -⟩ | ⟨rfl, hB⟩
  · have R := Aside0.mk (And.intro hI hg)
    clear hI hg
    go_wp2
    go_ret
    exact ⟨K9.out, .inl ⟨rfl, R.out.1, R.out.2⟩⟩
  · have R := Aside0.mk hB
    clear hB
    go_wp2
    go_ret
    exact ⟨K9.out, .inr ⟨rfl, R.out⟩⟩
end Go.Proofs.Ytaalafnkglbcpaa.PL

namespace Go.Proofs.Ytaalafnkglbcpaa.PL
open Go.RowKit Go.Proofs.YtaalafnkglbcpaaW.PrintWords Go.Proofs.YtaalafnkglbcpaaW.PrintLast Go.Proofs.YtaalafnkglbcpaaW.PrintMore
set_option linter.unusedVariables false
set_option linter.unusedSimpArgs false
/-- What the search for a test leaves. -/
def DifPost (f G : List Int → List Int) (g gb : Nat) (ins outs asked : Int) (N : Nat) (tv wv : Value) (ways tests : List (List Int)) (w : World) (e : Ending) (w' : World) : Prop :=
  ∃ v, e = .returned v ∧ Kept w w' (fun k => k = g) ∧ (∃ n : Nat, n ≤ ways.length * (wc (shl .i64 1 ins).toNat N * tests.length) ∧ LB w' g ins outs gb (asked + n) tv wv) ∧
    ((v = .slice none 0 0 ∧ ∀ way ∈ ways, AllG (fun y => ∀ x ∈ tests, f (way ++ y ++ x) = G (way ++ y ++ x)) ins [] N) ∨
     ∃ way ∈ ways, ∃ y x, InW ins y ∧ y.length ≤ N ∧ x ∈ tests ∧ f (way ++ y ++ x) ≠ G (way ++ y ++ x) ∧ ∃ A c, v = .slice A (way ++ y ++ x).length c ∧ Kd.R (Kd.int .i64) 3 w' w.heap.size (fun k => k ≠ g) v (way ++ y ++ x))
/-- What the search carries from word to word. -/
def DI (g gb gf : Nat) (ins outs asked : Int) (tv wv : Value) (L : Nat) (w1 : World) (c : Nat) (W : World) : Prop :=
  (∃ n : Nat, n ≤ c * L ∧ LB W g ins outs gb (asked + n) tv wv) ∧ Kept w1 W (fun k => k = g ∨ k = gf) ∧ W.heap[gf]? = some (.cells #[.slice none 0 0] 22 (0, 0))
/-- What it has where a word is told wrongly. -/
def DB (f G : List Int → List Int) (g gb gf : Nat) (ins outs asked : Int) (tv wv : Value) (N M base : Nat) (way : List Int) (tests : List (List Int)) (w1 : World) (W : World) : Prop :=
  (∃ n : Nat, n ≤ M * tests.length ∧ LB W g ins outs gb (asked + n) tv wv) ∧ Kept w1 W (fun k => k = g ∨ k = gf) ∧
    ∃ y x, InW ins y ∧ y.length ≤ N ∧ x ∈ tests ∧ f (way ++ y ++ x) ≠ G (way ++ y ++ x) ∧ ∃ (A : Option Addr) (c : Nat), W.heap[gf]? = some (.cells #[.slice A (way ++ y ++ x).length c] 22 (0, 0)) ∧ Kd.R (Kd.int .i64) 3 W base (fun k => k ≠ g ∧ k ≠ gf) (.slice A (way ++ y ++ x).length c) (way ++ y ++ x)

theorem callb_test (f G : List Int → List Int) (g gb p gw gt gf : Nat) (ins outs asked : Int) (wv : Value) (A0 A9 Aw At : Option Addr) (c0 c9 cw ct : Nat) (t T : List (List S77)) (way : List Int) (tests : List (List Int)) (N M base : Nat) (w1 : World)
    (hgb : gb ≠ g ∧ gb ≠ gf) (hp : p ≠ g ∧ p ≠ gf) (hgw : gw ≠ g ∧ gw ≠ gf) (hgt : gt ≠ g ∧ gt ≠ gf) (hgf : gf ≠ g) (hbase : base ≤ w1.heap.size)
    (hb : w1.heap[gb]? = some (.cells #[.int .i64 ins, .int .i64 outs, .slice A0 t.length c0] 25 (0, 0)))
    (bp : w1.heap[p]? = some (.cells #[.pointer (some ⟨g, 0, none⟩)] 90 (0, 0))) (bw : w1.heap[gw]? = some (.cells #[.slice Aw way.length cw] 22 (0, 0))) (bt : w1.heap[gt]? = some (.cells #[.int .i64 ins, .int .i64 outs, .slice A9 T.length c9] 25 (0, 0)))
    (ht : ∀ W', Kept w1 W' (fun k => k = g ∨ k = gf) → Kd.C (Kd.slice 77 k77) W' A0 t.length t) (hc0 : t.length ≤ c0) (hT : ∀ W', Kept w1 W' (fun k => k = g ∨ k = gf) → Kd.C (Kd.slice 77 k77) W' A9 T.length T) (hc9 : T.length ≤ c9)
    (hw : ∀ W', Kept w1 W' (fun k => k = g ∨ k = gf) → Kd.C (Kd.int .i64) W' Aw way.length way) (hcw : way.length ≤ cw)
    (htt : ∀ W', Kept w1 W' (fun k => k = g ∨ k = gf) → Kd.C (Kd.slice 3 (Kd.int .i64)) W' At tests.length tests) (htl : tests.length ≤ 1000) (hwl : way.length ≤ 1000) (hN : N ≤ 1000) (htw : ∀ x ∈ tests, 1 ≤ x.length ∧ x.length ≤ 1000)
    (hf : ∀ y, InW ins y → y.length ≤ N → ∀ x ∈ tests, Asks ins outs t f (way ++ y ++ x)) (hG : ∀ y, InW ins y → y.length ≤ N → ∀ x ∈ tests, Asks ins outs T G (way ++ y ++ x)) (ho : 0 ≤ outs ∧ outs ≤ 10) (ha : 0 ≤ asked ∧ asked + (M * tests.length : Nat) + 1000 ≤ 1000000000000000) :
    Callb (DI g gb gf ins outs asked (.slice At tests.length ct) wv tests.length w1) M (DB f G g gb gf ins outs asked (.slice At tests.length ct) wv N M base way tests w1) (fun y => ∀ x ∈ tests, f (way ++ y ++ x) = G (way ++ y ++ x)) (fun k => k = g ∨ k = gf) N (.pointer (some ⟨p, 0, none⟩)) (.pointer (some ⟨gw, 0, none⟩)) (.pointer (some ⟨gt, 0, none⟩)) (.pointer (some ⟨gf, 0, none⟩)) ins := by
  rintro c W A c' u hM ⟨⟨n, hn, hL⟩, hK, hF⟩ hu hc' hun huw
  have hmul : (c + 1) * tests.length ≤ M * tests.length := Nat.mul_le_mul_right _ hM
  rw [Nat.add_mul, Nat.one_mul] at hmul
  refine (test_calls f G g gb p gw gt gf ins outs (asked + n) wv A0 A9 Aw A At c0 c9 cw c' ct t T way u tests W hL hgb hp hgw hgt hgf (blk_kept hb hK (fun h => h.elim hgb.1 hgb.2)) (blk_kept bp hK (fun h => h.elim hp.1 hp.2)) (blk_kept bw hK (fun h => h.elim hgw.1 hgw.2)) (blk_kept bt hK (fun h => h.elim hgt.1 hgt.2)) hF
    (fun W' h => ht W' (hK.then_ h (fun _ h => .inl h))) hc0 (fun W' h => hT W' (hK.then_ h (fun _ h => .inl h))) hc9 (fun W' h => hw W' (hK.then_ h (fun _ h => .inl h))) hcw hu hc' (fun W' h => htt W' (hK.then_ h (fun _ h => .inl h))) htl ⟨hwl, by omega⟩ htw (hf u huw hun) (hG u huw hun) ho ⟨by omega, by omega⟩).mono ?_
  rintro e W' ⟨m, hm, hL', hK', hres⟩
  have hL2 : LB W' g ins outs gb (asked + ((n + m : Nat) : Int)) (.slice At tests.length ct) wv := by rw [show asked + ((n + m : Nat) : Int) = asked + n + m by omega]; exact hL'
  refine ⟨hK', ?_⟩
  rcases hres with ⟨rfl, hg, hgf'⟩ | ⟨rfl, x, hx, hne, A3, c3, h1, h2⟩
  · exact .inl ⟨rfl, hg, ⟨n + m, by rw [Nat.add_mul, Nat.one_mul]; omega, hL2⟩, hK.then_ hK' (fun _ h => .inl h), hgf'.trans hF⟩
  · exact .inr ⟨rfl, ⟨n + m, by omega, hL2⟩, hK.then_ hK' (fun _ h => .inl h), u, x, huw, hun, hx, hne, A3, c3, h1, Kd.R_lower h2 (Nat.le_trans hbase hK.1)⟩
theorem or_bool {e : Ending} {p q : Prop} (h : (e = .returned (.bool true) ∧ p) ∨ (e = .returned (.bool false) ∧ q)) : ∃ b : Bool, e = .returned (.bool b) ∧ ((b = true ∧ p) ∨ (b = false ∧ q)) := by
  rcases h with ⟨h, hp⟩ | ⟨h, hq⟩
  · exact ⟨true, h, .inl ⟨rfl, hp⟩⟩
  · exact ⟨false, h, .inr ⟨rfl, hq⟩⟩
theorem emptied2 (W : World) (g : Nat) : ∃ W' : World, W'.heap.size = W.heap.size ∧ (∀ k, k ≠ g → W'.heap[k]? = W.heap[k]?) ∧ Calm W W' ∧ ∀ a : Addr, a.block = g → W'.cell? a = none := by
  refine ⟨{ W with heap := W.heap.setIfInBounds g (.cells #[] 0) }, by simp, fun k hk => by simp [Ne.symm hk], ⟨rfl, rfl, rfl⟩, fun a ha => ?_⟩
  subst ha
  by_cases hlt : a.block < W.heap.size
  · simp [World.cell?, hlt]
  · simp [World.cell?, hlt]
/-- A row of rows that reads in all worlds that keep all but g: so does each of its rows. -/
theorem row_kept {w w2 : World} {g : Nat} {ad : Addr} {xs : List (List Int)} (h : ∀ W', Kept w W' (fun k => k = g) → Kd.C (Kd.slice 3 (Kd.int .i64)) W' (some ad) xs.length xs) (hk : Kept w w2 (fun k => k = g)) {i : Nat} (hi : i < xs.length) {A1 : Option Addr} {c1 : Nat} (hc : w2.cell? (ad.add i) = some (.slice A1 (rd_L3b xs i).length c1)) :
    ∀ W', Kept w W' (fun k => k = g) → Kd.C (Kd.int .i64) W' A1 (rd_L3b xs i).length (rd_L3b xs i) := by
  have hne : ¬ (ad.add i).block = g := by
    intro e
    obtain ⟨W0, z0, k0, c0, n0⟩ := emptied2 w g
    obtain ⟨ad', A', c', e', hc', -⟩ := at_L3b (h W0 ⟨by omega, fun i _ hi => k0 i hi, c0⟩) i hi
    obtain rfl := Option.some.inj e'
    rw [n0 _ e] at hc'; cases hc'
  obtain ⟨ad', A', c', e', hc', -⟩ := at_L3b (h w (Kept.refl _ _)) i hi
  obtain rfl := Option.some.inj e'
  have h2 := cell_kept hc' hk hne
  rw [hc] at h2
  injection h2 with h2
  injection h2 with h3 h4 h5
  subst h3 h5
  intro W' hW
  obtain ⟨ad', A'', c'', e', hc'', h6, h7⟩ := at_L3b (h W' hW) i hi
  obtain rfl := Option.some.inj e'
  have h8 := cell_kept hc' hW hne
  rw [hc''] at h8
  injection h8 with h8
  injection h8 with h9
  subst h9
  exact h7
theorem DI_below {g gb gf : Nat} {ins outs asked : Int} {tv wv : Value} {L : Nat} {w1 : World} {c : Nat} {W W2 : World} (h : DI g gb gf ins outs asked tv wv L w1 c W) (hb : Below w1.heap.size W W2) (hg : g < w1.heap.size) (hf : gf < w1.heap.size) : DI g gb gf ins outs asked tv wv L w1 c W2 := by
  obtain ⟨⟨n, hn, hL⟩, hK, hF⟩ := h
  exact ⟨⟨n, hn, (hb.block g hg).trans hL⟩, ⟨Nat.le_trans hK.1 hb.size, fun i h1 h2 => (hb.block i h1).trans (hK.2 i h1 h2), hK.3.trans (Calm.below hb)⟩, (hb.block gf hf).trans hF⟩
set_option maxHeartbeats 8000000 in
set_option maxRecDepth 100000 in
theorem differ_calls (f G : List Int → List Int) (g gb : Nat) (ins outs asked : Int) (A0 A9 Aw At : Option Addr) (c0 c9 cw ct : Nat) (t T : List (List S77)) (ways tests : List (List Int)) (N most : Nat) (w : World)
    (hL : LB w g ins outs gb asked (.slice At tests.length ct) (.slice Aw ways.length cw)) (hgb : gb ≠ g)
    (hb : w.heap[gb]? = some (.cells #[.int .i64 ins, .int .i64 outs, .slice A0 t.length c0] 25 (0, 0)))
    (ht : ∀ W', Kept w W' (fun k => k = g) → Kd.C (Kd.slice 77 k77) W' A0 t.length t) (hc0 : t.length ≤ c0) (hT : ∀ W', Kept w W' (fun k => k = g) → Kd.C (Kd.slice 77 k77) W' A9 T.length T) (hc9 : T.length ≤ c9)
    (hw : ∀ W', Kept w W' (fun k => k = g) → Kd.C (Kd.slice 3 (Kd.int .i64)) W' Aw ways.length ways)
    (htt : ∀ W', Kept w W' (fun k => k = g) → Kd.C (Kd.slice 3 (Kd.int .i64)) W' At tests.length tests) (htl : tests.length ≤ 1000) (hwl : ∀ way ∈ ways, way.length ≤ 1000) (hwn : ways.length ≤ 1000) (hN : N ≤ 1000) (hNm : N + ways.length = most + 1) (hN1 : 1 ≤ N) (htw : ∀ x ∈ tests, 1 ≤ x.length ∧ x.length ≤ 1000)
    (hf : ∀ way ∈ ways, ∀ y, InW ins y → y.length ≤ N → ∀ x ∈ tests, Asks ins outs t f (way ++ y ++ x)) (hG : ∀ way ∈ ways, ∀ y, InW ins y → y.length ≤ N → ∀ x ∈ tests, Asks ins outs T G (way ++ y ++ x)) (hi : 0 ≤ ins ∧ ins ≤ 2) (ho : 0 ≤ outs ∧ outs ≤ 10) (ha : 0 ≤ asked ∧ asked + (ways.length * (wc (shl .i64 1 ins).toNat N * tests.length) : Nat) + 1000 ≤ 1000000000000000) :
    Calls Try.prog 53 #[.pointer (some ⟨g, 0, none⟩), .agg #[.int .i64 ins, .int .i64 outs, .slice A9 T.length c9], .int .i64 (most : Int)] w (DifPost f G g gb ins outs asked N (.slice At tests.length ct) (.slice Aw ways.length cw) ways tests w) := by
  have hg : g < w.heap.size := blk_lt hL
  have K1 : Aside0 (Kept w (((w.alloc (.cells #[.pointer (some ⟨g, 0, none⟩)] 90)).alloc (.cells #[.int .i64 ins, .int .i64 outs, .slice A9 T.length c9] 25)).alloc (.cells #[.slice none 0 0] 22)) (fun k => k = g)) := ⟨(((Kept.refl w (fun k => k = g)).alloc _).alloc _).alloc _⟩
  have L1 := Aside0.mk (blk_alloc (blk_alloc (blk_alloc hL (.cells #[.pointer (some ⟨g, 0, none⟩)] 90)) (.cells #[.int .i64 ins, .int .i64 outs, .slice A9 T.length c9] 25)) (.cells #[.slice none 0 0] 22))
  have hz : ∀ (V : World) (o : Obj), (V.alloc o).heap.size = V.heap.size + 1 := fun V o => by simp
  have P1 := Aside0.mk (blk_alloc (blk_alloc (blk_new w (.cells #[.pointer (some ⟨g, 0, none⟩)] 90)) (.cells #[.int .i64 ins, .int .i64 outs, .slice A9 T.length c9] 25)) (.cells #[.slice none 0 0] 22))
  have T1 := Aside0.mk (blk_alloc (blk_new (w.alloc (.cells #[.pointer (some ⟨g, 0, none⟩)] 90)) (.cells #[.int .i64 ins, .int .i64 outs, .slice A9 T.length c9] 25)) (.cells #[.slice none 0 0] 22))
  have F1 := Aside0.mk (blk_new ((w.alloc (.cells #[.pointer (some ⟨g, 0, none⟩)] 90)).alloc (.cells #[.int .i64 ins, .int .i64 outs, .slice A9 T.length c9] 25)) (.cells #[.slice none 0 0] 22))
  simp only [hz] at T1 F1
  have B1 := Aside0.mk (blk_alloc (blk_alloc (blk_alloc hb (.cells #[.pointer (some ⟨g, 0, none⟩)] 90)) (.cells #[.int .i64 ins, .int .i64 outs, .slice A9 T.length c9] 25)) (.cells #[.slice none 0 0] 22))
  have HGB := Aside0.mk (And.intro hgb (blk_lt hb))
  have HGL := Aside0.mk hg
  have HT := Aside0.mk ht
  have HC0 := Aside0.mk hc0
  have HTT' := Aside0.mk hT
  have HC9 := Aside0.mk hc9
  have HW := Aside0.mk hw
  have HTT := Aside0.mk htt
  have HTL := Aside0.mk htl
  have HWL := Aside0.mk hwl
  have HWN := Aside0.mk hwn
  have HN := Aside0.mk hN
  have HNM := Aside0.mk hNm
  have HN1 := Aside0.mk hN1
  have HTW := Aside0.mk htw
  have HF := Aside0.mk hf
  have HG := Aside0.mk hG
  have HI := Aside0.mk hi
  have HOO := Aside0.mk ho
  have HA := Aside0.mk ha
  have hu93 := Try.underlying93
  have hu25 := Try.underlying25
  have q1 : (((w.alloc (.cells #[.pointer (some ⟨g, 0, none⟩)] 90)).alloc (.cells #[.int .i64 ins, .int .i64 outs, .slice A9 T.length c9] 25)).alloc (.cells #[.slice none 0 0] 22)).cell? ⟨g, 6, none⟩ = some (.slice Aw ways.length cw) := (blk_cell L1.out 6).trans rfl
  clear hL hgb hb ht hc0 hT hc9 hw htt htl hwl hwn hN hNm hN1 htw hf hG hi ho ha hg hz
  go_enter Try.func53, Try.ntmps53
  go_wp2
  clear q1
  generalize (((w.alloc (.cells #[.pointer (some ⟨g, 0, none⟩)] 90)).alloc (.cells #[.int .i64 ins, .int .i64 outs, .slice A9 T.length c9] 25)).alloc (.cells #[.slice none 0 0] 22)) = w1 at K1 L1 P1 T1 F1 B1 ⊢
  have D1 : Aside0 (DI g gb (w.heap.size + 1 + 1) ins outs asked (.slice At tests.length ct) (.slice Aw ways.length cw) tests.length w1 0 w1) := ⟨⟨0, by omega, by have h := L1.out; rw [show asked = asked + ((0 : Nat) : Int) by simp] at h; exact h⟩, Kept.refl _ _, F1.out⟩
  go_loopw [16] (fun v16 wr => ∃ j : Nat, j ≤ ways.length ∧ v16 = .int .i64 j ∧ Aside0 (DI g gb (w.heap.size + 1 + 1) ins outs asked (.slice At tests.length ct) (.slice Aw ways.length cw) tests.length w1 (j * wc (shl .i64 1 ins).toNat N) wr) ∧ Aside0 (∀ i, i < j → AllG (fun y => ∀ x ∈ tests, f (rd_L3b ways i ++ y ++ x) = G (rd_L3b ways i ++ y ++ x)) ins [] N)) (fun v16 _ => ways.length - (intOf v16).toNat)
  case atStart => exact ⟨0, by omega, rfl, ⟨by rw [Nat.zero_mul]; exact D1.out⟩, ⟨fun i h => by omega⟩⟩
  case round =>
    obtain ⟨j, hj, rfl, HD, HJ⟩ := hrel
    obtain ⟨w2, rfl⟩ : ∃ w2 : World, w2 = wr := ⟨_, rfl⟩
    have P2 := Aside0.mk (blk_kept P1.out HD.out.2.1 (by have := HGL.out; omega))
    have T2 := Aside0.mk (blk_kept T1.out HD.out.2.1 (by have := HGL.out; omega))
    have B2 := Aside0.mk (blk_kept B1.out HD.out.2.1 (by have := HGB.out; omega))
    have K2 : Aside0 (Kept w w2 (fun k => k = g)) := ⟨K1.out.then_ HD.out.2.1 (fun k h => by rcases h with h | h; exact .inl h; exact .inr (by omega))⟩
    by_cases hlt : j < ways.length
    · obtain ⟨a, A1, c1, ea, g0, g1, g2⟩ := at_L3b (HW.out _ K2.out) j hlt
      subst ea
      have hxm : rd_L3b ways j ∈ ways := by unfold rd_L3b; rw [List.getD_eq_getElem?_getD, List.getElem?_eq_getElem hlt]; exact List.getElem_mem hlt
      have HWY := Aside0.mk hxm
      have HLT := Aside0.mk hlt
      have G1 := Aside0.mk g1
      have hl2 : (ways.length : Int) ≤ 1000 := by have := HWN.out; omega
      have RK := Aside0.mk (row_kept HW.out K2.out hlt g0)
      clear g1 g2 hxm
      go_upto_region 5 with (fail)
      have P3 := Aside0.mk (blk_alloc P2.out (.cells #[.slice A1 (rd_L3b ways j).length c1] 22))
      have T3 := Aside0.mk (blk_alloc T2.out (.cells #[.slice A1 (rd_L3b ways j).length c1] 22))
      have B3 := Aside0.mk (blk_alloc B2.out (.cells #[.slice A1 (rd_L3b ways j).length c1] 22))
      have W3 := Aside0.mk (blk_new w2 (.cells #[.slice A1 (rd_L3b ways j).length c1] 22))
      have KK3 := Aside0.mk (HD.out.2.1.alloc (.cells #[.slice A1 (rd_L3b ways j).length c1] 22))
      have D3 : Aside0 (DI g gb (w.heap.size + 1 + 1) ins outs asked (.slice At tests.length ct) (.slice (some a) ways.length cw) tests.length (w2.alloc (.cells #[.slice A1 (rd_L3b ways j).length c1] 22)) (j * wc (shl .i64 1 ins).toNat N) (w2.alloc (.cells #[.slice A1 (rd_L3b ways j).length c1] 22))) := ⟨⟨HD.out.1.elim (fun n h => ⟨n, h.1, blk_alloc h.2 _⟩), Kept.refl _ _, blk_alloc HD.out.2.2 _⟩⟩
      have Z3 : Aside0 (w.heap.size + 1 + 1 < w2.heap.size) := ⟨by have := blk_lt HD.out.2.2; exact this⟩
      have C3 := Aside0.mk (callb_test f G g gb w.heap.size w2.heap.size (w.heap.size + 1) (w.heap.size + 1 + 1) ins outs asked (.slice (some a) ways.length cw) A0 A9 A1 At c0 c9 c1 ct t T (rd_L3b ways j) tests N (ways.length * wc (shl .i64 1 ins).toNat N) w.heap.size (w2.alloc (.cells #[.slice A1 (rd_L3b ways j).length c1] 22))
        (by have := HGB.out; omega) (by have := HGL.out; omega) (by have := HGL.out; have := Z3.out; omega) (by have := HGL.out; omega) (by have := HGL.out; omega) (by have := KK3.out.1; have := K1.out.1; omega) B3.out P3.out W3.out T3.out
        (fun W' h => HT.out W' ((K1.out.then_ KK3.out (fun k h => h.elim .inl (fun h => .inr (by omega)))).then_ h (fun k h => h.elim .inl (fun h => .inr (by omega))))) HC0.out
        (fun W' h => HTT'.out W' ((K1.out.then_ KK3.out (fun k h => h.elim .inl (fun h => .inr (by omega)))).then_ h (fun k h => h.elim .inl (fun h => .inr (by omega))))) HC9.out
        (fun W' h => RK.out W' ((K1.out.then_ KK3.out (fun k h => h.elim .inl (fun h => .inr (by omega)))).then_ h (fun k h => h.elim .inl (fun h => .inr (by omega))))) G1.out
        (fun W' h => HTT.out W' ((K1.out.then_ KK3.out (fun k h => h.elim .inl (fun h => .inr (by omega)))).then_ h (fun k h => h.elim .inl (fun h => .inr (by omega))))) HTL.out (HWL.out _ HWY.out) HN.out HTW.out (HF.out _ HWY.out) (HG.out _ HWY.out) HOO.out (by have := HA.out; rw [Nat.mul_assoc]; exact this))
      have hmj : (j + 1) * wc (shl .i64 1 ins).toNat N ≤ ways.length * wc (shl .i64 1 ins).toNat N := Nat.mul_le_mul_right _ HLT.out
      rw [Nat.add_mul, Nat.one_mul] at hmj
      obtain ⟨n3, hn3, l3⟩ := D3.out.1
      have C4 := Aside0.mk (words_calls _ _ _ _ _ g N _ _ _ _ ins (w2.alloc (.cells #[.slice A1 (rd_L3b ways j).length c1] 22)).drew C3.out
        (fun k h => h.elim (fun e => by subst e; exact blk_lt l3) (fun e => by subst e; exact blk_lt D3.out.2.2)) HN.out HI.out
        (fun c W' h => (h.1.elim fun n h => (blk_cell h.2 0).trans rfl)) (fun c W1 W2 h hb => DI_below h hb (blk_lt l3) (blk_lt D3.out.2.2)) (j * wc (shl .i64 1 ins).toNat N) hmj ⟨D3.out.1, D3.out.2.1.drew, D3.out.2.2⟩)
      have KS3 := Aside0.mk (K2.out.alloc (.cells #[.slice A1 (rd_L3b ways j).length c1] 22))
      have L3 := Aside0.mk l3
      have HMJ := Aside0.mk hmj
      clear hmj hn3 l3 C3 P2 T2 B2 W3 B3 T3 D3 HLT
      have hw1 : IntKind.i64.wrap ((most : Int) - (ways.length : Int)) = (N : Int) - 1 := by
        have := HNM.out; have := HN.out; have := HN1.out
        rw [IntWalk.i64_in _ (by omega)]; omega
      have hw2 : IntKind.i64.wrap (N : Int) = (N : Int) := by
        have := HN.out
        rw [IntWalk.i64_in _ (by omega)]
      generalize hw3 : w2.alloc (.cells #[.slice A1 (rd_L3b ways j).length c1] 22) = w3 at *
      clear hw3
      have c1' : w3.cell? ⟨w.heap.size, 0, none⟩ = some (.pointer (some ⟨g, 0, none⟩)) := (blk_cell P3.out 0).trans rfl
      have c2' : w3.cell? ⟨g, 6, none⟩ = some (.slice (some a) ways.length cw) := (blk_cell L3.out 6).trans rfl
      go_region_held3 (fun w' => w'.cell? ⟨w.heap.size, 0, none⟩ = some (.pointer (some ⟨g, 0, none⟩)) ∧ w'.cell? ⟨g, 6, none⟩ = some (.slice (some a) ways.length cw))
        (first | go_keep | exact CK.out)
        (first | (go_at_call 77; (refine (C4.out).mono ?_); rintro e w4 ⟨hk, hres⟩; obtain ⟨n4, l4⟩ : ∃ n4 : Nat, LB w4 g ins outs gb (asked + n4) (.slice At tests.length ct) (.slice (some a) ways.length cw) := (hres.elim (fun h => h.2.1.1.elim fun n h => ⟨n, h.2⟩) (fun h => h.2.1.elim fun n h => ⟨n, h.2⟩)); have CK := Aside0.mk (And.intro ((blk_cell (blk_kept (blk_drew P3.out) hk (fun h => by have := HGL.out; omega)) 0).trans (show _ = some (Value.pointer (some ⟨g, 0, none⟩)) from rfl)) ((blk_cell l4 6).trans (show _ = some (Value.slice (some a) ways.length cw) from rfl))); clear l4; have HK4 := Aside0.mk hk; clear hk; obtain ⟨bb, hbb, hbr⟩ := or_bool hres; subst hbb; have HR := Aside0.mk hbr; clear hbr hres))
      rcases HR.out with ⟨rfl, hD, hA⟩ | ⟨rfl, hB⟩
      · have HD4 := Aside0.mk hD
        have HA4 := Aside0.mk hA
        clear hD hA hw1 hw2 c1' c2' HR CK
        go_wp2
        go_roundw
        case rel => exact ⟨j + 1, by omega, by go_num, ⟨⟨by rw [Nat.add_mul, Nat.one_mul]; exact HD4.out.1, KK3.out.then_ HD4.out.2.1 (fun k h => .inl h), HD4.out.2.2⟩⟩, ⟨fun i hi => by
          rcases Nat.lt_or_ge i j with h | h
          · exact HJ.out i h
          · rw [show i = j by omega]; exact HA4.out⟩⟩
        case measure => simp [intOf]; omega
      · obtain ⟨⟨n4, hn4, l4⟩, k4, y, x, hy, hyn, hx, hne, A4, c4, hf4, hr4⟩ := hB
        have L4 := Aside0.mk l4
        have HN4 := Aside0.mk hn4
        have K4 := Aside0.mk k4
        have HY := Aside0.mk hy
        have HYN := Aside0.mk hyn
        have HX := Aside0.mk hx
        have HNE := Aside0.mk hne
        have HR4 := Aside0.mk hr4
        have r4 : w4.cell? ⟨w.heap.size + 1 + 1, 0, none⟩ = some (.slice A4 (rd_L3b ways j ++ y ++ x).length c4) := (blk_cell hf4 0).trans rfl
        clear l4 k4 hy hyn hx hne hf4 hr4 hn4 hw1 hw2 c1' c2' HR CK
        generalize eu : (rd_L3b ways j ++ y ++ x).length = nu at r4
        have EU := Aside0.mk eu
        clear eu
        go_wp2
        go_ret
        refine ⟨_, rfl, K1.out.then_ (KK3.out.then_ K4.out (fun k h => .inl h)) (fun k h => h.elim .inl (fun h => .inr (by omega))), ⟨n4, by rw [← Nat.mul_assoc]; exact HN4.out, L4.out⟩, .inr ⟨_, HWY.out, y, x, HY.out, HYN.out, HX.out, HNE.out, A4, c4, by rw [EU.out]; rfl, ?_⟩⟩
        rw [← EU.out]
        exact Kd.R_mono HR4.out (fun k h => h.1)
    · have hje : j = ways.length := by omega
      subst hje
      have r4 : w2.cell? ⟨w.heap.size + 1 + 1, 0, none⟩ = some (.slice none 0 0) := (blk_cell HD.out.2.2 0).trans rfl
      go_wp2
      go_ret
      refine ⟨_, rfl, K2.out, HD.out.1.elim (fun n h => ⟨n, by rw [← Nat.mul_assoc]; exact h.1, h.2⟩), .inl ⟨rfl, fun way hw => ?_⟩⟩
      obtain ⟨i, hi, rfl⟩ := List.getElem_of_mem hw
      have := HJ.out i hi
      unfold rd_L3b at this
      rwa [List.getD_eq_getElem?_getD, List.getElem?_eq_getElem hi] at this
end Go.Proofs.Ytaalafnkglbcpaa.PL
