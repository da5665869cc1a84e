/- The stream that gives numbers one by one: what Next does, told by bounds alone. -/
import Derived.Test.YtaalafnkglbcpaaPGx0
import Derived.Test.YtaalafnkglbcpaaPGx2
namespace Go.Proofs.Ytaalafnkglbcpaa.PG
open Go.RowKit Go.Proofs.YtaalafnkglbcpaaW.PrintWords Go.Proofs.YtaalafnkglbcpaaW.PrintLast Go.Proofs.YtaalafnkglbcpaaW.PrintMore
set_option linter.unusedVariables false

/-- Block g holds a stream over numbers that came in at w0. -/
def StreamAt (w0 w : World) (g : Nat) : Prop := ∃ (A : Option Addr) (c : Nat) (l : List Int), w.heap[g]? = some (.cells #[.slice A l.length c] 73 (0, 0)) ∧ l.length ≤ c ∧ Kd.C (Kd.int .i64) w0 A l.length l

theorem StreamAt.kept {w0 w w' : World} {g : Nat} {row : Option Nat} (h : StreamAt w0 w g) (hg : w.grownBy w' row) (hne : some g ≠ row) : StreamAt w0 w' g := by
  obtain ⟨A, c, l, h1, h2⟩ := h
  exact ⟨A, c, l, blk_grown h1 hg hne, h2⟩

theorem w64n {n : Int} (h0 : -9223372036854775808 ≤ n) (h1 : n ≤ 9223372036854775807) : wrap64 n = n := by unfold wrap64; omega
theorem below_some (x n : Int) (hn : 0 < n) (hb : n ≤ 1000000) : ∃ r, bakemake_Below.f x n = some r ∧ 0 ≤ r ∧ r < n := by
  have h1 := Int.tmod_lt_of_pos x hn
  have h2 := Int.lt_tmod_of_pos x hn
  unfold bakemake_Below.f
  rw [if_neg (by omega)]
  by_cases h : Int.tmod x n < 0
  · rw [if_pos h, w64n (by omega) (by omega)]; exact ⟨_, rfl, by omega, by omega⟩
  · rw [if_neg h]; exact ⟨_, rfl, by omega, by omega⟩

theorem int_at {w : World} {A : Option Addr} {n : Nat} {xs : List Int} (h : Kd.C (Kd.int .i64) w A n xs) (i : Nat) (h1 : i < n) : ∃ ad, A = some ad ∧ w.cell? (ad.add i) = some (.int .i64 (xs.getD i 0)) := by
  obtain ⟨ad, c, e, _, hK, hc⟩ := Kd.C_get h 0 (i : Int) (by omega) (by omega)
  obtain rfl : c = [.int .i64 (xs.getD (i : Int).toNat 0)] := hK
  have h2 := hc 0 _ rfl
  refine ⟨ad, e, ?_⟩
  rw [Int.toNat_natCast, show i * (Kd.int .i64).sz + 0 = i from by show i * 1 + 0 = i; omega] at h2
  exact h2

theorem grown_put (w : World) (g i n m : Nat) (v : Value) : w.grownBy (((w.drewN n).setCell ⟨g, i, none⟩ v).drewN m) (some g) := by
  refine ⟨rfl, rfl, rfl, by simp, fun k hk hne => ?_⟩
  have : g ≠ k := fun e => hne (by rw [e])
  have h2 := Below.heap_setCell (w.drewN n) ⟨g, i, none⟩ v k (fun e => this e.symm)
  simpa using h2

/-- What Next leaves. -/
def NextPost (w0 w : World) (g : Nat) (n : Int) (e : Ending) (w' : World) : Prop := ∃ r : Int, e = .returned (.int .i64 r) ∧ 0 ≤ r ∧ r < n ∧ w.grownBy w' (some g) ∧ w'.heap.size = w.heap.size ∧ StreamAt w0 w' g

set_option maxRecDepth 100000 in
set_option maxHeartbeats 2000000 in
theorem next_calls (w0 w : World) (g : Nat) (n : Int) (h : StreamAt w0 w g) (hb : Below w0.heap.size w0 w) (n0 : 1 ≤ n) (n1 : n ≤ 1000000) :
    Calls Try.prog 40 #[.pointer (some ⟨g, 0, none⟩), .int .i64 n] w (NextPost w0 w g n) := by
  obtain ⟨A, c, l, h1, h2, h3⟩ := h
  have hc := blk_cell h1 0
  have hf := blk_frozen h1 0
  have hc' : w.cell? ⟨g, 0, none⟩ = some (.slice A l.length c) := hc
  have H1 := Aside0.mk h1
  have H3 := Aside0.mk h3
  clear hc h1 h3
  have hn1 : decide (n < 1) = false := decide_eq_false (by omega)
  cases l with
  | nil =>
    go_enter Try.func40, Try.ntmps40
    go_wp2
    go_ret
    exact ⟨0, rfl, by omega, by omega, ⟨rfl, rfl, rfl, Nat.le_refl _, fun _ _ _ => rfl⟩, rfl, A, c, [], H1.out, h2, H3.out⟩
  | cons x r =>
    obtain ⟨q, hq, q0, q1⟩ := below_some x n (by omega) n1
    obtain ⟨ad, rfl, hx⟩ := int_at H3.out 0 (by simp)
    have hx' : w.cell? ad = some (.int .i64 x) := (hb.cell (p := ad) (World.block_lt_of_cell? w0 _ hx)).trans hx
    have HD := Aside0.mk (Kd.C_drop (m := 1) H3.out (by simp) h2)
    have C1 := Aside0.mk (fun W => bakemake_Below.calls x n q W hq)
    have hl1 : 1 ≤ (x :: r).length := by simp
    have hcc : (x :: r).length ≤ c := h2
    have hlen : (x :: r).length = r.length + 1 := by simp
    have h2' : r.length + 1 ≤ c := by simpa using h2
    have HH := Aside0.mk h2'
    clear hq hlen hl1 hcc h2
    by_cases hc1 : c = 1
    · subst hc1
      have hr : r = [] := by
        cases r with
        | nil => rfl
        | cons y s => exfalso; have := HH.out; simp at this
      subst hr
      rw [if_pos rfl] at HD
      go_enter Try.func40, Try.ntmps40
      go_wp2_with fail
      (with_reducible refine (C1.out _).mono ?_)
      rintro e w' ⟨rfl, nd, rfl⟩
      go_wp2
      go_ret
      exact ⟨q, rfl, q0, q1, grown_put w g 0 0 nd _, by simp, some ad, 0, [], blk_drewN (blk_put H1.out 0 _ rfl) nd, Nat.le_refl _, HD.out⟩
    · have hc2 : 1 < c := by have := HH.out; omega
      have HE : Aside0 (Kd.C (Kd.int .i64) w0 (some ⟨ad.block, ad.off + 1, none⟩) r.length r) := ⟨by
        have h := HD.out
        rw [if_neg hc1] at h
        exact h⟩
      have HC1 := Aside0.mk hc1
      clear hc1 HD
      go_enter Try.func40, Try.ntmps40
      go_wp2_with fail
      (with_reducible refine (C1.out _).mono ?_)
      rintro e w' ⟨rfl, nd, rfl⟩
      go_wp2
      go_ret
      exact ⟨q, rfl, q0, q1, grown_put w g 0 0 nd _, by simp, some ⟨ad.block, ad.off + 1, none⟩, c - 1, r, blk_drewN (blk_put H1.out 0 _ rfl) nd, by have := HH.out; omega, HE.out⟩
end Go.Proofs.Ytaalafnkglbcpaa.PG
