/- slices.Chunk and its iterator, walked by hand: pieces of 2560 numbers, one behind the other. -/
import Derived.Test.YtijfinimlnedpaaPFTx0
import Derived.RangeFuncNested
import Derived.RangeFuncBound
import Derived.RangeFuncCalls
import Derived.RangeFuncLeaves
import Derived.RangeFuncFrom
import Derived.RangeFuncBox
import Derived.Shelf.Abstract
import Derived.Shelf.RegionOpen
import Derived.OwnWalkIn
import Derived.TacticsInMore
import Derived.LoopNIn
import Derived.LoopIn
namespace Go.Proofs.Ytijfinimlnedpaa.PFT
open Go.RowKit Go.Shelf Go.Proofs.YtijfinimlnedpaaW.PrintWords Go.Proofs.YtijfinimlnedpaaW.PrintLast Go.Proofs.YtijfinimlnedpaaW.PrintMore
set_option linter.unusedVariables false

set_option maxHeartbeats 1000000 in
theorem chunk_calls (a : Option Addr) (len cap : Nat) (w : World) :
    Calls Try.prog 75 #[.slice a len cap, .int .i64 2560] w fun e w' => e = .returned (.func (.func 89) #[] #[.pointer (some ⟨w.heap.size, 0, none⟩), .pointer (some ⟨w.heap.size + 1, 0, none⟩)]) ∧ w' = (w.alloc (.cells #[.slice a len cap] 22)).alloc (.cells #[.int .i64 2560] 3) := by
  go_enter Try.func75, Try.ntmps75
  go_wp2
  go_ret
  exact ⟨rfl, rfl⟩

/-- What a round must keep: the iterator's own two variables. -/
def Two (Bs Bn : Nat) (W W' : World) : Prop := W'.heap[Bs]? = W.heap[Bs]? ∧ W'.heap[Bn]? = W.heap[Bn]?
theorem Two.refl (Bs Bn : Nat) (W : World) : Two Bs Bn W W := ⟨rfl, rfl⟩
theorem Two.trans {Bs Bn : Nat} {A B C : World} (h : Two Bs Bn A B) (k : Two Bs Bn B C) : Two Bs Bn A C := ⟨k.1.trans h.1, k.2.trans h.2⟩
theorem Two.one {Bs Bn : Nat} {W W' : World} (h : Two Bs Bn W W') {v : Value} (o : Nat) (hc : W.cell? ⟨Bs, o, none⟩ = some v) : W'.cell? ⟨Bs, o, none⟩ = some v := (World.cell?_of_block h.1).trans hc
theorem Two.two {Bs Bn : Nat} {W W' : World} (h : Two Bs Bn W W') {v : Value} (o : Nat) (hc : W.cell? ⟨Bn, o, none⟩ = some v) : W'.cell? ⟨Bn, o, none⟩ = some v := (World.cell?_of_block h.2).trans hc
/-- The value of piece j. -/
def pieceV (g j : Nat) : Value := .slice (some ⟨g, j * 2560, none⟩) 2560 2560
attribute [local go_sem] Oper.semAt_some
set_option maxRecDepth 100000 in
set_option maxHeartbeats 2000000 in
/-- The iterator: for every loop body that keeps what lay below n₀. -/
theorem chunk1_in (n : Nat) (hn : 1 ≤ n) (l Bs Bn g m cap : Nat) (A0 : Option Addr) (hA : 0 < m → A0 = some ⟨g, 0, none⟩) (hm : m ≤ 40) (hcap : m * 2560 ≤ cap) (J Jx : List (Fin m) → World → Prop)
    (hY : ∀ pre x W, J pre W → pre.length < m → YieldAt Fence.wide (n - 1) Try.prog l #[pieceV g x.1] W fun e W' =>
      (e = .returned (.bool true) ∧ J (pre ++ [x]) W' ∧ Two Bs Bn W W') ∨ (e = .returned (.bool false) ∧ Jx (pre ++ [x]) W'))
    (W : World) (hBs : W.cell? ⟨Bs, 0, none⟩ = some (.slice A0 (m * 2560) cap)) (hBn : W.cell? ⟨Bn, 0, none⟩ = some (.int .i64 2560)) (h0 : J [] W)
    (hJd : ∀ pre W, J pre W → J pre W.drew) (hJnd : ∀ pre W k, J pre W → J pre (W.drewN k)) :
    CallsIn Fence.wide n Try.prog 89 #[.func (.yield l) #[] #[], .pointer (some ⟨Bs, 0, none⟩), .pointer (some ⟨Bn, 0, none⟩)] W fun e W' => (∃ v, e = .returned v) ∧
      ((∃ ys, ys = List.finRange m ∧ J ys W') ∨ (∃ pre, True ∧ Jx pre W')) := by
  refine callsIn_of_wp Try.func89 rfl trivial ?_ rfl
  simp only [Try.ntmps89, List.size_toArray, List.length_cons, List.length_nil, Nat.reduceAdd, Nat.reduceSub, Array.replicate_succ, Array.replicate_zero, List.push_toArray, List.append_toArray, List.nil_append, List.cons_append]
  gi_wp2
  gi_loopw [4] (fun i wr => ∃ k : Nat, k ≤ m ∧ i = .int .i64 ((k * 2560 : Nat) : Int) ∧ J ((List.finRange m).take k) wr ∧ Two Bs Bn W wr)
    (fun i _ => m * 2560 + 2560 - (intOf i).toNat)
  case atStart => exact ⟨0, Nat.zero_le _, rfl, h0, Two.refl _ _ _⟩
  case round =>
    obtain ⟨k, hk, rfl, hJs, hnx⟩ := hrel
    obtain ⟨w1, rfl⟩ : ∃ w1 : World, w1 = wr := ⟨_, rfl⟩
    have c1 := hnx.one 0 hBs
    have c2 := hnx.two 0 hBn
    have HNX := Aside0.mk hnx
    have HJ := Aside0.mk hJs
    clear hBs hBn hnx hJs h0
    by_cases hlt : k < m
    · obtain rfl := hA (by omega)
      clear hA
      have HX : Aside0 ((List.finRange m).take (k + 1) = (List.finRange m).take k ++ [⟨k, hlt⟩]) := ⟨by rw [List.take_succ_eq_append_getElem (by simpa using hlt)]; simp⟩
      have HL : Aside0 (((List.finRange m).take k).length < m) := ⟨by simp; omega⟩
      have b1 : ((k * 2560 : Nat) : Int) < ((m * 2560 : Nat) : Int) := by omega
      have b2 : ((k * 2560 : Nat) : Int) + 2560 ≤ ((m * 2560 : Nat) : Int) := by omega
      obtain ⟨i, hi⟩ : ∃ i, k * 2560 = i := ⟨_, rfl⟩
      obtain ⟨M, hM⟩ : ∃ M, m * 2560 = M := ⟨_, rfl⟩
      have bM : (M : Int) ≤ 102400 := by omega
      have bi : (0 : Int) ≤ (i : Int) := by omega
      rw [hi] at b1 b2 ⊢
      rw [hM] at b1 b2 c1 hcap ⊢
      have HI := Aside0.mk hi
      have HM := Aside0.mk hM
      have bc : (M : Int) ≤ (cap : Int) := by omega
      have bci : (cap = i) = False := eq_false (by omega)
      clear hi hM
      gi_wp2
      refine wpIn_wide.2 ?_
      go_quiet (fail)
      have c1' : (w1.drewN nq).cell? ⟨Bs, 0, none⟩ = some (.slice (some ⟨g, 0, none⟩) M cap) := c1
      have c2' : (w1.drewN nq).cell? ⟨Bn, 0, none⟩ = some (.int .i64 2560) := c2
      obtain ⟨fn, tmps, assign, body, hy, hR⟩ := hY _ ⟨k, hlt⟩ (w1.drewN nq) (hJnd _ _ nq HJ.out) HL.out
      have pv : pieceV g k = .slice (some ⟨g, i, none⟩) 2560 2560 := by unfold pieceV; rw [HI.out]
      rw [pv] at hy
      clear pv c1 c2
      have HN : Aside0 (Two Bs Bn W (w1.drewN nq)) := ⟨HNX.out⟩
      generalize w1.drewN nq = w2 at *
      have q1 : ((i + 2560 : Nat) : Int) - (i : Int) = 2560 := by omega
      gi_wp2
      refine hR.mono ?_
      rintro e W3 (⟨rfl, hJ3, hk3⟩ | ⟨rfl, hJx3⟩)
      · have c1 := hk3.one 0 c1'
        have c2 := hk3.two 0 c2'
        have HB3 : Aside0 (Two Bs Bn W W3) := ⟨HN.out.trans hk3⟩
        have HJ3 := Aside0.mk hJ3
        clear hk3 hJ3 c1' c2' hR hy
        gi_wp2
        go_roundw
        case rel => exact ⟨k + 1, by omega, by rw [show (k + 1) * 2560 = i + 2560 by have := HI.out; omega]; go_num, by rw [HX.out]; exact HJ3.out, HB3.out⟩
        case measure => have := HI.out; have := HM.out; simp [intOf]; omega
      · gi_wp2
        refine bodyPost_ret (results_none rfl _ _ _) rfl ?_
        exact ⟨⟨_, rfl⟩, .inr ⟨_, trivial, hJx3⟩⟩
    · obtain rfl : k = m := by omega
      gi_wp2
      go_end0
      exact ⟨⟨_, rfl⟩, .inl ⟨_, rfl, by have := HJ.out; rwa [List.take_of_length_le (by simp)] at this⟩⟩
theorem grown_drewN (w : World) (k : Nat) : w.grownBy (w.drewN k) none := ⟨rfl, rfl, rfl, Nat.le_refl _, fun _ _ _ => rfl⟩

/-- What Chunk gives back hands out the m pieces, one behind the other. -/
theorem chunk_stops (n : Nat) (hn : 1 ≤ n) (Bs Bn g m cap : Nat) (A0 : Option Addr) (hA : 0 < m → A0 = some ⟨g, 0, none⟩) (hm : m ≤ 40) (hcap : m * 2560 ≤ cap) (w : World) (hbs : Bs < w.heap.size) (hbn : Bn < w.heap.size)
    (hBs : w.cell? ⟨Bs, 0, none⟩ = some (.slice A0 (m * 2560) cap)) (hBn : w.cell? ⟨Bn, 0, none⟩ = some (.int .i64 2560)) :
    SeqStopsK Fence.wide n Try.prog 89 #[.pointer (some ⟨Bs, 0, none⟩), .pointer (some ⟨Bn, 0, none⟩)] (fun x : Fin m => #[pieceV g x.1]) (Two Bs Bn) (fun ys => ys = List.finRange m) (fun _ => True) m w := by
  intro l J Jx W hW hJ hJx hY h0
  exact chunk1_in n hn l Bs Bn g m cap A0 hA hm hcap J Jx hY W ((hW.cell (p := ⟨Bs, 0, none⟩) hbs).trans hBs) ((hW.cell (p := ⟨Bn, 0, none⟩) hbn).trans hBn) h0
    (fun pre W h => hJ pre W _ none h (grown_drewN W 1) (fun r e => by cases e)) (fun pre W k h => hJ pre W _ none h (grown_drewN W k) (fun r e => by cases e))
end Go.Proofs.Ytijfinimlnedpaa.PFT
