/- slices.IndexFunc with Steady's closure, where all inputs are of one chip: the first place, if there is any. -/
import Derived.Test.YtijfinimlnedpaaPHoldx0
namespace Go.Proofs.Ytijfinimlnedpaa.PHold
open Go.RowKit Go.Proofs.YtijfinimlnedpaaW.PrintWords Go.Proofs.YtijfinimlnedpaaW.PrintLast Go.Proofs.YtijfinimlnedpaaW.PrintMore
set_option linter.unusedVariables false

set_option maxHeartbeats 1000000 in
theorem same_chip (y : S42) (c : ByteArray) (hy : y.f1 = c) (P : Nat) (w : World) (hP : w.cell? ⟨P, 1, none⟩ = some (.string c)) :
    Calls Try.prog 67 #[.agg #[.int .i64 y.f0, .string y.f1, .int .i64 y.f2], .pointer (some ⟨P, 0, none⟩)] w fun e w' => e = .returned (.bool true) ∧ Below w.heap.size w w' := by
  rw [hy]
  have hlt := World.block_lt_of_cell? w _ hP
  have hlt' : P < w.heap.size := hlt
  go_enter Try.func67, Try.ntmps67
  go_wp2
  go_ret
  exact ⟨rfl, below_alloc (Below.refl _ _) _⟩

set_option maxHeartbeats 1000000 in
theorem index_none (A : Option Addr) (k P : Nat) (w : World) :
    Calls Try.prog 66 #[.slice A 0 k, .func (.func 67) #[] #[.pointer (some ⟨P, 0, none⟩)]] w fun e w' => e = .returned (.int .i64 (-1)) ∧ Below w.heap.size w w' := by
  go_enter Try.func66, Try.ntmps66
  go_wp2
  refine wp_loop_rounds 1 ?_
  rw [rounds_succ]
  go_wp2
  go_ret
  exact ⟨rfl, Below.refl _ _⟩

set_option maxHeartbeats 1000000 in
theorem index_some (A : Option Addr) (k P : Nat) (ys : List S42) (c : ByteArray) (hne : 0 < ys.length) (hys : ∀ y ∈ ys, y.f1 = c) (w : World) (hC : Kd.C k42 w A ys.length ys) (hP : w.cell? ⟨P, 1, none⟩ = some (.string c)) :
    Calls Try.prog 66 #[.slice A ys.length k, .func (.func 67) #[] #[.pointer (some ⟨P, 0, none⟩)]] w fun e w' => e = .returned (.int .i64 0) ∧ Below w.heap.size w w' := by
  obtain ⟨ad, rfl, h0, h1, h2⟩ := at_T42 hC 0 (by omega) (by omega)
  have hm : (rd_T42 ys 0).f1 = c := hys _ (by
    unfold rd_T42; rw [List.getD_eq_getElem?_getD, List.getElem?_eq_getElem (show (0 : Int).toNat < ys.length from hne)]; exact List.getElem_mem _)
  generalize hy : rd_T42 ys 0 = y at *
  have C1 := Aside0.mk (same_chip y c hm P w hP)
  have hpos : decide ((0 : Int) < (ys.length : Int)) = true := decide_eq_true (by omega)
  have hpos2 : (0 : Int) < (ys.length : Int) := by omega
  clear hm hy hys
  have g0 : w.cell? ad = some (.int .i64 y.f0) := h0
  have g1 : w.cell? ⟨ad.block, ad.off + 1, none⟩ = some (.string y.f1) := h1
  have g2 : w.cell? ⟨ad.block, ad.off + 2, none⟩ = some (.int .i64 y.f2) := h2
  go_enter Try.func66, Try.ntmps66
  go_wp2
  refine wp_loop_rounds 1 ?_
  rw [rounds_succ]
  go_wp2_with fail
  refine C1.out.mono ?_
  rintro e w1 ⟨rfl, hb⟩
  go_wp2
  go_ret
  exact ⟨rfl, hb⟩
end Go.Proofs.Ytijfinimlnedpaa.PHold
