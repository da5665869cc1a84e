/- bakekeep3.printed, walked by hand: true. -/
import Derived.Test.YtgagbfaodeakaaaDoorPapPrint
import Derived.Test.YtgagbfaodeakaaaDoorPPaperBackx2
import Derived.Lib.SlBytesConst
namespace Go.Proofs.YtgagbfaodeakaaaDoor.PPaperBack
open Go.RowKit Go.Proofs.YtgagbfaodeakaaaDoorW.PrintWords Go.Proofs.YtgagbfaodeakaaaDoorW.PrintLast Go.Proofs.YtgagbfaodeakaaaDoorW.PrintMore
set_option linter.unusedVariables false

def bakekeep3_printed.f  : Option (Bool) := some true
theorem prun_a : prun [97, 13, 95, 10] ⟨[], 0, 0⟩ = some ⟨[[95]], 1, 1⟩ := by rfl
theorem out_a : stripE (outs [[95]]) = [⟨#[95]⟩] := by decide +kernel
theorem eq_a : slices_Equal_string_string.f 5 [(⟨#[95]⟩ : ByteArray)] [⟨#[95]⟩] = some true := by decide +kernel

set_option maxHeartbeats 2000000 in
set_option maxRecDepth 100000 in
theorem bakekeep3_printed.calls  (r : Bool) (w : World) (h : bakekeep3_printed.f  = some r) :
    Calls Tryd.prog 8 #[] w fun e w' => e = .returned (.bool r) ∧ Below w.heap.size w w' := by
  obtain rfl : true = r := Option.some.inj h
  clear h
  have kc := fun (W : World) (C : Array Value) (n c : Nat) => Lib.run_convert_bytes_const (P := Tryd.prog) W 26 5 C n c Tryd.underlying26 Tryd.underlying5
  have hC : Kd.C (Kd.int .u8) (w.alloc (.cells #[.int .u8 97, .int .u8 13, .int .u8 95, .int .u8 10] 5 (4, 5))) (some ⟨w.heap.size, 0, none⟩) 4 [97, 13, 95, 10] := by
    refine Kd.C_of_reads (enc := Value.int .u8) (d := (0 : Int)) (h1 := fun _ => rfl) ⟨rfl, by omega, fun _ => ⟨_, rfl, fun i hi => ?_⟩⟩
    have h0 : (w.alloc (.cells #[.int .u8 97, .int .u8 13, .int .u8 95, .int .u8 10] 5 (4, 5))).heap[w.heap.size]? = some (.cells #[.int .u8 97, .int .u8 13, .int .u8 95, .int .u8 10] 5 (4, 5)) := blk_new _ _
    rw [add_plain, cell_of_row _ _ i _ _ _ h0]
    have : i = 0 ∨ i = 1 ∨ i = 2 ∨ i = 3 := by omega
    rcases this with rfl | rfl | rfl | rfl <;> rfl
  have hp := (print_walk [97, 13, 95, 10] ⟨[[95]], 1, 1⟩ (some ⟨w.heap.size, 0, none⟩) 4 _ hC (by simp) (by intro x hx; simp at hx; omega) prun_a)
  rw [show [(97 : Int), 13, 95, 10].length = 4 from rfl] at hp
  have HP := Aside0.mk hp
  clear hC hp
  go_enter Tryd.func8, Tryd.ntmps8
  go_wp2_with fail
  (with_reducible refine HP.out.mono ?_)
  rintro e w1 ⟨v1, rfl, hr1, hb1⟩
  rw [out_a] at hr1
  obtain ⟨A1, c1, rfl⟩ := Kd.R_slice hr1
  have HR1 := Aside0.mk hr1
  have HB1 : Aside0 (Below w.heap.size w w1) := ⟨(below_alloc (Below.refl _ _) _).trans (hb1.mono (by simp))⟩
  clear hr1 hb1 HP
  rw [show ([(⟨#[95]⟩ : ByteArray)] : List ByteArray).length = 1 from rfl]
  go_wp2_with fail
  have hR2 : Kd.R Kd.string 9 (w1.alloc (.cells #[.string ⟨#[95]⟩] 9)) w1.heap.size (fun _ => True) (.slice (some ⟨w1.heap.size, 0, none⟩) 1 1) [(⟨#[95]⟩ : ByteArray)] :=
    ⟨fun _ _ => trivial, OwnRow.lit w1 w1.heap.size (ps := [(⟨#[95]⟩ : ByteArray)]) (inner := [.string ⟨#[95]⟩]) (Reps.one rfl (Reps.none _ _)) (Nat.le_refl _) (by simp)⟩
  have hE := slices_Equal_string_string.calls 5 A1 c1 [(⟨#[95]⟩ : ByteArray)] (some ⟨w1.heap.size, 0, none⟩) 1 [(⟨#[95]⟩ : ByteArray)] true _ (Kd.C_alloc (Kd.R_reads' HR1.out).2.2 _) (Kd.R_reads' HR1.out).2.1 (Kd.R_reads' hR2).2.2 (by simp) eq_a
  refine (Calls.mono hE ?_)
  rintro e w' ⟨rfl, ⟨nd, rfl⟩⟩
  go_wp2
  go_ret
  exact ⟨rfl, pw_below_drewN (below_alloc HB1.out _) _⟩
end Go.Proofs.YtgagbfaodeakaaaDoor.PPaperBack
