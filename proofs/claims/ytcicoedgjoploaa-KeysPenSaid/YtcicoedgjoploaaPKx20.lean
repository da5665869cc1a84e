/- slices.IsSortedFunc with KeysPen's comparison, walked by hand: the inputs are in order. -/
import Derived.Test.YtcicoedgjoploaaPKStable
namespace Go.Proofs.Ytcicoedgjoploaa.PK
open Go.RowKit Go.Proofs.YtcicoedgjoploaaW.PrintWords Go.Proofs.YtcicoedgjoploaaW.PrintLast Go.Proofs.YtcicoedgjoploaaW.PrintMore
set_option linter.unusedVariables false

def srt (l : List S62) : Bool := (List.range (l.length - 1)).all fun i => decide ((gtd l i).f0 ≤ (gtd l (i + 1)).f0)
def bnd (l : List S62) : Bool := (List.range l.length).all fun i => decide (0 ≤ (gtd l i).f0 ∧ (gtd l i).f0 ≤ 1000000000)
def api_Input_30.f (l0 : List (S62)) : Option (Bool) := if srt l0 = true ∧ bnd l0 = true then some true else none

theorem srt_at {l : List S62} (h : srt l = true) (i : Nat) (hi : i + 1 < l.length) : (gtd l i).f0 ≤ (gtd l (i + 1)).f0 := by
  unfold srt at h
  exact of_decide_eq_true (List.all_eq_true.1 h i (List.mem_range.2 (by omega)))
theorem bnd_at {l : List S62} (h : bnd l = true) (i : Nat) (hi : i < l.length) : 0 ≤ (gtd l i).f0 ∧ (gtd l i).f0 ≤ 1000000000 := by
  unfold bnd at h
  exact of_decide_eq_true (List.all_eq_true.1 h i (List.mem_range.2 hi))

set_option maxHeartbeats 8000000 in
set_option maxRecDepth 100000 in
theorem sorted_walk (A0 : Option Addr) (c0 : Nat) (l0 : List (S62)) (w : World) (hr0 : Kd.C k62 w A0 l0.length l0) (hc0 : l0.length ≤ c0) (h1 : srt l0 = true) (h2 : bnd l0 = true) :
    Calls Try.prog 30 #[.slice A0 l0.length c0, .func (.func 31) #[] #[]] w fun e w' => e = .returned (.bool true) ∧ Below w.heap.size w w' := by
  have HR := Aside0.mk hr0
  have H1 := Aside0.mk h1
  have H2 := Aside0.mk h2
  have hm := Kd.C_max hr0
  clear hr0 h1 h2
  obtain ⟨n, hn⟩ : ∃ n, l0.length = n := ⟨_, rfl⟩
  have HN := Aside0.mk hn
  rw [hn] at HR hc0 hm ⊢
  clear hn
  have e0 : IntKind.i64.wrap ((n : Int) - 1) = (n : Int) - 1 := IntWalk.i64_in _ (by omega)
  go_enter Try.func30, Try.ntmps30
  go_wp2
  clear e0
  go_loopw [5] (fun v5 wr => ∃ (i : Int), v5 = .int .i64 i ∧ -1 ≤ i ∧ i < n ∧ Aside0 (Below w.heap.size w wr)) (fun v5 _ => (intOf v5 + 1).toNat)
  case atStart => exact ⟨_, rfl, by omega, by omega, ⟨Below.refl _ _⟩⟩
  case round =>
    obtain ⟨i, rfl, hi1, hi2, HB⟩ := hrel
    obtain ⟨w1, rfl⟩ : ∃ w1 : World, w1 = wr := ⟨_, rfl⟩
    by_cases hlt : 0 < i
    · obtain ⟨j, rfl⟩ : ∃ j : Nat, i = (j : Int) + 1 := ⟨(i - 1).toNat, by omega⟩
      have HC := Aside0.mk (Kd.C_below HR.out HB.out)
      obtain ⟨a, ea, p0, p1, p2⟩ := at_T62 HC.out ((j + 1 : Nat) : Int) (by omega) (by omega)
      obtain ⟨b, eb, q0, q1, q2⟩ := at_T62 HC.out ((j : Nat) : Int) (by omega) (by omega)
      have e1 : rd_T62 l0 ((j + 1 : Nat) : Int) = gtd l0 (j + 1) := rfl
      have e2 : rd_T62 l0 ((j : Nat) : Int) = gtd l0 j := rfl
      rw [e1, Int.toNat_natCast] at p0 p1 p2
      rw [e2, Int.toNat_natCast] at q0 q1 q2
      subst ea
      obtain rfl : a = b := by injection eb
      clear eb e1 e2
      have hs := srt_at H1.out j (by rw [HN.out]; omega)
      have b1 := bnd_at H2.out j (by rw [HN.out]; omega)
      have b2 := bnd_at H2.out (j + 1) (by rw [HN.out]; omega)
      have e3 : IntKind.i64.wrap ((j : Int) + 1 - 1) = (j : Int) := by rw [IntWalk.i64_in _ (by omega)]; omega
      have e4 : IntKind.i64.wrap (j : Int) = (j : Int) := IntWalk.i64_in _ (by omega)
      have hji : (j : Int) + 1 < (n : Int) := by omega
      have hjk : 0 ≤ (j : Int) + 1 := by omega
      have hjj : (j : Int) < (n : Int) := by omega
      have hj0 : 0 < (j : Int) + 1 := by omega
      have hjt : ((j : Int) + 1).toNat = j + 1 := by omega
      generalize gtd l0 (j + 1) = u at *
      generalize gtd l0 j = v at *
      have hcd : decide (u.f0 - v.f0 < 0) = false := decide_eq_false (by omega)
      have HP : Aside0 (w1.cell? (a.add ((j + 1) * 3)) = some (.int .i64 u.f0) ∧ w1.cell? ⟨(a.add ((j + 1) * 3)).block, (a.add ((j + 1) * 3)).off + 1, none⟩ = some (.string u.f1) ∧ w1.cell? ⟨(a.add ((j + 1) * 3)).block, (a.add ((j + 1) * 3)).off + 2, none⟩ = some (.int .i64 u.f2)) := ⟨p0, p1, p2⟩
      have HQ : Aside0 (w1.cell? (a.add (j * 3)) = some (.int .i64 v.f0) ∧ w1.cell? ⟨(a.add (j * 3)).block, (a.add (j * 3)).off + 1, none⟩ = some (.string v.f1) ∧ w1.cell? ⟨(a.add (j * 3)).block, (a.add (j * 3)).off + 2, none⟩ = some (.int .i64 v.f2)) := ⟨q0, q1, q2⟩
      have C := fun (W : World) => sub_calls u v W b2 b1
      have HB' := HB
      clear hs b1 b2 HC
      go_upto_region 4 with (fail)
      go_region_held3 (fun w' => w'.cell? (a.add ((j + 1) * 3)) = some (.int .i64 u.f0) ∧ w'.cell? ⟨(a.add ((j + 1) * 3)).block, (a.add ((j + 1) * 3)).off + 1, none⟩ = some (.string u.f1) ∧ w'.cell? ⟨(a.add ((j + 1) * 3)).block, (a.add ((j + 1) * 3)).off + 2, none⟩ = some (.int .i64 u.f2) ∧ w'.cell? (a.add (j * 3)) = some (.int .i64 v.f0) ∧ w'.cell? ⟨(a.add (j * 3)).block, (a.add (j * 3)).off + 1, none⟩ = some (.string v.f1) ∧ w'.cell? ⟨(a.add (j * 3)).block, (a.add (j * 3)).off + 2, none⟩ = some (.int .i64 v.f2))
        (first
          | go_keep
          | (refine ⟨?_, ?_, ?_, ?_, ?_, ?_⟩
             · exact (hbI.out.cell (World.block_lt_of_cell? _ _ HP.out.1)).trans HP.out.1
             · exact (hbI.out.cell (World.block_lt_of_cell? _ _ HP.out.2.1)).trans HP.out.2.1
             · exact (hbI.out.cell (World.block_lt_of_cell? _ _ HP.out.2.2)).trans HP.out.2.2
             · exact (hbI.out.cell (World.block_lt_of_cell? _ _ HQ.out.1)).trans HQ.out.1
             · exact (hbI.out.cell (World.block_lt_of_cell? _ _ HQ.out.2.1)).trans HQ.out.2.1
             · exact (hbI.out.cell (World.block_lt_of_cell? _ _ HQ.out.2.2)).trans HQ.out.2.2))
        (first | (go_at_call 31; refine (C _).mono ?_; rintro e wI ⟨rfl, hbI0⟩; have hbI := Aside0.mk hbI0; clear hbI0))
      have HBN : Aside0 (Below w.heap.size w wI) := ⟨(below_drew HB'.out).trans (hbI.out.mono (below_drew HB'.out).size)⟩
      clear hcd C p0 p1 p2 q0 q1 q2
      go_wp2
      go_roundw
      case rel => exact ⟨_, rfl, by omega, by omega, HBN⟩
      case measure => simp [intOf]; omega
    · go_wp2
      go_ret
      exact ⟨rfl, HB.out⟩

theorem api_Input_30.calls (A0 : Option Addr) (c0 : Nat) (l0 : List (S62)) (r : Bool) (w : World) (hr0 : Kd.C k62 w A0 l0.length l0) (hc0 : l0.length ≤ c0) (h : api_Input_30.f l0 = some r) :
    Calls Try.prog 30 #[.slice A0 l0.length c0, .func (.func 31) #[] #[]] w fun e w' => e = .returned (.bool r) ∧ Below w.heap.size w w' := by
  unfold api_Input_30.f at h
  split at h
  · rename_i h1
    obtain rfl := Option.some.inj h
    exact sorted_walk A0 c0 l0 w hr0 hc0 h1.1 h1.2
  · cases h
end Go.Proofs.Ytcicoedgjoploaa.PK
