/- keys.Merge, walked by hand: the two lists one behind the other, sorted by insertion. -/
import Derived.Test.YtcicoedgjoploaaPKStable
namespace Go.Proofs.Ytcicoedgjoploaa.PK
open Go.RowKit Go.Proofs.YtcicoedgjoploaaW.PrintWords Go.Proofs.YtcicoedgjoploaaW.PrintLast Go.Proofs.YtcicoedgjoploaaW.PrintMore
set_option linter.unusedVariables false

def keys_Merge.f (l0 : List (S62)) (l1 : List (S62)) : Option ((List (S62))) := if 1 ≤ (l0 ++ l1).length ∧ (l0 ++ l1).length < 20 then some (isort (l0 ++ l1)) else none

theorem pair_in {W : World} {g : Nat} {A B : Option Addr} {ca cb : Nat} {a b : List S62} (h0 : W.cell? ⟨g, 0, none⟩ = some (.slice A a.length ca)) (h1 : W.cell? ⟨g, 1, none⟩ = some (.slice B b.length cb))
    (la : a.length ≤ ca) (lb : b.length ≤ cb) (hA : Kd.C k62 W A a.length a) (hB : Kd.C k62 W B b.length b) : Kd.C (Kd.slice 62 k62) W (some ⟨g, 0, none⟩) ([a, b] : List (List S62)).length [a, b] := by
  refine ⟨rfl, by simp, fun _ => ⟨⟨g, 0, none⟩, rfl, fun j p hj => ?_⟩⟩
  match j, hj with
  | 0, hj =>
    obtain rfl : a = p := by simpa using hj
    refine ⟨[.slice A a.length ca], rfl, ⟨A, ca, rfl, la, hA⟩, fun i u hi => ?_⟩
    match i, hi with
    | 0, hi => obtain rfl : (.slice A a.length ca : Value) = u := by simpa using hi
               exact h0
  | 1, hj =>
    obtain rfl : b = p := by simpa using hj
    refine ⟨[.slice B b.length cb], rfl, ⟨B, cb, rfl, lb, hB⟩, fun i u hi => ?_⟩
    match i, hi with
    | 0, hi => obtain rfl : (.slice B b.length cb : Value) = u := by simpa using hi
               exact h1

theorem lens_two (a b : List S62) : lens [a, b] 2 = (a ++ b).length := by simp [lens]

set_option maxRecDepth 100000 in
set_option maxHeartbeats 4000000 in
theorem keys_Merge.calls (A0 : Option Addr) (c0 : Nat) (l0 : List (S62)) (A1 : Option Addr) (c1 : Nat) (l1 : List (S62)) (r : List (S62)) (w : World) (hr0 : Kd.C k62 w A0 l0.length l0) (hc0 : l0.length ≤ c0) (hr1 : Kd.C k62 w A1 l1.length l1) (hc1 : l1.length ≤ c1) (h : keys_Merge.f l0 l1 = some r) :
    Calls Try.prog 29 #[.slice A0 l0.length c0, .slice A1 l1.length c1] w fun e w' => ∃ v0_ : Value, e = .returned (v0_) ∧ Kd.R k62 62 w' w.heap.size (fun _ => True) v0_ r ∧ Below w.heap.size w w' := by
  unfold keys_Merge.f at h
  split at h
  case isFalse => cases h
  rename_i h1
  obtain ⟨h1, h2⟩ := h1
  obtain rfl := Option.some.inj h
  clear h
  have P1 : Aside0 (Kd.C (Kd.slice 62 k62) (w.alloc (Obj.cells #[Value.slice A0 l0.length c0, Value.slice A1 l1.length c1] 53)) (some ⟨w.heap.size, 0, none⟩) ([l0, l1] : List (List S62)).length [l0, l1]) :=
    ⟨pair_in (by go_simp) (by go_simp) hc0 hc1 (Kd.C_alloc hr0 _) (Kd.C_alloc hr1 _)⟩
  have M1 := Aside0.mk (concat_walk _ 2 [l0, l1] _ P1.out (by simp) (by simp) (by show lens [l0, l1] 2 ≤ 1000000; rw [lens_two]; omega))
  obtain ⟨l, hl⟩ : ∃ l, l0 ++ l1 = l := ⟨_, rfl⟩
  rw [hl] at h1 h2 ⊢
  have HL := Aside0.mk hl
  clear hl hr0 hr1 hc0 hc1
  go_enter Try.func29, Try.ntmps29
  go_wp2_with fail
  refine M1.out.mono ?_
  rintro e w1 ⟨v1, rfl, R1, B1⟩
  have fl : ([l0, l1] : List (List S62)).flatten = l := by rw [← HL.out]; simp
  rw [fl] at R1
  have R1 := Kd.R_lower R1 (base' := w.heap.size) (by simp)
  have BB := (below_alloc (Below.refl w.heap.size w) (Obj.cells #[Value.slice A0 l0.length c0, Value.slice A1 l1.length c1] 53)).trans (B1.mono (by simp))
  obtain ⟨g, q, rfl, _⟩ := Kd.R_form R1 h1
  have S1 := Aside0.mk (sortStable_calls g q l w w1 R1 BB h1 h2)
  clear R1 B1 BB M1 P1 fl
  go_wp2_with fail
  refine S1.out.mono ?_
  rintro e w2 ⟨rfl, R2, B2⟩
  have R2' := Aside0.mk R2
  have B2' := Aside0.mk B2
  clear R2 B2 S1
  go_wp2
  go_ret
  exact ⟨_, rfl, R2'.out, B2'.out⟩
end Go.Proofs.Ytcicoedgjoploaa.PK
