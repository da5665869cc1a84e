/- The plain law of GateHangs, first part: what the functions of gate give for a valid circuit. -/
import Derived.Test.YtaalafnkglbcpaaCircuit
import Derived.Test.YtaalafnkglbcpaaPGx1
import Derived.Test.YtaalafnkglbcpaaPGx5
import Derived.Test.YtaalafnkglbcpaaPGx6
import Derived.Test.YtaalafnkglbcpaaPGx11
import Derived.Test.YtaalafnkglbcpaaPGx12
import Derived.Test.YtaalafnkglbcpaaPGx13
import Derived.Test.YtaalafnkglbcpaaPGx14
import Derived.Test.YtaalafnkglbcpaaPGx17
namespace Go.Proofs.Ytaalafnkglbcpaa.Pure
open Go.RowKit Go.Proofs.Ytaalafnkglbcpaa.PG Go.Proofs.YtaalafnkglbcpaaW.PrintWords Go.Proofs.YtaalafnkglbcpaaW.PrintLast Go.Proofs.YtaalafnkglbcpaaW.PrintMore
set_option linter.unusedVariables false

theorem w64 {n : Int} (h0 : -9223372036854775808 ≤ n) (h1 : n ≤ 9223372036854775807) : wrap64 n = n := by unfold wrap64; omega
theorem wnext {i : Nat} (h : i ≤ 1000000) : wrap64 ((i : Int) + 1) = ((i + 1 : Nat) : Int) := by rw [w64 (by omega) (by omega)]; omega
theorem rd_nat (l : List Int) (i : Nat) : rd l (i : Int) = l.getD i 0 := by unfold rd; simp
theorem rd_in {n : Int} {l : List Int} (h : InR n l) (i : Nat) (h1 : i < l.length) : 0 ≤ rd l (i : Int) ∧ rd l (i : Int) < n := by
  rw [rd_nat, List.getD_eq_getElem?_getD, List.getElem?_eq_getElem h1]; exact h _ (List.getElem_mem _)

theorem equal_l0 (l : List Int) (hl : l.length ≤ 1000) : ∀ d i : Nat, i + d = l.length → Ev (fun k => slices_Equal_int_int.l0 k l l (l.length : Int) (i : Int)) true := by
  intro d
  induction d with
  | zero => intro i hi; refine Ev.step (fun k => ?_) (Ev.now _); simp only [slices_Equal_int_int.l0]; rw [if_neg (by omega)]
  | succ d ih =>
    intro i hi
    refine Ev.step (fun k => ?_) (ih (i + 1) (by omega))
    simp only [slices_Equal_int_int.l0]; rw [if_pos (by omega), if_pos (by omega), if_pos (by omega), if_pos (by omega), if_pos trivial, wnext (by omega)]
theorem equal_self (l : List Int) (hl : l.length ≤ 1000) : Ev (fun k => slices_Equal_int_int.f k l l) true :=
  Ev.congr (fun k => by unfold slices_Equal_int_int.f; rw [if_pos rfl]; rfl) (equal_l0 l hl l.length 0 (by omega))

theorem one_is (ins : Int) (hi0 : 1 ≤ ins) (hi1 : ins ≤ 3) (gates : List S50) (outs next init : List Int) (i : Nat) (hi : i < gates.length) (hg : gates.length ≤ 30) (h : GateOk ins next.length i (gates.getD i z50)) :
    Ev (fun k => gate_one.f k ins gates outs next init (i : Int)) 0 := by
  refine Ev.of (gate_one.mono _ _ _ _ _ _) (k := 8) ?_
  have hr : rd_T50 gates (i : Int) = gates.getD i z50 := by unfold rd_T50; simp
  unfold gate_one.f
  rw [if_pos (by omega), if_pos (by omega), hr]
  generalize gates.getD i z50 = g at *
  obtain ⟨f0, f1, f2, f3, f4⟩ := g
  have hi2 : (i : Int) ≤ 30 := by omega
  unfold GateOk at h
  simp only at h
  rcases h with ⟨rfl, rfl, rfl, rfl, h1, h2⟩ | ⟨rfl, rfl, rfl, rfl, h1, h2⟩ | ⟨rfl, rfl, rfl, rfl, h1, h2⟩ | ⟨rfl, h1, h2, rfl, rfl, rfl⟩ | ⟨hk, h1, h2, h3, h4, rfl, rfl⟩ | ⟨rfl, h1, h2, h3, h4, h5, h6, rfl⟩
  · have : ¬ f4 < 0 := by omega
    have : ¬ 2 ≤ f4 := by omega
    simp [gate_inputs.f, gate_one.l0, gate_one.j1, rd, wrap64, *]
  · have : ¬ f4 < 0 := by omega
    have : ¬ ins ≤ f4 := by omega
    simp [gate_inputs.f, gate_one.l0, gate_one.j1, rd, wrap64, *]
  · have : ¬ f4 < 0 := by omega
    have : ¬ (next.length : Int) ≤ f4 := by omega
    simp [gate_inputs.f, gate_one.l0, gate_one.j1, rd, wrap64, *]
  · have : ¬ f1 < 0 := by omega
    have : ¬ (i : Int) ≤ f1 := by omega
    simp [gate_inputs.f, gate_one.l0, gate_one.j1, rd, wrap64, *]
  · have : ¬ f1 < 0 := by omega
    have : ¬ (i : Int) ≤ f1 := by omega
    have : ¬ f2 < 0 := by omega
    have : ¬ (i : Int) ≤ f2 := by omega
    rcases hk with rfl | rfl | rfl <;> simp [gate_inputs.f, gate_one.l0, gate_one.j1, rd, wrap64, *]
  · have : ¬ f1 < 0 := by omega
    have : ¬ (i : Int) ≤ f1 := by omega
    have : ¬ f2 < 0 := by omega
    have : ¬ (i : Int) ≤ f2 := by omega
    have : ¬ f3 < 0 := by omega
    have : ¬ (i : Int) ≤ f3 := by omega
    simp [gate_inputs.f, gate_one.l0, gate_one.j1, rd, wrap64, *]

theorem check_l0 {ins : Int} {gates : List S50} {outs next init : List Int} (v : ValidC ins gates outs next init) (hl : Ev (fun k => (slices_Concat_int_int.f ([outs, next] : List (List Int))).bind fun t139 => gate_Check.l1 k t139 (t139.length : Int) 0 ins gates outs next init) 0) :
    ∀ d i : Nat, i + d = gates.length → Ev (fun k => gate_Check.l0 k (gates.length : Int) (i : Int) ins gates outs next init) 0 := by
  have g1 := v.g1
  intro d
  induction d with
  | zero => intro i hi; refine Ev.step (fun k => ?_) hl; simp only [gate_Check.l0]; rw [if_neg (by omega)]
  | succ d ih =>
    intro i hi
    refine Ev.step (f := fun k => (gate_one.f k ins gates outs next init (i : Int)).bind fun t135 => (if t135 = 0 then (gate_Check.l0 k (gates.length : Int) (wrap64 ((i : Int) + 1)) ins gates outs next init) else (some t135))) (fun k => ?_) ?_
    · simp only [gate_Check.l0]; rw [if_pos (by omega)]
    · refine Ev.bind (one_is ins v.i0 v.i1 gates outs next init i (by omega) g1 (v.gok i (by omega))) ?_
      refine Ev.congr (fun k => ?_) (ih (i + 1) (by omega))
      rw [if_pos rfl, wnext (by omega)]

theorem check_l2 {l : List Int} (h : InR 2 l) (hl : l.length ≤ 1000) : ∀ d i : Nat, i + d = l.length → Ev (fun k => gate_Check.l2 k l (l.length : Int) (i : Int)) 0 := by
  intro d
  induction d with
  | zero => intro i hi; refine Ev.step (fun k => ?_) (Ev.now _); simp only [gate_Check.l2]; rw [if_neg (by omega)]
  | succ d ih =>
    intro i hi
    have hr := rd_in h i (by omega)
    refine Ev.step (fun k => ?_) (ih (i + 1) (by omega))
    simp only [gate_Check.l2]; rw [if_pos (by omega), if_pos (by omega), if_pos (by omega), wnext (by omega)]
    by_cases h0 : rd l (i : Int) = 0
    · rw [if_pos h0]
    · rw [if_neg h0, if_pos (by omega)]

theorem check_l1 {ins : Int} {gates : List S50} {outs next init l : List Int} (h : InR gates.length l) (hl : l.length ≤ 1000) (hi : InR 2 init) (hil : init.length ≤ 1000) :
    ∀ d i : Nat, i + d = l.length → Ev (fun k => gate_Check.l1 k l (l.length : Int) (i : Int) ins gates outs next init) 0 := by
  intro d
  induction d with
  | zero => intro i hi'; refine Ev.step (fun k => ?_) (check_l2 hi hil init.length 0 (by omega)); simp only [gate_Check.l1]; rw [if_neg (by omega)]; rfl
  | succ d ih =>
    intro i hi'
    have hr := rd_in h i (by omega)
    refine Ev.step (fun k => ?_) (ih (i + 1) (by omega))
    simp only [gate_Check.l1]; rw [if_pos (by omega), if_pos (by omega), if_pos (by omega), if_neg (by omega), if_neg (by omega), wnext (by omega)]

theorem check_is {ins : Int} {gates : List S50} {outs next init : List Int} (v : ValidC ins gates outs next init) : Ev (fun k => gate_Check.f k ins gates outs next init) 0 := by
  have v0 := v.i0; have v1 := v.i1; have v2 := v.g1; have v3 := v.o1; have v4 := v.n1; have v5 := v.il
  have hc : slices_Concat_int_int.f ([outs, next] : List (List Int)) = some (outs ++ next) := by
    unfold slices_Concat_int_int.f
    rw [if_pos (by constructor; · simp
                   · simp [lens]; omega)]
    simp
  have hin : InR gates.length (outs ++ next) := fun x hx => by
    rcases List.mem_append.1 hx with hx | hx
    · exact v.ook x hx
    · exact v.nok x hx
  have h1 : Ev (fun k => gate_Check.j0 k false ins gates outs next init) 0 := by
    refine Ev.step (fun k => ?_) (check_l0 v ?_ gates.length 0 (by omega))
    · simp only [gate_Check.j0]; rw [if_neg (by decide), if_pos (by omega)]; rfl
    · refine Ev.congr (fun k => ?_) (check_l1 (ins := ins) (gates := gates) (outs := outs) (next := next) hin (by simp; omega) v.iok (by omega) (outs ++ next).length 0 (by omega))
      rw [hc]; rfl
  refine Ev.congr (fun k => ?_) h1
  unfold gate_Check.f
  have hd : decide ((next.length : Int) > 10) = false := decide_eq_false (by omega)
  rw [if_neg (by omega), if_neg (by omega), if_neg (by omega), if_neg (by omega), hd]

theorem start_l0 (l : List Int) (hl : l.length ≤ 1000) : ∀ d i : Nat, ∀ x : Int, i + d = l.length → ∃ r, Ev (fun k => gate_Start.l0 k x l (l.length : Int) (i : Int)) r := by
  intro d
  induction d with
  | zero => intro i x hi; refine ⟨x, Ev.step (fun k => ?_) (Ev.now _)⟩; simp only [gate_Start.l0]; rw [if_neg (by omega)]
  | succ d ih =>
    intro i x hi
    obtain ⟨r, hr⟩ := ih (i + 1) (Go.bits .or .i64 x (shl .i64 (Go.bits .and .i64 (rd l (i : Int)) 1) (i : Int))) (by omega)
    refine ⟨r, Ev.step (fun k => ?_) hr⟩
    simp only [gate_Start.l0]; rw [if_pos (by omega), if_pos (by omega), if_pos (by omega), wnext (by omega)]

theorem start_is (ins : Int) (gates : List S50) (outs next init : List Int) (h : init.length ≤ 10) : ∃ r, Ev (fun k => gate_Start.f k ins gates outs next init) r := by
  have hq : mn (init.length : Int) 10 = init.length := by unfold mn; split <;> omega
  obtain ⟨r, hr⟩ := start_l0 init (by omega) init.length 0 0 (by omega)
  refine ⟨r, Ev.congr (fun k => ?_) hr⟩
  unfold gate_Start.f; rw [hq, if_pos (by omega), if_pos (by omega), Int.toNat_natCast, List.take_length]; rfl

theorem below_is (x n : Int) (hn : 0 < n) (hb : n ≤ 1000000) : ∃ r, bakemake_Below.f x n = some r ∧ 0 ≤ r ∧ r < n := below_some x n hn hb

theorem word_l0 (ins : Int) (hi0 : 1 ≤ ins) (hi1 : ins ≤ 3) (l : List Int) (hl : l.length ≤ 60) : ∀ d i : Nat, ∀ acc : List Int, i + d = l.length → acc.length = i → InR (shl .i64 1 ins) acc →
    ∃ r, Ev (fun k => bakekeep3_word.l0 k ins acc l (l.length : Int) (i : Int)) r ∧ r.length = l.length ∧ InR (shl .i64 1 ins) r := by
  have hs : 0 < shl .i64 1 ins ∧ shl .i64 1 ins ≤ 1000000 := by
    have : ins = 1 ∨ ins = 2 ∨ ins = 3 := by omega
    rcases this with rfl | rfl | rfl <;> decide +kernel
  intro d
  induction d with
  | zero => intro i acc hi ha hb; refine ⟨acc, Ev.step (fun k => ?_) (Ev.now _), by omega, hb⟩; simp only [bakekeep3_word.l0]; rw [if_neg (by omega)]
  | succ d ih =>
    intro i acc hi ha hb
    obtain ⟨q, hq, q0, q1⟩ := below_is (rd l (i : Int)) (shl .i64 1 ins) hs.1 hs.2
    obtain ⟨r, hr, h1, h2⟩ := ih (i + 1) (acc ++ [q]) (by omega) (by simp; omega) (hb.snoc q0 q1)
    refine ⟨r, Ev.step (fun k => ?_) hr, h1, h2⟩
    simp only [bakekeep3_word.l0]; rw [if_pos (by omega), if_pos (by omega), if_pos (by omega), if_pos (by omega), hq, Option.bind_some, if_pos (by omega), wnext (by omega)]

theorem word_is (ins : Int) (hi0 : 1 ≤ ins) (hi1 : ins ≤ 3) (l : List Int) : ∃ r, Ev (fun k => bakekeep3_word.f k l ins) r ∧ r.length ≤ 60 ∧ InR (shl .i64 1 ins) r := by
  obtain ⟨m, hm, hm0, hm1⟩ : ∃ m : Nat, mn (l.length : Int) 60 = (m : Int) ∧ m ≤ l.length ∧ m ≤ 60 := ⟨min l.length 60, by unfold mn; split <;> omega, by omega, by omega⟩
  have ht : (l.take m).length = m := by simp; omega
  obtain ⟨r, hr, h1, h2⟩ := word_l0 ins hi0 hi1 (l.take m) (by omega) (l.take m).length 0 [] (by omega) rfl (InR.nil _)
  refine ⟨r, Ev.congr (fun k => ?_) hr, by omega, h2⟩
  unfold bakekeep3_word.f
  rw [hm, if_pos (by omega), if_pos (by omega), Int.toNat_natCast]; rfl

theorem gated_is : Ev (fun k => bakekeep3_gated.f k) true := Ev.of bakekeep3_gated.mono (k := 20) (by decide +kernel)
end Go.Proofs.Ytaalafnkglbcpaa.Pure
