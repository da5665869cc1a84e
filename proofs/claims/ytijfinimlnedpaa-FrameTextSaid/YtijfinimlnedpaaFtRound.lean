/- A region that draws its order, in a round of a range over a function: as anywhere; and a function that holds such a range. -/
import Derived.Test.YtijfinimlnedpaaFtChunk
import Derived.Test.YtijfinimlnedpaaFtClone
namespace Go.Proofs.Ytijfinimlnedpaa.PFT
open Go.RowKit Go.Shelf Go.Proofs.YtijfinimlnedpaaW.PrintWords Go.Proofs.YtijfinimlnedpaaW.PrintLast Go.Proofs.YtijfinimlnedpaaW.PrintMore
set_option linter.unusedVariables false

theorem calls_of_wp_marks {P : Program} {f : FuncId} {fn : Func} {c : Code} {args : Array Value} {w : World} {R : Ending → World → Prop}
    (hf : P.funcs[f]? = some fn) (hb : fn.body = some c)
    (h : c.wp P (bodyPostM Fence.wide 6 P fn R) { tmps := args ++ Array.replicate (fn.ntmps - args.size) undef, defers := [] } w) : Calls P f args w R :=
  (callsIn_wide (n := 6)).1 (callsIn_of_wp_marks hf hb trivial (wpIn_wide.2 h) rfl)
theorem marks_of_post {P : Program} {fn : Func} {R : Ending → World → Prop} {a : Act} {w : World} (h : bodyPost P fn R .ret a w) : bodyPostM Fence.wide 6 P fn R .ret a w := by
  obtain ⟨hd, v, h1, h2⟩ := h
  show LeavesInM _ _ _ _ _ _ a.defers .returning w
  rw [hd]
  exact ⟨v, h1, h2⟩

theorem upon_round {P : Program} {l n : Nat} {o : Oper} {a : Act} {K : Act → World → Prop} {Q : Exit → Act → World → Prop} {r : Result Next} (h : o.upon P a K Q r) : o.uponIn (Fence.wide.inRound l) n P a K Q r := by
  cases r with
  | ok x w' =>
    cases x with
    | value v => exact h
    | skip => exact h
    | defer d => exact h
    | enter f args => exact ⟨fun h0 => by simp [Fence.wide] at h0, CallsIn.inRound l (callsIn_wide.2 h)⟩
    | row row args => exact ⟨fun h0 => by simp [Fence.wide] at h0, fun c cs _ => let ⟨v, w', r, s⟩ := h c cs; ⟨v, w', r, stepsIn_wide.2 s⟩⟩
    | _ => exact (h : False).elim
  | halt x w' => cases x <;> exact h
theorem oper_round {P : Program} {l n : Nat} {o : Oper} {a : Act} {w : World} {K : Act → World → Prop} {Q : Exit → Act → World → Prop} (hd : ∀ c, o.op ≠ .defer c) (h : o.wp P a w K Q) : o.wpIn (Fence.wide.inRound l) n P a w K Q := by
  refine ⟨fun _ _ => trivial, ?_⟩
  rw [Fence.inRound_round, Oper.semAt_some l _ _ hd]
  exact upon_round h
theorem op_round {P : Program} {l n : Nat} {ops : Array Oper} {i : Nat} {a : Act} {w : World} {K : Act → World → Prop} {Q : Exit → Act → World → Prop} (hno : ¬ LetsOut Q) (hd : ∀ (j : Nat) (o : Oper), ops[j]? = some o → ∀ c, o.op ≠ Op.defer c) (h : wpOp P ops Q i K a w) : wpOpIn (Fence.wide.inRound l) n P ops Q i K a w := by
  unfold wpOp at h
  unfold wpOpIn
  split
  · rename_i ho
    rw [ho] at h
    exact h
  · rename_i o ho
    rw [ho] at h
    simp only at h
    split
    · rename_i hw
      rw [if_pos hw] at h
      exact oper_round (hd i o ho) (h.resolve_right fun hh => hno hh.2)
    · rename_i hw
      rw [if_neg hw] at h
      exact ⟨fun _ _ => trivial, h⟩
theorem any_round {P : Program} {l n : Nat} {md : Region.Mode} {ops : Array Oper} {Q : Exit → Act → World → Prop} (hno : ¬ LetsOut Q) (hd : ∀ (j : Nat) (o : Oper), ops[j]? = some o → ∀ c, o.op ≠ Op.defer c) : ∀ (fuel : Nat) (listed : Array Bool) (a : Act) (w : World),
    wpAny P md ops Q fuel listed a w → wpAnyIn (Fence.wide.inRound l) n P md ops Q fuel listed a w := by
  intro fuel
  induction fuel with
  | zero => intro listed a w h; exact h
  | succ fuel ih =>
    intro listed a w h
    exact ⟨h.1, fun i hi => op_round hno hd (wpOp_mono (fun a w h => ih _ a w h) (h.2 i hi))⟩
def noDefer (ops : Array Oper) : Bool := ops.all fun o => match o.op with | .defer _ => false | _ => true
theorem noDefer_spec {ops : Array Oper} (h : noDefer ops = true) : ∀ (j : Nat) (o : Oper), ops[j]? = some o → ∀ c, o.op ≠ Op.defer c := by
  intro j o hj c hc
  obtain ⟨hlt, he⟩ := Array.getElem?_eq_some_iff.1 hj
  have h1 := Array.all_eq_true.1 h j hlt
  rw [he, hc] at h1
  cases h1
theorem region_round {P : Program} {l n id sz : Nat} {ops : Array Oper} {Q : Exit → Act → World → Prop} {a : Act} {w : World} {S : World → Prop} {ds : List Nat} (lst : Array Bool) (hm : P.follows .mixedOrders = true) (hno : ¬ LetsOut Q) (hd : noDefer ops = true)
    (hn : ops.size = sz) (hl : Array.replicate sz false = lst) (hS : S w.drew)
    (h : S w.drew → wpAnyLast P .any ops Q S ds sz lst a w.drew) : (Code.region id ops true).wpIn (Fence.wide.inRound l) n P Q a w := by
  subst hn
  subst hl
  exact wpIn_region_any hm (any_round hno (noDefer_spec hd) _ _ _ _ (wpAny_of_last _ _ _ _ (h hS)))

/-! ### what is known between two rounds -/
def pieces (xs : List Int) (m : Nat) : List (List Int) := (List.range m).map fun j => (xs.drop (j * 2560)).take 2560
def pic (xs : List Int) (r : Int) (m : Nat) : List (List Int) := if r = 0 then pieces xs m else []
theorem pic_no {xs : List Int} {r : Int} {m : Nat} (h : ¬ r = 0) : pic xs r m = [] := if_neg h
def piece (xs : List Int) {m : Nat} (j : Fin m) : List Int := (xs.drop (j.1 * 2560)).take 2560

abbrev kL : Kd (List Int) := Kd.slice 3 (Kd.int .i64)
/-- Rows of the call's own lie in blocks of cells: what holds no cells may turn. -/
theorem S_calm {e : Nat} {w w1 : World} {base : Nat} {v : Value} {xs : List (List Int)} (h : Kd.S kL e w base (fun _ => True) v xs) {row : Option Nat} (hg : w.grownBy w1 row) (hr : ∀ r, row = some r → ∃ o : Obj, w.heap[r]? = some o ∧ o.isCells = false) : Kd.S kL e w1 base (fun _ => True) v xs := by
  refine Kd.S_mono (Kd.S_step (Kd.S_bound h) (fun k hk _ => ?_)) (fun _ _ => trivial)
  refine hg.block k hk.2.2.1 (fun e => ?_)
  obtain ⟨o, ho, hc⟩ := hr k e.symm
  obtain ⟨q, _, cells, h2⟩ := hk.2.2.2
  rw [h2] at ho
  cases ho
  simp [Obj.isCells] at hc
theorem C_calm {w w1 : World} {A : Option Addr} {n : Nat} {xs : List Int} (h : Kd.C (Kd.int .i64) w A n xs) {row : Option Nat} (hg : w.grownBy w1 row) (hr : ∀ r, row = some r → ∃ o : Obj, w.heap[r]? = some o ∧ o.isCells = false) : Kd.C (Kd.int .i64) w1 A n xs := by
  obtain ⟨h1, h2, h3⟩ := h
  refine ⟨h1, h2, fun hn => ?_⟩
  obtain ⟨ad, e, h4⟩ := h3 hn
  refine ⟨ad, e, fun j p hj => ?_⟩
  obtain ⟨c, hlc, hK, hc⟩ := h4 j p hj
  exact ⟨c, hlc, hK, fun i u hi => cell_kept (hc i u hi) hg hr⟩

/-- What holds between two rounds: the pieces that have come are in a list of the call's own, and nothing else has changed. -/
def FI (w W0 : World) (B : Nat) (xs : List Int) (m : Nat) (pre : List (Fin m)) (W : World) : Prop :=
  (∃ v, W.heap[B]? = some (.cells #[v] 62 (0, 0)) ∧ Kd.S kL 70 W W0.heap.size (fun _ => True) v (pre.map (piece xs))) ∧ KeepBut W0 W B none ∧ Below w.heap.size w W
theorem blk_calm {w w1 : World} {g : Nat} {cs : Array Value} {t : Nat} (h : w.heap[g]? = some (.cells cs t (0, 0))) {row : Option Nat} (hg : w.grownBy w1 row) (hr : ∀ r, row = some r → ∃ o : Obj, w.heap[r]? = some o ∧ o.isCells = false) : w1.heap[g]? = some (.cells cs t (0, 0)) := by
  refine (hg.block g (blk_lt h) (fun e => ?_)).trans h
  obtain ⟨o, ho, hc⟩ := hr g e.symm
  rw [h] at ho
  cases ho
  simp [Obj.isCells] at hc
theorem FI_own (w W0 : World) (B : Nat) (xs : List Int) (m : Nat) (hX : w.heap.size ≤ W0.heap.size) : OwnFrom W0.heap.size (FI w W0 B xs m) := by
  intro pre W W' row hs hg hr
  obtain ⟨⟨v, h1, h2⟩, h3, h4⟩ := hs
  have hr' : ∀ r, row = some r → ∃ o : Obj, W.heap[r]? = some o ∧ o.isCells = false := fun r e => (hr r e).2
  refine ⟨⟨v, blk_calm h1 hg hr', S_calm h2 hg hr'⟩, ⟨Nat.le_trans h3.1 hg.size, fun i hi hB h0 => (hg.block i (Nat.lt_of_lt_of_le hi h3.1) (fun e => ?_)).trans (h3.2 i hi hB h0)⟩, h4.grown hg h4.size (fun k e => Nat.le_trans hX (hr k e).1)⟩
  have := (hr i e.symm).1
  omega
theorem FI_step {w W0 W W1 w4 : World} {B m : Nat} {xs : List Int} {pre : List (Fin m)} {x : Fin m} {v v2 : Value} (HKB : KeepBut W0 W B none) (HB1 : Below W.heap.size W W1) (HG : W1.grownBy w4 v.ownBlock)
    (hv : ∀ k, v.ownBlock = some k → W0.heap.size ≤ k ∧ ∃ cells, W1.heap[k]? = some (.cells cells 70 (0, 0))) (hb : w4.heap[B]? = some (.cells #[v] 62 (0, 0))) (hS : Kd.S kL 70 w4 W0.heap.size (fun _ => True) v2 (pre.map (piece xs) ++ [piece xs x]))
    (hB : Below w.heap.size w W) (h1 : B + 1 < W0.heap.size) (h2 : B + 1 + 1 < W0.heap.size) (hwB : w.heap.size ≤ B) (hw0 : w.heap.size ≤ W0.heap.size) :
    KeepsOthers W (w4.setCell ⟨B, 0, none⟩ v2) ∧ Two (B + 1) (B + 1 + 1) W (w4.setCell ⟨B, 0, none⟩ v2) ∧ FI w W0 B xs m (pre ++ [x]) (w4.setCell ⟨B, 0, none⟩ v2) := by
  have hk : ∀ i, i < W0.heap.size → i ≠ B → (w4.setCell ⟨B, 0, none⟩ v2).heap[i]? = W.heap[i]? := by
    intro i hi hne
    have hiW : i < W.heap.size := Nat.lt_of_lt_of_le hi HKB.1
    rw [Below.heap_setCell w4 ⟨B, 0, none⟩ v2 i hne, HG.block i (Nat.lt_of_lt_of_le hiW HB1.size) (fun e => by have := (hv i e.symm).1; omega), HB1.block i hiW]
  have hB4 : Below w.heap.size w w4 := (hB.trans (HB1.mono hB.size)).grown HG (Nat.le_trans hB.size HB1.size) (fun k e => Nat.le_trans hw0 (hv k e).1)
  refine ⟨?_, ⟨hk _ h1 (by omega), hk _ h2 (by omega)⟩, ⟨v2, ?_, ?_⟩, ⟨?_, fun i hi hne h0 => (hk i hi hne).trans (HKB.2 i hi hne h0)⟩, ?_⟩
  · refine ((KeepsOthers.of_grownBy (grown_of_below HB1 none) (fun j o e => by cases e)).trans (KeepsOthers.of_grownBy HG (fun j o e ho => ?_))).trans (KeepsOthers.setCell _ _ _)
    obtain ⟨_, cells, hc⟩ := hv j e
    rw [hc] at ho
    cases ho
    rfl
  · have := blk_set hb 0 v2
    simpa using this
  · rw [List.map_append]
    exact Kd.S_set hS hb (by decide) 0 v2
  · have := HG.size
    have h3 := HB1.size
    have h4 := HKB.1
    rw [World.size_setCell]
    omega
  · exact hB4.setCell hwB _
theorem pieces_all (xs : List Int) (m : Nat) : (List.finRange m).map (piece xs) = pieces xs m := by
  unfold pieces piece
  apply List.ext_getElem
  · simp
  · intro i h1 h2
    simp
theorem piece_C {W : World} {g m : Nat} {xs : List Int} (h : Kd.C (Kd.int .i64) W (some ⟨g, 0, none⟩) xs.length xs) (hl : xs.length = m * 2560) (j : Fin m) : Kd.C (Kd.int .i64) W (some ⟨g, j.1 * 2560, none⟩) (piece xs j).length (piece xs j) := by
  have hj := j.2
  have h1 : j.1 * 2560 + 2560 ≤ m * 2560 := by
    have : (j.1 + 1) * 2560 ≤ m * 2560 := Nat.mul_le_mul_right _ hj
    omega
  unfold piece
  obtain ⟨a, ha⟩ : ∃ a, j.1 * 2560 = a := ⟨_, rfl⟩
  obtain ⟨L, hL⟩ : ∃ L, 2560 = L := ⟨_, rfl⟩
  have hp : (xs.drop a).take L = (xs.take (a + L)).drop a := by
    rw [List.drop_take]
    congr 1
    omega
  rw [ha] at h1 ⊢
  rw [hL]
  have hcap : a + L ≤ xs.length := by omega
  clear ha h1 hj hL hl
  by_cases h0 : L = 0
  · subst h0
    rw [List.take_zero]
    exact ⟨rfl, Nat.zero_le _, fun h => absurd h (Nat.lt_irrefl 0)⟩
  have h2 := Kd.C_mid (k := Kd.int .i64) (c := xs.length) (lo := a) (hi := a + L) h (by omega) hcap (Nat.le_refl _)
  rw [← hp, if_neg (by omega)] at h2
  have e1 : (Option.map (fun x : Addr => x.add (a * (Kd.int .i64).sz)) (some ⟨g, 0, none⟩)) = some ⟨g, a, none⟩ := by
    show some (Addr.add ⟨g, 0, none⟩ (a * 1)) = _
    rw [Nat.mul_one, add_plain]
  rw [e1] at h2
  exact h2
theorem piece_len {m : Nat} {xs : List Int} (hl : xs.length = m * 2560) (j : Fin m) : (piece xs j).length = 2560 := by
  have hj := j.2
  have h1 : j.1 * 2560 + 2560 ≤ m * 2560 := by
    have : (j.1 + 1) * 2560 ≤ m * 2560 := Nat.mul_le_mul_right _ hj
    omega
  unfold piece
  rw [List.length_take, List.length_drop]
  omega
end Go.Proofs.Ytijfinimlnedpaa.PFT
