/- The least table while it is being made: what its blocks hold. -/
import Derived.Test.YtaalafnkglbcpaaClasses
namespace Go.Proofs.Ytaalafnkglbcpaa.PL
open Go.RowKit Go.WideMaps Go.Maps Go.Proofs.YtaalafnkglbcpaaW.PrintWords Go.Proofs.YtaalafnkglbcpaaW.PrintLast Go.Proofs.YtaalafnkglbcpaaW.PrintMore
set_option linter.unusedVariables false

theorem lawI : Maps.Keyed Try.prog 3 := Maps.int_keyed Try.underlying3
theorem wpList_insert_own {H : Type} {P : Program} (w : World) {ops : Array Oper} {rest : List Oper} {o : Oper} {a : Act} {Q : Exit → Act → World → Prop}
    (hg : o.guard = none) (m x v : Operand) (t : TypeId) (hop : o.op = Op.insert t m x v)
    (k e : TypeId) (K : Keyed P k) (ht : P.underlying t = some (.map k e)) (R : Value → Option (DataW H × List MemPlace)) (b n : Nat) (D : DataW H)
    (hm : a.eval m = .map (some b)) (hown : w.ownsMap P k R b n D) (hn : n < maxLen) (key val : Value) (kl : Lit) (hx : a.eval x = key) (hv : a.eval v = val) (hkey : keyOf P k key = some kl)
    (d : DataW H) (ps : List MemPlace) (hval : R val = some (d, ps))
    (hK : ∀ w', w'.ownsMap P k R b (n + 1) (D.put kl d) → w.grownBy w' (some b) → wpList P ops Q rest (a.put o.dst undef) w') :
    wpList P ops Q (o :: rest) a w := by
  refine wpList_plain hg fun K' hK' => ?_
  obtain ⟨w', hrun, r1, r2⟩ := hown.update K ht hn hkey hval
  unfold Oper.wp
  simp [execOp, hop, hm, hx, hv, hrun, Result.andThen]
  exact hK' _ _ (hK w' r1 r2)

structure MInv (w1 W : World) (ins outs : Int) (vr : Value) (rows : Tab) (v8 : Value) (todo : List Int) (v9 : Value) (row : List S77) (m : Nat) (D : DataW Unit) : Prop where
  hb : Below w1.heap.size w1 W
  blk : W.heap[w1.heap.size]? = some (.cells #[.int .i64 ins, .int .i64 outs, vr] 25 (0, 0))
  om : W.ownsMap Try.prog 3 (plainElem (H := Unit) Try.prog 3) (w1.heap.size + 1) m D
  rr : Kd.S (Kd.slice 77 k77) 75 W (w1.heap.size + 2) (fun k => some k ≠ v9.ownBlock) vr rows
  td : Kd.Q (Kd.int .i64) 3 W (w1.heap.size + 2) (fun _ => True) v8 todo
  r9 : Kd.R k77 77 W (w1.heap.size + 2) (fun _ => True) v9 row

section
variable {w1 W W' : World} {ins outs : Int} {vr v8 v9 v8' v1 : Value} {rows : Tab} {todo todo' : List Int} {row row' : List S77} {m m' : Nat} {D D' : DataW Unit}

theorem MInv.size (h : MInv w1 W ins outs vr rows v8 todo v9 row m D) : w1.heap.size + 2 ≤ W.heap.size := by have := h.om.lt; omega
theorem MInv.alloc (h : MInv w1 W ins outs vr rows v8 todo v9 row m D) (o : Obj) : MInv w1 (W.alloc o) ins outs vr rows v8 todo v9 row m D :=
  { hb := h.hb.alloc h.hb.size o, blk := blk_alloc h.blk o, om := h.om.alloc o, rr := Kd.S_alloc h.rr o, td := Kd.Q_alloc h.td o, r9 := Kd.R_alloc h.r9 o }
theorem MInv.drewN (h : MInv w1 W ins outs vr rows v8 todo v9 row m D) (q : Nat) : MInv w1 (W.drewN q) ins outs vr rows v8 todo v9 row m D :=
  { hb := pw_below_drewN h.hb q, blk := blk_drewN h.blk q, om := owns_drewN h.om q, rr := Kd.S_drewN h.rr q, td := Kd.Q_drewN h.td q, r9 := Kd.R_drewN h.r9 q }

theorem MInv.addTodo (h : MInv w1 W ins outs vr rows v8 todo v9 row m D) (hq : Kd.Q (Kd.int .i64) 3 W' (w1.heap.size + 2) (fun _ => True) v8' todo') (hg : W.grownBy W' v8.ownBlock) : MInv w1 W' ins outs vr rows v8' todo' v9 row m D := by
  have hz := h.size
  have lo : ∀ k, v8.ownBlock = some k → w1.heap.size + 2 ≤ k := fun k hk => Kd.Q_base h.td k hk
  have ne : ∀ g, g < w1.heap.size + 2 → some g ≠ v8.ownBlock := fun g hlt e => by have := lo g e.symm; omega
  exact { hb := h.hb.grown hg h.hb.size (fun k hk => by have := lo k hk; omega), blk := blk_grown h.blk hg (ne _ (by omega)), om := h.om.kept hg (ne _ (by omega)),
          rr := Kd.S_over' h.rr (Kd.Q_typed h.td) (by intro q hq; simp [Kd.slice, k77, Kd.iso, Kd.pair, Kd.int, Kd.scalar] at hq; omega) hg, td := hq, r9 := Kd.R_over' h.r9 (Kd.Q_typed h.td) (by intro q hq; simp [k77, Kd.iso, Kd.pair, Kd.int, Kd.scalar] at hq; omega) hg }
theorem MInv.dropTodo (h : MInv w1 W ins outs vr rows v8 todo v9 row m D) (hq : Kd.Q (Kd.int .i64) 3 W (w1.heap.size + 2) (fun _ => True) v8' todo') : MInv w1 W ins outs vr rows v8' todo' v9 row m D :=
  { h with td := hq }

theorem MInv.putMap (h : MInv w1 W ins outs vr rows v8 todo v9 row m D) (ho : W'.ownsMap Try.prog 3 (plainElem (H := Unit) Try.prog 3) (w1.heap.size + 1) m' D') (hg : W.grownBy W' (some (w1.heap.size + 1))) : MInv w1 W' ins outs vr rows v8 todo v9 row m' D' := by
  have hz := h.size
  exact { hb := h.hb.grown hg h.hb.size (fun k hk => by injection hk with hk; omega), blk := blk_grown h.blk hg (by simp), om := ho, rr := S_under h.rr hg (by omega), td := Kd.Q_grown1 h.td rfl hg (fun e => by have := Kd.Q_base h.td _ e.symm; omega), r9 := R_under h.r9 hg (by omega) }

theorem MInv.addRow (h : MInv w1 W ins outs vr rows v8 todo v9 row m D) (hr : Kd.R k77 77 W' (w1.heap.size + 2) (fun _ => True) v1 row') (hg : W.grownBy W' v9.ownBlock) (hat : v1.ownBlock = v9.ownBlock ∨ ∃ b, v1.ownBlock = some b ∧ W.heap.size ≤ b) : MInv w1 W' ins outs vr rows v8 todo v1 row' m D := by
  have hz := h.size
  have lo : ∀ k, v9.ownBlock = some k → w1.heap.size + 2 ≤ k := fun k hk => Kd.R_base h.r9 k hk
  have ne : ∀ g, g < w1.heap.size + 2 → some g ≠ v9.ownBlock := fun g hlt e => by have := lo g e.symm; omega
  exact { hb := h.hb.grown hg h.hb.size (fun k hk => by have := lo k hk; omega), blk := blk_grown h.blk hg (ne _ (by omega)), om := h.om.kept hg (ne _ (by omega)),
          rr := Kd.S_mono (Kd.S_after (Kd.S_mono h.rr (fun k hk => (⟨trivial, hk⟩ : True ∧ _))) hg hat) (fun k hk => hk.2), td := Kd.Q_over' h.td (Kd.R_typed h.r9) (by intro q hq; simp [Kd.int, Kd.scalar] at hq; omega) hg, r9 := hr }

theorem MInv.addState (h : MInv w1 W ins outs vr rows v8 todo v9 row m D) {rows' : Tab} (hr : Kd.S (Kd.slice 77 k77) 75 W' (w1.heap.size + 2) (fun _ => True) v1 rows') (hg : W.grownBy W' vr.ownBlock) :
    MInv w1 (W'.setCell ⟨w1.heap.size, 2, none⟩ v1) ins outs v1 rows' v8 todo (.slice none 0 0) [] m D := by
  have hz := h.size
  have lo : ∀ k, vr.ownBlock = some k → w1.heap.size + 2 ≤ k := fun k hk => Kd.S_base h.rr k hk
  have ne : ∀ g, g < w1.heap.size + 2 → some g ≠ vr.ownBlock := fun g hlt e => by have := lo g e.symm; omega
  have htd := Kd.Q_over' h.td (Kd.S_typed h.rr) (by intro q hq; simp [Kd.int, Kd.scalar] at hq; omega) hg
  exact { hb := (h.hb.grown hg h.hb.size (fun k hk => by have := lo k hk; omega)).setCell (Nat.le_refl _) _, blk := blk_put (blk_grown h.blk hg (ne _ (by omega))) 2 _ rfl,
          om := (h.om.kept hg (ne _ (by omega))).setCell (by show w1.heap.size + 1 ≠ w1.heap.size; omega) _,
          rr := S_putU (Kd.S_mono hr (fun k _ => by simp [Value.ownBlock])) (by show w1.heap.size < _; omega) _,
          td := Kd.Q_mono (Kd.Q_far (Kd.Q_bound htd) (fun k hk => by have := hk.2.1; show k ≠ w1.heap.size; omega) _) (fun _ hk => hk.1), r9 := Kd.R_nil _ _ _ _ _ }
end

/-! ### what is computed -/
open Classical in
/-- Which of the states that were reached cannot be told from q; how many, if none. -/
noncomputable def idxB (t : Tab) (reps : List Nat) (q : Nat) : Nat := reps.findIdx (fun p => decide (Bis t p q))
noncomputable def minRow (t : Tab) : List S77 → List Nat → List S77 → List Nat × List S77
  | [], reps, row => (reps, row)
  | r :: rs, reps, row => minRow t rs (if idxB t reps r.f1.toNat < reps.length then reps else reps ++ [r.f1.toNat]) (row ++ [⟨r.f0, (idxB t reps r.f1.toNat : Nat)⟩])
noncomputable def minGo (t : Tab) : Nat → Nat → List Nat → Tab → Tab
  | 0, _, _, out => out
  | n + 1, i, reps, out => if i < reps.length then minGo t n (i + 1) (minRow t (roww t (reps.getD i 0)) reps []).1 (out ++ [(minRow t (roww t (reps.getD i 0)) reps []).2]) else out
/-- The least table. -/
noncomputable def minRows (t : Tab) : Tab := minGo t (t.length + 1) 0 [0] []

/-- The states that were reached: each in reach, no two alike. -/
structure Rchd (t : Tab) (reps : List Nat) : Prop where
  lt : ∀ p ∈ reps, p < t.length
  apart : ∀ i j (hi : i < reps.length) (hj : j < reps.length), Bis t reps[i] reps[j] → i = j
theorem idxB_lt {t : Tab} {reps : List Nat} {q : Nat} (h : idxB t reps q < reps.length) : Bis t (reps.getD (idxB t reps q) 0) q := by
  have := List.findIdx_getElem (w := h)
  rw [List.getD_eq_getElem?_getD, List.getElem?_eq_getElem h]
  exact @of_decide_eq_true _ (Classical.propDecidable _) this
theorem idxB_eq {t : Tab} {reps : List Nat} (hr : Rchd t reps) {i q : Nat} (hi : i < reps.length) (h : Bis t (reps.getD i 0) q) : idxB t reps q = i := by
  rw [List.getD_eq_getElem?_getD, List.getElem?_eq_getElem hi] at h
  have h1 : idxB t reps q < reps.length := List.findIdx_lt_length_of_exists ⟨_, List.getElem_mem hi, by simpa using h⟩
  have h2 := idxB_lt h1
  rw [List.getD_eq_getElem?_getD, List.getElem?_eq_getElem h1] at h2
  exact hr.apart _ _ h1 hi (h2.trans h.symm)
theorem idxB_not {t : Tab} {reps : List Nat} {q : Nat} (h : ¬ idxB t reps q < reps.length) : idxB t reps q = reps.length ∧ ∀ p ∈ reps, ¬ Bis t p q := by
  have h1 : idxB t reps q ≤ reps.length := List.findIdx_le_length
  refine ⟨by omega, fun p hp hb => h (List.findIdx_lt_length_of_exists ⟨p, hp, by simpa using hb⟩)⟩
theorem Rchd.one {t : Tab} (h : 1 ≤ t.length) : Rchd t [0] := ⟨by intro p hp; simp at hp; omega, fun i j hi hj _ => by simp at hi hj; omega⟩
theorem Rchd.add {t : Tab} {reps : List Nat} (h : Rchd t reps) {q : Nat} (hq : q < t.length) (hn : ∀ p ∈ reps, ¬ Bis t p q) : Rchd t (reps ++ [q]) := by
  refine ⟨fun p hp => ?_, fun i j hi hj hb => ?_⟩
  · rcases List.mem_append.1 hp with hp | hp
    · exact h.lt p hp
    · simp at hp; omega
  · rw [List.length_append, List.length_singleton] at hi hj
    rcases Nat.lt_or_ge i reps.length with hi' | hi' <;> rcases Nat.lt_or_ge j reps.length with hj' | hj'
    · rw [List.getElem_append_left hi', List.getElem_append_left hj'] at hb
      exact h.apart i j hi' hj' hb
    · have : j = reps.length := by omega
      subst this
      rw [List.getElem_append_left hi', List.getElem_concat_length] at hb
      · exact absurd hb (hn _ (List.getElem_mem hi'))
      · rfl
    · have : i = reps.length := by omega
      subst this
      rw [List.getElem_append_left hj', List.getElem_concat_length] at hb
      · exact absurd hb.symm (hn _ (List.getElem_mem hj'))
      · rfl
    · omega
theorem Rchd.le {t : Tab} {reps : List Nat} (h : Rchd t reps) : reps.length ≤ t.length := by
  have hn : reps.Nodup := by
    rw [List.nodup_iff_pairwise_ne, List.pairwise_iff_getElem]
    intro i j hi hj hij e
    have := h.apart i j hi hj (by rw [e]; exact Bis.refl _ _)
    omega
  have : ∀ (n : Nat) (l : List Nat), l.Nodup → (∀ p ∈ l, p < n) → l.length ≤ n := by
    intro n
    induction n with
    | zero => intro l _ h; cases l with
      | nil => simp
      | cons a r => have := h a (by simp); omega
    | succ n ih =>
      intro l hl h
      have h1 := ih (l.erase n) (hl.erase n) (fun p hp => by
        have h2 := h p (List.mem_of_mem_erase hp)
        have h3 : p ≠ n := fun e => by subst e; exact (List.Nodup.mem_erase_iff hl).1 hp |>.1 rfl
        omega)
      rw [List.length_erase] at h1
      split at h1 <;> omega
  exact this _ _ hn h.lt
end Go.Proofs.Ytaalafnkglbcpaa.PL
