/- append of a slice of another type with the same elements: as of the same type. -/
import Derived.Test.YtijfinimlnedpaaPFTx0
namespace Go.Proofs.Ytijfinimlnedpaa.PFT
open Go.RowKit Go.Proofs.YtijfinimlnedpaaW.PrintWords Go.Proofs.YtijfinimlnedpaaW.PrintLast Go.Proofs.YtijfinimlnedpaaW.PrintMore
set_option linter.unusedVariables false
set_option linter.unusedSimpArgs false

theorem append_types {P : Program} {t t' e e' : TypeId} (ht : P.underlying t = some (.slice e)) (ht' : P.underlying t' = some (.slice e')) (ty : TypeId) (v x : Value) (W : World) :
    (Builtin.append_ #[t, t'] ty #[v, x]).run P W = (Builtin.append_ #[t, t] ty #[v, x]).run P W := by
  unfold Builtin.append_
  cases v with
  | slice base n c => simp [Sem.run_bind, run_underlying ht, run_underlying ht', Result.andThen_ok]
  | _ => simp [Sem.run_bind, run_underlying ht, run_underlying ht', Result.andThen_ok]
theorem exec_types {P : Program} {t t' e e' : TypeId} (ht : P.underlying t = some (.slice e)) (ht' : P.underlying t' = some (.slice e')) (ρ : Operand → Value) (o : Oper) (s x : Operand) (W : World)
    (ho : o.op = .call { callee := .builtin .append, args := #[s, x], argTypes := #[t, t'] }) :
    (execOp ρ o).run P W = (execOp ρ { o with op := .call { callee := .builtin .append, args := #[s, x], argTypes := #[t, t] } }).run P W := by
  unfold execOp
  simp only [ho, resolve, invoke, builtin, Sem.run_bind, Sem.run_pure, Result.andThen_ok, List.map_toArray, List.map_cons, List.map_nil]
  rw [append_types ht ht']
theorem upon_dst {P : Program} {o o' : Oper} (hd : o.dst = o'.dst) {a : Act} {K : Act → World → Prop} {Q : Exit → Act → World → Prop} (r : Result Next) : o.upon P a K Q r = o'.upon P a K Q r := by
  cases r with
  | ok x w' => cases x <;> simp only [Oper.upon, hd]
  | halt x w' => cases x <;> simp only [Oper.upon]
theorem upon_mono {P : Program} {o : Oper} {a : Act} {K K' : Act → World → Prop} {Q Q' : Exit → Act → World → Prop} (hK : ∀ a w, K a w → K' a w) (hP : ∀ c a w, ¬ Q (.panic c) a w) (hO : ∀ a w, ¬ Q .outgrown a w) (r : Result Next) (h : o.upon P a K Q r) : o.upon P a K' Q' r := by
  cases r with
  | ok x w' =>
    cases x with
    | value v => exact hK _ _ h
    | skip => exact hK _ _ h
    | defer d => exact hK _ _ h
    | enter f args =>
      refine Calls.mono h fun e w'' hh => ?_
      cases e with
      | returned v => exact hK _ _ hh
      | panicked chain => exact absurd hh (hP _ _ _)
      | outgrown => obtain ⟨a, w, hq⟩ := hh; exact absurd hq (hO _ _)
    | row row args => exact Rows.mono h fun v w'' hh => hK _ _ hh
    | _ => exact (h : False).elim
  | halt x w' =>
    cases x with
    | panic v => exact absurd h (hP _ _ _)
    | _ => exact (h : False).elim
theorem R_append_rows2 {P : Program} {ops : Array Oper} {rest : List Oper} {o : Oper} {a : Act} {Q : Exit → Act → World → Prop} {α : Type} (d : Kd α) {Rr : α → List Value → Prop} {w0 W : World} (base : Nat) (hgd : o.guard = none) (s x : Operand) (t t' e e' : TypeId) (z : Value) (bytes : Nat)
    (ho : o.op = .call { callee := .builtin .append, args := #[s, x], argTypes := #[t, t'] })
    (ht : P.underlying t = some (.slice e)) (ht' : P.underlying t' = some (.slice e')) (hinfo : (P.info? e).map (fun i => (i.zero, i.size, i.bytes)) = some (some z, d.sz, bytes)) (hz : z.cells.size = d.sz) (hs0 : 0 < d.sz) (hb0 : 0 < bytes)
    (v : Value) (xs ys : List α) (A : Option Addr) (m c : Nat) (ok okp : Nat → Prop) (hs : a.eval s = v) (hx : a.eval x = .slice A m c)
    (HO : d.R e W base ok v xs) (HR : ReadsRow Rr d.sz W A m ys) (hKM : ∀ x cs, Rr x cs → d.M W base okp x cs) (hokp : ∀ k, okp k → ok k ∧ some k ≠ v.ownBlock) (hfresh : ∀ k, W.heap.size ≤ k → ok k)
    (HB : Below base w0 W) (hbase : base ≤ W.heap.size) (hl : (xs.length + m) * bytes ≤ 140737488355328)
    (h : ∀ v1 w1, d.R e w1 base ok v1 (xs ++ ys) → Below base w0 w1 → W.grownBy w1 v.ownBlock → (v1.ownBlock = v.ownBlock ∨ ∃ b, v1.ownBlock = some b ∧ W.heap.size ≤ b) → wpList P ops Q rest (a.put o.dst v1) w1) :
    wpList P ops Q (o :: rest) a W := by
  have h1 := Kd.R_append_rows (P := P) (ops := ops) (rest := []) (o := { o with op := .call { callee := .builtin .append, args := #[s, x], argTypes := #[t, t] } }) (a := a) (Q := fun e_ a1 w1 => e_ = .normal ∧ ∃ v1, a1 = a.put o.dst v1 ∧ d.R e w1 base ok v1 (xs ++ ys) ∧ Below base w0 w1 ∧ W.grownBy w1 v.ownBlock ∧ (v1.ownBlock = v.ownBlock ∨ ∃ b, v1.ownBlock = some b ∧ W.heap.size ≤ b))
    d (w0 := w0) base hgd s x t e z bytes rfl ht hinfo hz hs0 hb0 v xs ys A m c ok okp hs hx HO HR hKM hokp hfresh HB hbase hl (fun v1 w1 g1 g2 g3 g4 => ⟨rfl, v1, rfl, g1, g2, g3, g4⟩)
  have h2 : Oper.wp P o a W (fun a1 w1 => ∃ v1, a1 = a.put o.dst v1 ∧ d.R e w1 base ok v1 (xs ++ ys) ∧ Below base w0 w1 ∧ W.grownBy w1 v.ownBlock ∧ (v1.ownBlock = v.ownBlock ∨ ∃ b, v1.ownBlock = some b ∧ W.heap.size ≤ b)) (fun _ _ _ => False) := by
    have hw : Region.wanted { o with op := .call { callee := .builtin .append, args := #[s, x], argTypes := #[t, t] } } (yielded ops a.tmps) = true := by simp only [Region.wanted, hgd]
    unfold wpList at h1
    rw [if_pos hw] at h1
    rcases h1 with h1 | ⟨_, _, _, hh, _⟩
    · unfold Oper.wp at h1 ⊢
      rw [exec_types ht ht' a.eval o s x W ho]
      refine upon_mono (fun a1 w1 hh => ?_) (fun c a1 w1 hh => ?_) (fun a1 w1 hh => ?_) _ ((upon_dst (o := o) (o' := { o with op := .call { callee := .builtin .append, args := #[s, x], argTypes := #[t, t] } }) rfl _).mpr h1)
      · exact hh.2
      · cases hh.1
      · cases hh.1
    · cases hh
  refine wpList_plain hgd fun K hK => ?_
  refine upon_mono (fun a1 w1 hh => ?_) (fun _ _ _ h => h) (fun _ _ h => h) _ h2
  obtain ⟨v1, rfl, g1, g2, g3, g4⟩ := hh
  exact hK _ _ (h v1 w1 g1 g2 g3 g4)
end Go.Proofs.Ytijfinimlnedpaa.PFT
