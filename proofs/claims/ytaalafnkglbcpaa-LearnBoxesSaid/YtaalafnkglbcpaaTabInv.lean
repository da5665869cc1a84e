/- The table that is being made: what its block holds, and which rows are its own. -/
import Derived.Test.YtaalafnkglbcpaaCircuit
import Derived.Test.YtaalafnkglbcpaaPLx0
namespace Go.Proofs.Ytaalafnkglbcpaa.PL
open Go.RowKit Go.Proofs.YtaalafnkglbcpaaW.PrintWords Go.Proofs.YtaalafnkglbcpaaW.PrintLast Go.Proofs.YtaalafnkglbcpaaW.PrintMore
open Go.Proofs.Ytaalafnkglbcpaa.PG (StreamAt next_calls NextPost)
set_option linter.unusedVariables false

/-- Rows of whatever kind beside a write to a block below their own ones. -/
theorem R_under {α : Type} {d : Kd α} {e base : Nat} {W W' : World} {ok : Nat → Prop} {v : Value} {xs : List α} (h : d.R e W base ok v xs) {g : Nat} (hg : W.grownBy W' (some g)) (hb : g < base) : d.R e W' base ok v xs :=
  Kd.R_mono (Kd.R_grown (Kd.R_bound h) hg (fun k hk e => by injection e with e; have := hk.2.1; omega)) (fun k hk => hk.1)
theorem R_putU {α : Type} {d : Kd α} {e base : Nat} {W : World} {ok : Nat → Prop} {v : Value} {xs : List α} (h : d.R e W base ok v xs) {p : Addr} (hp : p.block < base) (u : Value) : d.R e (W.setCell p u) base ok v xs :=
  Kd.R_mono (Kd.R_far (Kd.R_bound h) (fun k hk e => by have := hk.2.1; omega) u) (fun k hk => hk.1)
theorem S_under {α : Type} {d : Kd α} {e base : Nat} {W W' : World} {ok : Nat → Prop} {v : Value} {xs : List α} (h : Kd.S d e W base ok v xs) {g : Nat} (hg : W.grownBy W' (some g)) (hb : g < base) : Kd.S d e W' base ok v xs := by
  obtain ⟨f, h⟩ := h
  exact ⟨f, R_under h hg hb⟩
theorem S_putU {α : Type} {d : Kd α} {e base : Nat} {W : World} {ok : Nat → Prop} {v : Value} {xs : List α} (h : Kd.S d e W base ok v xs) {p : Addr} (hp : p.block < base) (u : Value) : Kd.S d e (W.setCell p u) base ok v xs := by
  obtain ⟨f, h⟩ := h
  exact ⟨f, R_putU h hp u⟩

structure TInv (w0 W : World) (ins outs : Int) (vr : Value) (rows : List (List S77)) (v6 : Value) (row : List S77) : Prop where
  hb : Below w0.heap.size w0 W
  res : W.heap[w0.heap.size]? = some (.cells #[.int .i64 0, .int .i64 0, .slice none 0 0] 25 (0, 0))
  st : StreamAt w0 W (w0.heap.size + 1)
  blk : W.heap[w0.heap.size + 2]? = some (.cells #[.int .i64 ins, .int .i64 outs, vr] 25 (0, 0))
  rr : Kd.S (Kd.slice 77 k77) 75 W (w0.heap.size + 3) (fun k => some k ≠ v6.ownBlock) vr rows
  r6 : Kd.R k77 77 W (w0.heap.size + 3) (fun _ => True) v6 row

section
variable {w0 W W' : World} {ins outs : Int} {vr v6 v1 : Value} {rows : List (List S77)} {row row' : List S77}

/-- Next has been asked. -/
theorem TInv.asked (h : TInv w0 W ins outs vr rows v6 row) (hg : W.grownBy W' (some (w0.heap.size + 1))) (hs : StreamAt w0 W' (w0.heap.size + 1)) : TInv w0 W' ins outs vr rows v6 row := by
  have hz := h.hb.size
  exact { hb := h.hb.grown hg hz (fun k hk => by injection hk with hk; omega), res := blk_grown h.res hg (by simp), st := hs, blk := blk_grown h.blk hg (by simp), rr := S_under h.rr hg (by omega), r6 := R_under h.r6 hg (by omega) }

/-- The row has grown. -/
theorem TInv.addRow (h : TInv w0 W ins outs vr rows v6 row) (hr : Kd.R k77 77 W' (w0.heap.size + 3) (fun _ => True) v1 row') (hg : W.grownBy W' v6.ownBlock) (hat : v1.ownBlock = v6.ownBlock ∨ ∃ b, v1.ownBlock = some b ∧ W.heap.size ≤ b) : TInv w0 W' ins outs vr rows v1 row' := by
  have hz := h.hb.size
  have lo : ∀ k, v6.ownBlock = some k → w0.heap.size + 3 ≤ k := fun k hk => Kd.R_base h.r6 k hk
  have ne : ∀ g, g < w0.heap.size + 3 → some g ≠ v6.ownBlock := fun g hlt e => by have := lo g e.symm; omega
  exact { hb := h.hb.grown hg hz (fun k hk => by have := lo k hk; omega), res := blk_grown h.res hg (ne _ (by omega)), st := h.st.kept hg (ne _ (by omega)), blk := blk_grown h.blk hg (ne _ (by omega)),
          rr := Kd.S_mono (Kd.S_after (Kd.S_mono h.rr (fun k hk => (⟨trivial, hk⟩ : True ∧ _))) hg hat) (fun k hk => hk.2), r6 := hr }

/-- A block more, that is no row's. -/
theorem TInv.alloc (h : TInv w0 W ins outs vr rows v6 row) (o : Obj) : TInv w0 (W.alloc o) ins outs vr rows v6 row := by
  have hz := h.hb.size
  have hg := World.grownBy_alloc W o none
  exact { hb := h.hb.alloc hz o, res := blk_alloc h.res o, st := h.st.kept hg (by simp), blk := blk_alloc h.blk o, rr := Kd.S_alloc h.rr o, r6 := Kd.R_alloc h.r6 o }

/-- A state's row more: the next one begins with nothing. -/
theorem TInv.addState (h : TInv w0 W ins outs vr rows v6 row) {rows' : List (List S77)} (hr : Kd.S (Kd.slice 77 k77) 75 W' (w0.heap.size + 3) (fun _ => True) v1 rows') (hg : W.grownBy W' vr.ownBlock) :
    TInv w0 (W'.setCell ⟨w0.heap.size + 2, 2, none⟩ v1) ins outs v1 rows' (.slice none 0 0) [] := by
  have hz := h.hb.size
  have lo : ∀ k, vr.ownBlock = some k → w0.heap.size + 3 ≤ k := fun k hk => Kd.S_base h.rr k hk
  have ne : ∀ g, g < w0.heap.size + 3 → some g ≠ vr.ownBlock := fun g hlt e => by have := lo g e.symm; omega
  exact { hb := (h.hb.grown hg hz (fun k hk => by have := lo k hk; omega)).setCell (by show w0.heap.size ≤ w0.heap.size + 2; omega) _, res := blk_far (blk_grown h.res hg (ne _ (by omega))) (by show w0.heap.size ≠ w0.heap.size + 2; omega) _,
          st := (h.st.kept hg (ne _ (by omega))).set (by show w0.heap.size + 1 ≠ w0.heap.size + 2; omega) _, blk := blk_put (blk_grown h.blk hg (ne _ (by omega))) 2 _ rfl,
          rr := S_putU (Kd.S_mono hr (fun k _ => by simp [Value.ownBlock])) (by show w0.heap.size + 2 < _; omega) _, r6 := Kd.R_nil _ _ _ _ _ }
end
end Go.Proofs.Ytaalafnkglbcpaa.PL
