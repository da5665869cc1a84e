/- The element types of rows of numbers, and what a call keeps. Own text of this claim. -/
import Derived.Test.YtgagbfaodeakaabPMiniNeedsx0
namespace Go.Proofs.Ytgagbfaodeakaab.PMiniNeeds
open Go.RowKit Go.Proofs.YtgagbfaodeakaabW.PrintWords Go.Proofs.YtgagbfaodeakaabW.PrintLast Go.Proofs.YtgagbfaodeakaabW.PrintMore
set_option linter.unusedVariables false
theorem info3 : (Try.prog.info? 3).map (fun i => (i.zero, i.size, i.bytes)) = some (some (.int .i64 0), 1, 8) := by kernel_rfl
def Calm (w W : World) : Prop := W.os = w.os ∧ W.tape = w.tape ∧ W.output = w.output
theorem Calm.refl (w : World) : Calm w w := ⟨rfl, rfl, rfl⟩
theorem Calm.trans {w W W2 : World} (h : Calm w W) (k : Calm W W2) : Calm w W2 := ⟨k.1.trans h.1, k.2.1.trans h.2.1, k.2.2.trans h.2.2⟩
theorem Calm.below {B : Nat} {w W : World} (h : Below B w W) : Calm w W := ⟨h.os, h.tape, h.output⟩
theorem Calm.grown {w W : World} {row : Option Nat} (h : w.grownBy W row) : Calm w W := ⟨h.os, h.tape, h.output⟩
theorem Calm.set (w : World) (p : Addr) (u : Value) : Calm w (w.setCell p u) := ⟨rfl, rfl, rfl⟩
structure Kept (w W : World) (S : Nat → Prop) : Prop where
  sz : w.heap.size ≤ W.heap.size
  bl : ∀ i, i < w.heap.size → ¬ S i → W.heap[i]? = w.heap[i]?
  calm : Calm w W
section
variable {w W W2 : World} {S S2 S' : Nat → Prop}
theorem Kept.refl (w : World) (S : Nat → Prop) : Kept w w S := ⟨Nat.le_refl _, fun _ _ _ => rfl, Calm.refl w⟩
theorem Kept.of_below (h : Below w.heap.size w W) (S : Nat → Prop) : Kept w W S := ⟨h.size, fun i hi _ => h.block i hi, Calm.below h⟩
theorem Kept.mono (h : Kept w W S) (hs : ∀ k, S k → S' k) : Kept w W S' := ⟨h.1, fun i hi hn => h.2 i hi (fun hk => hn (hs i hk)), h.3⟩
theorem Kept.then_ (h : Kept w W S) (k : Kept W W2 S2) (hs : ∀ k, S2 k → S k ∨ w.heap.size ≤ k) : Kept w W2 S :=
  ⟨Nat.le_trans h.1 k.1, fun i hi hn => (k.2 i (Nat.lt_of_lt_of_le hi h.1) (fun h2 => (hs i h2).elim hn (fun h3 => by omega))).trans (h.2 i hi hn), h.3.trans k.3⟩
theorem Kept.below (h : Kept w W S) (hb : Below W.heap.size W W2) : Kept w W2 S := h.then_ (Kept.of_below hb (fun _ => False)) (fun _ hk => hk.elim)
theorem Kept.alloc (h : Kept w W S) (o : Obj) : Kept w (W.alloc o) S := h.below (below_alloc (Below.refl _ _) o)
theorem Kept.drew (h : Kept w W S) : Kept w W.drew S := ⟨h.1, h.2, h.3⟩
theorem Kept.drewN (h : Kept w W S) (m : Nat) : Kept w (W.drewN m) S := ⟨h.1, h.2, h.3⟩
theorem Kept.setCell (h : Kept w W S) {p : Addr} (hp : S p.block ∨ w.heap.size ≤ p.block) (u : Value) : Kept w (W.setCell p u) S :=
  h.then_ (S2 := fun k => k = p.block) ⟨by simp [World.setCell], fun i _ hn => Below.heap_setCell W p u i hn, Calm.set W p u⟩ (fun k hk => by rw [hk]; exact hp)
theorem Kept.old (h : Kept w W S) : Go.Proofs.YtgagbfaodeakaabW.PrintWords.Kept w W S := ⟨h.1, h.2⟩
theorem blk_kept {g : Nat} {o : Obj} (hb : W.heap[g]? = some o) (hk : Kept W W2 S) (hne : ¬ S g) : W2.heap[g]? = some o := Go.Proofs.YtgagbfaodeakaabW.PrintWords.blk_kept hb hk.old hne
theorem cell_kept {a : Addr} {v : Value} (hc : W.cell? a = some v) (hk : Kept W W2 S) (hne : ¬ S a.block) : W2.cell? a = some v := Go.Proofs.YtgagbfaodeakaabW.PrintWords.cell_kept hc hk.old hne
theorem Kd.R_kept {α : Type} {d : Kd α} {e base : Nat} {ok : Nat → Prop} {v : Value} {xs : List α} (h : d.R e W base ok v xs) (hk : Kept W W2 S) (hne : ∀ k, ok k → ¬ S k) : d.R e W2 base ok v xs := Go.Proofs.YtgagbfaodeakaabW.PrintWords.Kd.R_kept h hk.old hne
theorem Kd.C_kept_own {α : Type} {d : Kd α} {e base n : Nat} {A : Option Addr} {c : Nat} {ok : Nat → Prop} {xs : List α} (h : d.R e W base ok (.slice A n c) xs) (hok : ∀ k, ok k → ¬ S k) : ∀ W', Kept W W' S → d.C W' A n xs := fun W' hk => Go.Proofs.YtgagbfaodeakaabW.PrintWords.Kd.C_kept_own h hok W' hk.old
end
end Go.Proofs.Ytgagbfaodeakaab.PMiniNeeds
