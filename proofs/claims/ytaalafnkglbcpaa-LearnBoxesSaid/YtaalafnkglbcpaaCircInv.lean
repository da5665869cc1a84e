/- The circuit that is being made: what its block holds, and which rows are its own. -/
import Derived.Test.YtaalafnkglbcpaaStream
namespace Go.Proofs.Ytaalafnkglbcpaa.PG
open Go.RowKit Go.Proofs.YtaalafnkglbcpaaW.PrintWords Go.Proofs.YtaalafnkglbcpaaW.PrintLast Go.Proofs.YtaalafnkglbcpaaW.PrintMore
set_option linter.unusedVariables false

abbrev Yes : Nat → Prop := fun _ => True

theorem R_set {α : Type} {d : Kd α} {e base : Nat} {W : World} {v : Value} {xs : List α} (hE : d.E = []) (h : d.R e W base Yes v xs) {p : Addr} (hp : p.block < base) (u : Value) : d.R e (W.setCell p u) base Yes v xs := by
  have h1 := Kd.R_far1 h hE (g := p.block) (fun e_ => by have := Kd.R_base h p.block e_.symm; omega)
  exact Kd.R_mono (Kd.R_far h1 (fun k hk => hk.2) u) (fun _ _ => trivial)

theorem own_lt {α : Type} {d : Kd α} {e base k : Nat} {W : World} {ok : Nat → Prop} {v : Value} {xs : List α} (h : d.R e W base ok v xs) (hk : v.ownBlock = some k) : base ≤ k ∧ k < W.heap.size := by
  obtain ⟨inner, ho⟩ := Kd.R_own h
  exact ho.lt _ hk

theorem own_type {α : Type} {d : Kd α} {e base k : Nat} {W : World} {ok : Nat → Prop} {v : Value} {xs : List α} (h : d.R e W base ok v xs) (hk : v.ownBlock = some k) : ∃ cur, W.heap[k]? = some (.cells cur e (0, 0)) := by
  obtain ⟨inner, _, h1 | ⟨g, cap, cur, rfl, _, hh, _⟩⟩ := Kd.R_own h
  · rw [h1.1] at hk; cases hk
  · have : g = k := by injection hk
    exact ⟨cur, this ▸ hh⟩

theorem own_apart {α β : Type} {d : Kd α} {d' : Kd β} {e e' base base' : Nat} {W : World} {ok ok' : Nat → Prop} {v v' : Value} {xs : List α} {ys : List β} (h : d.R e W base ok v xs) (h' : d'.R e' W base' ok' v' ys) (he : e ≠ e') :
    ∀ k, v.ownBlock = some k → v'.ownBlock ≠ some k := by
  intro k hk hk'
  obtain ⟨c1, h1⟩ := own_type h hk
  obtain ⟨c2, h2⟩ := own_type h' hk'
  rw [h1] at h2
  injection h2 with h2
  injection h2 with _ h2
  exact he h2

/-- A row of scalars beside an event that writes another block. -/
theorem R_by {α : Type} {d : Kd α} {e base : Nat} {W w1 : World} {v : Value} {xs : List α} (hE : d.E = []) (h : d.R e W base Yes v xs) {row : Option Nat} (hg : W.grownBy w1 row) (hne : ∀ k, row = some k → v.ownBlock ≠ some k) : d.R e w1 base Yes v xs :=
  Kd.R_grown2 h hE hg (fun k hk e_ => hne k hk e_.symm)

def Apart (v v' : Value) : Prop := ∀ k, v.ownBlock = some k → v'.ownBlock ≠ some k
theorem Apart.symm {v v' : Value} (h : Apart v v') : Apart v' v := fun k hk hk' => h k hk' hk
/-- A row that has grown is still another one than a row that was there. -/
theorem Apart.step {α : Type} {d : Kd α} {e base : Nat} {W : World} {ok : Nat → Prop} {v v1 v' : Value} {xs : List α} (h : Apart v v') (hr : d.R e W base ok v' xs) (hat : v1.ownBlock = v.ownBlock ∨ ∃ b, v1.ownBlock = some b ∧ W.heap.size ≤ b) : Apart v1 v' := by
  intro k hk hk'
  rcases hat with h1 | ⟨b, h1, h2⟩
  · exact h k (h1 ▸ hk) hk'
  · have := (own_lt hr hk').2
    rw [h1] at hk; injection hk with hk; omega

structure CInv (w0 W : World) (ins : Int) (vg vo vn vi : Value) (gates : List S50) (outs next init : List Int) : Prop where
  hb : Below w0.heap.size w0 W
  res : W.heap[w0.heap.size]? = some (.cells #[.int .i64 0, .slice none 0 0, .slice none 0 0, .slice none 0 0, .slice none 0 0] 38 (0, 0))
  st : StreamAt w0 W (w0.heap.size + 1)
  blk : W.heap[w0.heap.size + 2]? = some (.cells #[.int .i64 ins, vg, vo, vn, vi] 38 (0, 0))
  rg : Kd.R k50 50 W (w0.heap.size + 3) Yes vg gates
  ro : Kd.R (Kd.int .i64) 3 W (w0.heap.size + 3) Yes vo outs
  rn : Kd.R (Kd.int .i64) 3 W (w0.heap.size + 3) Yes vn next
  ri : Kd.R (Kd.int .i64) 3 W (w0.heap.size + 3) Yes vi init
  aon : Apart vo vn
  aoi : Apart vo vi
  ani : Apart vn vi

section
variable {w0 W W' : World} {ins : Int} {vg vo vn vi v1 : Value} {gates gates' : List S50} {outs next init l' : List Int}

/-- Another block than one of the three is written, and none of the rows. -/
theorem CInv.grown (h : CInv w0 W ins vg vo vn vi gates outs next init) {row : Option Nat} (hg : W.grownBy W' row) (hlo : ∀ k, row = some k → W.heap.size ≤ k ∨ False) : CInv w0 W' ins vg vo vn vi gates outs next init := by
  have hz := h.hb.size
  have ne : ∀ g, g < W.heap.size → some g ≠ row := fun g hlt e => by
    rcases hlo g e.symm with h1 | h1
    · omega
    · exact h1
  have l2 := blk_lt h.blk
  have nr : ∀ {α : Type} {d : Kd α} {e base : Nat} {ok : Nat → Prop} {v : Value} {xs : List α}, d.R e W base ok v xs → ∀ k, row = some k → v.ownBlock ≠ some k := fun hr k hk e => by
    have := (own_lt hr e).2
    rcases hlo k hk with h1 | h1
    · omega
    · exact h1
  exact { hb := h.hb.grown hg hz (fun k hk => by rcases hlo k hk with h1 | h1; omega; exact h1.elim), res := blk_grown h.res hg (ne _ (blk_lt h.res)), st := h.st.kept hg (ne _ (by omega)), blk := blk_grown h.blk hg (ne _ l2),
          rg := R_by rfl h.rg hg (nr h.rg), ro := R_by rfl h.ro hg (nr h.ro), rn := R_by rfl h.rn hg (nr h.rn), ri := R_by rfl h.ri hg (nr h.ri), aon := h.aon, aoi := h.aoi, ani := h.ani }

theorem CInv.alloc (h : CInv w0 W ins vg vo vn vi gates outs next init) (o : Obj) : CInv w0 (W.alloc o) ins vg vo vn vi gates outs next init :=
  h.grown (World.grownBy_alloc W o none) (fun _ hk => by cases hk)

theorem CInv.drewN (h : CInv w0 W ins vg vo vn vi gates outs next init) (n : Nat) : CInv w0 (W.drewN n) ins vg vo vn vi gates outs next init :=
  h.grown (row := none) ⟨rfl, rfl, rfl, Nat.le_refl _, fun _ _ _ => rfl⟩ (fun _ hk => by cases hk)

/-- Next has been asked. -/
theorem CInv.asked (h : CInv w0 W ins vg vo vn vi gates outs next init) (hg : W.grownBy W' (some (w0.heap.size + 1))) (hs : StreamAt w0 W' (w0.heap.size + 1)) : CInv w0 W' ins vg vo vn vi gates outs next init := by
  have hz := h.hb.size
  have nr : ∀ {α : Type} {d : Kd α} {e : Nat} {ok : Nat → Prop} {v : Value} {xs : List α}, d.R e W (w0.heap.size + 3) ok v xs → ∀ k, some (w0.heap.size + 1) = some k → v.ownBlock ≠ some k := fun hr k hk e => by
    have := (own_lt hr e).1
    injection hk with hk; omega
  exact { hb := h.hb.grown hg hz (fun k hk => by injection hk with hk; omega), res := blk_grown h.res hg (by simp), st := hs, blk := blk_grown h.blk hg (by simp),
          rg := R_by rfl h.rg hg (nr h.rg), ro := R_by rfl h.ro hg (nr h.ro), rn := R_by rfl h.rn hg (nr h.rn), ri := R_by rfl h.ri hg (nr h.ri), aon := h.aon, aoi := h.aoi, ani := h.ani }

theorem StreamAt.set {w0 w : World} {g : Nat} (h : StreamAt w0 w g) {p : Addr} (hp : g ≠ p.block) (u : Value) : StreamAt w0 (w.setCell p u) g := by
  obtain ⟨A, c, l, h1, h2⟩ := h
  exact ⟨A, c, l, blk_far h1 hp u, h2⟩

/-- A gate more. -/
theorem CInv.addGate (h : CInv w0 W ins vg vo vn vi gates outs next init) (hr : Kd.R k50 50 W' (w0.heap.size + 3) Yes v1 gates') (hg : W.grownBy W' vg.ownBlock) :
    CInv w0 (W'.setCell ⟨w0.heap.size + 2, 1, none⟩ v1) ins v1 vo vn vi gates' outs next init := by
  have hz := h.hb.size
  have lo : ∀ k, vg.ownBlock = some k → w0.heap.size + 3 ≤ k := fun k hk => (own_lt h.rg hk).1
  have ne : ∀ g, g < w0.heap.size + 3 → some g ≠ vg.ownBlock := fun g hlt e => by have := lo g e.symm; omega
  have l : ∀ {v : Value} {xs : List Int}, Kd.R (Kd.int .i64) 3 W (w0.heap.size + 3) Yes v xs → Kd.R (Kd.int .i64) 3 (W'.setCell ⟨w0.heap.size + 2, 1, none⟩ v1) (w0.heap.size + 3) Yes v xs := fun hx =>
    R_set rfl (R_by rfl hx hg (own_apart h.rg hx (by decide))) (by show w0.heap.size + 2 < _; omega) _
  exact { hb := (h.hb.grown hg hz (fun k hk => by have := lo k hk; omega)).setCell (by show w0.heap.size ≤ w0.heap.size + 2; omega) _, res := blk_far (blk_grown h.res hg (ne _ (by omega))) (by show w0.heap.size ≠ w0.heap.size + 2; omega) _, st := (h.st.kept hg (ne _ (by omega))).set (by show w0.heap.size + 1 ≠ w0.heap.size + 2; omega) _,
          blk := blk_put (blk_grown h.blk hg (ne _ (by omega))) 1 _ rfl, rg := R_set rfl hr (by show w0.heap.size + 2 < _; omega) _, ro := l h.ro, rn := l h.rn, ri := l h.ri, aon := h.aon, aoi := h.aoi, ani := h.ani }

/-- A first value of a flip-flop more. -/
theorem CInv.addInit (h : CInv w0 W ins vg vo vn vi gates outs next init) (hr : Kd.R (Kd.int .i64) 3 W' (w0.heap.size + 3) Yes v1 l') (hg : W.grownBy W' vi.ownBlock) (hat : v1.ownBlock = vi.ownBlock ∨ ∃ b, v1.ownBlock = some b ∧ W.heap.size ≤ b) :
    CInv w0 (W'.setCell ⟨w0.heap.size + 2, 4, none⟩ v1) ins vg vo vn v1 gates outs next l' := by
  have hz := h.hb.size
  have lo : ∀ k, vi.ownBlock = some k → w0.heap.size + 3 ≤ k := fun k hk => (own_lt h.ri hk).1
  have ne : ∀ g, g < w0.heap.size + 3 → some g ≠ vi.ownBlock := fun g hlt e => by have := lo g e.symm; omega
  have l : ∀ {v : Value} {xs : List Int}, Kd.R (Kd.int .i64) 3 W (w0.heap.size + 3) Yes v xs → Apart v vi → Kd.R (Kd.int .i64) 3 (W'.setCell ⟨w0.heap.size + 2, 4, none⟩ v1) (w0.heap.size + 3) Yes v xs := fun hx ha =>
    R_set rfl (R_by rfl hx hg (fun k hk => ha.symm k hk)) (by show w0.heap.size + 2 < _; omega) _
  exact { hb := (h.hb.grown hg hz (fun k hk => by have := lo k hk; omega)).setCell (by show w0.heap.size ≤ w0.heap.size + 2; omega) _, res := blk_far (blk_grown h.res hg (ne _ (by omega))) (by show w0.heap.size ≠ w0.heap.size + 2; omega) _, st := (h.st.kept hg (ne _ (by omega))).set (by show w0.heap.size + 1 ≠ w0.heap.size + 2; omega) _,
          blk := blk_put (blk_grown h.blk hg (ne _ (by omega))) 4 _ rfl, rg := R_set rfl (R_by rfl h.rg hg (own_apart h.ri h.rg (by decide))) (by show w0.heap.size + 2 < _; omega) _, ro := l h.ro h.aoi, rn := l h.rn h.ani, ri := R_set rfl hr (by show w0.heap.size + 2 < _; omega) _,
          aon := h.aon, aoi := (h.aoi.symm.step h.ro hat).symm, ani := (h.ani.symm.step h.rn hat).symm }

/-- A gate that a flip-flop takes over more. -/
theorem CInv.addNext (h : CInv w0 W ins vg vo vn vi gates outs next init) (hr : Kd.R (Kd.int .i64) 3 W' (w0.heap.size + 3) Yes v1 l') (hg : W.grownBy W' vn.ownBlock) (hat : v1.ownBlock = vn.ownBlock ∨ ∃ b, v1.ownBlock = some b ∧ W.heap.size ≤ b) :
    CInv w0 (W'.setCell ⟨w0.heap.size + 2, 3, none⟩ v1) ins vg vo v1 vi gates outs l' init := by
  have hz := h.hb.size
  have lo : ∀ k, vn.ownBlock = some k → w0.heap.size + 3 ≤ k := fun k hk => (own_lt h.rn hk).1
  have ne : ∀ g, g < w0.heap.size + 3 → some g ≠ vn.ownBlock := fun g hlt e => by have := lo g e.symm; omega
  have l : ∀ {v : Value} {xs : List Int}, Kd.R (Kd.int .i64) 3 W (w0.heap.size + 3) Yes v xs → Apart v vn → Kd.R (Kd.int .i64) 3 (W'.setCell ⟨w0.heap.size + 2, 3, none⟩ v1) (w0.heap.size + 3) Yes v xs := fun hx ha =>
    R_set rfl (R_by rfl hx hg (fun k hk => ha.symm k hk)) (by show w0.heap.size + 2 < _; omega) _
  exact { hb := (h.hb.grown hg hz (fun k hk => by have := lo k hk; omega)).setCell (by show w0.heap.size ≤ w0.heap.size + 2; omega) _, res := blk_far (blk_grown h.res hg (ne _ (by omega))) (by show w0.heap.size ≠ w0.heap.size + 2; omega) _, st := (h.st.kept hg (ne _ (by omega))).set (by show w0.heap.size + 1 ≠ w0.heap.size + 2; omega) _,
          blk := blk_put (blk_grown h.blk hg (ne _ (by omega))) 3 _ rfl, rg := R_set rfl (R_by rfl h.rg hg (own_apart h.rn h.rg (by decide))) (by show w0.heap.size + 2 < _; omega) _, ro := l h.ro h.aon, ri := l h.ri h.ani.symm, rn := R_set rfl hr (by show w0.heap.size + 2 < _; omega) _,
          aoi := h.aoi, aon := (h.aon.symm.step h.ro hat).symm, ani := h.ani.step h.ri hat }

/-- An output more. -/
theorem CInv.addOut (h : CInv w0 W ins vg vo vn vi gates outs next init) (hr : Kd.R (Kd.int .i64) 3 W' (w0.heap.size + 3) Yes v1 l') (hg : W.grownBy W' vo.ownBlock) (hat : v1.ownBlock = vo.ownBlock ∨ ∃ b, v1.ownBlock = some b ∧ W.heap.size ≤ b) :
    CInv w0 (W'.setCell ⟨w0.heap.size + 2, 2, none⟩ v1) ins vg v1 vn vi gates l' next init := by
  have hz := h.hb.size
  have lo : ∀ k, vo.ownBlock = some k → w0.heap.size + 3 ≤ k := fun k hk => (own_lt h.ro hk).1
  have ne : ∀ g, g < w0.heap.size + 3 → some g ≠ vo.ownBlock := fun g hlt e => by have := lo g e.symm; omega
  have l : ∀ {v : Value} {xs : List Int}, Kd.R (Kd.int .i64) 3 W (w0.heap.size + 3) Yes v xs → Apart v vo → Kd.R (Kd.int .i64) 3 (W'.setCell ⟨w0.heap.size + 2, 2, none⟩ v1) (w0.heap.size + 3) Yes v xs := fun hx ha =>
    R_set rfl (R_by rfl hx hg (fun k hk => ha.symm k hk)) (by show w0.heap.size + 2 < _; omega) _
  exact { hb := (h.hb.grown hg hz (fun k hk => by have := lo k hk; omega)).setCell (by show w0.heap.size ≤ w0.heap.size + 2; omega) _, res := blk_far (blk_grown h.res hg (ne _ (by omega))) (by show w0.heap.size ≠ w0.heap.size + 2; omega) _, st := (h.st.kept hg (ne _ (by omega))).set (by show w0.heap.size + 1 ≠ w0.heap.size + 2; omega) _,
          blk := blk_put (blk_grown h.blk hg (ne _ (by omega))) 2 _ rfl, rg := R_set rfl (R_by rfl h.rg hg (own_apart h.ro h.rg (by decide))) (by show w0.heap.size + 2 < _; omega) _, rn := l h.rn h.aon.symm, ri := l h.ri h.aoi.symm, ro := R_set rfl hr (by show w0.heap.size + 2 < _; omega) _,
          ani := h.ani, aon := h.aon.step h.rn hat, aoi := h.aoi.step h.ri hat }
end

theorem grown_cell (W : World) (p : Addr) (u : Value) : W.grownBy (W.setCell p u) (some p.block) :=
  ⟨rfl, rfl, rfl, by rw [World.size_setCell]; exact Nat.le_refl _, fun g hg hne => Below.heap_setCell W p u g (fun e => hne (by rw [e]))⟩

theorem grown_then {a b c : World} {row row' : Option Nat} (h : a.grownBy b row) (k : b.grownBy c row') (hr : ∀ j, row' = some j → a.heap.size ≤ j ∨ row = some j) : a.grownBy c row :=
  ⟨k.os.trans h.os, k.tape.trans h.tape, k.output.trans h.output, Nat.le_trans h.size k.size, fun g hg hne => (k.block g (Nat.lt_of_lt_of_le hg h.size) (fun e => by rcases hr g e.symm with h1 | h1; omega; exact hne h1.symm)).trans (h.block g hg hne)⟩

/-- A round of the third loop: the gate that is being made lies in its own new block. -/
structure GInv (w0 WA W : World) (G : Nat) (g : S50) : Prop where
  lt : w0.heap.size + 2 < WA.heap.size
  hg : WA.grownBy W (some (w0.heap.size + 1))
  st : StreamAt w0 W (w0.heap.size + 1)
  lo : WA.heap.size ≤ G
  gb : W.heap[G]? = some (.cells #[.int .i64 g.f0, .int .i64 g.f1, .int .i64 g.f2, .int .i64 g.f3, .int .i64 g.f4] 50 (0, 0))

theorem GInv.next {w0 WA W W' : World} {G : Nat} {g : S50} (h : GInv w0 WA W G g) (hg : W.grownBy W' (some (w0.heap.size + 1))) (hs : StreamAt w0 W' (w0.heap.size + 1)) : GInv w0 WA W' G g :=
  { lt := h.lt, hg := h.hg.trans hg, st := hs, lo := h.lo, gb := blk_grown h.gb hg (by have := h.lt; have := h.lo; simp; omega) }

theorem GInv.put {w0 WA W : World} {G : Nat} {g g' : S50} (h : GInv w0 WA W G g) (k : Nat) (u : Value)
    (e : (#[Value.int .i64 g.f0, .int .i64 g.f1, .int .i64 g.f2, .int .i64 g.f3, .int .i64 g.f4] : Array Value).setIfInBounds k u = #[.int .i64 g'.f0, .int .i64 g'.f1, .int .i64 g'.f2, .int .i64 g'.f3, .int .i64 g'.f4]) : GInv w0 WA (W.setCell ⟨G, k, none⟩ u) G g' :=
  { lt := h.lt, hg := grown_then h.hg (grown_cell W ⟨G, k, none⟩ u) (fun j hj => by injection hj with hj; exact Or.inl (hj ▸ h.lo)), st := h.st.set (by have := h.lt; have := h.lo; show w0.heap.size + 1 ≠ G; omega) u, lo := h.lo, gb := blk_put h.gb k u e }
end Go.Proofs.Ytaalafnkglbcpaa.PG
