/- The contract of the learner that closes its table. Own text of this claim. -/
import Derived.Test.YtaalafnkglbcpaaLBDiffer
import Derived.Test.YtaalafnkglbcpaaLBMach
import Derived.Test.YtaalafnkglbcpaaLBAsk
import Derived.Test.YtaalafnkglbcpaaMin
namespace Go.Proofs.Ytaalafnkglbcpaa.PL
open Go.RowKit Go.Proofs.YtaalafnkglbcpaaW.PrintWords Go.Proofs.YtaalafnkglbcpaaW.PrintLast Go.Proofs.YtaalafnkglbcpaaW.PrintMore
set_option linter.unusedVariables false
set_option linter.unusedSimpArgs false

theorem info22c : (Try.prog.info? 22).map (fun i => (i.zero, i.size, i.bytes)) = some (some (.slice none 0 0), 1, 24) := by kernel_rfl
structure CInv (w W : World) (g gt : Nat) (ins outs : Int) (vw : Value) (ways : List (List Int)) (vr : Value) (rows : List (List Int)) (vt : Value) (T : Tab) (vl : Value) (list : List S77) : Prop where
  gl : g < w.heap.size
  gtl : w.heap.size < gt
  rb : W.heap[w.heap.size]? = some (.cells #[.int .i64 0, .int .i64 0, .slice none 0 0] 25 (0, 0))
  kp : Kept w W (fun k => k = g)
  tb : W.heap[gt]? = some (.cells #[.int .i64 ins, .int .i64 outs, vt] 25 (0, 0))
  rw : Kd.R (Kd.slice 3 (Kd.int .i64)) 22 W w.heap.size (fun k => True ∧ some k ≠ vr.ownBlock) vw ways
  rr : Kd.R (Kd.slice 3 (Kd.int .i64)) 22 W w.heap.size (fun k => True ∧ some k ≠ vw.ownBlock) vr rows
  rt : Kd.R (Kd.slice 77 k77) 75 W w.heap.size (fun k => True ∧ some k ≠ vl.ownBlock) vt T
  rl : Kd.R k77 77 W w.heap.size (fun _ => True) vl list
theorem R_keptg {α : Type} {d : Kd α} {e : Nat} {W W2 : World} {base g : Nat} {ok : Nat → Prop} {v : Value} {xs : List α} (h : d.R e W base ok v xs) (hk : Kept W W2 (fun k => k = g)) (hg : g < base) : d.R e W2 base ok v xs :=
  Kd.R_mono (Kd.R_kept (Kd.R_bound h) hk (fun k hk e => by have := hk.2.1; omega)) (fun k hk => hk.1)
section
variable {w W W' : World} {g gt : Nat} {ins outs : Int} {vw vr vt vl v1 : Value} {ways rows ways' rows' : List (List Int)} {T T' : Tab} {list list' : List S77}
theorem CInv.size (h : CInv w W g gt ins outs vw ways vr rows vt T vl list) : w.heap.size ≤ W.heap.size := h.kp.1
theorem CInv.kept (h : CInv w W g gt ins outs vw ways vr rows vt T vl list) (hk : Kept W W' (fun k => k = g)) : CInv w W' g gt ins outs vw ways vr rows vt T vl list :=
  { gl := h.gl, gtl := h.gtl, kp := h.kp.then_ hk (fun _ h => .inl h), rb := blk_kept h.rb hk (fun e => by have := h.gl; omega), tb := blk_kept h.tb hk (fun e => by have := h.gl; have := h.gtl; omega), rw := R_keptg h.rw hk h.gl, rr := R_keptg h.rr hk h.gl, rt := R_keptg h.rt hk h.gl, rl := R_keptg h.rl hk h.gl }
theorem CInv.alloc (h : CInv w W g gt ins outs vw ways vr rows vt T vl list) (o : Obj) : CInv w (W.alloc o) g gt ins outs vw ways vr rows vt T vl list := h.kept ((Kept.refl W _).alloc o)
theorem CInv.below (h : CInv w W g gt ins outs vw ways vr rows vt T vl list) (hb : Below W.heap.size W W') : CInv w W' g gt ins outs vw ways vr rows vt T vl list := h.kept (Kept.of_below hb _)
theorem CInv.drewN (h : CInv w W g gt ins outs vw ways vr rows vt T vl list) (n : Nat) : CInv w (W.drewN n) g gt ins outs vw ways vr rows vt T vl list := h.kept ((Kept.refl W _).drewN n)
theorem CInv.drew (h : CInv w W g gt ins outs vw ways vr rows vt T vl list) : CInv w W.drew g gt ins outs vw ways vr rows vt T vl list := h.kept ((Kept.refl W _).drew)
theorem CInv.ask (h : CInv w W g gt ins outs vw ways vr rows vt T vl list) (i : Nat) (u : Value) : CInv w (W.setCell ⟨g, i, none⟩ u) g gt ins outs vw ways vr rows vt T vl list := h.kept (Kept.setCell (S := fun k => k = g) (p := ⟨g, i, none⟩) (Kept.refl W _) (Or.inl rfl) u)
theorem kept_grown {W2 : World} {row : Option Nat} (h : Kept w W (fun k => k = g)) (hg : W.grownBy W2 row) (hr : ∀ k, row = some k → w.heap.size ≤ k) : Kept w W2 (fun k => k = g) :=
  ⟨Nat.le_trans h.1 hg.size, fun i hi hn => (hg.block i (Nat.lt_of_lt_of_le hi h.1) (fun e => by have := hr i e.symm; omega)).trans (h.2 i hi hn), h.3.trans (Calm.grown hg)⟩
theorem CInv.addCell (h : CInv w W g gt ins outs vw ways vr rows vt T vl list) (hr : Kd.R k77 77 W' w.heap.size (fun _ => True) v1 list') (hg : W.grownBy W' vl.ownBlock) (hat : v1.ownBlock = vl.ownBlock ∨ ∃ b, v1.ownBlock = some b ∧ W.heap.size ≤ b) : CInv w W' g gt ins outs vw ways vr rows vt T v1 list' :=
  { gl := h.gl, gtl := h.gtl, kp := kept_grown h.kp hg (Kd.R_base h.rl), rb := blk_grown h.rb hg (Kd.R_ne h.rl h.rb (by decide)), tb := blk_grown h.tb hg (Kd.R_ne h.rl h.tb (by decide)),
    rw := Kd.R_over' h.rw (Kd.R_typed h.rl) (by intro q hq; simp [Kd.slice, Kd.int, Kd.scalar] at hq; omega) hg, rr := Kd.R_over' h.rr (Kd.R_typed h.rl) (by intro q hq; simp [Kd.slice, Kd.int, Kd.scalar] at hq; omega) hg,
    rt := Kd.R_after h.rt hg hat, rl := hr }
theorem CInv.addState (h : CInv w W g gt ins outs vw ways vr rows vt T vl list) (hr : Kd.R (Kd.slice 77 k77) 75 W' w.heap.size (fun _ => True) v1 T') (hg : W.grownBy W' vt.ownBlock) : CInv w (W'.setCell ⟨gt, 2, none⟩ v1) g gt ins outs vw ways vr rows v1 T' (.slice none 0 0) [] := by
  have tb := blk_grown h.tb hg (Kd.R_ne h.rt h.tb (by decide))
  have rw' := Kd.R_over' h.rw (Kd.R_typed h.rt) (by intro q hq; simp [Kd.slice, Kd.int, Kd.scalar] at hq; omega) hg
  have rr' := Kd.R_over' h.rr (Kd.R_typed h.rt) (by intro q hq; simp [Kd.slice, Kd.int, Kd.scalar] at hq; omega) hg
  have e25 : ∀ {α : Type} {d : Kd α} {e : Nat} {ok : Nat → Prop} {v : Value} {xs : List α}, Kd.R d e W' w.heap.size ok v xs → (∀ q, q ∈ e :: d.E → q ≠ 25) → Kd.R d e (W'.setCell ⟨gt, 2, none⟩ v1) w.heap.size ok v xs := fun hh ht =>
    Kd.R_mono (Kd.R_far (p := ⟨gt, 2, none⟩) (Kd.R_types hh tb ht) (fun k hk => hk.2) v1) (fun k hk => hk.1)
  exact { gl := h.gl, gtl := h.gtl, kp := Kept.setCell (S := fun k => k = g) (p := ⟨gt, 2, none⟩) (kept_grown h.kp hg (Kd.R_base h.rt)) (Or.inr (Nat.le_of_lt h.gtl)) _, rb := blk_far (blk_grown h.rb hg (Kd.R_ne h.rt h.rb (by decide))) (p := ⟨gt, 2, none⟩) (by have := h.gtl; show w.heap.size ≠ gt; omega) _, tb := blk_put tb 2 _ rfl,
          rw := e25 rw' (by intro q hq; simp [Kd.slice, Kd.int, Kd.scalar] at hq; omega), rr := e25 rr' (by intro q hq; simp [Kd.slice, Kd.int, Kd.scalar] at hq; omega),
          rt := e25 (Kd.R_mono hr (fun k _ => ⟨trivial, by simp [Value.ownBlock]⟩)) (by intro q hq; simp [Kd.slice, k77, Kd.iso, Kd.pair, Kd.int, Kd.scalar] at hq; omega), rl := Kd.R_nil _ _ _ _ _ }
theorem CInv.addRow (h : CInv w W g gt ins outs vw ways vr rows vt T vl list) (hr : Kd.R (Kd.slice 3 (Kd.int .i64)) 22 W' w.heap.size (fun k => True ∧ some k ≠ vw.ownBlock) v1 rows') (hg : W.grownBy W' vr.ownBlock) (hat : v1.ownBlock = vr.ownBlock ∨ ∃ b, v1.ownBlock = some b ∧ W.heap.size ≤ b) : CInv w W' g gt ins outs vw ways v1 rows' vt T vl list :=
  { gl := h.gl, gtl := h.gtl, kp := kept_grown h.kp hg (Kd.R_base h.rr), rb := blk_grown h.rb hg (Kd.R_ne h.rr h.rb (by decide)), tb := blk_grown h.tb hg (Kd.R_ne h.rr h.tb (by decide)),
    rw := Kd.R_after h.rw hg hat, rr := hr,
    rt := Kd.R_over' h.rt (Kd.R_typed h.rr) (by intro q hq; simp [Kd.slice, k77, Kd.iso, Kd.pair, Kd.int, Kd.scalar] at hq; omega) hg, rl := Kd.R_over' h.rl (Kd.R_typed h.rr) (by intro q hq; simp [k77, Kd.iso, Kd.pair, Kd.int, Kd.scalar] at hq; omega) hg }
theorem CInv.addWay (h : CInv w W g gt ins outs vw ways vr rows vt T vl list) (hr : Kd.R (Kd.slice 3 (Kd.int .i64)) 22 W' w.heap.size (fun k => True ∧ some k ≠ vr.ownBlock) v1 ways') (hg : W.grownBy W' vw.ownBlock) (hat : v1.ownBlock = vw.ownBlock ∨ ∃ b, v1.ownBlock = some b ∧ W.heap.size ≤ b) : CInv w W' g gt ins outs v1 ways' vr rows vt T vl list :=
  { gl := h.gl, gtl := h.gtl, kp := kept_grown h.kp hg (Kd.R_base h.rw), rb := blk_grown h.rb hg (Kd.R_ne h.rw h.rb (by decide)), tb := blk_grown h.tb hg (Kd.R_ne h.rw h.tb (by decide)),
    rw := hr, rr := Kd.R_after h.rr hg hat,
    rt := Kd.R_over' h.rt (Kd.R_typed h.rw) (by intro q hq; simp [Kd.slice, k77, Kd.iso, Kd.pair, Kd.int, Kd.scalar] at hq; omega) hg, rl := Kd.R_over' h.rl (Kd.R_typed h.rw) (by intro q hq; simp [k77, Kd.iso, Kd.pair, Kd.int, Kd.scalar] at hq; omega) hg }
theorem LB_grown {gb : Nat} {asked : Int} {tv wv : Value} {row : Option Nat} (h : LB W g ins outs gb asked tv wv) (hg : W.grownBy W' row) (hr : ∀ k, row = some k → w.heap.size ≤ k) (hgl : g < w.heap.size) : LB W' g ins outs gb asked tv wv :=
  blk_grown h hg (fun e => by have := hr g e.symm; omega)
/-- A literal of one row of numbers. -/
theorem lit_row {n : Nat} {v : Value} {base : Nat} {ok : Nat → Prop} {x : List Int} (hb : W.heap[n]? = some (.cells #[v] 22 (0, 0))) (hr : Kd.R (Kd.int .i64) 3 W base ok v x) : ReadsRow ((Kd.slice 3 (Kd.int .i64)).M W base ok) 1 W (some ⟨n, 0, none⟩) 1 [x] := by
  refine ⟨rfl, by simp, fun _ => ⟨_, rfl, fun j p hj => ?_⟩⟩
  cases j with
  | zero =>
    obtain rfl := Option.some.inj hj
    refine ⟨[v], rfl, ⟨v, rfl, hr⟩, fun i u hu => ?_⟩
    cases i with
    | zero => simp at hu; subst hu; exact (blk_cell hb 0).trans rfl
    | succ i => simp at hu
  | succ j => simp at hj
end
section
variable {w W0 W : World} {g gt : Nat} {ins outs : Int} {vw vr vt vl v1 vx : Value} {ways rows : List (List Int)} {T : Tab} {list : List S77} {x : List Int} {okx : Nat → Prop} {n : Nat}
variable {ops : Array Oper} {o : Oper} {a : Act} {Q : Exit → Act → World → Prop} {Kc : Act → World → Prop}
theorem CInv.row_step (hI : CInv w W0 g gt ins outs vw ways vr rows vt T vl list) (hb : Below W0.heap.size W0 W) (hx : Kd.R (Kd.int .i64) 3 W0 w.heap.size okx vx x) (hn : W.heap[n]? = some (.cells #[vx] 22 (0, 0))) (hw : Region.wanted o (yielded ops a.tmps) = true) (s y : Operand)
    (ho : o.op = .call { callee := .builtin .append, args := #[s, y], argTypes := #[91, 91] }) (hs : a.eval s = vr) (hy : a.eval y = .slice (some ⟨n, 0, none⟩) 1 1) (hl : rows.length ≤ 1000)
    (h : ∀ v1 w1, CInv w w1 g gt ins outs vw ways v1 (rows ++ [x]) vt T vl list → W.grownBy w1 vr.ownBlock → (W0.heap.size ≤ w1.heap.size ∧ ∀ i, i < W0.heap.size → some i ≠ vr.ownBlock → w1.heap[i]? = W0.heap[i]?) → Kc (a.put o.dst v1) w1) :
    if Region.wanted o (yielded ops a.tmps) = true then Oper.wp Try.prog o a W Kc Q else Kc (a.put o.dst undef) W := by
  have hI' := hI.below hb
  have hx1 := Kd.R_below hx hb
  have hx2 := Kd.R_apart' (Kd.R_apart' hx1 (Kd.R_typed hI'.rw) (by intro q hq; simp [Kd.int, Kd.scalar] at hq; omega)) (Kd.R_typed hI'.rr) (by intro q hq; simp [Kd.int, Kd.scalar] at hq; omega)
  refine Kd.R_append_rows_step (Kd.slice 3 (Kd.int .i64)) (w0 := W) w.heap.size hw s y 91 22 (.slice none 0 0) 24 ho Try.underlying91 PL.info22c rfl (by decide) (by omega) vr rows [x] _ 1 1 (fun k => True ∧ some k ≠ vw.ownBlock) (fun k => (okx k ∧ some k ≠ vw.ownBlock) ∧ some k ≠ vr.ownBlock) hs hy hI'.rr (lit_row hn hx2) (fun _ _ h => h) (fun k hk => ⟨⟨trivial, hk.1.2⟩, hk.2⟩) (fun k hk => ⟨trivial, fun e => by have := Kd.R_lt hI'.rw k e.symm; omega⟩) (Below.refl _ _) hI'.size (by omega) ?_
  intro v1 w1 hr _ hg hat
  exact h v1 w1 (hI'.addRow hr hg hat) hg ⟨Nat.le_trans hb.size hg.size, fun i hi hn => (hg.block i (Nat.lt_of_lt_of_le hi hb.size) hn).trans (hb.block i hi)⟩
theorem CInv.way_step (hI : CInv w W0 g gt ins outs vw ways vr rows vt T vl list) (hb : Below W0.heap.size W0 W) (hx : Kd.R (Kd.int .i64) 3 W0 w.heap.size okx vx x) (hn : W.heap[n]? = some (.cells #[vx] 22 (0, 0))) (hw : Region.wanted o (yielded ops a.tmps) = true) (s y : Operand)
    (ho : o.op = .call { callee := .builtin .append, args := #[s, y], argTypes := #[91, 91] }) (hs : a.eval s = vw) (hy : a.eval y = .slice (some ⟨n, 0, none⟩) 1 1) (hl : ways.length ≤ 1000)
    (h : ∀ v1 w1, CInv w w1 g gt ins outs v1 (ways ++ [x]) vr rows vt T vl list → W.grownBy w1 vw.ownBlock → (W0.heap.size ≤ w1.heap.size ∧ ∀ i, i < W0.heap.size → some i ≠ vw.ownBlock → w1.heap[i]? = W0.heap[i]?) → Kc (a.put o.dst v1) w1) :
    if Region.wanted o (yielded ops a.tmps) = true then Oper.wp Try.prog o a W Kc Q else Kc (a.put o.dst undef) W := by
  have hI' := hI.below hb
  have hx1 := Kd.R_below hx hb
  have hx2 := Kd.R_apart' (Kd.R_apart' hx1 (Kd.R_typed hI'.rr) (by intro q hq; simp [Kd.int, Kd.scalar] at hq; omega)) (Kd.R_typed hI'.rw) (by intro q hq; simp [Kd.int, Kd.scalar] at hq; omega)
  refine Kd.R_append_rows_step (Kd.slice 3 (Kd.int .i64)) (w0 := W) w.heap.size hw s y 91 22 (.slice none 0 0) 24 ho Try.underlying91 PL.info22c rfl (by decide) (by omega) vw ways [x] _ 1 1 (fun k => True ∧ some k ≠ vr.ownBlock) (fun k => (okx k ∧ some k ≠ vr.ownBlock) ∧ some k ≠ vw.ownBlock) hs hy hI'.rw (lit_row hn hx2) (fun _ _ h => h) (fun k hk => ⟨⟨trivial, hk.1.2⟩, hk.2⟩) (fun k hk => ⟨trivial, fun e => by have := Kd.R_lt hI'.rr k e.symm; omega⟩) (Below.refl _ _) hI'.size (by omega) ?_
  intro v1 w1 hr _ hg hat
  exact h v1 w1 (hI'.addWay hr hg hat) hg ⟨Nat.le_trans hb.size hg.size, fun i hi hn => (hg.block i (Nat.lt_of_lt_of_le hi hb.size) hn).trans (hb.block i hi)⟩
end
end Go.Proofs.Ytaalafnkglbcpaa.PL

namespace Go.Proofs.Ytaalafnkglbcpaa.PL
set_option linter.unusedVariables false
set_option linter.unusedSimpArgs false
open Go.Proofs.YtaalafnkglbcpaaW.PrintWords Go.Proofs.YtaalafnkglbcpaaW.PrintLast Go.Proofs.YtaalafnkglbcpaaW.PrintMore

/-- The last of what f tells. -/
def lastO (f : List Int → List Int) (u : List Int) : Int := rd ((f u).drop ((f u).length - 1)) 0
def CellOK (f : List Int → List Int) (tests ways : List (List Int)) (word : List Int) (r : S77) : Prop := r.f0 = lastO f word ∧ 0 ≤ r.f1 ∧ r.f1 < ways.length ∧ shows f word tests = shows f (ways.getD r.f1.toNat []) tests
structure CI (f : List Int → List Int) (K : Nat) (tests ways rows : List (List Int)) (T : Tab) (list : List S77) : Prop where
  pos : ways[0]? = some []
  req : rows = ways.map (fun w => shows f w tests)
  nodup : rows.Nodup
  lrow : ∀ s, s < T.length → (roww T s).length = K
  cells : ∀ s a, s < T.length → a < K → CellOK f tests ways (ways.getD s [] ++ [(a : Int)]) (cel T s a)
  lc : ∀ a, a < list.length → CellOK f tests ways (ways.getD T.length [] ++ [(a : Int)]) (list.getD a z77)
  tree : ∀ k, 0 < k → k < ways.length → (∃ s a, s < T.length ∧ s < k ∧ a < K ∧ ways.getD k [] = ways.getD s [] ++ [(a : Int)] ∧ (cel T s a).f1 = k) ∨ (∃ a, T.length < k ∧ a < list.length ∧ ways.getD k [] = ways.getD T.length [] ++ [(a : Int)] ∧ (list.getD a z77).f1 = k)
  ll : list.length ≤ K
  lt : T.length ≤ ways.length
section
variable {f : List Int → List Int} {K : Nat} {tests ways rows : List (List Int)} {T : Tab} {list : List S77}
theorem CI.start : CI f K tests [[]] [shows f [] tests] [] [] :=
  ⟨rfl, rfl, by simp, fun s h => by simp at h, fun s a h => by simp at h, fun a h => by simp at h, fun k h1 h2 => by simp at h2; omega, by simp, by simp⟩
theorem getD_app {α : Type} (l m : List α) (d : α) {i : Nat} (h : i < l.length) : (l ++ m).getD i d = l.getD i d := by
  rw [List.getD_eq_getElem?_getD, List.getElem?_append_left h, ← List.getD_eq_getElem?_getD]
theorem getD_app_at {α : Type} (l : List α) (x d : α) : (l ++ [x]).getD l.length d = x := by
  rw [List.getD_eq_getElem?_getD, List.getElem?_append_right (Nat.le_refl _)]; simp
theorem CellOK.more {word x : List Int} {r : S77} (h : CellOK f tests ways word r) : CellOK f tests (ways ++ [x]) word r := by
  obtain ⟨h1, h2, h3, h4⟩ := h
  refine ⟨h1, h2, by simp; omega, ?_⟩
  rw [getD_app _ _ _ (by omega)]; exact h4
theorem CI.rlen (h : CI f K tests ways rows T list) : rows.length = ways.length := by rw [h.req]; simp
theorem CI.rget (h : CI f K tests ways rows T list) {k : Nat} (hk : k < ways.length) : rows.getD k [] = shows f (ways.getD k []) tests := by
  rw [h.req]
  simp [List.getD_eq_getElem?_getD, List.getElem?_eq_getElem hk]
/-- The word is told apart from none: it shows what way k shows. -/
theorem CI.found (h : CI f K tests ways rows T list) (hl : list.length < K) (hT : T.length < ways.length) {k : Int} (h0 : 0 ≤ k) (hk : k < rows.length) (hr : rows.getD k.toNat [] = shows f (ways.getD T.length [] ++ [(list.length : Int)]) tests) :
    CI f K tests ways rows T (list ++ [⟨lastO f (ways.getD T.length [] ++ [(list.length : Int)]), k⟩]) := by
  have hrl := h.rlen
  have hk' : k.toNat < ways.length := by omega
  refine ⟨h.pos, h.req, h.nodup, h.lrow, h.cells, fun a ha => ?_, fun q q0 q1 => ?_, by simp; omega, h.lt⟩
  · rcases Nat.lt_or_ge a list.length with h1 | h1
    · rw [getD_app _ _ _ h1]; exact h.lc a h1
    · obtain rfl : a = list.length := by simp at ha; omega
      rw [getD_app_at]
      exact ⟨rfl, h0, by show k < _; omega, by rw [← hr, h.rget hk']⟩
  · rcases h.tree q q0 q1 with h1 | ⟨a, h1, h2, h3, h4⟩
    · exact .inl h1
    · exact .inr ⟨a, h1, by simp; omega, h3, by rw [getD_app _ _ _ h2]; exact h4⟩
/-- The word is told apart from all: it is a way. -/
theorem CI.fresh (h : CI f K tests ways rows T list) (hl : list.length < K) (hT : T.length < ways.length) (hn : ∀ i, i < rows.length → rows.getD i [] ≠ shows f (ways.getD T.length [] ++ [(list.length : Int)]) tests) :
    CI f K tests (ways ++ [ways.getD T.length [] ++ [(list.length : Int)]]) (rows ++ [shows f (ways.getD T.length [] ++ [(list.length : Int)]) tests]) T (list ++ [⟨lastO f (ways.getD T.length [] ++ [(list.length : Int)]), (rows.length : Int)⟩]) := by
  have hrl := h.rlen
  refine ⟨?_, ?_, ?_, h.lrow, fun s a hs ha => ?_, fun a ha => ?_, fun q q0 q1 => ?_, by simp; omega, by have := h.lt; simp; omega⟩
  · rw [List.getElem?_append_left (by omega)]; exact h.pos
  · rw [List.map_append, ← h.req]; rfl
  · refine List.nodup_append.2 ⟨h.nodup, by simp, fun x hx y hy => ?_⟩
    obtain ⟨i, hi, rfl⟩ := List.getElem_of_mem hx
    rcases List.mem_singleton.1 hy with rfl
    have := hn i hi
    rwa [List.getD_eq_getElem?_getD, List.getElem?_eq_getElem hi] at this
  · rw [getD_app _ _ _ (by omega)]; exact (h.cells s a hs ha).more
  · rw [getD_app _ _ _ hT]
    rcases Nat.lt_or_ge a list.length with h1 | h1
    · rw [getD_app _ _ _ h1]; exact (h.lc a h1).more
    · obtain rfl : a = list.length := by simp at ha; omega
      rw [getD_app_at]
      refine ⟨rfl, by simp, by simp; omega, ?_⟩
      show _ = shows f ((ways ++ [_]).getD (rows.length : Int).toNat []) tests
      rw [Int.toNat_natCast, hrl, getD_app_at]
  · rcases Nat.lt_or_ge q ways.length with h1 | h1
    · rw [getD_app _ _ _ h1]
      rcases h.tree q q0 h1 with ⟨s, a, g1, g2, g3, g4, g5⟩ | ⟨a, g1, g2, g3, g4⟩
      · exact .inl ⟨s, a, g1, g2, g3, by rw [getD_app _ _ _ (by omega)]; exact g4, g5⟩
      · exact .inr ⟨a, g1, by simp; omega, by rw [getD_app _ _ _ hT]; exact g3, by rw [getD_app _ _ _ g2]; exact g4⟩
    · obtain rfl : q = ways.length := by simp at q1; omega
      exact .inr ⟨list.length, hT, by simp, by rw [getD_app_at, getD_app _ _ _ hT], by rw [getD_app_at]; show (rows.length : Int) = _; omega⟩
theorem roww_app (T : Tab) (l : List S77) {s : Nat} (h : s < T.length) : roww (T ++ [l]) s = roww T s := getD_app _ _ _ h
theorem roww_app_at (T : Tab) (l : List S77) : roww (T ++ [l]) T.length = l := getD_app_at _ _ _
/-- A state is done. -/
theorem CI.shut (h : CI f K tests ways rows T list) (hl : list.length = K) (hT : T.length < ways.length) : CI f K tests ways rows (T ++ [list]) [] := by
  refine ⟨h.pos, h.req, h.nodup, fun s hs => ?_, fun s a hs ha => ?_, fun a ha => by simp at ha, fun q q0 q1 => ?_, by simp, by simp; omega⟩
  · rcases Nat.lt_or_ge s T.length with h1 | h1
    · rw [roww_app _ _ h1]; exact h.lrow s h1
    · obtain rfl : s = T.length := by simp at hs; omega
      rw [roww_app_at]; exact hl
  · rcases Nat.lt_or_ge s T.length with h1 | h1
    · unfold cel; rw [roww_app _ _ h1]; exact h.cells s a h1 ha
    · obtain rfl : s = T.length := by simp at hs; omega
      unfold cel; rw [roww_app_at]; exact h.lc a (by omega)
  · rcases h.tree q q0 q1 with ⟨s, a, g1, g2, g3, g4, g5⟩ | ⟨a, g1, g2, g3, g4⟩
    · exact .inl ⟨s, a, by simp; omega, g2, g3, g4, by unfold cel; rw [roww_app _ _ g1]; exact g5⟩
    · exact .inl ⟨T.length, a, by simp, g1, by omega, g3, by unfold cel; rw [roww_app_at]; exact g4⟩
/-- The ways are words, and no longer than their number. -/
theorem CI.word (h : CI f K tests ways rows T list) {ins : Int} (hK : shl .i64 1 ins = (K : Int)) : ∀ k, k < ways.length → InW ins (ways.getD k []) ∧ (ways.getD k []).length ≤ k := by
  intro k
  induction k using Nat.strongRecOn with
  | ind k ih =>
    intro hk
    have app : ∀ s a, s < k → a < K → ways.getD k [] = ways.getD s [] ++ [(a : Int)] → InW ins (ways.getD k []) ∧ (ways.getD k []).length ≤ k := by
      intro s a hs ha e
      obtain ⟨h1, h2⟩ := ih s hs (by omega)
      rw [e]
      refine ⟨fun b hb => ?_, by rw [List.length_append, List.length_singleton]; omega⟩
      rcases List.mem_append.1 hb with hb | hb
      · exact h1 b hb
      · rcases List.mem_singleton.1 hb with rfl
        rw [hK]; omega
    rcases Nat.eq_zero_or_pos k with rfl | hp
    · rw [List.getD_eq_getElem?_getD, h.pos]
      exact ⟨fun b hb => (by cases hb), Nat.le_refl _⟩
    · rcases h.tree k hp hk with ⟨s, a, g1, g2, g3, g4, g5⟩ | ⟨a, g1, g2, g3, g4⟩
      · exact app s a g2 g3 g4
      · exact app T.length a g1 (Nat.lt_of_lt_of_le g2 h.ll) g3
end
theorem idxR_cases (xs : List (List Int)) (r : List Int) : (∃ j : Nat, j < xs.length ∧ idxR xs r = (j : Int) ∧ xs.getD j [] = r) ∨ (idxR xs r = -1 ∧ ∀ i, i < xs.length → xs.getD i [] ≠ r) := by
  unfold idxR
  by_cases h : xs.findIdx (fun x => decide (x = r)) < xs.length
  · refine .inl ⟨_, h, by rw [if_pos h], ?_⟩
    have h2 := List.findIdx_getElem (w := h)
    rw [List.getD_eq_getElem?_getD, List.getElem?_eq_getElem h]
    simpa using h2
  · refine .inr ⟨by rw [if_neg h], fun i hi e => h ?_⟩
    refine List.findIdx_lt_length_of_exists ⟨xs[i], List.getElem_mem hi, ?_⟩
    rw [List.getD_eq_getElem?_getD, List.getElem?_eq_getElem hi] at e
    simpa using e
end Go.Proofs.Ytaalafnkglbcpaa.PL

namespace Go.Proofs.Ytaalafnkglbcpaa.PL
open Go.RowKit Go.Proofs.YtaalafnkglbcpaaW.PrintWords Go.Proofs.YtaalafnkglbcpaaW.PrintLast Go.Proofs.YtaalafnkglbcpaaW.PrintMore
set_option linter.unusedVariables false
set_option linter.unusedSimpArgs false
/-- What close leaves. -/
def ClosePost (f : List Int → List Int) (K most : Nat) (g gb : Nat) (ins outs asked : Int) (tv : Value) (tests : List (List Int)) (w : World) (e : Ending) (w' : World) : Prop :=
  ∃ (ways rows : List (List Int)) (T : Tab) (Aw A9 : Option Addr) (cw c9 n : Nat), e = .returned (.tuple #[.agg #[.int .i64 ins, .int .i64 outs, .slice A9 T.length c9], .bool true]) ∧ Kept w w' (fun k => k = g) ∧ (n ≤ tests.length + most * K * (1 + tests.length) ∧ tests.length ≤ n) ∧
    LB w' g ins outs gb (asked + n) tv (.slice Aw ways.length cw) ∧ Kd.R (Kd.slice 3 (Kd.int .i64)) 22 w' w.heap.size (fun _ => True) (.slice Aw ways.length cw) ways ∧ Kd.R (Kd.slice 77 k77) 75 w' w.heap.size (fun _ => True) (.slice A9 T.length c9) T ∧
    CI f K tests ways rows T [] ∧ T.length = ways.length ∧ ways.length ≤ most
/-- A block of one row is a row of rows. -/
theorem one_own {W : World} {n base : Nat} {v : Value} {x : List Int} {ok okp : Nat → Prop} (hb : W.heap[n]? = some (.cells #[v] 22 (0, 0))) (hbase : base ≤ n) (hr : Kd.R (Kd.int .i64) 3 W base okp v x) (hok : ∀ k, okp k → ok k ∧ k ≠ n) (hn : ok n) : Kd.R (Kd.slice 3 (Kd.int .i64)) 22 W base ok (.slice (some ⟨n, 0, none⟩) 1 1) [x] := by
  refine ⟨fun k hk => ?_, [v], ⟨rfl, .inr ⟨n, 1, #[v], rfl, hbase, hb, Nat.le_refl _, by decide, rfl, rfl⟩⟩, ?_⟩
  · obtain rfl : n = k := by simpa [Value.ownBlock] using hk
    exact hn
  · refine Reps.one (show Kd.M (Kd.slice 3 (Kd.int .i64)) W base _ x [v] from ⟨v, rfl, Kd.R_mono hr (fun k hk => ⟨(hok k hk).1, fun e => (hok k hk).2 ?_⟩)⟩) (Reps.none _ _)
    simpa [Value.ownBlock] using e
set_option maxHeartbeats 8000000 in
set_option maxRecDepth 100000 in
theorem close_calls (f : List Int → List Int) (K most g gb : Nat) (ins outs asked : Int) (wv : Value) (A0 At : Option Addr) (c0 ct : Nat) (t : List (List S77)) (tests : List (List Int)) (w : World)
    (hL : LB w g ins outs gb asked (.slice At tests.length ct) wv) (hgb : gb ≠ g)
    (hb : w.heap[gb]? = some (.cells #[.int .i64 ins, .int .i64 outs, .slice A0 t.length c0] 25 (0, 0)))
    (ht : ∀ W', Kept w W' (fun k => k = g) → Kd.C (Kd.slice 77 k77) W' A0 t.length t) (hc0 : t.length ≤ c0)
    (htt : ∀ W', Kept w W' (fun k => k = g) → Kd.C (Kd.slice 3 (Kd.int .i64)) W' At tests.length tests) (htl : tests.length ≤ 1000) (htw : ∀ x ∈ tests, 1 ≤ x.length ∧ x.length ≤ 1000 ∧ InW ins x)
    (hf : ∀ u, InW ins u → u.length ≤ 100000 → Asks ins outs t f u) (hK : shl .i64 1 ins = (K : Int)) (hK4 : K ≤ 4) (hi : 0 ≤ ins ∧ ins ≤ 2) (ho : 0 ≤ outs ∧ outs ≤ 10) (hm : most ≤ 6)
    (hmost : ∀ ways rows T list, CI f K tests ways rows T list → ways.length ≤ most) (ha : 0 ≤ asked ∧ asked + 1000000 ≤ 1000000000000000) :
    Calls Try.prog 52 #[.pointer (some ⟨g, 0, none⟩), .int .i64 (most : Int)] w (ClosePost f K most g gb ins outs asked (.slice At tests.length ct) tests w) := by
  have HL := Aside0.mk hL
  have HGB := Aside0.mk hgb
  have HB := Aside0.mk hb
  have HT := Aside0.mk ht
  have HC0 := Aside0.mk hc0
  have HTT := Aside0.mk htt
  have HTL := Aside0.mk htl
  have HTW := Aside0.mk htw
  have HF := Aside0.mk hf
  have HK := Aside0.mk hK
  have HK4 := Aside0.mk hK4
  have HI := Aside0.mk hi
  have HOO := Aside0.mk ho
  have HM := Aside0.mk hm
  have HMO := Aside0.mk hmost
  have HA := Aside0.mk ha
  have HGL := Aside0.mk (blk_lt hL)
  have hu93 := Try.underlying93
  have hu25 := Try.underlying25
  have b1 := Aside0.mk (blk_alloc (blk_alloc hL (.cells #[.int .i64 0, .int .i64 0, .slice none 0 0] 25)) (.cells #[.slice none 0 0] 22))
  have r1 : ((w.alloc (.cells #[.int .i64 0, .int .i64 0, .slice none 0 0] 25)).alloc (.cells #[.slice none 0 0] 22)).cell? ⟨g, 6, none⟩ = some wv := (blk_cell b1.out 6).trans rfl
  have r2 : ((w.alloc (.cells #[.int .i64 0, .int .i64 0, .slice none 0 0] 25)).alloc (.cells #[.slice none 0 0] 22)).frozen? ⟨g, 6, none⟩ = false := blk_frozen b1.out 6
  have L2 := Aside0.mk (blk_put b1.out 6 (.slice (some ⟨w.heap.size + 1, 0, none⟩) 1 1) rfl)
  have K2 : Aside0 (Kept w (((w.alloc (.cells #[.int .i64 0, .int .i64 0, .slice none 0 0] 25)).alloc (.cells #[.slice none 0 0] 22)).setCell ⟨g, 6, none⟩ (.slice (some ⟨w.heap.size + 1, 0, none⟩) 1 1)) (fun k => k = g)) := ⟨Kept.setCell (S := fun k => k = g) (p := ⟨g, 6, none⟩) (((Kept.refl w _).alloc _).alloc _) (Or.inl rfl) _⟩
  have hz : (w.alloc (.cells #[.int .i64 0, .int .i64 0, .slice none 0 0] 25)).heap.size = w.heap.size + 1 := by simp
  have R1 := Aside0.mk (blk_alloc (blk_new w (.cells #[.int .i64 0, .int .i64 0, .slice none 0 0] 25)) (.cells #[.slice none 0 0] 22))
  have b3 := blk_new (w.alloc (.cells #[.int .i64 0, .int .i64 0, .slice none 0 0] 25)) (.cells #[.slice none 0 0] 22)
  rw [hz] at b3
  have W1 := Aside0.mk b3
  clear b3 hz
  have R2 := Aside0.mk (blk_far R1.out (p := ⟨g, 6, none⟩) (show w.heap.size ≠ g by have := HGL.out; omega) (.slice (some ⟨w.heap.size + 1, 0, none⟩) 1 1))
  have W2 := Aside0.mk (blk_far W1.out (p := ⟨g, 6, none⟩) (show w.heap.size + 1 ≠ g by have := HGL.out; omega) (.slice (some ⟨w.heap.size + 1, 0, none⟩) 1 1))
  have hnil : ∀ W', Kd.C (Kd.int .i64) W' none ([] : List Int).length [] := fun W' => Kd.C_nil _ W'
  have C2 := Aside0.mk (row_calls f g gb ins outs asked (.slice (some ⟨w.heap.size + 1, 0, none⟩) 1 1) A0 none At c0 0 ct t [] tests _ L2.out HGB.out.symm (blk_kept HB.out K2.out HGB.out) (fun W' h => HT.out W' (K2.out.then_ h (fun _ h => .inl h))) HC0.out (fun W' _ => hnil W') (Nat.le_refl _)
    (fun W' h => HTT.out W' (K2.out.then_ h (fun _ h => .inl h))) HTL.out (by simp) (fun x hx => ⟨(HTW.out x hx).1, (HTW.out x hx).2.1⟩) (fun x hx => HF.out _ (by simpa using (HTW.out x hx).2.2) (by have := (HTW.out x hx).2.1; simp; omega)) HOO.out (by have := HA.out; omega))
  rw [List.length_nil] at C2
  clear R1 W1 b1 hnil hL hgb hb ht hc0 htt htl htw hf hK hK4 hi ho hm hmost ha
  go_enter Try.func52, Try.ntmps52
  go_wp2_with fail
  (with_reducible refine C2.out.mono ?_)
  rintro e w3 ⟨v3, rfl, hr3, l3, k3⟩
  have HR3 := Aside0.mk hr3
  have L3 := Aside0.mk l3
  have K3 := Aside0.mk (K2.out.then_ k3 (fun _ h => .inl h))
  have R3 := Aside0.mk (blk_kept R2.out k3 (show w.heap.size ≠ g by have := HGL.out; omega))
  have W3 := Aside0.mk (blk_kept W2.out k3 (show w.heap.size + 1 ≠ g by have := HGL.out; omega))
  have Z3 := Aside0.mk (blk_lt W2.out)
  clear hr3 l3 k3 C2 r1 r2 L2 K2 R2 W2
  obtain ⟨A3, c3, e3⟩ := Kd.R_slice HR3.out
  subst e3
  go_upto_region 3 with (fail)
  have HW3 : Aside0 (Kd.R (Kd.slice 3 (Kd.int .i64)) 22 w3 w.heap.size (fun k => k ≠ w3.heap.size ∧ k < w3.heap.size) (.slice (some ⟨w.heap.size + 1, 0, none⟩) 1 1) [[]]) := ⟨one_own W3.out (by omega) (Kd.R_nil (Kd.int .i64) 3 w3 w.heap.size (fun _ => False)) (fun _ h => h.elim) (by have := blk_lt W3.out; omega)⟩
  have HR4 : Aside0 (Kd.R (Kd.slice 3 (Kd.int .i64)) 22 (w3.alloc (.cells #[.slice A3 (shows f [] tests).length c3] 22)) w.heap.size (fun k => k ≠ w.heap.size + 1) (.slice (some ⟨w3.heap.size, 0, none⟩) 1 1) [shows f [] tests]) := ⟨one_own (blk_new _ _) (by have := blk_lt W3.out; omega) (Kd.R_lower (Kd.R_alloc (Kd.R_bound HR3.out) _) (by have := Z3.out; omega)) (fun k hk => by have := hk.2.1; have := hk.2.2.1; have := Z3.out; omega) (by have := blk_lt W3.out; omega)⟩
  have L4 := Aside0.mk (blk_alloc L3.out (.cells #[.slice A3 (shows f [] tests).length c3] 22))
  have K4 := Aside0.mk (K3.out.alloc (.cells #[.slice A3 (shows f [] tests).length c3] 22))
  have HW4 := Aside0.mk (Kd.R_alloc HW3.out (.cells #[.slice A3 (shows f [] tests).length c3] 22))
  have Z4 : Aside0 (w.heap.size ≤ (w3.alloc (.cells #[.slice A3 (shows f [] tests).length c3] 22)).heap.size) := ⟨K4.out.1⟩
  have hz4 : (w3.alloc (.cells #[.slice A3 (shows f [] tests).length c3] 22)).heap.size = w3.heap.size + 1 := by simp
  have Y4 : Aside0 (w3.heap.size < (w3.alloc (.cells #[.slice A3 (shows f [] tests).length c3] 22)).heap.size) := ⟨by rw [hz4]; omega⟩
  have R4 := Aside0.mk (blk_alloc R3.out (.cells #[.slice A3 (shows f [] tests).length c3] 22))
  clear HR3 L3 K3 R3 W3 HW3 Z3 hz4
  generalize hw4 : (w3.alloc (.cells #[.slice A3 (shows f [] tests).length c3] 22)) = w4 at *
  have c1 : w4.cell? ⟨g, 0, none⟩ = some (.int .i64 ins) := (blk_cell L4.out 0).trans rfl
  have c2 : w4.cell? ⟨g, 1, none⟩ = some (.int .i64 outs) := (blk_cell L4.out 1).trans rfl
  clear hw4
  generalize w3.heap.size = gr at *
  go_region_held3 (fun w' => w'.cell? ⟨g, 0, none⟩ = some (.int .i64 ins) ∧ w'.cell? ⟨g, 1, none⟩ = some (.int .i64 outs))
    (go_keep)
    (fail)
  have I5 : Aside0 (CInv w (w4.alloc (.cells #[.int .i64 ins, .int .i64 outs, .slice none 0 0] 25)).drew g w4.heap.size ins outs (.slice (some ⟨w.heap.size + 1, 0, none⟩) 1 1) [[]] (.slice (some ⟨gr, 0, none⟩) 1 1) [shows f [] tests] (.slice none 0 0) [] (.slice none 0 0) []) := ⟨{
    gl := HGL.out, gtl := blk_lt R4.out, kp := (K4.out.alloc _).drew, rb := blk_drew (blk_alloc R4.out _), tb := blk_drew (blk_new _ _),
    rw := Kd.R_drew (Kd.R_alloc (Kd.R_mono HW4.out (fun k hk => ⟨trivial, by simp [Value.ownBlock]; exact hk.1⟩)) _),
    rr := Kd.R_drew (Kd.R_alloc (Kd.R_mono HR4.out (fun k hk => ⟨trivial, by simp [Value.ownBlock]; exact hk⟩)) _),
    rt := Kd.R_nil _ _ _ _ _, rl := Kd.R_nil _ _ _ _ _ }⟩
  have L5 : Aside0 (LB (w4.alloc (.cells #[.int .i64 ins, .int .i64 outs, .slice none 0 0] 25)).drew g ins outs gb (asked + tests.length) (.slice At tests.length ct) (.slice (some ⟨w.heap.size + 1, 0, none⟩) 1 1)) := ⟨blk_drew (blk_alloc L4.out _)⟩
  clear c1 c2 HR4 HW4 L4 K4 Z4 Y4 R4
  generalize (w4.alloc (.cells #[.int .i64 ins, .int .i64 outs, .slice none 0 0] 25)).drew = w5 at *
  generalize w4.heap.size = gt at *
  go_wp2
  have hK1 : wrap64 (2 ^ min ins.toNat 64) = (K : Int) := by
    have e : shl .i64 1 ins = wrap64 (2 ^ min ins.toNat 64) := by unfold shl; rw [i64_w, Int.one_mul]; rfl
    rw [← e]; exact HK.out
  have HK1 := Aside0.mk hK1
  clear hK1
  go_loopw [6, 8] (fun v6 v8 wr => ∃ (n : Nat) (ways rows : List (List Int)) (vw vt : Value) (T : Tab), v8 = .int .i64 (T.length : Int) ∧ Aside0 (CInv w wr g gt ins outs vw ways v6 rows vt T (.slice none 0 0) []) ∧ Aside0 (LB wr g ins outs gb (asked + n) (.slice At tests.length ct) vw) ∧ Aside0 (n ≤ tests.length + T.length * K * (1 + tests.length) ∧ tests.length ≤ n) ∧ Aside0 (CI f K tests ways rows T [])) (fun _ v8 _ => most + 1 - (intOf v8).toNat)
  case atStart => exact ⟨tests.length, _, _, _, _, _, rfl, I5, L5, ⟨by omega⟩, ⟨CI.start⟩⟩
  case round =>
    obtain ⟨n, ways, rows, vw, vt, T, rfl, IO, LO, NO, PO⟩ := hrel
    obtain ⟨w6, rfl⟩ : ∃ w6 : World, w6 = wr := ⟨_, rfl⟩
    clear I5 L5
    have hwm := HMO.out _ _ _ _ PO.out
    have hm6 := HM.out
    obtain ⟨Aw, cw, ew⟩ := Kd.R_slice IO.out.rw
    subst ew
    have q6 : w6.cell? ⟨g, 6, none⟩ = some (.slice Aw ways.length cw) := (blk_cell LO.out 6).trans rfl
    have hTl := PO.out.lt
    by_cases hlt : T.length < ways.length
    · have HLT := Aside0.mk hlt
      have q0 : w6.cell? ⟨g, 0, none⟩ = some (.int .i64 ins) := (blk_cell LO.out 0).trans rfl
      have q7 : decide (ins < 0) = false := decide_eq_false (by have := HI.out; omega)
      have q8 : 0 ≤ ins := HI.out.1
      go_wp2_with fail
      rw [HK1.out]
      clear q6 q0 q7 q8
      go_loopw [6, 9, 45] (fun v6 v9 v45 wr => ∃ (n : Nat) (ways rows : List (List Int)) (vw : Value) (list : List S77), list.length ≤ K ∧ v45 = .int .i64 (list.length : Int) ∧ Aside0 (CInv w wr g gt ins outs vw ways v6 rows vt T v9 list) ∧ Aside0 (LB wr g ins outs gb (asked + n) (.slice At tests.length ct) vw) ∧ Aside0 (n ≤ tests.length + (T.length * K + list.length) * (1 + tests.length) ∧ tests.length ≤ n) ∧ Aside0 (CI f K tests ways rows T list) ∧ Aside0 (T.length < ways.length)) (fun _ _ v45 _ => K - (intOf v45).toNat)
      case atStart => exact ⟨n, _, _, _, [], by simp, rfl, IO, LO, NO, PO, HLT⟩
      case round =>
        obtain ⟨n, ways, rows, vw, list, hj, rfl, II, LI, NI, PI, TI⟩ := hrel
        obtain ⟨w7, rfl⟩ : ∃ w7 : World, w7 = wr := ⟨_, rfl⟩
        have hwm7 := HMO.out _ _ _ _ PI.out
        have hTI := TI.out
        obtain ⟨Aw7, cw7, ew⟩ := Kd.R_slice II.out.rw
        obtain ⟨Ar7, cr7, er⟩ := Kd.R_slice II.out.rr
        obtain ⟨Al7, cl7, el⟩ := Kd.R_slice II.out.rl
        subst ew er el
        by_cases hlj : list.length < K
        · have HLJ := Aside0.mk hlj
          obtain ⟨a, A1, c1, ea, g0, g1, g2⟩ := at_L3b (Kd.R_reads' II.out.rw).2.2 T.length hTI
          subst ea
          have q6 : w7.cell? ⟨g, 6, none⟩ = some (.slice (some a) ways.length cw7) := (blk_cell LI.out 6).trans rfl
          have HWD := Aside0.mk (PI.out.word HK.out T.length hTI)
          have HDD : Aside0 (rd_L3b ways T.length = ways.getD T.length []) := ⟨rfl⟩
          have hwl : (rd_L3b ways T.length).length ≤ 6 := by rw [HDD.out]; have := HWD.out.2; omega
          have HWL := Aside0.mk hwl
          have C8 := Aside0.mk (clone_I.calls A1 c1 (rd_L3b ways T.length) (rd_L3b ways T.length) w7 g2 g1 (by unfold clone_I.f; rw [if_pos (by omega)]))
          clear g1 g2
          go_wp2_with fail
          (with_reducible refine C8.out.mono ?_)
          rintro e w8 ⟨v8, rfl, ho8, hb8⟩
          have O8 := Aside0.mk ho8
          have B8 := Aside0.mk hb8
          clear ho8 hb8 C8
          obtain ⟨A8, c8, e8⟩ := Kd.R_slice O8.out
          subst e8
          have hK4 : (K : Int) ≤ 4 := by have := HK4.out; omega
          go_wp2_with ((with_reducible refine gate_builtin (b := .append) (xs := #[.tmp 55, .tmp 57]) rfl ?_); at_builtin; refine Kd.R_append (Kd.int .i64) (w0 := w7) (W := w8) w7.heap.size rfl (.tmp 55) (.tmp 57) 22 3 (.int .i64 0) 8 rfl Try.underlying22 info3 rfl (by decide) (by omega) (.slice A8 (rd_L3b ways T.length).length c8) (rd_L3b ways T.length) (list.length : Int) [.int .i64 (list.length : Int)] (fun _ => True) (fun _ => False) rfl rfl ?aM (fun _ h => h.elim) (fun _ _ => trivial) ?aO ?aB ?aS ?aL ?_; (case aM => rfl); (case aO => exact O8.out); (case aB => exact B8.out); (case aS => exact B8.out.size); (case aL => have := HWL.out; omega); intro v9 w9 ho hb hg hat; have B9 := Aside0.mk hb; have O9 := Aside0.mk ho; clear ho hb hg hat)
          have HWI : Aside0 (InW ins (rd_L3b ways T.length ++ [(list.length : Int)])) := ⟨fun x hx => by
            rcases List.mem_append.1 hx with hx | hx
            · exact HWD.out.1 x hx
            · rcases List.mem_singleton.1 hx with rfl
              rw [HK.out]; have := HLJ.out; omega⟩
          have HWZ : Aside0 ((rd_L3b ways T.length ++ [(list.length : Int)]).length ≤ 7) := ⟨by rw [List.length_append, List.length_singleton]; have := HWL.out; omega⟩
          have HWP : Aside0 (1 ≤ (rd_L3b ways T.length ++ [(list.length : Int)]).length) := ⟨by rw [List.length_append, List.length_singleton]; omega⟩
          have HWE : Aside0 (rd_L3b ways T.length ++ [(list.length : Int)] = ways.getD T.length [] ++ [(list.length : Int)]) := ⟨rfl⟩
          clear hwl HWL HWD HDD O8 B8 q6 g0
          generalize rd_L3b ways T.length ++ [(list.length : Int)] = word at *
          have I9 := Aside0.mk (II.out.below B9.out)
          have L9 := Aside0.mk (blk_below LI.out B9.out)
          have hz7 := II.out.size
          have hgl := HGL.out
          have N9 : Aside0 (asked + n + 1 + tests.length + 1000 ≤ 1000000000000000 ∧ 0 ≤ asked + n) := ⟨by
            have h1 := NI.out
            have h2 : T.length * K ≤ 6 * 4 := Nat.mul_le_mul (by omega) HK4.out
            have h3 : (T.length * K + list.length) * (1 + tests.length) ≤ 28 * 1001 := Nat.mul_le_mul (by have := HK4.out; omega) (by have := HTL.out; omega)
            have := HTL.out; have := HA.out; omega⟩
          have O9' := Aside0.mk (Kd.R_mono (Kd.R_bound O9.out) (ok' := fun k => k ≠ g ∧ w.heap.size ≤ k) (fun k hk => by have := hk.2.1; constructor <;> omega))
          clear O9 II LI B9
          obtain ⟨A9, c9, e9⟩ := Kd.R_slice O9'.out
          subst e9
          obtain ⟨kx, hkx⟩ := (HF.out word HWI.out (by have := HWZ.out; omega)).run
          have HFW := Aside0.mk (HF.out word HWI.out (by have := HWZ.out; omega))
          have C10 := Aside0.mk (answer_calls kx g gb 1 ins outs (asked + n) (.slice At tests.length ct) (.slice (some a) ways.length cw7) A0 A9 c0 c9 t word (f word) w9 L9.out HGB.out.symm (blk_kept HB.out I9.out.kp HGB.out) (fun W' h => HT.out W' (I9.out.kp.then_ h (fun _ h => .inl h))) HC0.out (Kd.C_kept_own O9'.out (fun k hk => hk.1)) (Kd.R_reads' O9'.out).2.1 (by have := HWZ.out; omega) hkx HFW.out.len HFW.out.good HOO.out HWP.out (Nat.le_refl _) (by have := N9.out; omega))
          rw [Int.natCast_one] at C10
          clear hkx
          go_wp2_with fail
          (with_reducible refine C10.out.mono ?_)
          rintro e w10 ⟨v10, rfl, ho10, l10, k10⟩
          have O10 := Aside0.mk ho10
          have L10 := Aside0.mk l10
          have I10 := Aside0.mk (I9.out.kept k10)
          have W10 := Aside0.mk (Kd.R_kept O9'.out k10 (fun k hk => hk.1))
          clear ho10 l10 k10 C10 I9 L9 O9'
          obtain ⟨A10, c10, e10⟩ := Kd.R_slice O10.out
          have hl10 : ((f word).drop ((f word).length - 1)).length = 1 := by rw [List.length_drop, HFW.out.len]; have := HWP.out; omega
          rw [hl10] at e10
          subst e10
          obtain ⟨a10, ea10, ha10⟩ := Kd.at_int (Kd.R_reads' O10.out).2.2 0 (by omega) (by rw [hl10]; omega)
          subst ea10
          have ha10' : w10.cell? a10 = some (.int .i64 (lastO f word)) := by
            have h : w10.cell? (a10.add 0) = some (.int .i64 (lastO f word)) := ha10
            rwa [show a10.add 0 = a10 from add_zero' a10] at h
          clear ha10 hl10 O10
          have C11 := Aside0.mk (row_calls f g gb ins outs (asked + n + 1) (.slice (some a) ways.length cw7) A0 A9 At c0 c9 ct t word tests w10 L10.out HGB.out.symm (blk_kept HB.out I10.out.kp HGB.out) (fun W' h => HT.out W' (I10.out.kp.then_ h (fun _ h => .inl h))) HC0.out (Kd.C_kept_own W10.out (fun k hk => hk.1)) (Kd.R_reads' W10.out).2.1
            (fun W' h => HTT.out W' (I10.out.kp.then_ h (fun _ h => .inl h))) HTL.out (by have := HWZ.out; omega) (fun x hx => ⟨(HTW.out x hx).1, (HTW.out x hx).2.1⟩) (fun x hx => HF.out _ (fun b hb => by
              rcases List.mem_append.1 hb with hb | hb
              · exact HWI.out b hb
              · exact (HTW.out x hx).2.2 b hb) (by rw [List.length_append]; have := HWZ.out; have := (HTW.out x hx).2.1; omega)) HOO.out (by have := N9.out; omega))
          go_wp2_with fail
          (with_reducible refine C11.out.mono ?_)
          rintro e w11 ⟨v11, rfl, ho11, l11, k11⟩
          have O11 := Aside0.mk ho11
          have L11 := Aside0.mk l11
          have I11 := Aside0.mk (I10.out.kept k11)
          have W11 := Aside0.mk (Kd.R_kept W10.out k11 (fun k hk => hk.1))
          have HZ10 := Aside0.mk I10.out.size
          have HVR := Aside0.mk (Kd.R_lt I11.out.rr)
          have HVW := Aside0.mk (Kd.R_lt I11.out.rw)
          have HZ7 := Aside0.mk hz7
          clear ho11 l11 k11 C11 I10 L10 W10 ha10'
          obtain ⟨A11, c11, e11⟩ := Kd.R_slice O11.out
          subst e11
          go_wp2_with fail
          have I12 := Aside0.mk (I11.out.alloc (.cells #[.slice A11 (shows f word tests).length c11] 22))
          have W12 := Aside0.mk (Kd.R_alloc (Kd.R_bound W11.out) (.cells #[.slice A11 (shows f word tests).length c11] 22))
          have O12 := Aside0.mk (Kd.R_alloc (Kd.R_bound O11.out) (.cells #[.slice A11 (shows f word tests).length c11] 22))
          have L12 := Aside0.mk (blk_alloc L11.out (.cells #[.slice A11 (shows f word tests).length c11] 22))
          have X12 := Aside0.mk (blk_new w11 (.cells #[.slice A11 (shows f word tests).length c11] 22))
          have C13 := Aside0.mk (find76_calls Ar7 A11 cr7 c11 w11.heap.size rows (shows f word tests) (w11.alloc (.cells #[.slice A11 (shows f word tests).length c11] 22)) (Kd.R_reads' I12.out.rr).2.2 (Kd.R_reads' O12.out).2.2 (Kd.R_reads' O12.out).2.1 (fun x hx => by
            rw [PI.out.req] at hx
            obtain ⟨wy, _, rfl⟩ := List.mem_map.1 hx
            have := shows_len f wy tests (fun x hx => (HTW.out x hx).2.1) HTL.out tests.length
            rw [List.take_length] at this; omega) ((blk_cell X12.out 0).trans rfl))
          clear I11 W11 O11 L11
          (with_reducible refine C13.out.mono ?_)
          rintro e w13 ⟨rfl, hd13⟩
          obtain ⟨nd, rfl⟩ := hd13
          have I13 := Aside0.mk (I12.out.drewN nd)
          have W13 := Aside0.mk (Kd.R_drewN W12.out nd)
          have O13 := Aside0.mk (Kd.R_drewN O12.out nd)
          have L13 := Aside0.mk (blk_drewN L12.out nd)
          have X13 := Aside0.mk (blk_drewN X12.out nd)
          have x13 : (World.drewN (w11.alloc (.cells #[.slice A11 (shows f word tests).length c11] 22)) nd).cell? ⟨w11.heap.size, 0, none⟩ = some (.slice A11 (shows f word tests).length c11) := (blk_cell X13.out 0).trans rfl
          clear C13 I12 W12 O12 L12 X12
          generalize hw13 : World.drewN (w11.alloc (.cells #[.slice A11 (shows f word tests).length c11] 22)) nd = w13 at *
          clear hw13
          rcases idxR_cases rows (shows f word tests) with ⟨j, hj0, hj1, hj2⟩ | ⟨hj1, hj2⟩
          · rw [hj1]
            have HJ0 := Aside0.mk hj0
            have HJ2 := Aside0.mk hj2
            have hjb : (0 : Int) ≤ (j : Int) := by omega
            have hjd : decide ((j : Int) < 0) = false := decide_eq_false (by omega)
            clear hj1 hj0 hj2
            go_wp2_with ((with_reducible refine gate_builtin (b := .append) (xs := #[.tmp 88, .tmp 92]) rfl ?_); at_builtin; refine Kd.R_append k77 (w0 := w13) w.heap.size rfl (.tmp 88) (.tmp 92) 75 77 (.agg #[.int .i64 0, .int .i64 0]) 16 rfl Try.underlying75 info77 rfl (by decide) (by omega) (.slice Al7 list.length cl7) list ⟨lastO f word, (j : Int)⟩ [.int .i64 (lastO f word), .int .i64 (j : Int)] (fun _ => True) (fun _ => False) rfl ?aX ?aP (fun _ hk => hk.elim) (fun _ _ => trivial) I13.out.rl (Below.refl _ _) ?aS ?aL ?_; (case aX => first | rfl | (simp; done)); (case aP => first | exact rfl | exact k77_mkM _ _ _ _); (case aS => exact I13.out.size); (case aL => have := HLJ.out; omega); intro v20 w20 ho hb hg hat; have HR20 := Aside0.mk ho; have HG20 := Aside0.mk hg; have HA20 := Aside0.mk hat; clear ho hb hg hat)
            have CF := PI.out.found HLJ.out TI.out hjb (show ((j : Nat) : Int) < (rows.length : Int) by have := HJ0.out; omega) (by rw [Int.toNat_natCast, HJ2.out, HWE.out])
            rw [← HWE.out] at CF
            have CF' := Aside0.mk CF
            clear CF
            go_roundw
            case rel => exact ⟨n + 1 + tests.length, ways, rows, _, _, by rw [List.length_append, List.length_singleton]; have := HLJ.out; omega, by rw [List.length_append, List.length_singleton]; go_num, ⟨I13.out.addCell HR20.out HG20.out HA20.out⟩, ⟨by
              have h := LB_grown (w := w) L13.out HG20.out (Kd.R_base I13.out.rl) HGL.out
              rwa [show asked + (n : Int) + 1 + (tests.length : Int) = asked + ((n + 1 + tests.length : Nat) : Int) by omega] at h⟩, ⟨by
              have := NI.out
              rw [List.length_append, List.length_singleton, ← Nat.add_assoc, Nat.add_mul _ 1, Nat.one_mul]; omega⟩, CF', TI⟩
            case measure => simp [intOf]; have := HLJ.out; omega
          · rw [hj1]
            have HJ2 := Aside0.mk hj2
            have hjd : decide ((-1 : Int) < 0) = true := rfl
            clear hj1 hj2
            go_upto_region 17 with (fail)
            have y13 : w13.cell? ⟨g, 6, none⟩ = some (.slice (some a) ways.length cw7) := (blk_cell L13.out 6).trans rfl
            refine start_ (n := 16) (S := fun w' => w'.cell? ⟨w11.heap.size, 0, none⟩ = some (.slice A11 (shows f word tests).length c11) ∧ w'.cell? ⟨g, 6, none⟩ = some (.slice (some a) ways.length cw7)) (ds := [15]) #[false, false, false, false, false, false, false, false, false, false, false, false, false, false, false, false] (by kernel_rfl) rfl rfl ⟨x13, y13⟩ (fun hHeld => ?_)
            have I14 := Aside0.mk I13.out.drew
            have W14 := Aside0.mk (Kd.R_drew (Kd.R_lower W13.out HZ7.out))
            have O14 := Aside0.mk (Kd.R_drew (Kd.R_lower O13.out HZ10.out))
            have L14 := Aside0.mk (blk_drew L13.out)
            have X14 := Aside0.mk (blk_drew X13.out)
            have XS := Aside0.mk (blk_lt X13.out)
            clear I13 W13 O13 L13 X13 x13 y13
            generalize w13.drew = w14 at *
            refine pure_ (i := 0) (N := (some 74)) (v := ?_) (a' := ?_) #[true, false, false, false, false, false, false, false, false, false, false, false, false, false, false, false] rfl rfl (by kernel_rfl) (fun _ _ _ h => h) (Or.inl ⟨by rfl, ?_⟩) ?_ ?_
            rotate_left
            · intro w'
              go_simp
              with_reducible rfl
            rotate_left
            · simp only [Act.put, List.setIfInBounds_toArray, List.set_cons_zero, List.set_cons_succ, i64_w, i32_w]
              rfl
            refine pure_ (i := 1) (N := (some 75)) (v := ?_) (a' := ?_) #[true, true, false, false, false, false, false, false, false, false, false, false, false, false, false, false] rfl rfl (by kernel_rfl) (fun _ _ _ h => h) (Or.inl ⟨by rfl, ?_⟩) ?_ ?_
            rotate_left
            · intro w'
              go_simp
              with_reducible rfl
            rotate_left
            · simp only [Act.put, List.setIfInBounds_toArray, List.set_cons_zero, List.set_cons_succ, i64_w, i32_w]
              rfl
            refine pure_ (i := 5) (N := (some 79)) (v := ?_) (a' := ?_) #[true, true, false, false, false, true, false, false, false, false, false, false, false, false, false, false] rfl rfl (by kernel_rfl) (fun _ _ _ h => h) (Or.inl ⟨by rfl, ?_⟩) ?_ ?_
            rotate_left
            · intro w'
              go_simp
              with_reducible rfl
            rotate_left
            · simp only [Act.put, List.setIfInBounds_toArray, List.set_cons_zero, List.set_cons_succ, i64_w, i32_w]
              rfl
            refine pure_ (i := 9) (N := (some 83)) (v := ?_) (a' := ?_) #[true, true, false, false, false, true, false, false, false, true, false, false, false, false, false, false] rfl rfl (by kernel_rfl) (fun _ _ _ h => h) (Or.inl ⟨by rfl, ?_⟩) ?_ ?_
            rotate_left
            · intro w'
              go_simp
              with_reducible rfl
            rotate_left
            · simp only [Act.put, List.setIfInBounds_toArray, List.set_cons_zero, List.set_cons_succ, i64_w, i32_w]
              rfl
            refine pure_ (i := 6) (N := (some 80)) (v := ?_) (a' := ?_) #[true, true, false, false, false, true, true, false, false, true, false, false, false, false, false, false] rfl rfl (by kernel_rfl) (fun _ _ _ h => h) (Or.inl ⟨by rfl, ?_⟩) ?_ ?_
            rotate_left
            · intro w'
              go_simp
              with_reducible rfl
            rotate_left
            · simp only [Act.put, List.setIfInBounds_toArray, List.set_cons_zero, List.set_cons_succ, i64_w, i32_w]
              rfl
            refine pure_ (i := 7) (N := (some 81)) (v := ?_) (a' := ?_) #[true, true, false, false, false, true, true, true, false, true, false, false, false, false, false, false] rfl rfl (by kernel_rfl) (fun _ _ _ h => h) (Or.inl ⟨by rfl, ?_⟩) ?_ ?_
            rotate_left
            · intro w'
              go_simp
              with_reducible rfl
            rotate_left
            · simp only [Act.put, List.setIfInBounds_toArray, List.set_cons_zero, List.set_cons_succ, i64_w, i32_w]
              rfl
            refine take_ (i := 2) (N := (some 76)) (v := ?_) (a' := ?_) #[true, true, true, false, false, true, true, true, false, true, false, false, false, false, false, false] rfl rfl (by kernel_rfl) (fun _ _ _ h => h) (Or.inl ⟨by rfl, ?_⟩) hHeld ?_ ?_
            rotate_left
            · rintro w' ⟨s0, s1⟩
              go_simp
              with_reducible rfl
            rotate_left
            · simp only [Act.put, List.setIfInBounds_toArray, List.set_cons_zero, List.set_cons_succ, i64_w, i32_w]
              rfl
            refine take_ (i := 8) (N := (some 82)) (v := ?_) (a' := ?_) #[true, true, true, false, false, true, true, true, true, true, false, false, false, false, false, false] rfl rfl (by kernel_rfl) (fun _ _ _ h => h) (Or.inl ⟨by rfl, ?_⟩) hHeld ?_ ?_
            rotate_left
            · rintro w' ⟨s0, s1⟩
              go_simp
              with_reducible rfl
            rotate_left
            · simp only [Act.put, List.setIfInBounds_toArray, List.set_cons_zero, List.set_cons_succ, i64_w, i32_w]
              rfl
            refine join_ (σ := Value × Value × Value × Option Addr × Nat) 4 #[true, true, true, true, true, true, true, true, true, true, true, true, false, false, false, false] (fun s => [(77, s.1), (78, s.2.1), (84, s.2.2.1), (85, .slice s.2.2.2.1 (ways.length + 1) s.2.2.2.2)]) (fun s w' => CInv w w' g gt ins outs (.slice s.2.2.2.1 (ways.length + 1) s.2.2.2.2) (ways ++ [word]) s.2.1 (rows ++ [shows f word tests]) vt T (.slice Al7 list.length cl7) list ∧ LB w' g ins outs gb (asked + n + 1 + tests.length) (.slice At tests.length ct) (.slice (some a) ways.length cw7)) ?_ ?_
            rotate_left
            · intro hCont
              refine two_ (i := 3) (j := 10) (Ni := (some 77)) (Nj := (some 84)) #[true, true, true, true, false, true, true, true, true, true, false, false, false, false, false, false] #[true, true, true, false, false, true, true, true, true, true, true, false, false, false, false, false] rfl rfl rfl rfl (by kernel_rfl) (by decide) (by decide) (fun K hK => ?_) (fun K hK => ?_)
              · skip
                refine value_ (w1 := ?_) (v := ?_) (by rfl) rfl ?_ ?_
                rotate_left 2
                · go_simp
                  constructor
                  · rfl
                  · rfl
                have I := Aside0.mk (I14.out.alloc (.cells #[.slice A11 (shows f word tests).length c11] 22))
                have WW := Aside0.mk (Kd.R_alloc W14.out (.cells #[.slice A11 (shows f word tests).length c11] 22))
                have OO := Aside0.mk (Kd.R_alloc O14.out (.cells #[.slice A11 (shows f word tests).length c11] 22))
                have L := Aside0.mk (blk_alloc L14.out (.cells #[.slice A11 (shows f word tests).length c11] 22))
                have X := Aside0.mk (blk_alloc X14.out (.cells #[.slice A11 (shows f word tests).length c11] 22))
                have B1 := Aside0.mk (blk_new w14 (.cells #[.slice A11 (shows f word tests).length c11] 22))
                refine hK.out _ _ ⟨(World.cell?_alloc_lt _ _ _ (World.block_lt_of_cell? _ _ hHeld.1)).trans hHeld.1, (World.cell?_alloc_lt _ _ _ (World.block_lt_of_cell? _ _ hHeld.2)).trans hHeld.2⟩ (fun hHeld => ?_)
                clear hK K
                refine norm_ (a' := ?_) ?_ ?_
                rotate_left
                · show Act.put _ (some 77) _ = _
                  simp only [Act.put, List.setIfInBounds_toArray, List.set_cons_zero, List.set_cons_succ, i64_w, i32_w]
                  rfl
                refine two_ (i := 4) (j := 10) (Ni := (some 78)) (Nj := (some 84)) #[true, true, true, true, true, true, true, true, true, true, false, false, false, false, false, false] #[true, true, true, true, false, true, true, true, true, true, true, false, false, false, false, false] rfl rfl rfl rfl (by kernel_rfl) (by decide) (by decide) (fun K hK => ?_) (fun K hK => ?_)
                · skip
                  refine CInv.row_step I.out (Below.refl _ _) OO.out (n := w14.heap.size) ?hn (by rfl) (.tmp 75) (.tmp 77) rfl rfl rfl ?hl ?_
                  (case hn => exact B1.out)
                  (case hl => (have := PI.out.rlen; omega))
                  intro v20 w20 i20 g20 k20
                  have hgne : some g ≠ (Value.slice Ar7 rows.length cr7).ownBlock := fun e => by have := Kd.R_base I.out.rr g e.symm; have := HGL.out; omega
                  have L20 := Aside0.mk ((k20.2 g (blk_lt L.out) hgne).trans L.out)
                  have X20 := Aside0.mk ((k20.2 _ (blk_lt X.out) (fun e => by have := HVR.out _ e.symm; omega)).trans X.out)
                  have WW20 := Aside0.mk (Kd.R_step (Kd.R_apart' WW.out (Kd.R_typed I.out.rr) (by intro q hq; simp [Kd.int, Kd.scalar] at hq; omega)) (fun k hk hlt => k20.2 k hlt hk.2))
                  have I20 := Aside0.mk i20
                  clear i20 g20 k20 hgne
                  refine hK.out _ _ ⟨(blk_cell X20.out 0).trans rfl, (blk_cell L20.out 6).trans rfl⟩ (fun hHeld => ?_)
                  clear hK K
                  refine norm_ (a' := ?_) ?_ ?_
                  rotate_left
                  · show Act.put _ (some 78) _ = _
                    simp only [Act.put, List.setIfInBounds_toArray, List.set_cons_zero, List.set_cons_succ, i64_w, i32_w]
                    rfl
                  refine one_ (i := 10) (N := (some 84)) #[true, true, true, true, true, true, true, true, true, true, true, false, false, false, false, false] rfl rfl (by kernel_rfl) (by decide) (fun K hK => ?_)
                  refine value_ (w1 := ?_) (v := ?_) (by rfl) rfl ?_ ?_
                  rotate_left 2
                  · go_simp
                    constructor
                    · rfl
                    · rfl
                  have I21 := Aside0.mk (I20.out.alloc (.cells #[.slice A9 word.length c9] 22))
                  have WW21 := Aside0.mk (Kd.R_alloc WW20.out (.cells #[.slice A9 word.length c9] 22))
                  have L21 := Aside0.mk (blk_alloc L20.out (.cells #[.slice A9 word.length c9] 22))
                  have X21 := Aside0.mk (blk_alloc X20.out (.cells #[.slice A9 word.length c9] 22))
                  have B2 := Aside0.mk (blk_new w20 (.cells #[.slice A9 word.length c9] 22))
                  refine hK.out _ _ ⟨(World.cell?_alloc_lt _ _ _ (World.block_lt_of_cell? _ _ hHeld.1)).trans hHeld.1, (World.cell?_alloc_lt _ _ _ (World.block_lt_of_cell? _ _ hHeld.2)).trans hHeld.2⟩ (fun hHeld => ?_)
                  clear hK K
                  refine norm_ (a' := ?_) ?_ ?_
                  rotate_left
                  · show Act.put _ (some 84) _ = _
                    simp only [Act.put, List.setIfInBounds_toArray, List.set_cons_zero, List.set_cons_succ, i64_w, i32_w]
                    rfl
                  refine one_ (i := 11) (N := (some 85)) #[true, true, true, true, true, true, true, true, true, true, true, true, false, false, false, false] rfl rfl (by kernel_rfl) (by decide) (fun K hK => ?_)
                  refine CInv.way_step I21.out (Below.refl _ _) WW21.out (n := w20.heap.size) ?hn (by rfl) (.tmp 82) (.tmp 84) rfl rfl rfl ?hl ?_
                  (case hn => exact B2.out)
                  (case hl => omega)
                  intro v21 w21 i21 g21 k21
                  have hgne : some g ≠ (Value.slice (some a) ways.length cw7).ownBlock := fun e => by have := Kd.R_base I21.out.rw g e.symm; have := HGL.out; omega
                  have L21 := Aside0.mk ((k21.2 g (blk_lt L21.out) hgne).trans L21.out)
                  have X21 := Aside0.mk ((k21.2 _ (blk_lt X21.out) (fun e => by have := HVW.out _ e.symm; omega)).trans X21.out)
                  obtain ⟨A21, c21, e21⟩ := Kd.R_slice i21.rw
                  rw [List.length_append, List.length_singleton] at e21
                  subst e21
                  refine hK.out _ _ ⟨(blk_cell X21.out 0).trans rfl, (blk_cell L21.out 6).trans rfl⟩ (fun hHeld => ?_)
                  refine norm_ (a' := ?_) ?_ ?_
                  rotate_left
                  · show Act.put _ (some 85) _ = _
                    simp only [Act.put, List.setIfInBounds_toArray, List.set_cons_zero, List.set_cons_succ, i64_w, i32_w]
                    rfl
                  exact norm_ (by simp only [putAll, Act.put, List.setIfInBounds_toArray, List.set_cons_zero, List.set_cons_succ]) (hCont (.slice (some ⟨w14.heap.size, 0, none⟩) 1 1, v20, .slice (some ⟨w20.heap.size, 0, none⟩) 1 1, A21, c21) _ ⟨i21, L21.out⟩)
                · skip
                  refine value_ (w1 := ?_) (v := ?_) (by rfl) rfl ?_ ?_
                  rotate_left 2
                  · go_simp
                    constructor
                    · rfl
                    · rfl
                  have B2 := Aside0.mk (blk_new (w14.alloc (.cells #[.slice A11 (shows f word tests).length c11] 22)) (.cells #[.slice A9 word.length c9] 22))
                  rw [show (w14.alloc (.cells #[.slice A11 (shows f word tests).length c11] 22)).heap.size = w14.heap.size + 1 by simp] at B2
                  have B1' := Aside0.mk (blk_alloc B1.out (.cells #[.slice A9 word.length c9] 22))
                  have I' := Aside0.mk (I.out.alloc (.cells #[.slice A9 word.length c9] 22))
                  have WW' := Aside0.mk (Kd.R_alloc WW.out (.cells #[.slice A9 word.length c9] 22))
                  have OO' := Aside0.mk (Kd.R_alloc OO.out (.cells #[.slice A9 word.length c9] 22))
                  have L' := Aside0.mk (blk_alloc L.out (.cells #[.slice A9 word.length c9] 22))
                  have X' := Aside0.mk (blk_alloc X.out (.cells #[.slice A9 word.length c9] 22))
                  clear I WW OO L X B1
                  have I := I'
                  have WW := WW'
                  have OO := OO'
                  have L := L'
                  have X := X'
                  have B1 := B1'
                  clear I' WW' OO' L' X' B1'
                  refine hK.out _ _ ⟨(World.cell?_alloc_lt _ _ _ (World.block_lt_of_cell? _ _ hHeld.1)).trans hHeld.1, (World.cell?_alloc_lt _ _ _ (World.block_lt_of_cell? _ _ hHeld.2)).trans hHeld.2⟩ (fun hHeld => ?_)
                  clear hK K
                  refine norm_ (a' := ?_) ?_ ?_
                  rotate_left
                  · show Act.put _ (some 84) _ = _
                    simp only [Act.put, List.setIfInBounds_toArray, List.set_cons_zero, List.set_cons_succ, i64_w, i32_w]
                    rfl
                  refine one_ (i := 4) (N := (some 78)) #[true, true, true, true, true, true, true, true, true, true, true, false, false, false, false, false] rfl rfl (by kernel_rfl) (by decide) (fun K hK => ?_)
                  refine CInv.row_step I.out (Below.refl _ _) OO.out (n := w14.heap.size) ?hn (by rfl) (.tmp 75) (.tmp 77) rfl rfl rfl ?hl ?_
                  (case hn => exact B1.out)
                  (case hl => (have := PI.out.rlen; omega))
                  intro v20 w20 i20 g20 k20
                  have hgne : some g ≠ (Value.slice Ar7 rows.length cr7).ownBlock := fun e => by have := Kd.R_base I.out.rr g e.symm; have := HGL.out; omega
                  have L20 := Aside0.mk ((k20.2 g (blk_lt L.out) hgne).trans L.out)
                  have X20 := Aside0.mk ((k20.2 _ (blk_lt X.out) (fun e => by have := HVR.out _ e.symm; omega)).trans X.out)
                  have WW20 := Aside0.mk (Kd.R_step (Kd.R_apart' WW.out (Kd.R_typed I.out.rr) (by intro q hq; simp [Kd.int, Kd.scalar] at hq; omega)) (fun k hk hlt => k20.2 k hlt hk.2))
                  have B220 := Aside0.mk ((k20.2 _ (blk_lt B2.out) (fun e => by have := Kd.R_lt I14.out.rr _ e.symm; omega)).trans B2.out)
                  have I20 := Aside0.mk i20
                  clear i20 g20 k20 hgne
                  refine hK.out _ _ ⟨(blk_cell X20.out 0).trans rfl, (blk_cell L20.out 6).trans rfl⟩ (fun hHeld => ?_)
                  clear hK K
                  refine norm_ (a' := ?_) ?_ ?_
                  rotate_left
                  · show Act.put _ (some 78) _ = _
                    simp only [Act.put, List.setIfInBounds_toArray, List.set_cons_zero, List.set_cons_succ, i64_w, i32_w]
                    rfl
                  refine one_ (i := 11) (N := (some 85)) #[true, true, true, true, true, true, true, true, true, true, true, true, false, false, false, false] rfl rfl (by kernel_rfl) (by decide) (fun K hK => ?_)
                  refine CInv.way_step I20.out (Below.refl _ _) WW20.out (n := w14.heap.size + 1) ?hn (by rfl) (.tmp 82) (.tmp 84) rfl rfl rfl ?hl ?_
                  (case hn => exact B220.out)
                  (case hl => omega)
                  intro v21 w21 i21 g21 k21
                  have hgne : some g ≠ (Value.slice (some a) ways.length cw7).ownBlock := fun e => by have := Kd.R_base I20.out.rw g e.symm; have := HGL.out; omega
                  have L21 := Aside0.mk ((k21.2 g (blk_lt L20.out) hgne).trans L20.out)
                  have X21 := Aside0.mk ((k21.2 _ (blk_lt X20.out) (fun e => by have := HVW.out _ e.symm; omega)).trans X20.out)
                  obtain ⟨A21, c21, e21⟩ := Kd.R_slice i21.rw
                  rw [List.length_append, List.length_singleton] at e21
                  subst e21
                  refine hK.out _ _ ⟨(blk_cell X21.out 0).trans rfl, (blk_cell L21.out 6).trans rfl⟩ (fun hHeld => ?_)
                  refine norm_ (a' := ?_) ?_ ?_
                  rotate_left
                  · show Act.put _ (some 85) _ = _
                    simp only [Act.put, List.setIfInBounds_toArray, List.set_cons_zero, List.set_cons_succ, i64_w, i32_w]
                    rfl
                  exact norm_ (by simp only [putAll, Act.put, List.setIfInBounds_toArray, List.set_cons_zero, List.set_cons_succ]) (hCont (.slice (some ⟨w14.heap.size, 0, none⟩) 1 1, v20, .slice (some ⟨w14.heap.size + 1, 0, none⟩) 1 1, A21, c21) _ ⟨i21, L21.out⟩)
              · skip
                refine value_ (w1 := ?_) (v := ?_) (by rfl) rfl ?_ ?_
                rotate_left 2
                · go_simp
                  constructor
                  · rfl
                  · rfl
                have I := Aside0.mk (I14.out.alloc (.cells #[.slice A9 word.length c9] 22))
                have WW := Aside0.mk (Kd.R_alloc W14.out (.cells #[.slice A9 word.length c9] 22))
                have OO := Aside0.mk (Kd.R_alloc O14.out (.cells #[.slice A9 word.length c9] 22))
                have L := Aside0.mk (blk_alloc L14.out (.cells #[.slice A9 word.length c9] 22))
                have X := Aside0.mk (blk_alloc X14.out (.cells #[.slice A9 word.length c9] 22))
                have B2 := Aside0.mk (blk_new w14 (.cells #[.slice A9 word.length c9] 22))
                refine hK.out _ _ ⟨(World.cell?_alloc_lt _ _ _ (World.block_lt_of_cell? _ _ hHeld.1)).trans hHeld.1, (World.cell?_alloc_lt _ _ _ (World.block_lt_of_cell? _ _ hHeld.2)).trans hHeld.2⟩ (fun hHeld => ?_)
                clear hK K
                refine norm_ (a' := ?_) ?_ ?_
                rotate_left
                · show Act.put _ (some 84) _ = _
                  simp only [Act.put, List.setIfInBounds_toArray, List.set_cons_zero, List.set_cons_succ, i64_w, i32_w]
                  rfl
                refine one_ (i := 3) (N := (some 77)) #[true, true, true, true, false, true, true, true, true, true, true, false, false, false, false, false] rfl rfl (by kernel_rfl) (by decide) (fun K hK => ?_)
                refine value_ (w1 := ?_) (v := ?_) (by rfl) rfl ?_ ?_
                rotate_left 2
                · go_simp
                  constructor
                  · rfl
                  · rfl
                have B1 := Aside0.mk (blk_new (w14.alloc (.cells #[.slice A9 word.length c9] 22)) (.cells #[.slice A11 (shows f word tests).length c11] 22))
                rw [show (w14.alloc (.cells #[.slice A9 word.length c9] 22)).heap.size = w14.heap.size + 1 by simp] at B1
                have B2' := Aside0.mk (blk_alloc B2.out (.cells #[.slice A11 (shows f word tests).length c11] 22))
                have I' := Aside0.mk (I.out.alloc (.cells #[.slice A11 (shows f word tests).length c11] 22))
                have WW' := Aside0.mk (Kd.R_alloc WW.out (.cells #[.slice A11 (shows f word tests).length c11] 22))
                have OO' := Aside0.mk (Kd.R_alloc OO.out (.cells #[.slice A11 (shows f word tests).length c11] 22))
                have L' := Aside0.mk (blk_alloc L.out (.cells #[.slice A11 (shows f word tests).length c11] 22))
                have X' := Aside0.mk (blk_alloc X.out (.cells #[.slice A11 (shows f word tests).length c11] 22))
                clear I WW OO L X B2
                have I := I'
                have WW := WW'
                have OO := OO'
                have L := L'
                have X := X'
                have B2 := B2'
                clear I' WW' OO' L' X' B2'
                refine hK.out _ _ ⟨(World.cell?_alloc_lt _ _ _ (World.block_lt_of_cell? _ _ hHeld.1)).trans hHeld.1, (World.cell?_alloc_lt _ _ _ (World.block_lt_of_cell? _ _ hHeld.2)).trans hHeld.2⟩ (fun hHeld => ?_)
                clear hK K
                refine norm_ (a' := ?_) ?_ ?_
                rotate_left
                · show Act.put _ (some 77) _ = _
                  simp only [Act.put, List.setIfInBounds_toArray, List.set_cons_zero, List.set_cons_succ, i64_w, i32_w]
                  rfl
                refine one_ (i := 4) (N := (some 78)) #[true, true, true, true, true, true, true, true, true, true, true, false, false, false, false, false] rfl rfl (by kernel_rfl) (by decide) (fun K hK => ?_)
                refine CInv.row_step I.out (Below.refl _ _) OO.out (n := w14.heap.size + 1) ?hn (by rfl) (.tmp 75) (.tmp 77) rfl rfl rfl ?hl ?_
                (case hn => exact B1.out)
                (case hl => (have := PI.out.rlen; omega))
                intro v20 w20 i20 g20 k20
                have hgne : some g ≠ (Value.slice Ar7 rows.length cr7).ownBlock := fun e => by have := Kd.R_base I.out.rr g e.symm; have := HGL.out; omega
                have L20 := Aside0.mk ((k20.2 g (blk_lt L.out) hgne).trans L.out)
                have X20 := Aside0.mk ((k20.2 _ (blk_lt X.out) (fun e => by have := HVR.out _ e.symm; omega)).trans X.out)
                have WW20 := Aside0.mk (Kd.R_step (Kd.R_apart' WW.out (Kd.R_typed I.out.rr) (by intro q hq; simp [Kd.int, Kd.scalar] at hq; omega)) (fun k hk hlt => k20.2 k hlt hk.2))
                have B220 := Aside0.mk ((k20.2 _ (blk_lt B2.out) (fun e => by have := Kd.R_lt I14.out.rr _ e.symm; omega)).trans B2.out)
                have I20 := Aside0.mk i20
                clear i20 g20 k20 hgne
                refine hK.out _ _ ⟨(blk_cell X20.out 0).trans rfl, (blk_cell L20.out 6).trans rfl⟩ (fun hHeld => ?_)
                clear hK K
                refine norm_ (a' := ?_) ?_ ?_
                rotate_left
                · show Act.put _ (some 78) _ = _
                  simp only [Act.put, List.setIfInBounds_toArray, List.set_cons_zero, List.set_cons_succ, i64_w, i32_w]
                  rfl
                refine one_ (i := 11) (N := (some 85)) #[true, true, true, true, true, true, true, true, true, true, true, true, false, false, false, false] rfl rfl (by kernel_rfl) (by decide) (fun K hK => ?_)
                refine CInv.way_step I20.out (Below.refl _ _) WW20.out (n := w14.heap.size) ?hn (by rfl) (.tmp 82) (.tmp 84) rfl rfl rfl ?hl ?_
                (case hn => exact B220.out)
                (case hl => omega)
                intro v21 w21 i21 g21 k21
                have hgne : some g ≠ (Value.slice (some a) ways.length cw7).ownBlock := fun e => by have := Kd.R_base I20.out.rw g e.symm; have := HGL.out; omega
                have L21 := Aside0.mk ((k21.2 g (blk_lt L20.out) hgne).trans L20.out)
                have X21 := Aside0.mk ((k21.2 _ (blk_lt X20.out) (fun e => by have := HVW.out _ e.symm; omega)).trans X20.out)
                obtain ⟨A21, c21, e21⟩ := Kd.R_slice i21.rw
                rw [List.length_append, List.length_singleton] at e21
                subst e21
                refine hK.out _ _ ⟨(blk_cell X21.out 0).trans rfl, (blk_cell L21.out 6).trans rfl⟩ (fun hHeld => ?_)
                refine norm_ (a' := ?_) ?_ ?_
                rotate_left
                · show Act.put _ (some 85) _ = _
                  simp only [Act.put, List.setIfInBounds_toArray, List.set_cons_zero, List.set_cons_succ, i64_w, i32_w]
                  rfl
                exact norm_ (by simp only [putAll, Act.put, List.setIfInBounds_toArray, List.set_cons_zero, List.set_cons_succ]) (hCont (.slice (some ⟨w14.heap.size + 1, 0, none⟩) 1 1, v20, .slice (some ⟨w14.heap.size, 0, none⟩) 1 1, A21, c21) _ ⟨i21, L21.out⟩)
            rintro ⟨u77, v20, u84, A21, c21⟩ w21 ⟨i21, l21⟩
            have I21 := Aside0.mk i21
            have L21 := Aside0.mk l21
            clear i21 l21 I14 W14 O14 L14 X14
            simp only at I21
            refine norm_ (a' := ?_) ?_ ?_
            rotate_left
            · simp only [putAll, Act.put, List.setIfInBounds_toArray, List.set_cons_zero, List.set_cons_succ]
              rfl
            refine pure_ (i := 12) (N := (some 6)) (v := ?_) (a' := ?_) #[true, true, true, true, true, true, true, true, true, true, true, true, true, false, false, false] rfl rfl (by kernel_rfl) (fun _ _ _ h => h) (Or.inl ⟨by rfl, ?_⟩) ?_ ?_
            rotate_left
            · intro w'
              go_simp
              with_reducible rfl
            rotate_left
            · simp only [Act.put, List.setIfInBounds_toArray, List.set_cons_zero, List.set_cons_succ, i64_w, i32_w]
              rfl
            refine pure_ (i := 13) (N := (some 86)) (v := ?_) (a' := ?_) #[true, true, true, true, true, true, true, true, true, true, true, true, true, true, false, false] rfl rfl (by kernel_rfl) (fun _ _ _ h => h) (Or.inl ⟨by rfl, ?_⟩) ?_ ?_
            rotate_left
            · intro w'
              go_simp
              with_reducible rfl
            rotate_left
            · simp only [Act.put, List.setIfInBounds_toArray, List.set_cons_zero, List.set_cons_succ, i64_w, i32_w]
              rfl
            refine pure_ (i := 14) (N := (some 87)) (v := ?_) (a' := ?_) #[true, true, true, true, true, true, true, true, true, true, true, true, true, true, true, false] rfl rfl (by kernel_rfl) (fun _ _ _ h => h) (Or.inl ⟨by rfl, ?_⟩) ?_ ?_
            rotate_left
            · intro w'
              go_simp
              with_reducible rfl
            rotate_left
            · simp only [Act.put, List.setIfInBounds_toArray, List.set_cons_zero, List.set_cons_succ, i64_w, i32_w]
              rfl
            refine last_ (i := 15) (N := none) #[true, true, true, true, true, true, true, true, true, true, true, true, true, true, true, true] rfl rfl (by kernel_rfl) (by decide) (fun K hK => ?_)
            have q21 : w21.cell? ⟨g, 6, none⟩ = some (.slice (some a) ways.length cw7) := (blk_cell L21.out 6).trans rfl
            have f21 : w21.frozen? ⟨g, 6, none⟩ = false := blk_frozen L21.out 6
            refine skip_ (w1 := ?_) (by rfl) rfl ?_ ?_
            rotate_left
            · go_simp
              rfl
            refine hK.out _ _ ?_
            clear hK K
            refine done_ (by kernel_rfl) ?_
            have I22 := Aside0.mk (I21.out.ask 6 (.slice A21 (ways.length + 1) c21))
            have L22 : Aside0 (LB (w21.setCell ⟨g, 6, none⟩ (.slice A21 (ways.length + 1) c21)) g ins outs gb (asked + n + 1 + tests.length) (.slice At tests.length ct) (.slice A21 (ways.length + 1) c21)) := ⟨blk_put L21.out 6 _ rfl⟩
            clear q21 f21 I21 L21
            generalize w21.setCell ⟨g, 6, none⟩ (.slice A21 (ways.length + 1) c21) = w22 at *
            have hrb : (rows.length : Int) ≤ 6 := by have := PI.out.rlen; omega
            go_wp2_with ((with_reducible refine gate_builtin (b := .append) (xs := #[.tmp 88, .tmp 92]) rfl ?_); at_builtin; refine Kd.R_append k77 (w0 := w22) w.heap.size rfl (.tmp 88) (.tmp 92) 75 77 (.agg #[.int .i64 0, .int .i64 0]) 16 rfl Try.underlying75 info77 rfl (by decide) (by omega) (.slice Al7 list.length cl7) list ⟨lastO f word, (rows.length : Int)⟩ [.int .i64 (lastO f word), .int .i64 (rows.length : Int)] (fun _ => True) (fun _ => False) rfl ?aX ?aP (fun _ hk => hk.elim) (fun _ _ => trivial) I22.out.rl (Below.refl _ _) ?aS ?aL ?_; (case aX => first | rfl | (simp; done)); (case aP => first | exact rfl | exact k77_mkM _ _ _ _); (case aS => exact I22.out.size); (case aL => have := HLJ.out; omega); intro v23 w23 ho hb hg hat; have HR20 := Aside0.mk ho; have HG20 := Aside0.mk hg; have HA20 := Aside0.mk hat; clear ho hb hg hat)
            have CF := PI.out.fresh HLJ.out TI.out (fun i hi => by have h := HJ2.out i hi; rwa [HWE.out] at h)
            rw [← HWE.out] at CF
            have CF' := Aside0.mk CF
            have I22' := Aside0.mk (I22.out.addCell HR20.out HG20.out HA20.out)
            have L22' := Aside0.mk (LB_grown (w := w) L22.out HG20.out (Kd.R_base I22.out.rl) HGL.out)
            clear CF
            go_roundw
            case rel => exact ⟨n + 1 + tests.length, _, _, _, _, by rw [List.length_append, List.length_singleton]; have := HLJ.out; omega, by rw [List.length_append, List.length_singleton]; go_num, I22', ⟨by
              have h := L22'.out
              rwa [show asked + (n : Int) + 1 + (tests.length : Int) = asked + ((n + 1 + tests.length : Nat) : Int) by omega] at h⟩, ⟨by
              have := NI.out
              rw [List.length_append, List.length_singleton, ← Nat.add_assoc, Nat.add_mul _ 1, Nat.one_mul]; omega⟩, CF', ⟨by rw [List.length_append, List.length_singleton]; omega⟩⟩
            case measure => simp [intOf]; have := HLJ.out; omega
        · have hlK : list.length = K := by omega
          have HLK := Aside0.mk hlK
          clear hlK
          have bI := II.out.tb
          have hTM : (T.length : Int) ≤ 6 := by omega
          obtain ⟨At7, ct7, et7⟩ := Kd.R_slice II.out.rt
          subst et7
          have b2 : w7.cell? ⟨gt, 2, none⟩ = some (.slice At7 T.length ct7) := (blk_cell II.out.tb 2).trans rfl
          clear bI
          go_wp2_with ((with_reducible refine gate_builtin (b := .append) (xs := #[.tmp 96, .tmp 98]) rfl ?_); at_builtin; refine Kd.R_append (Kd.slice 77 k77) (w0 := w7) w.heap.size rfl (.tmp 96) (.tmp 98) 23 75 (.slice none 0 0) 24 rfl Try.underlying23 info75 rfl (by decide) (by omega) (.slice At7 T.length ct7) T list [.slice Al7 list.length cl7] (fun _ => True) (fun k => some k = (Value.slice Al7 list.length cl7).ownBlock) rfl ?aX ⟨_, rfl, Kd.R_flat (fun h => h) II.out.rl (fun k hk _ => hk.symm)⟩ ?aO (fun _ _ => trivial) ?aR (Below.refl _ _) ?aS ?aL ?_; (case aX => first | rfl | (simp; done)); (case aO => exact (fun k hk => ⟨trivial, by obtain ⟨cells, hc⟩ := Kd.R_typed II.out.rl k hk.symm; exact Kd.R_ne II.out.rt hc (by decide)⟩)); (case aR => exact Kd.R_mono II.out.rt (fun k hk => trivial)); (case aS => exact II.out.size); (case aL => omega); intro v8 w8 ho hb hg hat; obtain ⟨A8, q8, hv8⟩ := Kd.R_slice ho; rw [List.length_append, List.length_singleton] at hv8; subst hv8; have HR8 := Aside0.mk ho; have HG8 := Aside0.mk hg; have hb8 := blk_grown II.out.tb hg (Kd.R_ne II.out.rt II.out.tb (by decide)); have hc8 := (blk_cell hb8 2).trans (show _ = some (.slice At7 T.length ct7) from rfl); have hf8 := blk_frozen hb8 2; have IS := Aside0.mk (II.out.addState ho hg); have L8 := Aside0.mk (blk_far (LB_grown (w := w) LI.out hg (Kd.R_base II.out.rt) HGL.out) (p := ⟨gt, 2, none⟩) (show g ≠ gt by have := II.out.gtl; have := HGL.out; omega) (.slice A8 (T.length + 1) q8)); have m6 : (w8.setCell ⟨gt, 2, none⟩ (.slice A8 (T.length + 1) q8)).cell? ⟨g, 6, none⟩ = some (.slice Aw7 ways.length cw7) := (blk_cell L8.out 6).trans rfl; have m4 : (w8.setCell ⟨gt, 2, none⟩ (.slice A8 (T.length + 1) q8)).cell? ⟨g, 4, none⟩ = some (.bool false) := (blk_cell L8.out 4).trans rfl; clear ho hb hg hat hb8)
          have hdm : decide (most < ways.length) = false := decide_eq_false (by omega)
          have hdn : decide ((most : Int) < (ways.length : Int)) = false := decide_eq_false (by omega)
          have CS := Aside0.mk (PI.out.shut HLK.out TI.out)
          clear m6 m4 hc8 hf8 b2
          go_roundw
          case rel => exact ⟨n, ways, rows, _, _, T ++ [list], by rw [List.length_append, List.length_singleton]; go_num, IS, L8, ⟨by
            have := NI.out
            rw [HLK.out] at this
            rw [List.length_append, List.length_singleton, Nat.add_mul T.length 1 K, Nat.one_mul]; exact this⟩, CS⟩
          case measure => simp [intOf]; have := CS.out.lt; have := TI.out; omega
    · have hTe : T.length = ways.length := by omega
      obtain ⟨At7, ct7, et7⟩ := Kd.R_slice IO.out.rt
      subst et7
      have HTE := Aside0.mk hTe
      clear hTe
      have t0 : w6.cell? ⟨gt, 0, none⟩ = some (.int .i64 ins) := (blk_cell IO.out.tb 0).trans rfl
      have t1 : w6.cell? ⟨gt, 1, none⟩ = some (.int .i64 outs) := (blk_cell IO.out.tb 1).trans rfl
      have t2 : w6.cell? ⟨gt, 2, none⟩ = some (.slice At7 T.length ct7) := (blk_cell IO.out.tb 2).trans rfl
      have z0 : w6.cell? ⟨w.heap.size, 0, none⟩ = some (.int .i64 0) := (blk_cell IO.out.rb 0).trans rfl
      have z1 : w6.cell? ⟨w.heap.size, 1, none⟩ = some (.int .i64 0) := (blk_cell IO.out.rb 1).trans rfl
      have z2 : w6.cell? ⟨w.heap.size, 2, none⟩ = some (.slice none 0 0) := (blk_cell IO.out.rb 2).trans rfl
      have zf0 : w6.frozen? ⟨w.heap.size, 0, none⟩ = false := blk_frozen IO.out.rb 0
      have zf1 : w6.frozen? ⟨w.heap.size, 1, none⟩ = false := blk_frozen IO.out.rb 1
      have zf2 : w6.frozen? ⟨w.heap.size, 2, none⟩ = false := blk_frozen IO.out.rb 2
      go_wp2
      clear t0 t1 t2 z0 z1 z2 zf0 zf1 zf2 q6
      have RB3 : Aside0 ((((w6.setCell ⟨w.heap.size, 0, none⟩ (.int .i64 ins)).setCell ⟨w.heap.size, 1, none⟩ (.int .i64 outs)).setCell ⟨w.heap.size, 2, none⟩ (.slice At7 T.length ct7)).heap[w.heap.size]? = some (.cells #[.int .i64 ins, .int .i64 outs, .slice At7 T.length ct7] 25 (0, 0))) := ⟨blk_put (cs' := #[.int .i64 ins, .int .i64 outs, .slice At7 T.length ct7]) (blk_put (cs' := #[.int .i64 ins, .int .i64 outs, .slice none 0 0]) (blk_put (cs' := #[.int .i64 ins, .int .i64 0, .slice none 0 0]) IO.out.rb 0 _ rfl) 1 _ rfl) 2 _ rfl⟩
      have e25 : ∀ {α : Type} {d : Kd α} {e : Nat} {ok : Nat → Prop} {v : Value} {xs : List α}, Kd.R d e w6 w.heap.size ok v xs → (∀ q, q ∈ e :: d.E → q ≠ 25) → Kd.R d e (((w6.setCell ⟨w.heap.size, 0, none⟩ (.int .i64 ins)).setCell ⟨w.heap.size, 1, none⟩ (.int .i64 outs)).setCell ⟨w.heap.size, 2, none⟩ (.slice At7 T.length ct7)) w.heap.size (fun _ => True) v xs := fun hh ht =>
        Kd.R_mono (Kd.R_far (p := ⟨w.heap.size, 2, none⟩) (Kd.R_far (p := ⟨w.heap.size, 1, none⟩) (Kd.R_far (p := ⟨w.heap.size, 0, none⟩) (Kd.R_types hh IO.out.rb ht) (fun k hk => hk.2) _) (fun k hk => hk.2) _) (fun k hk => hk.2) _) (fun k hk => trivial)
      have hgne : g ≠ w.heap.size := by have := HGL.out; omega
      refine bodyPost_ret (results_ct (fn := Try.f52) rfl _ _ w.heap.size 25 #[.int .i64 ins, .int .i64 outs, .slice At7 T.length ct7] (0, 0) _ rfl RB3.out Try.underlying25 rfl (by kernel_rfl)) rfl ?_
      refine ⟨ways, rows, T, Aw, At7, cw, ct7, n, rfl, ?_, ?_, ?_, e25 IO.out.rw (by intro q hq; simp [Kd.slice, Kd.int, Kd.scalar] at hq; omega), e25 IO.out.rt (by intro q hq; simp [Kd.slice, k77, Kd.iso, Kd.pair, Kd.int, Kd.scalar] at hq; omega), PO.out, HTE.out, hwm⟩
      · exact Kept.setCell (S := fun k => k = g) (p := ⟨w.heap.size, 2, none⟩) (Kept.setCell (S := fun k => k = g) (p := ⟨w.heap.size, 1, none⟩) (Kept.setCell (S := fun k => k = g) (p := ⟨w.heap.size, 0, none⟩) IO.out.kp (Or.inr (Nat.le_refl _)) _) (Or.inr (Nat.le_refl _)) _) (Or.inr (Nat.le_refl _)) _
      · have h1 := NO.out
        have h2 : T.length * K * (1 + tests.length) ≤ most * K * (1 + tests.length) := Nat.mul_le_mul_right _ (Nat.mul_le_mul_right _ (by omega))
        omega
      · exact blk_far (blk_far (blk_far LO.out (p := ⟨w.heap.size, 0, none⟩) hgne _) (p := ⟨w.heap.size, 1, none⟩) hgne _) (p := ⟨w.heap.size, 2, none⟩) hgne _
end Go.Proofs.Ytaalafnkglbcpaa.PL
