/- The contract of learn.Learn: the least table of a box is learned. Own text of this claim. -/
import Derived.Test.YtaalafnkglbcpaaLBClose
import Derived.Test.YtaalafnkglbcpaaLBDiffer
import Derived.WalkSpells
import Derived.Laws.EntriesVeiled
namespace Go.Proofs.Ytaalafnkglbcpaa.PL
open Go.RowKit Go.Proofs.YtaalafnkglbcpaaW.PrintWords Go.Proofs.YtaalafnkglbcpaaW.PrintLast Go.Proofs.YtaalafnkglbcpaaW.PrintMore
set_option linter.unusedVariables false
set_option linter.unusedSimpArgs false
section
variable {ins outs : Int} {t : Tab} {K : Nat}
theorem run_good (h : OKT ins outs t) : ∀ (u : List Int) (s : Nat), InW ins u → s < t.length → ∀ x ∈ runO t s u, 0 ≤ x ∧ x < shl .i64 1 outs
  | [], _, _, _, x, hx => by cases hx
  | a :: u, s, hu, hs, x, hx => by
    have ha := hu a (by simp)
    have hrow := h.row _ (roww_mem hs)
    have hc := h.cel (a := a.toNat) hs (by omega)
    rcases List.mem_cons.1 hx with rfl | hx
    · exact ⟨hc.1, hc.2.1⟩
    · exact run_good h u _ (fun b hb => hu b (by simp [hb])) (by omega) x hx
theorem asks_of (h : OKT ins outs t) {u : List Int} (hu : InW ins u) (hl : u.length ≤ 100000) : Asks ins outs t (runO t 0) u :=
  ⟨(run_isb h u hu hl).rounds, runO_len t u 0, run_good h u 0 hu (by have := h.n1; omega)⟩
theorem lets_app (u v : List Int) : lets (u ++ v) = lets u ++ lets v := List.map_append
theorem wd_lets (hK : shl .i64 1 ins = (K : Int)) {u : List Int} (hu : InW ins u) : Box.Wd K (lets u) := by
  intro a ha
  obtain ⟨x, hx, rfl⟩ := List.mem_map.1 ha
  have := hu x hx
  omega
theorem lets_cast (w : List Nat) : lets (w.map Int.ofNat) = w := by
  unfold lets
  rw [List.map_map]
  exact (List.map_congr_left (fun x _ => by simp)).trans (List.map_id _)
theorem inW_cast (hK : shl .i64 1 ins = (K : Int)) {w : List Nat} (hw : Box.Wd K w) : InW ins (w.map Int.ofNat) := by
  intro x hx
  obtain ⟨a, ha, rfl⟩ := List.mem_map.1 hx
  have := hw a ha
  rw [hK]
  constructor
  · exact Int.natCast_nonneg a
  · exact Int.ofNat_lt.2 this
theorem InW.app {u v : List Int} (hu : InW ins u) (hv : InW ins v) : InW ins (u ++ v) := fun x hx => by
  rcases List.mem_append.1 hx with h | h
  · exact hu x h
  · exact hv x h
/-- The box as a machine. -/
noncomputable abbrev bm (t : Tab) : Box.Mach := mach (minRows t)
theorem fB (h : OKT ins outs t) {u : List Int} (hu : InW ins u) : runO t 0 u = Box.outW (bm t) 0 (lets u) := by
  have hT := h.tab
  rw [← mach_run, run_min h u 0 0 hu (fin_pos hT) (by have := h.n1; omega) (by rw [fin_zero hT]; exact Bis.refl _ _)]
theorem bm_K (h : OKT ins outs t) (hK : shl .i64 1 ins = (K : Int)) : (roww (minRows t) 0).length = K := by
  have h1 := h.min
  have := h1.row _ (roww_mem (t := minRows t) (s := 0) (by have := h1.n1; omega))
  omega
theorem bm_in (h : OKT ins outs t) (hK : shl .i64 1 ins = (K : Int)) : Box.In (bm t) K (minRows t).length := by
  have := mach_in h.min.tab
  rwa [bm_K h hK] at this
theorem fdrop (h : OKT ins outs t) {u x : List Int} (hu : InW ins u) (hx : InW ins x) : (runO t 0 (u ++ x)).drop ((runO t 0 (u ++ x)).length - x.length) = Box.outW (bm t) (Box.endW (bm t) 0 (lets u)) (lets x) := by
  rw [fB h (hu.app hx), lets_app, Box.outW_append, List.length_append, Box.outW_len, Box.outW_len]
  have e1 : (lets u).length = u.length := List.length_map _
  have e2 : (lets x).length = x.length := List.length_map _
  rw [e1, e2, Nat.add_sub_cancel]
  exact List.drop_left' (by rw [Box.outW_len, e1])
theorem shows_is (h : OKT ins outs t) {u : List Int} (hu : InW ins u) (tests : List (List Int)) (ht : ∀ x ∈ tests, InW ins x) : shows (runO t 0) u tests = (tests.map fun x => Box.outW (bm t) (Box.endW (bm t) 0 (lets u)) (lets x)).flatten := by
  unfold shows
  rw [List.map_congr_left (fun x hx => fdrop h hu (ht x hx))]
theorem flat_injB {α β : Type} {g1 g2 : α → List β} : ∀ (l : List α), (∀ x ∈ l, (g1 x).length = (g2 x).length) → (l.map g1).flatten = (l.map g2).flatten → ∀ x ∈ l, g1 x = g2 x
  | [], _, _, x, hx => by cases hx
  | a :: l, hl, he, x, hx => by
    simp only [List.map_cons, List.flatten_cons] at he
    obtain ⟨h1, h2⟩ := List.append_inj he (hl a (by simp))
    rcases List.mem_cons.1 hx with rfl | hx
    · exact h1
    · exact flat_injB l (fun y hy => hl y (by simp [hy])) h2 x hx
theorem shows_row (h : OKT ins outs t) {u v : List Int} (hu : InW ins u) (hv : InW ins v) (tests : List (List Int)) (ht : ∀ x ∈ tests, InW ins x) : shows (runO t 0) u tests = shows (runO t 0) v tests ↔ Box.rowEq (bm t) (tests.map lets) (Box.endW (bm t) 0 (lets u)) (Box.endW (bm t) 0 (lets v)) := by
  rw [shows_is h hu tests ht, shows_is h hv tests ht]
  constructor
  · intro e x hx
    obtain ⟨y, hy, rfl⟩ := List.mem_map.1 hx
    exact flat_injB tests (fun x _ => by rw [Box.outW_len, Box.outW_len]) e y hy
  · intro e
    rw [List.map_congr_left (fun x hx => e (lets x) (List.mem_map_of_mem hx))]
variable {tests ways rows : List (List Int)} {T : Tab} {list : List S77}
theorem wmem {i : Nat} (hi : i < ways.length) : ways.getD i [] ∈ ways := by
  rw [List.getD_eq_getElem?_getD, List.getElem?_eq_getElem hi]; exact List.getElem_mem hi
theorem CI.words (c : CI (runO t 0) K tests ways rows T list) (hK : shl .i64 1 ins = (K : Int)) : ∀ w ∈ ways, InW ins w ∧ w.length ≤ ways.length := by
  intro w hw
  obtain ⟨i, hi, rfl⟩ := List.getElem_of_mem hw
  have := c.word hK i hi
  rw [List.getD_eq_getElem?_getD, List.getElem?_eq_getElem hi] at this
  exact ⟨this.1, by have := this.2; simp only [Option.getD_some] at this; omega⟩
/-- No more ways than states. -/
theorem CI.few (h : OKT ins outs t) (hK : shl .i64 1 ins = (K : Int)) (ht : ∀ x ∈ tests, InW ins x) (c : CI (runO t 0) K tests ways rows T list) : ways.length ≤ (minRows t).length := by
  have hn : (ways.map fun w => Box.endW (bm t) 0 (lets w)).Nodup := by
    have h1 := c.nodup
    rw [c.req] at h1
    have h2 := List.pairwise_map.1 h1
    refine List.pairwise_map.2 (List.Pairwise.imp_of_mem (fun {a b} ha hb hab he => hab ?_) h2)
    exact (shows_row h (c.words hK a ha).1 (c.words hK b hb).1 tests ht).2 (by rw [he]; exact Box.rowEq.refl _ _ _)
  have := Box.nodup_le (minRows t).length _ hn (fun x hx => by
    obtain ⟨w, hw, rfl⟩ := List.mem_map.1 hx
    exact (bm_in h hK).endW _ _ (wd_lets hK (c.words hK w hw).1) (bm_in h hK).1)
  simpa using this
theorem cell_mem {row : List S77} {r : S77} (hr : r ∈ row) : ∃ a, a < row.length ∧ row.getD a z77 = r := by
  obtain ⟨a, ha, e⟩ := List.getElem_of_mem hr
  exact ⟨a, ha, by rw [List.getD_eq_getElem?_getD, List.getElem?_eq_getElem ha]; exact e⟩
theorem inW_one (hK : shl .i64 1 ins = (K : Int)) {a : Nat} (ha : a < K) : InW ins [(a : Int)] := fun x hx => by
  rcases List.mem_singleton.1 hx with rfl
  rw [hK]; omega
/-- The last of what is told behind a way and a letter. -/
theorem lastO_is (h : OKT ins outs t) (hK : shl .i64 1 ins = (K : Int)) {u : List Int} (hu : InW ins u) {a : Nat} (ha : a < K) : lastO (runO t 0) (u ++ [(a : Int)]) = (bm t).ot (Box.endW (bm t) 0 (lets u)) a := by
  have := fdrop h hu (inW_one hK ha)
  unfold lastO
  rw [show ([(a : Int)] : List Int).length = 1 from rfl] at this
  rw [this]
  simp [lets, Box.outW, rd]
/-- The table that close made is a table. -/
theorem CI.okt (h : OKT ins outs t) (hK : shl .i64 1 ins = (K : Int)) (c : CI (runO t 0) K tests ways rows T []) (hl : T.length = ways.length) (h6 : ways.length ≤ 64) : OKT ins outs T := by
  have hp : 0 < ways.length := by
    rcases Nat.eq_zero_or_pos ways.length with h0 | h0
    · have := c.pos; rw [List.getElem?_eq_none (by omega)] at this; cases this
    · exact h0
  have hrow : ∀ row ∈ T, ∃ s, s < T.length ∧ roww T s = row := fun row hr => by
    obtain ⟨s, hs, e⟩ := List.getElem_of_mem hr
    exact ⟨s, hs, by unfold roww; rw [List.getD_eq_getElem?_getD, List.getElem?_eq_getElem hs]; exact e⟩
  refine ⟨h.i0, h.i1, h.o0, h.o1, by omega, by omega, fun row hr => ?_, fun row hr r hr' => ?_⟩
  · obtain ⟨s, hs, rfl⟩ := hrow row hr
    rw [c.lrow s hs, hK]
  · obtain ⟨s, hs, rfl⟩ := hrow row hr
    obtain ⟨a, ha, rfl⟩ := cell_mem hr'
    rw [c.lrow s hs] at ha
    obtain ⟨h1, h2, h3, h4⟩ := c.cells s a hs ha
    have hw := (c.word hK s (by omega)).1
    have hx : (bm t).ot (Box.endW (bm t) 0 (lets (ways.getD s []))) a ∈ runO t 0 (ways.getD s [] ++ [(a : Int)]) := by
      rw [fB h (hw.app (inW_one hK ha)), lets_app, Box.outW_append]
      exact List.mem_append_right _ (by simp [lets, Box.outW])
    have hg := run_good h _ 0 (hw.app (inW_one hK ha)) (by have := h.n1; omega) _ hx
    rw [← lastO_is h hK hw ha] at hg
    exact ⟨by rw [show (roww T s).getD a z77 = cel T s a from rfl, h1]; exact hg.1, by rw [show (roww T s).getD a z77 = cel T s a from rfl, h1]; exact hg.2, h2, by rw [hl]; exact h3⟩
theorem getD_lets {k : Nat} : (ways.map lets).getD k [] = lets (ways.getD k []) := by
  rw [List.getD_eq_getElem?_getD, List.getElem?_map, List.getD_eq_getElem?_getD]
  cases ways[k]? <;> rfl
theorem endW_snoc (M : Box.Mach) (u : List Nat) (a s : Nat) : Box.endW M s (u ++ [a]) = M.nx (Box.endW M s u) a := by rw [Box.endW_append]; rfl
theorem lets_one (a : Nat) : lets [(a : Int)] = [a] := by simp [lets]
theorem CI.closed (h : OKT ins outs t) (hK : shl .i64 1 ins = (K : Int)) (ht : ∀ x ∈ tests, InW ins x) (c : CI (runO t 0) K tests ways rows T []) (hl : T.length = ways.length) : Box.Closed (bm t) K (minRows t).length (tests.map lets) (ways.map lets) (mach T) := by
  have hst : ∀ i, Box.st (bm t) (ways.map lets) i = Box.endW (bm t) 0 (lets (ways.getD i [])) := fun i => by unfold Box.st; rw [getD_lets]
  refine ⟨by rw [List.getElem?_map, c.pos]; rfl, fun w hw => ?_, fun i j hi hj hr => ?_, fun s a hs ha => ?_, fun s hs => ?_⟩
  · obtain ⟨u, hu, rfl⟩ := List.mem_map.1 hw
    exact wd_lets hK (c.words hK u hu).1
  · rw [List.length_map] at hi hj
    rw [hst, hst] at hr
    have e := (shows_row h (c.word hK i hi).1 (c.word hK j hj).1 tests ht).2 hr
    rw [← c.rget hi, ← c.rget hj] at e
    have hn := c.nodup
    have hrl := c.rlen
    rw [List.getD_eq_getElem?_getD, List.getD_eq_getElem?_getD, List.getElem?_eq_getElem (by omega), List.getElem?_eq_getElem (by omega)] at e
    exact (List.getElem_inj hn).1 e
  · rw [List.length_map] at hs ⊢
    have hw := (c.word hK s hs).1
    obtain ⟨h1, h2, h3, h4⟩ := c.cells s a (by omega) ha
    refine ⟨?_, by show (cel T s a).f1.toNat < _; omega, ?_⟩
    · show (cel T s a).f0 = _
      rw [h1, lastO_is h hK hw ha, hst]
    · rw [hst, hst]
      have hr := (shows_row h (hw.app (inW_one hK ha)) (c.word hK (cel T s a).f1.toNat (by omega)).1 tests ht).1 h4
      rw [lets_app, lets_one, endW_snoc] at hr
      exact hr
  · rw [List.length_map] at hs
    rw [getD_lets]
    induction s using Nat.strongRecOn with
    | ind s ih =>
      rcases Nat.eq_zero_or_pos s with rfl | hp
      · rw [List.getD_eq_getElem?_getD, c.pos]; rfl
      · rcases c.tree s hp hs with ⟨s', a, g1, g2, g3, g4, g5⟩ | ⟨a, g1, g2, g3, g4⟩
        · rw [g4, lets_app, lets_one, endW_snoc, ih s' g2 (by omega)]
          show (cel T s' a).f1.toNat = s
          omega
        · simp at g2
/-- A table that stands all tests has the least table. -/
theorem CI.learned (h : OKT ins outs t) (hK : shl .i64 1 ins = (K : Int)) (ht : ∀ x ∈ tests, InW ins x) (c : CI (runO t 0) K tests ways rows T []) (hl : T.length = ways.length) (h6 : ways.length ≤ 64) {d : Nat} (hd : (minRows t).length ≤ ways.length + d) (h1 : ∀ a : Nat, a < K → [(a : Int)] ∈ tests)
    (hs : ∀ way ∈ ways, AllG (fun y => ∀ x ∈ tests, runO t 0 (way ++ y ++ x) = runO T 0 (way ++ y ++ x)) ins [] (d + 1)) : minRows T = minRows t := by
  have hO := c.okt h hK hl h6
  have hC := c.closed h hK ht hl
  have key := Box.is_box hC (bm_in h hK) (d := d) (by rw [List.length_map]; exact hd) (fun a ha => List.mem_map.2 ⟨[(a : Int)], h1 a ha, lets_one a⟩) (by
    intro p hp w hw hwl x hx
    obtain ⟨way, hway, rfl⟩ := List.mem_map.1 hp
    obtain ⟨y, hy, rfl⟩ := List.mem_map.1 hx
    have e := hs way hway (w.map Int.ofNat) (inW_cast hK hw) (by simpa using hwl) y hy
    rw [List.nil_append] at e
    have hIn := ((c.words hK way hway).1.app (inW_cast hK hw)).app (ht y hy)
    rw [fB h hIn, mach_run, lets_app, lets_app, lets_cast] at e
    exact e.symm)
  have hR := h.min
  have hKT : (roww T 0).length = K := c.lrow 0 (by have := hO.n1; omega)
  have hal := alike_of_runs hO.tab hR.tab (by rw [hKT, bm_K h hK]) (by rw [hKT]; exact key)
  rw [min_two hO.tab hR.tab hal, min_min h.tab]
/-- A word that the table tells wrongly: the tests with all its ends part more states. -/
theorem CI.more (h : OKT ins outs t) (hK : shl .i64 1 ins = (K : Int)) (ht : ∀ x ∈ tests, InW ins x) (c : CI (runO t 0) K tests ways rows T []) (hl : T.length = ways.length) {u : List Int} (hu : InW ins u) (hne : runO t 0 u ≠ runO T 0 u) {tests' : List (List Int)} (hsub : ∀ x ∈ tests, x ∈ tests') (hend : ∀ y, y <:+ u → y ≠ [] → y ∈ tests') :
    Box.cnt (bm t) (minRows t).length (tests.map lets) < Box.cnt (bm t) (minRows t).length (tests'.map lets) := by
  have hC := c.closed h hK ht hl
  refine Box.cnt_lt (fun x hx => ?_) (Box.parts hC (bm_in h hK) (wd_lets hK hu) (fun e => hne ?_) (fun x hx => ?_) (fun y hy hyn => ?_))
  · obtain ⟨v, hv, rfl⟩ := List.mem_map.1 hx
    exact List.mem_map_of_mem (hsub v hv)
  · rw [fB h hu, mach_run]; exact e.symm
  · obtain ⟨v, hv, rfl⟩ := List.mem_map.1 hx
    exact List.mem_map_of_mem (hsub v hv)
  · obtain ⟨z, hz⟩ := hy
    have hzl : z.length + y.length = u.length := by
      have := congrArg List.length hz
      rw [List.length_append] at this
      rw [this]; exact List.length_map _
    refine List.mem_map.2 ⟨u.drop z.length, hend _ (List.drop_suffix _ _) (fun e => hyn ?_), ?_⟩
    · have := congrArg List.length e
      rw [List.length_drop] at this
      exact List.eq_nil_of_length_eq_zero (by simp at this; omega)
    · unfold lets at hz ⊢
      rw [List.map_drop, ← hz]
      simp
theorem cnt_pos (h : OKT ins outs t) (hK : shl .i64 1 ins = (K : Int)) (W : List (List Nat)) : 1 ≤ Box.cnt (bm t) (minRows t).length W := by
  have hp := (bm_in h hK).1
  have : 0 < (List.range (minRows t).length).countP (fun s => @decide (Box.Lead (bm t) W s) (Classical.propDecidable _)) := by
    rw [List.countP_pos_iff]
    exact ⟨0, List.mem_range.2 hp, by simp [Box.Lead]⟩
  unfold Box.cnt
  exact this
end
end Go.Proofs.Ytaalafnkglbcpaa.PL

namespace Go.Proofs.Ytaalafnkglbcpaa.PL
open Go.RowKit Go.Proofs.YtaalafnkglbcpaaW.PrintWords Go.Proofs.YtaalafnkglbcpaaW.PrintLast Go.Proofs.YtaalafnkglbcpaaW.PrintMore
set_option linter.unusedVariables false
set_option linter.unusedSimpArgs false
structure LInv (w W : World) (g gb : Nat) (ins outs n : Int) (vt : Value) (tests : List (List Int)) (wv : Value) : Prop where
  gl : w.heap.size < g
  bl : gb < w.heap.size
  hb : Below w.heap.size w W
  rb : W.heap[w.heap.size]? = some (.cells #[.int .i64 0, .int .i64 0, .slice none 0 0] 25 (0, 0))
  lb : LB W g ins outs gb n vt wv
  rt : Kd.R (Kd.slice 3 (Kd.int .i64)) 22 W w.heap.size (fun _ => True) vt tests
section
variable {w W W' : World} {g gb : Nat} {ins outs n n' : Int} {vt v1 wv wv' : Value} {tests tests' : List (List Int)}
theorem LInv.below (h : LInv w W g gb ins outs n vt tests wv) (hb : Below W.heap.size W W') : LInv w W' g gb ins outs n vt tests wv :=
  { gl := h.gl, bl := h.bl, hb := below_then h.hb h.hb.size hb, rb := blk_below h.rb hb, lb := blk_below h.lb hb, rt := Kd.R_below h.rt hb }
theorem LInv.alloc (h : LInv w W g gb ins outs n vt tests wv) (o : Obj) : LInv w (W.alloc o) g gb ins outs n vt tests wv := h.below (below_alloc (Below.refl _ _) o)
theorem LInv.drewN (h : LInv w W g gb ins outs n vt tests wv) (m : Nat) : LInv w (W.drewN m) g gb ins outs n vt tests wv := h.below (pw_below_drewN (Below.refl _ _) m)
theorem LInv.drew (h : LInv w W g gb ins outs n vt tests wv) : LInv w W.drew g gb ins outs n vt tests wv := h.below (below_drew (Below.refl _ _))
theorem LInv.apart (h : LInv w W g gb ins outs n vt tests wv) : Kd.R (Kd.slice 3 (Kd.int .i64)) 22 W w.heap.size (fun k => True ∧ k ≠ g) vt tests := Kd.R_types h.rt h.lb (by intro q hq; simp [Kd.slice, Kd.int, Kd.scalar] at hq; omega)
theorem LInv.kept (h : LInv w W g gb ins outs n vt tests wv) (hk : Kept W W' (fun k => k = g)) (hl : LB W' g ins outs gb n' vt wv') : LInv w W' g gb ins outs n' vt tests wv' :=
  { gl := h.gl, bl := h.bl, hb := ⟨hk.calm.1.trans h.hb.os, hk.calm.2.1.trans h.hb.tape, hk.calm.2.2.trans h.hb.output, Nat.le_trans h.hb.size hk.1, fun i hi => (hk.2 i (Nat.lt_of_lt_of_le hi h.hb.size) (by have := h.gl; omega)).trans (h.hb.block i hi)⟩, rb := blk_kept h.rb hk (by have := h.gl; omega), lb := hl, rt := Kd.R_mono (Kd.R_kept h.apart hk (fun k hk => hk.2)) (fun k hk => hk.1) }
theorem LInv.addTest (h : LInv w W g gb ins outs n vt tests wv) (hr : Kd.R (Kd.slice 3 (Kd.int .i64)) 22 W' w.heap.size (fun _ => True) v1 tests') (hg : W.grownBy W' vt.ownBlock) : LInv w (W'.setCell ⟨g, 5, none⟩ v1) g gb ins outs n v1 tests' wv := by
  have lb := blk_grown h.lb hg (Kd.R_ne h.rt h.lb (by decide))
  have rb := blk_grown h.rb hg (Kd.R_ne h.rt h.rb (by decide))
  exact { gl := h.gl, bl := h.bl, hb := (h.hb.grown hg h.hb.size (Kd.R_base h.rt)).setCell (show w.heap.size ≤ g by have := h.gl; omega) _, rb := blk_far rb (p := ⟨g, 5, none⟩) (by have := h.gl; show w.heap.size ≠ g; omega) _, lb := blk_put lb 5 _ rfl,
          rt := Kd.R_mono (Kd.R_far (p := ⟨g, 5, none⟩) (Kd.R_types hr lb (by intro q hq; simp [Kd.slice, Kd.int, Kd.scalar] at hq; omega)) (fun k hk => hk.2) _) (fun k hk => hk.1) }
theorem LInv.setS {b i : Nat} {cs : Array Value} (h : LInv w W g gb ins outs n vt tests wv) (hb : W.heap[b]? = some (.cells cs 25 (0, 0))) (hlo : w.heap.size < b) (hne : b ≠ g) (u : Value) : LInv w (W.setCell ⟨b, i, none⟩ u) g gb ins outs n vt tests wv :=
  { gl := h.gl, bl := h.bl, hb := h.hb.setCell (show w.heap.size ≤ b by omega) _, rb := blk_far h.rb (p := ⟨b, i, none⟩) (show w.heap.size ≠ b by omega) _, lb := blk_far h.lb (p := ⟨b, i, none⟩) (fun e => hne e.symm) _, rt := Kd.R_mono (Kd.R_far (p := ⟨b, i, none⟩) (Kd.R_types h.rt hb (by intro q hq; simp [Kd.slice, Kd.int, Kd.scalar] at hq; omega)) (fun k hk => hk.2) _) (fun k hk => hk.1) }
/-- A literal of numbers. -/
theorem int_own {W : World} {n base : Nat} {x : Int} {ok : Nat → Prop} (hb : W.heap[n]? = some (.cells #[.int .i64 x] 3 (0, 0))) (hbase : base ≤ n) (hn : ok n) : Kd.R (Kd.int .i64) 3 W base ok (.slice (some ⟨n, 0, none⟩) 1 1) [x] := by
  refine ⟨fun k hk => ?_, [.int .i64 x], ⟨rfl, .inr ⟨n, 1, #[.int .i64 x], rfl, hbase, hb, Nat.le_refl _, by decide, rfl, rfl⟩⟩, Reps.one (show Kd.M (Kd.int .i64) W base _ x [.int .i64 x] from rfl) (Reps.none _ _)⟩
  obtain rfl : n = k := by simpa [Value.ownBlock] using hk
  exact hn
/-- What the tests are after i rounds. -/
structure TI (t : Tab) (K i : Nat) (ins : Int) (tests : List (List Int)) : Prop where
  one : ∀ a : Nat, a < K → [(a : Int)] ∈ tests
  word : ∀ x ∈ tests, InW ins x ∧ 1 ≤ x.length ∧ x.length ≤ 1 + 12 * i
  len : tests.length ≤ 4 + 100 * i
  cnt : i + 1 ≤ Box.cnt (bm t) (minRows t).length (tests.map lets)
theorem TI.le {t : Tab} {K i : Nat} (h : TI t K i ins tests) : i + 1 ≤ (minRows t).length := Nat.le_trans h.cnt (Box.cnt_le _ _ _)
def ones (j : Nat) : List (List Int) := (List.range j).map fun a : Nat => [(a : Int)]
theorem ones_succ (j : Nat) : ones (j + 1) = ones j ++ [[(j : Int)]] := by unfold ones; rw [List.range_succ, List.map_append]; rfl
theorem ones_len (j : Nat) : (ones j).length = j := by unfold ones; simp
theorem TI.start {t : Tab} {K : Nat} {outs : Int} (h : OKT ins outs t) (hK : shl .i64 1 ins = (K : Int)) (hK4 : K ≤ 4) : TI t K 0 ins (ones K) := by
  refine ⟨fun a ha => List.mem_map.2 ⟨a, List.mem_range.2 ha, rfl⟩, fun x hx => ?_, by rw [ones_len]; omega, cnt_pos h hK _⟩
  obtain ⟨a, ha, rfl⟩ := List.mem_map.1 hx
  exact ⟨inW_one hK (List.mem_range.1 ha), by simp, by simp⟩
end
end Go.Proofs.Ytaalafnkglbcpaa.PL

namespace Go.Proofs.Ytaalafnkglbcpaa.PL
open Go.RowKit Go.Proofs.YtaalafnkglbcpaaW.PrintWords Go.Proofs.YtaalafnkglbcpaaW.PrintLast Go.Proofs.YtaalafnkglbcpaaW.PrintMore
set_option linter.unusedVariables false
set_option linter.unusedSimpArgs false
theorem wc_le {K N : Nat} (hK : K ≤ 4) (hN : N ≤ 6) : wc K N ≤ 5461 := by
  have h1 : ∀ K, K < 5 → ∀ N, N < 7 → wc K N ≤ 5461 := by decide
  exact h1 K (by omega) N (by omega)
theorem KR_own {α : Type} {d : Kd α} {e : Nat} {W W1 : World} {base g n : Nat} {A : Option Addr} {c : Nat} {ok : Nat → Prop} {xs : List α} (h : d.R e W base ok (.slice A n c) xs) (hg : g < base) (hk : Kept W W1 (fun k => k = g)) : ∀ W', Kept W1 W' (fun k => k = g) → d.C W' A n xs :=
  fun W' h2 => Kd.C_kept_own (S := fun k => k = g) (Kd.R_bound h) (fun k hk e => by have := hk.2.1; omega) W' (hk.then_ h2 (fun _ h => .inl h))
set_option maxHeartbeats 8000000 in
set_option maxRecDepth 100000 in
theorem learn_calls (t : Tab) (ins outs : Int) (states K gb : Nat) (A0 : Option Addr) (c0 : Nat) (w : World) (hO : OKT ins outs t) (hK : shl .i64 1 ins = (K : Int)) (hK4 : K ≤ 4) (hi : 0 ≤ ins ∧ ins ≤ 2) (hs : states ≤ 6) (hN : (minRows t).length ≤ states)
    (hb : w.heap[gb]? = some (.cells #[.int .i64 ins, .int .i64 outs, .slice A0 t.length c0] 25 (0, 0))) (ht : ∀ W', Kept w W' (fun _ => False) → Kd.C (Kd.slice 77 k77) W' A0 t.length t) (hc0 : t.length ≤ c0) :
    Calls Try.prog 28 #[.int .i64 ins, .int .i64 outs, .int .i64 (states : Int), .func (.func 57) #[] #[.pointer (some ⟨gb, 0, none⟩)]] w fun e w' => ∃ (v : Value) (n : Int), 0 < n ∧ e = .returned (.tuple #[.agg #[.int .i64 ins, .int .i64 outs, v], .int .i64 n, .int .i64 0]) ∧ Kd.S (Kd.slice 77 k77) 75 w' w.heap.size (fun _ => True) v (minRows t) ∧ Below w.heap.size w w' := by
  have HO := Aside0.mk hO
  have HK := Aside0.mk hK
  have HK4 := Aside0.mk hK4
  have HI := Aside0.mk hi
  have HS := Aside0.mk hs
  have HN := Aside0.mk hN
  have HB := Aside0.mk hb
  have HT := Aside0.mk ht
  have HC0 := Aside0.mk hc0
  have hu93 := Try.underlying93
  have hu25 := Try.underlying25
  have d1 : decide (ins < 0) = false := decide_eq_false (by omega)
  have d2 : decide (2 < ins) = false := decide_eq_false (by omega)
  have d3 : decide (outs < 0) = false := decide_eq_false (by have := hO.o0; omega)
  have d4 : decide (10 < outs) = false := decide_eq_false (by have := hO.o1; omega)
  have hp : 1 ≤ states := by have := (bm_in hO hK).1; omega
  have d5 : decide ((states : Int) < 1) = false := decide_eq_false (by omega)
  have d6 : decide (6 < (states : Int)) = false := decide_eq_false (by omega)
  have HP := Aside0.mk hp
  have q8 : 0 ≤ ins := hi.1
  clear hO hK hK4 hi hs hN hb ht hc0 hp
  go_enter Try.func28, Try.ntmps28
  go_wp2_with fail
  have hK1 : wrap64 (2 ^ min ins.toNat 64) = (K : Int) := by
    have e : shl .i64 1 ins = wrap64 (2 ^ min ins.toNat 64) := by unfold shl; rw [i64_w, Int.one_mul]; rfl
    rw [← e]; exact HK.out
  rw [hK1]
  clear hK1 d1 d2 d3 d4 d5 d6 q8
  have hz1 : (w.alloc (.cells #[.int .i64 0, .int .i64 0, .slice none 0 0] 25)).heap.size = w.heap.size + 1 := by simp
  have I0 : Aside0 (LInv w ((w.alloc (.cells #[.int .i64 0, .int .i64 0, .slice none 0 0] 25)).alloc (.cells (LC ins outs gb 0 (.slice none 0 0) (.slice none 0 0)) 93)) (w.heap.size + 1) gb ins outs 0 (.slice none 0 0) [] (.slice none 0 0)) := ⟨{
    gl := by omega, bl := blk_lt HB.out, hb := below_alloc (below_alloc (Below.refl _ _) _) _, rb := blk_alloc (blk_new _ _) _, lb := by have h := blk_new (w.alloc (.cells #[.int .i64 0, .int .i64 0, .slice none 0 0] 25)) (.cells (LC ins outs gb 0 (.slice none 0 0) (.slice none 0 0)) 93); rw [hz1] at h; exact h, rt := Kd.R_nil _ _ _ _ _ }⟩
  generalize ((w.alloc (.cells #[.int .i64 0, .int .i64 0, .slice none 0 0] 25)).alloc (.cells #[.int .i64 ins, .int .i64 outs, .func (.func 57) #[] #[.pointer (some ⟨gb, 0, none⟩)], .int .i64 0, .bool false, .slice none 0 0, .slice none 0 0] 93)) = w1 at *
  generalize hg : w.heap.size + 1 = g at *
  clear hz1 hg
  have hK4 : (K : Int) ≤ 4 := by have := HK4.out; omega
  go_loopw [49] (fun v49 wr => ∃ (j : Nat) (vt : Value), j ≤ K ∧ v49 = .int .i64 (j : Int) ∧ Aside0 (LInv w wr g gb ins outs 0 vt (ones j) (.slice none 0 0))) (fun v49 _ => K - (intOf v49).toNat)
  case atStart => exact ⟨0, _, by omega, rfl, I0⟩
  case round =>
    obtain ⟨j, vt, hj, rfl, IJ⟩ := hrel
    obtain ⟨w2, rfl⟩ : ∃ w2 : World, w2 = wr := ⟨_, rfl⟩
    obtain ⟨A2, c2, e2⟩ := Kd.R_slice IJ.out.rt
    rw [ones_len] at e2
    subst e2
    by_cases hlt : j < K
    · have HLT := Aside0.mk hlt
      have q5 : w2.cell? ⟨g, 5, none⟩ = some (.slice A2 j c2) := (blk_cell IJ.out.lb 5).trans rfl
      have I2 := Aside0.mk (IJ.out.alloc (.cells #[.int .i64 (j : Int)] 3))
      have X2 := Aside0.mk (blk_new w2 (.cells #[.int .i64 (j : Int)] 3))
      have RT2 : Aside0 (Kd.R (Kd.slice 3 (Kd.int .i64)) 22 (w2.alloc (.cells #[.int .i64 (j : Int)] 3)) w.heap.size (fun _ => True) (.slice A2 j c2) (ones j)) := ⟨I2.out.rt⟩
      have hz2 : (w2.alloc (.cells #[.int .i64 (j : Int)] 3)).heap.size = w2.heap.size + 1 := by simp
      go_wp2_with ((with_reducible refine gate_builtin (b := .append) (xs := #[.tmp 56, .tmp 59]) rfl ?_); at_builtin; refine Kd.R_append (Kd.slice 3 (Kd.int .i64)) (w0 := w2.alloc (.cells #[.int .i64 (j : Int)] 3)) (W := w2.alloc (.cells #[.int .i64 (j : Int)] 3)) w.heap.size rfl (.tmp 56) (.tmp 59) 91 22 (.slice none 0 0) 24 rfl Try.underlying91 info22c rfl (by decide) (by omega) (.slice A2 j c2) (ones j) [(j : Int)] [.slice (some ⟨w2.heap.size, 0, none⟩) 1 1] (fun _ => True) (fun k => k = w2.heap.size) rfl ?aX ⟨_, rfl, int_own X2.out (by have := IJ.out.hb.size; omega) rfl⟩ ?aK (fun _ _ => trivial) RT2.out (Below.refl _ _) ?aS ?aL ?_; (case aX => rw [hz2]; rfl); (case aK => (intro k hk; subst hk; exact ⟨trivial, fun e => by have := Kd.R_lt IJ.out.rt _ e.symm; omega⟩)); (case aS => exact I2.out.hb.size); (case aL => rw [ones_len]; have := HK4.out; omega); intro v3 w3 ho hb hg hat; obtain ⟨A3, c3, e3⟩ := Kd.R_slice ho; rw [List.length_append, ones_len, List.length_singleton] at e3; subst e3; have IL := Aside0.mk (I2.out.addTest ho hg); have hb3 := blk_grown I2.out.lb hg (Kd.R_ne I2.out.rt I2.out.lb (by decide)); have hc3 := (blk_cell hb3 5).trans (show _ = some (.slice A2 j c2) from rfl); have hf3 := blk_frozen hb3 5; clear ho hb hg hat hb3)
      go_roundw
      case rel => exact ⟨j + 1, _, by omega, by go_num, ⟨by rw [ones_succ]; exact IL.out⟩⟩
      case measure => simp [intOf]; omega
    · have hjK : j = K := by omega
      subst hjK
      have hs6 : (states : Int) ≤ 6 := by have := HS.out; omega
      have T0 := Aside0.mk (TI.start HO.out HK.out HK4.out)
      clear hK4 I0
      go_wp2
      go_loopw [66] (fun v66 wr => ∃ (i n : Nat) (vt wv : Value) (tests : List (List Int)), v66 = .int .i64 (i : Int) ∧ Aside0 (LInv w wr g gb ins outs n vt tests wv) ∧ Aside0 (n ≤ i * 20000000) ∧ Aside0 (TI t j i ins tests)) (fun v66 _ => states + 1 - (intOf v66).toNat)
      case atStart => exact ⟨0, 0, _, _, _, rfl, IJ, ⟨by omega⟩, T0⟩
      case round =>
        obtain ⟨i, n, vt, wv, tests, rfl, IL, NL, TL⟩ := hrel
        obtain ⟨w3, rfl⟩ : ∃ w3 : World, w3 = wr := ⟨_, rfl⟩
        clear IJ T0
        have hin := TL.out.le
        have HIN : Aside0 (i + 1 ≤ states) := ⟨Nat.le_trans hin HN.out⟩
        have hlt : i < states + 1 := by have := HIN.out; omega
        clear hin
        obtain ⟨At, ct, et⟩ := Kd.R_slice IL.out.rt
        subst et
        have TLN := Aside0.mk TL.out.len
        have C4 := Aside0.mk (close_calls (runO t 0) j states g gb ins outs (n : Int) wv A0 At c0 ct t tests w3 IL.out.lb (by have := IL.out.gl; have := IL.out.bl; omega) ((IL.out.hb.block gb IL.out.bl).trans HB.out)
          (fun W' h => HT.out W' ⟨Nat.le_trans IL.out.hb.size h.1, fun i hi _ => (h.2 i (Nat.lt_of_lt_of_le hi IL.out.hb.size) (by have := IL.out.gl; omega)).trans (IL.out.hb.block i hi), (Calm.below IL.out.hb).trans h.3⟩) HC0.out
          (Kd.C_kept_own IL.out.apart (fun k hk => hk.2)) (by have := TLN.out; have := HIN.out; have := HS.out; omega) (fun x hx => by have h1 := TL.out.word x hx; have h2 := HIN.out; have h3 := HS.out; exact ⟨h1.2.1, by omega, h1.1⟩) (fun u hu hl => asks_of HO.out hu hl) HK.out HK4.out HI.out ⟨HO.out.o0, HO.out.o1⟩ HS.out
          (fun ways rows T list c => Nat.le_trans (c.few HO.out HK.out (fun x hx => (TL.out.word x hx).1)) HN.out) (by have := NL.out; have := HIN.out; have := HS.out; omega))
        go_wp2_with fail
        (with_reducible refine C4.out.mono ?_)
        rintro e w4 ⟨ways, rows, T, Aw, A9, cw, c9, n4, rfl, k4, hn4, l4, hw4, hT4, ci, hTl, hwm⟩
        have IL4 := Aside0.mk (IL.out.kept k4 l4)
        have HZ34 := Aside0.mk k4.1
        have hgz : g < w3.heap.size := blk_lt IL.out.lb
        have RW4 := Aside0.mk (Kd.R_bound hw4)
        have RT4 := Aside0.mk (Kd.R_bound hT4)
        have CI4 := Aside0.mk ci
        have HTL4 := Aside0.mk hTl
        have HWM4 := Aside0.mk hwm
        have HN4 := Aside0.mk hn4
        have OT4 := Aside0.mk (ci.okt HO.out HK.out hTl (by have := HS.out; omega))
        have CW4 := Aside0.mk (ci.words HK.out)
        have CF4 := Aside0.mk (And.intro (Kd.R_reads' hw4).2.1 (Kd.R_reads' hT4).2.1)
        have WP4 : Aside0 (1 ≤ ways.length) := ⟨by
          rcases Nat.eq_zero_or_pos ways.length with h0 | h0
          · have := ci.pos; rw [List.getElem?_eq_none (by omega)] at this; cases this
          · exact h0⟩
        have K45 := Aside0.mk ((Kept.refl w4 (fun k => k = g)).alloc (.cells #[.int .i64 ins, .int .i64 outs, .slice A9 T.length c9] 25))
        obtain ⟨N5, hN5⟩ : ∃ N5, N5 + ways.length = states + 1 := ⟨states + 1 - ways.length, by omega⟩
        have HN5 := Aside0.mk hN5
        have TLW := Aside0.mk TL.out.word
        have C6 := Aside0.mk (differ_calls (runO t 0) (runO T 0) g gb ins outs ((n : Int) + n4) A0 A9 Aw At c0 c9 cw ct t T ways tests N5 states (w4.alloc (.cells #[.int .i64 ins, .int .i64 outs, .slice A9 T.length c9] 25)) (blk_alloc l4 _) (by have := IL.out.gl; have := IL.out.bl; omega) (blk_alloc ((IL4.out.hb.block gb IL4.out.bl).trans HB.out) _)
          (fun W' h => HT.out W' ⟨Nat.le_trans IL4.out.hb.size (Nat.le_trans K45.out.1 h.1), fun i hi _ => ((K45.out.then_ h (fun _ h => .inl h)).2 i (Nat.lt_of_lt_of_le hi IL4.out.hb.size) (by have := IL.out.gl; omega)).trans (IL4.out.hb.block i hi), (Calm.below IL4.out.hb).trans (K45.out.3.trans h.3)⟩) HC0.out
          (KR_own RT4.out hgz K45.out) CF4.out.2 (KR_own RW4.out hgz K45.out) (fun W' h => Kd.C_kept_own (S := fun k => k = g) IL4.out.apart (fun k hk => hk.2) W' (K45.out.then_ h (fun _ h => .inl h)))
          (by have := TLN.out; have := HIN.out; have := HS.out; omega) (fun way h => by have := (CW4.out way h).2; have := HS.out; omega) (by have := HS.out; omega) (by have := HS.out; omega) hN5 (by omega) (fun x hx => by have h1 := TLW.out x hx; have h2 := HIN.out; have h3 := HS.out; exact ⟨h1.2.1, by omega⟩)
          (fun way hway y hy hyl x hx => asks_of HO.out (((CW4.out way hway).1.app hy).app (TLW.out x hx).1) (by have h1 := (CW4.out way hway).2; have h2 := TLW.out x hx; have h3 := HS.out; have h4 := HIN.out; rw [List.length_append, List.length_append]; omega))
          (fun way hway y hy hyl x hx => asks_of OT4.out (((CW4.out way hway).1.app hy).app (TLW.out x hx).1) (by have h1 := (CW4.out way hway).2; have h2 := TLW.out x hx; have h3 := HS.out; have h4 := HIN.out; rw [List.length_append, List.length_append]; omega))
          HI.out ⟨HO.out.o0, HO.out.o1⟩ (by
            have h1 := HN4.out; have h2 := NL.out; have h3 := HIN.out; have h4 := HS.out; have h5 := TLN.out
            have h6 : states * j * (1 + tests.length) ≤ 24 * 605 := Nat.mul_le_mul (Nat.mul_le_mul h4 HK4.out) (by omega)
            have h7 : ways.length * (wc (shl .i64 1 ins).toNat N5 * tests.length) ≤ 6 * (5461 * 604) := Nat.mul_le_mul (by omega) (Nat.mul_le_mul (by rw [HK.out, Int.toNat_natCast]; exact wc_le HK4.out (by have := WP4.out; omega)) (by omega))
            omega))
        clear k4 l4 hw4 hT4 ci hTl hwm hn4 hN5 C4 IL
        have q4 : (w4.alloc (.cells #[.int .i64 ins, .int .i64 outs, .slice A9 T.length c9] 25)).cell? ⟨g, 4, none⟩ = some (.bool false) := (blk_cell (blk_alloc IL4.out.lb _) 4).trans rfl
        go_wp2_with fail
        (with_reducible refine C6.out.mono ?_)
        rintro e w6 ⟨v6, rfl, k6, ⟨n6, hn6, l6⟩, hres⟩
        have IL6 := Aside0.mk ((IL4.out.alloc (.cells #[.int .i64 ins, .int .i64 outs, .slice A9 T.length c9] 25)).kept k6 l6)
        have X6 := Aside0.mk (blk_kept (blk_new w4 (.cells #[.int .i64 ins, .int .i64 outs, .slice A9 T.length c9] 25)) k6 (show w4.heap.size ≠ g by have := blk_lt IL4.out.lb; omega))
        have HT6 := Aside0.mk (KR_own RT4.out hgz K45.out w6 k6)
        have NG6 := Aside0.mk hn6
        have q64 : w6.cell? ⟨g, 4, none⟩ = some (.bool false) := (blk_cell IL6.out.lb 4).trans rfl
        clear k6 l6 hn6 q4 C6 IL4 RW4 RT4 K45
        rcases hres with ⟨rfl, hst⟩ | ⟨way, hway, y, x, hy, hyl, hx, hne, A6, c6, rfl, hr6⟩
        · have HST := Aside0.mk hst
          clear hst
          have x0 : w6.cell? ⟨w4.heap.size, 0, none⟩ = some (.int .i64 ins) := (blk_cell X6.out 0).trans rfl
          have x1 : w6.cell? ⟨w4.heap.size, 1, none⟩ = some (.int .i64 outs) := (blk_cell X6.out 1).trans rfl
          have x2 : w6.cell? ⟨w4.heap.size, 2, none⟩ = some (.slice A9 T.length c9) := (blk_cell X6.out 2).trans rfl
          obtain ⟨kc, hkc⟩ := OT4.out.tabOK.1
          have C7 := Aside0.mk (min_calls kc A9 c9 T ins outs w6 HT6.out CF4.out.2 hkc OT4.out.tab)
          clear hkc
          have hq := fun (W : World) => Lib.run_eql_slice_nil (P := Try.prog) W 22 3 none 0 0 0 0 Try.underlying22
          go_wp2_with fail
          (with_reducible refine C7.out.mono ?_)
          rintro e w7 ⟨v7, rfl, hs7, hb7⟩
          obtain ⟨A7, c7, e7⟩ := Kd.S_slice hs7
          subst e7
          have HS7 := Aside0.mk hs7
          have IL7 := Aside0.mk (IL6.out.below hb7)
          have X7 := Aside0.mk (blk_below X6.out hb7)
          have Z67 := Aside0.mk (And.intro hb7.size (blk_lt X6.out))
          clear hs7 hb7 x0 x1 x2 C7 hq
          have x0 : w7.cell? ⟨w4.heap.size, 0, none⟩ = some (.int .i64 ins) := (blk_cell X7.out 0).trans rfl
          have x1 : w7.cell? ⟨w4.heap.size, 1, none⟩ = some (.int .i64 outs) := (blk_cell X7.out 1).trans rfl
          have x2 : w7.cell? ⟨w4.heap.size, 2, none⟩ = some (.slice A9 T.length c9) := (blk_cell X7.out 2).trans rfl
          have y0 : w7.frozen? ⟨w4.heap.size, 0, none⟩ = false := blk_frozen X7.out 0
          have y1 : w7.frozen? ⟨w4.heap.size, 1, none⟩ = false := blk_frozen X7.out 1
          have y2 : w7.frozen? ⟨w4.heap.size, 2, none⟩ = false := blk_frozen X7.out 2
          go_upto_region 21 with (fail)
          have hgb4 : w.heap.size < w4.heap.size := by have := IL6.out.gl; have := HZ34.out; omega
          have hg4 : w4.heap.size ≠ g := by have := HZ34.out; omega
          have X8a := Aside0.mk (blk_put (cs' := #[.int .i64 ins, .int .i64 outs, .slice A9 T.length c9]) X7.out 0 (.int .i64 ins) rfl)
          have X8b := Aside0.mk (blk_put (cs' := #[.int .i64 ins, .int .i64 outs, .slice A9 T.length c9]) X8a.out 1 (.int .i64 outs) rfl)
          have X8 := Aside0.mk (blk_put (cs' := #[.int .i64 ins, .int .i64 outs, .slice A7 (minRows T).length c7]) X8b.out 2 (.slice A7 (minRows T).length c7) rfl)
          have IL8 := Aside0.mk (((IL7.out.setS (i := 0) X7.out hgb4 hg4 (.int .i64 ins)).setS (i := 1) X8a.out hgb4 hg4 (.int .i64 outs)).setS (i := 2) X8b.out hgb4 hg4 (.slice A7 (minRows T).length c7))
          have hlow : ∀ k, (fun k => True ∧ w6.heap.size ≤ k) k → k ≠ w4.heap.size := fun k hk => by have := hk.2; have := Z67.out.2; omega
          have HS8 := Aside0.mk (Kd.S_far (p := ⟨w4.heap.size, 2, none⟩) (Kd.S_far (p := ⟨w4.heap.size, 1, none⟩) (Kd.S_far (p := ⟨w4.heap.size, 0, none⟩) (Kd.S_mono (Kd.S_bound HS7.out) (ok' := fun k => True ∧ w6.heap.size ≤ k) (fun k hk => ⟨trivial, hk.2.1⟩)) hlow (.int .i64 ins)) hlow (.int .i64 outs)) hlow (.slice A7 (minRows T).length c7))
          clear x0 x1 x2 y0 y1 y2 hlow X8a X8b X7 IL7 HS7
          generalize ((w7.setCell ⟨w4.heap.size, 0, none⟩ (.int .i64 ins)).setCell ⟨w4.heap.size, 1, none⟩ (.int .i64 outs)).setCell ⟨w4.heap.size, 2, none⟩ (.slice A7 (minRows T).length c7) = w8 at *
          have x0 : w8.cell? ⟨w4.heap.size, 0, none⟩ = some (.int .i64 ins) := (blk_cell X8.out 0).trans rfl
          have x1 : w8.cell? ⟨w4.heap.size, 1, none⟩ = some (.int .i64 outs) := (blk_cell X8.out 1).trans rfl
          have x2 : w8.cell? ⟨w4.heap.size, 2, none⟩ = some (.slice A7 (minRows T).length c7) := (blk_cell X8.out 2).trans rfl
          have xg : w8.cell? ⟨g, 3, none⟩ = some (.int .i64 ((n : Int) + n4 + n6)) := (blk_cell IL8.out.lb 3).trans rfl
          have z0 : w8.cell? ⟨w.heap.size, 0, none⟩ = some (.int .i64 0) := (blk_cell IL8.out.rb 0).trans rfl
          have z1 : w8.cell? ⟨w.heap.size, 1, none⟩ = some (.int .i64 0) := (blk_cell IL8.out.rb 1).trans rfl
          have z2 : w8.cell? ⟨w.heap.size, 2, none⟩ = some (.slice none 0 0) := (blk_cell IL8.out.rb 2).trans rfl
          have f0 : w8.frozen? ⟨w.heap.size, 0, none⟩ = false := blk_frozen IL8.out.rb 0
          have f1 : w8.frozen? ⟨w.heap.size, 1, none⟩ = false := blk_frozen IL8.out.rb 1
          have f2 : w8.frozen? ⟨w.heap.size, 2, none⟩ = false := blk_frozen IL8.out.rb 2
          have ne1 : w.heap.size ≠ w4.heap.size := by omega
          have ne2 : w.heap.size ≠ g := by have := IL8.out.gl; omega
          have ne3 : w4.heap.size ≠ w.heap.size := by omega
          have ne4 : g ≠ w.heap.size := by omega
          go_region_held3 (fun w' => w'.cell? ⟨w4.heap.size, 0, none⟩ = some (.int .i64 ins) ∧ w'.cell? ⟨w4.heap.size, 1, none⟩ = some (.int .i64 outs) ∧ w'.cell? ⟨w4.heap.size, 2, none⟩ = some (.slice A7 (minRows T).length c7) ∧ w'.cell? ⟨g, 3, none⟩ = some (.int .i64 ((n : Int) + n4 + n6)))
            (go_keep)
            (fail)
          clear x0 x1 x2 xg z0 z1 z2 f0 f1 f2
          have RB9 : Aside0 ((((w8.setCell ⟨w.heap.size, 0, none⟩ (.int .i64 ins)).setCell ⟨w.heap.size, 1, none⟩ (.int .i64 outs)).setCell ⟨w.heap.size, 2, none⟩ (.slice A7 (minRows T).length c7)).drew.heap[w.heap.size]? = some (.cells #[.int .i64 ins, .int .i64 outs, .slice A7 (minRows T).length c7] 25 (0, 0))) := ⟨blk_drew (blk_put (cs' := #[.int .i64 ins, .int .i64 outs, .slice A7 (minRows T).length c7]) (blk_put (cs' := #[.int .i64 ins, .int .i64 outs, .slice none 0 0]) (blk_put (cs' := #[.int .i64 ins, .int .i64 0, .slice none 0 0]) IL8.out.rb 0 _ rfl) 1 _ rfl) 2 _ rfl)⟩
          have hlow : ∀ k, (fun k => True ∧ w6.heap.size ≤ k) k → k ≠ w.heap.size := fun k hk => by have := hk.2; have := Z67.out.2; omega
          have HS9 := Aside0.mk (Kd.S_drew (Kd.S_far (p := ⟨w.heap.size, 2, none⟩) (Kd.S_far (p := ⟨w.heap.size, 1, none⟩) (Kd.S_far (p := ⟨w.heap.size, 0, none⟩) HS8.out hlow (.int .i64 ins)) hlow (.int .i64 outs)) hlow (.slice A7 (minRows T).length c7)))
          have HB9 : Aside0 (Below w.heap.size w (((w8.setCell ⟨w.heap.size, 0, none⟩ (.int .i64 ins)).setCell ⟨w.heap.size, 1, none⟩ (.int .i64 outs)).setCell ⟨w.heap.size, 2, none⟩ (.slice A7 (minRows T).length c7)).drew) := ⟨below_drew (((IL8.out.hb.setCell (Nat.le_refl _) _).setCell (Nat.le_refl _) _).setCell (Nat.le_refl _) _)⟩
          have HMIN : Aside0 (minRows T = minRows t) := ⟨by
            have hN5 := HN5.out
            have h1 := WP4.out
            have h2 := HWM4.out
            obtain ⟨d, hd⟩ : ∃ d, N5 = d + 1 := ⟨N5 - 1, by omega⟩
            have h3 := HST.out
            rw [hd] at h3
            exact CI4.out.learned HO.out HK.out (fun x hx => (TLW.out x hx).1) HTL4.out (by have := HS.out; omega) (by have := HN.out; omega) TL.out.one h3⟩
          have HPOS : Aside0 (0 < (n : Int) + n4 + n6) := ⟨by
            have h1 := HN4.out.2
            have h2 : 0 < tests.length := by
              have h4 := TL.out.one 0 (by
                have h5 := HK.out
                have h6 := shl_ins (n := ins) (by have := HI.out; omega) (by have := HI.out; omega)
                omega)
              exact List.length_pos_of_mem h4
            omega⟩
          clear hlow HS8 IL8
          go_wp2
          refine bodyPost_ret (results_ctt (fn := Try.f28) rfl _ _ w.heap.size 25 #[.int .i64 ins, .int .i64 outs, .slice A7 (minRows T).length c7] (0, 0) _ rfl RB9.out Try.underlying25 rfl (by kernel_rfl)) rfl ?_
          refine ⟨.slice A7 (minRows T).length c7, _, HPOS.out, rfl, ?_, HB9.out⟩
          rw [← HMIN.out]
          exact Kd.S_mono (Kd.S_lower HS9.out (by have := IL6.out.hb.size; exact this)) (fun k hk => trivial)
        · have HUI : Aside0 (InW ins (way ++ y ++ x)) := ⟨((CW4.out way hway).1.app hy).app (TLW.out x hx).1⟩
          have HUL : Aside0 (1 ≤ (way ++ y ++ x).length ∧ (way ++ y ++ x).length ≤ 1 + 12 * (i + 1)) := ⟨by
            have h1 := (CW4.out way hway).2; have h2 := TLW.out x hx; have h3 := HS.out; have h4 := HWM4.out; have h5 := HN5.out; have h6 := WP4.out
            rw [List.length_append, List.length_append]; omega⟩
          have HUM : Aside0 (∀ tests' : List (List Int), (∀ x ∈ tests, x ∈ tests') → (∀ z, z <:+ (way ++ y ++ x) → z ≠ [] → z ∈ tests') → Box.cnt (bm t) (minRows t).length (tests.map lets) < Box.cnt (bm t) (minRows t).length (tests'.map lets)) := ⟨fun tests' h1 h2 => CI4.out.more HO.out HK.out (fun x hx => (TLW.out x hx).1) HTL4.out HUI.out hne h1 h2⟩
          have HZ5 : Aside0 (w.heap.size ≤ (w4.alloc (.cells #[.int .i64 ins, .int .i64 outs, .slice A9 T.length c9] 25)).heap.size) := ⟨by have := HZ34.out; have := IL6.out.gl; simp; omega⟩
          have U6 := Aside0.mk (Kd.R_lower hr6 HZ5.out)
          clear hway hy hyl hx hne hr6 HT6 X6 HZ5
          generalize hu : way ++ y ++ x = u at *
          clear hu
          obtain ⟨a6, q6, e6⟩ := Kd.R_slice1 U6.out (by have := HUL.out; omega)
          injection e6 with e6 e7 e8
          clear e7
          subst e6
          subst e8
          have hq := fun (W : World) => Lib.run_eql_slice_nil (P := Try.prog) W 22 3 (some a6) u.length c6 0 0 Try.underlying22
          have q5 : w6.cell? ⟨g, 5, none⟩ = some (.slice At tests.length ct) := (blk_cell IL6.out.lb 5).trans rfl
          have hu1 : (1 : Int) ≤ (u.length : Int) := by have := HUL.out; omega
          have hu2 : (u.length : Int) ≤ 1000 := by have := HUL.out; have := HIN.out; have := HS.out; omega
          have ht2 : (tests.length : Int) ≤ 1000 := by have := TLN.out; have := HIN.out; have := HS.out; omega
          go_wp2
          clear hq q5
          have E0 : Aside0 (tests ++ [] = tests) := ⟨by simp⟩
          go_loopw [17] (fun v17 wr => ∃ (q : Nat) (vt : Value) (ext : List (List Int)), q ≤ u.length ∧ v17 = .int .i64 ((q : Int) - 1) ∧ Aside0 (LInv w wr g gb ins outs ((n : Int) + n4 + n6) vt (tests ++ ext) (.slice Aw ways.length cw)) ∧ Aside0 (Kd.R (Kd.int .i64) 3 wr w.heap.size (fun k => k ≠ g) (.slice (some a6) u.length c6) u) ∧ Aside0 (ext.length + q ≤ u.length ∧ (∀ x ∈ ext, x <:+ u ∧ x ≠ []) ∧ ∀ r, q ≤ r → r < u.length → u.drop r ∈ tests ++ ext)) (fun v17 _ => (intOf v17 + 1).toNat)
          case atStart => exact ⟨u.length, _, [], Nat.le_refl _, by first | rfl | go_num, ⟨by rw [E0.out]; exact IL6.out⟩, U6, ⟨by simp, fun x hx => by (cases hx), fun r h1 h2 => by omega⟩⟩
          case round =>
            obtain ⟨q, vt, ext, hq, rfl, IQ, UQ, EQ⟩ := hrel
            obtain ⟨w7, rfl⟩ : ∃ w7 : World, w7 = wr := ⟨_, rfl⟩
            clear IL6 U6 E0
            obtain ⟨A7, c7, e7⟩ := Kd.R_slice IQ.out.rt
            subst e7
            have HTS : Aside0 (∃ ts, ts = tests ++ ext) := ⟨_, rfl⟩
            obtain ⟨ts, hts⟩ := HTS.out
            rw [← hts] at IQ EQ
            have HTS' := Aside0.mk hts
            clear hts HTS
            have hxl : ∀ x ∈ ts, x.length ≤ 1000 := fun x hx => by
              rw [HTS'.out] at hx
              have h2 := HIN.out; have h3 := HS.out; have h4 := HUL.out
              rcases List.mem_append.1 hx with hx | hx
              · have := TLW.out x hx; omega
              · have := ((EQ.out.2.1 x hx).1).length_le; omega
            have HXL := Aside0.mk hxl
            have HTSL : Aside0 (ts.length ≤ 1000) := ⟨by
              rw [HTS'.out, List.length_append]
              have h2 := HIN.out; have h3 := HS.out; have h4 := HUL.out; have h5 := TLN.out; have := EQ.out.1; omega⟩
            cases q with
            | zero =>
              have ez : ((0 : Nat) : Int) - 1 = -1 := by omega
              rw [ez]
              clear ez
              have hzd : decide ((0 : Int) ≤ -1) = false := rfl
              have HCN := Aside0.mk (HUM.out ts (fun x hx => by rw [HTS'.out]; exact List.mem_append_left _ hx) (fun v hv hvn => by
                obtain ⟨r, hr⟩ := hv
                have hrl : r.length + v.length = u.length := by rw [← hr, List.length_append]
                have hvl : 0 < v.length := List.length_pos_iff.2 hvn
                have h3 := EQ.out.2.2 r.length (by omega) (by omega)
                rw [← hr, List.drop_left' rfl] at h3
                exact h3))
              have hne : ((ts.length : Int) == (tests.length : Int)) = false := beq_eq_false_iff_ne.mpr (fun e => by
                have h1 := HCN.out
                have h2 : ext.length = 0 := by
                  have h3 := congrArg List.length HTS'.out
                  rw [List.length_append] at h3; omega
                have h4 : ts = tests := by rw [HTS'.out, List.eq_nil_of_length_eq_zero h2, List.append_nil]
                rw [h4] at h1
                omega)
              have q5 : w7.cell? ⟨g, 5, none⟩ = some (.slice A7 ts.length c7) := (blk_cell IQ.out.lb 5).trans rfl
              have TN : Aside0 (TI t j (i + 1) ins ts) := ⟨{
                one := fun a ha => by rw [HTS'.out]; exact List.mem_append_left _ (TL.out.one a ha)
                word := fun x hx => by
                  rw [HTS'.out] at hx
                  rcases List.mem_append.1 hx with hx | hx
                  · have := TLW.out x hx; exact ⟨this.1, this.2.1, by omega⟩
                  · have h1 := EQ.out.2.1 x hx
                    have h2 := h1.1.length_le
                    have h3 := HUL.out
                    exact ⟨fun b hb => HUI.out b (h1.1.subset hb), List.length_pos_iff.2 h1.2, by omega⟩
                len := by
                  rw [HTS'.out, List.length_append]
                  have h2 := HIN.out; have h3 := HS.out; have h4 := HUL.out; have h5 := TLN.out; have := EQ.out.1; omega
                cnt := by have h1 := HCN.out; have h2 := TL.out.cnt; omega }⟩
              go_wp2
              go_roundw
              case rel => exact ⟨i + 1, n + n4 + n6, _, _, ts, by go_num, ⟨by
                have h := IQ.out
                rwa [show (n : Int) + n4 + n6 = ((n + n4 + n6 : Nat) : Int) by omega] at h⟩, ⟨by
                have h1 := HN4.out.1; have h2 := NL.out; have h3 := HIN.out; have h4 := HS.out; have h5 := TLN.out; have h9 := NG6.out; have h10 := WP4.out; have h11 := HN5.out; have h12 := HWM4.out
                have h6 : states * j * (1 + tests.length) ≤ 24 * 605 := Nat.mul_le_mul (Nat.mul_le_mul h4 HK4.out) (by omega)
                have h7 : ways.length * (wc (shl .i64 1 ins).toNat N5 * tests.length) ≤ 6 * (5461 * 604) := Nat.mul_le_mul (by omega) (Nat.mul_le_mul (by rw [HK.out, Int.toNat_natCast]; exact wc_le HK4.out (by omega)) (by omega))
                omega⟩, TN⟩
              case measure => simp [intOf]; omega
            | succ p =>
              have ep : (((p + 1 : Nat) : Int) - 1) = (p : Int) := by omega
              rw [ep]
              clear ep
              have hpu : (p : Int) ≤ (u.length : Int) := by omega
              have hp0 : (0 : Int) ≤ (p : Int) := by omega
              have hcu := (Kd.R_reads' UQ.out).2.1
              have hpc : (p : Int) ≤ (c6 : Int) := by omega
              have hcd : ¬ c6 = p := by omega
              have HPU := Aside0.mk hq
              have hpd : decide ((0 : Int) ≤ (p : Int)) = true := decide_eq_true (by omega)
              have I8 := Aside0.mk (IQ.out.alloc (.cells #[.slice (some (a6.add p)) (u.length - p) (c6 - p)] 22))
              have U8 := Aside0.mk (Kd.R_alloc UQ.out (.cells #[.slice (some (a6.add p)) (u.length - p) (c6 - p)] 22))
              have X8 := Aside0.mk (blk_new w7 (.cells #[.slice (some (a6.add p)) (u.length - p) (c6 - p)] 22))
              have hz : (u.drop p).length = u.length - p := List.length_drop
              have HD8 : Aside0 (∀ W', Kd.C (Kd.int .i64) W' (some a6) u.length u → Kd.C (Kd.int .i64) W' (some (a6.add p)) (u.drop p).length (u.drop p)) := ⟨fun W' h => by
                have h5 := Kd.C_drop (m := p) (c := c6) h (by omega) hcu
                rw [if_neg hcd, show p * (Kd.int .i64).sz = p from Nat.mul_one p] at h5
                exact h5⟩
              have C8 := Aside0.mk (contains_calls A7 (some (a6.add p)) c7 (c6 - p) w7.heap.size ts (u.drop p) (w7.alloc (.cells #[.slice (some (a6.add p)) (u.length - p) (c6 - p)] 22)) (Kd.R_reads' I8.out.rt).2.2 (HD8.out _ (Kd.R_reads' U8.out).2.2) (by rw [hz]; omega) (fun x hx => by have := hxl x hx; omega) (by rw [hz]; exact (blk_cell X8.out 0).trans rfl))
              have HZ := Aside0.mk hz
              clear hz hxl
              generalize hzz : u.drop p = z at *
              have HZZ := Aside0.mk hzz
              clear hzz
              have q5 : (w7.alloc (.cells #[.slice (some (a6.add p)) (u.length - p) (c6 - p)] 22)).cell? ⟨g, 5, none⟩ = some (.slice A7 ts.length c7) := (blk_cell I8.out.lb 5).trans rfl
              go_wp2_with fail
              (with_reducible refine C8.out.mono ?_)
              rintro e w9 ⟨rfl, hd9⟩
              obtain ⟨nd, rfl⟩ := hd9
              have I9 := Aside0.mk (I8.out.drewN nd)
              have U9 := Aside0.mk (Kd.R_drewN U8.out nd)
              have X9 := Aside0.mk (blk_drewN X8.out nd)
              clear C8 I8 U8 X8 q5
              generalize World.drewN (w7.alloc (.cells #[.slice (some (a6.add p)) (u.length - p) (c6 - p)] 22)) nd = w9 at *
              by_cases hin : z ∈ ts
              · have hind : decide (z ∈ ts) = true := decide_eq_true hin
                have HIN' := Aside0.mk hin
                clear hin
                have hpm : wrap64 ((p : Int) - 1) = (p : Int) - 1 := by unfold wrap64; omega
                go_wp2
                go_roundw
                case rel => exact ⟨p, _, ext, by omega, rfl, ⟨by rw [← HTS'.out]; exact I9.out⟩, U9, ⟨by have := EQ.out.1; omega, EQ.out.2.1, fun r h1 h2 => by
                  rw [← HTS'.out]
                  rcases Nat.eq_or_lt_of_le h1 with h3 | h3
                  · rw [← h3, HZZ.out]; exact HIN'.out
                  · exact EQ.out.2.2 r h3 h2⟩⟩
                case measure => simp [intOf]
              · have hind : decide (z ∈ ts) = false := decide_eq_false hin
                have HIN' := Aside0.mk hin
                clear hin
                have HXB := Aside0.mk (Kd.R_lt IQ.out.rt)
                go_upto_region 28 with (fail)
                have x5 : w9.cell? ⟨g, 5, none⟩ = some (.slice A7 ts.length c7) := (blk_cell I9.out.lb 5).trans rfl
                have x18 : w9.cell? ⟨w7.heap.size, 0, none⟩ = some (.slice (some (a6.add p)) (u.length - p) (c6 - p)) := (blk_cell X9.out 0).trans rfl
                refine start_ (n := 12) (S := fun w' => w'.cell? ⟨g, 5, none⟩ = some (.slice A7 ts.length c7) ∧ w'.cell? ⟨w7.heap.size, 0, none⟩ = some (.slice (some (a6.add p)) (u.length - p) (c6 - p))) (ds := [11]) #[false, false, false, false, false, false, false, false, false, false, false, false] (by kernel_rfl) rfl rfl ⟨x5, x18⟩ (fun hHeld => ?_)
                have I10 := Aside0.mk I9.out.drew
                have U10 := Aside0.mk (Kd.R_drew U9.out)
                have X10 := Aside0.mk (blk_drew X9.out)
                clear I9 U9 X9 x5 x18
                generalize w9.drew = w10 at *
                refine pure_ (i := 0) (N := (some 137)) (v := ?_) (a' := ?_) #[true, false, false, false, false, false, false, false, false, false, false, false] rfl rfl (by kernel_rfl) (fun _ _ _ h => h) (Or.inl ⟨by rfl, ?_⟩) ?_ ?_
                rotate_left
                · intro w'
                  go_simp
                  with_reducible rfl
                rotate_left
                · simp only [Act.put, List.setIfInBounds_toArray, List.set_cons_zero, List.set_cons_succ, i64_w, i32_w]
                  rfl
                refine pure_ (i := 1) (N := (some 138)) (v := ?_) (a' := ?_) #[true, true, false, false, false, false, false, false, false, false, false, false] rfl rfl (by kernel_rfl) (fun _ _ _ h => h) (Or.inl ⟨by rfl, ?_⟩) ?_ ?_
                rotate_left
                · intro w'
                  go_simp
                  with_reducible rfl
                rotate_left
                · simp only [Act.put, List.setIfInBounds_toArray, List.set_cons_zero, List.set_cons_succ, i64_w, i32_w]
                  rfl
                refine pure_ (i := 2) (N := (some 139)) (v := ?_) (a' := ?_) #[true, true, true, false, false, false, false, false, false, false, false, false] rfl rfl (by kernel_rfl) (fun _ _ _ h => h) (Or.inl ⟨by rfl, ?_⟩) ?_ ?_
                rotate_left
                · intro w'
                  go_simp
                  with_reducible rfl
                rotate_left
                · simp only [Act.put, List.setIfInBounds_toArray, List.set_cons_zero, List.set_cons_succ, i64_w, i32_w]
                  rfl
                refine pure_ (i := 3) (N := (some 140)) (v := ?_) (a' := ?_) #[true, true, true, true, false, false, false, false, false, false, false, false] rfl rfl (by kernel_rfl) (fun _ _ _ h => h) (Or.inl ⟨by rfl, ?_⟩) ?_ ?_
                rotate_left
                · intro w'
                  go_simp
                  with_reducible rfl
                rotate_left
                · simp only [Act.put, List.setIfInBounds_toArray, List.set_cons_zero, List.set_cons_succ, i64_w, i32_w]
                  rfl
                refine take_ (i := 4) (N := (some 141)) (v := ?_) (a' := ?_) #[true, true, true, true, true, false, false, false, false, false, false, false] rfl rfl (by kernel_rfl) (fun _ _ _ h => h) (Or.inl ⟨by rfl, ?_⟩) hHeld ?_ ?_
                rotate_left
                · rintro w' ⟨s0, s1⟩
                  go_simp
                  with_reducible rfl
                rotate_left
                · simp only [Act.put, List.setIfInBounds_toArray, List.set_cons_zero, List.set_cons_succ, i64_w, i32_w]
                  rfl
                refine take_ (i := 5) (N := (some 142)) (v := ?_) (a' := ?_) #[true, true, true, true, true, true, false, false, false, false, false, false] rfl rfl (by kernel_rfl) (fun _ _ _ h => h) (Or.inl ⟨by rfl, ?_⟩) hHeld ?_ ?_
                rotate_left
                · rintro w' ⟨s0, s1⟩
                  go_simp
                  with_reducible rfl
                rotate_left
                · simp only [Act.put, List.setIfInBounds_toArray, List.set_cons_zero, List.set_cons_succ, i64_w, i32_w]
                  rfl
                refine one_ (i := 6) (N := (some 143)) #[true, true, true, true, true, true, true, false, false, false, false, false] rfl rfl (by kernel_rfl) (by decide) (fun K hK => ?_)
                refine goes_ Try.func56 (by kernel_rfl) rfl #[.slice (some (a6.add p)) (u.length - p) (c6 - p)] (by rfl) rfl rfl (by (try simp only [List.map_toArray, List.map_cons, List.map_nil]); first | done | rfl) ?_
                have CL := clone_I.calls (some (a6.add p)) (c6 - p) z z w10 (HD8.out _ (Kd.R_reads' U10.out).2.2) (by rw [HZ.out]; omega) (by unfold clone_I.f; rw [if_pos (by rw [HZ.out]; omega)])
                rw [HZ.out] at CL
                refine CL.mono ?_
                clear CL
                rintro e w11 ⟨v11, rfl, hR11, hB11⟩
                obtain ⟨A11, c11, e11⟩ := Kd.R_slice hR11
                subst e11
                refine ⟨_, rfl, ?_⟩
                have I11 := Aside0.mk (I10.out.below hB11)
                have U11 := Aside0.mk (Kd.R_below U10.out hB11)
                have X11 := Aside0.mk (blk_below X10.out hB11)
                have R11 := Aside0.mk (Kd.R_lower (base' := w.heap.size) hR11 I10.out.hb.size)
                clear hR11 hB11 I10 U10 X10
                refine hK.out _ _ ⟨(blk_cell I11.out.lb 5).trans rfl, (blk_cell X11.out 0).trans rfl⟩ (fun hHeld => ?_)
                clear hK K
                refine norm_ (a' := ?_) ?_ ?_
                rotate_left
                · show Act.put _ (some 143) _ = _
                  simp only [Act.put, List.setIfInBounds_toArray, List.set_cons_zero, List.set_cons_succ, i64_w, i32_w]
                  rfl
                refine one_ (i := 7) (N := (some 144)) #[true, true, true, true, true, true, true, true, false, false, false, false] rfl rfl (by kernel_rfl) (by decide) (fun K hK => ?_)
                refine value_ (w1 := ?_) (v := ?_) (by rfl) rfl ?_ ?_
                rotate_left 2
                · go_simp
                  constructor
                  · rfl
                  · rfl
                refine hK.out _ _ ⟨(World.cell?_alloc_lt _ _ _ (World.block_lt_of_cell? _ _ hHeld.1)).trans hHeld.1, (World.cell?_alloc_lt _ _ _ (World.block_lt_of_cell? _ _ hHeld.2)).trans hHeld.2⟩ (fun hHeld => ?_)
                clear hK K
                refine norm_ (a' := ?_) ?_ ?_
                rotate_left
                · show Act.put _ (some 144) _ = _
                  simp only [Act.put, List.setIfInBounds_toArray, List.set_cons_zero, List.set_cons_succ, i64_w, i32_w]
                  rfl
                refine one_ (i := 8) (N := (some 145)) #[true, true, true, true, true, true, true, true, true, false, false, false] rfl rfl (by kernel_rfl) (by decide) (fun K hK => ?_)
                refine Kd.R_append_step (Kd.slice 3 (Kd.int .i64)) (w0 := w11) w.heap.size (by rfl) (.tmp 141) (.tmp 144) 91 22 (.slice none 0 0) 24 rfl Try.underlying91 info22c rfl (by decide) (by omega) (.slice A7 ts.length c7) ts z [.slice A11 z.length c11] (fun _ => True) (fun k => True ∧ some k ≠ (Value.slice A7 ts.length c7).ownBlock) rfl rfl ?aP ?aK ?aF ?aO ?aB ?aS ?aL ?_
                (case aP => exact ⟨_, rfl, Kd.R_apart' R11.out (Kd.R_typed I11.out.rt) (by intro q hq; simp [Kd.int, Kd.scalar] at hq; omega)⟩)
                (case aK => exact fun k hk => ⟨trivial, hk.2⟩)
                (case aF => exact fun _ _ => trivial)
                (case aO => exact I11.out.rt)
                (case aB => exact Below.refl _ _)
                (case aS => exact I11.out.hb.size)
                (case aL => have := HTSL.out; omega)
                intro v12 w12 ho hb hg hat
                obtain ⟨A12, c12, e12⟩ := Kd.R_slice ho
                rw [List.length_append, List.length_singleton] at e12
                subst e12
                have L12 := Aside0.mk (blk_grown I11.out.lb hg (Kd.R_ne I11.out.rt I11.out.lb (by decide)))
                have I12 := Aside0.mk (I11.out.addTest ho hg)
                have U12 := Aside0.mk (Kd.R_over' U11.out (Kd.R_typed I11.out.rt) (by intro q hq; simp [Kd.int, Kd.scalar] at hq; omega) hg)
                have X12 := Aside0.mk (blk_grown X11.out hg (fun e => by have := HXB.out _ e.symm; omega))
                clear ho hb hg hat
                refine hK.out _ _ ⟨(blk_cell L12.out 5).trans rfl, (blk_cell X12.out 0).trans rfl⟩ (fun hHeld => ?_)
                clear hK K
                refine norm_ (a' := ?_) ?_ ?_
                rotate_left
                · show Act.put _ (some 145) _ = _
                  simp only [Act.put, List.setIfInBounds_toArray, List.set_cons_zero, List.set_cons_succ, i64_w, i32_w]
                  rfl
                refine pure_ (i := 9) (N := (some 146)) (v := ?_) (a' := ?_) #[true, true, true, true, true, true, true, true, true, true, false, false] rfl rfl (by kernel_rfl) (fun _ _ _ h => h) (Or.inl ⟨by rfl, ?_⟩) ?_ ?_
                rotate_left
                · intro w'
                  go_simp
                  with_reducible rfl
                rotate_left
                · simp only [Act.put, List.setIfInBounds_toArray, List.set_cons_zero, List.set_cons_succ, i64_w, i32_w]
                  rfl
                refine pure_ (i := 10) (N := (some 147)) (v := ?_) (a' := ?_) #[true, true, true, true, true, true, true, true, true, true, true, false] rfl rfl (by kernel_rfl) (fun _ _ _ h => h) (Or.inl ⟨by rfl, ?_⟩) ?_ ?_
                rotate_left
                · intro w'
                  go_simp
                  with_reducible rfl
                rotate_left
                · simp only [Act.put, List.setIfInBounds_toArray, List.set_cons_zero, List.set_cons_succ, i64_w, i32_w]
                  rfl
                refine last_ (i := 11) (N := none) #[true, true, true, true, true, true, true, true, true, true, true, true] rfl rfl (by kernel_rfl) (by decide) (fun K hK => ?_)
                have q12 : w12.cell? ⟨g, 5, none⟩ = some (.slice A7 ts.length c7) := (blk_cell L12.out 5).trans rfl
                have f12 : w12.frozen? ⟨g, 5, none⟩ = false := blk_frozen L12.out 5
                refine skip_ (w1 := ?_) (by rfl) rfl ?_ ?_
                rotate_left
                · go_simp
                  rfl
                refine hK.out _ _ ?_
                clear hK K
                refine done_ (by kernel_rfl) ?_
                have U13 := Aside0.mk (Kd.R_far (p := ⟨g, 5, none⟩) U12.out (fun k hk => hk) (.slice A12 (ts.length + 1) c12))
                clear q12 f12 U12 X12 L12
                generalize w12.setCell ⟨g, 5, none⟩ (.slice A12 (ts.length + 1) c12) = w13 at *
                have hpm : wrap64 ((p : Int) - 1) = (p : Int) - 1 := by unfold wrap64; omega
                go_wp2
                go_roundw
                case rel => exact ⟨p, _, ext ++ [z], by omega, rfl, ⟨by rw [← List.append_assoc, ← HTS'.out]; exact I12.out⟩, U13, ⟨by rw [List.length_append, List.length_singleton]; have := EQ.out.1; omega, fun x hx => by
                  rcases List.mem_append.1 hx with hx | hx
                  · exact EQ.out.2.1 x hx
                  · rcases List.mem_singleton.1 hx with rfl
                    exact ⟨by rw [← HZZ.out]; exact List.drop_suffix _ _, fun e => by have h2 := HZ.out; rw [e] at h2; simp at h2; omega⟩, fun r h1 h2 => by
                  rw [← List.append_assoc, ← HTS'.out]
                  rcases Nat.eq_or_lt_of_le h1 with h3 | h3
                  · rw [← h3, HZZ.out]; exact List.mem_append_right _ (by simp)
                  · exact List.mem_append_left _ (EQ.out.2.2 r h3 h2)⟩⟩
                case measure => simp [intOf]

end Go.Proofs.Ytaalafnkglbcpaa.PL
