/- paper.line, walked by hand: the dots of a line, the longer way step by step. -/
import Derived.Test.YtijfinimlnedpaaPapRound
namespace Go.Proofs.Ytijfinimlnedpaa.PPap
open Go.RowKit Go.Proofs.YtijfinimlnedpaaW.PrintWords Go.Proofs.YtijfinimlnedpaaW.PrintLast Go.Proofs.YtijfinimlnedpaaW.PrintMore
attribute [local go_sem] max2_int min2_int max_two min_two max_three min_three max_four min_four
set_option linter.unusedVariables false
set_option linter.unusedSimpArgs false

/-- A number without its sign. -/
def ab (n : Int) : Int := if 0 ≤ n then n else -n
theorem abs_q (n : Int) (w : World) (h1 : -255 ≤ n) (h2 : n ≤ 255) : Calls Try.prog 90 #[.int .i64 n] w fun e w' => e = .returned (.int .i64 (ab n)) ∧ w = w' := by
  have hj : (if n < -n then -n else n) = ab n := by unfold ab; split <;> split <;> omega
  generalize ab n = j at *
  go_enter Try.func90, Try.ntmps90
  go_wp2
  go_ret
  exact ⟨by first | rfl | (simp only [← hj]; rfl), rfl⟩

/-- How many steps a line has. -/
def steps (x y u v : Int) : Int := mx (ab (u - x)) (ab (v - y))
def dots (x y u v n : Int) (k : Nat) : List S132 := ⟨x, y⟩ :: (List.range k).map fun i : Nat => ⟨rnd x u ((i : Int) + 1) n, rnd y v ((i : Int) + 1) n⟩
theorem dots_succ (x y u v n : Int) (k : Nat) : dots x y u v n (k + 1) = dots x y u v n k ++ [⟨rnd x u ((k : Int) + 1) n, rnd y v ((k : Int) + 1) n⟩] := by
  unfold dots; rw [List.range_succ, List.map_append]; rfl
theorem dots_len (x y u v n : Int) (k : Nat) : (dots x y u v n k).length = k + 1 := by unfold dots; simp

def paper_line.f (a0_0 : Int) (a0_1 : Int) (a1_0 : Int) (a1_1 : Int) : Option (List S132) :=
  if (0 ≤ a0_0 ∧ a0_0 ≤ 255) ∧ (0 ≤ a0_1 ∧ a0_1 ≤ 255) ∧ (0 ≤ a1_0 ∧ a1_0 ≤ 255) ∧ (0 ≤ a1_1 ∧ a1_1 ≤ 255) then some (dots a0_0 a0_1 a1_0 a1_1 (steps a0_0 a0_1 a1_0 a1_1) (steps a0_0 a0_1 a1_0 a1_1).toNat) else none

/-- The counter behind a pointer. -/
def kOf (v : Value) (W : World) : Nat := match v with
  | .pointer (some a) => (match W.cell? a with | some (.int _ i) => i.toNat | _ => 0)
  | _ => 0
theorem kOf_eq {W : World} {a : Addr} {i : Int} (h : W.cell? a = some (.int .i64 i)) : kOf (.pointer (some a)) W = i.toNat := by simp [kOf, h]
theorem R_one (W : World) (x y : Int) (base : Nat) (hb : base ≤ W.heap.size) : Kd.R k132 132 (W.alloc (.cells #[.int .i64 x, .int .i64 y] 132)) base (fun _ => True) (.slice (some ⟨W.heap.size, 0, none⟩) 1 1) [⟨x, y⟩] :=
  ⟨fun _ _ => trivial, OwnRow.lit W base (ps := [(⟨x, y⟩ : S132)]) (inner := [.int .i64 x, .int .i64 y]) (Reps.c2 (k132_mkM _ _ _ (⟨x, y⟩ : S132)) (Reps.none _ _)) hb (by simp)⟩
structure LineAt (W : World) (H : Nat) (x y u v n : Int) : Prop where
  x : W.cell? ⟨H, 0, none⟩ = some (.int .i64 x)
  y : W.cell? ⟨H, 1, none⟩ = some (.int .i64 y)
  u : W.cell? ⟨H + 1, 0, none⟩ = some (.int .i64 u)
  v : W.cell? ⟨H + 1, 1, none⟩ = some (.int .i64 v)
  n : W.cell? ⟨H + 2, 0, none⟩ = some (.int .i64 n)
theorem cell_al {W : World} {a : Addr} {v : Value} (h : W.cell? a = some v) (o : Obj) : (W.alloc o).cell? a = some v := (World.cell?_alloc_lt _ _ _ (World.block_lt_of_cell? W _ h)).trans h
theorem LineAt.alloc {W : World} {H : Nat} {x y u v n : Int} (h : LineAt W H x y u v n) (o : Obj) : LineAt (W.alloc o) H x y u v n := ⟨cell_al h.x o, cell_al h.y o, cell_al h.u o, cell_al h.v o, cell_al h.n o⟩
theorem LineAt.grown {W W1 : World} {H : Nat} {x y u v n : Int} {row : Option Nat} (h : LineAt W H x y u v n) (hg : W.grownBy W1 row) (hne : ∀ q, q < H + 3 → some q ≠ row) : LineAt W1 H x y u v n :=
  ⟨cell_grown hg h.x (hne _ (by show H < _; omega)), cell_grown hg h.y (hne _ (by show H < _; omega)), cell_grown hg h.u (hne _ (by show H + 1 < _; omega)), cell_grown hg h.v (hne _ (by show H + 1 < _; omega)), cell_grown hg h.n (hne _ (by show H + 2 < _; omega))⟩
theorem LineAt.drew {W : World} {H : Nat} {x y u v n : Int} (h : LineAt W H x y u v n) : LineAt W.drew H x y u v n := ⟨h.x, h.y, h.u, h.v, h.n⟩
set_option maxHeartbeats 4000000 in
set_option maxRecDepth 100000 in
theorem line_walk (x y u v : Int) (w : World) (x0 : 0 ≤ x) (x1 : x ≤ 255) (y0 : 0 ≤ y) (y1 : y ≤ 255) (u0 : 0 ≤ u) (u1 : u ≤ 255) (v0 : 0 ≤ v) (v1 : v ≤ 255) :
    Calls Try.prog 78 #[.agg #[.int .i64 x, .int .i64 y], .agg #[.int .i64 u, .int .i64 v]] w fun e w' => ∃ v0_ : Value, e = .returned (v0_) ∧ Kd.R k132 132 w' w.heap.size (fun _ => True) v0_ (dots x y u v (steps x y u v) (steps x y u v).toNat) ∧ Below w.heap.size w w' := by
  have n0 : 0 ≤ steps x y u v := by unfold steps mx ab; repeat' split <;> omega
  have n1 : steps x y u v ≤ 255 := by unfold steps mx ab; repeat' split <;> omega
  have hx : (if ab (u - x) < ab (v - y) then ab (v - y) else ab (u - x)) = steps x y u v := rfl
  generalize hn : steps x y u v = n at *
  clear hn
  have e1 : IntKind.i64.wrap (u - x) = u - x := IntWalk.i64_in _ (by omega)
  have e2 : IntKind.i64.wrap (v - y) = v - y := IntWalk.i64_in _ (by omega)
  have E1 := Aside0.mk e1
  have E2 := Aside0.mk e2
  clear e1 e2
  go_enter Try.func78, Try.ntmps78
  go_upto_region 1 with (fail)
  go_cut [5] (fun v5 wc => v5 = .pointer (some ⟨w.heap.size + 2, 0, none⟩) ∧ Aside0 (LineAt wc w.heap.size x y u v n) ∧ wc.heap.size = w.heap.size + 3 ∧ Aside0 (Below w.heap.size w wc))
  case first =>
    have e1 := E1.out
    have e2 := E2.out
    go_region_held3 (fun w' => w'.cell? ⟨w.heap.size, 0, none⟩ = some (.int .i64 x) ∧ w'.cell? ⟨w.heap.size, 1, none⟩ = some (.int .i64 y) ∧ w'.cell? ⟨w.heap.size + 1, 0, none⟩ = some (.int .i64 u) ∧ w'.cell? ⟨w.heap.size + 1, 1, none⟩ = some (.int .i64 v)) (go_keep)
      (first | (go_at_call 90; refine (abs_q _ _ (by omega) (by omega)).mono ?_; rintro e w' ⟨rfl, rfl⟩))
    all_goals
      clear e1 e2
      go_wp2
      go_meet
      case rel => exact ⟨rfl, ⟨{ x := by go_simp, y := by go_simp, u := by go_simp, v := by go_simp, n := by go_simp }⟩, by simp, ⟨by repeat (first | (with_reducible first | exact Below.refl _ _ | apply below_alloc | apply pw_below_drewN | apply below_drew1))⟩⟩
  case rest =>
  obtain ⟨rfl, HL, hz, HB⟩ := hcut
  have hL := HL.out
  obtain ⟨c1, c2, c3, c4, c5⟩ := hL
  go_wp2
  go_loopw [6, 7] (fun v6 v7 wr => ∃ (i g : Nat), (i : Int) ≤ n ∧ v7 = .pointer (some ⟨g, 0, none⟩) ∧ w.heap.size + 3 ≤ g ∧ Aside0 (wr.heap[g]? = some (.cells #[.int .i64 ((i : Int) + 1)] 3 (0, 0))) ∧ Aside0 (LineAt wr w.heap.size x y u v n) ∧ Aside0 (Kd.R k132 132 wr (w.heap.size + 3) (fun _ => True) v6 (dots x y u v n i)) ∧ Aside0 (Below w.heap.size w wr)) (fun _ v7 wr => n.toNat + 1 - kOf v7 wr)
  case atStart =>
    refine ⟨0, w.heap.size + 4, by omega, by first | rfl | (simp [hz]), by omega, ⟨?_⟩, ⟨{ x := by go_simp, y := by go_simp, u := by go_simp, v := by go_simp, n := by go_simp }⟩, ⟨?_⟩, ⟨by repeat (first | (with_reducible first | exact HB.out | apply below_alloc))⟩⟩
    · have h1 := blk_new (wc.alloc (Obj.cells #[Value.int IntKind.i64 x, Value.int IntKind.i64 y] 132)) (Obj.cells #[Value.int IntKind.i64 1] 3)
      have h2 : (wc.alloc (Obj.cells #[Value.int IntKind.i64 x, Value.int IntKind.i64 y] 132)).heap.size = w.heap.size + 4 := by simp [hz]
      rw [h2] at h1
      exact h1
    · have h1 := Kd.R_alloc (R_one wc x y (w.heap.size + 3) (by omega)) (Obj.cells #[Value.int IntKind.i64 1] 3)
      rw [hz] at h1
      simpa [dots] using h1
  case round =>
    obtain ⟨i, g, hi, rfl, hg0, HK, HL, HR, HB⟩ := hrel
    obtain ⟨c1, c2, c3, c4, c5⟩ := HL.out
    have hk : wr.cell? ⟨g, 0, none⟩ = some (.int .i64 ((i : Int) + 1)) := blk_cell HK.out 0
    by_cases hlt : (i : Int) + 1 ≤ n
    · have hlt2 : decide ((i : Int) + 1 ≤ n) = true := decide_eq_true hlt
      have HZ : Aside0 (w.heap.size + 3 ≤ wr.heap.size) := ⟨by have := World.block_lt_of_cell? wr _ hk; simp at this; omega⟩
      have NE : Aside0 (∀ q, q < w.heap.size + 3 → some q ≠ u6.ownBlock) := ⟨fun q hq e => by have := Kd.R_base HR.out q e.symm; omega⟩
      have NG : Aside0 (some g ≠ u6.ownBlock) := ⟨Kd.R_ne HR.out HK.out (by decide)⟩
      have DS := Aside0.mk (dots_succ x y u v n i)
      have DL := Aside0.mk (dots_len x y u v n i)
      go_wp2
      have k1 : ((i : Int) + 1) ≤ n := hlt
      go_region_held3 (fun w' => w'.cell? ⟨w.heap.size, 0, none⟩ = some (.int .i64 x) ∧ w'.cell? ⟨w.heap.size, 1, none⟩ = some (.int .i64 y) ∧ w'.cell? ⟨w.heap.size + 1, 0, none⟩ = some (.int .i64 u) ∧ w'.cell? ⟨w.heap.size + 1, 1, none⟩ = some (.int .i64 v) ∧ w'.cell? ⟨w.heap.size + 2, 0, none⟩ = some (.int .i64 n) ∧ w'.cell? ⟨g, 0, none⟩ = some (.int .i64 ((i : Int) + 1)))
        (first
          | go_keep
          | (refine ⟨?_, ?_, ?_, ?_, ?_, ?_⟩
             · exact cell_grown n2_.out c1 (NE.out _ (by show w.heap.size < _; omega))
             · exact cell_grown n2_.out c2 (NE.out _ (by show w.heap.size < _; omega))
             · exact cell_grown n2_.out c3 (NE.out _ (by show w.heap.size + 1 < _; omega))
             · exact cell_grown n2_.out c4 (NE.out _ (by show w.heap.size + 1 < _; omega))
             · exact cell_grown n2_.out c5 (NE.out _ (by show w.heap.size + 2 < _; omega))
             · exact cell_grown n2_.out hk NG.out))
        (first
          | (go_at_call 91; refine (round_calls _ _ ((i : Int) + 1) n ⟨g, 0, none⟩ ⟨w.heap.size + 2, 0, none⟩ _ (by go_simp) (by go_simp) (by omega) (by omega) (by omega) (by omega) (by omega) (by omega) (by omega) (by omega)).mono ?_; rintro e w' ⟨rfl, rfl⟩)
          | (rw [show (wr.alloc (Obj.cells #[Value.int IntKind.i64 (rnd x u ((i : Int) + 1) n), Value.int IntKind.i64 (rnd y v ((i : Int) + 1) n)] 132)).drew = wr.drew.alloc (Obj.cells #[Value.int IntKind.i64 (rnd x u ((i : Int) + 1) n), Value.int IntKind.i64 (rnd y v ((i : Int) + 1) n)] 132) from rfl]; refine Kd.R_append_step k132 (w0 := wr.drew) (w.heap.size + 3) rfl (.tmp 30) (.tmp 44) 133 132 (.agg #[.int .i64 0, .int .i64 0]) 16 rfl Try.underlying133 info132 rfl (by decide) (by omega) u6 (dots x y u v n i) ⟨(rnd x u ((i : Int) + 1) n), (rnd y v ((i : Int) + 1) n)⟩ [.int .i64 (rnd x u ((i : Int) + 1) n), .int .i64 (rnd y v ((i : Int) + 1) n)] (fun _ => True) (fun _ => False) rfl rfl (k132_mkM _ _ _ _) (fun _ hk => hk.elim) (fun _ _ => trivial) (Kd.R_drew HR.out) (Below.refl _ _) HZ.out (by have := DL.out; omega) ?_; intro v105 w11 ho hb hg hat; have n0_ := Aside0.mk hb; have n1_ := Aside0.mk ho; have n2_ := Aside0.mk hg; clear ho hb hg hat))
      all_goals
        go_wp2
        go_roundw
        case rel => exact ⟨i + 1, w11.heap.size, by omega, by first | rfl | simp, by have := n2_.out.size; have := HZ.out; simp at *; omega, ⟨by have h := blk_new w11 (Obj.cells #[Value.int IntKind.i64 (((i : Int) + 1) + 1)] 3); simpa using h⟩, ⟨(HL.out.drew.grown n2_.out NE.out).alloc _⟩, ⟨by rw [DS.out]; exact Kd.R_alloc n1_.out _⟩, ⟨below_alloc ((below_drew HB.out).grown n2_.out HB.out.size (fun k hk => by have := Kd.R_base HR.out k hk; omega)) _⟩⟩
        case measure => rw [kOf_eq (i := (i : Int) + 1 + 1) (blk_cell (blk_new w11 (Obj.cells #[Value.int IntKind.i64 (((i : Int) + 1) + 1)] 3)) 0), kOf_eq hk]; omega
    · have hlt2 : decide ((i : Int) + 1 ≤ n) = false := decide_eq_false hlt
      have hie : n.toNat = i := by omega
      have HE : Aside0 (dots x y u v n n.toNat = dots x y u v n i) := ⟨by rw [hie]⟩
      clear hie
      go_wp2
      go_ret
      exact ⟨_, rfl, by rw [HE.out]; exact Kd.R_lower HR.out (by omega), HB.out⟩
theorem paper_line.calls (a0_0 : Int) (a0_1 : Int) (a1_0 : Int) (a1_1 : Int) (r : List (S132)) (w : World) (h : paper_line.f a0_0 a0_1 a1_0 a1_1 = some r) :
    Calls Try.prog 78 #[.agg #[.int .i64 a0_0, .int .i64 a0_1], .agg #[.int .i64 a1_0, .int .i64 a1_1]] w fun e w' => ∃ v0_ : Value, e = .returned (v0_) ∧ Kd.R k132 132 w' w.heap.size (fun _ => True) v0_ r ∧ Below w.heap.size w w' := by
  unfold paper_line.f at h
  split at h
  · rename_i h1
    obtain ⟨⟨h1, h2⟩, ⟨h3, h4⟩, ⟨h5, h6⟩, h7, h8⟩ := h1
    obtain rfl := Option.some.inj h
    exact line_walk _ _ _ _ w h1 h2 h3 h4 h5 h6 h7 h8
  · cases h
end Go.Proofs.Ytijfinimlnedpaa.PPap
