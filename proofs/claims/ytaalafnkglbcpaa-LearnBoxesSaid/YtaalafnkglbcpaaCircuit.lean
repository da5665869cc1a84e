/- bakemake.Circuit, walked by hand: whatever the numbers are, a valid circuit is made. -/
import Derived.Test.YtaalafnkglbcpaaCircInv
import Derived.Deep.RegionLaw
import Derived.Deep.RegionWith
namespace Go.Proofs.Ytaalafnkglbcpaa.PG
open Go.RowKit Go.Proofs.YtaalafnkglbcpaaW.PrintWords Go.Proofs.YtaalafnkglbcpaaW.PrintLast Go.Proofs.YtaalafnkglbcpaaW.PrintMore
set_option linter.unusedVariables false

theorem sl_eq {a b : Nat} (h : a = b) : Value.slice (some ⟨a, 0, none⟩) 1 1 = Value.slice (some ⟨b, 0, none⟩) 1 1 := by rw [h]

/-- A gate at place i of a circuit with so many inputs and flip-flops. -/
def GateOk (ins nf : Int) (i : Nat) (g : S50) : Prop :=
  (g.f0 = 0 ∧ g.f1 = 0 ∧ g.f2 = 0 ∧ g.f3 = 0 ∧ 0 ≤ g.f4 ∧ g.f4 < 2) ∨ (g.f0 = 1 ∧ g.f1 = 0 ∧ g.f2 = 0 ∧ g.f3 = 0 ∧ 0 ≤ g.f4 ∧ g.f4 < ins) ∨ (g.f0 = 2 ∧ g.f1 = 0 ∧ g.f2 = 0 ∧ g.f3 = 0 ∧ 0 ≤ g.f4 ∧ g.f4 < nf) ∨
  (g.f0 = 3 ∧ 0 ≤ g.f1 ∧ g.f1 < i ∧ g.f2 = 0 ∧ g.f3 = 0 ∧ g.f4 = 0) ∨ ((g.f0 = 4 ∨ g.f0 = 5 ∨ g.f0 = 6) ∧ 0 ≤ g.f1 ∧ g.f1 < i ∧ 0 ≤ g.f2 ∧ g.f2 < i ∧ g.f3 = 0 ∧ g.f4 = 0) ∨
  (g.f0 = 7 ∧ 0 ≤ g.f1 ∧ g.f1 < i ∧ 0 ≤ g.f2 ∧ g.f2 < i ∧ 0 ≤ g.f3 ∧ g.f3 < i ∧ g.f4 = 0)
def GatesOk (ins nf : Int) (l : List S50) : Prop := ∀ i, i < l.length → GateOk ins nf i (l.getD i z50)
theorem GatesOk.nil (ins nf : Int) : GatesOk ins nf [] := fun i hi => by simp at hi
theorem GatesOk.snoc {ins nf : Int} {l : List S50} {g : S50} (h : GatesOk ins nf l) (hg : GateOk ins nf l.length g) : GatesOk ins nf (l ++ [g]) := by
  intro i hi
  rcases Nat.lt_or_ge i l.length with h1 | h1
  · have := h i h1
    rwa [List.getD_eq_getElem?_getD, List.getElem?_append_left h1, ← List.getD_eq_getElem?_getD]
  · have : i = l.length := by simp at hi; omega
    subst this
    rw [List.getD_eq_getElem?_getD, List.getElem?_append_right (Nat.le_refl _)]; simpa using hg
def InR (n : Int) (l : List Int) : Prop := ∀ x ∈ l, 0 ≤ x ∧ x < n
theorem InR.nil (n : Int) : InR n [] := fun x hx => by cases hx
theorem InR.snoc {n : Int} {l : List Int} {x : Int} (h : InR n l) (h0 : 0 ≤ x) (h1 : x < n) : InR n (l ++ [x]) := by
  intro y hy
  rcases List.mem_append.1 hy with hy | hy
  · exact h y hy
  · simp at hy; subst hy; exact ⟨h0, h1⟩

/-- A valid circuit. -/
structure ValidC (ins : Int) (gates : List S50) (outs next init : List Int) : Prop where
  i0 : 1 ≤ ins
  i1 : ins ≤ 3
  g0 : 1 ≤ gates.length
  g1 : gates.length ≤ 30
  gok : GatesOk ins next.length gates
  o0 : 1 ≤ outs.length
  o1 : outs.length ≤ 3
  ook : InR gates.length outs
  n1 : next.length ≤ 3
  nok : InR gates.length next
  il : init.length = next.length
  iok : InR 2 init

theorem R_set5 {α : Type} {d : Kd α} {e B : Nat} {W : World} {v : Value} {xs : List α} (hE : d.E = []) (h : d.R e W (B + 3) Yes v xs) (u0 u1 u2 u3 u4 : Value) : d.R e (((((W.setCell ⟨B, 0, none⟩ u0).setCell ⟨B, 1, none⟩ u1).setCell ⟨B, 2, none⟩ u2).setCell ⟨B, 3, none⟩ u3).setCell ⟨B, 4, none⟩ u4) B Yes v xs := by
  have hb : B < B + 3 := by omega
  exact Kd.R_lower (R_set hE (R_set hE (R_set hE (R_set hE (R_set hE h (p := ⟨B, 0, none⟩) hb u0) (p := ⟨B, 1, none⟩) hb u1) (p := ⟨B, 2, none⟩) hb u2) (p := ⟨B, 3, none⟩) hb u3) (p := ⟨B, 4, none⟩) hb u4) (by omega)

def CircPost (w0 : World) (e : Ending) (w' : World) : Prop := ∃ (ins : Int) (vg vo vn vi : Value) (gates : List S50) (outs next init : List Int), e = .returned (.agg #[.int .i64 ins, vg, vo, vn, vi]) ∧ ValidC ins gates outs next init ∧
  Kd.R k50 50 w' w0.heap.size Yes vg gates ∧ Kd.R (Kd.int .i64) 3 w' w0.heap.size Yes vo outs ∧ Kd.R (Kd.int .i64) 3 w' w0.heap.size Yes vn next ∧ Kd.R (Kd.int .i64) 3 w' w0.heap.size Yes vi init ∧ Apart vo vn ∧ Apart vo vi ∧ Apart vn vi ∧ Below w0.heap.size w0 w'

set_option maxRecDepth 100000 in
set_option maxHeartbeats 8000000 in
theorem circuit_calls (A0 : Option Addr) (c0 : Nat) (l0 : List Int) (w0 : World) (hr0 : Kd.C (Kd.int .i64) w0 A0 l0.length l0) (hc0 : l0.length ≤ c0) :
    Calls Try.prog 18 #[.slice A0 l0.length c0] w0 (CircPost w0) := by
  have HR0 := Aside0.mk hr0
  have HC0 := Aside0.mk hc0
  clear hr0 hc0
  go_enter Try.func18, Try.ntmps18
  go_wp2_with fail
  have hB1 : Below w0.heap.size w0 ((w0.alloc (Obj.cells #[Value.int IntKind.i64 0, Value.slice none 0 0, Value.slice none 0 0, Value.slice none 0 0, Value.slice none 0 0] 38)).alloc (Obj.cells #[Value.slice A0 l0.length c0] 73)) := below_alloc (below_alloc (Below.refl _ _) _) _
  have hS1 : StreamAt w0 ((w0.alloc (Obj.cells #[Value.int IntKind.i64 0, Value.slice none 0 0, Value.slice none 0 0, Value.slice none 0 0, Value.slice none 0 0] 38)).alloc (Obj.cells #[Value.slice A0 l0.length c0] 73)) (w0.heap.size + 1) :=
    ⟨A0, c0, l0, by simpa using blk_new (w0.alloc (Obj.cells #[Value.int IntKind.i64 0, Value.slice none 0 0, Value.slice none 0 0, Value.slice none 0 0, Value.slice none 0 0] 38)) (Obj.cells #[Value.slice A0 l0.length c0] 73), HC0.out, HR0.out⟩
  have hR1 : ((w0.alloc (Obj.cells #[Value.int IntKind.i64 0, Value.slice none 0 0, Value.slice none 0 0, Value.slice none 0 0, Value.slice none 0 0] 38)).alloc (Obj.cells #[Value.slice A0 l0.length c0] 73)).heap[w0.heap.size]? = some (.cells #[.int .i64 0, .slice none 0 0, .slice none 0 0, .slice none 0 0, .slice none 0 0] 38 (0, 0)) := blk_alloc (blk_new _ _) _
  have hZ1 : ((w0.alloc (Obj.cells #[Value.int IntKind.i64 0, Value.slice none 0 0, Value.slice none 0 0, Value.slice none 0 0, Value.slice none 0 0] 38)).alloc (Obj.cells #[Value.slice A0 l0.length c0] 73)).heap.size = w0.heap.size + 2 := by simp
  generalize hW1 : ((w0.alloc (Obj.cells #[Value.int IntKind.i64 0, Value.slice none 0 0, Value.slice none 0 0, Value.slice none 0 0, Value.slice none 0 0] 38)).alloc (Obj.cells #[Value.slice A0 l0.length c0] 73)) = W1 at *
  clear hW1
  (with_reducible refine (next_calls w0 W1 (w0.heap.size + 1) 3 hS1 hB1 (by omega) (by omega)).mono ?_)
  rintro e w1 ⟨r1, rfl, r10, r11, hg1, hz1, hs1⟩
  have hz2 : w1.heap.size = w0.heap.size + 2 := by omega
  have HB2 := Aside0.mk (hB1.grown hg1 hB1.size (fun k hk => by injection hk with hk; omega))
  have HR2 := Aside0.mk (blk_grown hR1 hg1 (by simp))
  have HS2 := Aside0.mk hs1
  clear hB1 hS1 hR1 hZ1 hg1 hz1 hs1 HR0 HC0
  go_wp2
  have HI0 : Aside0 (CInv w0 (w1.alloc (Obj.cells #[Value.int IntKind.i64 (1 + r1), Value.slice none 0 0, Value.slice none 0 0, Value.slice none 0 0, Value.slice none 0 0] 38)) (1 + r1) (.slice none 0 0) (.slice none 0 0) (.slice none 0 0) (.slice none 0 0) [] [] [] []) := ⟨{
    hb := below_alloc HB2.out _, res := blk_alloc HR2.out _, st := HS2.out.kept (World.grownBy_alloc _ _ none) (by simp), blk := by rw [← hz2]; exact blk_new _ _,
    rg := Kd.R_nil _ _ _ _ _, ro := Kd.R_nil _ _ _ _ _, rn := Kd.R_nil _ _ _ _ _, ri := Kd.R_nil _ _ _ _ _, aon := (by intro k hk; cases hk), aoi := (by intro k hk; cases hk), ani := (by intro k hk; cases hk) }⟩
  obtain ⟨ins, hins⟩ : ∃ ins, 1 + r1 = ins := ⟨_, rfl⟩
  have hi0 : 1 ≤ ins := by omega
  have hi1 : ins ≤ 3 := by omega
  rw [hins] at HI0 ⊢
  generalize w1.alloc (Obj.cells #[Value.int IntKind.i64 ins, Value.slice none 0 0, Value.slice none 0 0, Value.slice none 0 0, Value.slice none 0 0] 38) = W2 at *
  clear hz2 HB2 HR2 HS2
  have HINS := Aside0.mk hins
  clear hins
  go_loopw [19] (fun v19 wr => ∃ (i : Nat) (vg : Value) (gates : List S50), (i : Int) ≤ ins ∧ v19 = .int .i64 i ∧ Aside0 (CInv w0 wr ins vg (.slice none 0 0) (.slice none 0 0) (.slice none 0 0) gates [] [] []) ∧ Aside0 (gates.length = i ∧ ∀ nf, GatesOk ins nf gates)) (fun v19 _ => ins.toNat - (intOf v19).toNat)
  case atStart => exact ⟨0, _, [], by omega, rfl, HI0, ⟨rfl, fun _ => GatesOk.nil _ _⟩⟩
  case round =>
    obtain ⟨i, vg, gates, hi, rfl, HI, HG⟩ := hrel
    obtain ⟨WA, rfl⟩ : ∃ WA : World, WA = wr := ⟨_, rfl⟩
    by_cases hlt : (i : Int) < ins
    · have hc1 := (blk_cell HI.out.blk 1).trans (show _ = some vg from rfl)
      have hc0 := (blk_cell HI.out.blk 0).trans (show _ = some (.int .i64 ins) from rfl)
      have SL : Aside0 (gates.length ≤ 3) := ⟨by have := HG.out.1; omega⟩
      go_wp2_with ((with_reducible refine gate_builtin (b := .append) (xs := #[.tmp 23, .tmp 26]) rfl ?_); at_builtin; refine Kd.R_append k50 (w0 := WA) (w0.heap.size + 3) rfl (.tmp 23) (.tmp 26) 36 50 (.agg #[.int .i64 0, .int .i64 0, .int .i64 0, .int .i64 0, .int .i64 0]) 40 rfl Try.underlying36 info50 rfl (by decide) (by omega) vg gates ⟨1, 0, 0, 0, (i : Int)⟩ [.int .i64 1, .int .i64 0, .int .i64 0, .int .i64 0, .int .i64 (i : Int)] Yes (fun _ => False) rfl ?aX ?aP (fun _ hk => hk.elim) (fun _ _ => trivial) HI.out.rg (Below.refl _ _) ?aS ?aL ?_; (case aX => first | rfl | (simp; done)); (case aP => first | exact rfl | exact k50_mkM _ _ _ _); (case aS => have h1_ := blk_lt HI.out.blk; omega); (case aL => have h1_ := SL.out; first | omega | (simp; omega)); intro v7 w7 ho hb hg hat; obtain ⟨A7, q7, he7, hl7, hq7⟩ := Kd.R_reads ho; subst he7; clear hl7 hq7; have HR7 := Aside0.mk ho; have HG7 := Aside0.mk hg; have HA7 := Aside0.mk hat; have hk7 := blk_grown HI.out.blk hg (by intro e_; have h1_ := own_lt HI.out.rg e_.symm; omega); have hc7 := (blk_cell hk7 1).trans (show _ = some vg from rfl); have hf7 := blk_frozen hk7 1; clear ho hb hg hat hk7)
      go_roundw
      case rel => exact ⟨i + 1, _, gates ++ [⟨1, 0, 0, 0, (i : Int)⟩], by omega, by go_num, ⟨by have h := HI.out.addGate HR7.out HG7.out; simp only [List.length_append, List.length_cons, List.length_nil, Nat.zero_add] at h; exact h⟩, ⟨by simp [HG.out.1], fun nf => (HG.out.2 nf).snoc (by right; left; exact ⟨rfl, rfl, rfl, rfl, by show 0 ≤ (i : Int); omega, hlt⟩)⟩⟩
      case measure => simp [intOf]; omega
    · have hie : (i : Int) = ins := by omega
      have HIE := Aside0.mk hie
      clear hie
      go_wp2_with fail
      (with_reducible refine (next_calls w0 WA (w0.heap.size + 1) 4 HI.out.st HI.out.hb (by omega) (by omega)).mono ?_)
      rintro e w3 ⟨fl, rfl, fl0, fl1, hg3, hz3, hs3⟩
      have HI3 := Aside0.mk (HI.out.asked hg3 hs3)
      clear hg3 hz3 hs3 HI
      go_wp2
      go_loopw [33] (fun v33 wr => ∃ (i : Nat) (vg vi : Value) (gates : List S50) (init : List Int), (i : Int) ≤ fl ∧ v33 = .int .i64 i ∧ Aside0 (CInv w0 wr ins vg (.slice none 0 0) (.slice none 0 0) vi gates [] [] init) ∧ Aside0 ((gates.length : Int) = ins + i ∧ GatesOk ins fl gates ∧ init.length = i ∧ InR 2 init)) (fun v33 _ => fl.toNat - (intOf v33).toNat)
      case atStart => exact ⟨0, _, _, gates, [], by omega, rfl, HI3, ⟨by have := HG.out.1; have := HIE.out; omega, HG.out.2 _, rfl, InR.nil _⟩⟩
      case round =>
        obtain ⟨j, vg, vi, gates, init, hj, rfl, HI, HG⟩ := hrel
        obtain ⟨WA, rfl⟩ : ∃ WA : World, WA = wr := ⟨_, rfl⟩
        by_cases hjl : (j : Int) < fl
        · have hc1 := (blk_cell HI.out.blk 1).trans (show _ = some vg from rfl)
          have SL : Aside0 (gates.length ≤ 7) := ⟨by have := HG.out.1; omega⟩
          go_wp2_with ((with_reducible refine gate_builtin (b := .append) (xs := #[.tmp 37, .tmp 40]) rfl ?_); at_builtin; refine Kd.R_append k50 (w0 := WA) (w0.heap.size + 3) rfl (.tmp 37) (.tmp 40) 36 50 (.agg #[.int .i64 0, .int .i64 0, .int .i64 0, .int .i64 0, .int .i64 0]) 40 rfl Try.underlying36 info50 rfl (by decide) (by omega) vg gates ⟨2, 0, 0, 0, (j : Int)⟩ [.int .i64 2, .int .i64 0, .int .i64 0, .int .i64 0, .int .i64 (j : Int)] Yes (fun _ => False) rfl ?aX ?aP (fun _ hk => hk.elim) (fun _ _ => trivial) HI.out.rg (Below.refl _ _) ?aS ?aL ?_; (case aX => first | rfl | (simp; done)); (case aP => first | exact rfl | exact k50_mkM _ _ _ _); (case aS => have h1_ := blk_lt HI.out.blk; omega); (case aL => have h1_ := SL.out; first | omega | (simp; omega)); intro v7 w7 ho hb hg hat; obtain ⟨A7, q7, he7, hl7, hq7⟩ := Kd.R_reads ho; subst he7; clear hl7 hq7; have HR7 := Aside0.mk ho; have HG7 := Aside0.mk hg; have HA7 := Aside0.mk hat; have hk7 := blk_grown HI.out.blk hg (by intro e_; have h1_ := own_lt HI.out.rg e_.symm; omega); have hc7 := (blk_cell hk7 1).trans (show _ = some vg from rfl); have hf7 := blk_frozen hk7 1; clear ho hb hg hat hk7)
          have h7 := HI.out.addGate HR7.out HG7.out
          simp only [List.length_append, List.length_cons, List.length_nil, Nat.zero_add] at h7
          have HI7 := Aside0.mk h7
          clear h7 hc7 hf7 HR7 HG7 HA7 hc1
          generalize hW8 : w7.setCell ⟨w0.heap.size + 2, 1, none⟩ (.slice A7 (gates.length + 1) q7) = W8 at *
          clear hW8
          have hc8 := (blk_cell HI7.out.blk 4).trans (show _ = some vi from rfl)
          have hf8 := blk_frozen HI7.out.blk 4
          have SL2 : Aside0 (init.length ≤ 7) := ⟨by have := HG.out.2.2.1; omega⟩
          have NX : Aside0 (Calls Try.prog 40 #[.pointer (some ⟨w0.heap.size + 1, 0, none⟩), .int .i64 2] W8.drew (NextPost w0 W8.drew (w0.heap.size + 1) 2)) := ⟨next_calls w0 W8.drew (w0.heap.size + 1) 2 HI7.out.st (below_drew HI7.out.hb) (by omega) (by omega)⟩
          go_region_law (first
              | (refine Kd.R_append_step (Kd.int .i64) (w0 := w9) (w0.heap.size + 3) rfl (.tmp 44) (.tmp 47) 22 3 (.int .i64 0) 8 rfl Try.underlying22 info3 rfl (by decide) (by omega) vi init b9 [.int .i64 b9] Yes (fun _ => False) rfl rfl rfl (fun _ hk => hk.elim) (fun _ _ => trivial) HI9.out.ri (Below.refl _ _) (by have h1_ := blk_lt HI9.out.blk; omega) (by have h1_ := SL2.out; omega) ?_; intro v9 w10 ho hb hg hat; obtain ⟨A9, q9, he9, hl9, hq9⟩ := Kd.R_reads ho; subst he9; clear hl9 hq9; have HR9 := Aside0.mk ho; have HG9 := Aside0.mk hg; have HA9 := Aside0.mk hat; have hk9 := blk_grown HI9.out.blk hg (by intro e_; have h1_ := own_lt HI9.out.ri e_.symm; omega); have hc9 := (blk_cell hk9 4).trans (show _ = some vi from rfl); have hf9 := blk_frozen hk9 4; clear ho hb hg hat hk9)
              | (go_simp; go_at_call 40; (with_reducible refine NX.out.mono ?_); rintro e w9 ⟨b9, rfl, b90, b91, hg9, hz9, hs9⟩; have HI9 := Aside0.mk ((show CInv w0 W8.drew ins (.slice A7 (gates.length + 1) q7) (.slice none 0 0) (.slice none 0 0) vi _ [] [] init from HI7.out.drewN 1).asked hg9 hs9); have hcN := (blk_cell HI9.out.blk 4).trans (show _ = some vi from rfl); have hfN := blk_frozen HI9.out.blk 4; have hcM := (blk_cell (blk_alloc HI9.out.blk (Obj.cells #[Value.int IntKind.i64 b9] 3)) 4).trans (show _ = some vi from rfl); clear hg9 hz9 hs9))
          all_goals (
            go_wp2
            go_roundw
            case rel =>
              have hx := HI9.out.addInit HR9.out HG9.out HA9.out
              simp only [List.length_append, List.length_cons, List.length_nil, Nat.zero_add] at hx
              exact ⟨j + 1, _, _, _, init ++ [b9], by omega, by go_num, ⟨hx⟩, ⟨by have := HG.out.1; simp only [List.length_append, List.length_cons, List.length_nil]; omega, HG.out.2.1.snoc (by right; right; left; exact ⟨rfl, rfl, rfl, rfl, by show 0 ≤ (j : Int); omega, hjl⟩), by simp [HG.out.2.2.1], HG.out.2.2.2.snoc b90 b91⟩⟩
            case measure => simp [intOf]; omega)
        · have hjf : (j : Int) = fl := by omega
          have HJ := Aside0.mk hjf
          have HIN : Aside0 (init.length = j ∧ InR 2 init) := ⟨HG.out.2.2⟩
          clear hjf
          go_wp2_with fail
          (with_reducible refine (next_calls w0 WA (w0.heap.size + 1) 20 HI.out.st HI.out.hb (by omega) (by omega)).mono ?_)
          rintro e w4 ⟨nn, rfl, nn0, nn1, hg4, hz4, hs4⟩
          have HI4 := Aside0.mk (HI.out.asked hg4 hs4)
          clear hg4 hz4 hs4
          go_wp2
          go_loopw [54] (fun v54 wr => ∃ (i : Nat) (vg : Value) (gates : List S50), (i : Int) ≤ nn + 1 ∧ v54 = .int .i64 i ∧ Aside0 (CInv w0 wr ins vg (.slice none 0 0) (.slice none 0 0) vi gates [] [] init) ∧ Aside0 ((gates.length : Int) = ins + fl + i ∧ GatesOk ins fl gates)) (fun v54 _ => (nn + 1).toNat - (intOf v54).toNat)
          case atStart => exact ⟨0, _, gates, by omega, rfl, HI4, ⟨by have := HG.out.1; have := HJ.out; omega, HG.out.2.1⟩⟩
          case round =>
            obtain ⟨m, vg, gates, hm, rfl, HI, HG⟩ := hrel
            obtain ⟨WA, rfl⟩ : ∃ WA : World, WA = wr := ⟨_, rfl⟩
            by_cases hml : (m : Int) < nn + 1
            · have SL : Aside0 (1 ≤ gates.length ∧ gates.length ≤ 25) := ⟨by have := HG.out.1; have := HJ.out; omega⟩
              go_wp2_with fail
              have IB := HI.out.alloc (Obj.cells #[.int .i64 0, .int .i64 3, .int .i64 4, .int .i64 5, .int .i64 6, .int .i64 7, .int .i64 4, .int .i64 6] 3)
              have KB := blk_new WA (Obj.cells #[.int .i64 0, .int .i64 3, .int .i64 4, .int .i64 5, .int .i64 6, .int .i64 7, .int .i64 4, .int .i64 6] 3)
              have GB := World.grownBy_alloc WA (Obj.cells #[.int .i64 0, .int .i64 3, .int .i64 4, .int .i64 5, .int .i64 6, .int .i64 7, .int .i64 4, .int .i64 6] 3) (some (w0.heap.size + 1))
              have LT : w0.heap.size + 2 < WA.heap.size := blk_lt HI.out.blk
              generalize hWB : WA.alloc (Obj.cells #[.int .i64 0, .int .i64 3, .int .i64 4, .int .i64 5, .int .i64 6, .int .i64 7, .int .i64 4, .int .i64 6] 3) = WB at *
              clear hWB
              (with_reducible refine (next_calls w0 WB (w0.heap.size + 1) 8 IB.st IB.hb (by omega) (by omega)).mono ?_)
              rintro e w5 ⟨kx, rfl, kx0, kx1, hg5, hz5, hs5⟩
              have IC := IB.asked hg5 hs5
              have KC := blk_grown KB hg5 (by simp; omega)
              have GC := GB.trans hg5
              clear hg5 hz5 hs5 IB KB GB
              obtain ⟨kk, hkk, hcK⟩ : ∃ kk : Int, (kk = 0 ∨ kk = 3 ∨ kk = 4 ∨ kk = 5 ∨ kk = 6 ∨ kk = 7) ∧ w5.cell? ⟨WA.heap.size, kx.toNat, none⟩ = some (.int .i64 kk) := by
                rw [blk_cell KC]
                have : kx = 0 ∨ kx = 1 ∨ kx = 2 ∨ kx = 3 ∨ kx = 4 ∨ kx = 5 ∨ kx = 6 ∨ kx = 7 := by omega
                rcases this with h | h | h | h | h | h | h | h <;> subst h <;> exact ⟨_, by simp, rfl⟩
              have GN : Aside0 (GInv w0 WA (w5.alloc (Obj.cells #[.int .i64 kk, .int .i64 0, .int .i64 0, .int .i64 0, .int .i64 0] 50)) w5.heap.size ⟨kk, 0, 0, 0, 0⟩) := ⟨{ lt := LT, hg := GC.trans (World.grownBy_alloc _ _ _), st := (IC.alloc _).st, lo := GC.size, gb := blk_new _ _ }⟩
              have HIC := Aside0.mk IC
              clear IC KC GC LT
              have hcG := (blk_cell (blk_grown HIC.out.blk (World.grownBy_alloc w5 (Obj.cells #[.int .i64 kk, .int .i64 0, .int .i64 0, .int .i64 0, .int .i64 0] 50) none) (by simp)) 1).trans (show _ = some vg from rfl)
              have hcV := (blk_cell GN.out.gb 0).trans (show _ = some (.int .i64 kk) from rfl)
              obtain ⟨AG, qG, heG, hlG, hqG⟩ := Kd.R_reads HI.out.rg
              subst heG
              clear hlG hqG
              rcases hkk with hkk | hkk | hkk | hkk | hkk | hkk <;> subst hkk
              · go_wp2_with fail
                (with_reducible refine (next_calls w0 (w5.alloc (Obj.cells #[.int .i64 0, .int .i64 0, .int .i64 0, .int .i64 0, .int .i64 0] 50)) (w0.heap.size + 1) 2 GN.out.st (HI.out.asked GN.out.hg GN.out.st).hb (by have := SL.out; omega) (by have := SL.out; omega)).mono ?_)
                rintro e wa0 ⟨xa0, rfl, xa00, xa01, hga0, hza0, hsa0⟩
                have GNa0 : Aside0 (GInv w0 WA wa0 w5.heap.size ⟨0, 0, 0, 0, 0⟩) := ⟨GN.out.next hga0 hsa0⟩
                clear hga0 hza0 hsa0
                have hda0 := (blk_cell GNa0.out.gb 4).trans (show _ = some (.int .i64 0) from rfl)
                have hfa0 := blk_frozen GNa0.out.gb 4
                have GPa0 : Aside0 (GInv w0 WA (wa0.setCell ⟨w5.heap.size, 4, none⟩ (.int .i64 xa0)) w5.heap.size ⟨0, 0, 0, 0, xa0⟩) := ⟨GNa0.out.put 4 (.int .i64 xa0) rfl⟩
                have IE : Aside0 (CInv w0 (wa0.setCell ⟨w5.heap.size, 4, none⟩ (.int .i64 xa0)) ins (.slice AG gates.length qG) (.slice none 0 0) (.slice none 0 0) vi gates [] [] init) := ⟨HI.out.asked GPa0.out.hg GPa0.out.st⟩
                have HSZ : Aside0 ((wa0.setCell ⟨w5.heap.size, 4, none⟩ (.int .i64 xa0)).heap.size = wa0.heap.size) := ⟨by simp only [World.size_setCell]⟩
                have hcE := (blk_cell IE.out.blk 1).trans (show _ = some (.slice AG gates.length qG) from rfl)
                have hcE0 := (blk_cell GPa0.out.gb 0).trans (show _ = some (.int .i64 0) from rfl)
                have hcE1 := (blk_cell GPa0.out.gb 1).trans (show _ = some (.int .i64 0) from rfl)
                have hcE2 := (blk_cell GPa0.out.gb 2).trans (show _ = some (.int .i64 0) from rfl)
                have hcE3 := (blk_cell GPa0.out.gb 3).trans (show _ = some (.int .i64 0) from rfl)
                have hcE4 := (blk_cell GPa0.out.gb 4).trans (show _ = some (.int .i64 xa0) from rfl)
                go_wp2_with ((with_reducible refine gate_builtin (b := .append) (xs := #[.tmp 101, .tmp 103]) rfl ?_); at_builtin; refine Kd.R_append k50 (w0 := (wa0.setCell ⟨w5.heap.size, 4, none⟩ (.int .i64 xa0))) (w0.heap.size + 3) rfl (.tmp 101) (.tmp 103) 36 50 (.agg #[.int .i64 0, .int .i64 0, .int .i64 0, .int .i64 0, .int .i64 0]) 40 rfl Try.underlying36 info50 rfl (by decide) (by omega) (.slice AG gates.length qG) gates ⟨0, 0, 0, 0, xa0⟩ [.int .i64 0, .int .i64 0, .int .i64 0, .int .i64 0, .int .i64 xa0] Yes (fun _ => False) rfl ?aX ?aP (fun _ hk => hk.elim) (fun _ _ => trivial) IE.out.rg (Below.refl _ _) ?aS ?aL ?_; (case aX => exact sl_eq HSZ.out.symm); (case aP => first | exact rfl | exact k50_mkM _ _ _ _); (case aS => have h1_ := blk_lt IE.out.blk; omega); (case aL => have h1_ := SL.out; first | omega | (simp; omega)); intro v7 w7 ho hb hg hat; obtain ⟨A7, q7, he7, hl7, hq7⟩ := Kd.R_reads ho; subst he7; clear hl7 hq7; have HR7 := Aside0.mk ho; have HG7 := Aside0.mk hg; have HA7 := Aside0.mk hat; have hk7 := blk_grown IE.out.blk hg (by intro e_; have h1_ := own_lt IE.out.rg e_.symm; omega); have hc7 := (blk_cell hk7 1).trans (show _ = some (.slice AG gates.length qG) from rfl); have hf7 := blk_frozen hk7 1; clear ho hb hg hat hk7)
                go_roundw
                case rel => exact ⟨m + 1, _, gates ++ [⟨0, 0, 0, 0, xa0⟩], by omega, by go_num, ⟨by have h := IE.out.addGate HR7.out HG7.out; simp only [List.length_append, List.length_cons, List.length_nil, Nat.zero_add] at h; exact h⟩, ⟨by have := HG.out.1; simp only [List.length_append, List.length_cons, List.length_nil]; omega, HG.out.2.snoc (by left; exact ⟨rfl, rfl, rfl, rfl, xa00, xa01⟩)⟩⟩
                case measure => simp [intOf]; omega
              · go_wp2_with fail
                (with_reducible refine (next_calls w0 (w5.alloc (Obj.cells #[.int .i64 3, .int .i64 0, .int .i64 0, .int .i64 0, .int .i64 0] 50)) (w0.heap.size + 1) (gates.length : Int) GN.out.st (HI.out.asked GN.out.hg GN.out.st).hb (by have := SL.out; omega) (by have := SL.out; omega)).mono ?_)
                rintro e wb0 ⟨xb0, rfl, xb00, xb01, hgb0, hzb0, hsb0⟩
                have GNb0 : Aside0 (GInv w0 WA wb0 w5.heap.size ⟨3, 0, 0, 0, 0⟩) := ⟨GN.out.next hgb0 hsb0⟩
                clear hgb0 hzb0 hsb0
                have hdb0 := (blk_cell GNb0.out.gb 1).trans (show _ = some (.int .i64 0) from rfl)
                have hfb0 := blk_frozen GNb0.out.gb 1
                have GPb0 : Aside0 (GInv w0 WA (wb0.setCell ⟨w5.heap.size, 1, none⟩ (.int .i64 xb0)) w5.heap.size ⟨3, xb0, 0, 0, 0⟩) := ⟨GNb0.out.put 1 (.int .i64 xb0) rfl⟩
                have IE : Aside0 (CInv w0 (wb0.setCell ⟨w5.heap.size, 1, none⟩ (.int .i64 xb0)) ins (.slice AG gates.length qG) (.slice none 0 0) (.slice none 0 0) vi gates [] [] init) := ⟨HI.out.asked GPb0.out.hg GPb0.out.st⟩
                have HSZ : Aside0 ((wb0.setCell ⟨w5.heap.size, 1, none⟩ (.int .i64 xb0)).heap.size = wb0.heap.size) := ⟨by simp only [World.size_setCell]⟩
                have hcE := (blk_cell IE.out.blk 1).trans (show _ = some (.slice AG gates.length qG) from rfl)
                have hcE0 := (blk_cell GPb0.out.gb 0).trans (show _ = some (.int .i64 3) from rfl)
                have hcE1 := (blk_cell GPb0.out.gb 1).trans (show _ = some (.int .i64 xb0) from rfl)
                have hcE2 := (blk_cell GPb0.out.gb 2).trans (show _ = some (.int .i64 0) from rfl)
                have hcE3 := (blk_cell GPb0.out.gb 3).trans (show _ = some (.int .i64 0) from rfl)
                have hcE4 := (blk_cell GPb0.out.gb 4).trans (show _ = some (.int .i64 0) from rfl)
                go_wp2_with ((with_reducible refine gate_builtin (b := .append) (xs := #[.tmp 101, .tmp 103]) rfl ?_); at_builtin; refine Kd.R_append k50 (w0 := (wb0.setCell ⟨w5.heap.size, 1, none⟩ (.int .i64 xb0))) (w0.heap.size + 3) rfl (.tmp 101) (.tmp 103) 36 50 (.agg #[.int .i64 0, .int .i64 0, .int .i64 0, .int .i64 0, .int .i64 0]) 40 rfl Try.underlying36 info50 rfl (by decide) (by omega) (.slice AG gates.length qG) gates ⟨3, xb0, 0, 0, 0⟩ [.int .i64 3, .int .i64 xb0, .int .i64 0, .int .i64 0, .int .i64 0] Yes (fun _ => False) rfl ?aX ?aP (fun _ hk => hk.elim) (fun _ _ => trivial) IE.out.rg (Below.refl _ _) ?aS ?aL ?_; (case aX => exact sl_eq HSZ.out.symm); (case aP => first | exact rfl | exact k50_mkM _ _ _ _); (case aS => have h1_ := blk_lt IE.out.blk; omega); (case aL => have h1_ := SL.out; first | omega | (simp; omega)); intro v7 w7 ho hb hg hat; obtain ⟨A7, q7, he7, hl7, hq7⟩ := Kd.R_reads ho; subst he7; clear hl7 hq7; have HR7 := Aside0.mk ho; have HG7 := Aside0.mk hg; have HA7 := Aside0.mk hat; have hk7 := blk_grown IE.out.blk hg (by intro e_; have h1_ := own_lt IE.out.rg e_.symm; omega); have hc7 := (blk_cell hk7 1).trans (show _ = some (.slice AG gates.length qG) from rfl); have hf7 := blk_frozen hk7 1; clear ho hb hg hat hk7)
                go_roundw
                case rel => exact ⟨m + 1, _, gates ++ [⟨3, xb0, 0, 0, 0⟩], by omega, by go_num, ⟨by have h := IE.out.addGate HR7.out HG7.out; simp only [List.length_append, List.length_cons, List.length_nil, Nat.zero_add] at h; exact h⟩, ⟨by have := HG.out.1; simp only [List.length_append, List.length_cons, List.length_nil]; omega, HG.out.2.snoc (by right; right; right; left; exact ⟨rfl, xb00, xb01, rfl, rfl, rfl⟩)⟩⟩
                case measure => simp [intOf]; omega
              · go_wp2_with fail
                (with_reducible refine (next_calls w0 (w5.alloc (Obj.cells #[.int .i64 4, .int .i64 0, .int .i64 0, .int .i64 0, .int .i64 0] 50)) (w0.heap.size + 1) (gates.length : Int) GN.out.st (HI.out.asked GN.out.hg GN.out.st).hb (by have := SL.out; omega) (by have := SL.out; omega)).mono ?_)
                rintro e wc0 ⟨xc0, rfl, xc00, xc01, hgc0, hzc0, hsc0⟩
                have GNc0 : Aside0 (GInv w0 WA wc0 w5.heap.size ⟨4, 0, 0, 0, 0⟩) := ⟨GN.out.next hgc0 hsc0⟩
                clear hgc0 hzc0 hsc0
                go_wp2_with fail
                (with_reducible refine (next_calls w0 wc0 (w0.heap.size + 1) (gates.length : Int) GNc0.out.st (HI.out.asked GNc0.out.hg GNc0.out.st).hb (by have := SL.out; omega) (by have := SL.out; omega)).mono ?_)
                rintro e wc1 ⟨xc1, rfl, xc10, xc11, hgc1, hzc1, hsc1⟩
                have GNc1 : Aside0 (GInv w0 WA wc1 w5.heap.size ⟨4, 0, 0, 0, 0⟩) := ⟨GNc0.out.next hgc1 hsc1⟩
                clear hgc1 hzc1 hsc1
                have hdc0 := (blk_cell GNc1.out.gb 1).trans (show _ = some (.int .i64 0) from rfl)
                have hfc0 := blk_frozen GNc1.out.gb 1
                have GPc0 : Aside0 (GInv w0 WA (wc1.setCell ⟨w5.heap.size, 1, none⟩ (.int .i64 xc0)) w5.heap.size ⟨4, xc0, 0, 0, 0⟩) := ⟨GNc1.out.put 1 (.int .i64 xc0) rfl⟩
                have hdc1 := (blk_cell GPc0.out.gb 2).trans (show _ = some (.int .i64 0) from rfl)
                have hfc1 := blk_frozen GPc0.out.gb 2
                have GPc1 : Aside0 (GInv w0 WA ((wc1.setCell ⟨w5.heap.size, 1, none⟩ (.int .i64 xc0)).setCell ⟨w5.heap.size, 2, none⟩ (.int .i64 xc1)) w5.heap.size ⟨4, xc0, xc1, 0, 0⟩) := ⟨GPc0.out.put 2 (.int .i64 xc1) rfl⟩
                have IE : Aside0 (CInv w0 ((wc1.setCell ⟨w5.heap.size, 1, none⟩ (.int .i64 xc0)).setCell ⟨w5.heap.size, 2, none⟩ (.int .i64 xc1)) ins (.slice AG gates.length qG) (.slice none 0 0) (.slice none 0 0) vi gates [] [] init) := ⟨HI.out.asked GPc1.out.hg GPc1.out.st⟩
                have HSZ : Aside0 (((wc1.setCell ⟨w5.heap.size, 1, none⟩ (.int .i64 xc0)).setCell ⟨w5.heap.size, 2, none⟩ (.int .i64 xc1)).heap.size = wc1.heap.size) := ⟨by simp only [World.size_setCell]⟩
                have hcE := (blk_cell IE.out.blk 1).trans (show _ = some (.slice AG gates.length qG) from rfl)
                have hcE0 := (blk_cell GPc1.out.gb 0).trans (show _ = some (.int .i64 4) from rfl)
                have hcE1 := (blk_cell GPc1.out.gb 1).trans (show _ = some (.int .i64 xc0) from rfl)
                have hcE2 := (blk_cell GPc1.out.gb 2).trans (show _ = some (.int .i64 xc1) from rfl)
                have hcE3 := (blk_cell GPc1.out.gb 3).trans (show _ = some (.int .i64 0) from rfl)
                have hcE4 := (blk_cell GPc1.out.gb 4).trans (show _ = some (.int .i64 0) from rfl)
                go_wp2_with ((with_reducible refine gate_builtin (b := .append) (xs := #[.tmp 101, .tmp 103]) rfl ?_); at_builtin; refine Kd.R_append k50 (w0 := ((wc1.setCell ⟨w5.heap.size, 1, none⟩ (.int .i64 xc0)).setCell ⟨w5.heap.size, 2, none⟩ (.int .i64 xc1))) (w0.heap.size + 3) rfl (.tmp 101) (.tmp 103) 36 50 (.agg #[.int .i64 0, .int .i64 0, .int .i64 0, .int .i64 0, .int .i64 0]) 40 rfl Try.underlying36 info50 rfl (by decide) (by omega) (.slice AG gates.length qG) gates ⟨4, xc0, xc1, 0, 0⟩ [.int .i64 4, .int .i64 xc0, .int .i64 xc1, .int .i64 0, .int .i64 0] Yes (fun _ => False) rfl ?aX ?aP (fun _ hk => hk.elim) (fun _ _ => trivial) IE.out.rg (Below.refl _ _) ?aS ?aL ?_; (case aX => exact sl_eq HSZ.out.symm); (case aP => first | exact rfl | exact k50_mkM _ _ _ _); (case aS => have h1_ := blk_lt IE.out.blk; omega); (case aL => have h1_ := SL.out; first | omega | (simp; omega)); intro v7 w7 ho hb hg hat; obtain ⟨A7, q7, he7, hl7, hq7⟩ := Kd.R_reads ho; subst he7; clear hl7 hq7; have HR7 := Aside0.mk ho; have HG7 := Aside0.mk hg; have HA7 := Aside0.mk hat; have hk7 := blk_grown IE.out.blk hg (by intro e_; have h1_ := own_lt IE.out.rg e_.symm; omega); have hc7 := (blk_cell hk7 1).trans (show _ = some (.slice AG gates.length qG) from rfl); have hf7 := blk_frozen hk7 1; clear ho hb hg hat hk7)
                go_roundw
                case rel => exact ⟨m + 1, _, gates ++ [⟨4, xc0, xc1, 0, 0⟩], by omega, by go_num, ⟨by have h := IE.out.addGate HR7.out HG7.out; simp only [List.length_append, List.length_cons, List.length_nil, Nat.zero_add] at h; exact h⟩, ⟨by have := HG.out.1; simp only [List.length_append, List.length_cons, List.length_nil]; omega, HG.out.2.snoc (by right; right; right; right; left; exact ⟨Or.inl rfl, xc00, xc01, xc10, xc11, rfl, rfl⟩)⟩⟩
                case measure => simp [intOf]; omega
              · go_wp2_with fail
                (with_reducible refine (next_calls w0 (w5.alloc (Obj.cells #[.int .i64 5, .int .i64 0, .int .i64 0, .int .i64 0, .int .i64 0] 50)) (w0.heap.size + 1) (gates.length : Int) GN.out.st (HI.out.asked GN.out.hg GN.out.st).hb (by have := SL.out; omega) (by have := SL.out; omega)).mono ?_)
                rintro e wd0 ⟨xd0, rfl, xd00, xd01, hgd0, hzd0, hsd0⟩
                have GNd0 : Aside0 (GInv w0 WA wd0 w5.heap.size ⟨5, 0, 0, 0, 0⟩) := ⟨GN.out.next hgd0 hsd0⟩
                clear hgd0 hzd0 hsd0
                go_wp2_with fail
                (with_reducible refine (next_calls w0 wd0 (w0.heap.size + 1) (gates.length : Int) GNd0.out.st (HI.out.asked GNd0.out.hg GNd0.out.st).hb (by have := SL.out; omega) (by have := SL.out; omega)).mono ?_)
                rintro e wd1 ⟨xd1, rfl, xd10, xd11, hgd1, hzd1, hsd1⟩
                have GNd1 : Aside0 (GInv w0 WA wd1 w5.heap.size ⟨5, 0, 0, 0, 0⟩) := ⟨GNd0.out.next hgd1 hsd1⟩
                clear hgd1 hzd1 hsd1
                have hdd0 := (blk_cell GNd1.out.gb 1).trans (show _ = some (.int .i64 0) from rfl)
                have hfd0 := blk_frozen GNd1.out.gb 1
                have GPd0 : Aside0 (GInv w0 WA (wd1.setCell ⟨w5.heap.size, 1, none⟩ (.int .i64 xd0)) w5.heap.size ⟨5, xd0, 0, 0, 0⟩) := ⟨GNd1.out.put 1 (.int .i64 xd0) rfl⟩
                have hdd1 := (blk_cell GPd0.out.gb 2).trans (show _ = some (.int .i64 0) from rfl)
                have hfd1 := blk_frozen GPd0.out.gb 2
                have GPd1 : Aside0 (GInv w0 WA ((wd1.setCell ⟨w5.heap.size, 1, none⟩ (.int .i64 xd0)).setCell ⟨w5.heap.size, 2, none⟩ (.int .i64 xd1)) w5.heap.size ⟨5, xd0, xd1, 0, 0⟩) := ⟨GPd0.out.put 2 (.int .i64 xd1) rfl⟩
                have IE : Aside0 (CInv w0 ((wd1.setCell ⟨w5.heap.size, 1, none⟩ (.int .i64 xd0)).setCell ⟨w5.heap.size, 2, none⟩ (.int .i64 xd1)) ins (.slice AG gates.length qG) (.slice none 0 0) (.slice none 0 0) vi gates [] [] init) := ⟨HI.out.asked GPd1.out.hg GPd1.out.st⟩
                have HSZ : Aside0 (((wd1.setCell ⟨w5.heap.size, 1, none⟩ (.int .i64 xd0)).setCell ⟨w5.heap.size, 2, none⟩ (.int .i64 xd1)).heap.size = wd1.heap.size) := ⟨by simp only [World.size_setCell]⟩
                have hcE := (blk_cell IE.out.blk 1).trans (show _ = some (.slice AG gates.length qG) from rfl)
                have hcE0 := (blk_cell GPd1.out.gb 0).trans (show _ = some (.int .i64 5) from rfl)
                have hcE1 := (blk_cell GPd1.out.gb 1).trans (show _ = some (.int .i64 xd0) from rfl)
                have hcE2 := (blk_cell GPd1.out.gb 2).trans (show _ = some (.int .i64 xd1) from rfl)
                have hcE3 := (blk_cell GPd1.out.gb 3).trans (show _ = some (.int .i64 0) from rfl)
                have hcE4 := (blk_cell GPd1.out.gb 4).trans (show _ = some (.int .i64 0) from rfl)
                go_wp2_with ((with_reducible refine gate_builtin (b := .append) (xs := #[.tmp 101, .tmp 103]) rfl ?_); at_builtin; refine Kd.R_append k50 (w0 := ((wd1.setCell ⟨w5.heap.size, 1, none⟩ (.int .i64 xd0)).setCell ⟨w5.heap.size, 2, none⟩ (.int .i64 xd1))) (w0.heap.size + 3) rfl (.tmp 101) (.tmp 103) 36 50 (.agg #[.int .i64 0, .int .i64 0, .int .i64 0, .int .i64 0, .int .i64 0]) 40 rfl Try.underlying36 info50 rfl (by decide) (by omega) (.slice AG gates.length qG) gates ⟨5, xd0, xd1, 0, 0⟩ [.int .i64 5, .int .i64 xd0, .int .i64 xd1, .int .i64 0, .int .i64 0] Yes (fun _ => False) rfl ?aX ?aP (fun _ hk => hk.elim) (fun _ _ => trivial) IE.out.rg (Below.refl _ _) ?aS ?aL ?_; (case aX => exact sl_eq HSZ.out.symm); (case aP => first | exact rfl | exact k50_mkM _ _ _ _); (case aS => have h1_ := blk_lt IE.out.blk; omega); (case aL => have h1_ := SL.out; first | omega | (simp; omega)); intro v7 w7 ho hb hg hat; obtain ⟨A7, q7, he7, hl7, hq7⟩ := Kd.R_reads ho; subst he7; clear hl7 hq7; have HR7 := Aside0.mk ho; have HG7 := Aside0.mk hg; have HA7 := Aside0.mk hat; have hk7 := blk_grown IE.out.blk hg (by intro e_; have h1_ := own_lt IE.out.rg e_.symm; omega); have hc7 := (blk_cell hk7 1).trans (show _ = some (.slice AG gates.length qG) from rfl); have hf7 := blk_frozen hk7 1; clear ho hb hg hat hk7)
                go_roundw
                case rel => exact ⟨m + 1, _, gates ++ [⟨5, xd0, xd1, 0, 0⟩], by omega, by go_num, ⟨by have h := IE.out.addGate HR7.out HG7.out; simp only [List.length_append, List.length_cons, List.length_nil, Nat.zero_add] at h; exact h⟩, ⟨by have := HG.out.1; simp only [List.length_append, List.length_cons, List.length_nil]; omega, HG.out.2.snoc (by right; right; right; right; left; exact ⟨Or.inr (Or.inl rfl), xd00, xd01, xd10, xd11, rfl, rfl⟩)⟩⟩
                case measure => simp [intOf]; omega
              · go_wp2_with fail
                (with_reducible refine (next_calls w0 (w5.alloc (Obj.cells #[.int .i64 6, .int .i64 0, .int .i64 0, .int .i64 0, .int .i64 0] 50)) (w0.heap.size + 1) (gates.length : Int) GN.out.st (HI.out.asked GN.out.hg GN.out.st).hb (by have := SL.out; omega) (by have := SL.out; omega)).mono ?_)
                rintro e wf0 ⟨xf0, rfl, xf00, xf01, hgf0, hzf0, hsf0⟩
                have GNf0 : Aside0 (GInv w0 WA wf0 w5.heap.size ⟨6, 0, 0, 0, 0⟩) := ⟨GN.out.next hgf0 hsf0⟩
                clear hgf0 hzf0 hsf0
                go_wp2_with fail
                (with_reducible refine (next_calls w0 wf0 (w0.heap.size + 1) (gates.length : Int) GNf0.out.st (HI.out.asked GNf0.out.hg GNf0.out.st).hb (by have := SL.out; omega) (by have := SL.out; omega)).mono ?_)
                rintro e wf1 ⟨xf1, rfl, xf10, xf11, hgf1, hzf1, hsf1⟩
                have GNf1 : Aside0 (GInv w0 WA wf1 w5.heap.size ⟨6, 0, 0, 0, 0⟩) := ⟨GNf0.out.next hgf1 hsf1⟩
                clear hgf1 hzf1 hsf1
                have hdf0 := (blk_cell GNf1.out.gb 1).trans (show _ = some (.int .i64 0) from rfl)
                have hff0 := blk_frozen GNf1.out.gb 1
                have GPf0 : Aside0 (GInv w0 WA (wf1.setCell ⟨w5.heap.size, 1, none⟩ (.int .i64 xf0)) w5.heap.size ⟨6, xf0, 0, 0, 0⟩) := ⟨GNf1.out.put 1 (.int .i64 xf0) rfl⟩
                have hdf1 := (blk_cell GPf0.out.gb 2).trans (show _ = some (.int .i64 0) from rfl)
                have hff1 := blk_frozen GPf0.out.gb 2
                have GPf1 : Aside0 (GInv w0 WA ((wf1.setCell ⟨w5.heap.size, 1, none⟩ (.int .i64 xf0)).setCell ⟨w5.heap.size, 2, none⟩ (.int .i64 xf1)) w5.heap.size ⟨6, xf0, xf1, 0, 0⟩) := ⟨GPf0.out.put 2 (.int .i64 xf1) rfl⟩
                have IE : Aside0 (CInv w0 ((wf1.setCell ⟨w5.heap.size, 1, none⟩ (.int .i64 xf0)).setCell ⟨w5.heap.size, 2, none⟩ (.int .i64 xf1)) ins (.slice AG gates.length qG) (.slice none 0 0) (.slice none 0 0) vi gates [] [] init) := ⟨HI.out.asked GPf1.out.hg GPf1.out.st⟩
                have HSZ : Aside0 (((wf1.setCell ⟨w5.heap.size, 1, none⟩ (.int .i64 xf0)).setCell ⟨w5.heap.size, 2, none⟩ (.int .i64 xf1)).heap.size = wf1.heap.size) := ⟨by simp only [World.size_setCell]⟩
                have hcE := (blk_cell IE.out.blk 1).trans (show _ = some (.slice AG gates.length qG) from rfl)
                have hcE0 := (blk_cell GPf1.out.gb 0).trans (show _ = some (.int .i64 6) from rfl)
                have hcE1 := (blk_cell GPf1.out.gb 1).trans (show _ = some (.int .i64 xf0) from rfl)
                have hcE2 := (blk_cell GPf1.out.gb 2).trans (show _ = some (.int .i64 xf1) from rfl)
                have hcE3 := (blk_cell GPf1.out.gb 3).trans (show _ = some (.int .i64 0) from rfl)
                have hcE4 := (blk_cell GPf1.out.gb 4).trans (show _ = some (.int .i64 0) from rfl)
                go_wp2_with ((with_reducible refine gate_builtin (b := .append) (xs := #[.tmp 101, .tmp 103]) rfl ?_); at_builtin; refine Kd.R_append k50 (w0 := ((wf1.setCell ⟨w5.heap.size, 1, none⟩ (.int .i64 xf0)).setCell ⟨w5.heap.size, 2, none⟩ (.int .i64 xf1))) (w0.heap.size + 3) rfl (.tmp 101) (.tmp 103) 36 50 (.agg #[.int .i64 0, .int .i64 0, .int .i64 0, .int .i64 0, .int .i64 0]) 40 rfl Try.underlying36 info50 rfl (by decide) (by omega) (.slice AG gates.length qG) gates ⟨6, xf0, xf1, 0, 0⟩ [.int .i64 6, .int .i64 xf0, .int .i64 xf1, .int .i64 0, .int .i64 0] Yes (fun _ => False) rfl ?aX ?aP (fun _ hk => hk.elim) (fun _ _ => trivial) IE.out.rg (Below.refl _ _) ?aS ?aL ?_; (case aX => exact sl_eq HSZ.out.symm); (case aP => first | exact rfl | exact k50_mkM _ _ _ _); (case aS => have h1_ := blk_lt IE.out.blk; omega); (case aL => have h1_ := SL.out; first | omega | (simp; omega)); intro v7 w7 ho hb hg hat; obtain ⟨A7, q7, he7, hl7, hq7⟩ := Kd.R_reads ho; subst he7; clear hl7 hq7; have HR7 := Aside0.mk ho; have HG7 := Aside0.mk hg; have HA7 := Aside0.mk hat; have hk7 := blk_grown IE.out.blk hg (by intro e_; have h1_ := own_lt IE.out.rg e_.symm; omega); have hc7 := (blk_cell hk7 1).trans (show _ = some (.slice AG gates.length qG) from rfl); have hf7 := blk_frozen hk7 1; clear ho hb hg hat hk7)
                go_roundw
                case rel => exact ⟨m + 1, _, gates ++ [⟨6, xf0, xf1, 0, 0⟩], by omega, by go_num, ⟨by have h := IE.out.addGate HR7.out HG7.out; simp only [List.length_append, List.length_cons, List.length_nil, Nat.zero_add] at h; exact h⟩, ⟨by have := HG.out.1; simp only [List.length_append, List.length_cons, List.length_nil]; omega, HG.out.2.snoc (by right; right; right; right; left; exact ⟨Or.inr (Or.inr rfl), xf00, xf01, xf10, xf11, rfl, rfl⟩)⟩⟩
                case measure => simp [intOf]; omega
              · go_wp2_with fail
                (with_reducible refine (next_calls w0 (w5.alloc (Obj.cells #[.int .i64 7, .int .i64 0, .int .i64 0, .int .i64 0, .int .i64 0] 50)) (w0.heap.size + 1) (gates.length : Int) GN.out.st (HI.out.asked GN.out.hg GN.out.st).hb (by have := SL.out; omega) (by have := SL.out; omega)).mono ?_)
                rintro e wh0 ⟨xh0, rfl, xh00, xh01, hgh0, hzh0, hsh0⟩
                have GNh0 : Aside0 (GInv w0 WA wh0 w5.heap.size ⟨7, 0, 0, 0, 0⟩) := ⟨GN.out.next hgh0 hsh0⟩
                clear hgh0 hzh0 hsh0
                go_wp2_with fail
                (with_reducible refine (next_calls w0 wh0 (w0.heap.size + 1) (gates.length : Int) GNh0.out.st (HI.out.asked GNh0.out.hg GNh0.out.st).hb (by have := SL.out; omega) (by have := SL.out; omega)).mono ?_)
                rintro e wh1 ⟨xh1, rfl, xh10, xh11, hgh1, hzh1, hsh1⟩
                have GNh1 : Aside0 (GInv w0 WA wh1 w5.heap.size ⟨7, 0, 0, 0, 0⟩) := ⟨GNh0.out.next hgh1 hsh1⟩
                clear hgh1 hzh1 hsh1
                go_wp2_with fail
                (with_reducible refine (next_calls w0 wh1 (w0.heap.size + 1) (gates.length : Int) GNh1.out.st (HI.out.asked GNh1.out.hg GNh1.out.st).hb (by have := SL.out; omega) (by have := SL.out; omega)).mono ?_)
                rintro e wh2 ⟨xh2, rfl, xh20, xh21, hgh2, hzh2, hsh2⟩
                have GNh2 : Aside0 (GInv w0 WA wh2 w5.heap.size ⟨7, 0, 0, 0, 0⟩) := ⟨GNh1.out.next hgh2 hsh2⟩
                clear hgh2 hzh2 hsh2
                have hdh0 := (blk_cell GNh2.out.gb 1).trans (show _ = some (.int .i64 0) from rfl)
                have hfh0 := blk_frozen GNh2.out.gb 1
                have GPh0 : Aside0 (GInv w0 WA (wh2.setCell ⟨w5.heap.size, 1, none⟩ (.int .i64 xh0)) w5.heap.size ⟨7, xh0, 0, 0, 0⟩) := ⟨GNh2.out.put 1 (.int .i64 xh0) rfl⟩
                have hdh1 := (blk_cell GPh0.out.gb 2).trans (show _ = some (.int .i64 0) from rfl)
                have hfh1 := blk_frozen GPh0.out.gb 2
                have GPh1 : Aside0 (GInv w0 WA ((wh2.setCell ⟨w5.heap.size, 1, none⟩ (.int .i64 xh0)).setCell ⟨w5.heap.size, 2, none⟩ (.int .i64 xh1)) w5.heap.size ⟨7, xh0, xh1, 0, 0⟩) := ⟨GPh0.out.put 2 (.int .i64 xh1) rfl⟩
                have hdh2 := (blk_cell GPh1.out.gb 3).trans (show _ = some (.int .i64 0) from rfl)
                have hfh2 := blk_frozen GPh1.out.gb 3
                have GPh2 : Aside0 (GInv w0 WA (((wh2.setCell ⟨w5.heap.size, 1, none⟩ (.int .i64 xh0)).setCell ⟨w5.heap.size, 2, none⟩ (.int .i64 xh1)).setCell ⟨w5.heap.size, 3, none⟩ (.int .i64 xh2)) w5.heap.size ⟨7, xh0, xh1, xh2, 0⟩) := ⟨GPh1.out.put 3 (.int .i64 xh2) rfl⟩
                have IE : Aside0 (CInv w0 (((wh2.setCell ⟨w5.heap.size, 1, none⟩ (.int .i64 xh0)).setCell ⟨w5.heap.size, 2, none⟩ (.int .i64 xh1)).setCell ⟨w5.heap.size, 3, none⟩ (.int .i64 xh2)) ins (.slice AG gates.length qG) (.slice none 0 0) (.slice none 0 0) vi gates [] [] init) := ⟨HI.out.asked GPh2.out.hg GPh2.out.st⟩
                have HSZ : Aside0 ((((wh2.setCell ⟨w5.heap.size, 1, none⟩ (.int .i64 xh0)).setCell ⟨w5.heap.size, 2, none⟩ (.int .i64 xh1)).setCell ⟨w5.heap.size, 3, none⟩ (.int .i64 xh2)).heap.size = wh2.heap.size) := ⟨by simp only [World.size_setCell]⟩
                have hcE := (blk_cell IE.out.blk 1).trans (show _ = some (.slice AG gates.length qG) from rfl)
                have hcE0 := (blk_cell GPh2.out.gb 0).trans (show _ = some (.int .i64 7) from rfl)
                have hcE1 := (blk_cell GPh2.out.gb 1).trans (show _ = some (.int .i64 xh0) from rfl)
                have hcE2 := (blk_cell GPh2.out.gb 2).trans (show _ = some (.int .i64 xh1) from rfl)
                have hcE3 := (blk_cell GPh2.out.gb 3).trans (show _ = some (.int .i64 xh2) from rfl)
                have hcE4 := (blk_cell GPh2.out.gb 4).trans (show _ = some (.int .i64 0) from rfl)
                go_wp2_with ((with_reducible refine gate_builtin (b := .append) (xs := #[.tmp 101, .tmp 103]) rfl ?_); at_builtin; refine Kd.R_append k50 (w0 := (((wh2.setCell ⟨w5.heap.size, 1, none⟩ (.int .i64 xh0)).setCell ⟨w5.heap.size, 2, none⟩ (.int .i64 xh1)).setCell ⟨w5.heap.size, 3, none⟩ (.int .i64 xh2))) (w0.heap.size + 3) rfl (.tmp 101) (.tmp 103) 36 50 (.agg #[.int .i64 0, .int .i64 0, .int .i64 0, .int .i64 0, .int .i64 0]) 40 rfl Try.underlying36 info50 rfl (by decide) (by omega) (.slice AG gates.length qG) gates ⟨7, xh0, xh1, xh2, 0⟩ [.int .i64 7, .int .i64 xh0, .int .i64 xh1, .int .i64 xh2, .int .i64 0] Yes (fun _ => False) rfl ?aX ?aP (fun _ hk => hk.elim) (fun _ _ => trivial) IE.out.rg (Below.refl _ _) ?aS ?aL ?_; (case aX => exact sl_eq HSZ.out.symm); (case aP => first | exact rfl | exact k50_mkM _ _ _ _); (case aS => have h1_ := blk_lt IE.out.blk; omega); (case aL => have h1_ := SL.out; first | omega | (simp; omega)); intro v7 w7 ho hb hg hat; obtain ⟨A7, q7, he7, hl7, hq7⟩ := Kd.R_reads ho; subst he7; clear hl7 hq7; have HR7 := Aside0.mk ho; have HG7 := Aside0.mk hg; have HA7 := Aside0.mk hat; have hk7 := blk_grown IE.out.blk hg (by intro e_; have h1_ := own_lt IE.out.rg e_.symm; omega); have hc7 := (blk_cell hk7 1).trans (show _ = some (.slice AG gates.length qG) from rfl); have hf7 := blk_frozen hk7 1; clear ho hb hg hat hk7)
                go_roundw
                case rel => exact ⟨m + 1, _, gates ++ [⟨7, xh0, xh1, xh2, 0⟩], by omega, by go_num, ⟨by have h := IE.out.addGate HR7.out HG7.out; simp only [List.length_append, List.length_cons, List.length_nil, Nat.zero_add] at h; exact h⟩, ⟨by have := HG.out.1; simp only [List.length_append, List.length_cons, List.length_nil]; omega, HG.out.2.snoc (by right; right; right; right; right; exact ⟨rfl, xh00, xh01, xh10, xh11, xh20, xh21, rfl⟩)⟩⟩
                case measure => simp [intOf]; omega
            · have hme : (m : Int) = nn + 1 := by omega
              have HM := Aside0.mk hme
              clear hme
              have GL : Aside0 (1 ≤ gates.length ∧ gates.length ≤ 30) := ⟨by have := HG.out.1; have := HJ.out; have := HM.out; omega⟩
              have HGT := HG
              obtain ⟨AG, qG, heG, hlG, hqG⟩ := Kd.R_reads HI.out.rg
              subst heG
              clear hlG hqG HG
              have HI4 := HI
              clear HI
              go_wp2_with fail
              go_loopw [108] (fun v108 wr => ∃ (i : Nat) (vn : Value) (next : List Int), (i : Int) ≤ fl ∧ v108 = .int .i64 i ∧ Aside0 (CInv w0 wr ins (.slice AG gates.length qG) (.slice none 0 0) vn vi gates [] next init) ∧ Aside0 (next.length = i ∧ InR gates.length next)) (fun v108 _ => fl.toNat - (intOf v108).toNat)
              case atStart => exact ⟨0, _, [], by omega, rfl, HI4, ⟨rfl, InR.nil _⟩⟩
              case round =>
                clear HI4
                obtain ⟨k, vn, next, hk, rfl, HI, HN⟩ := hrel
                obtain ⟨WA, rfl⟩ : ∃ WA : World, WA = wr := ⟨_, rfl⟩
                by_cases hkl : (k : Int) < fl
                · have SL2 : Aside0 (next.length ≤ 7) := ⟨by have := HN.out.1; omega⟩
                  go_wp2_with fail
                  have hc8 := (blk_cell HI.out.blk 3).trans (show _ = some vn from rfl)
                  have hf8 := blk_frozen HI.out.blk 3
                  have hc81 := (blk_cell HI.out.blk 1).trans (show _ = some (.slice AG gates.length qG) from rfl)
                  have NX : Aside0 (Calls Try.prog 40 #[.pointer (some ⟨w0.heap.size + 1, 0, none⟩), .int .i64 (gates.length : Int)] WA.drew (NextPost w0 WA.drew (w0.heap.size + 1) (gates.length : Int))) := ⟨next_calls w0 WA.drew (w0.heap.size + 1) (gates.length : Int) HI.out.st (below_drew HI.out.hb) (by have := GL.out; omega) (by have := GL.out; omega)⟩
                  go_region_law (first
                      | (refine Kd.R_append_step (Kd.int .i64) (w0 := w9) (w0.heap.size + 3) rfl (.tmp 111) (.tmp 117) 22 3 (.int .i64 0) 8 rfl Try.underlying22 info3 rfl (by decide) (by omega) vn next b9 [.int .i64 b9] Yes (fun _ => False) rfl rfl rfl (fun _ hk => hk.elim) (fun _ _ => trivial) HI9.out.rn (Below.refl _ _) (by have h1_ := blk_lt HI9.out.blk; omega) (by have h1_ := SL2.out; omega) ?_; intro v9 w10 ho hb hg hat; obtain ⟨A9, q9, he9, hl9, hq9⟩ := Kd.R_reads ho; subst he9; clear hl9 hq9; have HR9 := Aside0.mk ho; have HG9 := Aside0.mk hg; have HA9 := Aside0.mk hat; have hk9 := blk_grown HI9.out.blk hg (by intro e_; have h1_ := own_lt HI9.out.rn e_.symm; omega); have hc9 := (blk_cell hk9 3).trans (show _ = some vn from rfl); have hf9 := blk_frozen hk9 3; clear ho hb hg hat hk9)
                      | (go_simp; go_at_call 40; (with_reducible refine NX.out.mono ?_); rintro e w9 ⟨b9, rfl, b90, b91, hg9, hz9, hs9⟩; have HI9 := Aside0.mk ((show CInv w0 WA.drew ins (.slice AG gates.length qG) (.slice none 0 0) vn vi gates [] next init from HI.out.drewN 1).asked hg9 hs9); have hcN := (blk_cell HI9.out.blk 3).trans (show _ = some vn from rfl); have hfN := blk_frozen HI9.out.blk 3; have hcM := (blk_cell (blk_alloc HI9.out.blk (Obj.cells #[Value.int IntKind.i64 b9] 3)) 3).trans (show _ = some vn from rfl); clear hg9 hz9 hs9))
                  all_goals (
                    go_wp2
                    go_roundw
                    case rel =>
                      have hx := HI9.out.addNext HR9.out HG9.out HA9.out
                      simp only [List.length_append, List.length_cons, List.length_nil, Nat.zero_add] at hx
                      exact ⟨k + 1, _, next ++ [b9], by omega, by go_num, ⟨hx⟩, ⟨by simp [HN.out.1], HN.out.2.snoc b90 b91⟩⟩
                    case measure => simp [intOf]; omega)
                · have hke : (k : Int) = fl := by omega
                  have HK := Aside0.mk hke
                  clear hke
                  go_wp2_with fail
                  (with_reducible refine (next_calls w0 WA (w0.heap.size + 1) 3 HI.out.st HI.out.hb (by omega) (by omega)).mono ?_)
                  rintro e w6 ⟨no, rfl, no0, no1, hg6, hz6, hs6⟩
                  have HI6 := Aside0.mk (HI.out.asked hg6 hs6)
                  clear hg6 hz6 hs6 HI
                  go_wp2
                  go_loopw [124] (fun v124 wr => ∃ (i : Nat) (vo : Value) (outs : List Int), (i : Int) ≤ 1 + no ∧ v124 = .int .i64 i ∧ Aside0 (CInv w0 wr ins (.slice AG gates.length qG) vo vn vi gates outs next init) ∧ Aside0 (outs.length = i ∧ InR gates.length outs)) (fun v124 _ => (1 + no).toNat - (intOf v124).toNat)
                  case atStart => exact ⟨0, _, [], by omega, rfl, HI6, ⟨rfl, InR.nil _⟩⟩
                  case round =>
                    clear HI6
                    obtain ⟨q, vo, outs, hq, rfl, HI, HO⟩ := hrel
                    obtain ⟨WA, rfl⟩ : ∃ WA : World, WA = wr := ⟨_, rfl⟩
                    by_cases hql : (q : Int) < 1 + no
                    · have SL2 : Aside0 (outs.length ≤ 7) := ⟨by have := HO.out.1; omega⟩
                      go_wp2_with fail
                      have hc8 := (blk_cell HI.out.blk 2).trans (show _ = some vo from rfl)
                      have hf8 := blk_frozen HI.out.blk 2
                      have hc81 := (blk_cell HI.out.blk 1).trans (show _ = some (.slice AG gates.length qG) from rfl)
                      have NX : Aside0 (Calls Try.prog 40 #[.pointer (some ⟨w0.heap.size + 1, 0, none⟩), .int .i64 (gates.length : Int)] WA.drew (NextPost w0 WA.drew (w0.heap.size + 1) (gates.length : Int))) := ⟨next_calls w0 WA.drew (w0.heap.size + 1) (gates.length : Int) HI.out.st (below_drew HI.out.hb) (by have := GL.out; omega) (by have := GL.out; omega)⟩
                      go_region_law (first
                          | (refine Kd.R_append_step (Kd.int .i64) (w0 := w9) (w0.heap.size + 3) rfl (.tmp 127) (.tmp 133) 22 3 (.int .i64 0) 8 rfl Try.underlying22 info3 rfl (by decide) (by omega) vo outs b9 [.int .i64 b9] Yes (fun _ => False) rfl rfl rfl (fun _ hk => hk.elim) (fun _ _ => trivial) HI9.out.ro (Below.refl _ _) (by have h1_ := blk_lt HI9.out.blk; omega) (by have h1_ := SL2.out; omega) ?_; intro v9 w10 ho hb hg hat; obtain ⟨A9, q9, he9, hl9, hq9⟩ := Kd.R_reads ho; subst he9; clear hl9 hq9; have HR9 := Aside0.mk ho; have HG9 := Aside0.mk hg; have HA9 := Aside0.mk hat; have hk9 := blk_grown HI9.out.blk hg (by intro e_; have h1_ := own_lt HI9.out.ro e_.symm; omega); have hc9 := (blk_cell hk9 2).trans (show _ = some vo from rfl); have hf9 := blk_frozen hk9 2; clear ho hb hg hat hk9)
                          | (go_simp; go_at_call 40; (with_reducible refine NX.out.mono ?_); rintro e w9 ⟨b9, rfl, b90, b91, hg9, hz9, hs9⟩; have HI9 := Aside0.mk ((show CInv w0 WA.drew ins (.slice AG gates.length qG) vo vn vi gates outs next init from HI.out.drewN 1).asked hg9 hs9); have hcN := (blk_cell HI9.out.blk 2).trans (show _ = some vo from rfl); have hfN := blk_frozen HI9.out.blk 2; have hcM := (blk_cell (blk_alloc HI9.out.blk (Obj.cells #[Value.int IntKind.i64 b9] 3)) 2).trans (show _ = some vo from rfl); clear hg9 hz9 hs9))
                      all_goals (
                        go_wp2
                        go_roundw
                        case rel =>
                          have hx := HI9.out.addOut HR9.out HG9.out HA9.out
                          simp only [List.length_append, List.length_cons, List.length_nil, Nat.zero_add] at hx
                          exact ⟨q + 1, _, outs ++ [b9], by omega, by go_num, ⟨hx⟩, ⟨by simp [HO.out.1], HO.out.2.snoc b90 b91⟩⟩
                        case measure => simp [intOf]; omega)
                    · have hqe : (q : Int) = 1 + no := by omega
                      have HQ := Aside0.mk hqe
                      clear hqe
                      obtain ⟨AO, qO, heO, hlO, hqO⟩ := Kd.R_reads HI.out.ro
                      subst heO
                      clear hlO hqO
                      obtain ⟨AN, qN, heN, hlN, hqN⟩ := Kd.R_reads HI.out.rn
                      subst heN
                      clear hlN hqN
                      obtain ⟨AI, qI, heI, hlI, hqI⟩ := Kd.R_reads HI.out.ri
                      subst heI
                      clear hlI hqI
                      have hb0 := HI.out.res
                      have hrc0 := (blk_cell hb0 0).trans (show _ = some (.int .i64 0) from rfl)
                      have hrf0 := blk_frozen hb0 0
                      have hb1 : (WA.setCell ⟨w0.heap.size, 0, none⟩ (.int .i64 ins)).heap[w0.heap.size]? = some (.cells #[(.int .i64 ins), (.slice none 0 0), (.slice none 0 0), (.slice none 0 0), (.slice none 0 0)] 38 (0, 0)) := blk_put hb0 0 _ rfl
                      have hrc1 := (blk_cell hb1 1).trans (show _ = some (.slice none 0 0) from rfl)
                      have hrf1 := blk_frozen hb1 1
                      have hb2 : ((WA.setCell ⟨w0.heap.size, 0, none⟩ (.int .i64 ins)).setCell ⟨w0.heap.size, 1, none⟩ (.slice AG gates.length qG)).heap[w0.heap.size]? = some (.cells #[(.int .i64 ins), (.slice AG gates.length qG), (.slice none 0 0), (.slice none 0 0), (.slice none 0 0)] 38 (0, 0)) := blk_put hb1 1 _ rfl
                      have hrc2 := (blk_cell hb2 2).trans (show _ = some (.slice none 0 0) from rfl)
                      have hrf2 := blk_frozen hb2 2
                      have hb3 : (((WA.setCell ⟨w0.heap.size, 0, none⟩ (.int .i64 ins)).setCell ⟨w0.heap.size, 1, none⟩ (.slice AG gates.length qG)).setCell ⟨w0.heap.size, 2, none⟩ (.slice AO outs.length qO)).heap[w0.heap.size]? = some (.cells #[(.int .i64 ins), (.slice AG gates.length qG), (.slice AO outs.length qO), (.slice none 0 0), (.slice none 0 0)] 38 (0, 0)) := blk_put hb2 2 _ rfl
                      have hrc3 := (blk_cell hb3 3).trans (show _ = some (.slice none 0 0) from rfl)
                      have hrf3 := blk_frozen hb3 3
                      have hb4 : ((((WA.setCell ⟨w0.heap.size, 0, none⟩ (.int .i64 ins)).setCell ⟨w0.heap.size, 1, none⟩ (.slice AG gates.length qG)).setCell ⟨w0.heap.size, 2, none⟩ (.slice AO outs.length qO)).setCell ⟨w0.heap.size, 3, none⟩ (.slice AN next.length qN)).heap[w0.heap.size]? = some (.cells #[(.int .i64 ins), (.slice AG gates.length qG), (.slice AO outs.length qO), (.slice AN next.length qN), (.slice none 0 0)] 38 (0, 0)) := blk_put hb3 3 _ rfl
                      have hrc4 := (blk_cell hb4 4).trans (show _ = some (.slice none 0 0) from rfl)
                      have hrf4 := blk_frozen hb4 4
                      have hb5 : (((((WA.setCell ⟨w0.heap.size, 0, none⟩ (.int .i64 ins)).setCell ⟨w0.heap.size, 1, none⟩ (.slice AG gates.length qG)).setCell ⟨w0.heap.size, 2, none⟩ (.slice AO outs.length qO)).setCell ⟨w0.heap.size, 3, none⟩ (.slice AN next.length qN)).setCell ⟨w0.heap.size, 4, none⟩ (.slice AI init.length qI)).heap[w0.heap.size]? = some (.cells #[(.int .i64 ins), (.slice AG gates.length qG), (.slice AO outs.length qO), (.slice AN next.length qN), (.slice AI init.length qI)] 38 (0, 0)) := blk_put hb4 4 _ rfl
                      have HB5 := Aside0.mk hb5
                      clear hb0 hb1 hb2 hb3 hb4 hb5
                      have hl0 := (blk_cell HI.out.blk 0).trans (show _ = some (.int .i64 ins) from rfl)
                      have hl1 := (blk_cell HI.out.blk 1).trans (show _ = some (.slice AG gates.length qG) from rfl)
                      have hl2 := (blk_cell HI.out.blk 2).trans (show _ = some (.slice AO outs.length qO) from rfl)
                      have hl3 := (blk_cell HI.out.blk 3).trans (show _ = some (.slice AN next.length qN) from rfl)
                      have hl4 := (blk_cell HI.out.blk 4).trans (show _ = some (.slice AI init.length qI) from rfl)
                      go_wp2_with fail
                      refine bodyPost_ret (results_cell_row (fn := Try.f18) rfl _ _ w0.heap.size 38 #[.int .i64 ins, .slice AG gates.length qG, .slice AO outs.length qO, .slice AN next.length qN, .slice AI init.length qI] (0, 0) _ rfl HB5.out Try.underlying38 rfl (by kernel_rfl)) rfl ?_
                      have v1 := HN.out.1
                      have v2 := HK.out
                      have v3 := HO.out.1
                      have v4 := HQ.out
                      have v5 := HIN.out.1
                      have v6 := HJ.out
                      exact ⟨ins, _, _, _, _, gates, outs, next, init, rfl, { i0 := hi0, i1 := hi1, g0 := GL.out.1, g1 := GL.out.2, gok := (by rw [v1, v2]; exact HGT.out.2), o0 := (by omega), o1 := (by omega), ook := HO.out.2, n1 := (by omega), nok := HN.out.2, il := (by omega), iok := HIN.out.2 },
                        R_set5 rfl HI.out.rg _ _ _ _ _, R_set5 rfl HI.out.ro _ _ _ _ _, R_set5 rfl HI.out.rn _ _ _ _ _, R_set5 rfl HI.out.ri _ _ _ _ _, HI.out.aon, HI.out.aoi, HI.out.ani,
                        ((((HI.out.hb.setCell (Nat.le_refl _) _).setCell (Nat.le_refl _) _).setCell (Nat.le_refl _) _).setCell (Nat.le_refl _) _).setCell (Nat.le_refl _) _⟩
end Go.Proofs.Ytaalafnkglbcpaa.PG
