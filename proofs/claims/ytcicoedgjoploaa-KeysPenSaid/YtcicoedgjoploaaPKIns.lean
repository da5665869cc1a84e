/- slices.insertionSortCmpFunc of inputs, walked by hand. -/
import Derived.Test.YtcicoedgjoploaaPKSort
namespace Go.Proofs.Ytcicoedgjoploaa.PK
open Go.RowKit Go.Proofs.YtcicoedgjoploaaW.PrintWords Go.Proofs.YtcicoedgjoploaaW.PrintLast Go.Proofs.YtcicoedgjoploaaW.PrintMore
set_option linter.unusedVariables false
set_option linter.unusedSimpArgs false

def gtd (l : List S62) (j : Nat) : S62 := l.getD j z62
/-- Two neighbours change places. -/
def swp (l : List S62) (j : Nat) : List S62 := (l.set (j + 1) (gtd l j)).set j (gtd l (j + 1))
/-- One goes down to its place. -/
def down : Nat → List S62 → List S62
  | 0, l => l
  | j + 1, l => if (gtd l (j + 1)).f0 < (gtd l j).f0 then down j (swp l j) else l
def insN : Nat → Nat → List S62 → List S62
  | 0, _, l => l
  | n + 1, i, l => insN n (i + 1) (down i l)
def isort (l : List S62) : List S62 := insN (l.length - 1) 1 l
theorem swp_len (l : List S62) (j : Nat) : (swp l j).length = l.length := by unfold swp; rw [List.length_set, List.length_set]
theorem down_len : ∀ (j : Nat) (l : List S62), (down j l).length = l.length
  | 0, _ => rfl
  | j + 1, l => by
    unfold down
    split
    · rw [down_len j, swp_len]
    · rfl

def ins_T6 : Bool × List (List Nat × List Nat) := (true, [([], []), ([], []), ([], []), ([], []), ([3], [3]), ([], []), ([], []), ([6], [6]), ([5, 7], [5, 7]), ([8], [8]), ([], []), ([], []), ([10, 11], [10, 11]), ([12], [12]), ([0, 1, 0, 1, 5, 6, 7, 8, 9, 13], [0, 1]), ([14, 9, 0, 1, 5, 6, 7, 8, 9, 13], [9, 14]), ([2, 4, 0, 1, 2, 3, 4, 5, 6, 7, 8, 9, 10, 11, 12, 13, 14, 15], [2, 4]), ([16, 13, 15, 0, 1, 2, 3, 4, 5, 6, 7, 8, 9, 10, 11, 12, 13, 14, 15], [13, 16])])
def ins_B6 : List Nat := [0, 0, 0, 0, 8, 0, 0, 64, 224, 480, 0, 0, 3072, 7168, 16355, 32739, 65535, 131071]
theorem ins_tab6 : rtab .any (opsOf Try.f117 6) = ins_T6 := by kernel_rfl
theorem ins_bits6 : waitsOk ins_T6.2 ins_B6 = true := by kernel_rfl
theorem set3 (W : World) (g k : Nat) (a b c : Value) : W.setCells g k [a, b, c] = ((W.setCell ⟨g, k, none⟩ a).setCell ⟨g, k + 1, none⟩ b).setCell ⟨g, k + 2, none⟩ c := rfl
theorem cell3 (W : World) (g k m : Nat) (a b c : Value) (h : m < k ∨ k + 3 ≤ m) : (((W.setCell ⟨g, k, none⟩ a).setCell ⟨g, k + 1, none⟩ b).setCell ⟨g, k + 2, none⟩ c).cell? ⟨g, m, none⟩ = W.cell? ⟨g, m, none⟩ := by
  rw [← set3]
  exact World.cell?_setCells_out g [a, b, c] k W ⟨g, m, none⟩ (fun _ _ => by simpa using h)
theorem R_set3 {W : World} {base g n cap : Nat} {y : List S62} (h : Kd.R k62 62 W base (fun _ => True) (.slice (some ⟨g, 0, none⟩) n cap) y) (i : Nat) (hi : i < n) (c : S62)
    (c0 : W.cell? ⟨g, i * 3, none⟩ = some (.int .i64 c.f0)) (c1 : W.cell? ⟨g, i * 3 + 1, none⟩ = some (.string c.f1)) (c2 : W.cell? ⟨g, i * 3 + 2, none⟩ = some (.int .i64 c.f2)) (v : S62) :
    Kd.R k62 62 (((W.setCell ⟨g, i * 3, none⟩ (.int .i64 v.f0)).setCell ⟨g, i * 3 + 1, none⟩ (.string v.f1)).setCell ⟨g, i * 3 + 2, none⟩ (.int .i64 v.f2)) base (fun _ => True) (.slice (some ⟨g, 0, none⟩) n cap) (y.set i v) := by
  have h2 := (Kd.R_seg (okp := fun _ => False) h (i : Int) (by omega) (by omega) (c := [.int .i64 c.f0, .string c.f1, .int .i64 c.f2]) (seg := [.int .i64 v.f0, .string v.f1, .int .i64 v.f2]) (j := 0) rfl (fun j u hj => by
    rw [Int.toNat_natCast]
    show W.cell? ⟨g, i * 3 + j, none⟩ = some u
    match j, hj with
    | 0, hj => simp at hj; subst hj; exact c0
    | 1, hj => simp at hj; subst hj; exact c1
    | 2, hj => simp at hj; subst hj; exact c2
    | j + 3, hj => simp at hj) (by show 0 + 3 ≤ 3; omega) (x' := v) (k62_mkM _ _ _ v) (fun _ hk => hk.elim)).1
  rw [Int.toNat_natCast] at h2
  exact h2
theorem add0 (g n : Nat) : (⟨g, 0, none⟩ : Addr).add n = ⟨g, n, none⟩ := by unfold Addr.add; split <;> simp_all
set_option maxRecDepth 100000 in
set_option maxHeartbeats 16000000 in
theorem ins_calls (g cap : Nat) (l : List S62) (w0 w : World) (hr : Kd.R k62 62 w w0.heap.size (fun _ => True) (.slice (some ⟨g, 0, none⟩) l.length cap) l) (hB : Below w0.heap.size w0 w) (h1 : 1 ≤ l.length) (h2 : l.length ≤ 20) :
    Calls Try.prog 117 #[.slice (some ⟨g, 0, none⟩) l.length cap, .int .i64 0, .int .i64 l.length, .func (.func 70) #[] #[]] w fun e w' => e = .returned (.tuple #[]) ∧ Kd.R k62 62 w' w0.heap.size (fun _ => True) (.slice (some ⟨g, 0, none⟩) l.length cap) (isort l) ∧ Below w0.heap.size w0 w' := by
  have HR := Aside0.mk hr
  have HB := Aside0.mk hB
  clear hr hB
  obtain ⟨n, hn⟩ : ∃ n, l.length = n := ⟨_, rfl⟩
  have HN := Aside0.mk hn
  rw [hn] at HR h1 h2 ⊢
  clear hn
  go_enter Try.func117, Try.ntmps117
  go_wp2
  go_loopw [8] (fun v8 wr => ∃ (i : Nat) (x : List S62), 1 ≤ i ∧ i ≤ n ∧ v8 = .int .i64 i ∧ Aside0 (x.length = n) ∧ Aside0 (insN (n - i) i x = isort l) ∧ Aside0 (Kd.R k62 62 wr w0.heap.size (fun _ => True) (.slice (some ⟨g, 0, none⟩) n cap) x) ∧ Aside0 (Below w0.heap.size w0 wr)) (fun v8 _ => n - (intOf v8).toNat)
  case atStart => exact ⟨1, l, by omega, by omega, by go_num, HN, ⟨by unfold isort; rw [HN.out]⟩, HR, HB⟩
  case round =>
    clear HR HB
    obtain ⟨i, x, hi1, hi2, rfl, HX, HI, HR, HB⟩ := hrel
    obtain ⟨w1, rfl⟩ : ∃ w1 : World, w1 = wr := ⟨_, rfl⟩
    by_cases hlt : i < n
    · go_wp2
      go_loopw [9] (fun v9 wr => ∃ (j : Nat) (y : List S62), j ≤ i ∧ v9 = .int .i64 j ∧ Aside0 (y.length = n) ∧ Aside0 (down j y = down i x) ∧ Aside0 (Kd.R k62 62 wr w0.heap.size (fun _ => True) (.slice (some ⟨g, 0, none⟩) n cap) y) ∧ Aside0 (Below w0.heap.size w0 wr)) (fun v9 _ => (intOf v9).toNat)
      case atStart => exact ⟨i, x, Nat.le_refl _, rfl, HX, ⟨rfl⟩, HR, HB⟩
      case round =>
        clear HR HB HX
        obtain ⟨j, y, hj, rfl, HY, HD, HR, HB⟩ := hrel
        obtain ⟨w2, rfl⟩ : ∃ w2 : World, w2 = wr := ⟨_, rfl⟩
        have HDONE : Aside0 (∀ z, down j y = z → insN (n - (i + 1)) (i + 1) z = isort l) := ⟨fun z hz => by
          have h := HI.out
          rw [show n - i = (n - (i + 1)) + 1 by omega, insN, ← HD.out, hz] at h
          exact h⟩
        cases j with
        | zero =>
          have hz0 : ((0 : Nat) : Int) = 0 := rfl
          rw [hz0]
          go_wp2_with fail
          go_quiet (fail)
          go_wp2
          go_roundw
          case rel => exact ⟨i + 1, y, by omega, by omega, by go_num, HY, ⟨HDONE.out y rfl⟩, ⟨Kd.R_drewN HR.out nq⟩, ⟨pw_below_drewN HB.out nq⟩⟩
          case measure => simp [intOf]; omega
        | succ j =>
          have hyl := HY.out
          obtain ⟨a, ea, p0, p1, p2⟩ := at_T62 (Kd.R_reads' HR.out).2.2 ((j + 1 : Nat) : Int) (by omega) (by omega)
          obtain ⟨b, eb, q0, q1, q2⟩ := at_T62 (Kd.R_reads' HR.out).2.2 ((j : Nat) : Int) (by omega) (by omega)
          clear hyl
          obtain rfl : (⟨g, 0, none⟩ : Addr) = a := by injection ea
          obtain rfl : (⟨g, 0, none⟩ : Addr) = b := by injection eb
          clear ea eb
          have e1 : rd_T62 y ((j + 1 : Nat) : Int) = gtd y (j + 1) := rfl
          have e2 : rd_T62 y ((j : Nat) : Int) = gtd y j := rfl
          rw [e1, Int.toNat_natCast] at p0 p1 p2
          rw [e2, Int.toNat_natCast] at q0 q1 q2
          have e3 : IntKind.i64.wrap ((j : Int) + 1 - 1) = (j : Int) := by rw [IntWalk.i64_in _ (by omega)]; omega
          have e4 : IntKind.i64.wrap (j : Int) = (j : Int) := IntWalk.i64_in _ (by omega)
          have hji : (j : Int) + 1 < (n : Int) := by omega
          have hjk : 0 ≤ (j : Int) + 1 := by omega
          have hjj : (j : Int) < (n : Int) := by omega
          have hj0 : 0 < (j : Int) + 1 := by omega
          have hjt : ((j : Int) + 1).toNat = j + 1 := by omega
          clear e1 e2
          have HP : Aside0 (w2.cell? ⟨g, (j + 1) * 3, none⟩ = some (.int .i64 (gtd y (j + 1)).f0) ∧ w2.cell? ⟨g, (j + 1) * 3 + 1, none⟩ = some (.string (gtd y (j + 1)).f1) ∧ w2.cell? ⟨g, (j + 1) * 3 + 2, none⟩ = some (.int .i64 (gtd y (j + 1)).f2)) := ⟨by rw [add0] at p0 p1 p2; exact ⟨p0, p1, p2⟩⟩
          have HQ : Aside0 (w2.cell? ⟨g, j * 3, none⟩ = some (.int .i64 (gtd y j).f0) ∧ w2.cell? ⟨g, j * 3 + 1, none⟩ = some (.string (gtd y j).f1) ∧ w2.cell? ⟨g, j * 3 + 2, none⟩ = some (.int .i64 (gtd y j).f2)) := ⟨by rw [add0] at q0 q1 q2; exact ⟨q0, q1, q2⟩⟩
          clear p0 p1 p2 q0 q1 q2
          have ht0 : ((j + 1 : Nat) : Int) = (j : Int) + 1 := by omega
          obtain ⟨u, hu⟩ : ∃ u, gtd y (j + 1) = u := ⟨_, rfl⟩
          obtain ⟨v, hv⟩ : ∃ v, gtd y j = v := ⟨_, rfl⟩
          have HU := Aside0.mk hu
          have HV := Aside0.mk hv
          rw [hu] at HP
          rw [hv] at HQ
          clear hu hv
          have GL : Aside0 (g < w2.heap.size) := ⟨Kd.R_lt HR.out g rfl⟩
          have C := fun (W : World) => cmp_calls u v W
          rw [ht0]
          have p0 := HP.out.1
          have p1 := HP.out.2.1
          have p2 := HP.out.2.2
          have q0 := HQ.out.1
          have q1 := HQ.out.2.1
          have q2 := HQ.out.2.2
          have HRI : Aside0 (Kd.R k62 62 w2 w0.heap.size (fun _ => True) (.slice (some ⟨g, 0, none⟩) n cap) y) := HR
          by_cases hc : u.f0 < v.f0
          · have hcd : decide (cmpI u.f0 v.f0 < 0) = true := decide_eq_true (by unfold cmpI; rw [if_pos hc]; decide)
            have HC := Aside0.mk hc
            clear hc
            go_upto_region 4 with (fail)
            go_region_held3 (fun w' => w'.cell? ⟨g, (j + 1) * 3, none⟩ = some (.int .i64 u.f0) ∧ w'.cell? ⟨g, (j + 1) * 3 + 1, none⟩ = some (.string u.f1) ∧ w'.cell? ⟨g, (j + 1) * 3 + 2, none⟩ = some (.int .i64 u.f2) ∧ w'.cell? ⟨g, j * 3, none⟩ = some (.int .i64 v.f0) ∧ w'.cell? ⟨g, j * 3 + 1, none⟩ = some (.string v.f1) ∧ w'.cell? ⟨g, j * 3 + 2, none⟩ = some (.int .i64 v.f2))
              (first
                | go_keep
                | (refine ⟨?_, ?_, ?_, ?_, ?_, ?_⟩
                   · exact (hbI.out.cell (World.block_lt_of_cell? _ _ HP.out.1)).trans HP.out.1
                   · exact (hbI.out.cell (World.block_lt_of_cell? _ _ HP.out.2.1)).trans HP.out.2.1
                   · exact (hbI.out.cell (World.block_lt_of_cell? _ _ HP.out.2.2)).trans HP.out.2.2
                   · exact (hbI.out.cell (World.block_lt_of_cell? _ _ HQ.out.1)).trans HQ.out.1
                   · exact (hbI.out.cell (World.block_lt_of_cell? _ _ HQ.out.2.1)).trans HQ.out.2.1
                   · exact (hbI.out.cell (World.block_lt_of_cell? _ _ HQ.out.2.2)).trans HQ.out.2.2))
              (first | (go_at_call 70; refine (C _).mono ?_; rintro e wI ⟨rfl, hbI0⟩; have hbI := Aside0.mk hbI0; clear hbI0))
            clear hcd C p0 p1 p2 q0 q1 q2
            go_wp2
            have p0 := (hbI.out.cell (World.block_lt_of_cell? _ _ HP.out.1)).trans HP.out.1
            have p1 := (hbI.out.cell (World.block_lt_of_cell? _ _ HP.out.2.1)).trans HP.out.2.1
            have p2 := (hbI.out.cell (World.block_lt_of_cell? _ _ HP.out.2.2)).trans HP.out.2.2
            have q0 := (hbI.out.cell (World.block_lt_of_cell? _ _ HQ.out.1)).trans HQ.out.1
            have q1 := (hbI.out.cell (World.block_lt_of_cell? _ _ HQ.out.2.1)).trans HQ.out.2.1
            have q2 := (hbI.out.cell (World.block_lt_of_cell? _ _ HQ.out.2.2)).trans HQ.out.2.2
            have HR17 : Kd.R k62 62 wI.drew w0.heap.size (fun _ => True) (.slice (some ⟨g, 0, none⟩) n cap) y := Kd.R_drew (Kd.R_below (Kd.R_drew HRI.out) hbI.out)
            have HB17 : Below w0.heap.size w0 wI.drew := below_drew ((below_drew HB.out).trans (hbI.out.mono (below_drew HB.out).size))
            have hgb : w0.heap.size ≤ g := Kd.R_base HR17 g rfl
            obtain ⟨g', q', hv', _, _, cells, hcells⟩ := Kd.R_form HR17 (by rw [HY.out]; omega)
            obtain rfl : g = g' := by injection hv' with h1 h2 h3; injection h1 with h1; injection h1
            have f0 := blk_frozen hcells ((j + 1) * 3)
            have f1 := blk_frozen hcells ((j + 1) * 3 + 1)
            have f2 := blk_frozen hcells ((j + 1) * 3 + 2)
            have f3 := blk_frozen hcells (j * 3)
            have f4 := blk_frozen hcells (j * 3 + 1)
            have f5 := blk_frozen hcells (j * 3 + 2)
            have P0 : wI.drew.cell? ⟨g, (j + 1) * 3, none⟩ = some (.int .i64 u.f0) := p0
            have P1 : wI.drew.cell? ⟨g, (j + 1) * 3 + 1, none⟩ = some (.string u.f1) := p1
            have P2 : wI.drew.cell? ⟨g, (j + 1) * 3 + 2, none⟩ = some (.int .i64 u.f2) := p2
            have Q0 : wI.drew.cell? ⟨g, j * 3, none⟩ = some (.int .i64 v.f0) := q0
            have Q1 : wI.drew.cell? ⟨g, j * 3 + 1, none⟩ = some (.string v.f1) := q1
            have Q2 : wI.drew.cell? ⟨g, j * 3 + 2, none⟩ = some (.int .i64 v.f2) := q2
            have HR18 := R_set3 HR17 (j + 1) (by omega) u P0 P1 P2 v
            have R0 := (cell3 wI.drew g ((j + 1) * 3) (j * 3) (.int .i64 v.f0) (.string v.f1) (.int .i64 v.f2) (by omega)).trans Q0
            have R1 := (cell3 wI.drew g ((j + 1) * 3) (j * 3 + 1) (.int .i64 v.f0) (.string v.f1) (.int .i64 v.f2) (by omega)).trans Q1
            have R2 := (cell3 wI.drew g ((j + 1) * 3) (j * 3 + 2) (.int .i64 v.f0) (.string v.f1) (.int .i64 v.f2) (by omega)).trans Q2
            have HR19 := R_set3 HR18 j (by omega) v R0 R1 R2 u
            have eswp : (y.set (j + 1) v).set j u = swp y j := by unfold swp; rw [HU.out, HV.out]
            rw [eswp] at HR19
            have HRF := Aside0.mk HR19
            have HDN : Aside0 (down j (swp y j) = down i x) := ⟨by rw [← HD.out, down, HU.out, HV.out, if_pos HC.out]⟩
            have HYS : Aside0 ((swp y j).length = n) := ⟨by rw [swp_len, HY.out]⟩
            clear eswp
            have HBF := Aside0.mk HB17
            clear HR17 HR18 HR19 HB17 hcells hv'
            refine start_ (n := 18) (S := fun w' => w'.cell? ⟨g, (j + 1) * 3, none⟩ = some (.int .i64 u.f0) ∧ w'.cell? ⟨g, (j + 1) * 3 + 1, none⟩ = some (.string u.f1) ∧ w'.cell? ⟨g, (j + 1) * 3 + 2, none⟩ = some (.int .i64 u.f2) ∧ w'.cell? ⟨g, j * 3, none⟩ = some (.int .i64 v.f0) ∧ w'.cell? ⟨g, j * 3 + 1, none⟩ = some (.string v.f1) ∧ w'.cell? ⟨g, j * 3 + 2, none⟩ = some (.int .i64 v.f2)) (ds := [15, 17]) #[false, false, false, false, false, false, false, false, false, false, false, false, false, false, false, false, false, false] (by kernel_rfl) rfl rfl ⟨p0, p1, p2, q0, q1, q2⟩ (fun hHeld => ?_); refine with_tabW ins_tab6 ins_bits6 (fun HT_ HW_ => ?_)
            generalize wI.drew = w17 at *
            refine pure_ (i := 0) (N := some 37) (v := ?_) (a' := ?_) #[true, false, false, false, false, false, false, false, false, false, false, false, false, false, false, false, false, false] rfl rfl (any_of HT_.out (by kernel_rfl)) (fun _ _ _ h => h) (Or.inl ⟨by rfl, ?_⟩) ?_ ?_
            rotate_left
            · intro w'
              go_simp
              with_reducible rfl
            rotate_left
            · simp only [Act.put, List.setIfInBounds_toArray, List.set_cons_zero, List.set_cons_succ, i64_w, i32_w]
              rfl
            refine pure_ (i := 1) (N := some 38) (v := ?_) (a' := ?_) #[true, true, false, false, false, false, false, false, false, false, false, false, false, false, false, false, false, false] rfl rfl (any_of HT_.out (by kernel_rfl)) (fun _ _ _ h => h) (Or.inl ⟨by rfl, ?_⟩) ?_ ?_
            rotate_left
            · intro w'
              go_simp
              with_reducible rfl
            rotate_left
            · simp only [Act.put, List.setIfInBounds_toArray, List.set_cons_zero, List.set_cons_succ, i64_w, i32_w]
              rfl
            refine pure_ (i := 2) (N := some 39) (v := ?_) (a' := ?_) #[true, true, true, false, false, false, false, false, false, false, false, false, false, false, false, false, false, false] rfl rfl (any_of HT_.out (by kernel_rfl)) (fun _ _ _ h => h) (Or.inl ⟨by rfl, ?_⟩) ?_ ?_
            rotate_left
            · intro w'
              go_simp
              with_reducible rfl
            rotate_left
            · simp only [Act.put, List.setIfInBounds_toArray, List.set_cons_zero, List.set_cons_succ, i64_w, i32_w]
              rfl
            refine pure_ (i := 3) (N := some 40) (v := ?_) (a' := ?_) #[true, true, true, true, false, false, false, false, false, false, false, false, false, false, false, false, false, false] rfl rfl (any_of HT_.out (by kernel_rfl)) (fun _ _ _ h => h) (Or.inl ⟨by rfl, ?_⟩) ?_ ?_
            rotate_left
            · intro w'
              go_simp
              with_reducible rfl
            rotate_left
            · simp only [Act.put, List.setIfInBounds_toArray, List.set_cons_zero, List.set_cons_succ, i64_w, i32_w]
              rfl
            refine pure_ (i := 4) (N := some 41) (v := ?_) (a' := ?_) #[true, true, true, true, true, false, false, false, false, false, false, false, false, false, false, false, false, false] rfl rfl (any_of HT_.out (by kernel_rfl)) (fun _ _ _ h => h) (Or.inl ⟨by rfl, ?_⟩) ?_ ?_
            rotate_left
            · intro w'
              go_simp
              with_reducible rfl
            rotate_left
            · simp only [Act.put, List.setIfInBounds_toArray, List.set_cons_zero, List.set_cons_succ, i64_w, i32_w]
              rfl
            refine pure_ (i := 5) (N := some 42) (v := ?_) (a' := ?_) #[true, true, true, true, true, true, false, false, false, false, false, false, false, false, false, false, false, false] rfl rfl (any_of HT_.out (by kernel_rfl)) (fun _ _ _ h => h) (Or.inl ⟨by rfl, ?_⟩) ?_ ?_
            rotate_left
            · intro w'
              go_simp
              with_reducible rfl
            rotate_left
            · simp only [Act.put, List.setIfInBounds_toArray, List.set_cons_zero, List.set_cons_succ, i64_w, i32_w]
              rfl
            refine pure_ (i := 6) (N := some 43) (v := ?_) (a' := ?_) #[true, true, true, true, true, true, true, false, false, false, false, false, false, false, false, false, false, false] rfl rfl (any_of HT_.out (by kernel_rfl)) (fun _ _ _ h => h) (Or.inl ⟨by rfl, ?_⟩) ?_ ?_
            rotate_left
            · intro w'
              go_simp
              with_reducible rfl
            rotate_left
            · simp only [Act.put, List.setIfInBounds_toArray, List.set_cons_zero, List.set_cons_succ, i64_w, i32_w]
              rfl
            refine pure_ (i := 7) (N := some 44) (v := ?_) (a' := ?_) #[true, true, true, true, true, true, true, true, false, false, false, false, false, false, false, false, false, false] rfl rfl (any_of HT_.out (by kernel_rfl)) (fun _ _ _ h => h) (Or.inl ⟨by rfl, ?_⟩) ?_ ?_
            rotate_left
            · intro w'
              go_simp
              with_reducible rfl
            rotate_left
            · simp only [Act.put, List.setIfInBounds_toArray, List.set_cons_zero, List.set_cons_succ, i64_w, i32_w]
              rfl
            refine pure_ (i := 8) (N := some 45) (v := ?_) (a' := ?_) #[true, true, true, true, true, true, true, true, true, false, false, false, false, false, false, false, false, false] rfl rfl (any_of HT_.out (by kernel_rfl)) (fun _ _ _ h => h) (Or.inl ⟨by rfl, ?_⟩) ?_ ?_
            rotate_left
            · intro w'
              go_simp
              with_reducible rfl
            rotate_left
            · simp only [Act.put, List.setIfInBounds_toArray, List.set_cons_zero, List.set_cons_succ, i64_w, i32_w]
              rfl
            refine pure_ (i := 10) (N := some 47) (v := ?_) (a' := ?_) #[true, true, true, true, true, true, true, true, true, false, true, false, false, false, false, false, false, false] rfl rfl (any_of HT_.out (by kernel_rfl)) (fun _ _ _ h => h) (Or.inl ⟨by rfl, ?_⟩) ?_ ?_
            rotate_left
            · intro w'
              go_simp
              with_reducible rfl
            rotate_left
            · simp only [Act.put, List.setIfInBounds_toArray, List.set_cons_zero, List.set_cons_succ, i64_w, i32_w]
              rfl
            refine pure_ (i := 11) (N := some 48) (v := ?_) (a' := ?_) #[true, true, true, true, true, true, true, true, true, false, true, true, false, false, false, false, false, false] rfl rfl (any_of HT_.out (by kernel_rfl)) (fun _ _ _ h => h) (Or.inl ⟨by rfl, ?_⟩) ?_ ?_
            rotate_left
            · intro w'
              go_simp
              with_reducible rfl
            rotate_left
            · simp only [Act.put, List.setIfInBounds_toArray, List.set_cons_zero, List.set_cons_succ, i64_w, i32_w]
              rfl
            refine pure_ (i := 12) (N := some 49) (v := ?_) (a' := ?_) #[true, true, true, true, true, true, true, true, true, false, true, true, true, false, false, false, false, false] rfl rfl (any_of HT_.out (by kernel_rfl)) (fun _ _ _ h => h) (Or.inl ⟨by rfl, ?_⟩) ?_ ?_
            rotate_left
            · intro w'
              go_simp
              with_reducible rfl
            rotate_left
            · simp only [Act.put, List.setIfInBounds_toArray, List.set_cons_zero, List.set_cons_succ, i64_w, i32_w]
              rfl
            refine take_ (i := 9) (N := some 46) (v := ?_) (a' := ?_) #[true, true, true, true, true, true, true, true, true, true, true, true, true, false, false, false, false, false] rfl rfl (take_ofW HT_.out HW_.out (by kernel_rfl)) (fun _ _ _ h => h) (Or.inl ⟨by rfl, ?_⟩) hHeld ?_ ?_
            rotate_left
            · rintro w' ⟨s0, s1, s2, s3, s4, s5⟩
              go_simp
              with_reducible rfl
            rotate_left
            · simp only [Act.put, List.setIfInBounds_toArray, List.set_cons_zero, List.set_cons_succ, i64_w, i32_w]
              rfl
            refine take_ (i := 13) (N := some 50) (v := ?_) (a' := ?_) #[true, true, true, true, true, true, true, true, true, true, true, true, true, true, false, false, false, false] rfl rfl (take_ofW HT_.out HW_.out (by kernel_rfl)) (fun _ _ _ h => h) (Or.inl ⟨by rfl, ?_⟩) hHeld ?_ ?_
            rotate_left
            · rintro w' ⟨s0, s1, s2, s3, s4, s5⟩
              go_simp
              with_reducible rfl
            rotate_left
            · simp only [Act.put, List.setIfInBounds_toArray, List.set_cons_zero, List.set_cons_succ, i64_w, i32_w]
              rfl
            refine pure_ (i := 14) (N := some 51) (v := ?_) (a' := ?_) #[true, true, true, true, true, true, true, true, true, true, true, true, true, true, true, false, false, false] rfl rfl (any_of HT_.out (by kernel_rfl)) (fun _ _ _ h => h) (Or.inl ⟨by rfl, ?_⟩) ?_ ?_
            rotate_left
            · intro w'
              go_simp
              with_reducible rfl
            rotate_left
            · simp only [Act.put, List.setIfInBounds_toArray, List.set_cons_zero, List.set_cons_succ, i64_w, i32_w]
              rfl
            refine last_ (i := 15) (N := none) #[true, true, true, true, true, true, true, true, true, true, true, true, true, true, true, true, false, false] rfl rfl (one_of HT_.out (by kernel_rfl)) (by decide) (fun K hK => ?_)
            refine skip_ (w1 := ?_) (by rfl) rfl ?_ ?_
            rotate_left
            · go_simp
              rfl
            refine hK.out _ _ ?_
            clear hK K
            refine pure_ (i := 16) (N := some 52) (v := ?_) (a' := ?_) #[true, true, true, true, true, true, true, true, true, true, true, true, true, true, true, true, true, false] rfl rfl (any_of HT_.out (by kernel_rfl)) (fun _ _ _ h => h) (Or.inl ⟨by rfl, ?_⟩) ?_ ?_
            rotate_left
            · intro w'
              go_simp
              with_reducible rfl
            rotate_left
            · simp only [Act.put, List.setIfInBounds_toArray, List.set_cons_zero, List.set_cons_succ, i64_w, i32_w]
              rfl
            refine last_ (i := 17) (N := none) #[true, true, true, true, true, true, true, true, true, true, true, true, true, true, true, true, true, true] rfl rfl (one_of HT_.out (by kernel_rfl)) (by decide) (fun K hK => ?_)
            refine skip_ (w1 := ?_) (by rfl) rfl ?_ ?_
            rotate_left
            · go_simp
              rfl
            refine hK.out _ _ ?_
            clear hK K
            refine done_ (done_of HT_.out (by kernel_rfl)) ?_
            try go_wp2
            go_roundw
            case rel => exact ⟨j, swp y j, by omega, rfl, HYS, HDN, HRF, ⟨(((((HBF.out.setCell hgb _).setCell hgb _).setCell hgb _).setCell hgb _).setCell hgb _).setCell hgb _⟩⟩
            case measure => simp [intOf]
          · have hcd : decide (cmpI u.f0 v.f0 < 0) = false := decide_eq_false (by unfold cmpI; rw [if_neg hc]; split <;> decide)
            have HC := Aside0.mk hc
            clear hc
            go_upto_region 4 with (fail)
            go_region_held3 (fun w' => w'.cell? ⟨g, (j + 1) * 3, none⟩ = some (.int .i64 u.f0) ∧ w'.cell? ⟨g, (j + 1) * 3 + 1, none⟩ = some (.string u.f1) ∧ w'.cell? ⟨g, (j + 1) * 3 + 2, none⟩ = some (.int .i64 u.f2) ∧ w'.cell? ⟨g, j * 3, none⟩ = some (.int .i64 v.f0) ∧ w'.cell? ⟨g, j * 3 + 1, none⟩ = some (.string v.f1) ∧ w'.cell? ⟨g, j * 3 + 2, none⟩ = some (.int .i64 v.f2))
              (first
                | go_keep
                | (refine ⟨?_, ?_, ?_, ?_, ?_, ?_⟩
                   · exact (hbI.out.cell (World.block_lt_of_cell? _ _ HP.out.1)).trans HP.out.1
                   · exact (hbI.out.cell (World.block_lt_of_cell? _ _ HP.out.2.1)).trans HP.out.2.1
                   · exact (hbI.out.cell (World.block_lt_of_cell? _ _ HP.out.2.2)).trans HP.out.2.2
                   · exact (hbI.out.cell (World.block_lt_of_cell? _ _ HQ.out.1)).trans HQ.out.1
                   · exact (hbI.out.cell (World.block_lt_of_cell? _ _ HQ.out.2.1)).trans HQ.out.2.1
                   · exact (hbI.out.cell (World.block_lt_of_cell? _ _ HQ.out.2.2)).trans HQ.out.2.2))
              (first | (go_at_call 70; refine (C _).mono ?_; rintro e wI ⟨rfl, hbI0⟩; have hbI := Aside0.mk hbI0; clear hbI0))
            clear hcd C p0 p1 p2 q0 q1 q2
            go_wp2
            go_roundw
            case rel => exact ⟨i + 1, y, by omega, by omega, by go_num, HY, ⟨HDONE.out y (by have h := HC.out; unfold down; rw [HU.out, HV.out, if_neg (by omega)])⟩, ⟨Kd.R_below (Kd.R_drew HRI.out) hbI.out⟩, ⟨(below_drew HB.out).trans (hbI.out.mono (below_drew HB.out).size)⟩⟩
            case measure => simp [intOf]; omega
    · go_wp2
      exact bodyPost_end (results_none rfl _ _ _) rfl ⟨rfl, by have h := HI.out; rw [show n - i = 0 by omega] at h; simp only [insN] at h; rw [← h]; exact HR.out, HB.out⟩
end Go.Proofs.Ytcicoedgjoploaa.PK
