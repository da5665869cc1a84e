/- Steady, walked by hand, where all inputs are of one chip: those that hold, and of them those that change something. -/
import Derived.Test.YtijfinimlnedpaaPHoldIdx
import Derived.Test.YtijfinimlnedpaaPHoldx3
import Derived.Maps.Own
import Derived.Maps.OwnOps
import Derived.Maps.OwnSet
import Derived.Maps.Views
namespace Go.Proofs.Ytijfinimlnedpaa.PHold
open Go.RowKit Go.WideMaps Go.Maps Go.Proofs.YtijfinimlnedpaaW.PrintWords Go.Proofs.YtijfinimlnedpaaW.PrintLast Go.Proofs.YtijfinimlnedpaaW.PrintMore
set_option linter.unusedVariables false

/-- Those that hold for n cycles, and of them those that change something. -/
def std (n : Int) : Option Int → List S42 → List S42
  | _, [] => []
  | last, x :: r => if (∃ y, r.head? = some y ∧ y.f0 - x.f0 < n) then std n last r else if last = some x.f2 then std n last r else x :: std n (some x.f2) r

/-- What is asked: few inputs of one chip, at times in order. -/
def StOk (l : List S42) (n : Int) : Prop := l.length ≤ 500 ∧ (∀ x ∈ l, 0 ≤ x.f0 ∧ x.f0 ≤ 100000) ∧ 0 ≤ n ∧ n ≤ 100000 ∧ (∃ k, keys_times.f k (l.map S42.f0) = some 0) ∧ ∃ c : ByteArray, c.size ≤ maxLen ∧ ∀ x ∈ l, x.f1 = c ∧ (Lit.int .i64 x.f2).wf = true
noncomputable def keys_Steady.f (l0 : List S42) (a1 : Int) : Option (List S42 × Int) := by
  classical
  exact if StOk l0 a1 then some (std a1 none l0, 0) else none

theorem std_len (n : Int) (l : List S42) : ∀ last, (std n last l).length ≤ l.length := by
  induction l with
  | nil => intro _; simp [std]
  | cons x r ih =>
    intro last
    simp only [std]
    split
    · have := ih last; simp; omega
    · split
      · have := ih last; simp; omega
      · have := ih (some x.f2); simp; omega

theorem drop_T42 (l : List S42) (i : Nat) (h : i < l.length) : l.drop i = rd_T42 l (i : Int) :: l.drop (i + 1) := by
  rw [List.drop_eq_getElem_cons h]; simp [rd_T42, List.getD_eq_getElem?_getD, List.getElem?_eq_getElem h]
theorem rd_mem (l : List S42) (i : Nat) (h : i < l.length) : rd_T42 l (i : Int) ∈ l := by
  have := drop_T42 l i h
  exact List.mem_of_mem_drop (this ▸ List.mem_cons_self)

/-- The map holds what the last one was. -/
def Holds (D : DataW Unit) (key : Lit) (last : Option Int) : Prop := Maps.IsMap D ∧ match last with
  | none => Maps.has D key = false
  | some v => Maps.has D key = true ∧ ∀ z, D.atKey key z = .lit (.int .i64 v)

theorem lawS : Maps.Keyed Try.prog 9 := Maps.string_keyed Try.underlying9
theorem zero3 (w : World) : (zeroValue 3).run Try.prog w = .ok (.int .i64 0) w := by kernel_rfl

/-- The first loop: the times. -/
def timesOf (l : List S42) (i : Nat) : List Int := (l.take i).map S42.f0
theorem timesOf_succ (l : List S42) (i : Nat) (h : i < l.length) : timesOf l (i + 1) = timesOf l i ++ [(rd_T42 l (i : Int)).f0] := by
  unfold timesOf
  rw [List.take_succ_eq_append_getElem h, List.map_append]
  simp [rd_T42, List.getD_eq_getElem?_getD, List.getElem?_eq_getElem h]

theorem owns_below {W W' : World} {b m : Nat} {D : DataW Unit} (h : W.ownsMap Try.prog 9 (plainElem Try.prog 3) b m D) (hb : b < W.heap.size) (hB : Below W.heap.size W W') : W'.ownsMap Try.prog 9 (plainElem Try.prog 3) b m D :=
  h.kept (row := none) ⟨hB.os, hB.tape, hB.output, hB.size, fun k hk _ => hB.block k hk⟩ (by simp)
theorem owns_drewN {W : World} {b m : Nat} {D : DataW Unit} (h : W.ownsMap Try.prog 9 (plainElem Try.prog 3) b m D) (q : Nat) : (W.drewN q).ownsMap Try.prog 9 (plainElem Try.prog 3) b m D := by
  obtain ⟨es, clock, h1, h2⟩ := h
  exact ⟨es, clock, by simpa using h1, h2⟩
theorem own_ne {W : World} {base g : Nat} {ok : Nat → Prop} {v : Value} {xs : List S42} (h : Kd.R k42 42 W base ok v xs) (hg : W.heap.size ≤ g) : some g ≠ v.ownBlock := by
  obtain ⟨inner, ho⟩ := Kd.R_own h
  intro e
  have := (ho.lt _ e.symm).2
  omega
theorem own_low {W : World} {base g : Nat} {ok : Nat → Prop} {v : Value} {xs : List S42} (h : Kd.R k42 42 W base ok v xs) (hg : g < base) : some g ≠ v.ownBlock := by
  intro e
  have := Kd.R_base h g e.symm
  omega
theorem holds_put {W : World} {b m : Nat} {D : DataW Unit} {key : Lit} (h : W.ownsMap Try.prog 9 (plainElem Try.prog 3) b m D) (hk : WideAt.IsKeyLit key) (v : Int) : Aside0 (Holds (D.put key (.lit (.int .i64 v))) key (some v)) :=
  ⟨⟨by obtain ⟨es, he⟩ := h.isMap; subst he; exact ⟨_, rfl⟩, Maps.has_put_same h.isMap hk _, fun z => Maps.atKey_put_same h.isMap hk _ z⟩⟩

set_option maxRecDepth 100000 in
set_option maxHeartbeats 4000000 in
theorem steady_walk (k : Nat) (A0 : Option Addr) (c0 : Nat) (l0 : List S42) (n : Int) (c : ByteArray) (w : World) (hr0 : Kd.C k42 w A0 l0.length l0) (hc0 : l0.length ≤ c0)
    (h1 : l0.length ≤ 500) (h2 : ∀ x ∈ l0, 0 ≤ x.f0 ∧ x.f0 ≤ 100000) (n0 : 0 ≤ n) (n1 : n ≤ 100000) (ht : keys_times.f k (l0.map S42.f0) = some 0) (hcs : c.size ≤ maxLen) (h3 : ∀ x ∈ l0, x.f1 = c ∧ (Lit.int .i64 x.f2).wf = true) :
    Calls Try.prog 25 #[.slice A0 l0.length c0, .int .i64 n] w fun e w' => ∃ v0_ : Value, e = .returned (.tuple #[v0_, .int .i64 0]) ∧ Kd.R k42 42 w' w.heap.size (fun _ => True) v0_ (std n none l0) ∧ Below w.heap.size w w' := by
  have HR0 := Aside0.mk hr0
  have HC0 := Aside0.mk hc0
  have HT := Aside0.mk ht
  have H2 := Aside0.mk h2
  have H3 := Aside0.mk h3
  clear hr0 hc0 ht h2 h3
  go_enter Try.func25, Try.ntmps25
  go_wp2
  go_loopw [6, 19] (fun v6 v19 wr => ∃ i : Nat, i ≤ l0.length ∧ v19 = .int .i64 i ∧ Aside0 (Kd.R (Kd.int .i64) 3 wr w.heap.size (fun _ => True) v6 (timesOf l0 i)) ∧ Aside0 (Below w.heap.size w wr)) (fun _ v19 _ => l0.length - (intOf v19).toNat)
  case atStart => exact ⟨0, by omega, rfl, ⟨Kd.R_nil _ _ _ _ _⟩, ⟨Below.refl _ _⟩⟩
  case round =>
    obtain ⟨i, hi, rfl, HR, HB⟩ := hrel
    by_cases hlt : i < l0.length
    · have hts := timesOf_succ l0 i hlt
      obtain ⟨ad, rfl, g0, g1, g2⟩ := at_T42 (Kd.C_below HR0.out HB.out) (i : Int) (by omega) (by omega)
      generalize hx : rd_T42 l0 (i : Int) = x at *
      have HTS := Aside0.mk hts
      have SL : Aside0 ((timesOf l0 i).length ≤ 500) := ⟨by simp [timesOf]; omega⟩
      clear hx hts
      rw [Int.toNat_natCast] at g0 g1 g2
      go_wp2_with ((with_reducible refine gate_builtin (b := .append) (xs := #[.tmp 23, .tmp 26]) rfl ?_); at_builtin; refine Kd.R_append (Kd.int .i64) (w0 := w) w.heap.size rfl (.tmp 23) (.tmp 26) 22 3 (.int .i64 0) 8 rfl Try.underlying22 info3 rfl (by decide) (by omega) u6 (timesOf l0 i) x.f0 [.int .i64 x.f0] (fun _ => True) (fun _ => False) rfl ?aX ?aP (fun _ hk => hk.elim) ?aF ?aO ?aB ?aS ?aL ?_; (case aX => show Value.slice (some ⟨wr.heap.size + 1, 0, none⟩) 1 1 = _; simp); (case aP => exact rfl); (case aB => exact (by repeat (first | (with_reducible first | exact HB.out | apply below_alloc | apply pw_below_drewN | apply below_drew1) | exact HB.out))); (case aF => exact (fun _ _ => trivial)); (case aO => exact (by (with_reducible repeat (first | apply Kd.R_alloc | apply Kd.R_drewN | apply Kd.R_drew)); exact HR.out)); (case aS => exact (below_size (by repeat (first | (with_reducible first | exact HB.out | apply below_alloc | apply pw_below_drewN | apply below_drew1) | exact HB.out)))); (case aL => have := SL.out; omega); intro v105 w11 ho hb hg hat; have n0_ := Aside0.mk hb; have n1_ := Aside0.mk ho; clear HB HR; have HB := n0_; have HR := n1_; clear n0_ n1_; clear ho hb hg hat)
      go_roundw
      case rel => exact ⟨i + 1, by omega, by go_num, ⟨by rw [HTS.out]; exact HR.out⟩, ⟨HB.out⟩⟩
      case measure => simp [intOf]; omega
    · have hie : timesOf l0 i = l0.map S42.f0 := by unfold timesOf; rw [List.take_of_length_le (by omega)]
      have HR' := HR.out
      rw [hie] at HR'
      obtain ⟨Av, cv, rfl, hcv, Cv⟩ := Kd.R_reads HR'
      have HCv := Aside0.mk hcv
      have m1 := keys_times.calls k Av cv (l0.map S42.f0) 0 wr Cv hcv HT.out
      rw [List.length_map] at m1
      have M1 := Aside0.mk m1
      have HL := HR0.out.1
      clear hie HR' hcv Cv HR HL m1
      have hmm := @run_makeMap Try.prog
      go_wp2_with fail
      (with_reducible refine M1.out.mono ?_)
      rintro e w1 ⟨rfl, nd, rfl⟩
      clear M1
      go_wp2
      obtain ⟨key, hkey, hkl⟩ : ∃ key, keyOf Try.prog 9 (.string c) = some key ∧ WideAt.IsKeyLit key := ⟨_, keyOf_string_mk Try.underlying9 hcs, lawS.key (keyOf_string_mk Try.underlying9 hcs)⟩
      have HKey := Aside0.mk hkey
      have HKl := Aside0.mk hkl
      have HB0 : Aside0 (Below w.heap.size w ((wr.drewN nd).alloc (Obj.map #[] 0))) := ⟨below_alloc (pw_below_drewN HB.out nd) _⟩
      have HM0 : Aside0 (((wr.drewN nd).alloc (Obj.map #[] 0)).ownsMap Try.prog 9 (plainElem (H := Unit) Try.prog 3) wr.heap.size 0 (.map [])) := ⟨World.ownsMap_made (wr.drewN nd) _ _ _⟩
      have hZ0 : ((wr.drewN nd).alloc (Obj.map #[] 0)).heap.size = wr.heap.size + 1 := by simp
      have HwB : Aside0 (w.heap.size ≤ wr.heap.size) := ⟨HB.out.size⟩
      generalize hW0 : (wr.drewN nd).alloc (Obj.map #[] 0) = W0 at *
      obtain ⟨B, hBe⟩ : ∃ B, wr.heap.size = B := ⟨_, rfl⟩
      rw [hBe] at HM0 hZ0 HwB ⊢
      clear hW0 hBe HB HT HCv hkey hkl
      go_loopw [10, 39] (fun v10 v39 wr => ∃ (i : Nat) (acc : List S42) (last : Option Int) (D : DataW Unit) (m : Nat), i ≤ l0.length ∧ v39 = .int .i64 i ∧ m ≤ i ∧ Aside0 (Kd.R k42 42 wr (B + 1) (fun _ => True) v10 acc) ∧ Aside0 (Below w.heap.size w wr) ∧ Aside0 (wr.ownsMap Try.prog 9 (plainElem Try.prog 3) B m D) ∧ Aside0 (Holds D key last) ∧ Aside0 (acc ++ std n last (l0.drop i) = std n none l0) ∧ B + 1 ≤ wr.heap.size) (fun _ v39 _ => l0.length - (intOf v39).toNat)
      case atStart => exact ⟨0, [], none, .map [], 0, by omega, rfl, Nat.le_refl _, ⟨Kd.R_nil _ _ _ _ _⟩, HB0, HM0, ⟨Maps.isMap_empty, rfl⟩, ⟨by simp⟩, by omega⟩
      case round =>
        obtain ⟨j, acc, last, D, m, hj, rfl, hmj, HR, HB, HM, HD, HS, hBz⟩ := hrel
        by_cases hjl : j < l0.length
        · have hdr := drop_T42 l0 j hjl
          have hmem := rd_mem l0 j hjl
          have hx2 := H2.out _ hmem
          have hx3 := H3.out _ hmem
          obtain ⟨ad, hA, g0, g1, g2⟩ := at_T42 (Kd.C_below HR0.out HB.out) (j : Int) (by omega) (by omega)
          have hS := HS.out
          rw [hdr] at hS
          generalize hx : rd_T42 l0 (j : Int) = x at *
          rw [hx3.1] at g1
          have HX := Aside0.mk hx3
          have HSS := Aside0.mk hS
          subst hA
          clear hx hdr hS hmem hx3 HS
          rw [Int.toNat_natCast] at g0 g1 g2
          have SLa : Aside0 (acc.length ≤ 500) := ⟨by
            have h := congrArg List.length HSS.out
            rw [List.length_append] at h
            have := std_len n l0 none
            omega⟩
          have HXM : ∀ (W : World) (b : Nat), k42.M W b (fun _ => False) x [.int .i64 x.f0, .string c, .int .i64 x.f2] := fun W b => by
            have h := k42_mkM W b (fun _ => False) x
            rw [HX.out.1] at h; exact h
          have HXM := Aside0.mk HXM
          have HwB1 : Aside0 (w.heap.size ≤ B + 1) := ⟨by have := HwB.out; omega⟩
          by_cases hlast : j + 1 < l0.length
          · obtain ⟨g3, hA2, g30, g31, g32⟩ := at_T42 (Kd.C_below HR0.out HB.out) ((j + 1 : Nat) : Int) (by omega) (by omega)
            obtain rfl : ad = g3 := by injection hA2
            have hdr2 := drop_T42 l0 (j + 1) hlast
            have hy2 := H2.out _ (rd_mem l0 (j + 1) hlast)
            have hcap' : j + 1 < c0 := by have := HC0.out; omega
            have b1 : ((j : Int) + 1) ≤ (l0.length : Int) := by omega
            have b2 : ((j : Int) + 1) < (l0.length : Int) := by omega
            have b0 : 0 ≤ (j : Int) + 1 := by omega
            have hC := Kd.C_drop (m := j + 1) (Kd.C_below HR0.out HB.out) (by omega) HC0.out
            rw [if_neg (by omega)] at hC
            have hC' : Kd.C k42 wr (some (ad.add ((j + 1) * 3))) (l0.drop (j + 1)).length (l0.drop (j + 1)) := hC
            have HCD := Aside0.mk hC'
            have hlen : 0 < (l0.drop (j + 1)).length := by rw [List.length_drop]; omega
            have HLEN := Aside0.mk hlen
            have HALL : Aside0 (∀ y ∈ l0.drop (j + 1), y.f1 = c) := ⟨fun y hy => (H3.out y (List.mem_of_mem_drop hy)).1⟩
            generalize hyy : rd_T42 l0 ((j + 1 : Nat) : Int) = y at *
            rw [Int.toNat_natCast] at g30
            have HHEAD : Aside0 ((l0.drop (j + 1)).head? = some y) := ⟨by rw [hdr2]; rfl⟩
            have I1 := fun (W : World) (hW : Kd.C k42 W (some (ad.add ((j + 1) * 3))) (l0.drop (j + 1)).length (l0.drop (j + 1))) (hP : W.cell? ⟨wr.heap.size, 1, none⟩ = some (.string c)) => index_some (some (ad.add ((j + 1) * 3))) (c0 - (j + 1)) wr.heap.size (l0.drop (j + 1)) c hlen HALL.out W hW hP
            rw [List.length_drop] at I1
            have I2 := Aside0.mk (I1 (wr.alloc (Obj.cells #[Value.int IntKind.i64 x.f0, Value.string c, Value.int IntKind.i64 x.f2] 42)) (by rw [List.length_drop] at hC'; exact Kd.C_alloc hC' _) (by go_simp))
            have HLT : Aside0 ((ad.add ((j + 1) * 3)).block < wr.heap.size) := ⟨World.block_lt_of_cell? wr _ g30⟩
            have e1 : IntKind.i64.wrap ((j : Int) + 1) = (j : Int) + 1 := IntWalk.i64_in _ (by omega)
            have e2 : IntKind.i64.wrap ((j : Int) + 1 + 0) = (j : Int) + 1 := by rw [Int.add_zero]; exact e1
            have e3 : IntKind.i64.wrap (y.f0 - x.f0) = y.f0 - x.f0 := IntWalk.i64_in _ (by omega)
            have E1 := Aside0.mk e1
            have E2 := Aside0.mk e2
            have E3 := Aside0.mk e3
            clear hA2 hdr2 hC hC' hlen hyy I1 g31 g32 e1 e2 e3
            go_wp2_with fail
            (with_reducible refine I2.out.mono ?_)
            rintro e w5 ⟨rfl, hb5⟩
            have q3 : w5.cell? (ad.add ((j + 1) * 3)) = some (.int .i64 y.f0) := (hb5.cell (p := ad.add ((j + 1) * 3)) (by simp; have := HLT.out; omega)).trans ((World.cell?_alloc_lt _ _ _ HLT.out).trans g30)
            clear g30 I2
            have hb5' := Aside0.mk hb5
            have z5 := hb5.size
            have q0 : w5.cell? ⟨wr.heap.size, 0, none⟩ = some (.int .i64 x.f0) := (hb5.cell (p := ⟨wr.heap.size, 0, none⟩) (by simp)).trans (by go_simp)
            have q1 : w5.cell? ⟨wr.heap.size, 1, none⟩ = some (.string c) := (hb5.cell (p := ⟨wr.heap.size, 1, none⟩) (by simp)).trans (by go_simp)
            have q2 : w5.cell? ⟨wr.heap.size, 2, none⟩ = some (.int .i64 x.f2) := (hb5.cell (p := ⟨wr.heap.size, 2, none⟩) (by simp)).trans (by go_simp)
            have HB5 : Aside0 (Below w.heap.size w w5) := ⟨(below_alloc HB.out _).trans (hb5.mono (by have := HB.out.size; simp; omega))⟩
            have HR5 : Aside0 (Kd.R k42 42 w5 (B + 1) (fun _ => True) u10 acc) := ⟨Kd.R_below (Kd.R_alloc HR.out _) hb5⟩
            have HM5 : Aside0 (w5.ownsMap Try.prog 9 (plainElem Try.prog 3) B m D) := ⟨owns_below (HM.out.alloc _) (by simp; omega) hb5⟩
            have HZ5 : Aside0 (B + 1 ≤ w5.heap.size) := ⟨by simp at z5; omega⟩
            have HNE5 : Aside0 (some wr.heap.size ≠ (u10 : Value).ownBlock) := ⟨own_ne HR.out (Nat.le_refl _)⟩
            clear hb5 z5 g0 g1 g2
            have e1 := E1.out
            have e2 := E2.out
            have e3 := E3.out
            by_cases hh : y.f0 - x.f0 < n
            · have hh1 : decide (y.f0 - x.f0 < n) = true := decide_eq_true hh
              have HS1 : Aside0 (acc ++ std n last (l0.drop (j + 1)) = std n none l0) := ⟨by have h := HSS.out; simp only [std] at h; rw [if_pos ⟨y, HHEAD.out, hh⟩] at h; exact h⟩
              go_wp2_with fail
              go_quiet (fail)
              clear e1 e2 e3
              have HB6 : Aside0 (Below w.heap.size w (w5.drewN nq)) := ⟨pw_below_drewN HB5.out nq⟩
              have HR6 : Aside0 (Kd.R k42 42 (w5.drewN nq) (B + 1) (fun _ => True) u10 acc) := ⟨Kd.R_drewN HR5.out nq⟩
              have HM6 : Aside0 ((w5.drewN nq).ownsMap Try.prog 9 (plainElem Try.prog 3) B m D) := ⟨owns_drewN HM5.out nq⟩
              go_wp2
              go_roundw
              case rel => exact ⟨j + 1, acc, last, D, m, by omega, by go_num, by omega, HR6, HB6, HM6, HD, HS1, by have := HZ5.out; simp; omega⟩
              case measure => simp [intOf]; omega
            · have hh1 : decide (y.f0 - x.f0 < n) = false := decide_eq_false hh
              have HNO : Aside0 (¬ ∃ y, (l0.drop (j + 1)).head? = some y ∧ y.f0 - x.f0 < n) := ⟨by rintro ⟨y', h1, h2⟩; rw [HHEAD.out] at h1; injection h1 with h1; subst h1; exact hh h2⟩
              go_wp2_with fail
              go_quiet (fail)
              clear e1 e2 e3
              have HB6 : Aside0 (Below w.heap.size w (w5.drewN nq)) := ⟨pw_below_drewN HB5.out nq⟩
              have HR6 : Aside0 (Kd.R k42 42 (w5.drewN nq) (B + 1) (fun _ => True) u10 acc) := ⟨Kd.R_drewN HR5.out nq⟩
              have HM6 : Aside0 ((w5.drewN nq).ownsMap Try.prog 9 (plainElem Try.prog 3) B m D) := ⟨owns_drewN HM5.out nq⟩
              cases last with
              | none =>
                have HHas : Aside0 (Maps.has D key = false) := ⟨HD.out.2⟩
                have HS2 : Aside0 (acc ++ ([x] ++ std n (some x.f2) (l0.drop (j + 1))) = std n none l0) := ⟨by have h := HSS.out; simp only [std] at h; rw [if_neg HNO.out, if_neg (by simp)] at h; exact h⟩
                go_wp2_with (first
                  | (at_lookup; refine wpList_lookup_own_ok_int _ rfl (.tmp 68) (.tmp 70) 109 rfl 9 3 .i64 lawS Try.underlying109 Try.underlying3 (zero3 _) B m D rfl HM6.out (.string c) key rfl HKey.out ?_; intro cc hat hwf; rw [HHas.out]; clear hat hwf)
                  | ((with_reducible refine gate_builtin (b := .append) (xs := #[.tmp 82, .tmp 84]) rfl ?_); at_builtin; refine Kd.R_append k42 (w0 := w5.drewN nq) (B + 1) rfl (.tmp 82) (.tmp 84) 33 42 (.agg #[.int .i64 0, .string ⟨#[]⟩, .int .i64 0]) 32 rfl Try.underlying33 info42 rfl (by decide) (by omega) u10 acc x [.int .i64 x.f0, .string c, .int .i64 x.f2] (fun _ => True) (fun _ => False) rfl ?aX ?aP (fun _ hk => hk.elim) ?aF ?aO (Below.refl _ _) ?aS ?aL ?_; (case aX => first | rfl | (simp; done)); (case aP => exact HXM.out _ _); (case aF => exact (fun _ _ => trivial)); (case aO => exact HR6.out); (case aS => exact HZ5.out); (case aL => have := SLa.out; omega); intro v7 w7 ho hb hg hat7; have HR7 := Aside0.mk ho; have HB7 : Aside0 (Below w.heap.size w w7) := ⟨HB6.out.grown hg HB6.out.size (fun k hk => Nat.le_trans HwB1.out (Kd.R_base HR6.out k hk))⟩; have HM7 : Aside0 (w7.ownsMap Try.prog 9 (plainElem Try.prog 3) B m D) := ⟨HM6.out.kept hg (own_low HR6.out (Nat.lt_succ_self _))⟩; have HZ7 : Aside0 (B + 1 ≤ w7.heap.size) := ⟨Nat.le_trans HZ5.out hg.size⟩; have q17 : w7.cell? ⟨wr.heap.size, 1, none⟩ = some (.string c) := cell_grown hg (v := .string c) (by simpa using q1) HNE5.out; have q27 : w7.cell? ⟨wr.heap.size, 2, none⟩ = some (.int .i64 x.f2) := cell_grown hg (v := .int .i64 x.f2) (by simpa using q2) HNE5.out; clear ho hb hg hat7)
                  | (at_mapUpdate; refine wpList_mapUpdate_own _ rfl (.tmp 86) (.tmp 88) (.tmp 90) 109 rfl 9 3 lawS Try.underlying109 _ B m D rfl HM7.out (by unfold maxLen; omega) (.string c) (.int .i64 x.f2) key rfl rfl HKey.out _ [] (plainElem_int Try.underlying3 HX.out.2) ?_; intro w8 hown8 hgrow8; have HM8 := Aside0.mk hown8; have HR8 : Aside0 (Kd.R k42 42 w8 (B + 1) (fun _ => True) v7 (acc ++ [x])) := ⟨Kd.R_grown1 HR7.out rfl hgrow8 (own_low HR7.out (Nat.lt_succ_self _))⟩; have HB8 : Aside0 (Below w.heap.size w w8) := ⟨HB7.out.grown hgrow8 HB7.out.size (fun k hk => by cases hk; exact HwB.out)⟩; have HZ8 : Aside0 (B + 1 ≤ w8.heap.size) := ⟨Nat.le_trans HZ7.out hgrow8.size⟩; clear hown8 hgrow8))
                go_roundw
                case rel => exact ⟨j + 1, acc ++ [x], some x.f2, _, m + 1, by omega, by go_num, by omega, HR8, HB8, HM8, holds_put HM7.out HKl.out x.f2, ⟨by rw [List.append_assoc]; exact HS2.out⟩, HZ8.out⟩
                case measure => simp [intOf]; omega
              | some v =>
                have HHas : Aside0 (Maps.has D key = true) := ⟨HD.out.2.1⟩
                have HVal : Aside0 (∀ z, D.atKey key z = .lit (.int .i64 v)) := ⟨HD.out.2.2⟩
                by_cases hv : v = x.f2
                · have hb1 : (v != x.f2) = false := by simp [hv]
                  have HS1 : Aside0 (acc ++ std n (some v) (l0.drop (j + 1)) = std n none l0) := ⟨by have h := HSS.out; simp only [std] at h; rw [if_neg HNO.out, if_pos (by rw [hv])] at h; exact h⟩
                  have HV := Aside0.mk hv
                  clear hv
                  go_wp2_with (at_lookup; refine wpList_lookup_own_ok_int _ rfl (.tmp 68) (.tmp 70) 109 rfl 9 3 .i64 lawS Try.underlying109 Try.underlying3 (zero3 _) B m D rfl HM6.out (.string c) key rfl HKey.out ?_; intro cc hat hwf; rw [HHas.out]; have hcv : cc = v := (by have h := hat.symm.trans (HVal.out _); simpa using h); clear hat hwf; subst hcv)
                  go_roundw
                  case rel => exact ⟨j + 1, acc, some cc, D, m, by omega, by go_num, by omega, HR6, HB6, HM6, HD, HS1, by have := HZ5.out; simp; omega⟩
                  case measure => simp [intOf]; omega
                · have hb1 : (v != x.f2) = true := by simp [hv]
                  have HS2 : Aside0 (acc ++ ([x] ++ std n (some x.f2) (l0.drop (j + 1))) = std n none l0) := ⟨by have h := HSS.out; simp only [std] at h; rw [if_neg HNO.out, if_neg (by simpa using hv)] at h; exact h⟩
                  have HV := Aside0.mk hv
                  clear hv
                  go_wp2_with (first
                    | (at_lookup; refine wpList_lookup_own_ok_int _ rfl (.tmp 68) (.tmp 70) 109 rfl 9 3 .i64 lawS Try.underlying109 Try.underlying3 (zero3 _) B m D rfl HM6.out (.string c) key rfl HKey.out ?_; intro cc hat hwf; rw [HHas.out]; have hcv : cc = v := (by have h := hat.symm.trans (HVal.out _); simpa using h); clear hat hwf; subst hcv)
                    | ((with_reducible refine gate_builtin (b := .append) (xs := #[.tmp 82, .tmp 84]) rfl ?_); at_builtin; refine Kd.R_append k42 (w0 := w5.drewN nq) (B + 1) rfl (.tmp 82) (.tmp 84) 33 42 (.agg #[.int .i64 0, .string ⟨#[]⟩, .int .i64 0]) 32 rfl Try.underlying33 info42 rfl (by decide) (by omega) u10 acc x [.int .i64 x.f0, .string c, .int .i64 x.f2] (fun _ => True) (fun _ => False) rfl ?aX ?aP (fun _ hk => hk.elim) ?aF ?aO (Below.refl _ _) ?aS ?aL ?_; (case aX => first | rfl | (simp; done)); (case aP => exact HXM.out _ _); (case aF => exact (fun _ _ => trivial)); (case aO => exact HR6.out); (case aS => exact HZ5.out); (case aL => have := SLa.out; omega); intro v7 w7 ho hb hg hat7; have HR7 := Aside0.mk ho; have HB7 : Aside0 (Below w.heap.size w w7) := ⟨HB6.out.grown hg HB6.out.size (fun k hk => Nat.le_trans HwB1.out (Kd.R_base HR6.out k hk))⟩; have HM7 : Aside0 (w7.ownsMap Try.prog 9 (plainElem Try.prog 3) B m D) := ⟨HM6.out.kept hg (own_low HR6.out (Nat.lt_succ_self _))⟩; have HZ7 : Aside0 (B + 1 ≤ w7.heap.size) := ⟨Nat.le_trans HZ5.out hg.size⟩; have q17 : w7.cell? ⟨wr.heap.size, 1, none⟩ = some (.string c) := cell_grown hg (v := .string c) (by simpa using q1) HNE5.out; have q27 : w7.cell? ⟨wr.heap.size, 2, none⟩ = some (.int .i64 x.f2) := cell_grown hg (v := .int .i64 x.f2) (by simpa using q2) HNE5.out; clear ho hb hg hat7)
                    | (at_mapUpdate; refine wpList_mapUpdate_own _ rfl (.tmp 86) (.tmp 88) (.tmp 90) 109 rfl 9 3 lawS Try.underlying109 _ B m D rfl HM7.out (by unfold maxLen; omega) (.string c) (.int .i64 x.f2) key rfl rfl HKey.out _ [] (plainElem_int Try.underlying3 HX.out.2) ?_; intro w8 hown8 hgrow8; have HM8 := Aside0.mk hown8; have HR8 : Aside0 (Kd.R k42 42 w8 (B + 1) (fun _ => True) v7 (acc ++ [x])) := ⟨Kd.R_grown1 HR7.out rfl hgrow8 (own_low HR7.out (Nat.lt_succ_self _))⟩; have HB8 : Aside0 (Below w.heap.size w w8) := ⟨HB7.out.grown hgrow8 HB7.out.size (fun k hk => by cases hk; exact HwB.out)⟩; have HZ8 : Aside0 (B + 1 ≤ w8.heap.size) := ⟨Nat.le_trans HZ7.out hgrow8.size⟩; clear hown8 hgrow8))
                  go_roundw
                  case rel => exact ⟨j + 1, acc ++ [x], some x.f2, _, m + 1, by omega, by go_num, by omega, HR8, HB8, HM8, holds_put HM7.out HKl.out x.f2, ⟨by rw [List.append_assoc]; exact HS2.out⟩, HZ8.out⟩
                  case measure => simp [intOf]; omega
          · have hje : j + 1 = l0.length := by omega
            have b1 : ((j : Int) + 1) ≤ (l0.length : Int) := by omega
            have b0 : 0 ≤ (j : Int) + 1 := by omega
            have HNO : Aside0 (¬ ∃ y, (l0.drop (j + 1)).head? = some y ∧ y.f0 - x.f0 < n) := ⟨by rw [List.drop_eq_nil_of_le (by omega)]; simp⟩
            have hz0 : l0.length - (j + 1) = 0 := by omega
            have HJE := Aside0.mk hz0
            clear hje hz0
            by_cases hcap : c0 = j + 1
            · go_wp2_with fail
              rw [HJE.out]
              (with_reducible refine (index_none (some ad) 0 wr.heap.size _).mono ?_)
              rintro e w5 ⟨rfl, hb5⟩
              clear hcap
              have hb5' := Aside0.mk hb5
              have z5 := hb5.size
              have q0 : w5.cell? ⟨wr.heap.size, 0, none⟩ = some (.int .i64 x.f0) := (hb5.cell (p := ⟨wr.heap.size, 0, none⟩) (by simp)).trans (by go_simp)
              have q1 : w5.cell? ⟨wr.heap.size, 1, none⟩ = some (.string c) := (hb5.cell (p := ⟨wr.heap.size, 1, none⟩) (by simp)).trans (by go_simp)
              have q2 : w5.cell? ⟨wr.heap.size, 2, none⟩ = some (.int .i64 x.f2) := (hb5.cell (p := ⟨wr.heap.size, 2, none⟩) (by simp)).trans (by go_simp)
              have HB5 : Aside0 (Below w.heap.size w w5) := ⟨(below_alloc HB.out _).trans (hb5.mono (by have := HB.out.size; simp; omega))⟩
              have HR5 : Aside0 (Kd.R k42 42 w5 (B + 1) (fun _ => True) u10 acc) := ⟨Kd.R_below (Kd.R_alloc HR.out _) hb5⟩
              have HM5 : Aside0 (w5.ownsMap Try.prog 9 (plainElem Try.prog 3) B m D) := ⟨owns_below (HM.out.alloc _) (by simp; omega) hb5⟩
              have HZ5 : Aside0 (B + 1 ≤ w5.heap.size) := ⟨by simp at z5; omega⟩
              have HNE5 : Aside0 (some wr.heap.size ≠ (u10 : Value).ownBlock) := ⟨own_ne HR.out (Nat.le_refl _)⟩
              clear hb5 z5 g0 g1 g2
              go_wp2_with fail
              go_quiet (fail)
              have HB6 : Aside0 (Below w.heap.size w (w5.drewN nq)) := ⟨pw_below_drewN HB5.out nq⟩
              have HR6 : Aside0 (Kd.R k42 42 (w5.drewN nq) (B + 1) (fun _ => True) u10 acc) := ⟨Kd.R_drewN HR5.out nq⟩
              have HM6 : Aside0 ((w5.drewN nq).ownsMap Try.prog 9 (plainElem Try.prog 3) B m D) := ⟨owns_drewN HM5.out nq⟩
              cases last with
              | none =>
                have HHas : Aside0 (Maps.has D key = false) := ⟨HD.out.2⟩
                have HS2 : Aside0 (acc ++ ([x] ++ std n (some x.f2) (l0.drop (j + 1))) = std n none l0) := ⟨by have h := HSS.out; simp only [std] at h; rw [if_neg HNO.out, if_neg (by simp)] at h; exact h⟩
                go_wp2_with (first
                  | (at_lookup; refine wpList_lookup_own_ok_int _ rfl (.tmp 68) (.tmp 70) 109 rfl 9 3 .i64 lawS Try.underlying109 Try.underlying3 (zero3 _) B m D rfl HM6.out (.string c) key rfl HKey.out ?_; intro cc hat hwf; rw [HHas.out]; clear hat hwf)
                  | ((with_reducible refine gate_builtin (b := .append) (xs := #[.tmp 82, .tmp 84]) rfl ?_); at_builtin; refine Kd.R_append k42 (w0 := w5.drewN nq) (B + 1) rfl (.tmp 82) (.tmp 84) 33 42 (.agg #[.int .i64 0, .string ⟨#[]⟩, .int .i64 0]) 32 rfl Try.underlying33 info42 rfl (by decide) (by omega) u10 acc x [.int .i64 x.f0, .string c, .int .i64 x.f2] (fun _ => True) (fun _ => False) rfl ?aX ?aP (fun _ hk => hk.elim) ?aF ?aO (Below.refl _ _) ?aS ?aL ?_; (case aX => first | rfl | (simp; done)); (case aP => exact HXM.out _ _); (case aF => exact (fun _ _ => trivial)); (case aO => exact HR6.out); (case aS => exact HZ5.out); (case aL => have := SLa.out; omega); intro v7 w7 ho hb hg hat7; have HR7 := Aside0.mk ho; have HB7 : Aside0 (Below w.heap.size w w7) := ⟨HB6.out.grown hg HB6.out.size (fun k hk => Nat.le_trans HwB1.out (Kd.R_base HR6.out k hk))⟩; have HM7 : Aside0 (w7.ownsMap Try.prog 9 (plainElem Try.prog 3) B m D) := ⟨HM6.out.kept hg (own_low HR6.out (Nat.lt_succ_self _))⟩; have HZ7 : Aside0 (B + 1 ≤ w7.heap.size) := ⟨Nat.le_trans HZ5.out hg.size⟩; have q17 : w7.cell? ⟨wr.heap.size, 1, none⟩ = some (.string c) := cell_grown hg (v := .string c) (by simpa using q1) HNE5.out; have q27 : w7.cell? ⟨wr.heap.size, 2, none⟩ = some (.int .i64 x.f2) := cell_grown hg (v := .int .i64 x.f2) (by simpa using q2) HNE5.out; clear ho hb hg hat7)
                  | (at_mapUpdate; refine wpList_mapUpdate_own _ rfl (.tmp 86) (.tmp 88) (.tmp 90) 109 rfl 9 3 lawS Try.underlying109 _ B m D rfl HM7.out (by unfold maxLen; omega) (.string c) (.int .i64 x.f2) key rfl rfl HKey.out _ [] (plainElem_int Try.underlying3 HX.out.2) ?_; intro w8 hown8 hgrow8; have HM8 := Aside0.mk hown8; have HR8 : Aside0 (Kd.R k42 42 w8 (B + 1) (fun _ => True) v7 (acc ++ [x])) := ⟨Kd.R_grown1 HR7.out rfl hgrow8 (own_low HR7.out (Nat.lt_succ_self _))⟩; have HB8 : Aside0 (Below w.heap.size w w8) := ⟨HB7.out.grown hgrow8 HB7.out.size (fun k hk => by cases hk; exact HwB.out)⟩; have HZ8 : Aside0 (B + 1 ≤ w8.heap.size) := ⟨Nat.le_trans HZ7.out hgrow8.size⟩; clear hown8 hgrow8))
                go_roundw
                case rel => exact ⟨j + 1, acc ++ [x], some x.f2, _, m + 1, by omega, by go_num, by omega, HR8, HB8, HM8, holds_put HM7.out HKl.out x.f2, ⟨by rw [List.append_assoc]; exact HS2.out⟩, HZ8.out⟩
                case measure => simp [intOf]; omega
              | some v =>
                have HHas : Aside0 (Maps.has D key = true) := ⟨HD.out.2.1⟩
                have HVal : Aside0 (∀ z, D.atKey key z = .lit (.int .i64 v)) := ⟨HD.out.2.2⟩
                by_cases hv : v = x.f2
                · have hb1 : (v != x.f2) = false := by simp [hv]
                  have HS1 : Aside0 (acc ++ std n (some v) (l0.drop (j + 1)) = std n none l0) := ⟨by have h := HSS.out; simp only [std] at h; rw [if_neg HNO.out, if_pos (by rw [hv])] at h; exact h⟩
                  have HV := Aside0.mk hv
                  clear hv
                  go_wp2_with (at_lookup; refine wpList_lookup_own_ok_int _ rfl (.tmp 68) (.tmp 70) 109 rfl 9 3 .i64 lawS Try.underlying109 Try.underlying3 (zero3 _) B m D rfl HM6.out (.string c) key rfl HKey.out ?_; intro cc hat hwf; rw [HHas.out]; have hcv : cc = v := (by have h := hat.symm.trans (HVal.out _); simpa using h); clear hat hwf; subst hcv)
                  go_roundw
                  case rel => exact ⟨j + 1, acc, some cc, D, m, by omega, by go_num, by omega, HR6, HB6, HM6, HD, HS1, by have := HZ5.out; simp; omega⟩
                  case measure => simp [intOf]; omega
                · have hb1 : (v != x.f2) = true := by simp [hv]
                  have HS2 : Aside0 (acc ++ ([x] ++ std n (some x.f2) (l0.drop (j + 1))) = std n none l0) := ⟨by have h := HSS.out; simp only [std] at h; rw [if_neg HNO.out, if_neg (by simpa using hv)] at h; exact h⟩
                  have HV := Aside0.mk hv
                  clear hv
                  go_wp2_with (first
                    | (at_lookup; refine wpList_lookup_own_ok_int _ rfl (.tmp 68) (.tmp 70) 109 rfl 9 3 .i64 lawS Try.underlying109 Try.underlying3 (zero3 _) B m D rfl HM6.out (.string c) key rfl HKey.out ?_; intro cc hat hwf; rw [HHas.out]; have hcv : cc = v := (by have h := hat.symm.trans (HVal.out _); simpa using h); clear hat hwf; subst hcv)
                    | ((with_reducible refine gate_builtin (b := .append) (xs := #[.tmp 82, .tmp 84]) rfl ?_); at_builtin; refine Kd.R_append k42 (w0 := w5.drewN nq) (B + 1) rfl (.tmp 82) (.tmp 84) 33 42 (.agg #[.int .i64 0, .string ⟨#[]⟩, .int .i64 0]) 32 rfl Try.underlying33 info42 rfl (by decide) (by omega) u10 acc x [.int .i64 x.f0, .string c, .int .i64 x.f2] (fun _ => True) (fun _ => False) rfl ?aX ?aP (fun _ hk => hk.elim) ?aF ?aO (Below.refl _ _) ?aS ?aL ?_; (case aX => first | rfl | (simp; done)); (case aP => exact HXM.out _ _); (case aF => exact (fun _ _ => trivial)); (case aO => exact HR6.out); (case aS => exact HZ5.out); (case aL => have := SLa.out; omega); intro v7 w7 ho hb hg hat7; have HR7 := Aside0.mk ho; have HB7 : Aside0 (Below w.heap.size w w7) := ⟨HB6.out.grown hg HB6.out.size (fun k hk => Nat.le_trans HwB1.out (Kd.R_base HR6.out k hk))⟩; have HM7 : Aside0 (w7.ownsMap Try.prog 9 (plainElem Try.prog 3) B m D) := ⟨HM6.out.kept hg (own_low HR6.out (Nat.lt_succ_self _))⟩; have HZ7 : Aside0 (B + 1 ≤ w7.heap.size) := ⟨Nat.le_trans HZ5.out hg.size⟩; have q17 : w7.cell? ⟨wr.heap.size, 1, none⟩ = some (.string c) := cell_grown hg (v := .string c) (by simpa using q1) HNE5.out; have q27 : w7.cell? ⟨wr.heap.size, 2, none⟩ = some (.int .i64 x.f2) := cell_grown hg (v := .int .i64 x.f2) (by simpa using q2) HNE5.out; clear ho hb hg hat7)
                    | (at_mapUpdate; refine wpList_mapUpdate_own _ rfl (.tmp 86) (.tmp 88) (.tmp 90) 109 rfl 9 3 lawS Try.underlying109 _ B m D rfl HM7.out (by unfold maxLen; omega) (.string c) (.int .i64 x.f2) key rfl rfl HKey.out _ [] (plainElem_int Try.underlying3 HX.out.2) ?_; intro w8 hown8 hgrow8; have HM8 := Aside0.mk hown8; have HR8 : Aside0 (Kd.R k42 42 w8 (B + 1) (fun _ => True) v7 (acc ++ [x])) := ⟨Kd.R_grown1 HR7.out rfl hgrow8 (own_low HR7.out (Nat.lt_succ_self _))⟩; have HB8 : Aside0 (Below w.heap.size w w8) := ⟨HB7.out.grown hgrow8 HB7.out.size (fun k hk => by cases hk; exact HwB.out)⟩; have HZ8 : Aside0 (B + 1 ≤ w8.heap.size) := ⟨Nat.le_trans HZ7.out hgrow8.size⟩; clear hown8 hgrow8))
                  go_roundw
                  case rel => exact ⟨j + 1, acc ++ [x], some x.f2, _, m + 1, by omega, by go_num, by omega, HR8, HB8, HM8, holds_put HM7.out HKl.out x.f2, ⟨by rw [List.append_assoc]; exact HS2.out⟩, HZ8.out⟩
                  case measure => simp [intOf]; omega
            · have hcap' : j + 1 < c0 := by have := HC0.out; omega
              go_wp2_with fail
              rw [HJE.out]
              (with_reducible refine (index_none (some (ad.add ((j + 1) * 3))) (c0 - (j + 1)) wr.heap.size _).mono ?_)
              rintro e w5 ⟨rfl, hb5⟩
              have hb5' := Aside0.mk hb5
              have z5 := hb5.size
              have q0 : w5.cell? ⟨wr.heap.size, 0, none⟩ = some (.int .i64 x.f0) := (hb5.cell (p := ⟨wr.heap.size, 0, none⟩) (by simp)).trans (by go_simp)
              have q1 : w5.cell? ⟨wr.heap.size, 1, none⟩ = some (.string c) := (hb5.cell (p := ⟨wr.heap.size, 1, none⟩) (by simp)).trans (by go_simp)
              have q2 : w5.cell? ⟨wr.heap.size, 2, none⟩ = some (.int .i64 x.f2) := (hb5.cell (p := ⟨wr.heap.size, 2, none⟩) (by simp)).trans (by go_simp)
              have HB5 : Aside0 (Below w.heap.size w w5) := ⟨(below_alloc HB.out _).trans (hb5.mono (by have := HB.out.size; simp; omega))⟩
              have HR5 : Aside0 (Kd.R k42 42 w5 (B + 1) (fun _ => True) u10 acc) := ⟨Kd.R_below (Kd.R_alloc HR.out _) hb5⟩
              have HM5 : Aside0 (w5.ownsMap Try.prog 9 (plainElem Try.prog 3) B m D) := ⟨owns_below (HM.out.alloc _) (by simp; omega) hb5⟩
              have HZ5 : Aside0 (B + 1 ≤ w5.heap.size) := ⟨by simp at z5; omega⟩
              have HNE5 : Aside0 (some wr.heap.size ≠ (u10 : Value).ownBlock) := ⟨own_ne HR.out (Nat.le_refl _)⟩
              clear hb5 z5 g0 g1 g2
              go_wp2_with fail
              go_quiet (fail)
              have HB6 : Aside0 (Below w.heap.size w (w5.drewN nq)) := ⟨pw_below_drewN HB5.out nq⟩
              have HR6 : Aside0 (Kd.R k42 42 (w5.drewN nq) (B + 1) (fun _ => True) u10 acc) := ⟨Kd.R_drewN HR5.out nq⟩
              have HM6 : Aside0 ((w5.drewN nq).ownsMap Try.prog 9 (plainElem Try.prog 3) B m D) := ⟨owns_drewN HM5.out nq⟩
              cases last with
              | none =>
                have HHas : Aside0 (Maps.has D key = false) := ⟨HD.out.2⟩
                have HS2 : Aside0 (acc ++ ([x] ++ std n (some x.f2) (l0.drop (j + 1))) = std n none l0) := ⟨by have h := HSS.out; simp only [std] at h; rw [if_neg HNO.out, if_neg (by simp)] at h; exact h⟩
                go_wp2_with (first
                  | (at_lookup; refine wpList_lookup_own_ok_int _ rfl (.tmp 68) (.tmp 70) 109 rfl 9 3 .i64 lawS Try.underlying109 Try.underlying3 (zero3 _) B m D rfl HM6.out (.string c) key rfl HKey.out ?_; intro cc hat hwf; rw [HHas.out]; clear hat hwf)
                  | ((with_reducible refine gate_builtin (b := .append) (xs := #[.tmp 82, .tmp 84]) rfl ?_); at_builtin; refine Kd.R_append k42 (w0 := w5.drewN nq) (B + 1) rfl (.tmp 82) (.tmp 84) 33 42 (.agg #[.int .i64 0, .string ⟨#[]⟩, .int .i64 0]) 32 rfl Try.underlying33 info42 rfl (by decide) (by omega) u10 acc x [.int .i64 x.f0, .string c, .int .i64 x.f2] (fun _ => True) (fun _ => False) rfl ?aX ?aP (fun _ hk => hk.elim) ?aF ?aO (Below.refl _ _) ?aS ?aL ?_; (case aX => first | rfl | (simp; done)); (case aP => exact HXM.out _ _); (case aF => exact (fun _ _ => trivial)); (case aO => exact HR6.out); (case aS => exact HZ5.out); (case aL => have := SLa.out; omega); intro v7 w7 ho hb hg hat7; have HR7 := Aside0.mk ho; have HB7 : Aside0 (Below w.heap.size w w7) := ⟨HB6.out.grown hg HB6.out.size (fun k hk => Nat.le_trans HwB1.out (Kd.R_base HR6.out k hk))⟩; have HM7 : Aside0 (w7.ownsMap Try.prog 9 (plainElem Try.prog 3) B m D) := ⟨HM6.out.kept hg (own_low HR6.out (Nat.lt_succ_self _))⟩; have HZ7 : Aside0 (B + 1 ≤ w7.heap.size) := ⟨Nat.le_trans HZ5.out hg.size⟩; have q17 : w7.cell? ⟨wr.heap.size, 1, none⟩ = some (.string c) := cell_grown hg (v := .string c) (by simpa using q1) HNE5.out; have q27 : w7.cell? ⟨wr.heap.size, 2, none⟩ = some (.int .i64 x.f2) := cell_grown hg (v := .int .i64 x.f2) (by simpa using q2) HNE5.out; clear ho hb hg hat7)
                  | (at_mapUpdate; refine wpList_mapUpdate_own _ rfl (.tmp 86) (.tmp 88) (.tmp 90) 109 rfl 9 3 lawS Try.underlying109 _ B m D rfl HM7.out (by unfold maxLen; omega) (.string c) (.int .i64 x.f2) key rfl rfl HKey.out _ [] (plainElem_int Try.underlying3 HX.out.2) ?_; intro w8 hown8 hgrow8; have HM8 := Aside0.mk hown8; have HR8 : Aside0 (Kd.R k42 42 w8 (B + 1) (fun _ => True) v7 (acc ++ [x])) := ⟨Kd.R_grown1 HR7.out rfl hgrow8 (own_low HR7.out (Nat.lt_succ_self _))⟩; have HB8 : Aside0 (Below w.heap.size w w8) := ⟨HB7.out.grown hgrow8 HB7.out.size (fun k hk => by cases hk; exact HwB.out)⟩; have HZ8 : Aside0 (B + 1 ≤ w8.heap.size) := ⟨Nat.le_trans HZ7.out hgrow8.size⟩; clear hown8 hgrow8))
                go_roundw
                case rel => exact ⟨j + 1, acc ++ [x], some x.f2, _, m + 1, by omega, by go_num, by omega, HR8, HB8, HM8, holds_put HM7.out HKl.out x.f2, ⟨by rw [List.append_assoc]; exact HS2.out⟩, HZ8.out⟩
                case measure => simp [intOf]; omega
              | some v =>
                have HHas : Aside0 (Maps.has D key = true) := ⟨HD.out.2.1⟩
                have HVal : Aside0 (∀ z, D.atKey key z = .lit (.int .i64 v)) := ⟨HD.out.2.2⟩
                by_cases hv : v = x.f2
                · have hb1 : (v != x.f2) = false := by simp [hv]
                  have HS1 : Aside0 (acc ++ std n (some v) (l0.drop (j + 1)) = std n none l0) := ⟨by have h := HSS.out; simp only [std] at h; rw [if_neg HNO.out, if_pos (by rw [hv])] at h; exact h⟩
                  have HV := Aside0.mk hv
                  clear hv
                  go_wp2_with (at_lookup; refine wpList_lookup_own_ok_int _ rfl (.tmp 68) (.tmp 70) 109 rfl 9 3 .i64 lawS Try.underlying109 Try.underlying3 (zero3 _) B m D rfl HM6.out (.string c) key rfl HKey.out ?_; intro cc hat hwf; rw [HHas.out]; have hcv : cc = v := (by have h := hat.symm.trans (HVal.out _); simpa using h); clear hat hwf; subst hcv)
                  go_roundw
                  case rel => exact ⟨j + 1, acc, some cc, D, m, by omega, by go_num, by omega, HR6, HB6, HM6, HD, HS1, by have := HZ5.out; simp; omega⟩
                  case measure => simp [intOf]; omega
                · have hb1 : (v != x.f2) = true := by simp [hv]
                  have HS2 : Aside0 (acc ++ ([x] ++ std n (some x.f2) (l0.drop (j + 1))) = std n none l0) := ⟨by have h := HSS.out; simp only [std] at h; rw [if_neg HNO.out, if_neg (by simpa using hv)] at h; exact h⟩
                  have HV := Aside0.mk hv
                  clear hv
                  go_wp2_with (first
                    | (at_lookup; refine wpList_lookup_own_ok_int _ rfl (.tmp 68) (.tmp 70) 109 rfl 9 3 .i64 lawS Try.underlying109 Try.underlying3 (zero3 _) B m D rfl HM6.out (.string c) key rfl HKey.out ?_; intro cc hat hwf; rw [HHas.out]; have hcv : cc = v := (by have h := hat.symm.trans (HVal.out _); simpa using h); clear hat hwf; subst hcv)
                    | ((with_reducible refine gate_builtin (b := .append) (xs := #[.tmp 82, .tmp 84]) rfl ?_); at_builtin; refine Kd.R_append k42 (w0 := w5.drewN nq) (B + 1) rfl (.tmp 82) (.tmp 84) 33 42 (.agg #[.int .i64 0, .string ⟨#[]⟩, .int .i64 0]) 32 rfl Try.underlying33 info42 rfl (by decide) (by omega) u10 acc x [.int .i64 x.f0, .string c, .int .i64 x.f2] (fun _ => True) (fun _ => False) rfl ?aX ?aP (fun _ hk => hk.elim) ?aF ?aO (Below.refl _ _) ?aS ?aL ?_; (case aX => first | rfl | (simp; done)); (case aP => exact HXM.out _ _); (case aF => exact (fun _ _ => trivial)); (case aO => exact HR6.out); (case aS => exact HZ5.out); (case aL => have := SLa.out; omega); intro v7 w7 ho hb hg hat7; have HR7 := Aside0.mk ho; have HB7 : Aside0 (Below w.heap.size w w7) := ⟨HB6.out.grown hg HB6.out.size (fun k hk => Nat.le_trans HwB1.out (Kd.R_base HR6.out k hk))⟩; have HM7 : Aside0 (w7.ownsMap Try.prog 9 (plainElem Try.prog 3) B m D) := ⟨HM6.out.kept hg (own_low HR6.out (Nat.lt_succ_self _))⟩; have HZ7 : Aside0 (B + 1 ≤ w7.heap.size) := ⟨Nat.le_trans HZ5.out hg.size⟩; have q17 : w7.cell? ⟨wr.heap.size, 1, none⟩ = some (.string c) := cell_grown hg (v := .string c) (by simpa using q1) HNE5.out; have q27 : w7.cell? ⟨wr.heap.size, 2, none⟩ = some (.int .i64 x.f2) := cell_grown hg (v := .int .i64 x.f2) (by simpa using q2) HNE5.out; clear ho hb hg hat7)
                    | (at_mapUpdate; refine wpList_mapUpdate_own _ rfl (.tmp 86) (.tmp 88) (.tmp 90) 109 rfl 9 3 lawS Try.underlying109 _ B m D rfl HM7.out (by unfold maxLen; omega) (.string c) (.int .i64 x.f2) key rfl rfl HKey.out _ [] (plainElem_int Try.underlying3 HX.out.2) ?_; intro w8 hown8 hgrow8; have HM8 := Aside0.mk hown8; have HR8 : Aside0 (Kd.R k42 42 w8 (B + 1) (fun _ => True) v7 (acc ++ [x])) := ⟨Kd.R_grown1 HR7.out rfl hgrow8 (own_low HR7.out (Nat.lt_succ_self _))⟩; have HB8 : Aside0 (Below w.heap.size w w8) := ⟨HB7.out.grown hgrow8 HB7.out.size (fun k hk => by cases hk; exact HwB.out)⟩; have HZ8 : Aside0 (B + 1 ≤ w8.heap.size) := ⟨Nat.le_trans HZ7.out hgrow8.size⟩; clear hown8 hgrow8))
                  go_roundw
                  case rel => exact ⟨j + 1, acc ++ [x], some x.f2, _, m + 1, by omega, by go_num, by omega, HR8, HB8, HM8, holds_put HM7.out HKl.out x.f2, ⟨by rw [List.append_assoc]; exact HS2.out⟩, HZ8.out⟩
                  case measure => simp [intOf]; omega
        · have hje : j = l0.length := by omega
          have hS := HS.out
          rw [List.drop_eq_nil_of_le (by omega)] at hS
          simp only [std, List.append_nil] at hS
          have HS' := Aside0.mk hS
          have HwB1 : Aside0 (w.heap.size ≤ B + 1) := ⟨by have := HwB.out; omega⟩
          clear hje hS
          go_wp2
          go_ret2
          exact ⟨u10, rfl, by rw [← HS'.out]; exact Kd.R_lower HR.out HwB1.out, HB.out⟩

open Classical in
theorem keys_Steady.calls (A0 : Option Addr) (c0 : Nat) (l0 : List (S42)) (a1 : Int) (r1 : List (S42)) (r2 : Int) (w : World) (hr0 : Kd.C k42 w A0 l0.length l0) (hc0 : l0.length ≤ c0) (h : keys_Steady.f l0 a1 = some (r1, r2)) :
    Calls Try.prog 25 #[.slice A0 l0.length c0, .int .i64 a1] w fun e w' => ∃ v0_ : Value, e = .returned (.tuple #[v0_, .int .i64 r2]) ∧ Kd.R k42 42 w' w.heap.size (fun _ => True) v0_ r1 ∧ Below w.heap.size w w' := by
  unfold keys_Steady.f at h
  by_cases hok : StOk l0 a1
  case neg => rw [if_neg hok] at h; cases h
  rw [if_pos hok] at h
  simp only [Option.some.injEq, Prod.mk.injEq] at h
  obtain ⟨rfl, rfl⟩ := h
  obtain ⟨h1, h2, h3, h4, ⟨k, h5⟩, c, h6, h7⟩ := hok
  exact steady_walk k A0 c0 l0 a1 c w hr0 hc0 h1 h2 h3 h4 h5 h6 h7

end Go.Proofs.Ytijfinimlnedpaa.PHold
