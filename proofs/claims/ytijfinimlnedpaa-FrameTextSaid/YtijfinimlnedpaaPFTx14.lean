/- frame.Text, walked by hand: the visible part as digits, a line for each line. -/
import Derived.Test.YtijfinimlnedpaaPFTx9
import Derived.Test.YtijfinimlnedpaaFtBuild
import Derived.Test.YtijfinimlnedpaaFtAtI
namespace Go.Proofs.Ytijfinimlnedpaa.PFT
open Go.RowKit Go.Proofs.YtijfinimlnedpaaW.PrintWords Go.Proofs.YtijfinimlnedpaaW.PrintLast Go.Proofs.YtijfinimlnedpaaW.PrintMore
set_option linter.unusedVariables false

def visAt (l : List Int) (i : Nat) : Int := l.getD (i / 48 * 64 + i % 48) 0
/-- The visible part. -/
def vis (l : List Int) : List Int := (List.range 1536).map (visAt l)
def dig (c : Int) : Int := if c < 10 then 48 + c else 87 + c
def txtB (l : List Int) (i : Nat) : Int := if i % 49 = 48 then 10 else dig (visAt l (i / 49 * 48 + i % 49))
def txtL (l : List Int) : List Int := (List.range 1568).map (txtB l)
def strB (xs : List Int) : ByteArray := ⟨(xs.map fun x => UInt8.ofNat x.toNat).toArray⟩
def cols (l : List Int) : Bool := l.all fun a => decide (0 ≤ a ∧ a ≤ 15)
def frame_Text.f (l0 : List Int) : Option (ByteArray × Int) := if l0.length = 2560 ∧ cols l0 = true then some (strB (txtL l0), 0) else none

/-- What stands in the builder behind n cells. -/
def txtN (l : List Int) (n : Nat) : List Int := (List.range (n + n / 48)).map (txtB l)
theorem txtN_succ (l : List Int) (n : Nat) : txtN l (n + 1) = if n % 48 = 47 then txtN l n ++ [dig (visAt l n), 10] else txtN l n ++ [dig (visAt l n)] := by
  unfold txtN
  have h1 : txtB l (n + n / 48) = dig (visAt l n) := by
    unfold txtB
    rw [if_neg (by omega), show (n + n / 48) / 49 * 48 + (n + n / 48) % 49 = n by omega]
  by_cases h : n % 48 = 47
  · rw [if_pos h, show n + 1 + (n + 1) / 48 = (n + n / 48 + 1) + 1 by omega, List.range_succ, List.range_succ, List.map_append, List.map_append]
    have h2 : txtB l (n + n / 48 + 1) = 10 := by unfold txtB; rw [if_pos (by omega)]
    simp [h1, h2]
  · rw [if_neg h, show n + 1 + (n + 1) / 48 = (n + n / 48) + 1 by omega, List.range_succ, List.map_append]
    simp [h1]

theorem w64 {n : Int} (h0 : -9223372036854775808 ≤ n) (h1 : n ≤ 9223372036854775807) : wrap64 n = n := by unfold wrap64; omega
theorem right_l0 (l : List Int) (hl : l.length ≤ 9000000000000000) (h : ∀ a ∈ l, 0 ≤ a ∧ a ≤ 15) : ∀ d i : Nat, i + d = l.length → Ev (fun k => frame_Right.l0 k l (l.length : Int) (i : Int)) 0 := by
  intro d
  induction d with
  | zero =>
    intro i hi
    refine Ev.step (f := fun _ => some 0) (fun k => ?_) (Ev.now 0)
    simp only [frame_Right.l0]; rw [if_neg (by omega)]
  | succ d ih =>
    intro i hi
    have e1 : wrap64 ((i : Int) + 1) = ((i + 1 : Nat) : Int) := by rw [w64 (by omega) (by omega)]; omega
    have hr : 0 ≤ rd l (i : Int) ∧ rd l (i : Int) ≤ 15 := by
      have := h l[i] (List.getElem_mem _)
      simpa [rd, List.getD_eq_getElem?_getD, List.getElem?_eq_getElem (show i < l.length by omega)] using this
    refine Ev.step (fun k => ?_) (ih (i + 1) (by omega))
    simp only [frame_Right.l0]; rw [if_pos (by omega), if_pos (by omega), if_pos (by omega), if_neg (by omega), if_neg (by omega), e1]
theorem right_is (l : List Int) (hl : l.length = 2560) (h : ∀ a ∈ l, 0 ≤ a ∧ a ≤ 15) : Ev (fun k => frame_Right.f k l) 0 :=
  Ev.congr (fun k => by unfold frame_Right.f; rw [if_pos (by omega)]; rfl) (right_l0 l (by omega) h l.length 0 (by omega))
theorem cols_all {l : List Int} (h : cols l = true) : ∀ a ∈ l, 0 ≤ a ∧ a ≤ 15 := fun a ha => of_decide_eq_true (List.all_eq_true.1 h a ha)

theorem row_get (l : List Int) (a b i : Nat) (hi : i < b) (hl : a + b ≤ l.length) : ((l.take (a + b)).drop a)[i]? = some (l.getD (a + i) 0) := by
  rw [List.getElem?_drop, List.getElem?_take, if_pos (by omega), List.getD_eq_getElem?_getD, List.getElem?_eq_getElem (by omega)]
  rfl
theorem range_add (a b : Nat) : List.range (a + b) = List.range a ++ List.range' a b := by
  rw [List.range_eq_range', List.range_eq_range', ← List.range'_append_1 (s := 0)]
  simp
theorem seen_l0 (l : List Int) (hl : l.length = 2560) : ∀ d y : Nat, ∀ acc : List Int, y + d = 32 → acc = (List.range (y * 48)).map (visAt l) → Ev (fun k => frame_Seen.l0 k l acc (y : Int)) (vis l, 0) := by
  intro d
  induction d with
  | zero =>
    intro y acc hy ha
    obtain rfl : y = 32 := by omega
    refine Ev.step (f := fun _ => some (acc, 0)) (fun k => ?_) (by rw [ha]; exact Ev.now _)
    simp only [frame_Seen.l0]; rw [if_neg (by omega)]
  | succ d ih =>
    intro y acc hy ha
    have e1 : wrap64 ((y : Int) + 1) = ((y + 1 : Nat) : Int) := by rw [w64 (by omega) (by omega)]; omega
    have e2 : wrap64 ((y : Int) * 64) = ((y * 64 : Nat) : Int) := by rw [w64 (by omega) (by omega)]; omega
    have e3 : wrap64 (((y * 64 : Nat) : Int) + 48) = ((y * 64 + 48 : Nat) : Int) := by rw [w64 (by omega) (by omega)]; omega
    have hrow : (l.take (y * 64 + 48)).drop (y * 64) = (List.range' (y * 48) 48).map (visAt l) := by
      apply List.ext_getElem?
      intro i
      by_cases hi : i < 48
      · rw [row_get l (y * 64) 48 i hi (by omega)]
        rw [List.getElem?_map, List.getElem?_range' (by omega)]
        simp only [Option.map_some, visAt]
        congr 2
        omega
      · rw [List.getElem?_eq_none (by rw [List.length_drop, List.length_take]; omega), List.getElem?_eq_none (by simp; omega)]
    refine Ev.step (fun k => ?_) (ih (y + 1) (acc ++ (l.take (y * 64 + 48)).drop (y * 64)) (by omega) ?_)
    · simp only [frame_Seen.l0]
      rw [if_pos (by omega), e2, if_pos (by omega), e3, if_pos (by omega), if_pos (by omega), Int.toNat_natCast, Int.toNat_natCast, if_pos (by rw [ha, List.length_drop, List.length_take]; simp; omega), e1]
    · rw [hrow, ha, ← List.map_append, show (y + 1) * 48 = y * 48 + 48 by omega, range_add]
theorem seen_is' (l : List Int) (hl : l.length = 2560) (hc : ∀ a ∈ l, 0 ≤ a ∧ a ≤ 15) : Ev (fun k => frame_Seen.f k l) (vis l, 0) := by
  refine Ev.congr (f := fun k => (frame_Right.f k l).bind fun t124 => (if t124 = 0 then (frame_Seen.l0 k l ([] : List Int) 0) else (some (([] : List Int), t124)))) (fun k => rfl) ?_
  refine Ev.bind (right_is l hl hc) ?_
  refine Ev.congr (f := fun k => frame_Seen.l0 k l [] ((0 : Nat) : Int)) (fun k => by rw [if_pos rfl]; rfl) (seen_l0 l hl 32 0 [] (by omega) rfl)

abbrev hexS : ByteArray := ⟨#[48, 49, 50, 51, 52, 53, 54, 55, 56, 57, 97, 98, 99, 100, 101, 102]⟩
theorem hex_nat : ∀ n : Nat, n < 16 → bt hexS (n : Int) = dig (n : Int) := by decide +kernel
theorem hex_is (c : Int) (h0 : 0 ≤ c) (h1 : c ≤ 15) : bt hexS c = dig c := by
  obtain ⟨n, rfl⟩ : ∃ n : Nat, c = (n : Int) := ⟨c.toNat, by omega⟩
  exact hex_nat n (by omega)
theorem txt_bytes (xs : List Int) (h : ∀ x ∈ xs, 0 ≤ x ∧ x ≤ 255) : xs.map (Value.int .u8) = Lib.byteCells (xs.map fun x => UInt8.ofNat x.toNat) := by
  unfold Lib.byteCells
  rw [List.map_map]
  apply List.map_congr_left
  intro x hx
  have hh := h x hx
  simp only [Function.comp_apply]
  congr 1
  simp
  omega
theorem dig_range {c : Int} (h0 : 0 ≤ c) (h1 : c ≤ 15) : 0 ≤ dig c ∧ dig c ≤ 255 := by unfold dig; split <;> omega

set_option maxRecDepth 100000 in
set_option maxHeartbeats 4000000 in
theorem frame_Text.calls (A0 : Option Addr) (c0 : Nat) (l0 : List Int) (r1 : ByteArray) (r2 : Int) (w : World) (hr0 : Kd.C (Kd.int .i64) w A0 l0.length l0) (hc0 : l0.length ≤ c0) (h : frame_Text.f l0 = some (r1, r2)) :
    Calls Try.prog 55 #[.slice A0 l0.length c0] w fun e w' => e = .returned (.tuple #[.string r1, .int .i64 r2]) ∧ Below w.heap.size w w' := by
  unfold frame_Text.f at h
  split at h
  case isFalse => cases h
  rename_i hh
  simp only [Option.some.injEq, Prod.mk.injEq] at h
  obtain ⟨rfl, rfl⟩ := h
  obtain ⟨k, hk⟩ := Ev.rounds (seen_is' l0 hh.1 (cols_all hh.2))
  have C1 := Aside0.mk (frame_Seen.calls k A0 c0 l0 _ _ w hr0 hc0 hk)
  have HH := Aside0.mk hh
  clear hr0 hc0 hk hh
  go_enter Try.func55, Try.ntmps55
  go_wp2_with fail
  refine C1.out.mono ?_
  rintro e w1 ⟨v1, rfl, hR, hB⟩
  obtain ⟨A1, q1, rfl⟩ := Kd.R_slice hR
  have hvl : (vis l0).length = 1536 := by simp [vis]
  rw [hvl] at hR ⊢
  have HR := Aside0.mk (Kd.R_reads' hR).2.2
  have HB := Aside0.mk hB
  clear hR hB C1 hvl
  go_wp2
  go_loopw [19] (fun v19 wr => ∃ i : Nat, i ≤ 1536 ∧ v19 = .int .i64 i ∧ Aside0 (Lib.IsBuilder 146 5 w1.heap.size w1.heap.size ((txtN l0 i).map (Value.int .u8)) wr) ∧ Aside0 (Below w1.heap.size w1 wr)) (fun v19 _ => 1536 - (intOf v19).toNat)
  case atStart => exact ⟨0, by omega, by go_num, ⟨.inl ⟨Nat.le_refl _, .slice none 0 0, heap_alloc_new w1 _, own_nil _ _ _ _, by simp [Value.ownBlock]⟩⟩, ⟨below_alloc (Below.refl _ _) _⟩⟩
  case round =>
    obtain ⟨i, hi, rfl, HI, HW⟩ := hrel
    obtain ⟨w2, rfl⟩ : ∃ w2 : World, w2 = wr := ⟨_, rfl⟩
    by_cases hlt : i < 1536
    · obtain ⟨a, ea, g0⟩ := at_I (Kd.C_below HR.out HW.out) (i : Int) (by omega) (by simp [vis]; omega)
      subst ea
      rw [Int.toNat_natCast] at g0
      have hc : rd (vis l0) (i : Int) = visAt l0 i := by unfold rd vis; rw [Int.toNat_natCast, List.getD_eq_getElem?_getD]; simp [hlt]
      rw [hc] at g0
      have hb : 0 ≤ visAt l0 i ∧ visAt l0 i ≤ 15 := by
        unfold visAt
        have hl := HH.out.1
        rw [List.getD_eq_getElem?_getD, List.getElem?_eq_getElem (show i / 48 * 64 + i % 48 < l0.length by omega)]
        exact cols_all HH.out.2 _ (List.getElem_mem _)
      have HS := Aside0.mk (txtN_succ l0 i)
      obtain ⟨c, hcc⟩ : ∃ c, visAt l0 i = c := ⟨_, rfl⟩
      have HC := Aside0.mk hcc
      rw [hcc] at g0 hb
      obtain ⟨b0, b1⟩ := hb
      clear hc hcc
      have b2 : c < 16 := by omega
      have hbt := bt_at hexS c
      have hd := hex_is c b0 b1
      have hlen : (txtN l0 i).length ≤ 3000 := by simp [txtN]; omega
      have HL := Aside0.mk hlen
      clear hlen
      by_cases h47 : i % 48 = 47
      · have e1 : Int.tmod (i : Int) 48 = 47 := by rw [Int.tmod_eq_emod_of_nonneg (by omega)]; omega
        have e2 : ((i : Int) % 48) = 47 := by omega
        have H47 := Aside0.mk h47
        clear h47
        go_wp2_with fail
        refine (write_calls _ _ _ _ w2 HI.out (by rw [List.length_map]; have := HL.out; omega) HW.out.size).mono ?_
        rintro e w3 ⟨rfl, hI3, hB3⟩
        have HI3 := Aside0.mk hI3
        have HW3 := Aside0.mk (HW.out.trans hB3)
        clear hI3 hB3 HI HW
        go_wp2_with fail
        refine (write_calls _ _ _ _ w3 (.inr HI3.out) (by rw [List.length_append, List.length_map]; simp; have := HL.out; omega) HW3.out.size).mono ?_
        rintro e w4 ⟨rfl, hI4, hB4⟩
        have HI4 := Aside0.mk hI4
        have HW4 := Aside0.mk (HW3.out.trans hB4)
        clear hI4 hB4 HI3 HW3
        go_wp2
        go_roundw
        case rel => exact ⟨i + 1, by omega, by go_num, ⟨.inr (by rw [HS.out, if_pos H47.out, HC.out]; have := HI4.out; simpa using this)⟩, HW4⟩
        case measure => simp [intOf]; omega
      · have e2 : ((i : Int) % 48 = 47) = False := eq_false (by omega)
        have e3 : ((i : Int) % 48 == 47) = false := by rw [beq_eq_false_iff_ne]; omega
        have H47 := Aside0.mk h47
        clear h47
        go_wp2_with fail
        refine (write_calls _ _ _ _ w2 HI.out (by rw [List.length_map]; have := HL.out; omega) HW.out.size).mono ?_
        rintro e w3 ⟨rfl, hI3, hB3⟩
        have HI3 := Aside0.mk hI3
        have HW3 := Aside0.mk (HW.out.trans hB3)
        clear hI3 hB3 HI HW
        go_wp2
        go_roundw
        case rel => exact ⟨i + 1, by omega, by go_num, ⟨.inr (by rw [HS.out, if_neg H47.out, HC.out]; have := HI3.out; simpa using this)⟩, HW3⟩
        case measure => simp [intOf]; omega
    · obtain rfl : i = 1536 := by omega
      have ht : txtN l0 1536 = txtL l0 := rfl
      rw [ht] at HI
      have hr : ∀ x ∈ txtL l0, 0 ≤ x ∧ x ≤ 255 := by
        intro x hx
        obtain ⟨j, hj, rfl⟩ := List.mem_map.1 hx
        have hj' := List.mem_range.1 hj
        unfold txtB
        split
        · omega
        · have hb : 0 ≤ visAt l0 (j / 49 * 48 + j % 49) ∧ visAt l0 (j / 49 * 48 + j % 49) ≤ 15 := by
            unfold visAt
            have hl := HH.out.1
            rw [List.getD_eq_getElem?_getD, List.getElem?_eq_getElem (show (j / 49 * 48 + j % 49) / 48 * 64 + (j / 49 * 48 + j % 49) % 48 < l0.length by omega)]
            exact cols_all HH.out.2 _ (List.getElem_mem _)
          exact dig_range hb.1 hb.2
      have hI := HI.out
      rw [txt_bytes _ hr] at hI
      have C2 := Aside0.mk (Try.Builder_String_any w1.heap.size w1.heap.size _ w2 hI HW.out.size)
      clear ht hr hI HI
      go_wp2_with fail
      refine C2.out.mono ?_
      rintro e w3 ⟨rfl, hB3⟩
      have HW3 := Aside0.mk (HB.out.trans ((HW.out.trans hB3).mono HB.out.size))
      clear hB3 C2 HW
      go_wp2
      go_ret2
      exact ⟨rfl, HW3.out⟩
end Go.Proofs.Ytijfinimlnedpaa.PFT
