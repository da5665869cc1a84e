/- slices.Repeat at a few numbers a few times, walked by hand: the numbers, so many times. -/
import Derived.Test.YtijfinimlnedpaaPPerx0
import Derived.Test.YtijfinimlnedpaaPPerx12
import Derived.Laws.CopyOwn
import Derived.Deep.RegionHeld3
import Derived.Deep.RegionLaw
namespace Go.Proofs.Ytijfinimlnedpaa.PPer
open Go.RowKit Go.Proofs.YtijfinimlnedpaaW.PrintWords Go.Proofs.YtijfinimlnedpaaW.PrintLast Go.Proofs.YtijfinimlnedpaaW.PrintMore
set_option linter.unusedVariables false

/-- N numbers, of which the first n repeat l, and the others are 0. -/
def cont (l : List Int) (N n : Nat) : List Int := (List.range N).map fun i => if i < n then l.getD (i % l.length) 0 else 0
theorem cont_len (l : List Int) (N n : Nat) : (cont l N n).length = N := by simp [cont]
def RepOk (l : List Int) (n : Int) : Prop := l.length ≤ 12 ∧ 2 ≤ n ∧ n ≤ 6
instance (l : List Int) (n : Int) : Decidable (RepOk l n) := by unfold RepOk; infer_instance
def slices_Repeat_int_int.f (k : Nat) (l0 : List Int) (a1 : Int) : Option (List Int) := if RepOk l0 a1 then some (cont l0 (l0.length * a1.toNat) (l0.length * a1.toNat)) else none
theorem slices_Repeat_int_int.mono : ∀ a0 a1 k, LeO (slices_Repeat_int_int.f k a0 a1) (slices_Repeat_int_int.f (k + 1) a0 a1) := fun _ _ _ _ h => h

theorem mul_is : ∀ a : Nat, a < 13 → ∀ b : Nat, b < 7 → bits_Mul.f (a : Int) (b : Int) = some (0, ((a * b : Nat) : Int)) := by decide +kernel

def vals (l : List Int) : List Value := l.map (Value.int .i64)
theorem cont_getD (l : List Int) (N n i : Nat) (h : i < N) : (cont l N n).getD i 0 = if i < n then l.getD (i % l.length) 0 else 0 := by
  simp [cont, List.getD_eq_getElem?_getD, List.getElem?_range h]

/-- One copy: what is filled is laid behind itself, as far as there is room. -/
theorem splice_cont (l : List Int) (N n : Nat) (hm : 0 < l.length) (hd : l.length ∣ n) (hn : n ≤ N) : splice (vals (cont l N n)) n ((vals (cont l N n)).take (min n (N - n))) = vals (cont l N (n + min n (N - n))) := by
  have hl : (vals (cont l N n)).length = N := by simp [vals, cont_len]
  apply List.ext_getElem
  · simp [splice, vals, cont_len]; omega
  · intro i h1 h2
    have hiN : i < N := by simpa [vals, cont_len] using h2
    have hc : ∀ (q j : Nat) (hq : j < (vals (cont l N q)).length), (vals (cont l N q))[j] = .int .i64 (if j < q then l.getD (j % l.length) 0 else 0) := by
      intro q j hq; simp [vals, cont]
    rw [hc _ i h2]
    simp only [splice]
    by_cases h3 : i < n
    · rw [List.getElem_append_left (by rw [List.length_take]; omega), List.getElem_take, hc n i (by omega), if_pos h3, if_pos (by omega)]
    · rw [List.getElem_append_right (by rw [List.length_take]; omega)]
      have e : i - ((vals (cont l N n)).take n).length = i - n := by rw [List.length_take]; omega
      by_cases h4 : i < n + min n (N - n)
      · rw [List.getElem_append_left (by rw [List.length_take, List.length_take]; omega), List.getElem_take, if_pos h4]
        simp only [e]
        rw [hc n (i - n) (by omega), if_pos (by omega)]
        obtain ⟨q, rfl⟩ := hd
        congr 2
        have : i = (i - l.length * q) + l.length * q := by omega
        rw [this, Nat.add_mul_mod_self_left, Nat.add_sub_cancel]
      · rw [List.getElem_append_right (by rw [List.length_take, List.length_take]; omega), List.getElem_drop, if_neg h4]
        rw [hc n _ (by simp only [List.length_take] at *; omega), if_neg (by simp only [List.length_take] at *; omega)]

theorem splice_first (l : List Int) (N : Nat) (hm : l.length ≤ N) : splice (vals (cont l N 0)) 0 (vals l) = vals (cont l N l.length) := by
  apply List.ext_getElem
  · simp [splice, vals, cont_len]; omega
  · intro i h1 h2
    have hiN : i < N := by simpa [vals, cont_len] using h2
    simp only [splice, List.take_zero, List.nil_append, Nat.zero_add]
    by_cases h3 : i < l.length
    · rw [List.getElem_append_left (by simpa [vals] using h3)]
      simp [vals, cont, h3, Nat.mod_eq_of_lt h3, List.getD_eq_getElem?_getD]
    · rw [List.getElem_append_right (by simpa [vals] using h3)]
      simp [vals, cont, h3]

theorem made_zero (l : List Int) (N : Nat) : (madeCells (Value.int .i64 0).cells (N * 1)).toList = vals (cont l N 0) := by
  apply List.ext_getElem
  · simp [madeCells, vals, cont_len]
  · intro i h1 h2; simp [madeCells, vals, cont, Value.cells, Nat.mod_one]

theorem cells_of {w : World} {A : Option Addr} {l : List Int} (h : Kd.C (Kd.int .i64) w A l.length l) (hp : 0 < l.length) : ∃ ad, A = some ad ∧ ∀ j v, (vals l)[j]? = some v → w.cell? (ad.add j) = some v := by
  obtain ⟨ad, _, e, _⟩ := Kd.C_get h 0 0 (by omega) (by omega)
  refine ⟨ad, e, fun j v hj => ?_⟩
  have hjl : j < l.length := by
    rcases Nat.lt_or_ge j l.length with h | h
    · exact h
    · rw [List.getElem?_eq_none (by simp [vals]; omega)] at hj; cases hj
  obtain ⟨ad', c, e', _, hK, hc⟩ := Kd.C_get h 0 (j : Int) (by omega) (by omega)
  obtain rfl : ad = ad' := by rw [e] at e'; injection e'
  obtain rfl : c = [.int .i64 (l.getD (j : Int).toNat 0)] := hK
  have h2 := hc 0 _ rfl
  rw [show (j : Int).toNat * (Kd.int .i64).sz + 0 = j from by show (j : Int).toNat * 1 + 0 = j; omega] at h2
  rw [h2, ← hj]
  simp [vals, List.getD_eq_getElem?_getD, List.getElem?_eq_getElem hjl]

theorem own_block {w2 : World} {b g N : Nat} {xs : List Value} (h : w2.ownsRow b 3 1 (.slice (some ⟨g, 0, none⟩) N N) N xs) : w2.heap[g]? = some (.cells xs.toArray 3 (0, 0)) := by
  obtain ⟨hl, h | ⟨g', cap, cur, e, hb, hh, h1, h2, h3, h4⟩⟩ := h
  · simp at h
  · simp only [Value.slice.injEq, Option.some.injEq, Addr.mk.injEq] at e
    obtain ⟨⟨rfl, _⟩, _, rfl⟩ := e
    rw [hh]
    have : cur = xs.toArray := by
      rw [← h4, List.take_of_length_le (by simp; omega)]
    rw [this]

theorem block_own {w2 : World} {b g N : Nat} {xs : List Int} (hb : b ≤ g) (hN : xs.length = N) (hM : N ≤ maxLen) (h : w2.heap[g]? = some (.cells (vals xs).toArray 3 (0, 0))) : Kd.R (Kd.int .i64) 3 w2 b (fun _ => True) (.slice (some ⟨g, 0, none⟩) N N) xs := by
  have hv : (vals xs).length = N := by simp [vals, hN]
  refine ⟨fun _ _ => trivial, vals xs, ⟨?_, .inr ⟨g, N, (vals xs).toArray, by rw [hN], hb, h, by omega, hM, ?_, ?_⟩⟩, ?_⟩
  · show (vals xs).length = xs.length * 1; omega
  · show (vals xs).toArray.size = N * 1; simp [hv]
  · show List.take (xs.length * 1) (vals xs).toArray.toList = vals xs
    rw [List.take_of_length_le (by simp [hv]; omega)]
  · refine ⟨by show (vals xs).length = xs.length * 1; omega, fun j p hj => ?_⟩
    show List.take 1 (List.drop (j * 1) (vals xs)) = [.int .i64 p]
    have hj' : j < xs.length := by
      rcases Nat.lt_or_ge j xs.length with h | h
      · exact h
      · rw [List.getElem?_eq_none h] at hj; cases hj
    rw [Nat.mul_one, List.drop_eq_getElem_cons (by omega)]
    rw [List.getElem?_eq_getElem hj'] at hj
    simp only [Option.some.injEq] at hj
    simp [vals, hj]

set_option maxRecDepth 100000 in
set_option maxHeartbeats 2000000 in
theorem repeat_walk (A0 : Option Addr) (c0 : Nat) (l0 : List Int) (c N : Nat) (w : World) (hr0 : Kd.C (Kd.int .i64) w A0 l0.length l0) (hc0 : l0.length ≤ c0) (hm : l0.length ≤ 12) (hc1 : 2 ≤ c) (hc2 : c ≤ 6) (hN : l0.length * c = N) :
    Calls Try.prog 35 #[.slice A0 l0.length c0, .int .i64 (c : Int)] w fun e w' => ∃ v0_ : Value, e = .returned v0_ ∧ Kd.R (Kd.int .i64) 3 w' w.heap.size (fun _ => True) v0_ (cont l0 N N) ∧ Below w.heap.size w w' := by
  have hNb : N ≤ 72 := by rw [← hN]; exact Nat.mul_le_mul hm hc2
  have hNm : l0.length ≤ N := by rw [← hN]; exact Nat.le_mul_of_pos_right _ (by omega)
  have M1 := Aside0.mk (bits_Mul.calls (l0.length : Int) (c : Int) 0 (N : Int) w (by rw [← hN]; exact mul_is _ (by omega) _ (by omega)))
  have HN := Aside0.mk hN
  have HR0 := Aside0.mk hr0
  have HC0 := Aside0.mk hc0
  obtain ⟨i05, hi05, hz5, hsz5, hby5⟩ := info_parts info3
  clear hN hr0 hc0
  go_enter Try.func35, Try.ntmps35
  go_wp2_with fail
  refine M1.out.mono ?_
  rintro e w1 ⟨rfl, nd, rfl⟩
  clear M1
  go_wp2_with (first
    | (at_make; refine wpList_make_full _ rfl _ _ 22 rfl w.heap.size 3 i05 (.int .i64 0) 1 Try.underlying22 hi05 hz5 hsz5 .i64 .i64 (N : Int) (N : Int) N rfl rfl rfl rfl (by rw [hby5]; omega) (by unfold maxLen; omega) (by simp) ?_; intro w2 hown hgrow; rw [made_zero l0 N] at hown; have hblk : w2.heap[w.heap.size]? = some (.cells (vals (cont l0 N 0)).toArray 3 (0, 0)) := own_block (by simpa using hown); have HBk := Aside0.mk hblk; have HB2 : Aside0 (Below w.heap.size w w2) := ⟨((pw_below_drewN (Below.refl w.heap.size w) nd)).grown hgrow (by simp) (fun j hj => by cases hj)⟩; have HC2 := Aside0.mk (Kd.C_below HR0.out HB2.out); clear hown hgrow hblk)
    | ((with_reducible refine gate_builtin (b := .copy) (xs := #[.tmp 31, .tmp 32]) rfl ?_); (refine wpList_copy_splice rfl (.tmp 31) (.tmp 32) 22 22 rfl 3 Try.underlying22 ?c0 (some ⟨w.heap.size, 0, none⟩) A0 N N l0.length c0 ?d1 ?d2 w.heap.size 0 (vals (cont l0 N 0)) 3 HBk.out (vals l0) ?c1 ?c2 ?c3 ?c4 w.heap.size w HB2.out (Nat.le_refl _) ?_); (case d1 => rfl); (case d2 => rfl); (case c0 => rw [hi05]; simp [hsz5]); (case c1 => show (vals l0).length = min l0.length N; simp [vals]; omega); (case c2 => intro hp; refine ⟨rfl, ?_⟩; exact cells_of HC2.out (by simpa [vals] using hp)); (case c3 => simp [vals, cont_len]; omega); (case c4 => intro v hv; simp [vals] at hv; obtain ⟨_, _, rfl⟩ := hv; rfl); intro w3 hb3 hbel; rw [splice_first l0 N hNm] at hb3; have HB3 := Aside0.mk hbel; have HBk3 := Aside0.mk hb3.out; clear hb3 hbel))
  have hsz3 : w.heap.size < w3.heap.size := lt_of_block HBk3.out
  clear HB2 HC2 HBk
  go_loopw [8] (fun v8 wr => ∃ n : Nat, v8 = .int .i64 n ∧ n ≤ N ∧ l0.length ≤ n ∧ Aside0 (l0.length ∣ n) ∧ Aside0 (wr.heap[w.heap.size]? = some (.cells (vals (cont l0 N n)).toArray 3 (0, 0))) ∧ Aside0 (Below w.heap.size w wr)) (fun v8 _ => N - (intOf v8).toNat)
  case atStart => exact ⟨l0.length, by simp [vals], hNm, Nat.le_refl _, ⟨Nat.dvd_refl _⟩, HBk3, HB3⟩
  case round =>
    obtain ⟨n, rfl, hn, hmn, HD, HK, HB⟩ := hrel
    by_cases hlt : n < N
    · have hm0 : 0 < l0.length := by
        rcases Nat.eq_zero_or_pos l0.length with h | h
        · exfalso; have := HN.out; rw [h] at this; omega
        · exact h
      have b1 : (n : Int) ≤ (N : Int) := by omega
      have b2 : (0 : Int) ≤ (n : Int) := by omega
      have b3 : ¬ N = n := by omega
      go_wp2
      have HBd := Aside0.mk (below_drew HB.out)
      have HKd : Aside0 (wr.drew.heap[w.heap.size]? = some (.cells (vals (cont l0 N n)).toArray 3 (0, 0))) := ⟨HK.out⟩
      have HCd := Aside0.mk (Kd.R_reads' (block_own (b := w.heap.size) (Nat.le_refl _) (cont_len l0 N n) (by unfold maxLen; omega) HKd.out)).2.2
      have HSP := Aside0.mk (splice_cont l0 N n hm0 HD.out hn)
      have c0' : Aside0 ((Try.prog.info? 3).map (·.size) = some 1) := ⟨by rw [hi05]; simp [hsz5]⟩
      have c1' : Aside0 (((vals (cont l0 N n)).take (min n (N - n))).length = Nat.min n (N - n)) := ⟨by show _ = min n (N - n); simp [vals, cont_len]⟩
      have c2' : Aside0 (∀ j v, ((vals (cont l0 N n)).take (min n (N - n)))[j]? = some v → wr.drew.cell? ((⟨w.heap.size, 0, none⟩ : Addr).add j) = some v) := ⟨by
        intro j v hj
        obtain ⟨ad, e, hc⟩ := cells_of HCd.out (by rw [cont_len]; omega)
        injection e with e
        rw [← e] at hc
        refine hc j v ?_
        rw [List.getElem?_take] at hj
        split at hj
        · exact hj
        · cases hj⟩
      have c3' : Aside0 (n + ((vals (cont l0 N n)).take (min n (N - n))).length ≤ (vals (cont l0 N n)).length) := ⟨by simp [vals, cont_len]; omega⟩
      have c4' : Aside0 (∀ v ∈ (vals (cont l0 N n)).take (min n (N - n)), v.oneCell' = true) := ⟨by
        intro v hv; have hv := List.mem_of_mem_take hv; simp [vals] at hv; obtain ⟨_, _, rfl⟩ := hv; rfl⟩
      have hlen : ((vals (cont l0 N n)).take (min n (N - n))).length = min n (N - n) := c1'.out
      have HLEN := Aside0.mk hlen
      clear hlen
      go_region_held3 (fun _ => True) (first | trivial | go_keep) ((refine step_copy_splice rfl (.tmp 41) (.tmp 44) 22 22 rfl 3 Try.underlying22 c0'.out (some ⟨w.heap.size, n, none⟩) (some ⟨w.heap.size, 0, none⟩) (N - n) (N - n) n N rfl rfl w.heap.size n (vals (cont l0 N n)) 3 HKd.out ((vals (cont l0 N n)).take (min n (N - n))) c1'.out (fun _ => ⟨rfl, _, rfl, c2'.out⟩) c3'.out c4'.out w.heap.size w HBd.out (Nat.le_refl _) ?_; intro w4 hb4 hbel4; rw [HSP.out] at hb4; rw [HLEN.out]; have HK4 := Aside0.mk hb4.out; have HB4 := Aside0.mk hbel4; clear hb4 hbel4))
      have ew : IntKind.i64.wrap ((n : Int) + ((min n (N - n) : Nat) : Int)) = ((n + min n (N - n) : Nat) : Int) := by rw [IntWalk.i64_in _ (by omega)]; push_cast; rfl
      rw [ew]
      have hdv : Aside0 (l0.length ∣ n + min n (N - n)) := ⟨by
        have h1 : l0.length ∣ N := ⟨c, HN.out.symm⟩
        rcases Nat.le_total n (N - n) with h | h
        · rw [Nat.min_eq_left h]; exact Nat.dvd_add HD.out HD.out
        · rw [Nat.min_eq_right h, Nat.add_sub_cancel' hn]; exact h1⟩
      clear ew
      go_wp2
      go_roundw
      case rel => exact ⟨n + min n (N - n), rfl, by omega, by omega, hdv, HK4, HB4⟩
      case measure => simp only [intOf]; omega
    · have hne : n = N := by omega
      have HK' := Aside0.mk (block_own (b := w.heap.size) (Nat.le_refl _) (cont_len l0 N n) (by unfold maxLen; omega) HK.out)
      rw [hne] at HK'
      clear hne
      go_wp2
      go_ret
      exact ⟨_, rfl, HK'.out, HB.out⟩

theorem slices_Repeat_int_int.calls (k : Nat) (A0 : Option Addr) (c0 : Nat) (l0 : List Int) (a1 : Int) (r : List Int) (w : World) (hr0 : Kd.C (Kd.int .i64) w A0 l0.length l0) (hc0 : l0.length ≤ c0) (h : slices_Repeat_int_int.f k l0 a1 = some r) :
    Calls Try.prog 35 #[.slice A0 l0.length c0, .int .i64 a1] w fun e w' => ∃ v0_ : Value, e = .returned v0_ ∧ Kd.R (Kd.int .i64) 3 w' w.heap.size (fun _ => True) v0_ r ∧ Below w.heap.size w w' := by
  unfold slices_Repeat_int_int.f at h
  by_cases hok : RepOk l0 a1
  case neg => rw [if_neg hok] at h; cases h
  rw [if_pos hok] at h
  obtain ⟨h1, h2, h3⟩ := hok
  obtain rfl := Option.some.inj h
  obtain ⟨c, rfl⟩ : ∃ c : Nat, a1 = (c : Int) := ⟨a1.toNat, by omega⟩
  rw [Int.toNat_natCast]
  exact repeat_walk A0 c0 l0 c _ w hr0 hc0 h1 (by omega) (by omega) rfl

end Go.Proofs.Ytijfinimlnedpaa.PPer
