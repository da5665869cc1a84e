/- The law PaperBack (function 3), walked by hand: true. -/
import Derived.Test.YtgagbfaodeakaaaDoorPapPrinted
import Derived.Test.YtgagbfaodeakaaaDoorPbPure
import Derived.Test.YtgagbfaodeakaaaDoorPbTrim
namespace Go.Proofs.YtgagbfaodeakaaaDoor.PPaperBack
open Go.RowKit Go.Proofs.YtgagbfaodeakaaaDoorW.PrintWords Go.Proofs.YtgagbfaodeakaaaDoorW.PrintLast Go.Proofs.YtgagbfaodeakaaaDoorW.PrintMore
attribute [local go_sem] max2_int min2_int max_two min_two max_three min_three max_four min_four
set_option linter.unusedVariables false
set_option linter.unusedSimpArgs false

theorem below_some (x : Int) (n : Nat) (hn : 0 < n) (h16 : n ≤ 1000) (w : World) : Calls Tryd.prog 4 #[.int .i64 x, .int .i64 (n : Int)] w fun e w' => ∃ v : Nat, v < n ∧ e = .returned (.int .i64 (v : Int)) ∧ Drawn0 w w' := by
  have h1 := Int.tmod_lt_of_pos x (b := (n : Int)) (by omega)
  have h2 := Int.lt_tmod_of_pos x (b := (n : Int)) (by omega)
  by_cases h : Int.tmod x n < 0
  · have hw : wrap64 (Int.tmod x n + n) = ((Int.tmod x n + n).toNat : Int) := by unfold wrap64; omega
    refine (bakemake_Below.calls x n ((Int.tmod x n + n).toNat : Int) w (by unfold bakemake_Below.f; rw [if_neg (by omega), if_pos h, hw])).mono ?_
    rintro e w' ⟨rfl, hd⟩
    exact ⟨_, by omega, rfl, hd⟩
  · have hw : Int.tmod x n = ((Int.tmod x n).toNat : Int) := by omega
    refine (bakemake_Below.calls x n ((Int.tmod x n).toNat : Int) w (by unfold bakemake_Below.f; rw [if_neg (by omega), if_neg h, ← hw])).mono ?_
    rintro e w' ⟨rfl, hd⟩
    exact ⟨_, by omega, rfl, hd⟩
theorem enc_one (v : Nat) (h : v < 95) : Utf8.encode (32 + (v : Int)) = strOfNums [32 + (v : Int)] := by
  have hv : Utf8.valid (32 + (v : Int)) = true := by
    rw [validRune_eq]; unfold validRune; exact decide_eq_true (by omega)
  unfold Utf8.encode
  simp only [hv, if_true]
  rw [if_pos (by omega)]
  simp [strOfNums]
theorem nums_app (p q : List Int) : strOfNums p ++ strOfNums q = strOfNums (p ++ q) := by
  apply ByteArray.ext
  simp [strOfNums, ByteArray.data_append]
theorem strip_nil : strOfNums [] = (⟨#[]⟩ : ByteArray) := rfl

theorem type_len {A : Option Addr} {c m : Nat} {ls : List (List Int)} (hm : m = (ls.map strOfNums).length) (h : ∀ r ∈ ls, LnOk r) (hl : ls.length ≤ 30) (w : World) (hC : Kd.C Kd.string w A m (ls.map strOfNums)) (hc : m ≤ c) :
    Calls Tryd.prog 6 #[.slice A m c] w fun e w' => ∃ v0_ : Value, e = .returned (.tuple #[v0_, .int .i64 0]) ∧ Kd.R (Kd.int .u8) 5 w' w.heap.size (fun _ => True) v0_ (typeB ls) ∧ Below w.heap.size w w' := by
  obtain ⟨k, hk⟩ := type_ev ls h (by omega)
  subst hm
  exact paper_Type.calls k A c _ _ _ w hC hc hk
theorem eq_len {A B : Option Addr} {a b m n : Nat} {ss : List ByteArray} (hm : m = ss.length) (hn : n = ss.length) (hl : ss.length ≤ 30) (w : World) (hC : Kd.C Kd.string w A m ss) (hc : m ≤ a) (hD : Kd.C Kd.string w B n ss) (hd : n ≤ b) :
    Calls Tryd.prog 9 #[.slice A m a, .slice B n b] w fun e w' => e = .returned (.bool true) ∧ Drawn0 w w' := by
  subst hm
  subst hn
  exact slices_Equal_string_string.calls _ A a ss B b ss true w hC hc hD hd (eq_ev ss (by omega))
theorem typeB_rng (ls : List (List Int)) (h : ∀ r ∈ ls, LnOk r) : ∀ x ∈ typeB ls, 0 ≤ x ∧ x ≤ 255 := by
  intro x hx
  unfold typeB at hx
  obtain ⟨r, hr, hx⟩ := List.mem_flatMap.1 hx
  rcases List.mem_append.1 hx with h1 | h1
  · have := (h r hr).rng x h1; omega
  · simp at h1; omega
theorem print_len {A : Option Addr} {c m : Nat} {ls : List (List Int)} (hm : m = (typeB ls).length) (h : ∀ r ∈ ls, LnOk r ∧ trimF r = r) (hl : ls.length ≤ 30) (hlast : ∀ r, ls.getLast? = some r → r ≠ []) (w : World) (hC : Kd.C (Kd.int .u8) w A m (typeB ls)) :
    Calls Tryd.prog 7 #[.slice A m c] w fun e w' => ∃ v : Value, e = .returned (.tuple #[v, .int .i64 0]) ∧ Kd.R Kd.string 9 w' w.heap.size (fun _ => True) v (ls.map strOfNums) ∧ Below w.heap.size w w' := by
  obtain ⟨s, hs, he⟩ := back ls (by omega) (fun r hr => (h r hr).1) (fun r hr => (h r hr).2) hlast
  subst hm
  have h1 := typeB_len ls (fun r hr => (h r hr).1)
  refine (print_walk (typeB ls) s A c w hC (by omega) (typeB_rng ls (fun r hr => (h r hr).1)) hs).mono ?_
  rintro e w' ⟨v, hv, hr, hb⟩
  exact ⟨v, hv, by rw [← he]; exact hr, hb⟩

set_option maxHeartbeats 8000000 in
set_option maxRecDepth 100000 in
theorem back_calls (A0 : Option Addr) (c0 : Nat) (l0 : List Int) (w : World) (hr0 : Kd.C (Kd.int .i64) w A0 l0.length l0) (hc0 : l0.length ≤ c0) (hm0 : l0.length ≤ 9223372036854775807) :
    Calls Tryd.prog 3 #[.slice A0 l0.length c0] w fun e w' => e = .returned (.bool true) ∧ Below w.heap.size w w' := by
  have HR0 := Aside0.mk hr0
  have HC0 := Aside0.mk hc0
  obtain ⟨n, hmn, hn1, hn2⟩ : ∃ n : Nat, (if (30 : Int) < (l0.length : Int) then 30 else (l0.length : Int)) = (n : Int) ∧ n ≤ 30 ∧ n ≤ l0.length := by
    split
    · exact ⟨30, rfl, by omega, by omega⟩
    · exact ⟨l0.length, rfl, by omega, by omega⟩
  have HN := Aside0.mk hn1
  have hx1 : (n : Int) ≤ (l0.length : Int) := by omega
  have hx2 : (n : Int) ≤ (c0 : Int) := by omega
  have CR0 := Aside0.mk (Kd.C_take (m := n) HR0.out hn2)
  have HNL := Aside0.mk hn2
  clear hr0 hc0 hn2
  go_enter Tryd.func3, Tryd.ntmps3
  go_wp2
  have CRB : Aside0 (∀ W, Below w.heap.size w W → Kd.C (Kd.int .i64) W A0 n (l0.take n)) := ⟨fun W h => by
    have h1 := Kd.C_below CR0.out h
    rwa [show (l0.take n).length = n by rw [List.length_take]; have := HNL.out; omega] at h1⟩
  clear hmn hx1 hx2 CR0
  have I0 : Aside0 (Kd.R Kd.string 9 w w.heap.size (fun _ => True) (.slice none 0 0) (([] : List (List Int)).map strOfNums)) := ⟨Kd.R_nil _ _ _ _ _⟩
  go_loopw [3, 18] (fun v3 v18 wr => ∃ (i : Nat) (ls : List (List Int)), i ≤ n ∧ v18 = .int .i64 (i : Int) ∧ Aside0 (Kd.R Kd.string 9 wr w.heap.size (fun _ => True) v3 (ls.map strOfNums)) ∧ Aside0 (ls.length = i ∧ ∀ r ∈ ls, LnOk r ∧ trimF r = r) ∧ Aside0 (Below w.heap.size w wr)) (fun _ v18 _ => n - (intOf v18).toNat)
  case atStart => exact ⟨0, [], by omega, rfl, I0, ⟨rfl, fun r h => by cases h⟩, ⟨Below.refl _ _⟩⟩
  case round =>
    obtain ⟨i, ls, hi, rfl, HL, HLS, HB⟩ := hrel
    obtain ⟨w1, rfl⟩ : ∃ w1 : World, w1 = wr := ⟨_, rfl⟩
    clear I0
    by_cases hlt : i < n
    · obtain ⟨a, ea, ha⟩ := Kd.at_int (CRB.out w1 HB.out) (i : Int) (by omega) (by omega)
      subst ea
      rw [Int.toNat_natCast] at ha
      generalize hx : rd (l0.take n) (i : Int) = x at *
      clear hx
      have BS1 := Aside0.mk (below_some x 41 (by decide) (by decide) w1)
      rw [show ((41 : Nat) : Int) = 41 from rfl] at BS1
      go_wp2_with fail
      (with_reducible refine BS1.out.mono ?_)
      rintro e w2 ⟨m, hm, rfl, hd⟩
      have HB2 : Aside0 (Below w.heap.size w w2) := ⟨HB.out.trans (hd.below.mono HB.out.size)⟩
      have HL2 : Aside0 (Kd.R Kd.string 9 w2 w.heap.size (fun _ => True) u3 (ls.map strOfNums)) := ⟨Kd.R_below HL.out hd.below⟩
      clear hd BS1 HL HB
      go_wp2
      have I0 : Aside0 (Kd.R Kd.string 9 w2 w.heap.size (fun _ => True) u3 (ls.map strOfNums)) := HL2
      go_loopw [6, 25] (fun v6 v25 wr => ∃ (j : Nat) (p : List Int), j ≤ m ∧ v25 = .int .i64 (j : Int) ∧ v6 = .string (strOfNums p) ∧ Aside0 (p.length = j ∧ ∀ x ∈ p, 32 ≤ x ∧ x ≤ 126) ∧ Aside0 (Kd.R Kd.string 9 wr w.heap.size (fun _ => True) u3 (ls.map strOfNums)) ∧ Aside0 (Below w.heap.size w wr)) (fun _ v25 _ => m - (intOf v25).toNat)
      case atStart => exact ⟨0, [], by omega, rfl, rfl, ⟨rfl, fun r h => by cases h⟩, I0, HB2⟩
      case round =>
        obtain ⟨j, p, hj, rfl, rfl, HP, HL, HB⟩ := hrel
        obtain ⟨w3, rfl⟩ : ∃ w3 : World, w3 = wr := ⟨_, rfl⟩
        clear I0 HL2 HB2
        by_cases hlt2 : j < m
        · have BS := Aside0.mk (fun y => below_some y 95 (by decide) (by decide) w3)
          rw [show ((95 : Nat) : Int) = 95 from rfl] at BS
          go_wp2_with fail
          (with_reducible refine (BS.out _).mono ?_)
          rintro e w4 ⟨c, hc, rfl, hd⟩
          have HB4 : Aside0 (Below w.heap.size w w4) := ⟨HB.out.trans (hd.below.mono HB.out.size)⟩
          have HL4 : Aside0 (Kd.R Kd.string 9 w4 w.heap.size (fun _ => True) u3 (ls.map strOfNums)) := ⟨Kd.R_below HL.out hd.below⟩
          clear hd BS HL HB
          have e1 : wrap64 (32 + (c : Int)) = 32 + (c : Int) := by unfold wrap64; omega
          have e2 : IntKind.i32.wrap (32 + (c : Int)) = 32 + (c : Int) := by unfold IntKind.wrap; simp [IntKind.bits, IntKind.signed]; omega
          have e3 := enc_one c hc
          have e4 : (strOfNums p).size + (strOfNums [32 + (c : Int)]).size ≤ 9223372036854775807 := by rw [strOfNums_size, strOfNums_size]; have := HP.out.1; simp; omega
          have e5 : ¬ ((strOfNums p).size + (strOfNums [32 + (c : Int)]).size > 9223372036854775807) := Nat.not_lt.2 e4
          have e6 : ¬ (9223372036854775807 < (strOfNums p).size + (strOfNums [32 + (c : Int)]).size) := Nat.not_lt.2 e4
          generalize hs2 : strOfNums [32 + (c : Int)] = s2 at *
          generalize hs1 : strOfNums p = s1 at *
          go_wp2
          subst hs1
          subst hs2
          go_roundw
          case rel => exact ⟨j + 1, p ++ [32 + (c : Int)], by omega, by go_num, by rw [nums_app], ⟨by simp [HP.out.1], fun y hy => by
            rcases List.mem_append.1 hy with h | h
            · exact HP.out.2 y h
            · have : y = 32 + (c : Int) := by simpa using h
              omega⟩, HL4, HB4⟩
          case measure => simp [intOf]; omega
        · have hjm : j = m := by omega
          subst hjm
          have TR := Aside0.mk (fun W => trimRight_sp (p.length + 1) (strOfNums p) (strOfNums (trimF p)) W (trimR_ev p (fun x hx => by have := HP.out.2 x hx; omega) (by have := HP.out.1; omega) (p.length + 1) (by omega)))
          have LP : Aside0 (LnOk (trimF p) ∧ trimF (trimF p) = trimF p) := ⟨LnOk.trim ⟨by have := HP.out.1; omega, HP.out.2⟩, trimF_idem p⟩
          clear HP
          generalize trimF p = q at *
          go_wp2_with fail
          (with_reducible refine (TR.out _).mono ?_)
          rintro e w4 ⟨rfl, hd⟩
          have HB4 : Aside0 (Below w.heap.size w w4) := ⟨HB.out.trans (hd.below.mono HB.out.size)⟩
          have HL4 : Aside0 (Kd.R Kd.string 9 w4 w.heap.size (fun _ => True) u3 (ls.map strOfNums)) := ⟨Kd.R_below HL.out hd.below⟩
          have HLL : Aside0 ((ls.map strOfNums).length ≤ 30) := ⟨by rw [List.length_map, HLS.out.1]; have := HN.out; omega⟩
          clear hd TR HL HB
          go_wp2_with ((with_reducible refine gate_builtin (b := .append) (xs := #[.tmp 41, .tmp 44]) rfl ?_); at_builtin; refine Kd.R_append Kd.string (w0 := w4) w.heap.size rfl (.tmp 41) (.tmp 44) 23 9 (.string ⟨#[]⟩) 16 rfl Tryd.underlying23 info9s rfl (by decide) (by omega) u3 (ls.map strOfNums) (strOfNums q) [.string (strOfNums q)] (fun _ => True) (fun _ => False) rfl ?aX rfl (fun _ hk => hk.elim) (fun _ _ => trivial) HL4.out (Below.refl _ _) ?aS ?aL ?_; (case aX => first | rfl | (simp; done)); (case aS => exact HB4.out.size); (case aL => have := HLL.out; omega); intro v7 w7 ho hb hg hat; have HO7 := Aside0.mk ho; have HB7 := Aside0.mk hb; have HG7 := Aside0.mk hg; clear ho hb hg hat)
          go_roundw
          case rel => exact ⟨i + 1, ls ++ [q], by omega, by go_num, ⟨by rw [List.map_append]; exact HO7.out⟩, ⟨by simp [HLS.out.1], fun r hr => by
            rcases List.mem_append.1 hr with h | h
            · exact HLS.out.2 r h
            · have : r = q := by simpa using h
              subst this
              exact LP.out⟩, ⟨HB4.out.trans HB7.out⟩⟩
          case measure => simp [intOf]; omega
    · have hin : i = n := by omega
      subst hin
      clear CRB HR0
      have HLS2 : Aside0 (ls.length ≤ 30 ∧ ∀ r ∈ ls, LnOk r ∧ trimF r = r) := ⟨by rw [HLS.out.1]; exact HN.out, HLS.out.2⟩
      clear HLS
      go_wp2
      go_loopw [3] (fun v3 wr => wr = w1 ∧ ∃ ls : List (List Int), Aside0 (ls.length ≤ 30 ∧ ∀ r ∈ ls, LnOk r ∧ trimF r = r) ∧ Aside0 (Kd.R Kd.string 9 w1 w.heap.size (fun _ => True) v3 (ls.map strOfNums))) (fun v3 _ => lenV v3)
      case atStart => exact ⟨rfl, ls, HLS2, HL⟩
      case round =>
        clear HL HLS2
        obtain ⟨rfl, ls, HS, HRx⟩ := hrel
        rcases List.eq_nil_or_concat ls with h0 | ⟨q, x, h0⟩
        · have HLast : Aside0 (∀ r, ls.getLast? = some r → r ≠ []) := ⟨by subst h0; intro r h; cases h⟩
          obtain ⟨Al, cl, rfl⟩ := Kd.R_slice HRx.out
          have hlen : (ls.map strOfNums).length = 0 := by subst h0; rfl
          have hl2 : Aside0 (0 = (ls.map strOfNums).length) := ⟨hlen.symm⟩
          clear h0
          rw [hlen] at HRx ⊢
          clear hlen
          go_wp2_with fail
          have CL := Kd.R_reads' HRx.out
          (with_reducible refine (type_len hl2.out (fun r hr => (HS.out.2 r hr).1) HS.out.1 _ (by rw [hl2.out]; exact CL.2.2) (by first | exact CL.2.1 | (rw [hl2.out]; exact CL.2.1))).mono ?_)
          rintro e w5 ⟨v5, rfl, hv5, hb5⟩
          obtain ⟨A5, c5, rfl⟩ := Kd.R_slice hv5
          have HB5 : Aside0 (Below w.heap.size w w5) := ⟨HB.out.trans (hb5.mono HB.out.size)⟩
          have HR5 := Aside0.mk (Kd.R_below HRx.out hb5)
          have HC5 := Aside0.mk (Kd.R_reads' hv5).2.2
          clear hv5 hb5 HB HRx CL
          go_wp2_with fail
          (with_reducible refine (print_len rfl HS.out.2 HS.out.1 HLast.out _ HC5.out).mono ?_)
          rintro e w6 ⟨v6, rfl, hv6, hb6⟩
          obtain ⟨A6, c6, rfl⟩ := Kd.R_slice hv6
          have HB6 : Aside0 (Below w.heap.size w w6) := ⟨HB5.out.trans (hb6.mono HB5.out.size)⟩
          have HR6 := Aside0.mk (Kd.R_below HR5.out hb6)
          have HQ6 := Aside0.mk hv6
          clear hv6 hb6 HB5 HR5 HC5
          go_wp2_with fail
          (with_reducible refine (bakekeep3_printed.calls true _ rfl).mono ?_)
          rintro e w7 ⟨rfl, hb7⟩
          have HB7 : Aside0 (Below w.heap.size w w7) := ⟨HB6.out.trans (hb7.mono HB6.out.size)⟩
          have HR7 := Aside0.mk (Kd.R_below HR6.out hb7)
          have HQ7 := Aside0.mk (Kd.R_below HQ6.out hb7)
          clear hb7 HB6 HR6 HQ6
          go_wp2_with fail
          (with_reducible refine (eq_len (m := ls.length) (by simp) hl2.out (by rw [List.length_map]; exact HS.out.1) _ (by have h := (Kd.R_reads' HQ7.out).2.2; simpa using h) (by have h := (Kd.R_reads' HQ7.out).2.1; simpa using h) (by rw [hl2.out]; exact (Kd.R_reads' HR7.out).2.2) (by first | exact (Kd.R_reads' HR7.out).2.1 | (rw [hl2.out]; exact (Kd.R_reads' HR7.out).2.1))).mono ?_)
          rintro e w8 ⟨rfl, hd8⟩
          have HB8 : Aside0 (Below w.heap.size w w8) := ⟨HB7.out.trans (hd8.below.mono HB7.out.size)⟩
          go_wp2
          go_ret
          exact ⟨rfl, HB8.out⟩
        · have h0' : ls = q ++ [x] := by simpa using h0
          clear h0
          obtain ⟨Al, cl, hvo, -, -⟩ := Kd.R_form HRx.out (by rw [h0']; simp)
          subst hvo
          have hql : (ls.map strOfNums).length = q.length + 1 := by rw [h0']; simp
          have hRq := HRx.out
          have hrc := Kd.C_get (Kd.R_reads' hRq).2.2 ByteArray.empty (q.length : Int) (by omega) (by rw [hql]; omega)
          obtain ⟨ad, cb, hadd, hcb, hKb, hcb2⟩ := hrc
          obtain rfl : cb = [.string ((ls.map strOfNums).getD (q.length : Int).toNat ByteArray.empty)] := hKb
          have hb0 := hcb2 0 _ rfl
          obtain rfl : (⟨Al, 0, none⟩ : Addr) = ad := by injection hadd
          rw [Int.toNat_natCast, show q.length * Kd.string.sz + 0 = q.length from by show q.length * 1 + 0 = _; omega, add_plain, show (ls.map strOfNums).getD q.length ByteArray.empty = strOfNums x from by rw [h0']; simp] at hb0
          have hlq : q.length ≤ 30 := by have := HS.out.1; rw [h0'] at this; simp at this; omega
          have hqc : q.length ≤ cl := by have := (Kd.R_reads' hRq).2.1; omega
          have hqq : (q.length : Int) < ((q.length + 1 : Nat) : Int) := by omega
          clear hadd hcb hcb2 hRq
          by_cases hx : x = []
          · have hx2 : (strOfNums x).toList.isEmpty = true := by rw [hx]; decide +kernel
            rw [hql] at HRx ⊢
            clear hql
            have HX : Aside0 (Kd.R Kd.string 9 wr w.heap.size (fun _ => True) (.slice (some ⟨Al, 0, none⟩) q.length cl) (q.map strOfNums)) := ⟨by
              have h := Kd.R_take HRx.out (show q.length ≤ (ls.map strOfNums).length by rw [h0']; simp)
              rw [h0'] at h
              simpa using h⟩
            have HS2 : Aside0 (q.length ≤ 30 ∧ ∀ r ∈ q, LnOk r ∧ trimF r = r) := ⟨by omega, fun r hr => HS.out.2 r (by rw [h0']; simp [hr])⟩
            subst hx
            go_wp2
            go_roundw
            case rel => exact ⟨by first | rfl | trivial, q, HS2, HX⟩
            case measure => simp [lenV]
          · have hx2 : (strOfNums x).toList.isEmpty = false := by
              have := toList_nums_ne x hx
              cases h : (strOfNums x).toList with
              | nil => exact absurd h this
              | cons a b => rfl
            have HLast : Aside0 (∀ r, ls.getLast? = some r → r ≠ []) := ⟨by rw [h0']; intro r h; simp at h; rw [← h]; exact hx⟩
            have hl2 : Aside0 (q.length + 1 = (ls.map strOfNums).length) := ⟨hql.symm⟩
            rw [hql] at HRx ⊢
            clear hql h0'
            go_wp2_with fail
            have CL := Kd.R_reads' HRx.out
            (with_reducible refine (type_len hl2.out (fun r hr => (HS.out.2 r hr).1) HS.out.1 _ (by rw [hl2.out]; exact CL.2.2) (by first | exact CL.2.1 | (rw [hl2.out]; exact CL.2.1))).mono ?_)
            rintro e w5 ⟨v5, rfl, hv5, hb5⟩
            obtain ⟨A5, c5, rfl⟩ := Kd.R_slice hv5
            have HB5 : Aside0 (Below w.heap.size w w5) := ⟨HB.out.trans (hb5.mono HB.out.size)⟩
            have HR5 := Aside0.mk (Kd.R_below HRx.out hb5)
            have HC5 := Aside0.mk (Kd.R_reads' hv5).2.2
            clear hv5 hb5 HB HRx CL
            go_wp2_with fail
            (with_reducible refine (print_len rfl HS.out.2 HS.out.1 HLast.out _ HC5.out).mono ?_)
            rintro e w6 ⟨v6, rfl, hv6, hb6⟩
            obtain ⟨A6, c6, rfl⟩ := Kd.R_slice hv6
            have HB6 : Aside0 (Below w.heap.size w w6) := ⟨HB5.out.trans (hb6.mono HB5.out.size)⟩
            have HR6 := Aside0.mk (Kd.R_below HR5.out hb6)
            have HQ6 := Aside0.mk hv6
            clear hv6 hb6 HB5 HR5 HC5
            go_wp2_with fail
            (with_reducible refine (bakekeep3_printed.calls true _ rfl).mono ?_)
            rintro e w7 ⟨rfl, hb7⟩
            have HB7 : Aside0 (Below w.heap.size w w7) := ⟨HB6.out.trans (hb7.mono HB6.out.size)⟩
            have HR7 := Aside0.mk (Kd.R_below HR6.out hb7)
            have HQ7 := Aside0.mk (Kd.R_below HQ6.out hb7)
            clear hb7 HB6 HR6 HQ6
            go_wp2_with fail
            (with_reducible refine (eq_len (m := ls.length) (by simp) hl2.out (by rw [List.length_map]; exact HS.out.1) _ (by have h := (Kd.R_reads' HQ7.out).2.2; simpa using h) (by have h := (Kd.R_reads' HQ7.out).2.1; simpa using h) (by rw [hl2.out]; exact (Kd.R_reads' HR7.out).2.2) (by first | exact (Kd.R_reads' HR7.out).2.1 | (rw [hl2.out]; exact (Kd.R_reads' HR7.out).2.1))).mono ?_)
            rintro e w8 ⟨rfl, hd8⟩
            have HB8 : Aside0 (Below w.heap.size w w8) := ⟨HB7.out.trans (hd8.below.mono HB7.out.size)⟩
            go_wp2
            go_ret
            exact ⟨rfl, HB8.out⟩
theorem back_walk (a0 : Option Addr) (len0 cap0 : Nat) (z0 : List Int) (w : World) (w0 : (a0 = none ∧ len0 = 0 ∧ cap0 = 0 ∧ z0 = []) ∨ ∃ x, a0 = some x ∧ len0 ≤ cap0 ∧ cap0 ≤ maxLen ∧ z0.length = cap0 ∧ (∀ i, i < z0.length → w.cell? (x.add i) = some (.int .i64 (z0.getD i 0))) ∧ ∀ n ∈ z0, (Lit.int .i64 n).wf = true) :
    Calls Tryd.prog 3 #[.slice a0 len0 cap0] w fun e w' => e = .returned (.bool true) ∧ Below w.heap.size w w' := by
  obtain ⟨l0, rfl, hr0, hm0, hw0, hc0⟩ := ReadsInt.ofRowC w0
  exact back_calls _ _ l0 w (Kd.C_of_reads (d := (0 : Int)) (h1 := fun _ => rfl) hr0) hc0 hm0
end Go.Proofs.YtgagbfaodeakaaaDoor.PPaperBack
