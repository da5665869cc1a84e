/- The plain law of PaperBack: no program in sight. -/
import Derived.Test.YtgagbfaodeakaaaDoorPapPlain
import Derived.Test.YtgagbfaodeakaaaDoorPPaperBackx2
namespace Go.Proofs.YtgagbfaodeakaaaDoor.PPaperBack
open Go.RowKit Go.Proofs.YtgagbfaodeakaaaDoorW.PrintWords Go.Proofs.YtgagbfaodeakaaaDoorW.PrintLast Go.Proofs.YtgagbfaodeakaaaDoorW.PrintMore
set_option linter.unusedVariables false

theorem bt_nums (xs : List Int) (i : Nat) (hi : i < xs.length) (h : 0 ≤ xs.getD i 0 ∧ xs.getD i 0 ≤ 255) : bt (strOfNums xs) (i : Int) = xs.getD i 0 := by
  have hs : (i : Int).toNat < (strOfNums xs).size := by rw [strOfNums_size]; omega
  unfold bt
  rw [dif_pos hs]
  have h1 : (strOfNums xs)[(i : Int).toNat]'hs = UInt8.ofNat (xs[i]'hi).toNat := by
    show (strOfNums xs).data[(i : Int).toNat]'hs = _
    simp [strOfNums]
  rw [h1]
  have h2 : xs.getD i 0 = xs[i]'hi := by simp [List.getD_eq_getElem?_getD, List.getElem?_eq_getElem hi]
  rw [h2] at h ⊢
  rw [UInt8.toNat_ofNat']
  omega
theorem take_nums (xs : List Int) (n : Nat) : (strOfNums xs).extract 0 n = strOfNums (xs.take n) := by
  apply ByteArray.ext
  simp [strOfNums, ByteArray.data_extract]
theorem trimR_ev (r : List Int) (hb : ∀ x ∈ r, 0 ≤ x ∧ x ≤ 255) (hr : r.length ≤ 1000000) : ∀ k, r.length < k → strings_trimRightByte.f k (strOfNums r) 32 = some (strOfNums (trimF r)) := by
  unfold strings_trimRightByte.f
  induction hn : r.length generalizing r with
  | zero =>
    intro k hk
    obtain ⟨k, rfl⟩ : ∃ m, k = m + 1 := ⟨k - 1, by omega⟩
    have : r = [] := List.eq_nil_of_length_eq_zero hn
    subst this
    simp [strings_trimRightByte.l0, trimF, strOfNums_size]
  | succ n ih =>
    intro k hk
    obtain ⟨k, rfl⟩ : ∃ m, k = m + 1 := ⟨k - 1, by omega⟩
    obtain ⟨q, x, rfl⟩ : ∃ q x, r = q ++ [x] := ⟨r.dropLast, r.getLast (by intro h; subst h; simp at hn), (List.dropLast_concat_getLast _).symm⟩
    have hq : q.length = n := by simpa using hn
    have hz : ((strOfNums (q ++ [x])).size : Int) = ((n : Int) + 1) := by rw [strOfNums_size, hn]; omega
    have hw : wrap64 ((n : Int) + 1 - 1) = (n : Int) := by unfold wrap64; omega
    have hx := hb x (by simp)
    have hgd : (q ++ [x]).getD n 0 = x := by rw [List.getD_eq_getElem?_getD, ← hq]; simp
    have hrd : bt (strOfNums (q ++ [x])) (n : Int) = x := by rw [bt_nums _ n (by omega) (by rw [hgd]; exact hx), hgd]
    rw [trimF_snoc]
    simp only [strings_trimRightByte.l0]
    rw [hz, if_pos (by omega), hw, if_pos (by omega), if_pos (by omega), hrd]
    by_cases h : x = 32
    · rw [if_pos h, if_pos h, if_pos (by omega), Int.toNat_natCast, take_nums, ← hq, List.take_left']
      · exact ih q (fun y hy => hb y (by simp [hy])) (by rw [List.length_append] at hr; omega) hq k (by omega)
      · rfl
    · rw [if_neg h, if_neg h]

/-- What paper.Type gives. -/
def typeB (ls : List (List Int)) : List Int := ls.flatMap (· ++ [13, 10])
structure LnOk (r : List Int) : Prop where
  len : r.length ≤ 40
  rng : ∀ x ∈ r, 32 ≤ x ∧ x ≤ 126
theorem bytes_nums (r : List Int) (h : ∀ x ∈ r, 0 ≤ x ∧ x ≤ 255) : bytesOf (strOfNums r) = r := by
  unfold bytesOf
  rw [strOfNums_data, List.map_map]
  conv => rhs; rw [← List.map_id r]
  refine List.map_congr_left fun x hx => ?_
  have := h x hx
  show ((UInt8.ofNat x.toNat).toNat : Int) = x
  rw [UInt8.toNat_ofNat']
  omega
theorem rd_strs (ls : List (List Int)) (i : Nat) (h : i < ls.length) : rdOf ByteArray.empty (ls.map strOfNums) (i : Int) = strOfNums (ls[i]'h) := by
  unfold rdOf
  simp [List.getD_eq_getElem?_getD, List.getElem?_eq_getElem h]
theorem type_l1 (acc : List Int) (r : List Int) (hr : LnOk r) (ss : List ByteArray) (n : Int) (i : Nat) (hi : i < 1000) (k : Nat) (v : List Int × Int)
    (ha : acc.length ≤ 1000000) (hk : paper_Type.l0 k (acc ++ (r ++ [13, 10])) ss n ((i : Int) + 1) = some v) :
    ∀ d j : Nat, j + d = r.length → paper_Type.l1 (k + d + 1) acc (strOfNums r) ss n (i : Int) ((strOfNums r).size : Int) (j : Int) = some v := by
  intro d
  induction d with
  | zero =>
    intro j hj
    simp only [paper_Type.l1]
    have h1 := hr.len
    have hw : wrap64 ((i : Int) + 1) = (i : Int) + 1 := by unfold wrap64; omega
    rw [strOfNums_size, if_neg (by omega), if_pos (by omega), bytes_nums r (fun x hx => by have := hr.rng x hx; omega)]
    simp only [Option.bind_some]
    rw [if_pos (by simp; omega), hw, List.append_assoc]
    exact hk
  | succ d ih =>
    intro j hj
    obtain ⟨K, hK⟩ : ∃ K, K = k + d + 1 := ⟨_, rfl⟩
    rw [show k + (d + 1) + 1 = K + 1 by omega]
    rw [← hK] at ih
    simp only [paper_Type.l1]
    have h1 := hr.len
    have hg : r.getD j 0 ∈ r := by rw [List.getD_eq_getElem?_getD, List.getElem?_eq_getElem (by omega)]; exact List.getElem_mem _
    have h2 := hr.rng _ hg
    have hw : wrap64 ((j : Int) + 1) = ((j + 1 : Nat) : Int) := by unfold wrap64; omega
    have hb := bt_nums r j (by omega) (by omega)
    rw [strOfNums_size, if_pos (by omega), if_pos (by omega), if_pos (by omega), hb, if_neg (by omega), if_neg (by omega), hw]
    have := ih (j + 1) (by omega)
    rw [strOfNums_size] at this
    exact this

theorem typeB_len (ls : List (List Int)) (h : ∀ r ∈ ls, LnOk r) : (typeB ls).length ≤ 42 * ls.length := by
  induction ls with
  | nil => simp [typeB]
  | cons r t ih =>
    have h1 := ih (fun q hq => h q (by simp [hq]))
    have h2 := (h r (by simp)).len
    simp only [typeB, List.flatMap_cons, List.length_append, List.length_cons, List.length_nil] at h1 ⊢
    omega
theorem type_l0 (ls : List (List Int)) (h : ∀ r ∈ ls, LnOk r) (hl : ls.length ≤ 400) :
    ∀ d j : Nat, j + d = ls.length → ∃ k, paper_Type.l0 k (typeB (ls.take j)) (ls.map strOfNums) (ls.length : Int) (j : Int) = some (typeB ls, 0) := by
  intro d
  induction d with
  | zero =>
    intro j hj
    refine ⟨1, ?_⟩
    simp only [paper_Type.l0]
    rw [if_neg (by omega), List.take_of_length_le (by omega)]
  | succ d ih =>
    intro j hj
    have hj1 : j < ls.length := by omega
    have hok := h _ (List.getElem_mem hj1)
    have hlen := hok.len
    have htl := typeB_len (ls.take j) (fun r hr => h r (List.mem_of_mem_take hr))
    rw [List.length_take] at htl
    have hS : typeB (ls.take j) ++ (ls[j]'hj1 ++ [13, 10]) = typeB (ls.take (j + 1)) := by
      rw [List.take_succ_eq_append_getElem hj1]; simp only [typeB, List.flatMap_append, List.flatMap_cons, List.flatMap_nil, List.append_nil]
    obtain ⟨k, hk⟩ := ih (j + 1) (by omega)
    have h1 := type_l1 (typeB (ls.take j)) (ls[j]'hj1) hok (ls.map strOfNums) (ls.length : Int) j (by omega) k (typeB ls, 0) (by omega) (by rw [hS]; exact hk) (ls[j]'hj1).length 0 (by omega)
    obtain ⟨K, hK⟩ : ∃ K, K = k + (ls[j]'hj1).length + 1 := ⟨_, rfl⟩
    rw [← hK] at h1
    refine ⟨K + 1, ?_⟩
    simp only [paper_Type.l0]
    rw [if_pos (by omega), if_pos (by omega), if_pos (by rw [List.length_map]; omega), rd_strs ls j hj1, if_neg (by rw [strOfNums_size]; omega)]
    exact h1
theorem type_ev (ls : List (List Int)) (h : ∀ r ∈ ls, LnOk r) (hl : ls.length ≤ 400) : ∃ k, paper_Type.f k (ls.map strOfNums) = some (typeB ls, 0) := by
  obtain ⟨k, hk⟩ := type_l0 ls h hl ls.length 0 (by omega)
  refine ⟨k, ?_⟩
  unfold paper_Type.f
  rw [if_neg (by rw [List.length_map]; omega), List.length_map]
  exact hk

/-- The rows after a prefix of a line. -/
def lay (rows : List (List Int)) (L : Nat) (p : List Int) : List (List Int) := if p = [] then rows else ext rows L [] ++ [p]
theorem putRow_snoc (p : List Int) (c : Int) : putRow p p.length c = p ++ [c] := by
  have he : ext p (p.length + 1) 32 = p ++ [32] := by unfold ext; rw [show p.length + 1 - p.length = 1 by omega]; rfl
  unfold putRow
  rw [he]
  split
  · rename_i h; rw [h]
  · simp
theorem putF_lay (rows : List (List Int)) (L : Nat) (p : List Int) (c : Int) (h : rows.length ≤ L) : putF (lay rows L p) L p.length c = lay rows L (p ++ [c]) := by
  have hE : (ext rows L []).length = L := by rw [ext_len]; omega
  have hx : ext (lay rows L p) (L + 1) [] = ext rows L [] ++ [p] := by
    unfold lay
    split
    · rename_i hp
      subst hp
      unfold ext
      rw [show L + 1 - rows.length = (L - rows.length) + 1 by omega, List.replicate_succ', List.append_assoc]
    · exact ext_full _ _ _ (by rw [List.length_append, hE]; simp)
  unfold putF
  rw [hx]
  have hg : (ext rows L [] ++ [p]).getD L [] = p := by rw [List.getD_eq_getElem?_getD, List.getElem?_append_right (by omega), hE]; simp
  rw [hg, putRow_snoc]
  unfold lay
  rw [if_neg (by simp), List.set_append_right _ _ (by omega), hE]
  simp
theorem prun_line (rows : List (List Int)) (L : Nat) (hL : L < 400) (h : rows.length ≤ L) (t : List Int) : ∀ (q p : List Int), p.length + q.length ≤ 40 → (∀ x ∈ q, 32 ≤ x ∧ x ≤ 126) →
    prun (q ++ t) ⟨lay rows L p, L, p.length⟩ = prun t ⟨lay rows L (p ++ q), L, (p ++ q).length⟩ := by
  intro q
  induction q with
  | nil => intro p _ _; simp
  | cons c q ih =>
    intro p hp hq
    have hc := hq c (by simp)
    simp only [List.length_cons] at hp
    have hm : pmove ⟨lay rows L p, L, p.length⟩ c = some ⟨lay rows L (p ++ [c]), L, (p ++ [c]).length⟩ := by
      unfold pmove
      rw [if_neg (by omega), if_neg (by omega), if_neg (by omega), if_neg (by omega), if_neg (by omega), if_neg (by omega)]
      simp only
      rw [if_neg (by omega), putF_lay _ _ _ _ h]
      simp
    rw [List.cons_append, prun, pstep, hm]
    simp only [Option.bind_some]
    rw [if_pos hL]
    simp only [Option.bind_some]
    rw [ih (p ++ [c]) (by simp; omega) (fun x hx => hq x (by simp [hx]))]
    simp

/-- The rows after lines. -/
def layAll : List (List Int) → Nat → List (List Int) → List (List Int)
  | rows, _, [] => rows
  | rows, L, r :: t => layAll (lay rows L r) (L + 1) t
theorem lay_len (rows : List (List Int)) (L : Nat) (r : List Int) (h : rows.length ≤ L) : (lay rows L r).length ≤ L + 1 := by
  unfold lay; split
  · omega
  · rw [List.length_append, ext_len]; simp; omega
theorem prun_lines : ∀ (ls rows : List (List Int)) (L : Nat), rows.length ≤ L → L + ls.length < 400 → (∀ r ∈ ls, LnOk r) →
    prun (typeB ls) ⟨rows, L, 0⟩ = some ⟨layAll rows L ls, L + ls.length, 0⟩ := by
  intro ls
  induction ls with
  | nil => intro rows L _ _ _; rfl
  | cons r t ih =>
    intro rows L h hL hr
    simp only [List.length_cons] at hL
    have hk := hr r (by simp)
    have h1 := prun_line rows L (by omega) h ([13, 10] ++ typeB t) r [] (by simp; exact hk.len) hk.rng
    have h0 : lay rows L [] = rows := by unfold lay; rw [if_pos rfl]
    rw [h0] at h1
    have hT : typeB (r :: t) = r ++ ([13, 10] ++ typeB t) := by simp only [typeB, List.flatMap_cons, List.append_assoc]
    rw [hT]
    refine h1.trans ?_
    simp only [List.nil_append, List.cons_append, prun, pstep, pmove]
    simp only [if_true, Option.bind_some, if_pos (show L < 400 by omega), if_pos (show L + 1 < 400 by omega), show ((10 : Int) = 13) = False by decide, if_false]
    rw [ih (lay rows L r) (L + 1) (lay_len _ _ _ h) (by omega) (fun q hq => hr q (by simp [hq]))]
    simp only [layAll, List.length_cons]
    congr 2
    omega
/-- Rows say what lines say: no more of them, and each alike. -/
structure Says (rows ls : List (List Int)) : Prop where
  len : rows.length ≤ ls.length
  at_ : ∀ i, rows.getD i [] = ls.getD i []
theorem ext_getD (rows : List (List Int)) (n i : Nat) : (ext rows n []).getD i [] = rows.getD i [] := by
  unfold ext
  simp only [List.getD_eq_getElem?_getD, List.getElem?_append]
  split
  · rfl
  · rename_i h
    rw [List.getElem?_eq_none (l := rows) (by omega)]
    by_cases h2 : i - rows.length < n - rows.length
    · rw [List.getElem?_replicate, if_pos h2]; rfl
    · rw [List.getElem?_replicate, if_neg h2]
theorem Says.step {rows pre : List (List Int)} (h : Says rows pre) (r : List Int) : Says (lay rows pre.length r) (pre ++ [r]) := by
  have hl := h.len
  refine ⟨by have := lay_len rows pre.length r h.len; simpa using this, fun i => ?_⟩
  have hE : (ext rows pre.length []).length = pre.length := by rw [ext_len]; omega
  unfold lay
  split
  · rename_i hr
    subst hr
    rw [h.at_ i]
    simp only [List.getD_eq_getElem?_getD, List.getElem?_append]
    split
    · rfl
    · rename_i hi
      rw [List.getElem?_eq_none (l := pre) (by omega)]
      cases hq : i - pre.length with
      | zero => simp
      | succ n => simp
  · have h1 := h.at_ i
    rw [← ext_getD rows pre.length i] at h1
    simp only [List.getD_eq_getElem?_getD, List.getElem?_append, hE] at h1 ⊢
    split
    · rename_i hi; simpa [hi] using h1
    · rfl
theorem Says.all : ∀ (ls rows pre : List (List Int)), Says rows pre → Says (layAll rows pre.length ls) (pre ++ ls) := by
  intro ls
  induction ls with
  | nil => intro rows pre h; simpa [layAll] using h
  | cons r t ih =>
    intro rows pre h
    have := ih _ _ (h.step r)
    rw [List.length_append, List.length_singleton, List.append_assoc, List.singleton_append] at this
    exact this
theorem Says.eq {rows ls : List (List Int)} (h : Says rows ls) (hlast : ∀ r, ls.getLast? = some r → r ≠ []) : rows = ls := by
  have hl : rows.length = ls.length := by
    rcases Nat.lt_or_ge rows.length ls.length with hlt | hge
    · exfalso
      have h1 := h.at_ (ls.length - 1)
      have h2 : ls.getLast? = some (ls[ls.length - 1]'(by omega)) := by rw [List.getLast?_eq_getElem?, List.getElem?_eq_getElem (by omega)]
      refine hlast _ h2 ?_
      rw [List.getD_eq_getElem?_getD, List.getElem?_eq_none (by omega), List.getD_eq_getElem?_getD, List.getElem?_eq_getElem (by omega)] at h1
      exact h1.symm
    · have := h.len; omega
  refine List.ext_getElem hl fun i h1 h2 => ?_
  have := h.at_ i
  rw [List.getD_eq_getElem?_getD, List.getElem?_eq_getElem h1, List.getD_eq_getElem?_getD, List.getElem?_eq_getElem h2] at this
  exact this
theorem toList_nums_ne (r : List Int) (h : r ≠ []) : (strOfNums r).toList ≠ [] := by
  rw [ByteArray.toList_eq]
  intro h2
  have h3 : (strOfNums r).data.toList = [] := h2
  rw [strOfNums_data, List.map_eq_nil_iff] at h3
  exact h h3
/-- What is printed of what is typed. -/
theorem back (ls : List (List Int)) (hl : ls.length < 400) (hr : ∀ r ∈ ls, LnOk r) (ht : ∀ r ∈ ls, trimF r = r) (hlast : ∀ r, ls.getLast? = some r → r ≠ []) :
    ∃ s, prun (typeB ls) ⟨[], 0, 0⟩ = some s ∧ stripE (outs s.rows) = ls.map strOfNums := by
  refine ⟨_, prun_lines ls [] 0 (by simp) (by omega) hr, ?_⟩
  have hS : Says (layAll [] 0 ls) ls := by
    have := Says.all ls [] [] ⟨by simp, fun _ => rfl⟩
    simpa using this
  have hE := hS.eq hlast
  show stripE (outs (layAll [] 0 ls)) = _
  rw [hE]
  have ho : outs ls = ls.map strOfNums := by
    unfold outs
    exact List.map_congr_left fun r h => by rw [ht r h]
  rw [ho]
  rcases List.eq_nil_or_concat ls with h0 | ⟨q, x, h0⟩
  · subst h0; rfl
  · have h0' : ls = q ++ [x] := by simpa using h0
    subst h0'
    rw [List.map_append, List.map_cons, List.map_nil, stripE_snoc, if_neg (toList_nums_ne x (hlast x (by simp)))]
theorem eq_l0 (l : List ByteArray) (hl : l.length ≤ 1000000) : ∀ d j : Nat, j + d = l.length → slices_Equal_string_string.l0 (d + 1) l l (l.length : Int) (j : Int) = some true := by
  intro d
  induction d with
  | zero => intro j hj; simp only [slices_Equal_string_string.l0]; rw [if_neg (by omega)]
  | succ d ih =>
    intro j hj
    obtain ⟨K, hK⟩ : ∃ K, K = d + 1 := ⟨_, rfl⟩
    rw [← hK] at ih ⊢
    simp only [slices_Equal_string_string.l0]
    have hw : wrap64 ((j : Int) + 1) = ((j + 1 : Nat) : Int) := by unfold wrap64; omega
    rw [if_pos (by omega), if_pos (by omega), if_pos (by omega), if_pos (by omega), if_pos trivial, hw]
    exact ih (j + 1) (by omega)
theorem eq_ev (l : List ByteArray) (hl : l.length ≤ 1000000) : slices_Equal_string_string.f (l.length + 1) l l = some true := by
  unfold slices_Equal_string_string.f
  rw [if_pos rfl]
  exact eq_l0 l hl l.length 0 (by omega)
/-- Trimmed lines are trimmed, and keep what they have. -/
theorem trimF_sub (r : List Int) : ∃ t, r = trimF r ++ t := by
  refine ⟨(r.reverse.takeWhile (fun x => x == 32)).reverse, ?_⟩
  unfold trimF
  rw [← List.reverse_append, List.takeWhile_append_dropWhile, List.reverse_reverse]
theorem trimF_idem (r : List Int) : trimF (trimF r) = trimF r := by
  unfold trimF
  rw [List.reverse_reverse]
  congr 1
  generalize r.reverse = l
  induction l with
  | nil => rfl
  | cons c l ih =>
    by_cases h : (c == 32) = true
    · have e : (c :: l).dropWhile (fun x => x == 32) = l.dropWhile (fun x => x == 32) := by rw [List.dropWhile_cons]; simp only [h, if_true]
      rw [e]; exact ih
    · have e : (c :: l).dropWhile (fun x => x == 32) = c :: l := by rw [List.dropWhile_cons]; simp only [h, if_false, Bool.false_eq_true]
      rw [e, e]
theorem LnOk.trim {r : List Int} (h : LnOk r) : LnOk (trimF r) := by
  obtain ⟨t, ht⟩ := trimF_sub r
  have h1 := h.len
  have h2 := congrArg List.length ht
  rw [List.length_append] at h2
  exact ⟨by omega, fun x hx => h.rng x (by rw [ht]; exact List.mem_append_left _ hx)⟩
end Go.Proofs.YtgagbfaodeakaaaDoor.PPaperBack
