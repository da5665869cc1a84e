/- What paper.Print comes to, in plain Lean: lines, the place, bytes one by one; spaces and empty lines at the ends go. -/
import Derived.Test.YtgagbfaodeakaaaDoorPapPut
import Derived.Test.YtgagbfaodeakaaaDoorPPaperBackx1
namespace Go.Proofs.YtgagbfaodeakaaaDoor.PPaperBack
open Go.RowKit Go.Proofs.YtgagbfaodeakaaaDoorW.PrintWords Go.Proofs.YtgagbfaodeakaaaDoorW.PrintLast Go.Proofs.YtgagbfaodeakaaaDoorW.PrintMore
set_option linter.unusedVariables false

structure PS where
  rows : List (List Int)
  line : Nat
  col : Nat
/-- A byte; the lines' number is not looked at. -/
def pmove (s : PS) (c : Int) : Option PS :=
  if c = 13 then some ⟨s.rows, s.line, 0⟩ else if c = 10 then some ⟨s.rows, s.line + 1, s.col⟩ else if c = 12 then some ⟨s.rows, (s.line / 20 + 1) * 20, s.col⟩
  else if c = 9 then some ⟨s.rows, s.line, min 40 ((s.col / 8 + 1) * 8)⟩ else if c = 8 then some ⟨s.rows, s.line, s.col - 1⟩
  else if c < 32 ∨ 126 < c then none
  else if s.col = 40 then some ⟨putF s.rows (s.line + 1) 0 c, s.line + 1, 1⟩ else some ⟨putF s.rows s.line s.col c, s.line, s.col + 1⟩
def pstep (s : PS) (c : Int) : Option PS := (pmove s c).bind fun s' => if s'.line < 400 then some s' else none
def prun : List Int → PS → Option PS
  | [], s => some s
  | c :: t, s => (pstep s c).bind (prun t)
theorem prun_drop (l : List Int) (i : Nat) (s sF : PS) (hi : i < l.length) (h : prun (l.drop i) s = some sF) : ∃ s', pmove s (rd l (i : Int)) = some s' ∧ s'.line < 400 ∧ prun (l.drop (i + 1)) s' = some sF := by
  rw [List.drop_eq_getElem_cons hi] at h
  have hr : rd l (i : Int) = l[i] := by unfold rd; rw [Int.toNat_natCast, List.getD_eq_getElem?_getD, List.getElem?_eq_getElem hi]; rfl
  rw [hr]
  simp only [prun, pstep] at h
  obtain ⟨s', h1, h2⟩ := Option.bind_eq_some_iff.mp h
  obtain ⟨s2, h3, h4⟩ := Option.bind_eq_some_iff.mp h1
  split at h4
  · rename_i hlt; cases h4; exact ⟨_, h3, hlt, h2⟩
  · cases h4

structure POk (s : PS) : Prop where
  line : s.line ≤ 400
  col : s.col ≤ 40
  len : s.rows.length ≤ 401
  row : ∀ r ∈ s.rows, r.length ≤ 41
theorem mem_ext {α : Type} (l : List α) (n : Nat) (z x : α) (h : x ∈ ext l n z) : x ∈ l ∨ x = z := by
  unfold ext at h
  rcases List.mem_append.1 h with h | h
  · exact Or.inl h
  · exact Or.inr (List.eq_of_mem_replicate h)
theorem putRow_len (r : List Int) (col : Nat) (c : Int) : (putRow r col c).length = max r.length (col + 1) := by
  unfold putRow; split <;> simp [ext_len]
theorem putF_len (rows : List (List Int)) (line col : Nat) (c : Int) : (putF rows line col c).length = max rows.length (line + 1) := by
  unfold putF; simp [ext_len]
theorem putF_row (rows : List (List Int)) (line col : Nat) (c : Int) (hcol : col ≤ 40) (h : ∀ r ∈ rows, r.length ≤ 41) : ∀ r ∈ putF rows line col c, r.length ≤ 41 := by
  have h2 : ∀ r ∈ ext rows (line + 1) [], r.length ≤ 41 := fun r hr => by
    rcases mem_ext _ _ _ _ hr with h3 | h3
    · exact h r h3
    · subst h3; simp
  intro r hr
  unfold putF at hr
  rcases List.mem_or_eq_of_mem_set hr with h3 | h3
  · exact h2 r h3
  · subst h3
    rw [putRow_len]
    have : ((ext rows (line + 1) []).getD line []).length ≤ 41 := by
      rw [List.getD_eq_getElem?_getD, List.getElem?_eq_getElem (by rw [ext_len]; omega)]
      exact h2 _ (List.getElem_mem _)
    omega
theorem pmove_ok {s s' : PS} {c : Int} (h : POk s) (hm : pmove s c = some s') (hl : s'.line < 400) : POk s' := by
  obtain ⟨a, b, d, e⟩ := h
  unfold pmove at hm
  repeat' split at hm
  all_goals first
    | (cases hm; done)
    | (injection hm with hm; subst hm; exact ⟨by simp at *; omega, by first | (simp; done) | (simp; omega), by first | (simp [putF_len] at *; omega) | (simp; omega), by first | exact e | exact putF_row _ _ _ _ (by omega) e⟩)

/-- Spaces at the end go. -/
def trimF (r : List Int) : List Int := (r.reverse.dropWhile (fun x => x == 32)).reverse
theorem trimF_snoc (r : List Int) (x : Int) : trimF (r ++ [x]) = if x = 32 then trimF r else r ++ [x] := by
  unfold trimF
  rw [List.reverse_append]
  simp only [List.reverse_cons, List.reverse_nil, List.nil_append, List.singleton_append, List.dropWhile_cons]
  by_cases h : x = 32 <;> simp [h]
theorem trim_ev (r : List Int) (hr : r.length ≤ 1000000) : ∀ k, r.length < k → paper_trim.f k r = some (trimF r) := by
  unfold paper_trim.f
  induction hn : r.length generalizing r with
  | zero =>
    intro k hk
    obtain ⟨k, rfl⟩ : ∃ m, k = m + 1 := ⟨k - 1, by omega⟩
    have : r = [] := List.eq_nil_of_length_eq_zero hn
    subst this
    simp [paper_trim.l0, trimF]
  | succ n ih =>
    intro k hk
    obtain ⟨k, rfl⟩ : ∃ m, k = m + 1 := ⟨k - 1, by omega⟩
    obtain ⟨q, x, rfl⟩ : ∃ q x, r = q ++ [x] := ⟨r.dropLast, r.getLast (by intro h; subst h; simp at hn), (List.dropLast_concat_getLast _).symm⟩
    have hq : q.length = n := by simpa using hn
    have hw : wrap64 (((q ++ [x]).length : Int) - 1) = (n : Int) := by rw [hn]; unfold wrap64; omega
    have hrd : rd (q ++ [x]) (n : Int) = x := by unfold rd; rw [Int.toNat_natCast, List.getD_eq_getElem?_getD, ← hq]; simp
    rw [trimF_snoc]
    simp only [paper_trim.l0]
    rw [if_pos (by omega), hw, if_pos (by omega), if_pos (by omega), hrd]
    by_cases h : x = 32
    · rw [if_pos h, if_pos h, if_pos (by omega), Int.toNat_natCast, ← hq, List.take_left']
      · exact ih q (by rw [List.length_append] at hr; omega) hq k (by omega)
      · rfl
    · rw [if_neg h, if_neg h]
/-- Empty strings at the end go. -/
def stripE (l : List ByteArray) : List ByteArray := (l.reverse.dropWhile (fun x => x.toList == [])).reverse
theorem stripE_snoc (l : List ByteArray) (x : ByteArray) : stripE (l ++ [x]) = if x.toList = [] then stripE l else l ++ [x] := by
  unfold stripE
  rw [List.reverse_append]
  simp only [List.reverse_cons, List.reverse_nil, List.nil_append, List.singleton_append, List.dropWhile_cons]
  by_cases h : x.toList = [] <;> simp [h]
def outs (rows : List (List Int)) : List ByteArray := rows.map fun r => strOfNums (trimF r)
theorem outs_len (rows : List (List Int)) : (outs rows).length = rows.length := by unfold outs; simp
theorem outs_succ (rows : List (List Int)) (i : Nat) (h : i < rows.length) : outs (rows.take (i + 1)) = outs (rows.take i) ++ [strOfNums (trimF (rows.getD i []))] := by
  unfold outs
  rw [List.take_succ_eq_append_getElem h, List.map_append, List.getD_eq_getElem?_getD, List.getElem?_eq_getElem h]
  rfl
end Go.Proofs.YtgagbfaodeakaaaDoor.PPaperBack
