/- strings.TrimRight at the cutset of one space, walked by hand: the one-byte road. -/
import Derived.Test.YtgagbfaodeakaaaDoorPPaperBackx1
namespace Go.Proofs.YtgagbfaodeakaaaDoor.PPaperBack
open Go.RowKit Go.Proofs.YtgagbfaodeakaaaDoorW.PrintWords Go.Proofs.YtgagbfaodeakaaaDoorW.PrintLast Go.Proofs.YtgagbfaodeakaaaDoorW.PrintMore
set_option linter.unusedVariables false

set_option maxHeartbeats 2000000 in
set_option maxRecDepth 100000 in
theorem trimRight_sp (k : Nat) (s r : ByteArray) (w : World) (h : strings_trimRightByte.f k s 32 = some r) :
    Calls Tryd.prog 5 #[.string s, .string ⟨#[32]⟩] w fun e w' => e = .returned (.string r) ∧ Drawn0 w w' := by
  have HT := Aside0.mk (fun w1 => strings_trimRightByte.calls k s 32 r w1 h)
  by_cases h0 : s = ⟨#[]⟩
  · subst h0
    have hr : (⟨#[]⟩ : ByteArray) = r := by
      cases k with
      | zero => simp [strings_trimRightByte.f, strings_trimRightByte.l0] at h
      | succ k => simpa [strings_trimRightByte.f, strings_trimRightByte.l0, ByteArray.size] using h
    subst hr
    clear h HT
    go_enter Tryd.func5, Tryd.ntmps5
    have he : (⟨#[]⟩ : ByteArray).toList.isEmpty = true := by decide +kernel
    go_wp2
    go_ret
    exact ⟨rfl, ⟨0, rfl⟩⟩
  · have he : s.toList.isEmpty = false := by
      cases hc : s.toList.isEmpty with
      | false => rfl
      | true =>
        refine absurd ?_ h0
        have h1 : s.toList = [] := List.isEmpty_iff.mp hc
        rw [ByteArray.toList_eq] at h1
        obtain ⟨⟨l⟩⟩ := s
        have h2 : l = [] := h1
        subst h2
        rfl
    clear h
    go_enter Tryd.func5, Tryd.ntmps5
    go_wp2_with fail
    have e32 : (((({ data := #[32] } : ByteArray)[0]'(by decide)).toNat : Nat) : Int) = 32 := by decide +kernel
    rw [e32]
    (with_reducible refine (HT.out _).mono ?_)
    rintro e w1 ⟨rfl, hd1⟩
    go_wp2
    go_ret
    exact ⟨rfl, hd1⟩
end Go.Proofs.YtgagbfaodeakaaaDoor.PPaperBack
