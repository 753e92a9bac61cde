-- Written by a program of this session (wip/tools/pr.py) that drives the kit's print tool over a turned print.
import Derived.Test.YtffgmmgfofbmlaaTA
namespace Go.Proofs.Ytffgmmgfofbmlaa.PA
open Go.RowKit Go.Proofs.YtffgmmgfofbmlaaW.PrintWords Go.Proofs.YtffgmmgfofbmlaaW.PrintLast Go.Proofs.YtffgmmgfofbmlaaW.PrintMore
attribute [local go_sem] max2_int min2_int max_two min_two max_three min_three max_four min_four   -- for this text's walks alone
set_option linter.unusedVariables false
set_option linter.unusedSimpArgs false

/-! ### insolvencyref9_Reserved: function 11 -/
def insolvencyref9_Reserved.f (a0 : ByteArray) : Option (Bool) := if a0.toList = ([99, 108, 97, 115, 115] : List UInt8) then (some true) else (if a0.toList = ([98, 101, 102, 111, 114, 101] : List UInt8) then (some true) else (if a0.toList = ([108, 105, 109, 105, 116] : List UInt8) then (some true) else (some (a0.toList == ([115, 117, 98, 111, 114, 100, 105, 110, 97, 116, 101] : List UInt8)))))
set_option maxHeartbeats 8000000 in
set_option maxRecDepth 100000 in
theorem insolvencyref9_Reserved.calls (a0 : ByteArray) (r : Bool) (w : World) (h : insolvencyref9_Reserved.f a0 = some r) :
    Calls Try.prog 11 #[.string a0] w fun e w' => e = .returned (.bool r) ∧ Drawn0 w w' := by
  have H : (if a0.toList = ([99, 108, 97, 115, 115] : List UInt8) then (some true) else (if a0.toList = ([98, 101, 102, 111, 114, 101] : List UInt8) then (some true) else (if a0.toList = ([108, 105, 109, 105, 116] : List UInt8) then (some true) else (some (a0.toList == ([115, 117, 98, 111, 114, 100, 105, 110, 97, 116, 101] : List UInt8)))))) = some r := h
  clear h
  by_cases c2 : a0.toList = ([99, 108, 97, 115, 115] : List UInt8)
  · rw [if_pos c2] at H
    have c2b0 : (a0.toList == ([99, 108, 97, 115, 115] : List UInt8)) = true := beq_iff_eq.mpr c2
    have c2b1 : (a0.toList != ([99, 108, 97, 115, 115] : List UInt8)) = false := bne_eq_false_iff_eq.mpr c2
    clear c2
    obtain rfl := Option.some.inj H
    go_enter Try.func11, Try.ntmps11
    go_wp2
    go_ret
    exact ⟨by first | rfl | (simp; done) | (simp [*]; done), by repeat (first | exact Drawn0.refl _ | apply Drawn0.step)⟩
  · rw [if_neg c2] at H
    have c2b0 : (a0.toList == ([99, 108, 97, 115, 115] : List UInt8)) = false := beq_eq_false_iff_ne.mpr c2
    have c2b1 : (a0.toList != ([99, 108, 97, 115, 115] : List UInt8)) = true := bne_iff_ne.mpr c2
    by_cases c3 : a0.toList = ([98, 101, 102, 111, 114, 101] : List UInt8)
    · rw [if_pos c3] at H
      have c3b0 : (a0.toList == ([98, 101, 102, 111, 114, 101] : List UInt8)) = true := beq_iff_eq.mpr c3
      have c3b1 : (a0.toList != ([98, 101, 102, 111, 114, 101] : List UInt8)) = false := bne_eq_false_iff_eq.mpr c3
      clear c3
      obtain rfl := Option.some.inj H
      go_enter Try.func11, Try.ntmps11
      go_wp2
      go_ret
      exact ⟨by first | rfl | (simp; done) | (simp [*]; done), by repeat (first | exact Drawn0.refl _ | apply Drawn0.step)⟩
    · rw [if_neg c3] at H
      have c3b0 : (a0.toList == ([98, 101, 102, 111, 114, 101] : List UInt8)) = false := beq_eq_false_iff_ne.mpr c3
      have c3b1 : (a0.toList != ([98, 101, 102, 111, 114, 101] : List UInt8)) = true := bne_iff_ne.mpr c3
      by_cases c4 : a0.toList = ([108, 105, 109, 105, 116] : List UInt8)
      · rw [if_pos c4] at H
        have c4b0 : (a0.toList == ([108, 105, 109, 105, 116] : List UInt8)) = true := beq_iff_eq.mpr c4
        have c4b1 : (a0.toList != ([108, 105, 109, 105, 116] : List UInt8)) = false := bne_eq_false_iff_eq.mpr c4
        clear c4
        obtain rfl := Option.some.inj H
        go_enter Try.func11, Try.ntmps11
        go_wp2
        go_ret
        exact ⟨by first | rfl | (simp; done) | (simp [*]; done), by repeat (first | exact Drawn0.refl _ | apply Drawn0.step)⟩
      · rw [if_neg c4] at H
        have c4b0 : (a0.toList == ([108, 105, 109, 105, 116] : List UInt8)) = false := beq_eq_false_iff_ne.mpr c4
        have c4b1 : (a0.toList != ([108, 105, 109, 105, 116] : List UInt8)) = true := bne_iff_ne.mpr c4
        obtain rfl := Option.some.inj H
        go_enter Try.func11, Try.ntmps11
        go_wp2
        go_ret
        exact ⟨by first | rfl | (simp; done) | (simp [*]; done), by repeat (first | exact Drawn0.refl _ | apply Drawn0.step)⟩

end Go.Proofs.Ytffgmmgfofbmlaa.PA
