import Derived.Test.YtffgmmgfofbmlaaTA
import Derived.Test.YtffgmmgfofbmlaaShelf
import Derived.Laws.Runes
import Derived.Lib.Hide
namespace Go.Proofs.Ytffgmmgfofbmlaa.PA
open Go.RowKit Go.Proofs.YtffgmmgfofbmlaaW.PrintWords Go.Proofs.YtffgmmgfofbmlaaW.PrintLast Go.Proofs.YtffgmmgfofbmlaaW.PrintMore

theorem valid_hi (r : Int) (h0 : 128 ≤ r) (h1 : r < 256) : Lib.validRune r = true := by
  unfold Lib.validRune
  simp
  omega
theorem enc_hi (r : Int) (h0 : 128 ≤ r) (h1 : r < 256) : ∃ x y : UInt8, Utf8.encode r = ⟨#[x, y]⟩ ∧ 128 ≤ (y.toNat : Int) ∧ (y.toNat : Int) ≤ 255 ∧ ((59 : UInt8) == y) = false := by
  have hv : Utf8.valid r = true := by unfold Utf8.valid; simp; omega
  refine ⟨UInt8.ofNat (192 + r.toNat / 64), UInt8.ofNat (128 + r.toNat % 64), ?_, ?_, ?_, ?_⟩
  · unfold Utf8.encode
    simp only [hv, if_true]
    rw [if_neg (by omega), if_pos (by omega)]
  · simp; omega
  · simp; omega
  · rw [beq_eq_false_iff_ne]
    intro h
    have := congrArg UInt8.toNat h
    simp at this
    omega

set_option maxHeartbeats 2000000 in
set_option maxRecDepth 1000000 in
theorem idx_hi (r : Int) (w : World) (h0 : 128 ≤ r) (h1 : r < 256) :
    Calls Try.prog 27 #[.string ⟨#[61, 44, 59]⟩, .int .i32 r] w fun e w' => e = .returned (.int .i64 (-1)) ∧ Drawn0 w w' := by
  have hv := valid_hi r h0 h1
  obtain ⟨x, y, he, hy0, hy1, hy2⟩ := enc_hi r h0 h1
  go_enter Try.func27, Try.ntmps27
  go_wp2_with (go_at_call 33; refine (Try.utf8_ValidRune _ _).mono ?_; rintro e w' ⟨rfl, rfl⟩)
  go_step3
  go_wp2
  refine wp_loop_rounds 1 ?_
  rw [rounds_succ]
  have hne0 : ((44 : Int) != (y.toNat : Int)) = true := by rw [bne_iff_ne]; omega
  have hne : ((((⟨#[61, 44, 59]⟩ : ByteArray)[1]'(by decide)).toNat : Int) != (((⟨#[x, y]⟩ : ByteArray)[1]'(by show 1 < 2; omega)).toNat : Int)) = true := hne0
  have hix : Lib.indexByte [59] ((⟨#[x, y]⟩ : ByteArray)[1]'(by show 1 < 2; omega)) < 0 := by
    show Lib.indexByte [59] y < 0
    simp [Lib.indexByte, hy2]
  go_wp2
  go_step3
  go_wp2
  go_quiet (fail)
  go_wp2_with fail
  have HD : Drawn0 w' (w'.drewN nq) := ⟨⟨nq, rfl⟩⟩
  generalize w'.drewN nq = w2 at HD ⊢
  go_quiet ((go_at_call 32; exact Calls.quiet_of_same (Try.strings_IndexByte _ _ _)))
  go_wp2_with fail
  rw [Exit.noGoto_ret]
  go_simp
  go_ret
  exact ⟨rfl, HD.step _⟩

/-- strings.ContainsRune at the one cutset of the program, and a byte's rune. -/
def strings_ContainsRune.f (a0 : ByteArray) (a1 : Int) : Option (Bool) :=
  if a0.data.toList = [61, 44, 59] ∧ 0 ≤ a1 ∧ a1 < 256 then some (decide (a1 = 61 ∨ a1 = 44 ∨ a1 = 59)) else none

theorem contains_lo (r : Int) (h0 : 0 ≤ r) (h1 : r < 128) : decide (0 ≤ Lib.indexByte [61, 44, 59] r.toNat.toUInt8) = decide (r = 61 ∨ r = 44 ∨ r = 59) := by
  obtain ⟨n, rfl⟩ := Int.eq_ofNat_of_zero_le h0
  have h : ∀ m : Fin 128, decide (0 ≤ Lib.indexByte [61, 44, 59] (m.val.toUInt8)) = decide ((m.val : Int) = 61 ∨ (m.val : Int) = 44 ∨ (m.val : Int) = 59) := by decide
  exact h ⟨n, by omega⟩

theorem strings_ContainsRune.calls (a0 : ByteArray) (a1 : Int) (r : Bool) (w : World) (h : strings_ContainsRune.f a0 a1 = some r) :
    Calls Try.prog 23 #[.string a0, .int .i32 a1] w fun e w' => e = .returned (.bool r) ∧ Drawn0 w w' := by
  unfold strings_ContainsRune.f at h
  split at h
  · rename_i hc
    obtain ⟨hs, h0, h1⟩ := hc
    injection h with h
    subst h
    obtain rfl : a0 = ⟨#[61, 44, 59]⟩ := by
      apply ByteArray.ext
      apply Array.ext'
      simpa using hs
    by_cases hlt : a1 < 128
    · refine (Try.strings_ContainsRune_ascii _ a1 w h0 hlt).mono ?_
      rintro e w' ⟨rfl, rfl⟩
      exact ⟨by rw [← contains_lo a1 h0 hlt], Drawn0.refl _⟩
    · have hge : 128 ≤ a1 := by omega
      have H := Lib.hid (show decide (a1 = 61 ∨ a1 = 44 ∨ a1 = 59) = false by simp; omega)
      go_enter Try.func23, Try.ntmps23
      go_wp2_with (go_at_call 27; refine (idx_hi a1 _ hge h1).mono ?_; rintro e w' ⟨rfl, hd⟩)
      go_ret
      exact ⟨by rw [H.out]; rfl, hd⟩
  · cases h
end Go.Proofs.Ytffgmmgfofbmlaa.PA
