-- Written by a program of this session (wip/tools/pr.py) that drives the kit's print tool over a turned print.
import Derived.Test.YtffgmmgfofbmlaaTA
import Derived.Test.YtffgmmgfofbmlaaFALexerReserved
import Derived.Test.YtffgmmgfofbmlaaFAInsolvencylaw11Awake
import Derived.Test.YtffgmmgfofbmlaaFAInsolvencyref9Reserved
namespace Go.Proofs.Ytffgmmgfofbmlaa.PA
open Go.RowKit Go.Proofs.YtffgmmgfofbmlaaW.PrintWords Go.Proofs.YtffgmmgfofbmlaaW.PrintLast Go.Proofs.YtffgmmgfofbmlaaW.PrintMore
attribute [local go_sem] max2_int min2_int max_two min_two max_three min_three max_four min_four   -- for this text's walks alone
set_option linter.unusedVariables false
set_option linter.unusedSimpArgs false

/-! ### insolvencylaw11_LexerReserved: function 3 -/
def insolvencylaw11_LexerReserved.f (k : Nat) (a0 : ByteArray) : Option (Bool) := (insolvencylaw11_awake.f k).bind fun t151 => (if t151 = true then ((lexer_Reserved.f a0).bind fun t152 => ((insolvencyref9_Reserved.f a0).bind fun t153 => (some (t152 == t153)))) else (some false))
theorem insolvencylaw11_LexerReserved.mono : ∀ a0 k, LeO (insolvencylaw11_LexerReserved.f k a0) (insolvencylaw11_LexerReserved.f (k + 1) a0) := by
  intro a0 k
  unfold insolvencylaw11_LexerReserved.f
  repeat' first
      | (with_reducible exact insolvencylaw11_awake.mono _)
      | (with_reducible exact LeO.refl _)
      | (with_reducible exact LeO.none _)
      | (with_reducible refine LeO.ite ?_ ?_)
      | (with_reducible refine LeO.bind ?_ (fun _ => ?_))
      | exact insolvencylaw11_awake.mono _
      | exact LeO.none _
      | refine LeO.ite ?_ ?_
      | refine LeO.bind ?_ (fun _ => ?_)
set_option maxHeartbeats 8000000 in
set_option maxRecDepth 100000 in
theorem insolvencylaw11_LexerReserved.calls (k : Nat) (a0 : ByteArray) (r : Bool) (w : World) (h : insolvencylaw11_LexerReserved.f k a0 = some r) :
    Calls Try.prog 3 #[.string a0] w fun e w' => e = .returned (.bool r) ∧ Below w.heap.size w w' := by
  have HB := Aside0.mk (Below.refl w.heap.size w)
  have H : ((insolvencylaw11_awake.f k).bind fun t151 => (if t151 = true then ((lexer_Reserved.f a0).bind fun t152 => ((insolvencyref9_Reserved.f a0).bind fun t153 => (some (t152 == t153)))) else (some false))) = some r := h
  clear h
  replace H := Option.bind_eq_some_iff.mp H
  obtain ⟨t151, A20, H⟩ := H
  replace H : (if t151 = true then ((lexer_Reserved.f a0).bind fun t152 => ((insolvencyref9_Reserved.f a0).bind fun t153 => (some (t152 == t153)))) else (some false)) = some r := H
  have A2 := Aside0.mk A20
  clear A20
  by_cases c3 : t151 = true
  · subst c3
    have H1 : ((lexer_Reserved.f a0).bind fun t152 => ((insolvencyref9_Reserved.f a0).bind fun t153 => (some (t152 == t153)))) = some r := by rw [if_pos rfl] at H; exact H
    clear H
    have H := H1
    clear H1
    replace H := Option.bind_eq_some_iff.mp H
    obtain ⟨t152, A40, H⟩ := H
    replace H : ((insolvencyref9_Reserved.f a0).bind fun t153 => (some (t152 == t153))) = some r := H
    have A4 := Aside0.mk A40
    clear A40
    replace H := Option.bind_eq_some_iff.mp H
    obtain ⟨t153, A50, H⟩ := H
    replace H : (some (t152 == t153)) = some r := H
    have A5 := Aside0.mk A50
    clear A50
    obtain rfl := Option.some.inj H
    go_enter Try.func3, Try.ntmps3
    go_wp2_with (first | ((with_reducible refine gate_callee (f := 9) rfl ?_); refine goesL_ (some 3) rfl rfl Try.func9 (by kernel_rfl) rfl #[] rfl (by (try simp only [List.map_toArray, List.map_cons, List.map_nil]); first | done | rfl | (simp only [List.length_drop, List.length_take]; rfl)) ?_; (with_reducible refine (insolvencylaw11_awake.calls k  true _ A2.out).mono ?_); rintro e w6 ⟨rfl, hb⟩; refine ⟨_, rfl, ?_⟩; have n0_ := Aside0.mk (below_step (by repeat (first | (with_reducible first | exact HB.out | apply below_alloc | apply pw_below_drewN | apply below_drew1) | exact HB.out)) hb); clear HB; have HB := n0_; clear n0_; (try clear hb); (try clear hb2); (try clear hk); (try clear hi)) | (go_at_call 10; (with_reducible refine (lexer_Reserved.calls a0 t152 _ A4.out).mono ?_); rintro e w' ⟨rfl, ⟨nd, rfl⟩⟩) | (go_at_call 11; (with_reducible refine (insolvencyref9_Reserved.calls a0 t153 _ A5.out).mono ?_); rintro e w' ⟨rfl, ⟨nd, rfl⟩⟩))
    go_ret
    exact ⟨by first | rfl | (simp [errW_none, errW_some] <;> rfl) | (simp [*, errW_none, errW_some] <;> rfl), by repeat (first | (with_reducible first | exact HB.out | apply below_alloc | apply pw_below_drewN | apply below_drew1) | exact HB.out)⟩
  · replace c3 := Bool.eq_false_iff.mpr c3
    subst c3
    have H1 : (some false) = some r := by rw [if_neg (show ¬ (false = true) by decide)] at H; exact H
    clear H
    have H := H1
    clear H1
    obtain rfl := Option.some.inj H
    go_enter Try.func3, Try.ntmps3
    go_wp2_with (first | ((with_reducible refine gate_callee (f := 9) rfl ?_); refine goesL_ (some 3) rfl rfl Try.func9 (by kernel_rfl) rfl #[] rfl (by (try simp only [List.map_toArray, List.map_cons, List.map_nil]); first | done | rfl | (simp only [List.length_drop, List.length_take]; rfl)) ?_; (with_reducible refine (insolvencylaw11_awake.calls k  false _ A2.out).mono ?_); rintro e w7 ⟨rfl, hb⟩; refine ⟨_, rfl, ?_⟩; have n0_ := Aside0.mk (below_step (by repeat (first | (with_reducible first | exact HB.out | apply below_alloc | apply pw_below_drewN | apply below_drew1) | exact HB.out)) hb); clear HB; have HB := n0_; clear n0_; (try clear hb); (try clear hb2); (try clear hk); (try clear hi)))
    go_ret
    exact ⟨by first | rfl | (simp [errW_none, errW_some] <;> rfl) | (simp [*, errW_none, errW_some] <;> rfl), by repeat (first | (with_reducible first | exact HB.out | apply below_alloc | apply pw_below_drewN | apply below_drew1) | exact HB.out)⟩

/-- THE ONE PURE STATEMENT of insolvencylaw11_LexerReserved: yours. -/
def insolvencylaw11_LexerReserved.Pure : Prop := ∀ (a0 : ByteArray), a0.size ≤ 140737488351232 → ∃ k, insolvencylaw11_LexerReserved.f k a0 = some true
theorem insolvencylaw11_LexerReserved.walk (P : insolvencylaw11_LexerReserved.Pure) (a0 : ByteArray) (w : World) (w0 : a0.size ≤ 140737488351232) :
    Calls Try.prog 3 #[.string a0] w fun e w' => e = .returned (.bool true) ∧ Below w.heap.size w w' := by
  obtain ⟨k, h⟩ := P a0 w0
  refine (insolvencylaw11_LexerReserved.calls k a0 true w h).mono ?_
  rintro e w' ⟨rfl, hd⟩
  exact ⟨rfl, hd⟩

end Go.Proofs.Ytffgmmgfofbmlaa.PA
