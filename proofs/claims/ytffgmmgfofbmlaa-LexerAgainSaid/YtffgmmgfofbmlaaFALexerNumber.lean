-- Written by a program of this session (wip/tools/pr.py) that drives the kit's print tool over a turned print.
import Derived.Test.YtffgmmgfofbmlaaTA
import Derived.Test.YtffgmmgfofbmlaaFALexerSkipIsdigit
namespace Go.Proofs.Ytffgmmgfofbmlaa.PA
open Go.RowKit Go.Proofs.YtffgmmgfofbmlaaW.PrintWords Go.Proofs.YtffgmmgfofbmlaaW.PrintLast Go.Proofs.YtffgmmgfofbmlaaW.PrintMore
attribute [local go_sem] max2_int min2_int max_two min_two max_three min_three max_four min_four   -- for this text's walks alone
set_option linter.unusedVariables false
set_option linter.unusedSimpArgs false

/-! ### lexer_number: function 22 -/
def lexer_number.j0 : Nat → ByteArray → Int → Bool → Option (Int)
  | 0, _, _, _ => none
  | k + 1, x0, x5, x25 => if x25 = true then ((lexer_skip_isDigit.f k x0 (wrap64 (x5 + 1))).bind fun t110 => (if t110 > (wrap64 (x5 + 1)) then (some t110) else (some x5))) else (some x5)
def lexer_number.f (k : Nat) (a0 : ByteArray) (a1 : Int) : Option (Int) := (lexer_skip_isDigit.f k a0 a1).bind fun t109 => (if t109 < (a0.size : Int) then (if 0 ≤ t109 then (if (bt a0 t109) = 46 then (lexer_number.j0 k a0 t109 true) else (lexer_number.j0 k a0 t109 ((bt a0 t109) == 47))) else (none)) else (lexer_number.j0 k a0 t109 false))
theorem lexer_number.mono_l : ∀ k, (∀ y0 y1 y2, LeO (lexer_number.j0 k y0 y1 y2) (lexer_number.j0 (k + 1) y0 y1 y2))
  | 0 => fun _ _ _ r h => by simp [lexer_number.j0] at h
  | k + 1 => by
    have ih0 := lexer_number.mono_l k
    · intro y0 y1 y2
      unfold lexer_number.j0
      repeat' first
      | (with_reducible exact ih0 _ _ _)
      | (with_reducible exact lexer_skip_isDigit.mono _ _ _)
      | (with_reducible exact LeO.refl _)
      | (with_reducible exact LeO.none _)
      | (with_reducible refine LeO.ite ?_ ?_)
      | (with_reducible refine LeO.bind ?_ (fun _ => ?_))
      | exact ih0 _ _ _
      | exact lexer_skip_isDigit.mono _ _ _
      | exact LeO.none _
      | refine LeO.ite ?_ ?_
      | refine LeO.bind ?_ (fun _ => ?_)
theorem lexer_number.mono : ∀ a0 a1 k, LeO (lexer_number.f k a0 a1) (lexer_number.f (k + 1) a0 a1) := by
  intro a0 a1 k
  have ih0 := lexer_number.mono_l k
  unfold lexer_number.f
  repeat' first
      | (with_reducible exact ih0 _ _ _)
      | (with_reducible exact lexer_skip_isDigit.mono _ _ _)
      | (with_reducible exact LeO.refl _)
      | (with_reducible exact LeO.none _)
      | (with_reducible refine LeO.ite ?_ ?_)
      | (with_reducible refine LeO.bind ?_ (fun _ => ?_))
      | exact ih0 _ _ _
      | exact lexer_skip_isDigit.mono _ _ _
      | exact LeO.none _
      | refine LeO.ite ?_ ?_
      | refine LeO.bind ?_ (fun _ => ?_)
set_option maxHeartbeats 8000000 in
set_option maxRecDepth 100000 in
theorem lexer_number.calls (k : Nat) (a0 : ByteArray) (a1 : Int) (r : Int) (w : World) (h : lexer_number.f k a0 a1 = some r) :
    Calls Try.prog 22 #[.string a0, .int .i64 a1] w fun e w' => e = .returned (.int .i64 r) ∧ Drawn0 w w' := by
  have H : ((lexer_skip_isDigit.f k a0 a1).bind fun t109 => (if t109 < (a0.size : Int) then (if 0 ≤ t109 then (if (bt a0 t109) = 46 then (lexer_number.j0 k a0 t109 true) else (lexer_number.j0 k a0 t109 ((bt a0 t109) == 47))) else (none)) else (lexer_number.j0 k a0 t109 false))) = some r := h
  clear h
  replace H := Option.bind_eq_some_iff.mp H
  obtain ⟨t109, A30, H⟩ := H
  replace H : (if t109 < (a0.size : Int) then (if 0 ≤ t109 then (if (bt a0 t109) = 46 then (lexer_number.j0 k a0 t109 true) else (lexer_number.j0 k a0 t109 ((bt a0 t109) == 47))) else (none)) else (lexer_number.j0 k a0 t109 false)) = some r := H
  have A3 := Aside0.mk A30
  clear A30
  have HC4 := Aside0.mk H
  clear H
  go_enter Try.func22, Try.ntmps22
  go_upto_region 2 with (first | ((with_reducible refine gate_callee (f := 18) rfl ?_); refine goesL_ (some 9) rfl rfl Try.func18 (by kernel_rfl) rfl #[.string a0, .int .i64 a1, .func (.func 21) #[] #[]] rfl (by (try simp only [List.map_toArray, List.map_cons, List.map_nil]); first | done | rfl | (simp only [List.length_drop, List.length_take]; rfl)) ?_; (with_reducible refine (lexer_skip_isDigit.calls k a0 a1 t109 _ A3.out).mono ?_); rintro e w' ⟨rfl, ⟨nd, rfl⟩⟩; refine ⟨_, rfl, ?_⟩))
  (try simp only [Act.put, List.setIfInBounds_toArray, List.set_cons_zero, List.set_cons_succ])
  go_cut [25] (fun v25 wc => ∃ (kq : Nat) (x25_3 : Bool), v25 = .bool x25_3 ∧ Aside0 (lexer_number.j0 kq a0 t109 x25_3 = some r) ∧ Aside0 (kq ≤ k) ∧ Drawn0 w wc)
  case first =>
    have H := HC4.out
    clear HC4
    by_cases c5 : t109 < (a0.size : Int)
    · rw [if_pos c5] at H
      have c5b0 : decide (t109 < (a0.size : Int)) = true := decide_eq_true c5
      clear c5
      (first | rw [c5b0] | (simp only [i64_w, i32_w]; rw [c5b0]) | skip)
      by_cases c6 : 0 ≤ t109
      · rw [if_pos c6] at H
        have c6b0 : decide (0 ≤ t109) = true := decide_eq_true c6
        clear c6
        by_cases c8 : (bt a0 t109) = 46
        · rw [if_pos c8] at H
          have c8b0 : ((bt a0 t109) == 46) = true := beq_iff_eq.mpr c8
          have c8b1 : ((bt a0 t109) != 46) = false := bne_eq_false_iff_eq.mpr c8
          clear c8
          have H' := Aside0.mk H
          clear H
          have p7 : 0 ≤ (t109 : Int) := of_decide_eq_true (by first | (with_reducible assumption) | assumption)
          have q7 : t109 < (a0.size : Int) := of_decide_eq_true (by first | (with_reducible assumption) | assumption)
          have hx7 := bt_at a0 t109
          replace p7 := eq_true p7
          replace q7 := eq_true q7
          go_wp2
          go_meet
          case rel => exact ⟨_, (true), (by first | rfl | (simp; done) | (simp [*]; done)), H', ⟨by first | omega | exact Nat.le_refl _⟩, by repeat (first | exact Drawn0.refl _ | apply Drawn0.step)⟩
        · rw [if_neg c8] at H
          have c8b0 : ((bt a0 t109) == 46) = false := beq_eq_false_iff_ne.mpr c8
          have c8b1 : ((bt a0 t109) != 46) = true := bne_iff_ne.mpr c8
          have H' := Aside0.mk H
          clear H
          have p7 : 0 ≤ (t109 : Int) := of_decide_eq_true (by first | (with_reducible assumption) | assumption)
          have q7 : t109 < (a0.size : Int) := of_decide_eq_true (by first | (with_reducible assumption) | assumption)
          have hx7 := bt_at a0 t109
          replace p7 := eq_true p7
          replace q7 := eq_true q7
          have p9 : 0 ≤ (t109 : Int) := of_decide_eq_true (by first | (with_reducible assumption) | assumption)
          have q9 : t109 < (a0.size : Int) := of_decide_eq_true (by first | (with_reducible assumption) | assumption)
          have hx9 := bt_at a0 t109
          replace p9 := eq_true p9
          replace q9 := eq_true q9
          go_wp2
          go_meet
          case rel => exact ⟨_, (((bt a0 t109) == 47)), (by first | rfl | (simp; done) | (simp [*]; done)), H', ⟨by first | omega | exact Nat.le_refl _⟩, by repeat (first | exact Drawn0.refl _ | apply Drawn0.step)⟩
      · rw [if_neg c6] at H
        exact absurd H (by simp)
    · rw [if_neg c5] at H
      have c5b0 : decide (t109 < (a0.size : Int)) = false := decide_eq_false c5
      clear c5
      (first | rw [c5b0] | (simp only [i64_w, i32_w]; rw [c5b0]) | skip)
      have H' := Aside0.mk H
      clear H
      go_wp2
      go_meet
      case rel => exact ⟨_, (false), (by first | rfl | (simp; done) | (simp [*]; done)), H', ⟨by first | omega | exact Nat.le_refl _⟩, by repeat (first | exact Drawn0.refl _ | apply Drawn0.step)⟩
  case rest =>
    clear HC4
    try clear c2
    try clear p2
    try clear c5
    try clear c5b0
    try clear c6
    try clear c6b0
    try clear p7
    try clear q7
    try clear hx7
    try clear c8
    try clear c8b0
    try clear c8b1
    try clear p9
    try clear q9
    try clear hx9
    try clear p7
    try clear p9
    try clear q7
    try clear q9
    obtain ⟨kq, x25_3, rfl, HA, HJ3, ⟨mc3, rfl⟩⟩ := hcut
    cases kq with
    | zero => exact absurd HA.out (by simp [lexer_number.j0])
    | succ kj3 =>
      have H := HA.out
      clear HA
      simp only [lexer_number.j0] at H
      by_cases c10 : x25_3 = true
      · subst c10
        have H1 : ((lexer_skip_isDigit.f kj3 a0 (wrap64 (t109 + 1))).bind fun t110 => (if t110 > (wrap64 (t109 + 1)) then (some t110) else (some t109))) = some r := by rw [if_pos rfl] at H; exact H
        clear H
        have H := H1
        clear H1
        replace H := Option.bind_eq_some_iff.mp H
        obtain ⟨t110, A110, H⟩ := H
        replace H : (if t110 > (wrap64 (t109 + 1)) then (some t110) else (some t109)) = some r := H
        have A11 := Aside0.mk A110
        clear A110
        by_cases c12 : t110 > (wrap64 (t109 + 1))
        · rw [if_pos c12] at H
          have c12b0 : decide ((wrap64 (t109 + 1)) < t110) = true := decide_eq_true c12
          clear c12
          obtain rfl := Option.some.inj H
          go_wp2_with (first | ((with_reducible refine gate_callee (f := 18) rfl ?_); refine goesL_ (some 29) rfl rfl Try.func18 (by kernel_rfl) rfl #[.string a0, .int .i64 (wrap64 (t109 + 1)), .func (.func 21) #[] #[]] rfl (by (try simp only [List.map_toArray, List.map_cons, List.map_nil]); first | done | rfl | (simp only [List.length_drop, List.length_take]; rfl)) ?_; (with_reducible refine (lexer_skip_isDigit.calls kj3 a0 (wrap64 (t109 + 1)) t110 _ A11.out).mono ?_); rintro e w' ⟨rfl, ⟨nd, rfl⟩⟩; refine ⟨_, rfl, ?_⟩))
          go_ret
          exact ⟨by first | rfl | (simp; done) | (simp [*]; done), by repeat (first | exact Drawn0.refl _ | apply Drawn0.step)⟩
        · rw [if_neg c12] at H
          have c12b0 : decide ((wrap64 (t109 + 1)) < t110) = false := decide_eq_false c12
          clear c12
          obtain rfl := Option.some.inj H
          go_wp2_with (first | ((with_reducible refine gate_callee (f := 18) rfl ?_); refine goesL_ (some 29) rfl rfl Try.func18 (by kernel_rfl) rfl #[.string a0, .int .i64 (wrap64 (t109 + 1)), .func (.func 21) #[] #[]] rfl (by (try simp only [List.map_toArray, List.map_cons, List.map_nil]); first | done | rfl | (simp only [List.length_drop, List.length_take]; rfl)) ?_; (with_reducible refine (lexer_skip_isDigit.calls kj3 a0 (wrap64 (t109 + 1)) t110 _ A11.out).mono ?_); rintro e w' ⟨rfl, ⟨nd, rfl⟩⟩; refine ⟨_, rfl, ?_⟩))
          go_ret
          exact ⟨by first | rfl | (simp; done) | (simp [*]; done), by repeat (first | exact Drawn0.refl _ | apply Drawn0.step)⟩
      · replace c10 := Bool.eq_false_iff.mpr c10
        subst c10
        have H1 : (some t109) = some r := by rw [if_neg (show ¬ (false = true) by decide)] at H; exact H
        clear H
        have H := H1
        clear H1
        obtain rfl := Option.some.inj H
        go_wp2
        go_ret
        exact ⟨by first | rfl | (simp; done) | (simp [*]; done), by repeat (first | exact Drawn0.refl _ | apply Drawn0.step)⟩

end Go.Proofs.Ytffgmmgfofbmlaa.PA
