-- Written by a program of this session (wip/tools/pr.py) that drives the kit's print tool over a turned print.
import Derived.Test.YtffgmmgfofbmlaaTA
import Derived.Test.YtffgmmgfofbmlaaFALexerSkipNotnl
namespace Go.Proofs.Ytffgmmgfofbmlaa.PA
open Go.RowKit Go.Proofs.YtffgmmgfofbmlaaW.PrintWords Go.Proofs.YtffgmmgfofbmlaaW.PrintLast Go.Proofs.YtffgmmgfofbmlaaW.PrintMore
attribute [local go_sem] max2_int min2_int max_two min_two max_three min_three max_four min_four   -- for this text's walks alone
set_option linter.unusedVariables false
set_option linter.unusedSimpArgs false

/-! ### lexer_blank: function 16 -/
mutual
def lexer_blank.l0 : Nat → ByteArray → Int → Option (Int)
  | 0, _, _ => none
  | k + 1, x0, x1 => if x1 < (x0.size : Int) then (if 0 ≤ x1 then (if (bt x0 x1) = 32 then (lexer_blank.j1 k x0 x1 (bt x0 x1) ((bt x0 x1) == 32)) else (if (bt x0 x1) = 9 then (lexer_blank.j1 k x0 x1 (bt x0 x1) ((bt x0 x1) == 9)) else (if (bt x0 x1) = 10 then (lexer_blank.j1 k x0 x1 (bt x0 x1) ((bt x0 x1) == 10)) else (lexer_blank.j1 k x0 x1 (bt x0 x1) ((bt x0 x1) == 13))))) else (none)) else (some x1)
def lexer_blank.j1 : Nat → ByteArray → Int → Int → Bool → Option (Int)
  | 0, _, _, _, _ => none
  | k + 1, x0, x1, x11, x13 => if x13 = true then (lexer_blank.l0 k x0 (wrap64 (x1 + 1))) else (if x11 = 35 then ((lexer_skip_notNl.f k x0 x1).bind fun t106 => (lexer_blank.l0 k x0 t106)) else (some x1))
end
def lexer_blank.f (k : Nat) (a0 : ByteArray) (a1 : Int) : Option (Int) := lexer_blank.l0 k a0 a1
theorem lexer_blank.mono_l : ∀ k, (∀ y0 y1, LeO (lexer_blank.l0 k y0 y1) (lexer_blank.l0 (k + 1) y0 y1)) ∧ (∀ y0 y1 y2 y3, LeO (lexer_blank.j1 k y0 y1 y2 y3) (lexer_blank.j1 (k + 1) y0 y1 y2 y3))
  | 0 => ⟨fun _ _ r h => by simp [lexer_blank.l0] at h, fun _ _ _ _ r h => by simp [lexer_blank.j1] at h⟩
  | k + 1 => by
    obtain ⟨ih0, ih1⟩ := lexer_blank.mono_l k
    refine ⟨?_, ?_⟩
    · intro y0 y1
      unfold lexer_blank.l0
      repeat' first
      | (with_reducible exact ih0 _ _)
      | (with_reducible exact ih1 _ _ _ _)
      | (with_reducible exact lexer_skip_notNl.mono _ _ _)
      | (with_reducible exact LeO.refl _)
      | (with_reducible exact LeO.none _)
      | (with_reducible refine LeO.ite ?_ ?_)
      | (with_reducible refine LeO.bind ?_ (fun _ => ?_))
      | exact ih0 _ _
      | exact ih1 _ _ _ _
      | exact lexer_skip_notNl.mono _ _ _
      | exact LeO.none _
      | refine LeO.ite ?_ ?_
      | refine LeO.bind ?_ (fun _ => ?_)
    · intro y0 y1 y2 y3
      unfold lexer_blank.j1
      repeat' first
      | (with_reducible exact ih0 _ _)
      | (with_reducible exact ih1 _ _ _ _)
      | (with_reducible exact lexer_skip_notNl.mono _ _ _)
      | (with_reducible exact LeO.refl _)
      | (with_reducible exact LeO.none _)
      | (with_reducible refine LeO.ite ?_ ?_)
      | (with_reducible refine LeO.bind ?_ (fun _ => ?_))
      | exact ih0 _ _
      | exact ih1 _ _ _ _
      | exact lexer_skip_notNl.mono _ _ _
      | exact LeO.none _
      | refine LeO.ite ?_ ?_
      | refine LeO.bind ?_ (fun _ => ?_)
theorem lexer_blank.mono : ∀ a0 a1 k, LeO (lexer_blank.f k a0 a1) (lexer_blank.f (k + 1) a0 a1) := by
  intro a0 a1 k
  obtain ⟨ih0, ih1⟩ := lexer_blank.mono_l k
  unfold lexer_blank.f
  repeat' first
      | (with_reducible exact ih0 _ _)
      | (with_reducible exact ih1 _ _ _ _)
      | (with_reducible exact lexer_skip_notNl.mono _ _ _)
      | (with_reducible exact LeO.refl _)
      | (with_reducible exact LeO.none _)
      | (with_reducible refine LeO.ite ?_ ?_)
      | (with_reducible refine LeO.bind ?_ (fun _ => ?_))
      | exact ih0 _ _
      | exact ih1 _ _ _ _
      | exact lexer_skip_notNl.mono _ _ _
      | exact LeO.none _
      | refine LeO.ite ?_ ?_
      | refine LeO.bind ?_ (fun _ => ?_)
set_option maxHeartbeats 8000000 in
set_option maxRecDepth 100000 in
theorem lexer_blank.calls (k : Nat) (a0 : ByteArray) (a1 : Int) (r : Int) (w : World) (h : lexer_blank.f k a0 a1 = some r) :
    Calls Try.prog 16 #[.string a0, .int .i64 a1] w fun e w' => e = .returned (.int .i64 r) ∧ Drawn0 w w' := by
  have H : (lexer_blank.l0 k a0 a1) = some r := h
  clear h
  have H' := Aside0.mk H
  clear H
  go_enter Try.func16, Try.ntmps16
  go_wp2
  go_loopg [1] k (fun kq v1 w' => ∃ (x1_1 : Int), v1 = .int .i64 x1_1 ∧ Aside0 (lexer_blank.l0 kq a0 x1_1 = some r) ∧ Aside0 (kq ≤ k) ∧ Drawn0 w w')
  case atStart => exact ⟨(a1), (by first | rfl | (simp; done) | (simp [*]; done)), H', ⟨Nat.le_refl _⟩, by repeat (first | exact Drawn0.refl _ | apply Drawn0.step)⟩
  case round =>
    clear H'
    try clear c1
    try clear p2
    obtain ⟨x1_1, rfl, HA, HK1, ⟨m1, rfl⟩⟩ := hrel
    cases gk with
    | zero => exact absurd HA.out (by simp [lexer_blank.l0])
    | succ k1 =>
      have H := HA.out
      clear HA
      simp only [lexer_blank.l0] at H
      by_cases c3 : x1_1 < (a0.size : Int)
      · rw [if_pos c3] at H
        have c3b0 : decide (x1_1 < (a0.size : Int)) = true := decide_eq_true c3
        clear c3
        by_cases c4 : 0 ≤ x1_1
        · rw [if_pos c4] at H
          have c4b0 : decide (0 ≤ x1_1) = true := decide_eq_true c4
          clear c4
          have HC6 := Aside0.mk H
          clear H
          have p5 : 0 ≤ (x1_1 : Int) := of_decide_eq_true (by first | (with_reducible assumption) | assumption)
          have q5 : x1_1 < (a0.size : Int) := of_decide_eq_true (by first | (with_reducible assumption) | assumption)
          have hx5 := bt_at a0 x1_1
          replace p5 := eq_true p5
          replace q5 := eq_true q5
          go_upto_if 13 with (fail)
          go_cut [13] (fun v13 wc => ∃ (kq : Nat) (x13_5 : Bool), v13 = .bool x13_5 ∧ Aside0 (lexer_blank.j1 kq a0 x1_1 (bt a0 x1_1) x13_5 = some r) ∧ Aside0 (kq ≤ k1) ∧ Drawn0 w wc)
          case first =>
            have H := HC6.out
            clear HC6
            by_cases c7 : (bt a0 x1_1) = 32
            · rw [if_pos c7] at H
              have c7b0 : ((bt a0 x1_1) == 32) = true := beq_iff_eq.mpr c7
              have c7b1 : ((bt a0 x1_1) != 32) = false := bne_eq_false_iff_eq.mpr c7
              clear c7
              (first | rw [c7b0] | (simp only [i64_w, i32_w]; rw [c7b0]) | skip)
              have H' := Aside0.mk H
              clear H
              go_wp2
              go_meet
              case rel => exact ⟨_, (((bt a0 x1_1) == 32)), (by first | rfl | (simp; done) | (simp [*]; done)), H', ⟨by have := HK1.out; first | omega | exact Nat.le_refl _⟩, by repeat (first | exact Drawn0.refl _ | apply Drawn0.step)⟩
            · rw [if_neg c7] at H
              have c7b0 : ((bt a0 x1_1) == 32) = false := beq_eq_false_iff_ne.mpr c7
              have c7b1 : ((bt a0 x1_1) != 32) = true := bne_iff_ne.mpr c7
              (first | rw [c7b0] | (simp only [i64_w, i32_w]; rw [c7b0]) | skip)
              by_cases c8 : (bt a0 x1_1) = 9
              · rw [if_pos c8] at H
                have c8b0 : ((bt a0 x1_1) == 9) = true := beq_iff_eq.mpr c8
                have c8b1 : ((bt a0 x1_1) != 9) = false := bne_eq_false_iff_eq.mpr c8
                clear c8
                have H' := Aside0.mk H
                clear H
                go_wp2
                go_meet
                case rel => exact ⟨_, (((bt a0 x1_1) == 9)), (by first | rfl | (simp; done) | (simp [*]; done)), H', ⟨by have := HK1.out; first | omega | exact Nat.le_refl _⟩, by repeat (first | exact Drawn0.refl _ | apply Drawn0.step)⟩
              · rw [if_neg c8] at H
                have c8b0 : ((bt a0 x1_1) == 9) = false := beq_eq_false_iff_ne.mpr c8
                have c8b1 : ((bt a0 x1_1) != 9) = true := bne_iff_ne.mpr c8
                by_cases c9 : (bt a0 x1_1) = 10
                · rw [if_pos c9] at H
                  have c9b0 : ((bt a0 x1_1) == 10) = true := beq_iff_eq.mpr c9
                  have c9b1 : ((bt a0 x1_1) != 10) = false := bne_eq_false_iff_eq.mpr c9
                  clear c9
                  have H' := Aside0.mk H
                  clear H
                  go_wp2
                  go_meet
                  case rel => exact ⟨_, (((bt a0 x1_1) == 10)), (by first | rfl | (simp; done) | (simp [*]; done)), H', ⟨by have := HK1.out; first | omega | exact Nat.le_refl _⟩, by repeat (first | exact Drawn0.refl _ | apply Drawn0.step)⟩
                · rw [if_neg c9] at H
                  have c9b0 : ((bt a0 x1_1) == 10) = false := beq_eq_false_iff_ne.mpr c9
                  have c9b1 : ((bt a0 x1_1) != 10) = true := bne_iff_ne.mpr c9
                  have H' := Aside0.mk H
                  clear H
                  go_wp2
                  go_meet
                  case rel => exact ⟨_, (((bt a0 x1_1) == 13)), (by first | rfl | (simp; done) | (simp [*]; done)), H', ⟨by have := HK1.out; first | omega | exact Nat.le_refl _⟩, by repeat (first | exact Drawn0.refl _ | apply Drawn0.step)⟩
          case rest =>
            clear HC6
            try clear c1
            try clear p2
            try clear c3
            try clear c3b0
            try clear c4
            try clear c4b0
            try clear p5
            try clear q5
            try clear hx5
            try clear c7
            try clear c7b0
            try clear c7b1
            try clear c8
            try clear c8b0
            try clear c8b1
            try clear c9
            try clear c9b0
            try clear c9b1
            try clear p2
            try clear p5
            try clear q5
            obtain ⟨kq, x13_5, rfl, HA, HJ5, ⟨mc5, rfl⟩⟩ := hcut
            cases kq with
            | zero => exact absurd HA.out (by simp [lexer_blank.j1])
            | succ kj5 =>
              have H := HA.out
              clear HA
              simp only [lexer_blank.j1] at H
              by_cases c10 : x13_5 = true
              · subst c10
                have H1 : (lexer_blank.l0 kj5 a0 (wrap64 (x1_1 + 1))) = some r := by rw [if_pos rfl] at H; exact H
                clear H
                have H := H1
                clear H1
                have H' := Aside0.mk H
                clear H
                go_wp2
                go_roundg kj5
                case measure => have := HK1.out; have := HJ5.out; omega
                case rel => exact ⟨(wrap64 (x1_1 + 1)), (by first | rfl | (simp; done) | (simp [*]; done)), H', ⟨by have := HK1.out; have := HJ5.out; omega⟩, by repeat (first | exact Drawn0.refl _ | apply Drawn0.step)⟩
              · replace c10 := Bool.eq_false_iff.mpr c10
                subst c10
                have H1 : (if (bt a0 x1_1) = 35 then ((lexer_skip_notNl.f kj5 a0 x1_1).bind fun t106 => (lexer_blank.l0 kj5 a0 t106)) else (some x1_1)) = some r := by rw [if_neg (show ¬ (false = true) by decide)] at H; exact H
                clear H
                have H := H1
                clear H1
                by_cases c11 : (bt a0 x1_1) = 35
                · rw [if_pos c11] at H
                  have c11b0 : ((bt a0 x1_1) == 35) = true := beq_iff_eq.mpr c11
                  have c11b1 : ((bt a0 x1_1) != 35) = false := bne_eq_false_iff_eq.mpr c11
                  clear c11
                  replace H := Option.bind_eq_some_iff.mp H
                  obtain ⟨t106, A120, H⟩ := H
                  replace H : (lexer_blank.l0 kj5 a0 t106) = some r := H
                  have A12 := Aside0.mk A120
                  clear A120
                  have H' := Aside0.mk H
                  clear H
                  go_wp2_with (first | ((with_reducible refine gate_callee (f := 18) rfl ?_); refine goesL_ (some 24) rfl rfl Try.func18 (by kernel_rfl) rfl #[.string a0, .int .i64 x1_1, .func (.func 26) #[] #[]] rfl (by (try simp only [List.map_toArray, List.map_cons, List.map_nil]); first | done | rfl | (simp only [List.length_drop, List.length_take]; rfl)) ?_; (with_reducible refine (lexer_skip_notNl.calls kj5 a0 x1_1 t106 _ A12.out).mono ?_); rintro e w' ⟨rfl, ⟨nd, rfl⟩⟩; refine ⟨_, rfl, ?_⟩))
                  go_roundg kj5
                  case measure => have := HK1.out; have := HJ5.out; omega
                  case rel => exact ⟨(t106), (by first | rfl | (simp; done) | (simp [*]; done)), H', ⟨by have := HK1.out; have := HJ5.out; omega⟩, by repeat (first | exact Drawn0.refl _ | apply Drawn0.step)⟩
                · rw [if_neg c11] at H
                  have c11b0 : ((bt a0 x1_1) == 35) = false := beq_eq_false_iff_ne.mpr c11
                  have c11b1 : ((bt a0 x1_1) != 35) = true := bne_iff_ne.mpr c11
                  obtain rfl := Option.some.inj H
                  go_wp2
                  go_ret
                  exact ⟨by first | rfl | (simp; done) | (simp [*]; done), by repeat (first | exact Drawn0.refl _ | apply Drawn0.step)⟩
        · rw [if_neg c4] at H
          exact absurd H (by simp)
      · rw [if_neg c3] at H
        have c3b0 : decide (x1_1 < (a0.size : Int)) = false := decide_eq_false c3
        clear c3
        obtain rfl := Option.some.inj H
        go_wp2
        go_ret
        exact ⟨by first | rfl | (simp; done) | (simp [*]; done), by repeat (first | exact Drawn0.refl _ | apply Drawn0.step)⟩

end Go.Proofs.Ytffgmmgfofbmlaa.PA
