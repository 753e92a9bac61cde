-- Written by a program of this session (wip/tools/pr.py) that drives the kit's print tool over a turned print.
import Derived.Test.YtffgmmgfofbmlaaTA
import Derived.Test.YtffgmmgfofbmlaaFALexerSplit
import Derived.Test.YtffgmmgfofbmlaaFAInsolvencylaw11Awake
import Derived.Test.YtffgmmgfofbmlaaFAInsolvencylaw11Pieces
namespace Go.Proofs.Ytffgmmgfofbmlaa.PA
open Go.RowKit Go.Proofs.YtffgmmgfofbmlaaW.PrintWords Go.Proofs.YtffgmmgfofbmlaaW.PrintLast Go.Proofs.YtffgmmgfofbmlaaW.PrintMore
attribute [local go_sem] max2_int min2_int max_two min_two max_three min_three max_four min_four   -- for this text's walks alone
set_option linter.unusedVariables false
set_option linter.unusedSimpArgs false

/-! ### insolvencylaw11_LexerAgain: function 6 -/
mutual
def insolvencylaw11_LexerAgain.l0 : Nat → List (S35) → ByteArray → List (S35) → Int → Int → Option (Bool)
  | 0, _, _, _, _, _ => none
  | k + 1, x3, x6, x28, x29, x30 => if x30 < x29 then (if 0 ≤ x30 then (if x30 < (x28.length : Int) then (if ((rd_T35 x28 x30).f1).size + 1 ≤ 9223372036854775807 then (if x6.size + (((rd_T35 x28 x30).f1) ++ (⟨#[32]⟩ : ByteArray)).size ≤ 9223372036854775807 then (insolvencylaw11_LexerAgain.l0 k x3 (x6 ++ (((rd_T35 x28 x30).f1) ++ (⟨#[32]⟩ : ByteArray))) x28 x29 (wrap64 (x30 + 1))) else (none)) else (none)) else (none)) else (none)) else ((lexer_Split.f k x6).bind fun bt224 => (if bt224.2.2 = 0 then (insolvencylaw11_LexerAgain.j1 k x3 bt224.1 ((bt224.1.length : Int) != (x3.length : Int))) else (insolvencylaw11_LexerAgain.j1 k x3 bt224.1 true)))
def insolvencylaw11_LexerAgain.j1 : Nat → List (S35) → List (S35) → Bool → Option (Bool)
  | 0, _, _, _ => none
  | k + 1, x3, x9, x54 => if x54 = true then (some false) else (insolvencylaw11_LexerAgain.l1 k x3 x9 (x3.length : Int) 0)
def insolvencylaw11_LexerAgain.l1 : Nat → List (S35) → List (S35) → Int → Int → Option (Bool)
  | 0, _, _, _, _ => none
  | k + 1, x3, x9, x56, x57 => if x57 < x56 then (if 0 ≤ x57 then (if x57 < (x3.length : Int) then (if x57 < (x9.length : Int) then (if ((rd_T35 x3 x57).f0) = ((rd_T35 x9 x57).f0) then (if ((rd_T35 x3 x57).f1).toList = ((rd_T35 x9 x57).f1).toList then (insolvencylaw11_LexerAgain.l1 k x3 x9 x56 (wrap64 (x57 + 1))) else (some false)) else (some false)) else (none)) else (none)) else (none)) else ((insolvencylaw11_awake.f k).bind fun t233 => (some t233))
end
def insolvencylaw11_LexerAgain.f (k : Nat) (l0 : List Int) : Option (Bool) := (insolvencylaw11_pieces.f k l0).bind fun t215 => ((lexer_Split.f k t215).bind fun bt216 => (if bt216.2.2 = 0 then (insolvencylaw11_LexerAgain.l0 k bt216.1 (⟨#[]⟩ : ByteArray) bt216.1 (bt216.1.length : Int) 0) else ((insolvencylaw11_awake.f k).bind fun t221 => (if t221 = true then (some ((bt216.1.length : Int) == 0)) else (some false)))))
theorem insolvencylaw11_LexerAgain.mono_l : ∀ k, (∀ y0 y1 y2 y3 y4, LeO (insolvencylaw11_LexerAgain.l0 k y0 y1 y2 y3 y4) (insolvencylaw11_LexerAgain.l0 (k + 1) y0 y1 y2 y3 y4)) ∧ (∀ y0 y1 y2, LeO (insolvencylaw11_LexerAgain.j1 k y0 y1 y2) (insolvencylaw11_LexerAgain.j1 (k + 1) y0 y1 y2)) ∧ (∀ y0 y1 y2 y3, LeO (insolvencylaw11_LexerAgain.l1 k y0 y1 y2 y3) (insolvencylaw11_LexerAgain.l1 (k + 1) y0 y1 y2 y3))
  | 0 => ⟨fun _ _ _ _ _ r h => by simp [insolvencylaw11_LexerAgain.l0] at h, fun _ _ _ r h => by simp [insolvencylaw11_LexerAgain.j1] at h, fun _ _ _ _ r h => by simp [insolvencylaw11_LexerAgain.l1] at h⟩
  | k + 1 => by
    obtain ⟨ih0, ih1, ih2⟩ := insolvencylaw11_LexerAgain.mono_l k
    refine ⟨?_, ?_, ?_⟩
    · intro y0 y1 y2 y3 y4
      unfold insolvencylaw11_LexerAgain.l0
      repeat' first
      | (with_reducible exact ih0 _ _ _ _ _)
      | (with_reducible exact ih1 _ _ _)
      | (with_reducible exact ih2 _ _ _ _)
      | (with_reducible exact insolvencylaw11_awake.mono _)
      | (with_reducible exact insolvencylaw11_pieces.mono _ _)
      | (with_reducible exact lexer_Split.mono _ _)
      | (with_reducible exact LeO.refl _)
      | (with_reducible exact LeO.none _)
      | (with_reducible refine LeO.ite ?_ ?_)
      | (with_reducible refine LeO.bind ?_ (fun _ => ?_))
      | exact ih0 _ _ _ _ _
      | exact ih1 _ _ _
      | exact ih2 _ _ _ _
      | exact insolvencylaw11_awake.mono _
      | exact insolvencylaw11_pieces.mono _ _
      | exact lexer_Split.mono _ _
      | exact LeO.none _
      | refine LeO.ite ?_ ?_
      | refine LeO.bind ?_ (fun _ => ?_)
    · intro y0 y1 y2
      unfold insolvencylaw11_LexerAgain.j1
      repeat' first
      | (with_reducible exact ih0 _ _ _ _ _)
      | (with_reducible exact ih1 _ _ _)
      | (with_reducible exact ih2 _ _ _ _)
      | (with_reducible exact insolvencylaw11_awake.mono _)
      | (with_reducible exact insolvencylaw11_pieces.mono _ _)
      | (with_reducible exact lexer_Split.mono _ _)
      | (with_reducible exact LeO.refl _)
      | (with_reducible exact LeO.none _)
      | (with_reducible refine LeO.ite ?_ ?_)
      | (with_reducible refine LeO.bind ?_ (fun _ => ?_))
      | exact ih0 _ _ _ _ _
      | exact ih1 _ _ _
      | exact ih2 _ _ _ _
      | exact insolvencylaw11_awake.mono _
      | exact insolvencylaw11_pieces.mono _ _
      | exact lexer_Split.mono _ _
      | exact LeO.none _
      | refine LeO.ite ?_ ?_
      | refine LeO.bind ?_ (fun _ => ?_)
    · intro y0 y1 y2 y3
      unfold insolvencylaw11_LexerAgain.l1
      repeat' first
      | (with_reducible exact ih0 _ _ _ _ _)
      | (with_reducible exact ih1 _ _ _)
      | (with_reducible exact ih2 _ _ _ _)
      | (with_reducible exact insolvencylaw11_awake.mono _)
      | (with_reducible exact insolvencylaw11_pieces.mono _ _)
      | (with_reducible exact lexer_Split.mono _ _)
      | (with_reducible exact LeO.refl _)
      | (with_reducible exact LeO.none _)
      | (with_reducible refine LeO.ite ?_ ?_)
      | (with_reducible refine LeO.bind ?_ (fun _ => ?_))
      | exact ih0 _ _ _ _ _
      | exact ih1 _ _ _
      | exact ih2 _ _ _ _
      | exact insolvencylaw11_awake.mono _
      | exact insolvencylaw11_pieces.mono _ _
      | exact lexer_Split.mono _ _
      | exact LeO.none _
      | refine LeO.ite ?_ ?_
      | refine LeO.bind ?_ (fun _ => ?_)
theorem insolvencylaw11_LexerAgain.mono : ∀ a0 k, LeO (insolvencylaw11_LexerAgain.f k a0) (insolvencylaw11_LexerAgain.f (k + 1) a0) := by
  intro a0 k
  obtain ⟨ih0, ih1, ih2⟩ := insolvencylaw11_LexerAgain.mono_l k
  unfold insolvencylaw11_LexerAgain.f
  repeat' first
      | (with_reducible exact ih0 _ _ _ _ _)
      | (with_reducible exact ih1 _ _ _)
      | (with_reducible exact ih2 _ _ _ _)
      | (with_reducible exact insolvencylaw11_awake.mono _)
      | (with_reducible exact insolvencylaw11_pieces.mono _ _)
      | (with_reducible exact lexer_Split.mono _ _)
      | (with_reducible exact LeO.refl _)
      | (with_reducible exact LeO.none _)
      | (with_reducible refine LeO.ite ?_ ?_)
      | (with_reducible refine LeO.bind ?_ (fun _ => ?_))
      | exact ih0 _ _ _ _ _
      | exact ih1 _ _ _
      | exact ih2 _ _ _ _
      | exact insolvencylaw11_awake.mono _
      | exact insolvencylaw11_pieces.mono _ _
      | exact lexer_Split.mono _ _
      | exact LeO.none _
      | refine LeO.ite ?_ ?_
      | refine LeO.bind ?_ (fun _ => ?_)
set_option maxHeartbeats 8000000 in
set_option maxRecDepth 100000 in
theorem insolvencylaw11_LexerAgain.calls (k : Nat) (A0 : Option Addr) (c0 : Nat) (l0 : List Int) (r : Bool) (w : World) (hr0 : Kd.C (Kd.int .u8) w A0 l0.length l0) (hc0 : l0.length ≤ c0) (h : insolvencylaw11_LexerAgain.f k l0 = some r) :
    Calls Try.prog 6 #[.slice A0 l0.length c0] w fun e w' => e = .returned (.bool r) ∧ Below w.heap.size w w' := by
  have hu35 := Try.underlying35
  have HR0 := Aside0.mk hr0
  have HC0 := Aside0.mk hc0
  clear hr0 hc0
  have HB := Aside0.mk (Below.refl w.heap.size w)
  have H : ((insolvencylaw11_pieces.f k l0).bind fun t215 => ((lexer_Split.f k t215).bind fun bt216 => (if bt216.2.2 = 0 then (insolvencylaw11_LexerAgain.l0 k bt216.1 (⟨#[]⟩ : ByteArray) bt216.1 (bt216.1.length : Int) 0) else ((insolvencylaw11_awake.f k).bind fun t221 => (if t221 = true then (some ((bt216.1.length : Int) == 0)) else (some false)))))) = some r := h
  clear h
  replace H := Option.bind_eq_some_iff.mp H
  obtain ⟨t215, A20, H⟩ := H
  replace H : ((lexer_Split.f k t215).bind fun bt216 => (if bt216.2.2 = 0 then (insolvencylaw11_LexerAgain.l0 k bt216.1 (⟨#[]⟩ : ByteArray) bt216.1 (bt216.1.length : Int) 0) else ((insolvencylaw11_awake.f k).bind fun t221 => (if t221 = true then (some ((bt216.1.length : Int) == 0)) else (some false))))) = some r := H
  have A2 := Aside0.mk A20
  clear A20
  replace H := Option.bind_eq_some_iff.mp H
  obtain ⟨⟨t216, t217, t218⟩, A30, H⟩ := H
  replace H : (if t218 = 0 then (insolvencylaw11_LexerAgain.l0 k t216 (⟨#[]⟩ : ByteArray) t216 (t216.length : Int) 0) else ((insolvencylaw11_awake.f k).bind fun t221 => (if t221 = true then (some ((t216.length : Int) == 0)) else (some false)))) = some r := H
  have A3 := Aside0.mk A30
  clear A30
  by_cases c4 : t218 = 0
  · rw [if_pos c4] at H
    have c4b0 : (t218 == 0) = true := beq_iff_eq.mpr c4
    have c4b1 : (t218 != 0) = false := bne_eq_false_iff_eq.mpr c4
    clear c4
    have H' := Aside0.mk H
    clear H
    go_enter Try.func6, Try.ntmps6
    go_wp2_with (first | (go_at_call 15; (with_reducible refine (insolvencylaw11_pieces.calls k _ _ l0 t215 _ ?side1 ?side2 A2.out).mono ?_); (case side1 => repeat (first | exact HR0.out | (with_reducible refine Kd.C_alloc ?_ _) | (with_reducible refine Kd.C_drewN ?_ _) | (with_reducible refine Kd.C_drew ?_))); (case side2 => exact HC0.out); rintro e w5 ⟨rfl, hb⟩; have n0_ := Aside0.mk (below_step (by repeat (first | (with_reducible first | exact HB.out | apply below_alloc | apply pw_below_drewN | apply below_drew1) | exact HB.out)) hb); clear HB; have HB := n0_; clear n0_; (try clear hb); (try clear hb2); (try clear hk); (try clear hi)) | (go_at_call 12; (with_reducible refine (lexer_Split.calls k t215 t216 t217 t218 _ A3.out).mono ?_); rintro e w6 ⟨v219, rfl, ho0, hb⟩; have n0_ := Aside0.mk (Kd.R_lower ho0 (below_size (by repeat (first | (with_reducible first | exact HB.out | apply below_alloc | apply pw_below_drewN | apply below_drew1) | exact HB.out)))); have n1_ := Aside0.mk (below_step (by repeat (first | (with_reducible first | exact HB.out | apply below_alloc | apply pw_below_drewN | apply below_drew1) | exact HB.out)) hb); clear HB; have HO220 := n0_; have HB := n1_; clear n0_ n1_; (try clear hb); (try clear hb2); (try clear hk); (try clear hi); (try clear ho0); obtain ⟨Ao7, co7, eo7⟩ := Kd.R_slice HO220.out; subst eo7))
    repeat (go_quiet (first | (go_at_call 15; (with_reducible refine (insolvencylaw11_pieces.calls k _ _ l0 t215 _ ?side1 ?side2 A2.out).mono ?_); (case side1 => repeat (first | exact HR0.out | (with_reducible refine Kd.C_alloc ?_ _) | (with_reducible refine Kd.C_drewN ?_ _) | (with_reducible refine Kd.C_drew ?_))); (case side2 => exact HC0.out); rintro e w5 ⟨rfl, hb⟩; have n0_ := Aside0.mk (below_step (by repeat (first | (with_reducible first | exact HB.out | apply below_alloc | apply pw_below_drewN | apply below_drew1) | exact HB.out)) hb); clear HB; have HB := n0_; clear n0_; (try clear hb); (try clear hb2); (try clear hk); (try clear hi)) | (go_at_call 12; (with_reducible refine (lexer_Split.calls k t215 t216 t217 t218 _ A3.out).mono ?_); rintro e w6 ⟨v219, rfl, ho0, hb⟩; have n0_ := Aside0.mk (Kd.R_lower ho0 (below_size (by repeat (first | (with_reducible first | exact HB.out | apply below_alloc | apply pw_below_drewN | apply below_drew1) | exact HB.out)))); have n1_ := Aside0.mk (below_step (by repeat (first | (with_reducible first | exact HB.out | apply below_alloc | apply pw_below_drewN | apply below_drew1) | exact HB.out)) hb); clear HB; have HO220 := n0_; have HB := n1_; clear n0_ n1_; (try clear hb); (try clear hb2); (try clear hk); (try clear hi); (try clear ho0); obtain ⟨Ao7, co7, eo7⟩ := Kd.R_slice HO220.out; subst eo7)); try go_wp2_with (first | (go_at_call 15; (with_reducible refine (insolvencylaw11_pieces.calls k _ _ l0 t215 _ ?side1 ?side2 A2.out).mono ?_); (case side1 => repeat (first | exact HR0.out | (with_reducible refine Kd.C_alloc ?_ _) | (with_reducible refine Kd.C_drewN ?_ _) | (with_reducible refine Kd.C_drew ?_))); (case side2 => exact HC0.out); rintro e w5 ⟨rfl, hb⟩; have n0_ := Aside0.mk (below_step (by repeat (first | (with_reducible first | exact HB.out | apply below_alloc | apply pw_below_drewN | apply below_drew1) | exact HB.out)) hb); clear HB; have HB := n0_; clear n0_; (try clear hb); (try clear hb2); (try clear hk); (try clear hi)) | (go_at_call 12; (with_reducible refine (lexer_Split.calls k t215 t216 t217 t218 _ A3.out).mono ?_); rintro e w6 ⟨v219, rfl, ho0, hb⟩; have n0_ := Aside0.mk (Kd.R_lower ho0 (below_size (by repeat (first | (with_reducible first | exact HB.out | apply below_alloc | apply pw_below_drewN | apply below_drew1) | exact HB.out)))); have n1_ := Aside0.mk (below_step (by repeat (first | (with_reducible first | exact HB.out | apply below_alloc | apply pw_below_drewN | apply below_drew1) | exact HB.out)) hb); clear HB; have HO220 := n0_; have HB := n1_; clear n0_ n1_; (try clear hb); (try clear hb2); (try clear hk); (try clear hi); (try clear ho0); obtain ⟨Ao7, co7, eo7⟩ := Kd.R_slice HO220.out; subst eo7)))
    go_loopg [6, 30] k (fun kq v6 v30 w' => ∃ (x6_1 : ByteArray) (x30_1 : Int), v6 = .string x6_1 ∧ v30 = .int .i64 x30_1 ∧ Aside0 (insolvencylaw11_LexerAgain.l0 kq t216 x6_1 t216 (t216.length : Int) x30_1 = some r) ∧ Aside0 (kq ≤ k) ∧ Aside0 (Kd.R k35 35 w' w.heap.size (fun _ => True) (.slice Ao7 t216.length co7) t216) ∧ Aside0 (Kd.R k35 35 w' w.heap.size (fun _ => True) (.slice Ao7 t216.length co7) t216) ∧ Aside0 (Below w.heap.size w w'))
    case atStart => exact ⟨((⟨#[]⟩ : ByteArray)), (0), (by first | rfl | (simp; done) | (simp [*]; done)), (by first | rfl | (simp; done) | (simp [*]; done)), H', ⟨Nat.le_refl _⟩, ⟨by (with_reducible repeat (first | apply Kd.R_alloc | apply Kd.R_drewN | apply Kd.R_drew)); exact HO220.out⟩, ⟨by (with_reducible repeat (first | apply Kd.R_alloc | apply Kd.R_drewN | apply Kd.R_drew)); exact HO220.out⟩, ⟨by repeat (first | (with_reducible first | exact HB.out | apply below_alloc | apply pw_below_drewN | apply below_drew1) | exact HB.out)⟩⟩
    case round =>
      clear H'
      try clear p2
      try clear c4
      try clear c4b0
      try clear c4b1
      try clear c6
      obtain ⟨x6_1, x30_1, rfl, rfl, HA, HK1, HO_3, HO_28, HB⟩ := hrel
      cases gk with
      | zero => exact absurd HA.out (by simp [insolvencylaw11_LexerAgain.l0])
      | succ k1 =>
        have H := HA.out
        clear HA
        simp only [insolvencylaw11_LexerAgain.l0] at H
        by_cases c8 : x30_1 < (t216.length : Int)
        · rw [if_pos c8] at H
          have c8b0 : decide (x30_1 < (t216.length : Int)) = true := decide_eq_true c8
          clear c8
          by_cases c9 : 0 ≤ x30_1
          · rw [if_pos c9] at H
            have c9b0 : decide (0 ≤ x30_1) = true := decide_eq_true c9
            clear c9
            by_cases c10 : x30_1 < (t216.length : Int)
            · rw [if_pos c10] at H
              have c10b0 : decide (x30_1 < (t216.length : Int)) = true := decide_eq_true c10
              clear c10
              by_cases c11 : ((rd_T35 t216 x30_1).f1).size + 1 ≤ 9223372036854775807
              · rw [if_pos c11] at H
                have c11b0 := eq_true c11
                have c11b1 : decide (((rd_T35 t216 x30_1).f1).size + 1 ≤ 9223372036854775807) = true := decide_eq_true c11
                try have c11b2 : (9223372036854775807 < ((rd_T35 t216 x30_1).f1).size + 1) = False := eq_false (Nat.not_lt.2 c11)
                by_cases c12 : x6_1.size + (((rd_T35 t216 x30_1).f1) ++ (⟨#[32]⟩ : ByteArray)).size ≤ 9223372036854775807
                · rw [if_pos c12] at H
                  have c12b0 := eq_true c12
                  have c12b1 : decide (x6_1.size + (((rd_T35 t216 x30_1).f1) ++ (⟨#[32]⟩ : ByteArray)).size ≤ 9223372036854775807) = true := decide_eq_true c12
                  try have c12b2 : (9223372036854775807 < x6_1.size + (((rd_T35 t216 x30_1).f1) ++ (⟨#[32]⟩ : ByteArray)).size) = False := eq_false (Nat.not_lt.2 c12)
                  have H' := Aside0.mk H
                  clear H
                  have p222 : 0 ≤ (x30_1 : Int) := of_decide_eq_true (by first | (with_reducible assumption) | assumption)
                  have q222 : x30_1 < (t216.length : Int) := of_decide_eq_true (by first | (with_reducible assumption) | assumption)
                  obtain ⟨ad222, e222, hx222_0, hx222_1, hx222_2⟩ := at_T35 (Kd.R_reads' HO_28.out).2.2 x30_1 p222 q222
                  cases e222
                  replace p222 := eq_true p222
                  replace q222 := eq_true q222
                  go_wp2_with (first | ((with_reducible refine gate_dst (N := 8) rfl ?_); (try (refine gate_guard (by rfl) ?_; dsimp only)); refine box_event ?hg (N := 8) ?hd (cs := #[.int .i64 0, .string (⟨#[]⟩ : ByteArray), .int .i64 0]) (t := 35) ?hr ?_; (case hd => rfl); (case hg => rfl); (case hr => first | (go_simp; done) | (go_simp; rfl)); intro gb223 hg w13 hbox hb; have n0_ := Aside0.mk (Kd.R_below (Kd.R_elderB (by (with_reducible repeat (first | apply Kd.R_alloc | apply Kd.R_drewN | apply Kd.R_drew)); exact HO_3.out) gb223 (Nat.le_of_eq hg.symm)) hb); have n1_ := Aside0.mk (Kd.R_below (Kd.R_elderB (by (with_reducible repeat (first | apply Kd.R_alloc | apply Kd.R_drewN | apply Kd.R_drew)); exact HO_28.out) gb223 (Nat.le_of_eq hg.symm)) hb); have n2_ := Aside0.mk (below_step (by repeat (first | (with_reducible first | exact HB.out | apply below_alloc | apply pw_below_drewN | apply below_drew1) | exact HB.out)) hb); have n3_ := Aside0.mk (hbox); have n4_ := Aside0.mk ((by rw [hg]; exact (below_size (by repeat (first | (with_reducible first | exact HB.out | apply below_alloc | apply pw_below_drewN | apply below_drew1) | exact HB.out))) : w.heap.size ≤ gb223)); have n5_ := Aside0.mk ((by rw [hg]; exact (below_size (by repeat (first | (with_reducible first | exact HB.out | apply below_alloc | apply pw_below_drewN | apply below_drew1) | exact HB.out))) : w.heap.size ≤ gb223)); clear HO_3; clear HO_28; clear HB; have HO_3 := n0_; have HO_28 := n1_; have HB := n2_; have BK223 := n3_; have GW223 := n4_; have GE223 := n5_; clear n0_ n1_ n2_ n3_ n4_ n5_; clear hb hbox hg; have hcz14_0 : w13.cell? ⟨gb223, 0, none⟩ = some (.int .i64 0) := (blk_cell BK223.out 0).trans rfl; have hcz14_1 : w13.cell? ⟨gb223, 1, none⟩ = some (.string (⟨#[]⟩ : ByteArray)) := (blk_cell BK223.out 1).trans rfl; have hcz14_2 : w13.cell? ⟨gb223, 2, none⟩ = some (.int .i64 0) := (blk_cell BK223.out 2).trans rfl; have hfz14_0 := blk_frozen BK223.out 0; have hfz14_1 := blk_frozen BK223.out 1; have hfz14_2 := blk_frozen BK223.out 2))
                  repeat (go_quiet (first | ((with_reducible refine gate_dst (N := 8) rfl ?_); (try (refine gate_guard (by rfl) ?_; dsimp only)); refine box_event ?hg (N := 8) ?hd (cs := #[.int .i64 0, .string (⟨#[]⟩ : ByteArray), .int .i64 0]) (t := 35) ?hr ?_; (case hd => rfl); (case hg => rfl); (case hr => first | (go_simp; done) | (go_simp; rfl)); intro gb223 hg w13 hbox hb; have n0_ := Aside0.mk (Kd.R_below (Kd.R_elderB (by (with_reducible repeat (first | apply Kd.R_alloc | apply Kd.R_drewN | apply Kd.R_drew)); exact HO_3.out) gb223 (Nat.le_of_eq hg.symm)) hb); have n1_ := Aside0.mk (Kd.R_below (Kd.R_elderB (by (with_reducible repeat (first | apply Kd.R_alloc | apply Kd.R_drewN | apply Kd.R_drew)); exact HO_28.out) gb223 (Nat.le_of_eq hg.symm)) hb); have n2_ := Aside0.mk (below_step (by repeat (first | (with_reducible first | exact HB.out | apply below_alloc | apply pw_below_drewN | apply below_drew1) | exact HB.out)) hb); have n3_ := Aside0.mk (hbox); have n4_ := Aside0.mk ((by rw [hg]; exact (below_size (by repeat (first | (with_reducible first | exact HB.out | apply below_alloc | apply pw_below_drewN | apply below_drew1) | exact HB.out))) : w.heap.size ≤ gb223)); have n5_ := Aside0.mk ((by rw [hg]; exact (below_size (by repeat (first | (with_reducible first | exact HB.out | apply below_alloc | apply pw_below_drewN | apply below_drew1) | exact HB.out))) : w.heap.size ≤ gb223)); clear HO_3; clear HO_28; clear HB; have HO_3 := n0_; have HO_28 := n1_; have HB := n2_; have BK223 := n3_; have GW223 := n4_; have GE223 := n5_; clear n0_ n1_ n2_ n3_ n4_ n5_; clear hb hbox hg; have hcz14_0 : w13.cell? ⟨gb223, 0, none⟩ = some (.int .i64 0) := (blk_cell BK223.out 0).trans rfl; have hcz14_1 : w13.cell? ⟨gb223, 1, none⟩ = some (.string (⟨#[]⟩ : ByteArray)) := (blk_cell BK223.out 1).trans rfl; have hcz14_2 : w13.cell? ⟨gb223, 2, none⟩ = some (.int .i64 0) := (blk_cell BK223.out 2).trans rfl; have hfz14_0 := blk_frozen BK223.out 0; have hfz14_1 := blk_frozen BK223.out 1; have hfz14_2 := blk_frozen BK223.out 2)); try go_wp2_with (first | ((with_reducible refine gate_dst (N := 8) rfl ?_); (try (refine gate_guard (by rfl) ?_; dsimp only)); refine box_event ?hg (N := 8) ?hd (cs := #[.int .i64 0, .string (⟨#[]⟩ : ByteArray), .int .i64 0]) (t := 35) ?hr ?_; (case hd => rfl); (case hg => rfl); (case hr => first | (go_simp; done) | (go_simp; rfl)); intro gb223 hg w13 hbox hb; have n0_ := Aside0.mk (Kd.R_below (Kd.R_elderB (by (with_reducible repeat (first | apply Kd.R_alloc | apply Kd.R_drewN | apply Kd.R_drew)); exact HO_3.out) gb223 (Nat.le_of_eq hg.symm)) hb); have n1_ := Aside0.mk (Kd.R_below (Kd.R_elderB (by (with_reducible repeat (first | apply Kd.R_alloc | apply Kd.R_drewN | apply Kd.R_drew)); exact HO_28.out) gb223 (Nat.le_of_eq hg.symm)) hb); have n2_ := Aside0.mk (below_step (by repeat (first | (with_reducible first | exact HB.out | apply below_alloc | apply pw_below_drewN | apply below_drew1) | exact HB.out)) hb); have n3_ := Aside0.mk (hbox); have n4_ := Aside0.mk ((by rw [hg]; exact (below_size (by repeat (first | (with_reducible first | exact HB.out | apply below_alloc | apply pw_below_drewN | apply below_drew1) | exact HB.out))) : w.heap.size ≤ gb223)); have n5_ := Aside0.mk ((by rw [hg]; exact (below_size (by repeat (first | (with_reducible first | exact HB.out | apply below_alloc | apply pw_below_drewN | apply below_drew1) | exact HB.out))) : w.heap.size ≤ gb223)); clear HO_3; clear HO_28; clear HB; have HO_3 := n0_; have HO_28 := n1_; have HB := n2_; have BK223 := n3_; have GW223 := n4_; have GE223 := n5_; clear n0_ n1_ n2_ n3_ n4_ n5_; clear hb hbox hg; have hcz14_0 : w13.cell? ⟨gb223, 0, none⟩ = some (.int .i64 0) := (blk_cell BK223.out 0).trans rfl; have hcz14_1 : w13.cell? ⟨gb223, 1, none⟩ = some (.string (⟨#[]⟩ : ByteArray)) := (blk_cell BK223.out 1).trans rfl; have hcz14_2 : w13.cell? ⟨gb223, 2, none⟩ = some (.int .i64 0) := (blk_cell BK223.out 2).trans rfl; have hfz14_0 := blk_frozen BK223.out 0; have hfz14_1 := blk_frozen BK223.out 1; have hfz14_2 := blk_frozen BK223.out 2)))
                  go_roundg k1
                  case measure => have := HK1.out; omega
                  case rel => exact ⟨(x6_1 ++ (((rd_T35 t216 x30_1).f1) ++ (⟨#[32]⟩ : ByteArray))), (wrap64 (x30_1 + 1)), (by first | rfl | (simp; done) | (simp [*]; done)), (by first | rfl | (simp; done) | (simp [*]; done)), H', ⟨by have := HK1.out; omega⟩, ⟨by (with_reducible repeat (first | apply Kd.R_alloc | apply Kd.R_drewN | apply Kd.R_drew)); exact Kd.R_mono (Kd.R_far (p := ⟨gb223, 2, none⟩) (Kd.R_far (p := ⟨gb223, 1, none⟩) (Kd.R_far (p := ⟨gb223, 0, none⟩) (Kd.R_mono HO_3.out (fun k_ hk => (⟨hk, hk.2⟩ : _ ∧ k_ ≠ gb223))) (fun _ hk => hk.2) (.int .i64 ((rd_T35 t216 x30_1).f0))) (fun _ hk => hk.2) (.string ((rd_T35 t216 x30_1).f1))) (fun _ hk => hk.2) (.int .i64 ((rd_T35 t216 x30_1).f2))) (fun _ hk => trivial)⟩, ⟨by (with_reducible repeat (first | apply Kd.R_alloc | apply Kd.R_drewN | apply Kd.R_drew)); exact Kd.R_mono (Kd.R_far (p := ⟨gb223, 2, none⟩) (Kd.R_far (p := ⟨gb223, 1, none⟩) (Kd.R_far (p := ⟨gb223, 0, none⟩) (Kd.R_mono HO_28.out (fun k_ hk => (⟨hk, hk.2⟩ : _ ∧ k_ ≠ gb223))) (fun _ hk => hk.2) (.int .i64 ((rd_T35 t216 x30_1).f0))) (fun _ hk => hk.2) (.string ((rd_T35 t216 x30_1).f1))) (fun _ hk => hk.2) (.int .i64 ((rd_T35 t216 x30_1).f2))) (fun _ hk => trivial)⟩, ⟨by repeat (first | (with_reducible first | exact HB.out | apply below_alloc | apply pw_below_drewN | apply below_drew1 | refine below_set ?_ GE223.out) | exact HB.out)⟩⟩
                · rw [if_neg c12] at H
                  exact absurd H (by simp)
              · rw [if_neg c11] at H
                exact absurd H (by simp)
            · rw [if_neg c10] at H
              exact absurd H (by simp)
          · rw [if_neg c9] at H
            exact absurd H (by simp)
        · rw [if_neg c8] at H
          have c8b0 : decide (x30_1 < (t216.length : Int)) = false := decide_eq_false c8
          clear c8
          replace H := Option.bind_eq_some_iff.mp H
          obtain ⟨⟨t224, t225, t226⟩, A150, H⟩ := H
          replace H : (if t226 = 0 then (insolvencylaw11_LexerAgain.j1 k1 t216 t224 ((t224.length : Int) != (t216.length : Int))) else (insolvencylaw11_LexerAgain.j1 k1 t216 t224 true)) = some r := H
          have A15 := Aside0.mk A150
          clear A150
          have HC16 := Aside0.mk H
          clear H
          go_upto_region 11 with (first | (go_at_call 12; (with_reducible refine (lexer_Split.calls k1 x6_1 t224 t225 t226 _ A15.out).mono ?_); rintro e w17 ⟨v227, rfl, ho0, hb⟩; have n0_ := Aside0.mk (Kd.R_elder' (by (with_reducible repeat (first | apply Kd.R_alloc | apply Kd.R_drewN | apply Kd.R_drew)); exact HO_3.out) (Kd.R_base ho0) hb); have n1_ := Aside0.mk (Kd.R_elder' (by (with_reducible repeat (first | apply Kd.R_alloc | apply Kd.R_drewN | apply Kd.R_drew)); exact HO_28.out) (Kd.R_base ho0) hb); have n2_ := Aside0.mk (Kd.R_lower (Kd.R_new' (Kd.R_new' ho0 (Kd.R_lt (by (with_reducible repeat (first | apply Kd.R_alloc | apply Kd.R_drewN | apply Kd.R_drew)); exact HO_3.out))) (Kd.R_lt (by (with_reducible repeat (first | apply Kd.R_alloc | apply Kd.R_drewN | apply Kd.R_drew)); exact HO_28.out))) (below_size (by repeat (first | (with_reducible first | exact HB.out | apply below_alloc | apply pw_below_drewN | apply below_drew1) | exact HB.out)))); have n3_ := Aside0.mk (below_step (by repeat (first | (with_reducible first | exact HB.out | apply below_alloc | apply pw_below_drewN | apply below_drew1) | exact HB.out)) hb); clear HO_3; clear HO_28; clear HB; have HO_3 := n0_; have HO_28 := n1_; have HO228 := n2_; have HB := n3_; clear n0_ n1_ n2_ n3_; (try clear hb); (try clear hb2); (try clear hk); (try clear hi); (try clear ho0)))
          repeat (go_quiet (first | (go_at_call 12; (with_reducible refine (lexer_Split.calls k1 x6_1 t224 t225 t226 _ A15.out).mono ?_); rintro e w17 ⟨v227, rfl, ho0, hb⟩; have n0_ := Aside0.mk (Kd.R_elder' (by (with_reducible repeat (first | apply Kd.R_alloc | apply Kd.R_drewN | apply Kd.R_drew)); exact HO_3.out) (Kd.R_base ho0) hb); have n1_ := Aside0.mk (Kd.R_elder' (by (with_reducible repeat (first | apply Kd.R_alloc | apply Kd.R_drewN | apply Kd.R_drew)); exact HO_28.out) (Kd.R_base ho0) hb); have n2_ := Aside0.mk (Kd.R_lower (Kd.R_new' (Kd.R_new' ho0 (Kd.R_lt (by (with_reducible repeat (first | apply Kd.R_alloc | apply Kd.R_drewN | apply Kd.R_drew)); exact HO_3.out))) (Kd.R_lt (by (with_reducible repeat (first | apply Kd.R_alloc | apply Kd.R_drewN | apply Kd.R_drew)); exact HO_28.out))) (below_size (by repeat (first | (with_reducible first | exact HB.out | apply below_alloc | apply pw_below_drewN | apply below_drew1) | exact HB.out)))); have n3_ := Aside0.mk (below_step (by repeat (first | (with_reducible first | exact HB.out | apply below_alloc | apply pw_below_drewN | apply below_drew1) | exact HB.out)) hb); clear HO_3; clear HO_28; clear HB; have HO_3 := n0_; have HO_28 := n1_; have HO228 := n2_; have HB := n3_; clear n0_ n1_ n2_ n3_; (try clear hb); (try clear hb2); (try clear hk); (try clear hi); (try clear ho0))); go_upto_region 11 with (first | (go_at_call 12; (with_reducible refine (lexer_Split.calls k1 x6_1 t224 t225 t226 _ A15.out).mono ?_); rintro e w17 ⟨v227, rfl, ho0, hb⟩; have n0_ := Aside0.mk (Kd.R_elder' (by (with_reducible repeat (first | apply Kd.R_alloc | apply Kd.R_drewN | apply Kd.R_drew)); exact HO_3.out) (Kd.R_base ho0) hb); have n1_ := Aside0.mk (Kd.R_elder' (by (with_reducible repeat (first | apply Kd.R_alloc | apply Kd.R_drewN | apply Kd.R_drew)); exact HO_28.out) (Kd.R_base ho0) hb); have n2_ := Aside0.mk (Kd.R_lower (Kd.R_new' (Kd.R_new' ho0 (Kd.R_lt (by (with_reducible repeat (first | apply Kd.R_alloc | apply Kd.R_drewN | apply Kd.R_drew)); exact HO_3.out))) (Kd.R_lt (by (with_reducible repeat (first | apply Kd.R_alloc | apply Kd.R_drewN | apply Kd.R_drew)); exact HO_28.out))) (below_size (by repeat (first | (with_reducible first | exact HB.out | apply below_alloc | apply pw_below_drewN | apply below_drew1) | exact HB.out)))); have n3_ := Aside0.mk (below_step (by repeat (first | (with_reducible first | exact HB.out | apply below_alloc | apply pw_below_drewN | apply below_drew1) | exact HB.out)) hb); clear HO_3; clear HO_28; clear HB; have HO_3 := n0_; have HO_28 := n1_; have HO228 := n2_; have HB := n3_; clear n0_ n1_ n2_ n3_; (try clear hb); (try clear hb2); (try clear hk); (try clear hi); (try clear ho0))))
          (try simp only [Act.put, List.setIfInBounds_toArray, List.set_cons_zero, List.set_cons_succ])
          go_cut [54] (fun v54 wc => ∃ (kq : Nat) (x54_15 : Bool), v54 = .bool x54_15 ∧ Aside0 (insolvencylaw11_LexerAgain.j1 kq t216 t224 x54_15 = some r) ∧ Aside0 (kq ≤ k1) ∧ Aside0 (Kd.R k35 35 wc w.heap.size (fun k_ => some k_ ≠ (v227 : Value).ownBlock) (.slice Ao7 t216.length co7) t216) ∧ Aside0 (Kd.R k35 35 wc w.heap.size (fun k_ => some k_ ≠ ((.slice Ao7 t216.length co7) : Value).ownBlock) v227 t224) ∧ Aside0 (Below w.heap.size w wc))
          case first =>
            have H := HC16.out
            clear HC16
            by_cases c18 : t226 = 0
            · rw [if_pos c18] at H
              have c18b0 : (t226 == 0) = true := beq_iff_eq.mpr c18
              have c18b1 : (t226 != 0) = false := bne_eq_false_iff_eq.mpr c18
              clear c18
              (first | rw [c18b0] | (simp only [i64_w, i32_w]; rw [c18b0]) | skip)
              have H' := Aside0.mk H
              clear H
              obtain ⟨Ao19, co19, eo19⟩ := Kd.R_slice HO228.out
              subst eo19
              go_wp2
              repeat (go_quiet (fail); try go_wp2)
              go_meet
              case rel => exact ⟨_, (((t224.length : Int) != (t216.length : Int))), (by first | rfl | (simp; done) | (simp [*]; done)), H', ⟨by have := HK1.out; first | omega | exact Nat.le_refl _⟩, ⟨by (with_reducible repeat (first | apply Kd.R_alloc | apply Kd.R_drewN | apply Kd.R_drew)); exact Kd.R_mono HO_3.out (fun _ hk => hk.2)⟩, ⟨by (with_reducible repeat (first | apply Kd.R_alloc | apply Kd.R_drewN | apply Kd.R_drew)); exact Kd.R_mono HO228.out (fun _ hk => hk.1.2)⟩, ⟨by repeat (first | (with_reducible first | exact HB.out | apply below_alloc | apply pw_below_drewN | apply below_drew1) | exact HB.out)⟩⟩
            · rw [if_neg c18] at H
              have c18b0 : (t226 == 0) = false := beq_eq_false_iff_ne.mpr c18
              have c18b1 : (t226 != 0) = true := bne_iff_ne.mpr c18
              (first | rw [c18b0] | (simp only [i64_w, i32_w]; rw [c18b0]) | skip)
              have H' := Aside0.mk H
              clear H
              go_wp2
              repeat (go_quiet (fail); try go_wp2)
              go_meet
              case rel => exact ⟨_, (true), (by first | rfl | (simp; done) | (simp [*]; done)), H', ⟨by have := HK1.out; first | omega | exact Nat.le_refl _⟩, ⟨by (with_reducible repeat (first | apply Kd.R_alloc | apply Kd.R_drewN | apply Kd.R_drew)); exact Kd.R_mono HO_3.out (fun _ hk => hk.2)⟩, ⟨by (with_reducible repeat (first | apply Kd.R_alloc | apply Kd.R_drewN | apply Kd.R_drew)); exact Kd.R_mono HO228.out (fun _ hk => hk.1.2)⟩, ⟨by repeat (first | (with_reducible first | exact HB.out | apply below_alloc | apply pw_below_drewN | apply below_drew1) | exact HB.out)⟩⟩
          case rest =>
            clear HC16
            try clear c1
            try clear p2
            try clear q2
            try clear hx2
            try clear c4
            try clear c4b0
            try clear c4b1
            try clear c6
            try clear p6
            try clear c8
            try clear c8b0
            try clear c9
            try clear c9b0
            try clear c10
            try clear c10b0
            try clear c11
            try clear c11b0
            try clear c11b1
            try clear c11b2
            try clear c12
            try clear c12b0
            try clear c12b1
            try clear c12b2
            try clear c18
            try clear c18b0
            try clear c18b1
            try clear hcz14_0
            try clear hcz14_1
            try clear hcz14_2
            try clear hfz14_0
            try clear hfz14_1
            try clear hfz14_2
            try clear hx222_0
            try clear hx222_1
            try clear hx222_2
            try clear p2
            try clear p222
            try clear q222
            obtain ⟨kq, x54_15, rfl, HA, HJ15, HO_3, HO_9, HB⟩ := hcut
            cases kq with
            | zero => exact absurd HA.out (by simp [insolvencylaw11_LexerAgain.j1])
            | succ kj15 =>
              have H := HA.out
              clear HA
              simp only [insolvencylaw11_LexerAgain.j1] at H
              by_cases c20 : x54_15 = true
              · subst c20
                have H1 : (some false) = some r := by rw [if_pos rfl] at H; exact H
                clear H
                have H := H1
                clear H1
                obtain rfl := Option.some.inj H
                go_wp2
                repeat (go_quiet (fail); try go_wp2)
                go_ret
                exact ⟨by first | rfl | (simp [errW_none, errW_some] <;> rfl) | (simp [*, errW_none, errW_some] <;> rfl), by repeat (first | (with_reducible first | exact HB.out | apply below_alloc | apply pw_below_drewN | apply below_drew1) | exact HB.out)⟩
              · replace c20 := Bool.eq_false_iff.mpr c20
                subst c20
                have H1 : (insolvencylaw11_LexerAgain.l1 kj15 t216 t224 (t216.length : Int) 0) = some r := by rw [if_neg (show ¬ (false = true) by decide)] at H; exact H
                clear H
                have H := H1
                clear H1
                have H' := Aside0.mk H
                clear H
                go_wp2
                repeat (go_quiet (fail); try go_wp2)
                go_loopg [57] kj15 (fun kq v57 w' => ∃ (x57_3 : Int), v57 = .int .i64 x57_3 ∧ Aside0 (insolvencylaw11_LexerAgain.l1 kq t216 t224 (t216.length : Int) x57_3 = some r) ∧ Aside0 (kq ≤ kj15) ∧ Aside0 (Kd.R k35 35 w' w.heap.size (fun k_ => some k_ ≠ (v227 : Value).ownBlock) (.slice Ao7 t216.length co7) t216) ∧ Aside0 (Kd.R k35 35 w' w.heap.size (fun k_ => some k_ ≠ ((.slice Ao7 t216.length co7) : Value).ownBlock) v227 t224) ∧ Aside0 (Below w.heap.size w w'))
                case atStart => exact ⟨(0), (by first | rfl | (simp; done) | (simp [*]; done)), H', ⟨Nat.le_refl _⟩, ⟨by (with_reducible repeat (first | apply Kd.R_alloc | apply Kd.R_drewN | apply Kd.R_drew)); exact HO_3.out⟩, ⟨by (with_reducible repeat (first | apply Kd.R_alloc | apply Kd.R_drewN | apply Kd.R_drew)); exact HO_9.out⟩, ⟨by repeat (first | (with_reducible first | exact HB.out | apply below_alloc | apply pw_below_drewN | apply below_drew1) | exact HB.out)⟩⟩
                case round =>
                  clear H'
                  try clear c1
                  try clear c2
                  try clear p2
                  try clear q2
                  try clear hx2
                  try clear c4
                  try clear c4b0
                  try clear c4b1
                  try clear c6
                  try clear p6
                  try clear c8
                  try clear c8b0
                  try clear c9
                  try clear c9b0
                  try clear c10
                  try clear c10b0
                  try clear c11
                  try clear c11b0
                  try clear c11b1
                  try clear c11b2
                  try clear c12
                  try clear c12b0
                  try clear c12b1
                  try clear c12b2
                  try clear c18
                  try clear c18b0
                  try clear c18b1
                  try clear c20
                  try clear hcz14_0
                  try clear hcz14_1
                  try clear hcz14_2
                  try clear hfz14_0
                  try clear hfz14_1
                  try clear hfz14_2
                  try clear hx222_0
                  try clear hx222_1
                  try clear hx222_2
                  try clear p2
                  try clear p222
                  try clear p6
                  try clear q2
                  try clear q222
                  obtain ⟨x57_3, rfl, HA, HK3, HO_3, HO_9, HB⟩ := hrel
                  cases gk with
                  | zero => exact absurd HA.out (by simp [insolvencylaw11_LexerAgain.l1])
                  | succ k3 =>
                    have H := HA.out
                    clear HA
                    simp only [insolvencylaw11_LexerAgain.l1] at H
                    by_cases c21 : x57_3 < (t216.length : Int)
                    · rw [if_pos c21] at H
                      have c21b0 : decide (x57_3 < (t216.length : Int)) = true := decide_eq_true c21
                      clear c21
                      by_cases c22 : 0 ≤ x57_3
                      · rw [if_pos c22] at H
                        have c22b0 : decide (0 ≤ x57_3) = true := decide_eq_true c22
                        clear c22
                        by_cases c23 : x57_3 < (t216.length : Int)
                        · rw [if_pos c23] at H
                          have c23b0 : decide (x57_3 < (t216.length : Int)) = true := decide_eq_true c23
                          clear c23
                          by_cases c24 : x57_3 < (t224.length : Int)
                          · rw [if_pos c24] at H
                            have c24b0 : decide (x57_3 < (t224.length : Int)) = true := decide_eq_true c24
                            clear c24
                            by_cases c25 : ((rd_T35 t216 x57_3).f0) = ((rd_T35 t224 x57_3).f0)
                            · rw [if_pos c25] at H
                              have c25b0 : (((rd_T35 t216 x57_3).f0) == ((rd_T35 t224 x57_3).f0)) = true := beq_iff_eq.mpr c25
                              have c25b1 : (((rd_T35 t216 x57_3).f0) != ((rd_T35 t224 x57_3).f0)) = false := bne_eq_false_iff_eq.mpr c25
                              clear c25
                              by_cases c26 : ((rd_T35 t216 x57_3).f1).toList = ((rd_T35 t224 x57_3).f1).toList
                              · rw [if_pos c26] at H
                                have c26b0 : (((rd_T35 t216 x57_3).f1).toList == ((rd_T35 t224 x57_3).f1).toList) = true := beq_iff_eq.mpr c26
                                have c26b1 : (((rd_T35 t216 x57_3).f1).toList != ((rd_T35 t224 x57_3).f1).toList) = false := bne_eq_false_iff_eq.mpr c26
                                clear c26
                                have H' := Aside0.mk H
                                clear H
                                have p229 : 0 ≤ (x57_3 : Int) := of_decide_eq_true (by first | (with_reducible assumption) | assumption)
                                have q229 : x57_3 < (t216.length : Int) := of_decide_eq_true (by first | (with_reducible assumption) | assumption)
                                obtain ⟨ad229, e229, hx229_0, hx229_1, hx229_2⟩ := at_T35 (Kd.R_reads' HO_3.out).2.2 x57_3 p229 q229
                                cases e229
                                replace p229 := eq_true p229
                                replace q229 := eq_true q229
                                obtain ⟨Ao27, co27, eo27⟩ := Kd.R_slice HO_9.out
                                subst eo27
                                have p230 : 0 ≤ (x57_3 : Int) := of_decide_eq_true (by first | (with_reducible assumption) | assumption)
                                have q230 : x57_3 < (t224.length : Int) := of_decide_eq_true (by first | (with_reducible assumption) | assumption)
                                obtain ⟨ad230, e230, hx230_0, hx230_1, hx230_2⟩ := at_T35 (Kd.R_reads' HO_9.out).2.2 x57_3 p230 q230
                                cases e230
                                replace p230 := eq_true p230
                                replace q230 := eq_true q230
                                have p231 : 0 ≤ (x57_3 : Int) := of_decide_eq_true (by first | (with_reducible assumption) | assumption)
                                have q231 : x57_3 < (t216.length : Int) := of_decide_eq_true (by first | (with_reducible assumption) | assumption)
                                obtain ⟨ad231, e231, hx231_0, hx231_1, hx231_2⟩ := at_T35 (Kd.R_reads' HO_3.out).2.2 x57_3 p231 q231
                                obtain rfl : ad229 = ad231 := (by injection e231)
                                replace p231 := eq_true p231
                                replace q231 := eq_true q231
                                have p232 : 0 ≤ (x57_3 : Int) := of_decide_eq_true (by first | (with_reducible assumption) | assumption)
                                have q232 : x57_3 < (t224.length : Int) := of_decide_eq_true (by first | (with_reducible assumption) | assumption)
                                obtain ⟨ad232, e232, hx232_0, hx232_1, hx232_2⟩ := at_T35 (Kd.R_reads' HO_9.out).2.2 x57_3 p232 q232
                                obtain rfl : ad230 = ad232 := (by injection e232)
                                replace p232 := eq_true p232
                                replace q232 := eq_true q232
                                go_wp2
                                repeat (go_quiet (fail); try go_wp2)
                                go_roundg k3
                                case measure => have := HK1.out; have := HJ15.out; have := HK3.out; omega
                                case rel => exact ⟨(wrap64 (x57_3 + 1)), (by first | rfl | (simp; done) | (simp [*]; done)), H', ⟨by have := HK1.out; have := HJ15.out; have := HK3.out; omega⟩, ⟨by (with_reducible repeat (first | apply Kd.R_alloc | apply Kd.R_drewN | apply Kd.R_drew)); exact HO_3.out⟩, ⟨by (with_reducible repeat (first | apply Kd.R_alloc | apply Kd.R_drewN | apply Kd.R_drew)); exact HO_9.out⟩, ⟨by repeat (first | (with_reducible first | exact HB.out | apply below_alloc | apply pw_below_drewN | apply below_drew1) | exact HB.out)⟩⟩
                              · rw [if_neg c26] at H
                                have c26b0 : (((rd_T35 t216 x57_3).f1).toList == ((rd_T35 t224 x57_3).f1).toList) = false := beq_eq_false_iff_ne.mpr c26
                                have c26b1 : (((rd_T35 t216 x57_3).f1).toList != ((rd_T35 t224 x57_3).f1).toList) = true := bne_iff_ne.mpr c26
                                obtain rfl := Option.some.inj H
                                have p229 : 0 ≤ (x57_3 : Int) := of_decide_eq_true (by first | (with_reducible assumption) | assumption)
                                have q229 : x57_3 < (t216.length : Int) := of_decide_eq_true (by first | (with_reducible assumption) | assumption)
                                obtain ⟨ad229, e229, hx229_0, hx229_1, hx229_2⟩ := at_T35 (Kd.R_reads' HO_3.out).2.2 x57_3 p229 q229
                                cases e229
                                replace p229 := eq_true p229
                                replace q229 := eq_true q229
                                obtain ⟨Ao28, co28, eo28⟩ := Kd.R_slice HO_9.out
                                subst eo28
                                have p230 : 0 ≤ (x57_3 : Int) := of_decide_eq_true (by first | (with_reducible assumption) | assumption)
                                have q230 : x57_3 < (t224.length : Int) := of_decide_eq_true (by first | (with_reducible assumption) | assumption)
                                obtain ⟨ad230, e230, hx230_0, hx230_1, hx230_2⟩ := at_T35 (Kd.R_reads' HO_9.out).2.2 x57_3 p230 q230
                                cases e230
                                replace p230 := eq_true p230
                                replace q230 := eq_true q230
                                have p231 : 0 ≤ (x57_3 : Int) := of_decide_eq_true (by first | (with_reducible assumption) | assumption)
                                have q231 : x57_3 < (t216.length : Int) := of_decide_eq_true (by first | (with_reducible assumption) | assumption)
                                obtain ⟨ad231, e231, hx231_0, hx231_1, hx231_2⟩ := at_T35 (Kd.R_reads' HO_3.out).2.2 x57_3 p231 q231
                                obtain rfl : ad229 = ad231 := (by injection e231)
                                replace p231 := eq_true p231
                                replace q231 := eq_true q231
                                have p232 : 0 ≤ (x57_3 : Int) := of_decide_eq_true (by first | (with_reducible assumption) | assumption)
                                have q232 : x57_3 < (t224.length : Int) := of_decide_eq_true (by first | (with_reducible assumption) | assumption)
                                obtain ⟨ad232, e232, hx232_0, hx232_1, hx232_2⟩ := at_T35 (Kd.R_reads' HO_9.out).2.2 x57_3 p232 q232
                                obtain rfl : ad230 = ad232 := (by injection e232)
                                replace p232 := eq_true p232
                                replace q232 := eq_true q232
                                go_wp2
                                repeat (go_quiet (fail); try go_wp2)
                                go_ret
                                exact ⟨by first | rfl | (simp [errW_none, errW_some] <;> rfl) | (simp [*, errW_none, errW_some] <;> rfl), by repeat (first | (with_reducible first | exact HB.out | apply below_alloc | apply pw_below_drewN | apply below_drew1) | exact HB.out)⟩
                            · rw [if_neg c25] at H
                              have c25b0 : (((rd_T35 t216 x57_3).f0) == ((rd_T35 t224 x57_3).f0)) = false := beq_eq_false_iff_ne.mpr c25
                              have c25b1 : (((rd_T35 t216 x57_3).f0) != ((rd_T35 t224 x57_3).f0)) = true := bne_iff_ne.mpr c25
                              obtain rfl := Option.some.inj H
                              have p229 : 0 ≤ (x57_3 : Int) := of_decide_eq_true (by first | (with_reducible assumption) | assumption)
                              have q229 : x57_3 < (t216.length : Int) := of_decide_eq_true (by first | (with_reducible assumption) | assumption)
                              obtain ⟨ad229, e229, hx229_0, hx229_1, hx229_2⟩ := at_T35 (Kd.R_reads' HO_3.out).2.2 x57_3 p229 q229
                              cases e229
                              replace p229 := eq_true p229
                              replace q229 := eq_true q229
                              obtain ⟨Ao29, co29, eo29⟩ := Kd.R_slice HO_9.out
                              subst eo29
                              have p230 : 0 ≤ (x57_3 : Int) := of_decide_eq_true (by first | (with_reducible assumption) | assumption)
                              have q230 : x57_3 < (t224.length : Int) := of_decide_eq_true (by first | (with_reducible assumption) | assumption)
                              obtain ⟨ad230, e230, hx230_0, hx230_1, hx230_2⟩ := at_T35 (Kd.R_reads' HO_9.out).2.2 x57_3 p230 q230
                              cases e230
                              replace p230 := eq_true p230
                              replace q230 := eq_true q230
                              go_wp2
                              repeat (go_quiet (fail); try go_wp2)
                              go_ret
                              exact ⟨by first | rfl | (simp [errW_none, errW_some] <;> rfl) | (simp [*, errW_none, errW_some] <;> rfl), by repeat (first | (with_reducible first | exact HB.out | apply below_alloc | apply pw_below_drewN | apply below_drew1) | exact HB.out)⟩
                          · rw [if_neg c24] at H
                            exact absurd H (by simp)
                        · rw [if_neg c23] at H
                          exact absurd H (by simp)
                      · rw [if_neg c22] at H
                        exact absurd H (by simp)
                    · rw [if_neg c21] at H
                      have c21b0 : decide (x57_3 < (t216.length : Int)) = false := decide_eq_false c21
                      clear c21
                      replace H := Option.bind_eq_some_iff.mp H
                      obtain ⟨t233, A300, H⟩ := H
                      replace H : (some t233) = some r := H
                      have A30 := Aside0.mk A300
                      clear A300
                      obtain rfl := Option.some.inj H
                      go_wp2_with (first | (go_at_call 9; (with_reducible refine (insolvencylaw11_awake.calls k3  t233 _ A30.out).mono ?_); rintro e w31 ⟨rfl, hb⟩; have n0_ := Aside0.mk (Kd.R_below (by (with_reducible repeat (first | apply Kd.R_alloc | apply Kd.R_drewN | apply Kd.R_drew)); exact HO_3.out) hb); have n1_ := Aside0.mk (Kd.R_below (by (with_reducible repeat (first | apply Kd.R_alloc | apply Kd.R_drewN | apply Kd.R_drew)); exact HO_9.out) hb); have n2_ := Aside0.mk (below_step (by repeat (first | (with_reducible first | exact HB.out | apply below_alloc | apply pw_below_drewN | apply below_drew1) | exact HB.out)) hb); clear HO_3; clear HO_9; clear HB; have HO_3 := n0_; have HO_9 := n1_; have HB := n2_; clear n0_ n1_ n2_; (try clear hb); (try clear hb2); (try clear hk); (try clear hi)))
                      repeat (go_quiet (first | (go_at_call 9; (with_reducible refine (insolvencylaw11_awake.calls k3  t233 _ A30.out).mono ?_); rintro e w31 ⟨rfl, hb⟩; have n0_ := Aside0.mk (Kd.R_below (by (with_reducible repeat (first | apply Kd.R_alloc | apply Kd.R_drewN | apply Kd.R_drew)); exact HO_3.out) hb); have n1_ := Aside0.mk (Kd.R_below (by (with_reducible repeat (first | apply Kd.R_alloc | apply Kd.R_drewN | apply Kd.R_drew)); exact HO_9.out) hb); have n2_ := Aside0.mk (below_step (by repeat (first | (with_reducible first | exact HB.out | apply below_alloc | apply pw_below_drewN | apply below_drew1) | exact HB.out)) hb); clear HO_3; clear HO_9; clear HB; have HO_3 := n0_; have HO_9 := n1_; have HB := n2_; clear n0_ n1_ n2_; (try clear hb); (try clear hb2); (try clear hk); (try clear hi))); try go_wp2_with (first | (go_at_call 9; (with_reducible refine (insolvencylaw11_awake.calls k3  t233 _ A30.out).mono ?_); rintro e w31 ⟨rfl, hb⟩; have n0_ := Aside0.mk (Kd.R_below (by (with_reducible repeat (first | apply Kd.R_alloc | apply Kd.R_drewN | apply Kd.R_drew)); exact HO_3.out) hb); have n1_ := Aside0.mk (Kd.R_below (by (with_reducible repeat (first | apply Kd.R_alloc | apply Kd.R_drewN | apply Kd.R_drew)); exact HO_9.out) hb); have n2_ := Aside0.mk (below_step (by repeat (first | (with_reducible first | exact HB.out | apply below_alloc | apply pw_below_drewN | apply below_drew1) | exact HB.out)) hb); clear HO_3; clear HO_9; clear HB; have HO_3 := n0_; have HO_9 := n1_; have HB := n2_; clear n0_ n1_ n2_; (try clear hb); (try clear hb2); (try clear hk); (try clear hi))))
                      go_ret
                      exact ⟨by first | rfl | (simp [errW_none, errW_some] <;> rfl) | (simp [*, errW_none, errW_some] <;> rfl), by repeat (first | (with_reducible first | exact HB.out | apply below_alloc | apply pw_below_drewN | apply below_drew1) | exact HB.out)⟩
  · rw [if_neg c4] at H
    have c4b0 : (t218 == 0) = false := beq_eq_false_iff_ne.mpr c4
    have c4b1 : (t218 != 0) = true := bne_iff_ne.mpr c4
    replace H := Option.bind_eq_some_iff.mp H
    obtain ⟨t221, A320, H⟩ := H
    replace H : (if t221 = true then (some ((t216.length : Int) == 0)) else (some false)) = some r := H
    have A32 := Aside0.mk A320
    clear A320
    by_cases c33 : t221 = true
    · subst c33
      have H1 : (some ((t216.length : Int) == 0)) = some r := by rw [if_pos rfl] at H; exact H
      clear H
      have H := H1
      clear H1
      obtain rfl := Option.some.inj H
      go_enter Try.func6, Try.ntmps6
      go_wp2_with (first | (go_at_call 15; (with_reducible refine (insolvencylaw11_pieces.calls k _ _ l0 t215 _ ?side1 ?side2 A2.out).mono ?_); (case side1 => repeat (first | exact HR0.out | (with_reducible refine Kd.C_alloc ?_ _) | (with_reducible refine Kd.C_drewN ?_ _) | (with_reducible refine Kd.C_drew ?_))); (case side2 => exact HC0.out); rintro e w34 ⟨rfl, hb⟩; have n0_ := Aside0.mk (below_step (by repeat (first | (with_reducible first | exact HB.out | apply below_alloc | apply pw_below_drewN | apply below_drew1) | exact HB.out)) hb); clear HB; have HB := n0_; clear n0_; (try clear hb); (try clear hb2); (try clear hk); (try clear hi)) | (go_at_call 12; (with_reducible refine (lexer_Split.calls k t215 t216 t217 t218 _ A3.out).mono ?_); rintro e w35 ⟨v219, rfl, ho0, hb⟩; have n0_ := Aside0.mk (Kd.R_lower ho0 (below_size (by repeat (first | (with_reducible first | exact HB.out | apply below_alloc | apply pw_below_drewN | apply below_drew1) | exact HB.out)))); have n1_ := Aside0.mk (below_step (by repeat (first | (with_reducible first | exact HB.out | apply below_alloc | apply pw_below_drewN | apply below_drew1) | exact HB.out)) hb); clear HB; have HO220 := n0_; have HB := n1_; clear n0_ n1_; (try clear hb); (try clear hb2); (try clear hk); (try clear hi); (try clear ho0)) | (go_at_call 9; (with_reducible refine (insolvencylaw11_awake.calls k  true _ A32.out).mono ?_); rintro e w36 ⟨rfl, hb⟩; have n0_ := Aside0.mk (Kd.R_below (by (with_reducible repeat (first | apply Kd.R_alloc | apply Kd.R_drewN | apply Kd.R_drew)); exact HO220.out) hb); have n1_ := Aside0.mk (below_step (by repeat (first | (with_reducible first | exact HB.out | apply below_alloc | apply pw_below_drewN | apply below_drew1) | exact HB.out)) hb); clear HO220; clear HB; have HO220 := n0_; have HB := n1_; clear n0_ n1_; (try clear hb); (try clear hb2); (try clear hk); (try clear hi); obtain ⟨Ao37, co37, eo37⟩ := Kd.R_slice HO220.out; subst eo37))
      repeat (go_quiet (first | (go_at_call 15; (with_reducible refine (insolvencylaw11_pieces.calls k _ _ l0 t215 _ ?side1 ?side2 A2.out).mono ?_); (case side1 => repeat (first | exact HR0.out | (with_reducible refine Kd.C_alloc ?_ _) | (with_reducible refine Kd.C_drewN ?_ _) | (with_reducible refine Kd.C_drew ?_))); (case side2 => exact HC0.out); rintro e w34 ⟨rfl, hb⟩; have n0_ := Aside0.mk (below_step (by repeat (first | (with_reducible first | exact HB.out | apply below_alloc | apply pw_below_drewN | apply below_drew1) | exact HB.out)) hb); clear HB; have HB := n0_; clear n0_; (try clear hb); (try clear hb2); (try clear hk); (try clear hi)) | (go_at_call 12; (with_reducible refine (lexer_Split.calls k t215 t216 t217 t218 _ A3.out).mono ?_); rintro e w35 ⟨v219, rfl, ho0, hb⟩; have n0_ := Aside0.mk (Kd.R_lower ho0 (below_size (by repeat (first | (with_reducible first | exact HB.out | apply below_alloc | apply pw_below_drewN | apply below_drew1) | exact HB.out)))); have n1_ := Aside0.mk (below_step (by repeat (first | (with_reducible first | exact HB.out | apply below_alloc | apply pw_below_drewN | apply below_drew1) | exact HB.out)) hb); clear HB; have HO220 := n0_; have HB := n1_; clear n0_ n1_; (try clear hb); (try clear hb2); (try clear hk); (try clear hi); (try clear ho0)) | (go_at_call 9; (with_reducible refine (insolvencylaw11_awake.calls k  true _ A32.out).mono ?_); rintro e w36 ⟨rfl, hb⟩; have n0_ := Aside0.mk (Kd.R_below (by (with_reducible repeat (first | apply Kd.R_alloc | apply Kd.R_drewN | apply Kd.R_drew)); exact HO220.out) hb); have n1_ := Aside0.mk (below_step (by repeat (first | (with_reducible first | exact HB.out | apply below_alloc | apply pw_below_drewN | apply below_drew1) | exact HB.out)) hb); clear HO220; clear HB; have HO220 := n0_; have HB := n1_; clear n0_ n1_; (try clear hb); (try clear hb2); (try clear hk); (try clear hi); obtain ⟨Ao37, co37, eo37⟩ := Kd.R_slice HO220.out; subst eo37)); try go_wp2_with (first | (go_at_call 15; (with_reducible refine (insolvencylaw11_pieces.calls k _ _ l0 t215 _ ?side1 ?side2 A2.out).mono ?_); (case side1 => repeat (first | exact HR0.out | (with_reducible refine Kd.C_alloc ?_ _) | (with_reducible refine Kd.C_drewN ?_ _) | (with_reducible refine Kd.C_drew ?_))); (case side2 => exact HC0.out); rintro e w34 ⟨rfl, hb⟩; have n0_ := Aside0.mk (below_step (by repeat (first | (with_reducible first | exact HB.out | apply below_alloc | apply pw_below_drewN | apply below_drew1) | exact HB.out)) hb); clear HB; have HB := n0_; clear n0_; (try clear hb); (try clear hb2); (try clear hk); (try clear hi)) | (go_at_call 12; (with_reducible refine (lexer_Split.calls k t215 t216 t217 t218 _ A3.out).mono ?_); rintro e w35 ⟨v219, rfl, ho0, hb⟩; have n0_ := Aside0.mk (Kd.R_lower ho0 (below_size (by repeat (first | (with_reducible first | exact HB.out | apply below_alloc | apply pw_below_drewN | apply below_drew1) | exact HB.out)))); have n1_ := Aside0.mk (below_step (by repeat (first | (with_reducible first | exact HB.out | apply below_alloc | apply pw_below_drewN | apply below_drew1) | exact HB.out)) hb); clear HB; have HO220 := n0_; have HB := n1_; clear n0_ n1_; (try clear hb); (try clear hb2); (try clear hk); (try clear hi); (try clear ho0)) | (go_at_call 9; (with_reducible refine (insolvencylaw11_awake.calls k  true _ A32.out).mono ?_); rintro e w36 ⟨rfl, hb⟩; have n0_ := Aside0.mk (Kd.R_below (by (with_reducible repeat (first | apply Kd.R_alloc | apply Kd.R_drewN | apply Kd.R_drew)); exact HO220.out) hb); have n1_ := Aside0.mk (below_step (by repeat (first | (with_reducible first | exact HB.out | apply below_alloc | apply pw_below_drewN | apply below_drew1) | exact HB.out)) hb); clear HO220; clear HB; have HO220 := n0_; have HB := n1_; clear n0_ n1_; (try clear hb); (try clear hb2); (try clear hk); (try clear hi); obtain ⟨Ao37, co37, eo37⟩ := Kd.R_slice HO220.out; subst eo37)))
      go_ret
      exact ⟨by first | rfl | (simp [errW_none, errW_some] <;> rfl) | (simp [*, errW_none, errW_some] <;> rfl), by repeat (first | (with_reducible first | exact HB.out | apply below_alloc | apply pw_below_drewN | apply below_drew1) | exact HB.out)⟩
    · replace c33 := Bool.eq_false_iff.mpr c33
      subst c33
      have H1 : (some false) = some r := by rw [if_neg (show ¬ (false = true) by decide)] at H; exact H
      clear H
      have H := H1
      clear H1
      obtain rfl := Option.some.inj H
      go_enter Try.func6, Try.ntmps6
      go_wp2_with (first | (go_at_call 15; (with_reducible refine (insolvencylaw11_pieces.calls k _ _ l0 t215 _ ?side1 ?side2 A2.out).mono ?_); (case side1 => repeat (first | exact HR0.out | (with_reducible refine Kd.C_alloc ?_ _) | (with_reducible refine Kd.C_drewN ?_ _) | (with_reducible refine Kd.C_drew ?_))); (case side2 => exact HC0.out); rintro e w38 ⟨rfl, hb⟩; have n0_ := Aside0.mk (below_step (by repeat (first | (with_reducible first | exact HB.out | apply below_alloc | apply pw_below_drewN | apply below_drew1) | exact HB.out)) hb); clear HB; have HB := n0_; clear n0_; (try clear hb); (try clear hb2); (try clear hk); (try clear hi)) | (go_at_call 12; (with_reducible refine (lexer_Split.calls k t215 t216 t217 t218 _ A3.out).mono ?_); rintro e w39 ⟨v219, rfl, ho0, hb⟩; have n0_ := Aside0.mk (Kd.R_lower ho0 (below_size (by repeat (first | (with_reducible first | exact HB.out | apply below_alloc | apply pw_below_drewN | apply below_drew1) | exact HB.out)))); have n1_ := Aside0.mk (below_step (by repeat (first | (with_reducible first | exact HB.out | apply below_alloc | apply pw_below_drewN | apply below_drew1) | exact HB.out)) hb); clear HB; have HO220 := n0_; have HB := n1_; clear n0_ n1_; (try clear hb); (try clear hb2); (try clear hk); (try clear hi); (try clear ho0)) | (go_at_call 9; (with_reducible refine (insolvencylaw11_awake.calls k  false _ A32.out).mono ?_); rintro e w40 ⟨rfl, hb⟩; have n0_ := Aside0.mk (Kd.R_below (by (with_reducible repeat (first | apply Kd.R_alloc | apply Kd.R_drewN | apply Kd.R_drew)); exact HO220.out) hb); have n1_ := Aside0.mk (below_step (by repeat (first | (with_reducible first | exact HB.out | apply below_alloc | apply pw_below_drewN | apply below_drew1) | exact HB.out)) hb); clear HO220; clear HB; have HO220 := n0_; have HB := n1_; clear n0_ n1_; (try clear hb); (try clear hb2); (try clear hk); (try clear hi)))
      repeat (go_quiet (first | (go_at_call 15; (with_reducible refine (insolvencylaw11_pieces.calls k _ _ l0 t215 _ ?side1 ?side2 A2.out).mono ?_); (case side1 => repeat (first | exact HR0.out | (with_reducible refine Kd.C_alloc ?_ _) | (with_reducible refine Kd.C_drewN ?_ _) | (with_reducible refine Kd.C_drew ?_))); (case side2 => exact HC0.out); rintro e w38 ⟨rfl, hb⟩; have n0_ := Aside0.mk (below_step (by repeat (first | (with_reducible first | exact HB.out | apply below_alloc | apply pw_below_drewN | apply below_drew1) | exact HB.out)) hb); clear HB; have HB := n0_; clear n0_; (try clear hb); (try clear hb2); (try clear hk); (try clear hi)) | (go_at_call 12; (with_reducible refine (lexer_Split.calls k t215 t216 t217 t218 _ A3.out).mono ?_); rintro e w39 ⟨v219, rfl, ho0, hb⟩; have n0_ := Aside0.mk (Kd.R_lower ho0 (below_size (by repeat (first | (with_reducible first | exact HB.out | apply below_alloc | apply pw_below_drewN | apply below_drew1) | exact HB.out)))); have n1_ := Aside0.mk (below_step (by repeat (first | (with_reducible first | exact HB.out | apply below_alloc | apply pw_below_drewN | apply below_drew1) | exact HB.out)) hb); clear HB; have HO220 := n0_; have HB := n1_; clear n0_ n1_; (try clear hb); (try clear hb2); (try clear hk); (try clear hi); (try clear ho0)) | (go_at_call 9; (with_reducible refine (insolvencylaw11_awake.calls k  false _ A32.out).mono ?_); rintro e w40 ⟨rfl, hb⟩; have n0_ := Aside0.mk (Kd.R_below (by (with_reducible repeat (first | apply Kd.R_alloc | apply Kd.R_drewN | apply Kd.R_drew)); exact HO220.out) hb); have n1_ := Aside0.mk (below_step (by repeat (first | (with_reducible first | exact HB.out | apply below_alloc | apply pw_below_drewN | apply below_drew1) | exact HB.out)) hb); clear HO220; clear HB; have HO220 := n0_; have HB := n1_; clear n0_ n1_; (try clear hb); (try clear hb2); (try clear hk); (try clear hi))); try go_wp2_with (first | (go_at_call 15; (with_reducible refine (insolvencylaw11_pieces.calls k _ _ l0 t215 _ ?side1 ?side2 A2.out).mono ?_); (case side1 => repeat (first | exact HR0.out | (with_reducible refine Kd.C_alloc ?_ _) | (with_reducible refine Kd.C_drewN ?_ _) | (with_reducible refine Kd.C_drew ?_))); (case side2 => exact HC0.out); rintro e w38 ⟨rfl, hb⟩; have n0_ := Aside0.mk (below_step (by repeat (first | (with_reducible first | exact HB.out | apply below_alloc | apply pw_below_drewN | apply below_drew1) | exact HB.out)) hb); clear HB; have HB := n0_; clear n0_; (try clear hb); (try clear hb2); (try clear hk); (try clear hi)) | (go_at_call 12; (with_reducible refine (lexer_Split.calls k t215 t216 t217 t218 _ A3.out).mono ?_); rintro e w39 ⟨v219, rfl, ho0, hb⟩; have n0_ := Aside0.mk (Kd.R_lower ho0 (below_size (by repeat (first | (with_reducible first | exact HB.out | apply below_alloc | apply pw_below_drewN | apply below_drew1) | exact HB.out)))); have n1_ := Aside0.mk (below_step (by repeat (first | (with_reducible first | exact HB.out | apply below_alloc | apply pw_below_drewN | apply below_drew1) | exact HB.out)) hb); clear HB; have HO220 := n0_; have HB := n1_; clear n0_ n1_; (try clear hb); (try clear hb2); (try clear hk); (try clear hi); (try clear ho0)) | (go_at_call 9; (with_reducible refine (insolvencylaw11_awake.calls k  false _ A32.out).mono ?_); rintro e w40 ⟨rfl, hb⟩; have n0_ := Aside0.mk (Kd.R_below (by (with_reducible repeat (first | apply Kd.R_alloc | apply Kd.R_drewN | apply Kd.R_drew)); exact HO220.out) hb); have n1_ := Aside0.mk (below_step (by repeat (first | (with_reducible first | exact HB.out | apply below_alloc | apply pw_below_drewN | apply below_drew1) | exact HB.out)) hb); clear HO220; clear HB; have HO220 := n0_; have HB := n1_; clear n0_ n1_; (try clear hb); (try clear hb2); (try clear hk); (try clear hi))))
      go_ret
      exact ⟨by first | rfl | (simp [errW_none, errW_some] <;> rfl) | (simp [*, errW_none, errW_some] <;> rfl), by repeat (first | (with_reducible first | exact HB.out | apply below_alloc | apply pw_below_drewN | apply below_drew1) | exact HB.out)⟩

/-- THE ONE PURE STATEMENT of insolvencylaw11_LexerAgain: yours. -/
def insolvencylaw11_LexerAgain.Pure : Prop := ∀ (l0 : List Int), l0.length ≤ maxLen → l0.length * 1 ≤ 140737488351232 → (∀ x ∈ l0, (Lit.int .u8 x).wf = true) → ∃ k, insolvencylaw11_LexerAgain.f k l0 = some true
theorem insolvencylaw11_LexerAgain.walk (P : insolvencylaw11_LexerAgain.Pure) (a0 : Option Addr) (len0 cap0 : Nat) (z0 : List Int) (w : World) (w0 : (a0 = none ∧ len0 = 0 ∧ cap0 = 0 ∧ z0 = []) ∨ ∃ x, a0 = some x ∧ len0 ≤ cap0 ∧ cap0 ≤ maxLen ∧ z0.length = cap0 ∧ (∀ i, i < z0.length → w.cell? (x.add i) = some (.int .u8 (z0.getD i 0))) ∧ ∀ n ∈ z0, (Lit.int .u8 n).wf = true) (y0 : len0 * 1 ≤ 140737488351232) :
    Calls Try.prog 6 #[.slice a0 len0 cap0] w fun e w' => e = .returned (.bool true) ∧ Below w.heap.size w w' := by
  obtain ⟨l0, rfl, hr0, hm0, hw0, hc0⟩ := ReadsInt.ofRowC w0
  obtain ⟨k, h⟩ := P l0 hm0 y0 hw0
  refine (insolvencylaw11_LexerAgain.calls k _ _ l0 true w (Kd.C_of_reads (d := (0 : Int)) (h1 := fun _ => rfl) hr0) hc0 h).mono ?_
  rintro e w' ⟨rfl, hd⟩
  exact ⟨rfl, hd⟩

end Go.Proofs.Ytffgmmgfofbmlaa.PA
