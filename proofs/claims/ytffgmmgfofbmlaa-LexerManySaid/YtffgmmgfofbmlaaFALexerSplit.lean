-- Written by a program of this session (wip/tools/pr.py) that drives the kit's print tool over a turned print.
import Derived.Test.YtffgmmgfofbmlaaTA
import Derived.Test.YtffgmmgfofbmlaaFALexerIsletter
import Derived.Test.YtffgmmgfofbmlaaFALexerIsdigit
import Derived.Test.YtffgmmgfofbmlaaFALexerSkipInname
import Derived.Test.YtffgmmgfofbmlaaFALexerBlank
import Derived.Test.YtffgmmgfofbmlaaFALexerWord
import Derived.Test.YtffgmmgfofbmlaaFALexerNumber
import Derived.Test.YtffgmmgfofbmlaaEStringsContainsrune
namespace Go.Proofs.Ytffgmmgfofbmlaa.PA
open Go.RowKit Go.Proofs.YtffgmmgfofbmlaaW.PrintWords Go.Proofs.YtffgmmgfofbmlaaW.PrintLast Go.Proofs.YtffgmmgfofbmlaaW.PrintMore
attribute [local go_sem] max2_int min2_int max_two min_two max_three min_three max_four min_four   -- for this text's walks alone
set_option linter.unusedVariables false
set_option linter.unusedSimpArgs false

/-! ### lexer_Split: function 12 -/
mutual
def lexer_Split.l0 : Nat → ByteArray → List (S35) → Int → Option ((List (S35)) × Int × Int)
  | 0, _, _, _ => none
  | k + 1, x0, x5, x6 => if x6 < (x0.size : Int) then (if 0 ≤ x6 then (if x6 ≤ (wrap64 (x6 + 1)) then (if (wrap64 (x6 + 1)) ≤ (x0.size : Int) then ((lexer_isLetter.f (bt x0 x6)).bind fun t116 => (if t116 = true then ((lexer_skip_inName.f k x0 x6).bind fun t117 => (if x6 ≤ t117 then (if t117 ≤ (x0.size : Int) then ((lexer_word.f (x0.extract (x6 : Int).toNat (t117 : Int).toNat) x6).bind fun bt118 => (lexer_Split.j1 k x0 x5 x6 t117 bt118.1 bt118.2.1 bt118.2.2)) else (none)) else (none))) else ((lexer_isDigit.f (bt x0 x6)).bind fun t121 => (if t121 = true then ((lexer_number.f k x0 x6).bind fun t122 => (if x6 ≤ t122 then (if t122 ≤ (x0.size : Int) then (lexer_Split.j1 k x0 x5 x6 t122 2 (x0.extract (x6 : Int).toNat (t122 : Int).toNat) x6) else (none)) else (none))) else ((strings_ContainsRune.f (⟨#[61, 44, 59]⟩ : ByteArray) (wrap32 (bt x0 x6))).bind fun t123 => (if t123 = true then (lexer_Split.j1 k x0 x5 x6 (wrap64 (x6 + 1)) 4 (x0.extract (x6 : Int).toNat ((wrap64 (x6 + 1)) : Int).toNat) x6) else (some (([] : List (S35)), x6, 10)))))))) else (none)) else (none)) else (none)) else (if x5.length < 4398046511104 then (some ((x5 ++ [(⟨5, (⟨#[]⟩ : ByteArray), (x0.size : Int)⟩ : S35)]), 0, 0)) else (none))
def lexer_Split.j1 : Nat → ByteArray → List (S35) → Int → Int → Int → ByteArray → Int → Option ((List (S35)) × Int × Int)
  | 0, _, _, _, _, _, _, _ => none
  | k + 1, x0, x5, x6, x8, x116000, x116001, x116002 => if (x5.length : Int) ≥ 2048 then (lexer_Split.j2 k x0 x5 x6 x8 true x116000 x116001 x116002) else (if x116000 = 1 then (lexer_Split.j2 k x0 x5 x6 x8 (decide ((x116001.size : Int) > 32)) x116000 x116001 x116002) else (lexer_Split.j2 k x0 x5 x6 x8 false x116000 x116001 x116002))
def lexer_Split.j2 : Nat → ByteArray → List (S35) → Int → Int → Bool → Int → ByteArray → Int → Option ((List (S35)) × Int × Int)
  | 0, _, _, _, _, _, _, _, _ => none
  | k + 1, x0, x5, x6, x8, x73, x116000, x116001, x116002 => if x73 = true then (some (([] : List (S35)), x6, 2)) else (if x116000 = 2 then (if x8 < (x0.size : Int) then (if 0 ≤ x8 then ((lexer_isLetter.f (bt x0 x8)).bind fun t124 => (if t124 = true then (some (([] : List (S35)), x8, 10)) else (if (bt x0 x8) = 46 then (some (([] : List (S35)), x8, 10)) else (if (bt x0 x8) = 47 then (some (([] : List (S35)), x8, 10)) else (if x5.length < 4398046511104 then ((lexer_blank.f k x0 x8).bind fun t128 => (lexer_Split.l0 k x0 (x5 ++ [(⟨x116000, x116001, x116002⟩ : S35)]) t128)) else (none)))))) else (none)) else (if x5.length < 4398046511104 then ((lexer_blank.f k x0 x8).bind fun t132 => (lexer_Split.l0 k x0 (x5 ++ [(⟨x116000, x116001, x116002⟩ : S35)]) t132)) else (none))) else (if x5.length < 4398046511104 then ((lexer_blank.f k x0 x8).bind fun t136 => (lexer_Split.l0 k x0 (x5 ++ [(⟨x116000, x116001, x116002⟩ : S35)]) t136)) else (none)))
end
def lexer_Split.f (k : Nat) (a0 : ByteArray) : Option ((List (S35)) × Int × Int) := if (a0.size : Int) > 8192 then (some (([] : List (S35)), 0, 2)) else ((lexer_blank.f k a0 0).bind fun t111 => (lexer_Split.l0 k a0 ([] : List (S35)) t111))
theorem lexer_Split.mono_l : ∀ k, (∀ y0 y1 y2, LeO (lexer_Split.l0 k y0 y1 y2) (lexer_Split.l0 (k + 1) y0 y1 y2)) ∧ (∀ y0 y1 y2 y3 y4 y5 y6, LeO (lexer_Split.j1 k y0 y1 y2 y3 y4 y5 y6) (lexer_Split.j1 (k + 1) y0 y1 y2 y3 y4 y5 y6)) ∧ (∀ y0 y1 y2 y3 y4 y5 y6 y7, LeO (lexer_Split.j2 k y0 y1 y2 y3 y4 y5 y6 y7) (lexer_Split.j2 (k + 1) y0 y1 y2 y3 y4 y5 y6 y7))
  | 0 => ⟨fun _ _ _ r h => by simp [lexer_Split.l0] at h, fun _ _ _ _ _ _ _ r h => by simp [lexer_Split.j1] at h, fun _ _ _ _ _ _ _ _ r h => by simp [lexer_Split.j2] at h⟩
  | k + 1 => by
    obtain ⟨ih0, ih1, ih2⟩ := lexer_Split.mono_l k
    refine ⟨?_, ?_, ?_⟩
    · intro y0 y1 y2
      unfold lexer_Split.l0
      repeat' first
      | (with_reducible exact ih0 _ _ _)
      | (with_reducible exact ih1 _ _ _ _ _ _ _)
      | (with_reducible exact ih2 _ _ _ _ _ _ _ _)
      | (with_reducible exact lexer_blank.mono _ _ _)
      | (with_reducible exact lexer_number.mono _ _ _)
      | (with_reducible exact lexer_skip_inName.mono _ _ _)
      | (with_reducible exact LeO.refl _)
      | (with_reducible exact LeO.none _)
      | (with_reducible refine LeO.ite ?_ ?_)
      | (with_reducible refine LeO.bind ?_ (fun _ => ?_))
      | exact ih0 _ _ _
      | exact ih1 _ _ _ _ _ _ _
      | exact ih2 _ _ _ _ _ _ _ _
      | exact lexer_blank.mono _ _ _
      | exact lexer_number.mono _ _ _
      | exact lexer_skip_inName.mono _ _ _
      | exact LeO.none _
      | refine LeO.ite ?_ ?_
      | refine LeO.bind ?_ (fun _ => ?_)
    · intro y0 y1 y2 y3 y4 y5 y6
      unfold lexer_Split.j1
      repeat' first
      | (with_reducible exact ih0 _ _ _)
      | (with_reducible exact ih1 _ _ _ _ _ _ _)
      | (with_reducible exact ih2 _ _ _ _ _ _ _ _)
      | (with_reducible exact lexer_blank.mono _ _ _)
      | (with_reducible exact lexer_number.mono _ _ _)
      | (with_reducible exact lexer_skip_inName.mono _ _ _)
      | (with_reducible exact LeO.refl _)
      | (with_reducible exact LeO.none _)
      | (with_reducible refine LeO.ite ?_ ?_)
      | (with_reducible refine LeO.bind ?_ (fun _ => ?_))
      | exact ih0 _ _ _
      | exact ih1 _ _ _ _ _ _ _
      | exact ih2 _ _ _ _ _ _ _ _
      | exact lexer_blank.mono _ _ _
      | exact lexer_number.mono _ _ _
      | exact lexer_skip_inName.mono _ _ _
      | exact LeO.none _
      | refine LeO.ite ?_ ?_
      | refine LeO.bind ?_ (fun _ => ?_)
    · intro y0 y1 y2 y3 y4 y5 y6 y7
      unfold lexer_Split.j2
      repeat' first
      | (with_reducible exact ih0 _ _ _)
      | (with_reducible exact ih1 _ _ _ _ _ _ _)
      | (with_reducible exact ih2 _ _ _ _ _ _ _ _)
      | (with_reducible exact lexer_blank.mono _ _ _)
      | (with_reducible exact lexer_number.mono _ _ _)
      | (with_reducible exact lexer_skip_inName.mono _ _ _)
      | (with_reducible exact LeO.refl _)
      | (with_reducible exact LeO.none _)
      | (with_reducible refine LeO.ite ?_ ?_)
      | (with_reducible refine LeO.bind ?_ (fun _ => ?_))
      | exact ih0 _ _ _
      | exact ih1 _ _ _ _ _ _ _
      | exact ih2 _ _ _ _ _ _ _ _
      | exact lexer_blank.mono _ _ _
      | exact lexer_number.mono _ _ _
      | exact lexer_skip_inName.mono _ _ _
      | exact LeO.none _
      | refine LeO.ite ?_ ?_
      | refine LeO.bind ?_ (fun _ => ?_)
theorem lexer_Split.mono : ∀ a0 k, LeO (lexer_Split.f k a0) (lexer_Split.f (k + 1) a0) := by
  intro a0 k
  obtain ⟨ih0, ih1, ih2⟩ := lexer_Split.mono_l k
  unfold lexer_Split.f
  repeat' first
      | (with_reducible exact ih0 _ _ _)
      | (with_reducible exact ih1 _ _ _ _ _ _ _)
      | (with_reducible exact ih2 _ _ _ _ _ _ _ _)
      | (with_reducible exact lexer_blank.mono _ _ _)
      | (with_reducible exact lexer_number.mono _ _ _)
      | (with_reducible exact lexer_skip_inName.mono _ _ _)
      | (with_reducible exact LeO.refl _)
      | (with_reducible exact LeO.none _)
      | (with_reducible refine LeO.ite ?_ ?_)
      | (with_reducible refine LeO.bind ?_ (fun _ => ?_))
      | exact ih0 _ _ _
      | exact ih1 _ _ _ _ _ _ _
      | exact ih2 _ _ _ _ _ _ _ _
      | exact lexer_blank.mono _ _ _
      | exact lexer_number.mono _ _ _
      | exact lexer_skip_inName.mono _ _ _
      | exact LeO.none _
      | refine LeO.ite ?_ ?_
      | refine LeO.bind ?_ (fun _ => ?_)
set_option maxHeartbeats 8000000 in
set_option maxRecDepth 100000 in
theorem lexer_Split.calls (k : Nat) (a0 : ByteArray) (r1 : List (S35)) (r2 : Int) (r3 : Int) (w : World) (h : lexer_Split.f k a0 = some (r1, r2, r3)) :
    Calls Try.prog 12 #[.string a0] w fun e w' => ∃ v0_ : Value, e = .returned (.tuple #[v0_, .int .i64 r2, .int .i64 r3]) ∧ Kd.R k35 35 w' w.heap.size (fun _ => True) v0_ r1 ∧ Below w.heap.size w w' := by
  have hu35 := Try.underlying35
  have HB := Aside0.mk (Below.refl w.heap.size w)
  have H : (if (a0.size : Int) > 8192 then (some (([] : List (S35)), 0, 2)) else ((lexer_blank.f k a0 0).bind fun t111 => (lexer_Split.l0 k a0 ([] : List (S35)) t111))) = some (r1, r2, r3) := h
  clear h
  by_cases c2 : (a0.size : Int) > 8192
  · rw [if_pos c2] at H
    have c2b0 : decide (8192 < (a0.size : Int)) = true := decide_eq_true c2
    have c2b1 : decide (8192 < a0.size) = true := decide_eq_true (by omega)
    clear c2
    simp only [Option.some.injEq, Prod.mk.injEq] at H
    obtain ⟨rfl, rfl, rfl⟩ := H
    go_enter Try.func12, Try.ntmps12
    go_wp2
    go_ret3
    exact ⟨_, by first | rfl | (simp [errW_none, errW_some] <;> rfl) | (simp [*, errW_none, errW_some] <;> rfl), by first | exact Kd.R_nil _ _ _ _ _ | exact Kd.N_nil _ _ _ _ _ | exact Kd.V_nil _ _ _ _ _ | exact Kd.Q_nil _ _ _ _ _ | exact Kd.S_nil _ _ _ _ _, by repeat (first | (with_reducible first | exact HB.out | apply below_alloc | apply pw_below_drewN | apply below_drew1) | exact HB.out)⟩
  · rw [if_neg c2] at H
    have c2b0 : decide (8192 < (a0.size : Int)) = false := decide_eq_false c2
    have c2b1 : decide (8192 < a0.size) = false := decide_eq_false (by omega)
    clear c2
    replace H := Option.bind_eq_some_iff.mp H
    obtain ⟨t111, A30, H⟩ := H
    replace H : (lexer_Split.l0 k a0 ([] : List (S35)) t111) = some (r1, r2, r3) := H
    have A3 := Aside0.mk A30
    clear A30
    have H' := Aside0.mk H
    clear H
    go_enter Try.func12, Try.ntmps12
    go_wp2_with (first | ((with_reducible refine gate_callee (f := 16) rfl ?_); refine goesL_ (some 14) rfl rfl Try.func16 (by kernel_rfl) rfl #[.string a0, .int .i64 0] rfl (by (try simp only [List.map_toArray, List.map_cons, List.map_nil]); first | done | rfl | (simp only [List.length_drop, List.length_take]; rfl)) ?_; (with_reducible refine (lexer_blank.calls k a0 0 t111 _ A3.out).mono ?_); rintro e w' ⟨rfl, ⟨nd, rfl⟩⟩; refine ⟨_, rfl, ?_⟩))
    go_loopg [5, 6] k (fun kq v5 v6 w' => ∃ (x5_1 : List (S35)) (x6_1 : Int), v6 = .int .i64 x6_1 ∧ Aside0 (lexer_Split.l0 kq a0 x5_1 x6_1 = some (r1, r2, r3)) ∧ Aside0 (kq ≤ k) ∧ Aside0 (Kd.R k35 35 w' w.heap.size (fun _ => True) v5 x5_1) ∧ Aside0 (Below w.heap.size w w'))
    case atStart => exact ⟨(([] : List (S35))), (t111), (by first | rfl | (simp; done) | (simp [*]; done)), H', ⟨Nat.le_refl _⟩, ⟨by first | exact Kd.R_nil _ _ _ _ _ | exact Kd.N_nil _ _ _ _ _ | exact Kd.V_nil _ _ _ _ _ | exact Kd.Q_nil _ _ _ _ _ | exact Kd.S_nil _ _ _ _ _⟩, ⟨by repeat (first | (with_reducible first | exact HB.out | apply below_alloc | apply pw_below_drewN | apply below_drew1) | exact HB.out)⟩⟩
    case round =>
      clear H'
      try clear c1
      try clear c2
      try clear c2b0
      try clear c2b1
      try clear p2
      obtain ⟨x5_1, x6_1, rfl, HA, HK1, HO_5, HB⟩ := hrel
      cases gk with
      | zero => exact absurd HA.out (by simp [lexer_Split.l0])
      | succ k1 =>
        have H := HA.out
        clear HA
        simp only [lexer_Split.l0] at H
        by_cases c4 : x6_1 < (a0.size : Int)
        · rw [if_pos c4] at H
          have c4b0 : decide (x6_1 < (a0.size : Int)) = true := decide_eq_true c4
          clear c4
          by_cases c5 : 0 ≤ x6_1
          · rw [if_pos c5] at H
            have c5b0 : decide (0 ≤ x6_1) = true := decide_eq_true c5
            clear c5
            have c7b0 := eq_true (of_decide_eq_true (by first | (with_reducible assumption) | assumption) : 0 ≤ x6_1)
            by_cases c8 : x6_1 ≤ (wrap64 (x6_1 + 1))
            · rw [if_pos c8] at H
              have c8b0 := eq_true c8
              have c8b1 : decide (x6_1 ≤ (wrap64 (x6_1 + 1))) = true := decide_eq_true c8
              by_cases c9 : (wrap64 (x6_1 + 1)) ≤ (a0.size : Int)
              · rw [if_pos c9] at H
                have c9b0 := eq_true c9
                have c9b1 : decide ((wrap64 (x6_1 + 1)) ≤ (a0.size : Int)) = true := decide_eq_true c9
                have HC10 := Aside0.mk H
                clear H
                have p6 : 0 ≤ (x6_1 : Int) := of_decide_eq_true (by first | (with_reducible assumption) | assumption)
                have q6 : x6_1 < (a0.size : Int) := of_decide_eq_true (by first | (with_reducible assumption) | assumption)
                have hx6 := bt_at a0 x6_1
                replace p6 := eq_true p6
                replace q6 := eq_true q6
                go_upto_block 2 with (first | ((with_reducible refine gate_dst (N := 9) rfl ?_); (try (refine gate_guard (by rfl) ?_; dsimp only)); refine box_event ?hg (N := 9) ?hd (cs := #[.int .i64 0, .string (⟨#[]⟩ : ByteArray), .int .i64 0]) (t := 35) ?hr ?_; (case hd => rfl); (case hg => rfl); (case hr => first | (go_simp; done) | (go_simp; rfl)); intro gb115 hg w11 hbox hb; have n0_ := Aside0.mk (Kd.R_below (Kd.R_elderB (by (with_reducible repeat (first | apply Kd.R_alloc | apply Kd.R_drewN | apply Kd.R_drew)); exact HO_5.out) gb115 (Nat.le_of_eq hg.symm)) hb); have n1_ := Aside0.mk (below_step (by repeat (first | (with_reducible first | exact HB.out | apply below_alloc | apply pw_below_drewN | apply below_drew1) | exact HB.out)) hb); have n2_ := Aside0.mk (hbox); have n3_ := Aside0.mk ((by rw [hg]; exact (below_size (by repeat (first | (with_reducible first | exact HB.out | apply below_alloc | apply pw_below_drewN | apply below_drew1) | exact HB.out))) : w.heap.size ≤ gb115)); have n4_ := Aside0.mk ((by rw [hg]; exact (below_size (by repeat (first | (with_reducible first | exact HB.out | apply below_alloc | apply pw_below_drewN | apply below_drew1) | exact HB.out))) : w.heap.size ≤ gb115)); clear HO_5; clear HB; have HO_5 := n0_; have HB := n1_; have BK115 := n2_; have GW115 := n3_; have GE115 := n4_; clear n0_ n1_ n2_ n3_ n4_; clear hb hbox hg; have hcz12_0 : w11.cell? ⟨gb115, 0, none⟩ = some (.int .i64 0) := (blk_cell BK115.out 0).trans rfl; have hcz12_1 : w11.cell? ⟨gb115, 1, none⟩ = some (.string (⟨#[]⟩ : ByteArray)) := (blk_cell BK115.out 1).trans rfl; have hcz12_2 : w11.cell? ⟨gb115, 2, none⟩ = some (.int .i64 0) := (blk_cell BK115.out 2).trans rfl; have hfz12_0 := blk_frozen BK115.out 0; have hfz12_1 := blk_frozen BK115.out 1; have hfz12_2 := blk_frozen BK115.out 2))
                (try simp only [Act.put, List.setIfInBounds_toArray, List.set_cons_zero, List.set_cons_succ])
                go_cut [8] (fun v8 wc => ∃ (kq : Nat) (x8_9 : Int) (x116000_9 : Int) (x116001_9 : ByteArray) (x116002_9 : Int), v8 = .int .i64 x8_9 ∧ Aside0 (lexer_Split.j1 kq a0 x5_1 x6_1 x8_9 x116000_9 x116001_9 x116002_9 = some (r1, r2, r3)) ∧ Aside0 (kq ≤ k1) ∧ Aside0 (Kd.R k35 35 wc w.heap.size (fun k_ => k_ ≠ gb115) u5 x5_1) ∧ Aside0 (wc.heap[gb115]? = some (.cells #[.int .i64 x116000_9, .string x116001_9, .int .i64 x116002_9] 35 (0, 0))) ∧ Aside0 (Below w.heap.size w wc))
                case first =>
                  have H := HC10.out
                  clear HC10
                  replace H := Option.bind_eq_some_iff.mp H
                  obtain ⟨t116, A130, H⟩ := H
                  replace H : (if t116 = true then ((lexer_skip_inName.f k1 a0 x6_1).bind fun t117 => (if x6_1 ≤ t117 then (if t117 ≤ (a0.size : Int) then ((lexer_word.f (a0.extract (x6_1 : Int).toNat (t117 : Int).toNat) x6_1).bind fun bt118 => (lexer_Split.j1 k1 a0 x5_1 x6_1 t117 bt118.1 bt118.2.1 bt118.2.2)) else (none)) else (none))) else ((lexer_isDigit.f (bt a0 x6_1)).bind fun t121 => (if t121 = true then ((lexer_number.f k1 a0 x6_1).bind fun t122 => (if x6_1 ≤ t122 then (if t122 ≤ (a0.size : Int) then (lexer_Split.j1 k1 a0 x5_1 x6_1 t122 2 (a0.extract (x6_1 : Int).toNat (t122 : Int).toNat) x6_1) else (none)) else (none))) else ((strings_ContainsRune.f (⟨#[61, 44, 59]⟩ : ByteArray) (wrap32 (bt a0 x6_1))).bind fun t123 => (if t123 = true then (lexer_Split.j1 k1 a0 x5_1 x6_1 (wrap64 (x6_1 + 1)) 4 (a0.extract (x6_1 : Int).toNat ((wrap64 (x6_1 + 1)) : Int).toNat) x6_1) else (some (([] : List (S35)), x6_1, 10))))))) = some (r1, r2, r3) := H
                  have A13 := Aside0.mk A130
                  clear A130
                  by_cases c14 : t116 = true
                  · subst c14
                    have H1 : ((lexer_skip_inName.f k1 a0 x6_1).bind fun t117 => (if x6_1 ≤ t117 then (if t117 ≤ (a0.size : Int) then ((lexer_word.f (a0.extract (x6_1 : Int).toNat (t117 : Int).toNat) x6_1).bind fun bt118 => (lexer_Split.j1 k1 a0 x5_1 x6_1 t117 bt118.1 bt118.2.1 bt118.2.2)) else (none)) else (none))) = some (r1, r2, r3) := by rw [if_pos rfl] at H; exact H
                    clear H
                    have H := H1
                    clear H1
                    replace H := Option.bind_eq_some_iff.mp H
                    obtain ⟨t117, A150, H⟩ := H
                    replace H : (if x6_1 ≤ t117 then (if t117 ≤ (a0.size : Int) then ((lexer_word.f (a0.extract (x6_1 : Int).toNat (t117 : Int).toNat) x6_1).bind fun bt118 => (lexer_Split.j1 k1 a0 x5_1 x6_1 t117 bt118.1 bt118.2.1 bt118.2.2)) else (none)) else (none)) = some (r1, r2, r3) := H
                    have A15 := Aside0.mk A150
                    clear A150
                    have c16b0 := eq_true (of_decide_eq_true (by first | (with_reducible assumption) | assumption) : 0 ≤ x6_1)
                    by_cases c17 : x6_1 ≤ t117
                    · rw [if_pos c17] at H
                      have c17b0 := eq_true c17
                      have c17b1 : decide (x6_1 ≤ t117) = true := decide_eq_true c17
                      clear c17
                      by_cases c18 : t117 ≤ (a0.size : Int)
                      · rw [if_pos c18] at H
                        have c18b0 := eq_true c18
                        have c18b1 : decide (t117 ≤ (a0.size : Int)) = true := decide_eq_true c18
                        clear c18
                        replace H := Option.bind_eq_some_iff.mp H
                        obtain ⟨⟨t118, t119, t120⟩, A190, H⟩ := H
                        replace H : (lexer_Split.j1 k1 a0 x5_1 x6_1 t117 t118 t119 t120) = some (r1, r2, r3) := H
                        have A19 := Aside0.mk A190
                        clear A190
                        have H' := Aside0.mk H
                        clear H
                        go_wp2_with (first | ((with_reducible refine gate_callee (f := 17) rfl ?_); refine goesL_ (some 32) rfl rfl Try.func17 (by kernel_rfl) rfl #[.int .u8 (bt a0 x6_1)] rfl (by (try simp only [List.map_toArray, List.map_cons, List.map_nil]); first | done | rfl | (simp only [List.length_drop, List.length_take]; rfl)) ?_; (with_reducible refine (lexer_isLetter.calls (bt a0 x6_1) true _ A13.out).mono ?_); rintro e w' ⟨rfl, ⟨nd, rfl⟩⟩; refine ⟨_, rfl, ?_⟩) | ((with_reducible refine gate_callee (f := 18) rfl ?_); refine goesL_ (some 35) rfl rfl Try.func18 (by kernel_rfl) rfl #[.string a0, .int .i64 x6_1, .func (.func 19) #[] #[]] rfl (by (try simp only [List.map_toArray, List.map_cons, List.map_nil]); first | done | rfl | (simp only [List.length_drop, List.length_take]; rfl)) ?_; (with_reducible refine (lexer_skip_inName.calls k1 a0 x6_1 t117 _ A15.out).mono ?_); rintro e w' ⟨rfl, ⟨nd, rfl⟩⟩; refine ⟨_, rfl, ?_⟩) | ((with_reducible refine gate_callee (f := 20) rfl ?_); refine goesL_ (some 41) rfl rfl Try.func20 (by kernel_rfl) rfl #[.string (a0.extract (x6_1 : Int).toNat (t117 : Int).toNat), .int .i64 x6_1] rfl (by (try simp only [List.map_toArray, List.map_cons, List.map_nil]); first | done | rfl | (simp only [List.length_drop, List.length_take]; rfl)) ?_; (with_reducible refine (lexer_word.calls (a0.extract (x6_1 : Int).toNat (t117 : Int).toNat) x6_1 t118 t119 t120 _ A19.out).mono ?_); rintro e w20 ⟨rfl, hb⟩; refine ⟨_, rfl, ?_⟩; have n0_ := Aside0.mk (Kd.R_below (by (with_reducible repeat (first | apply Kd.R_alloc | apply Kd.R_drewN | apply Kd.R_drew)); exact (Kd.R_mono (Kd.R_far (p := ⟨gb115, 2, none⟩) (Kd.R_far (p := ⟨gb115, 1, none⟩) (Kd.R_far (p := ⟨gb115, 0, none⟩) (Kd.R_mono HO_5.out (fun k_ hk => (⟨hk, hk.2⟩ : _ ∧ k_ ≠ gb115))) (fun _ hk => hk.2) (.int .i64 4)) (fun _ hk => hk.2) (.string (a0.extract (x6_1 : Int).toNat ((wrap64 (x6_1 + 1)) : Int).toNat))) (fun _ hk => hk.2) (.int .i64 x6_1)) (fun _ h_ => h_.1))) hb); have n1_ := Aside0.mk (blk_below (g := gb115) (o := .cells #[.int .i64 4, .string (a0.extract (x6_1 : Int).toNat ((wrap64 (x6_1 + 1)) : Int).toNat), .int .i64 x6_1] 35 (0, 0)) (by (with_reducible repeat (first | refine blk_drewN ?_ _ | refine blk_drew ?_ | refine blk_alloc ?_ _)); refine blk_put (cs := #[.int .i64 4, .string (a0.extract (x6_1 : Int).toNat ((wrap64 (x6_1 + 1)) : Int).toNat), .int .i64 0]) ?_ 2 _ rfl; (with_reducible repeat (first | refine blk_drewN ?_ _ | refine blk_drew ?_ | refine blk_alloc ?_ _)); refine blk_put (cs := #[.int .i64 4, .string (⟨#[]⟩ : ByteArray), .int .i64 0]) ?_ 1 _ rfl; (with_reducible repeat (first | refine blk_drewN ?_ _ | refine blk_drew ?_ | refine blk_alloc ?_ _)); refine blk_put (cs := #[.int .i64 0, .string (⟨#[]⟩ : ByteArray), .int .i64 0]) ?_ 0 _ rfl; (with_reducible repeat (first | refine blk_drewN ?_ _ | refine blk_drew ?_ | refine blk_alloc ?_ _)); exact BK115.out) hb); have n2_ := Aside0.mk (below_step (by repeat (first | (with_reducible first | exact HB.out | apply below_alloc | apply pw_below_drewN | apply below_drew1 | refine below_set ?_ GE115.out) | exact HB.out)) hb); clear HO_5; clear BK115; clear HB; have HO_5 := n0_; have BK115 := n1_; have HB := n2_; clear n0_ n1_ n2_; (try clear hb); (try clear hb2); (try clear hk); (try clear hi); have hcz21_0 : w20.cell? ⟨gb115, 0, none⟩ = some (.int .i64 4) := (blk_cell BK115.out 0).trans rfl; have hcz21_1 : w20.cell? ⟨gb115, 1, none⟩ = some (.string (a0.extract (x6_1 : Int).toNat ((wrap64 (x6_1 + 1)) : Int).toNat)) := (blk_cell BK115.out 1).trans rfl; have hcz21_2 : w20.cell? ⟨gb115, 2, none⟩ = some (.int .i64 x6_1) := (blk_cell BK115.out 2).trans rfl; have hfz21_0 := blk_frozen BK115.out 0; have hfz21_1 := blk_frozen BK115.out 1; have hfz21_2 := blk_frozen BK115.out 2))
                        go_meet
                        case rel => exact ⟨_, (t117), (t118), (t119), (t120), (by first | rfl | (simp; done) | (simp [*]; done)), H', ⟨by have := HK1.out; first | omega | exact Nat.le_refl _⟩, ⟨by (with_reducible repeat (first | apply Kd.R_alloc | apply Kd.R_drewN | apply Kd.R_drew)); exact Kd.R_mono (Kd.R_far (p := ⟨gb115, 2, none⟩) (Kd.R_far (p := ⟨gb115, 1, none⟩) (Kd.R_far (p := ⟨gb115, 0, none⟩) (Kd.R_mono HO_5.out (fun k_ hk => (⟨hk, hk.2⟩ : _ ∧ k_ ≠ gb115))) (fun _ hk => hk.2) (.int .i64 t118)) (fun _ hk => hk.2) (.string t119)) (fun _ hk => hk.2) (.int .i64 t120)) (fun _ hk => hk.1.2)⟩, ⟨by (with_reducible repeat (first | refine blk_drewN ?_ _ | refine blk_drew ?_ | refine blk_alloc ?_ _)); refine blk_put (cs := #[.int .i64 t118, .string t119, .int .i64 x6_1]) ?_ 2 _ rfl; (with_reducible repeat (first | refine blk_drewN ?_ _ | refine blk_drew ?_ | refine blk_alloc ?_ _)); refine blk_put (cs := #[.int .i64 t118, .string (a0.extract (x6_1 : Int).toNat ((wrap64 (x6_1 + 1)) : Int).toNat), .int .i64 x6_1]) ?_ 1 _ rfl; (with_reducible repeat (first | refine blk_drewN ?_ _ | refine blk_drew ?_ | refine blk_alloc ?_ _)); refine blk_put (cs := #[.int .i64 4, .string (a0.extract (x6_1 : Int).toNat ((wrap64 (x6_1 + 1)) : Int).toNat), .int .i64 x6_1]) ?_ 0 _ rfl; (with_reducible repeat (first | refine blk_drewN ?_ _ | refine blk_drew ?_ | refine blk_alloc ?_ _)); exact BK115.out⟩, ⟨by repeat (first | (with_reducible first | exact HB.out | apply below_alloc | apply pw_below_drewN | apply below_drew1 | refine below_set ?_ GE115.out) | exact HB.out)⟩⟩
                      · rw [if_neg c18] at H
                        exact absurd H (by simp)
                    · rw [if_neg c17] at H
                      exact absurd H (by simp)
                  · replace c14 := Bool.eq_false_iff.mpr c14
                    subst c14
                    have H1 : ((lexer_isDigit.f (bt a0 x6_1)).bind fun t121 => (if t121 = true then ((lexer_number.f k1 a0 x6_1).bind fun t122 => (if x6_1 ≤ t122 then (if t122 ≤ (a0.size : Int) then (lexer_Split.j1 k1 a0 x5_1 x6_1 t122 2 (a0.extract (x6_1 : Int).toNat (t122 : Int).toNat) x6_1) else (none)) else (none))) else ((strings_ContainsRune.f (⟨#[61, 44, 59]⟩ : ByteArray) (wrap32 (bt a0 x6_1))).bind fun t123 => (if t123 = true then (lexer_Split.j1 k1 a0 x5_1 x6_1 (wrap64 (x6_1 + 1)) 4 (a0.extract (x6_1 : Int).toNat ((wrap64 (x6_1 + 1)) : Int).toNat) x6_1) else (some (([] : List (S35)), x6_1, 10)))))) = some (r1, r2, r3) := by rw [if_neg (show ¬ (false = true) by decide)] at H; exact H
                    clear H
                    have H := H1
                    clear H1
                    replace H := Option.bind_eq_some_iff.mp H
                    obtain ⟨t121, A220, H⟩ := H
                    replace H : (if t121 = true then ((lexer_number.f k1 a0 x6_1).bind fun t122 => (if x6_1 ≤ t122 then (if t122 ≤ (a0.size : Int) then (lexer_Split.j1 k1 a0 x5_1 x6_1 t122 2 (a0.extract (x6_1 : Int).toNat (t122 : Int).toNat) x6_1) else (none)) else (none))) else ((strings_ContainsRune.f (⟨#[61, 44, 59]⟩ : ByteArray) (wrap32 (bt a0 x6_1))).bind fun t123 => (if t123 = true then (lexer_Split.j1 k1 a0 x5_1 x6_1 (wrap64 (x6_1 + 1)) 4 (a0.extract (x6_1 : Int).toNat ((wrap64 (x6_1 + 1)) : Int).toNat) x6_1) else (some (([] : List (S35)), x6_1, 10))))) = some (r1, r2, r3) := H
                    have A22 := Aside0.mk A220
                    clear A220
                    by_cases c23 : t121 = true
                    · subst c23
                      have H1 : ((lexer_number.f k1 a0 x6_1).bind fun t122 => (if x6_1 ≤ t122 then (if t122 ≤ (a0.size : Int) then (lexer_Split.j1 k1 a0 x5_1 x6_1 t122 2 (a0.extract (x6_1 : Int).toNat (t122 : Int).toNat) x6_1) else (none)) else (none))) = some (r1, r2, r3) := by rw [if_pos rfl] at H; exact H
                      clear H
                      have H := H1
                      clear H1
                      replace H := Option.bind_eq_some_iff.mp H
                      obtain ⟨t122, A240, H⟩ := H
                      replace H : (if x6_1 ≤ t122 then (if t122 ≤ (a0.size : Int) then (lexer_Split.j1 k1 a0 x5_1 x6_1 t122 2 (a0.extract (x6_1 : Int).toNat (t122 : Int).toNat) x6_1) else (none)) else (none)) = some (r1, r2, r3) := H
                      have A24 := Aside0.mk A240
                      clear A240
                      have c25b0 := eq_true (of_decide_eq_true (by first | (with_reducible assumption) | assumption) : 0 ≤ x6_1)
                      by_cases c26 : x6_1 ≤ t122
                      · rw [if_pos c26] at H
                        have c26b0 := eq_true c26
                        have c26b1 : decide (x6_1 ≤ t122) = true := decide_eq_true c26
                        clear c26
                        by_cases c27 : t122 ≤ (a0.size : Int)
                        · rw [if_pos c27] at H
                          have c27b0 := eq_true c27
                          have c27b1 : decide (t122 ≤ (a0.size : Int)) = true := decide_eq_true c27
                          clear c27
                          have H' := Aside0.mk H
                          clear H
                          go_wp2_with (first | ((with_reducible refine gate_callee (f := 17) rfl ?_); refine goesL_ (some 32) rfl rfl Try.func17 (by kernel_rfl) rfl #[.int .u8 (bt a0 x6_1)] rfl (by (try simp only [List.map_toArray, List.map_cons, List.map_nil]); first | done | rfl | (simp only [List.length_drop, List.length_take]; rfl)) ?_; (with_reducible refine (lexer_isLetter.calls (bt a0 x6_1) false _ A13.out).mono ?_); rintro e w' ⟨rfl, ⟨nd, rfl⟩⟩; refine ⟨_, rfl, ?_⟩) | ((with_reducible refine gate_callee (f := 21) rfl ?_); refine goesL_ (some 44) rfl rfl Try.func21 (by kernel_rfl) rfl #[.int .u8 (bt a0 x6_1)] rfl (by (try simp only [List.map_toArray, List.map_cons, List.map_nil]); first | done | rfl | (simp only [List.length_drop, List.length_take]; rfl)) ?_; (with_reducible refine (lexer_isDigit.calls (bt a0 x6_1) true _ A22.out).mono ?_); rintro e w' ⟨rfl, ⟨nd, rfl⟩⟩; refine ⟨_, rfl, ?_⟩) | ((with_reducible refine gate_callee (f := 22) rfl ?_); refine goesL_ (some 47) rfl rfl Try.func22 (by kernel_rfl) rfl #[.string a0, .int .i64 x6_1] rfl (by (try simp only [List.map_toArray, List.map_cons, List.map_nil]); first | done | rfl | (simp only [List.length_drop, List.length_take]; rfl)) ?_; (with_reducible refine (lexer_number.calls k1 a0 x6_1 t122 _ A24.out).mono ?_); rintro e w' ⟨rfl, ⟨nd, rfl⟩⟩; refine ⟨_, rfl, ?_⟩; have hcz28_0 : w11.cell? ⟨gb115, 0, none⟩ = some (.int .i64 0) := (blk_cell BK115.out 0).trans rfl; have hcz28_1 : w11.cell? ⟨gb115, 1, none⟩ = some (.string (⟨#[]⟩ : ByteArray)) := (blk_cell BK115.out 1).trans rfl; have hcz28_2 : w11.cell? ⟨gb115, 2, none⟩ = some (.int .i64 0) := (blk_cell BK115.out 2).trans rfl; have hfz28_0 := blk_frozen BK115.out 0; have hfz28_1 := blk_frozen BK115.out 1; have hfz28_2 := blk_frozen BK115.out 2))
                          go_meet
                          case rel => exact ⟨_, (t122), (2), (a0.extract (x6_1 : Int).toNat (t122 : Int).toNat), (x6_1), (by first | rfl | (simp; done) | (simp [*]; done)), H', ⟨by have := HK1.out; first | omega | exact Nat.le_refl _⟩, ⟨by (with_reducible repeat (first | apply Kd.R_alloc | apply Kd.R_drewN | apply Kd.R_drew)); exact Kd.R_mono (Kd.R_far (p := ⟨gb115, 2, none⟩) (Kd.R_far (p := ⟨gb115, 1, none⟩) (Kd.R_far (p := ⟨gb115, 0, none⟩) (Kd.R_far (p := ⟨gb115, 2, none⟩) (Kd.R_far (p := ⟨gb115, 1, none⟩) (Kd.R_far (p := ⟨gb115, 0, none⟩) (Kd.R_mono HO_5.out (fun k_ hk => (⟨hk, hk.2⟩ : _ ∧ k_ ≠ gb115))) (fun _ hk => hk.2) (.int .i64 4)) (fun _ hk => hk.2) (.string (a0.extract (x6_1 : Int).toNat ((wrap64 (x6_1 + 1)) : Int).toNat))) (fun _ hk => hk.2) (.int .i64 x6_1)) (fun _ hk => hk.2) (.int .i64 2)) (fun _ hk => hk.2) (.string (a0.extract (x6_1 : Int).toNat (t122 : Int).toNat))) (fun _ hk => hk.2) (.int .i64 x6_1)) (fun _ hk => hk.1.2)⟩, ⟨by (with_reducible repeat (first | refine blk_drewN ?_ _ | refine blk_drew ?_ | refine blk_alloc ?_ _)); refine blk_put (cs := #[.int .i64 2, .string (a0.extract (x6_1 : Int).toNat (t122 : Int).toNat), .int .i64 x6_1]) ?_ 2 _ rfl; (with_reducible repeat (first | refine blk_drewN ?_ _ | refine blk_drew ?_ | refine blk_alloc ?_ _)); refine blk_put (cs := #[.int .i64 2, .string (a0.extract (x6_1 : Int).toNat ((wrap64 (x6_1 + 1)) : Int).toNat), .int .i64 x6_1]) ?_ 1 _ rfl; (with_reducible repeat (first | refine blk_drewN ?_ _ | refine blk_drew ?_ | refine blk_alloc ?_ _)); refine blk_put (cs := #[.int .i64 4, .string (a0.extract (x6_1 : Int).toNat ((wrap64 (x6_1 + 1)) : Int).toNat), .int .i64 x6_1]) ?_ 0 _ rfl; (with_reducible repeat (first | refine blk_drewN ?_ _ | refine blk_drew ?_ | refine blk_alloc ?_ _)); refine blk_put (cs := #[.int .i64 4, .string (a0.extract (x6_1 : Int).toNat ((wrap64 (x6_1 + 1)) : Int).toNat), .int .i64 0]) ?_ 2 _ rfl; (with_reducible repeat (first | refine blk_drewN ?_ _ | refine blk_drew ?_ | refine blk_alloc ?_ _)); refine blk_put (cs := #[.int .i64 4, .string (⟨#[]⟩ : ByteArray), .int .i64 0]) ?_ 1 _ rfl; (with_reducible repeat (first | refine blk_drewN ?_ _ | refine blk_drew ?_ | refine blk_alloc ?_ _)); refine blk_put (cs := #[.int .i64 0, .string (⟨#[]⟩ : ByteArray), .int .i64 0]) ?_ 0 _ rfl; (with_reducible repeat (first | refine blk_drewN ?_ _ | refine blk_drew ?_ | refine blk_alloc ?_ _)); exact BK115.out⟩, ⟨by repeat (first | (with_reducible first | exact HB.out | apply below_alloc | apply pw_below_drewN | apply below_drew1 | refine below_set ?_ GE115.out) | exact HB.out)⟩⟩
                        · rw [if_neg c27] at H
                          exact absurd H (by simp)
                      · rw [if_neg c26] at H
                        exact absurd H (by simp)
                    · replace c23 := Bool.eq_false_iff.mpr c23
                      subst c23
                      have H1 : ((strings_ContainsRune.f (⟨#[61, 44, 59]⟩ : ByteArray) (wrap32 (bt a0 x6_1))).bind fun t123 => (if t123 = true then (lexer_Split.j1 k1 a0 x5_1 x6_1 (wrap64 (x6_1 + 1)) 4 (a0.extract (x6_1 : Int).toNat ((wrap64 (x6_1 + 1)) : Int).toNat) x6_1) else (some (([] : List (S35)), x6_1, 10)))) = some (r1, r2, r3) := by rw [if_neg (show ¬ (false = true) by decide)] at H; exact H
                      clear H
                      have H := H1
                      clear H1
                      replace H := Option.bind_eq_some_iff.mp H
                      obtain ⟨t123, A290, H⟩ := H
                      replace H : (if t123 = true then (lexer_Split.j1 k1 a0 x5_1 x6_1 (wrap64 (x6_1 + 1)) 4 (a0.extract (x6_1 : Int).toNat ((wrap64 (x6_1 + 1)) : Int).toNat) x6_1) else (some (([] : List (S35)), x6_1, 10))) = some (r1, r2, r3) := H
                      have A29 := Aside0.mk A290
                      clear A290
                      by_cases c30 : t123 = true
                      · subst c30
                        have H1 : (lexer_Split.j1 k1 a0 x5_1 x6_1 (wrap64 (x6_1 + 1)) 4 (a0.extract (x6_1 : Int).toNat ((wrap64 (x6_1 + 1)) : Int).toNat) x6_1) = some (r1, r2, r3) := by rw [if_pos rfl] at H; exact H
                        clear H
                        have H := H1
                        clear H1
                        have H' := Aside0.mk H
                        clear H
                        go_wp2_with (first | ((with_reducible refine gate_callee (f := 17) rfl ?_); refine goesL_ (some 32) rfl rfl Try.func17 (by kernel_rfl) rfl #[.int .u8 (bt a0 x6_1)] rfl (by (try simp only [List.map_toArray, List.map_cons, List.map_nil]); first | done | rfl | (simp only [List.length_drop, List.length_take]; rfl)) ?_; (with_reducible refine (lexer_isLetter.calls (bt a0 x6_1) false _ A13.out).mono ?_); rintro e w' ⟨rfl, ⟨nd, rfl⟩⟩; refine ⟨_, rfl, ?_⟩) | ((with_reducible refine gate_callee (f := 21) rfl ?_); refine goesL_ (some 44) rfl rfl Try.func21 (by kernel_rfl) rfl #[.int .u8 (bt a0 x6_1)] rfl (by (try simp only [List.map_toArray, List.map_cons, List.map_nil]); first | done | rfl | (simp only [List.length_drop, List.length_take]; rfl)) ?_; (with_reducible refine (lexer_isDigit.calls (bt a0 x6_1) false _ A22.out).mono ?_); rintro e w' ⟨rfl, ⟨nd, rfl⟩⟩; refine ⟨_, rfl, ?_⟩) | ((with_reducible refine gate_callee (f := 23) rfl ?_); refine goesL_ (some 57) rfl rfl Try.func23 (by kernel_rfl) rfl #[.string (⟨#[61, 44, 59]⟩ : ByteArray), .int .i32 (wrap32 (bt a0 x6_1))] rfl (by (try simp only [List.map_toArray, List.map_cons, List.map_nil]); first | done | rfl | (simp only [List.length_drop, List.length_take]; rfl)) ?_; (with_reducible refine (strings_ContainsRune.calls (⟨#[61, 44, 59]⟩ : ByteArray) (wrap32 (bt a0 x6_1)) true _ A29.out).mono ?_); rintro e w' ⟨rfl, ⟨nd, rfl⟩⟩; refine ⟨_, rfl, ?_⟩))
                        go_meet
                        case rel => exact ⟨_, (wrap64 (x6_1 + 1)), (4), (a0.extract (x6_1 : Int).toNat ((wrap64 (x6_1 + 1)) : Int).toNat), (x6_1), (by first | rfl | (simp; done) | (simp [*]; done)), H', ⟨by have := HK1.out; first | omega | exact Nat.le_refl _⟩, ⟨by (with_reducible repeat (first | apply Kd.R_alloc | apply Kd.R_drewN | apply Kd.R_drew)); exact Kd.R_mono (Kd.R_far (p := ⟨gb115, 2, none⟩) (Kd.R_far (p := ⟨gb115, 1, none⟩) (Kd.R_far (p := ⟨gb115, 0, none⟩) (Kd.R_mono HO_5.out (fun k_ hk => (⟨hk, hk.2⟩ : _ ∧ k_ ≠ gb115))) (fun _ hk => hk.2) (.int .i64 4)) (fun _ hk => hk.2) (.string (a0.extract (x6_1 : Int).toNat ((wrap64 (x6_1 + 1)) : Int).toNat))) (fun _ hk => hk.2) (.int .i64 x6_1)) (fun _ hk => hk.1.2)⟩, ⟨by (with_reducible repeat (first | refine blk_drewN ?_ _ | refine blk_drew ?_ | refine blk_alloc ?_ _)); refine blk_put (cs := #[.int .i64 4, .string (a0.extract (x6_1 : Int).toNat ((wrap64 (x6_1 + 1)) : Int).toNat), .int .i64 0]) ?_ 2 _ rfl; (with_reducible repeat (first | refine blk_drewN ?_ _ | refine blk_drew ?_ | refine blk_alloc ?_ _)); refine blk_put (cs := #[.int .i64 4, .string (⟨#[]⟩ : ByteArray), .int .i64 0]) ?_ 1 _ rfl; (with_reducible repeat (first | refine blk_drewN ?_ _ | refine blk_drew ?_ | refine blk_alloc ?_ _)); refine blk_put (cs := #[.int .i64 0, .string (⟨#[]⟩ : ByteArray), .int .i64 0]) ?_ 0 _ rfl; (with_reducible repeat (first | refine blk_drewN ?_ _ | refine blk_drew ?_ | refine blk_alloc ?_ _)); exact BK115.out⟩, ⟨by repeat (first | (with_reducible first | exact HB.out | apply below_alloc | apply pw_below_drewN | apply below_drew1 | refine below_set ?_ GE115.out) | exact HB.out)⟩⟩
                      · replace c30 := Bool.eq_false_iff.mpr c30
                        subst c30
                        have H1 : (some (([] : List (S35)), x6_1, 10)) = some (r1, r2, r3) := by rw [if_neg (show ¬ (false = true) by decide)] at H; exact H
                        clear H
                        have H := H1
                        clear H1
                        simp only [Option.some.injEq, Prod.mk.injEq] at H
                        obtain ⟨rfl, rfl, rfl⟩ := H
                        go_wp2_with (first | ((with_reducible refine gate_callee (f := 17) rfl ?_); refine goesL_ (some 32) rfl rfl Try.func17 (by kernel_rfl) rfl #[.int .u8 (bt a0 x6_1)] rfl (by (try simp only [List.map_toArray, List.map_cons, List.map_nil]); first | done | rfl | (simp only [List.length_drop, List.length_take]; rfl)) ?_; (with_reducible refine (lexer_isLetter.calls (bt a0 x6_1) false _ A13.out).mono ?_); rintro e w' ⟨rfl, ⟨nd, rfl⟩⟩; refine ⟨_, rfl, ?_⟩) | ((with_reducible refine gate_callee (f := 21) rfl ?_); refine goesL_ (some 44) rfl rfl Try.func21 (by kernel_rfl) rfl #[.int .u8 (bt a0 x6_1)] rfl (by (try simp only [List.map_toArray, List.map_cons, List.map_nil]); first | done | rfl | (simp only [List.length_drop, List.length_take]; rfl)) ?_; (with_reducible refine (lexer_isDigit.calls (bt a0 x6_1) false _ A22.out).mono ?_); rintro e w' ⟨rfl, ⟨nd, rfl⟩⟩; refine ⟨_, rfl, ?_⟩) | ((with_reducible refine gate_callee (f := 23) rfl ?_); refine goesL_ (some 57) rfl rfl Try.func23 (by kernel_rfl) rfl #[.string (⟨#[61, 44, 59]⟩ : ByteArray), .int .i32 (wrap32 (bt a0 x6_1))] rfl (by (try simp only [List.map_toArray, List.map_cons, List.map_nil]); first | done | rfl | (simp only [List.length_drop, List.length_take]; rfl)) ?_; (with_reducible refine (strings_ContainsRune.calls (⟨#[61, 44, 59]⟩ : ByteArray) (wrap32 (bt a0 x6_1)) false _ A29.out).mono ?_); rintro e w' ⟨rfl, ⟨nd, rfl⟩⟩; refine ⟨_, rfl, ?_⟩))
                        go_ret3
                        exact ⟨_, by first | rfl | (simp [errW_none, errW_some] <;> rfl) | (simp [*, errW_none, errW_some] <;> rfl), by first | exact Kd.R_nil _ _ _ _ _ | exact Kd.N_nil _ _ _ _ _ | exact Kd.V_nil _ _ _ _ _ | exact Kd.Q_nil _ _ _ _ _ | exact Kd.S_nil _ _ _ _ _, by repeat (first | (with_reducible first | exact HB.out | apply below_alloc | apply pw_below_drewN | apply below_drew1 | refine below_set ?_ GE115.out) | exact HB.out)⟩
                case rest =>
                  clear HC10
                  try clear c1
                  try clear c2
                  try clear c2b0
                  try clear c2b1
                  try clear p2
                  try clear c3
                  try clear p3
                  try clear c4
                  try clear c4b0
                  try clear c5
                  try clear c5b0
                  try clear p6
                  try clear q6
                  try clear hx6
                  try clear c7
                  try clear c7b0
                  try clear c8
                  try clear c8b0
                  try clear c8b1
                  try clear c9
                  try clear c9b0
                  try clear c9b1
                  try clear c12
                  try clear c14
                  try clear c16
                  try clear c16b0
                  try clear c17
                  try clear c17b0
                  try clear c17b1
                  try clear c18
                  try clear c18b0
                  try clear c18b1
                  try clear c20
                  try clear c21
                  try clear c22
                  try clear c23
                  try clear c25
                  try clear c25b0
                  try clear c26
                  try clear c26b0
                  try clear c26b1
                  try clear c27
                  try clear c27b0
                  try clear c27b1
                  try clear c30
                  try clear hcz12_0
                  try clear hcz12_1
                  try clear hcz12_2
                  try clear hcz21_0
                  try clear hcz21_1
                  try clear hcz21_2
                  try clear hcz28_0
                  try clear hcz28_1
                  try clear hcz28_2
                  try clear hfz12_0
                  try clear hfz12_1
                  try clear hfz12_2
                  try clear hfz21_0
                  try clear hfz21_1
                  try clear hfz21_2
                  try clear hfz28_0
                  try clear hfz28_1
                  try clear hfz28_2
                  try clear p2
                  try clear p6
                  try clear q6
                  obtain ⟨kq, x8_9, x116000_9, x116001_9, x116002_9, rfl, HA, HJ9, HO_5, BK115, HB⟩ := hcut
                  cases kq with
                  | zero => exact absurd HA.out (by simp [lexer_Split.j1])
                  | succ kj9 =>
                    have H := HA.out
                    clear HA
                    simp only [lexer_Split.j1] at H
                    have HC31 := Aside0.mk H
                    clear H
                    go_upto_region 17 with (fail)
                    go_cut [73] (fun v73 wc => ∃ (kq : Nat) (x73_30 : Bool), v73 = .bool x73_30 ∧ Aside0 (lexer_Split.j2 kq a0 x5_1 x6_1 x8_9 x73_30 x116000_9 x116001_9 x116002_9 = some (r1, r2, r3)) ∧ Aside0 (kq ≤ kj9) ∧ Aside0 (Kd.R k35 35 wc w.heap.size (fun k_ => k_ ≠ gb115) u5 x5_1) ∧ Aside0 (wc.heap[gb115]? = some (.cells #[.int .i64 x116000_9, .string x116001_9, .int .i64 x116002_9] 35 (0, 0))) ∧ Aside0 (Below w.heap.size w wc))
                    case first =>
                      have H := HC31.out
                      clear HC31
                      by_cases c32 : (x5_1.length : Int) ≥ 2048
                      · rw [if_pos c32] at H
                        have c32b0 : decide (2048 ≤ (x5_1.length : Int)) = true := decide_eq_true c32
                        have c32b1 : decide (2048 ≤ x5_1.length) = true := decide_eq_true (by omega)
                        clear c32
                        (first | rw [c32b0] | (simp only [i64_w, i32_w]; rw [c32b0]) | skip)
                        have H' := Aside0.mk H
                        clear H
                        obtain ⟨Ao33, co33, eo33⟩ := Kd.R_slice HO_5.out
                        subst eo33
                        go_wp2
                        go_meet
                        case rel => exact ⟨_, (true), (by first | rfl | (simp; done) | (simp [*]; done)), H', ⟨by have := HK1.out; have := HJ9.out; first | omega | exact Nat.le_refl _⟩, ⟨by (with_reducible repeat (first | apply Kd.R_alloc | apply Kd.R_drewN | apply Kd.R_drew)); exact HO_5.out⟩, ⟨by (with_reducible repeat (first | refine blk_drewN ?_ _ | refine blk_drew ?_ | refine blk_alloc ?_ _)); exact BK115.out⟩, ⟨by repeat (first | (with_reducible first | exact HB.out | apply below_alloc | apply pw_below_drewN | apply below_drew1 | refine below_set ?_ GE115.out) | exact HB.out)⟩⟩
                      · rw [if_neg c32] at H
                        have c32b0 : decide (2048 ≤ (x5_1.length : Int)) = false := decide_eq_false c32
                        have c32b1 : decide (2048 ≤ x5_1.length) = false := decide_eq_false (by omega)
                        clear c32
                        (first | rw [c32b0] | (simp only [i64_w, i32_w]; rw [c32b0]) | skip)
                        by_cases c34 : x116000_9 = 1
                        · rw [if_pos c34] at H
                          have c34b0 : (x116000_9 == 1) = true := beq_iff_eq.mpr c34
                          have c34b1 : (x116000_9 != 1) = false := bne_eq_false_iff_eq.mpr c34
                          clear c34
                          have H' := Aside0.mk H
                          clear H
                          obtain ⟨Ao35, co35, eo35⟩ := Kd.R_slice HO_5.out
                          subst eo35
                          have hcz36_0 : wc.cell? ⟨gb115, 0, none⟩ = some (.int .i64 x116000_9) := (blk_cell BK115.out 0).trans rfl
                          have hcz36_1 : wc.cell? ⟨gb115, 1, none⟩ = some (.string x116001_9) := (blk_cell BK115.out 1).trans rfl
                          have hcz36_2 : wc.cell? ⟨gb115, 2, none⟩ = some (.int .i64 x116002_9) := (blk_cell BK115.out 2).trans rfl
                          have hfz36_0 := blk_frozen BK115.out 0
                          have hfz36_1 := blk_frozen BK115.out 1
                          have hfz36_2 := blk_frozen BK115.out 2
                          go_wp2
                          go_meet
                          case rel => exact ⟨_, (decide ((x116001_9.size : Int) > 32)), (by first | rfl | (simp; done) | (simp [*]; done)), H', ⟨by have := HK1.out; have := HJ9.out; first | omega | exact Nat.le_refl _⟩, ⟨by (with_reducible repeat (first | apply Kd.R_alloc | apply Kd.R_drewN | apply Kd.R_drew)); exact HO_5.out⟩, ⟨by (with_reducible repeat (first | refine blk_drewN ?_ _ | refine blk_drew ?_ | refine blk_alloc ?_ _)); exact BK115.out⟩, ⟨by repeat (first | (with_reducible first | exact HB.out | apply below_alloc | apply pw_below_drewN | apply below_drew1 | refine below_set ?_ GE115.out) | exact HB.out)⟩⟩
                        · rw [if_neg c34] at H
                          have c34b0 : (x116000_9 == 1) = false := beq_eq_false_iff_ne.mpr c34
                          have c34b1 : (x116000_9 != 1) = true := bne_iff_ne.mpr c34
                          have H' := Aside0.mk H
                          clear H
                          obtain ⟨Ao37, co37, eo37⟩ := Kd.R_slice HO_5.out
                          subst eo37
                          have hcz38_0 : wc.cell? ⟨gb115, 0, none⟩ = some (.int .i64 x116000_9) := (blk_cell BK115.out 0).trans rfl
                          have hcz38_1 : wc.cell? ⟨gb115, 1, none⟩ = some (.string x116001_9) := (blk_cell BK115.out 1).trans rfl
                          have hcz38_2 : wc.cell? ⟨gb115, 2, none⟩ = some (.int .i64 x116002_9) := (blk_cell BK115.out 2).trans rfl
                          have hfz38_0 := blk_frozen BK115.out 0
                          have hfz38_1 := blk_frozen BK115.out 1
                          have hfz38_2 := blk_frozen BK115.out 2
                          go_wp2
                          go_meet
                          case rel => exact ⟨_, (false), (by first | rfl | (simp; done) | (simp [*]; done)), H', ⟨by have := HK1.out; have := HJ9.out; first | omega | exact Nat.le_refl _⟩, ⟨by (with_reducible repeat (first | apply Kd.R_alloc | apply Kd.R_drewN | apply Kd.R_drew)); exact HO_5.out⟩, ⟨by (with_reducible repeat (first | refine blk_drewN ?_ _ | refine blk_drew ?_ | refine blk_alloc ?_ _)); exact BK115.out⟩, ⟨by repeat (first | (with_reducible first | exact HB.out | apply below_alloc | apply pw_below_drewN | apply below_drew1 | refine below_set ?_ GE115.out) | exact HB.out)⟩⟩
                    case rest =>
                      clear HC31
                      try clear c1
                      try clear c2
                      try clear c2b0
                      try clear c2b1
                      try clear p2
                      try clear c3
                      try clear p3
                      try clear c4
                      try clear c4b0
                      try clear c5
                      try clear c5b0
                      try clear p6
                      try clear q6
                      try clear hx6
                      try clear c7
                      try clear c7b0
                      try clear c8
                      try clear c8b0
                      try clear c8b1
                      try clear c9
                      try clear c9b0
                      try clear c9b1
                      try clear c12
                      try clear c14
                      try clear c16
                      try clear c16b0
                      try clear c17
                      try clear c17b0
                      try clear c17b1
                      try clear c18
                      try clear c18b0
                      try clear c18b1
                      try clear c20
                      try clear c21
                      try clear c22
                      try clear c23
                      try clear c25
                      try clear c25b0
                      try clear c26
                      try clear c26b0
                      try clear c26b1
                      try clear c27
                      try clear c27b0
                      try clear c27b1
                      try clear c30
                      try clear c32
                      try clear c32b0
                      try clear c32b1
                      try clear p32
                      try clear c34
                      try clear c34b0
                      try clear c34b1
                      try clear hcz12_0
                      try clear hcz12_1
                      try clear hcz12_2
                      try clear hcz21_0
                      try clear hcz21_1
                      try clear hcz21_2
                      try clear hcz28_0
                      try clear hcz28_1
                      try clear hcz28_2
                      try clear hcz36_0
                      try clear hcz36_1
                      try clear hcz36_2
                      try clear hcz38_0
                      try clear hcz38_1
                      try clear hcz38_2
                      try clear hfz12_0
                      try clear hfz12_1
                      try clear hfz12_2
                      try clear hfz21_0
                      try clear hfz21_1
                      try clear hfz21_2
                      try clear hfz28_0
                      try clear hfz28_1
                      try clear hfz28_2
                      try clear hfz36_0
                      try clear hfz36_1
                      try clear hfz36_2
                      try clear hfz38_0
                      try clear hfz38_1
                      try clear hfz38_2
                      try clear p2
                      try clear p3
                      try clear p6
                      try clear q6
                      obtain ⟨kq, x73_30, rfl, HA, HJ30, HO_5, BK115, HB⟩ := hcut
                      cases kq with
                      | zero => exact absurd HA.out (by simp [lexer_Split.j2])
                      | succ kj30 =>
                        have H := HA.out
                        clear HA
                        simp only [lexer_Split.j2] at H
                        by_cases c39 : x73_30 = true
                        · subst c39
                          have H1 : (some (([] : List (S35)), x6_1, 2)) = some (r1, r2, r3) := by rw [if_pos rfl] at H; exact H
                          clear H
                          have H := H1
                          clear H1
                          simp only [Option.some.injEq, Prod.mk.injEq] at H
                          obtain ⟨rfl, rfl, rfl⟩ := H
                          go_wp2
                          go_ret3
                          exact ⟨_, by first | rfl | (simp [errW_none, errW_some] <;> rfl) | (simp [*, errW_none, errW_some] <;> rfl), by first | exact Kd.R_nil _ _ _ _ _ | exact Kd.N_nil _ _ _ _ _ | exact Kd.V_nil _ _ _ _ _ | exact Kd.Q_nil _ _ _ _ _ | exact Kd.S_nil _ _ _ _ _, by repeat (first | (with_reducible first | exact HB.out | apply below_alloc | apply pw_below_drewN | apply below_drew1 | refine below_set ?_ GE115.out) | exact HB.out)⟩
                        · replace c39 := Bool.eq_false_iff.mpr c39
                          subst c39
                          have H1 : (if x116000_9 = 2 then (if x8_9 < (a0.size : Int) then (if 0 ≤ x8_9 then ((lexer_isLetter.f (bt a0 x8_9)).bind fun t124 => (if t124 = true then (some (([] : List (S35)), x8_9, 10)) else (if (bt a0 x8_9) = 46 then (some (([] : List (S35)), x8_9, 10)) else (if (bt a0 x8_9) = 47 then (some (([] : List (S35)), x8_9, 10)) else (if x5_1.length < 4398046511104 then ((lexer_blank.f kj30 a0 x8_9).bind fun t128 => (lexer_Split.l0 kj30 a0 (x5_1 ++ [(⟨x116000_9, x116001_9, x116002_9⟩ : S35)]) t128)) else (none)))))) else (none)) else (if x5_1.length < 4398046511104 then ((lexer_blank.f kj30 a0 x8_9).bind fun t132 => (lexer_Split.l0 kj30 a0 (x5_1 ++ [(⟨x116000_9, x116001_9, x116002_9⟩ : S35)]) t132)) else (none))) else (if x5_1.length < 4398046511104 then ((lexer_blank.f kj30 a0 x8_9).bind fun t136 => (lexer_Split.l0 kj30 a0 (x5_1 ++ [(⟨x116000_9, x116001_9, x116002_9⟩ : S35)]) t136)) else (none))) = some (r1, r2, r3) := by rw [if_neg (show ¬ (false = true) by decide)] at H; exact H
                          clear H
                          have H := H1
                          clear H1
                          by_cases c40 : x116000_9 = 2
                          · rw [if_pos c40] at H
                            have c40b0 : (x116000_9 == 2) = true := beq_iff_eq.mpr c40
                            have c40b1 : (x116000_9 != 2) = false := bne_eq_false_iff_eq.mpr c40
                            clear c40
                            by_cases c41 : x8_9 < (a0.size : Int)
                            · rw [if_pos c41] at H
                              have c41b0 : decide (x8_9 < (a0.size : Int)) = true := decide_eq_true c41
                              clear c41
                              by_cases c42 : 0 ≤ x8_9
                              · rw [if_pos c42] at H
                                have c42b0 : decide (0 ≤ x8_9) = true := decide_eq_true c42
                                clear c42
                                replace H := Option.bind_eq_some_iff.mp H
                                obtain ⟨t124, A440, H⟩ := H
                                replace H : (if t124 = true then (some (([] : List (S35)), x8_9, 10)) else (if (bt a0 x8_9) = 46 then (some (([] : List (S35)), x8_9, 10)) else (if (bt a0 x8_9) = 47 then (some (([] : List (S35)), x8_9, 10)) else (if x5_1.length < 4398046511104 then ((lexer_blank.f kj30 a0 x8_9).bind fun t128 => (lexer_Split.l0 kj30 a0 (x5_1 ++ [(⟨x116000_9, x116001_9, x116002_9⟩ : S35)]) t128)) else (none))))) = some (r1, r2, r3) := H
                                have A44 := Aside0.mk A440
                                clear A440
                                by_cases c45 : t124 = true
                                · subst c45
                                  have H1 : (some (([] : List (S35)), x8_9, 10)) = some (r1, r2, r3) := by rw [if_pos rfl] at H; exact H
                                  clear H
                                  have H := H1
                                  clear H1
                                  simp only [Option.some.injEq, Prod.mk.injEq] at H
                                  obtain ⟨rfl, rfl, rfl⟩ := H
                                  have hcz46_0 : wc.cell? ⟨gb115, 0, none⟩ = some (.int .i64 x116000_9) := (blk_cell BK115.out 0).trans rfl
                                  have hcz46_1 : wc.cell? ⟨gb115, 1, none⟩ = some (.string x116001_9) := (blk_cell BK115.out 1).trans rfl
                                  have hcz46_2 : wc.cell? ⟨gb115, 2, none⟩ = some (.int .i64 x116002_9) := (blk_cell BK115.out 2).trans rfl
                                  have hfz46_0 := blk_frozen BK115.out 0
                                  have hfz46_1 := blk_frozen BK115.out 1
                                  have hfz46_2 := blk_frozen BK115.out 2
                                  have p43 : 0 ≤ (x8_9 : Int) := of_decide_eq_true (by first | (with_reducible assumption) | assumption)
                                  have q43 : x8_9 < (a0.size : Int) := of_decide_eq_true (by first | (with_reducible assumption) | assumption)
                                  have hx43 := bt_at a0 x8_9
                                  replace p43 := eq_true p43
                                  replace q43 := eq_true q43
                                  go_wp2_with (first | (go_at_call 17; (with_reducible refine (lexer_isLetter.calls (bt a0 x8_9) true _ A44.out).mono ?_); rintro e w' ⟨rfl, ⟨nd, rfl⟩⟩))
                                  go_ret3
                                  exact ⟨_, by first | rfl | (simp [errW_none, errW_some] <;> rfl) | (simp [*, errW_none, errW_some] <;> rfl), by first | exact Kd.R_nil _ _ _ _ _ | exact Kd.N_nil _ _ _ _ _ | exact Kd.V_nil _ _ _ _ _ | exact Kd.Q_nil _ _ _ _ _ | exact Kd.S_nil _ _ _ _ _, by repeat (first | (with_reducible first | exact HB.out | apply below_alloc | apply pw_below_drewN | apply below_drew1 | refine below_set ?_ GE115.out) | exact HB.out)⟩
                                · replace c45 := Bool.eq_false_iff.mpr c45
                                  subst c45
                                  have H1 : (if (bt a0 x8_9) = 46 then (some (([] : List (S35)), x8_9, 10)) else (if (bt a0 x8_9) = 47 then (some (([] : List (S35)), x8_9, 10)) else (if x5_1.length < 4398046511104 then ((lexer_blank.f kj30 a0 x8_9).bind fun t128 => (lexer_Split.l0 kj30 a0 (x5_1 ++ [(⟨x116000_9, x116001_9, x116002_9⟩ : S35)]) t128)) else (none)))) = some (r1, r2, r3) := by rw [if_neg (show ¬ (false = true) by decide)] at H; exact H
                                  clear H
                                  have H := H1
                                  clear H1
                                  by_cases c48 : (bt a0 x8_9) = 46
                                  · rw [if_pos c48] at H
                                    have c48b0 : ((bt a0 x8_9) == 46) = true := beq_iff_eq.mpr c48
                                    have c48b1 : ((bt a0 x8_9) != 46) = false := bne_eq_false_iff_eq.mpr c48
                                    clear c48
                                    simp only [Option.some.injEq, Prod.mk.injEq] at H
                                    obtain ⟨rfl, rfl, rfl⟩ := H
                                    have hcz49_0 : wc.cell? ⟨gb115, 0, none⟩ = some (.int .i64 x116000_9) := (blk_cell BK115.out 0).trans rfl
                                    have hcz49_1 : wc.cell? ⟨gb115, 1, none⟩ = some (.string x116001_9) := (blk_cell BK115.out 1).trans rfl
                                    have hcz49_2 : wc.cell? ⟨gb115, 2, none⟩ = some (.int .i64 x116002_9) := (blk_cell BK115.out 2).trans rfl
                                    have hfz49_0 := blk_frozen BK115.out 0
                                    have hfz49_1 := blk_frozen BK115.out 1
                                    have hfz49_2 := blk_frozen BK115.out 2
                                    have p43 : 0 ≤ (x8_9 : Int) := of_decide_eq_true (by first | (with_reducible assumption) | assumption)
                                    have q43 : x8_9 < (a0.size : Int) := of_decide_eq_true (by first | (with_reducible assumption) | assumption)
                                    have hx43 := bt_at a0 x8_9
                                    replace p43 := eq_true p43
                                    replace q43 := eq_true q43
                                    go_wp2_with (first | (go_at_call 17; (with_reducible refine (lexer_isLetter.calls (bt a0 x8_9) false _ A44.out).mono ?_); rintro e w' ⟨rfl, ⟨nd, rfl⟩⟩; have p47 : 0 ≤ (x8_9 : Int) := of_decide_eq_true (by first | (with_reducible assumption) | assumption); have q47 : x8_9 < (a0.size : Int) := of_decide_eq_true (by first | (with_reducible assumption) | assumption); have hx47 := bt_at a0 x8_9; replace p47 := eq_true p47; replace q47 := eq_true q47))
                                    go_ret3
                                    exact ⟨_, by first | rfl | (simp [errW_none, errW_some] <;> rfl) | (simp [*, errW_none, errW_some] <;> rfl), by first | exact Kd.R_nil _ _ _ _ _ | exact Kd.N_nil _ _ _ _ _ | exact Kd.V_nil _ _ _ _ _ | exact Kd.Q_nil _ _ _ _ _ | exact Kd.S_nil _ _ _ _ _, by repeat (first | (with_reducible first | exact HB.out | apply below_alloc | apply pw_below_drewN | apply below_drew1 | refine below_set ?_ GE115.out) | exact HB.out)⟩
                                  · rw [if_neg c48] at H
                                    have c48b0 : ((bt a0 x8_9) == 46) = false := beq_eq_false_iff_ne.mpr c48
                                    have c48b1 : ((bt a0 x8_9) != 46) = true := bne_iff_ne.mpr c48
                                    by_cases c51 : (bt a0 x8_9) = 47
                                    · rw [if_pos c51] at H
                                      have c51b0 : ((bt a0 x8_9) == 47) = true := beq_iff_eq.mpr c51
                                      have c51b1 : ((bt a0 x8_9) != 47) = false := bne_eq_false_iff_eq.mpr c51
                                      clear c51
                                      simp only [Option.some.injEq, Prod.mk.injEq] at H
                                      obtain ⟨rfl, rfl, rfl⟩ := H
                                      have hcz52_0 : wc.cell? ⟨gb115, 0, none⟩ = some (.int .i64 x116000_9) := (blk_cell BK115.out 0).trans rfl
                                      have hcz52_1 : wc.cell? ⟨gb115, 1, none⟩ = some (.string x116001_9) := (blk_cell BK115.out 1).trans rfl
                                      have hcz52_2 : wc.cell? ⟨gb115, 2, none⟩ = some (.int .i64 x116002_9) := (blk_cell BK115.out 2).trans rfl
                                      have hfz52_0 := blk_frozen BK115.out 0
                                      have hfz52_1 := blk_frozen BK115.out 1
                                      have hfz52_2 := blk_frozen BK115.out 2
                                      have p43 : 0 ≤ (x8_9 : Int) := of_decide_eq_true (by first | (with_reducible assumption) | assumption)
                                      have q43 : x8_9 < (a0.size : Int) := of_decide_eq_true (by first | (with_reducible assumption) | assumption)
                                      have hx43 := bt_at a0 x8_9
                                      replace p43 := eq_true p43
                                      replace q43 := eq_true q43
                                      go_wp2_with (first | (go_at_call 17; (with_reducible refine (lexer_isLetter.calls (bt a0 x8_9) false _ A44.out).mono ?_); rintro e w' ⟨rfl, ⟨nd, rfl⟩⟩; have p47 : 0 ≤ (x8_9 : Int) := of_decide_eq_true (by first | (with_reducible assumption) | assumption); have q47 : x8_9 < (a0.size : Int) := of_decide_eq_true (by first | (with_reducible assumption) | assumption); have hx47 := bt_at a0 x8_9; replace p47 := eq_true p47; replace q47 := eq_true q47; have p50 : 0 ≤ (x8_9 : Int) := of_decide_eq_true (by first | (with_reducible assumption) | assumption); have q50 : x8_9 < (a0.size : Int) := of_decide_eq_true (by first | (with_reducible assumption) | assumption); have hx50 := bt_at a0 x8_9; replace p50 := eq_true p50; replace q50 := eq_true q50))
                                      go_ret3
                                      exact ⟨_, by first | rfl | (simp [errW_none, errW_some] <;> rfl) | (simp [*, errW_none, errW_some] <;> rfl), by first | exact Kd.R_nil _ _ _ _ _ | exact Kd.N_nil _ _ _ _ _ | exact Kd.V_nil _ _ _ _ _ | exact Kd.Q_nil _ _ _ _ _ | exact Kd.S_nil _ _ _ _ _, by repeat (first | (with_reducible first | exact HB.out | apply below_alloc | apply pw_below_drewN | apply below_drew1 | refine below_set ?_ GE115.out) | exact HB.out)⟩
                                    · rw [if_neg c51] at H
                                      have c51b0 : ((bt a0 x8_9) == 47) = false := beq_eq_false_iff_ne.mpr c51
                                      have c51b1 : ((bt a0 x8_9) != 47) = true := bne_iff_ne.mpr c51
                                      by_cases c53 : x5_1.length < 4398046511104
                                      · rw [if_pos c53] at H
                                        have LMc53 := Aside0.mk c53
                                        clear c53
                                        obtain ⟨y125, hy125⟩ : ∃ y_ : List (S35), y_ = (x5_1 ++ [(⟨x116000_9, x116001_9, x116002_9⟩ : S35)]) := ⟨_, rfl⟩
                                        replace H : ((lexer_blank.f kj30 a0 x8_9).bind fun t128 => (lexer_Split.l0 kj30 a0 y125 t128)) = some (r1, r2, r3) := by first | (rw [hy125]; with_reducible exact H) | (have H2_ := (Option.bind_some _ _).symm.trans H; rw [hy125]; with_reducible exact H2_) | (have H2_ := (Option.bind_some _ _).symm.trans H; with_reducible exact H2_) | with_reducible exact H | (rw [hy125]; exact H) | exact H
                                        have Ny125 := Aside0.mk hy125
                                        clear hy125
                                        replace H := Option.bind_eq_some_iff.mp H
                                        obtain ⟨t128, A540, H⟩ := H
                                        replace H : (lexer_Split.l0 kj30 a0 y125 t128) = some (r1, r2, r3) := H
                                        have A54 := Aside0.mk A540
                                        clear A540
                                        have H' := Aside0.mk H
                                        clear H
                                        have hcz55_0 : wc.cell? ⟨gb115, 0, none⟩ = some (.int .i64 x116000_9) := (blk_cell BK115.out 0).trans rfl
                                        have hcz55_1 : wc.cell? ⟨gb115, 1, none⟩ = some (.string x116001_9) := (blk_cell BK115.out 1).trans rfl
                                        have hcz55_2 : wc.cell? ⟨gb115, 2, none⟩ = some (.int .i64 x116002_9) := (blk_cell BK115.out 2).trans rfl
                                        have hfz55_0 := blk_frozen BK115.out 0
                                        have hfz55_1 := blk_frozen BK115.out 1
                                        have hfz55_2 := blk_frozen BK115.out 2
                                        have p43 : 0 ≤ (x8_9 : Int) := of_decide_eq_true (by first | (with_reducible assumption) | assumption)
                                        have q43 : x8_9 < (a0.size : Int) := of_decide_eq_true (by first | (with_reducible assumption) | assumption)
                                        have hx43 := bt_at a0 x8_9
                                        replace p43 := eq_true p43
                                        replace q43 := eq_true q43
                                        go_wp2_with (first | (go_at_call 17; (with_reducible refine (lexer_isLetter.calls (bt a0 x8_9) false _ A44.out).mono ?_); rintro e w' ⟨rfl, ⟨nd, rfl⟩⟩; have p47 : 0 ≤ (x8_9 : Int) := of_decide_eq_true (by first | (with_reducible assumption) | assumption); have q47 : x8_9 < (a0.size : Int) := of_decide_eq_true (by first | (with_reducible assumption) | assumption); have hx47 := bt_at a0 x8_9; replace p47 := eq_true p47; replace q47 := eq_true q47; have p50 : 0 ≤ (x8_9 : Int) := of_decide_eq_true (by first | (with_reducible assumption) | assumption); have q50 : x8_9 < (a0.size : Int) := of_decide_eq_true (by first | (with_reducible assumption) | assumption); have hx50 := bt_at a0 x8_9; replace p50 := eq_true p50; replace q50 := eq_true q50) | ((with_reducible refine gate_builtin (b := .append) (xs := #[.tmp 103, .tmp 105]) rfl ?_); (try (refine gate_guard (by rfl) ?_; dsimp only)); at_builtin; refine Kd.R_append k35 (w0 := w) w.heap.size rfl (.tmp 103) (.tmp 105) 24 35 (.agg #[(.int .i64 0), (.string ⟨#[]⟩), (.int .i64 0)]) 32 rfl Try.underlying24 info35 rfl (by decide) (by omega) u5 x5_1 (⟨x116000_9, x116001_9, x116002_9⟩ : S35) [.int .i64 x116000_9, .string x116001_9, .int .i64 x116002_9] (fun k_ => k_ ≠ gb115) (fun _ => False) rfl rfl ?aP (fun _ hk => hk.elim) ?aF ?aO ?aB ?aS ?aL ?_; (case aP => exact k35_mkM _ _ _ (⟨x116000_9, x116001_9, x116002_9⟩ : S35)); (case aB => exact (by repeat (first | (with_reducible first | exact HB.out | apply below_alloc | apply pw_below_drewN | apply below_drew1 | refine below_set ?_ GE115.out) | exact HB.out))); (case aF => exact (fun k_ hk => Kd.freshB (g := gb115) (o := .cells #[.int .i64 x116000_9, .string x116001_9, .int .i64 x116002_9] 35 (0, 0)) (by (with_reducible repeat (first | refine blk_drewN ?_ _ | refine blk_drew ?_ | refine blk_alloc ?_ _)); exact BK115.out) k_ hk)); (case aO => exact (by (with_reducible repeat (first | apply Kd.R_alloc | apply Kd.R_drewN | apply Kd.R_drew)); exact HO_5.out)); (case aS => exact (below_size (by repeat (first | (with_reducible first | exact HB.out | apply below_alloc | apply pw_below_drewN | apply below_drew1 | refine below_set ?_ GE115.out) | exact HB.out)))); (case aL => have := LMc53.out; omega); intro v126 w56 ho hb hg hat; rw [← Ny125.out] at ho; have n0_ := Aside0.mk (blk_grown (g := gb115) (o := .cells #[.int .i64 x116000_9, .string x116001_9, .int .i64 x116002_9] 35 (0, 0)) (by (with_reducible repeat (first | refine blk_drewN ?_ _ | refine blk_drew ?_ | refine blk_alloc ?_ _)); exact BK115.out) hg (Kd.R_away HO_5.out (fun _ hk => hk))); have n1_ := Aside0.mk (hb); have n2_ := Aside0.mk (ho); clear BK115; clear HB; clear HO_5; have BK115 := n0_; have HB := n1_; have HO127 := n2_; clear n0_ n1_ n2_; clear ho hb hg hat) | ((with_reducible refine gate_callee (f := 16) rfl ?_); refine goesL_ (some 109) rfl rfl Try.func16 (by kernel_rfl) rfl #[.string a0, .int .i64 x8_9] rfl (by (try simp only [List.map_toArray, List.map_cons, List.map_nil]); first | done | rfl | (simp only [List.length_drop, List.length_take]; rfl)) ?_; (with_reducible refine (lexer_blank.calls kj30 a0 x8_9 t128 _ A54.out).mono ?_); rintro e w' ⟨rfl, ⟨nd, rfl⟩⟩; refine ⟨_, rfl, ?_⟩))
                                        go_roundg kj30
                                        case measure => have := HK1.out; have := HJ9.out; have := HJ30.out; omega
                                        case rel => exact ⟨(y125), (t128), (by first | rfl | (simp; done) | (simp [*]; done)), H', ⟨by have := HK1.out; have := HJ9.out; have := HJ30.out; omega⟩, ⟨by (with_reducible repeat (first | apply Kd.R_alloc | apply Kd.R_drewN | apply Kd.R_drew)); exact Kd.R_mono HO127.out (fun _ hk => trivial)⟩, ⟨by repeat (first | (with_reducible first | exact HB.out | apply below_alloc | apply pw_below_drewN | apply below_drew1 | refine below_set ?_ GE115.out) | exact HB.out)⟩⟩
                                      · rw [if_neg c53] at H
                                        exact absurd H (by simp)
                              · rw [if_neg c42] at H
                                exact absurd H (by simp)
                            · rw [if_neg c41] at H
                              have c41b0 : decide (x8_9 < (a0.size : Int)) = false := decide_eq_false c41
                              clear c41
                              by_cases c57 : x5_1.length < 4398046511104
                              · rw [if_pos c57] at H
                                have LMc57 := Aside0.mk c57
                                clear c57
                                obtain ⟨y129, hy129⟩ : ∃ y_ : List (S35), y_ = (x5_1 ++ [(⟨x116000_9, x116001_9, x116002_9⟩ : S35)]) := ⟨_, rfl⟩
                                replace H : ((lexer_blank.f kj30 a0 x8_9).bind fun t132 => (lexer_Split.l0 kj30 a0 y129 t132)) = some (r1, r2, r3) := by first | (rw [hy129]; with_reducible exact H) | (have H2_ := (Option.bind_some _ _).symm.trans H; rw [hy129]; with_reducible exact H2_) | (have H2_ := (Option.bind_some _ _).symm.trans H; with_reducible exact H2_) | with_reducible exact H | (rw [hy129]; exact H) | exact H
                                have Ny129 := Aside0.mk hy129
                                clear hy129
                                replace H := Option.bind_eq_some_iff.mp H
                                obtain ⟨t132, A580, H⟩ := H
                                replace H : (lexer_Split.l0 kj30 a0 y129 t132) = some (r1, r2, r3) := H
                                have A58 := Aside0.mk A580
                                clear A580
                                have H' := Aside0.mk H
                                clear H
                                have hcz59_0 : wc.cell? ⟨gb115, 0, none⟩ = some (.int .i64 x116000_9) := (blk_cell BK115.out 0).trans rfl
                                have hcz59_1 : wc.cell? ⟨gb115, 1, none⟩ = some (.string x116001_9) := (blk_cell BK115.out 1).trans rfl
                                have hcz59_2 : wc.cell? ⟨gb115, 2, none⟩ = some (.int .i64 x116002_9) := (blk_cell BK115.out 2).trans rfl
                                have hfz59_0 := blk_frozen BK115.out 0
                                have hfz59_1 := blk_frozen BK115.out 1
                                have hfz59_2 := blk_frozen BK115.out 2
                                go_wp2_with (first | ((with_reducible refine gate_builtin (b := .append) (xs := #[.tmp 103, .tmp 105]) rfl ?_); (try (refine gate_guard (by rfl) ?_; dsimp only)); at_builtin; refine Kd.R_append k35 (w0 := w) w.heap.size rfl (.tmp 103) (.tmp 105) 24 35 (.agg #[(.int .i64 0), (.string ⟨#[]⟩), (.int .i64 0)]) 32 rfl Try.underlying24 info35 rfl (by decide) (by omega) u5 x5_1 (⟨x116000_9, x116001_9, x116002_9⟩ : S35) [.int .i64 x116000_9, .string x116001_9, .int .i64 x116002_9] (fun k_ => k_ ≠ gb115) (fun _ => False) rfl rfl ?aP (fun _ hk => hk.elim) ?aF ?aO ?aB ?aS ?aL ?_; (case aP => exact k35_mkM _ _ _ (⟨x116000_9, x116001_9, x116002_9⟩ : S35)); (case aB => exact (by repeat (first | (with_reducible first | exact HB.out | apply below_alloc | apply pw_below_drewN | apply below_drew1 | refine below_set ?_ GE115.out) | exact HB.out))); (case aF => exact (fun k_ hk => Kd.freshB (g := gb115) (o := .cells #[.int .i64 x116000_9, .string x116001_9, .int .i64 x116002_9] 35 (0, 0)) (by (with_reducible repeat (first | refine blk_drewN ?_ _ | refine blk_drew ?_ | refine blk_alloc ?_ _)); exact BK115.out) k_ hk)); (case aO => exact (by (with_reducible repeat (first | apply Kd.R_alloc | apply Kd.R_drewN | apply Kd.R_drew)); exact HO_5.out)); (case aS => exact (below_size (by repeat (first | (with_reducible first | exact HB.out | apply below_alloc | apply pw_below_drewN | apply below_drew1 | refine below_set ?_ GE115.out) | exact HB.out)))); (case aL => have := LMc57.out; omega); intro v130 w60 ho hb hg hat; rw [← Ny129.out] at ho; have n0_ := Aside0.mk (blk_grown (g := gb115) (o := .cells #[.int .i64 x116000_9, .string x116001_9, .int .i64 x116002_9] 35 (0, 0)) (by (with_reducible repeat (first | refine blk_drewN ?_ _ | refine blk_drew ?_ | refine blk_alloc ?_ _)); exact BK115.out) hg (Kd.R_away HO_5.out (fun _ hk => hk))); have n1_ := Aside0.mk (hb); have n2_ := Aside0.mk (ho); clear BK115; clear HB; clear HO_5; have BK115 := n0_; have HB := n1_; have HO131 := n2_; clear n0_ n1_ n2_; clear ho hb hg hat) | ((with_reducible refine gate_callee (f := 16) rfl ?_); refine goesL_ (some 109) rfl rfl Try.func16 (by kernel_rfl) rfl #[.string a0, .int .i64 x8_9] rfl (by (try simp only [List.map_toArray, List.map_cons, List.map_nil]); first | done | rfl | (simp only [List.length_drop, List.length_take]; rfl)) ?_; (with_reducible refine (lexer_blank.calls kj30 a0 x8_9 t132 _ A58.out).mono ?_); rintro e w' ⟨rfl, ⟨nd, rfl⟩⟩; refine ⟨_, rfl, ?_⟩))
                                go_roundg kj30
                                case measure => have := HK1.out; have := HJ9.out; have := HJ30.out; omega
                                case rel => exact ⟨(y129), (t132), (by first | rfl | (simp; done) | (simp [*]; done)), H', ⟨by have := HK1.out; have := HJ9.out; have := HJ30.out; omega⟩, ⟨by (with_reducible repeat (first | apply Kd.R_alloc | apply Kd.R_drewN | apply Kd.R_drew)); exact Kd.R_mono HO131.out (fun _ hk => trivial)⟩, ⟨by repeat (first | (with_reducible first | exact HB.out | apply below_alloc | apply pw_below_drewN | apply below_drew1 | refine below_set ?_ GE115.out) | exact HB.out)⟩⟩
                              · rw [if_neg c57] at H
                                exact absurd H (by simp)
                          · rw [if_neg c40] at H
                            have c40b0 : (x116000_9 == 2) = false := beq_eq_false_iff_ne.mpr c40
                            have c40b1 : (x116000_9 != 2) = true := bne_iff_ne.mpr c40
                            by_cases c61 : x5_1.length < 4398046511104
                            · rw [if_pos c61] at H
                              have LMc61 := Aside0.mk c61
                              clear c61
                              obtain ⟨y133, hy133⟩ : ∃ y_ : List (S35), y_ = (x5_1 ++ [(⟨x116000_9, x116001_9, x116002_9⟩ : S35)]) := ⟨_, rfl⟩
                              replace H : ((lexer_blank.f kj30 a0 x8_9).bind fun t136 => (lexer_Split.l0 kj30 a0 y133 t136)) = some (r1, r2, r3) := by first | (rw [hy133]; with_reducible exact H) | (have H2_ := (Option.bind_some _ _).symm.trans H; rw [hy133]; with_reducible exact H2_) | (have H2_ := (Option.bind_some _ _).symm.trans H; with_reducible exact H2_) | with_reducible exact H | (rw [hy133]; exact H) | exact H
                              have Ny133 := Aside0.mk hy133
                              clear hy133
                              replace H := Option.bind_eq_some_iff.mp H
                              obtain ⟨t136, A620, H⟩ := H
                              replace H : (lexer_Split.l0 kj30 a0 y133 t136) = some (r1, r2, r3) := H
                              have A62 := Aside0.mk A620
                              clear A620
                              have H' := Aside0.mk H
                              clear H
                              have hcz63_0 : wc.cell? ⟨gb115, 0, none⟩ = some (.int .i64 x116000_9) := (blk_cell BK115.out 0).trans rfl
                              have hcz63_1 : wc.cell? ⟨gb115, 1, none⟩ = some (.string x116001_9) := (blk_cell BK115.out 1).trans rfl
                              have hcz63_2 : wc.cell? ⟨gb115, 2, none⟩ = some (.int .i64 x116002_9) := (blk_cell BK115.out 2).trans rfl
                              have hfz63_0 := blk_frozen BK115.out 0
                              have hfz63_1 := blk_frozen BK115.out 1
                              have hfz63_2 := blk_frozen BK115.out 2
                              go_wp2_with (first | ((with_reducible refine gate_builtin (b := .append) (xs := #[.tmp 103, .tmp 105]) rfl ?_); (try (refine gate_guard (by rfl) ?_; dsimp only)); at_builtin; refine Kd.R_append k35 (w0 := w) w.heap.size rfl (.tmp 103) (.tmp 105) 24 35 (.agg #[(.int .i64 0), (.string ⟨#[]⟩), (.int .i64 0)]) 32 rfl Try.underlying24 info35 rfl (by decide) (by omega) u5 x5_1 (⟨x116000_9, x116001_9, x116002_9⟩ : S35) [.int .i64 x116000_9, .string x116001_9, .int .i64 x116002_9] (fun k_ => k_ ≠ gb115) (fun _ => False) rfl rfl ?aP (fun _ hk => hk.elim) ?aF ?aO ?aB ?aS ?aL ?_; (case aP => exact k35_mkM _ _ _ (⟨x116000_9, x116001_9, x116002_9⟩ : S35)); (case aB => exact (by repeat (first | (with_reducible first | exact HB.out | apply below_alloc | apply pw_below_drewN | apply below_drew1 | refine below_set ?_ GE115.out) | exact HB.out))); (case aF => exact (fun k_ hk => Kd.freshB (g := gb115) (o := .cells #[.int .i64 x116000_9, .string x116001_9, .int .i64 x116002_9] 35 (0, 0)) (by (with_reducible repeat (first | refine blk_drewN ?_ _ | refine blk_drew ?_ | refine blk_alloc ?_ _)); exact BK115.out) k_ hk)); (case aO => exact (by (with_reducible repeat (first | apply Kd.R_alloc | apply Kd.R_drewN | apply Kd.R_drew)); exact HO_5.out)); (case aS => exact (below_size (by repeat (first | (with_reducible first | exact HB.out | apply below_alloc | apply pw_below_drewN | apply below_drew1 | refine below_set ?_ GE115.out) | exact HB.out)))); (case aL => have := LMc61.out; omega); intro v134 w64 ho hb hg hat; rw [← Ny133.out] at ho; have n0_ := Aside0.mk (blk_grown (g := gb115) (o := .cells #[.int .i64 x116000_9, .string x116001_9, .int .i64 x116002_9] 35 (0, 0)) (by (with_reducible repeat (first | refine blk_drewN ?_ _ | refine blk_drew ?_ | refine blk_alloc ?_ _)); exact BK115.out) hg (Kd.R_away HO_5.out (fun _ hk => hk))); have n1_ := Aside0.mk (hb); have n2_ := Aside0.mk (ho); clear BK115; clear HB; clear HO_5; have BK115 := n0_; have HB := n1_; have HO135 := n2_; clear n0_ n1_ n2_; clear ho hb hg hat) | ((with_reducible refine gate_callee (f := 16) rfl ?_); refine goesL_ (some 109) rfl rfl Try.func16 (by kernel_rfl) rfl #[.string a0, .int .i64 x8_9] rfl (by (try simp only [List.map_toArray, List.map_cons, List.map_nil]); first | done | rfl | (simp only [List.length_drop, List.length_take]; rfl)) ?_; (with_reducible refine (lexer_blank.calls kj30 a0 x8_9 t136 _ A62.out).mono ?_); rintro e w' ⟨rfl, ⟨nd, rfl⟩⟩; refine ⟨_, rfl, ?_⟩))
                              go_roundg kj30
                              case measure => have := HK1.out; have := HJ9.out; have := HJ30.out; omega
                              case rel => exact ⟨(y133), (t136), (by first | rfl | (simp; done) | (simp [*]; done)), H', ⟨by have := HK1.out; have := HJ9.out; have := HJ30.out; omega⟩, ⟨by (with_reducible repeat (first | apply Kd.R_alloc | apply Kd.R_drewN | apply Kd.R_drew)); exact Kd.R_mono HO135.out (fun _ hk => trivial)⟩, ⟨by repeat (first | (with_reducible first | exact HB.out | apply below_alloc | apply pw_below_drewN | apply below_drew1 | refine below_set ?_ GE115.out) | exact HB.out)⟩⟩
                            · rw [if_neg c61] at H
                              exact absurd H (by simp)
              · rw [if_neg c9] at H
                exact absurd H (by simp)
            · rw [if_neg c8] at H
              exact absurd H (by simp)
          · rw [if_neg c5] at H
            exact absurd H (by simp)
        · rw [if_neg c4] at H
          have c4b0 : decide (x6_1 < (a0.size : Int)) = false := decide_eq_false c4
          clear c4
          by_cases c65 : x5_1.length < 4398046511104
          · rw [if_pos c65] at H
            have LMc65 := Aside0.mk c65
            clear c65
            obtain ⟨y112, hy112⟩ : ∃ y_ : List (S35), y_ = (x5_1 ++ [(⟨5, (⟨#[]⟩ : ByteArray), (a0.size : Int)⟩ : S35)]) := ⟨_, rfl⟩
            replace H : (some (y112, 0, 0)) = some (r1, r2, r3) := by first | (rw [hy112]; with_reducible exact H) | (have H2_ := (Option.bind_some _ _).symm.trans H; rw [hy112]; with_reducible exact H2_) | (have H2_ := (Option.bind_some _ _).symm.trans H; with_reducible exact H2_) | with_reducible exact H | (rw [hy112]; exact H) | exact H
            have Ny112 := Aside0.mk hy112
            clear hy112
            simp only [Option.some.injEq, Prod.mk.injEq] at H
            obtain ⟨rfl, rfl, rfl⟩ := H
            go_wp2_with (first | ((with_reducible refine gate_builtin (b := .append) (xs := #[.tmp 110, .tmp 114]) rfl ?_); (try (refine gate_guard (by rfl) ?_; dsimp only)); at_builtin; refine Kd.R_append k35 (w0 := w) w.heap.size rfl (.tmp 110) (.tmp 114) 24 35 (.agg #[(.int .i64 0), (.string ⟨#[]⟩), (.int .i64 0)]) 32 rfl Try.underlying24 info35 rfl (by decide) (by omega) u5 x5_1 (⟨5, (⟨#[]⟩ : ByteArray), (a0.size : Int)⟩ : S35) [.int .i64 5, .string (⟨#[]⟩ : ByteArray), .int .i64 (a0.size : Int)] (fun _ => True) (fun _ => False) rfl rfl ?aP (fun _ hk => hk.elim) ?aF ?aO ?aB ?aS ?aL ?_; (case aP => exact k35_mkM _ _ _ (⟨5, (⟨#[]⟩ : ByteArray), (a0.size : Int)⟩ : S35)); (case aB => exact (by repeat (first | (with_reducible first | exact HB.out | apply below_alloc | apply pw_below_drewN | apply below_drew1) | exact HB.out))); (case aF => exact (fun _ _ => trivial)); (case aO => exact (by (with_reducible repeat (first | apply Kd.R_alloc | apply Kd.R_drewN | apply Kd.R_drew)); exact HO_5.out)); (case aS => exact (below_size (by repeat (first | (with_reducible first | exact HB.out | apply below_alloc | apply pw_below_drewN | apply below_drew1) | exact HB.out)))); (case aL => have := LMc65.out; omega); intro v113 w66 ho hb hg hat; rw [← Ny112.out] at ho; have n0_ := Aside0.mk (hb); have n1_ := Aside0.mk (ho); clear HB; clear HO_5; have HB := n0_; have HO114 := n1_; clear n0_ n1_; clear ho hb hg hat))
            go_ret3
            exact ⟨_, by first | rfl | (simp [errW_none, errW_some] <;> rfl) | (simp [*, errW_none, errW_some] <;> rfl), by (with_reducible repeat (first | apply Kd.R_alloc | apply Kd.R_drewN | apply Kd.R_drew)); exact HO114.out, by repeat (first | (with_reducible first | exact HB.out | apply below_alloc | apply pw_below_drewN | apply below_drew1) | exact HB.out)⟩
          · rw [if_neg c65] at H
            exact absurd H (by simp)

end Go.Proofs.Ytffgmmgfofbmlaa.PA
