-- Written by a program of this session (wip/tools/pr.py) that drives the kit's print tool over a turned print.
import Derived.Test.YtffgmmgfofbmlaaTA
import Derived.Test.YtffgmmgfofbmlaaFALexerSplit
import Derived.Test.YtffgmmgfofbmlaaFAInsolvencylaw11Awake
namespace Go.Proofs.Ytffgmmgfofbmlaa.PA
open Go.RowKit Go.Proofs.YtffgmmgfofbmlaaW.PrintWords Go.Proofs.YtffgmmgfofbmlaaW.PrintLast Go.Proofs.YtffgmmgfofbmlaaW.PrintMore
attribute [local go_sem] max2_int min2_int max_two min_two max_three min_three max_four min_four   -- for this text's walks alone
set_option linter.unusedVariables false
set_option linter.unusedSimpArgs false

/-! ### insolvencylaw11_LexerMany: function 8 -/
mutual
def insolvencylaw11_LexerMany.l0 : Nat → Int → Int → Int → List Int → Int → Int → Option (Bool)
  | 0, _, _, _, _, _, _ => none
  | k + 1, x0, x1, x5, x6, x26, x27 => if x27 < x26 then (if 0 ≤ x27 then (if x27 < (x6.length : Int) then (insolvencylaw11_LexerMany.l0 k x0 x1 x5 (x6.set (x27 : Int).toNat 59) x26 (wrap64 (x27 + 1))) else (none)) else (none)) else ((lexer_Split.f k (strOfNums x6)).bind fun bt249 => (if x5 > 2048 then (if bt249.2.2 = 2 then (if bt249.2.1 = 2048 then (if (bt249.1.length : Int) = 0 then (insolvencylaw11_LexerMany.j1 k x0 x1) else (some false)) else (some false)) else (some false)) else (if bt249.2.2 = 0 then (if (bt249.1.length : Int) = (wrap64 (x5 + 1)) then (insolvencylaw11_LexerMany.j1 k x0 x1) else (some false)) else (some false))))
def insolvencylaw11_LexerMany.j1 : Nat → Int → Int → Option (Bool)
  | 0, _, _ => none
  | k + 1, x0, x1 => if 0 ≤ (wrap64 (1 + (Int.tmod (wrap64 (x1)) 64))) then (if (wrap64 (1 + (Int.tmod (wrap64 (x1)) 64)) : Int).toNat ≤ 281474976710656 then ((some (List.replicate (wrap64 (1 + (Int.tmod (wrap64 (x1)) 64)) : Int).toNat 0 : List Int)).bind fun y254 => (insolvencylaw11_LexerMany.l1 k x0 y254 (y254.length : Int) 0)) else (none)) else (none)
def insolvencylaw11_LexerMany.l1 : Nat → Int → List Int → Int → Int → Option (Bool)
  | 0, _, _, _, _ => none
  | k + 1, x0, x11, x69, x70 => if x70 < x69 then (if 0 ≤ x70 then (if x70 < (x11.length : Int) then (insolvencylaw11_LexerMany.l1 k x0 (x11.set (x70 : Int).toNat 120) x69 (wrap64 (x70 + 1))) else (none)) else (none)) else (if 1 + (strOfNums x11).size ≤ 9223372036854775807 then ((lexer_Split.f k ((⟨#[32]⟩ : ByteArray) ++ (strOfNums x11))).bind fun bt258 => (if (x11.length : Int) > 32 then ((insolvencylaw11_awake.f k).bind fun t263 => (if t263 = true then (if bt258.2.2 = 2 then (some (bt258.2.1 == 1)) else (some false)) else (some false))) else (if 0 ≤ (wrap64 (8193 - (wrap64 (Int.tmod x0 2)))) then (if (wrap64 (8193 - (wrap64 (Int.tmod x0 2))) : Int).toNat ≤ 281474976710656 then ((some (List.replicate (wrap64 (8193 - (wrap64 (Int.tmod x0 2))) : Int).toNat 0 : List Int)).bind fun y264 => (insolvencylaw11_LexerMany.l2 k x0 bt258.2.2 y264 (y264.length : Int) 0)) else (none)) else (none)))) else (none))
def insolvencylaw11_LexerMany.l2 : Nat → Int → Int → List Int → Int → Int → Option (Bool)
  | 0, _, _, _, _, _ => none
  | k + 1, x0, x14, x15, x103, x104 => if x104 < x103 then (if 0 ≤ x104 then (if x104 < (x15.length : Int) then (insolvencylaw11_LexerMany.l2 k x0 x14 (x15.set (x104 : Int).toNat 32) x103 (wrap64 (x104 + 1))) else (none)) else (none)) else ((lexer_Split.f k (strOfNums x15)).bind fun bt268 => ((insolvencylaw11_awake.f k).bind fun t273 => (if t273 = true then (if x14 = 0 then (if ((bt268.2.2 == 2) == ((Int.tmod x0 2) == 0)) = true then (some (bt268.2.1 == 0)) else (some false)) else (some false)) else (some false))))
end
def insolvencylaw11_LexerMany.f (k : Nat) (a0 : Int) (a1 : Int) : Option (Bool) := if 0 ≤ (wrap64 (2045 + (wrap64 (Int.tmod a0 6)))) then (if (wrap64 (2045 + (wrap64 (Int.tmod a0 6))) : Int).toNat ≤ 281474976710656 then ((some (List.replicate (wrap64 (2045 + (wrap64 (Int.tmod a0 6))) : Int).toNat 0 : List Int)).bind fun y245 => (insolvencylaw11_LexerMany.l0 k a0 a1 (wrap64 (2045 + (wrap64 (Int.tmod a0 6)))) y245 (y245.length : Int) 0)) else (none)) else (none)
theorem insolvencylaw11_LexerMany.mono_l : ∀ k, (∀ y0 y1 y2 y3 y4 y5, LeO (insolvencylaw11_LexerMany.l0 k y0 y1 y2 y3 y4 y5) (insolvencylaw11_LexerMany.l0 (k + 1) y0 y1 y2 y3 y4 y5)) ∧ (∀ y0 y1, LeO (insolvencylaw11_LexerMany.j1 k y0 y1) (insolvencylaw11_LexerMany.j1 (k + 1) y0 y1)) ∧ (∀ y0 y1 y2 y3, LeO (insolvencylaw11_LexerMany.l1 k y0 y1 y2 y3) (insolvencylaw11_LexerMany.l1 (k + 1) y0 y1 y2 y3)) ∧ (∀ y0 y1 y2 y3 y4, LeO (insolvencylaw11_LexerMany.l2 k y0 y1 y2 y3 y4) (insolvencylaw11_LexerMany.l2 (k + 1) y0 y1 y2 y3 y4))
  | 0 => ⟨fun _ _ _ _ _ _ r h => by simp [insolvencylaw11_LexerMany.l0] at h, fun _ _ r h => by simp [insolvencylaw11_LexerMany.j1] at h, fun _ _ _ _ r h => by simp [insolvencylaw11_LexerMany.l1] at h, fun _ _ _ _ _ r h => by simp [insolvencylaw11_LexerMany.l2] at h⟩
  | k + 1 => by
    obtain ⟨ih0, ih1, ih2, ih3⟩ := insolvencylaw11_LexerMany.mono_l k
    refine ⟨?_, ?_, ?_, ?_⟩
    · intro y0 y1 y2 y3 y4 y5
      unfold insolvencylaw11_LexerMany.l0
      repeat' first
      | (with_reducible exact ih0 _ _ _ _ _ _)
      | (with_reducible exact ih1 _ _)
      | (with_reducible exact ih2 _ _ _ _)
      | (with_reducible exact ih3 _ _ _ _ _)
      | (with_reducible exact insolvencylaw11_awake.mono _)
      | (with_reducible exact lexer_Split.mono _ _)
      | (with_reducible exact LeO.refl _)
      | (with_reducible exact LeO.none _)
      | (with_reducible refine LeO.ite ?_ ?_)
      | (with_reducible refine LeO.bind ?_ (fun _ => ?_))
      | exact ih0 _ _ _ _ _ _
      | exact ih1 _ _
      | exact ih2 _ _ _ _
      | exact ih3 _ _ _ _ _
      | exact insolvencylaw11_awake.mono _
      | exact lexer_Split.mono _ _
      | exact LeO.none _
      | refine LeO.ite ?_ ?_
      | refine LeO.bind ?_ (fun _ => ?_)
    · intro y0 y1
      unfold insolvencylaw11_LexerMany.j1
      repeat' first
      | (with_reducible exact ih0 _ _ _ _ _ _)
      | (with_reducible exact ih1 _ _)
      | (with_reducible exact ih2 _ _ _ _)
      | (with_reducible exact ih3 _ _ _ _ _)
      | (with_reducible exact insolvencylaw11_awake.mono _)
      | (with_reducible exact lexer_Split.mono _ _)
      | (with_reducible exact LeO.refl _)
      | (with_reducible exact LeO.none _)
      | (with_reducible refine LeO.ite ?_ ?_)
      | (with_reducible refine LeO.bind ?_ (fun _ => ?_))
      | exact ih0 _ _ _ _ _ _
      | exact ih1 _ _
      | exact ih2 _ _ _ _
      | exact ih3 _ _ _ _ _
      | exact insolvencylaw11_awake.mono _
      | exact lexer_Split.mono _ _
      | exact LeO.none _
      | refine LeO.ite ?_ ?_
      | refine LeO.bind ?_ (fun _ => ?_)
    · intro y0 y1 y2 y3
      unfold insolvencylaw11_LexerMany.l1
      repeat' first
      | (with_reducible exact ih0 _ _ _ _ _ _)
      | (with_reducible exact ih1 _ _)
      | (with_reducible exact ih2 _ _ _ _)
      | (with_reducible exact ih3 _ _ _ _ _)
      | (with_reducible exact insolvencylaw11_awake.mono _)
      | (with_reducible exact lexer_Split.mono _ _)
      | (with_reducible exact LeO.refl _)
      | (with_reducible exact LeO.none _)
      | (with_reducible refine LeO.ite ?_ ?_)
      | (with_reducible refine LeO.bind ?_ (fun _ => ?_))
      | exact ih0 _ _ _ _ _ _
      | exact ih1 _ _
      | exact ih2 _ _ _ _
      | exact ih3 _ _ _ _ _
      | exact insolvencylaw11_awake.mono _
      | exact lexer_Split.mono _ _
      | exact LeO.none _
      | refine LeO.ite ?_ ?_
      | refine LeO.bind ?_ (fun _ => ?_)
    · intro y0 y1 y2 y3 y4
      unfold insolvencylaw11_LexerMany.l2
      repeat' first
      | (with_reducible exact ih0 _ _ _ _ _ _)
      | (with_reducible exact ih1 _ _)
      | (with_reducible exact ih2 _ _ _ _)
      | (with_reducible exact ih3 _ _ _ _ _)
      | (with_reducible exact insolvencylaw11_awake.mono _)
      | (with_reducible exact lexer_Split.mono _ _)
      | (with_reducible exact LeO.refl _)
      | (with_reducible exact LeO.none _)
      | (with_reducible refine LeO.ite ?_ ?_)
      | (with_reducible refine LeO.bind ?_ (fun _ => ?_))
      | exact ih0 _ _ _ _ _ _
      | exact ih1 _ _
      | exact ih2 _ _ _ _
      | exact ih3 _ _ _ _ _
      | exact insolvencylaw11_awake.mono _
      | exact lexer_Split.mono _ _
      | exact LeO.none _
      | refine LeO.ite ?_ ?_
      | refine LeO.bind ?_ (fun _ => ?_)
theorem insolvencylaw11_LexerMany.mono : ∀ a0 a1 k, LeO (insolvencylaw11_LexerMany.f k a0 a1) (insolvencylaw11_LexerMany.f (k + 1) a0 a1) := by
  intro a0 a1 k
  obtain ⟨ih0, ih1, ih2, ih3⟩ := insolvencylaw11_LexerMany.mono_l k
  unfold insolvencylaw11_LexerMany.f
  repeat' first
      | (with_reducible exact ih0 _ _ _ _ _ _)
      | (with_reducible exact ih1 _ _)
      | (with_reducible exact ih2 _ _ _ _)
      | (with_reducible exact ih3 _ _ _ _ _)
      | (with_reducible exact insolvencylaw11_awake.mono _)
      | (with_reducible exact lexer_Split.mono _ _)
      | (with_reducible exact LeO.refl _)
      | (with_reducible exact LeO.none _)
      | (with_reducible refine LeO.ite ?_ ?_)
      | (with_reducible refine LeO.bind ?_ (fun _ => ?_))
      | exact ih0 _ _ _ _ _ _
      | exact ih1 _ _
      | exact ih2 _ _ _ _
      | exact ih3 _ _ _ _ _
      | exact insolvencylaw11_awake.mono _
      | exact lexer_Split.mono _ _
      | exact LeO.none _
      | refine LeO.ite ?_ ?_
      | refine LeO.bind ?_ (fun _ => ?_)
set_option maxHeartbeats 8000000 in
set_option maxRecDepth 100000 in
theorem insolvencylaw11_LexerMany.calls (k : Nat) (a0 : Int) (a1 : Int) (r : Bool) (w : World) (h : insolvencylaw11_LexerMany.f k a0 a1 = some r) :
    Calls Try.prog 8 #[.int .u16 a0, .int .u8 a1] w fun e w' => e = .returned (.bool r) ∧ Below w.heap.size w w' := by
  have HB := Aside0.mk (Below.refl w.heap.size w)
  have H : (if 0 ≤ (wrap64 (2045 + (wrap64 (Int.tmod a0 6)))) then (if (wrap64 (2045 + (wrap64 (Int.tmod a0 6))) : Int).toNat ≤ 281474976710656 then ((some (List.replicate (wrap64 (2045 + (wrap64 (Int.tmod a0 6))) : Int).toNat 0 : List Int)).bind fun y245 => (insolvencylaw11_LexerMany.l0 k a0 a1 (wrap64 (2045 + (wrap64 (Int.tmod a0 6)))) y245 (y245.length : Int) 0)) else (none)) else (none)) = some r := h
  clear h
  obtain ⟨ji3, hji3⟩ : ∃ j_ : Int, (wrap64 (2045 + (wrap64 (Int.tmod a0 6)))) = j_ := ⟨_, rfl⟩
  replace H : (if 0 ≤ (ji3) then (if (ji3 : Int).toNat ≤ 281474976710656 then ((some (List.replicate (ji3 : Int).toNat 0 : List Int)).bind fun y245 => (insolvencylaw11_LexerMany.l0 k a0 a1 ji3 y245 (y245.length : Int) 0)) else (none)) else (none)) = some r := by first | (rw [hji3] at H; exact H) | (simp only [hji3] at H ⊢; exact H)
  have hji3w : (IntKind.i64.wrap (2045 + (wrap64 (Int.tmod a0 6)))) = ji3 := (i64_w _).trans hji3
  by_cases c4 : 0 ≤ (ji3)
  · rw [if_pos c4] at H
    have c4b0 := eq_true c4
    have c4b1 : decide (0 ≤ (ji3)) = true := decide_eq_true c4
    clear c4
    by_cases c5 : (ji3 : Int).toNat ≤ 281474976710656
    · rw [if_pos c5] at H
      have c5b0 := eq_true c5
      have c5b1 : decide ((ji3 : Int).toNat ≤ 281474976710656) = true := decide_eq_true c5
      clear c5
      obtain ⟨y245, hy245⟩ : ∃ y_ : List Int, y_ = (List.replicate (ji3 : Int).toNat 0) := ⟨_, rfl⟩
      replace H : (insolvencylaw11_LexerMany.l0 k a0 a1 ji3 y245 (y245.length : Int) 0) = some r := by first | (rw [hy245]; with_reducible exact H) | (have H2_ := (Option.bind_some _ _).symm.trans H; rw [hy245]; with_reducible exact H2_) | (have H2_ := (Option.bind_some _ _).symm.trans H; with_reducible exact H2_) | with_reducible exact H | (rw [hy245]; exact H) | exact H
      have Ny245 := Aside0.mk hy245
      clear hy245
      have H' := Aside0.mk H
      clear H
      go_enter Try.func8, Try.ntmps8
      go_wp2_with (first | ((with_reducible refine gate_dst (N := 24) rfl ?_); (try (refine gate_guard (by rfl) ?_; dsimp only)); refine Kd.R_make (Kd.int .u8) _ 5 rfl (N := 24) rfl 31 _ _ rfl ji3 rfl rfl Try.underlying31 (.int .u8 0) 1 info5 rfl (by decide) (by omega) 0 (ok := fun _ => True) (okp := fun _ => True) rfl (fun _ hk => hk) trivial (of_decide_eq_true (by first | (with_reducible assumption) | assumption)) (Nat.le_trans (Nat.mul_le_mul_right _ (of_decide_eq_true (by first | (with_reducible assumption) | assumption) : ji3.toNat ≤ 281474976710656)) (by omega)) (Below.refl _ _) (Nat.le_refl _) ?_; intro v246 w6 ho7 hb hg_ hnew_; clear hg_ hnew_; (first | rw [← Ny245.out] at ho7 | (simp only [Int.reduceToNat] at ho7; rw [← Ny245.out] at ho7)); have n0_ := Aside0.mk (Kd.R_lower ho7 (below_size (by repeat (first | (with_reducible first | exact HB.out | apply below_alloc | apply pw_below_drewN | apply below_drew1) | exact HB.out)))); have n1_ := Aside0.mk (below_step (by repeat (first | (with_reducible first | exact HB.out | apply below_alloc | apply pw_below_drewN | apply below_drew1) | exact HB.out)) hb); clear HB; have HO247 := n0_; have HB := n1_; clear n0_ n1_; clear hb ho7; obtain ⟨Ao8, co8, eo8⟩ := Kd.R_slice HO247.out; subst eo8))
      go_loopg [27] k (fun kq v27 w' => ∃ (x6_1 : List Int) (x27_1 : Int), v27 = .int .i64 x27_1 ∧ Aside0 (insolvencylaw11_LexerMany.l0 kq a0 a1 ji3 x6_1 (y245.length : Int) x27_1 = some r) ∧ Aside0 (kq ≤ k) ∧ Aside0 (Kd.R (Kd.int .u8) 5 w' w.heap.size (fun _ => True) (.slice Ao8 y245.length co8) x6_1) ∧ Aside0 (Below w.heap.size w w'))
      case atStart => exact ⟨(y245), (0), (by first | rfl | (simp; done) | (simp [*]; done)), H', ⟨Nat.le_refl _⟩, ⟨by (with_reducible repeat (first | apply Kd.R_alloc | apply Kd.R_drewN | apply Kd.R_drew)); exact HO247.out⟩, ⟨by repeat (first | (with_reducible first | exact HB.out | apply below_alloc | apply pw_below_drewN | apply below_drew1) | exact HB.out)⟩⟩
      case round =>
        clear H'
        try clear p2
        try clear c4
        try clear c4b0
        try clear c4b1
        try clear c5
        try clear c5b0
        try clear c5b1
        try clear p6
        try clear c8
        obtain ⟨x6_1, x27_1, rfl, HA, HK1, HO_6, HB⟩ := hrel
        have hl6_1 := (Kd.R_reads' HO_6.out).1
        rw [hl6_1] at HO_6
        (try simp only [hl6_1])
        cases gk with
        | zero => exact absurd HA.out (by simp [insolvencylaw11_LexerMany.l0])
        | succ k1 =>
          have H := HA.out
          clear HA
          simp only [insolvencylaw11_LexerMany.l0] at H
          by_cases c9 : x27_1 < (y245.length : Int)
          · rw [if_pos c9] at H
            have c9b0 : decide (x27_1 < (y245.length : Int)) = true := decide_eq_true c9
            clear c9
            by_cases c10 : 0 ≤ x27_1
            · rw [if_pos c10] at H
              have c10b0 : decide (0 ≤ x27_1) = true := decide_eq_true c10
              clear c10
              by_cases c11 : x27_1 < (x6_1.length : Int)
              · rw [if_pos c11] at H
                have c11b0 : decide (x27_1 < (x6_1.length : Int)) = true := decide_eq_true c11
                clear c11
                obtain ⟨y248, hy248⟩ : ∃ y_ : List Int, y_ = (x6_1.set (x27_1 : Int).toNat 59) := ⟨_, rfl⟩
                replace H : (insolvencylaw11_LexerMany.l0 k1 a0 a1 ji3 y248 (y245.length : Int) (wrap64 (x27_1 + 1))) = some r := by first | (rw [hy248]; with_reducible exact H) | (have H2_ := (Option.bind_some _ _).symm.trans H; rw [hy248]; with_reducible exact H2_) | (have H2_ := (Option.bind_some _ _).symm.trans H; with_reducible exact H2_) | with_reducible exact H | (rw [hy248]; exact H) | exact H
                have Ny248 := Aside0.mk hy248
                clear hy248
                have H' := Aside0.mk H
                clear H
                have p12 : 0 ≤ (x27_1 : Int) := of_decide_eq_true (by first | (with_reducible assumption) | assumption)
                have q12 : (x27_1 : Int) < ((x6_1.length : Int) : Int) := of_decide_eq_true (by first | (with_reducible assumption) | assumption)
                obtain ⟨go12, co12, eo12, gb12, gl12, cl12, HG12⟩ := Kd.R_form HO_6.out (by omega)
                (first | cases eo12 | (injection eo12 with ea_ en_ ec_; (first | subst ea_ | (injection ea_ with ea_; subst ea_)); subst ec_; clear en_))
                have GB12 := Aside0.mk gb12
                have GG12 := Aside0.mk HG12
                clear gb12 gl12 HG12
                obtain ⟨hx12_0, hf12_0⟩ := Kd.R_celln 0 HO_6.out (x27_1 : Int) p12 q12
                replace p12 := eq_true p12
                replace q12 := eq_true q12
                have HP13 := Kd.R_putg HO_6.out (x27_1 : Int) 59
                go_wp2_with (first | ((with_reducible refine gate_store (t := 5) (p := 32) rfl ?_); refine store_event (t := 5) (p := 32) (v := ?vo_w14) (w1 := (wr.setCell ⟨go12, (x27_1 : Int).toNat, none⟩ (.int .u8 59))) ?hg ?ho ?hn ?hr ?_; (case ho => rfl); (case hg => rfl); (case hn => rfl); (case hr => first | (go_simp; done) | (go_simp; rfl)); intro w14 hw; have hg : wr.grownBy w14 (some go12) := (by rw [hw]; exact HP13.2); have hp_ : Kd.R (Kd.int .u8) 5 w14 w.heap.size (fun _ => True) (.slice (some ⟨go12, 0, none⟩) x6_1.length co8) y248 := (by rw [hw, Ny248.out]; exact HP13.1); clear HP13; have n0_ := Aside0.mk (hp_); have n1_ := Aside0.mk ((by rw [hw]; exact below_set (HB.out) GB12.out : Below w.heap.size w w14)); clear HO_6; clear HB; have HO_6 := n0_; have HB := n1_; clear n0_ n1_; clear hg hw hp_))
                (try simp only [← hl6_1])
                go_roundg k1
                case measure => have := HK1.out; omega
                case rel => exact ⟨(y248), (wrap64 (x27_1 + 1)), (by first | rfl | (simp; done) | (simp [*]; done)), H', ⟨by have := HK1.out; omega⟩, ⟨by (try simp only [hl6_1]); (with_reducible repeat (first | apply Kd.R_alloc | apply Kd.R_drewN | apply Kd.R_drew)); exact HO_6.out⟩, ⟨by repeat (first | (with_reducible first | exact HB.out | apply below_alloc | apply pw_below_drewN | apply below_drew1) | exact HB.out)⟩⟩
              · rw [if_neg c11] at H
                exact absurd H (by simp)
            · rw [if_neg c10] at H
              exact absurd H (by simp)
          · rw [if_neg c9] at H
            have c9b0 : decide (x27_1 < (y245.length : Int)) = false := decide_eq_false c9
            (try (have c9b9_6_1 := c9b0; rw [hl6_1] at c9b9_6_1))
            (try (have c9b9_11_3 := c9b0; rw [hl11_3] at c9b9_11_3))
            (try (have c9b9_15_4 := c9b0; rw [hl15_4] at c9b9_15_4))
            clear c9
            replace H := Option.bind_eq_some_iff.mp H
            obtain ⟨⟨t249, t250, t251⟩, A150, H⟩ := H
            replace H : (if ji3 > 2048 then (if t251 = 2 then (if t250 = 2048 then (if (t249.length : Int) = 0 then (insolvencylaw11_LexerMany.j1 k1 a0 a1) else (some false)) else (some false)) else (some false)) else (if t251 = 0 then (if (t249.length : Int) = (wrap64 (ji3 + 1)) then (insolvencylaw11_LexerMany.j1 k1 a0 a1) else (some false)) else (some false))) = some r := H
            have A15 := Aside0.mk A150
            clear A150
            have HC16 := Aside0.mk H
            clear H
            have hcv17 := own_string (P := Try.prog) Try.underlying31 Try.underlying5 Try.underlying9 (Kd.own_of_R HO_6.out)
            go_upto_if 42 with (first | ((with_reducible refine gate_callee (f := 12) rfl ?_); refine goesL_ (some 37) rfl rfl Try.func12 (by kernel_rfl) rfl #[.string (strOfNums x6_1)] rfl (by (try simp only [List.map_toArray, List.map_cons, List.map_nil]); first | done | rfl | (simp only [List.length_drop, List.length_take]; rfl)) ?_; (with_reducible refine (lexer_Split.calls k1 (strOfNums x6_1) t249 t250 t251 _ A15.out).mono ?_); rintro e w18 ⟨v252, rfl, ho0, hb⟩; refine ⟨_, rfl, ?_⟩; have n0_ := Aside0.mk (Kd.R_below (by (with_reducible repeat (first | apply Kd.R_alloc | apply Kd.R_drewN | apply Kd.R_drew)); exact HO_6.out) hb); have n1_ := Aside0.mk (Kd.R_lower ho0 (below_size (by repeat (first | (with_reducible first | exact HB.out | apply below_alloc | apply pw_below_drewN | apply below_drew1) | exact HB.out)))); have n2_ := Aside0.mk (below_step (by repeat (first | (with_reducible first | exact HB.out | apply below_alloc | apply pw_below_drewN | apply below_drew1) | exact HB.out)) hb); clear HO_6; clear HB; have HO_6 := n0_; have HO253 := n1_; have HB := n2_; clear n0_ n1_ n2_; (try clear hb); (try clear hb2); (try clear hk); (try clear hi); (try clear ho0)))
            (try simp only [Act.put, List.setIfInBounds_toArray, List.set_cons_zero, List.set_cons_succ])
            go_cut [] (fun wc => ∃ (kq : Nat), Aside0 (insolvencylaw11_LexerMany.j1 kq a0 a1 = some r) ∧ Aside0 (kq ≤ k1) ∧ Aside0 (Below w.heap.size w wc))
            case first =>
              have H := HC16.out
              clear HC16
              by_cases c19 : ji3 > 2048
              · rw [if_pos c19] at H
                have c19b0 : decide (2048 < ji3) = true := decide_eq_true c19
                clear c19
                (first | rw [c19b0] | (simp only [i64_w, i32_w]; rw [c19b0]) | skip)
                by_cases c20 : t251 = 2
                · rw [if_pos c20] at H
                  have c20b0 : (t251 == 2) = true := beq_iff_eq.mpr c20
                  have c20b1 : (t251 != 2) = false := bne_eq_false_iff_eq.mpr c20
                  clear c20
                  by_cases c21 : t250 = 2048
                  · rw [if_pos c21] at H
                    have c21b0 : (t250 == 2048) = true := beq_iff_eq.mpr c21
                    have c21b1 : (t250 != 2048) = false := bne_eq_false_iff_eq.mpr c21
                    clear c21
                    by_cases c22 : (t249.length : Int) = 0
                    · rw [if_pos c22] at H
                      have c22b0 : ((t249.length : Int) == 0) = true := beq_iff_eq.mpr c22
                      have c22b1 : ((t249.length : Int) != 0) = false := bne_eq_false_iff_eq.mpr c22
                      clear c22
                      have H' := Aside0.mk H
                      clear H
                      obtain ⟨Ao23, co23, eo23⟩ := Kd.R_slice HO253.out
                      subst eo23
                      go_wp2
                      go_meet
                      case rel => exact ⟨_, H', ⟨by have := HK1.out; first | omega | exact Nat.le_refl _⟩, ⟨by repeat (first | (with_reducible first | exact HB.out | apply below_alloc | apply pw_below_drewN | apply below_drew1) | exact HB.out)⟩⟩
                    · rw [if_neg c22] at H
                      have c22b0 : ((t249.length : Int) == 0) = false := beq_eq_false_iff_ne.mpr c22
                      have c22b1 : ((t249.length : Int) != 0) = true := bne_iff_ne.mpr c22
                      have c22b2 : ¬ (t249 = []) := fun h_ => c22 (by rw [h_]; rfl)
                      obtain rfl := Option.some.inj H
                      obtain ⟨Ao24, co24, eo24⟩ := Kd.R_slice HO253.out
                      subst eo24
                      go_wp2
                      go_ret
                      exact ⟨by first | rfl | (simp [errW_none, errW_some] <;> rfl) | (simp only [← hji3]; first | rfl | (simp [errW_none, errW_some] <;> rfl)) | (simp [*, errW_none, errW_some] <;> rfl), by repeat (first | (with_reducible first | exact HB.out | apply below_alloc | apply pw_below_drewN | apply below_drew1) | exact HB.out)⟩
                  · rw [if_neg c21] at H
                    have c21b0 : (t250 == 2048) = false := beq_eq_false_iff_ne.mpr c21
                    have c21b1 : (t250 != 2048) = true := bne_iff_ne.mpr c21
                    obtain rfl := Option.some.inj H
                    go_wp2
                    go_ret
                    exact ⟨by first | rfl | (simp [errW_none, errW_some] <;> rfl) | (simp only [← hji3]; first | rfl | (simp [errW_none, errW_some] <;> rfl)) | (simp [*, errW_none, errW_some] <;> rfl), by repeat (first | (with_reducible first | exact HB.out | apply below_alloc | apply pw_below_drewN | apply below_drew1) | exact HB.out)⟩
                · rw [if_neg c20] at H
                  have c20b0 : (t251 == 2) = false := beq_eq_false_iff_ne.mpr c20
                  have c20b1 : (t251 != 2) = true := bne_iff_ne.mpr c20
                  obtain rfl := Option.some.inj H
                  go_wp2
                  go_ret
                  exact ⟨by first | rfl | (simp [errW_none, errW_some] <;> rfl) | (simp only [← hji3]; first | rfl | (simp [errW_none, errW_some] <;> rfl)) | (simp [*, errW_none, errW_some] <;> rfl), by repeat (first | (with_reducible first | exact HB.out | apply below_alloc | apply pw_below_drewN | apply below_drew1) | exact HB.out)⟩
              · rw [if_neg c19] at H
                have c19b0 : decide (2048 < ji3) = false := decide_eq_false c19
                clear c19
                (first | rw [c19b0] | (simp only [i64_w, i32_w]; rw [c19b0]) | skip)
                by_cases c25 : t251 = 0
                · rw [if_pos c25] at H
                  have c25b0 : (t251 == 0) = true := beq_iff_eq.mpr c25
                  have c25b1 : (t251 != 0) = false := bne_eq_false_iff_eq.mpr c25
                  clear c25
                  by_cases c26 : (t249.length : Int) = (wrap64 (ji3 + 1))
                  · rw [if_pos c26] at H
                    have c26b0 : ((t249.length : Int) == (wrap64 (ji3 + 1))) = true := beq_iff_eq.mpr c26
                    have c26b1 : ((t249.length : Int) != (wrap64 (ji3 + 1))) = false := bne_eq_false_iff_eq.mpr c26
                    clear c26
                    have H' := Aside0.mk H
                    clear H
                    obtain ⟨Ao27, co27, eo27⟩ := Kd.R_slice HO253.out
                    subst eo27
                    go_wp2
                    go_meet
                    case rel => exact ⟨_, H', ⟨by have := HK1.out; first | omega | exact Nat.le_refl _⟩, ⟨by repeat (first | (with_reducible first | exact HB.out | apply below_alloc | apply pw_below_drewN | apply below_drew1) | exact HB.out)⟩⟩
                  · rw [if_neg c26] at H
                    have c26b0 : ((t249.length : Int) == (wrap64 (ji3 + 1))) = false := beq_eq_false_iff_ne.mpr c26
                    have c26b1 : ((t249.length : Int) != (wrap64 (ji3 + 1))) = true := bne_iff_ne.mpr c26
                    obtain rfl := Option.some.inj H
                    obtain ⟨Ao28, co28, eo28⟩ := Kd.R_slice HO253.out
                    subst eo28
                    go_wp2
                    go_ret
                    exact ⟨by first | rfl | (simp [errW_none, errW_some] <;> rfl) | (simp only [← hji3]; first | rfl | (simp [errW_none, errW_some] <;> rfl)) | (simp [*, errW_none, errW_some] <;> rfl), by repeat (first | (with_reducible first | exact HB.out | apply below_alloc | apply pw_below_drewN | apply below_drew1) | exact HB.out)⟩
                · rw [if_neg c25] at H
                  have c25b0 : (t251 == 0) = false := beq_eq_false_iff_ne.mpr c25
                  have c25b1 : (t251 != 0) = true := bne_iff_ne.mpr c25
                  obtain rfl := Option.some.inj H
                  go_wp2
                  go_ret
                  exact ⟨by first | rfl | (simp [errW_none, errW_some] <;> rfl) | (simp only [← hji3]; first | rfl | (simp [errW_none, errW_some] <;> rfl)) | (simp [*, errW_none, errW_some] <;> rfl), by repeat (first | (with_reducible first | exact HB.out | apply below_alloc | apply pw_below_drewN | apply below_drew1) | exact HB.out)⟩
            case rest =>
              clear HC16
              try clear c1
              try clear p1
              try clear q1
              try clear hx1
              try clear hcv1
              try clear c2
              try clear p2
              try clear c4
              try clear c4b0
              try clear c4b1
              try clear c5
              try clear c5b0
              try clear c5b1
              try clear p6
              try clear c8
              try clear c9
              try clear c9b0
              try clear c10
              try clear c10b0
              try clear c11
              try clear c11b0
              try clear c12
              try clear p12
              try clear q12
              try clear hx12
              try clear hf12
              try clear hcv17
              try clear c19
              try clear c19b0
              try clear c20
              try clear c20b0
              try clear c20b1
              try clear c21
              try clear c21b0
              try clear c21b1
              try clear c22
              try clear c22b0
              try clear c22b1
              try clear c22b2
              try clear c25
              try clear c25b0
              try clear c25b1
              try clear c26
              try clear c26b0
              try clear c26b1
              try clear hx12_0
              try clear p12
              try clear p2
              try clear p6
              try clear q12
              obtain ⟨kq, HA, HJ15, HB⟩ := hcut
              cases kq with
              | zero => exact absurd HA.out (by simp [insolvencylaw11_LexerMany.j1])
              | succ kj15 =>
                have H := HA.out
                clear HA
                simp only [insolvencylaw11_LexerMany.j1] at H
                obtain ⟨ji29, hji29⟩ : ∃ j_ : Int, (wrap64 (1 + (Int.tmod (wrap64 (a1)) 64))) = j_ := ⟨_, rfl⟩
                replace H : (if 0 ≤ (ji29) then (if (ji29 : Int).toNat ≤ 281474976710656 then ((some (List.replicate (ji29 : Int).toNat 0 : List Int)).bind fun y254 => (insolvencylaw11_LexerMany.l1 kj15 a0 y254 (y254.length : Int) 0)) else (none)) else (none)) = some r := by first | (rw [hji29] at H; exact H) | (simp only [hji29] at H ⊢; exact H)
                have hji29w : (IntKind.i64.wrap (1 + (Int.tmod (wrap64 (a1)) 64))) = ji29 := (i64_w _).trans hji29
                by_cases c30 : 0 ≤ (ji29)
                · rw [if_pos c30] at H
                  have c30b0 := eq_true c30
                  have c30b1 : decide (0 ≤ (ji29)) = true := decide_eq_true c30
                  clear c30
                  by_cases c31 : (ji29 : Int).toNat ≤ 281474976710656
                  · rw [if_pos c31] at H
                    have c31b0 := eq_true c31
                    have c31b1 : decide ((ji29 : Int).toNat ≤ 281474976710656) = true := decide_eq_true c31
                    clear c31
                    obtain ⟨y254, hy254⟩ : ∃ y_ : List Int, y_ = (List.replicate (ji29 : Int).toNat 0) := ⟨_, rfl⟩
                    replace H : (insolvencylaw11_LexerMany.l1 kj15 a0 y254 (y254.length : Int) 0) = some r := by first | (rw [hy254]; with_reducible exact H) | (have H2_ := (Option.bind_some _ _).symm.trans H; rw [hy254]; with_reducible exact H2_) | (have H2_ := (Option.bind_some _ _).symm.trans H; with_reducible exact H2_) | with_reducible exact H | (rw [hy254]; exact H) | exact H
                    have Ny254 := Aside0.mk hy254
                    clear hy254
                    have H' := Aside0.mk H
                    clear H
                    go_wp2_with (first | ((with_reducible refine gate_dst (N := 67) rfl ?_); (try (refine gate_guard (by rfl) ?_; dsimp only)); refine Kd.R_make (Kd.int .u8) _ 5 rfl (N := 67) rfl 31 _ _ rfl ji29 rfl rfl Try.underlying31 (.int .u8 0) 1 info5 rfl (by decide) (by omega) 0 (ok := fun _ => True) (okp := fun _ => True) rfl (fun _ hk => hk) trivial (of_decide_eq_true (by first | (with_reducible assumption) | assumption)) (Nat.le_trans (Nat.mul_le_mul_right _ (of_decide_eq_true (by first | (with_reducible assumption) | assumption) : ji29.toNat ≤ 281474976710656)) (by omega)) (Below.refl _ _) (Nat.le_refl _) ?_; intro v255 w32 ho33 hb hg_ hnew_; clear hg_ hnew_; (first | rw [← Ny254.out] at ho33 | (simp only [Int.reduceToNat] at ho33; rw [← Ny254.out] at ho33)); have n0_ := Aside0.mk (Kd.R_lower ho33 (below_size (by repeat (first | (with_reducible first | exact HB.out | apply below_alloc | apply pw_below_drewN | apply below_drew1) | exact HB.out)))); have n1_ := Aside0.mk (below_step (by repeat (first | (with_reducible first | exact HB.out | apply below_alloc | apply pw_below_drewN | apply below_drew1) | exact HB.out)) hb); clear HB; have HO256 := n0_; have HB := n1_; clear n0_ n1_; clear hb ho33; obtain ⟨Ao34, co34, eo34⟩ := Kd.R_slice HO256.out; subst eo34))
                    go_loopg [70] kj15 (fun kq v70 w' => ∃ (x11_3 : List Int) (x70_3 : Int), v70 = .int .i64 x70_3 ∧ Aside0 (insolvencylaw11_LexerMany.l1 kq a0 x11_3 (y254.length : Int) x70_3 = some r) ∧ Aside0 (kq ≤ kj15) ∧ Aside0 (Kd.R (Kd.int .u8) 5 w' w.heap.size (fun _ => True) (.slice Ao34 y254.length co34) x11_3) ∧ Aside0 (Below w.heap.size w w'))
                    case atStart => exact ⟨(y254), (0), (by first | rfl | (simp; done) | (simp [*]; done)), H', ⟨Nat.le_refl _⟩, ⟨by (try simp only [hl6_1]); (with_reducible repeat (first | apply Kd.R_alloc | apply Kd.R_drewN | apply Kd.R_drew)); exact HO256.out⟩, ⟨by repeat (first | (with_reducible first | exact HB.out | apply below_alloc | apply pw_below_drewN | apply below_drew1) | exact HB.out)⟩⟩
                    case round =>
                      clear H'
                      try clear c1
                      try clear p1
                      try clear q1
                      try clear hx1
                      try clear hcv1
                      try clear c2
                      try clear p2
                      try clear c3
                      try clear c4
                      try clear c4b0
                      try clear c4b1
                      try clear c5
                      try clear c5b0
                      try clear c5b1
                      try clear p6
                      try clear c8
                      try clear c9
                      try clear c9b0
                      try clear c10
                      try clear c10b0
                      try clear c11
                      try clear c11b0
                      try clear c12
                      try clear p12
                      try clear q12
                      try clear hx12
                      try clear hf12
                      try clear hcv17
                      try clear c19
                      try clear c19b0
                      try clear c20
                      try clear c20b0
                      try clear c20b1
                      try clear c21
                      try clear c21b0
                      try clear c21b1
                      try clear c22
                      try clear c22b0
                      try clear c22b1
                      try clear c22b2
                      try clear c25
                      try clear c25b0
                      try clear c25b1
                      try clear c26
                      try clear c26b0
                      try clear c26b1
                      try clear c30
                      try clear c30b0
                      try clear c30b1
                      try clear c31
                      try clear c31b0
                      try clear c31b1
                      try clear hx12_0
                      try clear p1
                      try clear p12
                      try clear p2
                      try clear p6
                      try clear q1
                      try clear q12
                      obtain ⟨x11_3, x70_3, rfl, HA, HK3, HO_11, HB⟩ := hrel
                      have hl11_3 := (Kd.R_reads' HO_11.out).1
                      rw [hl11_3] at HO_11
                      (try simp only [hl11_3])
                      cases gk with
                      | zero => exact absurd HA.out (by simp [insolvencylaw11_LexerMany.l1])
                      | succ k3 =>
                        have H := HA.out
                        clear HA
                        simp only [insolvencylaw11_LexerMany.l1] at H
                        by_cases c35 : x70_3 < (y254.length : Int)
                        · rw [if_pos c35] at H
                          have c35b0 : decide (x70_3 < (y254.length : Int)) = true := decide_eq_true c35
                          clear c35
                          by_cases c36 : 0 ≤ x70_3
                          · rw [if_pos c36] at H
                            have c36b0 : decide (0 ≤ x70_3) = true := decide_eq_true c36
                            clear c36
                            by_cases c37 : x70_3 < (x11_3.length : Int)
                            · rw [if_pos c37] at H
                              have c37b0 : decide (x70_3 < (x11_3.length : Int)) = true := decide_eq_true c37
                              clear c37
                              obtain ⟨y257, hy257⟩ : ∃ y_ : List Int, y_ = (x11_3.set (x70_3 : Int).toNat 120) := ⟨_, rfl⟩
                              replace H : (insolvencylaw11_LexerMany.l1 k3 a0 y257 (y254.length : Int) (wrap64 (x70_3 + 1))) = some r := by first | (rw [hy257]; with_reducible exact H) | (have H2_ := (Option.bind_some _ _).symm.trans H; rw [hy257]; with_reducible exact H2_) | (have H2_ := (Option.bind_some _ _).symm.trans H; with_reducible exact H2_) | with_reducible exact H | (rw [hy257]; exact H) | exact H
                              have Ny257 := Aside0.mk hy257
                              clear hy257
                              have H' := Aside0.mk H
                              clear H
                              have p38 : 0 ≤ (x70_3 : Int) := of_decide_eq_true (by first | (with_reducible assumption) | assumption)
                              have q38 : (x70_3 : Int) < ((x11_3.length : Int) : Int) := of_decide_eq_true (by first | (with_reducible assumption) | assumption)
                              obtain ⟨go38, co38, eo38, gb38, gl38, cl38, HG38⟩ := Kd.R_form HO_11.out (by omega)
                              (first | cases eo38 | (injection eo38 with ea_ en_ ec_; (first | subst ea_ | (injection ea_ with ea_; subst ea_)); subst ec_; clear en_))
                              have GB38 := Aside0.mk gb38
                              have GG38 := Aside0.mk HG38
                              clear gb38 gl38 HG38
                              obtain ⟨hx38_0, hf38_0⟩ := Kd.R_celln 0 HO_11.out (x70_3 : Int) p38 q38
                              replace p38 := eq_true p38
                              replace q38 := eq_true q38
                              have HP39 := Kd.R_putg HO_11.out (x70_3 : Int) 120
                              go_wp2_with (first | ((with_reducible refine gate_store (t := 5) (p := 75) rfl ?_); refine store_event (t := 5) (p := 75) (v := ?vo_w40) (w1 := (wr.setCell ⟨go38, (x70_3 : Int).toNat, none⟩ (.int .u8 120))) ?hg ?ho ?hn ?hr ?_; (case ho => rfl); (case hg => rfl); (case hn => rfl); (case hr => first | (go_simp; done) | (go_simp; rfl)); intro w40 hw; have hg : wr.grownBy w40 (some go38) := (by rw [hw]; exact HP39.2); have hp_ : Kd.R (Kd.int .u8) 5 w40 w.heap.size (fun _ => True) (.slice (some ⟨go38, 0, none⟩) x11_3.length co34) y257 := (by rw [hw, Ny257.out]; exact HP39.1); clear HP39; have n0_ := Aside0.mk (hp_); have n1_ := Aside0.mk ((by rw [hw]; exact below_set (HB.out) GB38.out : Below w.heap.size w w40)); clear HO_11; clear HB; have HO_11 := n0_; have HB := n1_; clear n0_ n1_; clear hg hw hp_))
                              (try simp only [← hl11_3])
                              go_roundg k3
                              case measure => have := HK1.out; have := HJ15.out; have := HK3.out; omega
                              case rel => exact ⟨(y257), (wrap64 (x70_3 + 1)), (by first | rfl | (simp; done) | (simp [*]; done)), H', ⟨by have := HK1.out; have := HJ15.out; have := HK3.out; omega⟩, ⟨by (try simp only [hl6_1]); (try simp only [hl11_3]); (with_reducible repeat (first | apply Kd.R_alloc | apply Kd.R_drewN | apply Kd.R_drew)); exact HO_11.out⟩, ⟨by repeat (first | (with_reducible first | exact HB.out | apply below_alloc | apply pw_below_drewN | apply below_drew1) | exact HB.out)⟩⟩
                            · rw [if_neg c37] at H
                              exact absurd H (by simp)
                          · rw [if_neg c36] at H
                            exact absurd H (by simp)
                        · rw [if_neg c35] at H
                          have c35b0 : decide (x70_3 < (y254.length : Int)) = false := decide_eq_false c35
                          (try (have c35b9_6_1 := c35b0; rw [hl6_1] at c35b9_6_1))
                          (try (have c35b9_11_3 := c35b0; rw [hl11_3] at c35b9_11_3))
                          (try (have c35b9_15_4 := c35b0; rw [hl15_4] at c35b9_15_4))
                          clear c35
                          by_cases c41 : 1 + (strOfNums x11_3).size ≤ 9223372036854775807
                          · rw [if_pos c41] at H
                            have c41b0 := eq_true c41
                            have c41b1 : decide (1 + (strOfNums x11_3).size ≤ 9223372036854775807) = true := decide_eq_true c41
                            try have c41b2 : (9223372036854775807 < 1 + (strOfNums x11_3).size) = False := eq_false (Nat.not_lt.2 c41)
                            replace H := Option.bind_eq_some_iff.mp H
                            obtain ⟨⟨t258, t259, t260⟩, A420, H⟩ := H
                            replace H : (if (x11_3.length : Int) > 32 then ((insolvencylaw11_awake.f k3).bind fun t263 => (if t263 = true then (if t260 = 2 then (some (t259 == 1)) else (some false)) else (some false))) else (if 0 ≤ (wrap64 (8193 - (wrap64 (Int.tmod a0 2)))) then (if (wrap64 (8193 - (wrap64 (Int.tmod a0 2))) : Int).toNat ≤ 281474976710656 then ((some (List.replicate (wrap64 (8193 - (wrap64 (Int.tmod a0 2))) : Int).toNat 0 : List Int)).bind fun y264 => (insolvencylaw11_LexerMany.l2 k3 a0 t260 y264 (y264.length : Int) 0)) else (none)) else (none))) = some r := H
                            have A42 := Aside0.mk A420
                            clear A420
                            by_cases c43 : (x11_3.length : Int) > 32
                            · rw [if_pos c43] at H
                              have c43b0 : decide (32 < (x11_3.length : Int)) = true := decide_eq_true c43
                              have c43b1 : decide (32 < x11_3.length) = true := decide_eq_true (by omega)
                              clear c43
                              replace H := Option.bind_eq_some_iff.mp H
                              obtain ⟨t263, A440, H⟩ := H
                              replace H : (if t263 = true then (if t260 = 2 then (some (t259 == 1)) else (some false)) else (some false)) = some r := H
                              have A44 := Aside0.mk A440
                              clear A440
                              by_cases c45 : t263 = true
                              · subst c45
                                have H1 : (if t260 = 2 then (some (t259 == 1)) else (some false)) = some r := by rw [if_pos rfl] at H; exact H
                                clear H
                                have H := H1
                                clear H1
                                by_cases c46 : t260 = 2
                                · rw [if_pos c46] at H
                                  have c46b0 : (t260 == 2) = true := beq_iff_eq.mpr c46
                                  have c46b1 : (t260 != 2) = false := bne_eq_false_iff_eq.mpr c46
                                  clear c46
                                  obtain rfl := Option.some.inj H
                                  have hcv47 := own_string (P := Try.prog) Try.underlying31 Try.underlying5 Try.underlying9 (Kd.own_of_R HO_11.out)
                                  go_wp2_with (first | ((with_reducible refine gate_callee (f := 12) rfl ?_); refine goesL_ (some 81) rfl rfl Try.func12 (by kernel_rfl) rfl #[.string ((⟨#[32]⟩ : ByteArray) ++ (strOfNums x11_3))] rfl (by (try simp only [List.map_toArray, List.map_cons, List.map_nil]); first | done | rfl | (simp only [List.length_drop, List.length_take]; rfl)) ?_; (with_reducible refine (lexer_Split.calls k3 ((⟨#[32]⟩ : ByteArray) ++ (strOfNums x11_3)) t258 t259 t260 _ A42.out).mono ?_); rintro e w48 ⟨v261, rfl, ho0, hb⟩; refine ⟨_, rfl, ?_⟩; have n0_ := Aside0.mk (Kd.R_below (by (with_reducible repeat (first | apply Kd.R_alloc | apply Kd.R_drewN | apply Kd.R_drew)); exact HO_11.out) hb); have n1_ := Aside0.mk (Kd.R_lower ho0 (below_size (by repeat (first | (with_reducible first | exact HB.out | apply below_alloc | apply pw_below_drewN | apply below_drew1) | exact HB.out)))); have n2_ := Aside0.mk (below_step (by repeat (first | (with_reducible first | exact HB.out | apply below_alloc | apply pw_below_drewN | apply below_drew1) | exact HB.out)) hb); clear HO_11; clear HB; have HO_11 := n0_; have HO262 := n1_; have HB := n2_; clear n0_ n1_ n2_; (try clear hb); (try clear hb2); (try clear hk); (try clear hi); (try clear ho0)) | ((with_reducible refine gate_callee (f := 9) rfl ?_); refine goesL_ (some 88) rfl rfl Try.func9 (by kernel_rfl) rfl #[] rfl (by (try simp only [List.map_toArray, List.map_cons, List.map_nil]); first | done | rfl | (simp only [List.length_drop, List.length_take]; rfl)) ?_; (with_reducible refine (insolvencylaw11_awake.calls k3  true _ A44.out).mono ?_); rintro e w49 ⟨rfl, hb⟩; refine ⟨_, rfl, ?_⟩; have n0_ := Aside0.mk (Kd.R_below (by (with_reducible repeat (first | apply Kd.R_alloc | apply Kd.R_drewN | apply Kd.R_drew)); exact HO_11.out) hb); have n1_ := Aside0.mk (Kd.R_below (by (with_reducible repeat (first | apply Kd.R_alloc | apply Kd.R_drewN | apply Kd.R_drew)); exact HO262.out) hb); have n2_ := Aside0.mk (below_step (by repeat (first | (with_reducible first | exact HB.out | apply below_alloc | apply pw_below_drewN | apply below_drew1) | exact HB.out)) hb); clear HO_11; clear HO262; clear HB; have HO_11 := n0_; have HO262 := n1_; have HB := n2_; clear n0_ n1_ n2_; (try clear hb); (try clear hb2); (try clear hk); (try clear hi)))
                                  go_ret
                                  exact ⟨by first | rfl | (simp [errW_none, errW_some] <;> rfl) | (simp only [← hji3, ← hji29]; first | rfl | (simp [errW_none, errW_some] <;> rfl)) | (simp [*, errW_none, errW_some] <;> rfl), by repeat (first | (with_reducible first | exact HB.out | apply below_alloc | apply pw_below_drewN | apply below_drew1) | exact HB.out)⟩
                                · rw [if_neg c46] at H
                                  have c46b0 : (t260 == 2) = false := beq_eq_false_iff_ne.mpr c46
                                  have c46b1 : (t260 != 2) = true := bne_iff_ne.mpr c46
                                  obtain rfl := Option.some.inj H
                                  have hcv50 := own_string (P := Try.prog) Try.underlying31 Try.underlying5 Try.underlying9 (Kd.own_of_R HO_11.out)
                                  go_wp2_with (first | ((with_reducible refine gate_callee (f := 12) rfl ?_); refine goesL_ (some 81) rfl rfl Try.func12 (by kernel_rfl) rfl #[.string ((⟨#[32]⟩ : ByteArray) ++ (strOfNums x11_3))] rfl (by (try simp only [List.map_toArray, List.map_cons, List.map_nil]); first | done | rfl | (simp only [List.length_drop, List.length_take]; rfl)) ?_; (with_reducible refine (lexer_Split.calls k3 ((⟨#[32]⟩ : ByteArray) ++ (strOfNums x11_3)) t258 t259 t260 _ A42.out).mono ?_); rintro e w51 ⟨v261, rfl, ho0, hb⟩; refine ⟨_, rfl, ?_⟩; have n0_ := Aside0.mk (Kd.R_below (by (with_reducible repeat (first | apply Kd.R_alloc | apply Kd.R_drewN | apply Kd.R_drew)); exact HO_11.out) hb); have n1_ := Aside0.mk (Kd.R_lower ho0 (below_size (by repeat (first | (with_reducible first | exact HB.out | apply below_alloc | apply pw_below_drewN | apply below_drew1) | exact HB.out)))); have n2_ := Aside0.mk (below_step (by repeat (first | (with_reducible first | exact HB.out | apply below_alloc | apply pw_below_drewN | apply below_drew1) | exact HB.out)) hb); clear HO_11; clear HB; have HO_11 := n0_; have HO262 := n1_; have HB := n2_; clear n0_ n1_ n2_; (try clear hb); (try clear hb2); (try clear hk); (try clear hi); (try clear ho0)) | ((with_reducible refine gate_callee (f := 9) rfl ?_); refine goesL_ (some 88) rfl rfl Try.func9 (by kernel_rfl) rfl #[] rfl (by (try simp only [List.map_toArray, List.map_cons, List.map_nil]); first | done | rfl | (simp only [List.length_drop, List.length_take]; rfl)) ?_; (with_reducible refine (insolvencylaw11_awake.calls k3  true _ A44.out).mono ?_); rintro e w52 ⟨rfl, hb⟩; refine ⟨_, rfl, ?_⟩; have n0_ := Aside0.mk (Kd.R_below (by (with_reducible repeat (first | apply Kd.R_alloc | apply Kd.R_drewN | apply Kd.R_drew)); exact HO_11.out) hb); have n1_ := Aside0.mk (Kd.R_below (by (with_reducible repeat (first | apply Kd.R_alloc | apply Kd.R_drewN | apply Kd.R_drew)); exact HO262.out) hb); have n2_ := Aside0.mk (below_step (by repeat (first | (with_reducible first | exact HB.out | apply below_alloc | apply pw_below_drewN | apply below_drew1) | exact HB.out)) hb); clear HO_11; clear HO262; clear HB; have HO_11 := n0_; have HO262 := n1_; have HB := n2_; clear n0_ n1_ n2_; (try clear hb); (try clear hb2); (try clear hk); (try clear hi)))
                                  go_ret
                                  exact ⟨by first | rfl | (simp [errW_none, errW_some] <;> rfl) | (simp only [← hji3, ← hji29]; first | rfl | (simp [errW_none, errW_some] <;> rfl)) | (simp [*, errW_none, errW_some] <;> rfl), by repeat (first | (with_reducible first | exact HB.out | apply below_alloc | apply pw_below_drewN | apply below_drew1) | exact HB.out)⟩
                              · replace c45 := Bool.eq_false_iff.mpr c45
                                subst c45
                                have H1 : (some false) = some r := by rw [if_neg (show ¬ (false = true) by decide)] at H; exact H
                                clear H
                                have H := H1
                                clear H1
                                obtain rfl := Option.some.inj H
                                have hcv53 := own_string (P := Try.prog) Try.underlying31 Try.underlying5 Try.underlying9 (Kd.own_of_R HO_11.out)
                                go_wp2_with (first | ((with_reducible refine gate_callee (f := 12) rfl ?_); refine goesL_ (some 81) rfl rfl Try.func12 (by kernel_rfl) rfl #[.string ((⟨#[32]⟩ : ByteArray) ++ (strOfNums x11_3))] rfl (by (try simp only [List.map_toArray, List.map_cons, List.map_nil]); first | done | rfl | (simp only [List.length_drop, List.length_take]; rfl)) ?_; (with_reducible refine (lexer_Split.calls k3 ((⟨#[32]⟩ : ByteArray) ++ (strOfNums x11_3)) t258 t259 t260 _ A42.out).mono ?_); rintro e w54 ⟨v261, rfl, ho0, hb⟩; refine ⟨_, rfl, ?_⟩; have n0_ := Aside0.mk (Kd.R_below (by (with_reducible repeat (first | apply Kd.R_alloc | apply Kd.R_drewN | apply Kd.R_drew)); exact HO_11.out) hb); have n1_ := Aside0.mk (Kd.R_lower ho0 (below_size (by repeat (first | (with_reducible first | exact HB.out | apply below_alloc | apply pw_below_drewN | apply below_drew1) | exact HB.out)))); have n2_ := Aside0.mk (below_step (by repeat (first | (with_reducible first | exact HB.out | apply below_alloc | apply pw_below_drewN | apply below_drew1) | exact HB.out)) hb); clear HO_11; clear HB; have HO_11 := n0_; have HO262 := n1_; have HB := n2_; clear n0_ n1_ n2_; (try clear hb); (try clear hb2); (try clear hk); (try clear hi); (try clear ho0)) | ((with_reducible refine gate_callee (f := 9) rfl ?_); refine goesL_ (some 88) rfl rfl Try.func9 (by kernel_rfl) rfl #[] rfl (by (try simp only [List.map_toArray, List.map_cons, List.map_nil]); first | done | rfl | (simp only [List.length_drop, List.length_take]; rfl)) ?_; (with_reducible refine (insolvencylaw11_awake.calls k3  false _ A44.out).mono ?_); rintro e w55 ⟨rfl, hb⟩; refine ⟨_, rfl, ?_⟩; have n0_ := Aside0.mk (Kd.R_below (by (with_reducible repeat (first | apply Kd.R_alloc | apply Kd.R_drewN | apply Kd.R_drew)); exact HO_11.out) hb); have n1_ := Aside0.mk (Kd.R_below (by (with_reducible repeat (first | apply Kd.R_alloc | apply Kd.R_drewN | apply Kd.R_drew)); exact HO262.out) hb); have n2_ := Aside0.mk (below_step (by repeat (first | (with_reducible first | exact HB.out | apply below_alloc | apply pw_below_drewN | apply below_drew1) | exact HB.out)) hb); clear HO_11; clear HO262; clear HB; have HO_11 := n0_; have HO262 := n1_; have HB := n2_; clear n0_ n1_ n2_; (try clear hb); (try clear hb2); (try clear hk); (try clear hi)))
                                go_ret
                                exact ⟨by first | rfl | (simp [errW_none, errW_some] <;> rfl) | (simp only [← hji3, ← hji29]; first | rfl | (simp [errW_none, errW_some] <;> rfl)) | (simp [*, errW_none, errW_some] <;> rfl), by repeat (first | (with_reducible first | exact HB.out | apply below_alloc | apply pw_below_drewN | apply below_drew1) | exact HB.out)⟩
                            · rw [if_neg c43] at H
                              have c43b0 : decide (32 < (x11_3.length : Int)) = false := decide_eq_false c43
                              have c43b1 : decide (32 < x11_3.length) = false := decide_eq_false (by omega)
                              clear c43
                              obtain ⟨ji56, hji56⟩ : ∃ j_ : Int, (wrap64 (8193 - (wrap64 (Int.tmod a0 2)))) = j_ := ⟨_, rfl⟩
                              replace H : (if 0 ≤ (ji56) then (if (ji56 : Int).toNat ≤ 281474976710656 then ((some (List.replicate (ji56 : Int).toNat 0 : List Int)).bind fun y264 => (insolvencylaw11_LexerMany.l2 k3 a0 t260 y264 (y264.length : Int) 0)) else (none)) else (none)) = some r := by first | (rw [hji56] at H; exact H) | (simp only [hji56] at H ⊢; exact H)
                              (try rw [hji56] at A42)
                              have hji56w : (IntKind.i64.wrap (8193 - (wrap64 (Int.tmod a0 2)))) = ji56 := (i64_w _).trans hji56
                              by_cases c57 : 0 ≤ (ji56)
                              · rw [if_pos c57] at H
                                have c57b0 := eq_true c57
                                have c57b1 : decide (0 ≤ (ji56)) = true := decide_eq_true c57
                                clear c57
                                by_cases c58 : (ji56 : Int).toNat ≤ 281474976710656
                                · rw [if_pos c58] at H
                                  have c58b0 := eq_true c58
                                  have c58b1 : decide ((ji56 : Int).toNat ≤ 281474976710656) = true := decide_eq_true c58
                                  clear c58
                                  obtain ⟨y264, hy264⟩ : ∃ y_ : List Int, y_ = (List.replicate (ji56 : Int).toNat 0) := ⟨_, rfl⟩
                                  replace H : (insolvencylaw11_LexerMany.l2 k3 a0 t260 y264 (y264.length : Int) 0) = some r := by first | (rw [hy264]; with_reducible exact H) | (have H2_ := (Option.bind_some _ _).symm.trans H; rw [hy264]; with_reducible exact H2_) | (have H2_ := (Option.bind_some _ _).symm.trans H; with_reducible exact H2_) | with_reducible exact H | (rw [hy264]; exact H) | exact H
                                  have Ny264 := Aside0.mk hy264
                                  clear hy264
                                  have H' := Aside0.mk H
                                  clear H
                                  have hcv59 := own_string (P := Try.prog) Try.underlying31 Try.underlying5 Try.underlying9 (Kd.own_of_R HO_11.out)
                                  go_wp2_with (first | ((with_reducible refine gate_callee (f := 12) rfl ?_); refine goesL_ (some 81) rfl rfl Try.func12 (by kernel_rfl) rfl #[.string ((⟨#[32]⟩ : ByteArray) ++ (strOfNums x11_3))] rfl (by (try simp only [List.map_toArray, List.map_cons, List.map_nil]); first | done | rfl | (simp only [List.length_drop, List.length_take]; rfl)) ?_; (with_reducible refine (lexer_Split.calls k3 ((⟨#[32]⟩ : ByteArray) ++ (strOfNums x11_3)) t258 t259 t260 _ A42.out).mono ?_); rintro e w60 ⟨v261, rfl, ho0, hb⟩; refine ⟨_, rfl, ?_⟩; have n0_ := Aside0.mk (Kd.R_below (by (with_reducible repeat (first | apply Kd.R_alloc | apply Kd.R_drewN | apply Kd.R_drew)); exact HO_11.out) hb); have n1_ := Aside0.mk (Kd.R_lower ho0 (below_size (by repeat (first | (with_reducible first | exact HB.out | apply below_alloc | apply pw_below_drewN | apply below_drew1) | exact HB.out)))); have n2_ := Aside0.mk (below_step (by repeat (first | (with_reducible first | exact HB.out | apply below_alloc | apply pw_below_drewN | apply below_drew1) | exact HB.out)) hb); clear HO_11; clear HB; have HO_11 := n0_; have HO262 := n1_; have HB := n2_; clear n0_ n1_ n2_; (try clear hb); (try clear hb2); (try clear hk); (try clear hi); (try clear ho0)) | ((with_reducible refine gate_dst (N := 101) rfl ?_); (try (refine gate_guard (by rfl) ?_; dsimp only)); refine Kd.R_make (Kd.int .u8) _ 5 rfl (N := 101) rfl 31 _ _ rfl ji56 rfl rfl Try.underlying31 (.int .u8 0) 1 info5 rfl (by decide) (by omega) 0 (ok := fun _ => True) (okp := fun _ => True) rfl (fun _ hk => hk) trivial (of_decide_eq_true (by first | (with_reducible assumption) | assumption)) (Nat.le_trans (Nat.mul_le_mul_right _ (of_decide_eq_true (by first | (with_reducible assumption) | assumption) : ji56.toNat ≤ 281474976710656)) (by omega)) (Below.refl _ _) (Nat.le_refl _) ?_; intro v265 w61 ho62 hb hg_ hnew_; clear hg_ hnew_; (first | rw [← Ny264.out] at ho62 | (simp only [Int.reduceToNat] at ho62; rw [← Ny264.out] at ho62)); have n0_ := Aside0.mk (Kd.R_elder' (by (with_reducible repeat (first | apply Kd.R_alloc | apply Kd.R_drewN | apply Kd.R_drew)); exact HO_11.out) (Kd.R_base ho62) hb); have n1_ := Aside0.mk (Kd.R_below (by (with_reducible repeat (first | apply Kd.R_alloc | apply Kd.R_drewN | apply Kd.R_drew)); exact HO262.out) hb); have n2_ := Aside0.mk (Kd.R_lower (Kd.R_new' ho62 (Kd.R_lt (by (with_reducible repeat (first | apply Kd.R_alloc | apply Kd.R_drewN | apply Kd.R_drew)); exact HO_11.out))) (below_size (by repeat (first | (with_reducible first | exact HB.out | apply below_alloc | apply pw_below_drewN | apply below_drew1) | exact HB.out)))); have n3_ := Aside0.mk (below_step (by repeat (first | (with_reducible first | exact HB.out | apply below_alloc | apply pw_below_drewN | apply below_drew1) | exact HB.out)) hb); clear HO_11; clear HO262; clear HB; have HO_11 := n0_; have HO262 := n1_; have HO266 := n2_; have HB := n3_; clear n0_ n1_ n2_ n3_; clear hb ho62; obtain ⟨Ao63, co63, eo63⟩ := Kd.R_slice HO266.out; subst eo63))
                                  go_loopg [104] k3 (fun kq v104 w' => ∃ (x15_4 : List Int) (x104_4 : Int), v104 = .int .i64 x104_4 ∧ Aside0 (insolvencylaw11_LexerMany.l2 kq a0 t260 x15_4 (y264.length : Int) x104_4 = some r) ∧ Aside0 (kq ≤ k3) ∧ Aside0 (Kd.R (Kd.int .u8) 5 w' w.heap.size (fun _ => True) (.slice Ao63 y264.length co63) x15_4) ∧ Aside0 (Below w.heap.size w w'))
                                  case atStart => exact ⟨(y264), (0), (by first | rfl | (simp; done) | (simp [*]; done)), H', ⟨Nat.le_refl _⟩, ⟨by (try simp only [hl6_1]); (try simp only [hl11_3]); (with_reducible repeat (first | apply Kd.R_alloc | apply Kd.R_drewN | apply Kd.R_drew)); exact Kd.R_mono HO266.out (fun _ hk => trivial)⟩, ⟨by repeat (first | (with_reducible first | exact HB.out | apply below_alloc | apply pw_below_drewN | apply below_drew1) | exact HB.out)⟩⟩
                                  case round =>
                                    clear H'
                                    try clear c1
                                    try clear p1
                                    try clear q1
                                    try clear hx1
                                    try clear hcv1
                                    try clear c2
                                    try clear p2
                                    try clear c3
                                    try clear p3
                                    try clear q3
                                    try clear hx3
                                    try clear hf3
                                    try clear c4
                                    try clear c4b0
                                    try clear c4b1
                                    try clear hcv4
                                    try clear c5
                                    try clear c5b0
                                    try clear c5b1
                                    try clear hcv5
                                    try clear p6
                                    try clear c8
                                    try clear c9
                                    try clear c9b0
                                    try clear c10
                                    try clear c10b0
                                    try clear c11
                                    try clear c11b0
                                    try clear c12
                                    try clear p12
                                    try clear q12
                                    try clear hx12
                                    try clear hf12
                                    try clear hcv17
                                    try clear c19
                                    try clear c19b0
                                    try clear c20
                                    try clear c20b0
                                    try clear c20b1
                                    try clear c21
                                    try clear c21b0
                                    try clear c21b1
                                    try clear c22
                                    try clear c22b0
                                    try clear c22b1
                                    try clear c22b2
                                    try clear c25
                                    try clear c25b0
                                    try clear c25b1
                                    try clear c26
                                    try clear c26b0
                                    try clear c26b1
                                    try clear c30
                                    try clear c30b0
                                    try clear c30b1
                                    try clear c31
                                    try clear c31b0
                                    try clear c31b1
                                    try clear c35
                                    try clear c35b0
                                    try clear c36
                                    try clear c36b0
                                    try clear c37
                                    try clear c37b0
                                    try clear p38
                                    try clear q38
                                    try clear hx38
                                    try clear hf38
                                    try clear c41
                                    try clear c41b0
                                    try clear c41b1
                                    try clear c41b2
                                    try clear c43
                                    try clear c43b0
                                    try clear c43b1
                                    try clear c45
                                    try clear c46
                                    try clear c46b0
                                    try clear c46b1
                                    try clear hcv47
                                    try clear hcv50
                                    try clear hcv53
                                    try clear c57
                                    try clear c57b0
                                    try clear c57b1
                                    try clear c58
                                    try clear c58b0
                                    try clear c58b1
                                    try clear hcv59
                                    try clear hx12_0
                                    try clear hx38_0
                                    try clear p1
                                    try clear p12
                                    try clear p2
                                    try clear p38
                                    try clear p6
                                    try clear q1
                                    try clear q12
                                    try clear q38
                                    obtain ⟨x15_4, x104_4, rfl, HA, HK4, HO_15, HB⟩ := hrel
                                    have hl15_4 := (Kd.R_reads' HO_15.out).1
                                    rw [hl15_4] at HO_15
                                    (try simp only [hl15_4])
                                    cases gk with
                                    | zero => exact absurd HA.out (by simp [insolvencylaw11_LexerMany.l2])
                                    | succ k4 =>
                                      have H := HA.out
                                      clear HA
                                      simp only [insolvencylaw11_LexerMany.l2] at H
                                      by_cases c64 : x104_4 < (y264.length : Int)
                                      · rw [if_pos c64] at H
                                        have c64b0 : decide (x104_4 < (y264.length : Int)) = true := decide_eq_true c64
                                        clear c64
                                        by_cases c65 : 0 ≤ x104_4
                                        · rw [if_pos c65] at H
                                          have c65b0 : decide (0 ≤ x104_4) = true := decide_eq_true c65
                                          clear c65
                                          by_cases c66 : x104_4 < (x15_4.length : Int)
                                          · rw [if_pos c66] at H
                                            have c66b0 : decide (x104_4 < (x15_4.length : Int)) = true := decide_eq_true c66
                                            clear c66
                                            obtain ⟨y267, hy267⟩ : ∃ y_ : List Int, y_ = (x15_4.set (x104_4 : Int).toNat 32) := ⟨_, rfl⟩
                                            replace H : (insolvencylaw11_LexerMany.l2 k4 a0 t260 y267 (y264.length : Int) (wrap64 (x104_4 + 1))) = some r := by first | (rw [hy267]; with_reducible exact H) | (have H2_ := (Option.bind_some _ _).symm.trans H; rw [hy267]; with_reducible exact H2_) | (have H2_ := (Option.bind_some _ _).symm.trans H; with_reducible exact H2_) | with_reducible exact H | (rw [hy267]; exact H) | exact H
                                            have Ny267 := Aside0.mk hy267
                                            clear hy267
                                            have H' := Aside0.mk H
                                            clear H
                                            have p67 : 0 ≤ (x104_4 : Int) := of_decide_eq_true (by first | (with_reducible assumption) | assumption)
                                            have q67 : (x104_4 : Int) < ((x15_4.length : Int) : Int) := of_decide_eq_true (by first | (with_reducible assumption) | assumption)
                                            obtain ⟨go67, co67, eo67, gb67, gl67, cl67, HG67⟩ := Kd.R_form HO_15.out (by omega)
                                            (first | cases eo67 | (injection eo67 with ea_ en_ ec_; (first | subst ea_ | (injection ea_ with ea_; subst ea_)); subst ec_; clear en_))
                                            have GB67 := Aside0.mk gb67
                                            have GG67 := Aside0.mk HG67
                                            clear gb67 gl67 HG67
                                            obtain ⟨hx67_0, hf67_0⟩ := Kd.R_celln 0 HO_15.out (x104_4 : Int) p67 q67
                                            replace p67 := eq_true p67
                                            replace q67 := eq_true q67
                                            have HP68 := Kd.R_putg HO_15.out (x104_4 : Int) 32
                                            go_wp2_with (first | ((with_reducible refine gate_store (t := 5) (p := 109) rfl ?_); refine store_event (t := 5) (p := 109) (v := ?vo_w69) (w1 := (wr.setCell ⟨go67, (x104_4 : Int).toNat, none⟩ (.int .u8 32))) ?hg ?ho ?hn ?hr ?_; (case ho => rfl); (case hg => rfl); (case hn => rfl); (case hr => first | (go_simp; done) | (go_simp; rfl)); intro w69 hw; have hg : wr.grownBy w69 (some go67) := (by rw [hw]; exact HP68.2); have hp_ : Kd.R (Kd.int .u8) 5 w69 w.heap.size (fun _ => True) (.slice (some ⟨go67, 0, none⟩) x15_4.length co63) y267 := (by rw [hw, Ny267.out]; exact HP68.1); clear HP68; have n0_ := Aside0.mk (hp_); have n1_ := Aside0.mk ((by rw [hw]; exact below_set (HB.out) GB67.out : Below w.heap.size w w69)); clear HO_15; clear HB; have HO_15 := n0_; have HB := n1_; clear n0_ n1_; clear hg hw hp_))
                                            (try simp only [← hl15_4])
                                            go_roundg k4
                                            case measure => have := HK1.out; have := HJ15.out; have := HK3.out; have := HK4.out; omega
                                            case rel => exact ⟨(y267), (wrap64 (x104_4 + 1)), (by first | rfl | (simp; done) | (simp [*]; done)), H', ⟨by have := HK1.out; have := HJ15.out; have := HK3.out; have := HK4.out; omega⟩, ⟨by (try simp only [hl6_1]); (try simp only [hl11_3]); (try simp only [hl15_4]); (with_reducible repeat (first | apply Kd.R_alloc | apply Kd.R_drewN | apply Kd.R_drew)); exact HO_15.out⟩, ⟨by repeat (first | (with_reducible first | exact HB.out | apply below_alloc | apply pw_below_drewN | apply below_drew1) | exact HB.out)⟩⟩
                                          · rw [if_neg c66] at H
                                            exact absurd H (by simp)
                                        · rw [if_neg c65] at H
                                          exact absurd H (by simp)
                                      · rw [if_neg c64] at H
                                        have c64b0 : decide (x104_4 < (y264.length : Int)) = false := decide_eq_false c64
                                        (try (have c64b9_6_1 := c64b0; rw [hl6_1] at c64b9_6_1))
                                        (try (have c64b9_11_3 := c64b0; rw [hl11_3] at c64b9_11_3))
                                        (try (have c64b9_15_4 := c64b0; rw [hl15_4] at c64b9_15_4))
                                        clear c64
                                        replace H := Option.bind_eq_some_iff.mp H
                                        obtain ⟨⟨t268, t269, t270⟩, A700, H⟩ := H
                                        replace H : ((insolvencylaw11_awake.f k4).bind fun t273 => (if t273 = true then (if t260 = 0 then (if ((t270 == 2) == ((Int.tmod a0 2) == 0)) = true then (some (t269 == 0)) else (some false)) else (some false)) else (some false))) = some r := H
                                        have A70 := Aside0.mk A700
                                        clear A700
                                        replace H := Option.bind_eq_some_iff.mp H
                                        obtain ⟨t273, A710, H⟩ := H
                                        replace H : (if t273 = true then (if t260 = 0 then (if ((t270 == 2) == ((Int.tmod a0 2) == 0)) = true then (some (t269 == 0)) else (some false)) else (some false)) else (some false)) = some r := H
                                        have A71 := Aside0.mk A710
                                        clear A710
                                        by_cases c72 : t273 = true
                                        · subst c72
                                          have H1 : (if t260 = 0 then (if ((t270 == 2) == ((Int.tmod a0 2) == 0)) = true then (some (t269 == 0)) else (some false)) else (some false)) = some r := by rw [if_pos rfl] at H; exact H
                                          clear H
                                          have H := H1
                                          clear H1
                                          by_cases c73 : t260 = 0
                                          · rw [if_pos c73] at H
                                            have c73b0 : (t260 == 0) = true := beq_iff_eq.mpr c73
                                            have c73b1 : (t260 != 0) = false := bne_eq_false_iff_eq.mpr c73
                                            clear c73
                                            by_cases c74 : ((t270 == 2) == ((Int.tmod a0 2) == 0)) = true
                                            · rw [if_pos c74] at H
                                              have c74b0 : ((t270 == 2) == ((Int.tmod a0 2) == 0)) = true := c74
                                              (try (have c74b1 : decide ((t270 == 2) = ((Int.tmod a0 2) == 0)) = true := by simpa using c74))
                                              (try (have c74b2 : ((t270 == 2) == ((Int.tmod a0 2) == 0)) = true := by simpa using c74))
                                              clear c74
                                              obtain rfl := Option.some.inj H
                                              have hcv75 := own_string (P := Try.prog) Try.underlying31 Try.underlying5 Try.underlying9 (Kd.own_of_R HO_15.out)
                                              go_wp2_with (first | ((with_reducible refine gate_callee (f := 12) rfl ?_); refine goesL_ (some 114) rfl rfl Try.func12 (by kernel_rfl) rfl #[.string (strOfNums x15_4)] rfl (by (try simp only [List.map_toArray, List.map_cons, List.map_nil]); first | done | rfl | (simp only [List.length_drop, List.length_take]; rfl)) ?_; (with_reducible refine (lexer_Split.calls k4 (strOfNums x15_4) t268 t269 t270 _ A70.out).mono ?_); rintro e w76 ⟨v271, rfl, ho0, hb⟩; refine ⟨_, rfl, ?_⟩; have n0_ := Aside0.mk (Kd.R_below (by (with_reducible repeat (first | apply Kd.R_alloc | apply Kd.R_drewN | apply Kd.R_drew)); exact HO_15.out) hb); have n1_ := Aside0.mk (Kd.R_lower ho0 (below_size (by repeat (first | (with_reducible first | exact HB.out | apply below_alloc | apply pw_below_drewN | apply below_drew1) | exact HB.out)))); have n2_ := Aside0.mk (below_step (by repeat (first | (with_reducible first | exact HB.out | apply below_alloc | apply pw_below_drewN | apply below_drew1) | exact HB.out)) hb); clear HO_15; clear HB; have HO_15 := n0_; have HO272 := n1_; have HB := n2_; clear n0_ n1_ n2_; (try clear hb); (try clear hb2); (try clear hk); (try clear hi); (try clear ho0)) | ((with_reducible refine gate_callee (f := 9) rfl ?_); refine goesL_ (some 118) rfl rfl Try.func9 (by kernel_rfl) rfl #[] rfl (by (try simp only [List.map_toArray, List.map_cons, List.map_nil]); first | done | rfl | (simp only [List.length_drop, List.length_take]; rfl)) ?_; (with_reducible refine (insolvencylaw11_awake.calls k4  true _ A71.out).mono ?_); rintro e w77 ⟨rfl, hb⟩; refine ⟨_, rfl, ?_⟩; have n0_ := Aside0.mk (Kd.R_below (by (with_reducible repeat (first | apply Kd.R_alloc | apply Kd.R_drewN | apply Kd.R_drew)); exact HO_15.out) hb); have n1_ := Aside0.mk (Kd.R_below (by (with_reducible repeat (first | apply Kd.R_alloc | apply Kd.R_drewN | apply Kd.R_drew)); exact HO272.out) hb); have n2_ := Aside0.mk (below_step (by repeat (first | (with_reducible first | exact HB.out | apply below_alloc | apply pw_below_drewN | apply below_drew1) | exact HB.out)) hb); clear HO_15; clear HO272; clear HB; have HO_15 := n0_; have HO272 := n1_; have HB := n2_; clear n0_ n1_ n2_; (try clear hb); (try clear hb2); (try clear hk); (try clear hi)))
                                              go_ret
                                              exact ⟨by first | rfl | (simp [errW_none, errW_some] <;> rfl) | (simp only [← hji3, ← hji29, ← hji56]; first | rfl | (simp [errW_none, errW_some] <;> rfl)) | (simp [*, errW_none, errW_some] <;> rfl), by repeat (first | (with_reducible first | exact HB.out | apply below_alloc | apply pw_below_drewN | apply below_drew1) | exact HB.out)⟩
                                            · rw [if_neg c74] at H
                                              have c74b0 : ((t270 == 2) == ((Int.tmod a0 2) == 0)) = false := by simpa using c74
                                              (try (have c74b1 : decide ((t270 == 2) = ((Int.tmod a0 2) == 0)) = false := by simpa using c74))
                                              (try (have c74b2 : ((t270 == 2) == ((Int.tmod a0 2) == 0)) = false := by simpa using c74))
                                              (try (have c74b3 : ¬ ((t270 == 2) = ((Int.tmod a0 2) == 0)) := by simpa using c74))
                                              clear c74
                                              obtain rfl := Option.some.inj H
                                              have hcv78 := own_string (P := Try.prog) Try.underlying31 Try.underlying5 Try.underlying9 (Kd.own_of_R HO_15.out)
                                              go_wp2_with (first | ((with_reducible refine gate_callee (f := 12) rfl ?_); refine goesL_ (some 114) rfl rfl Try.func12 (by kernel_rfl) rfl #[.string (strOfNums x15_4)] rfl (by (try simp only [List.map_toArray, List.map_cons, List.map_nil]); first | done | rfl | (simp only [List.length_drop, List.length_take]; rfl)) ?_; (with_reducible refine (lexer_Split.calls k4 (strOfNums x15_4) t268 t269 t270 _ A70.out).mono ?_); rintro e w79 ⟨v271, rfl, ho0, hb⟩; refine ⟨_, rfl, ?_⟩; have n0_ := Aside0.mk (Kd.R_below (by (with_reducible repeat (first | apply Kd.R_alloc | apply Kd.R_drewN | apply Kd.R_drew)); exact HO_15.out) hb); have n1_ := Aside0.mk (Kd.R_lower ho0 (below_size (by repeat (first | (with_reducible first | exact HB.out | apply below_alloc | apply pw_below_drewN | apply below_drew1) | exact HB.out)))); have n2_ := Aside0.mk (below_step (by repeat (first | (with_reducible first | exact HB.out | apply below_alloc | apply pw_below_drewN | apply below_drew1) | exact HB.out)) hb); clear HO_15; clear HB; have HO_15 := n0_; have HO272 := n1_; have HB := n2_; clear n0_ n1_ n2_; (try clear hb); (try clear hb2); (try clear hk); (try clear hi); (try clear ho0)) | ((with_reducible refine gate_callee (f := 9) rfl ?_); refine goesL_ (some 118) rfl rfl Try.func9 (by kernel_rfl) rfl #[] rfl (by (try simp only [List.map_toArray, List.map_cons, List.map_nil]); first | done | rfl | (simp only [List.length_drop, List.length_take]; rfl)) ?_; (with_reducible refine (insolvencylaw11_awake.calls k4  true _ A71.out).mono ?_); rintro e w80 ⟨rfl, hb⟩; refine ⟨_, rfl, ?_⟩; have n0_ := Aside0.mk (Kd.R_below (by (with_reducible repeat (first | apply Kd.R_alloc | apply Kd.R_drewN | apply Kd.R_drew)); exact HO_15.out) hb); have n1_ := Aside0.mk (Kd.R_below (by (with_reducible repeat (first | apply Kd.R_alloc | apply Kd.R_drewN | apply Kd.R_drew)); exact HO272.out) hb); have n2_ := Aside0.mk (below_step (by repeat (first | (with_reducible first | exact HB.out | apply below_alloc | apply pw_below_drewN | apply below_drew1) | exact HB.out)) hb); clear HO_15; clear HO272; clear HB; have HO_15 := n0_; have HO272 := n1_; have HB := n2_; clear n0_ n1_ n2_; (try clear hb); (try clear hb2); (try clear hk); (try clear hi)))
                                              go_ret
                                              exact ⟨by first | rfl | (simp [errW_none, errW_some] <;> rfl) | (simp only [← hji3, ← hji29, ← hji56]; first | rfl | (simp [errW_none, errW_some] <;> rfl)) | (simp [*, errW_none, errW_some] <;> rfl), by repeat (first | (with_reducible first | exact HB.out | apply below_alloc | apply pw_below_drewN | apply below_drew1) | exact HB.out)⟩
                                          · rw [if_neg c73] at H
                                            have c73b0 : (t260 == 0) = false := beq_eq_false_iff_ne.mpr c73
                                            have c73b1 : (t260 != 0) = true := bne_iff_ne.mpr c73
                                            obtain rfl := Option.some.inj H
                                            have hcv81 := own_string (P := Try.prog) Try.underlying31 Try.underlying5 Try.underlying9 (Kd.own_of_R HO_15.out)
                                            go_wp2_with (first | ((with_reducible refine gate_callee (f := 12) rfl ?_); refine goesL_ (some 114) rfl rfl Try.func12 (by kernel_rfl) rfl #[.string (strOfNums x15_4)] rfl (by (try simp only [List.map_toArray, List.map_cons, List.map_nil]); first | done | rfl | (simp only [List.length_drop, List.length_take]; rfl)) ?_; (with_reducible refine (lexer_Split.calls k4 (strOfNums x15_4) t268 t269 t270 _ A70.out).mono ?_); rintro e w82 ⟨v271, rfl, ho0, hb⟩; refine ⟨_, rfl, ?_⟩; have n0_ := Aside0.mk (Kd.R_below (by (with_reducible repeat (first | apply Kd.R_alloc | apply Kd.R_drewN | apply Kd.R_drew)); exact HO_15.out) hb); have n1_ := Aside0.mk (Kd.R_lower ho0 (below_size (by repeat (first | (with_reducible first | exact HB.out | apply below_alloc | apply pw_below_drewN | apply below_drew1) | exact HB.out)))); have n2_ := Aside0.mk (below_step (by repeat (first | (with_reducible first | exact HB.out | apply below_alloc | apply pw_below_drewN | apply below_drew1) | exact HB.out)) hb); clear HO_15; clear HB; have HO_15 := n0_; have HO272 := n1_; have HB := n2_; clear n0_ n1_ n2_; (try clear hb); (try clear hb2); (try clear hk); (try clear hi); (try clear ho0)) | ((with_reducible refine gate_callee (f := 9) rfl ?_); refine goesL_ (some 118) rfl rfl Try.func9 (by kernel_rfl) rfl #[] rfl (by (try simp only [List.map_toArray, List.map_cons, List.map_nil]); first | done | rfl | (simp only [List.length_drop, List.length_take]; rfl)) ?_; (with_reducible refine (insolvencylaw11_awake.calls k4  true _ A71.out).mono ?_); rintro e w83 ⟨rfl, hb⟩; refine ⟨_, rfl, ?_⟩; have n0_ := Aside0.mk (Kd.R_below (by (with_reducible repeat (first | apply Kd.R_alloc | apply Kd.R_drewN | apply Kd.R_drew)); exact HO_15.out) hb); have n1_ := Aside0.mk (Kd.R_below (by (with_reducible repeat (first | apply Kd.R_alloc | apply Kd.R_drewN | apply Kd.R_drew)); exact HO272.out) hb); have n2_ := Aside0.mk (below_step (by repeat (first | (with_reducible first | exact HB.out | apply below_alloc | apply pw_below_drewN | apply below_drew1) | exact HB.out)) hb); clear HO_15; clear HO272; clear HB; have HO_15 := n0_; have HO272 := n1_; have HB := n2_; clear n0_ n1_ n2_; (try clear hb); (try clear hb2); (try clear hk); (try clear hi)))
                                            go_ret
                                            exact ⟨by first | rfl | (simp [errW_none, errW_some] <;> rfl) | (simp only [← hji3, ← hji29, ← hji56]; first | rfl | (simp [errW_none, errW_some] <;> rfl)) | (simp [*, errW_none, errW_some] <;> rfl), by repeat (first | (with_reducible first | exact HB.out | apply below_alloc | apply pw_below_drewN | apply below_drew1) | exact HB.out)⟩
                                        · replace c72 := Bool.eq_false_iff.mpr c72
                                          subst c72
                                          have H1 : (some false) = some r := by rw [if_neg (show ¬ (false = true) by decide)] at H; exact H
                                          clear H
                                          have H := H1
                                          clear H1
                                          obtain rfl := Option.some.inj H
                                          have hcv84 := own_string (P := Try.prog) Try.underlying31 Try.underlying5 Try.underlying9 (Kd.own_of_R HO_15.out)
                                          go_wp2_with (first | ((with_reducible refine gate_callee (f := 12) rfl ?_); refine goesL_ (some 114) rfl rfl Try.func12 (by kernel_rfl) rfl #[.string (strOfNums x15_4)] rfl (by (try simp only [List.map_toArray, List.map_cons, List.map_nil]); first | done | rfl | (simp only [List.length_drop, List.length_take]; rfl)) ?_; (with_reducible refine (lexer_Split.calls k4 (strOfNums x15_4) t268 t269 t270 _ A70.out).mono ?_); rintro e w85 ⟨v271, rfl, ho0, hb⟩; refine ⟨_, rfl, ?_⟩; have n0_ := Aside0.mk (Kd.R_below (by (with_reducible repeat (first | apply Kd.R_alloc | apply Kd.R_drewN | apply Kd.R_drew)); exact HO_15.out) hb); have n1_ := Aside0.mk (Kd.R_lower ho0 (below_size (by repeat (first | (with_reducible first | exact HB.out | apply below_alloc | apply pw_below_drewN | apply below_drew1) | exact HB.out)))); have n2_ := Aside0.mk (below_step (by repeat (first | (with_reducible first | exact HB.out | apply below_alloc | apply pw_below_drewN | apply below_drew1) | exact HB.out)) hb); clear HO_15; clear HB; have HO_15 := n0_; have HO272 := n1_; have HB := n2_; clear n0_ n1_ n2_; (try clear hb); (try clear hb2); (try clear hk); (try clear hi); (try clear ho0)) | ((with_reducible refine gate_callee (f := 9) rfl ?_); refine goesL_ (some 118) rfl rfl Try.func9 (by kernel_rfl) rfl #[] rfl (by (try simp only [List.map_toArray, List.map_cons, List.map_nil]); first | done | rfl | (simp only [List.length_drop, List.length_take]; rfl)) ?_; (with_reducible refine (insolvencylaw11_awake.calls k4  false _ A71.out).mono ?_); rintro e w86 ⟨rfl, hb⟩; refine ⟨_, rfl, ?_⟩; have n0_ := Aside0.mk (Kd.R_below (by (with_reducible repeat (first | apply Kd.R_alloc | apply Kd.R_drewN | apply Kd.R_drew)); exact HO_15.out) hb); have n1_ := Aside0.mk (Kd.R_below (by (with_reducible repeat (first | apply Kd.R_alloc | apply Kd.R_drewN | apply Kd.R_drew)); exact HO272.out) hb); have n2_ := Aside0.mk (below_step (by repeat (first | (with_reducible first | exact HB.out | apply below_alloc | apply pw_below_drewN | apply below_drew1) | exact HB.out)) hb); clear HO_15; clear HO272; clear HB; have HO_15 := n0_; have HO272 := n1_; have HB := n2_; clear n0_ n1_ n2_; (try clear hb); (try clear hb2); (try clear hk); (try clear hi)))
                                          go_ret
                                          exact ⟨by first | rfl | (simp [errW_none, errW_some] <;> rfl) | (simp only [← hji3, ← hji29, ← hji56]; first | rfl | (simp [errW_none, errW_some] <;> rfl)) | (simp [*, errW_none, errW_some] <;> rfl), by repeat (first | (with_reducible first | exact HB.out | apply below_alloc | apply pw_below_drewN | apply below_drew1) | exact HB.out)⟩
                                · rw [if_neg c58] at H
                                  exact absurd H (by simp)
                              · rw [if_neg c57] at H
                                exact absurd H (by simp)
                          · rw [if_neg c41] at H
                            exact absurd H (by simp)
                  · rw [if_neg c31] at H
                    exact absurd H (by simp)
                · rw [if_neg c30] at H
                  exact absurd H (by simp)
    · rw [if_neg c5] at H
      exact absurd H (by simp)
  · rw [if_neg c4] at H
    exact absurd H (by simp)

/-- THE ONE PURE STATEMENT of insolvencylaw11_LexerMany: yours. -/
def insolvencylaw11_LexerMany.Pure : Prop := ∀ (a0 : Int) (a1 : Int), (Lit.int .u16 a0).wf = true → (Lit.int .u8 a1).wf = true → ∃ k, insolvencylaw11_LexerMany.f k a0 a1 = some true
theorem insolvencylaw11_LexerMany.walk (P : insolvencylaw11_LexerMany.Pure) (a0 : Int) (a1 : Int) (w : World) (w0 : (Lit.int .u16 a0).wf = true) (w1 : (Lit.int .u8 a1).wf = true) :
    Calls Try.prog 8 #[.int .u16 a0, .int .u8 a1] w fun e w' => e = .returned (.bool true) ∧ Below w.heap.size w w' := by
  obtain ⟨k, h⟩ := P a0 a1 w0 w1
  refine (insolvencylaw11_LexerMany.calls k a0 a1 true w h).mono ?_
  rintro e w' ⟨rfl, hd⟩
  exact ⟨rfl, hd⟩

end Go.Proofs.Ytffgmmgfofbmlaa.PA
