-- Written by a program of this session (wip/tools/pr.py) that drives the kit's print tool over a turned print.
import Derived.Test.YtffgmmgfofbmlaaTA
import Derived.Test.YtffgmmgfofbmlaaFAInsolvencyref9Reserved
import Derived.Test.YtffgmmgfofbmlaaFAInsolvencyref9Digit
import Derived.Test.YtffgmmgfofbmlaaFAInsolvencyref9Digits
import Derived.Test.YtffgmmgfofbmlaaFAInsolvencyref9Letter
import Derived.Test.YtffgmmgfofbmlaaFAInsolvencyref9Within
namespace Go.Proofs.Ytffgmmgfofbmlaa.PA
open Go.RowKit Go.Proofs.YtffgmmgfofbmlaaW.PrintWords Go.Proofs.YtffgmmgfofbmlaaW.PrintLast Go.Proofs.YtffgmmgfofbmlaaW.PrintMore
attribute [local go_sem] max2_int min2_int max_two min_two max_three min_three max_four min_four   -- for this text's walks alone
set_option linter.unusedVariables false
set_option linter.unusedSimpArgs false

/-! ### insolvencyref9_token: function 25 -/
mutual
def insolvencyref9_token.j0 : Nat → ByteArray → Int → Int → Bool → Option (Int × ByteArray × Int × Int × Int)
  | 0, _, _, _, _ => none
  | k + 1, x0, x1, x7, x14 => if x14 = true then (if 0 ≤ x1 then (if x1 ≤ (wrap64 (x1 + 1)) then (if (wrap64 (x1 + 1)) ≤ (x0.size : Int) then (some (4, x0.extract (x1 : Int).toNat ((wrap64 (x1 + 1)) : Int).toNat, x1, wrap64 (x1 + 1), 0)) else (none)) else (none)) else (none)) else ((insolvencyref9_digit.f x7).bind fun t158 => (if t158 = true then ((insolvencyref9_digits.f k x0 x1).bind fun t159 => (if (wrap64 (t159 + 1)) < (x0.size : Int) then (if 0 ≤ t159 then (if t159 < (x0.size : Int) then (if (bt x0 t159) = 46 then (if 0 ≤ (wrap64 (t159 + 1)) then ((insolvencyref9_digit.f (bt x0 (wrap64 (t159 + 1)))).bind fun t160 => (insolvencyref9_token.j1 k x0 x1 t159 t160)) else (none)) else (if (bt x0 t159) = 47 then (if 0 ≤ (wrap64 (t159 + 1)) then ((insolvencyref9_digit.f (bt x0 (wrap64 (t159 + 1)))).bind fun t161 => (insolvencyref9_token.j1 k x0 x1 t159 t161)) else (none)) else (insolvencyref9_token.j1 k x0 x1 t159 false))) else (none)) else (none)) else (insolvencyref9_token.j1 k x0 x1 t159 false))) else ((insolvencyref9_letter.f x7).bind fun t165 => (if t165 = true then (insolvencyref9_token.l0 k x0 x1 x1) else (some (0, (⟨#[]⟩ : ByteArray), 0, x1, 10))))))
def insolvencyref9_token.j1 : Nat → ByteArray → Int → Int → Bool → Option (Int × ByteArray × Int × Int × Int)
  | 0, _, _, _, _ => none
  | k + 1, x0, x1, x8, x63 => if x63 = true then ((insolvencyref9_digits.f k x0 (wrap64 (x8 + 1))).bind fun t162 => (if t162 < (x0.size : Int) then (if 0 ≤ t162 then ((insolvencyref9_letter.f (bt x0 t162)).bind fun t163 => (if t163 = true then (some (0, (⟨#[]⟩ : ByteArray), 0, t162, 10)) else (if (bt x0 t162) = 46 then (some (0, (⟨#[]⟩ : ByteArray), 0, t162, 10)) else (if (bt x0 t162) = 47 then (some (0, (⟨#[]⟩ : ByteArray), 0, t162, 10)) else (if 0 ≤ x1 then (if x1 ≤ t162 then (if t162 ≤ (x0.size : Int) then (some (2, x0.extract (x1 : Int).toNat (t162 : Int).toNat, x1, t162, 0)) else (none)) else (none)) else (none)))))) else (none)) else (if 0 ≤ x1 then (if x1 ≤ t162 then (if t162 ≤ (x0.size : Int) then (some (2, x0.extract (x1 : Int).toNat (t162 : Int).toNat, x1, t162, 0)) else (none)) else (none)) else (none)))) else (if x8 < (x0.size : Int) then (if 0 ≤ x8 then ((insolvencyref9_letter.f (bt x0 x8)).bind fun t164 => (if t164 = true then (some (0, (⟨#[]⟩ : ByteArray), 0, x8, 10)) else (if (bt x0 x8) = 46 then (some (0, (⟨#[]⟩ : ByteArray), 0, x8, 10)) else (if (bt x0 x8) = 47 then (some (0, (⟨#[]⟩ : ByteArray), 0, x8, 10)) else (if 0 ≤ x1 then (if x1 ≤ x8 then (if x8 ≤ (x0.size : Int) then (some (2, x0.extract (x1 : Int).toNat (x8 : Int).toNat, x1, x8, 0)) else (none)) else (none)) else (none)))))) else (none)) else (if 0 ≤ x1 then (if x1 ≤ x8 then (if x8 ≤ (x0.size : Int) then (some (2, x0.extract (x1 : Int).toNat (x8 : Int).toNat, x1, x8, 0)) else (none)) else (none)) else (none)))
def insolvencyref9_token.j3 : Nat → ByteArray → Int → Int → Option (Int × ByteArray × Int × Int × Int)
  | 0, _, _, _ => none
  | k + 1, x0, x1, x9 => if (wrap64 (x9 - x1)) > 32 then (some (0, (⟨#[]⟩ : ByteArray), 0, x1, 2)) else (if 0 ≤ x1 then (if x1 ≤ x9 then (if x9 ≤ (x0.size : Int) then ((insolvencyref9_Reserved.f (x0.extract (x1 : Int).toNat (x9 : Int).toNat)).bind fun t168 => (if t168 = true then (some (3, x0.extract (x1 : Int).toNat (x9 : Int).toNat, x1, x9, 0)) else (some (1, x0.extract (x1 : Int).toNat (x9 : Int).toNat, x1, x9, 0)))) else (none)) else (none)) else (none))
def insolvencyref9_token.l0 : Nat → ByteArray → Int → Int → Option (Int × ByteArray × Int × Int × Int)
  | 0, _, _, _ => none
  | k + 1, x0, x1, x9 => if x9 < (x0.size : Int) then (if 0 ≤ x9 then ((insolvencyref9_within.f (bt x0 x9)).bind fun t166 => (if t166 = true then (insolvencyref9_token.l0 k x0 x1 (wrap64 (x9 + 1))) else (insolvencyref9_token.j3 k x0 x1 x9))) else (none)) else (insolvencyref9_token.j3 k x0 x1 x9)
end
def insolvencyref9_token.f (k : Nat) (a0 : ByteArray) (a1 : Int) : Option (Int × ByteArray × Int × Int × Int) := if 0 ≤ a1 then (if a1 < (a0.size : Int) then (if (bt a0 a1) = 61 then (insolvencyref9_token.j0 k a0 a1 (bt a0 a1) true) else (if (bt a0 a1) = 44 then (insolvencyref9_token.j0 k a0 a1 (bt a0 a1) true) else (insolvencyref9_token.j0 k a0 a1 (bt a0 a1) ((bt a0 a1) == 59)))) else (none)) else (none)
theorem insolvencyref9_token.mono_l : ∀ k, (∀ y0 y1 y2 y3, LeO (insolvencyref9_token.j0 k y0 y1 y2 y3) (insolvencyref9_token.j0 (k + 1) y0 y1 y2 y3)) ∧ (∀ y0 y1 y2 y3, LeO (insolvencyref9_token.j1 k y0 y1 y2 y3) (insolvencyref9_token.j1 (k + 1) y0 y1 y2 y3)) ∧ (∀ y0 y1 y2, LeO (insolvencyref9_token.j3 k y0 y1 y2) (insolvencyref9_token.j3 (k + 1) y0 y1 y2)) ∧ (∀ y0 y1 y2, LeO (insolvencyref9_token.l0 k y0 y1 y2) (insolvencyref9_token.l0 (k + 1) y0 y1 y2))
  | 0 => ⟨fun _ _ _ _ r h => by simp [insolvencyref9_token.j0] at h, fun _ _ _ _ r h => by simp [insolvencyref9_token.j1] at h, fun _ _ _ r h => by simp [insolvencyref9_token.j3] at h, fun _ _ _ r h => by simp [insolvencyref9_token.l0] at h⟩
  | k + 1 => by
    obtain ⟨ih0, ih1, ih2, ih3⟩ := insolvencyref9_token.mono_l k
    refine ⟨?_, ?_, ?_, ?_⟩
    · intro y0 y1 y2 y3
      unfold insolvencyref9_token.j0
      repeat' first
      | (with_reducible exact ih0 _ _ _ _)
      | (with_reducible exact ih1 _ _ _ _)
      | (with_reducible exact ih2 _ _ _)
      | (with_reducible exact ih3 _ _ _)
      | (with_reducible exact insolvencyref9_digits.mono _ _ _)
      | (with_reducible exact LeO.refl _)
      | (with_reducible exact LeO.none _)
      | (with_reducible refine LeO.ite ?_ ?_)
      | (with_reducible refine LeO.bind ?_ (fun _ => ?_))
      | exact ih0 _ _ _ _
      | exact ih1 _ _ _ _
      | exact ih2 _ _ _
      | exact ih3 _ _ _
      | exact insolvencyref9_digits.mono _ _ _
      | exact LeO.none _
      | refine LeO.ite ?_ ?_
      | refine LeO.bind ?_ (fun _ => ?_)
    · intro y0 y1 y2 y3
      unfold insolvencyref9_token.j1
      repeat' first
      | (with_reducible exact ih0 _ _ _ _)
      | (with_reducible exact ih1 _ _ _ _)
      | (with_reducible exact ih2 _ _ _)
      | (with_reducible exact ih3 _ _ _)
      | (with_reducible exact insolvencyref9_digits.mono _ _ _)
      | (with_reducible exact LeO.refl _)
      | (with_reducible exact LeO.none _)
      | (with_reducible refine LeO.ite ?_ ?_)
      | (with_reducible refine LeO.bind ?_ (fun _ => ?_))
      | exact ih0 _ _ _ _
      | exact ih1 _ _ _ _
      | exact ih2 _ _ _
      | exact ih3 _ _ _
      | exact insolvencyref9_digits.mono _ _ _
      | exact LeO.none _
      | refine LeO.ite ?_ ?_
      | refine LeO.bind ?_ (fun _ => ?_)
    · intro y0 y1 y2
      unfold insolvencyref9_token.j3
      repeat' first
      | (with_reducible exact ih0 _ _ _ _)
      | (with_reducible exact ih1 _ _ _ _)
      | (with_reducible exact ih2 _ _ _)
      | (with_reducible exact ih3 _ _ _)
      | (with_reducible exact insolvencyref9_digits.mono _ _ _)
      | (with_reducible exact LeO.refl _)
      | (with_reducible exact LeO.none _)
      | (with_reducible refine LeO.ite ?_ ?_)
      | (with_reducible refine LeO.bind ?_ (fun _ => ?_))
      | exact ih0 _ _ _ _
      | exact ih1 _ _ _ _
      | exact ih2 _ _ _
      | exact ih3 _ _ _
      | exact insolvencyref9_digits.mono _ _ _
      | exact LeO.none _
      | refine LeO.ite ?_ ?_
      | refine LeO.bind ?_ (fun _ => ?_)
    · intro y0 y1 y2
      unfold insolvencyref9_token.l0
      repeat' first
      | (with_reducible exact ih0 _ _ _ _)
      | (with_reducible exact ih1 _ _ _ _)
      | (with_reducible exact ih2 _ _ _)
      | (with_reducible exact ih3 _ _ _)
      | (with_reducible exact insolvencyref9_digits.mono _ _ _)
      | (with_reducible exact LeO.refl _)
      | (with_reducible exact LeO.none _)
      | (with_reducible refine LeO.ite ?_ ?_)
      | (with_reducible refine LeO.bind ?_ (fun _ => ?_))
      | exact ih0 _ _ _ _
      | exact ih1 _ _ _ _
      | exact ih2 _ _ _
      | exact ih3 _ _ _
      | exact insolvencyref9_digits.mono _ _ _
      | exact LeO.none _
      | refine LeO.ite ?_ ?_
      | refine LeO.bind ?_ (fun _ => ?_)
theorem insolvencyref9_token.mono : ∀ a0 a1 k, LeO (insolvencyref9_token.f k a0 a1) (insolvencyref9_token.f (k + 1) a0 a1) := by
  intro a0 a1 k
  obtain ⟨ih0, ih1, ih2, ih3⟩ := insolvencyref9_token.mono_l k
  unfold insolvencyref9_token.f
  repeat' first
      | (with_reducible exact ih0 _ _ _ _)
      | (with_reducible exact ih1 _ _ _ _)
      | (with_reducible exact ih2 _ _ _)
      | (with_reducible exact ih3 _ _ _)
      | (with_reducible exact insolvencyref9_digits.mono _ _ _)
      | (with_reducible exact LeO.refl _)
      | (with_reducible exact LeO.none _)
      | (with_reducible refine LeO.ite ?_ ?_)
      | (with_reducible refine LeO.bind ?_ (fun _ => ?_))
      | exact ih0 _ _ _ _
      | exact ih1 _ _ _ _
      | exact ih2 _ _ _
      | exact ih3 _ _ _
      | exact insolvencyref9_digits.mono _ _ _
      | exact LeO.none _
      | refine LeO.ite ?_ ?_
      | refine LeO.bind ?_ (fun _ => ?_)
set_option maxHeartbeats 8000000 in
set_option maxRecDepth 100000 in
theorem insolvencyref9_token.calls (k : Nat) (a0 : ByteArray) (a1 : Int) (r1 : Int) (r2 : ByteArray) (r3 : Int) (r4 : Int) (r5 : Int) (w : World) (h : insolvencyref9_token.f k a0 a1 = some (r1, r2, r3, r4, r5)) :
    Calls Try.prog 25 #[.string a0, .int .i64 a1] w fun e w' => e = .returned (.tuple #[.agg #[.int .i64 r1, .string r2, .int .i64 r3], .int .i64 r4, .int .i64 r5]) ∧ Below w.heap.size w w' := by
  have hu35 := Try.underlying35
  have HB := Aside0.mk (Below.refl w.heap.size w)
  have H : (if 0 ≤ a1 then (if a1 < (a0.size : Int) then (if (bt a0 a1) = 61 then (insolvencyref9_token.j0 k a0 a1 (bt a0 a1) true) else (if (bt a0 a1) = 44 then (insolvencyref9_token.j0 k a0 a1 (bt a0 a1) true) else (insolvencyref9_token.j0 k a0 a1 (bt a0 a1) ((bt a0 a1) == 59)))) else (none)) else (none)) = some (r1, r2, r3, r4, r5) := h
  clear h
  by_cases c3 : 0 ≤ a1
  · rw [if_pos c3] at H
    have c3b0 : decide (0 ≤ a1) = true := decide_eq_true c3
    clear c3
    by_cases c4 : a1 < (a0.size : Int)
    · rw [if_pos c4] at H
      have c4b0 : decide (a1 < (a0.size : Int)) = true := decide_eq_true c4
      clear c4
      have HC6 := Aside0.mk H
      clear H
      go_enter Try.func25, Try.ntmps25
      go_upto_region 2 with (first | ((with_reducible refine gate_dst (N := 4) rfl ?_); refine box_event ?hg (N := 4) ?hd (cs := #[.int .i64 0, .string (⟨#[]⟩ : ByteArray), .int .i64 0]) (t := 35) ?hr ?_; (case hd => rfl); (case hg => rfl); (case hr => first | (go_simp; done) | (go_simp; rfl)); intro gb157 hg w7 hbox hb; have n0_ := Aside0.mk (below_step (by repeat (first | (with_reducible first | exact HB.out | apply below_alloc | apply pw_below_drewN | apply below_drew1) | exact HB.out)) hb); have n1_ := Aside0.mk (hbox); have n2_ := Aside0.mk ((by rw [hg]; exact (below_size (by repeat (first | (with_reducible first | exact HB.out | apply below_alloc | apply pw_below_drewN | apply below_drew1) | exact HB.out))) : w.heap.size ≤ gb157)); have n3_ := Aside0.mk ((by rw [hg]; exact (below_size (by repeat (first | (with_reducible first | exact HB.out | apply below_alloc | apply pw_below_drewN | apply below_drew1) | exact HB.out))) : w.heap.size ≤ gb157)); clear HB; have HB := n0_; have BK157 := n1_; have GW157 := n2_; have GE157 := n3_; clear n0_ n1_ n2_ n3_; clear hb hbox hg; have p5 : 0 ≤ (a1 : Int) := of_decide_eq_true (by first | (with_reducible assumption) | assumption); have q5 : a1 < (a0.size : Int) := of_decide_eq_true (by first | (with_reducible assumption) | assumption); have hx5 := bt_at a0 a1; replace p5 := eq_true p5; replace q5 := eq_true q5))
      (try simp only [Act.put, List.setIfInBounds_toArray, List.set_cons_zero, List.set_cons_succ])
      go_cut [14] (fun v14 wc => ∃ (kq : Nat) (x14_5 : Bool), v14 = .bool x14_5 ∧ Aside0 (insolvencyref9_token.j0 kq a0 a1 (bt a0 a1) x14_5 = some (r1, r2, r3, r4, r5)) ∧ Aside0 (kq ≤ k) ∧ Aside0 (wc.heap[gb157]? = some (.cells #[.int .i64 0, .string (⟨#[]⟩ : ByteArray), .int .i64 0] 35 (0, 0))) ∧ Aside0 (Below w.heap.size w wc))
      case first =>
        have H := HC6.out
        clear HC6
        by_cases c8 : (bt a0 a1) = 61
        · rw [if_pos c8] at H
          have c8b0 : ((bt a0 a1) == 61) = true := beq_iff_eq.mpr c8
          have c8b1 : ((bt a0 a1) != 61) = false := bne_eq_false_iff_eq.mpr c8
          clear c8
          (first | rw [c8b0] | (simp only [i64_w, i32_w]; rw [c8b0]) | skip)
          have H' := Aside0.mk H
          clear H
          go_wp2
          go_meet
          case rel => exact ⟨_, (true), (by first | rfl | (simp; done) | (simp [*]; done)), H', ⟨by first | omega | exact Nat.le_refl _⟩, ⟨by (with_reducible repeat (first | refine blk_drewN ?_ _ | refine blk_drew ?_ | refine blk_alloc ?_ _)); exact BK157.out⟩, ⟨by repeat (first | (with_reducible first | exact HB.out | apply below_alloc | apply pw_below_drewN | apply below_drew1 | refine below_set ?_ GE157.out) | exact HB.out)⟩⟩
        · rw [if_neg c8] at H
          have c8b0 : ((bt a0 a1) == 61) = false := beq_eq_false_iff_ne.mpr c8
          have c8b1 : ((bt a0 a1) != 61) = true := bne_iff_ne.mpr c8
          (first | rw [c8b0] | (simp only [i64_w, i32_w]; rw [c8b0]) | skip)
          by_cases c9 : (bt a0 a1) = 44
          · rw [if_pos c9] at H
            have c9b0 : ((bt a0 a1) == 44) = true := beq_iff_eq.mpr c9
            have c9b1 : ((bt a0 a1) != 44) = false := bne_eq_false_iff_eq.mpr c9
            clear c9
            have H' := Aside0.mk H
            clear H
            go_wp2
            go_meet
            case rel => exact ⟨_, (true), (by first | rfl | (simp; done) | (simp [*]; done)), H', ⟨by first | omega | exact Nat.le_refl _⟩, ⟨by (with_reducible repeat (first | refine blk_drewN ?_ _ | refine blk_drew ?_ | refine blk_alloc ?_ _)); exact BK157.out⟩, ⟨by repeat (first | (with_reducible first | exact HB.out | apply below_alloc | apply pw_below_drewN | apply below_drew1 | refine below_set ?_ GE157.out) | exact HB.out)⟩⟩
          · rw [if_neg c9] at H
            have c9b0 : ((bt a0 a1) == 44) = false := beq_eq_false_iff_ne.mpr c9
            have c9b1 : ((bt a0 a1) != 44) = true := bne_iff_ne.mpr c9
            have H' := Aside0.mk H
            clear H
            go_wp2
            go_meet
            case rel => exact ⟨_, (((bt a0 a1) == 59)), (by first | rfl | (simp; done) | (simp [*]; done)), H', ⟨by first | omega | exact Nat.le_refl _⟩, ⟨by (with_reducible repeat (first | refine blk_drewN ?_ _ | refine blk_drew ?_ | refine blk_alloc ?_ _)); exact BK157.out⟩, ⟨by repeat (first | (with_reducible first | exact HB.out | apply below_alloc | apply pw_below_drewN | apply below_drew1 | refine below_set ?_ GE157.out) | exact HB.out)⟩⟩
      case rest =>
        clear HC6
        try clear c2
        try clear p2
        try clear c3
        try clear c3b0
        try clear c4
        try clear c4b0
        try clear p5
        try clear q5
        try clear hx5
        try clear c8
        try clear c8b0
        try clear c8b1
        try clear c9
        try clear c9b0
        try clear c9b1
        try clear p5
        try clear q5
        obtain ⟨kq, x14_5, rfl, HA, HJ5, BK157, HB⟩ := hcut
        cases kq with
        | zero => exact absurd HA.out (by simp [insolvencyref9_token.j0])
        | succ kj5 =>
          have H := HA.out
          clear HA
          simp only [insolvencyref9_token.j0] at H
          by_cases c10 : x14_5 = true
          · subst c10
            have H1 : (if 0 ≤ a1 then (if a1 ≤ (wrap64 (a1 + 1)) then (if (wrap64 (a1 + 1)) ≤ (a0.size : Int) then (some (4, a0.extract (a1 : Int).toNat ((wrap64 (a1 + 1)) : Int).toNat, a1, wrap64 (a1 + 1), 0)) else (none)) else (none)) else (none)) = some (r1, r2, r3, r4, r5) := by rw [if_pos rfl] at H; exact H
            clear H
            have H := H1
            clear H1
            by_cases c11 : 0 ≤ a1
            · rw [if_pos c11] at H
              have c11b0 := eq_true c11
              have c11b1 : decide (0 ≤ a1) = true := decide_eq_true c11
              clear c11
              by_cases c12 : a1 ≤ (wrap64 (a1 + 1))
              · rw [if_pos c12] at H
                have c12b0 := eq_true c12
                have c12b1 : decide (a1 ≤ (wrap64 (a1 + 1))) = true := decide_eq_true c12
                by_cases c13 : (wrap64 (a1 + 1)) ≤ (a0.size : Int)
                · rw [if_pos c13] at H
                  have c13b0 := eq_true c13
                  have c13b1 : decide ((wrap64 (a1 + 1)) ≤ (a0.size : Int)) = true := decide_eq_true c13
                  simp only [Option.some.injEq, Prod.mk.injEq] at H
                  obtain ⟨rfl, rfl, rfl, rfl, rfl⟩ := H
                  have hcz14_0 : wc.cell? ⟨gb157, 0, none⟩ = some (.int .i64 0) := (blk_cell BK157.out 0).trans rfl
                  have hcz14_1 : wc.cell? ⟨gb157, 1, none⟩ = some (.string (⟨#[]⟩ : ByteArray)) := (blk_cell BK157.out 1).trans rfl
                  have hcz14_2 : wc.cell? ⟨gb157, 2, none⟩ = some (.int .i64 0) := (blk_cell BK157.out 2).trans rfl
                  have hfz14_0 := blk_frozen BK157.out 0
                  have hfz14_1 := blk_frozen BK157.out 1
                  have hfz14_2 := blk_frozen BK157.out 2
                  go_wp2
                  refine bodyPost_ret (results_ctt rfl _ _ gb157 35 #[.int .i64 4, .string (a0.extract (a1 : Int).toNat ((wrap64 (a1 + 1)) : Int).toNat), .int .i64 a1] (0, 0) _ rfl (by (with_reducible repeat (first | refine blk_drewN ?_ _ | refine blk_drew ?_ | refine blk_alloc ?_ _)); refine blk_put (cs := #[.int .i64 4, .string (a0.extract (a1 : Int).toNat ((wrap64 (a1 + 1)) : Int).toNat), .int .i64 0]) ?_ 2 _ rfl; (with_reducible repeat (first | refine blk_drewN ?_ _ | refine blk_drew ?_ | refine blk_alloc ?_ _)); refine blk_put (cs := #[.int .i64 4, .string (⟨#[]⟩ : ByteArray), .int .i64 0]) ?_ 1 _ rfl; (with_reducible repeat (first | refine blk_drewN ?_ _ | refine blk_drew ?_ | refine blk_alloc ?_ _)); refine blk_put (cs := #[.int .i64 0, .string (⟨#[]⟩ : ByteArray), .int .i64 0]) ?_ 0 _ rfl; (with_reducible repeat (first | refine blk_drewN ?_ _ | refine blk_drew ?_ | refine blk_alloc ?_ _)); exact BK157.out) Try.underlying35 rfl (by kernel_rfl)) rfl ?_
                  exact ⟨by first | rfl | (simp [errW_none, errW_some] <;> rfl) | (simp [*, errW_none, errW_some] <;> rfl), by repeat (first | (with_reducible first | exact HB.out | apply below_alloc | apply pw_below_drewN | apply below_drew1 | refine below_set ?_ GE157.out) | exact HB.out)⟩
                · rw [if_neg c13] at H
                  exact absurd H (by simp)
              · rw [if_neg c12] at H
                exact absurd H (by simp)
            · rw [if_neg c11] at H
              exact absurd H (by simp)
          · replace c10 := Bool.eq_false_iff.mpr c10
            subst c10
            have H1 : ((insolvencyref9_digit.f (bt a0 a1)).bind fun t158 => (if t158 = true then ((insolvencyref9_digits.f kj5 a0 a1).bind fun t159 => (if (wrap64 (t159 + 1)) < (a0.size : Int) then (if 0 ≤ t159 then (if t159 < (a0.size : Int) then (if (bt a0 t159) = 46 then (if 0 ≤ (wrap64 (t159 + 1)) then ((insolvencyref9_digit.f (bt a0 (wrap64 (t159 + 1)))).bind fun t160 => (insolvencyref9_token.j1 kj5 a0 a1 t159 t160)) else (none)) else (if (bt a0 t159) = 47 then (if 0 ≤ (wrap64 (t159 + 1)) then ((insolvencyref9_digit.f (bt a0 (wrap64 (t159 + 1)))).bind fun t161 => (insolvencyref9_token.j1 kj5 a0 a1 t159 t161)) else (none)) else (insolvencyref9_token.j1 kj5 a0 a1 t159 false))) else (none)) else (none)) else (insolvencyref9_token.j1 kj5 a0 a1 t159 false))) else ((insolvencyref9_letter.f (bt a0 a1)).bind fun t165 => (if t165 = true then (insolvencyref9_token.l0 kj5 a0 a1 a1) else (some (0, (⟨#[]⟩ : ByteArray), 0, a1, 10)))))) = some (r1, r2, r3, r4, r5) := by rw [if_neg (show ¬ (false = true) by decide)] at H; exact H
            clear H
            have H := H1
            clear H1
            replace H := Option.bind_eq_some_iff.mp H
            obtain ⟨t158, A150, H⟩ := H
            replace H : (if t158 = true then ((insolvencyref9_digits.f kj5 a0 a1).bind fun t159 => (if (wrap64 (t159 + 1)) < (a0.size : Int) then (if 0 ≤ t159 then (if t159 < (a0.size : Int) then (if (bt a0 t159) = 46 then (if 0 ≤ (wrap64 (t159 + 1)) then ((insolvencyref9_digit.f (bt a0 (wrap64 (t159 + 1)))).bind fun t160 => (insolvencyref9_token.j1 kj5 a0 a1 t159 t160)) else (none)) else (if (bt a0 t159) = 47 then (if 0 ≤ (wrap64 (t159 + 1)) then ((insolvencyref9_digit.f (bt a0 (wrap64 (t159 + 1)))).bind fun t161 => (insolvencyref9_token.j1 kj5 a0 a1 t159 t161)) else (none)) else (insolvencyref9_token.j1 kj5 a0 a1 t159 false))) else (none)) else (none)) else (insolvencyref9_token.j1 kj5 a0 a1 t159 false))) else ((insolvencyref9_letter.f (bt a0 a1)).bind fun t165 => (if t165 = true then (insolvencyref9_token.l0 kj5 a0 a1 a1) else (some (0, (⟨#[]⟩ : ByteArray), 0, a1, 10))))) = some (r1, r2, r3, r4, r5) := H
            have A15 := Aside0.mk A150
            clear A150
            by_cases c16 : t158 = true
            · subst c16
              have H1 : ((insolvencyref9_digits.f kj5 a0 a1).bind fun t159 => (if (wrap64 (t159 + 1)) < (a0.size : Int) then (if 0 ≤ t159 then (if t159 < (a0.size : Int) then (if (bt a0 t159) = 46 then (if 0 ≤ (wrap64 (t159 + 1)) then ((insolvencyref9_digit.f (bt a0 (wrap64 (t159 + 1)))).bind fun t160 => (insolvencyref9_token.j1 kj5 a0 a1 t159 t160)) else (none)) else (if (bt a0 t159) = 47 then (if 0 ≤ (wrap64 (t159 + 1)) then ((insolvencyref9_digit.f (bt a0 (wrap64 (t159 + 1)))).bind fun t161 => (insolvencyref9_token.j1 kj5 a0 a1 t159 t161)) else (none)) else (insolvencyref9_token.j1 kj5 a0 a1 t159 false))) else (none)) else (none)) else (insolvencyref9_token.j1 kj5 a0 a1 t159 false))) = some (r1, r2, r3, r4, r5) := by rw [if_pos rfl] at H; exact H
              clear H
              have H := H1
              clear H1
              replace H := Option.bind_eq_some_iff.mp H
              obtain ⟨t159, A170, H⟩ := H
              replace H : (if (wrap64 (t159 + 1)) < (a0.size : Int) then (if 0 ≤ t159 then (if t159 < (a0.size : Int) then (if (bt a0 t159) = 46 then (if 0 ≤ (wrap64 (t159 + 1)) then ((insolvencyref9_digit.f (bt a0 (wrap64 (t159 + 1)))).bind fun t160 => (insolvencyref9_token.j1 kj5 a0 a1 t159 t160)) else (none)) else (if (bt a0 t159) = 47 then (if 0 ≤ (wrap64 (t159 + 1)) then ((insolvencyref9_digit.f (bt a0 (wrap64 (t159 + 1)))).bind fun t161 => (insolvencyref9_token.j1 kj5 a0 a1 t159 t161)) else (none)) else (insolvencyref9_token.j1 kj5 a0 a1 t159 false))) else (none)) else (none)) else (insolvencyref9_token.j1 kj5 a0 a1 t159 false)) = some (r1, r2, r3, r4, r5) := H
              have A17 := Aside0.mk A170
              clear A170
              have HC18 := Aside0.mk H
              clear H
              go_upto_region 6 with (first | ((with_reducible refine gate_callee (f := 28) rfl ?_); refine goesL_ (some 36) rfl rfl Try.func28 (by kernel_rfl) rfl #[.int .u8 (bt a0 a1)] rfl (by (try simp only [List.map_toArray, List.map_cons, List.map_nil]); first | done | rfl | (simp only [List.length_drop, List.length_take]; rfl)) ?_; (with_reducible refine (insolvencyref9_digit.calls (bt a0 a1) true _ A15.out).mono ?_); rintro e w' ⟨rfl, ⟨nd, rfl⟩⟩; refine ⟨_, rfl, ?_⟩) | ((with_reducible refine gate_callee (f := 29) rfl ?_); refine goesL_ (some 39) rfl rfl Try.func29 (by kernel_rfl) rfl #[.string a0, .int .i64 a1] rfl (by (try simp only [List.map_toArray, List.map_cons, List.map_nil]); first | done | rfl | (simp only [List.length_drop, List.length_take]; rfl)) ?_; (with_reducible refine (insolvencyref9_digits.calls kj5 a0 a1 t159 _ A17.out).mono ?_); rintro e w' ⟨rfl, ⟨nd, rfl⟩⟩; refine ⟨_, rfl, ?_⟩))
              (try simp only [Act.put, List.setIfInBounds_toArray, List.set_cons_zero, List.set_cons_succ])
              go_cut [63] (fun v63 wc => ∃ (kq : Nat) (x63_17 : Bool), v63 = .bool x63_17 ∧ Aside0 (insolvencyref9_token.j1 kq a0 a1 t159 x63_17 = some (r1, r2, r3, r4, r5)) ∧ Aside0 (kq ≤ kj5) ∧ Aside0 (wc.heap[gb157]? = some (.cells #[.int .i64 0, .string (⟨#[]⟩ : ByteArray), .int .i64 0] 35 (0, 0))) ∧ Aside0 (Below w.heap.size w wc))
              case first =>
                have H := HC18.out
                clear HC18
                by_cases c19 : (wrap64 (t159 + 1)) < (a0.size : Int)
                · rw [if_pos c19] at H
                  have c19b0 : decide ((wrap64 (t159 + 1)) < (a0.size : Int)) = true := decide_eq_true c19
                  clear c19
                  (first | rw [c19b0] | (simp only [i64_w, i32_w]; rw [c19b0]) | skip)
                  by_cases c20 : 0 ≤ t159
                  · rw [if_pos c20] at H
                    have c20b0 : decide (0 ≤ t159) = true := decide_eq_true c20
                    clear c20
                    by_cases c21 : t159 < (a0.size : Int)
                    · rw [if_pos c21] at H
                      have c21b0 : decide (t159 < (a0.size : Int)) = true := decide_eq_true c21
                      clear c21
                      by_cases c23 : (bt a0 t159) = 46
                      · rw [if_pos c23] at H
                        have c23b0 : ((bt a0 t159) == 46) = true := beq_iff_eq.mpr c23
                        have c23b1 : ((bt a0 t159) != 46) = false := bne_eq_false_iff_eq.mpr c23
                        clear c23
                        obtain ⟨ji24, hji24⟩ : ∃ j_ : Int, (wrap64 (t159 + 1)) = j_ := ⟨_, rfl⟩
                        replace H : (if 0 ≤ (ji24) then ((insolvencyref9_digit.f (bt a0 (ji24))).bind fun t160 => (insolvencyref9_token.j1 kj5 a0 a1 t159 t160)) else (none)) = some (r1, r2, r3, r4, r5) := by first | (rw [hji24] at H; exact H) | (simp only [hji24] at H ⊢; exact H)
                        (try rw [hji24] at c19b0)
                        have hji24w : (IntKind.i64.wrap (t159 + 1)) = ji24 := (i64_w _).trans hji24
                        by_cases c25 : 0 ≤ (ji24)
                        · rw [if_pos c25] at H
                          have c25b0 : decide (0 ≤ (ji24)) = true := decide_eq_true c25
                          clear c25
                          replace H := Option.bind_eq_some_iff.mp H
                          obtain ⟨t160, A270, H⟩ := H
                          replace H : (insolvencyref9_token.j1 kj5 a0 a1 t159 t160) = some (r1, r2, r3, r4, r5) := H
                          have A27 := Aside0.mk A270
                          clear A270
                          have H' := Aside0.mk H
                          clear H
                          have p22 : 0 ≤ (t159 : Int) := of_decide_eq_true (by first | (with_reducible assumption) | assumption)
                          have q22 : t159 < (a0.size : Int) := of_decide_eq_true (by first | (with_reducible assumption) | assumption)
                          have hx22 := bt_at a0 t159
                          replace p22 := eq_true p22
                          replace q22 := eq_true q22
                          have p26 : 0 ≤ ((ji24) : Int) := of_decide_eq_true (by first | (with_reducible assumption) | assumption)
                          have q26 : (ji24) < (a0.size : Int) := of_decide_eq_true (by first | (with_reducible assumption) | assumption)
                          have hx26 := bt_at a0 (ji24)
                          replace p26 := eq_true p26
                          replace q26 := eq_true q26
                          go_wp2_with (first | (go_at_call 28; (with_reducible refine (insolvencyref9_digit.calls (bt a0 (ji24)) t160 _ A27.out).mono ?_); rintro e w' ⟨rfl, ⟨nd, rfl⟩⟩))
                          go_meet
                          case rel => exact ⟨_, (t160), (by first | rfl | (simp; done) | (simp [*]; done)), H', ⟨by have := HJ5.out; first | omega | exact Nat.le_refl _⟩, ⟨by (with_reducible repeat (first | refine blk_drewN ?_ _ | refine blk_drew ?_ | refine blk_alloc ?_ _)); exact BK157.out⟩, ⟨by repeat (first | (with_reducible first | exact HB.out | apply below_alloc | apply pw_below_drewN | apply below_drew1 | refine below_set ?_ GE157.out) | exact HB.out)⟩⟩
                        · rw [if_neg c25] at H
                          exact absurd H (by simp)
                      · rw [if_neg c23] at H
                        have c23b0 : ((bt a0 t159) == 46) = false := beq_eq_false_iff_ne.mpr c23
                        have c23b1 : ((bt a0 t159) != 46) = true := bne_iff_ne.mpr c23
                        by_cases c29 : (bt a0 t159) = 47
                        · rw [if_pos c29] at H
                          have c29b0 : ((bt a0 t159) == 47) = true := beq_iff_eq.mpr c29
                          have c29b1 : ((bt a0 t159) != 47) = false := bne_eq_false_iff_eq.mpr c29
                          clear c29
                          obtain ⟨ji30, hji30⟩ : ∃ j_ : Int, (wrap64 (t159 + 1)) = j_ := ⟨_, rfl⟩
                          replace H : (if 0 ≤ (ji30) then ((insolvencyref9_digit.f (bt a0 (ji30))).bind fun t161 => (insolvencyref9_token.j1 kj5 a0 a1 t159 t161)) else (none)) = some (r1, r2, r3, r4, r5) := by first | (rw [hji30] at H; exact H) | (simp only [hji30] at H ⊢; exact H)
                          (try rw [hji30] at c19b0)
                          have hji30w : (IntKind.i64.wrap (t159 + 1)) = ji30 := (i64_w _).trans hji30
                          by_cases c31 : 0 ≤ (ji30)
                          · rw [if_pos c31] at H
                            have c31b0 : decide (0 ≤ (ji30)) = true := decide_eq_true c31
                            clear c31
                            replace H := Option.bind_eq_some_iff.mp H
                            obtain ⟨t161, A330, H⟩ := H
                            replace H : (insolvencyref9_token.j1 kj5 a0 a1 t159 t161) = some (r1, r2, r3, r4, r5) := H
                            have A33 := Aside0.mk A330
                            clear A330
                            have H' := Aside0.mk H
                            clear H
                            have p22 : 0 ≤ (t159 : Int) := of_decide_eq_true (by first | (with_reducible assumption) | assumption)
                            have q22 : t159 < (a0.size : Int) := of_decide_eq_true (by first | (with_reducible assumption) | assumption)
                            have hx22 := bt_at a0 t159
                            replace p22 := eq_true p22
                            replace q22 := eq_true q22
                            have p28 : 0 ≤ (t159 : Int) := of_decide_eq_true (by first | (with_reducible assumption) | assumption)
                            have q28 : t159 < (a0.size : Int) := of_decide_eq_true (by first | (with_reducible assumption) | assumption)
                            have hx28 := bt_at a0 t159
                            replace p28 := eq_true p28
                            replace q28 := eq_true q28
                            have p32 : 0 ≤ ((ji30) : Int) := of_decide_eq_true (by first | (with_reducible assumption) | assumption)
                            have q32 : (ji30) < (a0.size : Int) := of_decide_eq_true (by first | (with_reducible assumption) | assumption)
                            have hx32 := bt_at a0 (ji30)
                            replace p32 := eq_true p32
                            replace q32 := eq_true q32
                            go_wp2_with (first | (go_at_call 28; (with_reducible refine (insolvencyref9_digit.calls (bt a0 (ji30)) t161 _ A33.out).mono ?_); rintro e w' ⟨rfl, ⟨nd, rfl⟩⟩))
                            go_meet
                            case rel => exact ⟨_, (t161), (by first | rfl | (simp; done) | (simp [*]; done)), H', ⟨by have := HJ5.out; first | omega | exact Nat.le_refl _⟩, ⟨by (with_reducible repeat (first | refine blk_drewN ?_ _ | refine blk_drew ?_ | refine blk_alloc ?_ _)); exact BK157.out⟩, ⟨by repeat (first | (with_reducible first | exact HB.out | apply below_alloc | apply pw_below_drewN | apply below_drew1 | refine below_set ?_ GE157.out) | exact HB.out)⟩⟩
                          · rw [if_neg c31] at H
                            exact absurd H (by simp)
                        · rw [if_neg c29] at H
                          have c29b0 : ((bt a0 t159) == 47) = false := beq_eq_false_iff_ne.mpr c29
                          have c29b1 : ((bt a0 t159) != 47) = true := bne_iff_ne.mpr c29
                          have H' := Aside0.mk H
                          clear H
                          have p22 : 0 ≤ (t159 : Int) := of_decide_eq_true (by first | (with_reducible assumption) | assumption)
                          have q22 : t159 < (a0.size : Int) := of_decide_eq_true (by first | (with_reducible assumption) | assumption)
                          have hx22 := bt_at a0 t159
                          replace p22 := eq_true p22
                          replace q22 := eq_true q22
                          have p28 : 0 ≤ (t159 : Int) := of_decide_eq_true (by first | (with_reducible assumption) | assumption)
                          have q28 : t159 < (a0.size : Int) := of_decide_eq_true (by first | (with_reducible assumption) | assumption)
                          have hx28 := bt_at a0 t159
                          replace p28 := eq_true p28
                          replace q28 := eq_true q28
                          go_wp2
                          go_meet
                          case rel => exact ⟨_, (false), (by first | rfl | (simp; done) | (simp [*]; done)), H', ⟨by have := HJ5.out; first | omega | exact Nat.le_refl _⟩, ⟨by (with_reducible repeat (first | refine blk_drewN ?_ _ | refine blk_drew ?_ | refine blk_alloc ?_ _)); exact BK157.out⟩, ⟨by repeat (first | (with_reducible first | exact HB.out | apply below_alloc | apply pw_below_drewN | apply below_drew1 | refine below_set ?_ GE157.out) | exact HB.out)⟩⟩
                    · rw [if_neg c21] at H
                      exact absurd H (by simp)
                  · rw [if_neg c20] at H
                    exact absurd H (by simp)
                · rw [if_neg c19] at H
                  have c19b0 : decide ((wrap64 (t159 + 1)) < (a0.size : Int)) = false := decide_eq_false c19
                  clear c19
                  (first | rw [c19b0] | (simp only [i64_w, i32_w]; rw [c19b0]) | skip)
                  have H' := Aside0.mk H
                  clear H
                  go_wp2
                  go_meet
                  case rel => exact ⟨_, (false), (by first | rfl | (simp; done) | (simp [*]; done)), H', ⟨by have := HJ5.out; first | omega | exact Nat.le_refl _⟩, ⟨by (with_reducible repeat (first | refine blk_drewN ?_ _ | refine blk_drew ?_ | refine blk_alloc ?_ _)); exact BK157.out⟩, ⟨by repeat (first | (with_reducible first | exact HB.out | apply below_alloc | apply pw_below_drewN | apply below_drew1 | refine below_set ?_ GE157.out) | exact HB.out)⟩⟩
              case rest =>
                clear HC18
                try clear c1
                try clear c2
                try clear p2
                try clear q2
                try clear hx2
                try clear c3
                try clear c3b0
                try clear p3
                try clear q3
                try clear hx3
                try clear c4
                try clear c4b0
                try clear p5
                try clear q5
                try clear hx5
                try clear p6
                try clear c8
                try clear c8b0
                try clear c8b1
                try clear c9
                try clear c9b0
                try clear c9b1
                try clear c10
                try clear c11
                try clear c11b0
                try clear c11b1
                try clear c12
                try clear c12b0
                try clear c12b1
                try clear c13
                try clear c13b0
                try clear c13b1
                try clear c16
                try clear c19
                try clear c19b0
                try clear c20
                try clear c20b0
                try clear c21
                try clear c21b0
                try clear p22
                try clear q22
                try clear hx22
                try clear c23
                try clear c23b0
                try clear c23b1
                try clear c25
                try clear c25b0
                try clear p26
                try clear q26
                try clear hx26
                try clear c28
                try clear p28
                try clear q28
                try clear hx28
                try clear c29
                try clear c29b0
                try clear c29b1
                try clear c31
                try clear c31b0
                try clear p32
                try clear q32
                try clear hx32
                try clear hcz14_0
                try clear hcz14_1
                try clear hcz14_2
                try clear hfz14_0
                try clear hfz14_1
                try clear hfz14_2
                try clear p2
                try clear p22
                try clear p26
                try clear p28
                try clear p32
                try clear p5
                try clear q22
                try clear q26
                try clear q28
                try clear q32
                try clear q5
                obtain ⟨kq, x63_17, rfl, HA, HJ17, BK157, HB⟩ := hcut
                cases kq with
                | zero => exact absurd HA.out (by simp [insolvencyref9_token.j1])
                | succ kj17 =>
                  have H := HA.out
                  clear HA
                  simp only [insolvencyref9_token.j1] at H
                  by_cases c34 : x63_17 = true
                  · subst c34
                    have H1 : ((insolvencyref9_digits.f kj17 a0 (wrap64 (t159 + 1))).bind fun t162 => (if t162 < (a0.size : Int) then (if 0 ≤ t162 then ((insolvencyref9_letter.f (bt a0 t162)).bind fun t163 => (if t163 = true then (some (0, (⟨#[]⟩ : ByteArray), 0, t162, 10)) else (if (bt a0 t162) = 46 then (some (0, (⟨#[]⟩ : ByteArray), 0, t162, 10)) else (if (bt a0 t162) = 47 then (some (0, (⟨#[]⟩ : ByteArray), 0, t162, 10)) else (if 0 ≤ a1 then (if a1 ≤ t162 then (if t162 ≤ (a0.size : Int) then (some (2, a0.extract (a1 : Int).toNat (t162 : Int).toNat, a1, t162, 0)) else (none)) else (none)) else (none)))))) else (none)) else (if 0 ≤ a1 then (if a1 ≤ t162 then (if t162 ≤ (a0.size : Int) then (some (2, a0.extract (a1 : Int).toNat (t162 : Int).toNat, a1, t162, 0)) else (none)) else (none)) else (none)))) = some (r1, r2, r3, r4, r5) := by rw [if_pos rfl] at H; exact H
                    clear H
                    have H := H1
                    clear H1
                    replace H := Option.bind_eq_some_iff.mp H
                    obtain ⟨t162, A350, H⟩ := H
                    replace H : (if t162 < (a0.size : Int) then (if 0 ≤ t162 then ((insolvencyref9_letter.f (bt a0 t162)).bind fun t163 => (if t163 = true then (some (0, (⟨#[]⟩ : ByteArray), 0, t162, 10)) else (if (bt a0 t162) = 46 then (some (0, (⟨#[]⟩ : ByteArray), 0, t162, 10)) else (if (bt a0 t162) = 47 then (some (0, (⟨#[]⟩ : ByteArray), 0, t162, 10)) else (if 0 ≤ a1 then (if a1 ≤ t162 then (if t162 ≤ (a0.size : Int) then (some (2, a0.extract (a1 : Int).toNat (t162 : Int).toNat, a1, t162, 0)) else (none)) else (none)) else (none)))))) else (none)) else (if 0 ≤ a1 then (if a1 ≤ t162 then (if t162 ≤ (a0.size : Int) then (some (2, a0.extract (a1 : Int).toNat (t162 : Int).toNat, a1, t162, 0)) else (none)) else (none)) else (none))) = some (r1, r2, r3, r4, r5) := H
                    have A35 := Aside0.mk A350
                    clear A350
                    by_cases c36 : t162 < (a0.size : Int)
                    · rw [if_pos c36] at H
                      have c36b0 : decide (t162 < (a0.size : Int)) = true := decide_eq_true c36
                      clear c36
                      by_cases c37 : 0 ≤ t162
                      · rw [if_pos c37] at H
                        have c37b0 : decide (0 ≤ t162) = true := decide_eq_true c37
                        clear c37
                        replace H := Option.bind_eq_some_iff.mp H
                        obtain ⟨t163, A390, H⟩ := H
                        replace H : (if t163 = true then (some (0, (⟨#[]⟩ : ByteArray), 0, t162, 10)) else (if (bt a0 t162) = 46 then (some (0, (⟨#[]⟩ : ByteArray), 0, t162, 10)) else (if (bt a0 t162) = 47 then (some (0, (⟨#[]⟩ : ByteArray), 0, t162, 10)) else (if 0 ≤ a1 then (if a1 ≤ t162 then (if t162 ≤ (a0.size : Int) then (some (2, a0.extract (a1 : Int).toNat (t162 : Int).toNat, a1, t162, 0)) else (none)) else (none)) else (none))))) = some (r1, r2, r3, r4, r5) := H
                        have A39 := Aside0.mk A390
                        clear A390
                        by_cases c40 : t163 = true
                        · subst c40
                          have H1 : (some (0, (⟨#[]⟩ : ByteArray), 0, t162, 10)) = some (r1, r2, r3, r4, r5) := by rw [if_pos rfl] at H; exact H
                          clear H
                          have H := H1
                          clear H1
                          simp only [Option.some.injEq, Prod.mk.injEq] at H
                          obtain ⟨rfl, rfl, rfl, rfl, rfl⟩ := H
                          go_wp2_with (first | ((with_reducible refine gate_callee (f := 29) rfl ?_); refine goesL_ (some 67) rfl rfl Try.func29 (by kernel_rfl) rfl #[.string a0, .int .i64 (wrap64 (t159 + 1))] rfl (by (try simp only [List.map_toArray, List.map_cons, List.map_nil]); first | done | rfl | (simp only [List.length_drop, List.length_take]; rfl)) ?_; (with_reducible refine (insolvencyref9_digits.calls kj17 a0 (wrap64 (t159 + 1)) t162 _ A35.out).mono ?_); rintro e w' ⟨rfl, ⟨nd, rfl⟩⟩; refine ⟨_, rfl, ?_⟩; (try (rw [drewN_self wc]; generalize hq_ : World.drewN wc _ = wc; have n0_ : Aside0 (wc.heap[gb157]? = some (.cells #[.int .i64 0, .string (⟨#[]⟩ : ByteArray), .int .i64 0] 35 (0, 0))) := ⟨by rw [← hq_]; exact (by (with_reducible repeat (first | refine blk_drewN ?_ _ | refine blk_drew ?_ | refine blk_alloc ?_ _)); exact BK157.out)⟩; have n1_ : Aside0 (Below w.heap.size w wc) := ⟨by rw [← hq_]; exact (by repeat (first | (with_reducible first | exact HB.out | apply below_alloc | apply pw_below_drewN | apply below_drew1 | refine below_set ?_ GE157.out) | exact HB.out))⟩; clear BK157 HB hq_; have BK157 := n0_; have HB := n1_; clear n0_ n1_)); have p38 : 0 ≤ (t162 : Int) := of_decide_eq_true (by first | (with_reducible assumption) | assumption); have q38 : t162 < (a0.size : Int) := of_decide_eq_true (by first | (with_reducible assumption) | assumption); have hx38 := bt_at a0 t162; replace p38 := eq_true p38; replace q38 := eq_true q38) | (go_at_call 30; (with_reducible refine (insolvencyref9_letter.calls (bt a0 t162) true _ A39.out).mono ?_); rintro e w' ⟨rfl, ⟨nd, rfl⟩⟩; (try (rw [drewN_self wc]; generalize hq_ : World.drewN wc _ = wc; have n0_ : Aside0 (wc.heap[gb157]? = some (.cells #[.int .i64 0, .string (⟨#[]⟩ : ByteArray), .int .i64 0] 35 (0, 0))) := ⟨by rw [← hq_]; exact (by (with_reducible repeat (first | refine blk_drewN ?_ _ | refine blk_drew ?_ | refine blk_alloc ?_ _)); exact BK157.out)⟩; have n1_ : Aside0 (Below w.heap.size w wc) := ⟨by rw [← hq_]; exact (by repeat (first | (with_reducible first | exact HB.out | apply below_alloc | apply pw_below_drewN | apply below_drew1 | refine below_set ?_ GE157.out) | exact HB.out))⟩; clear BK157 HB hq_; have BK157 := n0_; have HB := n1_; clear n0_ n1_)); have hcz41_0 : wc.cell? ⟨gb157, 0, none⟩ = some (.int .i64 0) := (blk_cell BK157.out 0).trans rfl; have hcz41_1 : wc.cell? ⟨gb157, 1, none⟩ = some (.string (⟨#[]⟩ : ByteArray)) := (blk_cell BK157.out 1).trans rfl; have hcz41_2 : wc.cell? ⟨gb157, 2, none⟩ = some (.int .i64 0) := (blk_cell BK157.out 2).trans rfl; have hfz41_0 := blk_frozen BK157.out 0; have hfz41_1 := blk_frozen BK157.out 1; have hfz41_2 := blk_frozen BK157.out 2))
                          refine bodyPost_ret (results_ctt rfl _ _ gb157 35 #[.int .i64 0, .string (⟨#[]⟩ : ByteArray), .int .i64 0] (0, 0) _ rfl (by (with_reducible repeat (first | refine blk_drewN ?_ _ | refine blk_drew ?_ | refine blk_alloc ?_ _)); refine blk_put (cs := #[.int .i64 0, .string (⟨#[]⟩ : ByteArray), .int .i64 0]) ?_ 2 _ rfl; (with_reducible repeat (first | refine blk_drewN ?_ _ | refine blk_drew ?_ | refine blk_alloc ?_ _)); refine blk_put (cs := #[.int .i64 0, .string (⟨#[]⟩ : ByteArray), .int .i64 0]) ?_ 1 _ rfl; (with_reducible repeat (first | refine blk_drewN ?_ _ | refine blk_drew ?_ | refine blk_alloc ?_ _)); refine blk_put (cs := #[.int .i64 0, .string (⟨#[]⟩ : ByteArray), .int .i64 0]) ?_ 0 _ rfl; (with_reducible repeat (first | refine blk_drewN ?_ _ | refine blk_drew ?_ | refine blk_alloc ?_ _)); exact BK157.out) Try.underlying35 rfl (by kernel_rfl)) rfl ?_
                          exact ⟨by first | rfl | (simp [errW_none, errW_some] <;> rfl) | (simp [*, errW_none, errW_some] <;> rfl), by repeat (first | (with_reducible first | exact HB.out | apply below_alloc | apply pw_below_drewN | apply below_drew1 | refine below_set ?_ GE157.out) | exact HB.out)⟩
                        · replace c40 := Bool.eq_false_iff.mpr c40
                          subst c40
                          have H1 : (if (bt a0 t162) = 46 then (some (0, (⟨#[]⟩ : ByteArray), 0, t162, 10)) else (if (bt a0 t162) = 47 then (some (0, (⟨#[]⟩ : ByteArray), 0, t162, 10)) else (if 0 ≤ a1 then (if a1 ≤ t162 then (if t162 ≤ (a0.size : Int) then (some (2, a0.extract (a1 : Int).toNat (t162 : Int).toNat, a1, t162, 0)) else (none)) else (none)) else (none)))) = some (r1, r2, r3, r4, r5) := by rw [if_neg (show ¬ (false = true) by decide)] at H; exact H
                          clear H
                          have H := H1
                          clear H1
                          by_cases c43 : (bt a0 t162) = 46
                          · rw [if_pos c43] at H
                            have c43b0 : ((bt a0 t162) == 46) = true := beq_iff_eq.mpr c43
                            have c43b1 : ((bt a0 t162) != 46) = false := bne_eq_false_iff_eq.mpr c43
                            clear c43
                            simp only [Option.some.injEq, Prod.mk.injEq] at H
                            obtain ⟨rfl, rfl, rfl, rfl, rfl⟩ := H
                            go_wp2_with (first | ((with_reducible refine gate_callee (f := 29) rfl ?_); refine goesL_ (some 67) rfl rfl Try.func29 (by kernel_rfl) rfl #[.string a0, .int .i64 (wrap64 (t159 + 1))] rfl (by (try simp only [List.map_toArray, List.map_cons, List.map_nil]); first | done | rfl | (simp only [List.length_drop, List.length_take]; rfl)) ?_; (with_reducible refine (insolvencyref9_digits.calls kj17 a0 (wrap64 (t159 + 1)) t162 _ A35.out).mono ?_); rintro e w' ⟨rfl, ⟨nd, rfl⟩⟩; refine ⟨_, rfl, ?_⟩; (try (rw [drewN_self wc]; generalize hq_ : World.drewN wc _ = wc; have n0_ : Aside0 (wc.heap[gb157]? = some (.cells #[.int .i64 0, .string (⟨#[]⟩ : ByteArray), .int .i64 0] 35 (0, 0))) := ⟨by rw [← hq_]; exact (by (with_reducible repeat (first | refine blk_drewN ?_ _ | refine blk_drew ?_ | refine blk_alloc ?_ _)); exact BK157.out)⟩; have n1_ : Aside0 (Below w.heap.size w wc) := ⟨by rw [← hq_]; exact (by repeat (first | (with_reducible first | exact HB.out | apply below_alloc | apply pw_below_drewN | apply below_drew1 | refine below_set ?_ GE157.out) | exact HB.out))⟩; clear BK157 HB hq_; have BK157 := n0_; have HB := n1_; clear n0_ n1_)); have p38 : 0 ≤ (t162 : Int) := of_decide_eq_true (by first | (with_reducible assumption) | assumption); have q38 : t162 < (a0.size : Int) := of_decide_eq_true (by first | (with_reducible assumption) | assumption); have hx38 := bt_at a0 t162; replace p38 := eq_true p38; replace q38 := eq_true q38) | (go_at_call 30; (with_reducible refine (insolvencyref9_letter.calls (bt a0 t162) false _ A39.out).mono ?_); rintro e w' ⟨rfl, ⟨nd, rfl⟩⟩; (try (rw [drewN_self wc]; generalize hq_ : World.drewN wc _ = wc; have n0_ : Aside0 (wc.heap[gb157]? = some (.cells #[.int .i64 0, .string (⟨#[]⟩ : ByteArray), .int .i64 0] 35 (0, 0))) := ⟨by rw [← hq_]; exact (by (with_reducible repeat (first | refine blk_drewN ?_ _ | refine blk_drew ?_ | refine blk_alloc ?_ _)); exact BK157.out)⟩; have n1_ : Aside0 (Below w.heap.size w wc) := ⟨by rw [← hq_]; exact (by repeat (first | (with_reducible first | exact HB.out | apply below_alloc | apply pw_below_drewN | apply below_drew1 | refine below_set ?_ GE157.out) | exact HB.out))⟩; clear BK157 HB hq_; have BK157 := n0_; have HB := n1_; clear n0_ n1_)); have p42 : 0 ≤ (t162 : Int) := of_decide_eq_true (by first | (with_reducible assumption) | assumption); have q42 : t162 < (a0.size : Int) := of_decide_eq_true (by first | (with_reducible assumption) | assumption); have hx42 := bt_at a0 t162; replace p42 := eq_true p42; replace q42 := eq_true q42; have hcz44_0 : wc.cell? ⟨gb157, 0, none⟩ = some (.int .i64 0) := (blk_cell BK157.out 0).trans rfl; have hcz44_1 : wc.cell? ⟨gb157, 1, none⟩ = some (.string (⟨#[]⟩ : ByteArray)) := (blk_cell BK157.out 1).trans rfl; have hcz44_2 : wc.cell? ⟨gb157, 2, none⟩ = some (.int .i64 0) := (blk_cell BK157.out 2).trans rfl; have hfz44_0 := blk_frozen BK157.out 0; have hfz44_1 := blk_frozen BK157.out 1; have hfz44_2 := blk_frozen BK157.out 2))
                            refine bodyPost_ret (results_ctt rfl _ _ gb157 35 #[.int .i64 0, .string (⟨#[]⟩ : ByteArray), .int .i64 0] (0, 0) _ rfl (by (with_reducible repeat (first | refine blk_drewN ?_ _ | refine blk_drew ?_ | refine blk_alloc ?_ _)); refine blk_put (cs := #[.int .i64 0, .string (⟨#[]⟩ : ByteArray), .int .i64 0]) ?_ 2 _ rfl; (with_reducible repeat (first | refine blk_drewN ?_ _ | refine blk_drew ?_ | refine blk_alloc ?_ _)); refine blk_put (cs := #[.int .i64 0, .string (⟨#[]⟩ : ByteArray), .int .i64 0]) ?_ 1 _ rfl; (with_reducible repeat (first | refine blk_drewN ?_ _ | refine blk_drew ?_ | refine blk_alloc ?_ _)); refine blk_put (cs := #[.int .i64 0, .string (⟨#[]⟩ : ByteArray), .int .i64 0]) ?_ 0 _ rfl; (with_reducible repeat (first | refine blk_drewN ?_ _ | refine blk_drew ?_ | refine blk_alloc ?_ _)); exact BK157.out) Try.underlying35 rfl (by kernel_rfl)) rfl ?_
                            exact ⟨by first | rfl | (simp [errW_none, errW_some] <;> rfl) | (simp [*, errW_none, errW_some] <;> rfl), by repeat (first | (with_reducible first | exact HB.out | apply below_alloc | apply pw_below_drewN | apply below_drew1 | refine below_set ?_ GE157.out) | exact HB.out)⟩
                          · rw [if_neg c43] at H
                            have c43b0 : ((bt a0 t162) == 46) = false := beq_eq_false_iff_ne.mpr c43
                            have c43b1 : ((bt a0 t162) != 46) = true := bne_iff_ne.mpr c43
                            by_cases c46 : (bt a0 t162) = 47
                            · rw [if_pos c46] at H
                              have c46b0 : ((bt a0 t162) == 47) = true := beq_iff_eq.mpr c46
                              have c46b1 : ((bt a0 t162) != 47) = false := bne_eq_false_iff_eq.mpr c46
                              clear c46
                              simp only [Option.some.injEq, Prod.mk.injEq] at H
                              obtain ⟨rfl, rfl, rfl, rfl, rfl⟩ := H
                              go_wp2_with (first | ((with_reducible refine gate_callee (f := 29) rfl ?_); refine goesL_ (some 67) rfl rfl Try.func29 (by kernel_rfl) rfl #[.string a0, .int .i64 (wrap64 (t159 + 1))] rfl (by (try simp only [List.map_toArray, List.map_cons, List.map_nil]); first | done | rfl | (simp only [List.length_drop, List.length_take]; rfl)) ?_; (with_reducible refine (insolvencyref9_digits.calls kj17 a0 (wrap64 (t159 + 1)) t162 _ A35.out).mono ?_); rintro e w' ⟨rfl, ⟨nd, rfl⟩⟩; refine ⟨_, rfl, ?_⟩; (try (rw [drewN_self wc]; generalize hq_ : World.drewN wc _ = wc; have n0_ : Aside0 (wc.heap[gb157]? = some (.cells #[.int .i64 0, .string (⟨#[]⟩ : ByteArray), .int .i64 0] 35 (0, 0))) := ⟨by rw [← hq_]; exact (by (with_reducible repeat (first | refine blk_drewN ?_ _ | refine blk_drew ?_ | refine blk_alloc ?_ _)); exact BK157.out)⟩; have n1_ : Aside0 (Below w.heap.size w wc) := ⟨by rw [← hq_]; exact (by repeat (first | (with_reducible first | exact HB.out | apply below_alloc | apply pw_below_drewN | apply below_drew1 | refine below_set ?_ GE157.out) | exact HB.out))⟩; clear BK157 HB hq_; have BK157 := n0_; have HB := n1_; clear n0_ n1_)); have p38 : 0 ≤ (t162 : Int) := of_decide_eq_true (by first | (with_reducible assumption) | assumption); have q38 : t162 < (a0.size : Int) := of_decide_eq_true (by first | (with_reducible assumption) | assumption); have hx38 := bt_at a0 t162; replace p38 := eq_true p38; replace q38 := eq_true q38) | (go_at_call 30; (with_reducible refine (insolvencyref9_letter.calls (bt a0 t162) false _ A39.out).mono ?_); rintro e w' ⟨rfl, ⟨nd, rfl⟩⟩; (try (rw [drewN_self wc]; generalize hq_ : World.drewN wc _ = wc; have n0_ : Aside0 (wc.heap[gb157]? = some (.cells #[.int .i64 0, .string (⟨#[]⟩ : ByteArray), .int .i64 0] 35 (0, 0))) := ⟨by rw [← hq_]; exact (by (with_reducible repeat (first | refine blk_drewN ?_ _ | refine blk_drew ?_ | refine blk_alloc ?_ _)); exact BK157.out)⟩; have n1_ : Aside0 (Below w.heap.size w wc) := ⟨by rw [← hq_]; exact (by repeat (first | (with_reducible first | exact HB.out | apply below_alloc | apply pw_below_drewN | apply below_drew1 | refine below_set ?_ GE157.out) | exact HB.out))⟩; clear BK157 HB hq_; have BK157 := n0_; have HB := n1_; clear n0_ n1_)); have p42 : 0 ≤ (t162 : Int) := of_decide_eq_true (by first | (with_reducible assumption) | assumption); have q42 : t162 < (a0.size : Int) := of_decide_eq_true (by first | (with_reducible assumption) | assumption); have hx42 := bt_at a0 t162; replace p42 := eq_true p42; replace q42 := eq_true q42; have p45 : 0 ≤ (t162 : Int) := of_decide_eq_true (by first | (with_reducible assumption) | assumption); have q45 : t162 < (a0.size : Int) := of_decide_eq_true (by first | (with_reducible assumption) | assumption); have hx45 := bt_at a0 t162; replace p45 := eq_true p45; replace q45 := eq_true q45; have hcz47_0 : wc.cell? ⟨gb157, 0, none⟩ = some (.int .i64 0) := (blk_cell BK157.out 0).trans rfl; have hcz47_1 : wc.cell? ⟨gb157, 1, none⟩ = some (.string (⟨#[]⟩ : ByteArray)) := (blk_cell BK157.out 1).trans rfl; have hcz47_2 : wc.cell? ⟨gb157, 2, none⟩ = some (.int .i64 0) := (blk_cell BK157.out 2).trans rfl; have hfz47_0 := blk_frozen BK157.out 0; have hfz47_1 := blk_frozen BK157.out 1; have hfz47_2 := blk_frozen BK157.out 2))
                              refine bodyPost_ret (results_ctt rfl _ _ gb157 35 #[.int .i64 0, .string (⟨#[]⟩ : ByteArray), .int .i64 0] (0, 0) _ rfl (by (with_reducible repeat (first | refine blk_drewN ?_ _ | refine blk_drew ?_ | refine blk_alloc ?_ _)); refine blk_put (cs := #[.int .i64 0, .string (⟨#[]⟩ : ByteArray), .int .i64 0]) ?_ 2 _ rfl; (with_reducible repeat (first | refine blk_drewN ?_ _ | refine blk_drew ?_ | refine blk_alloc ?_ _)); refine blk_put (cs := #[.int .i64 0, .string (⟨#[]⟩ : ByteArray), .int .i64 0]) ?_ 1 _ rfl; (with_reducible repeat (first | refine blk_drewN ?_ _ | refine blk_drew ?_ | refine blk_alloc ?_ _)); refine blk_put (cs := #[.int .i64 0, .string (⟨#[]⟩ : ByteArray), .int .i64 0]) ?_ 0 _ rfl; (with_reducible repeat (first | refine blk_drewN ?_ _ | refine blk_drew ?_ | refine blk_alloc ?_ _)); exact BK157.out) Try.underlying35 rfl (by kernel_rfl)) rfl ?_
                              exact ⟨by first | rfl | (simp [errW_none, errW_some] <;> rfl) | (simp [*, errW_none, errW_some] <;> rfl), by repeat (first | (with_reducible first | exact HB.out | apply below_alloc | apply pw_below_drewN | apply below_drew1 | refine below_set ?_ GE157.out) | exact HB.out)⟩
                            · rw [if_neg c46] at H
                              have c46b0 : ((bt a0 t162) == 47) = false := beq_eq_false_iff_ne.mpr c46
                              have c46b1 : ((bt a0 t162) != 47) = true := bne_iff_ne.mpr c46
                              by_cases c48 : 0 ≤ a1
                              · rw [if_pos c48] at H
                                have c48b0 := eq_true c48
                                have c48b1 : decide (0 ≤ a1) = true := decide_eq_true c48
                                clear c48
                                by_cases c49 : a1 ≤ t162
                                · rw [if_pos c49] at H
                                  have c49b0 := eq_true c49
                                  have c49b1 : decide (a1 ≤ t162) = true := decide_eq_true c49
                                  clear c49
                                  by_cases c50 : t162 ≤ (a0.size : Int)
                                  · rw [if_pos c50] at H
                                    have c50b0 := eq_true c50
                                    have c50b1 : decide (t162 ≤ (a0.size : Int)) = true := decide_eq_true c50
                                    clear c50
                                    simp only [Option.some.injEq, Prod.mk.injEq] at H
                                    obtain ⟨rfl, rfl, rfl, rfl, rfl⟩ := H
                                    go_wp2_with (first | ((with_reducible refine gate_callee (f := 29) rfl ?_); refine goesL_ (some 67) rfl rfl Try.func29 (by kernel_rfl) rfl #[.string a0, .int .i64 (wrap64 (t159 + 1))] rfl (by (try simp only [List.map_toArray, List.map_cons, List.map_nil]); first | done | rfl | (simp only [List.length_drop, List.length_take]; rfl)) ?_; (with_reducible refine (insolvencyref9_digits.calls kj17 a0 (wrap64 (t159 + 1)) t162 _ A35.out).mono ?_); rintro e w' ⟨rfl, ⟨nd, rfl⟩⟩; refine ⟨_, rfl, ?_⟩; (try (rw [drewN_self wc]; generalize hq_ : World.drewN wc _ = wc; have n0_ : Aside0 (wc.heap[gb157]? = some (.cells #[.int .i64 0, .string (⟨#[]⟩ : ByteArray), .int .i64 0] 35 (0, 0))) := ⟨by rw [← hq_]; exact (by (with_reducible repeat (first | refine blk_drewN ?_ _ | refine blk_drew ?_ | refine blk_alloc ?_ _)); exact BK157.out)⟩; have n1_ : Aside0 (Below w.heap.size w wc) := ⟨by rw [← hq_]; exact (by repeat (first | (with_reducible first | exact HB.out | apply below_alloc | apply pw_below_drewN | apply below_drew1 | refine below_set ?_ GE157.out) | exact HB.out))⟩; clear BK157 HB hq_; have BK157 := n0_; have HB := n1_; clear n0_ n1_)); have p38 : 0 ≤ (t162 : Int) := of_decide_eq_true (by first | (with_reducible assumption) | assumption); have q38 : t162 < (a0.size : Int) := of_decide_eq_true (by first | (with_reducible assumption) | assumption); have hx38 := bt_at a0 t162; replace p38 := eq_true p38; replace q38 := eq_true q38) | (go_at_call 30; (with_reducible refine (insolvencyref9_letter.calls (bt a0 t162) false _ A39.out).mono ?_); rintro e w' ⟨rfl, ⟨nd, rfl⟩⟩; (try (rw [drewN_self wc]; generalize hq_ : World.drewN wc _ = wc; have n0_ : Aside0 (wc.heap[gb157]? = some (.cells #[.int .i64 0, .string (⟨#[]⟩ : ByteArray), .int .i64 0] 35 (0, 0))) := ⟨by rw [← hq_]; exact (by (with_reducible repeat (first | refine blk_drewN ?_ _ | refine blk_drew ?_ | refine blk_alloc ?_ _)); exact BK157.out)⟩; have n1_ : Aside0 (Below w.heap.size w wc) := ⟨by rw [← hq_]; exact (by repeat (first | (with_reducible first | exact HB.out | apply below_alloc | apply pw_below_drewN | apply below_drew1 | refine below_set ?_ GE157.out) | exact HB.out))⟩; clear BK157 HB hq_; have BK157 := n0_; have HB := n1_; clear n0_ n1_)); have p42 : 0 ≤ (t162 : Int) := of_decide_eq_true (by first | (with_reducible assumption) | assumption); have q42 : t162 < (a0.size : Int) := of_decide_eq_true (by first | (with_reducible assumption) | assumption); have hx42 := bt_at a0 t162; replace p42 := eq_true p42; replace q42 := eq_true q42; have p45 : 0 ≤ (t162 : Int) := of_decide_eq_true (by first | (with_reducible assumption) | assumption); have q45 : t162 < (a0.size : Int) := of_decide_eq_true (by first | (with_reducible assumption) | assumption); have hx45 := bt_at a0 t162; replace p45 := eq_true p45; replace q45 := eq_true q45; have hcz51_0 : wc.cell? ⟨gb157, 0, none⟩ = some (.int .i64 0) := (blk_cell BK157.out 0).trans rfl; have hcz51_1 : wc.cell? ⟨gb157, 1, none⟩ = some (.string (⟨#[]⟩ : ByteArray)) := (blk_cell BK157.out 1).trans rfl; have hcz51_2 : wc.cell? ⟨gb157, 2, none⟩ = some (.int .i64 0) := (blk_cell BK157.out 2).trans rfl; have hfz51_0 := blk_frozen BK157.out 0; have hfz51_1 := blk_frozen BK157.out 1; have hfz51_2 := blk_frozen BK157.out 2))
                                    refine bodyPost_ret (results_ctt rfl _ _ gb157 35 #[.int .i64 2, .string (a0.extract (a1 : Int).toNat (t162 : Int).toNat), .int .i64 a1] (0, 0) _ rfl (by (with_reducible repeat (first | refine blk_drewN ?_ _ | refine blk_drew ?_ | refine blk_alloc ?_ _)); refine blk_put (cs := #[.int .i64 2, .string (a0.extract (a1 : Int).toNat (t162 : Int).toNat), .int .i64 0]) ?_ 2 _ rfl; (with_reducible repeat (first | refine blk_drewN ?_ _ | refine blk_drew ?_ | refine blk_alloc ?_ _)); refine blk_put (cs := #[.int .i64 2, .string (⟨#[]⟩ : ByteArray), .int .i64 0]) ?_ 1 _ rfl; (with_reducible repeat (first | refine blk_drewN ?_ _ | refine blk_drew ?_ | refine blk_alloc ?_ _)); refine blk_put (cs := #[.int .i64 0, .string (⟨#[]⟩ : ByteArray), .int .i64 0]) ?_ 0 _ rfl; (with_reducible repeat (first | refine blk_drewN ?_ _ | refine blk_drew ?_ | refine blk_alloc ?_ _)); exact BK157.out) Try.underlying35 rfl (by kernel_rfl)) rfl ?_
                                    exact ⟨by first | rfl | (simp [errW_none, errW_some] <;> rfl) | (simp [*, errW_none, errW_some] <;> rfl), by repeat (first | (with_reducible first | exact HB.out | apply below_alloc | apply pw_below_drewN | apply below_drew1 | refine below_set ?_ GE157.out) | exact HB.out)⟩
                                  · rw [if_neg c50] at H
                                    exact absurd H (by simp)
                                · rw [if_neg c49] at H
                                  exact absurd H (by simp)
                              · rw [if_neg c48] at H
                                exact absurd H (by simp)
                      · rw [if_neg c37] at H
                        exact absurd H (by simp)
                    · rw [if_neg c36] at H
                      have c36b0 : decide (t162 < (a0.size : Int)) = false := decide_eq_false c36
                      clear c36
                      by_cases c52 : 0 ≤ a1
                      · rw [if_pos c52] at H
                        have c52b0 := eq_true c52
                        have c52b1 : decide (0 ≤ a1) = true := decide_eq_true c52
                        clear c52
                        by_cases c53 : a1 ≤ t162
                        · rw [if_pos c53] at H
                          have c53b0 := eq_true c53
                          have c53b1 : decide (a1 ≤ t162) = true := decide_eq_true c53
                          clear c53
                          by_cases c54 : t162 ≤ (a0.size : Int)
                          · rw [if_pos c54] at H
                            have c54b0 := eq_true c54
                            have c54b1 : decide (t162 ≤ (a0.size : Int)) = true := decide_eq_true c54
                            clear c54
                            simp only [Option.some.injEq, Prod.mk.injEq] at H
                            obtain ⟨rfl, rfl, rfl, rfl, rfl⟩ := H
                            go_wp2_with (first | ((with_reducible refine gate_callee (f := 29) rfl ?_); refine goesL_ (some 67) rfl rfl Try.func29 (by kernel_rfl) rfl #[.string a0, .int .i64 (wrap64 (t159 + 1))] rfl (by (try simp only [List.map_toArray, List.map_cons, List.map_nil]); first | done | rfl | (simp only [List.length_drop, List.length_take]; rfl)) ?_; (with_reducible refine (insolvencyref9_digits.calls kj17 a0 (wrap64 (t159 + 1)) t162 _ A35.out).mono ?_); rintro e w' ⟨rfl, ⟨nd, rfl⟩⟩; refine ⟨_, rfl, ?_⟩; (try (rw [drewN_self wc]; generalize hq_ : World.drewN wc _ = wc; have n0_ : Aside0 (wc.heap[gb157]? = some (.cells #[.int .i64 0, .string (⟨#[]⟩ : ByteArray), .int .i64 0] 35 (0, 0))) := ⟨by rw [← hq_]; exact (by (with_reducible repeat (first | refine blk_drewN ?_ _ | refine blk_drew ?_ | refine blk_alloc ?_ _)); exact BK157.out)⟩; have n1_ : Aside0 (Below w.heap.size w wc) := ⟨by rw [← hq_]; exact (by repeat (first | (with_reducible first | exact HB.out | apply below_alloc | apply pw_below_drewN | apply below_drew1 | refine below_set ?_ GE157.out) | exact HB.out))⟩; clear BK157 HB hq_; have BK157 := n0_; have HB := n1_; clear n0_ n1_)); have hcz55_0 : wc.cell? ⟨gb157, 0, none⟩ = some (.int .i64 0) := (blk_cell BK157.out 0).trans rfl; have hcz55_1 : wc.cell? ⟨gb157, 1, none⟩ = some (.string (⟨#[]⟩ : ByteArray)) := (blk_cell BK157.out 1).trans rfl; have hcz55_2 : wc.cell? ⟨gb157, 2, none⟩ = some (.int .i64 0) := (blk_cell BK157.out 2).trans rfl; have hfz55_0 := blk_frozen BK157.out 0; have hfz55_1 := blk_frozen BK157.out 1; have hfz55_2 := blk_frozen BK157.out 2))
                            refine bodyPost_ret (results_ctt rfl _ _ gb157 35 #[.int .i64 2, .string (a0.extract (a1 : Int).toNat (t162 : Int).toNat), .int .i64 a1] (0, 0) _ rfl (by (with_reducible repeat (first | refine blk_drewN ?_ _ | refine blk_drew ?_ | refine blk_alloc ?_ _)); refine blk_put (cs := #[.int .i64 2, .string (a0.extract (a1 : Int).toNat (t162 : Int).toNat), .int .i64 0]) ?_ 2 _ rfl; (with_reducible repeat (first | refine blk_drewN ?_ _ | refine blk_drew ?_ | refine blk_alloc ?_ _)); refine blk_put (cs := #[.int .i64 2, .string (⟨#[]⟩ : ByteArray), .int .i64 0]) ?_ 1 _ rfl; (with_reducible repeat (first | refine blk_drewN ?_ _ | refine blk_drew ?_ | refine blk_alloc ?_ _)); refine blk_put (cs := #[.int .i64 0, .string (⟨#[]⟩ : ByteArray), .int .i64 0]) ?_ 0 _ rfl; (with_reducible repeat (first | refine blk_drewN ?_ _ | refine blk_drew ?_ | refine blk_alloc ?_ _)); exact BK157.out) Try.underlying35 rfl (by kernel_rfl)) rfl ?_
                            exact ⟨by first | rfl | (simp [errW_none, errW_some] <;> rfl) | (simp [*, errW_none, errW_some] <;> rfl), by repeat (first | (with_reducible first | exact HB.out | apply below_alloc | apply pw_below_drewN | apply below_drew1 | refine below_set ?_ GE157.out) | exact HB.out)⟩
                          · rw [if_neg c54] at H
                            exact absurd H (by simp)
                        · rw [if_neg c53] at H
                          exact absurd H (by simp)
                      · rw [if_neg c52] at H
                        exact absurd H (by simp)
                  · replace c34 := Bool.eq_false_iff.mpr c34
                    subst c34
                    have H1 : (if t159 < (a0.size : Int) then (if 0 ≤ t159 then ((insolvencyref9_letter.f (bt a0 t159)).bind fun t164 => (if t164 = true then (some (0, (⟨#[]⟩ : ByteArray), 0, t159, 10)) else (if (bt a0 t159) = 46 then (some (0, (⟨#[]⟩ : ByteArray), 0, t159, 10)) else (if (bt a0 t159) = 47 then (some (0, (⟨#[]⟩ : ByteArray), 0, t159, 10)) else (if 0 ≤ a1 then (if a1 ≤ t159 then (if t159 ≤ (a0.size : Int) then (some (2, a0.extract (a1 : Int).toNat (t159 : Int).toNat, a1, t159, 0)) else (none)) else (none)) else (none)))))) else (none)) else (if 0 ≤ a1 then (if a1 ≤ t159 then (if t159 ≤ (a0.size : Int) then (some (2, a0.extract (a1 : Int).toNat (t159 : Int).toNat, a1, t159, 0)) else (none)) else (none)) else (none))) = some (r1, r2, r3, r4, r5) := by rw [if_neg (show ¬ (false = true) by decide)] at H; exact H
                    clear H
                    have H := H1
                    clear H1
                    by_cases c56 : t159 < (a0.size : Int)
                    · rw [if_pos c56] at H
                      have c56b0 : decide (t159 < (a0.size : Int)) = true := decide_eq_true c56
                      clear c56
                      by_cases c57 : 0 ≤ t159
                      · rw [if_pos c57] at H
                        have c57b0 : decide (0 ≤ t159) = true := decide_eq_true c57
                        clear c57
                        replace H := Option.bind_eq_some_iff.mp H
                        obtain ⟨t164, A590, H⟩ := H
                        replace H : (if t164 = true then (some (0, (⟨#[]⟩ : ByteArray), 0, t159, 10)) else (if (bt a0 t159) = 46 then (some (0, (⟨#[]⟩ : ByteArray), 0, t159, 10)) else (if (bt a0 t159) = 47 then (some (0, (⟨#[]⟩ : ByteArray), 0, t159, 10)) else (if 0 ≤ a1 then (if a1 ≤ t159 then (if t159 ≤ (a0.size : Int) then (some (2, a0.extract (a1 : Int).toNat (t159 : Int).toNat, a1, t159, 0)) else (none)) else (none)) else (none))))) = some (r1, r2, r3, r4, r5) := H
                        have A59 := Aside0.mk A590
                        clear A590
                        by_cases c60 : t164 = true
                        · subst c60
                          have H1 : (some (0, (⟨#[]⟩ : ByteArray), 0, t159, 10)) = some (r1, r2, r3, r4, r5) := by rw [if_pos rfl] at H; exact H
                          clear H
                          have H := H1
                          clear H1
                          simp only [Option.some.injEq, Prod.mk.injEq] at H
                          obtain ⟨rfl, rfl, rfl, rfl, rfl⟩ := H
                          have p58 : 0 ≤ (t159 : Int) := of_decide_eq_true (by first | (with_reducible assumption) | assumption)
                          have q58 : t159 < (a0.size : Int) := of_decide_eq_true (by first | (with_reducible assumption) | assumption)
                          have hx58 := bt_at a0 t159
                          replace p58 := eq_true p58
                          replace q58 := eq_true q58
                          go_wp2_with (first | (go_at_call 30; (with_reducible refine (insolvencyref9_letter.calls (bt a0 t159) true _ A59.out).mono ?_); rintro e w' ⟨rfl, ⟨nd, rfl⟩⟩; (try (rw [drewN_self wc]; generalize hq_ : World.drewN wc _ = wc; have n0_ : Aside0 (wc.heap[gb157]? = some (.cells #[.int .i64 0, .string (⟨#[]⟩ : ByteArray), .int .i64 0] 35 (0, 0))) := ⟨by rw [← hq_]; exact (by (with_reducible repeat (first | refine blk_drewN ?_ _ | refine blk_drew ?_ | refine blk_alloc ?_ _)); exact BK157.out)⟩; have n1_ : Aside0 (Below w.heap.size w wc) := ⟨by rw [← hq_]; exact (by repeat (first | (with_reducible first | exact HB.out | apply below_alloc | apply pw_below_drewN | apply below_drew1 | refine below_set ?_ GE157.out) | exact HB.out))⟩; clear BK157 HB hq_; have BK157 := n0_; have HB := n1_; clear n0_ n1_)); have hcz61_0 : wc.cell? ⟨gb157, 0, none⟩ = some (.int .i64 0) := (blk_cell BK157.out 0).trans rfl; have hcz61_1 : wc.cell? ⟨gb157, 1, none⟩ = some (.string (⟨#[]⟩ : ByteArray)) := (blk_cell BK157.out 1).trans rfl; have hcz61_2 : wc.cell? ⟨gb157, 2, none⟩ = some (.int .i64 0) := (blk_cell BK157.out 2).trans rfl; have hfz61_0 := blk_frozen BK157.out 0; have hfz61_1 := blk_frozen BK157.out 1; have hfz61_2 := blk_frozen BK157.out 2))
                          refine bodyPost_ret (results_ctt rfl _ _ gb157 35 #[.int .i64 0, .string (⟨#[]⟩ : ByteArray), .int .i64 0] (0, 0) _ rfl (by (with_reducible repeat (first | refine blk_drewN ?_ _ | refine blk_drew ?_ | refine blk_alloc ?_ _)); refine blk_put (cs := #[.int .i64 0, .string (⟨#[]⟩ : ByteArray), .int .i64 0]) ?_ 2 _ rfl; (with_reducible repeat (first | refine blk_drewN ?_ _ | refine blk_drew ?_ | refine blk_alloc ?_ _)); refine blk_put (cs := #[.int .i64 0, .string (⟨#[]⟩ : ByteArray), .int .i64 0]) ?_ 1 _ rfl; (with_reducible repeat (first | refine blk_drewN ?_ _ | refine blk_drew ?_ | refine blk_alloc ?_ _)); refine blk_put (cs := #[.int .i64 0, .string (⟨#[]⟩ : ByteArray), .int .i64 0]) ?_ 0 _ rfl; (with_reducible repeat (first | refine blk_drewN ?_ _ | refine blk_drew ?_ | refine blk_alloc ?_ _)); exact BK157.out) Try.underlying35 rfl (by kernel_rfl)) rfl ?_
                          exact ⟨by first | rfl | (simp [errW_none, errW_some] <;> rfl) | (simp [*, errW_none, errW_some] <;> rfl), by repeat (first | (with_reducible first | exact HB.out | apply below_alloc | apply pw_below_drewN | apply below_drew1 | refine below_set ?_ GE157.out) | exact HB.out)⟩
                        · replace c60 := Bool.eq_false_iff.mpr c60
                          subst c60
                          have H1 : (if (bt a0 t159) = 46 then (some (0, (⟨#[]⟩ : ByteArray), 0, t159, 10)) else (if (bt a0 t159) = 47 then (some (0, (⟨#[]⟩ : ByteArray), 0, t159, 10)) else (if 0 ≤ a1 then (if a1 ≤ t159 then (if t159 ≤ (a0.size : Int) then (some (2, a0.extract (a1 : Int).toNat (t159 : Int).toNat, a1, t159, 0)) else (none)) else (none)) else (none)))) = some (r1, r2, r3, r4, r5) := by rw [if_neg (show ¬ (false = true) by decide)] at H; exact H
                          clear H
                          have H := H1
                          clear H1
                          by_cases c63 : (bt a0 t159) = 46
                          · rw [if_pos c63] at H
                            have c63b0 : ((bt a0 t159) == 46) = true := beq_iff_eq.mpr c63
                            have c63b1 : ((bt a0 t159) != 46) = false := bne_eq_false_iff_eq.mpr c63
                            clear c63
                            simp only [Option.some.injEq, Prod.mk.injEq] at H
                            obtain ⟨rfl, rfl, rfl, rfl, rfl⟩ := H
                            have p58 : 0 ≤ (t159 : Int) := of_decide_eq_true (by first | (with_reducible assumption) | assumption)
                            have q58 : t159 < (a0.size : Int) := of_decide_eq_true (by first | (with_reducible assumption) | assumption)
                            have hx58 := bt_at a0 t159
                            replace p58 := eq_true p58
                            replace q58 := eq_true q58
                            go_wp2_with (first | (go_at_call 30; (with_reducible refine (insolvencyref9_letter.calls (bt a0 t159) false _ A59.out).mono ?_); rintro e w' ⟨rfl, ⟨nd, rfl⟩⟩; (try (rw [drewN_self wc]; generalize hq_ : World.drewN wc _ = wc; have n0_ : Aside0 (wc.heap[gb157]? = some (.cells #[.int .i64 0, .string (⟨#[]⟩ : ByteArray), .int .i64 0] 35 (0, 0))) := ⟨by rw [← hq_]; exact (by (with_reducible repeat (first | refine blk_drewN ?_ _ | refine blk_drew ?_ | refine blk_alloc ?_ _)); exact BK157.out)⟩; have n1_ : Aside0 (Below w.heap.size w wc) := ⟨by rw [← hq_]; exact (by repeat (first | (with_reducible first | exact HB.out | apply below_alloc | apply pw_below_drewN | apply below_drew1 | refine below_set ?_ GE157.out) | exact HB.out))⟩; clear BK157 HB hq_; have BK157 := n0_; have HB := n1_; clear n0_ n1_)); have p62 : 0 ≤ (t159 : Int) := of_decide_eq_true (by first | (with_reducible assumption) | assumption); have q62 : t159 < (a0.size : Int) := of_decide_eq_true (by first | (with_reducible assumption) | assumption); have hx62 := bt_at a0 t159; replace p62 := eq_true p62; replace q62 := eq_true q62; have hcz64_0 : wc.cell? ⟨gb157, 0, none⟩ = some (.int .i64 0) := (blk_cell BK157.out 0).trans rfl; have hcz64_1 : wc.cell? ⟨gb157, 1, none⟩ = some (.string (⟨#[]⟩ : ByteArray)) := (blk_cell BK157.out 1).trans rfl; have hcz64_2 : wc.cell? ⟨gb157, 2, none⟩ = some (.int .i64 0) := (blk_cell BK157.out 2).trans rfl; have hfz64_0 := blk_frozen BK157.out 0; have hfz64_1 := blk_frozen BK157.out 1; have hfz64_2 := blk_frozen BK157.out 2))
                            refine bodyPost_ret (results_ctt rfl _ _ gb157 35 #[.int .i64 0, .string (⟨#[]⟩ : ByteArray), .int .i64 0] (0, 0) _ rfl (by (with_reducible repeat (first | refine blk_drewN ?_ _ | refine blk_drew ?_ | refine blk_alloc ?_ _)); refine blk_put (cs := #[.int .i64 0, .string (⟨#[]⟩ : ByteArray), .int .i64 0]) ?_ 2 _ rfl; (with_reducible repeat (first | refine blk_drewN ?_ _ | refine blk_drew ?_ | refine blk_alloc ?_ _)); refine blk_put (cs := #[.int .i64 0, .string (⟨#[]⟩ : ByteArray), .int .i64 0]) ?_ 1 _ rfl; (with_reducible repeat (first | refine blk_drewN ?_ _ | refine blk_drew ?_ | refine blk_alloc ?_ _)); refine blk_put (cs := #[.int .i64 0, .string (⟨#[]⟩ : ByteArray), .int .i64 0]) ?_ 0 _ rfl; (with_reducible repeat (first | refine blk_drewN ?_ _ | refine blk_drew ?_ | refine blk_alloc ?_ _)); exact BK157.out) Try.underlying35 rfl (by kernel_rfl)) rfl ?_
                            exact ⟨by first | rfl | (simp [errW_none, errW_some] <;> rfl) | (simp [*, errW_none, errW_some] <;> rfl), by repeat (first | (with_reducible first | exact HB.out | apply below_alloc | apply pw_below_drewN | apply below_drew1 | refine below_set ?_ GE157.out) | exact HB.out)⟩
                          · rw [if_neg c63] at H
                            have c63b0 : ((bt a0 t159) == 46) = false := beq_eq_false_iff_ne.mpr c63
                            have c63b1 : ((bt a0 t159) != 46) = true := bne_iff_ne.mpr c63
                            by_cases c66 : (bt a0 t159) = 47
                            · rw [if_pos c66] at H
                              have c66b0 : ((bt a0 t159) == 47) = true := beq_iff_eq.mpr c66
                              have c66b1 : ((bt a0 t159) != 47) = false := bne_eq_false_iff_eq.mpr c66
                              clear c66
                              simp only [Option.some.injEq, Prod.mk.injEq] at H
                              obtain ⟨rfl, rfl, rfl, rfl, rfl⟩ := H
                              have p58 : 0 ≤ (t159 : Int) := of_decide_eq_true (by first | (with_reducible assumption) | assumption)
                              have q58 : t159 < (a0.size : Int) := of_decide_eq_true (by first | (with_reducible assumption) | assumption)
                              have hx58 := bt_at a0 t159
                              replace p58 := eq_true p58
                              replace q58 := eq_true q58
                              go_wp2_with (first | (go_at_call 30; (with_reducible refine (insolvencyref9_letter.calls (bt a0 t159) false _ A59.out).mono ?_); rintro e w' ⟨rfl, ⟨nd, rfl⟩⟩; (try (rw [drewN_self wc]; generalize hq_ : World.drewN wc _ = wc; have n0_ : Aside0 (wc.heap[gb157]? = some (.cells #[.int .i64 0, .string (⟨#[]⟩ : ByteArray), .int .i64 0] 35 (0, 0))) := ⟨by rw [← hq_]; exact (by (with_reducible repeat (first | refine blk_drewN ?_ _ | refine blk_drew ?_ | refine blk_alloc ?_ _)); exact BK157.out)⟩; have n1_ : Aside0 (Below w.heap.size w wc) := ⟨by rw [← hq_]; exact (by repeat (first | (with_reducible first | exact HB.out | apply below_alloc | apply pw_below_drewN | apply below_drew1 | refine below_set ?_ GE157.out) | exact HB.out))⟩; clear BK157 HB hq_; have BK157 := n0_; have HB := n1_; clear n0_ n1_)); have p62 : 0 ≤ (t159 : Int) := of_decide_eq_true (by first | (with_reducible assumption) | assumption); have q62 : t159 < (a0.size : Int) := of_decide_eq_true (by first | (with_reducible assumption) | assumption); have hx62 := bt_at a0 t159; replace p62 := eq_true p62; replace q62 := eq_true q62; have p65 : 0 ≤ (t159 : Int) := of_decide_eq_true (by first | (with_reducible assumption) | assumption); have q65 : t159 < (a0.size : Int) := of_decide_eq_true (by first | (with_reducible assumption) | assumption); have hx65 := bt_at a0 t159; replace p65 := eq_true p65; replace q65 := eq_true q65; have hcz67_0 : wc.cell? ⟨gb157, 0, none⟩ = some (.int .i64 0) := (blk_cell BK157.out 0).trans rfl; have hcz67_1 : wc.cell? ⟨gb157, 1, none⟩ = some (.string (⟨#[]⟩ : ByteArray)) := (blk_cell BK157.out 1).trans rfl; have hcz67_2 : wc.cell? ⟨gb157, 2, none⟩ = some (.int .i64 0) := (blk_cell BK157.out 2).trans rfl; have hfz67_0 := blk_frozen BK157.out 0; have hfz67_1 := blk_frozen BK157.out 1; have hfz67_2 := blk_frozen BK157.out 2))
                              refine bodyPost_ret (results_ctt rfl _ _ gb157 35 #[.int .i64 0, .string (⟨#[]⟩ : ByteArray), .int .i64 0] (0, 0) _ rfl (by (with_reducible repeat (first | refine blk_drewN ?_ _ | refine blk_drew ?_ | refine blk_alloc ?_ _)); refine blk_put (cs := #[.int .i64 0, .string (⟨#[]⟩ : ByteArray), .int .i64 0]) ?_ 2 _ rfl; (with_reducible repeat (first | refine blk_drewN ?_ _ | refine blk_drew ?_ | refine blk_alloc ?_ _)); refine blk_put (cs := #[.int .i64 0, .string (⟨#[]⟩ : ByteArray), .int .i64 0]) ?_ 1 _ rfl; (with_reducible repeat (first | refine blk_drewN ?_ _ | refine blk_drew ?_ | refine blk_alloc ?_ _)); refine blk_put (cs := #[.int .i64 0, .string (⟨#[]⟩ : ByteArray), .int .i64 0]) ?_ 0 _ rfl; (with_reducible repeat (first | refine blk_drewN ?_ _ | refine blk_drew ?_ | refine blk_alloc ?_ _)); exact BK157.out) Try.underlying35 rfl (by kernel_rfl)) rfl ?_
                              exact ⟨by first | rfl | (simp [errW_none, errW_some] <;> rfl) | (simp [*, errW_none, errW_some] <;> rfl), by repeat (first | (with_reducible first | exact HB.out | apply below_alloc | apply pw_below_drewN | apply below_drew1 | refine below_set ?_ GE157.out) | exact HB.out)⟩
                            · rw [if_neg c66] at H
                              have c66b0 : ((bt a0 t159) == 47) = false := beq_eq_false_iff_ne.mpr c66
                              have c66b1 : ((bt a0 t159) != 47) = true := bne_iff_ne.mpr c66
                              by_cases c68 : 0 ≤ a1
                              · rw [if_pos c68] at H
                                have c68b0 := eq_true c68
                                have c68b1 : decide (0 ≤ a1) = true := decide_eq_true c68
                                clear c68
                                by_cases c69 : a1 ≤ t159
                                · rw [if_pos c69] at H
                                  have c69b0 := eq_true c69
                                  have c69b1 : decide (a1 ≤ t159) = true := decide_eq_true c69
                                  clear c69
                                  by_cases c70 : t159 ≤ (a0.size : Int)
                                  · rw [if_pos c70] at H
                                    have c70b0 := eq_true c70
                                    have c70b1 : decide (t159 ≤ (a0.size : Int)) = true := decide_eq_true c70
                                    clear c70
                                    simp only [Option.some.injEq, Prod.mk.injEq] at H
                                    obtain ⟨rfl, rfl, rfl, rfl, rfl⟩ := H
                                    have p58 : 0 ≤ (t159 : Int) := of_decide_eq_true (by first | (with_reducible assumption) | assumption)
                                    have q58 : t159 < (a0.size : Int) := of_decide_eq_true (by first | (with_reducible assumption) | assumption)
                                    have hx58 := bt_at a0 t159
                                    replace p58 := eq_true p58
                                    replace q58 := eq_true q58
                                    go_wp2_with (first | (go_at_call 30; (with_reducible refine (insolvencyref9_letter.calls (bt a0 t159) false _ A59.out).mono ?_); rintro e w' ⟨rfl, ⟨nd, rfl⟩⟩; (try (rw [drewN_self wc]; generalize hq_ : World.drewN wc _ = wc; have n0_ : Aside0 (wc.heap[gb157]? = some (.cells #[.int .i64 0, .string (⟨#[]⟩ : ByteArray), .int .i64 0] 35 (0, 0))) := ⟨by rw [← hq_]; exact (by (with_reducible repeat (first | refine blk_drewN ?_ _ | refine blk_drew ?_ | refine blk_alloc ?_ _)); exact BK157.out)⟩; have n1_ : Aside0 (Below w.heap.size w wc) := ⟨by rw [← hq_]; exact (by repeat (first | (with_reducible first | exact HB.out | apply below_alloc | apply pw_below_drewN | apply below_drew1 | refine below_set ?_ GE157.out) | exact HB.out))⟩; clear BK157 HB hq_; have BK157 := n0_; have HB := n1_; clear n0_ n1_)); have p62 : 0 ≤ (t159 : Int) := of_decide_eq_true (by first | (with_reducible assumption) | assumption); have q62 : t159 < (a0.size : Int) := of_decide_eq_true (by first | (with_reducible assumption) | assumption); have hx62 := bt_at a0 t159; replace p62 := eq_true p62; replace q62 := eq_true q62; have p65 : 0 ≤ (t159 : Int) := of_decide_eq_true (by first | (with_reducible assumption) | assumption); have q65 : t159 < (a0.size : Int) := of_decide_eq_true (by first | (with_reducible assumption) | assumption); have hx65 := bt_at a0 t159; replace p65 := eq_true p65; replace q65 := eq_true q65; have hcz71_0 : wc.cell? ⟨gb157, 0, none⟩ = some (.int .i64 0) := (blk_cell BK157.out 0).trans rfl; have hcz71_1 : wc.cell? ⟨gb157, 1, none⟩ = some (.string (⟨#[]⟩ : ByteArray)) := (blk_cell BK157.out 1).trans rfl; have hcz71_2 : wc.cell? ⟨gb157, 2, none⟩ = some (.int .i64 0) := (blk_cell BK157.out 2).trans rfl; have hfz71_0 := blk_frozen BK157.out 0; have hfz71_1 := blk_frozen BK157.out 1; have hfz71_2 := blk_frozen BK157.out 2))
                                    refine bodyPost_ret (results_ctt rfl _ _ gb157 35 #[.int .i64 2, .string (a0.extract (a1 : Int).toNat (t159 : Int).toNat), .int .i64 a1] (0, 0) _ rfl (by (with_reducible repeat (first | refine blk_drewN ?_ _ | refine blk_drew ?_ | refine blk_alloc ?_ _)); refine blk_put (cs := #[.int .i64 2, .string (a0.extract (a1 : Int).toNat (t159 : Int).toNat), .int .i64 0]) ?_ 2 _ rfl; (with_reducible repeat (first | refine blk_drewN ?_ _ | refine blk_drew ?_ | refine blk_alloc ?_ _)); refine blk_put (cs := #[.int .i64 2, .string (⟨#[]⟩ : ByteArray), .int .i64 0]) ?_ 1 _ rfl; (with_reducible repeat (first | refine blk_drewN ?_ _ | refine blk_drew ?_ | refine blk_alloc ?_ _)); refine blk_put (cs := #[.int .i64 0, .string (⟨#[]⟩ : ByteArray), .int .i64 0]) ?_ 0 _ rfl; (with_reducible repeat (first | refine blk_drewN ?_ _ | refine blk_drew ?_ | refine blk_alloc ?_ _)); exact BK157.out) Try.underlying35 rfl (by kernel_rfl)) rfl ?_
                                    exact ⟨by first | rfl | (simp [errW_none, errW_some] <;> rfl) | (simp [*, errW_none, errW_some] <;> rfl), by repeat (first | (with_reducible first | exact HB.out | apply below_alloc | apply pw_below_drewN | apply below_drew1 | refine below_set ?_ GE157.out) | exact HB.out)⟩
                                  · rw [if_neg c70] at H
                                    exact absurd H (by simp)
                                · rw [if_neg c69] at H
                                  exact absurd H (by simp)
                              · rw [if_neg c68] at H
                                exact absurd H (by simp)
                      · rw [if_neg c57] at H
                        exact absurd H (by simp)
                    · rw [if_neg c56] at H
                      have c56b0 : decide (t159 < (a0.size : Int)) = false := decide_eq_false c56
                      clear c56
                      by_cases c72 : 0 ≤ a1
                      · rw [if_pos c72] at H
                        have c72b0 := eq_true c72
                        have c72b1 : decide (0 ≤ a1) = true := decide_eq_true c72
                        clear c72
                        by_cases c73 : a1 ≤ t159
                        · rw [if_pos c73] at H
                          have c73b0 := eq_true c73
                          have c73b1 : decide (a1 ≤ t159) = true := decide_eq_true c73
                          clear c73
                          by_cases c74 : t159 ≤ (a0.size : Int)
                          · rw [if_pos c74] at H
                            have c74b0 := eq_true c74
                            have c74b1 : decide (t159 ≤ (a0.size : Int)) = true := decide_eq_true c74
                            clear c74
                            simp only [Option.some.injEq, Prod.mk.injEq] at H
                            obtain ⟨rfl, rfl, rfl, rfl, rfl⟩ := H
                            have hcz75_0 : wc.cell? ⟨gb157, 0, none⟩ = some (.int .i64 0) := (blk_cell BK157.out 0).trans rfl
                            have hcz75_1 : wc.cell? ⟨gb157, 1, none⟩ = some (.string (⟨#[]⟩ : ByteArray)) := (blk_cell BK157.out 1).trans rfl
                            have hcz75_2 : wc.cell? ⟨gb157, 2, none⟩ = some (.int .i64 0) := (blk_cell BK157.out 2).trans rfl
                            have hfz75_0 := blk_frozen BK157.out 0
                            have hfz75_1 := blk_frozen BK157.out 1
                            have hfz75_2 := blk_frozen BK157.out 2
                            go_wp2
                            refine bodyPost_ret (results_ctt rfl _ _ gb157 35 #[.int .i64 2, .string (a0.extract (a1 : Int).toNat (t159 : Int).toNat), .int .i64 a1] (0, 0) _ rfl (by (with_reducible repeat (first | refine blk_drewN ?_ _ | refine blk_drew ?_ | refine blk_alloc ?_ _)); refine blk_put (cs := #[.int .i64 2, .string (a0.extract (a1 : Int).toNat (t159 : Int).toNat), .int .i64 0]) ?_ 2 _ rfl; (with_reducible repeat (first | refine blk_drewN ?_ _ | refine blk_drew ?_ | refine blk_alloc ?_ _)); refine blk_put (cs := #[.int .i64 2, .string (⟨#[]⟩ : ByteArray), .int .i64 0]) ?_ 1 _ rfl; (with_reducible repeat (first | refine blk_drewN ?_ _ | refine blk_drew ?_ | refine blk_alloc ?_ _)); refine blk_put (cs := #[.int .i64 0, .string (⟨#[]⟩ : ByteArray), .int .i64 0]) ?_ 0 _ rfl; (with_reducible repeat (first | refine blk_drewN ?_ _ | refine blk_drew ?_ | refine blk_alloc ?_ _)); exact BK157.out) Try.underlying35 rfl (by kernel_rfl)) rfl ?_
                            exact ⟨by first | rfl | (simp [errW_none, errW_some] <;> rfl) | (simp [*, errW_none, errW_some] <;> rfl), by repeat (first | (with_reducible first | exact HB.out | apply below_alloc | apply pw_below_drewN | apply below_drew1 | refine below_set ?_ GE157.out) | exact HB.out)⟩
                          · rw [if_neg c74] at H
                            exact absurd H (by simp)
                        · rw [if_neg c73] at H
                          exact absurd H (by simp)
                      · rw [if_neg c72] at H
                        exact absurd H (by simp)
            · replace c16 := Bool.eq_false_iff.mpr c16
              subst c16
              have H1 : ((insolvencyref9_letter.f (bt a0 a1)).bind fun t165 => (if t165 = true then (insolvencyref9_token.l0 kj5 a0 a1 a1) else (some (0, (⟨#[]⟩ : ByteArray), 0, a1, 10)))) = some (r1, r2, r3, r4, r5) := by rw [if_neg (show ¬ (false = true) by decide)] at H; exact H
              clear H
              have H := H1
              clear H1
              replace H := Option.bind_eq_some_iff.mp H
              obtain ⟨t165, A760, H⟩ := H
              replace H : (if t165 = true then (insolvencyref9_token.l0 kj5 a0 a1 a1) else (some (0, (⟨#[]⟩ : ByteArray), 0, a1, 10))) = some (r1, r2, r3, r4, r5) := H
              have A76 := Aside0.mk A760
              clear A760
              by_cases c77 : t165 = true
              · subst c77
                have H1 : (insolvencyref9_token.l0 kj5 a0 a1 a1) = some (r1, r2, r3, r4, r5) := by rw [if_pos rfl] at H; exact H
                clear H
                have H := H1
                clear H1
                have HC78 := Aside0.mk H
                clear H
                go_upto_block 1 with (first | ((with_reducible refine gate_callee (f := 28) rfl ?_); refine goesL_ (some 36) rfl rfl Try.func28 (by kernel_rfl) rfl #[.int .u8 (bt a0 a1)] rfl (by (try simp only [List.map_toArray, List.map_cons, List.map_nil]); first | done | rfl | (simp only [List.length_drop, List.length_take]; rfl)) ?_; (with_reducible refine (insolvencyref9_digit.calls (bt a0 a1) false _ A15.out).mono ?_); rintro e w' ⟨rfl, ⟨nd, rfl⟩⟩; refine ⟨_, rfl, ?_⟩) | ((with_reducible refine gate_callee (f := 30) rfl ?_); refine goesL_ (some 101) rfl rfl Try.func30 (by kernel_rfl) rfl #[.int .u8 (bt a0 a1)] rfl (by (try simp only [List.map_toArray, List.map_cons, List.map_nil]); first | done | rfl | (simp only [List.length_drop, List.length_take]; rfl)) ?_; (with_reducible refine (insolvencyref9_letter.calls (bt a0 a1) true _ A76.out).mono ?_); rintro e w' ⟨rfl, ⟨nd, rfl⟩⟩; refine ⟨_, rfl, ?_⟩))
                (try simp only [Act.put, List.setIfInBounds_toArray, List.set_cons_zero, List.set_cons_succ])
                go_cut [9] (fun v9 wc => ∃ (kq : Nat) (x9_77 : Int), v9 = .int .i64 x9_77 ∧ Aside0 (insolvencyref9_token.j3 kq a0 a1 x9_77 = some (r1, r2, r3, r4, r5)) ∧ Aside0 (kq ≤ kj5) ∧ Aside0 (wc.heap[gb157]? = some (.cells #[.int .i64 0, .string (⟨#[]⟩ : ByteArray), .int .i64 0] 35 (0, 0))) ∧ Aside0 (Below w.heap.size w wc))
                case first =>
                  have H := HC78.out
                  clear HC78
                  have H' := Aside0.mk H
                  clear H
                  go_wp2
                  go_loopg [9] kj5 (fun kq v9 w' => ∃ (x9_2 : Int), v9 = .int .i64 x9_2 ∧ Aside0 (insolvencyref9_token.l0 kq a0 a1 x9_2 = some (r1, r2, r3, r4, r5)) ∧ Aside0 (kq ≤ kj5) ∧ Aside0 (w'.heap[gb157]? = some (.cells #[.int .i64 0, .string (⟨#[]⟩ : ByteArray), .int .i64 0] 35 (0, 0))) ∧ Aside0 (Below w.heap.size w w'))
                  case atStart => exact ⟨(a1), (by first | rfl | (simp; done) | (simp [*]; done)), H', ⟨Nat.le_refl _⟩, ⟨by (with_reducible repeat (first | refine blk_drewN ?_ _ | refine blk_drew ?_ | refine blk_alloc ?_ _)); exact BK157.out⟩, ⟨by repeat (first | (with_reducible first | exact HB.out | apply below_alloc | apply pw_below_drewN | apply below_drew1 | refine below_set ?_ GE157.out) | exact HB.out)⟩⟩
                  case round =>
                    clear H'
                    try clear c1
                    try clear c2
                    try clear p2
                    try clear q2
                    try clear hx2
                    try clear c3
                    try clear c3b0
                    try clear p3
                    try clear q3
                    try clear hx3
                    try clear c4
                    try clear c4b0
                    try clear p4
                    try clear q4
                    try clear hx4
                    try clear c5
                    try clear p5
                    try clear q5
                    try clear hx5
                    try clear c6
                    try clear p6
                    try clear q6
                    try clear hx6
                    try clear c7
                    try clear c8
                    try clear c8b0
                    try clear c8b1
                    try clear c9
                    try clear c9b0
                    try clear c9b1
                    try clear c10
                    try clear c11
                    try clear c11b0
                    try clear c11b1
                    try clear c12
                    try clear c12b0
                    try clear c12b1
                    try clear c13
                    try clear c13b0
                    try clear c13b1
                    try clear c16
                    try clear c19
                    try clear c19b0
                    try clear c20
                    try clear c20b0
                    try clear c21
                    try clear c21b0
                    try clear p22
                    try clear q22
                    try clear hx22
                    try clear c23
                    try clear c23b0
                    try clear c23b1
                    try clear c25
                    try clear c25b0
                    try clear p26
                    try clear q26
                    try clear hx26
                    try clear c28
                    try clear p28
                    try clear q28
                    try clear hx28
                    try clear c29
                    try clear c29b0
                    try clear c29b1
                    try clear c30
                    try clear c31
                    try clear c31b0
                    try clear p32
                    try clear q32
                    try clear hx32
                    try clear c34
                    try clear c36
                    try clear c36b0
                    try clear c37
                    try clear c37b0
                    try clear p38
                    try clear q38
                    try clear hx38
                    try clear c40
                    try clear p42
                    try clear q42
                    try clear hx42
                    try clear c43
                    try clear c43b0
                    try clear c43b1
                    try clear p45
                    try clear q45
                    try clear hx45
                    try clear c46
                    try clear c46b0
                    try clear c46b1
                    try clear c48
                    try clear c48b0
                    try clear c48b1
                    try clear c49
                    try clear c49b0
                    try clear c49b1
                    try clear c50
                    try clear c50b0
                    try clear c50b1
                    try clear c52
                    try clear c52b0
                    try clear c52b1
                    try clear c53
                    try clear c53b0
                    try clear c53b1
                    try clear c54
                    try clear c54b0
                    try clear c54b1
                    try clear c56
                    try clear c56b0
                    try clear c57
                    try clear c57b0
                    try clear p58
                    try clear q58
                    try clear hx58
                    try clear c60
                    try clear p62
                    try clear q62
                    try clear hx62
                    try clear c63
                    try clear c63b0
                    try clear c63b1
                    try clear p64
                    try clear p65
                    try clear q65
                    try clear hx65
                    try clear c66
                    try clear c66b0
                    try clear c66b1
                    try clear c68
                    try clear c68b0
                    try clear c68b1
                    try clear c69
                    try clear c69b0
                    try clear c69b1
                    try clear c70
                    try clear c70b0
                    try clear c70b1
                    try clear c72
                    try clear c72b0
                    try clear c72b1
                    try clear c73
                    try clear c73b0
                    try clear c73b1
                    try clear c74
                    try clear c74b0
                    try clear c74b1
                    try clear c77
                    try clear hcz14_0
                    try clear hcz14_1
                    try clear hcz14_2
                    try clear hcz41_0
                    try clear hcz41_1
                    try clear hcz41_2
                    try clear hcz44_0
                    try clear hcz44_1
                    try clear hcz44_2
                    try clear hcz47_0
                    try clear hcz47_1
                    try clear hcz47_2
                    try clear hcz51_0
                    try clear hcz51_1
                    try clear hcz51_2
                    try clear hcz55_0
                    try clear hcz55_1
                    try clear hcz55_2
                    try clear hcz61_0
                    try clear hcz61_1
                    try clear hcz61_2
                    try clear hcz64_0
                    try clear hcz64_1
                    try clear hcz64_2
                    try clear hcz67_0
                    try clear hcz67_1
                    try clear hcz67_2
                    try clear hcz71_0
                    try clear hcz71_1
                    try clear hcz71_2
                    try clear hcz75_0
                    try clear hcz75_1
                    try clear hcz75_2
                    try clear hfz14_0
                    try clear hfz14_1
                    try clear hfz14_2
                    try clear hfz41_0
                    try clear hfz41_1
                    try clear hfz41_2
                    try clear hfz44_0
                    try clear hfz44_1
                    try clear hfz44_2
                    try clear hfz47_0
                    try clear hfz47_1
                    try clear hfz47_2
                    try clear hfz51_0
                    try clear hfz51_1
                    try clear hfz51_2
                    try clear hfz55_0
                    try clear hfz55_1
                    try clear hfz55_2
                    try clear hfz61_0
                    try clear hfz61_1
                    try clear hfz61_2
                    try clear hfz64_0
                    try clear hfz64_1
                    try clear hfz64_2
                    try clear hfz67_0
                    try clear hfz67_1
                    try clear hfz67_2
                    try clear hfz71_0
                    try clear hfz71_1
                    try clear hfz71_2
                    try clear hfz75_0
                    try clear hfz75_1
                    try clear hfz75_2
                    try clear p2
                    try clear p22
                    try clear p26
                    try clear p28
                    try clear p3
                    try clear p32
                    try clear p38
                    try clear p42
                    try clear p45
                    try clear p5
                    try clear p58
                    try clear p6
                    try clear p62
                    try clear p65
                    try clear q2
                    try clear q22
                    try clear q26
                    try clear q28
                    try clear q3
                    try clear q32
                    try clear q38
                    try clear q42
                    try clear q45
                    try clear q5
                    try clear q58
                    try clear q62
                    try clear q65
                    obtain ⟨x9_2, rfl, HA, HK2, BK157, HB⟩ := hrel
                    cases gk with
                    | zero => exact absurd HA.out (by simp [insolvencyref9_token.l0])
                    | succ k2 =>
                      have H := HA.out
                      clear HA
                      simp only [insolvencyref9_token.l0] at H
                      by_cases c79 : x9_2 < (a0.size : Int)
                      · rw [if_pos c79] at H
                        have c79b0 : decide (x9_2 < (a0.size : Int)) = true := decide_eq_true c79
                        clear c79
                        (first | rw [c79b0] | (simp only [i64_w, i32_w]; rw [c79b0]) | skip)
                        by_cases c80 : 0 ≤ x9_2
                        · rw [if_pos c80] at H
                          have c80b0 : decide (0 ≤ x9_2) = true := decide_eq_true c80
                          clear c80
                          replace H := Option.bind_eq_some_iff.mp H
                          obtain ⟨t166, A820, H⟩ := H
                          replace H : (if t166 = true then (insolvencyref9_token.l0 k2 a0 a1 (wrap64 (x9_2 + 1))) else (insolvencyref9_token.j3 k2 a0 a1 x9_2)) = some (r1, r2, r3, r4, r5) := H
                          have A82 := Aside0.mk A820
                          clear A820
                          by_cases c83 : t166 = true
                          · subst c83
                            have H1 : (insolvencyref9_token.l0 k2 a0 a1 (wrap64 (x9_2 + 1))) = some (r1, r2, r3, r4, r5) := by rw [if_pos rfl] at H; exact H
                            clear H
                            have H := H1
                            clear H1
                            have H' := Aside0.mk H
                            clear H
                            have p81 : 0 ≤ (x9_2 : Int) := of_decide_eq_true (by first | (with_reducible assumption) | assumption)
                            have q81 : x9_2 < (a0.size : Int) := of_decide_eq_true (by first | (with_reducible assumption) | assumption)
                            have hx81 := bt_at a0 x9_2
                            replace p81 := eq_true p81
                            replace q81 := eq_true q81
                            go_wp2_with (first | (go_at_call 31; (with_reducible refine (insolvencyref9_within.calls (bt a0 x9_2) true _ A82.out).mono ?_); rintro e w' ⟨rfl, ⟨nd, rfl⟩⟩))
                            go_roundg k2
                            case measure => have := HJ5.out; have := HK2.out; omega
                            case rel => exact ⟨(wrap64 (x9_2 + 1)), (by first | rfl | (simp; done) | (simp [*]; done)), H', ⟨by have := HJ5.out; have := HK2.out; omega⟩, ⟨by (with_reducible repeat (first | refine blk_drewN ?_ _ | refine blk_drew ?_ | refine blk_alloc ?_ _)); exact BK157.out⟩, ⟨by repeat (first | (with_reducible first | exact HB.out | apply below_alloc | apply pw_below_drewN | apply below_drew1 | refine below_set ?_ GE157.out) | exact HB.out)⟩⟩
                          · replace c83 := Bool.eq_false_iff.mpr c83
                            subst c83
                            have H1 : (insolvencyref9_token.j3 k2 a0 a1 x9_2) = some (r1, r2, r3, r4, r5) := by rw [if_neg (show ¬ (false = true) by decide)] at H; exact H
                            clear H
                            have H := H1
                            clear H1
                            have H' := Aside0.mk H
                            clear H
                            have p81 : 0 ≤ (x9_2 : Int) := of_decide_eq_true (by first | (with_reducible assumption) | assumption)
                            have q81 : x9_2 < (a0.size : Int) := of_decide_eq_true (by first | (with_reducible assumption) | assumption)
                            have hx81 := bt_at a0 x9_2
                            replace p81 := eq_true p81
                            replace q81 := eq_true q81
                            go_wp2_with (first | (go_at_call 31; (with_reducible refine (insolvencyref9_within.calls (bt a0 x9_2) false _ A82.out).mono ?_); rintro e w' ⟨rfl, ⟨nd, rfl⟩⟩))
                            go_meet
                            case rel => exact ⟨_, (x9_2), (by first | rfl | (simp; done) | (simp [*]; done)), H', ⟨by have := HJ5.out; have := HK2.out; first | omega | exact Nat.le_refl _⟩, ⟨by (with_reducible repeat (first | refine blk_drewN ?_ _ | refine blk_drew ?_ | refine blk_alloc ?_ _)); exact BK157.out⟩, ⟨by repeat (first | (with_reducible first | exact HB.out | apply below_alloc | apply pw_below_drewN | apply below_drew1 | refine below_set ?_ GE157.out) | exact HB.out)⟩⟩
                        · rw [if_neg c80] at H
                          exact absurd H (by simp)
                      · rw [if_neg c79] at H
                        have c79b0 : decide (x9_2 < (a0.size : Int)) = false := decide_eq_false c79
                        clear c79
                        (first | rw [c79b0] | (simp only [i64_w, i32_w]; rw [c79b0]) | skip)
                        have H' := Aside0.mk H
                        clear H
                        go_wp2
                        go_meet
                        case rel => exact ⟨_, (x9_2), (by first | rfl | (simp; done) | (simp [*]; done)), H', ⟨by have := HJ5.out; have := HK2.out; first | omega | exact Nat.le_refl _⟩, ⟨by (with_reducible repeat (first | refine blk_drewN ?_ _ | refine blk_drew ?_ | refine blk_alloc ?_ _)); exact BK157.out⟩, ⟨by repeat (first | (with_reducible first | exact HB.out | apply below_alloc | apply pw_below_drewN | apply below_drew1 | refine below_set ?_ GE157.out) | exact HB.out)⟩⟩
                case rest =>
                  clear HC78
                  try clear c1
                  try clear c2
                  try clear p2
                  try clear q2
                  try clear hx2
                  try clear c3
                  try clear c3b0
                  try clear p3
                  try clear q3
                  try clear hx3
                  try clear c4
                  try clear c4b0
                  try clear p4
                  try clear q4
                  try clear hx4
                  try clear c5
                  try clear p5
                  try clear q5
                  try clear hx5
                  try clear c6
                  try clear p6
                  try clear q6
                  try clear hx6
                  try clear c7
                  try clear c8
                  try clear c8b0
                  try clear c8b1
                  try clear p8
                  try clear q8
                  try clear hx8
                  try clear c9
                  try clear c9b0
                  try clear c9b1
                  try clear c10
                  try clear c11
                  try clear c11b0
                  try clear c11b1
                  try clear c12
                  try clear c12b0
                  try clear c12b1
                  try clear c13
                  try clear c13b0
                  try clear c13b1
                  try clear c16
                  try clear c19
                  try clear c19b0
                  try clear c20
                  try clear c20b0
                  try clear c21
                  try clear c21b0
                  try clear p22
                  try clear q22
                  try clear hx22
                  try clear c23
                  try clear c23b0
                  try clear c23b1
                  try clear c25
                  try clear c25b0
                  try clear p26
                  try clear q26
                  try clear hx26
                  try clear c28
                  try clear p28
                  try clear q28
                  try clear hx28
                  try clear c29
                  try clear c29b0
                  try clear c29b1
                  try clear c30
                  try clear c31
                  try clear c31b0
                  try clear p32
                  try clear q32
                  try clear hx32
                  try clear c34
                  try clear c36
                  try clear c36b0
                  try clear c37
                  try clear c37b0
                  try clear p38
                  try clear q38
                  try clear hx38
                  try clear c40
                  try clear p42
                  try clear q42
                  try clear hx42
                  try clear c43
                  try clear c43b0
                  try clear c43b1
                  try clear p45
                  try clear q45
                  try clear hx45
                  try clear c46
                  try clear c46b0
                  try clear c46b1
                  try clear c48
                  try clear c48b0
                  try clear c48b1
                  try clear c49
                  try clear c49b0
                  try clear c49b1
                  try clear c50
                  try clear c50b0
                  try clear c50b1
                  try clear c52
                  try clear c52b0
                  try clear c52b1
                  try clear c53
                  try clear c53b0
                  try clear c53b1
                  try clear c54
                  try clear c54b0
                  try clear c54b1
                  try clear c56
                  try clear c56b0
                  try clear c57
                  try clear c57b0
                  try clear p58
                  try clear q58
                  try clear hx58
                  try clear c60
                  try clear p62
                  try clear q62
                  try clear hx62
                  try clear c63
                  try clear c63b0
                  try clear c63b1
                  try clear p64
                  try clear p65
                  try clear q65
                  try clear hx65
                  try clear c66
                  try clear c66b0
                  try clear c66b1
                  try clear c68
                  try clear c68b0
                  try clear c68b1
                  try clear c69
                  try clear c69b0
                  try clear c69b1
                  try clear c70
                  try clear c70b0
                  try clear c70b1
                  try clear c72
                  try clear c72b0
                  try clear c72b1
                  try clear c73
                  try clear c73b0
                  try clear c73b1
                  try clear c74
                  try clear c74b0
                  try clear c74b1
                  try clear c77
                  try clear c79
                  try clear c79b0
                  try clear c80
                  try clear c80b0
                  try clear p81
                  try clear q81
                  try clear hx81
                  try clear c83
                  try clear hcz14_0
                  try clear hcz14_1
                  try clear hcz14_2
                  try clear hcz41_0
                  try clear hcz41_1
                  try clear hcz41_2
                  try clear hcz44_0
                  try clear hcz44_1
                  try clear hcz44_2
                  try clear hcz47_0
                  try clear hcz47_1
                  try clear hcz47_2
                  try clear hcz51_0
                  try clear hcz51_1
                  try clear hcz51_2
                  try clear hcz55_0
                  try clear hcz55_1
                  try clear hcz55_2
                  try clear hcz61_0
                  try clear hcz61_1
                  try clear hcz61_2
                  try clear hcz64_0
                  try clear hcz64_1
                  try clear hcz64_2
                  try clear hcz67_0
                  try clear hcz67_1
                  try clear hcz67_2
                  try clear hcz71_0
                  try clear hcz71_1
                  try clear hcz71_2
                  try clear hcz75_0
                  try clear hcz75_1
                  try clear hcz75_2
                  try clear hfz14_0
                  try clear hfz14_1
                  try clear hfz14_2
                  try clear hfz41_0
                  try clear hfz41_1
                  try clear hfz41_2
                  try clear hfz44_0
                  try clear hfz44_1
                  try clear hfz44_2
                  try clear hfz47_0
                  try clear hfz47_1
                  try clear hfz47_2
                  try clear hfz51_0
                  try clear hfz51_1
                  try clear hfz51_2
                  try clear hfz55_0
                  try clear hfz55_1
                  try clear hfz55_2
                  try clear hfz61_0
                  try clear hfz61_1
                  try clear hfz61_2
                  try clear hfz64_0
                  try clear hfz64_1
                  try clear hfz64_2
                  try clear hfz67_0
                  try clear hfz67_1
                  try clear hfz67_2
                  try clear hfz71_0
                  try clear hfz71_1
                  try clear hfz71_2
                  try clear hfz75_0
                  try clear hfz75_1
                  try clear hfz75_2
                  try clear p2
                  try clear p22
                  try clear p26
                  try clear p28
                  try clear p3
                  try clear p32
                  try clear p38
                  try clear p4
                  try clear p42
                  try clear p45
                  try clear p5
                  try clear p58
                  try clear p6
                  try clear p62
                  try clear p64
                  try clear p65
                  try clear p81
                  try clear q2
                  try clear q22
                  try clear q26
                  try clear q28
                  try clear q3
                  try clear q32
                  try clear q38
                  try clear q4
                  try clear q42
                  try clear q45
                  try clear q5
                  try clear q58
                  try clear q6
                  try clear q62
                  try clear q65
                  try clear q81
                  obtain ⟨kq, x9_77, rfl, HA, HJ77, BK157, HB⟩ := hcut
                  cases kq with
                  | zero => exact absurd HA.out (by simp [insolvencyref9_token.j3])
                  | succ kj77 =>
                    have H := HA.out
                    clear HA
                    simp only [insolvencyref9_token.j3] at H
                    by_cases c84 : (wrap64 (x9_77 - a1)) > 32
                    · rw [if_pos c84] at H
                      have c84b0 : decide (32 < (wrap64 (x9_77 - a1))) = true := decide_eq_true c84
                      clear c84
                      simp only [Option.some.injEq, Prod.mk.injEq] at H
                      obtain ⟨rfl, rfl, rfl, rfl, rfl⟩ := H
                      have hcz85_0 : wc.cell? ⟨gb157, 0, none⟩ = some (.int .i64 0) := (blk_cell BK157.out 0).trans rfl
                      have hcz85_1 : wc.cell? ⟨gb157, 1, none⟩ = some (.string (⟨#[]⟩ : ByteArray)) := (blk_cell BK157.out 1).trans rfl
                      have hcz85_2 : wc.cell? ⟨gb157, 2, none⟩ = some (.int .i64 0) := (blk_cell BK157.out 2).trans rfl
                      have hfz85_0 := blk_frozen BK157.out 0
                      have hfz85_1 := blk_frozen BK157.out 1
                      have hfz85_2 := blk_frozen BK157.out 2
                      go_wp2
                      refine bodyPost_ret (results_ctt rfl _ _ gb157 35 #[.int .i64 0, .string (⟨#[]⟩ : ByteArray), .int .i64 0] (0, 0) _ rfl (by (with_reducible repeat (first | refine blk_drewN ?_ _ | refine blk_drew ?_ | refine blk_alloc ?_ _)); refine blk_put (cs := #[.int .i64 0, .string (⟨#[]⟩ : ByteArray), .int .i64 0]) ?_ 2 _ rfl; (with_reducible repeat (first | refine blk_drewN ?_ _ | refine blk_drew ?_ | refine blk_alloc ?_ _)); refine blk_put (cs := #[.int .i64 0, .string (⟨#[]⟩ : ByteArray), .int .i64 0]) ?_ 1 _ rfl; (with_reducible repeat (first | refine blk_drewN ?_ _ | refine blk_drew ?_ | refine blk_alloc ?_ _)); refine blk_put (cs := #[.int .i64 0, .string (⟨#[]⟩ : ByteArray), .int .i64 0]) ?_ 0 _ rfl; (with_reducible repeat (first | refine blk_drewN ?_ _ | refine blk_drew ?_ | refine blk_alloc ?_ _)); exact BK157.out) Try.underlying35 rfl (by kernel_rfl)) rfl ?_
                      exact ⟨by first | rfl | (simp [errW_none, errW_some] <;> rfl) | (simp [*, errW_none, errW_some] <;> rfl), by repeat (first | (with_reducible first | exact HB.out | apply below_alloc | apply pw_below_drewN | apply below_drew1 | refine below_set ?_ GE157.out) | exact HB.out)⟩
                    · rw [if_neg c84] at H
                      have c84b0 : decide (32 < (wrap64 (x9_77 - a1))) = false := decide_eq_false c84
                      clear c84
                      by_cases c86 : 0 ≤ a1
                      · rw [if_pos c86] at H
                        have c86b0 := eq_true c86
                        have c86b1 : decide (0 ≤ a1) = true := decide_eq_true c86
                        clear c86
                        by_cases c87 : a1 ≤ x9_77
                        · rw [if_pos c87] at H
                          have c87b0 := eq_true c87
                          have c87b1 : decide (a1 ≤ x9_77) = true := decide_eq_true c87
                          clear c87
                          by_cases c88 : x9_77 ≤ (a0.size : Int)
                          · rw [if_pos c88] at H
                            have c88b0 := eq_true c88
                            have c88b1 : decide (x9_77 ≤ (a0.size : Int)) = true := decide_eq_true c88
                            clear c88
                            replace H := Option.bind_eq_some_iff.mp H
                            obtain ⟨t168, A890, H⟩ := H
                            replace H : (if t168 = true then (some (3, a0.extract (a1 : Int).toNat (x9_77 : Int).toNat, a1, x9_77, 0)) else (some (1, a0.extract (a1 : Int).toNat (x9_77 : Int).toNat, a1, x9_77, 0))) = some (r1, r2, r3, r4, r5) := H
                            have A89 := Aside0.mk A890
                            clear A890
                            by_cases c90 : t168 = true
                            · subst c90
                              have H1 : (some (3, a0.extract (a1 : Int).toNat (x9_77 : Int).toNat, a1, x9_77, 0)) = some (r1, r2, r3, r4, r5) := by rw [if_pos rfl] at H; exact H
                              clear H
                              have H := H1
                              clear H1
                              simp only [Option.some.injEq, Prod.mk.injEq] at H
                              obtain ⟨rfl, rfl, rfl, rfl, rfl⟩ := H
                              go_wp2_with (first | ((with_reducible refine gate_dst (N := 10) rfl ?_); refine box_event ?hg (N := 10) ?hd (cs := #[.int .i64 0, .string (⟨#[]⟩ : ByteArray), .int .i64 0]) (t := 35) ?hr ?_; (case hd => rfl); (case hg => rfl); (case hr => first | (go_simp; done) | (go_simp; rfl)); intro gb167 hg w91 hbox hb; have n0_ := Aside0.mk (blk_below (g := gb157) (o := .cells #[.int .i64 0, .string (⟨#[]⟩ : ByteArray), .int .i64 0] 35 (0, 0)) (by (with_reducible repeat (first | refine blk_drewN ?_ _ | refine blk_drew ?_ | refine blk_alloc ?_ _)); exact BK157.out) hb); have n1_ := Aside0.mk (below_step (by repeat (first | (with_reducible first | exact HB.out | apply below_alloc | apply pw_below_drewN | apply below_drew1 | refine below_set ?_ GE157.out) | exact HB.out)) hb); have n2_ := Aside0.mk (hbox); have n3_ := Aside0.mk ((by rw [hg]; exact (below_size (by repeat (first | (with_reducible first | exact HB.out | apply below_alloc | apply pw_below_drewN | apply below_drew1 | refine below_set ?_ GE157.out) | exact HB.out))) : w.heap.size ≤ gb167)); have n4_ := Aside0.mk ((by rw [hg]; exact (below_size (by repeat (first | (with_reducible first | exact HB.out | apply below_alloc | apply pw_below_drewN | apply below_drew1 | refine below_set ?_ GE157.out) | exact HB.out))) : w.heap.size ≤ gb167)); have n5_ := Aside0.mk ((by rw [hg]; exact Nat.ne_of_lt (blk_lt (g := gb157) (o := .cells #[.int .i64 0, .string (⟨#[]⟩ : ByteArray), .int .i64 0] 35 (0, 0)) (by (with_reducible repeat (first | refine blk_drewN ?_ _ | refine blk_drew ?_ | refine blk_alloc ?_ _)); exact BK157.out)) : gb157 ≠ gb167)); have n6_ := Aside0.mk ((by rw [hg]; exact Nat.ne_of_gt (blk_lt (g := gb157) (o := .cells #[.int .i64 0, .string (⟨#[]⟩ : ByteArray), .int .i64 0] 35 (0, 0)) (by (with_reducible repeat (first | refine blk_drewN ?_ _ | refine blk_drew ?_ | refine blk_alloc ?_ _)); exact BK157.out)) : gb167 ≠ gb157)); clear BK157; clear HB; have BK157 := n0_; have HB := n1_; have BK167 := n2_; have GW167 := n3_; have GE167 := n4_; have NB157_167 := n5_; have NB167_157 := n6_; clear n0_ n1_ n2_ n3_ n4_ n5_ n6_; clear hb hbox hg; have hnb92 := NB167_157.out; have hnc92 := NB157_167.out; have hcz93_0 : w91.cell? ⟨gb167, 0, none⟩ = some (.int .i64 0) := (blk_cell BK167.out 0).trans rfl; have hcz93_1 : w91.cell? ⟨gb167, 1, none⟩ = some (.string (⟨#[]⟩ : ByteArray)) := (blk_cell BK167.out 1).trans rfl; have hcz93_2 : w91.cell? ⟨gb167, 2, none⟩ = some (.int .i64 0) := (blk_cell BK167.out 2).trans rfl; have hfz93_0 := blk_frozen BK167.out 0; have hfz93_1 := blk_frozen BK167.out 1; have hfz93_2 := blk_frozen BK167.out 2) | ((with_reducible refine gate_callee (f := 11) rfl ?_); refine goesL_ (some 129) rfl rfl Try.func11 (by kernel_rfl) rfl #[.string (a0.extract (a1 : Int).toNat (x9_77 : Int).toNat)] rfl (by (try simp only [List.map_toArray, List.map_cons, List.map_nil]); first | done | rfl | (simp only [List.length_drop, List.length_take]; rfl)) ?_; (with_reducible refine (insolvencyref9_Reserved.calls (a0.extract (a1 : Int).toNat (x9_77 : Int).toNat) true _ A89.out).mono ?_); rintro e w' ⟨rfl, ⟨nd, rfl⟩⟩; refine ⟨_, rfl, ?_⟩; have hcz94_0 : w91.cell? ⟨gb157, 0, none⟩ = some (.int .i64 0) := (blk_cell BK157.out 0).trans rfl; have hcz94_1 : w91.cell? ⟨gb157, 1, none⟩ = some (.string (⟨#[]⟩ : ByteArray)) := (blk_cell BK157.out 1).trans rfl; have hcz94_2 : w91.cell? ⟨gb157, 2, none⟩ = some (.int .i64 0) := (blk_cell BK157.out 2).trans rfl; have hfz94_0 := blk_frozen BK157.out 0; have hfz94_1 := blk_frozen BK157.out 1; have hfz94_2 := blk_frozen BK157.out 2))
                              refine bodyPost_ret (results_ctt rfl _ _ gb157 35 #[.int .i64 3, .string (a0.extract (a1 : Int).toNat (x9_77 : Int).toNat), .int .i64 a1] (0, 0) _ rfl (by (with_reducible repeat (first | refine blk_drewN ?_ _ | refine blk_drew ?_ | refine blk_alloc ?_ _)); refine blk_put (cs := #[.int .i64 3, .string (a0.extract (a1 : Int).toNat (x9_77 : Int).toNat), .int .i64 0]) ?_ 2 _ rfl; (with_reducible repeat (first | refine blk_drewN ?_ _ | refine blk_drew ?_ | refine blk_alloc ?_ _)); refine blk_put (cs := #[.int .i64 3, .string (⟨#[]⟩ : ByteArray), .int .i64 0]) ?_ 1 _ rfl; (with_reducible repeat (first | refine blk_drewN ?_ _ | refine blk_drew ?_ | refine blk_alloc ?_ _)); refine blk_put (cs := #[.int .i64 0, .string (⟨#[]⟩ : ByteArray), .int .i64 0]) ?_ 0 _ rfl; (with_reducible repeat (first | refine blk_drewN ?_ _ | refine blk_drew ?_ | refine blk_alloc ?_ _)); refine blk_far ?_ NB157_167.out _; (with_reducible repeat (first | refine blk_drewN ?_ _ | refine blk_drew ?_ | refine blk_alloc ?_ _)); refine blk_far ?_ NB157_167.out _; (with_reducible repeat (first | refine blk_drewN ?_ _ | refine blk_drew ?_ | refine blk_alloc ?_ _)); refine blk_far ?_ NB157_167.out _; (with_reducible repeat (first | refine blk_drewN ?_ _ | refine blk_drew ?_ | refine blk_alloc ?_ _)); refine blk_far ?_ NB157_167.out _; (with_reducible repeat (first | refine blk_drewN ?_ _ | refine blk_drew ?_ | refine blk_alloc ?_ _)); exact BK157.out) Try.underlying35 rfl (by kernel_rfl)) rfl ?_
                              exact ⟨by first | rfl | (simp [errW_none, errW_some] <;> rfl) | (simp [*, errW_none, errW_some] <;> rfl), by repeat (first | (with_reducible first | exact HB.out | apply below_alloc | apply pw_below_drewN | apply below_drew1 | refine below_set ?_ GE157.out | refine below_set ?_ GE167.out) | exact HB.out)⟩
                            · replace c90 := Bool.eq_false_iff.mpr c90
                              subst c90
                              have H1 : (some (1, a0.extract (a1 : Int).toNat (x9_77 : Int).toNat, a1, x9_77, 0)) = some (r1, r2, r3, r4, r5) := by rw [if_neg (show ¬ (false = true) by decide)] at H; exact H
                              clear H
                              have H := H1
                              clear H1
                              simp only [Option.some.injEq, Prod.mk.injEq] at H
                              obtain ⟨rfl, rfl, rfl, rfl, rfl⟩ := H
                              go_wp2_with (first | ((with_reducible refine gate_dst (N := 10) rfl ?_); refine box_event ?hg (N := 10) ?hd (cs := #[.int .i64 0, .string (⟨#[]⟩ : ByteArray), .int .i64 0]) (t := 35) ?hr ?_; (case hd => rfl); (case hg => rfl); (case hr => first | (go_simp; done) | (go_simp; rfl)); intro gb167 hg w95 hbox hb; have n0_ := Aside0.mk (blk_below (g := gb157) (o := .cells #[.int .i64 0, .string (⟨#[]⟩ : ByteArray), .int .i64 0] 35 (0, 0)) (by (with_reducible repeat (first | refine blk_drewN ?_ _ | refine blk_drew ?_ | refine blk_alloc ?_ _)); exact BK157.out) hb); have n1_ := Aside0.mk (below_step (by repeat (first | (with_reducible first | exact HB.out | apply below_alloc | apply pw_below_drewN | apply below_drew1 | refine below_set ?_ GE157.out) | exact HB.out)) hb); have n2_ := Aside0.mk (hbox); have n3_ := Aside0.mk ((by rw [hg]; exact (below_size (by repeat (first | (with_reducible first | exact HB.out | apply below_alloc | apply pw_below_drewN | apply below_drew1 | refine below_set ?_ GE157.out) | exact HB.out))) : w.heap.size ≤ gb167)); have n4_ := Aside0.mk ((by rw [hg]; exact (below_size (by repeat (first | (with_reducible first | exact HB.out | apply below_alloc | apply pw_below_drewN | apply below_drew1 | refine below_set ?_ GE157.out) | exact HB.out))) : w.heap.size ≤ gb167)); have n5_ := Aside0.mk ((by rw [hg]; exact Nat.ne_of_lt (blk_lt (g := gb157) (o := .cells #[.int .i64 0, .string (⟨#[]⟩ : ByteArray), .int .i64 0] 35 (0, 0)) (by (with_reducible repeat (first | refine blk_drewN ?_ _ | refine blk_drew ?_ | refine blk_alloc ?_ _)); exact BK157.out)) : gb157 ≠ gb167)); have n6_ := Aside0.mk ((by rw [hg]; exact Nat.ne_of_gt (blk_lt (g := gb157) (o := .cells #[.int .i64 0, .string (⟨#[]⟩ : ByteArray), .int .i64 0] 35 (0, 0)) (by (with_reducible repeat (first | refine blk_drewN ?_ _ | refine blk_drew ?_ | refine blk_alloc ?_ _)); exact BK157.out)) : gb167 ≠ gb157)); clear BK157; clear HB; have BK157 := n0_; have HB := n1_; have BK167 := n2_; have GW167 := n3_; have GE167 := n4_; have NB157_167 := n5_; have NB167_157 := n6_; clear n0_ n1_ n2_ n3_ n4_ n5_ n6_; clear hb hbox hg; have hnb96 := NB167_157.out; have hnc96 := NB157_167.out; have hcz97_0 : w95.cell? ⟨gb167, 0, none⟩ = some (.int .i64 0) := (blk_cell BK167.out 0).trans rfl; have hcz97_1 : w95.cell? ⟨gb167, 1, none⟩ = some (.string (⟨#[]⟩ : ByteArray)) := (blk_cell BK167.out 1).trans rfl; have hcz97_2 : w95.cell? ⟨gb167, 2, none⟩ = some (.int .i64 0) := (blk_cell BK167.out 2).trans rfl; have hfz97_0 := blk_frozen BK167.out 0; have hfz97_1 := blk_frozen BK167.out 1; have hfz97_2 := blk_frozen BK167.out 2) | ((with_reducible refine gate_callee (f := 11) rfl ?_); refine goesL_ (some 129) rfl rfl Try.func11 (by kernel_rfl) rfl #[.string (a0.extract (a1 : Int).toNat (x9_77 : Int).toNat)] rfl (by (try simp only [List.map_toArray, List.map_cons, List.map_nil]); first | done | rfl | (simp only [List.length_drop, List.length_take]; rfl)) ?_; (with_reducible refine (insolvencyref9_Reserved.calls (a0.extract (a1 : Int).toNat (x9_77 : Int).toNat) false _ A89.out).mono ?_); rintro e w' ⟨rfl, ⟨nd, rfl⟩⟩; refine ⟨_, rfl, ?_⟩; have hcz98_0 : w95.cell? ⟨gb157, 0, none⟩ = some (.int .i64 0) := (blk_cell BK157.out 0).trans rfl; have hcz98_1 : w95.cell? ⟨gb157, 1, none⟩ = some (.string (⟨#[]⟩ : ByteArray)) := (blk_cell BK157.out 1).trans rfl; have hcz98_2 : w95.cell? ⟨gb157, 2, none⟩ = some (.int .i64 0) := (blk_cell BK157.out 2).trans rfl; have hfz98_0 := blk_frozen BK157.out 0; have hfz98_1 := blk_frozen BK157.out 1; have hfz98_2 := blk_frozen BK157.out 2))
                              refine bodyPost_ret (results_ctt rfl _ _ gb157 35 #[.int .i64 1, .string (a0.extract (a1 : Int).toNat (x9_77 : Int).toNat), .int .i64 a1] (0, 0) _ rfl (by (with_reducible repeat (first | refine blk_drewN ?_ _ | refine blk_drew ?_ | refine blk_alloc ?_ _)); refine blk_put (cs := #[.int .i64 1, .string (a0.extract (a1 : Int).toNat (x9_77 : Int).toNat), .int .i64 0]) ?_ 2 _ rfl; (with_reducible repeat (first | refine blk_drewN ?_ _ | refine blk_drew ?_ | refine blk_alloc ?_ _)); refine blk_put (cs := #[.int .i64 1, .string (⟨#[]⟩ : ByteArray), .int .i64 0]) ?_ 1 _ rfl; (with_reducible repeat (first | refine blk_drewN ?_ _ | refine blk_drew ?_ | refine blk_alloc ?_ _)); refine blk_put (cs := #[.int .i64 0, .string (⟨#[]⟩ : ByteArray), .int .i64 0]) ?_ 0 _ rfl; (with_reducible repeat (first | refine blk_drewN ?_ _ | refine blk_drew ?_ | refine blk_alloc ?_ _)); refine blk_far ?_ NB157_167.out _; (with_reducible repeat (first | refine blk_drewN ?_ _ | refine blk_drew ?_ | refine blk_alloc ?_ _)); refine blk_far ?_ NB157_167.out _; (with_reducible repeat (first | refine blk_drewN ?_ _ | refine blk_drew ?_ | refine blk_alloc ?_ _)); refine blk_far ?_ NB157_167.out _; (with_reducible repeat (first | refine blk_drewN ?_ _ | refine blk_drew ?_ | refine blk_alloc ?_ _)); exact BK157.out) Try.underlying35 rfl (by kernel_rfl)) rfl ?_
                              exact ⟨by first | rfl | (simp [errW_none, errW_some] <;> rfl) | (simp [*, errW_none, errW_some] <;> rfl), by repeat (first | (with_reducible first | exact HB.out | apply below_alloc | apply pw_below_drewN | apply below_drew1 | refine below_set ?_ GE157.out | refine below_set ?_ GE167.out) | exact HB.out)⟩
                          · rw [if_neg c88] at H
                            exact absurd H (by simp)
                        · rw [if_neg c87] at H
                          exact absurd H (by simp)
                      · rw [if_neg c86] at H
                        exact absurd H (by simp)
              · replace c77 := Bool.eq_false_iff.mpr c77
                subst c77
                have H1 : (some (0, (⟨#[]⟩ : ByteArray), 0, a1, 10)) = some (r1, r2, r3, r4, r5) := by rw [if_neg (show ¬ (false = true) by decide)] at H; exact H
                clear H
                have H := H1
                clear H1
                simp only [Option.some.injEq, Prod.mk.injEq] at H
                obtain ⟨rfl, rfl, rfl, rfl, rfl⟩ := H
                go_wp2_with (first | ((with_reducible refine gate_callee (f := 28) rfl ?_); refine goesL_ (some 36) rfl rfl Try.func28 (by kernel_rfl) rfl #[.int .u8 (bt a0 a1)] rfl (by (try simp only [List.map_toArray, List.map_cons, List.map_nil]); first | done | rfl | (simp only [List.length_drop, List.length_take]; rfl)) ?_; (with_reducible refine (insolvencyref9_digit.calls (bt a0 a1) false _ A15.out).mono ?_); rintro e w' ⟨rfl, ⟨nd, rfl⟩⟩; refine ⟨_, rfl, ?_⟩; (try (rw [drewN_self wc]; generalize hq_ : World.drewN wc _ = wc; have n0_ : Aside0 (wc.heap[gb157]? = some (.cells #[.int .i64 0, .string (⟨#[]⟩ : ByteArray), .int .i64 0] 35 (0, 0))) := ⟨by rw [← hq_]; exact (by (with_reducible repeat (first | refine blk_drewN ?_ _ | refine blk_drew ?_ | refine blk_alloc ?_ _)); exact BK157.out)⟩; have n1_ : Aside0 (Below w.heap.size w wc) := ⟨by rw [← hq_]; exact (by repeat (first | (with_reducible first | exact HB.out | apply below_alloc | apply pw_below_drewN | apply below_drew1 | refine below_set ?_ GE157.out) | exact HB.out))⟩; clear BK157 HB hq_; have BK157 := n0_; have HB := n1_; clear n0_ n1_))) | ((with_reducible refine gate_callee (f := 30) rfl ?_); refine goesL_ (some 101) rfl rfl Try.func30 (by kernel_rfl) rfl #[.int .u8 (bt a0 a1)] rfl (by (try simp only [List.map_toArray, List.map_cons, List.map_nil]); first | done | rfl | (simp only [List.length_drop, List.length_take]; rfl)) ?_; (with_reducible refine (insolvencyref9_letter.calls (bt a0 a1) false _ A76.out).mono ?_); rintro e w' ⟨rfl, ⟨nd, rfl⟩⟩; refine ⟨_, rfl, ?_⟩; (try (rw [drewN_self wc]; generalize hq_ : World.drewN wc _ = wc; have n0_ : Aside0 (wc.heap[gb157]? = some (.cells #[.int .i64 0, .string (⟨#[]⟩ : ByteArray), .int .i64 0] 35 (0, 0))) := ⟨by rw [← hq_]; exact (by (with_reducible repeat (first | refine blk_drewN ?_ _ | refine blk_drew ?_ | refine blk_alloc ?_ _)); exact BK157.out)⟩; have n1_ : Aside0 (Below w.heap.size w wc) := ⟨by rw [← hq_]; exact (by repeat (first | (with_reducible first | exact HB.out | apply below_alloc | apply pw_below_drewN | apply below_drew1 | refine below_set ?_ GE157.out) | exact HB.out))⟩; clear BK157 HB hq_; have BK157 := n0_; have HB := n1_; clear n0_ n1_)); have hcz99_0 : wc.cell? ⟨gb157, 0, none⟩ = some (.int .i64 0) := (blk_cell BK157.out 0).trans rfl; have hcz99_1 : wc.cell? ⟨gb157, 1, none⟩ = some (.string (⟨#[]⟩ : ByteArray)) := (blk_cell BK157.out 1).trans rfl; have hcz99_2 : wc.cell? ⟨gb157, 2, none⟩ = some (.int .i64 0) := (blk_cell BK157.out 2).trans rfl; have hfz99_0 := blk_frozen BK157.out 0; have hfz99_1 := blk_frozen BK157.out 1; have hfz99_2 := blk_frozen BK157.out 2))
                refine bodyPost_ret (results_ctt rfl _ _ gb157 35 #[.int .i64 0, .string (⟨#[]⟩ : ByteArray), .int .i64 0] (0, 0) _ rfl (by (with_reducible repeat (first | refine blk_drewN ?_ _ | refine blk_drew ?_ | refine blk_alloc ?_ _)); refine blk_put (cs := #[.int .i64 0, .string (⟨#[]⟩ : ByteArray), .int .i64 0]) ?_ 2 _ rfl; (with_reducible repeat (first | refine blk_drewN ?_ _ | refine blk_drew ?_ | refine blk_alloc ?_ _)); refine blk_put (cs := #[.int .i64 0, .string (⟨#[]⟩ : ByteArray), .int .i64 0]) ?_ 1 _ rfl; (with_reducible repeat (first | refine blk_drewN ?_ _ | refine blk_drew ?_ | refine blk_alloc ?_ _)); refine blk_put (cs := #[.int .i64 0, .string (⟨#[]⟩ : ByteArray), .int .i64 0]) ?_ 0 _ rfl; (with_reducible repeat (first | refine blk_drewN ?_ _ | refine blk_drew ?_ | refine blk_alloc ?_ _)); exact BK157.out) Try.underlying35 rfl (by kernel_rfl)) rfl ?_
                exact ⟨by first | rfl | (simp [errW_none, errW_some] <;> rfl) | (simp [*, errW_none, errW_some] <;> rfl), by repeat (first | (with_reducible first | exact HB.out | apply below_alloc | apply pw_below_drewN | apply below_drew1 | refine below_set ?_ GE157.out) | exact HB.out)⟩
    · rw [if_neg c4] at H
      exact absurd H (by simp)
  · rw [if_neg c3] at H
    exact absurd H (by simp)

end Go.Proofs.Ytffgmmgfofbmlaa.PA
