/- Texts of this claim, made small by a program of mine (wip/tools/small.py): words that the kit's print tool writes, walks, and what they rest on. -/
import Derived.Test.YtfnfjmeiaamheaaDoorRate4
set_option linter.unusedVariables false
set_option linter.unusedSimpArgs false
namespace Go.Proofs.YtfnfjmeiaamheaaDoor.PA
open Go.RowKit Go.Proofs.YtfnfjmeiaamheaaDoorW.PrintWords Go.Proofs.YtfnfjmeiaamheaaDoorW.PrintLast Go.Proofs.YtfnfjmeiaamheaaDoorW.PrintMore
attribute [local go_sem] max2_int min2_int max_two min_two max_three min_three max_four min_four
mutual
def e1_CheckQuotes.l0 : Nat → List (S33) → Int → Option (Int)
 | 0, _, _ => none
 | k + 1, x0, x3 => if x3 < (x0.length : Int) then (if 0 ≤ x3 then ((e1_IsCode.f k ((rd_T33 x0 x3).f0)).bind fun t568 => (if t568 = true then (e1_CheckQuotes.j1 k x0 x3 (((rd_T33 x0 x3).f0).toList == ([69, 85, 82] : List UInt8))) else (e1_CheckQuotes.j1 k x0 x3 true))) else (none)) else (some 0)
def e1_CheckQuotes.j1 : Nat → List (S33) → Int → Bool → Option (Int)
 | 0, _, _, _ => none
 | k + 1, x0, x3, x28 => if x28 = true then (some 8) else (if 0 ≤ x3 then (if x3 < (x0.length : Int) then ((e1_IsDay.f ((rd_T33 x0 x3).f1)).bind fun t571 => (if t571 = true then ((e1_Sign.f k ((rd_T33 x0 x3).f2.f0) ((rd_T33 x0 x3).f2.f1) ((rd_T33 x0 x3).f2.f2)).bind fun t573 => (e1_CheckQuotes.j2 k x0 x3 (decide (t573 ≤ 0)))) else (e1_CheckQuotes.j2 k x0 x3 true))) else (none)) else (none))
def e1_CheckQuotes.j2 : Nat → List (S33) → Int → Bool → Option (Int)
 | 0, _, _, _ => none
 | k + 1, x0, x3, x44 => if x44 = true then (some 1) else (e1_CheckQuotes.l1 k x0 x3 0)
def e1_CheckQuotes.l1 : Nat → List (S33) → Int → Int → Option (Int)
 | 0, _, _, _ => none
 | k + 1, x0, x3, x4 => if x4 < x3 then (if 0 ≤ x4 then (if x4 < (x0.length : Int) then (if 0 ≤ x3 then (if x3 < (x0.length : Int) then (if ((rd_T33 x0 x4).f0).toList = ((rd_T33 x0 x3).f0).toList then (if ((rd_T33 x0 x4).f1) = ((rd_T33 x0 x3).f1) then (some 12) else (e1_CheckQuotes.l1 k x0 x3 (wrap64 (x4 + 1)))) else (e1_CheckQuotes.l1 k x0 x3 (wrap64 (x4 + 1)))) else (none)) else (none)) else (none)) else (none)) else (e1_CheckQuotes.l0 k x0 (wrap64 (x3 + 1)))
end
def e1_CheckQuotes.f (k : Nat) (l0 : List (S33)) : Option (Int) := if (l0.length : Int) > 256 then (some 2) else (e1_CheckQuotes.l0 k l0 0)
set_option maxHeartbeats 8000000 in
set_option maxRecDepth 100000 in
theorem e1_CheckQuotes.calls (k : Nat) (A0 : Option Addr) (c0 : Nat) (l0 : List (S33)) (r : Int) (w : World) (hr0 : Kd.C k33 w A0 l0.length l0) (hc0 : l0.length ≤ c0) (h : e1_CheckQuotes.f k l0 = some r) :
  Calls Tryd.prog 13 #[.slice A0 l0.length c0] w fun e w' => e = .returned (.int .i64 r) ∧ Below w.heap.size w w' := by
 have hu30 := Tryd.underlying30
 have HR0 := Aside0.mk hr0
 have HC0 := Aside0.mk hc0
 clear hr0 hc0
 have HB := Aside0.mk (Below.refl w.heap.size w)
 have H : (if (l0.length : Int) > 256 then (some 2) else (e1_CheckQuotes.l0 k l0 0)) = some r := h
 clear h
 by_cases c2 : (l0.length : Int) > 256
 ·rw [if_pos c2] at H
  have c2b0 : decide (256 < (l0.length : Int)) = true := decide_eq_true c2
  have c2b1 : decide (256 < l0.length) = true := decide_eq_true (by omega)
  clear c2
  obtain rfl := Option.some.inj H
  go_enter Tryd.func13, Tryd.ntmps13
  go_wp2
  go_ret
  exact ⟨by first | rfl | (simp [errW_none, errW_some] <;> rfl) | (simp [*, errW_none, errW_some] <;> rfl), bq HB.out⟩
 rw [if_neg c2] at H
 have c2b0 : decide (256 < (l0.length : Int)) = false := decide_eq_false c2
 have c2b1 : decide (256 < l0.length) = false := decide_eq_false (by omega)
 clear c2
 have H' := Aside0.mk H
 clear H
 go_enter Tryd.func13, Tryd.ntmps13
 go_wp2
 go_loopg [3] k (fun kq v3 w' => ∃ (x3_1 : Int), v3 = .int .i64 x3_1 ∧ Aside0 (e1_CheckQuotes.l0 kq l0 x3_1 = some r) ∧ Aside0 (kq ≤ k) ∧ Aside0 (Below w.heap.size w w'))
 case atStart => exact ⟨(0), (by first | rfl | (simp; done) | (simp [*]; done)), H', ⟨Nat.le_refl _⟩, ⟨bq HB.out⟩⟩
 case round =>
  clear H'
  try clear c1
  try clear c2
  try clear c2b0
  try clear c2b1
  try clear p2
  obtain ⟨x3_1, rfl, HA, HK1, HB⟩ := hrel
  cases gk with
  | zero => exact absurd HA.out (by simp [e1_CheckQuotes.l0])
  | succ k1 =>
   have H := HA.out
   clear HA
   simp only [e1_CheckQuotes.l0] at H
   by_cases c3 : x3_1 < (l0.length : Int)
   rotate_left
   ·rw [if_neg c3] at H
    have c3b0 := decide_eq_false c3
    clear c3
    obtain rfl := Option.some.inj H
    go_wp2
    go_ret
    exact ⟨by first | rfl | (simp [errW_none, errW_some] <;> rfl) | (simp [*, errW_none, errW_some] <;> rfl), bq HB.out⟩
   rw [if_pos c3] at H
   have c3b0 := decide_eq_true c3
   clear c3
   have HC4 := Aside0.mk H
   clear H
   go_upto_region 6 with (fail)
   go_cut [28] (fun v28 wc => ∃ (kq : Nat) (x28_3 : Bool), v28 = .bool x28_3 ∧ Aside0 (e1_CheckQuotes.j1 kq l0 x3_1 x28_3 = some r) ∧ Aside0 (kq ≤ k1) ∧ Aside0 (Below w.heap.size w wc))
   case first =>
    have H := HC4.out
    clear HC4
    by_cases c5 : 0 ≤ x3_1
    rotate_left
    ·rw [if_neg c5] at H
     exact absurd H (by simp)
    rw [if_pos c5] at H
    have c5b0 := decide_eq_true c5
    clear c5
    (first | rw [c5b0] | (simp only [i64_w, i32_w]; rw [c5b0]) | skip)
    replace H := Option.bind_eq_some_iff.mp H
    obtain ⟨t568, A60, H⟩ := H
    try dsimp only at H
    have A6 := Aside0.mk A60
    clear A60
    by_cases c7 : t568 = true
    rotate_left
    ·replace c7 := Bool.eq_false_iff.mpr c7
     subst c7
     rw [if_neg (show ¬ (false = true) by decide)] at H
     have H' := Aside0.mk H
     clear H
     have p567 : 0 ≤ (x3_1 : Int) := odt
     have q567 : x3_1 < (l0.length : Int) := odt
     obtain ⟨ad567, e567, hx567_0, hx567_1, hx567_2, hx567_3, hx567_4⟩ := at_T33 HR0.out x3_1 p567 q567
     cases e567
     replace hx567_0 := (HB.out.cell (World.block_lt_of_cell? w _ hx567_0)).trans hx567_0
     replace hx567_1 := (HB.out.cell (World.block_lt_of_cell? w _ hx567_1)).trans hx567_1
     replace hx567_2 := (HB.out.cell (World.block_lt_of_cell? w _ hx567_2)).trans hx567_2
     replace hx567_3 := (HB.out.cell (World.block_lt_of_cell? w _ hx567_3)).trans hx567_3
     replace hx567_4 := (HB.out.cell (World.block_lt_of_cell? w _ hx567_4)).trans hx567_4
     replace p567 := eq_true p567
     replace q567 := eq_true q567
     go_wp2_with (first | (go_at_call 27; (with_reducible refine (e1_IsCode.calls k1 ((rd_T33 l0 x3_1).f0) false _ A6.out).mono ?_); rintro e w' ⟨rfl, ⟨nd, rfl⟩⟩; (try first | exact ⟨rfl, _, World.drewN_drewN _ _ _⟩ | exact ⟨rfl, _, Eq.trans (World.drewN_drewN _ _ _) (congrArg (World.drewN _) (Nat.add_assoc _ _ _))⟩)))
     go_meet
     case rel => exact ⟨_, (true), (by first | rfl | (simp; done) | (simp [*]; done)), H', ⟨by have := HK1.out; first | omega | exact Nat.le_refl _⟩, ⟨bq HB.out⟩⟩
    subst c7
    rw [if_pos rfl] at H
    have H' := Aside0.mk H
    clear H
    have p567 : 0 ≤ (x3_1 : Int) := odt
    have q567 : x3_1 < (l0.length : Int) := odt
    obtain ⟨ad567, e567, hx567_0, hx567_1, hx567_2, hx567_3, hx567_4⟩ := at_T33 HR0.out x3_1 p567 q567
    cases e567
    replace hx567_0 := (HB.out.cell (World.block_lt_of_cell? w _ hx567_0)).trans hx567_0
    replace hx567_1 := (HB.out.cell (World.block_lt_of_cell? w _ hx567_1)).trans hx567_1
    replace hx567_2 := (HB.out.cell (World.block_lt_of_cell? w _ hx567_2)).trans hx567_2
    replace hx567_3 := (HB.out.cell (World.block_lt_of_cell? w _ hx567_3)).trans hx567_3
    replace hx567_4 := (HB.out.cell (World.block_lt_of_cell? w _ hx567_4)).trans hx567_4
    replace p567 := eq_true p567
    replace q567 := eq_true q567
    go_wp2_with (first | (go_at_call 27; (with_reducible refine (e1_IsCode.calls k1 ((rd_T33 l0 x3_1).f0) true _ A6.out).mono ?_); rintro e w' ⟨rfl, ⟨nd, rfl⟩⟩; (try first | exact ⟨rfl, _, World.drewN_drewN _ _ _⟩ | exact ⟨rfl, _, Eq.trans (World.drewN_drewN _ _ _) (congrArg (World.drewN _) (Nat.add_assoc _ _ _))⟩); have p569 : 0 ≤ (x3_1 : Int) := odt; have q569 : x3_1 < (l0.length : Int) := odt; obtain ⟨ad569, e569, hx569_0, hx569_1, hx569_2, hx569_3, hx569_4⟩ := at_T33 HR0.out x3_1 p569 q569; obtain rfl : ad567 = ad569 := (by injection e569); replace hx569_0 := (HB.out.cell (World.block_lt_of_cell? w _ hx569_0)).trans hx569_0; replace hx569_1 := (HB.out.cell (World.block_lt_of_cell? w _ hx569_1)).trans hx569_1; replace hx569_2 := (HB.out.cell (World.block_lt_of_cell? w _ hx569_2)).trans hx569_2; replace hx569_3 := (HB.out.cell (World.block_lt_of_cell? w _ hx569_3)).trans hx569_3; replace hx569_4 := (HB.out.cell (World.block_lt_of_cell? w _ hx569_4)).trans hx569_4; replace p569 := eq_true p569; replace q569 := eq_true q569))
    go_meet
    case rel => exact ⟨_, ((((rd_T33 l0 x3_1).f0).toList == ([69, 85, 82] : List UInt8))), (by first | rfl | (simp; done) | (simp [*]; done)), H', ⟨by have := HK1.out; first | omega | exact Nat.le_refl _⟩, ⟨bq HB.out⟩⟩
   case rest =>
    clear HC4
    try clear c1
    try clear c2
    try clear c2b0
    try clear c2b1
    try clear p2
    try clear c3
    try clear c3b0
    try clear c5
    try clear c5b0
    try clear p5
    try clear q5
    try clear hx5
    try clear c7
    try clear hx567_0
    try clear hx567_1
    try clear hx567_2
    try clear hx567_3
    try clear hx567_4
    try clear hx569_0
    try clear hx569_1
    try clear hx569_2
    try clear hx569_3
    try clear hx569_4
    try clear p2
    try clear p567
    try clear p569
    try clear q567
    try clear q569
    obtain ⟨kq, x28_3, rfl, HA, HJ3, HB⟩ := hcut
    cases kq with
    | zero => exact absurd HA.out (by simp [e1_CheckQuotes.j1])
    | succ kj3 =>
     have H := HA.out
     clear HA
     simp only [e1_CheckQuotes.j1] at H
     by_cases c8 : x28_3 = true
     ·subst c8
      rw [if_pos rfl] at H
      obtain rfl := Option.some.inj H
      go_wp2
      go_ret
      exact ⟨by first | rfl | (simp [errW_none, errW_some] <;> rfl) | (simp [*, errW_none, errW_some] <;> rfl), bq HB.out⟩
     replace c8 := Bool.eq_false_iff.mpr c8
     subst c8
     rw [if_neg (show ¬ (false = true) by decide)] at H
     have HC9 := Aside0.mk H
     clear H
     go_upto_region 8 with (fail)
     go_cut [44] (fun v44 wc => ∃ (kq : Nat) (x44_8 : Bool), v44 = .bool x44_8 ∧ Aside0 (e1_CheckQuotes.j2 kq l0 x3_1 x44_8 = some r) ∧ Aside0 (kq ≤ kj3) ∧ Aside0 (Below w.heap.size w wc))
     case first =>
      have H := HC9.out
      clear HC9
      by_cases c10 : 0 ≤ x3_1
      rotate_left
      ·rw [if_neg c10] at H
       exact absurd H (by simp)
      rw [if_pos c10] at H
      have c10b0 := decide_eq_true c10
      clear c10
      (first | rw [c10b0] | (simp only [i64_w, i32_w]; rw [c10b0]) | skip)
      by_cases c11 : x3_1 < (l0.length : Int)
      rotate_left
      ·rw [if_neg c11] at H
       exact absurd H (by simp)
      rw [if_pos c11] at H
      have c11b0 := decide_eq_true c11
      clear c11
      replace H := Option.bind_eq_some_iff.mp H
      obtain ⟨t571, A120, H⟩ := H
      try dsimp only at H
      have A12 := Aside0.mk A120
      clear A120
      by_cases c13 : t571 = true
      rotate_left
      ·replace c13 := Bool.eq_false_iff.mpr c13
       subst c13
       rw [if_neg (show ¬ (false = true) by decide)] at H
       have H' := Aside0.mk H
       clear H
       have p570 : 0 ≤ (x3_1 : Int) := odt
       have q570 : x3_1 < (l0.length : Int) := odt
       obtain ⟨ad570, e570, hx570_0, hx570_1, hx570_2, hx570_3, hx570_4⟩ := at_T33 HR0.out x3_1 p570 q570
       cases e570
       replace hx570_0 := (HB.out.cell (World.block_lt_of_cell? w _ hx570_0)).trans hx570_0
       replace hx570_1 := (HB.out.cell (World.block_lt_of_cell? w _ hx570_1)).trans hx570_1
       replace hx570_2 := (HB.out.cell (World.block_lt_of_cell? w _ hx570_2)).trans hx570_2
       replace hx570_3 := (HB.out.cell (World.block_lt_of_cell? w _ hx570_3)).trans hx570_3
       replace hx570_4 := (HB.out.cell (World.block_lt_of_cell? w _ hx570_4)).trans hx570_4
       replace p570 := eq_true p570
       replace q570 := eq_true q570
       go_wp2_with (first | (go_at_call 28; (with_reducible refine (e1_IsDay.calls ((rd_T33 l0 x3_1).f1) false _ A12.out).mono ?_); rintro e w' ⟨rfl, ⟨nd, rfl⟩⟩; (try first | exact ⟨rfl, _, World.drewN_drewN _ _ _⟩ | exact ⟨rfl, _, Eq.trans (World.drewN_drewN _ _ _) (congrArg (World.drewN _) (Nat.add_assoc _ _ _))⟩)))
       go_meet
       case rel => exact ⟨_, (true), (by first | rfl | (simp; done) | (simp [*]; done)), H', ⟨by have := HK1.out; have := HJ3.out; first | omega | exact Nat.le_refl _⟩, ⟨bq HB.out⟩⟩
      subst c13
      rw [if_pos rfl] at H
      replace H := Option.bind_eq_some_iff.mp H
      obtain ⟨t573, A140, H⟩ := H
      try dsimp only at H
      have A14 := Aside0.mk A140
      clear A140
      have H' := Aside0.mk H
      clear H
      have p570 : 0 ≤ (x3_1 : Int) := odt
      have q570 : x3_1 < (l0.length : Int) := odt
      obtain ⟨ad570, e570, hx570_0, hx570_1, hx570_2, hx570_3, hx570_4⟩ := at_T33 HR0.out x3_1 p570 q570
      cases e570
      replace hx570_0 := (HB.out.cell (World.block_lt_of_cell? w _ hx570_0)).trans hx570_0
      replace hx570_1 := (HB.out.cell (World.block_lt_of_cell? w _ hx570_1)).trans hx570_1
      replace hx570_2 := (HB.out.cell (World.block_lt_of_cell? w _ hx570_2)).trans hx570_2
      replace hx570_3 := (HB.out.cell (World.block_lt_of_cell? w _ hx570_3)).trans hx570_3
      replace hx570_4 := (HB.out.cell (World.block_lt_of_cell? w _ hx570_4)).trans hx570_4
      replace p570 := eq_true p570
      replace q570 := eq_true q570
      go_wp2_with (first | (go_at_call 28; (with_reducible refine (e1_IsDay.calls ((rd_T33 l0 x3_1).f1) true _ A12.out).mono ?_); rintro e w' ⟨rfl, ⟨nd, rfl⟩⟩; (try first | exact ⟨rfl, _, World.drewN_drewN _ _ _⟩ | exact ⟨rfl, _, Eq.trans (World.drewN_drewN _ _ _) (congrArg (World.drewN _) (Nat.add_assoc _ _ _))⟩); have p572 : 0 ≤ (x3_1 : Int) := odt; have q572 : x3_1 < (l0.length : Int) := odt; obtain ⟨ad572, e572, hx572_0, hx572_1, hx572_2, hx572_3, hx572_4⟩ := at_T33 HR0.out x3_1 p572 q572; obtain rfl : ad570 = ad572 := (by injection e572); replace hx572_0 := (HB.out.cell (World.block_lt_of_cell? w _ hx572_0)).trans hx572_0; replace hx572_1 := (HB.out.cell (World.block_lt_of_cell? w _ hx572_1)).trans hx572_1; replace hx572_2 := (HB.out.cell (World.block_lt_of_cell? w _ hx572_2)).trans hx572_2; replace hx572_3 := (HB.out.cell (World.block_lt_of_cell? w _ hx572_3)).trans hx572_3; replace hx572_4 := (HB.out.cell (World.block_lt_of_cell? w _ hx572_4)).trans hx572_4; replace p572 := eq_true p572; replace q572 := eq_true q572) | (go_at_call 29; (with_reducible refine (e1_Sign.calls kj3 ((rd_T33 l0 x3_1).f2.f0) ((rd_T33 l0 x3_1).f2.f1) ((rd_T33 l0 x3_1).f2.f2) t573 _ A14.out).mono ?_); rintro e w15 ⟨rfl, hb⟩; replace HB := am (below_step (bq HB.out) hb); (try clear hb)))
      go_meet
      case rel => exact ⟨_, (decide (t573 ≤ 0)), (by first | rfl | (simp; done) | (simp [*]; done)), H', ⟨by have := HK1.out; have := HJ3.out; first | omega | exact Nat.le_refl _⟩, ⟨bq HB.out⟩⟩
     case rest =>
      clear HC9
      try clear c1
      try clear c2
      try clear c2b0
      try clear c2b1
      try clear p2
      try clear c3
      try clear c3b0
      try clear c5
      try clear c5b0
      try clear p5
      try clear q5
      try clear hx5
      try clear c7
      try clear c8
      try clear c10
      try clear c10b0
      try clear c11
      try clear c11b0
      try clear c13
      try clear hx567_0
      try clear hx567_1
      try clear hx567_2
      try clear hx567_3
      try clear hx567_4
      try clear hx569_0
      try clear hx569_1
      try clear hx569_2
      try clear hx569_3
      try clear hx569_4
      try clear hx570_0
      try clear hx570_1
      try clear hx570_2
      try clear hx570_3
      try clear hx570_4
      try clear hx572_0
      try clear hx572_1
      try clear hx572_2
      try clear hx572_3
      try clear hx572_4
      try clear p2
      try clear p5
      try clear p567
      try clear p569
      try clear p570
      try clear p572
      try clear q5
      try clear q567
      try clear q569
      try clear q570
      try clear q572
      obtain ⟨kq, x44_8, rfl, HA, HJ8, HB⟩ := hcut
      cases kq with
      | zero => exact absurd HA.out (by simp [e1_CheckQuotes.j2])
      | succ kj8 =>
       have H := HA.out
       clear HA
       simp only [e1_CheckQuotes.j2] at H
       by_cases c16 : x44_8 = true
       ·subst c16
        rw [if_pos rfl] at H
        obtain rfl := Option.some.inj H
        go_wp2
        go_ret
        exact ⟨by first | rfl | (simp [errW_none, errW_some] <;> rfl) | (simp [*, errW_none, errW_some] <;> rfl), bq HB.out⟩
       replace c16 := Bool.eq_false_iff.mpr c16
       subst c16
       rw [if_neg (show ¬ (false = true) by decide)] at H
       have H' := Aside0.mk H
       clear H
       go_wp2
       go_loopg [4] kj8 (fun kq v4 w' => ∃ (x4_4 : Int), v4 = .int .i64 x4_4 ∧ Aside0 (e1_CheckQuotes.l1 kq l0 x3_1 x4_4 = some r) ∧ Aside0 (kq ≤ kj8) ∧ Aside0 (Below w.heap.size w w'))
       case atStart => exact ⟨(0), (by first | rfl | (simp; done) | (simp [*]; done)), H', ⟨Nat.le_refl _⟩, ⟨bq HB.out⟩⟩
       case round =>
        clear H'
        try clear c1
        try clear c2
        try clear c2b0
        try clear c2b1
        try clear p2
        try clear c3
        try clear c3b0
        try clear c5
        try clear c5b0
        try clear p5
        try clear q5
        try clear hx5
        try clear c7
        try clear c8
        try clear c10
        try clear c10b0
        try clear c11
        try clear c11b0
        try clear c13
        try clear c16
        try clear hx567_0
        try clear hx567_1
        try clear hx567_2
        try clear hx567_3
        try clear hx567_4
        try clear hx569_0
        try clear hx569_1
        try clear hx569_2
        try clear hx569_3
        try clear hx569_4
        try clear hx570_0
        try clear hx570_1
        try clear hx570_2
        try clear hx570_3
        try clear hx570_4
        try clear hx572_0
        try clear hx572_1
        try clear hx572_2
        try clear hx572_3
        try clear hx572_4
        try clear p2
        try clear p5
        try clear p567
        try clear p569
        try clear p570
        try clear p572
        try clear q5
        try clear q567
        try clear q569
        try clear q570
        try clear q572
        obtain ⟨x4_4, rfl, HA, HK4, HB⟩ := hrel
        cases gk with
        | zero => exact absurd HA.out (by simp [e1_CheckQuotes.l1])
        | succ k4 =>
         have H := HA.out
         clear HA
         simp only [e1_CheckQuotes.l1] at H
         by_cases c17 : x4_4 < x3_1
         rotate_left
         ·rw [if_neg c17] at H
          have c17b0 := decide_eq_false c17
          clear c17
          have H' := Aside0.mk H
          clear H
          go_wp2
          go_roundg k4
          case measure => have := HK1.out; have := HJ3.out; have := HJ8.out; have := HK4.out; omega
          case rel => exact ⟨(wrap64 (x3_1 + 1)), (by first | rfl | (simp; done) | (simp [*]; done)), H', ⟨by have := HK1.out; have := HJ3.out; have := HJ8.out; have := HK4.out; omega⟩, ⟨bq HB.out⟩⟩
         rw [if_pos c17] at H
         have c17b0 := decide_eq_true c17
         clear c17
         by_cases c18 : 0 ≤ x4_4
         rotate_left
         ·rw [if_neg c18] at H
          exact absurd H (by simp)
         rw [if_pos c18] at H
         have c18b0 := decide_eq_true c18
         clear c18
         by_cases c19 : x4_4 < (l0.length : Int)
         rotate_left
         ·rw [if_neg c19] at H
          exact absurd H (by simp)
         rw [if_pos c19] at H
         have c19b0 := decide_eq_true c19
         clear c19
         by_cases c20 : 0 ≤ x3_1
         rotate_left
         ·rw [if_neg c20] at H
          exact absurd H (by simp)
         rw [if_pos c20] at H
         have c20b0 := decide_eq_true c20
         clear c20
         by_cases c21 : x3_1 < (l0.length : Int)
         rotate_left
         ·rw [if_neg c21] at H
          exact absurd H (by simp)
         rw [if_pos c21] at H
         have c21b0 := decide_eq_true c21
         clear c21
         by_cases c22 : ((rd_T33 l0 x4_4).f0).toList = ((rd_T33 l0 x3_1).f0).toList
         rotate_left
         ·rw [if_neg c22] at H
          have c22b0 : (((rd_T33 l0 x4_4).f0).toList == ((rd_T33 l0 x3_1).f0).toList) = false := beq_eq_false_iff_ne.mpr c22
          have c22b1 : (((rd_T33 l0 x4_4).f0).toList != ((rd_T33 l0 x3_1).f0).toList) = true := bne_iff_ne.mpr c22
          have H' := Aside0.mk H
          clear H
          have p574 : 0 ≤ (x4_4 : Int) := odt
          have q574 : x4_4 < (l0.length : Int) := odt
          obtain ⟨ad574, e574, hx574_0, hx574_1, hx574_2, hx574_3, hx574_4⟩ := at_T33 HR0.out x4_4 p574 q574
          cases e574
          replace hx574_0 := (HB.out.cell (World.block_lt_of_cell? w _ hx574_0)).trans hx574_0
          replace hx574_1 := (HB.out.cell (World.block_lt_of_cell? w _ hx574_1)).trans hx574_1
          replace hx574_2 := (HB.out.cell (World.block_lt_of_cell? w _ hx574_2)).trans hx574_2
          replace hx574_3 := (HB.out.cell (World.block_lt_of_cell? w _ hx574_3)).trans hx574_3
          replace hx574_4 := (HB.out.cell (World.block_lt_of_cell? w _ hx574_4)).trans hx574_4
          replace p574 := eq_true p574
          replace q574 := eq_true q574
          have p575 : 0 ≤ (x3_1 : Int) := odt
          have q575 : x3_1 < (l0.length : Int) := odt
          obtain ⟨ad575, e575, hx575_0, hx575_1, hx575_2, hx575_3, hx575_4⟩ := at_T33 HR0.out x3_1 p575 q575
          obtain rfl : ad574 = ad575 := (by injection e575)
          replace hx575_0 := (HB.out.cell (World.block_lt_of_cell? w _ hx575_0)).trans hx575_0
          replace hx575_1 := (HB.out.cell (World.block_lt_of_cell? w _ hx575_1)).trans hx575_1
          replace hx575_2 := (HB.out.cell (World.block_lt_of_cell? w _ hx575_2)).trans hx575_2
          replace hx575_3 := (HB.out.cell (World.block_lt_of_cell? w _ hx575_3)).trans hx575_3
          replace hx575_4 := (HB.out.cell (World.block_lt_of_cell? w _ hx575_4)).trans hx575_4
          replace p575 := eq_true p575
          replace q575 := eq_true q575
          go_wp2
          repeat (go_quiet (fail); try go_wp2)
          go_roundg k4
          case measure => have := HK1.out; have := HJ3.out; have := HJ8.out; have := HK4.out; omega
          case rel => exact ⟨(wrap64 (x4_4 + 1)), (by first | rfl | (simp; done) | (simp [*]; done)), H', ⟨by have := HK1.out; have := HJ3.out; have := HJ8.out; have := HK4.out; omega⟩, ⟨bq HB.out⟩⟩
         rw [if_pos c22] at H
         have c22b0 : (((rd_T33 l0 x4_4).f0).toList == ((rd_T33 l0 x3_1).f0).toList) = true := beq_iff_eq.mpr c22
         have c22b1 : (((rd_T33 l0 x4_4).f0).toList != ((rd_T33 l0 x3_1).f0).toList) = false := bne_eq_false_iff_eq.mpr c22
         clear c22
         by_cases c23 : ((rd_T33 l0 x4_4).f1) = ((rd_T33 l0 x3_1).f1)
         ·rw [if_pos c23] at H
          have c23b0 : (((rd_T33 l0 x4_4).f1) == ((rd_T33 l0 x3_1).f1)) = true := beq_iff_eq.mpr c23
          have c23b1 : (((rd_T33 l0 x4_4).f1) != ((rd_T33 l0 x3_1).f1)) = false := bne_eq_false_iff_eq.mpr c23
          clear c23
          obtain rfl := Option.some.inj H
          have p574 : 0 ≤ (x4_4 : Int) := odt
          have q574 : x4_4 < (l0.length : Int) := odt
          obtain ⟨ad574, e574, hx574_0, hx574_1, hx574_2, hx574_3, hx574_4⟩ := at_T33 HR0.out x4_4 p574 q574
          cases e574
          replace hx574_0 := (HB.out.cell (World.block_lt_of_cell? w _ hx574_0)).trans hx574_0
          replace hx574_1 := (HB.out.cell (World.block_lt_of_cell? w _ hx574_1)).trans hx574_1
          replace hx574_2 := (HB.out.cell (World.block_lt_of_cell? w _ hx574_2)).trans hx574_2
          replace hx574_3 := (HB.out.cell (World.block_lt_of_cell? w _ hx574_3)).trans hx574_3
          replace hx574_4 := (HB.out.cell (World.block_lt_of_cell? w _ hx574_4)).trans hx574_4
          replace p574 := eq_true p574
          replace q574 := eq_true q574
          have p575 : 0 ≤ (x3_1 : Int) := odt
          have q575 : x3_1 < (l0.length : Int) := odt
          obtain ⟨ad575, e575, hx575_0, hx575_1, hx575_2, hx575_3, hx575_4⟩ := at_T33 HR0.out x3_1 p575 q575
          obtain rfl : ad574 = ad575 := (by injection e575)
          replace hx575_0 := (HB.out.cell (World.block_lt_of_cell? w _ hx575_0)).trans hx575_0
          replace hx575_1 := (HB.out.cell (World.block_lt_of_cell? w _ hx575_1)).trans hx575_1
          replace hx575_2 := (HB.out.cell (World.block_lt_of_cell? w _ hx575_2)).trans hx575_2
          replace hx575_3 := (HB.out.cell (World.block_lt_of_cell? w _ hx575_3)).trans hx575_3
          replace hx575_4 := (HB.out.cell (World.block_lt_of_cell? w _ hx575_4)).trans hx575_4
          replace p575 := eq_true p575
          replace q575 := eq_true q575
          have p576 : 0 ≤ (x4_4 : Int) := odt
          have q576 : x4_4 < (l0.length : Int) := odt
          obtain ⟨ad576, e576, hx576_0, hx576_1, hx576_2, hx576_3, hx576_4⟩ := at_T33 HR0.out x4_4 p576 q576
          obtain rfl : ad574 = ad576 := (by injection e576)
          replace hx576_0 := (HB.out.cell (World.block_lt_of_cell? w _ hx576_0)).trans hx576_0
          replace hx576_1 := (HB.out.cell (World.block_lt_of_cell? w _ hx576_1)).trans hx576_1
          replace hx576_2 := (HB.out.cell (World.block_lt_of_cell? w _ hx576_2)).trans hx576_2
          replace hx576_3 := (HB.out.cell (World.block_lt_of_cell? w _ hx576_3)).trans hx576_3
          replace hx576_4 := (HB.out.cell (World.block_lt_of_cell? w _ hx576_4)).trans hx576_4
          replace p576 := eq_true p576
          replace q576 := eq_true q576
          have p577 : 0 ≤ (x3_1 : Int) := odt
          have q577 : x3_1 < (l0.length : Int) := odt
          obtain ⟨ad577, e577, hx577_0, hx577_1, hx577_2, hx577_3, hx577_4⟩ := at_T33 HR0.out x3_1 p577 q577
          obtain rfl : ad574 = ad577 := (by injection e577)
          replace hx577_0 := (HB.out.cell (World.block_lt_of_cell? w _ hx577_0)).trans hx577_0
          replace hx577_1 := (HB.out.cell (World.block_lt_of_cell? w _ hx577_1)).trans hx577_1
          replace hx577_2 := (HB.out.cell (World.block_lt_of_cell? w _ hx577_2)).trans hx577_2
          replace hx577_3 := (HB.out.cell (World.block_lt_of_cell? w _ hx577_3)).trans hx577_3
          replace hx577_4 := (HB.out.cell (World.block_lt_of_cell? w _ hx577_4)).trans hx577_4
          replace p577 := eq_true p577
          replace q577 := eq_true q577
          go_wp2
          repeat (go_quiet (fail); try go_wp2)
          go_ret
          exact ⟨by first | rfl | (simp [errW_none, errW_some] <;> rfl) | (simp [*, errW_none, errW_some] <;> rfl), bq HB.out⟩
         rw [if_neg c23] at H
         have c23b0 : (((rd_T33 l0 x4_4).f1) == ((rd_T33 l0 x3_1).f1)) = false := beq_eq_false_iff_ne.mpr c23
         have c23b1 : (((rd_T33 l0 x4_4).f1) != ((rd_T33 l0 x3_1).f1)) = true := bne_iff_ne.mpr c23
         have H' := Aside0.mk H
         clear H
         have p574 : 0 ≤ (x4_4 : Int) := odt
         have q574 : x4_4 < (l0.length : Int) := odt
         obtain ⟨ad574, e574, hx574_0, hx574_1, hx574_2, hx574_3, hx574_4⟩ := at_T33 HR0.out x4_4 p574 q574
         cases e574
         replace hx574_0 := (HB.out.cell (World.block_lt_of_cell? w _ hx574_0)).trans hx574_0
         replace hx574_1 := (HB.out.cell (World.block_lt_of_cell? w _ hx574_1)).trans hx574_1
         replace hx574_2 := (HB.out.cell (World.block_lt_of_cell? w _ hx574_2)).trans hx574_2
         replace hx574_3 := (HB.out.cell (World.block_lt_of_cell? w _ hx574_3)).trans hx574_3
         replace hx574_4 := (HB.out.cell (World.block_lt_of_cell? w _ hx574_4)).trans hx574_4
         replace p574 := eq_true p574
         replace q574 := eq_true q574
         have p575 : 0 ≤ (x3_1 : Int) := odt
         have q575 : x3_1 < (l0.length : Int) := odt
         obtain ⟨ad575, e575, hx575_0, hx575_1, hx575_2, hx575_3, hx575_4⟩ := at_T33 HR0.out x3_1 p575 q575
         obtain rfl : ad574 = ad575 := (by injection e575)
         replace hx575_0 := (HB.out.cell (World.block_lt_of_cell? w _ hx575_0)).trans hx575_0
         replace hx575_1 := (HB.out.cell (World.block_lt_of_cell? w _ hx575_1)).trans hx575_1
         replace hx575_2 := (HB.out.cell (World.block_lt_of_cell? w _ hx575_2)).trans hx575_2
         replace hx575_3 := (HB.out.cell (World.block_lt_of_cell? w _ hx575_3)).trans hx575_3
         replace hx575_4 := (HB.out.cell (World.block_lt_of_cell? w _ hx575_4)).trans hx575_4
         replace p575 := eq_true p575
         replace q575 := eq_true q575
         have p576 : 0 ≤ (x4_4 : Int) := odt
         have q576 : x4_4 < (l0.length : Int) := odt
         obtain ⟨ad576, e576, hx576_0, hx576_1, hx576_2, hx576_3, hx576_4⟩ := at_T33 HR0.out x4_4 p576 q576
         obtain rfl : ad574 = ad576 := (by injection e576)
         replace hx576_0 := (HB.out.cell (World.block_lt_of_cell? w _ hx576_0)).trans hx576_0
         replace hx576_1 := (HB.out.cell (World.block_lt_of_cell? w _ hx576_1)).trans hx576_1
         replace hx576_2 := (HB.out.cell (World.block_lt_of_cell? w _ hx576_2)).trans hx576_2
         replace hx576_3 := (HB.out.cell (World.block_lt_of_cell? w _ hx576_3)).trans hx576_3
         replace hx576_4 := (HB.out.cell (World.block_lt_of_cell? w _ hx576_4)).trans hx576_4
         replace p576 := eq_true p576
         replace q576 := eq_true q576
         have p577 : 0 ≤ (x3_1 : Int) := odt
         have q577 : x3_1 < (l0.length : Int) := odt
         obtain ⟨ad577, e577, hx577_0, hx577_1, hx577_2, hx577_3, hx577_4⟩ := at_T33 HR0.out x3_1 p577 q577
         obtain rfl : ad574 = ad577 := (by injection e577)
         replace hx577_0 := (HB.out.cell (World.block_lt_of_cell? w _ hx577_0)).trans hx577_0
         replace hx577_1 := (HB.out.cell (World.block_lt_of_cell? w _ hx577_1)).trans hx577_1
         replace hx577_2 := (HB.out.cell (World.block_lt_of_cell? w _ hx577_2)).trans hx577_2
         replace hx577_3 := (HB.out.cell (World.block_lt_of_cell? w _ hx577_3)).trans hx577_3
         replace hx577_4 := (HB.out.cell (World.block_lt_of_cell? w _ hx577_4)).trans hx577_4
         replace p577 := eq_true p577
         replace q577 := eq_true q577
         go_wp2
         repeat (go_quiet (fail); try go_wp2)
         go_roundg k4
         case measure => have := HK1.out; have := HJ3.out; have := HJ8.out; have := HK4.out; omega
         case rel => exact ⟨(wrap64 (x4_4 + 1)), (by first | rfl | (simp; done) | (simp [*]; done)), H', ⟨by have := HK1.out; have := HJ3.out; have := HJ8.out; have := HK4.out; omega⟩, ⟨bq HB.out⟩⟩
def l0_Few.f (a0_0 : Bool) (a0_1 : ByteArray) (a0_2 : ByteArray) : Option (Bool) := if (a0_1.size : Int) ≤ 24 then (some (decide ((a0_2.size : Int) ≤ 24))) else (some false)
set_option maxHeartbeats 8000000 in
set_option maxRecDepth 100000 in
theorem l0_Few.calls (a0_0 : Bool) (a0_1 : ByteArray) (a0_2 : ByteArray) (r : Bool) (w : World) (h : l0_Few.f a0_0 a0_1 a0_2 = some r) :
  Calls Tryd.prog 19 #[.agg #[.bool a0_0, .string a0_1, .string a0_2]] w fun e w' => e = .returned (.bool r) ∧ Below w.heap.size w w' := by
 have hu30 := Tryd.underlying30
 have HB := Aside0.mk (Below.refl w.heap.size w)
 have H : (if (a0_1.size : Int) ≤ 24 then (some (decide ((a0_2.size : Int) ≤ 24))) else (some false)) = some r := h
 clear h
 by_cases c2 : (a0_1.size : Int) ≤ 24
 ·rw [if_pos c2] at H
  have c2b0 : decide ((a0_1.size : Int) ≤ 24) = true := decide_eq_true c2
  have c2b1 : decide (a0_1.size ≤ 24) = true := decide_eq_true (by omega)
  clear c2
  obtain rfl := Option.some.inj H
  go_enter Tryd.func19, Tryd.ntmps19
  go_wp2_with (first | ((with_reducible refine gate_dst (N := 1) rfl ?_); (try (refine gate_guard (by rfl) ?_; dsimp only)); refine box_event ?hg (N := 1) ?hd (cs := #[.bool a0_0, .string a0_1, .string a0_2]) (t := 30) ?hr ?_; (case hd => rfl); (case hg => rfl); (case hr => first | (go_simp; done) | (go_simp; rfl)); intro gb101 hg w3 hbox hb; have BK101 := am (hbox); have GW101 := am ((by rw [hg]; exact (below_size (bq HB.out)) : w.heap.size ≤ gb101)); have GE101 := am ((by rw [hg]; exact (below_size (bq HB.out)) : w.heap.size ≤ gb101)); replace HB := am (below_step (bq HB.out) hb); clear hb hbox hg; have hcz4_0 : w3.cell? ⟨gb101, 0, none⟩ = some (.bool a0_0) := (blk_cell BK101.out 0).trans rfl; have hcz4_1 : w3.cell? ⟨gb101, 1, none⟩ = some (.string a0_1) := (blk_cell BK101.out 1).trans rfl; have hcz4_2 : w3.cell? ⟨gb101, 2, none⟩ = some (.string a0_2) := (blk_cell BK101.out 2).trans rfl; have hfz4_0 := blk_frozen BK101.out 0; have hfz4_1 := blk_frozen BK101.out 1; have hfz4_2 := blk_frozen BK101.out 2))
  go_ret
  exact ⟨by first | rfl | (simp [errW_none, errW_some] <;> rfl) | (simp [*, errW_none, errW_some] <;> rfl), bq HB.out⟩
 rw [if_neg c2] at H
 have c2b0 : decide ((a0_1.size : Int) ≤ 24) = false := decide_eq_false c2
 have c2b1 : decide (a0_1.size ≤ 24) = false := decide_eq_false (by omega)
 clear c2
 obtain rfl := Option.some.inj H
 go_enter Tryd.func19, Tryd.ntmps19
 go_wp2_with (first | ((with_reducible refine gate_dst (N := 1) rfl ?_); (try (refine gate_guard (by rfl) ?_; dsimp only)); refine box_event ?hg (N := 1) ?hd (cs := #[.bool a0_0, .string a0_1, .string a0_2]) (t := 30) ?hr ?_; (case hd => rfl); (case hg => rfl); (case hr => first | (go_simp; done) | (go_simp; rfl)); intro gb101 hg w5 hbox hb; have BK101 := am (hbox); have GW101 := am ((by rw [hg]; exact (below_size (bq HB.out)) : w.heap.size ≤ gb101)); have GE101 := am ((by rw [hg]; exact (below_size (bq HB.out)) : w.heap.size ≤ gb101)); replace HB := am (below_step (bq HB.out) hb); clear hb hbox hg; have hcz6_0 : w5.cell? ⟨gb101, 0, none⟩ = some (.bool a0_0) := (blk_cell BK101.out 0).trans rfl; have hcz6_1 : w5.cell? ⟨gb101, 1, none⟩ = some (.string a0_1) := (blk_cell BK101.out 1).trans rfl; have hcz6_2 : w5.cell? ⟨gb101, 2, none⟩ = some (.string a0_2) := (blk_cell BK101.out 2).trans rfl; have hfz6_0 := blk_frozen BK101.out 0; have hfz6_1 := blk_frozen BK101.out 1; have hfz6_2 := blk_frozen BK101.out 2))
 go_ret
 exact ⟨by first | rfl | (simp [errW_none, errW_some] <;> rfl) | (simp [*, errW_none, errW_some] <;> rfl), bq HB.out⟩
def l7_few.l0 : Nat → List (S33) → Int → Int → Option (Bool)
 | 0, _, _, _ => none
 | k + 1, x8, x9, x10 => if x10 < x9 then (if 0 ≤ x10 then (if x10 < (x8.length : Int) then ((l0_Few.f ((rd_T33 x8 x10).f2.f0) ((rd_T33 x8 x10).f2.f1) ((rd_T33 x8 x10).f2.f2)).bind fun t104 => (if t104 = true then (if (((rd_T33 x8 x10).f0).size : Int) > 20 then (some false) else (l7_few.l0 k x8 x9 (wrap64 (x10 + 1)))) else (some false))) else (none)) else (none)) else (some true)
def l7_few.f (k : Nat) (l0 : List (S33)) : Option (Bool) := if (l0.length : Int) > 12 then (some false) else (l7_few.l0 k l0 (l0.length : Int) 0)
set_option maxHeartbeats 8000000 in
set_option maxRecDepth 100000 in
theorem l7_few.calls (k : Nat) (A0 : Option Addr) (c0 : Nat) (l0 : List (S33)) (r : Bool) (w : World) (hr0 : Kd.C k33 w A0 l0.length l0) (hc0 : l0.length ≤ c0) (h : l7_few.f k l0 = some r) :
  Calls Tryd.prog 10 #[.slice A0 l0.length c0] w fun e w' => e = .returned (.bool r) ∧ Below w.heap.size w w' := by
 have hu33 := Tryd.underlying33
 have hu30 := Tryd.underlying30
 have HR0 := Aside0.mk hr0
 have HC0 := Aside0.mk hc0
 clear hr0 hc0
 have HB := Aside0.mk (Below.refl w.heap.size w)
 have H : (if (l0.length : Int) > 12 then (some false) else (l7_few.l0 k l0 (l0.length : Int) 0)) = some r := h
 clear h
 by_cases c2 : (l0.length : Int) > 12
 ·rw [if_pos c2] at H
  have c2b0 : decide (12 < (l0.length : Int)) = true := decide_eq_true c2
  have c2b1 : decide (12 < l0.length) = true := decide_eq_true (by omega)
  clear c2
  obtain rfl := Option.some.inj H
  go_enter Tryd.func10, Tryd.ntmps10
  go_wp2
  go_ret
  exact ⟨by first | rfl | (simp [errW_none, errW_some] <;> rfl) | (simp [*, errW_none, errW_some] <;> rfl), bq HB.out⟩
 rw [if_neg c2] at H
 have c2b0 : decide (12 < (l0.length : Int)) = false := decide_eq_false c2
 have c2b1 : decide (12 < l0.length) = false := decide_eq_false (by omega)
 clear c2
 have H' := Aside0.mk H
 clear H
 go_enter Tryd.func10, Tryd.ntmps10
 go_wp2
 go_loopg [10] k (fun kq v10 w' => ∃ (x10_1 : Int), v10 = .int .i64 x10_1 ∧ Aside0 (l7_few.l0 kq l0 (l0.length : Int) x10_1 = some r) ∧ Aside0 (kq ≤ k) ∧ Aside0 (Below w.heap.size w w'))
 case atStart => exact ⟨(0), (by first | rfl | (simp; done) | (simp [*]; done)), H', ⟨Nat.le_refl _⟩, ⟨bq HB.out⟩⟩
 case round =>
  clear H'
  try clear c1
  try clear c2
  try clear c2b0
  try clear c2b1
  try clear p2
  obtain ⟨x10_1, rfl, HA, HK1, HB⟩ := hrel
  cases gk with
  | zero => exact absurd HA.out (by simp [l7_few.l0])
  | succ k1 =>
   have H := HA.out
   clear HA
   simp only [l7_few.l0] at H
   by_cases c3 : x10_1 < (l0.length : Int)
   rotate_left
   ·rw [if_neg c3] at H
    have c3b0 := decide_eq_false c3
    clear c3
    obtain rfl := Option.some.inj H
    go_wp2
    go_ret
    exact ⟨by first | rfl | (simp [errW_none, errW_some] <;> rfl) | (simp [*, errW_none, errW_some] <;> rfl), bq HB.out⟩
   rw [if_pos c3] at H
   have c3b0 := decide_eq_true c3
   clear c3
   by_cases c4 : 0 ≤ x10_1
   rotate_left
   ·rw [if_neg c4] at H
    exact absurd H (by simp)
   rw [if_pos c4] at H
   have c4b0 := decide_eq_true c4
   clear c4
   by_cases c5 : x10_1 < (l0.length : Int)
   rotate_left
   ·rw [if_neg c5] at H
    exact absurd H (by simp)
   rw [if_pos c5] at H
   have c5b0 := decide_eq_true c5
   clear c5
   replace H := Option.bind_eq_some_iff.mp H
   obtain ⟨t104, A60, H⟩ := H
   try dsimp only at H
   have A6 := Aside0.mk A60
   clear A60
   by_cases c7 : t104 = true
   rotate_left
   ·replace c7 := Bool.eq_false_iff.mpr c7
    subst c7
    rw [if_neg (show ¬ (false = true) by decide)] at H
    obtain rfl := Option.some.inj H
    have p102 : 0 ≤ (x10_1 : Int) := odt
    have q102 : x10_1 < (l0.length : Int) := odt
    obtain ⟨ad102, e102, hx102_0, hx102_1, hx102_2, hx102_3, hx102_4⟩ := at_T33 HR0.out x10_1 p102 q102
    cases e102
    replace hx102_0 := (HB.out.cell (World.block_lt_of_cell? w _ hx102_0)).trans hx102_0
    replace hx102_1 := (HB.out.cell (World.block_lt_of_cell? w _ hx102_1)).trans hx102_1
    replace hx102_2 := (HB.out.cell (World.block_lt_of_cell? w _ hx102_2)).trans hx102_2
    replace hx102_3 := (HB.out.cell (World.block_lt_of_cell? w _ hx102_3)).trans hx102_3
    replace hx102_4 := (HB.out.cell (World.block_lt_of_cell? w _ hx102_4)).trans hx102_4
    replace p102 := eq_true p102
    replace q102 := eq_true q102
    go_wp2_with (first | ((with_reducible refine gate_dst (N := 4) rfl ?_); (try (refine gate_guard (by rfl) ?_; dsimp only)); refine box_event ?hg (N := 4) ?hd (cs := #[.string (⟨#[]⟩ : ByteArray), .int .i64 0, .bool false, .string (⟨#[]⟩ : ByteArray), .string (⟨#[]⟩ : ByteArray)]) (t := 33) ?hr ?_; (case hd => rfl); (case hg => rfl); (case hr => first | (go_simp; done) | (go_simp; rfl)); intro gb103 hg w17 hbox hb; have BK103 := am (hbox); have GW103 := am ((by rw [hg]; exact (below_size (bq HB.out)) : w.heap.size ≤ gb103)); have GE103 := am ((by rw [hg]; exact (below_size (bq HB.out)) : w.heap.size ≤ gb103)); replace HB := am (below_step (bq HB.out) hb); clear hb hbox hg; have hcz18_0 : w17.cell? ⟨gb103, 0, none⟩ = some (.string (⟨#[]⟩ : ByteArray)) := (blk_cell BK103.out 0).trans rfl; have hcz18_1 : w17.cell? ⟨gb103, 1, none⟩ = some (.int .i64 0) := (blk_cell BK103.out 1).trans rfl; have hcz18_2 : w17.cell? ⟨gb103, 2, none⟩ = some (.bool false) := (blk_cell BK103.out 2).trans rfl; have hcz18_3 : w17.cell? ⟨gb103, 3, none⟩ = some (.string (⟨#[]⟩ : ByteArray)) := (blk_cell BK103.out 3).trans rfl; have hcz18_4 : w17.cell? ⟨gb103, 4, none⟩ = some (.string (⟨#[]⟩ : ByteArray)) := (blk_cell BK103.out 4).trans rfl; have hfz18_0 := blk_frozen BK103.out 0; have hfz18_1 := blk_frozen BK103.out 1; have hfz18_2 := blk_frozen BK103.out 2; have hfz18_3 := blk_frozen BK103.out 3; have hfz18_4 := blk_frozen BK103.out 4) | ((with_reducible refine gate_callee (f := 19) rfl ?_); refine goesq (some 16) Tryd.func19 #[.agg #[.bool ((rd_T33 l0 x10_1).f2.f0), .string ((rd_T33 l0 x10_1).f2.f1), .string ((rd_T33 l0 x10_1).f2.f2)]] ?_; (with_reducible refine (l0_Few.calls ((rd_T33 l0 x10_1).f2.f0) ((rd_T33 l0 x10_1).f2.f1) ((rd_T33 l0 x10_1).f2.f2) false _ A6.out).mono ?_); rintro e w19 ⟨rfl, hb⟩; refine ⟨_, rfl, ?_⟩; replace BK103 := am (blk_below (g := gb103) (o := .cells #[.string ((rd_T33 l0 x10_1).f0), .int .i64 ((rd_T33 l0 x10_1).f1), .bool ((rd_T33 l0 x10_1).f2.f0), .string ((rd_T33 l0 x10_1).f2.f1), .string ((rd_T33 l0 x10_1).f2.f2)] 33 (0, 0)) (by (with_reducible repeat (first | refine blk_drewN ?_ _ | refine blk_drew ?_ | refine blk_alloc ?_ _)); refine blk_put (cs := #[.string ((rd_T33 l0 x10_1).f0), .int .i64 ((rd_T33 l0 x10_1).f1), .bool ((rd_T33 l0 x10_1).f2.f0), .string ((rd_T33 l0 x10_1).f2.f1), .string (⟨#[]⟩ : ByteArray)]) ?_ 4 _ rfl; (with_reducible repeat (first | refine blk_drewN ?_ _ | refine blk_drew ?_ | refine blk_alloc ?_ _)); refine blk_put (cs := #[.string ((rd_T33 l0 x10_1).f0), .int .i64 ((rd_T33 l0 x10_1).f1), .bool ((rd_T33 l0 x10_1).f2.f0), .string (⟨#[]⟩ : ByteArray), .string (⟨#[]⟩ : ByteArray)]) ?_ 3 _ rfl; (with_reducible repeat (first | refine blk_drewN ?_ _ | refine blk_drew ?_ | refine blk_alloc ?_ _)); refine blk_put (cs := #[.string ((rd_T33 l0 x10_1).f0), .int .i64 ((rd_T33 l0 x10_1).f1), .bool false, .string (⟨#[]⟩ : ByteArray), .string (⟨#[]⟩ : ByteArray)]) ?_ 2 _ rfl; (with_reducible repeat (first | refine blk_drewN ?_ _ | refine blk_drew ?_ | refine blk_alloc ?_ _)); refine blk_put (cs := #[.string ((rd_T33 l0 x10_1).f0), .int .i64 0, .bool false, .string (⟨#[]⟩ : ByteArray), .string (⟨#[]⟩ : ByteArray)]) ?_ 1 _ rfl; (with_reducible repeat (first | refine blk_drewN ?_ _ | refine blk_drew ?_ | refine blk_alloc ?_ _)); refine blk_put (cs := #[.string (⟨#[]⟩ : ByteArray), .int .i64 0, .bool false, .string (⟨#[]⟩ : ByteArray), .string (⟨#[]⟩ : ByteArray)]) ?_ 0 _ rfl; (with_reducible repeat (first | refine blk_drewN ?_ _ | refine blk_drew ?_ | refine blk_alloc ?_ _)); exact BK103.out) hb); replace HB := am (below_step (bq HB.out) hb); (try clear hb)))
    go_ret
    exact ⟨by first | rfl | (simp [errW_none, errW_some] <;> rfl) | (simp [*, errW_none, errW_some] <;> rfl), bq HB.out⟩
   subst c7
   rw [if_pos rfl] at H
   by_cases c8 : (((rd_T33 l0 x10_1).f0).size : Int) > 20
   ·rw [if_pos c8] at H
    have c8b0 : decide (20 < (((rd_T33 l0 x10_1).f0).size : Int)) = true := decide_eq_true c8
    have c8b1 : decide (20 < ((rd_T33 l0 x10_1).f0).size) = true := decide_eq_true (by omega)
    clear c8
    obtain rfl := Option.some.inj H
    have p102 : 0 ≤ (x10_1 : Int) := odt
    have q102 : x10_1 < (l0.length : Int) := odt
    obtain ⟨ad102, e102, hx102_0, hx102_1, hx102_2, hx102_3, hx102_4⟩ := at_T33 HR0.out x10_1 p102 q102
    cases e102
    replace hx102_0 := (HB.out.cell (World.block_lt_of_cell? w _ hx102_0)).trans hx102_0
    replace hx102_1 := (HB.out.cell (World.block_lt_of_cell? w _ hx102_1)).trans hx102_1
    replace hx102_2 := (HB.out.cell (World.block_lt_of_cell? w _ hx102_2)).trans hx102_2
    replace hx102_3 := (HB.out.cell (World.block_lt_of_cell? w _ hx102_3)).trans hx102_3
    replace hx102_4 := (HB.out.cell (World.block_lt_of_cell? w _ hx102_4)).trans hx102_4
    replace p102 := eq_true p102
    replace q102 := eq_true q102
    go_wp2_with (first | ((with_reducible refine gate_dst (N := 4) rfl ?_); (try (refine gate_guard (by rfl) ?_; dsimp only)); refine box_event ?hg (N := 4) ?hd (cs := #[.string (⟨#[]⟩ : ByteArray), .int .i64 0, .bool false, .string (⟨#[]⟩ : ByteArray), .string (⟨#[]⟩ : ByteArray)]) (t := 33) ?hr ?_; (case hd => rfl); (case hg => rfl); (case hr => first | (go_simp; done) | (go_simp; rfl)); intro gb103 hg w9 hbox hb; have BK103 := am (hbox); have GW103 := am ((by rw [hg]; exact (below_size (bq HB.out)) : w.heap.size ≤ gb103)); have GE103 := am ((by rw [hg]; exact (below_size (bq HB.out)) : w.heap.size ≤ gb103)); replace HB := am (below_step (bq HB.out) hb); clear hb hbox hg; have hcz10_0 : w9.cell? ⟨gb103, 0, none⟩ = some (.string (⟨#[]⟩ : ByteArray)) := (blk_cell BK103.out 0).trans rfl; have hcz10_1 : w9.cell? ⟨gb103, 1, none⟩ = some (.int .i64 0) := (blk_cell BK103.out 1).trans rfl; have hcz10_2 : w9.cell? ⟨gb103, 2, none⟩ = some (.bool false) := (blk_cell BK103.out 2).trans rfl; have hcz10_3 : w9.cell? ⟨gb103, 3, none⟩ = some (.string (⟨#[]⟩ : ByteArray)) := (blk_cell BK103.out 3).trans rfl; have hcz10_4 : w9.cell? ⟨gb103, 4, none⟩ = some (.string (⟨#[]⟩ : ByteArray)) := (blk_cell BK103.out 4).trans rfl; have hfz10_0 := blk_frozen BK103.out 0; have hfz10_1 := blk_frozen BK103.out 1; have hfz10_2 := blk_frozen BK103.out 2; have hfz10_3 := blk_frozen BK103.out 3; have hfz10_4 := blk_frozen BK103.out 4) | ((with_reducible refine gate_callee (f := 19) rfl ?_); refine goesq (some 16) Tryd.func19 #[.agg #[.bool ((rd_T33 l0 x10_1).f2.f0), .string ((rd_T33 l0 x10_1).f2.f1), .string ((rd_T33 l0 x10_1).f2.f2)]] ?_; (with_reducible refine (l0_Few.calls ((rd_T33 l0 x10_1).f2.f0) ((rd_T33 l0 x10_1).f2.f1) ((rd_T33 l0 x10_1).f2.f2) true _ A6.out).mono ?_); rintro e w11 ⟨rfl, hb⟩; refine ⟨_, rfl, ?_⟩; replace BK103 := am (blk_below (g := gb103) (o := .cells #[.string ((rd_T33 l0 x10_1).f0), .int .i64 ((rd_T33 l0 x10_1).f1), .bool ((rd_T33 l0 x10_1).f2.f0), .string ((rd_T33 l0 x10_1).f2.f1), .string ((rd_T33 l0 x10_1).f2.f2)] 33 (0, 0)) (by (with_reducible repeat (first | refine blk_drewN ?_ _ | refine blk_drew ?_ | refine blk_alloc ?_ _)); refine blk_put (cs := #[.string ((rd_T33 l0 x10_1).f0), .int .i64 ((rd_T33 l0 x10_1).f1), .bool ((rd_T33 l0 x10_1).f2.f0), .string ((rd_T33 l0 x10_1).f2.f1), .string (⟨#[]⟩ : ByteArray)]) ?_ 4 _ rfl; (with_reducible repeat (first | refine blk_drewN ?_ _ | refine blk_drew ?_ | refine blk_alloc ?_ _)); refine blk_put (cs := #[.string ((rd_T33 l0 x10_1).f0), .int .i64 ((rd_T33 l0 x10_1).f1), .bool ((rd_T33 l0 x10_1).f2.f0), .string (⟨#[]⟩ : ByteArray), .string (⟨#[]⟩ : ByteArray)]) ?_ 3 _ rfl; (with_reducible repeat (first | refine blk_drewN ?_ _ | refine blk_drew ?_ | refine blk_alloc ?_ _)); refine blk_put (cs := #[.string ((rd_T33 l0 x10_1).f0), .int .i64 ((rd_T33 l0 x10_1).f1), .bool false, .string (⟨#[]⟩ : ByteArray), .string (⟨#[]⟩ : ByteArray)]) ?_ 2 _ rfl; (with_reducible repeat (first | refine blk_drewN ?_ _ | refine blk_drew ?_ | refine blk_alloc ?_ _)); refine blk_put (cs := #[.string ((rd_T33 l0 x10_1).f0), .int .i64 0, .bool false, .string (⟨#[]⟩ : ByteArray), .string (⟨#[]⟩ : ByteArray)]) ?_ 1 _ rfl; (with_reducible repeat (first | refine blk_drewN ?_ _ | refine blk_drew ?_ | refine blk_alloc ?_ _)); refine blk_put (cs := #[.string (⟨#[]⟩ : ByteArray), .int .i64 0, .bool false, .string (⟨#[]⟩ : ByteArray), .string (⟨#[]⟩ : ByteArray)]) ?_ 0 _ rfl; (with_reducible repeat (first | refine blk_drewN ?_ _ | refine blk_drew ?_ | refine blk_alloc ?_ _)); exact BK103.out) hb); replace HB := am (below_step (bq HB.out) hb); (try clear hb); have hcz12_0 : w11.cell? ⟨gb103, 0, none⟩ = some (.string ((rd_T33 l0 x10_1).f0)) := (blk_cell BK103.out 0).trans rfl; have hcz12_1 : w11.cell? ⟨gb103, 1, none⟩ = some (.int .i64 ((rd_T33 l0 x10_1).f1)) := (blk_cell BK103.out 1).trans rfl; have hcz12_2 : w11.cell? ⟨gb103, 2, none⟩ = some (.bool ((rd_T33 l0 x10_1).f2.f0)) := (blk_cell BK103.out 2).trans rfl; have hcz12_3 : w11.cell? ⟨gb103, 3, none⟩ = some (.string ((rd_T33 l0 x10_1).f2.f1)) := (blk_cell BK103.out 3).trans rfl; have hcz12_4 : w11.cell? ⟨gb103, 4, none⟩ = some (.string ((rd_T33 l0 x10_1).f2.f2)) := (blk_cell BK103.out 4).trans rfl; have hfz12_0 := blk_frozen BK103.out 0; have hfz12_1 := blk_frozen BK103.out 1; have hfz12_2 := blk_frozen BK103.out 2; have hfz12_3 := blk_frozen BK103.out 3; have hfz12_4 := blk_frozen BK103.out 4))
    go_ret
    exact ⟨by first | rfl | (simp [errW_none, errW_some] <;> rfl) | (simp [*, errW_none, errW_some] <;> rfl), bq HB.out⟩
   rw [if_neg c8] at H
   have c8b0 : decide (20 < (((rd_T33 l0 x10_1).f0).size : Int)) = false := decide_eq_false c8
   have c8b1 : decide (20 < ((rd_T33 l0 x10_1).f0).size) = false := decide_eq_false (by omega)
   clear c8
   have H' := Aside0.mk H
   clear H
   have p102 : 0 ≤ (x10_1 : Int) := odt
   have q102 : x10_1 < (l0.length : Int) := odt
   obtain ⟨ad102, e102, hx102_0, hx102_1, hx102_2, hx102_3, hx102_4⟩ := at_T33 HR0.out x10_1 p102 q102
   cases e102
   replace hx102_0 := (HB.out.cell (World.block_lt_of_cell? w _ hx102_0)).trans hx102_0
   replace hx102_1 := (HB.out.cell (World.block_lt_of_cell? w _ hx102_1)).trans hx102_1
   replace hx102_2 := (HB.out.cell (World.block_lt_of_cell? w _ hx102_2)).trans hx102_2
   replace hx102_3 := (HB.out.cell (World.block_lt_of_cell? w _ hx102_3)).trans hx102_3
   replace hx102_4 := (HB.out.cell (World.block_lt_of_cell? w _ hx102_4)).trans hx102_4
   replace p102 := eq_true p102
   replace q102 := eq_true q102
   go_wp2_with (first | ((with_reducible refine gate_dst (N := 4) rfl ?_); (try (refine gate_guard (by rfl) ?_; dsimp only)); refine box_event ?hg (N := 4) ?hd (cs := #[.string (⟨#[]⟩ : ByteArray), .int .i64 0, .bool false, .string (⟨#[]⟩ : ByteArray), .string (⟨#[]⟩ : ByteArray)]) (t := 33) ?hr ?_; (case hd => rfl); (case hg => rfl); (case hr => first | (go_simp; done) | (go_simp; rfl)); intro gb103 hg w13 hbox hb; have BK103 := am (hbox); have GW103 := am ((by rw [hg]; exact (below_size (bq HB.out)) : w.heap.size ≤ gb103)); have GE103 := am ((by rw [hg]; exact (below_size (bq HB.out)) : w.heap.size ≤ gb103)); replace HB := am (below_step (bq HB.out) hb); clear hb hbox hg; have hcz14_0 : w13.cell? ⟨gb103, 0, none⟩ = some (.string (⟨#[]⟩ : ByteArray)) := (blk_cell BK103.out 0).trans rfl; have hcz14_1 : w13.cell? ⟨gb103, 1, none⟩ = some (.int .i64 0) := (blk_cell BK103.out 1).trans rfl; have hcz14_2 : w13.cell? ⟨gb103, 2, none⟩ = some (.bool false) := (blk_cell BK103.out 2).trans rfl; have hcz14_3 : w13.cell? ⟨gb103, 3, none⟩ = some (.string (⟨#[]⟩ : ByteArray)) := (blk_cell BK103.out 3).trans rfl; have hcz14_4 : w13.cell? ⟨gb103, 4, none⟩ = some (.string (⟨#[]⟩ : ByteArray)) := (blk_cell BK103.out 4).trans rfl; have hfz14_0 := blk_frozen BK103.out 0; have hfz14_1 := blk_frozen BK103.out 1; have hfz14_2 := blk_frozen BK103.out 2; have hfz14_3 := blk_frozen BK103.out 3; have hfz14_4 := blk_frozen BK103.out 4) | ((with_reducible refine gate_callee (f := 19) rfl ?_); refine goesq (some 16) Tryd.func19 #[.agg #[.bool ((rd_T33 l0 x10_1).f2.f0), .string ((rd_T33 l0 x10_1).f2.f1), .string ((rd_T33 l0 x10_1).f2.f2)]] ?_; (with_reducible refine (l0_Few.calls ((rd_T33 l0 x10_1).f2.f0) ((rd_T33 l0 x10_1).f2.f1) ((rd_T33 l0 x10_1).f2.f2) true _ A6.out).mono ?_); rintro e w15 ⟨rfl, hb⟩; refine ⟨_, rfl, ?_⟩; replace BK103 := am (blk_below (g := gb103) (o := .cells #[.string ((rd_T33 l0 x10_1).f0), .int .i64 ((rd_T33 l0 x10_1).f1), .bool ((rd_T33 l0 x10_1).f2.f0), .string ((rd_T33 l0 x10_1).f2.f1), .string ((rd_T33 l0 x10_1).f2.f2)] 33 (0, 0)) (by (with_reducible repeat (first | refine blk_drewN ?_ _ | refine blk_drew ?_ | refine blk_alloc ?_ _)); refine blk_put (cs := #[.string ((rd_T33 l0 x10_1).f0), .int .i64 ((rd_T33 l0 x10_1).f1), .bool ((rd_T33 l0 x10_1).f2.f0), .string ((rd_T33 l0 x10_1).f2.f1), .string (⟨#[]⟩ : ByteArray)]) ?_ 4 _ rfl; (with_reducible repeat (first | refine blk_drewN ?_ _ | refine blk_drew ?_ | refine blk_alloc ?_ _)); refine blk_put (cs := #[.string ((rd_T33 l0 x10_1).f0), .int .i64 ((rd_T33 l0 x10_1).f1), .bool ((rd_T33 l0 x10_1).f2.f0), .string (⟨#[]⟩ : ByteArray), .string (⟨#[]⟩ : ByteArray)]) ?_ 3 _ rfl; (with_reducible repeat (first | refine blk_drewN ?_ _ | refine blk_drew ?_ | refine blk_alloc ?_ _)); refine blk_put (cs := #[.string ((rd_T33 l0 x10_1).f0), .int .i64 ((rd_T33 l0 x10_1).f1), .bool false, .string (⟨#[]⟩ : ByteArray), .string (⟨#[]⟩ : ByteArray)]) ?_ 2 _ rfl; (with_reducible repeat (first | refine blk_drewN ?_ _ | refine blk_drew ?_ | refine blk_alloc ?_ _)); refine blk_put (cs := #[.string ((rd_T33 l0 x10_1).f0), .int .i64 0, .bool false, .string (⟨#[]⟩ : ByteArray), .string (⟨#[]⟩ : ByteArray)]) ?_ 1 _ rfl; (with_reducible repeat (first | refine blk_drewN ?_ _ | refine blk_drew ?_ | refine blk_alloc ?_ _)); refine blk_put (cs := #[.string (⟨#[]⟩ : ByteArray), .int .i64 0, .bool false, .string (⟨#[]⟩ : ByteArray), .string (⟨#[]⟩ : ByteArray)]) ?_ 0 _ rfl; (with_reducible repeat (first | refine blk_drewN ?_ _ | refine blk_drew ?_ | refine blk_alloc ?_ _)); exact BK103.out) hb); replace HB := am (below_step (bq HB.out) hb); (try clear hb); have hcz16_0 : w15.cell? ⟨gb103, 0, none⟩ = some (.string ((rd_T33 l0 x10_1).f0)) := (blk_cell BK103.out 0).trans rfl; have hcz16_1 : w15.cell? ⟨gb103, 1, none⟩ = some (.int .i64 ((rd_T33 l0 x10_1).f1)) := (blk_cell BK103.out 1).trans rfl; have hcz16_2 : w15.cell? ⟨gb103, 2, none⟩ = some (.bool ((rd_T33 l0 x10_1).f2.f0)) := (blk_cell BK103.out 2).trans rfl; have hcz16_3 : w15.cell? ⟨gb103, 3, none⟩ = some (.string ((rd_T33 l0 x10_1).f2.f1)) := (blk_cell BK103.out 3).trans rfl; have hcz16_4 : w15.cell? ⟨gb103, 4, none⟩ = some (.string ((rd_T33 l0 x10_1).f2.f2)) := (blk_cell BK103.out 4).trans rfl; have hfz16_0 := blk_frozen BK103.out 0; have hfz16_1 := blk_frozen BK103.out 1; have hfz16_2 := blk_frozen BK103.out 2; have hfz16_3 := blk_frozen BK103.out 3; have hfz16_4 := blk_frozen BK103.out 4))
   go_roundg k1
   case measure => have := HK1.out; omega
   case rel => exact ⟨(wrap64 (x10_1 + 1)), (by first | rfl | (simp; done) | (simp [*]; done)), H', ⟨by have := HK1.out; omega⟩, ⟨bq HB.out⟩⟩
end Go.Proofs.YtfnfjmeiaamheaaDoor.PA
namespace Go.Proofs.YtfnfjmeiaamheaaDoor.PA
open Go Go.RowKit Go.Proofs.YtfnfjmeiaamheaaDoorW.PrintWords
structure Sq (q : S33) : Prop where
 c : q.f0.size ≤ 1000
 n : q.f2.f1.size ≤ 1000
 d : q.f2.f2.size ≤ 1000
 day : (Lit.int .i64 q.f1).wf = true
theorem Sq.z33 : Sq z33 := ⟨by show 0 ≤ 1000; decide, by show 0 ≤ 1000; decide, by show 0 ≤ 1000; decide, by decide⟩
theorem Sq.rd {l : List S33} (h : ∀ q, q ∈ l → Sq q) (i : Int) : Sq (rd_T33 l i) := by
 unfold rd_T33
 rw [List.getD_eq_getElem?_getD]
 cases hc : l[i.toNat]? with
 | none => exact Sq.z33
 | some q => exact h q (List.mem_of_getElem? hc)
theorem isCode_loop {s : ByteArray} (hf : s.size ≤ 100000) : ∀ m i, i + m = s.size → ∃ b, Ev (fun k => c_isCode.l0 k s (s.size : Int) (i : Int)) b ∧ Ev (fun k => e1_IsCode.l0 k s (i : Int)) b
 | 0, i, hi => by
  obtain rfl : i = s.size := by omega
  exact ⟨_, Ev.rets fun k => by rw [c_isCode.l0, if_neg (by omega)], Ev.rets fun k => by rw [e1_IsCode.l0, if_neg (by omega)]⟩
 | m + 1, i, hi => by
  have x1 : (i : Int) < (s.size : Int) := by omega
  have x2 : (0 : Int) ≤ (i : Int) := by omega
  have hw : Aside0 (wrap64 ((i : Int) + 1) = ((i + 1 : Nat) : Int)) := ⟨by rw [wrap_s (by omega) (by omega)]; omega⟩
  by_cases h1 : bt s (i : Int) < 65
  ·exact ⟨false, Ev.rets fun k => by rw [c_isCode.l0, if_pos x1, if_pos x2, if_pos x1, if_pos h1], Ev.rets fun k => by rw [e1_IsCode.l0, if_pos x1, if_pos x2, if_pos h1]⟩
  by_cases h2 : bt s (i : Int) > 90
  ·exact ⟨false, Ev.rets fun k => by rw [c_isCode.l0, if_pos x1, if_pos x2, if_pos x1, if_neg h1, if_pos h2], Ev.rets fun k => by rw [e1_IsCode.l0, if_pos x1, if_pos x2, if_neg h1, if_pos h2]⟩
  obtain ⟨b, g1, g2⟩ := isCode_loop hf m (i + 1) (by omega)
  exact ⟨b, Ev.step (fun k => by rw [c_isCode.l0, if_pos x1, if_pos x2, if_pos x1, if_neg h1, if_neg h2, hw.out]) g1, Ev.step (fun k => by rw [e1_IsCode.l0, if_pos x1, if_pos x2, if_neg h1, if_neg h2, hw.out]) g2⟩
theorem isCode_both {s : ByteArray} (hf : s.size ≤ 100000) : ∃ b, Ev (fun k => c_isCode.f k s) b ∧ Ev (fun k => e1_IsCode.f k s) b := isCode_loop hf s.size 0 (by omega)
theorem isDay_both (d : Int) : ∃ b, c_isDay.f d = some b ∧ e1_IsDay.f d = some b ∧ b = decide (0 ≤ d ∧ d ≤ 1048576) := by
 unfold c_isDay.f e1_IsDay.f
 by_cases h : d ≥ 0
 rotate_left
 ·rw [if_neg h]
  exact ⟨_, rfl, rfl, by simp; omega⟩
 rw [if_pos h]
 exact ⟨_, rfl, rfl, by by_cases h2 : d ≤ 1048576 <;> simp [h2]; omega⟩
theorem twice_loop {l : List S33} (hl : l.length ≤ 100000) {i : Nat} (hi : i < l.length) {e : Int} (hon : Ev (fun k => e1_CheckQuotes.l0 k l ((i + 1 : Nat) : Int)) e) : ∀ m j, j + m = i → hasKey (l.take j) (rd_T33 l (i : Int)) = false →
 Ev (fun k => e1_CheckQuotes.l1 k l (i : Int) (j : Int)) (if hasKey (l.take i) (rd_T33 l (i : Int)) = true then 12 else e)
 | 0, j, hj, hk => by
  obtain rfl : j = i := by omega
  have hw : Aside0 (wrap64 ((j : Int) + 1) = ((j + 1 : Nat) : Int)) := ⟨by rw [wrap_s (by omega) (by omega)]; omega⟩
  rw [hk, if_neg (by decide)]
  refine Ev.step (fun k => ?_) hon
  rw [e1_CheckQuotes.l1, if_neg (by omega), hw.out]
 | m + 1, j, hj, hk => by
  have x1 : (j : Int) < (i : Int) := by omega
  have x2 : (0 : Int) ≤ (j : Int) := by omega
  have x3 : (j : Int) < (l.length : Int) := by omega
  have x4 : (0 : Int) ≤ (i : Int) := by omega
  have x5 : (i : Int) < (l.length : Int) := by omega
  have hw : Aside0 (wrap64 ((j : Int) + 1) = ((j + 1 : Nat) : Int)) := ⟨by rw [wrap_s (by omega) (by omega)]; omega⟩
  have hjl : j < l.length := by omega
  have ej : rd_T33 l (j : Int) = l[j] := by
   unfold rd_T33
   rw [List.getD_eq_getElem?_getD, show ((j : Nat) : Int).toNat = j from rfl, List.getElem?_eq_getElem hjl]; rfl
  have et : l.take (j + 1) = l.take j ++ [l[j]] := by rw [List.take_add_one, List.getElem?_eq_getElem hjl]; rfl
  have found : (rd_T33 l (j : Int)).f0 = (rd_T33 l (i : Int)).f0 → (rd_T33 l (j : Int)).f1 = (rd_T33 l (i : Int)).f1 → hasKey (l.take i) (rd_T33 l (i : Int)) = true := fun h1 h2 => by
   unfold hasKey
   rw [List.any_eq_true]
   refine ⟨l[j], ?_, by rw [← ej, h1, h2]; simp⟩
   rw [List.mem_take_iff_getElem]
   exact ⟨j, by omega, rfl⟩
  have on : ¬ ((rd_T33 l (j : Int)).f0 = (rd_T33 l (i : Int)).f0 ∧ (rd_T33 l (j : Int)).f1 = (rd_T33 l (i : Int)).f1) → hasKey (l.take (j + 1)) (rd_T33 l (i : Int)) = false := fun hn => by
   unfold hasKey at hk ⊢
   rw [et, List.any_append, hk, List.any_cons, List.any_nil, ← ej]
   simp only [Bool.or_false, Bool.false_or]
   rw [Bool.and_eq_false_iff]
   by_cases h1 : (rd_T33 l (j : Int)).f0 = (rd_T33 l (i : Int)).f0
   ·right; exact decide_eq_false (fun h2 => hn ⟨h1, h2⟩)
   left; exact decide_eq_false h1
  by_cases h1 : ((rd_T33 l (j : Int)).f0).toList = ((rd_T33 l (i : Int)).f0).toList
  ·by_cases h2 : (rd_T33 l (j : Int)).f1 = (rd_T33 l (i : Int)).f1
   ·rw [if_pos (found (bytes_inj h1) h2)]
    exact Ev.rets fun k => by rw [e1_CheckQuotes.l1, if_pos x1, if_pos x2, if_pos x3, if_pos x4, if_pos x5, if_pos h1, if_pos h2]
   refine Ev.step (fun k => ?_) (twice_loop hl hi hon m (j + 1) (by omega) (on (fun h => h2 h.2)))
   rw [e1_CheckQuotes.l1, if_pos x1, if_pos x2, if_pos x3, if_pos x4, if_pos x5, if_pos h1, if_neg h2, hw.out]
  refine Ev.step (fun k => ?_) (twice_loop hl hi hon m (j + 1) (by omega) (on (fun h => h1 (by rw [h.1]))))
  rw [e1_CheckQuotes.l1, if_pos x1, if_pos x2, if_pos x3, if_pos x4, if_pos x5, if_neg h1, hw.out]
theorem check_loop {l : List S33} (hl : l.length ≤ 256) (hq : ∀ q, q ∈ l → Sq q) : ∀ m i, i + m = l.length → ∃ e, Ev (fun k => c_Check.l0 k l l (l.length : Int) (i : Int)) e ∧ Ev (fun k => e1_CheckQuotes.l0 k l (i : Int)) e
 | 0, i, hi => by
  obtain rfl : i = l.length := by omega
  exact ⟨0, Ev.rets fun k => by rw [c_Check.l0, if_neg (by omega)], Ev.rets fun k => by rw [e1_CheckQuotes.l0, if_neg (by omega)]⟩
 | m + 1, i, hi => by
  have x1 : (i : Int) < (l.length : Int) := by omega
  have x2 : (0 : Int) ≤ (i : Int) := by omega
  have hw : Aside0 (wrap64 ((i : Int) + 1) = ((i + 1 : Nat) : Int)) := ⟨by rw [wrap_s (by omega) (by omega)]; omega⟩
  have hs := Sq.rd hq (i : Int)
  obtain ⟨q, hqe⟩ : ∃ q, q = rd_T33 l (i : Int) := ⟨_, rfl⟩
  rw [← hqe] at hs
  obtain ⟨b, b1, b2⟩ := isCode_both (s := q.f0) (by have := hs.c; omega)
  obtain ⟨dd, d1, d2, _⟩ := isDay_both q.f1
  obtain ⟨c, c1, c2⟩ := sign_both (neg := q.f2.f0) hs.n hs.d
  obtain ⟨e, e1, e2⟩ := check_loop hl hq m (i + 1) (by omega)
  have hkey : c_isDay_has.f l (i : Int) = some (hasKey (l.take i) q) := by
   unfold c_isDay_has.f
   rw [if_pos, ← hqe]; rfl
   refine ⟨⟨x2, x1⟩, ?_⟩
   rw [← hqe]
   simp only [keyOk, Bool.and_eq_true, decide_eq_true_eq]
   exact ⟨Nat.le_trans hs.c (by decide), hs.day⟩
  have htw := twice_loop (l := l) (by omega) (i := i) (by omega) e2 i 0 (by omega) (by simp [hasKey])
  rw [← hqe] at htw
  have p2 : ∀ bad, ∃ r, Ev (fun k => c_Check.j2 k l l (l.length : Int) (i : Int) bad) r ∧ Ev (fun k => e1_CheckQuotes.j2 k l (i : Int) bad) r := fun bad => by
   cases bad with
   | true => exact ⟨1, Ev.rets fun k => by rw [c_Check.j2, if_pos rfl], Ev.rets fun k => by rw [e1_CheckQuotes.j2, if_pos rfl]⟩
   | false =>
    refine ⟨_, ?_, Ev.step (fun k => by rw [e1_CheckQuotes.j2, if_neg (by decide)]; rfl) htw⟩
    by_cases hk : hasKey (l.take i) q = true
    ·rw [if_pos hk]
     exact Ev.rets fun k => by rw [c_Check.j2, if_neg (by decide), hkey, Option.bind_some, if_pos hk]
    rw [if_neg hk]
    exact Ev.step (fun k => by rw [c_Check.j2, if_neg (by decide), hkey, Option.bind_some, if_neg hk, hw.out]) e1
  have p1 : ∀ bad, ∃ r, Ev (fun k => c_Check.j1 k l l (l.length : Int) (i : Int) bad q.f0 q.f1 q.f2.f0 q.f2.f1 q.f2.f2) r ∧ Ev (fun k => e1_CheckQuotes.j1 k l (i : Int) bad) r := fun bad => by
   cases bad with
   | true => exact ⟨8, Ev.rets fun k => by rw [c_Check.j1, if_pos rfl], Ev.rets fun k => by rw [e1_CheckQuotes.j1, if_pos rfl]⟩
   | false =>
    cases dd with
    | false =>
     obtain ⟨r, r1, r2⟩ := p2 true
     refine ⟨r, Ev.step (fun k => ?_) r1, Ev.step (fun k => ?_) r2⟩
     ·rw [c_Check.j1, if_neg (by decide), d1, Option.bind_some, if_neg (by decide)]
     rw [e1_CheckQuotes.j1, if_neg (by decide), if_pos x2, if_pos x1, ← hqe, d2, Option.bind_some, if_neg (by decide)]
    | true =>
     obtain ⟨r, r1, r2⟩ := p2 (decide (c ≤ 0))
     refine ⟨r, Ev.step (h := fun k => (q_Sign.f k q.f2.f0 q.f2.f1 q.f2.f2).bind fun t => c_Check.j2 k l l (l.length : Int) (i : Int) (decide (t ≤ 0))) (fun k => ?_) (Ev.bind c1 r1), Ev.step (h := fun k => (e1_Sign.f k q.f2.f0 q.f2.f1 q.f2.f2).bind fun t => e1_CheckQuotes.j2 k l (i : Int) (decide (t ≤ 0))) (fun k => ?_) (Ev.bind c2 r2)⟩
     ·rw [c_Check.j1, if_neg (by decide), d1, Option.bind_some, if_pos rfl]
     rw [e1_CheckQuotes.j1, if_neg (by decide), if_pos x2, if_pos x1, ← hqe, d2, Option.bind_some, if_pos rfl]
  obtain ⟨r, r1, r2⟩ := p1 (if b = true then (q.f0.toList == ([69, 85, 82] : List UInt8)) else true)
  refine ⟨r, Ev.step (h := fun k => (c_isCode.f k q.f0).bind fun t => if t = true then c_Check.j1 k l l (l.length : Int) (i : Int) (q.f0.toList == ([69, 85, 82] : List UInt8)) q.f0 q.f1 q.f2.f0 q.f2.f1 q.f2.f2 else c_Check.j1 k l l (l.length : Int) (i : Int) true q.f0 q.f1 q.f2.f0 q.f2.f1 q.f2.f2) (fun k => ?_) (Ev.bind b1 ?_),
   Ev.step (h := fun k => (e1_IsCode.f k q.f0).bind fun t => if t = true then e1_CheckQuotes.j1 k l (i : Int) (q.f0.toList == ([69, 85, 82] : List UInt8)) else e1_CheckQuotes.j1 k l (i : Int) true) (fun k => ?_) (Ev.bind b2 ?_)⟩
  ·rw [c_Check.l0, if_pos x1, if_pos x2, if_pos x1, ← hqe]
  ·cases b <;> exact r1
  ·rw [e1_CheckQuotes.l0, if_pos x1, if_pos x2, ← hqe]
  cases b <;> exact r2
theorem check_both {l : List S33} (hl : l.length ≤ 256) (hq : ∀ q, q ∈ l → Sq q) : ∃ e, Ev (fun k => c_Check.f k l) e ∧ Ev (fun k => e1_CheckQuotes.f k l) e := by
 obtain ⟨e, e1, e2⟩ := check_loop hl hq l.length 0 (by omega)
 refine ⟨e, Ev.same (fun k => ?_) e1, Ev.same (fun k => ?_) e2⟩
 ·rw [c_Check.f, if_neg (by omega)]; rfl
 rw [e1_CheckQuotes.f, if_neg (by omega)]; rfl
theorem few_loop {l : List S33} (hl : l.length ≤ 12) : ∀ m i, i + m = l.length → ∃ b, Ev (fun k => l7_few.l0 k l (l.length : Int) (i : Int)) b ∧ (b = true → ∀ t, i ≤ t → t < l.length → (rd_T33 l (t : Int)).f0.size ≤ 20 ∧ (rd_T33 l (t : Int)).f2.f1.size ≤ 24 ∧ (rd_T33 l (t : Int)).f2.f2.size ≤ 24)
 | 0, i, hi => by
  obtain rfl : i = l.length := by omega
  exact ⟨true, Ev.rets fun k => by rw [l7_few.l0, if_neg (by omega)], fun _ t h1 h2 => by omega⟩
 | m + 1, i, hi => by
  have x1 : (i : Int) < (l.length : Int) := by omega
  have x2 : (0 : Int) ≤ (i : Int) := by omega
  have hw : Aside0 (wrap64 ((i : Int) + 1) = ((i + 1 : Nat) : Int)) := ⟨by rw [wrap_s (by omega) (by omega)]; omega⟩
  obtain ⟨q, hqe⟩ : ∃ q, q = rd_T33 l (i : Int) := ⟨_, rfl⟩
  have hfew : ∃ b, l0_Few.f q.f2.f0 q.f2.f1 q.f2.f2 = some b ∧ (b = true → q.f2.f1.size ≤ 24 ∧ q.f2.f2.size ≤ 24) := by
   unfold l0_Few.f
   by_cases h1 : (q.f2.f1.size : Int) ≤ 24
   ·rw [if_pos h1]; exact ⟨_, rfl, fun h => by have := of_decide_eq_true h; omega⟩
   rw [if_neg h1]; exact ⟨_, rfl, fun h => by cases h⟩
  obtain ⟨b, b1, b2⟩ := hfew
  cases b with
  | false => exact ⟨false, Ev.rets fun k => by rw [l7_few.l0, if_pos x1, if_pos x2, if_pos x1, ← hqe, b1, Option.bind_some, if_neg (by decide)], fun h => by cases h⟩
  | true =>
   by_cases h2 : (q.f0.size : Int) > 20
   ·exact ⟨false, Ev.rets fun k => by rw [l7_few.l0, if_pos x1, if_pos x2, if_pos x1, ← hqe, b1, Option.bind_some, if_pos rfl, if_pos h2], fun h => by cases h⟩
   obtain ⟨r, r1, r2⟩ := few_loop hl m (i + 1) (by omega)
   refine ⟨r, Ev.step (fun k => ?_) r1, fun h t h3 h4 => ?_⟩
   ·rw [l7_few.l0, if_pos x1, if_pos x2, if_pos x1, ← hqe, b1, Option.bind_some, if_pos rfl, if_neg h2, hw.out]
   by_cases ht : t = i
   ·rw [ht, ← hqe]; have := b2 rfl; exact ⟨by omega, this⟩
   exact r2 h t (by omega) h4
theorem few_ev {l : List S33} (hw : ∀ q, q ∈ l → (Lit.int .i64 q.f1).wf = true) : ∃ b, Ev (fun k => l7_few.f k l) b ∧ (b = true → l.length ≤ 12 ∧ ∀ q, q ∈ l → Sq q) := by
 by_cases h : (l.length : Int) > 12
 ·exact ⟨false, Ev.same (fun k => by rw [l7_few.f, if_pos h]) Ev.ret, fun h => by cases h⟩
 obtain ⟨b, b1, b2⟩ := few_loop (l := l) (by omega) l.length 0 (by omega)
 refine ⟨b, Ev.same (fun k => ?_) b1, fun hb => ⟨by omega, fun q hq => ?_⟩⟩
 ·rw [l7_few.f, if_neg h]; rfl
 obtain ⟨t, ht, he⟩ := List.mem_iff_getElem.1 hq
 have := b2 hb t (by omega) ht
 have er : rd_T33 l (t : Int) = q := by
  unfold rd_T33
  rw [List.getD_eq_getElem?_getD, show ((t : Nat) : Int).toNat = t from rfl, List.getElem?_eq_getElem ht, ← he]; rfl
 rw [er] at this
 exact ⟨by omega, by omega, by omega, hw q hq⟩
end Go.Proofs.YtfnfjmeiaamheaaDoor.PA
namespace Go.Proofs.YtfnfjmeiaamheaaDoor.PA
open Go.RowKit Go.Proofs.YtfnfjmeiaamheaaDoorW.PrintWords Go.Proofs.YtfnfjmeiaamheaaDoorW.PrintLast Go.Proofs.YtfnfjmeiaamheaaDoorW.PrintMore
attribute [local go_sem] max2_int min2_int max_two min_two max_three min_three max_four min_four
theorem eqA30 (d : Nat) (w : World) (x0 y0 : Bool) (x1 y1 : ByteArray) (x2 y2 : ByteArray) :
 (Op.equalIn (d + 2) 30 (.agg #[.bool x0, .string x1, .string x2]) (.agg #[.bool y0, .string y1, .string y2])).run Tryd.prog w = .ok (x0 == y0 && (x1.toList == y1.toList && (x2.toList == y2.toList))) w := by
 refine eqA_of Tryd.underlying30 (by kernel_rfl) ?_
 refine eqf_cons (by rfl) (by go_simp; rfl) (by go_simp; rfl) (by go_simp) ?_
 refine eqf_cons (by rfl) (by go_simp; rfl) (by go_simp; rfl) (by go_simp) ?_
 exact eqf_last (by rfl) (by go_simp; rfl) (by go_simp; rfl) (by go_simp)
def n_Divide.f (k : Nat) (a0 : ByteArray) (a1 : ByteArray) : Option (ByteArray × ByteArray × Bool) := (n_parse.f k a1).bind fun t277 => (if (t277.length : Int) = 0 then (some ((⟨#[]⟩ : ByteArray), (⟨#[]⟩ : ByteArray), false)) else ((n_parse.f k a0).bind fun t280 => ((n_divide.f k t280 t277).bind fun bt283 => ((n_limbs_text.f k bt283.1).bind fun t289 => ((n_limbs_text.f k bt283.2).bind fun t290 => (some (t289, t290, true)))))))
set_option maxHeartbeats 8000000 in
set_option maxRecDepth 100000 in
theorem n_Divide.calls (k : Nat) (a0 : ByteArray) (a1 : ByteArray) (r1 : ByteArray) (r2 : ByteArray) (r3 : Bool) (w : World) (h : n_Divide.f k a0 a1 = some (r1, r2, r3)) :
  Calls Tryd.prog 46 #[.string a0, .string a1] w fun e w' => e = .returned (.tuple #[.string r1, .string r2, .bool r3]) ∧ Below w.heap.size w w' := by
 have HB := Aside0.mk (Below.refl w.heap.size w)
 have H : ((n_parse.f k a1).bind fun t277 => (if (t277.length : Int) = 0 then (some ((⟨#[]⟩ : ByteArray), (⟨#[]⟩ : ByteArray), false)) else ((n_parse.f k a0).bind fun t280 => ((n_divide.f k t280 t277).bind fun bt283 => ((n_limbs_text.f k bt283.1).bind fun t289 => ((n_limbs_text.f k bt283.2).bind fun t290 => (some (t289, t290, true)))))))) = some (r1, r2, r3) := h
 clear h
 replace H := Option.bind_eq_some_iff.mp H
 obtain ⟨t277, A30, H⟩ := H
 try dsimp only at H
 have A3 := Aside0.mk A30
 clear A30
 by_cases c4 : (t277.length : Int) = 0
 ·rw [if_pos c4] at H
  have c4b0 : ((t277.length : Int) == 0) = true := beq_iff_eq.mpr c4
  have c4b1 : ((t277.length : Int) != 0) = false := bne_eq_false_iff_eq.mpr c4
  clear c4
  simp only [Option.some.injEq, Prod.mk.injEq] at H
  obtain ⟨rfl, rfl, rfl⟩ := H
  go_enter Tryd.func46, Tryd.ntmps46
  go_wp2_with (first | ((with_reducible refine gate_callee (f := 62) rfl ?_); refine goesq (some 11) Tryd.func62 #[.string a1] ?_; (with_reducible refine (n_parse.calls k a1 t277 _ A3.out).mono ?_); rintro e w5 ⟨v278, rfl, ho0, hb⟩; refine ⟨_, rfl, ?_⟩; have HO279 := am (Kd.V_lower (Kd.V_mono (ok' := fun k_ => True) ho0 (fun k_ hk_ => trivial)) (below_size (bq HB.out))); replace HB := am (below_step (bq HB.out) hb); (try clear hb); (try clear ho0); obtain ⟨Ao6, co6, eo6⟩ := Kd.V_slice HO279.out; subst eo6))
  go_ret3
  exact ⟨by first | rfl | (simp [errW_none, errW_some] <;> rfl) | (simp [*, errW_none, errW_some] <;> rfl), bq HB.out⟩
 rw [if_neg c4] at H
 have c4b0 : ((t277.length : Int) == 0) = false := beq_eq_false_iff_ne.mpr c4
 have c4b1 : ((t277.length : Int) != 0) = true := bne_iff_ne.mpr c4
 have c4b2 : ¬ (t277 = []) := fun h_ => c4 (by rw [h_]; rfl)
 replace H := Option.bind_eq_some_iff.mp H
 obtain ⟨t280, A70, H⟩ := H
 try dsimp only at H
 have A7 := Aside0.mk A70
 clear A70
 replace H := Option.bind_eq_some_iff.mp H
 obtain ⟨⟨t283, t286⟩, A80, H⟩ := H
 try dsimp only at H
 have A8 := Aside0.mk A80
 clear A80
 replace H := Option.bind_eq_some_iff.mp H
 obtain ⟨t289, A90, H⟩ := H
 try dsimp only at H
 have A9 := Aside0.mk A90
 clear A90
 replace H := Option.bind_eq_some_iff.mp H
 obtain ⟨t290, A100, H⟩ := H
 try dsimp only at H
 have A10 := Aside0.mk A100
 clear A100
 simp only [Option.some.injEq, Prod.mk.injEq] at H
 obtain ⟨rfl, rfl, rfl⟩ := H
 go_enter Tryd.func46, Tryd.ntmps46
 go_wp2_with (first | ((with_reducible refine gate_callee (f := 62) rfl ?_); refine goesq (some 11) Tryd.func62 #[.string a1] ?_; (with_reducible refine (n_parse.calls k a1 t277 _ A3.out).mono ?_); rintro e w11 ⟨v278, rfl, ho0, hb⟩; refine ⟨_, rfl, ?_⟩; have HO279 := am (Kd.V_lower (Kd.V_mono (ok' := fun k_ => True) ho0 (fun k_ hk_ => trivial)) (below_size (bq HB.out))); replace HB := am (below_step (bq HB.out) hb); (try clear hb); (try clear ho0); obtain ⟨Ao12, co12, eo12⟩ := Kd.V_slice HO279.out; subst eo12) | ((with_reducible refine gate_callee (f := 62) rfl ?_); refine goesq (some 17) Tryd.func62 #[.string a0] ?_; (with_reducible refine (n_parse.calls k a0 t280 _ A7.out).mono ?_); rintro e w13 ⟨v281, rfl, ho0, hb⟩; refine ⟨_, rfl, ?_⟩; replace HO279 := am (Kd.V_below (Kd.vq HO279.out) hb); have HO282 := am (Kd.V_lower (Kd.V_mono (ok' := fun k_ => True) ho0 (fun k_ hk_ => trivial)) (below_size (bq HB.out))); replace HB := am (below_step (bq HB.out) hb); (try clear hb); (try clear ho0); obtain ⟨Ao14, co14, eo14⟩ := Kd.V_slice HO282.out; subst eo14) | ((with_reducible refine gate_callee (f := 63) rfl ?_); refine goesq (some 19) Tryd.func63 #[.slice Ao14 t280.length co14, .slice Ao12 t277.length co12] ?_; (with_reducible refine (n_divide.calls k (fun k_ => True) _ _ t280 _ _ t277 t283 t286 _ ?side1 ?side2 ?side3 A8.out).mono ?_); (case side1 => exact HO282.out); (case side2 => repeat (first | exact (Kd.V_reads' HO279.out).2.2 | (with_reducible refine Kd.C_alloc ?_ _) | (with_reducible refine Kd.C_drewN ?_ _) | (with_reducible refine Kd.C_drew ?_))); (case side3 => exact (Kd.V_reads' HO279.out).2.1); rintro e w15 ⟨v284, v287, rfl, ho0, ho1, hb⟩; refine ⟨_, rfl, ?_⟩; replace HO279 := am (Kd.V_below (Kd.vq HO279.out) hb); replace HO282 := am (Kd.V_below (Kd.vq HO282.out) hb); have HO285 := am (Kd.V_lower (Kd.V_mono (ok' := fun k_ => True) ho0 (fun k_ hk_ => trivial)) (below_size (bq HB.out))); have HO288 := am (Kd.V_lower (Kd.V_mono (ok' := fun k_ => True) ho1 (fun k_ hk_ => trivial)) (below_size (bq HB.out))); replace HB := am (below_step (bq HB.out) hb); (try clear hb); (try clear ho0); (try clear ho1); obtain ⟨Ao16, co16, eo16⟩ := Kd.V_slice HO285.out; subst eo16) | ((with_reducible refine gate_callee (f := 64) rfl ?_); refine goesq (some 23) Tryd.func64 #[.slice Ao16 t283.length co16] ?_; (with_reducible refine (n_limbs_text.calls k _ _ t283 t289 _ ?side1 ?side2 A9.out).mono ?_); (case side1 => repeat (first | exact (Kd.V_reads' HO285.out).2.2 | (with_reducible refine Kd.C_alloc ?_ _) | (with_reducible refine Kd.C_drewN ?_ _) | (with_reducible refine Kd.C_drew ?_))); (case side2 => exact (Kd.V_reads' HO285.out).2.1); rintro e w17 ⟨rfl, hb⟩; refine ⟨_, rfl, ?_⟩; replace HO279 := am (Kd.V_below (Kd.vq HO279.out) hb); replace HO282 := am (Kd.V_below (Kd.vq HO282.out) hb); replace HO285 := am (Kd.V_below (Kd.vq HO285.out) hb); replace HO288 := am (Kd.V_below (Kd.vq HO288.out) hb); replace HB := am (below_step (bq HB.out) hb); (try clear hb); obtain ⟨Ao18, co18, eo18⟩ := Kd.V_slice HO288.out; subst eo18) | ((with_reducible refine gate_callee (f := 64) rfl ?_); refine goesq (some 25) Tryd.func64 #[.slice Ao18 t286.length co18] ?_; (with_reducible refine (n_limbs_text.calls k _ _ t286 t290 _ ?side1 ?side2 A10.out).mono ?_); (case side1 => repeat (first | exact (Kd.V_reads' HO288.out).2.2 | (with_reducible refine Kd.C_alloc ?_ _) | (with_reducible refine Kd.C_drewN ?_ _) | (with_reducible refine Kd.C_drew ?_))); (case side2 => exact (Kd.V_reads' HO288.out).2.1); rintro e w19 ⟨rfl, hb⟩; refine ⟨_, rfl, ?_⟩; replace HO279 := am (Kd.V_below (Kd.vq HO279.out) hb); replace HO282 := am (Kd.V_below (Kd.vq HO282.out) hb); replace HO285 := am (Kd.V_below (Kd.vq HO285.out) hb); replace HO288 := am (Kd.V_below (Kd.vq HO288.out) hb); replace HB := am (below_step (bq HB.out) hb); (try clear hb)))
 go_ret3
 exact ⟨by first | rfl | (simp [errW_none, errW_some] <;> rfl) | (simp [*, errW_none, errW_some] <;> rfl), bq HB.out⟩
def q_reduced.f (k : Nat) (a0 : Bool) (a1 : ByteArray) (a2 : ByteArray) : Option (Bool × ByteArray × ByteArray) := (n_Normalize.f a1).bind fun t292 => ((n_Normalize.f a2).bind fun t293 => (if t292.toList = ([] : List UInt8) then (some (false, (⟨#[]⟩ : ByteArray), (⟨#[]⟩ : ByteArray))) else (if t293.toList = ([1] : List UInt8) then (some (a0, t292, (⟨#[]⟩ : ByteArray))) else ((n_GCD.f k t292 t293).bind fun t294 => (if t294.toList = ([1] : List UInt8) then (some (a0, t292, t293)) else ((n_Divide.f k t292 t294).bind fun bt295 => ((n_Divide.f k t293 t294).bind fun bt298 => (if bt298.1.toList = ([1] : List UInt8) then (some (a0, bt295.1, (⟨#[]⟩ : ByteArray))) else (some (a0, bt295.1, bt298.1))))))))))
set_option maxHeartbeats 8000000 in
set_option maxRecDepth 100000 in
theorem q_reduced.calls (k : Nat) (a0 : Bool) (a1 : ByteArray) (a2 : ByteArray) (r1 : Bool) (r2 : ByteArray) (r3 : ByteArray) (w : World) (h : q_reduced.f k a0 a1 a2 = some (r1, r2, r3)) :
  Calls Tryd.prog 30 #[.bool a0, .string a1, .string a2] w fun e w' => e = .returned (.agg #[.bool r1, .string r2, .string r3]) ∧ Below w.heap.size w w' := by
 have hu30 := Tryd.underlying30
 have HB := Aside0.mk (Below.refl w.heap.size w)
 have H : ((n_Normalize.f a1).bind fun t292 => ((n_Normalize.f a2).bind fun t293 => (if t292.toList = ([] : List UInt8) then (some (false, (⟨#[]⟩ : ByteArray), (⟨#[]⟩ : ByteArray))) else (if t293.toList = ([1] : List UInt8) then (some (a0, t292, (⟨#[]⟩ : ByteArray))) else ((n_GCD.f k t292 t293).bind fun t294 => (if t294.toList = ([1] : List UInt8) then (some (a0, t292, t293)) else ((n_Divide.f k t292 t294).bind fun bt295 => ((n_Divide.f k t293 t294).bind fun bt298 => (if bt298.1.toList = ([1] : List UInt8) then (some (a0, bt295.1, (⟨#[]⟩ : ByteArray))) else (some (a0, bt295.1, bt298.1))))))))))) = some (r1, r2, r3) := h
 clear h
 replace H := Option.bind_eq_some_iff.mp H
 obtain ⟨t292, A40, H⟩ := H
 try dsimp only at H
 have A4 := Aside0.mk A40
 clear A40
 replace H := Option.bind_eq_some_iff.mp H
 obtain ⟨t293, A50, H⟩ := H
 try dsimp only at H
 have A5 := Aside0.mk A50
 clear A50
 by_cases c6 : t292.toList = ([] : List UInt8)
 ·rw [if_pos c6] at H
  have c6b0 : (t292.toList == ([] : List UInt8)) = true := beq_iff_eq.mpr c6
  have c6b1 : (t292.toList != ([] : List UInt8)) = false := bne_eq_false_iff_eq.mpr c6
  clear c6
  simp only [Option.some.injEq, Prod.mk.injEq] at H
  obtain ⟨rfl, rfl, rfl⟩ := H
  go_enter Tryd.func30, Tryd.ntmps30
  go_wp2_with (first | ((with_reducible refine gate_dst (N := 6) rfl ?_); refine box_event ?hg (N := 6) ?hd (cs := #[.bool false, .string (⟨#[]⟩ : ByteArray), .string (⟨#[]⟩ : ByteArray)]) (t := 30) ?hr ?_; (case hd => rfl); (case hg => rfl); (case hr => first | (go_simp; done) | (go_simp; rfl)); intro gb291 hg w7 hbox hb; have BK291 := am (hbox); have GW291 := am ((by rw [hg]; exact (below_size (bq HB.out)) : w.heap.size ≤ gb291)); have GE291 := am ((by rw [hg]; exact (below_size (bq HB.out)) : w.heap.size ≤ gb291)); replace HB := am (below_step (bq HB.out) hb); clear hb hbox hg) | ((with_reducible refine gate_callee (f := 44) rfl ?_); refine goesq (some 9) Tryd.func44 #[.string a1] ?_; (with_reducible refine (n_Normalize.calls a1 t292 _ A4.out).mono ?_); rintro e w' ⟨rfl, ⟨nd, rfl⟩⟩; refine ⟨_, rfl, ?_⟩; (try (rw [drewN_self w7]; generalize hq_ : World.drewN w7 _ = w7; have n0_ : Aside0 (w7.heap[gb291]? = some (.cells #[.bool false, .string (⟨#[]⟩ : ByteArray), .string (⟨#[]⟩ : ByteArray)] 30 (0, 0))) := ⟨by rw [← hq_]; exact (kq BK291.out)⟩; have n1_ : Aside0 (Below w.heap.size w w7) := ⟨by rw [← hq_]; exact (bq HB.out)⟩; clear BK291 HB hq_; have BK291 := n0_; have HB := n1_; clear n0_ n1_))) | ((with_reducible refine gate_callee (f := 44) rfl ?_); refine goesq (some 11) Tryd.func44 #[.string a2] ?_; (with_reducible refine (n_Normalize.calls a2 t293 _ A5.out).mono ?_); rintro e w' ⟨rfl, ⟨nd, rfl⟩⟩; refine ⟨_, rfl, ?_⟩; (try (rw [drewN_self w7]; generalize hq_ : World.drewN w7 _ = w7; have n0_ : Aside0 (w7.heap[gb291]? = some (.cells #[.bool false, .string (⟨#[]⟩ : ByteArray), .string (⟨#[]⟩ : ByteArray)] 30 (0, 0))) := ⟨by rw [← hq_]; exact (kq BK291.out)⟩; have n1_ : Aside0 (Below w.heap.size w w7) := ⟨by rw [← hq_]; exact (bq HB.out)⟩; clear BK291 HB hq_; have BK291 := n0_; have HB := n1_; clear n0_ n1_)); have hcz8_0 : w7.cell? ⟨gb291, 0, none⟩ = some (.bool false) := (blk_cell BK291.out 0).trans rfl; have hcz8_1 : w7.cell? ⟨gb291, 1, none⟩ = some (.string (⟨#[]⟩ : ByteArray)) := (blk_cell BK291.out 1).trans rfl; have hcz8_2 : w7.cell? ⟨gb291, 2, none⟩ = some (.string (⟨#[]⟩ : ByteArray)) := (blk_cell BK291.out 2).trans rfl; have hfz8_0 := blk_frozen BK291.out 0; have hfz8_1 := blk_frozen BK291.out 1; have hfz8_2 := blk_frozen BK291.out 2))
  refine bodyPost_ret (results_cell_row rfl _ _ gb291 30 #[.bool false, .string (⟨#[]⟩ : ByteArray), .string (⟨#[]⟩ : ByteArray)] (0, 0) _ rfl (by (with_reducible repeat (first | refine blk_drewN ?_ _ | refine blk_drew ?_ | refine blk_alloc ?_ _)); refine blk_put (cs := #[.bool false, .string (⟨#[]⟩ : ByteArray), .string (⟨#[]⟩ : ByteArray)]) ?_ 2 _ rfl; (with_reducible repeat (first | refine blk_drewN ?_ _ | refine blk_drew ?_ | refine blk_alloc ?_ _)); refine blk_put (cs := #[.bool false, .string (⟨#[]⟩ : ByteArray), .string (⟨#[]⟩ : ByteArray)]) ?_ 1 _ rfl; (with_reducible repeat (first | refine blk_drewN ?_ _ | refine blk_drew ?_ | refine blk_alloc ?_ _)); refine blk_put (cs := #[.bool false, .string (⟨#[]⟩ : ByteArray), .string (⟨#[]⟩ : ByteArray)]) ?_ 0 _ rfl; (with_reducible repeat (first | refine blk_drewN ?_ _ | refine blk_drew ?_ | refine blk_alloc ?_ _)); exact BK291.out) Tryd.underlying30 rfl (by kernel_rfl)) rfl ?_
  exact ⟨by first | rfl | (simp [errW_none, errW_some] <;> rfl) | (simp [*, errW_none, errW_some] <;> rfl), bq HB.out⟩
 rw [if_neg c6] at H
 have c6b0 : (t292.toList == ([] : List UInt8)) = false := beq_eq_false_iff_ne.mpr c6
 have c6b1 : (t292.toList != ([] : List UInt8)) = true := bne_iff_ne.mpr c6
 by_cases c9 : t293.toList = ([1] : List UInt8)
 ·rw [if_pos c9] at H
  have c9b0 : (t293.toList == ([1] : List UInt8)) = true := beq_iff_eq.mpr c9
  have c9b1 : (t293.toList != ([1] : List UInt8)) = false := bne_eq_false_iff_eq.mpr c9
  clear c9
  simp only [Option.some.injEq, Prod.mk.injEq] at H
  obtain ⟨rfl, rfl, rfl⟩ := H
  go_enter Tryd.func30, Tryd.ntmps30
  go_wp2_with (first | ((with_reducible refine gate_dst (N := 6) rfl ?_); refine box_event ?hg (N := 6) ?hd (cs := #[.bool false, .string (⟨#[]⟩ : ByteArray), .string (⟨#[]⟩ : ByteArray)]) (t := 30) ?hr ?_; (case hd => rfl); (case hg => rfl); (case hr => first | (go_simp; done) | (go_simp; rfl)); intro gb291 hg w10 hbox hb; have BK291 := am (hbox); have GW291 := am ((by rw [hg]; exact (below_size (bq HB.out)) : w.heap.size ≤ gb291)); have GE291 := am ((by rw [hg]; exact (below_size (bq HB.out)) : w.heap.size ≤ gb291)); replace HB := am (below_step (bq HB.out) hb); clear hb hbox hg) | ((with_reducible refine gate_callee (f := 44) rfl ?_); refine goesq (some 9) Tryd.func44 #[.string a1] ?_; (with_reducible refine (n_Normalize.calls a1 t292 _ A4.out).mono ?_); rintro e w' ⟨rfl, ⟨nd, rfl⟩⟩; refine ⟨_, rfl, ?_⟩; (try (rw [drewN_self w10]; generalize hq_ : World.drewN w10 _ = w10; have n0_ : Aside0 (w10.heap[gb291]? = some (.cells #[.bool false, .string (⟨#[]⟩ : ByteArray), .string (⟨#[]⟩ : ByteArray)] 30 (0, 0))) := ⟨by rw [← hq_]; exact (kq BK291.out)⟩; have n1_ : Aside0 (Below w.heap.size w w10) := ⟨by rw [← hq_]; exact (bq HB.out)⟩; clear BK291 HB hq_; have BK291 := n0_; have HB := n1_; clear n0_ n1_))) | ((with_reducible refine gate_callee (f := 44) rfl ?_); refine goesq (some 11) Tryd.func44 #[.string a2] ?_; (with_reducible refine (n_Normalize.calls a2 t293 _ A5.out).mono ?_); rintro e w' ⟨rfl, ⟨nd, rfl⟩⟩; refine ⟨_, rfl, ?_⟩; (try (rw [drewN_self w10]; generalize hq_ : World.drewN w10 _ = w10; have n0_ : Aside0 (w10.heap[gb291]? = some (.cells #[.bool false, .string (⟨#[]⟩ : ByteArray), .string (⟨#[]⟩ : ByteArray)] 30 (0, 0))) := ⟨by rw [← hq_]; exact (kq BK291.out)⟩; have n1_ : Aside0 (Below w.heap.size w w10) := ⟨by rw [← hq_]; exact (bq HB.out)⟩; clear BK291 HB hq_; have BK291 := n0_; have HB := n1_; clear n0_ n1_)); have hcz11_0 : w10.cell? ⟨gb291, 0, none⟩ = some (.bool false) := (blk_cell BK291.out 0).trans rfl; have hcz11_1 : w10.cell? ⟨gb291, 1, none⟩ = some (.string (⟨#[]⟩ : ByteArray)) := (blk_cell BK291.out 1).trans rfl; have hcz11_2 : w10.cell? ⟨gb291, 2, none⟩ = some (.string (⟨#[]⟩ : ByteArray)) := (blk_cell BK291.out 2).trans rfl; have hfz11_0 := blk_frozen BK291.out 0; have hfz11_1 := blk_frozen BK291.out 1; have hfz11_2 := blk_frozen BK291.out 2))
  refine bodyPost_ret (results_cell_row rfl _ _ gb291 30 #[.bool a0, .string t292, .string (⟨#[]⟩ : ByteArray)] (0, 0) _ rfl (by (with_reducible repeat (first | refine blk_drewN ?_ _ | refine blk_drew ?_ | refine blk_alloc ?_ _)); refine blk_put (cs := #[.bool a0, .string t292, .string (⟨#[]⟩ : ByteArray)]) ?_ 2 _ rfl; (with_reducible repeat (first | refine blk_drewN ?_ _ | refine blk_drew ?_ | refine blk_alloc ?_ _)); refine blk_put (cs := #[.bool a0, .string (⟨#[]⟩ : ByteArray), .string (⟨#[]⟩ : ByteArray)]) ?_ 1 _ rfl; (with_reducible repeat (first | refine blk_drewN ?_ _ | refine blk_drew ?_ | refine blk_alloc ?_ _)); refine blk_put (cs := #[.bool false, .string (⟨#[]⟩ : ByteArray), .string (⟨#[]⟩ : ByteArray)]) ?_ 0 _ rfl; (with_reducible repeat (first | refine blk_drewN ?_ _ | refine blk_drew ?_ | refine blk_alloc ?_ _)); exact BK291.out) Tryd.underlying30 rfl (by kernel_rfl)) rfl ?_
  exact ⟨by first | rfl | (simp [errW_none, errW_some] <;> rfl) | (simp [*, errW_none, errW_some] <;> rfl), bq HB.out⟩
 rw [if_neg c9] at H
 have c9b0 : (t293.toList == ([1] : List UInt8)) = false := beq_eq_false_iff_ne.mpr c9
 have c9b1 : (t293.toList != ([1] : List UInt8)) = true := bne_iff_ne.mpr c9
 replace H := Option.bind_eq_some_iff.mp H
 obtain ⟨t294, A120, H⟩ := H
 try dsimp only at H
 have A12 := Aside0.mk A120
 clear A120
 by_cases c13 : t294.toList = ([1] : List UInt8)
 ·rw [if_pos c13] at H
  have c13b0 : (t294.toList == ([1] : List UInt8)) = true := beq_iff_eq.mpr c13
  have c13b1 : (t294.toList != ([1] : List UInt8)) = false := bne_eq_false_iff_eq.mpr c13
  clear c13
  simp only [Option.some.injEq, Prod.mk.injEq] at H
  obtain ⟨rfl, rfl, rfl⟩ := H
  go_enter Tryd.func30, Tryd.ntmps30
  go_wp2_with (first | ((with_reducible refine gate_dst (N := 6) rfl ?_); refine box_event ?hg (N := 6) ?hd (cs := #[.bool false, .string (⟨#[]⟩ : ByteArray), .string (⟨#[]⟩ : ByteArray)]) (t := 30) ?hr ?_; (case hd => rfl); (case hg => rfl); (case hr => first | (go_simp; done) | (go_simp; rfl)); intro gb291 hg w14 hbox hb; have BK291 := am (hbox); have GW291 := am ((by rw [hg]; exact (below_size (bq HB.out)) : w.heap.size ≤ gb291)); have GE291 := am ((by rw [hg]; exact (below_size (bq HB.out)) : w.heap.size ≤ gb291)); replace HB := am (below_step (bq HB.out) hb); clear hb hbox hg) | ((with_reducible refine gate_callee (f := 44) rfl ?_); refine goesq (some 9) Tryd.func44 #[.string a1] ?_; (with_reducible refine (n_Normalize.calls a1 t292 _ A4.out).mono ?_); rintro e w' ⟨rfl, ⟨nd, rfl⟩⟩; refine ⟨_, rfl, ?_⟩; (try (rw [drewN_self w14]; generalize hq_ : World.drewN w14 _ = w14; have n0_ : Aside0 (w14.heap[gb291]? = some (.cells #[.bool false, .string (⟨#[]⟩ : ByteArray), .string (⟨#[]⟩ : ByteArray)] 30 (0, 0))) := ⟨by rw [← hq_]; exact (kq BK291.out)⟩; have n1_ : Aside0 (Below w.heap.size w w14) := ⟨by rw [← hq_]; exact (bq HB.out)⟩; clear BK291 HB hq_; have BK291 := n0_; have HB := n1_; clear n0_ n1_))) | ((with_reducible refine gate_callee (f := 44) rfl ?_); refine goesq (some 11) Tryd.func44 #[.string a2] ?_; (with_reducible refine (n_Normalize.calls a2 t293 _ A5.out).mono ?_); rintro e w' ⟨rfl, ⟨nd, rfl⟩⟩; refine ⟨_, rfl, ?_⟩; (try (rw [drewN_self w14]; generalize hq_ : World.drewN w14 _ = w14; have n0_ : Aside0 (w14.heap[gb291]? = some (.cells #[.bool false, .string (⟨#[]⟩ : ByteArray), .string (⟨#[]⟩ : ByteArray)] 30 (0, 0))) := ⟨by rw [← hq_]; exact (kq BK291.out)⟩; have n1_ : Aside0 (Below w.heap.size w w14) := ⟨by rw [← hq_]; exact (bq HB.out)⟩; clear BK291 HB hq_; have BK291 := n0_; have HB := n1_; clear n0_ n1_))) | ((with_reducible refine gate_callee (f := 45) rfl ?_); refine goesq (some 19) Tryd.func45 #[.string t292, .string t293] ?_; (with_reducible refine (n_GCD.calls k t292 t293 t294 _ A12.out).mono ?_); rintro e w15 ⟨rfl, hb⟩; refine ⟨_, rfl, ?_⟩; replace BK291 := am (blk_below (g := gb291) (o := .cells #[.bool false, .string (⟨#[]⟩ : ByteArray), .string (⟨#[]⟩ : ByteArray)] 30 (0, 0)) (kq BK291.out) hb); replace HB := am (below_step (bq HB.out) hb); (try clear hb); have hcz16_0 : w15.cell? ⟨gb291, 0, none⟩ = some (.bool false) := (blk_cell BK291.out 0).trans rfl; have hcz16_1 : w15.cell? ⟨gb291, 1, none⟩ = some (.string (⟨#[]⟩ : ByteArray)) := (blk_cell BK291.out 1).trans rfl; have hcz16_2 : w15.cell? ⟨gb291, 2, none⟩ = some (.string (⟨#[]⟩ : ByteArray)) := (blk_cell BK291.out 2).trans rfl; have hfz16_0 := blk_frozen BK291.out 0; have hfz16_1 := blk_frozen BK291.out 1; have hfz16_2 := blk_frozen BK291.out 2))
  refine bodyPost_ret (results_cell_row rfl _ _ gb291 30 #[.bool a0, .string t292, .string t293] (0, 0) _ rfl (by (with_reducible repeat (first | refine blk_drewN ?_ _ | refine blk_drew ?_ | refine blk_alloc ?_ _)); refine blk_put (cs := #[.bool a0, .string t292, .string (⟨#[]⟩ : ByteArray)]) ?_ 2 _ rfl; (with_reducible repeat (first | refine blk_drewN ?_ _ | refine blk_drew ?_ | refine blk_alloc ?_ _)); refine blk_put (cs := #[.bool a0, .string (⟨#[]⟩ : ByteArray), .string (⟨#[]⟩ : ByteArray)]) ?_ 1 _ rfl; (with_reducible repeat (first | refine blk_drewN ?_ _ | refine blk_drew ?_ | refine blk_alloc ?_ _)); refine blk_put (cs := #[.bool false, .string (⟨#[]⟩ : ByteArray), .string (⟨#[]⟩ : ByteArray)]) ?_ 0 _ rfl; (with_reducible repeat (first | refine blk_drewN ?_ _ | refine blk_drew ?_ | refine blk_alloc ?_ _)); exact BK291.out) Tryd.underlying30 rfl (by kernel_rfl)) rfl ?_
  exact ⟨by first | rfl | (simp [errW_none, errW_some] <;> rfl) | (simp [*, errW_none, errW_some] <;> rfl), bq HB.out⟩
 rw [if_neg c13] at H
 have c13b0 : (t294.toList == ([1] : List UInt8)) = false := beq_eq_false_iff_ne.mpr c13
 have c13b1 : (t294.toList != ([1] : List UInt8)) = true := bne_iff_ne.mpr c13
 replace H := Option.bind_eq_some_iff.mp H
 obtain ⟨⟨t295, t296, t297⟩, A170, H⟩ := H
 try dsimp only at H
 have A17 := Aside0.mk A170
 clear A170
 replace H := Option.bind_eq_some_iff.mp H
 obtain ⟨⟨t298, t299, t300⟩, A180, H⟩ := H
 try dsimp only at H
 have A18 := Aside0.mk A180
 clear A180
 by_cases c19 : t298.toList = ([1] : List UInt8)
 rotate_left
 ·rw [if_neg c19] at H
  have c19b0 : (t298.toList == ([1] : List UInt8)) = false := beq_eq_false_iff_ne.mpr c19
  have c19b1 : (t298.toList != ([1] : List UInt8)) = true := bne_iff_ne.mpr c19
  simp only [Option.some.injEq, Prod.mk.injEq] at H
  obtain ⟨rfl, rfl, rfl⟩ := H
  go_enter Tryd.func30, Tryd.ntmps30
  go_wp2_with (first | ((with_reducible refine gate_dst (N := 6) rfl ?_); refine box_event ?hg (N := 6) ?hd (cs := #[.bool false, .string (⟨#[]⟩ : ByteArray), .string (⟨#[]⟩ : ByteArray)]) (t := 30) ?hr ?_; (case hd => rfl); (case hg => rfl); (case hr => first | (go_simp; done) | (go_simp; rfl)); intro gb291 hg w25 hbox hb; have BK291 := am (hbox); have GW291 := am ((by rw [hg]; exact (below_size (bq HB.out)) : w.heap.size ≤ gb291)); have GE291 := am ((by rw [hg]; exact (below_size (bq HB.out)) : w.heap.size ≤ gb291)); replace HB := am (below_step (bq HB.out) hb); clear hb hbox hg) | ((with_reducible refine gate_callee (f := 44) rfl ?_); refine goesq (some 9) Tryd.func44 #[.string a1] ?_; (with_reducible refine (n_Normalize.calls a1 t292 _ A4.out).mono ?_); rintro e w' ⟨rfl, ⟨nd, rfl⟩⟩; refine ⟨_, rfl, ?_⟩; (try (rw [drewN_self w25]; generalize hq_ : World.drewN w25 _ = w25; have n0_ : Aside0 (w25.heap[gb291]? = some (.cells #[.bool false, .string (⟨#[]⟩ : ByteArray), .string (⟨#[]⟩ : ByteArray)] 30 (0, 0))) := ⟨by rw [← hq_]; exact (kq BK291.out)⟩; have n1_ : Aside0 (Below w.heap.size w w25) := ⟨by rw [← hq_]; exact (bq HB.out)⟩; clear BK291 HB hq_; have BK291 := n0_; have HB := n1_; clear n0_ n1_))) | ((with_reducible refine gate_callee (f := 44) rfl ?_); refine goesq (some 11) Tryd.func44 #[.string a2] ?_; (with_reducible refine (n_Normalize.calls a2 t293 _ A5.out).mono ?_); rintro e w' ⟨rfl, ⟨nd, rfl⟩⟩; refine ⟨_, rfl, ?_⟩; (try (rw [drewN_self w25]; generalize hq_ : World.drewN w25 _ = w25; have n0_ : Aside0 (w25.heap[gb291]? = some (.cells #[.bool false, .string (⟨#[]⟩ : ByteArray), .string (⟨#[]⟩ : ByteArray)] 30 (0, 0))) := ⟨by rw [← hq_]; exact (kq BK291.out)⟩; have n1_ : Aside0 (Below w.heap.size w w25) := ⟨by rw [← hq_]; exact (bq HB.out)⟩; clear BK291 HB hq_; have BK291 := n0_; have HB := n1_; clear n0_ n1_))) | ((with_reducible refine gate_callee (f := 45) rfl ?_); refine goesq (some 19) Tryd.func45 #[.string t292, .string t293] ?_; (with_reducible refine (n_GCD.calls k t292 t293 t294 _ A12.out).mono ?_); rintro e w26 ⟨rfl, hb⟩; refine ⟨_, rfl, ?_⟩; replace BK291 := am (blk_below (g := gb291) (o := .cells #[.bool false, .string (⟨#[]⟩ : ByteArray), .string (⟨#[]⟩ : ByteArray)] 30 (0, 0)) (kq BK291.out) hb); replace HB := am (below_step (bq HB.out) hb); (try clear hb)) | ((with_reducible refine gate_callee (f := 46) rfl ?_); refine goesq (some 25) Tryd.func46 #[.string t292, .string t294] ?_; (with_reducible refine (n_Divide.calls k t292 t294 t295 t296 t297 _ A17.out).mono ?_); rintro e w27 ⟨rfl, hb⟩; refine ⟨_, rfl, ?_⟩; replace BK291 := am (blk_below (g := gb291) (o := .cells #[.bool false, .string (⟨#[]⟩ : ByteArray), .string (⟨#[]⟩ : ByteArray)] 30 (0, 0)) (kq BK291.out) hb); replace HB := am (below_step (bq HB.out) hb); (try clear hb)) | ((with_reducible refine gate_callee (f := 46) rfl ?_); refine goesq (some 32) Tryd.func46 #[.string t293, .string t294] ?_; (with_reducible refine (n_Divide.calls k t293 t294 t298 t299 t300 _ A18.out).mono ?_); rintro e w28 ⟨rfl, hb⟩; refine ⟨_, rfl, ?_⟩; replace BK291 := am (blk_below (g := gb291) (o := .cells #[.bool false, .string (⟨#[]⟩ : ByteArray), .string (⟨#[]⟩ : ByteArray)] 30 (0, 0)) (kq BK291.out) hb); replace HB := am (below_step (bq HB.out) hb); (try clear hb); have hcz29_0 : w28.cell? ⟨gb291, 0, none⟩ = some (.bool false) := (blk_cell BK291.out 0).trans rfl; have hcz29_1 : w28.cell? ⟨gb291, 1, none⟩ = some (.string (⟨#[]⟩ : ByteArray)) := (blk_cell BK291.out 1).trans rfl; have hcz29_2 : w28.cell? ⟨gb291, 2, none⟩ = some (.string (⟨#[]⟩ : ByteArray)) := (blk_cell BK291.out 2).trans rfl; have hfz29_0 := blk_frozen BK291.out 0; have hfz29_1 := blk_frozen BK291.out 1; have hfz29_2 := blk_frozen BK291.out 2))
  refine bodyPost_ret (results_cell_row rfl _ _ gb291 30 #[.bool a0, .string t295, .string t298] (0, 0) _ rfl (by (with_reducible repeat (first | refine blk_drewN ?_ _ | refine blk_drew ?_ | refine blk_alloc ?_ _)); refine blk_put (cs := #[.bool a0, .string t295, .string (⟨#[]⟩ : ByteArray)]) ?_ 2 _ rfl; (with_reducible repeat (first | refine blk_drewN ?_ _ | refine blk_drew ?_ | refine blk_alloc ?_ _)); refine blk_put (cs := #[.bool a0, .string (⟨#[]⟩ : ByteArray), .string (⟨#[]⟩ : ByteArray)]) ?_ 1 _ rfl; (with_reducible repeat (first | refine blk_drewN ?_ _ | refine blk_drew ?_ | refine blk_alloc ?_ _)); refine blk_put (cs := #[.bool false, .string (⟨#[]⟩ : ByteArray), .string (⟨#[]⟩ : ByteArray)]) ?_ 0 _ rfl; (with_reducible repeat (first | refine blk_drewN ?_ _ | refine blk_drew ?_ | refine blk_alloc ?_ _)); exact BK291.out) Tryd.underlying30 rfl (by kernel_rfl)) rfl ?_
  exact ⟨by first | rfl | (simp [errW_none, errW_some] <;> rfl) | (simp [*, errW_none, errW_some] <;> rfl), bq HB.out⟩
 rw [if_pos c19] at H
 have c19b0 : (t298.toList == ([1] : List UInt8)) = true := beq_iff_eq.mpr c19
 have c19b1 : (t298.toList != ([1] : List UInt8)) = false := bne_eq_false_iff_eq.mpr c19
 clear c19
 simp only [Option.some.injEq, Prod.mk.injEq] at H
 obtain ⟨rfl, rfl, rfl⟩ := H
 go_enter Tryd.func30, Tryd.ntmps30
 go_wp2_with (first | ((with_reducible refine gate_dst (N := 6) rfl ?_); refine box_event ?hg (N := 6) ?hd (cs := #[.bool false, .string (⟨#[]⟩ : ByteArray), .string (⟨#[]⟩ : ByteArray)]) (t := 30) ?hr ?_; (case hd => rfl); (case hg => rfl); (case hr => first | (go_simp; done) | (go_simp; rfl)); intro gb291 hg w20 hbox hb; have BK291 := am (hbox); have GW291 := am ((by rw [hg]; exact (below_size (bq HB.out)) : w.heap.size ≤ gb291)); have GE291 := am ((by rw [hg]; exact (below_size (bq HB.out)) : w.heap.size ≤ gb291)); replace HB := am (below_step (bq HB.out) hb); clear hb hbox hg) | ((with_reducible refine gate_callee (f := 44) rfl ?_); refine goesq (some 9) Tryd.func44 #[.string a1] ?_; (with_reducible refine (n_Normalize.calls a1 t292 _ A4.out).mono ?_); rintro e w' ⟨rfl, ⟨nd, rfl⟩⟩; refine ⟨_, rfl, ?_⟩; (try (rw [drewN_self w20]; generalize hq_ : World.drewN w20 _ = w20; have n0_ : Aside0 (w20.heap[gb291]? = some (.cells #[.bool false, .string (⟨#[]⟩ : ByteArray), .string (⟨#[]⟩ : ByteArray)] 30 (0, 0))) := ⟨by rw [← hq_]; exact (kq BK291.out)⟩; have n1_ : Aside0 (Below w.heap.size w w20) := ⟨by rw [← hq_]; exact (bq HB.out)⟩; clear BK291 HB hq_; have BK291 := n0_; have HB := n1_; clear n0_ n1_))) | ((with_reducible refine gate_callee (f := 44) rfl ?_); refine goesq (some 11) Tryd.func44 #[.string a2] ?_; (with_reducible refine (n_Normalize.calls a2 t293 _ A5.out).mono ?_); rintro e w' ⟨rfl, ⟨nd, rfl⟩⟩; refine ⟨_, rfl, ?_⟩; (try (rw [drewN_self w20]; generalize hq_ : World.drewN w20 _ = w20; have n0_ : Aside0 (w20.heap[gb291]? = some (.cells #[.bool false, .string (⟨#[]⟩ : ByteArray), .string (⟨#[]⟩ : ByteArray)] 30 (0, 0))) := ⟨by rw [← hq_]; exact (kq BK291.out)⟩; have n1_ : Aside0 (Below w.heap.size w w20) := ⟨by rw [← hq_]; exact (bq HB.out)⟩; clear BK291 HB hq_; have BK291 := n0_; have HB := n1_; clear n0_ n1_))) | ((with_reducible refine gate_callee (f := 45) rfl ?_); refine goesq (some 19) Tryd.func45 #[.string t292, .string t293] ?_; (with_reducible refine (n_GCD.calls k t292 t293 t294 _ A12.out).mono ?_); rintro e w21 ⟨rfl, hb⟩; refine ⟨_, rfl, ?_⟩; replace BK291 := am (blk_below (g := gb291) (o := .cells #[.bool false, .string (⟨#[]⟩ : ByteArray), .string (⟨#[]⟩ : ByteArray)] 30 (0, 0)) (kq BK291.out) hb); replace HB := am (below_step (bq HB.out) hb); (try clear hb)) | ((with_reducible refine gate_callee (f := 46) rfl ?_); refine goesq (some 25) Tryd.func46 #[.string t292, .string t294] ?_; (with_reducible refine (n_Divide.calls k t292 t294 t295 t296 t297 _ A17.out).mono ?_); rintro e w22 ⟨rfl, hb⟩; refine ⟨_, rfl, ?_⟩; replace BK291 := am (blk_below (g := gb291) (o := .cells #[.bool false, .string (⟨#[]⟩ : ByteArray), .string (⟨#[]⟩ : ByteArray)] 30 (0, 0)) (kq BK291.out) hb); replace HB := am (below_step (bq HB.out) hb); (try clear hb)) | ((with_reducible refine gate_callee (f := 46) rfl ?_); refine goesq (some 32) Tryd.func46 #[.string t293, .string t294] ?_; (with_reducible refine (n_Divide.calls k t293 t294 t298 t299 t300 _ A18.out).mono ?_); rintro e w23 ⟨rfl, hb⟩; refine ⟨_, rfl, ?_⟩; replace BK291 := am (blk_below (g := gb291) (o := .cells #[.bool false, .string (⟨#[]⟩ : ByteArray), .string (⟨#[]⟩ : ByteArray)] 30 (0, 0)) (kq BK291.out) hb); replace HB := am (below_step (bq HB.out) hb); (try clear hb); have hcz24_0 : w23.cell? ⟨gb291, 0, none⟩ = some (.bool false) := (blk_cell BK291.out 0).trans rfl; have hcz24_1 : w23.cell? ⟨gb291, 1, none⟩ = some (.string (⟨#[]⟩ : ByteArray)) := (blk_cell BK291.out 1).trans rfl; have hcz24_2 : w23.cell? ⟨gb291, 2, none⟩ = some (.string (⟨#[]⟩ : ByteArray)) := (blk_cell BK291.out 2).trans rfl; have hfz24_0 := blk_frozen BK291.out 0; have hfz24_1 := blk_frozen BK291.out 1; have hfz24_2 := blk_frozen BK291.out 2))
 refine bodyPost_ret (results_cell_row rfl _ _ gb291 30 #[.bool a0, .string t295, .string (⟨#[]⟩ : ByteArray)] (0, 0) _ rfl (by (with_reducible repeat (first | refine blk_drewN ?_ _ | refine blk_drew ?_ | refine blk_alloc ?_ _)); refine blk_put (cs := #[.bool a0, .string t295, .string (⟨#[]⟩ : ByteArray)]) ?_ 2 _ rfl; (with_reducible repeat (first | refine blk_drewN ?_ _ | refine blk_drew ?_ | refine blk_alloc ?_ _)); refine blk_put (cs := #[.bool a0, .string (⟨#[]⟩ : ByteArray), .string (⟨#[]⟩ : ByteArray)]) ?_ 1 _ rfl; (with_reducible repeat (first | refine blk_drewN ?_ _ | refine blk_drew ?_ | refine blk_alloc ?_ _)); refine blk_put (cs := #[.bool false, .string (⟨#[]⟩ : ByteArray), .string (⟨#[]⟩ : ByteArray)]) ?_ 0 _ rfl; (with_reducible repeat (first | refine blk_drewN ?_ _ | refine blk_drew ?_ | refine blk_alloc ?_ _)); exact BK291.out) Tryd.underlying30 rfl (by kernel_rfl)) rfl ?_
 exact ⟨by first | rfl | (simp [errW_none, errW_some] <;> rfl) | (simp [*, errW_none, errW_some] <;> rfl), bq HB.out⟩
def n_FromUint.f (k : Nat) (a0 : Int) : Option (ByteArray) := (n_limbs_text.f k (([(a0) % 4294967296, (a0 / 4294967296) % 4294967296] : List Int))).bind fun t304 => (some t304)
set_option maxHeartbeats 8000000 in
set_option maxRecDepth 100000 in
theorem n_FromUint.calls (k : Nat) (a0 : Int) (r : ByteArray) (w : World) (h : n_FromUint.f k a0 = some r) :
 Calls Tryd.prog 47 #[.int .u64 a0] w fun e w' => e = .returned (.string r) ∧ Below w.heap.size w w' := by
 have HB := Aside0.mk (Below.refl w.heap.size w)
 have H : ((n_limbs_text.f k (([(a0) % 4294967296, (a0 / 4294967296) % 4294967296] : List Int))).bind fun t304 => (some t304)) = some r := h
 clear h
 obtain ⟨y301, hy301⟩ : ∃ y_ : List Int, y_ = (([(a0) % 4294967296, (a0 / 4294967296) % 4294967296] : List Int)) := ⟨_, rfl⟩
 replace H : ((n_limbs_text.f k y301).bind fun t304 => (some t304)) = some r := by first | (rw [hy301]; with_reducible exact H) | (have H2_ := (Option.bind_some _ _).symm.trans H; rw [hy301]; with_reducible exact H2_) | (have H2_ := (Option.bind_some _ _).symm.trans H; with_reducible exact H2_) | with_reducible exact H | (rw [hy301]; exact H) | exact H
 have Ny301 := Aside0.mk hy301
 clear hy301
 replace H := Option.bind_eq_some_iff.mp H
 obtain ⟨t304, A20, H⟩ := H
 try dsimp only at H
 have A2 := Aside0.mk A20
 clear A20
 obtain rfl := Option.some.inj H
 go_enter Tryd.func47, Tryd.ntmps47
 go_wp2_with (first | ((with_reducible refine gate_dst (N := 8) rfl ?_); refine Kd.R_lit (Kd.int .u32) _ 88 ?hg (N := 8) ?hd (xs := ([(a0) % 4294967296, (a0 / 4294967296) % 4294967296] : List Int)) (inner := [.int .u32 ((a0) % 4294967296), .int .u32 ((a0 / 4294967296) % 4294967296)]) (ok := fun _ => True) (okp := fun _ => True) ?hr ?hp (fun _ hk => hk) trivial (Below.refl _ _) (Nat.le_refl _) (by simp) ?_; (case hd => rfl); (case hg => rfl); (case hr => first | (go_simp; done) | (go_simp; rfl)); (case hp => exact (Reps.one (show Kd.M (Kd.int .u32) _ _ _ ((a0) % 4294967296) [.int .u32 ((a0) % 4294967296)] from rfl) (Reps.one (show Kd.M (Kd.int .u32) _ _ _ ((a0 / 4294967296) % 4294967296) [.int .u32 ((a0 / 4294967296) % 4294967296)] from rfl) (Reps.none _ _)))); intro v302 w3 ho4 hb hg_ hnew_; clear hg_ hnew_; (first | rw [← Ny301.out] at ho4 | (simp only [Int.reduceToNat] at ho4; rw [← Ny301.out] at ho4)); have HO303 := am (Kd.R_lower ho4 (below_size (bq HB.out))); replace HB := am (below_step (bq HB.out) hb); clear hb ho4; obtain ⟨Ao5, co5, eo5⟩ := Kd.R_slice HO303.out; subst eo5) | ((with_reducible refine gate_callee (f := 64) rfl ?_); refine goesq (some 9) Tryd.func64 #[.slice Ao5 y301.length co5] ?_; (with_reducible refine (n_limbs_text.calls k _ _ y301 t304 _ ?side1 ?side2 A2.out).mono ?_); (case side1 => repeat (first | exact (Kd.R_reads' HO303.out).2.2 | (with_reducible refine Kd.C_alloc ?_ _) | (with_reducible refine Kd.C_drewN ?_ _) | (with_reducible refine Kd.C_drew ?_))); (case side2 => exact (Kd.R_reads' HO303.out).2.1); rintro e w6 ⟨rfl, hb⟩; refine ⟨_, rfl, ?_⟩; replace HO303 := am (Kd.R_below (Kd.rq HO303.out) hb); replace HB := am (below_step (bq HB.out) hb); (try clear hb)))
 go_ret
 exact ⟨by first | rfl | (simp [errW_none, errW_some] <;> rfl) | (simp [*, errW_none, errW_some] <;> rfl), bq HB.out⟩
def q_magnitude.f (k : Nat) (a0 : Int) : Option (ByteArray) := if a0 < 0 then ((n_FromUint.f k (IntKind.u64.wrap (-(IntKind.u64.wrap (a0))))).bind fun t305 => (some t305)) else ((n_FromUint.f k (IntKind.u64.wrap (a0))).bind fun t306 => (some t306))
set_option maxHeartbeats 8000000 in
set_option maxRecDepth 100000 in
theorem q_magnitude.calls (k : Nat) (a0 : Int) (r : ByteArray) (w : World) (h : q_magnitude.f k a0 = some r) :
  Calls Tryd.prog 31 #[.int .i64 a0] w fun e w' => e = .returned (.string r) ∧ Below w.heap.size w w' := by
 have HB := Aside0.mk (Below.refl w.heap.size w)
 have H : (if a0 < 0 then ((n_FromUint.f k (IntKind.u64.wrap (-(IntKind.u64.wrap (a0))))).bind fun t305 => (some t305)) else ((n_FromUint.f k (IntKind.u64.wrap (a0))).bind fun t306 => (some t306))) = some r := h
 clear h
 by_cases c2 : a0 < 0
 rotate_left
 ·rw [if_neg c2] at H
  have c2b0 := decide_eq_false c2
  clear c2
  replace H := Option.bind_eq_some_iff.mp H
  obtain ⟨t306, A50, H⟩ := H
  try dsimp only at H
  have A5 := Aside0.mk A50
  clear A50
  obtain rfl := Option.some.inj H
  go_enter Tryd.func31, Tryd.ntmps31
  go_wp2_with (first | ((with_reducible refine gate_callee (f := 47) rfl ?_); refine goesq (some 11) Tryd.func47 #[.int .u64 (IntKind.u64.wrap (a0))] ?_; (with_reducible refine (n_FromUint.calls k (IntKind.u64.wrap (a0)) t306 _ A5.out).mono ?_); rintro e w6 ⟨rfl, hb⟩; refine ⟨_, rfl, ?_⟩; replace HB := am (below_step (bq HB.out) hb); (try clear hb)))
  go_ret
  exact ⟨by first | rfl | (simp [errW_none, errW_some] <;> rfl) | (simp [*, errW_none, errW_some] <;> rfl), bq HB.out⟩
 rw [if_pos c2] at H
 have c2b0 := decide_eq_true c2
 clear c2
 replace H := Option.bind_eq_some_iff.mp H
 obtain ⟨t305, A30, H⟩ := H
 try dsimp only at H
 have A3 := Aside0.mk A30
 clear A30
 obtain rfl := Option.some.inj H
 go_enter Tryd.func31, Tryd.ntmps31
 go_wp2_with (first | ((with_reducible refine gate_callee (f := 47) rfl ?_); refine goesq (some 8) Tryd.func47 #[.int .u64 (IntKind.u64.wrap (-(IntKind.u64.wrap (a0))))] ?_; (with_reducible refine (n_FromUint.calls k (IntKind.u64.wrap (-(IntKind.u64.wrap (a0)))) t305 _ A3.out).mono ?_); rintro e w4 ⟨rfl, hb⟩; refine ⟨_, rfl, ?_⟩; replace HB := am (below_step (bq HB.out) hb); (try clear hb)))
 go_ret
 exact ⟨by first | rfl | (simp [errW_none, errW_some] <;> rfl) | (simp [*, errW_none, errW_some] <;> rfl), bq HB.out⟩
def q_Int.f (k : Nat) (a0 : Int) : Option (Bool × ByteArray × ByteArray) := (q_magnitude.f k a0).bind fun t308 => ((q_reduced.f k (decide (a0 < 0)) t308 (⟨#[1]⟩ : ByteArray)).bind fun bt309 => (some (bt309.1, bt309.2.1, bt309.2.2)))
set_option maxHeartbeats 8000000 in
set_option maxRecDepth 100000 in
theorem q_Int.calls (k : Nat) (a0 : Int) (r1 : Bool) (r2 : ByteArray) (r3 : ByteArray) (w : World) (h : q_Int.f k a0 = some (r1, r2, r3)) :
 Calls Tryd.prog 14 #[.int .i64 a0] w fun e w' => e = .returned (.agg #[.bool r1, .string r2, .string r3]) ∧ Below w.heap.size w w' := by
 have hu30 := Tryd.underlying30
 have HB := Aside0.mk (Below.refl w.heap.size w)
 have H : ((q_magnitude.f k a0).bind fun t308 => ((q_reduced.f k (decide (a0 < 0)) t308 (⟨#[1]⟩ : ByteArray)).bind fun bt309 => (some (bt309.1, bt309.2.1, bt309.2.2)))) = some (r1, r2, r3) := h
 clear h
 replace H := Option.bind_eq_some_iff.mp H
 obtain ⟨t308, A20, H⟩ := H
 try dsimp only at H
 have A2 := Aside0.mk A20
 clear A20
 replace H := Option.bind_eq_some_iff.mp H
 obtain ⟨⟨t309, t310, t311⟩, A30, H⟩ := H
 try dsimp only at H
 have A3 := Aside0.mk A30
 clear A30
 simp only [Option.some.injEq, Prod.mk.injEq] at H
 obtain ⟨rfl, rfl, rfl⟩ := H
 go_enter Tryd.func14, Tryd.ntmps14
 go_wp2_with (first | ((with_reducible refine gate_dst (N := 2) rfl ?_); refine box_event ?hg (N := 2) ?hd (cs := #[.bool false, .string (⟨#[]⟩ : ByteArray), .string (⟨#[]⟩ : ByteArray)]) (t := 30) ?hr ?_; (case hd => rfl); (case hg => rfl); (case hr => first | (go_simp; done) | (go_simp; rfl)); intro gb307 hg w4 hbox hb; have BK307 := am (hbox); have GW307 := am ((by rw [hg]; exact (below_size (bq HB.out)) : w.heap.size ≤ gb307)); have GE307 := am ((by rw [hg]; exact (below_size (bq HB.out)) : w.heap.size ≤ gb307)); replace HB := am (below_step (bq HB.out) hb); clear hb hbox hg) | ((with_reducible refine gate_callee (f := 31) rfl ?_); refine goesq (some 6) Tryd.func31 #[.int .i64 a0] ?_; (with_reducible refine (q_magnitude.calls k a0 t308 _ A2.out).mono ?_); rintro e w5 ⟨rfl, hb⟩; refine ⟨_, rfl, ?_⟩; replace BK307 := am (blk_below (g := gb307) (o := .cells #[.bool false, .string (⟨#[]⟩ : ByteArray), .string (⟨#[]⟩ : ByteArray)] 30 (0, 0)) (kq BK307.out) hb); replace HB := am (below_step (bq HB.out) hb); (try clear hb)) | ((with_reducible refine gate_callee (f := 30) rfl ?_); refine goesq (some 7) Tryd.func30 #[.bool (decide (a0 < 0)), .string t308, .string (⟨#[1]⟩ : ByteArray)] ?_; (with_reducible refine (q_reduced.calls k (decide (a0 < 0)) t308 (⟨#[1]⟩ : ByteArray) t309 t310 t311 _ A3.out).mono ?_); rintro e w6 ⟨rfl, hb⟩; refine ⟨_, rfl, ?_⟩; replace BK307 := am (blk_below (g := gb307) (o := .cells #[.bool false, .string (⟨#[]⟩ : ByteArray), .string (⟨#[]⟩ : ByteArray)] 30 (0, 0)) (kq BK307.out) hb); replace HB := am (below_step (bq HB.out) hb); (try clear hb); have hcz7_0 : w6.cell? ⟨gb307, 0, none⟩ = some (.bool false) := (blk_cell BK307.out 0).trans rfl; have hcz7_1 : w6.cell? ⟨gb307, 1, none⟩ = some (.string (⟨#[]⟩ : ByteArray)) := (blk_cell BK307.out 1).trans rfl; have hcz7_2 : w6.cell? ⟨gb307, 2, none⟩ = some (.string (⟨#[]⟩ : ByteArray)) := (blk_cell BK307.out 2).trans rfl; have hfz7_0 := blk_frozen BK307.out 0; have hfz7_1 := blk_frozen BK307.out 1; have hfz7_2 := blk_frozen BK307.out 2))
 refine bodyPost_ret (results_cell_row rfl _ _ gb307 30 #[.bool t309, .string t310, .string t311] (0, 0) _ rfl (by (with_reducible repeat (first | refine blk_drewN ?_ _ | refine blk_drew ?_ | refine blk_alloc ?_ _)); refine blk_put (cs := #[.bool t309, .string t310, .string (⟨#[]⟩ : ByteArray)]) ?_ 2 _ rfl; (with_reducible repeat (first | refine blk_drewN ?_ _ | refine blk_drew ?_ | refine blk_alloc ?_ _)); refine blk_put (cs := #[.bool t309, .string (⟨#[]⟩ : ByteArray), .string (⟨#[]⟩ : ByteArray)]) ?_ 1 _ rfl; (with_reducible repeat (first | refine blk_drewN ?_ _ | refine blk_drew ?_ | refine blk_alloc ?_ _)); refine blk_put (cs := #[.bool false, .string (⟨#[]⟩ : ByteArray), .string (⟨#[]⟩ : ByteArray)]) ?_ 0 _ rfl; (with_reducible repeat (first | refine blk_drewN ?_ _ | refine blk_drew ?_ | refine blk_alloc ?_ _)); exact BK307.out) Tryd.underlying30 rfl (by kernel_rfl)) rfl ?_
 exact ⟨by first | rfl | (simp [errW_none, errW_some] <;> rfl) | (simp [*, errW_none, errW_some] <;> rfl), bq HB.out⟩
def c_Rate.l0 : Nat → List (S33) → ByteArray → Int → Bool → Int → List (S33) → Int → Int → Option (Bool × ByteArray × ByteArray × Int)
 | 0, _, _, _, _, _, _, _, _ => none
 | k + 1, x0, x1, x2, x9, x10, x26, x27, x28 => if x28 < x27 then (if 0 ≤ x28 then (if x28 < (x26.length : Int) then (if ((rd_T33 x26 x28).f0).toList = x1.toList then (if ((rd_T33 x26 x28).f1) ≤ x2 then (if x10 < 0 then (c_Rate.l0 k x0 x1 x2 true x28 x26 x27 (wrap64 (x28 + 1))) else (if 0 ≤ x10 then (if x10 < (x0.length : Int) then (if ((rd_T33 x26 x28).f1) > ((rd_T33 x0 x10).f1) then (c_Rate.l0 k x0 x1 x2 true x28 x26 x27 (wrap64 (x28 + 1))) else (c_Rate.l0 k x0 x1 x2 true x10 x26 x27 (wrap64 (x28 + 1)))) else (none)) else (none))) else (c_Rate.l0 k x0 x1 x2 true x10 x26 x27 (wrap64 (x28 + 1)))) else (c_Rate.l0 k x0 x1 x2 x9 x10 x26 x27 (wrap64 (x28 + 1)))) else (none)) else (none)) else (if x9 = true then (if x10 < 0 then (some (false, (⟨#[]⟩ : ByteArray), (⟨#[]⟩ : ByteArray), 9)) else (if 0 ≤ x10 then (if x10 < (x0.length : Int) then (some ((rd_T33 x0 x10).f2.f0, (rd_T33 x0 x10).f2.f1, (rd_T33 x0 x10).f2.f2, 0)) else (none)) else (none))) else (some (false, (⟨#[]⟩ : ByteArray), (⟨#[]⟩ : ByteArray), 8)))
def c_Rate.f (k : Nat) (l0 : List (S33)) (a1 : ByteArray) (a2 : Int) : Option (Bool × ByteArray × ByteArray × Int) := (c_Check.f k l0).bind fun t313 => (if t313 = 0 then ((c_isDay.f a2).bind fun t314 => (if t314 = true then (if a1.toList = ([69, 85, 82] : List UInt8) then ((q_Int.f k 1).bind fun bt315 => (some (bt315.1, bt315.2.1, bt315.2.2, 0))) else (c_Rate.l0 k l0 a1 a2 false (-1) l0 (l0.length : Int) 0)) else (some (false, (⟨#[]⟩ : ByteArray), (⟨#[]⟩ : ByteArray), 1)))) else (some (false, (⟨#[]⟩ : ByteArray), (⟨#[]⟩ : ByteArray), t313)))
set_option maxHeartbeats 8000000 in
set_option maxRecDepth 100000 in
theorem c_Rate.calls (k : Nat) (A0 : Option Addr) (c0 : Nat) (l0 : List (S33)) (a1 : ByteArray) (a2 : Int) (r1 : Bool) (r2 : ByteArray) (r3 : ByteArray) (r4 : Int) (w : World) (hr0 : Kd.C k33 w A0 l0.length l0) (hc0 : l0.length ≤ c0) (h : c_Rate.f k l0 a1 a2 = some (r1, r2, r3, r4)) :
  Calls Tryd.prog 15 #[.slice A0 l0.length c0, .string a1, .int .i64 a2] w fun e w' => e = .returned (.tuple #[.agg #[.bool r1, .string r2, .string r3], .int .i64 r4]) ∧ Below w.heap.size w w' := by
 have hu30 := Tryd.underlying30
 have hu33 := Tryd.underlying33
 have HR0 := Aside0.mk hr0
 have HC0 := Aside0.mk hc0
 clear hr0 hc0
 have HB := Aside0.mk (Below.refl w.heap.size w)
 have H : ((c_Check.f k l0).bind fun t313 => (if t313 = 0 then ((c_isDay.f a2).bind fun t314 => (if t314 = true then (if a1.toList = ([69, 85, 82] : List UInt8) then ((q_Int.f k 1).bind fun bt315 => (some (bt315.1, bt315.2.1, bt315.2.2, 0))) else (c_Rate.l0 k l0 a1 a2 false (-1) l0 (l0.length : Int) 0)) else (some (false, (⟨#[]⟩ : ByteArray), (⟨#[]⟩ : ByteArray), 1)))) else (some (false, (⟨#[]⟩ : ByteArray), (⟨#[]⟩ : ByteArray), t313)))) = some (r1, r2, r3, r4) := h
 clear h
 replace H := Option.bind_eq_some_iff.mp H
 obtain ⟨t313, A40, H⟩ := H
 try dsimp only at H
 have A4 := Aside0.mk A40
 clear A40
 by_cases c5 : t313 = 0
 rotate_left
 ·rw [if_neg c5] at H
  have c5b0 : (t313 == 0) = false := beq_eq_false_iff_ne.mpr c5
  have c5b1 : (t313 != 0) = true := bne_iff_ne.mpr c5
  simp only [Option.some.injEq, Prod.mk.injEq] at H
  obtain ⟨rfl, rfl, rfl, rfl⟩ := H
  go_enter Tryd.func15, Tryd.ntmps15
  go_wp2_with (first | ((with_reducible refine gate_dst (N := 6) rfl ?_); refine box_event ?hg (N := 6) ?hd (cs := #[.bool false, .string (⟨#[]⟩ : ByteArray), .string (⟨#[]⟩ : ByteArray)]) (t := 30) ?hr ?_; (case hd => rfl); (case hg => rfl); (case hr => first | (go_simp; done) | (go_simp; rfl)); intro gb312 hg w50 hbox hb; have BK312 := am (hbox); have GW312 := am ((by rw [hg]; exact (below_size (bq HB.out)) : w.heap.size ≤ gb312)); have GE312 := am ((by rw [hg]; exact (below_size (bq HB.out)) : w.heap.size ≤ gb312)); replace HB := am (below_step (bq HB.out) hb); clear hb hbox hg) | (go_at_call 12; (with_reducible refine (c_Check.calls k _ _ l0 t313 _ ?side1 ?side2 A4.out).mono ?_); (case side1 => repeat (first | exact (Kd.C_below HR0.out HB.out) | (with_reducible refine Kd.C_alloc ?_ _) | (with_reducible refine Kd.C_drewN ?_ _) | (with_reducible refine Kd.C_drew ?_))); (case side2 => exact HC0.out); rintro e w51 ⟨rfl, hb⟩; replace BK312 := am (blk_below (g := gb312) (o := .cells #[.bool false, .string (⟨#[]⟩ : ByteArray), .string (⟨#[]⟩ : ByteArray)] 30 (0, 0)) (kq BK312.out) hb); replace HB := am (below_step (bq HB.out) hb); (try clear hb); have hcz52_0 : w51.cell? ⟨gb312, 0, none⟩ = some (.bool false) := (blk_cell BK312.out 0).trans rfl; have hcz52_1 : w51.cell? ⟨gb312, 1, none⟩ = some (.string (⟨#[]⟩ : ByteArray)) := (blk_cell BK312.out 1).trans rfl; have hcz52_2 : w51.cell? ⟨gb312, 2, none⟩ = some (.string (⟨#[]⟩ : ByteArray)) := (blk_cell BK312.out 2).trans rfl; have hfz52_0 := blk_frozen BK312.out 0; have hfz52_1 := blk_frozen BK312.out 1; have hfz52_2 := blk_frozen BK312.out 2))
  refine bodyPost_ret (results_ct rfl _ _ gb312 30 #[.bool false, .string (⟨#[]⟩ : ByteArray), .string (⟨#[]⟩ : ByteArray)] (0, 0) _ rfl (by (with_reducible repeat (first | refine blk_drewN ?_ _ | refine blk_drew ?_ | refine blk_alloc ?_ _)); refine blk_put (cs := #[.bool false, .string (⟨#[]⟩ : ByteArray), .string (⟨#[]⟩ : ByteArray)]) ?_ 2 _ rfl; (with_reducible repeat (first | refine blk_drewN ?_ _ | refine blk_drew ?_ | refine blk_alloc ?_ _)); refine blk_put (cs := #[.bool false, .string (⟨#[]⟩ : ByteArray), .string (⟨#[]⟩ : ByteArray)]) ?_ 1 _ rfl; (with_reducible repeat (first | refine blk_drewN ?_ _ | refine blk_drew ?_ | refine blk_alloc ?_ _)); refine blk_put (cs := #[.bool false, .string (⟨#[]⟩ : ByteArray), .string (⟨#[]⟩ : ByteArray)]) ?_ 0 _ rfl; (with_reducible repeat (first | refine blk_drewN ?_ _ | refine blk_drew ?_ | refine blk_alloc ?_ _)); exact BK312.out) Tryd.underlying30 rfl (by kernel_rfl)) rfl ?_
  exact ⟨by first | rfl | (simp [errW_none, errW_some] <;> rfl) | (simp [*, errW_none, errW_some] <;> rfl), bq HB.out⟩
 rw [if_pos c5] at H
 have c5b0 : (t313 == 0) = true := beq_iff_eq.mpr c5
 have c5b1 : (t313 != 0) = false := bne_eq_false_iff_eq.mpr c5
 clear c5
 replace H := Option.bind_eq_some_iff.mp H
 obtain ⟨t314, A60, H⟩ := H
 try dsimp only at H
 have A6 := Aside0.mk A60
 clear A60
 by_cases c7 : t314 = true
 rotate_left
 ·replace c7 := Bool.eq_false_iff.mpr c7
  subst c7
  rw [if_neg (show ¬ (false = true) by decide)] at H
  simp only [Option.some.injEq, Prod.mk.injEq] at H
  obtain ⟨rfl, rfl, rfl, rfl⟩ := H
  go_enter Tryd.func15, Tryd.ntmps15
  go_wp2_with (first | ((with_reducible refine gate_dst (N := 6) rfl ?_); refine box_event ?hg (N := 6) ?hd (cs := #[.bool false, .string (⟨#[]⟩ : ByteArray), .string (⟨#[]⟩ : ByteArray)]) (t := 30) ?hr ?_; (case hd => rfl); (case hg => rfl); (case hr => first | (go_simp; done) | (go_simp; rfl)); intro gb312 hg w47 hbox hb; have BK312 := am (hbox); have GW312 := am ((by rw [hg]; exact (below_size (bq HB.out)) : w.heap.size ≤ gb312)); have GE312 := am ((by rw [hg]; exact (below_size (bq HB.out)) : w.heap.size ≤ gb312)); replace HB := am (below_step (bq HB.out) hb); clear hb hbox hg) | (go_at_call 12; (with_reducible refine (c_Check.calls k _ _ l0 t313 _ ?side1 ?side2 A4.out).mono ?_); (case side1 => repeat (first | exact (Kd.C_below HR0.out HB.out) | (with_reducible refine Kd.C_alloc ?_ _) | (with_reducible refine Kd.C_drewN ?_ _) | (with_reducible refine Kd.C_drew ?_))); (case side2 => exact HC0.out); rintro e w48 ⟨rfl, hb⟩; replace BK312 := am (blk_below (g := gb312) (o := .cells #[.bool false, .string (⟨#[]⟩ : ByteArray), .string (⟨#[]⟩ : ByteArray)] 30 (0, 0)) (kq BK312.out) hb); replace HB := am (below_step (bq HB.out) hb); (try clear hb)) | (go_at_call 25; (with_reducible refine (c_isDay.calls a2 false _ A6.out).mono ?_); rintro e w' ⟨rfl, ⟨nd, rfl⟩⟩; (try first | exact ⟨rfl, _, World.drewN_drewN _ _ _⟩ | exact ⟨rfl, _, Eq.trans (World.drewN_drewN _ _ _) (congrArg (World.drewN _) (Nat.add_assoc _ _ _))⟩); have hcz49_0 : w48.cell? ⟨gb312, 0, none⟩ = some (.bool false) := (blk_cell BK312.out 0).trans rfl; have hcz49_1 : w48.cell? ⟨gb312, 1, none⟩ = some (.string (⟨#[]⟩ : ByteArray)) := (blk_cell BK312.out 1).trans rfl; have hcz49_2 : w48.cell? ⟨gb312, 2, none⟩ = some (.string (⟨#[]⟩ : ByteArray)) := (blk_cell BK312.out 2).trans rfl; have hfz49_0 := blk_frozen BK312.out 0; have hfz49_1 := blk_frozen BK312.out 1; have hfz49_2 := blk_frozen BK312.out 2))
  refine bodyPost_ret (results_ct rfl _ _ gb312 30 #[.bool false, .string (⟨#[]⟩ : ByteArray), .string (⟨#[]⟩ : ByteArray)] (0, 0) _ rfl (by (with_reducible repeat (first | refine blk_drewN ?_ _ | refine blk_drew ?_ | refine blk_alloc ?_ _)); refine blk_put (cs := #[.bool false, .string (⟨#[]⟩ : ByteArray), .string (⟨#[]⟩ : ByteArray)]) ?_ 2 _ rfl; (with_reducible repeat (first | refine blk_drewN ?_ _ | refine blk_drew ?_ | refine blk_alloc ?_ _)); refine blk_put (cs := #[.bool false, .string (⟨#[]⟩ : ByteArray), .string (⟨#[]⟩ : ByteArray)]) ?_ 1 _ rfl; (with_reducible repeat (first | refine blk_drewN ?_ _ | refine blk_drew ?_ | refine blk_alloc ?_ _)); refine blk_put (cs := #[.bool false, .string (⟨#[]⟩ : ByteArray), .string (⟨#[]⟩ : ByteArray)]) ?_ 0 _ rfl; (with_reducible repeat (first | refine blk_drewN ?_ _ | refine blk_drew ?_ | refine blk_alloc ?_ _)); exact BK312.out) Tryd.underlying30 rfl (by kernel_rfl)) rfl ?_
  exact ⟨by first | rfl | (simp [errW_none, errW_some] <;> rfl) | (simp [*, errW_none, errW_some] <;> rfl), bq HB.out⟩
 subst c7
 rw [if_pos rfl] at H
 by_cases c8 : a1.toList = ([69, 85, 82] : List UInt8)
 ·rw [if_pos c8] at H
  have c8b0 : (a1.toList == ([69, 85, 82] : List UInt8)) = true := beq_iff_eq.mpr c8
  have c8b1 : (a1.toList != ([69, 85, 82] : List UInt8)) = false := bne_eq_false_iff_eq.mpr c8
  clear c8
  replace H := Option.bind_eq_some_iff.mp H
  obtain ⟨⟨t315, t316, t317⟩, A90, H⟩ := H
  try dsimp only at H
  have A9 := Aside0.mk A90
  clear A90
  simp only [Option.some.injEq, Prod.mk.injEq] at H
  obtain ⟨rfl, rfl, rfl, rfl⟩ := H
  go_enter Tryd.func15, Tryd.ntmps15
  go_wp2_with (first | ((with_reducible refine gate_dst (N := 6) rfl ?_); refine box_event ?hg (N := 6) ?hd (cs := #[.bool false, .string (⟨#[]⟩ : ByteArray), .string (⟨#[]⟩ : ByteArray)]) (t := 30) ?hr ?_; (case hd => rfl); (case hg => rfl); (case hr => first | (go_simp; done) | (go_simp; rfl)); intro gb312 hg w10 hbox hb; have BK312 := am (hbox); have GW312 := am ((by rw [hg]; exact (below_size (bq HB.out)) : w.heap.size ≤ gb312)); have GE312 := am ((by rw [hg]; exact (below_size (bq HB.out)) : w.heap.size ≤ gb312)); replace HB := am (below_step (bq HB.out) hb); clear hb hbox hg) | (go_at_call 12; (with_reducible refine (c_Check.calls k _ _ l0 t313 _ ?side1 ?side2 A4.out).mono ?_); (case side1 => repeat (first | exact (Kd.C_below HR0.out HB.out) | (with_reducible refine Kd.C_alloc ?_ _) | (with_reducible refine Kd.C_drewN ?_ _) | (with_reducible refine Kd.C_drew ?_))); (case side2 => exact HC0.out); rintro e w11 ⟨rfl, hb⟩; replace BK312 := am (blk_below (g := gb312) (o := .cells #[.bool false, .string (⟨#[]⟩ : ByteArray), .string (⟨#[]⟩ : ByteArray)] 30 (0, 0)) (kq BK312.out) hb); replace HB := am (below_step (bq HB.out) hb); (try clear hb)) | (go_at_call 25; (with_reducible refine (c_isDay.calls a2 true _ A6.out).mono ?_); rintro e w' ⟨rfl, ⟨nd, rfl⟩⟩; (try first | exact ⟨rfl, _, World.drewN_drewN _ _ _⟩ | exact ⟨rfl, _, Eq.trans (World.drewN_drewN _ _ _) (congrArg (World.drewN _) (Nat.add_assoc _ _ _))⟩)) | (go_at_call 14; (with_reducible refine (q_Int.calls k 1 t315 t316 t317 _ A9.out).mono ?_); rintro e w12 ⟨rfl, hb⟩; replace BK312 := am (blk_below (g := gb312) (o := .cells #[.bool false, .string (⟨#[]⟩ : ByteArray), .string (⟨#[]⟩ : ByteArray)] 30 (0, 0)) (kq BK312.out) hb); replace HB := am (below_step (bq HB.out) hb); (try clear hb); have hcz13_0 : w12.cell? ⟨gb312, 0, none⟩ = some (.bool false) := (blk_cell BK312.out 0).trans rfl; have hcz13_1 : w12.cell? ⟨gb312, 1, none⟩ = some (.string (⟨#[]⟩ : ByteArray)) := (blk_cell BK312.out 1).trans rfl; have hcz13_2 : w12.cell? ⟨gb312, 2, none⟩ = some (.string (⟨#[]⟩ : ByteArray)) := (blk_cell BK312.out 2).trans rfl; have hfz13_0 := blk_frozen BK312.out 0; have hfz13_1 := blk_frozen BK312.out 1; have hfz13_2 := blk_frozen BK312.out 2))
  refine bodyPost_ret (results_ct rfl _ _ gb312 30 #[.bool t315, .string t316, .string t317] (0, 0) _ rfl (by (with_reducible repeat (first | refine blk_drewN ?_ _ | refine blk_drew ?_ | refine blk_alloc ?_ _)); refine blk_put (cs := #[.bool t315, .string t316, .string (⟨#[]⟩ : ByteArray)]) ?_ 2 _ rfl; (with_reducible repeat (first | refine blk_drewN ?_ _ | refine blk_drew ?_ | refine blk_alloc ?_ _)); refine blk_put (cs := #[.bool t315, .string (⟨#[]⟩ : ByteArray), .string (⟨#[]⟩ : ByteArray)]) ?_ 1 _ rfl; (with_reducible repeat (first | refine blk_drewN ?_ _ | refine blk_drew ?_ | refine blk_alloc ?_ _)); refine blk_put (cs := #[.bool false, .string (⟨#[]⟩ : ByteArray), .string (⟨#[]⟩ : ByteArray)]) ?_ 0 _ rfl; (with_reducible repeat (first | refine blk_drewN ?_ _ | refine blk_drew ?_ | refine blk_alloc ?_ _)); exact BK312.out) Tryd.underlying30 rfl (by kernel_rfl)) rfl ?_
  exact ⟨by first | rfl | (simp [errW_none, errW_some] <;> rfl) | (simp [*, errW_none, errW_some] <;> rfl), bq HB.out⟩
 rw [if_neg c8] at H
 have c8b0 : (a1.toList == ([69, 85, 82] : List UInt8)) = false := beq_eq_false_iff_ne.mpr c8
 have c8b1 : (a1.toList != ([69, 85, 82] : List UInt8)) = true := bne_iff_ne.mpr c8
 have H' := Aside0.mk H
 clear H
 go_enter Tryd.func15, Tryd.ntmps15
 go_wp2_with (first | ((with_reducible refine gate_dst (N := 6) rfl ?_); refine box_event ?hg (N := 6) ?hd (cs := #[.bool false, .string (⟨#[]⟩ : ByteArray), .string (⟨#[]⟩ : ByteArray)]) (t := 30) ?hr ?_; (case hd => rfl); (case hg => rfl); (case hr => first | (go_simp; done) | (go_simp; rfl)); intro gb312 hg w14 hbox hb; have BK312 := am (hbox); have GW312 := am ((by rw [hg]; exact (below_size (bq HB.out)) : w.heap.size ≤ gb312)); have GE312 := am ((by rw [hg]; exact (below_size (bq HB.out)) : w.heap.size ≤ gb312)); replace HB := am (below_step (bq HB.out) hb); clear hb hbox hg) | (go_at_call 12; (with_reducible refine (c_Check.calls k _ _ l0 t313 _ ?side1 ?side2 A4.out).mono ?_); (case side1 => repeat (first | exact (Kd.C_below HR0.out HB.out) | (with_reducible refine Kd.C_alloc ?_ _) | (with_reducible refine Kd.C_drewN ?_ _) | (with_reducible refine Kd.C_drew ?_))); (case side2 => exact HC0.out); rintro e w15 ⟨rfl, hb⟩; replace BK312 := am (blk_below (g := gb312) (o := .cells #[.bool false, .string (⟨#[]⟩ : ByteArray), .string (⟨#[]⟩ : ByteArray)] 30 (0, 0)) (kq BK312.out) hb); replace HB := am (below_step (bq HB.out) hb); (try clear hb)) | (go_at_call 25; (with_reducible refine (c_isDay.calls a2 true _ A6.out).mono ?_); rintro e w' ⟨rfl, ⟨nd, rfl⟩⟩; (try first | exact ⟨rfl, _, World.drewN_drewN _ _ _⟩ | exact ⟨rfl, _, Eq.trans (World.drewN_drewN _ _ _) (congrArg (World.drewN _) (Nat.add_assoc _ _ _))⟩)))
 go_loopg [9, 10, 28] k (fun kq v9 v10 v28 w' => ∃ (x9_1 : Bool) (x10_1 : Int) (x28_1 : Int), v9 = .bool x9_1 ∧ v10 = .int .i64 x10_1 ∧ v28 = .int .i64 x28_1 ∧ Aside0 (c_Rate.l0 kq l0 a1 a2 x9_1 x10_1 l0 (l0.length : Int) x28_1 = some (r1, r2, r3, r4)) ∧ Aside0 (kq ≤ k) ∧ Aside0 (w'.heap[gb312]? = some (.cells #[.bool false, .string (⟨#[]⟩ : ByteArray), .string (⟨#[]⟩ : ByteArray)] 30 (0, 0))) ∧ Aside0 (Below w.heap.size w w'))
 case atStart => exact ⟨(false), ((-1)), (0), (by first | rfl | (simp; done) | (simp [*]; done)), (by first | rfl | (simp; done) | (simp [*]; done)), (by first | rfl | (simp; done) | (simp [*]; done)), H', ⟨Nat.le_refl _⟩, ⟨by (with_reducible repeat (first | refine blk_drewN ?_ _ | refine blk_drew ?_ | refine blk_alloc ?_ _)); exact BK312.out⟩, ⟨bq HB.out⟩⟩
 case round =>
  clear H'
  try clear c1
  try clear p2
  try clear c5
  try clear c5b0
  try clear c5b1
  try clear c7
  try clear c8
  try clear c8b0
  try clear c8b1
  try clear c15
  try clear hcz13_0
  try clear hcz13_1
  try clear hcz13_2
  try clear hfz13_0
  try clear hfz13_1
  try clear hfz13_2
  obtain ⟨x9_1, x10_1, x28_1, rfl, rfl, rfl, HA, HK1, BK312, HB⟩ := hrel
  cases gk with
  | zero => exact absurd HA.out (by simp [c_Rate.l0])
  | succ k1 =>
   have H := HA.out
   clear HA
   simp only [c_Rate.l0] at H
   by_cases c16 : x28_1 < (l0.length : Int)
   rotate_left
   ·rw [if_neg c16] at H
    have c16b0 := decide_eq_false c16
    clear c16
    by_cases c40 : x9_1 = true
    rotate_left
    ·replace c40 := Bool.eq_false_iff.mpr c40
     subst c40
     rw [if_neg (show ¬ (false = true) by decide)] at H
     simp only [Option.some.injEq, Prod.mk.injEq] at H
     obtain ⟨rfl, rfl, rfl, rfl⟩ := H
     have hcz46_0 : wr.cell? ⟨gb312, 0, none⟩ = some (.bool false) := (blk_cell BK312.out 0).trans rfl
     have hcz46_1 : wr.cell? ⟨gb312, 1, none⟩ = some (.string (⟨#[]⟩ : ByteArray)) := (blk_cell BK312.out 1).trans rfl
     have hcz46_2 : wr.cell? ⟨gb312, 2, none⟩ = some (.string (⟨#[]⟩ : ByteArray)) := (blk_cell BK312.out 2).trans rfl
     have hfz46_0 := blk_frozen BK312.out 0
     have hfz46_1 := blk_frozen BK312.out 1
     have hfz46_2 := blk_frozen BK312.out 2
     go_wp2
     refine bodyPost_ret (results_ct rfl _ _ gb312 30 #[.bool false, .string (⟨#[]⟩ : ByteArray), .string (⟨#[]⟩ : ByteArray)] (0, 0) _ rfl (by (with_reducible repeat (first | refine blk_drewN ?_ _ | refine blk_drew ?_ | refine blk_alloc ?_ _)); refine blk_put (cs := #[.bool false, .string (⟨#[]⟩ : ByteArray), .string (⟨#[]⟩ : ByteArray)]) ?_ 2 _ rfl; (with_reducible repeat (first | refine blk_drewN ?_ _ | refine blk_drew ?_ | refine blk_alloc ?_ _)); refine blk_put (cs := #[.bool false, .string (⟨#[]⟩ : ByteArray), .string (⟨#[]⟩ : ByteArray)]) ?_ 1 _ rfl; (with_reducible repeat (first | refine blk_drewN ?_ _ | refine blk_drew ?_ | refine blk_alloc ?_ _)); refine blk_put (cs := #[.bool false, .string (⟨#[]⟩ : ByteArray), .string (⟨#[]⟩ : ByteArray)]) ?_ 0 _ rfl; (with_reducible repeat (first | refine blk_drewN ?_ _ | refine blk_drew ?_ | refine blk_alloc ?_ _)); exact BK312.out) Tryd.underlying30 rfl (by kernel_rfl)) rfl ?_
     exact ⟨by first | rfl | (simp [errW_none, errW_some] <;> rfl) | (simp [*, errW_none, errW_some] <;> rfl), bq HB.out⟩
    subst c40
    rw [if_pos rfl] at H
    by_cases c41 : x10_1 < 0
    ·rw [if_pos c41] at H
     have c41b0 := decide_eq_true c41
     clear c41
     simp only [Option.some.injEq, Prod.mk.injEq] at H
     obtain ⟨rfl, rfl, rfl, rfl⟩ := H
     have hcz42_0 : wr.cell? ⟨gb312, 0, none⟩ = some (.bool false) := (blk_cell BK312.out 0).trans rfl
     have hcz42_1 : wr.cell? ⟨gb312, 1, none⟩ = some (.string (⟨#[]⟩ : ByteArray)) := (blk_cell BK312.out 1).trans rfl
     have hcz42_2 : wr.cell? ⟨gb312, 2, none⟩ = some (.string (⟨#[]⟩ : ByteArray)) := (blk_cell BK312.out 2).trans rfl
     have hfz42_0 := blk_frozen BK312.out 0
     have hfz42_1 := blk_frozen BK312.out 1
     have hfz42_2 := blk_frozen BK312.out 2
     go_wp2
     refine bodyPost_ret (results_ct rfl _ _ gb312 30 #[.bool false, .string (⟨#[]⟩ : ByteArray), .string (⟨#[]⟩ : ByteArray)] (0, 0) _ rfl (by (with_reducible repeat (first | refine blk_drewN ?_ _ | refine blk_drew ?_ | refine blk_alloc ?_ _)); refine blk_put (cs := #[.bool false, .string (⟨#[]⟩ : ByteArray), .string (⟨#[]⟩ : ByteArray)]) ?_ 2 _ rfl; (with_reducible repeat (first | refine blk_drewN ?_ _ | refine blk_drew ?_ | refine blk_alloc ?_ _)); refine blk_put (cs := #[.bool false, .string (⟨#[]⟩ : ByteArray), .string (⟨#[]⟩ : ByteArray)]) ?_ 1 _ rfl; (with_reducible repeat (first | refine blk_drewN ?_ _ | refine blk_drew ?_ | refine blk_alloc ?_ _)); refine blk_put (cs := #[.bool false, .string (⟨#[]⟩ : ByteArray), .string (⟨#[]⟩ : ByteArray)]) ?_ 0 _ rfl; (with_reducible repeat (first | refine blk_drewN ?_ _ | refine blk_drew ?_ | refine blk_alloc ?_ _)); exact BK312.out) Tryd.underlying30 rfl (by kernel_rfl)) rfl ?_
     exact ⟨by first | rfl | (simp [errW_none, errW_some] <;> rfl) | (simp [*, errW_none, errW_some] <;> rfl), bq HB.out⟩
    rw [if_neg c41] at H
    have c41b0 := decide_eq_false c41
    clear c41
    by_cases c43 : 0 ≤ x10_1
    rotate_left
    ·rw [if_neg c43] at H
     exact absurd H (by simp)
    rw [if_pos c43] at H
    have c43b0 := decide_eq_true c43
    clear c43
    by_cases c44 : x10_1 < (l0.length : Int)
    rotate_left
    ·rw [if_neg c44] at H
     exact absurd H (by simp)
    rw [if_pos c44] at H
    have c44b0 := decide_eq_true c44
    clear c44
    simp only [Option.some.injEq, Prod.mk.injEq] at H
    obtain ⟨rfl, rfl, rfl, rfl⟩ := H
    have p321 : 0 ≤ (x10_1 : Int) := odt
    have q321 : x10_1 < (l0.length : Int) := odt
    obtain ⟨ad321, e321, hx321_0, hx321_1, hx321_2, hx321_3, hx321_4⟩ := at_T33 HR0.out x10_1 p321 q321
    cases e321
    replace hx321_0 := (HB.out.cell (World.block_lt_of_cell? w _ hx321_0)).trans hx321_0
    replace hx321_1 := (HB.out.cell (World.block_lt_of_cell? w _ hx321_1)).trans hx321_1
    replace hx321_2 := (HB.out.cell (World.block_lt_of_cell? w _ hx321_2)).trans hx321_2
    replace hx321_3 := (HB.out.cell (World.block_lt_of_cell? w _ hx321_3)).trans hx321_3
    replace hx321_4 := (HB.out.cell (World.block_lt_of_cell? w _ hx321_4)).trans hx321_4
    replace p321 := eq_true p321
    replace q321 := eq_true q321
    have hcz45_0 : wr.cell? ⟨gb312, 0, none⟩ = some (.bool false) := (blk_cell BK312.out 0).trans rfl
    have hcz45_1 : wr.cell? ⟨gb312, 1, none⟩ = some (.string (⟨#[]⟩ : ByteArray)) := (blk_cell BK312.out 1).trans rfl
    have hcz45_2 : wr.cell? ⟨gb312, 2, none⟩ = some (.string (⟨#[]⟩ : ByteArray)) := (blk_cell BK312.out 2).trans rfl
    have hfz45_0 := blk_frozen BK312.out 0
    have hfz45_1 := blk_frozen BK312.out 1
    have hfz45_2 := blk_frozen BK312.out 2
    go_wp2
    refine bodyPost_ret (results_ct rfl _ _ gb312 30 #[.bool ((rd_T33 l0 x10_1).f2.f0), .string ((rd_T33 l0 x10_1).f2.f1), .string ((rd_T33 l0 x10_1).f2.f2)] (0, 0) _ rfl (by (with_reducible repeat (first | refine blk_drewN ?_ _ | refine blk_drew ?_ | refine blk_alloc ?_ _)); refine blk_put (cs := #[.bool ((rd_T33 l0 x10_1).f2.f0), .string ((rd_T33 l0 x10_1).f2.f1), .string (⟨#[]⟩ : ByteArray)]) ?_ 2 _ rfl; (with_reducible repeat (first | refine blk_drewN ?_ _ | refine blk_drew ?_ | refine blk_alloc ?_ _)); refine blk_put (cs := #[.bool ((rd_T33 l0 x10_1).f2.f0), .string (⟨#[]⟩ : ByteArray), .string (⟨#[]⟩ : ByteArray)]) ?_ 1 _ rfl; (with_reducible repeat (first | refine blk_drewN ?_ _ | refine blk_drew ?_ | refine blk_alloc ?_ _)); refine blk_put (cs := #[.bool false, .string (⟨#[]⟩ : ByteArray), .string (⟨#[]⟩ : ByteArray)]) ?_ 0 _ rfl; (with_reducible repeat (first | refine blk_drewN ?_ _ | refine blk_drew ?_ | refine blk_alloc ?_ _)); exact BK312.out) Tryd.underlying30 rfl (by kernel_rfl)) rfl ?_
    exact ⟨by first | rfl | (simp [errW_none, errW_some] <;> rfl) | (simp [*, errW_none, errW_some] <;> rfl), bq HB.out⟩
   rw [if_pos c16] at H
   have c16b0 := decide_eq_true c16
   clear c16
   by_cases c17 : 0 ≤ x28_1
   rotate_left
   ·rw [if_neg c17] at H
    exact absurd H (by simp)
   rw [if_pos c17] at H
   have c17b0 := decide_eq_true c17
   clear c17
   by_cases c18 : x28_1 < (l0.length : Int)
   rotate_left
   ·rw [if_neg c18] at H
    exact absurd H (by simp)
   rw [if_pos c18] at H
   have c18b0 := decide_eq_true c18
   clear c18
   by_cases c19 : ((rd_T33 l0 x28_1).f0).toList = a1.toList
   rotate_left
   ·rw [if_neg c19] at H
    have c19b0 : (((rd_T33 l0 x28_1).f0).toList == a1.toList) = false := beq_eq_false_iff_ne.mpr c19
    have c19b1 : (((rd_T33 l0 x28_1).f0).toList != a1.toList) = true := bne_iff_ne.mpr c19
    have H' := Aside0.mk H
    clear H
    have p318 : 0 ≤ (x28_1 : Int) := odt
    have q318 : x28_1 < (l0.length : Int) := odt
    obtain ⟨ad318, e318, hx318_0, hx318_1, hx318_2, hx318_3, hx318_4⟩ := at_T33 HR0.out x28_1 p318 q318
    cases e318
    replace hx318_0 := (HB.out.cell (World.block_lt_of_cell? w _ hx318_0)).trans hx318_0
    replace hx318_1 := (HB.out.cell (World.block_lt_of_cell? w _ hx318_1)).trans hx318_1
    replace hx318_2 := (HB.out.cell (World.block_lt_of_cell? w _ hx318_2)).trans hx318_2
    replace hx318_3 := (HB.out.cell (World.block_lt_of_cell? w _ hx318_3)).trans hx318_3
    replace hx318_4 := (HB.out.cell (World.block_lt_of_cell? w _ hx318_4)).trans hx318_4
    replace p318 := eq_true p318
    replace q318 := eq_true q318
    go_wp2_with (first | ((with_reducible refine gate_dst (N := 12) rfl ?_); refine box_event ?hg (N := 12) ?hd (cs := #[.string (⟨#[]⟩ : ByteArray), .int .i64 0, .bool false, .string (⟨#[]⟩ : ByteArray), .string (⟨#[]⟩ : ByteArray)]) (t := 33) ?hr ?_; (case hd => rfl); (case hg => rfl); (case hr => first | (go_simp; done) | (go_simp; rfl)); intro gb319 hg w37 hbox hb; have BK319 := am (hbox); have GW319 := am ((by rw [hg]; exact (below_size (bq HB.out)) : w.heap.size ≤ gb319)); have GE319 := am ((by rw [hg]; exact (below_size (bq HB.out)) : w.heap.size ≤ gb319)); replace HB := am (below_step (bq HB.out) hb); have NB312_319 := am ((by rw [hg]; exact Nat.ne_of_lt (blk_lt (g := gb312) (o := .cells #[.bool false, .string (⟨#[]⟩ : ByteArray), .string (⟨#[]⟩ : ByteArray)] 30 (0, 0)) (kq BK312.out)) : gb312 ≠ gb319)); have NB319_312 := am ((by rw [hg]; exact Nat.ne_of_gt (blk_lt (g := gb312) (o := .cells #[.bool false, .string (⟨#[]⟩ : ByteArray), .string (⟨#[]⟩ : ByteArray)] 30 (0, 0)) (kq BK312.out)) : gb319 ≠ gb312)); replace BK312 := am (blk_below (g := gb312) (o := .cells #[.bool false, .string (⟨#[]⟩ : ByteArray), .string (⟨#[]⟩ : ByteArray)] 30 (0, 0)) (kq BK312.out) hb); clear hb hbox hg; have hnb38 := NB319_312.out; have hnc38 := NB312_319.out; have hcz39_0 : w37.cell? ⟨gb319, 0, none⟩ = some (.string (⟨#[]⟩ : ByteArray)) := (blk_cell BK319.out 0).trans rfl; have hcz39_1 : w37.cell? ⟨gb319, 1, none⟩ = some (.int .i64 0) := (blk_cell BK319.out 1).trans rfl; have hcz39_2 : w37.cell? ⟨gb319, 2, none⟩ = some (.bool false) := (blk_cell BK319.out 2).trans rfl; have hcz39_3 : w37.cell? ⟨gb319, 3, none⟩ = some (.string (⟨#[]⟩ : ByteArray)) := (blk_cell BK319.out 3).trans rfl; have hcz39_4 : w37.cell? ⟨gb319, 4, none⟩ = some (.string (⟨#[]⟩ : ByteArray)) := (blk_cell BK319.out 4).trans rfl; have hfz39_0 := blk_frozen BK319.out 0; have hfz39_1 := blk_frozen BK319.out 1; have hfz39_2 := blk_frozen BK319.out 2; have hfz39_3 := blk_frozen BK319.out 3; have hfz39_4 := blk_frozen BK319.out 4))
    go_roundg k1
    case measure => have := HK1.out; omega
    case rel => exact ⟨(x9_1), (x10_1), (wrap64 (x28_1 + 1)), (by first | rfl | (simp; done) | (simp [*]; done)), (by first | rfl | (simp; done) | (simp [*]; done)), (by first | rfl | (simp; done) | (simp [*]; done)), H', ⟨by have := HK1.out; omega⟩, ⟨by (with_reducible repeat (first | refine blk_drewN ?_ _ | refine blk_drew ?_ | refine blk_alloc ?_ _)); refine blk_far ?_ NB312_319.out _; (with_reducible repeat (first | refine blk_drewN ?_ _ | refine blk_drew ?_ | refine blk_alloc ?_ _)); refine blk_far ?_ NB312_319.out _; (with_reducible repeat (first | refine blk_drewN ?_ _ | refine blk_drew ?_ | refine blk_alloc ?_ _)); refine blk_far ?_ NB312_319.out _; (with_reducible repeat (first | refine blk_drewN ?_ _ | refine blk_drew ?_ | refine blk_alloc ?_ _)); refine blk_far ?_ NB312_319.out _; (with_reducible repeat (first | refine blk_drewN ?_ _ | refine blk_drew ?_ | refine blk_alloc ?_ _)); refine blk_far ?_ NB312_319.out _; (with_reducible repeat (first | refine blk_drewN ?_ _ | refine blk_drew ?_ | refine blk_alloc ?_ _)); exact BK312.out⟩, ⟨bq HB.out⟩⟩
   rw [if_pos c19] at H
   have c19b0 : (((rd_T33 l0 x28_1).f0).toList == a1.toList) = true := beq_iff_eq.mpr c19
   have c19b1 : (((rd_T33 l0 x28_1).f0).toList != a1.toList) = false := bne_eq_false_iff_eq.mpr c19
   clear c19
   by_cases c20 : ((rd_T33 l0 x28_1).f1) ≤ a2
   rotate_left
   ·rw [if_neg c20] at H
    have c20b0 := decide_eq_false c20
    clear c20
    have H' := Aside0.mk H
    clear H
    have p318 : 0 ≤ (x28_1 : Int) := odt
    have q318 : x28_1 < (l0.length : Int) := odt
    obtain ⟨ad318, e318, hx318_0, hx318_1, hx318_2, hx318_3, hx318_4⟩ := at_T33 HR0.out x28_1 p318 q318
    cases e318
    replace hx318_0 := (HB.out.cell (World.block_lt_of_cell? w _ hx318_0)).trans hx318_0
    replace hx318_1 := (HB.out.cell (World.block_lt_of_cell? w _ hx318_1)).trans hx318_1
    replace hx318_2 := (HB.out.cell (World.block_lt_of_cell? w _ hx318_2)).trans hx318_2
    replace hx318_3 := (HB.out.cell (World.block_lt_of_cell? w _ hx318_3)).trans hx318_3
    replace hx318_4 := (HB.out.cell (World.block_lt_of_cell? w _ hx318_4)).trans hx318_4
    replace p318 := eq_true p318
    replace q318 := eq_true q318
    go_wp2_with (first | ((with_reducible refine gate_dst (N := 12) rfl ?_); refine box_event ?hg (N := 12) ?hd (cs := #[.string (⟨#[]⟩ : ByteArray), .int .i64 0, .bool false, .string (⟨#[]⟩ : ByteArray), .string (⟨#[]⟩ : ByteArray)]) (t := 33) ?hr ?_; (case hd => rfl); (case hg => rfl); (case hr => first | (go_simp; done) | (go_simp; rfl)); intro gb319 hg w34 hbox hb; have BK319 := am (hbox); have GW319 := am ((by rw [hg]; exact (below_size (bq HB.out)) : w.heap.size ≤ gb319)); have GE319 := am ((by rw [hg]; exact (below_size (bq HB.out)) : w.heap.size ≤ gb319)); replace HB := am (below_step (bq HB.out) hb); have NB312_319 := am ((by rw [hg]; exact Nat.ne_of_lt (blk_lt (g := gb312) (o := .cells #[.bool false, .string (⟨#[]⟩ : ByteArray), .string (⟨#[]⟩ : ByteArray)] 30 (0, 0)) (kq BK312.out)) : gb312 ≠ gb319)); have NB319_312 := am ((by rw [hg]; exact Nat.ne_of_gt (blk_lt (g := gb312) (o := .cells #[.bool false, .string (⟨#[]⟩ : ByteArray), .string (⟨#[]⟩ : ByteArray)] 30 (0, 0)) (kq BK312.out)) : gb319 ≠ gb312)); replace BK312 := am (blk_below (g := gb312) (o := .cells #[.bool false, .string (⟨#[]⟩ : ByteArray), .string (⟨#[]⟩ : ByteArray)] 30 (0, 0)) (kq BK312.out) hb); clear hb hbox hg; have hnb35 := NB319_312.out; have hnc35 := NB312_319.out; have hcz36_0 : w34.cell? ⟨gb319, 0, none⟩ = some (.string (⟨#[]⟩ : ByteArray)) := (blk_cell BK319.out 0).trans rfl; have hcz36_1 : w34.cell? ⟨gb319, 1, none⟩ = some (.int .i64 0) := (blk_cell BK319.out 1).trans rfl; have hcz36_2 : w34.cell? ⟨gb319, 2, none⟩ = some (.bool false) := (blk_cell BK319.out 2).trans rfl; have hcz36_3 : w34.cell? ⟨gb319, 3, none⟩ = some (.string (⟨#[]⟩ : ByteArray)) := (blk_cell BK319.out 3).trans rfl; have hcz36_4 : w34.cell? ⟨gb319, 4, none⟩ = some (.string (⟨#[]⟩ : ByteArray)) := (blk_cell BK319.out 4).trans rfl; have hfz36_0 := blk_frozen BK319.out 0; have hfz36_1 := blk_frozen BK319.out 1; have hfz36_2 := blk_frozen BK319.out 2; have hfz36_3 := blk_frozen BK319.out 3; have hfz36_4 := blk_frozen BK319.out 4))
    repeat (go_quiet (first | ((with_reducible refine gate_dst (N := 12) rfl ?_); refine box_event ?hg (N := 12) ?hd (cs := #[.string (⟨#[]⟩ : ByteArray), .int .i64 0, .bool false, .string (⟨#[]⟩ : ByteArray), .string (⟨#[]⟩ : ByteArray)]) (t := 33) ?hr ?_; (case hd => rfl); (case hg => rfl); (case hr => first | (go_simp; done) | (go_simp; rfl)); intro gb319 hg w34 hbox hb; have BK319 := am (hbox); have GW319 := am ((by rw [hg]; exact (below_size (bq HB.out)) : w.heap.size ≤ gb319)); have GE319 := am ((by rw [hg]; exact (below_size (bq HB.out)) : w.heap.size ≤ gb319)); replace HB := am (below_step (bq HB.out) hb); have NB312_319 := am ((by rw [hg]; exact Nat.ne_of_lt (blk_lt (g := gb312) (o := .cells #[.bool false, .string (⟨#[]⟩ : ByteArray), .string (⟨#[]⟩ : ByteArray)] 30 (0, 0)) (kq BK312.out)) : gb312 ≠ gb319)); have NB319_312 := am ((by rw [hg]; exact Nat.ne_of_gt (blk_lt (g := gb312) (o := .cells #[.bool false, .string (⟨#[]⟩ : ByteArray), .string (⟨#[]⟩ : ByteArray)] 30 (0, 0)) (kq BK312.out)) : gb319 ≠ gb312)); replace BK312 := am (blk_below (g := gb312) (o := .cells #[.bool false, .string (⟨#[]⟩ : ByteArray), .string (⟨#[]⟩ : ByteArray)] 30 (0, 0)) (kq BK312.out) hb); clear hb hbox hg; have hnb35 := NB319_312.out; have hnc35 := NB312_319.out; have hcz36_0 : w34.cell? ⟨gb319, 0, none⟩ = some (.string (⟨#[]⟩ : ByteArray)) := (blk_cell BK319.out 0).trans rfl; have hcz36_1 : w34.cell? ⟨gb319, 1, none⟩ = some (.int .i64 0) := (blk_cell BK319.out 1).trans rfl; have hcz36_2 : w34.cell? ⟨gb319, 2, none⟩ = some (.bool false) := (blk_cell BK319.out 2).trans rfl; have hcz36_3 : w34.cell? ⟨gb319, 3, none⟩ = some (.string (⟨#[]⟩ : ByteArray)) := (blk_cell BK319.out 3).trans rfl; have hcz36_4 : w34.cell? ⟨gb319, 4, none⟩ = some (.string (⟨#[]⟩ : ByteArray)) := (blk_cell BK319.out 4).trans rfl; have hfz36_0 := blk_frozen BK319.out 0; have hfz36_1 := blk_frozen BK319.out 1; have hfz36_2 := blk_frozen BK319.out 2; have hfz36_3 := blk_frozen BK319.out 3; have hfz36_4 := blk_frozen BK319.out 4)); try go_wp2_with (first | ((with_reducible refine gate_dst (N := 12) rfl ?_); refine box_event ?hg (N := 12) ?hd (cs := #[.string (⟨#[]⟩ : ByteArray), .int .i64 0, .bool false, .string (⟨#[]⟩ : ByteArray), .string (⟨#[]⟩ : ByteArray)]) (t := 33) ?hr ?_; (case hd => rfl); (case hg => rfl); (case hr => first | (go_simp; done) | (go_simp; rfl)); intro gb319 hg w34 hbox hb; have BK319 := am (hbox); have GW319 := am ((by rw [hg]; exact (below_size (bq HB.out)) : w.heap.size ≤ gb319)); have GE319 := am ((by rw [hg]; exact (below_size (bq HB.out)) : w.heap.size ≤ gb319)); replace HB := am (below_step (bq HB.out) hb); have NB312_319 := am ((by rw [hg]; exact Nat.ne_of_lt (blk_lt (g := gb312) (o := .cells #[.bool false, .string (⟨#[]⟩ : ByteArray), .string (⟨#[]⟩ : ByteArray)] 30 (0, 0)) (kq BK312.out)) : gb312 ≠ gb319)); have NB319_312 := am ((by rw [hg]; exact Nat.ne_of_gt (blk_lt (g := gb312) (o := .cells #[.bool false, .string (⟨#[]⟩ : ByteArray), .string (⟨#[]⟩ : ByteArray)] 30 (0, 0)) (kq BK312.out)) : gb319 ≠ gb312)); replace BK312 := am (blk_below (g := gb312) (o := .cells #[.bool false, .string (⟨#[]⟩ : ByteArray), .string (⟨#[]⟩ : ByteArray)] 30 (0, 0)) (kq BK312.out) hb); clear hb hbox hg; have hnb35 := NB319_312.out; have hnc35 := NB312_319.out; have hcz36_0 : w34.cell? ⟨gb319, 0, none⟩ = some (.string (⟨#[]⟩ : ByteArray)) := (blk_cell BK319.out 0).trans rfl; have hcz36_1 : w34.cell? ⟨gb319, 1, none⟩ = some (.int .i64 0) := (blk_cell BK319.out 1).trans rfl; have hcz36_2 : w34.cell? ⟨gb319, 2, none⟩ = some (.bool false) := (blk_cell BK319.out 2).trans rfl; have hcz36_3 : w34.cell? ⟨gb319, 3, none⟩ = some (.string (⟨#[]⟩ : ByteArray)) := (blk_cell BK319.out 3).trans rfl; have hcz36_4 : w34.cell? ⟨gb319, 4, none⟩ = some (.string (⟨#[]⟩ : ByteArray)) := (blk_cell BK319.out 4).trans rfl; have hfz36_0 := blk_frozen BK319.out 0; have hfz36_1 := blk_frozen BK319.out 1; have hfz36_2 := blk_frozen BK319.out 2; have hfz36_3 := blk_frozen BK319.out 3; have hfz36_4 := blk_frozen BK319.out 4)))
    go_roundg k1
    case measure => have := HK1.out; omega
    case rel => exact ⟨(true), (x10_1), (wrap64 (x28_1 + 1)), (by first | rfl | (simp; done) | (simp [*]; done)), (by first | rfl | (simp; done) | (simp [*]; done)), (by first | rfl | (simp; done) | (simp [*]; done)), H', ⟨by have := HK1.out; omega⟩, ⟨by (with_reducible repeat (first | refine blk_drewN ?_ _ | refine blk_drew ?_ | refine blk_alloc ?_ _)); refine blk_far ?_ NB312_319.out _; (with_reducible repeat (first | refine blk_drewN ?_ _ | refine blk_drew ?_ | refine blk_alloc ?_ _)); refine blk_far ?_ NB312_319.out _; (with_reducible repeat (first | refine blk_drewN ?_ _ | refine blk_drew ?_ | refine blk_alloc ?_ _)); refine blk_far ?_ NB312_319.out _; (with_reducible repeat (first | refine blk_drewN ?_ _ | refine blk_drew ?_ | refine blk_alloc ?_ _)); refine blk_far ?_ NB312_319.out _; (with_reducible repeat (first | refine blk_drewN ?_ _ | refine blk_drew ?_ | refine blk_alloc ?_ _)); refine blk_far ?_ NB312_319.out _; (with_reducible repeat (first | refine blk_drewN ?_ _ | refine blk_drew ?_ | refine blk_alloc ?_ _)); exact BK312.out⟩, ⟨bq HB.out⟩⟩
   rw [if_pos c20] at H
   have c20b0 := decide_eq_true c20
   clear c20
   by_cases c21 : x10_1 < 0
   ·rw [if_pos c21] at H
    have c21b0 := decide_eq_true c21
    clear c21
    have H' := Aside0.mk H
    clear H
    have p318 : 0 ≤ (x28_1 : Int) := odt
    have q318 : x28_1 < (l0.length : Int) := odt
    obtain ⟨ad318, e318, hx318_0, hx318_1, hx318_2, hx318_3, hx318_4⟩ := at_T33 HR0.out x28_1 p318 q318
    cases e318
    replace hx318_0 := (HB.out.cell (World.block_lt_of_cell? w _ hx318_0)).trans hx318_0
    replace hx318_1 := (HB.out.cell (World.block_lt_of_cell? w _ hx318_1)).trans hx318_1
    replace hx318_2 := (HB.out.cell (World.block_lt_of_cell? w _ hx318_2)).trans hx318_2
    replace hx318_3 := (HB.out.cell (World.block_lt_of_cell? w _ hx318_3)).trans hx318_3
    replace hx318_4 := (HB.out.cell (World.block_lt_of_cell? w _ hx318_4)).trans hx318_4
    replace p318 := eq_true p318
    replace q318 := eq_true q318
    go_wp2_with (first | ((with_reducible refine gate_dst (N := 12) rfl ?_); refine box_event ?hg (N := 12) ?hd (cs := #[.string (⟨#[]⟩ : ByteArray), .int .i64 0, .bool false, .string (⟨#[]⟩ : ByteArray), .string (⟨#[]⟩ : ByteArray)]) (t := 33) ?hr ?_; (case hd => rfl); (case hg => rfl); (case hr => first | (go_simp; done) | (go_simp; rfl)); intro gb319 hg w22 hbox hb; have BK319 := am (hbox); have GW319 := am ((by rw [hg]; exact (below_size (bq HB.out)) : w.heap.size ≤ gb319)); have GE319 := am ((by rw [hg]; exact (below_size (bq HB.out)) : w.heap.size ≤ gb319)); replace HB := am (below_step (bq HB.out) hb); have NB312_319 := am ((by rw [hg]; exact Nat.ne_of_lt (blk_lt (g := gb312) (o := .cells #[.bool false, .string (⟨#[]⟩ : ByteArray), .string (⟨#[]⟩ : ByteArray)] 30 (0, 0)) (kq BK312.out)) : gb312 ≠ gb319)); have NB319_312 := am ((by rw [hg]; exact Nat.ne_of_gt (blk_lt (g := gb312) (o := .cells #[.bool false, .string (⟨#[]⟩ : ByteArray), .string (⟨#[]⟩ : ByteArray)] 30 (0, 0)) (kq BK312.out)) : gb319 ≠ gb312)); replace BK312 := am (blk_below (g := gb312) (o := .cells #[.bool false, .string (⟨#[]⟩ : ByteArray), .string (⟨#[]⟩ : ByteArray)] 30 (0, 0)) (kq BK312.out) hb); clear hb hbox hg; have hnb23 := NB319_312.out; have hnc23 := NB312_319.out; have hcz24_0 : w22.cell? ⟨gb319, 0, none⟩ = some (.string (⟨#[]⟩ : ByteArray)) := (blk_cell BK319.out 0).trans rfl; have hcz24_1 : w22.cell? ⟨gb319, 1, none⟩ = some (.int .i64 0) := (blk_cell BK319.out 1).trans rfl; have hcz24_2 : w22.cell? ⟨gb319, 2, none⟩ = some (.bool false) := (blk_cell BK319.out 2).trans rfl; have hcz24_3 : w22.cell? ⟨gb319, 3, none⟩ = some (.string (⟨#[]⟩ : ByteArray)) := (blk_cell BK319.out 3).trans rfl; have hcz24_4 : w22.cell? ⟨gb319, 4, none⟩ = some (.string (⟨#[]⟩ : ByteArray)) := (blk_cell BK319.out 4).trans rfl; have hfz24_0 := blk_frozen BK319.out 0; have hfz24_1 := blk_frozen BK319.out 1; have hfz24_2 := blk_frozen BK319.out 2; have hfz24_3 := blk_frozen BK319.out 3; have hfz24_4 := blk_frozen BK319.out 4))
    repeat (go_quiet (first | ((with_reducible refine gate_dst (N := 12) rfl ?_); refine box_event ?hg (N := 12) ?hd (cs := #[.string (⟨#[]⟩ : ByteArray), .int .i64 0, .bool false, .string (⟨#[]⟩ : ByteArray), .string (⟨#[]⟩ : ByteArray)]) (t := 33) ?hr ?_; (case hd => rfl); (case hg => rfl); (case hr => first | (go_simp; done) | (go_simp; rfl)); intro gb319 hg w22 hbox hb; have BK319 := am (hbox); have GW319 := am ((by rw [hg]; exact (below_size (bq HB.out)) : w.heap.size ≤ gb319)); have GE319 := am ((by rw [hg]; exact (below_size (bq HB.out)) : w.heap.size ≤ gb319)); replace HB := am (below_step (bq HB.out) hb); have NB312_319 := am ((by rw [hg]; exact Nat.ne_of_lt (blk_lt (g := gb312) (o := .cells #[.bool false, .string (⟨#[]⟩ : ByteArray), .string (⟨#[]⟩ : ByteArray)] 30 (0, 0)) (kq BK312.out)) : gb312 ≠ gb319)); have NB319_312 := am ((by rw [hg]; exact Nat.ne_of_gt (blk_lt (g := gb312) (o := .cells #[.bool false, .string (⟨#[]⟩ : ByteArray), .string (⟨#[]⟩ : ByteArray)] 30 (0, 0)) (kq BK312.out)) : gb319 ≠ gb312)); replace BK312 := am (blk_below (g := gb312) (o := .cells #[.bool false, .string (⟨#[]⟩ : ByteArray), .string (⟨#[]⟩ : ByteArray)] 30 (0, 0)) (kq BK312.out) hb); clear hb hbox hg; have hnb23 := NB319_312.out; have hnc23 := NB312_319.out; have hcz24_0 : w22.cell? ⟨gb319, 0, none⟩ = some (.string (⟨#[]⟩ : ByteArray)) := (blk_cell BK319.out 0).trans rfl; have hcz24_1 : w22.cell? ⟨gb319, 1, none⟩ = some (.int .i64 0) := (blk_cell BK319.out 1).trans rfl; have hcz24_2 : w22.cell? ⟨gb319, 2, none⟩ = some (.bool false) := (blk_cell BK319.out 2).trans rfl; have hcz24_3 : w22.cell? ⟨gb319, 3, none⟩ = some (.string (⟨#[]⟩ : ByteArray)) := (blk_cell BK319.out 3).trans rfl; have hcz24_4 : w22.cell? ⟨gb319, 4, none⟩ = some (.string (⟨#[]⟩ : ByteArray)) := (blk_cell BK319.out 4).trans rfl; have hfz24_0 := blk_frozen BK319.out 0; have hfz24_1 := blk_frozen BK319.out 1; have hfz24_2 := blk_frozen BK319.out 2; have hfz24_3 := blk_frozen BK319.out 3; have hfz24_4 := blk_frozen BK319.out 4)); try go_wp2_with (first | ((with_reducible refine gate_dst (N := 12) rfl ?_); refine box_event ?hg (N := 12) ?hd (cs := #[.string (⟨#[]⟩ : ByteArray), .int .i64 0, .bool false, .string (⟨#[]⟩ : ByteArray), .string (⟨#[]⟩ : ByteArray)]) (t := 33) ?hr ?_; (case hd => rfl); (case hg => rfl); (case hr => first | (go_simp; done) | (go_simp; rfl)); intro gb319 hg w22 hbox hb; have BK319 := am (hbox); have GW319 := am ((by rw [hg]; exact (below_size (bq HB.out)) : w.heap.size ≤ gb319)); have GE319 := am ((by rw [hg]; exact (below_size (bq HB.out)) : w.heap.size ≤ gb319)); replace HB := am (below_step (bq HB.out) hb); have NB312_319 := am ((by rw [hg]; exact Nat.ne_of_lt (blk_lt (g := gb312) (o := .cells #[.bool false, .string (⟨#[]⟩ : ByteArray), .string (⟨#[]⟩ : ByteArray)] 30 (0, 0)) (kq BK312.out)) : gb312 ≠ gb319)); have NB319_312 := am ((by rw [hg]; exact Nat.ne_of_gt (blk_lt (g := gb312) (o := .cells #[.bool false, .string (⟨#[]⟩ : ByteArray), .string (⟨#[]⟩ : ByteArray)] 30 (0, 0)) (kq BK312.out)) : gb319 ≠ gb312)); replace BK312 := am (blk_below (g := gb312) (o := .cells #[.bool false, .string (⟨#[]⟩ : ByteArray), .string (⟨#[]⟩ : ByteArray)] 30 (0, 0)) (kq BK312.out) hb); clear hb hbox hg; have hnb23 := NB319_312.out; have hnc23 := NB312_319.out; have hcz24_0 : w22.cell? ⟨gb319, 0, none⟩ = some (.string (⟨#[]⟩ : ByteArray)) := (blk_cell BK319.out 0).trans rfl; have hcz24_1 : w22.cell? ⟨gb319, 1, none⟩ = some (.int .i64 0) := (blk_cell BK319.out 1).trans rfl; have hcz24_2 : w22.cell? ⟨gb319, 2, none⟩ = some (.bool false) := (blk_cell BK319.out 2).trans rfl; have hcz24_3 : w22.cell? ⟨gb319, 3, none⟩ = some (.string (⟨#[]⟩ : ByteArray)) := (blk_cell BK319.out 3).trans rfl; have hcz24_4 : w22.cell? ⟨gb319, 4, none⟩ = some (.string (⟨#[]⟩ : ByteArray)) := (blk_cell BK319.out 4).trans rfl; have hfz24_0 := blk_frozen BK319.out 0; have hfz24_1 := blk_frozen BK319.out 1; have hfz24_2 := blk_frozen BK319.out 2; have hfz24_3 := blk_frozen BK319.out 3; have hfz24_4 := blk_frozen BK319.out 4)))
    go_roundg k1
    case measure => have := HK1.out; omega
    case rel => exact ⟨(true), (x28_1), (wrap64 (x28_1 + 1)), (by first | rfl | (simp; done) | (simp [*]; done)), (by first | rfl | (simp; done) | (simp [*]; done)), (by first | rfl | (simp; done) | (simp [*]; done)), H', ⟨by have := HK1.out; omega⟩, ⟨by (with_reducible repeat (first | refine blk_drewN ?_ _ | refine blk_drew ?_ | refine blk_alloc ?_ _)); refine blk_far ?_ NB312_319.out _; (with_reducible repeat (first | refine blk_drewN ?_ _ | refine blk_drew ?_ | refine blk_alloc ?_ _)); refine blk_far ?_ NB312_319.out _; (with_reducible repeat (first | refine blk_drewN ?_ _ | refine blk_drew ?_ | refine blk_alloc ?_ _)); refine blk_far ?_ NB312_319.out _; (with_reducible repeat (first | refine blk_drewN ?_ _ | refine blk_drew ?_ | refine blk_alloc ?_ _)); refine blk_far ?_ NB312_319.out _; (with_reducible repeat (first | refine blk_drewN ?_ _ | refine blk_drew ?_ | refine blk_alloc ?_ _)); refine blk_far ?_ NB312_319.out _; (with_reducible repeat (first | refine blk_drewN ?_ _ | refine blk_drew ?_ | refine blk_alloc ?_ _)); exact BK312.out⟩, ⟨bq HB.out⟩⟩
   rw [if_neg c21] at H
   have c21b0 := decide_eq_false c21
   clear c21
   by_cases c25 : 0 ≤ x10_1
   rotate_left
   ·rw [if_neg c25] at H
    exact absurd H (by simp)
   rw [if_pos c25] at H
   have c25b0 := decide_eq_true c25
   clear c25
   by_cases c26 : x10_1 < (l0.length : Int)
   rotate_left
   ·rw [if_neg c26] at H
    exact absurd H (by simp)
   rw [if_pos c26] at H
   have c26b0 := decide_eq_true c26
   clear c26
   by_cases c27 : ((rd_T33 l0 x28_1).f1) > ((rd_T33 l0 x10_1).f1)
   ·rw [if_pos c27] at H
    have c27b0 : decide (((rd_T33 l0 x10_1).f1) < ((rd_T33 l0 x28_1).f1)) = true := decide_eq_true c27
    clear c27
    have H' := Aside0.mk H
    clear H
    have p318 : 0 ≤ (x28_1 : Int) := odt
    have q318 : x28_1 < (l0.length : Int) := odt
    obtain ⟨ad318, e318, hx318_0, hx318_1, hx318_2, hx318_3, hx318_4⟩ := at_T33 HR0.out x28_1 p318 q318
    cases e318
    replace hx318_0 := (HB.out.cell (World.block_lt_of_cell? w _ hx318_0)).trans hx318_0
    replace hx318_1 := (HB.out.cell (World.block_lt_of_cell? w _ hx318_1)).trans hx318_1
    replace hx318_2 := (HB.out.cell (World.block_lt_of_cell? w _ hx318_2)).trans hx318_2
    replace hx318_3 := (HB.out.cell (World.block_lt_of_cell? w _ hx318_3)).trans hx318_3
    replace hx318_4 := (HB.out.cell (World.block_lt_of_cell? w _ hx318_4)).trans hx318_4
    replace p318 := eq_true p318
    replace q318 := eq_true q318
    go_wp2_with (first | ((with_reducible refine gate_dst (N := 12) rfl ?_); refine box_event ?hg (N := 12) ?hd (cs := #[.string (⟨#[]⟩ : ByteArray), .int .i64 0, .bool false, .string (⟨#[]⟩ : ByteArray), .string (⟨#[]⟩ : ByteArray)]) (t := 33) ?hr ?_; (case hd => rfl); (case hg => rfl); (case hr => first | (go_simp; done) | (go_simp; rfl)); intro gb319 hg w28 hbox hb; have BK319 := am (hbox); have GW319 := am ((by rw [hg]; exact (below_size (bq HB.out)) : w.heap.size ≤ gb319)); have GE319 := am ((by rw [hg]; exact (below_size (bq HB.out)) : w.heap.size ≤ gb319)); replace HB := am (below_step (bq HB.out) hb); have NB312_319 := am ((by rw [hg]; exact Nat.ne_of_lt (blk_lt (g := gb312) (o := .cells #[.bool false, .string (⟨#[]⟩ : ByteArray), .string (⟨#[]⟩ : ByteArray)] 30 (0, 0)) (kq BK312.out)) : gb312 ≠ gb319)); have NB319_312 := am ((by rw [hg]; exact Nat.ne_of_gt (blk_lt (g := gb312) (o := .cells #[.bool false, .string (⟨#[]⟩ : ByteArray), .string (⟨#[]⟩ : ByteArray)] 30 (0, 0)) (kq BK312.out)) : gb319 ≠ gb312)); replace BK312 := am (blk_below (g := gb312) (o := .cells #[.bool false, .string (⟨#[]⟩ : ByteArray), .string (⟨#[]⟩ : ByteArray)] 30 (0, 0)) (kq BK312.out) hb); clear hb hbox hg; have hnb29 := NB319_312.out; have hnc29 := NB312_319.out; have hcz30_0 : w28.cell? ⟨gb319, 0, none⟩ = some (.string (⟨#[]⟩ : ByteArray)) := (blk_cell BK319.out 0).trans rfl; have hcz30_1 : w28.cell? ⟨gb319, 1, none⟩ = some (.int .i64 0) := (blk_cell BK319.out 1).trans rfl; have hcz30_2 : w28.cell? ⟨gb319, 2, none⟩ = some (.bool false) := (blk_cell BK319.out 2).trans rfl; have hcz30_3 : w28.cell? ⟨gb319, 3, none⟩ = some (.string (⟨#[]⟩ : ByteArray)) := (blk_cell BK319.out 3).trans rfl; have hcz30_4 : w28.cell? ⟨gb319, 4, none⟩ = some (.string (⟨#[]⟩ : ByteArray)) := (blk_cell BK319.out 4).trans rfl; have hfz30_0 := blk_frozen BK319.out 0; have hfz30_1 := blk_frozen BK319.out 1; have hfz30_2 := blk_frozen BK319.out 2; have hfz30_3 := blk_frozen BK319.out 3; have hfz30_4 := blk_frozen BK319.out 4; have p320 : 0 ≤ (x10_1 : Int) := odt; have q320 : x10_1 < (l0.length : Int) := odt; obtain ⟨ad320, e320, hx320_0, hx320_1, hx320_2, hx320_3, hx320_4⟩ := at_T33 HR0.out x10_1 p320 q320; obtain rfl : ad318 = ad320 := (by injection e320); have hn320_0 : ad318.block ≠ gb319 := Nat.ne_of_lt (Nat.lt_of_lt_of_le (by have := World.block_lt_of_cell? _ _ hx320_0; first | rwa [add_block] at this | exact this) GW319.out); have hn320_1 : ad318.block ≠ gb319 := Nat.ne_of_lt (Nat.lt_of_lt_of_le (by have := World.block_lt_of_cell? _ _ hx320_0; first | rwa [add_block] at this | exact this) GW319.out); have hn320_2 : ad318.block ≠ gb319 := Nat.ne_of_lt (Nat.lt_of_lt_of_le (by have := World.block_lt_of_cell? _ _ hx320_0; first | rwa [add_block] at this | exact this) GW319.out); have hn320_3 : ad318.block ≠ gb319 := Nat.ne_of_lt (Nat.lt_of_lt_of_le (by have := World.block_lt_of_cell? _ _ hx320_0; first | rwa [add_block] at this | exact this) GW319.out); have hn320_4 : ad318.block ≠ gb319 := Nat.ne_of_lt (Nat.lt_of_lt_of_le (by have := World.block_lt_of_cell? _ _ hx320_0; first | rwa [add_block] at this | exact this) GW319.out); replace hx320_0 := (HB.out.cell (World.block_lt_of_cell? w _ hx320_0)).trans hx320_0; replace hx320_1 := (HB.out.cell (World.block_lt_of_cell? w _ hx320_1)).trans hx320_1; replace hx320_2 := (HB.out.cell (World.block_lt_of_cell? w _ hx320_2)).trans hx320_2; replace hx320_3 := (HB.out.cell (World.block_lt_of_cell? w _ hx320_3)).trans hx320_3; replace hx320_4 := (HB.out.cell (World.block_lt_of_cell? w _ hx320_4)).trans hx320_4; replace hx320_1 := (cell_far (p := ⟨gb319, 0, none⟩) (by first | (rw [add_block]; exact hn320_0) | (show (Addr.add _ _).block ≠ _; rw [add_block]; exact hn320_0) | exact hn320_0) (.string ((rd_T33 l0 x28_1).f0))).trans hx320_1; replace hx320_1 := (cell_far (p := ⟨gb319, 1, none⟩) (by first | (rw [add_block]; exact hn320_1) | (show (Addr.add _ _).block ≠ _; rw [add_block]; exact hn320_1) | exact hn320_1) (.int .i64 ((rd_T33 l0 x28_1).f1))).trans hx320_1; replace hx320_1 := (cell_far (p := ⟨gb319, 2, none⟩) (by first | (rw [add_block]; exact hn320_2) | (show (Addr.add _ _).block ≠ _; rw [add_block]; exact hn320_2) | exact hn320_2) (.bool ((rd_T33 l0 x28_1).f2.f0))).trans hx320_1; replace hx320_1 := (cell_far (p := ⟨gb319, 3, none⟩) (by first | (rw [add_block]; exact hn320_3) | (show (Addr.add _ _).block ≠ _; rw [add_block]; exact hn320_3) | exact hn320_3) (.string ((rd_T33 l0 x28_1).f2.f1))).trans hx320_1; replace hx320_1 := (cell_far (p := ⟨gb319, 4, none⟩) (by first | (rw [add_block]; exact hn320_4) | (show (Addr.add _ _).block ≠ _; rw [add_block]; exact hn320_4) | exact hn320_4) (.string ((rd_T33 l0 x28_1).f2.f2))).trans hx320_1; (try have hy320_1 := fun (n_ : Nat) => (show (((((((w28.drewN n_).setCell ⟨gb319, 0, none⟩ (.string ((rd_T33 l0 x28_1).f0))).setCell ⟨gb319, 1, none⟩ (.int .i64 ((rd_T33 l0 x28_1).f1))).setCell ⟨gb319, 2, none⟩ (.bool ((rd_T33 l0 x28_1).f2.f0))).setCell ⟨gb319, 3, none⟩ (.string ((rd_T33 l0 x28_1).f2.f1))).setCell ⟨gb319, 4, none⟩ (.string ((rd_T33 l0 x28_1).f2.f2)))).cell? _ = some _ from hx320_1)); clear hx320_0 hx320_2 hx320_3 hx320_4; clear hn320_0; clear hn320_1; clear hn320_2; clear hn320_3; clear hn320_4; replace p320 := eq_true p320; replace q320 := eq_true q320))
    repeat (go_quiet (first | ((with_reducible refine gate_dst (N := 12) rfl ?_); refine box_event ?hg (N := 12) ?hd (cs := #[.string (⟨#[]⟩ : ByteArray), .int .i64 0, .bool false, .string (⟨#[]⟩ : ByteArray), .string (⟨#[]⟩ : ByteArray)]) (t := 33) ?hr ?_; (case hd => rfl); (case hg => rfl); (case hr => first | (go_simp; done) | (go_simp; rfl)); intro gb319 hg w28 hbox hb; have BK319 := am (hbox); have GW319 := am ((by rw [hg]; exact (below_size (bq HB.out)) : w.heap.size ≤ gb319)); have GE319 := am ((by rw [hg]; exact (below_size (bq HB.out)) : w.heap.size ≤ gb319)); replace HB := am (below_step (bq HB.out) hb); have NB312_319 := am ((by rw [hg]; exact Nat.ne_of_lt (blk_lt (g := gb312) (o := .cells #[.bool false, .string (⟨#[]⟩ : ByteArray), .string (⟨#[]⟩ : ByteArray)] 30 (0, 0)) (kq BK312.out)) : gb312 ≠ gb319)); have NB319_312 := am ((by rw [hg]; exact Nat.ne_of_gt (blk_lt (g := gb312) (o := .cells #[.bool false, .string (⟨#[]⟩ : ByteArray), .string (⟨#[]⟩ : ByteArray)] 30 (0, 0)) (kq BK312.out)) : gb319 ≠ gb312)); replace BK312 := am (blk_below (g := gb312) (o := .cells #[.bool false, .string (⟨#[]⟩ : ByteArray), .string (⟨#[]⟩ : ByteArray)] 30 (0, 0)) (kq BK312.out) hb); clear hb hbox hg; have hnb29 := NB319_312.out; have hnc29 := NB312_319.out; have hcz30_0 : w28.cell? ⟨gb319, 0, none⟩ = some (.string (⟨#[]⟩ : ByteArray)) := (blk_cell BK319.out 0).trans rfl; have hcz30_1 : w28.cell? ⟨gb319, 1, none⟩ = some (.int .i64 0) := (blk_cell BK319.out 1).trans rfl; have hcz30_2 : w28.cell? ⟨gb319, 2, none⟩ = some (.bool false) := (blk_cell BK319.out 2).trans rfl; have hcz30_3 : w28.cell? ⟨gb319, 3, none⟩ = some (.string (⟨#[]⟩ : ByteArray)) := (blk_cell BK319.out 3).trans rfl; have hcz30_4 : w28.cell? ⟨gb319, 4, none⟩ = some (.string (⟨#[]⟩ : ByteArray)) := (blk_cell BK319.out 4).trans rfl; have hfz30_0 := blk_frozen BK319.out 0; have hfz30_1 := blk_frozen BK319.out 1; have hfz30_2 := blk_frozen BK319.out 2; have hfz30_3 := blk_frozen BK319.out 3; have hfz30_4 := blk_frozen BK319.out 4; have p320 : 0 ≤ (x10_1 : Int) := odt; have q320 : x10_1 < (l0.length : Int) := odt; obtain ⟨ad320, e320, hx320_0, hx320_1, hx320_2, hx320_3, hx320_4⟩ := at_T33 HR0.out x10_1 p320 q320; obtain rfl : ad318 = ad320 := (by injection e320); have hn320_0 : ad318.block ≠ gb319 := Nat.ne_of_lt (Nat.lt_of_lt_of_le (by have := World.block_lt_of_cell? _ _ hx320_0; first | rwa [add_block] at this | exact this) GW319.out); have hn320_1 : ad318.block ≠ gb319 := Nat.ne_of_lt (Nat.lt_of_lt_of_le (by have := World.block_lt_of_cell? _ _ hx320_0; first | rwa [add_block] at this | exact this) GW319.out); have hn320_2 : ad318.block ≠ gb319 := Nat.ne_of_lt (Nat.lt_of_lt_of_le (by have := World.block_lt_of_cell? _ _ hx320_0; first | rwa [add_block] at this | exact this) GW319.out); have hn320_3 : ad318.block ≠ gb319 := Nat.ne_of_lt (Nat.lt_of_lt_of_le (by have := World.block_lt_of_cell? _ _ hx320_0; first | rwa [add_block] at this | exact this) GW319.out); have hn320_4 : ad318.block ≠ gb319 := Nat.ne_of_lt (Nat.lt_of_lt_of_le (by have := World.block_lt_of_cell? _ _ hx320_0; first | rwa [add_block] at this | exact this) GW319.out); replace hx320_0 := (HB.out.cell (World.block_lt_of_cell? w _ hx320_0)).trans hx320_0; replace hx320_1 := (HB.out.cell (World.block_lt_of_cell? w _ hx320_1)).trans hx320_1; replace hx320_2 := (HB.out.cell (World.block_lt_of_cell? w _ hx320_2)).trans hx320_2; replace hx320_3 := (HB.out.cell (World.block_lt_of_cell? w _ hx320_3)).trans hx320_3; replace hx320_4 := (HB.out.cell (World.block_lt_of_cell? w _ hx320_4)).trans hx320_4; replace hx320_1 := (cell_far (p := ⟨gb319, 0, none⟩) (by first | (rw [add_block]; exact hn320_0) | (show (Addr.add _ _).block ≠ _; rw [add_block]; exact hn320_0) | exact hn320_0) (.string ((rd_T33 l0 x28_1).f0))).trans hx320_1; replace hx320_1 := (cell_far (p := ⟨gb319, 1, none⟩) (by first | (rw [add_block]; exact hn320_1) | (show (Addr.add _ _).block ≠ _; rw [add_block]; exact hn320_1) | exact hn320_1) (.int .i64 ((rd_T33 l0 x28_1).f1))).trans hx320_1; replace hx320_1 := (cell_far (p := ⟨gb319, 2, none⟩) (by first | (rw [add_block]; exact hn320_2) | (show (Addr.add _ _).block ≠ _; rw [add_block]; exact hn320_2) | exact hn320_2) (.bool ((rd_T33 l0 x28_1).f2.f0))).trans hx320_1; replace hx320_1 := (cell_far (p := ⟨gb319, 3, none⟩) (by first | (rw [add_block]; exact hn320_3) | (show (Addr.add _ _).block ≠ _; rw [add_block]; exact hn320_3) | exact hn320_3) (.string ((rd_T33 l0 x28_1).f2.f1))).trans hx320_1; replace hx320_1 := (cell_far (p := ⟨gb319, 4, none⟩) (by first | (rw [add_block]; exact hn320_4) | (show (Addr.add _ _).block ≠ _; rw [add_block]; exact hn320_4) | exact hn320_4) (.string ((rd_T33 l0 x28_1).f2.f2))).trans hx320_1; (try have hy320_1 := fun (n_ : Nat) => (show (((((((w28.drewN n_).setCell ⟨gb319, 0, none⟩ (.string ((rd_T33 l0 x28_1).f0))).setCell ⟨gb319, 1, none⟩ (.int .i64 ((rd_T33 l0 x28_1).f1))).setCell ⟨gb319, 2, none⟩ (.bool ((rd_T33 l0 x28_1).f2.f0))).setCell ⟨gb319, 3, none⟩ (.string ((rd_T33 l0 x28_1).f2.f1))).setCell ⟨gb319, 4, none⟩ (.string ((rd_T33 l0 x28_1).f2.f2)))).cell? _ = some _ from hx320_1)); clear hx320_0 hx320_2 hx320_3 hx320_4; clear hn320_0; clear hn320_1; clear hn320_2; clear hn320_3; clear hn320_4; replace p320 := eq_true p320; replace q320 := eq_true q320)); try go_wp2_with (first | ((with_reducible refine gate_dst (N := 12) rfl ?_); refine box_event ?hg (N := 12) ?hd (cs := #[.string (⟨#[]⟩ : ByteArray), .int .i64 0, .bool false, .string (⟨#[]⟩ : ByteArray), .string (⟨#[]⟩ : ByteArray)]) (t := 33) ?hr ?_; (case hd => rfl); (case hg => rfl); (case hr => first | (go_simp; done) | (go_simp; rfl)); intro gb319 hg w28 hbox hb; have BK319 := am (hbox); have GW319 := am ((by rw [hg]; exact (below_size (bq HB.out)) : w.heap.size ≤ gb319)); have GE319 := am ((by rw [hg]; exact (below_size (bq HB.out)) : w.heap.size ≤ gb319)); replace HB := am (below_step (bq HB.out) hb); have NB312_319 := am ((by rw [hg]; exact Nat.ne_of_lt (blk_lt (g := gb312) (o := .cells #[.bool false, .string (⟨#[]⟩ : ByteArray), .string (⟨#[]⟩ : ByteArray)] 30 (0, 0)) (kq BK312.out)) : gb312 ≠ gb319)); have NB319_312 := am ((by rw [hg]; exact Nat.ne_of_gt (blk_lt (g := gb312) (o := .cells #[.bool false, .string (⟨#[]⟩ : ByteArray), .string (⟨#[]⟩ : ByteArray)] 30 (0, 0)) (kq BK312.out)) : gb319 ≠ gb312)); replace BK312 := am (blk_below (g := gb312) (o := .cells #[.bool false, .string (⟨#[]⟩ : ByteArray), .string (⟨#[]⟩ : ByteArray)] 30 (0, 0)) (kq BK312.out) hb); clear hb hbox hg; have hnb29 := NB319_312.out; have hnc29 := NB312_319.out; have hcz30_0 : w28.cell? ⟨gb319, 0, none⟩ = some (.string (⟨#[]⟩ : ByteArray)) := (blk_cell BK319.out 0).trans rfl; have hcz30_1 : w28.cell? ⟨gb319, 1, none⟩ = some (.int .i64 0) := (blk_cell BK319.out 1).trans rfl; have hcz30_2 : w28.cell? ⟨gb319, 2, none⟩ = some (.bool false) := (blk_cell BK319.out 2).trans rfl; have hcz30_3 : w28.cell? ⟨gb319, 3, none⟩ = some (.string (⟨#[]⟩ : ByteArray)) := (blk_cell BK319.out 3).trans rfl; have hcz30_4 : w28.cell? ⟨gb319, 4, none⟩ = some (.string (⟨#[]⟩ : ByteArray)) := (blk_cell BK319.out 4).trans rfl; have hfz30_0 := blk_frozen BK319.out 0; have hfz30_1 := blk_frozen BK319.out 1; have hfz30_2 := blk_frozen BK319.out 2; have hfz30_3 := blk_frozen BK319.out 3; have hfz30_4 := blk_frozen BK319.out 4; have p320 : 0 ≤ (x10_1 : Int) := odt; have q320 : x10_1 < (l0.length : Int) := odt; obtain ⟨ad320, e320, hx320_0, hx320_1, hx320_2, hx320_3, hx320_4⟩ := at_T33 HR0.out x10_1 p320 q320; obtain rfl : ad318 = ad320 := (by injection e320); have hn320_0 : ad318.block ≠ gb319 := Nat.ne_of_lt (Nat.lt_of_lt_of_le (by have := World.block_lt_of_cell? _ _ hx320_0; first | rwa [add_block] at this | exact this) GW319.out); have hn320_1 : ad318.block ≠ gb319 := Nat.ne_of_lt (Nat.lt_of_lt_of_le (by have := World.block_lt_of_cell? _ _ hx320_0; first | rwa [add_block] at this | exact this) GW319.out); have hn320_2 : ad318.block ≠ gb319 := Nat.ne_of_lt (Nat.lt_of_lt_of_le (by have := World.block_lt_of_cell? _ _ hx320_0; first | rwa [add_block] at this | exact this) GW319.out); have hn320_3 : ad318.block ≠ gb319 := Nat.ne_of_lt (Nat.lt_of_lt_of_le (by have := World.block_lt_of_cell? _ _ hx320_0; first | rwa [add_block] at this | exact this) GW319.out); have hn320_4 : ad318.block ≠ gb319 := Nat.ne_of_lt (Nat.lt_of_lt_of_le (by have := World.block_lt_of_cell? _ _ hx320_0; first | rwa [add_block] at this | exact this) GW319.out); replace hx320_0 := (HB.out.cell (World.block_lt_of_cell? w _ hx320_0)).trans hx320_0; replace hx320_1 := (HB.out.cell (World.block_lt_of_cell? w _ hx320_1)).trans hx320_1; replace hx320_2 := (HB.out.cell (World.block_lt_of_cell? w _ hx320_2)).trans hx320_2; replace hx320_3 := (HB.out.cell (World.block_lt_of_cell? w _ hx320_3)).trans hx320_3; replace hx320_4 := (HB.out.cell (World.block_lt_of_cell? w _ hx320_4)).trans hx320_4; replace hx320_1 := (cell_far (p := ⟨gb319, 0, none⟩) (by first | (rw [add_block]; exact hn320_0) | (show (Addr.add _ _).block ≠ _; rw [add_block]; exact hn320_0) | exact hn320_0) (.string ((rd_T33 l0 x28_1).f0))).trans hx320_1; replace hx320_1 := (cell_far (p := ⟨gb319, 1, none⟩) (by first | (rw [add_block]; exact hn320_1) | (show (Addr.add _ _).block ≠ _; rw [add_block]; exact hn320_1) | exact hn320_1) (.int .i64 ((rd_T33 l0 x28_1).f1))).trans hx320_1; replace hx320_1 := (cell_far (p := ⟨gb319, 2, none⟩) (by first | (rw [add_block]; exact hn320_2) | (show (Addr.add _ _).block ≠ _; rw [add_block]; exact hn320_2) | exact hn320_2) (.bool ((rd_T33 l0 x28_1).f2.f0))).trans hx320_1; replace hx320_1 := (cell_far (p := ⟨gb319, 3, none⟩) (by first | (rw [add_block]; exact hn320_3) | (show (Addr.add _ _).block ≠ _; rw [add_block]; exact hn320_3) | exact hn320_3) (.string ((rd_T33 l0 x28_1).f2.f1))).trans hx320_1; replace hx320_1 := (cell_far (p := ⟨gb319, 4, none⟩) (by first | (rw [add_block]; exact hn320_4) | (show (Addr.add _ _).block ≠ _; rw [add_block]; exact hn320_4) | exact hn320_4) (.string ((rd_T33 l0 x28_1).f2.f2))).trans hx320_1; (try have hy320_1 := fun (n_ : Nat) => (show (((((((w28.drewN n_).setCell ⟨gb319, 0, none⟩ (.string ((rd_T33 l0 x28_1).f0))).setCell ⟨gb319, 1, none⟩ (.int .i64 ((rd_T33 l0 x28_1).f1))).setCell ⟨gb319, 2, none⟩ (.bool ((rd_T33 l0 x28_1).f2.f0))).setCell ⟨gb319, 3, none⟩ (.string ((rd_T33 l0 x28_1).f2.f1))).setCell ⟨gb319, 4, none⟩ (.string ((rd_T33 l0 x28_1).f2.f2)))).cell? _ = some _ from hx320_1)); clear hx320_0 hx320_2 hx320_3 hx320_4; clear hn320_0; clear hn320_1; clear hn320_2; clear hn320_3; clear hn320_4; replace p320 := eq_true p320; replace q320 := eq_true q320)))
    go_roundg k1
    case measure => have := HK1.out; omega
    case rel => exact ⟨(true), (x28_1), (wrap64 (x28_1 + 1)), (by first | rfl | (simp; done) | (simp [*]; done)), (by first | rfl | (simp; done) | (simp [*]; done)), (by first | rfl | (simp; done) | (simp [*]; done)), H', ⟨by have := HK1.out; omega⟩, ⟨by (with_reducible repeat (first | refine blk_drewN ?_ _ | refine blk_drew ?_ | refine blk_alloc ?_ _)); refine blk_far ?_ NB312_319.out _; (with_reducible repeat (first | refine blk_drewN ?_ _ | refine blk_drew ?_ | refine blk_alloc ?_ _)); refine blk_far ?_ NB312_319.out _; (with_reducible repeat (first | refine blk_drewN ?_ _ | refine blk_drew ?_ | refine blk_alloc ?_ _)); refine blk_far ?_ NB312_319.out _; (with_reducible repeat (first | refine blk_drewN ?_ _ | refine blk_drew ?_ | refine blk_alloc ?_ _)); refine blk_far ?_ NB312_319.out _; (with_reducible repeat (first | refine blk_drewN ?_ _ | refine blk_drew ?_ | refine blk_alloc ?_ _)); refine blk_far ?_ NB312_319.out _; (with_reducible repeat (first | refine blk_drewN ?_ _ | refine blk_drew ?_ | refine blk_alloc ?_ _)); exact BK312.out⟩, ⟨bq HB.out⟩⟩
   rw [if_neg c27] at H
   have c27b0 : decide (((rd_T33 l0 x10_1).f1) < ((rd_T33 l0 x28_1).f1)) = false := decide_eq_false c27
   clear c27
   have H' := Aside0.mk H
   clear H
   have p318 : 0 ≤ (x28_1 : Int) := odt
   have q318 : x28_1 < (l0.length : Int) := odt
   obtain ⟨ad318, e318, hx318_0, hx318_1, hx318_2, hx318_3, hx318_4⟩ := at_T33 HR0.out x28_1 p318 q318
   cases e318
   replace hx318_0 := (HB.out.cell (World.block_lt_of_cell? w _ hx318_0)).trans hx318_0
   replace hx318_1 := (HB.out.cell (World.block_lt_of_cell? w _ hx318_1)).trans hx318_1
   replace hx318_2 := (HB.out.cell (World.block_lt_of_cell? w _ hx318_2)).trans hx318_2
   replace hx318_3 := (HB.out.cell (World.block_lt_of_cell? w _ hx318_3)).trans hx318_3
   replace hx318_4 := (HB.out.cell (World.block_lt_of_cell? w _ hx318_4)).trans hx318_4
   replace p318 := eq_true p318
   replace q318 := eq_true q318
   go_wp2_with (first | ((with_reducible refine gate_dst (N := 12) rfl ?_); refine box_event ?hg (N := 12) ?hd (cs := #[.string (⟨#[]⟩ : ByteArray), .int .i64 0, .bool false, .string (⟨#[]⟩ : ByteArray), .string (⟨#[]⟩ : ByteArray)]) (t := 33) ?hr ?_; (case hd => rfl); (case hg => rfl); (case hr => first | (go_simp; done) | (go_simp; rfl)); intro gb319 hg w31 hbox hb; have BK319 := am (hbox); have GW319 := am ((by rw [hg]; exact (below_size (bq HB.out)) : w.heap.size ≤ gb319)); have GE319 := am ((by rw [hg]; exact (below_size (bq HB.out)) : w.heap.size ≤ gb319)); replace HB := am (below_step (bq HB.out) hb); have NB312_319 := am ((by rw [hg]; exact Nat.ne_of_lt (blk_lt (g := gb312) (o := .cells #[.bool false, .string (⟨#[]⟩ : ByteArray), .string (⟨#[]⟩ : ByteArray)] 30 (0, 0)) (kq BK312.out)) : gb312 ≠ gb319)); have NB319_312 := am ((by rw [hg]; exact Nat.ne_of_gt (blk_lt (g := gb312) (o := .cells #[.bool false, .string (⟨#[]⟩ : ByteArray), .string (⟨#[]⟩ : ByteArray)] 30 (0, 0)) (kq BK312.out)) : gb319 ≠ gb312)); replace BK312 := am (blk_below (g := gb312) (o := .cells #[.bool false, .string (⟨#[]⟩ : ByteArray), .string (⟨#[]⟩ : ByteArray)] 30 (0, 0)) (kq BK312.out) hb); clear hb hbox hg; have hnb32 := NB319_312.out; have hnc32 := NB312_319.out; have hcz33_0 : w31.cell? ⟨gb319, 0, none⟩ = some (.string (⟨#[]⟩ : ByteArray)) := (blk_cell BK319.out 0).trans rfl; have hcz33_1 : w31.cell? ⟨gb319, 1, none⟩ = some (.int .i64 0) := (blk_cell BK319.out 1).trans rfl; have hcz33_2 : w31.cell? ⟨gb319, 2, none⟩ = some (.bool false) := (blk_cell BK319.out 2).trans rfl; have hcz33_3 : w31.cell? ⟨gb319, 3, none⟩ = some (.string (⟨#[]⟩ : ByteArray)) := (blk_cell BK319.out 3).trans rfl; have hcz33_4 : w31.cell? ⟨gb319, 4, none⟩ = some (.string (⟨#[]⟩ : ByteArray)) := (blk_cell BK319.out 4).trans rfl; have hfz33_0 := blk_frozen BK319.out 0; have hfz33_1 := blk_frozen BK319.out 1; have hfz33_2 := blk_frozen BK319.out 2; have hfz33_3 := blk_frozen BK319.out 3; have hfz33_4 := blk_frozen BK319.out 4; have p320 : 0 ≤ (x10_1 : Int) := odt; have q320 : x10_1 < (l0.length : Int) := odt; obtain ⟨ad320, e320, hx320_0, hx320_1, hx320_2, hx320_3, hx320_4⟩ := at_T33 HR0.out x10_1 p320 q320; obtain rfl : ad318 = ad320 := (by injection e320); have hn320_0 : ad318.block ≠ gb319 := Nat.ne_of_lt (Nat.lt_of_lt_of_le (by have := World.block_lt_of_cell? _ _ hx320_0; first | rwa [add_block] at this | exact this) GW319.out); have hn320_1 : ad318.block ≠ gb319 := Nat.ne_of_lt (Nat.lt_of_lt_of_le (by have := World.block_lt_of_cell? _ _ hx320_0; first | rwa [add_block] at this | exact this) GW319.out); have hn320_2 : ad318.block ≠ gb319 := Nat.ne_of_lt (Nat.lt_of_lt_of_le (by have := World.block_lt_of_cell? _ _ hx320_0; first | rwa [add_block] at this | exact this) GW319.out); have hn320_3 : ad318.block ≠ gb319 := Nat.ne_of_lt (Nat.lt_of_lt_of_le (by have := World.block_lt_of_cell? _ _ hx320_0; first | rwa [add_block] at this | exact this) GW319.out); have hn320_4 : ad318.block ≠ gb319 := Nat.ne_of_lt (Nat.lt_of_lt_of_le (by have := World.block_lt_of_cell? _ _ hx320_0; first | rwa [add_block] at this | exact this) GW319.out); replace hx320_0 := (HB.out.cell (World.block_lt_of_cell? w _ hx320_0)).trans hx320_0; replace hx320_1 := (HB.out.cell (World.block_lt_of_cell? w _ hx320_1)).trans hx320_1; replace hx320_2 := (HB.out.cell (World.block_lt_of_cell? w _ hx320_2)).trans hx320_2; replace hx320_3 := (HB.out.cell (World.block_lt_of_cell? w _ hx320_3)).trans hx320_3; replace hx320_4 := (HB.out.cell (World.block_lt_of_cell? w _ hx320_4)).trans hx320_4; replace hx320_1 := (cell_far (p := ⟨gb319, 0, none⟩) (by first | (rw [add_block]; exact hn320_0) | (show (Addr.add _ _).block ≠ _; rw [add_block]; exact hn320_0) | exact hn320_0) (.string ((rd_T33 l0 x28_1).f0))).trans hx320_1; replace hx320_1 := (cell_far (p := ⟨gb319, 1, none⟩) (by first | (rw [add_block]; exact hn320_1) | (show (Addr.add _ _).block ≠ _; rw [add_block]; exact hn320_1) | exact hn320_1) (.int .i64 ((rd_T33 l0 x28_1).f1))).trans hx320_1; replace hx320_1 := (cell_far (p := ⟨gb319, 2, none⟩) (by first | (rw [add_block]; exact hn320_2) | (show (Addr.add _ _).block ≠ _; rw [add_block]; exact hn320_2) | exact hn320_2) (.bool ((rd_T33 l0 x28_1).f2.f0))).trans hx320_1; replace hx320_1 := (cell_far (p := ⟨gb319, 3, none⟩) (by first | (rw [add_block]; exact hn320_3) | (show (Addr.add _ _).block ≠ _; rw [add_block]; exact hn320_3) | exact hn320_3) (.string ((rd_T33 l0 x28_1).f2.f1))).trans hx320_1; replace hx320_1 := (cell_far (p := ⟨gb319, 4, none⟩) (by first | (rw [add_block]; exact hn320_4) | (show (Addr.add _ _).block ≠ _; rw [add_block]; exact hn320_4) | exact hn320_4) (.string ((rd_T33 l0 x28_1).f2.f2))).trans hx320_1; (try have hy320_1 := fun (n_ : Nat) => (show (((((((w31.drewN n_).setCell ⟨gb319, 0, none⟩ (.string ((rd_T33 l0 x28_1).f0))).setCell ⟨gb319, 1, none⟩ (.int .i64 ((rd_T33 l0 x28_1).f1))).setCell ⟨gb319, 2, none⟩ (.bool ((rd_T33 l0 x28_1).f2.f0))).setCell ⟨gb319, 3, none⟩ (.string ((rd_T33 l0 x28_1).f2.f1))).setCell ⟨gb319, 4, none⟩ (.string ((rd_T33 l0 x28_1).f2.f2)))).cell? _ = some _ from hx320_1)); clear hx320_0 hx320_2 hx320_3 hx320_4; clear hn320_0; clear hn320_1; clear hn320_2; clear hn320_3; clear hn320_4; replace p320 := eq_true p320; replace q320 := eq_true q320))
   repeat (go_quiet (first | ((with_reducible refine gate_dst (N := 12) rfl ?_); refine box_event ?hg (N := 12) ?hd (cs := #[.string (⟨#[]⟩ : ByteArray), .int .i64 0, .bool false, .string (⟨#[]⟩ : ByteArray), .string (⟨#[]⟩ : ByteArray)]) (t := 33) ?hr ?_; (case hd => rfl); (case hg => rfl); (case hr => first | (go_simp; done) | (go_simp; rfl)); intro gb319 hg w31 hbox hb; have BK319 := am (hbox); have GW319 := am ((by rw [hg]; exact (below_size (bq HB.out)) : w.heap.size ≤ gb319)); have GE319 := am ((by rw [hg]; exact (below_size (bq HB.out)) : w.heap.size ≤ gb319)); replace HB := am (below_step (bq HB.out) hb); have NB312_319 := am ((by rw [hg]; exact Nat.ne_of_lt (blk_lt (g := gb312) (o := .cells #[.bool false, .string (⟨#[]⟩ : ByteArray), .string (⟨#[]⟩ : ByteArray)] 30 (0, 0)) (kq BK312.out)) : gb312 ≠ gb319)); have NB319_312 := am ((by rw [hg]; exact Nat.ne_of_gt (blk_lt (g := gb312) (o := .cells #[.bool false, .string (⟨#[]⟩ : ByteArray), .string (⟨#[]⟩ : ByteArray)] 30 (0, 0)) (kq BK312.out)) : gb319 ≠ gb312)); replace BK312 := am (blk_below (g := gb312) (o := .cells #[.bool false, .string (⟨#[]⟩ : ByteArray), .string (⟨#[]⟩ : ByteArray)] 30 (0, 0)) (kq BK312.out) hb); clear hb hbox hg; have hnb32 := NB319_312.out; have hnc32 := NB312_319.out; have hcz33_0 : w31.cell? ⟨gb319, 0, none⟩ = some (.string (⟨#[]⟩ : ByteArray)) := (blk_cell BK319.out 0).trans rfl; have hcz33_1 : w31.cell? ⟨gb319, 1, none⟩ = some (.int .i64 0) := (blk_cell BK319.out 1).trans rfl; have hcz33_2 : w31.cell? ⟨gb319, 2, none⟩ = some (.bool false) := (blk_cell BK319.out 2).trans rfl; have hcz33_3 : w31.cell? ⟨gb319, 3, none⟩ = some (.string (⟨#[]⟩ : ByteArray)) := (blk_cell BK319.out 3).trans rfl; have hcz33_4 : w31.cell? ⟨gb319, 4, none⟩ = some (.string (⟨#[]⟩ : ByteArray)) := (blk_cell BK319.out 4).trans rfl; have hfz33_0 := blk_frozen BK319.out 0; have hfz33_1 := blk_frozen BK319.out 1; have hfz33_2 := blk_frozen BK319.out 2; have hfz33_3 := blk_frozen BK319.out 3; have hfz33_4 := blk_frozen BK319.out 4; have p320 : 0 ≤ (x10_1 : Int) := odt; have q320 : x10_1 < (l0.length : Int) := odt; obtain ⟨ad320, e320, hx320_0, hx320_1, hx320_2, hx320_3, hx320_4⟩ := at_T33 HR0.out x10_1 p320 q320; obtain rfl : ad318 = ad320 := (by injection e320); have hn320_0 : ad318.block ≠ gb319 := Nat.ne_of_lt (Nat.lt_of_lt_of_le (by have := World.block_lt_of_cell? _ _ hx320_0; first | rwa [add_block] at this | exact this) GW319.out); have hn320_1 : ad318.block ≠ gb319 := Nat.ne_of_lt (Nat.lt_of_lt_of_le (by have := World.block_lt_of_cell? _ _ hx320_0; first | rwa [add_block] at this | exact this) GW319.out); have hn320_2 : ad318.block ≠ gb319 := Nat.ne_of_lt (Nat.lt_of_lt_of_le (by have := World.block_lt_of_cell? _ _ hx320_0; first | rwa [add_block] at this | exact this) GW319.out); have hn320_3 : ad318.block ≠ gb319 := Nat.ne_of_lt (Nat.lt_of_lt_of_le (by have := World.block_lt_of_cell? _ _ hx320_0; first | rwa [add_block] at this | exact this) GW319.out); have hn320_4 : ad318.block ≠ gb319 := Nat.ne_of_lt (Nat.lt_of_lt_of_le (by have := World.block_lt_of_cell? _ _ hx320_0; first | rwa [add_block] at this | exact this) GW319.out); replace hx320_0 := (HB.out.cell (World.block_lt_of_cell? w _ hx320_0)).trans hx320_0; replace hx320_1 := (HB.out.cell (World.block_lt_of_cell? w _ hx320_1)).trans hx320_1; replace hx320_2 := (HB.out.cell (World.block_lt_of_cell? w _ hx320_2)).trans hx320_2; replace hx320_3 := (HB.out.cell (World.block_lt_of_cell? w _ hx320_3)).trans hx320_3; replace hx320_4 := (HB.out.cell (World.block_lt_of_cell? w _ hx320_4)).trans hx320_4; replace hx320_1 := (cell_far (p := ⟨gb319, 0, none⟩) (by first | (rw [add_block]; exact hn320_0) | (show (Addr.add _ _).block ≠ _; rw [add_block]; exact hn320_0) | exact hn320_0) (.string ((rd_T33 l0 x28_1).f0))).trans hx320_1; replace hx320_1 := (cell_far (p := ⟨gb319, 1, none⟩) (by first | (rw [add_block]; exact hn320_1) | (show (Addr.add _ _).block ≠ _; rw [add_block]; exact hn320_1) | exact hn320_1) (.int .i64 ((rd_T33 l0 x28_1).f1))).trans hx320_1; replace hx320_1 := (cell_far (p := ⟨gb319, 2, none⟩) (by first | (rw [add_block]; exact hn320_2) | (show (Addr.add _ _).block ≠ _; rw [add_block]; exact hn320_2) | exact hn320_2) (.bool ((rd_T33 l0 x28_1).f2.f0))).trans hx320_1; replace hx320_1 := (cell_far (p := ⟨gb319, 3, none⟩) (by first | (rw [add_block]; exact hn320_3) | (show (Addr.add _ _).block ≠ _; rw [add_block]; exact hn320_3) | exact hn320_3) (.string ((rd_T33 l0 x28_1).f2.f1))).trans hx320_1; replace hx320_1 := (cell_far (p := ⟨gb319, 4, none⟩) (by first | (rw [add_block]; exact hn320_4) | (show (Addr.add _ _).block ≠ _; rw [add_block]; exact hn320_4) | exact hn320_4) (.string ((rd_T33 l0 x28_1).f2.f2))).trans hx320_1; (try have hy320_1 := fun (n_ : Nat) => (show (((((((w31.drewN n_).setCell ⟨gb319, 0, none⟩ (.string ((rd_T33 l0 x28_1).f0))).setCell ⟨gb319, 1, none⟩ (.int .i64 ((rd_T33 l0 x28_1).f1))).setCell ⟨gb319, 2, none⟩ (.bool ((rd_T33 l0 x28_1).f2.f0))).setCell ⟨gb319, 3, none⟩ (.string ((rd_T33 l0 x28_1).f2.f1))).setCell ⟨gb319, 4, none⟩ (.string ((rd_T33 l0 x28_1).f2.f2)))).cell? _ = some _ from hx320_1)); clear hx320_0 hx320_2 hx320_3 hx320_4; clear hn320_0; clear hn320_1; clear hn320_2; clear hn320_3; clear hn320_4; replace p320 := eq_true p320; replace q320 := eq_true q320)); try go_wp2_with (first | ((with_reducible refine gate_dst (N := 12) rfl ?_); refine box_event ?hg (N := 12) ?hd (cs := #[.string (⟨#[]⟩ : ByteArray), .int .i64 0, .bool false, .string (⟨#[]⟩ : ByteArray), .string (⟨#[]⟩ : ByteArray)]) (t := 33) ?hr ?_; (case hd => rfl); (case hg => rfl); (case hr => first | (go_simp; done) | (go_simp; rfl)); intro gb319 hg w31 hbox hb; have BK319 := am (hbox); have GW319 := am ((by rw [hg]; exact (below_size (bq HB.out)) : w.heap.size ≤ gb319)); have GE319 := am ((by rw [hg]; exact (below_size (bq HB.out)) : w.heap.size ≤ gb319)); replace HB := am (below_step (bq HB.out) hb); have NB312_319 := am ((by rw [hg]; exact Nat.ne_of_lt (blk_lt (g := gb312) (o := .cells #[.bool false, .string (⟨#[]⟩ : ByteArray), .string (⟨#[]⟩ : ByteArray)] 30 (0, 0)) (kq BK312.out)) : gb312 ≠ gb319)); have NB319_312 := am ((by rw [hg]; exact Nat.ne_of_gt (blk_lt (g := gb312) (o := .cells #[.bool false, .string (⟨#[]⟩ : ByteArray), .string (⟨#[]⟩ : ByteArray)] 30 (0, 0)) (kq BK312.out)) : gb319 ≠ gb312)); replace BK312 := am (blk_below (g := gb312) (o := .cells #[.bool false, .string (⟨#[]⟩ : ByteArray), .string (⟨#[]⟩ : ByteArray)] 30 (0, 0)) (kq BK312.out) hb); clear hb hbox hg; have hnb32 := NB319_312.out; have hnc32 := NB312_319.out; have hcz33_0 : w31.cell? ⟨gb319, 0, none⟩ = some (.string (⟨#[]⟩ : ByteArray)) := (blk_cell BK319.out 0).trans rfl; have hcz33_1 : w31.cell? ⟨gb319, 1, none⟩ = some (.int .i64 0) := (blk_cell BK319.out 1).trans rfl; have hcz33_2 : w31.cell? ⟨gb319, 2, none⟩ = some (.bool false) := (blk_cell BK319.out 2).trans rfl; have hcz33_3 : w31.cell? ⟨gb319, 3, none⟩ = some (.string (⟨#[]⟩ : ByteArray)) := (blk_cell BK319.out 3).trans rfl; have hcz33_4 : w31.cell? ⟨gb319, 4, none⟩ = some (.string (⟨#[]⟩ : ByteArray)) := (blk_cell BK319.out 4).trans rfl; have hfz33_0 := blk_frozen BK319.out 0; have hfz33_1 := blk_frozen BK319.out 1; have hfz33_2 := blk_frozen BK319.out 2; have hfz33_3 := blk_frozen BK319.out 3; have hfz33_4 := blk_frozen BK319.out 4; have p320 : 0 ≤ (x10_1 : Int) := odt; have q320 : x10_1 < (l0.length : Int) := odt; obtain ⟨ad320, e320, hx320_0, hx320_1, hx320_2, hx320_3, hx320_4⟩ := at_T33 HR0.out x10_1 p320 q320; obtain rfl : ad318 = ad320 := (by injection e320); have hn320_0 : ad318.block ≠ gb319 := Nat.ne_of_lt (Nat.lt_of_lt_of_le (by have := World.block_lt_of_cell? _ _ hx320_0; first | rwa [add_block] at this | exact this) GW319.out); have hn320_1 : ad318.block ≠ gb319 := Nat.ne_of_lt (Nat.lt_of_lt_of_le (by have := World.block_lt_of_cell? _ _ hx320_0; first | rwa [add_block] at this | exact this) GW319.out); have hn320_2 : ad318.block ≠ gb319 := Nat.ne_of_lt (Nat.lt_of_lt_of_le (by have := World.block_lt_of_cell? _ _ hx320_0; first | rwa [add_block] at this | exact this) GW319.out); have hn320_3 : ad318.block ≠ gb319 := Nat.ne_of_lt (Nat.lt_of_lt_of_le (by have := World.block_lt_of_cell? _ _ hx320_0; first | rwa [add_block] at this | exact this) GW319.out); have hn320_4 : ad318.block ≠ gb319 := Nat.ne_of_lt (Nat.lt_of_lt_of_le (by have := World.block_lt_of_cell? _ _ hx320_0; first | rwa [add_block] at this | exact this) GW319.out); replace hx320_0 := (HB.out.cell (World.block_lt_of_cell? w _ hx320_0)).trans hx320_0; replace hx320_1 := (HB.out.cell (World.block_lt_of_cell? w _ hx320_1)).trans hx320_1; replace hx320_2 := (HB.out.cell (World.block_lt_of_cell? w _ hx320_2)).trans hx320_2; replace hx320_3 := (HB.out.cell (World.block_lt_of_cell? w _ hx320_3)).trans hx320_3; replace hx320_4 := (HB.out.cell (World.block_lt_of_cell? w _ hx320_4)).trans hx320_4; replace hx320_1 := (cell_far (p := ⟨gb319, 0, none⟩) (by first | (rw [add_block]; exact hn320_0) | (show (Addr.add _ _).block ≠ _; rw [add_block]; exact hn320_0) | exact hn320_0) (.string ((rd_T33 l0 x28_1).f0))).trans hx320_1; replace hx320_1 := (cell_far (p := ⟨gb319, 1, none⟩) (by first | (rw [add_block]; exact hn320_1) | (show (Addr.add _ _).block ≠ _; rw [add_block]; exact hn320_1) | exact hn320_1) (.int .i64 ((rd_T33 l0 x28_1).f1))).trans hx320_1; replace hx320_1 := (cell_far (p := ⟨gb319, 2, none⟩) (by first | (rw [add_block]; exact hn320_2) | (show (Addr.add _ _).block ≠ _; rw [add_block]; exact hn320_2) | exact hn320_2) (.bool ((rd_T33 l0 x28_1).f2.f0))).trans hx320_1; replace hx320_1 := (cell_far (p := ⟨gb319, 3, none⟩) (by first | (rw [add_block]; exact hn320_3) | (show (Addr.add _ _).block ≠ _; rw [add_block]; exact hn320_3) | exact hn320_3) (.string ((rd_T33 l0 x28_1).f2.f1))).trans hx320_1; replace hx320_1 := (cell_far (p := ⟨gb319, 4, none⟩) (by first | (rw [add_block]; exact hn320_4) | (show (Addr.add _ _).block ≠ _; rw [add_block]; exact hn320_4) | exact hn320_4) (.string ((rd_T33 l0 x28_1).f2.f2))).trans hx320_1; (try have hy320_1 := fun (n_ : Nat) => (show (((((((w31.drewN n_).setCell ⟨gb319, 0, none⟩ (.string ((rd_T33 l0 x28_1).f0))).setCell ⟨gb319, 1, none⟩ (.int .i64 ((rd_T33 l0 x28_1).f1))).setCell ⟨gb319, 2, none⟩ (.bool ((rd_T33 l0 x28_1).f2.f0))).setCell ⟨gb319, 3, none⟩ (.string ((rd_T33 l0 x28_1).f2.f1))).setCell ⟨gb319, 4, none⟩ (.string ((rd_T33 l0 x28_1).f2.f2)))).cell? _ = some _ from hx320_1)); clear hx320_0 hx320_2 hx320_3 hx320_4; clear hn320_0; clear hn320_1; clear hn320_2; clear hn320_3; clear hn320_4; replace p320 := eq_true p320; replace q320 := eq_true q320)))
   go_roundg k1
   case measure => have := HK1.out; omega
   case rel => exact ⟨(true), (x10_1), (wrap64 (x28_1 + 1)), (by first | rfl | (simp; done) | (simp [*]; done)), (by first | rfl | (simp; done) | (simp [*]; done)), (by first | rfl | (simp; done) | (simp [*]; done)), H', ⟨by have := HK1.out; omega⟩, ⟨by (with_reducible repeat (first | refine blk_drewN ?_ _ | refine blk_drew ?_ | refine blk_alloc ?_ _)); refine blk_far ?_ NB312_319.out _; (with_reducible repeat (first | refine blk_drewN ?_ _ | refine blk_drew ?_ | refine blk_alloc ?_ _)); refine blk_far ?_ NB312_319.out _; (with_reducible repeat (first | refine blk_drewN ?_ _ | refine blk_drew ?_ | refine blk_alloc ?_ _)); refine blk_far ?_ NB312_319.out _; (with_reducible repeat (first | refine blk_drewN ?_ _ | refine blk_drew ?_ | refine blk_alloc ?_ _)); refine blk_far ?_ NB312_319.out _; (with_reducible repeat (first | refine blk_drewN ?_ _ | refine blk_drew ?_ | refine blk_alloc ?_ _)); refine blk_far ?_ NB312_319.out _; (with_reducible repeat (first | refine blk_drewN ?_ _ | refine blk_drew ?_ | refine blk_alloc ?_ _)); exact BK312.out⟩, ⟨bq HB.out⟩⟩
end Go.Proofs.YtfnfjmeiaamheaaDoor.PA
