/- Texts of this claim, made small by a program of mine (wip/tools/small.py): words that the kit's print tool writes, walks, and what they rest on. -/
import Derived.Test.YtfnfjmeiaamheaaDoorRate3
import Derived.Laws.Strings
import Derived.Maps.OwnOps
import Derived.Maps.Views
import Derived.DeepKeys4
import Derived.Carry
set_option linter.unusedVariables false
set_option linter.unusedSimpArgs false
namespace Go.Proofs.YtfnfjmeiaamheaaDoor.PA
open Go.RowKit Go.Proofs.YtfnfjmeiaamheaaDoorW.PrintWords Go.Proofs.YtfnfjmeiaamheaaDoorW.PrintLast Go.Proofs.YtfnfjmeiaamheaaDoorW.PrintMore
attribute [local go_sem] max2_int min2_int max_two min_two max_three min_three max_four min_four
def e1_limbs.l0 : Nat → ByteArray → List Int → Int → Option (List Int)
 | 0, _, _, _ => none
 | k + 1, x0, x3, x4 => if x4 < (x0.size : Int) then (if 0 ≤ (wrap64 (Int.tdiv x4 4)) then (if (wrap64 (Int.tdiv x4 4)) < (x3.length : Int) then (if 0 ≤ (wrap64 ((wrap64 ((x0.size : Int) - 1)) - x4)) then (if (wrap64 ((wrap64 ((x0.size : Int) - 1)) - x4)) < (x0.size : Int) then (if 0 ≤ (IntKind.u64.wrap (wrap64 (8 * (Int.tmod x4 4)))) then (e1_limbs.l0 k x0 (x3.set ((wrap64 (Int.tdiv x4 4)) : Int).toNat (Go.bits .or .u32 (rd x3 (wrap64 (Int.tdiv x4 4))) (shl .u32 ((bt x0 (wrap64 ((wrap64 ((x0.size : Int) - 1)) - x4))) % 4294967296) (IntKind.u64.wrap (wrap64 (8 * (Int.tmod x4 4))))))) (wrap64 (x4 + 1))) else (none)) else (none)) else (none)) else (none)) else (none)) else (some x3)
def e1_limbs.f (k : Nat) (a0 : ByteArray) : Option (List Int) := (e1_Normalize.f k a0).bind fun t479 => (if 0 ≤ (wrap64 (Int.tdiv (wrap64 ((t479.size : Int) + 3)) 4)) then (if (wrap64 (Int.tdiv (wrap64 ((t479.size : Int) + 3)) 4) : Int).toNat ≤ 70368744177664 then (e1_limbs.l0 k t479 (List.replicate (wrap64 (Int.tdiv (wrap64 ((t479.size : Int) + 3)) 4) : Int).toNat 0) 0) else (none)) else (none))
def e1_limbs.T6 : Bool × List (List Nat × List Nat) := (true, [([], []), ([], []), ([1], [1]), ([], []), ([], []), ([4], [4]), ([3, 5], [3, 5]), ([6], [6]), ([], []), ([], []), ([9], [9]), ([10], [10]), ([], []), ([11, 12], [11, 12]), ([8, 13], [8, 13]), ([14], [14]), ([], []), ([16], [16]), ([17], [17]), ([18], [18]), ([15, 19], [15, 19]), ([7, 20], [7, 20]), ([0, 2, 0, 1, 2, 3, 4, 5, 6, 7, 8, 9, 10, 11, 12, 13, 14, 15, 16, 17, 18, 19, 20, 21], [0, 2]), ([22, 21, 0, 1, 2, 3, 4, 5, 6, 7, 8, 9, 10, 11, 12, 13, 14, 15, 16, 17, 18, 19, 20, 21], [21, 22])])
def e1_limbs.B6 : List Nat := [0, 0, 2, 0, 0, 16, 56, 120, 0, 0, 512, 1536, 0, 7680, 16128, 32512, 0, 65536, 196608, 458752, 1048320, 2097144, 4194303, 8388607]
theorem e1_limbs.tab6 : rtab .any (opsOf Tryd.f53 6) = e1_limbs.T6 := by kernel_rfl
theorem e1_limbs.bits6 : waitsOk e1_limbs.T6.2 e1_limbs.B6 = true := by kernel_rfl
set_option maxHeartbeats 8000000 in
set_option maxRecDepth 100000 in
theorem e1_limbs.calls (k : Nat) (a0 : ByteArray) (r : List Int) (w : World) (h : e1_limbs.f k a0 = some r) :
  Calls Tryd.prog 53 #[.string a0] w fun e w' => ∃ v0_ : Value, e = .returned (v0_) ∧ Kd.R (Kd.int .u32) 88 w' w.heap.size (fun _ => True) v0_ r ∧ Below w.heap.size w w' := by
 have HB := Aside0.mk (Below.refl w.heap.size w)
 have H : ((e1_Normalize.f k a0).bind fun t479 => (if 0 ≤ (wrap64 (Int.tdiv (wrap64 ((t479.size : Int) + 3)) 4)) then (if (wrap64 (Int.tdiv (wrap64 ((t479.size : Int) + 3)) 4) : Int).toNat ≤ 70368744177664 then (e1_limbs.l0 k t479 (List.replicate (wrap64 (Int.tdiv (wrap64 ((t479.size : Int) + 3)) 4) : Int).toNat 0) 0) else (none)) else (none))) = some r := h
 clear h
 replace H := Option.bind_eq_some_iff.mp H
 obtain ⟨t479, A20, H⟩ := H
 try dsimp only at H
 have A2 := Aside0.mk A20
 clear A20
 obtain ⟨ji3, hji3⟩ : ∃ j_ : Int, (wrap64 (Int.tdiv (wrap64 ((t479.size : Int) + 3)) 4)) = j_ := ⟨_, rfl⟩
 replace H : (if 0 ≤ (ji3) then (if (ji3 : Int).toNat ≤ 70368744177664 then (e1_limbs.l0 k t479 (List.replicate (ji3 : Int).toNat 0) 0) else (none)) else (none)) = some r := by first | (rw [hji3] at H; exact H) | (simp only [hji3] at H ⊢; exact H)
 (try rw [hji3] at A2)
 have hji3w : (IntKind.i64.wrap (Int.tdiv (wrap64 ((t479.size : Int) + 3)) 4)) = ji3 := (i64_w _).trans hji3
 by_cases c4 : 0 ≤ (ji3)
 rotate_left
 ·rw [if_neg c4] at H
  exact absurd H (by simp)
 rw [if_pos c4] at H
 have c4b0 := eq_true c4
 have c4b1 := decide_eq_true c4
 clear c4
 by_cases c5 : (ji3 : Int).toNat ≤ 70368744177664
 rotate_left
 ·rw [if_neg c5] at H
  exact absurd H (by simp)
 rw [if_pos c5] at H
 have c5b0 := eq_true c5
 have c5b1 := decide_eq_true c5
 clear c5
 obtain ⟨y480, hy480⟩ : ∃ y_ : List Int, y_ = (List.replicate (ji3 : Int).toNat 0) := ⟨_, rfl⟩
 replace H : (e1_limbs.l0 k t479 y480 0) = some r := by first | (rw [hy480]; with_reducible exact H) | (have H2_ := (Option.bind_some _ _).symm.trans H; rw [hy480]; with_reducible exact H2_) | (have H2_ := (Option.bind_some _ _).symm.trans H; with_reducible exact H2_) | with_reducible exact H | (rw [hy480]; exact H) | exact H
 have Ny480 := Aside0.mk hy480
 clear hy480
 have H' := Aside0.mk H
 clear H
 go_enter Tryd.func53, Tryd.ntmps53
 go_wp2_with (first | ((with_reducible refine gate_callee (f := 69) rfl ?_); refine goesq (some 6) Tryd.func69 #[.string a0] ?_; (with_reducible refine (e1_Normalize.calls k a0 t479 _ A2.out).mono ?_); rintro e w' ⟨rfl, ⟨nd, rfl⟩⟩; refine ⟨_, rfl, ?_⟩) | ((with_reducible refine gate_dst (N := 11) rfl ?_); refine Kd.R_make (Kd.int .u32) _ 88 rfl (N := 11) rfl 77 _ _ rfl ji3 rfl rfl Tryd.underlying77 (.int .u32 0) 4 info88 rfl (by decide) (by omega) 0 (ok := fun _ => True) (okp := fun _ => True) rfl (fun _ hk => hk) trivial odt (Nat.le_trans (Nat.mul_le_mul_right _ (of_decide_eq_true (by first | (with_reducible assumption) | assumption) : ji3.toNat ≤ 70368744177664)) (by omega)) (Below.refl _ _) (Nat.le_refl _) ?_; intro v481 w6 ho7 hb hg_ hnew_; clear hg_ hnew_; (first | rw [← Ny480.out] at ho7 | (simp only [Int.reduceToNat] at ho7; rw [← Ny480.out] at ho7)); have HO482 := am (Kd.R_lower ho7 (below_size (bq HB.out))); replace HB := am (below_step (bq HB.out) hb); clear hb ho7))
 go_loopg [4] k (fun kq v4 w' => ∃ (x3_1 : List Int) (x4_1 : Int), v4 = .int .i64 x4_1 ∧ Aside0 (e1_limbs.l0 kq t479 x3_1 x4_1 = some r) ∧ Aside0 (kq ≤ k) ∧ Aside0 (Kd.R (Kd.int .u32) 88 w' w.heap.size (fun _ => True) v481 x3_1) ∧ Aside0 (Below w.heap.size w w'))
 case atStart => exact ⟨(y480), (0), (by first | rfl | (simp; done) | (simp [*]; done)), H', ⟨Nat.le_refl _⟩, ⟨Kd.rq HO482.out⟩, ⟨bq HB.out⟩⟩
 case round =>
  clear H'
  try clear p2
  try clear c4
  try clear c4b0
  try clear c4b1
  try clear c5
  try clear c5b0
  try clear c5b1
  try clear c6
  try clear p6
  obtain ⟨x3_1, x4_1, rfl, HA, HK1, HO_3, HB⟩ := hrel
  cases gk with
  | zero => exact absurd HA.out (by simp [e1_limbs.l0])
  | succ k1 =>
   have H := HA.out
   clear HA
   simp only [e1_limbs.l0] at H
   by_cases c8 : x4_1 < (t479.size : Int)
   rotate_left
   ·rw [if_neg c8] at H
    have c8b0 := decide_eq_false c8
    clear c8
    obtain rfl := Option.some.inj H
    go_wp2
    go_ret
    exact ⟨_, by first | rfl | (simp [errW_none, errW_some] <;> rfl) | (simp only [← hji3]; first | rfl | (simp [errW_none, errW_some] <;> rfl)) | (simp [*, errW_none, errW_some] <;> rfl), by (with_reducible repeat (first | apply Kd.R_alloc | apply Kd.R_drewN | apply Kd.R_drew)); exact HO_3.out, bq HB.out⟩
   rw [if_pos c8] at H
   have c8b0 := decide_eq_true c8
   clear c8
   obtain ⟨ji9, hji9⟩ : ∃ j_ : Int, (wrap64 (Int.tdiv x4_1 4)) = j_ := ⟨_, rfl⟩
   replace H : (if 0 ≤ (ji9) then (if (ji9) < (x3_1.length : Int) then (if 0 ≤ (wrap64 ((wrap64 ((t479.size : Int) - 1)) - x4_1)) then (if (wrap64 ((wrap64 ((t479.size : Int) - 1)) - x4_1)) < (t479.size : Int) then (if 0 ≤ (IntKind.u64.wrap (wrap64 (8 * (Int.tmod x4_1 4)))) then (e1_limbs.l0 k1 t479 (x3_1.set ((ji9) : Int).toNat (Go.bits .or .u32 (rd x3_1 (ji9)) (shl .u32 ((bt t479 (wrap64 ((wrap64 ((t479.size : Int) - 1)) - x4_1))) % 4294967296) (IntKind.u64.wrap (wrap64 (8 * (Int.tmod x4_1 4))))))) (wrap64 (x4_1 + 1))) else (none)) else (none)) else (none)) else (none)) else (none)) = some r := by first | (rw [hji9] at H; exact H) | (simp only [hji9] at H ⊢; exact H)
   have hji9w : (IntKind.i64.wrap (Int.tdiv x4_1 4)) = ji9 := (i64_w _).trans hji9
   by_cases c10 : 0 ≤ (ji9)
   rotate_left
   ·rw [if_neg c10] at H
    exact absurd H (by simp)
   rw [if_pos c10] at H
   have c10b0 := decide_eq_true c10
   clear c10
   by_cases c11 : (ji9) < (x3_1.length : Int)
   rotate_left
   ·rw [if_neg c11] at H
    exact absurd H (by simp)
   rw [if_pos c11] at H
   have c11b0 := decide_eq_true c11
   clear c11
   obtain ⟨ji12, hji12⟩ : ∃ j_ : Int, (wrap64 ((wrap64 ((t479.size : Int) - 1)) - x4_1)) = j_ := ⟨_, rfl⟩
   replace H : (if 0 ≤ (ji12) then (if (ji12) < (t479.size : Int) then (if 0 ≤ (IntKind.u64.wrap (wrap64 (8 * (Int.tmod x4_1 4)))) then (e1_limbs.l0 k1 t479 (x3_1.set ((ji9) : Int).toNat (Go.bits .or .u32 (rd x3_1 (ji9)) (shl .u32 ((bt t479 (ji12)) % 4294967296) (IntKind.u64.wrap (wrap64 (8 * (Int.tmod x4_1 4))))))) (wrap64 (x4_1 + 1))) else (none)) else (none)) else (none)) = some r := by first | (rw [hji12] at H; exact H) | (simp only [hji12] at H ⊢; exact H)
   have hji12w : (IntKind.i64.wrap ((wrap64 ((t479.size : Int) - 1)) - x4_1)) = ji12 := (i64_w _).trans hji12
   by_cases c13 : 0 ≤ (ji12)
   rotate_left
   ·rw [if_neg c13] at H
    exact absurd H (by simp)
   rw [if_pos c13] at H
   have c13b0 := decide_eq_true c13
   clear c13
   by_cases c14 : (ji12) < (t479.size : Int)
   rotate_left
   ·rw [if_neg c14] at H
    exact absurd H (by simp)
   rw [if_pos c14] at H
   have c14b0 := decide_eq_true c14
   clear c14
   obtain ⟨ji16, hji16⟩ : ∃ j_ : Int, (IntKind.u64.wrap (wrap64 (8 * (Int.tmod x4_1 4)))) = j_ := ⟨_, rfl⟩
   replace H : (if 0 ≤ (ji16) then (e1_limbs.l0 k1 t479 (x3_1.set ((ji9) : Int).toNat (Go.bits .or .u32 (rd x3_1 (ji9)) (shl .u32 ((bt t479 (ji12)) % 4294967296) (ji16)))) (wrap64 (x4_1 + 1))) else (none)) = some r := by first | (rw [hji16] at H; exact H) | (simp only [hji16] at H ⊢; exact H)
   by_cases c17 : 0 ≤ (ji16)
   rotate_left
   ·rw [if_neg c17] at H
    exact absurd H (by simp)
   rw [if_pos c17] at H
   have c17b0 := eq_true c17
   have c17b1 := decide_eq_true c17
   clear c17
   obtain ⟨ji18, hji18⟩ : ∃ j_ : Int, (shl .u32 ((bt t479 (ji12)) % 4294967296) (ji16)) = j_ := ⟨_, rfl⟩
   replace H : (e1_limbs.l0 k1 t479 (x3_1.set ((ji9) : Int).toNat (Go.bits .or .u32 (rd x3_1 (ji9)) (ji18))) (wrap64 (x4_1 + 1))) = some r := by first | (rw [hji18] at H; exact H) | (simp only [hji18] at H ⊢; exact H)
   have hji18_ : (IntKind.u32.wrap (((bt t479 (ji12)) % 4294967296) * 2 ^ min (ji16).toNat 32)) = ji18 := hji18
   have hji18m : (((bt t479 (ji12)) % 4294967296) * 2 ^ min (ji16).toNat 32) % 4294967296 = ji18 := hji18_
   have hji18z : (ji16) ≤ 32 → (IntKind.u32.wrap (((bt t479 (ji12)) % 4294967296) * 2 ^ (ji16).toNat)) = ji18 := shl_small hji18
   obtain ⟨y484, hy484⟩ : ∃ y_ : List Int, y_ = (x3_1.set ((ji9) : Int).toNat (Go.bits .or .u32 (rd x3_1 (ji9)) (ji18))) := ⟨_, rfl⟩
   replace H : (e1_limbs.l0 k1 t479 y484 (wrap64 (x4_1 + 1))) = some r := by first | (rw [hy484]; with_reducible exact H) | (have H2_ := (Option.bind_some _ _).symm.trans H; rw [hy484]; with_reducible exact H2_) | (have H2_ := (Option.bind_some _ _).symm.trans H; with_reducible exact H2_) | with_reducible exact H | (rw [hy484]; exact H) | exact H
   have Ny484 := Aside0.mk hy484
   clear hy484
   have H' := Aside0.mk H
   clear H
   try go_wp2
   have n0_ := Aside0.mk (Kd.R_drew HO_3.out)
   have n1_ := Aside0.mk (below_drew1 HB.out)
   clear HO_3
   clear HB
   have HO_3 := n0_
   have HB := n1_
   clear n0_ n1_
   obtain ⟨Ao21, co21, eo21⟩ := Kd.R_slice HO_3.out
   (first | subst eo21 | (injection eo21 with f1_ f2_ f3_; have f4_ := f1_.symm; have f5_ := f3_.symm; clear f1_ f2_ f3_; subst f4_; subst f5_))
   have p483 : 0 ≤ ((ji9) : Int) := odt
   have q483 : (ji9) < (x3_1.length : Int) := odt
   obtain ⟨ad483, e483, hx483_0⟩ := Kd.at_int (Kd.R_reads' HO_3.out).2.2 (ji9) p483 q483
   cases e483
   replace p483 := eq_true p483
   replace q483 := eq_true q483
   have p15 : 0 ≤ ((ji12) : Int) := odt
   have q15 : (ji12) < (t479.size : Int) := odt
   have hx15 := bt_at t479 (ji12)
   replace p15 := eq_true p15
   replace q15 := eq_true q15
   have p19 : 0 ≤ ((ji9) : Int) := odt
   have q19 : ((ji9) : Int) < ((x3_1.length : Int) : Int) := odt
   obtain ⟨go19, co19, eo19, gb19, gl19, cl19, HG19⟩ := Kd.R_form HO_3.out (by omega)
   (first | cases eo19 | (injection eo19 with ea_ en_ ec_; (first | subst ea_ | (injection ea_ with ea_; subst ea_)); subst ec_; clear en_))
   have GB19 := Aside0.mk gb19
   have GG19 := Aside0.mk HG19
   clear gb19 gl19 HG19
   (first | simp only [add_plain] at hx483_0 | skip)
   obtain ⟨hx19_0, hf19_0⟩ := Kd.R_celln 0 HO_3.out ((ji9) : Int) p19 q19
   replace p19 := eq_true p19
   replace q19 := eq_true q19
   have HP22 := Kd.R_putn HO_3.out ((ji9) : Int) (Go.bits .or .u32 (rd x3_1 (ji9)) (ji18))
   rw [← Ny484.out] at HP22
   have HQ22 := Aside0.mk HP22
   clear HP22
   refine start_ (n := 24) (S := fun w' => w'.cell? ⟨go19, ((ji9)).toNat, none⟩ = some (.int .u32 (rd x3_1 (ji9)))) (ds := [23]) #[false, false, false, false, false, false, false, false, false, false, false, false, false, false, false, false, false, false, false, false, false, false, false, false] (by kernel_rfl) rfl rfl (hx483_0) (fun hHeld => ?_); refine with_tabW e1_limbs.tab6 e1_limbs.bits6 (fun HT_ HW_ => ?_)
   generalize wr.drew = w20 at HO_3 HB GG19 HQ22 hf19_0 hx19_0 hx483_0 hHeld ⊢
   refine pure_ (i := 0) (N := some 18) (v := ?_) (a' := ?_) #[true, false, false, false, false, false, false, false, false, false, false, false, false, false, false, false, false, false, false, false, false, false, false, false] rfl rfl (any_of HT_.out (by kernel_rfl)) (fun _ _ _ h => h) (Or.inl ⟨by rfl, ?_⟩) ?_ ?_
   rotate_left
   ·intro w'
    go_simp
    with_reducible rfl
   rotate_left
   ·simp only [Act.put, List.setIfInBounds_toArray, List.set_cons_zero, List.set_cons_succ, i64_w, i32_w]
    rfl
   refine pure_ (i := 1) (N := some 19) (v := ?_) (a' := ?_) #[true, true, false, false, false, false, false, false, false, false, false, false, false, false, false, false, false, false, false, false, false, false, false, false] rfl rfl (any_of HT_.out (by kernel_rfl)) (fun _ _ _ h => h) (Or.inl ⟨by rfl, ?_⟩) ?_ ?_
   rotate_left
   ·intro w'
    go_simp
    with_reducible rfl
   rotate_left
   ·simp only [Act.put, List.setIfInBounds_toArray, List.set_cons_zero, List.set_cons_succ, i64_w, i32_w]
    rfl
   refine pure_ (i := 2) (N := some 20) (v := ?_) (a' := ?_) #[true, true, true, false, false, false, false, false, false, false, false, false, false, false, false, false, false, false, false, false, false, false, false, false] rfl rfl (any_of HT_.out (by kernel_rfl)) (fun _ _ _ h => h) (Or.inl ⟨by rfl, ?_⟩) ?_ ?_
   rotate_left
   ·intro w'
    go_simp
    with_reducible rfl
   rotate_left
   ·simp only [Act.put, List.setIfInBounds_toArray, List.set_cons_zero, List.set_cons_succ, i64_w, i32_w]
    rfl
   refine pure_ (i := 3) (N := some 21) (v := ?_) (a' := ?_) #[true, true, true, true, false, false, false, false, false, false, false, false, false, false, false, false, false, false, false, false, false, false, false, false] rfl rfl (any_of HT_.out (by kernel_rfl)) (fun _ _ _ h => h) (Or.inl ⟨by rfl, ?_⟩) ?_ ?_
   rotate_left
   ·intro w'
    go_simp
    with_reducible rfl
   rotate_left
   ·simp only [Act.put, List.setIfInBounds_toArray, List.set_cons_zero, List.set_cons_succ, i64_w, i32_w]
    rfl
   refine pure_ (i := 4) (N := some 22) (v := ?_) (a' := ?_) #[true, true, true, true, true, false, false, false, false, false, false, false, false, false, false, false, false, false, false, false, false, false, false, false] rfl rfl (any_of HT_.out (by kernel_rfl)) (fun _ _ _ h => h) (Or.inl ⟨by rfl, ?_⟩) ?_ ?_
   rotate_left
   ·intro w'
    go_simp
    with_reducible rfl
   rotate_left
   ·simp only [Act.put, List.setIfInBounds_toArray, List.set_cons_zero, List.set_cons_succ, i64_w, i32_w]
    rfl
   refine pure_ (i := 5) (N := some 23) (v := ?_) (a' := ?_) #[true, true, true, true, true, true, false, false, false, false, false, false, false, false, false, false, false, false, false, false, false, false, false, false] rfl rfl (any_of HT_.out (by kernel_rfl)) (fun _ _ _ h => h) (Or.inl ⟨by rfl, ?_⟩) ?_ ?_
   rotate_left
   ·intro w'
    go_simp
    with_reducible rfl
   rotate_left
   ·simp only [Act.put, List.setIfInBounds_toArray, List.set_cons_zero, List.set_cons_succ, i64_w, i32_w]
    rfl
   refine pure_ (i := 6) (N := some 24) (v := ?_) (a' := ?_) #[true, true, true, true, true, true, true, false, false, false, false, false, false, false, false, false, false, false, false, false, false, false, false, false] rfl rfl (any_of HT_.out (by kernel_rfl)) (fun _ _ _ h => h) (Or.inl ⟨by rfl, ?_⟩) ?_ ?_
   rotate_left
   ·intro w'
    go_simp
    with_reducible rfl
   rotate_left
   ·simp only [Act.put, List.setIfInBounds_toArray, List.set_cons_zero, List.set_cons_succ, i64_w, i32_w]
    rfl
   refine pure_ (i := 8) (N := some 26) (v := ?_) (a' := ?_) #[true, true, true, true, true, true, true, false, true, false, false, false, false, false, false, false, false, false, false, false, false, false, false, false] rfl rfl (any_of HT_.out (by kernel_rfl)) (fun _ _ _ h => h) (Or.inl ⟨by rfl, ?_⟩) ?_ ?_
   rotate_left
   ·intro w'
    go_simp
    with_reducible rfl
   rotate_left
   ·simp only [Act.put, List.setIfInBounds_toArray, List.set_cons_zero, List.set_cons_succ, i64_w, i32_w]
    rfl
   refine pure_ (i := 9) (N := some 27) (v := ?_) (a' := ?_) #[true, true, true, true, true, true, true, false, true, true, false, false, false, false, false, false, false, false, false, false, false, false, false, false] rfl rfl (any_of HT_.out (by kernel_rfl)) (fun _ _ _ h => h) (Or.inl ⟨by rfl, ?_⟩) ?_ ?_
   rotate_left
   ·intro w'
    go_simp
    with_reducible rfl
   rotate_left
   ·simp only [Act.put, List.setIfInBounds_toArray, List.set_cons_zero, List.set_cons_succ, i64_w, i32_w]
    rfl
   refine pure_ (i := 10) (N := some 28) (v := ?_) (a' := ?_) #[true, true, true, true, true, true, true, false, true, true, true, false, false, false, false, false, false, false, false, false, false, false, false, false] rfl rfl (any_of HT_.out (by kernel_rfl)) (fun _ _ _ h => h) (Or.inl ⟨by rfl, ?_⟩) ?_ ?_
   rotate_left
   ·intro w'
    go_simp
    with_reducible rfl
   rotate_left
   ·simp only [Act.put, List.setIfInBounds_toArray, List.set_cons_zero, List.set_cons_succ, i64_w, i32_w]
    rfl
   refine pure_ (i := 11) (N := some 29) (v := ?_) (a' := ?_) #[true, true, true, true, true, true, true, false, true, true, true, true, false, false, false, false, false, false, false, false, false, false, false, false] rfl rfl (any_of HT_.out (by kernel_rfl)) (fun _ _ _ h => h) (Or.inl ⟨by rfl, ?_⟩) ?_ ?_
   rotate_left
   ·intro w'
    go_simp
    with_reducible rfl
   rotate_left
   ·simp only [Act.put, List.setIfInBounds_toArray, List.set_cons_zero, List.set_cons_succ, i64_w, i32_w]
    rfl
   refine pure_ (i := 12) (N := some 30) (v := ?_) (a' := ?_) #[true, true, true, true, true, true, true, false, true, true, true, true, true, false, false, false, false, false, false, false, false, false, false, false] rfl rfl (any_of HT_.out (by kernel_rfl)) (fun _ _ _ h => h) (Or.inl ⟨by rfl, ?_⟩) ?_ ?_
   rotate_left
   ·intro w'
    go_simp
    with_reducible rfl
   rotate_left
   ·simp only [Act.put, List.setIfInBounds_toArray, List.set_cons_zero, List.set_cons_succ, i64_w, i32_w]
    rfl
   refine pure_ (i := 13) (N := some 31) (v := ?_) (a' := ?_) #[true, true, true, true, true, true, true, false, true, true, true, true, true, true, false, false, false, false, false, false, false, false, false, false] rfl rfl (any_of HT_.out (by kernel_rfl)) (fun _ _ _ h => h) (Or.inl ⟨by rfl, ?_⟩) ?_ ?_
   rotate_left
   ·intro w'
    go_simp
    with_reducible rfl
   rotate_left
   ·simp only [Act.put, List.setIfInBounds_toArray, List.set_cons_zero, List.set_cons_succ, i64_w, i32_w]
    rfl
   refine pure_ (i := 16) (N := some 34) (v := ?_) (a' := ?_) #[true, true, true, true, true, true, true, false, true, true, true, true, true, true, false, false, true, false, false, false, false, false, false, false] rfl rfl (any_of HT_.out (by kernel_rfl)) (fun _ _ _ h => h) (Or.inl ⟨by rfl, ?_⟩) ?_ ?_
   rotate_left
   ·intro w'
    go_simp
    with_reducible rfl
   rotate_left
   ·simp only [Act.put, List.setIfInBounds_toArray, List.set_cons_zero, List.set_cons_succ, i64_w, i32_w]
    rfl
   refine pure_ (i := 17) (N := some 35) (v := ?_) (a' := ?_) #[true, true, true, true, true, true, true, false, true, true, true, true, true, true, false, false, true, true, false, false, false, false, false, false] rfl rfl (any_of HT_.out (by kernel_rfl)) (fun _ _ _ h => h) (Or.inl ⟨by rfl, ?_⟩) ?_ ?_
   rotate_left
   ·intro w'
    go_simp
    with_reducible rfl
   rotate_left
   ·simp only [Act.put, List.setIfInBounds_toArray, List.set_cons_zero, List.set_cons_succ, i64_w, i32_w]
    rfl
   refine pure_ (i := 18) (N := some 36) (v := ?_) (a' := ?_) #[true, true, true, true, true, true, true, false, true, true, true, true, true, true, false, false, true, true, true, false, false, false, false, false] rfl rfl (any_of HT_.out (by kernel_rfl)) (fun _ _ _ h => h) (Or.inl ⟨by rfl, ?_⟩) ?_ ?_
   rotate_left
   ·intro w'
    go_simp
    with_reducible rfl
   rotate_left
   ·simp only [Act.put, List.setIfInBounds_toArray, List.set_cons_zero, List.set_cons_succ, i64_w, i32_w]
    rfl
   refine pure_ (i := 19) (N := some 37) (v := ?_) (a' := ?_) #[true, true, true, true, true, true, true, false, true, true, true, true, true, true, false, false, true, true, true, true, false, false, false, false] rfl rfl (any_of HT_.out (by kernel_rfl)) (fun _ _ _ h => h) (Or.inl ⟨by rfl, ?_⟩) ?_ ?_
   rotate_left
   ·intro w'
    go_simp
    with_reducible rfl
   rotate_left
   ·simp only [Act.put, List.setIfInBounds_toArray, List.set_cons_zero, List.set_cons_succ, i64_w, i32_w]
    rfl
   refine take_ (i := 7) (N := some 25) (v := ?_) (a' := ?_) #[true, true, true, true, true, true, true, true, true, true, true, true, true, true, false, false, true, true, true, true, false, false, false, false] rfl rfl (take_ofW HT_.out HW_.out (by kernel_rfl)) (fun _ _ _ h => h) (Or.inl ⟨by rfl, ?_⟩) hHeld ?_ ?_
   rotate_left
   ·intro w' s0
    go_simp
    with_reducible rfl
   rotate_left
   ·simp only [Act.put, List.setIfInBounds_toArray, List.set_cons_zero, List.set_cons_succ, i64_w, i32_w]
    rfl
   refine take_ (i := 14) (N := some 32) (v := ?_) (a' := ?_) #[true, true, true, true, true, true, true, true, true, true, true, true, true, true, true, false, true, true, true, true, false, false, false, false] rfl rfl (take_ofW HT_.out HW_.out (by kernel_rfl)) (fun _ _ _ h => h) (Or.inl ⟨by rfl, ?_⟩) hHeld ?_ ?_
   rotate_left
   ·intro w' s0
    go_simp
    with_reducible rfl
   rotate_left
   ·simp only [Act.put, List.setIfInBounds_toArray, List.set_cons_zero, List.set_cons_succ, i64_w, i32_w]
    rfl
   refine pure_ (i := 15) (N := some 33) (v := ?_) (a' := ?_) #[true, true, true, true, true, true, true, true, true, true, true, true, true, true, true, true, true, true, true, true, false, false, false, false] rfl rfl (any_of HT_.out (by kernel_rfl)) (fun _ _ _ h => h) (Or.inl ⟨by rfl, ?_⟩) ?_ ?_
   rotate_left
   ·intro w'
    go_simp
    with_reducible rfl
   rotate_left
   ·simp only [Act.put, List.setIfInBounds_toArray, List.set_cons_zero, List.set_cons_succ, i64_w, i32_w]
    rfl
   refine pure_ (i := 20) (N := some 38) (v := ?_) (a' := ?_) #[true, true, true, true, true, true, true, true, true, true, true, true, true, true, true, true, true, true, true, true, true, false, false, false] rfl rfl (any_of HT_.out (by kernel_rfl)) (fun _ _ _ h => h) (Or.inl ⟨by rfl, ?_⟩) ?_ ?_
   rotate_left
   ·intro w'
    go_simp
    with_reducible rfl
   rotate_left
   ·simp only [Act.put, List.setIfInBounds_toArray, List.set_cons_zero, List.set_cons_succ, i64_w, i32_w]
    rfl
   refine pure_ (i := 21) (N := some 39) (v := ?_) (a' := ?_) #[true, true, true, true, true, true, true, true, true, true, true, true, true, true, true, true, true, true, true, true, true, true, false, false] rfl rfl (any_of HT_.out (by kernel_rfl)) (fun _ _ _ h => h) (Or.inl ⟨by rfl, ?_⟩) ?_ ?_
   rotate_left
   ·intro w'
    go_simp
    with_reducible rfl
   rotate_left
   ·simp only [Act.put, List.setIfInBounds_toArray, List.set_cons_zero, List.set_cons_succ, i64_w, i32_w]
    rfl
   refine pure_ (i := 22) (N := some 40) (v := ?_) (a' := ?_) #[true, true, true, true, true, true, true, true, true, true, true, true, true, true, true, true, true, true, true, true, true, true, true, false] rfl rfl (any_of HT_.out (by kernel_rfl)) (fun _ _ _ h => h) (Or.inl ⟨by rfl, ?_⟩) ?_ ?_
   rotate_left
   ·intro w'
    go_simp
    with_reducible rfl
   rotate_left
   ·simp only [Act.put, List.setIfInBounds_toArray, List.set_cons_zero, List.set_cons_succ, i64_w, i32_w]
    rfl
   refine last_ (i := 23) (N := none) #[true, true, true, true, true, true, true, true, true, true, true, true, true, true, true, true, true, true, true, true, true, true, true, true] rfl rfl (one_of HT_.out (by kernel_rfl)) (by decide) (fun K hK => ?_)
   refine skip_ (w1 := ?_) (by rfl) rfl ?_ ?_
   rotate_left
   ·go_simp
    rfl
   refine hK.out _ _ ?_
   clear hK K
   refine done_ (done_of HT_.out (by kernel_rfl)) ?_
   try go_wp2
   go_roundg k1
   case measure => have := HK1.out; omega
   case rel => exact ⟨(y484), (wrap64 (x4_1 + 1)), (by first | rfl | (simp; done) | (simp [*]; done)), H', ⟨by have := HK1.out; omega⟩, ⟨by (with_reducible repeat (first | apply Kd.R_alloc | apply Kd.R_drewN | apply Kd.R_drew)); first | exact HQ22.out | (simp only [hji18m]; exact HQ22.out)⟩, ⟨by repeat (first | (with_reducible first | exact HB.out | apply below_alloc | apply pw_below_drewN | apply below_drew1 | refine below_set ?_ GB19.out) | exact HB.out)⟩⟩
theorem Kd.R_make0 {P : Program} {ops : Array Oper} {rest : List Oper} {o : Oper} {a : Act} {Q : Exit → Act → World → Prop} {α : Type} (d : Kd α) {w0 W : World} (base e : Nat) (hgd : o.guard = none) {N : Tmp} (hd : o.dst = some N) (t : TypeId) (x y : Operand) (ho : o.op = .makeSlice t x y) (n : Nat) (hx : a.eval x = .int .i64 0) (hy : a.eval y = .int .i64 (n : Int))
  (ht : P.underlying t = some (.slice e)) (z : Value) (bytes : Nat) (hinfo : (P.info? e).map (fun i => (i.zero, i.size, i.bytes)) = some (some z, d.sz, bytes)) (hb0 : 0 < bytes)
  (z0 : α) {ok : Nat → Prop} (hfresh : ok W.heap.size) (hl : bytes * n ≤ 281474976710656) (HB : Below base w0 W) (hbase : base ≤ W.heap.size)
  (h : ∀ v1 w1, d.R e w1 base ok v1 (List.replicate 0 z0) → Below base w0 w1 → W.grownBy w1 none → (∃ b, v1.ownBlock = some b ∧ W.heap.size ≤ b) → wpList P ops Q rest (a.put o.dst v1) w1) : wpList P ops Q (o :: rest) a W := by
 obtain ⟨i0, hi, hzz⟩ := Option.map_eq_some_iff.1 hinfo
 simp only [Prod.mk.injEq] at hzz
 obtain ⟨hz0, hz1, hz2⟩ := hzz
 have hn : n ≤ bytes * n := Nat.le_mul_of_pos_left n hb0
 refine wpList_make_own W hgd x y t ho base e i0 z d.sz ht hi hz0 hz1 .i64 .i64 (n : Int) n hx hy rfl (by rw [hz2]; exact hl) (by simp [maxLen]; omega) hbase ?_
 intro w' hown hg
 refine h _ _ ⟨fun k hk => ?_, [], hown, ?_⟩ (HB.grown hg hbase (fun k hk => by cases hk)) hg ⟨W.heap.size, by simp [Value.ownBlock], Nat.le_refl _⟩
 ·have : W.heap.size = k := by simpa [Value.ownBlock] using hk
  subst this
  exact hfresh
 exact ⟨by simp, fun j p hj => by simp at hj⟩
def e1_text.l0 : Nat → List Int → List Int → Int → Option (ByteArray)
 | 0, _, _, _ => none
 | k + 1, x0, x3, x4 => if x4 ≥ 0 then (if 0 ≤ x4 then (if x4 < (x0.length : Int) then ((some (([((rd x0 x4) / 16777216) % 256, ((rd x0 x4) / 65536) % 256, ((rd x0 x4) / 256) % 256, (rd x0 x4) % 256] : List Int) : List Int)).bind fun y428 => (if x3.length + y428.length < 140737488355328 then (e1_text.l0 k x0 (x3 ++ y428) (wrap64 (x4 - 1))) else (none))) else (none)) else (none)) else ((e1_Normalize.f k (strOfNums x3)).bind fun t434 => (some t434))
def e1_text.f (k : Nat) (l0 : List Int) : Option (ByteArray) := (e1_strip.f k l0).bind fun t421 => (if 4 * (t421.length : Int) ≤ 281474976710656 then (e1_text.l0 k t421 (List.replicate 0 0) (wrap64 ((t421.length : Int) - 1))) else (none))
set_option maxHeartbeats 8000000 in
set_option maxRecDepth 100000 in
theorem e1_text.calls (k : Nat) (A0 : Option Addr) (c0 : Nat) (l0 : List Int) (r : ByteArray) (w : World) (hr0 : Kd.C (Kd.int .u32) w A0 l0.length l0) (hc0 : l0.length ≤ c0) (h : e1_text.f k l0 = some r) :
  Calls Tryd.prog 67 #[.slice A0 l0.length c0] w fun e w' => e = .returned (.string r) ∧ Below w.heap.size w w' := by
 have HR0 := Aside0.mk hr0
 have HC0 := Aside0.mk hc0
 clear hr0 hc0
 have HB := Aside0.mk (Below.refl w.heap.size w)
 have H : ((e1_strip.f k l0).bind fun t421 => (if 4 * (t421.length : Int) ≤ 281474976710656 then (e1_text.l0 k t421 (List.replicate 0 0) (wrap64 ((t421.length : Int) - 1))) else (none))) = some r := h
 clear h
 replace H := Option.bind_eq_some_iff.mp H
 obtain ⟨t421, A20, H⟩ := H
 try dsimp only at H
 have A2 := Aside0.mk A20
 clear A20
 by_cases c3 : 4 * (t421.length : Int) ≤ 281474976710656
 rotate_left
 ·rw [if_neg c3] at H
  exact absurd H (by simp)
 rw [if_pos c3] at H
 have hmk1_ := Aside0.mk (show 1 * (4 * t421.length) ≤ 281474976710656 by omega)
 have hmk4_ := Aside0.mk (show wrap64 (4 * (t421.length : Int)) = ((4 * t421.length : Nat) : Int) by unfold wrap64; omega)
 clear c3
 obtain ⟨y424, hy424⟩ : ∃ y_ : List Int, y_ = (List.replicate 0 0) := ⟨_, rfl⟩
 replace H : (e1_text.l0 k t421 y424 (wrap64 ((t421.length : Int) - 1))) = some r := by first | (rw [hy424]; with_reducible exact H) | (have H2_ := (Option.bind_some _ _).symm.trans H; rw [hy424]; with_reducible exact H2_) | (have H2_ := (Option.bind_some _ _).symm.trans H; with_reducible exact H2_) | with_reducible exact H | (rw [hy424]; exact H) | exact H
 have Ny424 := Aside0.mk hy424
 clear hy424
 have H' := Aside0.mk H
 clear H
 go_enter Tryd.func67, Tryd.ntmps67
 go_wp2_with (first | ((with_reducible refine gate_callee (f := 68) rfl ?_); refine goesq (some 7) Tryd.func68 #[.slice A0 l0.length c0] ?_; (with_reducible refine (e1_strip.calls k (fun k_ => k_ < w.heap.size) _ _ l0 t421 _ ?side1 A2.out).mono ?_); (case side1 => exact Kd.V_mk HC0.out (Kd.F_below (Kd.C_F (Kd.heap_int .u32) HR0.out) (bq HB.out))); rintro e w4 ⟨v422, rfl, ho0, hb⟩; refine ⟨_, rfl, ?_⟩; have HO423 := am (Kd.V_lower (Kd.V_mono (ok' := fun k_ => True) ho0 (fun k_ hk_ => trivial)) (below_size (bq HB.out))); replace HB := am (below_step (bq HB.out) hb); (try clear hb); (try clear ho0); obtain ⟨Ao5, co5, eo5⟩ := Kd.V_slice HO423.out; subst eo5) | ((with_reducible refine gate_dst (N := 11) rfl ?_); refine Kd.R_make0 (Kd.int .u8) _ 5 rfl (N := 11) rfl 109 _ _ rfl (4 * t421.length) rfl (by first | exact congrArg (Value.int .i64) hmk4_.out | (rw [← hmk4_.out]; simp [i64_w]; done) | (rw [← hmk4_.out]; rfl)) Tryd.underlying109 (.int .u8 0) 1 info5 (by decide) 0 (ok := fun _ => True) trivial hmk1_.out (Below.refl _ _) (Nat.le_refl _) ?_; intro v425 w6 ho7 hb hg_ hnew_; clear hg_ hnew_; (first | rw [← Ny424.out] at ho7 | (simp only [Int.reduceToNat] at ho7; rw [← Ny424.out] at ho7)); replace HO423 := am (Kd.V_elder' (Kd.vq HO423.out) (Kd.R_base ho7) hb); have HO426 := am (Kd.R_lower ho7 (below_size (bq HB.out))); replace HB := am (below_step (bq HB.out) hb); clear hb ho7))
 go_loopg [3, 4] k (fun kq v3 v4 w' => ∃ (x3_1 : List Int) (x4_1 : Int), v4 = .int .i64 x4_1 ∧ Aside0 (e1_text.l0 kq t421 x3_1 x4_1 = some r) ∧ Aside0 (kq ≤ k) ∧ Aside0 (Kd.V (Kd.int .u32) 88 w' w.heap.size (fun k_ => some k_ ≠ (v3 : Value).ownBlock) (.slice Ao5 t421.length co5) t421) ∧ Aside0 (Kd.R (Kd.int .u8) 5 w' w.heap.size (fun _ => True) v3 x3_1) ∧ Aside0 (Below w.heap.size w w'))
 case atStart => exact ⟨(y424), (wrap64 ((t421.length : Int) - 1)), (by first | rfl | (simp; done) | (simp [*]; done)), H', ⟨Nat.le_refl _⟩, ⟨by (with_reducible repeat (first | apply Kd.V_alloc | apply Kd.V_drewN | apply Kd.V_drew)); exact Kd.V_mono HO423.out (fun _ hk => hk.2)⟩, ⟨Kd.rq HO426.out⟩, ⟨bq HB.out⟩⟩
 case round =>
  clear H'
  try clear p2
  try clear c3
  try clear c3b0
  try clear c3b1
  try clear c6
  try clear p6
  obtain ⟨x3_1, x4_1, rfl, HA, HK1, HO_0, HO_3, HB⟩ := hrel
  cases gk with
  | zero => exact absurd HA.out (by simp [e1_text.l0])
  | succ k1 =>
   have H := HA.out
   clear HA
   simp only [e1_text.l0] at H
   by_cases c8 : x4_1 ≥ 0
   rotate_left
   ·rw [if_neg c8] at H
    have c8b0 : decide (0 ≤ x4_1) = false := decide_eq_false c8
    clear c8
    replace H := Option.bind_eq_some_iff.mp H
    obtain ⟨t434, A160, H⟩ := H
    try dsimp only at H
    have A16 := Aside0.mk A160
    clear A160
    obtain rfl := Option.some.inj H
    have hcv17 := own_string (P := Tryd.prog) Tryd.underlying109 Tryd.underlying5 Tryd.underlying9 (Kd.own_of_R HO_3.out)
    go_wp2_with (first | ((with_reducible refine gate_callee (f := 69) rfl ?_); refine goesq (some 39) Tryd.func69 #[.string (strOfNums x3_1)] ?_; (with_reducible refine (e1_Normalize.calls k1 (strOfNums x3_1) t434 _ A16.out).mono ?_); rintro e w' ⟨rfl, ⟨nd, rfl⟩⟩; refine ⟨_, rfl, ?_⟩))
    go_ret
    exact ⟨by first | rfl | (simp [errW_none, errW_some] <;> rfl) | (simp [*, errW_none, errW_some] <;> rfl), bq HB.out⟩
   rw [if_pos c8] at H
   have c8b0 : decide (0 ≤ x4_1) = true := decide_eq_true c8
   clear c8
   by_cases c9 : 0 ≤ x4_1
   rotate_left
   ·rw [if_neg c9] at H
    exact absurd H (by simp)
   rw [if_pos c9] at H
   have c9b0 := decide_eq_true c9
   clear c9
   by_cases c10 : x4_1 < (t421.length : Int)
   rotate_left
   ·rw [if_neg c10] at H
    exact absurd H (by simp)
   rw [if_pos c10] at H
   have c10b0 := decide_eq_true c10
   clear c10
   obtain ⟨y428, hy428⟩ : ∃ y_ : List Int, y_ = (([((rd t421 x4_1) / 16777216) % 256, ((rd t421 x4_1) / 65536) % 256, ((rd t421 x4_1) / 256) % 256, (rd t421 x4_1) % 256] : List Int)) := ⟨_, rfl⟩
   replace H : (if x3_1.length + y428.length < 140737488355328 then (e1_text.l0 k1 t421 (x3_1 ++ y428) (wrap64 (x4_1 - 1))) else (none)) = some r := by first | (rw [hy428]; with_reducible exact H) | (have H2_ := (Option.bind_some _ _).symm.trans H; rw [hy428]; with_reducible exact H2_) | (have H2_ := (Option.bind_some _ _).symm.trans H; with_reducible exact H2_) | with_reducible exact H | (rw [hy428]; exact H) | exact H
   have Ny428 := Aside0.mk hy428
   clear hy428
   by_cases c11 : x3_1.length + y428.length < 140737488355328
   rotate_left
   ·rw [if_neg c11] at H
    exact absurd H (by simp)
   rw [if_pos c11] at H
   have LMc11 := Aside0.mk c11
   clear c11
   obtain ⟨y431, hy431⟩ : ∃ y_ : List Int, y_ = (x3_1 ++ y428) := ⟨_, rfl⟩
   replace H : (e1_text.l0 k1 t421 y431 (wrap64 (x4_1 - 1))) = some r := by first | (rw [hy431]; with_reducible exact H) | (have H2_ := (Option.bind_some _ _).symm.trans H; rw [hy431]; with_reducible exact H2_) | (have H2_ := (Option.bind_some _ _).symm.trans H; with_reducible exact H2_) | with_reducible exact H | (rw [hy431]; exact H) | exact H
   have Ny431 := Aside0.mk hy431
   clear hy431
   have H' := Aside0.mk H
   clear H
   have p427 : 0 ≤ (x4_1 : Int) := odt
   have q427 : x4_1 < (t421.length : Int) := odt
   obtain ⟨ad427, e427, hx427_0⟩ := Kd.at_int (Kd.V_reads' HO_0.out).2.2 x4_1 p427 q427
   cases e427
   replace p427 := eq_true p427
   replace q427 := eq_true q427
   go_wp2_with (first | ((with_reducible refine gate_dst (N := 35) rfl ?_); refine Kd.R_lit (Kd.int .u8) _ 5 ?hg (N := 35) ?hd (xs := ([((rd t421 x4_1) / 16777216) % 256, ((rd t421 x4_1) / 65536) % 256, ((rd t421 x4_1) / 256) % 256, (rd t421 x4_1) % 256] : List Int)) (inner := [.int .u8 (((rd t421 x4_1) / 16777216) % 256), .int .u8 (((rd t421 x4_1) / 65536) % 256), .int .u8 (((rd t421 x4_1) / 256) % 256), .int .u8 ((rd t421 x4_1) % 256)]) (ok := fun _ => True) (okp := fun _ => True) ?hr ?hp (fun _ hk => hk) trivial (Below.refl _ _) (Nat.le_refl _) (by simp) ?_; (case hd => rfl); (case hg => rfl); (case hr => first | (go_simp; done) | (go_simp; rfl)); (case hp => exact (Reps.one (show Kd.M (Kd.int .u8) _ _ _ (((rd t421 x4_1) / 16777216) % 256) [.int .u8 (((rd t421 x4_1) / 16777216) % 256)] from rfl) (Reps.one (show Kd.M (Kd.int .u8) _ _ _ (((rd t421 x4_1) / 65536) % 256) [.int .u8 (((rd t421 x4_1) / 65536) % 256)] from rfl) (Reps.one (show Kd.M (Kd.int .u8) _ _ _ (((rd t421 x4_1) / 256) % 256) [.int .u8 (((rd t421 x4_1) / 256) % 256)] from rfl) (Reps.one (show Kd.M (Kd.int .u8) _ _ _ ((rd t421 x4_1) % 256) [.int .u8 ((rd t421 x4_1) % 256)] from rfl) (Reps.none _ _)))))); intro v429 w12 ho13 hb hg_ hnew_; clear hg_ hnew_; (first | rw [← Ny428.out] at ho13 | (simp only [Int.reduceToNat] at ho13; rw [← Ny428.out] at ho13)); replace HO_0 := am (Kd.V_elder' (Kd.vq HO_0.out) (Kd.R_base ho13) hb); have HO430 := am (Kd.R_lower (Kd.R_new' ho13 (Kd.R_lt (Kd.rq HO_3.out))) (below_size (bq HB.out))); replace HO_3 := am (Kd.R_elder' (Kd.rq HO_3.out) (Kd.R_base ho13) hb); replace HB := am (below_step (bq HB.out) hb); clear hb ho13; obtain ⟨Ao15, co15, eo15⟩ := Kd.R_slice HO430.out; subst eo15) | ((with_reducible refine gate_builtin (b := .append) (xs := #[.tmp 23, .tmp 35]) rfl ?_); at_builtin; refine Kd.R_append_rows (Kd.int .u8) (w0 := w) w.heap.size rfl (.tmp 23) (.tmp 35) 109 5 (.int .u8 0) 1 rfl Tryd.underlying109 info5 rfl (by decide) (by omega) u3 x3_1 y428 _ _ _ (fun k_ => some k_ ≠ (.slice Ao15 y428.length co15 : Value).ownBlock) (fun _ => False) rfl rfl ?aO ?aR (fun _ _ h => h) (fun _ h => h.elim) ?aF ?aB ?aS ?aL ?_; (case aR => repeat (first | exact (Kd.R_reads' HO430.out).2.2 | (with_reducible refine Kd.C_alloc ?_ _) | (with_reducible refine Kd.C_drewN ?_ _) | (with_reducible refine Kd.C_drew ?_))); (case aB => exact (bq HB.out)); (case aF => exact (fun k_ hk => Kd.fresh' (Kd.R_lt (Kd.rq HO430.out)) k_ hk)); (case aO => exact (by (with_reducible repeat (first | apply Kd.R_alloc | apply Kd.R_drewN | apply Kd.R_drew)); exact Kd.R_mono HO_3.out (fun _ hk => hk.2))); (case aS => exact (below_size (bq HB.out))); (case aL => have := LMc11.out; omega); intro v432 w14 ho hb hg hat; rw [← Ny431.out] at ho; replace HO_0 := am (Kd.V_afterv (ok := (fun k_ => some k_ ≠ (.slice Ao15 y428.length co15 : Value).ownBlock)) (by (with_reducible repeat (first | apply Kd.V_alloc | apply Kd.V_drewN | apply Kd.V_drew)); exact Kd.V_mono HO_0.out (fun _ hk => ⟨hk.2, hk.1⟩)) hg hat); replace HO430 := am (Kd.R_after (ok := (fun _ => True)) (Kd.rq HO430.out) hg hat); replace HB := am (hb); have HO433 := am (ho); clear HO_3; clear ho hb hg hat))
   go_roundg k1
   case measure => have := HK1.out; omega
   case rel => exact ⟨(y431), (wrap64 (x4_1 - 1)), (by first | rfl | (simp; done) | (simp [*]; done)), H', ⟨by have := HK1.out; omega⟩, ⟨by (with_reducible repeat (first | apply Kd.V_alloc | apply Kd.V_drewN | apply Kd.V_drew)); exact Kd.V_mono HO_0.out (fun _ hk => hk.2)⟩, ⟨by (with_reducible repeat (first | apply Kd.R_alloc | apply Kd.R_drewN | apply Kd.R_drew)); exact Kd.R_mono HO433.out (fun _ hk => trivial)⟩, ⟨bq HB.out⟩⟩
end Go.Proofs.YtfnfjmeiaamheaaDoor.PA
namespace Go.Proofs.YtfnfjmeiaamheaaDoor.PA
open Go Go.RowKit Go.Proofs.YtfnfjmeiaamheaaDoorW.PrintWords
def nrm (s : ByteArray) : ByteArray := ⟨(s.data.toList.dropWhile fun c => c == 0).toArray⟩
theorem nnorm (s : ByteArray) : n_Normalize.f s = some (nrm s) := by
 unfold n_Normalize.f strings_TrimLeft.f
 rw [if_pos rfl]; rfl
theorem bt_get (s : ByteArray) (i : Nat) (h : i < s.data.toList.length) : bt s (i : Int) = ((s.data.toList[i]).toNat : Int) := by
 have hs : i < s.size := h
 have := bt_at s (i : Int) hs
 rw [← this]; rfl
theorem nrm_of_drop {s : ByteArray} : ∀ i, i ≤ s.data.toList.length → (∀ t, t < i → bt s (t : Int) = 0) → s.data.toList.dropWhile (fun c => c == 0) = (s.data.toList.drop i).dropWhile fun c => c == 0
 | 0, _, _ => rfl
 | i + 1, hi, hz => by
  rw [nrm_of_drop i (by omega) (fun t ht => hz t (by omega)), List.drop_eq_getElem_cons (show i < s.data.toList.length by omega)]
  have h1 := hz i (by omega)
  rw [bt_get s i (by omega)] at h1
  have h2 : s.data.toList[i] = 0 := by
   apply UInt8.toNat_inj.1
   rw [UInt8.toNat_zero]; omega
  rw [List.dropWhile_cons, h2]; rfl
theorem extract_drop (s : ByteArray) (i : Nat) : s.extract i s.size = ⟨(s.data.toList.drop i).toArray⟩ := by
 apply ByteArray.ext
 apply Array.ext'
 rw [ByteArray.data_extract, Array.toList_extract]
 show (s.data.toList.drop i).take (s.size - i) = s.data.toList.drop i
 rw [List.take_of_length_le (by rw [List.length_drop, Array.length_toList]; exact Nat.le_refl _)]
theorem rnorm_loop {s : ByteArray} (hf : s.size ≤ 100000) : ∀ m i, i + m = s.size → (∀ t, t < i → bt s (t : Int) = 0) → ∃ z, z ≤ s.size ∧ Ev (fun k => e1_Normalize.l0 k s (i : Int)) (nrm s) ∧ nrm s = ⟨(s.data.toList.drop z).toArray⟩ ∧ (∀ t, t < z → bt s (t : Int) = 0) ∧ (z < s.size → bt s (z : Int) ≠ 0)
 | 0, i, hi, hz => by
  have hl : s.data.toList.length = s.size := by rw [Array.length_toList]; rfl
  obtain rfl : i = s.size := by omega
  have e : nrm s = ⟨(s.data.toList.drop s.size).toArray⟩ := by
   unfold nrm
   rw [nrm_of_drop s.size (by omega) hz, List.drop_of_length_le (by omega)]; rfl
  refine ⟨s.size, Nat.le_refl _, Ev.rets fun k => ?_, e, hz, fun h => absurd h (Nat.lt_irrefl _)⟩
  rw [e1_Normalize.l0, if_neg (by omega), if_pos (by omega), if_pos (by omega), e, ← extract_drop]
  rfl
 | m + 1, i, hi, hz => by
  have hl : s.data.toList.length = s.size := by rw [Array.length_toList]; rfl
  have x1 : (i : Int) < (s.size : Int) := by omega
  have x2 : (0 : Int) ≤ (i : Int) := by omega
  have x3 : (i : Int) ≤ (s.size : Int) := by omega
  have hw : Aside0 (wrap64 ((i : Int) + 1) = ((i + 1 : Nat) : Int)) := ⟨by rw [wrap_s (by omega) (by omega)]; omega⟩
  by_cases hc : bt s (i : Int) = 0
  ·obtain ⟨z, h1, h2, h3, h4, h5⟩ := rnorm_loop hf m (i + 1) (by omega) (fun t ht => by
    by_cases ht2 : t = i
    ·rw [ht2]; exact hc
    exact hz t (by omega))
   refine ⟨z, h1, Ev.step (fun k => ?_) h2, h3, h4, h5⟩
   rw [e1_Normalize.l0, if_pos x1, if_pos x2, if_pos hc, hw.out]
  have e : nrm s = ⟨(s.data.toList.drop i).toArray⟩ := by
   unfold nrm
   rw [nrm_of_drop i (by omega) hz, List.drop_eq_getElem_cons (show i < s.data.toList.length by omega), List.dropWhile_cons]
   have : (s.data.toList[i] == 0) = false := by
    rw [beq_eq_false_iff_ne]
    intro he
    apply hc
    rw [bt_get s i (by omega), he]; rfl
   rw [this]; rfl
  refine ⟨i, by omega, Ev.rets fun k => ?_, e, hz, fun _ => hc⟩
  rw [e1_Normalize.l0, if_pos x1, if_pos x2, if_neg hc, if_pos x3, e, ← extract_drop]
  rfl
theorem rnorm {s : ByteArray} (hf : s.size ≤ 100000) : Ev (fun k => e1_Normalize.f k s) (nrm s) := by
 obtain ⟨z, _, h, _⟩ := rnorm_loop hf s.size 0 (by omega) (fun t ht => by omega)
 exact h
theorem nrm_spec {s : ByteArray} (hf : s.size ≤ 100000) : ∃ z, z ≤ s.size ∧ nrm s = ⟨(s.data.toList.drop z).toArray⟩ ∧ (∀ t, t < z → bt s (t : Int) = 0) ∧ (z < s.size → bt s (z : Int) ≠ 0) := by
 obtain ⟨z, h1, _, h2⟩ := rnorm_loop hf s.size 0 (by omega) (fun t ht => by omega)
 exact ⟨z, h1, h2⟩
def Bv (s : ByteArray) : Nat → Int
 | 0 => 0
 | i + 1 => Bv s i + bt s ((s.size - 1 - i : Nat) : Int) * 256 ^ i
theorem p256_pos (i : Nat) : (0 : Int) < 256 ^ i := Int.pow_pos (by decide)
theorem p256_succ (i : Nat) : (256 : Int) ^ (i + 1) = 256 ^ i * 256 := Int.pow_succ _ _
theorem p256_four (q : Nat) : (256 : Int) ^ (4 * q) = 4294967296 ^ q := by rw [Int.pow_mul]; rfl
theorem p256_split (i : Nat) : (256 : Int) ^ i = 256 ^ (i % 4) * 4294967296 ^ (i / 4) := by
 rw [← p256_four, ← Int.pow_add]; congr 1; omega
theorem p256_two (r : Nat) : (256 : Int) ^ r = 2 ^ (8 * r) := by rw [Int.pow_mul]; rfl
theorem Bv.nonneg (s : ByteArray) : ∀ i, 0 ≤ Bv s i
 | 0 => Int.le_refl 0
 | i + 1 => by
  have h1 := Bv.nonneg s i
  have h2 := Int.mul_nonneg (bt_range s ((s.size - 1 - i : Nat) : Int)).1 (Int.le_of_lt (p256_pos i))
  rw [Bv]; omega
theorem Bv.lt (s : ByteArray) : ∀ i, Bv s i < 256 ^ i
 | 0 => by simp [Bv]
 | i + 1 => by
  have h1 := Bv.lt s i
  have h2 : bt s ((s.size - 1 - i : Nat) : Int) * 256 ^ i ≤ 255 * 256 ^ i := Int.mul_le_mul_of_nonneg_right (bt_range s _).2 (Int.le_of_lt (p256_pos i))
  rw [Bv, p256_succ]; omega
def bv (s : ByteArray) : Int := Bv s s.size
theorem bv_nrm {s : ByteArray} (hf : s.size ≤ 100000) : bv (nrm s) = bv s ∧ (nrm s).size ≤ s.size ∧ (0 < (nrm s).size → bt (nrm s) 0 ≠ 0) := by
 obtain ⟨z, h1, h2, h3, h4⟩ := nrm_spec hf
 have hl : s.data.toList.length = s.size := by rw [Array.length_toList]; rfl
 have hsz : (nrm s).size = s.size - z := by rw [h2]; show (s.data.toList.drop z).toArray.size = _; rw [List.size_toArray, List.length_drop, hl]
 have hbt : ∀ j, j < s.size - z → bt (nrm s) (j : Int) = bt s ((z + j : Nat) : Int) := fun j hj => by
  have e : (nrm s).data.toList = s.data.toList.drop z := by rw [h2]
  rw [bt_get _ j (by rw [e, List.length_drop]; omega), bt_get _ (z + j) (by omega)]
  simp only [e, List.getElem_drop]
 have hB : ∀ i, i ≤ s.size - z → Bv (nrm s) i = Bv s i := fun i => by
  induction i with
  | zero => intro _; rfl
  | succ i ih =>
   intro hi
   rw [Bv, Bv, ih (by omega), hsz, hbt _ (by omega), show z + (s.size - z - 1 - i) = s.size - 1 - i by omega]
 have hR : ∀ d, d ≤ z → Bv s (s.size - z + d) = Bv s (s.size - z) := fun d => by
  induction d with
  | zero => intro _; rfl
  | succ d ih =>
   intro hd
   rw [← Nat.add_assoc, Bv, ih (by omega), h3 _ (by omega), Int.zero_mul, Int.add_zero]
 refine ⟨?_, by omega, fun h => ?_⟩
 ·unfold bv
  rw [hsz, hB _ (Nat.le_refl _)]
  have := hR z (Nat.le_refl _)
  rw [Nat.sub_add_cancel h1] at this
  exact this.symm
 have := hbt 0 (by omega)
 rw [show ((0 : Nat) : Int) = 0 from rfl] at this
 rw [this, Nat.add_zero]
 exact h4 (by omega)
theorem shl_u32' {x : Int} {s : Nat} (h0 : 0 ≤ x * 2 ^ s) (h1 : x * 2 ^ s < 4294967296) (hs : s < 32) : shl .u32 x (s : Int) = x * 2 ^ s := by
 unfold shl
 rw [show min (s : Int).toNat IntKind.u32.bits = s from Nat.min_eq_left (show s ≤ 32 by omega)]
 exact u32_in' _ h0 (by omega)
structure Pi (s : ByteArray) (out : List Int) (m i : Nat) : Prop where
 dgs : Dg out
 len : out.length = m
 val : Sm out 0 m = Bv s i
 rest : ∀ t, i ≤ 4 * t → dg out t = 0
theorem Pi.start (s : ByteArray) (m : Nat) : Pi s (List.replicate m 0) m 0 := ⟨Dg.rep m, by simp, by rw [Sm.zero m (fun t _ => dg_rep _ _)]; rfl, fun t _ => dg_rep _ _⟩
theorem Pi.low {s : ByteArray} {out : List Int} {m i : Nat} (h : Pi s out m i) (hi : i / 4 < m) : dg out (i / 4) < 256 ^ (i % 4) := by
 apply dg_lt_of h.dgs
 have h1 : Sm out 0 m = Sm out 0 (i / 4 + 1) := by
  obtain ⟨d, hd⟩ : ∃ d, m = (i / 4 + 1) + d := ⟨m - (i / 4 + 1), by omega⟩
  rw [hd, Sm.add out 0 (i / 4 + 1) d, Sm.zero (j := 0 + (i / 4 + 1)) d (fun t _ => h.rest _ (by omega)), Int.mul_zero, Int.add_zero]
 rw [← h1, h.val, ← p256_split]
 exact Bv.lt s i
theorem p256_r {r : Nat} (h : r < 4) : (256 : Int) ^ r ≤ 16777216 := by
 match r, h with
 | 0, _ => decide
 | 1, _ => decide
 | 2, _ => decide
 | 3, _ => decide
theorem Pi.put {s : ByteArray} {out : List Int} {m i : Nat} (h : Pi s out m i) (hi : i / 4 < m) :
 Go.bits .or .u32 (dg out (i / 4)) (shl .u32 (bt s ((s.size - 1 - i : Nat) : Int) % 4294967296) ((8 * (i % 4) : Nat) : Int)) = dg out (i / 4) + bt s ((s.size - 1 - i : Nat) : Int) * 256 ^ (i % 4) := by
 have hb := bt_range s ((s.size - 1 - i : Nat) : Int)
 obtain ⟨b, hbe⟩ : ∃ b, b = bt s ((s.size - 1 - i : Nat) : Int) := ⟨_, rfl⟩
 rw [← hbe] at hb ⊢
 have hl := h.low hi
 have hr := p256_r (show i % 4 < 4 by omega)
 have hp := p256_pos (i % 4)
 have h1 : b * 256 ^ (i % 4) ≤ 255 * 256 ^ (i % 4) := Int.mul_le_mul_of_nonneg_right hb.2 (Int.le_of_lt hp)
 have h2 : 0 ≤ b * 256 ^ (i % 4) := Int.mul_nonneg hb.1 (Int.le_of_lt hp)
 have h0 := h.dgs (i / 4)
 rw [show b % 4294967296 = b by omega, shl_u32' (by rw [← p256_two]; exact h2) (by rw [← p256_two]; omega) (by omega), p256_two]
 rw [p256_two] at hl h1 hr
 exact or_low h0.1 hl hb.1 h0.2 (by omega)
theorem Pi.next {s : ByteArray} {out : List Int} {m i : Nat} (h : Pi s out m i) (hi : i / 4 < m) :
  Pi s (out.set (i / 4) (dg out (i / 4) + bt s ((s.size - 1 - i : Nat) : Int) * 256 ^ (i % 4))) m (i + 1) := by
 have hb := bt_range s ((s.size - 1 - i : Nat) : Int)
 have hl := h.low hi
 have hr := p256_r (show i % 4 < 4 by omega)
 have hp := p256_pos (i % 4)
 have hlen := h.len
 have h1 : bt s ((s.size - 1 - i : Nat) : Int) * 256 ^ (i % 4) ≤ 255 * 256 ^ (i % 4) := Int.mul_le_mul_of_nonneg_right hb.2 (Int.le_of_lt hp)
 have h2 : 0 ≤ bt s ((s.size - 1 - i : Nat) : Int) * 256 ^ (i % 4) := Int.mul_nonneg hb.1 (Int.le_of_lt hp)
 have h0 := h.dgs (i / 4)
 refine ⟨h.dgs.set (by omega) (by omega), by rw [List.length_set]; exact hlen, ?_, fun t ht => ?_⟩
 ·obtain ⟨x, hx⟩ : ∃ x, x = bt s ((s.size - 1 - i : Nat) : Int) * 256 ^ (i % 4) := ⟨_, rfl⟩
  rw [Sm.set_in (by omega) m (Nat.zero_le _) (by omega), h.val, Bv, Nat.sub_zero, ← hx, show dg out (i / 4) + x - dg out (i / 4) = x by omega, hx, Int.mul_assoc, ← p256_split]
 rw [dg_set, if_neg (by omega)]; exact h.rest t (by omega)
theorem tdiv4 {i : Nat} (h : i ≤ 1000000) : wrap64 (Int.tdiv (i : Int) 4) = ((i / 4 : Nat) : Int) := by
 rw [Int.tdiv_eq_ediv_of_nonneg (by omega), wrap_s (by omega) (by omega)]; omega
theorem tmod4 {i : Nat} : wrap64 (8 * Int.tmod (i : Int) 4) = ((8 * (i % 4) : Nat) : Int) := by
 rw [Int.tmod_eq_emod_of_nonneg (by omega), wrap_s (by omega) (by omega)]; omega
theorem back_i {n i : Nat} (h : i < n) (hf : n ≤ 1000000) : wrap64 (wrap64 ((n : Int) - 1) - (i : Int)) = ((n - 1 - i : Nat) : Int) := by
 rw [wrap_s (x := (n : Int) - 1) (by omega) (by omega), wrap_s (by omega) (by omega)]; omega
theorem nparse_loop {s : ByteArray} (hf : s.size ≤ 100000) {m : Nat} (hm : m = (s.size + 3) / 4) : ∀ j i out, i + j = s.size → Pi s out m i → ∃ r, Ev (fun k => n_parse.l0 k s out (s.size : Int) (i : Int)) r ∧ Can r ∧ vl r = bv s ∧ r.length ≤ m
 | 0, i, out, hi, h => by
  obtain rfl : i = s.size := by omega
  have hlen := h.len
  obtain ⟨q, g1, g2, g3, g4⟩ := trim_ev h.dgs (by omega)
  refine ⟨q, Ev.step (h := fun k => (n_limbs_trim.f k out).bind fun t => some t) (fun k => by rw [n_parse.l0, if_neg (by omega)]) (Ev.bind g1 Ev.ret), g2, ?_, by omega⟩
  rw [g3]; unfold vl; rw [hlen, h.val]; rfl
 | j + 1, i, out, hi, h => by
  have hlen := h.len
  have him : i / 4 < m := by omega
  have x1 : (i : Int) < (s.size : Int) := by omega
  have x2 : (0 : Int) ≤ ((i / 4 : Nat) : Int) := by omega
  have x3 : ((i / 4 : Nat) : Int) < (out.length : Int) := by omega
  have x4 : (0 : Int) ≤ ((s.size - 1 - i : Nat) : Int) := by omega
  have x5 : ((s.size - 1 - i : Nat) : Int) < (s.size : Int) := by omega
  have x6 : (0 : Int) ≤ ((8 * (i % 4) : Nat) : Int) := by omega
  have hw : Aside0 (wrap64 ((i : Int) + 1) = ((i + 1 : Nat) : Int)) := ⟨by rw [wrap_s (by omega) (by omega)]; omega⟩
  have w1 := Aside0.mk (tdiv4 (i := i) (by omega))
  have w2 := Aside0.mk (tmod4 (i := i))
  have w3 := Aside0.mk (back_i (n := s.size) (i := i) (by omega) (by omega))
  obtain ⟨r, g1, g2⟩ := nparse_loop hf hm j (i + 1) _ (by omega) (h.next him)
  refine ⟨r, Ev.step (fun k => ?_) g1, g2⟩
  rw [n_parse.l0, w1.out, w2.out, w3.out, hw.out, if_pos x1, if_pos x2, if_pos x3, if_pos x4, if_pos x5, if_pos x6, rd_dg, h.put him]
  rfl
theorem nparse {s : ByteArray} (hf : s.size ≤ 100000) : ∃ r, Ev (fun k => n_parse.f k s) r ∧ Can r ∧ vl r = bv s ∧ r.length ≤ (s.size + 3) / 4 := by
 obtain ⟨m, hm⟩ : ∃ m, m = (s.size + 3) / 4 := ⟨_, rfl⟩
 obtain ⟨r, g1, g2⟩ := nparse_loop hf hm s.size 0 _ (by omega) (Pi.start s m)
 refine ⟨r, Ev.same (fun k => ?_) g1, by rw [← hm]; exact g2⟩
 have w : wrap64 (Int.tdiv (wrap64 (wrap64 ((s.size : Int) + 4) - 1)) 4) = (m : Int) := by
  rw [wrap_s (x := (s.size : Int) + 4) (by omega) (by omega), wrap_s (x := (s.size : Int) + 4 - 1) (by omega) (by omega), show (s.size : Int) + 4 - 1 = ((s.size + 3 : Nat) : Int) by omega, tdiv4 (by omega), hm]
 rw [n_parse.f, w, if_pos (by omega), if_pos (by omega), show (m : Int).toNat = m from rfl]
 rfl
theorem rlimbs_loop {s : ByteArray} (hf : s.size ≤ 100000) {m : Nat} (hm : m = (s.size + 3) / 4) : ∀ j i out, i + j = s.size → Pi s out m i → ∃ r, Ev (fun k => e1_limbs.l0 k s out (i : Int)) r ∧ Pi s r m s.size
 | 0, i, out, hi, h => by
  obtain rfl : i = s.size := by omega
  exact ⟨out, Ev.rets fun k => by rw [e1_limbs.l0, if_neg (by omega)], h⟩
 | j + 1, i, out, hi, h => by
  have hlen := h.len
  have him : i / 4 < m := by omega
  have x1 : (i : Int) < (s.size : Int) := by omega
  have x2 : (0 : Int) ≤ ((i / 4 : Nat) : Int) := by omega
  have x3 : ((i / 4 : Nat) : Int) < (out.length : Int) := by omega
  have x4 : (0 : Int) ≤ ((s.size - 1 - i : Nat) : Int) := by omega
  have x5 : ((s.size - 1 - i : Nat) : Int) < (s.size : Int) := by omega
  have x6 : (0 : Int) ≤ ((8 * (i % 4) : Nat) : Int) := by omega
  have hw : Aside0 (wrap64 ((i : Int) + 1) = ((i + 1 : Nat) : Int)) := ⟨by rw [wrap_s (by omega) (by omega)]; omega⟩
  have w1 := Aside0.mk (tdiv4 (i := i) (by omega))
  have w2 := Aside0.mk (tmod4 (i := i))
  have w3 := Aside0.mk (back_i (n := s.size) (i := i) (by omega) (by omega))
  have w4 : Aside0 (IntKind.u64.wrap ((8 * (i % 4) : Nat) : Int) = ((8 * (i % 4) : Nat) : Int)) := ⟨u64_s (by omega) (by omega)⟩
  obtain ⟨r, g1, g2⟩ := rlimbs_loop hf hm j (i + 1) _ (by omega) (h.next him)
  refine ⟨r, Ev.step (fun k => ?_) g1, g2⟩
  rw [e1_limbs.l0, w1.out, w2.out, w3.out, hw.out, w4.out, if_pos x1, if_pos x2, if_pos x3, if_pos x4, if_pos x5, if_pos x6, rd_dg, h.put him]
  rfl
theorem p256_mono {a b : Nat} (h : a ≤ b) : (256 : Int) ^ a ≤ 256 ^ b := by
 obtain ⟨d, rfl⟩ : ∃ d, b = a + d := ⟨b - a, by omega⟩
 rw [Int.pow_add]
 have h1 := p256_pos a
 have h2 := p256_pos d
 have := Int.mul_le_mul_of_nonneg_left (show (1 : Int) ≤ 256 ^ d by omega) (Int.le_of_lt h1)
 omega
theorem rlimbs {s : ByteArray} (hf : s.size ≤ 100000) : ∃ r, Ev (fun k => e1_limbs.f k s) r ∧ Can r ∧ vl r = bv s ∧ r.length ≤ (s.size + 3) / 4 := by
 obtain ⟨e1, e2, e3⟩ := bv_nrm hf
 obtain ⟨t, ht⟩ : ∃ t, t = nrm s := ⟨_, rfl⟩
 rw [← ht] at e1 e2 e3
 obtain ⟨m, hm⟩ : ∃ m, m = (t.size + 3) / 4 := ⟨_, rfl⟩
 obtain ⟨r, g1, g2⟩ := rlimbs_loop (s := t) (by omega) hm t.size 0 _ (by omega) (Pi.start t m)
 have hlen := g2.len
 have hval : vl r = bv s := by rw [← e1]; unfold vl; rw [hlen, g2.val]; rfl
 have w : wrap64 (Int.tdiv (wrap64 ((t.size : Int) + 3)) 4) = (m : Int) := by
  rw [wrap_s (x := (t.size : Int) + 3) (by omega) (by omega), show (t.size : Int) + 3 = ((t.size + 3 : Nat) : Int) by omega, tdiv4 (by omega), hm]
 refine ⟨r, Ev.same (h := fun k => (e1_Normalize.f k s).bind fun t479 => if 0 ≤ (wrap64 (Int.tdiv (wrap64 ((t479.size : Int) + 3)) 4)) then (if (wrap64 (Int.tdiv (wrap64 ((t479.size : Int) + 3)) 4) : Int).toNat ≤ 70368744177664 then (e1_limbs.l0 k t479 (List.replicate (wrap64 (Int.tdiv (wrap64 ((t479.size : Int) + 3)) 4) : Int).toNat 0) 0) else none) else none) (fun k => ?_) (Ev.bind (rnorm hf) ?_), ⟨g2.dgs, ?_, by omega⟩, hval, by omega⟩
 ·rw [e1_limbs.f]
 ·rw [← ht, w]
  refine Ev.same (fun k => ?_) g1
  rw [if_pos (by omega), if_pos (by omega)]; rfl
 by_cases h0 : m = 0
 ·exact Or.inl (by omega)
 right
 intro hz
 have hts : 0 < t.size := by omega
 have h1 : vl r = Sm r 0 (m - 1) := by
  obtain ⟨p, hp⟩ : ∃ p, m = p + 1 := ⟨m - 1, by omega⟩
  rw [hlen, hp, Nat.add_sub_cancel] at hz
  unfold vl
  rw [hlen, hp, Sm, Nat.add_sub_cancel, Nat.zero_add, hz]; omega
 have h2 := Sm.lt g2.dgs 0 (m - 1)
 have h3 : (256 : Int) ^ (t.size - 1) ≤ bv t := by
  obtain ⟨p, hp⟩ : ∃ p, t.size = p + 1 := ⟨t.size - 1, by omega⟩
  have h4 := Bv.nonneg t p
  have h5 := e3 hts
  have h6 := bt_range t 0
  have h7 : 1 * (256 : Int) ^ p ≤ bt t 0 * 256 ^ p := Int.mul_le_mul_of_nonneg_right (by omega) (Int.le_of_lt (p256_pos p))
  unfold bv
  rw [hp, Bv, hp, Nat.add_sub_cancel, Nat.sub_self]
  show (256 : Int) ^ p ≤ Bv t p + bt t 0 * 256 ^ p
  omega
 have h8 := p256_mono (show 4 * (m - 1) ≤ t.size - 1 by omega)
 rw [p256_four] at h8
 omega
def q4 (x : Int) : List Int := [x / 16777216 % 256, x / 65536 % 256, x / 256 % 256, x % 256]
def bh (l : List Int) : Nat → List Int
 | 0 => []
 | c + 1 => bh l c ++ q4 (dg l (l.length - 1 - c))
theorem bh_len (l : List Int) : ∀ c, (bh l c).length = 4 * c
 | 0 => rfl
 | c + 1 => by rw [bh, List.length_append, bh_len l c]; simp [q4]; omega
def tx (l : List Int) : ByteArray := nrm (strOfNums (bh l l.length))
theorem q4_at {x : Int} : ∀ r, r < 4 → dg (q4 x) r = x / 256 ^ (3 - r) % 256
 | 0, _ => rfl
 | 1, _ => rfl
 | 2, _ => by show x / 256 % 256 = x / 256 ^ 1 % 256; rw [Int.pow_one]
 | 3, _ => by show x % 256 = x / 256 ^ 0 % 256; rw [Int.pow_zero, Int.ediv_one]
 | r + 4, h => by omega
theorem dg_app (l m : List Int) (i : Nat) : dg (l ++ m) i = if i < l.length then dg l i else dg m (i - l.length) := by
 unfold dg
 rw [List.getD_eq_getElem?_getD, List.getD_eq_getElem?_getD, List.getD_eq_getElem?_getD, List.getElem?_append]
 split <;> rfl
theorem bh_at (l : List Int) : ∀ c p, p < 4 * c → dg (bh l c) p = dg l (l.length - 1 - p / 4) / 256 ^ (3 - p % 4) % 256
 | 0, p, h => by omega
 | c + 1, p, h => by
  rw [bh, dg_app, bh_len]
  by_cases hc : p < 4 * c
  ·rw [if_pos hc]; exact bh_at l c p hc
  rw [if_neg hc, q4_at _ (by omega), show p / 4 = c by omega, show p - 4 * c = p % 4 by omega]
structure Ti (l out : List Int) (i : Nat) : Prop where
 len : out.length = 4 * l.length
 at_ : ∀ p, p < 4 * l.length → 4 * l.length - i ≤ p → dg out p = dg l (l.length - 1 - p / 4) / 256 ^ (3 - p % 4) % 256
theorem shr_u32 {x : Int} {s : Nat} (hs : s < 32) : shr .u32 x (s : Int) = x / 2 ^ s := by
 unfold shr
 rw [show min (s : Int).toNat IntKind.u32.bits = s from Nat.min_eq_left (show s ≤ 32 by omega)]
theorem ntext_loop {l : List Int} (hf : l.length ≤ 100000) : ∀ j i out, i + j = 4 * l.length → Ti l out i → Ev (fun k => n_limbs_text.l0 k l out ((4 * l.length : Nat) : Int) (i : Int)) (tx l)
 | 0, i, out, hi, h => by
  obtain rfl : i = 4 * l.length := by omega
  have e : out = bh l l.length := dg_ext (by rw [h.len, bh_len]) fun p hp => by
   rw [h.len] at hp
   rw [h.at_ p hp (by omega), bh_at l _ p hp]
  refine Ev.rets fun k => ?_
  rw [n_limbs_text.l0, if_neg (by omega), nnorm, e]; rfl
 | j + 1, i, out, hi, h => by
  have hlen := h.len
  have x1 : (i : Int) < ((4 * l.length : Nat) : Int) := by omega
  have x2 : (0 : Int) ≤ ((i / 4 : Nat) : Int) := by omega
  have x3 : ((i / 4 : Nat) : Int) < (l.length : Int) := by omega
  have x4 : (0 : Int) ≤ ((8 * (i % 4) : Nat) : Int) := by omega
  have x5 : (0 : Int) ≤ ((4 * l.length - 1 - i : Nat) : Int) := by omega
  have x6 : ((4 * l.length - 1 - i : Nat) : Int) < (out.length : Int) := by omega
  have hw : Aside0 (wrap64 ((i : Int) + 1) = ((i + 1 : Nat) : Int)) := ⟨by rw [wrap_s (by omega) (by omega)]; omega⟩
  have w1 := Aside0.mk (tdiv4 (i := i) (by omega))
  have w2 := Aside0.mk (tmod4 (i := i))
  have w3 := Aside0.mk (back_i (n := 4 * l.length) (i := i) (by omega) (by omega))
  have hn : Ti l (out.set (4 * l.length - 1 - i) (dg l (i / 4) / 2 ^ (8 * (i % 4)) % 256)) (i + 1) := by
   refine ⟨by rw [List.length_set]; exact hlen, fun p hp hp2 => ?_⟩
   rw [dg_set]
   by_cases hc : 4 * l.length - 1 - i = p
   ·rw [if_pos ⟨hc, by omega⟩, p256_two, ← hc, show l.length - 1 - (4 * l.length - 1 - i) / 4 = i / 4 by omega, show 3 - (4 * l.length - 1 - i) % 4 = i % 4 by omega]
   rw [if_neg (by omega)]; exact h.at_ p hp (by omega)
  refine Ev.step (fun k => ?_) (ntext_loop hf j (i + 1) _ (by omega) hn)
  rw [n_limbs_text.l0, w1.out, w2.out, hlen, w3.out, hw.out, if_pos x1, if_pos x2, if_pos x3, if_pos x4, if_pos x5, if_pos (by rw [hlen] at x6; exact x6), rd_dg, shr_u32 (by omega)]
  rfl
theorem ntext {l : List Int} (hf : l.length ≤ 100000) : Ev (fun k => n_limbs_text.f k l) (tx l) := by
 have w : wrap64 ((l.length : Int) * 4) = ((4 * l.length : Nat) : Int) := by rw [wrap_s (by omega) (by omega)]; omega
 refine Ev.same (fun k => ?_) (ntext_loop hf (4 * l.length) 0 (List.replicate (4 * l.length) 0) (by omega) ⟨by simp, fun p hp hp2 => by omega⟩)
 rw [n_limbs_text.f, w, if_pos (by omega), if_pos (by omega), Option.bind_some, List.length_replicate]
 rfl
theorem rtext_loop {l : List Int} (hf : l.length ≤ 20000) : ∀ j c, c + j = l.length → Ev (fun k => e1_text.l0 k l (bh l c) ((j : Int) - 1)) (tx l)
 | 0, c, hi => by
  obtain rfl : c = l.length := by omega
  refine Ev.step (h := fun k => (e1_Normalize.f k (strOfNums (bh l l.length))).bind fun t => some t) (fun k => ?_) (Ev.bind (rnorm (by rw [strOfNums_size, bh_len]; omega)) Ev.ret)
  rw [e1_text.l0, if_neg (by omega)]
 | j + 1, c, hi => by
  have x0 : ((j + 1 : Nat) : Int) - 1 = (j : Int) := by omega
  have x1 : (j : Int) ≥ 0 := by omega
  have x2 : (0 : Int) ≤ (j : Int) := by omega
  have x3 : (j : Int) < (l.length : Int) := by omega
  have x4 : (bh l c).length + 4 < 140737488355328 := by rw [bh_len]; omega
  have w : Aside0 (wrap64 ((j : Int) - 1) = (j : Int) - 1) := ⟨wrap_s (by omega) (by omega)⟩
  refine Ev.step (fun k => ?_) (rtext_loop hf j (c + 1) (by omega))
  rw [x0, e1_text.l0, if_pos x1, if_pos x2, if_pos x3, Option.bind_some, w.out, rd_dg, bh, show l.length - 1 - c = j by omega]
  exact if_pos x4
theorem rtext {l : List Int} (h : Can l) (hf : l.length ≤ 20000) : Ev (fun k => e1_text.f k l) (tx l) := by
 refine Ev.same (h := fun k => (e1_strip.f k l).bind fun t421 => if 4 * (t421.length : Int) ≤ 281474976710656 then (e1_text.l0 k t421 (List.replicate 0 0) (wrap64 ((t421.length : Int) - 1))) else none) (fun k => by rw [e1_text.f]) (Ev.bind (strip_can h) ?_)
 refine Ev.same (fun k => ?_) (rtext_loop (by omega) l.length 0 (by omega))
 rw [if_pos (by omega), wrap_s (by omega) (by omega)]
 rfl
end Go.Proofs.YtfnfjmeiaamheaaDoor.PA
namespace Go.Proofs.YtfnfjmeiaamheaaDoor.PA
open Go.RowKit Go.Proofs.YtfnfjmeiaamheaaDoorW.PrintWords Go.Proofs.YtfnfjmeiaamheaaDoorW.PrintLast Go.Proofs.YtfnfjmeiaamheaaDoorW.PrintMore
attribute [local go_sem] max2_int min2_int max_two min_two max_three min_three max_four min_four
def n_GCD.l0 : Nat → List Int → List Int → Option (ByteArray)
 | 0, _, _ => none
 | k + 1, x5, x6 => if (x6.length : Int) > 0 then ((n_divide.f k x5 x6).bind fun bt251 => (n_GCD.l0 k x6 bt251.2)) else ((n_limbs_text.f k x5).bind fun t257 => (some t257))
def n_GCD.f (k : Nat) (a0 : ByteArray) (a1 : ByteArray) : Option (ByteArray) := (n_parse.f k a0).bind fun t245 => ((n_parse.f k a1).bind fun t248 => (n_GCD.l0 k t245 t248))
set_option maxHeartbeats 8000000 in
set_option maxRecDepth 100000 in
theorem n_GCD.calls (k : Nat) (a0 : ByteArray) (a1 : ByteArray) (r : ByteArray) (w : World) (h : n_GCD.f k a0 a1 = some r) :
  Calls Tryd.prog 45 #[.string a0, .string a1] w fun e w' => e = .returned (.string r) ∧ Below w.heap.size w w' := by
 have HB := Aside0.mk (Below.refl w.heap.size w)
 have H : ((n_parse.f k a0).bind fun t245 => ((n_parse.f k a1).bind fun t248 => (n_GCD.l0 k t245 t248))) = some r := h
 clear h
 replace H := Option.bind_eq_some_iff.mp H
 obtain ⟨t245, A30, H⟩ := H
 try dsimp only at H
 have A3 := Aside0.mk A30
 clear A30
 replace H := Option.bind_eq_some_iff.mp H
 obtain ⟨t248, A40, H⟩ := H
 try dsimp only at H
 have A4 := Aside0.mk A40
 clear A40
 have H' := Aside0.mk H
 clear H
 go_enter Tryd.func45, Tryd.ntmps45
 go_wp2_with (first | ((with_reducible refine gate_callee (f := 62) rfl ?_); refine goesq (some 10) Tryd.func62 #[.string a0] ?_; (with_reducible refine (n_parse.calls k a0 t245 _ A3.out).mono ?_); rintro e w5 ⟨v246, rfl, ho0, hb⟩; refine ⟨_, rfl, ?_⟩; have HO247 := am (Kd.V_lower (Kd.V_mono (ok' := fun k_ => True) ho0 (fun k_ hk_ => trivial)) (below_size (bq HB.out))); replace HB := am (below_step (bq HB.out) hb); (try clear hb); (try clear ho0)) | ((with_reducible refine gate_callee (f := 62) rfl ?_); refine goesq (some 12) Tryd.func62 #[.string a1] ?_; (with_reducible refine (n_parse.calls k a1 t248 _ A4.out).mono ?_); rintro e w6 ⟨v249, rfl, ho0, hb⟩; refine ⟨_, rfl, ?_⟩; replace HO247 := am (Kd.V_below (Kd.vq HO247.out) hb); have HO250 := am (Kd.V_lower (Kd.V_mono (ok' := fun k_ => True) ho0 (fun k_ hk_ => trivial)) (below_size (bq HB.out))); replace HB := am (below_step (bq HB.out) hb); (try clear hb); (try clear ho0)))
 go_loopg [5, 6] k (fun kq v5 v6 w' => ∃ (x5_1 : List Int) (x6_1 : List Int), Aside0 (n_GCD.l0 kq x5_1 x6_1 = some r) ∧ Aside0 (kq ≤ k) ∧ Aside0 (Kd.V (Kd.int .u32) 88 w' w.heap.size (fun _ => True) v5 x5_1) ∧ Aside0 (Kd.V (Kd.int .u32) 88 w' w.heap.size (fun _ => True) v6 x6_1) ∧ Aside0 (Below w.heap.size w w'))
 case atStart => exact ⟨(t245), (t248), H', ⟨Nat.le_refl _⟩, ⟨Kd.vq HO247.out⟩, ⟨Kd.vq HO250.out⟩, ⟨bq HB.out⟩⟩
 case round =>
  clear H'
  try clear p2
  try clear c4
  try clear c6
  obtain ⟨x5_1, x6_1, HA, HK1, HO_5, HO_6, HB⟩ := hrel
  cases gk with
  | zero => exact absurd HA.out (by simp [n_GCD.l0])
  | succ k1 =>
   have H := HA.out
   clear HA
   simp only [n_GCD.l0] at H
   by_cases c7 : (x6_1.length : Int) > 0
   rotate_left
   ·rw [if_neg c7] at H
    have c7b0 : decide (0 < (x6_1.length : Int)) = false := decide_eq_false c7
    have c7b1 : decide (0 < x6_1.length) = false := decide_eq_false (by omega)
    clear c7
    replace H := Option.bind_eq_some_iff.mp H
    obtain ⟨t257, A120, H⟩ := H
    try dsimp only at H
    have A12 := Aside0.mk A120
    clear A120
    obtain rfl := Option.some.inj H
    obtain ⟨Ao13, co13, eo13⟩ := Kd.V_slice HO_6.out
    subst eo13
    obtain ⟨Ao14, co14, eo14⟩ := Kd.V_slice HO_5.out
    subst eo14
    go_wp2_with (first | ((with_reducible refine gate_callee (f := 64) rfl ?_); refine goesq (some 25) Tryd.func64 #[.slice Ao14 x5_1.length co14] ?_; (with_reducible refine (n_limbs_text.calls k1 _ _ x5_1 t257 _ ?side1 ?side2 A12.out).mono ?_); (case side1 => repeat (first | exact (Kd.V_reads' HO_5.out).2.2 | (with_reducible refine Kd.C_alloc ?_ _) | (with_reducible refine Kd.C_drewN ?_ _) | (with_reducible refine Kd.C_drew ?_))); (case side2 => exact (Kd.V_reads' HO_5.out).2.1); rintro e w15 ⟨rfl, hb⟩; refine ⟨_, rfl, ?_⟩; replace HO_5 := am (Kd.V_below (Kd.vq HO_5.out) hb); replace HO_6 := am (Kd.V_below (Kd.vq HO_6.out) hb); replace HB := am (below_step (bq HB.out) hb); (try clear hb)))
    go_ret
    exact ⟨by first | rfl | (simp [errW_none, errW_some] <;> rfl) | (simp [*, errW_none, errW_some] <;> rfl), bq HB.out⟩
   rw [if_pos c7] at H
   have c7b0 : decide (0 < (x6_1.length : Int)) = true := decide_eq_true c7
   have c7b1 : decide (0 < x6_1.length) = true := decide_eq_true (by omega)
   clear c7
   replace H := Option.bind_eq_some_iff.mp H
   obtain ⟨⟨t251, t254⟩, A80, H⟩ := H
   try dsimp only at H
   have A8 := Aside0.mk A80
   clear A80
   have H' := Aside0.mk H
   clear H
   obtain ⟨Ao9, co9, eo9⟩ := Kd.V_slice HO_6.out
   subst eo9
   obtain ⟨Ao10, co10, eo10⟩ := Kd.V_slice HO_5.out
   subst eo10
   go_wp2_with (first | ((with_reducible refine gate_callee (f := 63) rfl ?_); refine goesq (some 19) Tryd.func63 #[.slice Ao10 x5_1.length co10, .slice Ao9 x6_1.length co9] ?_; (with_reducible refine (n_divide.calls k1 (fun k_ => True) _ _ x5_1 _ _ x6_1 t251 t254 _ ?side1 ?side2 ?side3 A8.out).mono ?_); (case side1 => exact HO_5.out); (case side2 => repeat (first | exact (Kd.V_reads' HO_6.out).2.2 | (with_reducible refine Kd.C_alloc ?_ _) | (with_reducible refine Kd.C_drewN ?_ _) | (with_reducible refine Kd.C_drew ?_))); (case side3 => exact (Kd.V_reads' HO_6.out).2.1); rintro e w11 ⟨v252, v255, rfl, ho0, ho1, hb⟩; refine ⟨_, rfl, ?_⟩; replace HO_5 := am (Kd.V_below (Kd.vq HO_5.out) hb); replace HO_6 := am (Kd.V_below (Kd.vq HO_6.out) hb); have HO253 := am (Kd.V_lower (Kd.V_mono (ok' := fun k_ => True) ho0 (fun k_ hk_ => trivial)) (below_size (bq HB.out))); have HO256 := am (Kd.V_lower (Kd.V_mono (ok' := fun k_ => True) ho1 (fun k_ hk_ => trivial)) (below_size (bq HB.out))); replace HB := am (below_step (bq HB.out) hb); (try clear hb); (try clear ho0); (try clear ho1)))
   go_roundg k1
   case measure => have := HK1.out; omega
   case rel => exact ⟨(x6_1), (t254), H', ⟨by have := HK1.out; omega⟩, ⟨Kd.vq HO_6.out⟩, ⟨Kd.vq HO256.out⟩, ⟨bq HB.out⟩⟩
def e1_common.l0 : Nat → List Int → List Int → Option (List Int)
 | 0, _, _ => none
 | k + 1, x0, x1 => if (x1.length : Int) > 0 then ((e1_divide.f k x0 x1).bind fun bt415 => (e1_common.l0 k x1 bt415.2)) else (some x0)
def e1_common.f (k : Nat) (l0 : List Int) (l1 : List Int) : Option (List Int) := e1_common.l0 k l0 l1
set_option maxHeartbeats 8000000 in
set_option maxRecDepth 100000 in
theorem e1_common.calls (k : Nat) (P0_ : Nat → Prop) (A0 : Option Addr) (c0 : Nat) (l0 : List Int) (P1_ : Nat → Prop) (A1 : Option Addr) (c1 : Nat) (l1 : List Int) (r : List Int) (w : World) (hs0 : Kd.V (Kd.int .u32) 88 w w.heap.size (fun k_ => P0_ k_) (.slice A0 l0.length c0) l0) (hs1 : Kd.V (Kd.int .u32) 88 w w.heap.size (fun k_ => P1_ k_) (.slice A1 l1.length c1) l1) (h : e1_common.f k l0 l1 = some r) :
  Calls Tryd.prog 65 #[.slice A0 l0.length c0, .slice A1 l1.length c1] w fun e w' => ∃ v0_ : Value, e = .returned (v0_) ∧ Kd.V (Kd.int .u32) 88 w' w.heap.size (fun k_ => ((P0_ k_ ∨ P1_ k_) ∨ w.heap.size ≤ k_)) v0_ r ∧ Below w.heap.size w w' := by
 have HO0 := Aside0.mk (show Kd.V (Kd.int .u32) 88 w w.heap.size (fun k_ => ((P0_ k_ ∨ P1_ k_) ∨ w.heap.size ≤ k_)) (.slice A0 l0.length c0) l0 from Kd.V_mono hs0 (fun k_ hk => .inl (.inl hk)))
 have HO1 := Aside0.mk (show Kd.V (Kd.int .u32) 88 w w.heap.size (fun k_ => ((P0_ k_ ∨ P1_ k_) ∨ w.heap.size ≤ k_)) (.slice A1 l1.length c1) l1 from Kd.V_mono hs1 (fun k_ hk => .inl (.inr hk)))
 have HB := Aside0.mk (Below.refl w.heap.size w)
 have H : (e1_common.l0 k l0 l1) = some r := h
 clear h
 have H' := Aside0.mk H
 clear H
 go_enter Tryd.func65, Tryd.ntmps65
 go_wp2
 go_loopg [0, 1] k (fun kq v0 v1 w' => ∃ (x0_1 : List Int) (x1_1 : List Int), Aside0 (e1_common.l0 kq x0_1 x1_1 = some r) ∧ Aside0 (kq ≤ k) ∧ Aside0 (Kd.V (Kd.int .u32) 88 w' w.heap.size (fun k_ => ((P0_ k_ ∨ P1_ k_) ∨ w.heap.size ≤ k_)) v0 x0_1) ∧ Aside0 (Kd.V (Kd.int .u32) 88 w' w.heap.size (fun k_ => ((P0_ k_ ∨ P1_ k_) ∨ w.heap.size ≤ k_)) v1 x1_1) ∧ Aside0 (Below w.heap.size w w'))
 case atStart => exact ⟨(l0), (l1), H', ⟨Nat.le_refl _⟩, ⟨Kd.vq HO0.out⟩, ⟨Kd.vq HO1.out⟩, ⟨bq HB.out⟩⟩
 case round =>
  clear H'
  try clear c1
  try clear p2
  obtain ⟨x0_1, x1_1, HA, HK1, HO_0, HO_1, HB⟩ := hrel
  cases gk with
  | zero => exact absurd HA.out (by simp [e1_common.l0])
  | succ k1 =>
   have H := HA.out
   clear HA
   simp only [e1_common.l0] at H
   by_cases c3 : (x1_1.length : Int) > 0
   rotate_left
   ·rw [if_neg c3] at H
    have c3b0 : decide (0 < (x1_1.length : Int)) = false := decide_eq_false c3
    have c3b1 : decide (0 < x1_1.length) = false := decide_eq_false (by omega)
    clear c3
    obtain rfl := Option.some.inj H
    obtain ⟨Ao8, co8, eo8⟩ := Kd.V_slice HO_1.out
    subst eo8
    go_wp2
    go_ret
    exact ⟨_, by first | rfl | (simp [errW_none, errW_some] <;> rfl) | (simp [*, errW_none, errW_some] <;> rfl), by (with_reducible repeat (first | apply Kd.V_alloc | apply Kd.V_drewN | apply Kd.V_drew)); exact HO_0.out, bq HB.out⟩
   rw [if_pos c3] at H
   have c3b0 : decide (0 < (x1_1.length : Int)) = true := decide_eq_true c3
   have c3b1 : decide (0 < x1_1.length) = true := decide_eq_true (by omega)
   clear c3
   replace H := Option.bind_eq_some_iff.mp H
   obtain ⟨⟨t415, t418⟩, A40, H⟩ := H
   try dsimp only at H
   have A4 := Aside0.mk A40
   clear A40
   have H' := Aside0.mk H
   clear H
   obtain ⟨Ao5, co5, eo5⟩ := Kd.V_slice HO_1.out
   subst eo5
   obtain ⟨Ao6, co6, eo6⟩ := Kd.V_slice HO_0.out
   subst eo6
   go_wp2_with (first | ((with_reducible refine gate_callee (f := 66) rfl ?_); refine goesq (some 13) Tryd.func66 #[.slice Ao6 x0_1.length co6, .slice Ao5 x1_1.length co5] ?_; (with_reducible refine (e1_divide.calls k1 (fun k_ => ((P0_ k_ ∨ P1_ k_) ∨ w.heap.size ≤ k_)) _ _ x0_1 _ _ x1_1 t415 t418 _ ?side1 ?side2 ?side3 A4.out).mono ?_); (case side1 => exact HO_0.out); (case side2 => repeat (first | exact (Kd.V_reads' HO_1.out).2.2 | (with_reducible refine Kd.C_alloc ?_ _) | (with_reducible refine Kd.C_drewN ?_ _) | (with_reducible refine Kd.C_drew ?_))); (case side3 => exact (Kd.V_reads' HO_1.out).2.1); rintro e w7 ⟨v416, v419, rfl, ho0, ho1, hb⟩; refine ⟨_, rfl, ?_⟩; replace HO_0 := am (Kd.V_below (Kd.vq HO_0.out) hb); replace HO_1 := am (Kd.V_below (Kd.vq HO_1.out) hb); have HO417 := am (Kd.V_lower (Kd.V_mono (ok' := fun k_ => ((P0_ k_ ∨ P1_ k_) ∨ w.heap.size ≤ k_)) ho0 (fun k_ hk_ => Or.elim hk_ (fun hs_ => hs_) (fun hn_ => (.inr (Nat.le_trans (below_size (bq HB.out)) hn_))))) (below_size (bq HB.out))); have HO420 := am (Kd.V_lower (Kd.V_mono (ok' := fun k_ => ((P0_ k_ ∨ P1_ k_) ∨ w.heap.size ≤ k_)) ho1 (fun k_ hk_ => Or.elim hk_ (fun hs_ => hs_) (fun hn_ => (.inr (Nat.le_trans (below_size (bq HB.out)) hn_))))) (below_size (bq HB.out))); replace HB := am (below_step (bq HB.out) hb); (try clear hb); (try clear ho0); (try clear ho1)))
   go_roundg k1
   case measure => have := HK1.out; omega
   case rel => exact ⟨(x1_1), (t418), H', ⟨by have := HK1.out; omega⟩, ⟨Kd.vq HO_1.out⟩, ⟨Kd.vq HO420.out⟩, ⟨bq HB.out⟩⟩
def e1_GCD.f (k : Nat) (a0 : ByteArray) (a1 : ByteArray) : Option (ByteArray) := (e1_limbs.f k a0).bind fun t544 => ((e1_limbs.f k a1).bind fun t547 => ((e1_common.f k t544 t547).bind fun t550 => ((e1_text.f k t550).bind fun t553 => (some t553))))
set_option maxHeartbeats 8000000 in
set_option maxRecDepth 100000 in
theorem e1_GCD.calls (k : Nat) (a0 : ByteArray) (a1 : ByteArray) (r : ByteArray) (w : World) (h : e1_GCD.f k a0 a1 = some r) :
 Calls Tryd.prog 70 #[.string a0, .string a1] w fun e w' => e = .returned (.string r) ∧ Below w.heap.size w w' := by
 have HB := Aside0.mk (Below.refl w.heap.size w)
 have H : ((e1_limbs.f k a0).bind fun t544 => ((e1_limbs.f k a1).bind fun t547 => ((e1_common.f k t544 t547).bind fun t550 => ((e1_text.f k t550).bind fun t553 => (some t553))))) = some r := h
 clear h
 replace H := Option.bind_eq_some_iff.mp H
 obtain ⟨t544, A30, H⟩ := H
 try dsimp only at H
 have A3 := Aside0.mk A30
 clear A30
 replace H := Option.bind_eq_some_iff.mp H
 obtain ⟨t547, A40, H⟩ := H
 try dsimp only at H
 have A4 := Aside0.mk A40
 clear A40
 replace H := Option.bind_eq_some_iff.mp H
 obtain ⟨t550, A50, H⟩ := H
 try dsimp only at H
 have A5 := Aside0.mk A50
 clear A50
 replace H := Option.bind_eq_some_iff.mp H
 obtain ⟨t553, A60, H⟩ := H
 try dsimp only at H
 have A6 := Aside0.mk A60
 clear A60
 obtain rfl := Option.some.inj H
 go_enter Tryd.func70, Tryd.ntmps70
 go_wp2_with (first | ((with_reducible refine gate_callee (f := 53) rfl ?_); refine goesq (some 6) Tryd.func53 #[.string a0] ?_; (with_reducible refine (e1_limbs.calls k a0 t544 _ A3.out).mono ?_); rintro e w7 ⟨v545, rfl, ho0, hb⟩; refine ⟨_, rfl, ?_⟩; have HO546 := am (Kd.R_lower ho0 (below_size (bq HB.out))); replace HB := am (below_step (bq HB.out) hb); (try clear hb); (try clear ho0)) | ((with_reducible refine gate_callee (f := 53) rfl ?_); refine goesq (some 8) Tryd.func53 #[.string a1] ?_; (with_reducible refine (e1_limbs.calls k a1 t547 _ A4.out).mono ?_); rintro e w8 ⟨v548, rfl, ho0, hb⟩; refine ⟨_, rfl, ?_⟩; have HO549 := am (Kd.R_lower (Kd.R_new' ho0 (Kd.R_lt (Kd.rq HO546.out))) (below_size (bq HB.out))); replace HO546 := am (Kd.R_elder' (Kd.rq HO546.out) (Kd.R_base ho0) hb); replace HB := am (below_step (bq HB.out) hb); (try clear hb); (try clear ho0); obtain ⟨Ao9, co9, eo9⟩ := Kd.R_slice HO546.out; subst eo9; obtain ⟨Ao10, co10, eo10⟩ := Kd.R_slice HO549.out; subst eo10) | ((with_reducible refine gate_callee (f := 65) rfl ?_); refine goesq (some 9) Tryd.func65 #[.slice Ao9 t544.length co9, .slice Ao10 t547.length co10] ?_; (with_reducible refine (e1_common.calls k (fun k_ => some k_ = (.slice Ao9 t544.length co9 : Value).ownBlock) _ _ t544 (fun k_ => some k_ = (.slice Ao10 t547.length co10 : Value).ownBlock) _ _ t547 t550 _ ?side1 ?side2 A5.out).mono ?_); (case side1 => exact Kd.R_V (Kd.R_tight rfl (HO546.out))); (case side2 => exact Kd.R_V (Kd.R_tight rfl (HO549.out))); rintro e w11 ⟨v551, rfl, ho0, hb⟩; refine ⟨_, rfl, ?_⟩; replace HO546 := am (Kd.R_below (Kd.rq HO546.out) hb); replace HO549 := am (Kd.R_below (Kd.rq HO549.out) hb); have HO552 := am (Kd.V_lower (Kd.V_mono (ok' := fun k_ => True) ho0 (fun k_ hk_ => trivial)) (below_size (bq HB.out))); replace HB := am (below_step (bq HB.out) hb); (try clear hb); (try clear ho0); obtain ⟨Ao12, co12, eo12⟩ := Kd.V_slice HO552.out; subst eo12) | ((with_reducible refine gate_callee (f := 67) rfl ?_); refine goesq (some 10) Tryd.func67 #[.slice Ao12 t550.length co12] ?_; (with_reducible refine (e1_text.calls k _ _ t550 t553 _ ?side1 ?side2 A6.out).mono ?_); (case side1 => repeat (first | exact (Kd.V_reads' HO552.out).2.2 | (with_reducible refine Kd.C_alloc ?_ _) | (with_reducible refine Kd.C_drewN ?_ _) | (with_reducible refine Kd.C_drew ?_))); (case side2 => exact (Kd.V_reads' HO552.out).2.1); rintro e w13 ⟨rfl, hb⟩; refine ⟨_, rfl, ?_⟩; replace HO546 := am (Kd.R_below (Kd.rq HO546.out) hb); replace HO549 := am (Kd.R_below (Kd.rq HO549.out) hb); replace HO552 := am (Kd.V_below (Kd.vq HO552.out) hb); replace HB := am (below_step (bq HB.out) hb); (try clear hb)))
 go_ret
 exact ⟨by first | rfl | (simp [errW_none, errW_some] <;> rfl) | (simp [*, errW_none, errW_some] <;> rfl), bq HB.out⟩
def q_signOf.f (a0_0 : Bool) (a0_1 : ByteArray) (a0_2 : ByteArray) : Option (Int) := if a0_1.toList = ([] : List UInt8) then (some 0) else (if a0_0 = true then (some (-1)) else (some 1))
set_option maxHeartbeats 8000000 in
set_option maxRecDepth 100000 in
theorem q_signOf.calls (a0_0 : Bool) (a0_1 : ByteArray) (a0_2 : ByteArray) (r : Int) (w : World) (h : q_signOf.f a0_0 a0_1 a0_2 = some r) :
  Calls Tryd.prog 41 #[.agg #[.bool a0_0, .string a0_1, .string a0_2]] w fun e w' => e = .returned (.int .i64 r) ∧ Below w.heap.size w w' := by
 have hu30 := Tryd.underlying30
 have HB := Aside0.mk (Below.refl w.heap.size w)
 have H : (if a0_1.toList = ([] : List UInt8) then (some 0) else (if a0_0 = true then (some (-1)) else (some 1))) = some r := h
 clear h
 by_cases c2 : a0_1.toList = ([] : List UInt8)
 ·rw [if_pos c2] at H
  have c2b0 : (a0_1.toList == ([] : List UInt8)) = true := beq_iff_eq.mpr c2
  have c2b1 : (a0_1.toList != ([] : List UInt8)) = false := bne_eq_false_iff_eq.mpr c2
  clear c2
  obtain rfl := Option.some.inj H
  go_enter Tryd.func41, Tryd.ntmps41
  go_wp2_with (first | ((with_reducible refine gate_dst (N := 1) rfl ?_); refine box_event ?hg (N := 1) ?hd (cs := #[.bool a0_0, .string a0_1, .string a0_2]) (t := 30) ?hr ?_; (case hd => rfl); (case hg => rfl); (case hr => first | (go_simp; done) | (go_simp; rfl)); intro gb105 hg w3 hbox hb; have BK105 := am (hbox); have GW105 := am ((by rw [hg]; exact (below_size (bq HB.out)) : w.heap.size ≤ gb105)); have GE105 := am ((by rw [hg]; exact (below_size (bq HB.out)) : w.heap.size ≤ gb105)); replace HB := am (below_step (bq HB.out) hb); clear hb hbox hg; have hcz4_0 : w3.cell? ⟨gb105, 0, none⟩ = some (.bool a0_0) := (blk_cell BK105.out 0).trans rfl; have hcz4_1 : w3.cell? ⟨gb105, 1, none⟩ = some (.string a0_1) := (blk_cell BK105.out 1).trans rfl; have hcz4_2 : w3.cell? ⟨gb105, 2, none⟩ = some (.string a0_2) := (blk_cell BK105.out 2).trans rfl; have hfz4_0 := blk_frozen BK105.out 0; have hfz4_1 := blk_frozen BK105.out 1; have hfz4_2 := blk_frozen BK105.out 2))
  go_ret
  exact ⟨by first | rfl | (simp [errW_none, errW_some] <;> rfl) | (simp [*, errW_none, errW_some] <;> rfl), bq HB.out⟩
 rw [if_neg c2] at H
 have c2b0 : (a0_1.toList == ([] : List UInt8)) = false := beq_eq_false_iff_ne.mpr c2
 have c2b1 : (a0_1.toList != ([] : List UInt8)) = true := bne_iff_ne.mpr c2
 by_cases c5 : a0_0 = true
 ·subst c5
  rw [if_pos rfl] at H
  obtain rfl := Option.some.inj H
  go_enter Tryd.func41, Tryd.ntmps41
  go_wp2_with (first | ((with_reducible refine gate_dst (N := 1) rfl ?_); refine box_event ?hg (N := 1) ?hd (cs := #[.bool true, .string a0_1, .string a0_2]) (t := 30) ?hr ?_; (case hd => rfl); (case hg => rfl); (case hr => first | (go_simp; done) | (go_simp; rfl)); intro gb105 hg w6 hbox hb; have BK105 := am (hbox); have GW105 := am ((by rw [hg]; exact (below_size (bq HB.out)) : w.heap.size ≤ gb105)); have GE105 := am ((by rw [hg]; exact (below_size (bq HB.out)) : w.heap.size ≤ gb105)); replace HB := am (below_step (bq HB.out) hb); clear hb hbox hg; have hcz7_0 : w6.cell? ⟨gb105, 0, none⟩ = some (.bool true) := (blk_cell BK105.out 0).trans rfl; have hcz7_1 : w6.cell? ⟨gb105, 1, none⟩ = some (.string a0_1) := (blk_cell BK105.out 1).trans rfl; have hcz7_2 : w6.cell? ⟨gb105, 2, none⟩ = some (.string a0_2) := (blk_cell BK105.out 2).trans rfl; have hfz7_0 := blk_frozen BK105.out 0; have hfz7_1 := blk_frozen BK105.out 1; have hfz7_2 := blk_frozen BK105.out 2))
  go_ret
  exact ⟨by first | rfl | (simp [errW_none, errW_some] <;> rfl) | (simp [*, errW_none, errW_some] <;> rfl), bq HB.out⟩
 replace c5 := Bool.eq_false_iff.mpr c5
 subst c5
 rw [if_neg (show ¬ (false = true) by decide)] at H
 obtain rfl := Option.some.inj H
 go_enter Tryd.func41, Tryd.ntmps41
 go_wp2_with (first | ((with_reducible refine gate_dst (N := 1) rfl ?_); refine box_event ?hg (N := 1) ?hd (cs := #[.bool false, .string a0_1, .string a0_2]) (t := 30) ?hr ?_; (case hd => rfl); (case hg => rfl); (case hr => first | (go_simp; done) | (go_simp; rfl)); intro gb105 hg w8 hbox hb; have BK105 := am (hbox); have GW105 := am ((by rw [hg]; exact (below_size (bq HB.out)) : w.heap.size ≤ gb105)); have GE105 := am ((by rw [hg]; exact (below_size (bq HB.out)) : w.heap.size ≤ gb105)); replace HB := am (below_step (bq HB.out) hb); clear hb hbox hg; have hcz9_0 : w8.cell? ⟨gb105, 0, none⟩ = some (.bool false) := (blk_cell BK105.out 0).trans rfl; have hcz9_1 : w8.cell? ⟨gb105, 1, none⟩ = some (.string a0_1) := (blk_cell BK105.out 1).trans rfl; have hcz9_2 : w8.cell? ⟨gb105, 2, none⟩ = some (.string a0_2) := (blk_cell BK105.out 2).trans rfl; have hfz9_0 := blk_frozen BK105.out 0; have hfz9_1 := blk_frozen BK105.out 1; have hfz9_2 := blk_frozen BK105.out 2))
 go_ret
 exact ⟨by first | rfl | (simp [errW_none, errW_some] <;> rfl) | (simp [*, errW_none, errW_some] <;> rfl), bq HB.out⟩
def q_Valid.j0 : Nat → Bool → Bool → ByteArray → ByteArray → Option (Bool)
 | 0, _, _, _, _ => none
 | k + 1, x16, x259000, x259001, x259002 => if x16 = true then (some false) else (if x259001.toList = ([] : List UInt8) then (if x259000 = true then (some false) else (some (x259002.toList == ([] : List UInt8)))) else (if x259002.toList = ([] : List UInt8) then (some true) else (if x259002.toList = ([1] : List UInt8) then (some false) else ((n_GCD.f k x259001 x259002).bind fun t261 => (some (t261.toList == ([1] : List UInt8)))))))
def q_Valid.f (k : Nat) (a0_0 : Bool) (a0_1 : ByteArray) (a0_2 : ByteArray) : Option (Bool) := (n_Normalize.f a0_1).bind fun t259 => (if t259.toList = a0_1.toList then ((n_Normalize.f a0_2).bind fun t260 => (q_Valid.j0 k (t260.toList != a0_2.toList) a0_0 a0_1 a0_2)) else (q_Valid.j0 k true a0_0 a0_1 a0_2))
set_option maxHeartbeats 8000000 in
set_option maxRecDepth 100000 in
theorem q_Valid.calls (k : Nat) (a0_0 : Bool) (a0_1 : ByteArray) (a0_2 : ByteArray) (r : Bool) (w : World) (h : q_Valid.f k a0_0 a0_1 a0_2 = some r) :
  Calls Tryd.prog 60 #[.agg #[.bool a0_0, .string a0_1, .string a0_2]] w fun e w' => e = .returned (.bool r) ∧ Below w.heap.size w w' := by
 have hu30 := Tryd.underlying30
 have HB := Aside0.mk (Below.refl w.heap.size w)
 have H : ((n_Normalize.f a0_1).bind fun t259 => (if t259.toList = a0_1.toList then ((n_Normalize.f a0_2).bind fun t260 => (q_Valid.j0 k (t260.toList != a0_2.toList) a0_0 a0_1 a0_2)) else (q_Valid.j0 k true a0_0 a0_1 a0_2))) = some r := h
 clear h
 have HC2 := Aside0.mk H
 clear H
 go_enter Tryd.func60, Tryd.ntmps60
 go_upto_region 1 with (first | ((with_reducible refine gate_dst (N := 1) rfl ?_); refine box_event ?hg (N := 1) ?hd (cs := #[.bool a0_0, .string a0_1, .string a0_2]) (t := 30) ?hr ?_; (case hd => rfl); (case hg => rfl); (case hr => first | (go_simp; done) | (go_simp; rfl)); intro gb258 hg w3 hbox hb; have BK258 := am (hbox); have GW258 := am ((by rw [hg]; exact (below_size (bq HB.out)) : w.heap.size ≤ gb258)); have GE258 := am ((by rw [hg]; exact (below_size (bq HB.out)) : w.heap.size ≤ gb258)); replace HB := am (below_step (bq HB.out) hb); clear hb hbox hg))
 (try simp only [Act.put, List.setIfInBounds_toArray, List.set_cons_zero, List.set_cons_succ])
 go_cut [16] (fun v16 wc => ∃ (kq : Nat) (x16_1 : Bool), v16 = .bool x16_1 ∧ Aside0 (q_Valid.j0 kq x16_1 a0_0 a0_1 a0_2 = some r) ∧ Aside0 (kq ≤ k) ∧ Aside0 (wc.heap[gb258]? = some (.cells #[.bool a0_0, .string a0_1, .string a0_2] 30 (0, 0))) ∧ Aside0 (Below w.heap.size w wc))
 case first =>
  have H := HC2.out
  clear HC2
  replace H := Option.bind_eq_some_iff.mp H
  obtain ⟨t259, A40, H⟩ := H
  try dsimp only at H
  have A4 := Aside0.mk A40
  clear A40
  by_cases c5 : t259.toList = a0_1.toList
  rotate_left
  ·rw [if_neg c5] at H
   have c5b0 : (t259.toList == a0_1.toList) = false := beq_eq_false_iff_ne.mpr c5
   have c5b1 : (t259.toList != a0_1.toList) = true := bne_iff_ne.mpr c5
   (first | rw [c5b0] | (simp only [i64_w, i32_w]; rw [c5b0]) | skip)
   have H' := Aside0.mk H
   clear H
   have hcz8_0 : w3.cell? ⟨gb258, 0, none⟩ = some (.bool a0_0) := (blk_cell BK258.out 0).trans rfl
   have hcz8_1 : w3.cell? ⟨gb258, 1, none⟩ = some (.string a0_1) := (blk_cell BK258.out 1).trans rfl
   have hcz8_2 : w3.cell? ⟨gb258, 2, none⟩ = some (.string a0_2) := (blk_cell BK258.out 2).trans rfl
   have hfz8_0 := blk_frozen BK258.out 0
   have hfz8_1 := blk_frozen BK258.out 1
   have hfz8_2 := blk_frozen BK258.out 2
   go_wp2_with (first | (go_at_call 44; (with_reducible refine (n_Normalize.calls a0_1 t259 _ A4.out).mono ?_); rintro e w' ⟨rfl, ⟨nd, rfl⟩⟩; (try first | exact ⟨rfl, _, World.drewN_drewN _ _ _⟩ | exact ⟨rfl, _, Eq.trans (World.drewN_drewN _ _ _) (congrArg (World.drewN _) (Nat.add_assoc _ _ _))⟩)))
   repeat (go_quiet (first | (go_at_call 44; (with_reducible refine (n_Normalize.calls a0_1 t259 _ A4.out).mono ?_); rintro e w' ⟨rfl, ⟨nd, rfl⟩⟩; (try first | exact ⟨rfl, _, World.drewN_drewN _ _ _⟩ | exact ⟨rfl, _, Eq.trans (World.drewN_drewN _ _ _) (congrArg (World.drewN _) (Nat.add_assoc _ _ _))⟩))); try go_wp2_with (first | (go_at_call 44; (with_reducible refine (n_Normalize.calls a0_1 t259 _ A4.out).mono ?_); rintro e w' ⟨rfl, ⟨nd, rfl⟩⟩; (try first | exact ⟨rfl, _, World.drewN_drewN _ _ _⟩ | exact ⟨rfl, _, Eq.trans (World.drewN_drewN _ _ _) (congrArg (World.drewN _) (Nat.add_assoc _ _ _))⟩))))
   go_meet
   case rel => exact ⟨_, (true), (by first | rfl | (simp; done) | (simp [*]; done)), H', ⟨by first | omega | exact Nat.le_refl _⟩, ⟨by (with_reducible repeat (first | refine blk_drewN ?_ _ | refine blk_drew ?_ | refine blk_alloc ?_ _)); exact BK258.out⟩, ⟨bq HB.out⟩⟩
  rw [if_pos c5] at H
  have c5b0 : (t259.toList == a0_1.toList) = true := beq_iff_eq.mpr c5
  have c5b1 : (t259.toList != a0_1.toList) = false := bne_eq_false_iff_eq.mpr c5
  clear c5
  (first | rw [c5b0] | (simp only [i64_w, i32_w]; rw [c5b0]) | skip)
  replace H := Option.bind_eq_some_iff.mp H
  obtain ⟨t260, A60, H⟩ := H
  try dsimp only at H
  have A6 := Aside0.mk A60
  clear A60
  have H' := Aside0.mk H
  clear H
  have hcz7_0 : w3.cell? ⟨gb258, 0, none⟩ = some (.bool a0_0) := (blk_cell BK258.out 0).trans rfl
  have hcz7_1 : w3.cell? ⟨gb258, 1, none⟩ = some (.string a0_1) := (blk_cell BK258.out 1).trans rfl
  have hcz7_2 : w3.cell? ⟨gb258, 2, none⟩ = some (.string a0_2) := (blk_cell BK258.out 2).trans rfl
  have hfz7_0 := blk_frozen BK258.out 0
  have hfz7_1 := blk_frozen BK258.out 1
  have hfz7_2 := blk_frozen BK258.out 2
  go_wp2_with (first | (go_at_call 44; (with_reducible refine (n_Normalize.calls a0_1 t259 _ A4.out).mono ?_); rintro e w' ⟨rfl, ⟨nd, rfl⟩⟩; (try first | exact ⟨rfl, _, World.drewN_drewN _ _ _⟩ | exact ⟨rfl, _, Eq.trans (World.drewN_drewN _ _ _) (congrArg (World.drewN _) (Nat.add_assoc _ _ _))⟩)) | (go_at_call 44; (with_reducible refine (n_Normalize.calls a0_2 t260 _ A6.out).mono ?_); rintro e w' ⟨rfl, ⟨nd, rfl⟩⟩; (try first | exact ⟨rfl, _, World.drewN_drewN _ _ _⟩ | exact ⟨rfl, _, Eq.trans (World.drewN_drewN _ _ _) (congrArg (World.drewN _) (Nat.add_assoc _ _ _))⟩)))
  repeat (go_quiet (first | (go_at_call 44; (with_reducible refine (n_Normalize.calls a0_1 t259 _ A4.out).mono ?_); rintro e w' ⟨rfl, ⟨nd, rfl⟩⟩; (try first | exact ⟨rfl, _, World.drewN_drewN _ _ _⟩ | exact ⟨rfl, _, Eq.trans (World.drewN_drewN _ _ _) (congrArg (World.drewN _) (Nat.add_assoc _ _ _))⟩)) | (go_at_call 44; (with_reducible refine (n_Normalize.calls a0_2 t260 _ A6.out).mono ?_); rintro e w' ⟨rfl, ⟨nd, rfl⟩⟩; (try first | exact ⟨rfl, _, World.drewN_drewN _ _ _⟩ | exact ⟨rfl, _, Eq.trans (World.drewN_drewN _ _ _) (congrArg (World.drewN _) (Nat.add_assoc _ _ _))⟩))); try go_wp2_with (first | (go_at_call 44; (with_reducible refine (n_Normalize.calls a0_1 t259 _ A4.out).mono ?_); rintro e w' ⟨rfl, ⟨nd, rfl⟩⟩; (try first | exact ⟨rfl, _, World.drewN_drewN _ _ _⟩ | exact ⟨rfl, _, Eq.trans (World.drewN_drewN _ _ _) (congrArg (World.drewN _) (Nat.add_assoc _ _ _))⟩)) | (go_at_call 44; (with_reducible refine (n_Normalize.calls a0_2 t260 _ A6.out).mono ?_); rintro e w' ⟨rfl, ⟨nd, rfl⟩⟩; (try first | exact ⟨rfl, _, World.drewN_drewN _ _ _⟩ | exact ⟨rfl, _, Eq.trans (World.drewN_drewN _ _ _) (congrArg (World.drewN _) (Nat.add_assoc _ _ _))⟩))))
  go_meet
  case rel => exact ⟨_, ((t260.toList != a0_2.toList)), (by first | rfl | (simp; done) | (simp [*]; done)), H', ⟨by first | omega | exact Nat.le_refl _⟩, ⟨by (with_reducible repeat (first | refine blk_drewN ?_ _ | refine blk_drew ?_ | refine blk_alloc ?_ _)); exact BK258.out⟩, ⟨bq HB.out⟩⟩
 case rest =>
  clear HC2
  try clear p2
  try clear c5
  try clear c5b0
  try clear c5b1
  try clear c6
  try clear hcz7_0
  try clear hcz7_1
  try clear hcz7_2
  try clear hcz8_0
  try clear hcz8_1
  try clear hcz8_2
  try clear hfz7_0
  try clear hfz7_1
  try clear hfz7_2
  try clear hfz8_0
  try clear hfz8_1
  try clear hfz8_2
  obtain ⟨kq, x16_1, rfl, HA, HJ1, BK258, HB⟩ := hcut
  cases kq with
  | zero => exact absurd HA.out (by simp [q_Valid.j0])
  | succ kj1 =>
   have H := HA.out
   clear HA
   simp only [q_Valid.j0] at H
   by_cases c9 : x16_1 = true
   ·subst c9
    rw [if_pos rfl] at H
    obtain rfl := Option.some.inj H
    go_wp2
    go_ret
    exact ⟨by first | rfl | (simp [errW_none, errW_some] <;> rfl) | (simp [*, errW_none, errW_some] <;> rfl), bq HB.out⟩
   replace c9 := Bool.eq_false_iff.mpr c9
   subst c9
   rw [if_neg (show ¬ (false = true) by decide)] at H
   by_cases c10 : a0_1.toList = ([] : List UInt8)
   ·rw [if_pos c10] at H
    have c10b0 : (a0_1.toList == ([] : List UInt8)) = true := beq_iff_eq.mpr c10
    have c10b1 : (a0_1.toList != ([] : List UInt8)) = false := bne_eq_false_iff_eq.mpr c10
    clear c10
    by_cases c11 : a0_0 = true
    ·subst c11
     rw [if_pos rfl] at H
     obtain rfl := Option.some.inj H
     have hcz12_0 : wc.cell? ⟨gb258, 0, none⟩ = some (.bool true) := (blk_cell BK258.out 0).trans rfl
     have hcz12_1 : wc.cell? ⟨gb258, 1, none⟩ = some (.string a0_1) := (blk_cell BK258.out 1).trans rfl
     have hcz12_2 : wc.cell? ⟨gb258, 2, none⟩ = some (.string a0_2) := (blk_cell BK258.out 2).trans rfl
     have hfz12_0 := blk_frozen BK258.out 0
     have hfz12_1 := blk_frozen BK258.out 1
     have hfz12_2 := blk_frozen BK258.out 2
     go_wp2
     go_ret
     exact ⟨by first | rfl | (simp [errW_none, errW_some] <;> rfl) | (simp [*, errW_none, errW_some] <;> rfl), bq HB.out⟩
    replace c11 := Bool.eq_false_iff.mpr c11
    subst c11
    rw [if_neg (show ¬ (false = true) by decide)] at H
    obtain rfl := Option.some.inj H
    have hcz13_0 : wc.cell? ⟨gb258, 0, none⟩ = some (.bool false) := (blk_cell BK258.out 0).trans rfl
    have hcz13_1 : wc.cell? ⟨gb258, 1, none⟩ = some (.string a0_1) := (blk_cell BK258.out 1).trans rfl
    have hcz13_2 : wc.cell? ⟨gb258, 2, none⟩ = some (.string a0_2) := (blk_cell BK258.out 2).trans rfl
    have hfz13_0 := blk_frozen BK258.out 0
    have hfz13_1 := blk_frozen BK258.out 1
    have hfz13_2 := blk_frozen BK258.out 2
    go_wp2
    go_ret
    exact ⟨by first | rfl | (simp [errW_none, errW_some] <;> rfl) | (simp [*, errW_none, errW_some] <;> rfl), bq HB.out⟩
   rw [if_neg c10] at H
   have c10b0 : (a0_1.toList == ([] : List UInt8)) = false := beq_eq_false_iff_ne.mpr c10
   have c10b1 : (a0_1.toList != ([] : List UInt8)) = true := bne_iff_ne.mpr c10
   by_cases c14 : a0_2.toList = ([] : List UInt8)
   ·rw [if_pos c14] at H
    have c14b0 : (a0_2.toList == ([] : List UInt8)) = true := beq_iff_eq.mpr c14
    have c14b1 : (a0_2.toList != ([] : List UInt8)) = false := bne_eq_false_iff_eq.mpr c14
    clear c14
    obtain rfl := Option.some.inj H
    have hcz15_0 : wc.cell? ⟨gb258, 0, none⟩ = some (.bool a0_0) := (blk_cell BK258.out 0).trans rfl
    have hcz15_1 : wc.cell? ⟨gb258, 1, none⟩ = some (.string a0_1) := (blk_cell BK258.out 1).trans rfl
    have hcz15_2 : wc.cell? ⟨gb258, 2, none⟩ = some (.string a0_2) := (blk_cell BK258.out 2).trans rfl
    have hfz15_0 := blk_frozen BK258.out 0
    have hfz15_1 := blk_frozen BK258.out 1
    have hfz15_2 := blk_frozen BK258.out 2
    go_wp2
    go_ret
    exact ⟨by first | rfl | (simp [errW_none, errW_some] <;> rfl) | (simp [*, errW_none, errW_some] <;> rfl), bq HB.out⟩
   rw [if_neg c14] at H
   have c14b0 : (a0_2.toList == ([] : List UInt8)) = false := beq_eq_false_iff_ne.mpr c14
   have c14b1 : (a0_2.toList != ([] : List UInt8)) = true := bne_iff_ne.mpr c14
   by_cases c16 : a0_2.toList = ([1] : List UInt8)
   ·rw [if_pos c16] at H
    have c16b0 : (a0_2.toList == ([1] : List UInt8)) = true := beq_iff_eq.mpr c16
    have c16b1 : (a0_2.toList != ([1] : List UInt8)) = false := bne_eq_false_iff_eq.mpr c16
    clear c16
    obtain rfl := Option.some.inj H
    have hcz17_0 : wc.cell? ⟨gb258, 0, none⟩ = some (.bool a0_0) := (blk_cell BK258.out 0).trans rfl
    have hcz17_1 : wc.cell? ⟨gb258, 1, none⟩ = some (.string a0_1) := (blk_cell BK258.out 1).trans rfl
    have hcz17_2 : wc.cell? ⟨gb258, 2, none⟩ = some (.string a0_2) := (blk_cell BK258.out 2).trans rfl
    have hfz17_0 := blk_frozen BK258.out 0
    have hfz17_1 := blk_frozen BK258.out 1
    have hfz17_2 := blk_frozen BK258.out 2
    go_wp2
    go_ret
    exact ⟨by first | rfl | (simp [errW_none, errW_some] <;> rfl) | (simp [*, errW_none, errW_some] <;> rfl), bq HB.out⟩
   rw [if_neg c16] at H
   have c16b0 : (a0_2.toList == ([1] : List UInt8)) = false := beq_eq_false_iff_ne.mpr c16
   have c16b1 : (a0_2.toList != ([1] : List UInt8)) = true := bne_iff_ne.mpr c16
   replace H := Option.bind_eq_some_iff.mp H
   obtain ⟨t261, A180, H⟩ := H
   try dsimp only at H
   have A18 := Aside0.mk A180
   clear A180
   obtain rfl := Option.some.inj H
   have hcz19_0 : wc.cell? ⟨gb258, 0, none⟩ = some (.bool a0_0) := (blk_cell BK258.out 0).trans rfl
   have hcz19_1 : wc.cell? ⟨gb258, 1, none⟩ = some (.string a0_1) := (blk_cell BK258.out 1).trans rfl
   have hcz19_2 : wc.cell? ⟨gb258, 2, none⟩ = some (.string a0_2) := (blk_cell BK258.out 2).trans rfl
   have hfz19_0 := blk_frozen BK258.out 0
   have hfz19_1 := blk_frozen BK258.out 1
   have hfz19_2 := blk_frozen BK258.out 2
   go_wp2_with (first | (go_at_call 45; (with_reducible refine (n_GCD.calls kj1 a0_1 a0_2 t261 _ A18.out).mono ?_); rintro e w20 ⟨rfl, hb⟩; replace BK258 := am (blk_below (g := gb258) (o := .cells #[.bool a0_0, .string a0_1, .string a0_2] 30 (0, 0)) (kq BK258.out) hb); replace HB := am (below_step (bq HB.out) hb); (try clear hb)))
   go_ret
   exact ⟨by first | rfl | (simp [errW_none, errW_some] <;> rfl) | (simp [*, errW_none, errW_some] <;> rfl), bq HB.out⟩
def q_clean.f (k : Nat) (a0_0 : Bool) (a0_1 : ByteArray) (a0_2 : ByteArray) : Option (Bool × ByteArray × ByteArray) := (q_Valid.f k a0_0 a0_1 a0_2).bind fun t264 => (if t264 = true then (some (a0_0, a0_1, a0_2)) else (some (false, (⟨#[]⟩ : ByteArray), (⟨#[]⟩ : ByteArray))))
set_option maxHeartbeats 8000000 in
set_option maxRecDepth 100000 in
theorem q_clean.calls (k : Nat) (a0_0 : Bool) (a0_1 : ByteArray) (a0_2 : ByteArray) (r1 : Bool) (r2 : ByteArray) (r3 : ByteArray) (w : World) (h : q_clean.f k a0_0 a0_1 a0_2 = some (r1, r2, r3)) :
  Calls Tryd.prog 42 #[.agg #[.bool a0_0, .string a0_1, .string a0_2]] w fun e w' => e = .returned (.agg #[.bool r1, .string r2, .string r3]) ∧ Below w.heap.size w w' := by
 have hu30 := Tryd.underlying30
 have HB := Aside0.mk (Below.refl w.heap.size w)
 have H : ((q_Valid.f k a0_0 a0_1 a0_2).bind fun t264 => (if t264 = true then (some (a0_0, a0_1, a0_2)) else (some (false, (⟨#[]⟩ : ByteArray), (⟨#[]⟩ : ByteArray))))) = some (r1, r2, r3) := h
 clear h
 replace H := Option.bind_eq_some_iff.mp H
 obtain ⟨t264, A20, H⟩ := H
 try dsimp only at H
 have A2 := Aside0.mk A20
 clear A20
 by_cases c3 : t264 = true
 rotate_left
 ·replace c3 := Bool.eq_false_iff.mpr c3
  subst c3
  rw [if_neg (show ¬ (false = true) by decide)] at H
  simp only [Option.some.injEq, Prod.mk.injEq] at H
  obtain ⟨rfl, rfl, rfl⟩ := H
  go_enter Tryd.func42, Tryd.ntmps42
  go_wp2_with (first | ((with_reducible refine gate_dst (N := 1) rfl ?_); refine box_event ?hg (N := 1) ?hd (cs := #[.bool a0_0, .string a0_1, .string a0_2]) (t := 30) ?hr ?_; (case hd => rfl); (case hg => rfl); (case hr => first | (go_simp; done) | (go_simp; rfl)); intro gb262 hg w11 hbox hb; have BK262 := am (hbox); have GW262 := am ((by rw [hg]; exact (below_size (bq HB.out)) : w.heap.size ≤ gb262)); have GE262 := am ((by rw [hg]; exact (below_size (bq HB.out)) : w.heap.size ≤ gb262)); replace HB := am (below_step (bq HB.out) hb); clear hb hbox hg) | ((with_reducible refine gate_dst (N := 2) rfl ?_); refine box_event ?hg (N := 2) ?hd (cs := #[.bool false, .string (⟨#[]⟩ : ByteArray), .string (⟨#[]⟩ : ByteArray)]) (t := 30) ?hr ?_; (case hd => rfl); (case hg => rfl); (case hr => first | (go_simp; done) | (go_simp; rfl)); intro gb263 hg w12 hbox hb; have BK263 := am (hbox); have GW263 := am ((by rw [hg]; exact (below_size (bq HB.out)) : w.heap.size ≤ gb263)); have GE263 := am ((by rw [hg]; exact (below_size (bq HB.out)) : w.heap.size ≤ gb263)); replace HB := am (below_step (bq HB.out) hb); have NB262_263 := am ((by rw [hg]; exact Nat.ne_of_lt (blk_lt (g := gb262) (o := .cells #[.bool a0_0, .string a0_1, .string a0_2] 30 (0, 0)) (kq BK262.out)) : gb262 ≠ gb263)); have NB263_262 := am ((by rw [hg]; exact Nat.ne_of_gt (blk_lt (g := gb262) (o := .cells #[.bool a0_0, .string a0_1, .string a0_2] 30 (0, 0)) (kq BK262.out)) : gb263 ≠ gb262)); replace BK262 := am (blk_below (g := gb262) (o := .cells #[.bool a0_0, .string a0_1, .string a0_2] 30 (0, 0)) (kq BK262.out) hb); clear hb hbox hg; have hnb13 := NB262_263.out; have hnc13 := NB263_262.out; have hcz14_0 : w12.cell? ⟨gb262, 0, none⟩ = some (.bool a0_0) := (blk_cell BK262.out 0).trans rfl; have hcz14_1 : w12.cell? ⟨gb262, 1, none⟩ = some (.string a0_1) := (blk_cell BK262.out 1).trans rfl; have hcz14_2 : w12.cell? ⟨gb262, 2, none⟩ = some (.string a0_2) := (blk_cell BK262.out 2).trans rfl; have hfz14_0 := blk_frozen BK262.out 0; have hfz14_1 := blk_frozen BK262.out 1; have hfz14_2 := blk_frozen BK262.out 2) | ((with_reducible refine gate_callee (f := 60) rfl ?_); refine goesq (some 4) Tryd.func60 #[.agg #[.bool a0_0, .string a0_1, .string a0_2]] ?_; (with_reducible refine (q_Valid.calls k a0_0 a0_1 a0_2 false _ A2.out).mono ?_); rintro e w15 ⟨rfl, hb⟩; refine ⟨_, rfl, ?_⟩; replace BK262 := am (blk_below (g := gb262) (o := .cells #[.bool a0_0, .string a0_1, .string a0_2] 30 (0, 0)) (kq BK262.out) hb); replace BK263 := am (blk_below (g := gb263) (o := .cells #[.bool false, .string (⟨#[]⟩ : ByteArray), .string (⟨#[]⟩ : ByteArray)] 30 (0, 0)) (kq BK263.out) hb); replace HB := am (below_step (bq HB.out) hb); (try clear hb); have hcz16_0 : w15.cell? ⟨gb263, 0, none⟩ = some (.bool false) := (blk_cell BK263.out 0).trans rfl; have hcz16_1 : w15.cell? ⟨gb263, 1, none⟩ = some (.string (⟨#[]⟩ : ByteArray)) := (blk_cell BK263.out 1).trans rfl; have hcz16_2 : w15.cell? ⟨gb263, 2, none⟩ = some (.string (⟨#[]⟩ : ByteArray)) := (blk_cell BK263.out 2).trans rfl; have hfz16_0 := blk_frozen BK263.out 0; have hfz16_1 := blk_frozen BK263.out 1; have hfz16_2 := blk_frozen BK263.out 2))
  refine bodyPost_ret (results_cell_row rfl _ _ gb263 30 #[.bool false, .string (⟨#[]⟩ : ByteArray), .string (⟨#[]⟩ : ByteArray)] (0, 0) _ rfl (by (with_reducible repeat (first | refine blk_drewN ?_ _ | refine blk_drew ?_ | refine blk_alloc ?_ _)); refine blk_put (cs := #[.bool false, .string (⟨#[]⟩ : ByteArray), .string (⟨#[]⟩ : ByteArray)]) ?_ 2 _ rfl; (with_reducible repeat (first | refine blk_drewN ?_ _ | refine blk_drew ?_ | refine blk_alloc ?_ _)); refine blk_put (cs := #[.bool false, .string (⟨#[]⟩ : ByteArray), .string (⟨#[]⟩ : ByteArray)]) ?_ 1 _ rfl; (with_reducible repeat (first | refine blk_drewN ?_ _ | refine blk_drew ?_ | refine blk_alloc ?_ _)); refine blk_put (cs := #[.bool false, .string (⟨#[]⟩ : ByteArray), .string (⟨#[]⟩ : ByteArray)]) ?_ 0 _ rfl; (with_reducible repeat (first | refine blk_drewN ?_ _ | refine blk_drew ?_ | refine blk_alloc ?_ _)); exact BK263.out) Tryd.underlying30 rfl (by kernel_rfl)) rfl ?_
  exact ⟨by first | rfl | (simp [errW_none, errW_some] <;> rfl) | (simp [*, errW_none, errW_some] <;> rfl), bq HB.out⟩
 subst c3
 rw [if_pos rfl] at H
 simp only [Option.some.injEq, Prod.mk.injEq] at H
 obtain ⟨rfl, rfl, rfl⟩ := H
 go_enter Tryd.func42, Tryd.ntmps42
 go_wp2_with (first | ((with_reducible refine gate_dst (N := 1) rfl ?_); refine box_event ?hg (N := 1) ?hd (cs := #[.bool a0_0, .string a0_1, .string a0_2]) (t := 30) ?hr ?_; (case hd => rfl); (case hg => rfl); (case hr => first | (go_simp; done) | (go_simp; rfl)); intro gb262 hg w4 hbox hb; have BK262 := am (hbox); have GW262 := am ((by rw [hg]; exact (below_size (bq HB.out)) : w.heap.size ≤ gb262)); have GE262 := am ((by rw [hg]; exact (below_size (bq HB.out)) : w.heap.size ≤ gb262)); replace HB := am (below_step (bq HB.out) hb); clear hb hbox hg) | ((with_reducible refine gate_dst (N := 2) rfl ?_); refine box_event ?hg (N := 2) ?hd (cs := #[.bool false, .string (⟨#[]⟩ : ByteArray), .string (⟨#[]⟩ : ByteArray)]) (t := 30) ?hr ?_; (case hd => rfl); (case hg => rfl); (case hr => first | (go_simp; done) | (go_simp; rfl)); intro gb263 hg w5 hbox hb; have BK263 := am (hbox); have GW263 := am ((by rw [hg]; exact (below_size (bq HB.out)) : w.heap.size ≤ gb263)); have GE263 := am ((by rw [hg]; exact (below_size (bq HB.out)) : w.heap.size ≤ gb263)); replace HB := am (below_step (bq HB.out) hb); have NB262_263 := am ((by rw [hg]; exact Nat.ne_of_lt (blk_lt (g := gb262) (o := .cells #[.bool a0_0, .string a0_1, .string a0_2] 30 (0, 0)) (kq BK262.out)) : gb262 ≠ gb263)); have NB263_262 := am ((by rw [hg]; exact Nat.ne_of_gt (blk_lt (g := gb262) (o := .cells #[.bool a0_0, .string a0_1, .string a0_2] 30 (0, 0)) (kq BK262.out)) : gb263 ≠ gb262)); replace BK262 := am (blk_below (g := gb262) (o := .cells #[.bool a0_0, .string a0_1, .string a0_2] 30 (0, 0)) (kq BK262.out) hb); clear hb hbox hg; have hnb6 := NB262_263.out; have hnc6 := NB263_262.out; have hcz7_0 : w5.cell? ⟨gb262, 0, none⟩ = some (.bool a0_0) := (blk_cell BK262.out 0).trans rfl; have hcz7_1 : w5.cell? ⟨gb262, 1, none⟩ = some (.string a0_1) := (blk_cell BK262.out 1).trans rfl; have hcz7_2 : w5.cell? ⟨gb262, 2, none⟩ = some (.string a0_2) := (blk_cell BK262.out 2).trans rfl; have hfz7_0 := blk_frozen BK262.out 0; have hfz7_1 := blk_frozen BK262.out 1; have hfz7_2 := blk_frozen BK262.out 2) | ((with_reducible refine gate_callee (f := 60) rfl ?_); refine goesq (some 4) Tryd.func60 #[.agg #[.bool a0_0, .string a0_1, .string a0_2]] ?_; (with_reducible refine (q_Valid.calls k a0_0 a0_1 a0_2 true _ A2.out).mono ?_); rintro e w8 ⟨rfl, hb⟩; refine ⟨_, rfl, ?_⟩; replace BK262 := am (blk_below (g := gb262) (o := .cells #[.bool a0_0, .string a0_1, .string a0_2] 30 (0, 0)) (kq BK262.out) hb); replace BK263 := am (blk_below (g := gb263) (o := .cells #[.bool false, .string (⟨#[]⟩ : ByteArray), .string (⟨#[]⟩ : ByteArray)] 30 (0, 0)) (kq BK263.out) hb); replace HB := am (below_step (bq HB.out) hb); (try clear hb); have hcz9_0 : w8.cell? ⟨gb262, 0, none⟩ = some (.bool a0_0) := (blk_cell BK262.out 0).trans rfl; have hcz9_1 : w8.cell? ⟨gb262, 1, none⟩ = some (.string a0_1) := (blk_cell BK262.out 1).trans rfl; have hcz9_2 : w8.cell? ⟨gb262, 2, none⟩ = some (.string a0_2) := (blk_cell BK262.out 2).trans rfl; have hfz9_0 := blk_frozen BK262.out 0; have hfz9_1 := blk_frozen BK262.out 1; have hfz9_2 := blk_frozen BK262.out 2; have hcz10_0 : w8.cell? ⟨gb263, 0, none⟩ = some (.bool false) := (blk_cell BK263.out 0).trans rfl; have hcz10_1 : w8.cell? ⟨gb263, 1, none⟩ = some (.string (⟨#[]⟩ : ByteArray)) := (blk_cell BK263.out 1).trans rfl; have hcz10_2 : w8.cell? ⟨gb263, 2, none⟩ = some (.string (⟨#[]⟩ : ByteArray)) := (blk_cell BK263.out 2).trans rfl; have hfz10_0 := blk_frozen BK263.out 0; have hfz10_1 := blk_frozen BK263.out 1; have hfz10_2 := blk_frozen BK263.out 2))
 refine bodyPost_ret (results_cell_row rfl _ _ gb263 30 #[.bool a0_0, .string a0_1, .string a0_2] (0, 0) _ rfl (by (with_reducible repeat (first | refine blk_drewN ?_ _ | refine blk_drew ?_ | refine blk_alloc ?_ _)); refine blk_put (cs := #[.bool a0_0, .string a0_1, .string (⟨#[]⟩ : ByteArray)]) ?_ 2 _ rfl; (with_reducible repeat (first | refine blk_drewN ?_ _ | refine blk_drew ?_ | refine blk_alloc ?_ _)); refine blk_put (cs := #[.bool a0_0, .string (⟨#[]⟩ : ByteArray), .string (⟨#[]⟩ : ByteArray)]) ?_ 1 _ rfl; (with_reducible repeat (first | refine blk_drewN ?_ _ | refine blk_drew ?_ | refine blk_alloc ?_ _)); refine blk_put (cs := #[.bool false, .string (⟨#[]⟩ : ByteArray), .string (⟨#[]⟩ : ByteArray)]) ?_ 0 _ rfl; (with_reducible repeat (first | refine blk_drewN ?_ _ | refine blk_drew ?_ | refine blk_alloc ?_ _)); exact BK263.out) Tryd.underlying30 rfl (by kernel_rfl)) rfl ?_
 exact ⟨by first | rfl | (simp [errW_none, errW_some] <;> rfl) | (simp [*, errW_none, errW_some] <;> rfl), bq HB.out⟩
def q_Sign.f (k : Nat) (a0_0 : Bool) (a0_1 : ByteArray) (a0_2 : ByteArray) : Option (Int) := (q_clean.f k a0_0 a0_1 a0_2).bind fun bt266 => ((q_signOf.f bt266.1 bt266.2.1 bt266.2.2).bind fun t269 => (some t269))
set_option maxHeartbeats 8000000 in
set_option maxRecDepth 100000 in
theorem q_Sign.calls (k : Nat) (a0_0 : Bool) (a0_1 : ByteArray) (a0_2 : ByteArray) (r : Int) (w : World) (h : q_Sign.f k a0_0 a0_1 a0_2 = some r) :
 Calls Tryd.prog 26 #[.agg #[.bool a0_0, .string a0_1, .string a0_2]] w fun e w' => e = .returned (.int .i64 r) ∧ Below w.heap.size w w' := by
 have hu30 := Tryd.underlying30
 have HB := Aside0.mk (Below.refl w.heap.size w)
 have H : ((q_clean.f k a0_0 a0_1 a0_2).bind fun bt266 => ((q_signOf.f bt266.1 bt266.2.1 bt266.2.2).bind fun t269 => (some t269))) = some r := h
 clear h
 replace H := Option.bind_eq_some_iff.mp H
 obtain ⟨⟨t266, t267, t268⟩, A20, H⟩ := H
 try dsimp only at H
 have A2 := Aside0.mk A20
 clear A20
 replace H := Option.bind_eq_some_iff.mp H
 obtain ⟨t269, A30, H⟩ := H
 try dsimp only at H
 have A3 := Aside0.mk A30
 clear A30
 obtain rfl := Option.some.inj H
 go_enter Tryd.func26, Tryd.ntmps26
 go_wp2_with (first | ((with_reducible refine gate_dst (N := 1) rfl ?_); refine box_event ?hg (N := 1) ?hd (cs := #[.bool a0_0, .string a0_1, .string a0_2]) (t := 30) ?hr ?_; (case hd => rfl); (case hg => rfl); (case hr => first | (go_simp; done) | (go_simp; rfl)); intro gb265 hg w4 hbox hb; have BK265 := am (hbox); have GW265 := am ((by rw [hg]; exact (below_size (bq HB.out)) : w.heap.size ≤ gb265)); have GE265 := am ((by rw [hg]; exact (below_size (bq HB.out)) : w.heap.size ≤ gb265)); replace HB := am (below_step (bq HB.out) hb); clear hb hbox hg; have hcz5_0 : w4.cell? ⟨gb265, 0, none⟩ = some (.bool a0_0) := (blk_cell BK265.out 0).trans rfl; have hcz5_1 : w4.cell? ⟨gb265, 1, none⟩ = some (.string a0_1) := (blk_cell BK265.out 1).trans rfl; have hcz5_2 : w4.cell? ⟨gb265, 2, none⟩ = some (.string a0_2) := (blk_cell BK265.out 2).trans rfl; have hfz5_0 := blk_frozen BK265.out 0; have hfz5_1 := blk_frozen BK265.out 1; have hfz5_2 := blk_frozen BK265.out 2) | ((with_reducible refine gate_callee (f := 42) rfl ?_); refine goesq (some 4) Tryd.func42 #[.agg #[.bool a0_0, .string a0_1, .string a0_2]] ?_; (with_reducible refine (q_clean.calls k a0_0 a0_1 a0_2 t266 t267 t268 _ A2.out).mono ?_); rintro e w6 ⟨rfl, hb⟩; refine ⟨_, rfl, ?_⟩; replace BK265 := am (blk_below (g := gb265) (o := .cells #[.bool a0_0, .string a0_1, .string a0_2] 30 (0, 0)) (kq BK265.out) hb); replace HB := am (below_step (bq HB.out) hb); (try clear hb)) | ((with_reducible refine gate_callee (f := 41) rfl ?_); refine goesq (some 5) Tryd.func41 #[.agg #[.bool t266, .string t267, .string t268]] ?_; (with_reducible refine (q_signOf.calls t266 t267 t268 t269 _ A3.out).mono ?_); rintro e w7 ⟨rfl, hb⟩; refine ⟨_, rfl, ?_⟩; replace BK265 := am (blk_below (g := gb265) (o := .cells #[.bool a0_0, .string a0_1, .string a0_2] 30 (0, 0)) (kq BK265.out) hb); replace HB := am (below_step (bq HB.out) hb); (try clear hb)))
 go_ret
 exact ⟨by first | rfl | (simp [errW_none, errW_some] <;> rfl) | (simp [*, errW_none, errW_some] <;> rfl), bq HB.out⟩
def e1_Valid.j0 : Nat → Bool → Bool → ByteArray → ByteArray → Option (Bool)
 | 0, _, _, _, _ => none
 | k + 1, x21, x555000, x555001, x555002 => if x21 = true then (some false) else (if x555001.toList = ([] : List UInt8) then (if x555000 = true then (some false) else (some (x555002.toList == ([] : List UInt8)))) else (if x555002.toList = ([] : List UInt8) then (some true) else ((e1_GCD.f k x555001 x555002).bind fun t557 => (some (t557.toList == ([1] : List UInt8))))))
def e1_Valid.f (k : Nat) (a0_0 : Bool) (a0_1 : ByteArray) (a0_2 : ByteArray) : Option (Bool) := (e1_Normalize.f k a0_1).bind fun t555 => (if t555.toList = a0_1.toList then ((e1_Normalize.f k a0_2).bind fun t556 => (if t556.toList = a0_2.toList then (e1_Valid.j0 k (a0_2.toList == ([1] : List UInt8)) a0_0 a0_1 a0_2) else (e1_Valid.j0 k true a0_0 a0_1 a0_2))) else (e1_Valid.j0 k true a0_0 a0_1 a0_2))
set_option maxHeartbeats 8000000 in
set_option maxRecDepth 100000 in
theorem e1_Valid.calls (k : Nat) (a0_0 : Bool) (a0_1 : ByteArray) (a0_2 : ByteArray) (r : Bool) (w : World) (h : e1_Valid.f k a0_0 a0_1 a0_2 = some r) :
  Calls Tryd.prog 55 #[.agg #[.bool a0_0, .string a0_1, .string a0_2]] w fun e w' => e = .returned (.bool r) ∧ Below w.heap.size w w' := by
 have hu30 := Tryd.underlying30
 have HB := Aside0.mk (Below.refl w.heap.size w)
 have H : ((e1_Normalize.f k a0_1).bind fun t555 => (if t555.toList = a0_1.toList then ((e1_Normalize.f k a0_2).bind fun t556 => (if t556.toList = a0_2.toList then (e1_Valid.j0 k (a0_2.toList == ([1] : List UInt8)) a0_0 a0_1 a0_2) else (e1_Valid.j0 k true a0_0 a0_1 a0_2))) else (e1_Valid.j0 k true a0_0 a0_1 a0_2))) = some r := h
 clear h
 have HC2 := Aside0.mk H
 clear H
 go_enter Tryd.func55, Tryd.ntmps55
 go_upto_region 1 with (first | ((with_reducible refine gate_dst (N := 1) rfl ?_); refine box_event ?hg (N := 1) ?hd (cs := #[.bool a0_0, .string a0_1, .string a0_2]) (t := 30) ?hr ?_; (case hd => rfl); (case hg => rfl); (case hr => first | (go_simp; done) | (go_simp; rfl)); intro gb554 hg w3 hbox hb; have BK554 := am (hbox); have GW554 := am ((by rw [hg]; exact (below_size (bq HB.out)) : w.heap.size ≤ gb554)); have GE554 := am ((by rw [hg]; exact (below_size (bq HB.out)) : w.heap.size ≤ gb554)); replace HB := am (below_step (bq HB.out) hb); clear hb hbox hg))
 (try simp only [Act.put, List.setIfInBounds_toArray, List.set_cons_zero, List.set_cons_succ])
 go_cut [21] (fun v21 wc => ∃ (kq : Nat) (x21_1 : Bool), v21 = .bool x21_1 ∧ Aside0 (e1_Valid.j0 kq x21_1 a0_0 a0_1 a0_2 = some r) ∧ Aside0 (kq ≤ k) ∧ Aside0 (wc.heap[gb554]? = some (.cells #[.bool a0_0, .string a0_1, .string a0_2] 30 (0, 0))) ∧ Aside0 (Below w.heap.size w wc))
 case first =>
  have H := HC2.out
  clear HC2
  replace H := Option.bind_eq_some_iff.mp H
  obtain ⟨t555, A40, H⟩ := H
  try dsimp only at H
  have A4 := Aside0.mk A40
  clear A40
  by_cases c5 : t555.toList = a0_1.toList
  rotate_left
  ·rw [if_neg c5] at H
   have c5b0 : (t555.toList == a0_1.toList) = false := beq_eq_false_iff_ne.mpr c5
   have c5b1 : (t555.toList != a0_1.toList) = true := bne_iff_ne.mpr c5
   (first | rw [c5b0] | (simp only [i64_w, i32_w]; rw [c5b0]) | skip)
   have H' := Aside0.mk H
   clear H
   have hcz10_0 : w3.cell? ⟨gb554, 0, none⟩ = some (.bool a0_0) := (blk_cell BK554.out 0).trans rfl
   have hcz10_1 : w3.cell? ⟨gb554, 1, none⟩ = some (.string a0_1) := (blk_cell BK554.out 1).trans rfl
   have hcz10_2 : w3.cell? ⟨gb554, 2, none⟩ = some (.string a0_2) := (blk_cell BK554.out 2).trans rfl
   have hfz10_0 := blk_frozen BK554.out 0
   have hfz10_1 := blk_frozen BK554.out 1
   have hfz10_2 := blk_frozen BK554.out 2
   go_wp2_with (first | (go_at_call 69; (with_reducible refine (e1_Normalize.calls k a0_1 t555 _ A4.out).mono ?_); rintro e w' ⟨rfl, ⟨nd, rfl⟩⟩; (try first | exact ⟨rfl, _, World.drewN_drewN _ _ _⟩ | exact ⟨rfl, _, Eq.trans (World.drewN_drewN _ _ _) (congrArg (World.drewN _) (Nat.add_assoc _ _ _))⟩)))
   repeat (go_quiet (first | (go_at_call 69; (with_reducible refine (e1_Normalize.calls k a0_1 t555 _ A4.out).mono ?_); rintro e w' ⟨rfl, ⟨nd, rfl⟩⟩; (try first | exact ⟨rfl, _, World.drewN_drewN _ _ _⟩ | exact ⟨rfl, _, Eq.trans (World.drewN_drewN _ _ _) (congrArg (World.drewN _) (Nat.add_assoc _ _ _))⟩))); try go_wp2_with (first | (go_at_call 69; (with_reducible refine (e1_Normalize.calls k a0_1 t555 _ A4.out).mono ?_); rintro e w' ⟨rfl, ⟨nd, rfl⟩⟩; (try first | exact ⟨rfl, _, World.drewN_drewN _ _ _⟩ | exact ⟨rfl, _, Eq.trans (World.drewN_drewN _ _ _) (congrArg (World.drewN _) (Nat.add_assoc _ _ _))⟩))))
   go_meet
   case rel => exact ⟨_, (true), (by first | rfl | (simp; done) | (simp [*]; done)), H', ⟨by first | omega | exact Nat.le_refl _⟩, ⟨by (with_reducible repeat (first | refine blk_drewN ?_ _ | refine blk_drew ?_ | refine blk_alloc ?_ _)); exact BK554.out⟩, ⟨bq HB.out⟩⟩
  rw [if_pos c5] at H
  have c5b0 : (t555.toList == a0_1.toList) = true := beq_iff_eq.mpr c5
  have c5b1 : (t555.toList != a0_1.toList) = false := bne_eq_false_iff_eq.mpr c5
  clear c5
  (first | rw [c5b0] | (simp only [i64_w, i32_w]; rw [c5b0]) | skip)
  replace H := Option.bind_eq_some_iff.mp H
  obtain ⟨t556, A60, H⟩ := H
  try dsimp only at H
  have A6 := Aside0.mk A60
  clear A60
  by_cases c7 : t556.toList = a0_2.toList
  rotate_left
  ·rw [if_neg c7] at H
   have c7b0 : (t556.toList == a0_2.toList) = false := beq_eq_false_iff_ne.mpr c7
   have c7b1 : (t556.toList != a0_2.toList) = true := bne_iff_ne.mpr c7
   have H' := Aside0.mk H
   clear H
   have hcz9_0 : w3.cell? ⟨gb554, 0, none⟩ = some (.bool a0_0) := (blk_cell BK554.out 0).trans rfl
   have hcz9_1 : w3.cell? ⟨gb554, 1, none⟩ = some (.string a0_1) := (blk_cell BK554.out 1).trans rfl
   have hcz9_2 : w3.cell? ⟨gb554, 2, none⟩ = some (.string a0_2) := (blk_cell BK554.out 2).trans rfl
   have hfz9_0 := blk_frozen BK554.out 0
   have hfz9_1 := blk_frozen BK554.out 1
   have hfz9_2 := blk_frozen BK554.out 2
   go_wp2_with (first | (go_at_call 69; (with_reducible refine (e1_Normalize.calls k a0_1 t555 _ A4.out).mono ?_); rintro e w' ⟨rfl, ⟨nd, rfl⟩⟩; (try first | exact ⟨rfl, _, World.drewN_drewN _ _ _⟩ | exact ⟨rfl, _, Eq.trans (World.drewN_drewN _ _ _) (congrArg (World.drewN _) (Nat.add_assoc _ _ _))⟩)) | (go_at_call 69; (with_reducible refine (e1_Normalize.calls k a0_2 t556 _ A6.out).mono ?_); rintro e w' ⟨rfl, ⟨nd, rfl⟩⟩; (try first | exact ⟨rfl, _, World.drewN_drewN _ _ _⟩ | exact ⟨rfl, _, Eq.trans (World.drewN_drewN _ _ _) (congrArg (World.drewN _) (Nat.add_assoc _ _ _))⟩)))
   repeat (go_quiet (first | (go_at_call 69; (with_reducible refine (e1_Normalize.calls k a0_1 t555 _ A4.out).mono ?_); rintro e w' ⟨rfl, ⟨nd, rfl⟩⟩; (try first | exact ⟨rfl, _, World.drewN_drewN _ _ _⟩ | exact ⟨rfl, _, Eq.trans (World.drewN_drewN _ _ _) (congrArg (World.drewN _) (Nat.add_assoc _ _ _))⟩)) | (go_at_call 69; (with_reducible refine (e1_Normalize.calls k a0_2 t556 _ A6.out).mono ?_); rintro e w' ⟨rfl, ⟨nd, rfl⟩⟩; (try first | exact ⟨rfl, _, World.drewN_drewN _ _ _⟩ | exact ⟨rfl, _, Eq.trans (World.drewN_drewN _ _ _) (congrArg (World.drewN _) (Nat.add_assoc _ _ _))⟩))); try go_wp2_with (first | (go_at_call 69; (with_reducible refine (e1_Normalize.calls k a0_1 t555 _ A4.out).mono ?_); rintro e w' ⟨rfl, ⟨nd, rfl⟩⟩; (try first | exact ⟨rfl, _, World.drewN_drewN _ _ _⟩ | exact ⟨rfl, _, Eq.trans (World.drewN_drewN _ _ _) (congrArg (World.drewN _) (Nat.add_assoc _ _ _))⟩)) | (go_at_call 69; (with_reducible refine (e1_Normalize.calls k a0_2 t556 _ A6.out).mono ?_); rintro e w' ⟨rfl, ⟨nd, rfl⟩⟩; (try first | exact ⟨rfl, _, World.drewN_drewN _ _ _⟩ | exact ⟨rfl, _, Eq.trans (World.drewN_drewN _ _ _) (congrArg (World.drewN _) (Nat.add_assoc _ _ _))⟩))))
   go_meet
   case rel => exact ⟨_, (true), (by first | rfl | (simp; done) | (simp [*]; done)), H', ⟨by first | omega | exact Nat.le_refl _⟩, ⟨by (with_reducible repeat (first | refine blk_drewN ?_ _ | refine blk_drew ?_ | refine blk_alloc ?_ _)); exact BK554.out⟩, ⟨bq HB.out⟩⟩
  rw [if_pos c7] at H
  have c7b0 : (t556.toList == a0_2.toList) = true := beq_iff_eq.mpr c7
  have c7b1 : (t556.toList != a0_2.toList) = false := bne_eq_false_iff_eq.mpr c7
  clear c7
  have H' := Aside0.mk H
  clear H
  have hcz8_0 : w3.cell? ⟨gb554, 0, none⟩ = some (.bool a0_0) := (blk_cell BK554.out 0).trans rfl
  have hcz8_1 : w3.cell? ⟨gb554, 1, none⟩ = some (.string a0_1) := (blk_cell BK554.out 1).trans rfl
  have hcz8_2 : w3.cell? ⟨gb554, 2, none⟩ = some (.string a0_2) := (blk_cell BK554.out 2).trans rfl
  have hfz8_0 := blk_frozen BK554.out 0
  have hfz8_1 := blk_frozen BK554.out 1
  have hfz8_2 := blk_frozen BK554.out 2
  go_wp2_with (first | (go_at_call 69; (with_reducible refine (e1_Normalize.calls k a0_1 t555 _ A4.out).mono ?_); rintro e w' ⟨rfl, ⟨nd, rfl⟩⟩; (try first | exact ⟨rfl, _, World.drewN_drewN _ _ _⟩ | exact ⟨rfl, _, Eq.trans (World.drewN_drewN _ _ _) (congrArg (World.drewN _) (Nat.add_assoc _ _ _))⟩)) | (go_at_call 69; (with_reducible refine (e1_Normalize.calls k a0_2 t556 _ A6.out).mono ?_); rintro e w' ⟨rfl, ⟨nd, rfl⟩⟩; (try first | exact ⟨rfl, _, World.drewN_drewN _ _ _⟩ | exact ⟨rfl, _, Eq.trans (World.drewN_drewN _ _ _) (congrArg (World.drewN _) (Nat.add_assoc _ _ _))⟩)))
  repeat (go_quiet (first | (go_at_call 69; (with_reducible refine (e1_Normalize.calls k a0_1 t555 _ A4.out).mono ?_); rintro e w' ⟨rfl, ⟨nd, rfl⟩⟩; (try first | exact ⟨rfl, _, World.drewN_drewN _ _ _⟩ | exact ⟨rfl, _, Eq.trans (World.drewN_drewN _ _ _) (congrArg (World.drewN _) (Nat.add_assoc _ _ _))⟩)) | (go_at_call 69; (with_reducible refine (e1_Normalize.calls k a0_2 t556 _ A6.out).mono ?_); rintro e w' ⟨rfl, ⟨nd, rfl⟩⟩; (try first | exact ⟨rfl, _, World.drewN_drewN _ _ _⟩ | exact ⟨rfl, _, Eq.trans (World.drewN_drewN _ _ _) (congrArg (World.drewN _) (Nat.add_assoc _ _ _))⟩))); try go_wp2_with (first | (go_at_call 69; (with_reducible refine (e1_Normalize.calls k a0_1 t555 _ A4.out).mono ?_); rintro e w' ⟨rfl, ⟨nd, rfl⟩⟩; (try first | exact ⟨rfl, _, World.drewN_drewN _ _ _⟩ | exact ⟨rfl, _, Eq.trans (World.drewN_drewN _ _ _) (congrArg (World.drewN _) (Nat.add_assoc _ _ _))⟩)) | (go_at_call 69; (with_reducible refine (e1_Normalize.calls k a0_2 t556 _ A6.out).mono ?_); rintro e w' ⟨rfl, ⟨nd, rfl⟩⟩; (try first | exact ⟨rfl, _, World.drewN_drewN _ _ _⟩ | exact ⟨rfl, _, Eq.trans (World.drewN_drewN _ _ _) (congrArg (World.drewN _) (Nat.add_assoc _ _ _))⟩))))
  go_meet
  case rel => exact ⟨_, ((a0_2.toList == ([1] : List UInt8))), (by first | rfl | (simp; done) | (simp [*]; done)), H', ⟨by first | omega | exact Nat.le_refl _⟩, ⟨by (with_reducible repeat (first | refine blk_drewN ?_ _ | refine blk_drew ?_ | refine blk_alloc ?_ _)); exact BK554.out⟩, ⟨bq HB.out⟩⟩
 case rest =>
  clear HC2
  try clear p2
  try clear c5
  try clear c5b0
  try clear c5b1
  try clear c7
  try clear c7b0
  try clear c7b1
  try clear hcz10_0
  try clear hcz10_1
  try clear hcz10_2
  try clear hcz8_0
  try clear hcz8_1
  try clear hcz8_2
  try clear hcz9_0
  try clear hcz9_1
  try clear hcz9_2
  try clear hfz10_0
  try clear hfz10_1
  try clear hfz10_2
  try clear hfz8_0
  try clear hfz8_1
  try clear hfz8_2
  try clear hfz9_0
  try clear hfz9_1
  try clear hfz9_2
  obtain ⟨kq, x21_1, rfl, HA, HJ1, BK554, HB⟩ := hcut
  cases kq with
  | zero => exact absurd HA.out (by simp [e1_Valid.j0])
  | succ kj1 =>
   have H := HA.out
   clear HA
   simp only [e1_Valid.j0] at H
   by_cases c11 : x21_1 = true
   ·subst c11
    rw [if_pos rfl] at H
    obtain rfl := Option.some.inj H
    go_wp2
    go_ret
    exact ⟨by first | rfl | (simp [errW_none, errW_some] <;> rfl) | (simp [*, errW_none, errW_some] <;> rfl), bq HB.out⟩
   replace c11 := Bool.eq_false_iff.mpr c11
   subst c11
   rw [if_neg (show ¬ (false = true) by decide)] at H
   by_cases c12 : a0_1.toList = ([] : List UInt8)
   ·rw [if_pos c12] at H
    have c12b0 : (a0_1.toList == ([] : List UInt8)) = true := beq_iff_eq.mpr c12
    have c12b1 : (a0_1.toList != ([] : List UInt8)) = false := bne_eq_false_iff_eq.mpr c12
    clear c12
    by_cases c13 : a0_0 = true
    ·subst c13
     rw [if_pos rfl] at H
     obtain rfl := Option.some.inj H
     have hcz14_0 : wc.cell? ⟨gb554, 0, none⟩ = some (.bool true) := (blk_cell BK554.out 0).trans rfl
     have hcz14_1 : wc.cell? ⟨gb554, 1, none⟩ = some (.string a0_1) := (blk_cell BK554.out 1).trans rfl
     have hcz14_2 : wc.cell? ⟨gb554, 2, none⟩ = some (.string a0_2) := (blk_cell BK554.out 2).trans rfl
     have hfz14_0 := blk_frozen BK554.out 0
     have hfz14_1 := blk_frozen BK554.out 1
     have hfz14_2 := blk_frozen BK554.out 2
     go_wp2
     go_ret
     exact ⟨by first | rfl | (simp [errW_none, errW_some] <;> rfl) | (simp [*, errW_none, errW_some] <;> rfl), bq HB.out⟩
    replace c13 := Bool.eq_false_iff.mpr c13
    subst c13
    rw [if_neg (show ¬ (false = true) by decide)] at H
    obtain rfl := Option.some.inj H
    have hcz15_0 : wc.cell? ⟨gb554, 0, none⟩ = some (.bool false) := (blk_cell BK554.out 0).trans rfl
    have hcz15_1 : wc.cell? ⟨gb554, 1, none⟩ = some (.string a0_1) := (blk_cell BK554.out 1).trans rfl
    have hcz15_2 : wc.cell? ⟨gb554, 2, none⟩ = some (.string a0_2) := (blk_cell BK554.out 2).trans rfl
    have hfz15_0 := blk_frozen BK554.out 0
    have hfz15_1 := blk_frozen BK554.out 1
    have hfz15_2 := blk_frozen BK554.out 2
    go_wp2
    go_ret
    exact ⟨by first | rfl | (simp [errW_none, errW_some] <;> rfl) | (simp [*, errW_none, errW_some] <;> rfl), bq HB.out⟩
   rw [if_neg c12] at H
   have c12b0 : (a0_1.toList == ([] : List UInt8)) = false := beq_eq_false_iff_ne.mpr c12
   have c12b1 : (a0_1.toList != ([] : List UInt8)) = true := bne_iff_ne.mpr c12
   by_cases c16 : a0_2.toList = ([] : List UInt8)
   ·rw [if_pos c16] at H
    have c16b0 : (a0_2.toList == ([] : List UInt8)) = true := beq_iff_eq.mpr c16
    have c16b1 : (a0_2.toList != ([] : List UInt8)) = false := bne_eq_false_iff_eq.mpr c16
    clear c16
    obtain rfl := Option.some.inj H
    have hcz17_0 : wc.cell? ⟨gb554, 0, none⟩ = some (.bool a0_0) := (blk_cell BK554.out 0).trans rfl
    have hcz17_1 : wc.cell? ⟨gb554, 1, none⟩ = some (.string a0_1) := (blk_cell BK554.out 1).trans rfl
    have hcz17_2 : wc.cell? ⟨gb554, 2, none⟩ = some (.string a0_2) := (blk_cell BK554.out 2).trans rfl
    have hfz17_0 := blk_frozen BK554.out 0
    have hfz17_1 := blk_frozen BK554.out 1
    have hfz17_2 := blk_frozen BK554.out 2
    go_wp2
    go_ret
    exact ⟨by first | rfl | (simp [errW_none, errW_some] <;> rfl) | (simp [*, errW_none, errW_some] <;> rfl), bq HB.out⟩
   rw [if_neg c16] at H
   have c16b0 : (a0_2.toList == ([] : List UInt8)) = false := beq_eq_false_iff_ne.mpr c16
   have c16b1 : (a0_2.toList != ([] : List UInt8)) = true := bne_iff_ne.mpr c16
   replace H := Option.bind_eq_some_iff.mp H
   obtain ⟨t557, A180, H⟩ := H
   try dsimp only at H
   have A18 := Aside0.mk A180
   clear A180
   obtain rfl := Option.some.inj H
   have hcz19_0 : wc.cell? ⟨gb554, 0, none⟩ = some (.bool a0_0) := (blk_cell BK554.out 0).trans rfl
   have hcz19_1 : wc.cell? ⟨gb554, 1, none⟩ = some (.string a0_1) := (blk_cell BK554.out 1).trans rfl
   have hcz19_2 : wc.cell? ⟨gb554, 2, none⟩ = some (.string a0_2) := (blk_cell BK554.out 2).trans rfl
   have hfz19_0 := blk_frozen BK554.out 0
   have hfz19_1 := blk_frozen BK554.out 1
   have hfz19_2 := blk_frozen BK554.out 2
   go_wp2_with (first | (go_at_call 70; (with_reducible refine (e1_GCD.calls kj1 a0_1 a0_2 t557 _ A18.out).mono ?_); rintro e w20 ⟨rfl, hb⟩; replace BK554 := am (blk_below (g := gb554) (o := .cells #[.bool a0_0, .string a0_1, .string a0_2] 30 (0, 0)) (kq BK554.out) hb); replace HB := am (below_step (bq HB.out) hb); (try clear hb)))
   go_ret
   exact ⟨by first | rfl | (simp [errW_none, errW_some] <;> rfl) | (simp [*, errW_none, errW_some] <;> rfl), bq HB.out⟩
def e1_Fix.f (k : Nat) (a0_0 : Bool) (a0_1 : ByteArray) (a0_2 : ByteArray) : Option (Bool × ByteArray × ByteArray) := (e1_Valid.f k a0_0 a0_1 a0_2).bind fun t560 => (if t560 = true then (some (a0_0, a0_1, a0_2)) else (some (false, (⟨#[]⟩ : ByteArray), (⟨#[]⟩ : ByteArray))))
set_option maxHeartbeats 8000000 in
set_option maxRecDepth 100000 in
theorem e1_Fix.calls (k : Nat) (a0_0 : Bool) (a0_1 : ByteArray) (a0_2 : ByteArray) (r1 : Bool) (r2 : ByteArray) (r3 : ByteArray) (w : World) (h : e1_Fix.f k a0_0 a0_1 a0_2 = some (r1, r2, r3)) :
  Calls Tryd.prog 37 #[.agg #[.bool a0_0, .string a0_1, .string a0_2]] w fun e w' => e = .returned (.agg #[.bool r1, .string r2, .string r3]) ∧ Below w.heap.size w w' := by
 have hu30 := Tryd.underlying30
 have HB := Aside0.mk (Below.refl w.heap.size w)
 have H : ((e1_Valid.f k a0_0 a0_1 a0_2).bind fun t560 => (if t560 = true then (some (a0_0, a0_1, a0_2)) else (some (false, (⟨#[]⟩ : ByteArray), (⟨#[]⟩ : ByteArray))))) = some (r1, r2, r3) := h
 clear h
 replace H := Option.bind_eq_some_iff.mp H
 obtain ⟨t560, A20, H⟩ := H
 try dsimp only at H
 have A2 := Aside0.mk A20
 clear A20
 by_cases c3 : t560 = true
 rotate_left
 ·replace c3 := Bool.eq_false_iff.mpr c3
  subst c3
  rw [if_neg (show ¬ (false = true) by decide)] at H
  simp only [Option.some.injEq, Prod.mk.injEq] at H
  obtain ⟨rfl, rfl, rfl⟩ := H
  go_enter Tryd.func37, Tryd.ntmps37
  go_wp2_with (first | ((with_reducible refine gate_dst (N := 1) rfl ?_); refine box_event ?hg (N := 1) ?hd (cs := #[.bool a0_0, .string a0_1, .string a0_2]) (t := 30) ?hr ?_; (case hd => rfl); (case hg => rfl); (case hr => first | (go_simp; done) | (go_simp; rfl)); intro gb558 hg w11 hbox hb; have BK558 := am (hbox); have GW558 := am ((by rw [hg]; exact (below_size (bq HB.out)) : w.heap.size ≤ gb558)); have GE558 := am ((by rw [hg]; exact (below_size (bq HB.out)) : w.heap.size ≤ gb558)); replace HB := am (below_step (bq HB.out) hb); clear hb hbox hg) | ((with_reducible refine gate_dst (N := 2) rfl ?_); refine box_event ?hg (N := 2) ?hd (cs := #[.bool false, .string (⟨#[]⟩ : ByteArray), .string (⟨#[]⟩ : ByteArray)]) (t := 30) ?hr ?_; (case hd => rfl); (case hg => rfl); (case hr => first | (go_simp; done) | (go_simp; rfl)); intro gb559 hg w12 hbox hb; have BK559 := am (hbox); have GW559 := am ((by rw [hg]; exact (below_size (bq HB.out)) : w.heap.size ≤ gb559)); have GE559 := am ((by rw [hg]; exact (below_size (bq HB.out)) : w.heap.size ≤ gb559)); replace HB := am (below_step (bq HB.out) hb); have NB558_559 := am ((by rw [hg]; exact Nat.ne_of_lt (blk_lt (g := gb558) (o := .cells #[.bool a0_0, .string a0_1, .string a0_2] 30 (0, 0)) (kq BK558.out)) : gb558 ≠ gb559)); have NB559_558 := am ((by rw [hg]; exact Nat.ne_of_gt (blk_lt (g := gb558) (o := .cells #[.bool a0_0, .string a0_1, .string a0_2] 30 (0, 0)) (kq BK558.out)) : gb559 ≠ gb558)); replace BK558 := am (blk_below (g := gb558) (o := .cells #[.bool a0_0, .string a0_1, .string a0_2] 30 (0, 0)) (kq BK558.out) hb); clear hb hbox hg; have hnb13 := NB558_559.out; have hnc13 := NB559_558.out; have hcz14_0 : w12.cell? ⟨gb558, 0, none⟩ = some (.bool a0_0) := (blk_cell BK558.out 0).trans rfl; have hcz14_1 : w12.cell? ⟨gb558, 1, none⟩ = some (.string a0_1) := (blk_cell BK558.out 1).trans rfl; have hcz14_2 : w12.cell? ⟨gb558, 2, none⟩ = some (.string a0_2) := (blk_cell BK558.out 2).trans rfl; have hfz14_0 := blk_frozen BK558.out 0; have hfz14_1 := blk_frozen BK558.out 1; have hfz14_2 := blk_frozen BK558.out 2) | ((with_reducible refine gate_callee (f := 55) rfl ?_); refine goesq (some 4) Tryd.func55 #[.agg #[.bool a0_0, .string a0_1, .string a0_2]] ?_; (with_reducible refine (e1_Valid.calls k a0_0 a0_1 a0_2 false _ A2.out).mono ?_); rintro e w15 ⟨rfl, hb⟩; refine ⟨_, rfl, ?_⟩; replace BK558 := am (blk_below (g := gb558) (o := .cells #[.bool a0_0, .string a0_1, .string a0_2] 30 (0, 0)) (kq BK558.out) hb); replace BK559 := am (blk_below (g := gb559) (o := .cells #[.bool false, .string (⟨#[]⟩ : ByteArray), .string (⟨#[]⟩ : ByteArray)] 30 (0, 0)) (kq BK559.out) hb); replace HB := am (below_step (bq HB.out) hb); (try clear hb); have hcz16_0 : w15.cell? ⟨gb559, 0, none⟩ = some (.bool false) := (blk_cell BK559.out 0).trans rfl; have hcz16_1 : w15.cell? ⟨gb559, 1, none⟩ = some (.string (⟨#[]⟩ : ByteArray)) := (blk_cell BK559.out 1).trans rfl; have hcz16_2 : w15.cell? ⟨gb559, 2, none⟩ = some (.string (⟨#[]⟩ : ByteArray)) := (blk_cell BK559.out 2).trans rfl; have hfz16_0 := blk_frozen BK559.out 0; have hfz16_1 := blk_frozen BK559.out 1; have hfz16_2 := blk_frozen BK559.out 2))
  refine bodyPost_ret (results_cell_row rfl _ _ gb559 30 #[.bool false, .string (⟨#[]⟩ : ByteArray), .string (⟨#[]⟩ : ByteArray)] (0, 0) _ rfl (by (with_reducible repeat (first | refine blk_drewN ?_ _ | refine blk_drew ?_ | refine blk_alloc ?_ _)); refine blk_put (cs := #[.bool false, .string (⟨#[]⟩ : ByteArray), .string (⟨#[]⟩ : ByteArray)]) ?_ 2 _ rfl; (with_reducible repeat (first | refine blk_drewN ?_ _ | refine blk_drew ?_ | refine blk_alloc ?_ _)); refine blk_put (cs := #[.bool false, .string (⟨#[]⟩ : ByteArray), .string (⟨#[]⟩ : ByteArray)]) ?_ 1 _ rfl; (with_reducible repeat (first | refine blk_drewN ?_ _ | refine blk_drew ?_ | refine blk_alloc ?_ _)); refine blk_put (cs := #[.bool false, .string (⟨#[]⟩ : ByteArray), .string (⟨#[]⟩ : ByteArray)]) ?_ 0 _ rfl; (with_reducible repeat (first | refine blk_drewN ?_ _ | refine blk_drew ?_ | refine blk_alloc ?_ _)); exact BK559.out) Tryd.underlying30 rfl (by kernel_rfl)) rfl ?_
  exact ⟨by first | rfl | (simp [errW_none, errW_some] <;> rfl) | (simp [*, errW_none, errW_some] <;> rfl), bq HB.out⟩
 subst c3
 rw [if_pos rfl] at H
 simp only [Option.some.injEq, Prod.mk.injEq] at H
 obtain ⟨rfl, rfl, rfl⟩ := H
 go_enter Tryd.func37, Tryd.ntmps37
 go_wp2_with (first | ((with_reducible refine gate_dst (N := 1) rfl ?_); refine box_event ?hg (N := 1) ?hd (cs := #[.bool a0_0, .string a0_1, .string a0_2]) (t := 30) ?hr ?_; (case hd => rfl); (case hg => rfl); (case hr => first | (go_simp; done) | (go_simp; rfl)); intro gb558 hg w4 hbox hb; have BK558 := am (hbox); have GW558 := am ((by rw [hg]; exact (below_size (bq HB.out)) : w.heap.size ≤ gb558)); have GE558 := am ((by rw [hg]; exact (below_size (bq HB.out)) : w.heap.size ≤ gb558)); replace HB := am (below_step (bq HB.out) hb); clear hb hbox hg) | ((with_reducible refine gate_dst (N := 2) rfl ?_); refine box_event ?hg (N := 2) ?hd (cs := #[.bool false, .string (⟨#[]⟩ : ByteArray), .string (⟨#[]⟩ : ByteArray)]) (t := 30) ?hr ?_; (case hd => rfl); (case hg => rfl); (case hr => first | (go_simp; done) | (go_simp; rfl)); intro gb559 hg w5 hbox hb; have BK559 := am (hbox); have GW559 := am ((by rw [hg]; exact (below_size (bq HB.out)) : w.heap.size ≤ gb559)); have GE559 := am ((by rw [hg]; exact (below_size (bq HB.out)) : w.heap.size ≤ gb559)); replace HB := am (below_step (bq HB.out) hb); have NB558_559 := am ((by rw [hg]; exact Nat.ne_of_lt (blk_lt (g := gb558) (o := .cells #[.bool a0_0, .string a0_1, .string a0_2] 30 (0, 0)) (kq BK558.out)) : gb558 ≠ gb559)); have NB559_558 := am ((by rw [hg]; exact Nat.ne_of_gt (blk_lt (g := gb558) (o := .cells #[.bool a0_0, .string a0_1, .string a0_2] 30 (0, 0)) (kq BK558.out)) : gb559 ≠ gb558)); replace BK558 := am (blk_below (g := gb558) (o := .cells #[.bool a0_0, .string a0_1, .string a0_2] 30 (0, 0)) (kq BK558.out) hb); clear hb hbox hg; have hnb6 := NB558_559.out; have hnc6 := NB559_558.out; have hcz7_0 : w5.cell? ⟨gb558, 0, none⟩ = some (.bool a0_0) := (blk_cell BK558.out 0).trans rfl; have hcz7_1 : w5.cell? ⟨gb558, 1, none⟩ = some (.string a0_1) := (blk_cell BK558.out 1).trans rfl; have hcz7_2 : w5.cell? ⟨gb558, 2, none⟩ = some (.string a0_2) := (blk_cell BK558.out 2).trans rfl; have hfz7_0 := blk_frozen BK558.out 0; have hfz7_1 := blk_frozen BK558.out 1; have hfz7_2 := blk_frozen BK558.out 2) | ((with_reducible refine gate_callee (f := 55) rfl ?_); refine goesq (some 4) Tryd.func55 #[.agg #[.bool a0_0, .string a0_1, .string a0_2]] ?_; (with_reducible refine (e1_Valid.calls k a0_0 a0_1 a0_2 true _ A2.out).mono ?_); rintro e w8 ⟨rfl, hb⟩; refine ⟨_, rfl, ?_⟩; replace BK558 := am (blk_below (g := gb558) (o := .cells #[.bool a0_0, .string a0_1, .string a0_2] 30 (0, 0)) (kq BK558.out) hb); replace BK559 := am (blk_below (g := gb559) (o := .cells #[.bool false, .string (⟨#[]⟩ : ByteArray), .string (⟨#[]⟩ : ByteArray)] 30 (0, 0)) (kq BK559.out) hb); replace HB := am (below_step (bq HB.out) hb); (try clear hb); have hcz9_0 : w8.cell? ⟨gb558, 0, none⟩ = some (.bool a0_0) := (blk_cell BK558.out 0).trans rfl; have hcz9_1 : w8.cell? ⟨gb558, 1, none⟩ = some (.string a0_1) := (blk_cell BK558.out 1).trans rfl; have hcz9_2 : w8.cell? ⟨gb558, 2, none⟩ = some (.string a0_2) := (blk_cell BK558.out 2).trans rfl; have hfz9_0 := blk_frozen BK558.out 0; have hfz9_1 := blk_frozen BK558.out 1; have hfz9_2 := blk_frozen BK558.out 2; have hcz10_0 : w8.cell? ⟨gb559, 0, none⟩ = some (.bool false) := (blk_cell BK559.out 0).trans rfl; have hcz10_1 : w8.cell? ⟨gb559, 1, none⟩ = some (.string (⟨#[]⟩ : ByteArray)) := (blk_cell BK559.out 1).trans rfl; have hcz10_2 : w8.cell? ⟨gb559, 2, none⟩ = some (.string (⟨#[]⟩ : ByteArray)) := (blk_cell BK559.out 2).trans rfl; have hfz10_0 := blk_frozen BK559.out 0; have hfz10_1 := blk_frozen BK559.out 1; have hfz10_2 := blk_frozen BK559.out 2))
 refine bodyPost_ret (results_cell_row rfl _ _ gb559 30 #[.bool a0_0, .string a0_1, .string a0_2] (0, 0) _ rfl (by (with_reducible repeat (first | refine blk_drewN ?_ _ | refine blk_drew ?_ | refine blk_alloc ?_ _)); refine blk_put (cs := #[.bool a0_0, .string a0_1, .string (⟨#[]⟩ : ByteArray)]) ?_ 2 _ rfl; (with_reducible repeat (first | refine blk_drewN ?_ _ | refine blk_drew ?_ | refine blk_alloc ?_ _)); refine blk_put (cs := #[.bool a0_0, .string (⟨#[]⟩ : ByteArray), .string (⟨#[]⟩ : ByteArray)]) ?_ 1 _ rfl; (with_reducible repeat (first | refine blk_drewN ?_ _ | refine blk_drew ?_ | refine blk_alloc ?_ _)); refine blk_put (cs := #[.bool false, .string (⟨#[]⟩ : ByteArray), .string (⟨#[]⟩ : ByteArray)]) ?_ 0 _ rfl; (with_reducible repeat (first | refine blk_drewN ?_ _ | refine blk_drew ?_ | refine blk_alloc ?_ _)); exact BK559.out) Tryd.underlying30 rfl (by kernel_rfl)) rfl ?_
 exact ⟨by first | rfl | (simp [errW_none, errW_some] <;> rfl) | (simp [*, errW_none, errW_some] <;> rfl), bq HB.out⟩
def e1_Signum.f (a0_0 : Bool) (a0_1 : ByteArray) (a0_2 : ByteArray) : Option (Int) := if a0_1.toList = ([] : List UInt8) then (some 0) else (if a0_0 = true then (some (-1)) else (some 1))
set_option maxHeartbeats 8000000 in
set_option maxRecDepth 100000 in
theorem e1_Signum.calls (a0_0 : Bool) (a0_1 : ByteArray) (a0_2 : ByteArray) (r : Int) (w : World) (h : e1_Signum.f a0_0 a0_1 a0_2 = some r) :
  Calls Tryd.prog 43 #[.agg #[.bool a0_0, .string a0_1, .string a0_2]] w fun e w' => e = .returned (.int .i64 r) ∧ Below w.heap.size w w' := by
 have hu30 := Tryd.underlying30
 have HB := Aside0.mk (Below.refl w.heap.size w)
 have H : (if a0_1.toList = ([] : List UInt8) then (some 0) else (if a0_0 = true then (some (-1)) else (some 1))) = some r := h
 clear h
 by_cases c2 : a0_1.toList = ([] : List UInt8)
 ·rw [if_pos c2] at H
  have c2b0 : (a0_1.toList == ([] : List UInt8)) = true := beq_iff_eq.mpr c2
  have c2b1 : (a0_1.toList != ([] : List UInt8)) = false := bne_eq_false_iff_eq.mpr c2
  clear c2
  obtain rfl := Option.some.inj H
  go_enter Tryd.func43, Tryd.ntmps43
  go_wp2_with (first | ((with_reducible refine gate_dst (N := 1) rfl ?_); refine box_event ?hg (N := 1) ?hd (cs := #[.bool a0_0, .string a0_1, .string a0_2]) (t := 30) ?hr ?_; (case hd => rfl); (case hg => rfl); (case hr => first | (go_simp; done) | (go_simp; rfl)); intro gb561 hg w3 hbox hb; have BK561 := am (hbox); have GW561 := am ((by rw [hg]; exact (below_size (bq HB.out)) : w.heap.size ≤ gb561)); have GE561 := am ((by rw [hg]; exact (below_size (bq HB.out)) : w.heap.size ≤ gb561)); replace HB := am (below_step (bq HB.out) hb); clear hb hbox hg; have hcz4_0 : w3.cell? ⟨gb561, 0, none⟩ = some (.bool a0_0) := (blk_cell BK561.out 0).trans rfl; have hcz4_1 : w3.cell? ⟨gb561, 1, none⟩ = some (.string a0_1) := (blk_cell BK561.out 1).trans rfl; have hcz4_2 : w3.cell? ⟨gb561, 2, none⟩ = some (.string a0_2) := (blk_cell BK561.out 2).trans rfl; have hfz4_0 := blk_frozen BK561.out 0; have hfz4_1 := blk_frozen BK561.out 1; have hfz4_2 := blk_frozen BK561.out 2))
  go_ret
  exact ⟨by first | rfl | (simp [errW_none, errW_some] <;> rfl) | (simp [*, errW_none, errW_some] <;> rfl), bq HB.out⟩
 rw [if_neg c2] at H
 have c2b0 : (a0_1.toList == ([] : List UInt8)) = false := beq_eq_false_iff_ne.mpr c2
 have c2b1 : (a0_1.toList != ([] : List UInt8)) = true := bne_iff_ne.mpr c2
 by_cases c5 : a0_0 = true
 ·subst c5
  rw [if_pos rfl] at H
  obtain rfl := Option.some.inj H
  go_enter Tryd.func43, Tryd.ntmps43
  go_wp2_with (first | ((with_reducible refine gate_dst (N := 1) rfl ?_); refine box_event ?hg (N := 1) ?hd (cs := #[.bool true, .string a0_1, .string a0_2]) (t := 30) ?hr ?_; (case hd => rfl); (case hg => rfl); (case hr => first | (go_simp; done) | (go_simp; rfl)); intro gb561 hg w6 hbox hb; have BK561 := am (hbox); have GW561 := am ((by rw [hg]; exact (below_size (bq HB.out)) : w.heap.size ≤ gb561)); have GE561 := am ((by rw [hg]; exact (below_size (bq HB.out)) : w.heap.size ≤ gb561)); replace HB := am (below_step (bq HB.out) hb); clear hb hbox hg; have hcz7_0 : w6.cell? ⟨gb561, 0, none⟩ = some (.bool true) := (blk_cell BK561.out 0).trans rfl; have hcz7_1 : w6.cell? ⟨gb561, 1, none⟩ = some (.string a0_1) := (blk_cell BK561.out 1).trans rfl; have hcz7_2 : w6.cell? ⟨gb561, 2, none⟩ = some (.string a0_2) := (blk_cell BK561.out 2).trans rfl; have hfz7_0 := blk_frozen BK561.out 0; have hfz7_1 := blk_frozen BK561.out 1; have hfz7_2 := blk_frozen BK561.out 2))
  go_ret
  exact ⟨by first | rfl | (simp [errW_none, errW_some] <;> rfl) | (simp [*, errW_none, errW_some] <;> rfl), bq HB.out⟩
 replace c5 := Bool.eq_false_iff.mpr c5
 subst c5
 rw [if_neg (show ¬ (false = true) by decide)] at H
 obtain rfl := Option.some.inj H
 go_enter Tryd.func43, Tryd.ntmps43
 go_wp2_with (first | ((with_reducible refine gate_dst (N := 1) rfl ?_); refine box_event ?hg (N := 1) ?hd (cs := #[.bool false, .string a0_1, .string a0_2]) (t := 30) ?hr ?_; (case hd => rfl); (case hg => rfl); (case hr => first | (go_simp; done) | (go_simp; rfl)); intro gb561 hg w8 hbox hb; have BK561 := am (hbox); have GW561 := am ((by rw [hg]; exact (below_size (bq HB.out)) : w.heap.size ≤ gb561)); have GE561 := am ((by rw [hg]; exact (below_size (bq HB.out)) : w.heap.size ≤ gb561)); replace HB := am (below_step (bq HB.out) hb); clear hb hbox hg; have hcz9_0 : w8.cell? ⟨gb561, 0, none⟩ = some (.bool false) := (blk_cell BK561.out 0).trans rfl; have hcz9_1 : w8.cell? ⟨gb561, 1, none⟩ = some (.string a0_1) := (blk_cell BK561.out 1).trans rfl; have hcz9_2 : w8.cell? ⟨gb561, 2, none⟩ = some (.string a0_2) := (blk_cell BK561.out 2).trans rfl; have hfz9_0 := blk_frozen BK561.out 0; have hfz9_1 := blk_frozen BK561.out 1; have hfz9_2 := blk_frozen BK561.out 2))
 go_ret
 exact ⟨by first | rfl | (simp [errW_none, errW_some] <;> rfl) | (simp [*, errW_none, errW_some] <;> rfl), bq HB.out⟩
def e1_Sign.f (k : Nat) (a0_0 : Bool) (a0_1 : ByteArray) (a0_2 : ByteArray) : Option (Int) := (e1_Fix.f k a0_0 a0_1 a0_2).bind fun bt563 => ((e1_Signum.f bt563.1 bt563.2.1 bt563.2.2).bind fun t566 => (some t566))
set_option maxHeartbeats 8000000 in
set_option maxRecDepth 100000 in
theorem e1_Sign.calls (k : Nat) (a0_0 : Bool) (a0_1 : ByteArray) (a0_2 : ByteArray) (r : Int) (w : World) (h : e1_Sign.f k a0_0 a0_1 a0_2 = some r) :
 Calls Tryd.prog 29 #[.agg #[.bool a0_0, .string a0_1, .string a0_2]] w fun e w' => e = .returned (.int .i64 r) ∧ Below w.heap.size w w' := by
 have hu30 := Tryd.underlying30
 have HB := Aside0.mk (Below.refl w.heap.size w)
 have H : ((e1_Fix.f k a0_0 a0_1 a0_2).bind fun bt563 => ((e1_Signum.f bt563.1 bt563.2.1 bt563.2.2).bind fun t566 => (some t566))) = some r := h
 clear h
 replace H := Option.bind_eq_some_iff.mp H
 obtain ⟨⟨t563, t564, t565⟩, A20, H⟩ := H
 try dsimp only at H
 have A2 := Aside0.mk A20
 clear A20
 replace H := Option.bind_eq_some_iff.mp H
 obtain ⟨t566, A30, H⟩ := H
 try dsimp only at H
 have A3 := Aside0.mk A30
 clear A30
 obtain rfl := Option.some.inj H
 go_enter Tryd.func29, Tryd.ntmps29
 go_wp2_with (first | ((with_reducible refine gate_dst (N := 1) rfl ?_); refine box_event ?hg (N := 1) ?hd (cs := #[.bool a0_0, .string a0_1, .string a0_2]) (t := 30) ?hr ?_; (case hd => rfl); (case hg => rfl); (case hr => first | (go_simp; done) | (go_simp; rfl)); intro gb562 hg w4 hbox hb; have BK562 := am (hbox); have GW562 := am ((by rw [hg]; exact (below_size (bq HB.out)) : w.heap.size ≤ gb562)); have GE562 := am ((by rw [hg]; exact (below_size (bq HB.out)) : w.heap.size ≤ gb562)); replace HB := am (below_step (bq HB.out) hb); clear hb hbox hg; have hcz5_0 : w4.cell? ⟨gb562, 0, none⟩ = some (.bool a0_0) := (blk_cell BK562.out 0).trans rfl; have hcz5_1 : w4.cell? ⟨gb562, 1, none⟩ = some (.string a0_1) := (blk_cell BK562.out 1).trans rfl; have hcz5_2 : w4.cell? ⟨gb562, 2, none⟩ = some (.string a0_2) := (blk_cell BK562.out 2).trans rfl; have hfz5_0 := blk_frozen BK562.out 0; have hfz5_1 := blk_frozen BK562.out 1; have hfz5_2 := blk_frozen BK562.out 2) | ((with_reducible refine gate_callee (f := 37) rfl ?_); refine goesq (some 4) Tryd.func37 #[.agg #[.bool a0_0, .string a0_1, .string a0_2]] ?_; (with_reducible refine (e1_Fix.calls k a0_0 a0_1 a0_2 t563 t564 t565 _ A2.out).mono ?_); rintro e w6 ⟨rfl, hb⟩; refine ⟨_, rfl, ?_⟩; replace BK562 := am (blk_below (g := gb562) (o := .cells #[.bool a0_0, .string a0_1, .string a0_2] 30 (0, 0)) (kq BK562.out) hb); replace HB := am (below_step (bq HB.out) hb); (try clear hb)) | ((with_reducible refine gate_callee (f := 43) rfl ?_); refine goesq (some 5) Tryd.func43 #[.agg #[.bool t563, .string t564, .string t565]] ?_; (with_reducible refine (e1_Signum.calls t563 t564 t565 t566 _ A3.out).mono ?_); rintro e w7 ⟨rfl, hb⟩; refine ⟨_, rfl, ?_⟩; replace BK562 := am (blk_below (g := gb562) (o := .cells #[.bool a0_0, .string a0_1, .string a0_2] 30 (0, 0)) (kq BK562.out) hb); replace HB := am (below_step (bq HB.out) hb); (try clear hb)))
 go_ret
 exact ⟨by first | rfl | (simp [errW_none, errW_some] <;> rfl) | (simp [*, errW_none, errW_some] <;> rfl), bq HB.out⟩
end Go.Proofs.YtfnfjmeiaamheaaDoor.PA
namespace Go.Proofs.YtfnfjmeiaamheaaDoor.PA
open Go Go.RowKit Go.Proofs.YtfnfjmeiaamheaaDoorW.PrintWords
theorem bytes_inj {s t : ByteArray} (h : s.toList = t.toList) : s = t := by
 rw [ByteArray.toList_eq, ByteArray.toList_eq] at h
 exact ByteArray.ext (Array.ext' h)
theorem gcd_loop : ∀ (f : Nat) (x y : List Int), Can x → Can y → (vl y).toNat ≤ f → x.length + y.length ≤ 10000 →
  ∃ g, Can g ∧ Ev (fun k => n_GCD.l0 k x y) (tx g) ∧ Ev (fun k => e1_common.l0 k x y) g ∧ (vl g).toNat = Nat.gcd (vl x).toNat (vl y).toNat ∧ g.length ≤ x.length + y.length := by
 intro f
 induction f with
 | zero =>
  intro x y hx hy hf hl
  have h0 := vl_nonneg hy.dgs
  obtain rfl := hy.zero.1 (by omega)
  refine ⟨x, hx, Ev.step (h := fun k => (n_limbs_text.f k x).bind fun t => some t) (fun k => ?_) (Ev.bind (ntext hx.few) Ev.ret), Ev.rets fun k => ?_, ?_, by simp⟩
  ·rw [n_GCD.l0, if_neg (by simp)]
  ·rw [e1_common.l0, if_neg (by simp)]
  rw [show vl ([] : List Int) = 0 from rfl]; simp
 | succ f ih =>
  intro x y hx hy hf hl
  by_cases hc : y = []
  ·subst hc
   refine ⟨x, hx, Ev.step (h := fun k => (n_limbs_text.f k x).bind fun t => some t) (fun k => ?_) (Ev.bind (ntext hx.few) Ev.ret), Ev.rets fun k => ?_, ?_, by simp⟩
   ·rw [n_GCD.l0, if_neg (by simp)]
   ·rw [e1_common.l0, if_neg (by simp)]
   rw [show vl ([] : List Int) = 0 from rfl]; simp
  have hyl : 0 < y.length := List.length_pos_iff.2 hc
  have hy0 : 0 < vl y := by
   have := hy.ge hyl; have := pw_pos (y.length - 1); omega
  have hx0 := vl_nonneg hx.dgs
  obtain ⟨q, r, a1, a2, a3, a4, a5, a6, a7⟩ := ndivide_ev hx hy hc (by omega)
  obtain ⟨q', r', b1, b2, b3, b4, b5, b6, b7⟩ := rdivide_ev hx hy hc (by omega)
  obtain rfl : r' = r := Can.uniq b5 a5 (by rw [b6, a6])
  have hr1 := Int.emod_lt_of_pos (vl x) hy0
  have hr0 := Int.emod_nonneg (vl x) (show vl y ≠ 0 by omega)
  rw [← a6] at hr1 hr0
  obtain ⟨g, c1, c2, c3, c4, c5⟩ := ih y r' hy a5 (by omega) (by omega)
  have hlen : (y.length : Int) > 0 := by omega
  refine ⟨g, c1, Ev.step (h := fun k => (n_divide.f k x y).bind fun bt => n_GCD.l0 k y bt.2) (fun k => ?_) (Ev.bind a1 c2), Ev.step (h := fun k => (e1_divide.f k x y).bind fun bt => e1_common.l0 k y bt.2) (fun k => ?_) (Ev.bind b1 c3), ?_, by omega⟩
  ·rw [n_GCD.l0, if_pos hlen]
  ·rw [e1_common.l0, if_pos hlen]
  rw [c4, a6, Int.toNat_emod hx0 (by omega)]
  exact (Nat.gcd_comm _ _).trans ((Nat.gcd_rec _ _).symm.trans (Nat.gcd_comm _ _))
theorem gcd_both {s t : ByteArray} (hs : s.size ≤ 1000) (ht : t.size ≤ 1000) :
 ∃ g, Can g ∧ Ev (fun k => n_GCD.f k s t) (tx g) ∧ Ev (fun k => e1_GCD.f k s t) (tx g) ∧ (vl g).toNat = Nat.gcd (bv s).toNat (bv t).toNat ∧ g.length ≤ 600 := by
 obtain ⟨x, a1, a2, a3, a4⟩ := nparse (s := s) (by omega)
 obtain ⟨y, b1, b2, b3, b4⟩ := nparse (s := t) (by omega)
 obtain ⟨x', a5, a6, a7, a8⟩ := rlimbs (s := s) (by omega)
 obtain ⟨y', b5, b6, b7, b8⟩ := rlimbs (s := t) (by omega)
 obtain rfl : x' = x := Can.uniq a6 a2 (by rw [a7, a3])
 obtain rfl : y' = y := Can.uniq b6 b2 (by rw [b7, b3])
 obtain ⟨g, c1, c2, c3, c4, c5⟩ := gcd_loop _ x' y' a2 b2 (Nat.le_refl _) (by omega)
 refine ⟨g, c1, Ev.same (fun k => by rw [n_GCD.f]) (Ev.bind a1 (c := fun k t245 => (n_parse.f k t).bind fun t248 => n_GCD.l0 k t245 t248) (Ev.bind b1 c2)),
  Ev.same (h := fun k => (e1_limbs.f k s).bind fun t544 => (e1_limbs.f k t).bind fun t547 => (e1_common.f k t544 t547).bind fun t550 => (e1_text.f k t550).bind fun t553 => some t553) (fun k => by rw [e1_GCD.f]) (Ev.bind a5 (Ev.bind b5 (Ev.bind c3 (Ev.bind (rtext c1 (by omega)) Ev.ret)))), by rw [c4, a3, b3], by omega⟩
theorem valid_both {neg : Bool} {s t : ByteArray} (hs : s.size ≤ 1000) (ht : t.size ≤ 1000) : ∃ v, Ev (fun k => q_Valid.f k neg s t) v ∧ Ev (fun k => e1_Valid.f k neg s t) v := by
 obtain ⟨g, g1, g2, g3, g4, g5⟩ := gcd_both hs ht
 have n1 := nnorm s
 have n2 := nnorm t
 have r1 := rnorm (s := s) (by omega)
 have r2 := rnorm (s := t) (by omega)
 have rj : ∀ b, Ev (fun k => e1_Valid.j0 k b neg s t) (if b = true then false else if s.toList = ([] : List UInt8) then (if neg = true then false else t.toList == ([] : List UInt8)) else if t.toList = ([] : List UInt8) then true else (tx g).toList == ([1] : List UInt8)) := fun b => by
  by_cases hb : b = true
  ·rw [if_pos hb]; exact Ev.rets fun k => by rw [e1_Valid.j0, if_pos hb]
  rw [if_neg hb]
  by_cases h1 : s.toList = ([] : List UInt8)
  ·rw [if_pos h1]
   by_cases h2 : neg = true
   ·rw [if_pos h2]; exact Ev.rets fun k => by rw [e1_Valid.j0, if_neg hb, if_pos h1, if_pos h2]
   rw [if_neg h2]; exact Ev.rets fun k => by rw [e1_Valid.j0, if_neg hb, if_pos h1, if_neg h2]
  rw [if_neg h1]
  by_cases h2 : t.toList = ([] : List UInt8)
  ·rw [if_pos h2]; exact Ev.rets fun k => by rw [e1_Valid.j0, if_neg hb, if_neg h1, if_pos h2]
  rw [if_neg h2]
  exact Ev.step (h := fun k => (e1_GCD.f k s t).bind fun t557 => some (t557.toList == ([1] : List UInt8))) (fun k => by rw [e1_Valid.j0, if_neg hb, if_neg h1, if_neg h2]) (Ev.bind g3 Ev.ret)
 have nj : ∀ b, Ev (fun k => q_Valid.j0 k b neg s t) (if b = true then false else if s.toList = ([] : List UInt8) then (if neg = true then false else t.toList == ([] : List UInt8)) else if t.toList = ([] : List UInt8) then true else if t.toList = ([1] : List UInt8) then false else (tx g).toList == ([1] : List UInt8)) := fun b => by
  by_cases hb : b = true
  ·rw [if_pos hb]; exact Ev.rets fun k => by rw [q_Valid.j0, if_pos hb]
  rw [if_neg hb]
  by_cases h1 : s.toList = ([] : List UInt8)
  ·rw [if_pos h1]
   by_cases h2 : neg = true
   ·rw [if_pos h2]; exact Ev.rets fun k => by rw [q_Valid.j0, if_neg hb, if_pos h1, if_pos h2]
   rw [if_neg h2]; exact Ev.rets fun k => by rw [q_Valid.j0, if_neg hb, if_pos h1, if_neg h2]
  rw [if_neg h1]
  by_cases h2 : t.toList = ([] : List UInt8)
  ·rw [if_pos h2]; exact Ev.rets fun k => by rw [q_Valid.j0, if_neg hb, if_neg h1, if_pos h2]
  rw [if_neg h2]
  by_cases h3 : t.toList = ([1] : List UInt8)
  ·rw [if_pos h3]; exact Ev.rets fun k => by rw [q_Valid.j0, if_neg hb, if_neg h1, if_neg h2, if_pos h3]
  rw [if_neg h3]
  exact Ev.step (h := fun k => (n_GCD.f k s t).bind fun t557 => some (t557.toList == ([1] : List UInt8))) (fun k => by rw [q_Valid.j0, if_neg hb, if_neg h1, if_neg h2, if_neg h3]) (Ev.bind g2 Ev.ret)
 by_cases e1 : (nrm s).toList = s.toList
 rotate_left
 ·refine ⟨_, Ev.same (fun k => ?_) (nj true), Ev.same (h := fun k => (e1_Normalize.f k s).bind fun t555 => if t555.toList = s.toList then (e1_Normalize.f k t).bind fun t556 => (if t556.toList = t.toList then e1_Valid.j0 k (t.toList == ([1] : List UInt8)) neg s t else e1_Valid.j0 k true neg s t) else e1_Valid.j0 k true neg s t) (fun k => by rw [e1_Valid.f]) (Ev.bind r1 (Ev.same (fun k => if_neg e1) (rj true)))⟩
  rw [q_Valid.f, n1, Option.bind_some, if_neg e1]
 by_cases e2 : (nrm t).toList = t.toList
 ·
  refine ⟨_, Ev.same (fun k => ?_) (nj false), Ev.same (h := fun k => (e1_Normalize.f k s).bind fun t555 => if t555.toList = s.toList then (e1_Normalize.f k t).bind fun t556 => (if t556.toList = t.toList then e1_Valid.j0 k (t.toList == ([1] : List UInt8)) neg s t else e1_Valid.j0 k true neg s t) else e1_Valid.j0 k true neg s t) (fun k => by rw [e1_Valid.f]) (Ev.bind r1 (Ev.same (fun k => if_pos e1) (Ev.bind r2 (Ev.same (fun k => if_pos e2) ?_))))⟩
  ·rw [q_Valid.f, n1, Option.bind_some, if_pos e1, n2, Option.bind_some, show ((nrm t).toList != t.toList) = false by rw [e2]; simp]
  have := rj (t.toList == ([1] : List UInt8))
  have he : (if (t.toList == ([1] : List UInt8)) = true then false else if s.toList = ([] : List UInt8) then (if neg = true then false else t.toList == ([] : List UInt8)) else if t.toList = ([] : List UInt8) then true else (tx g).toList == ([1] : List UInt8)) = (if false = true then false else if s.toList = ([] : List UInt8) then (if neg = true then false else t.toList == ([] : List UInt8)) else if t.toList = ([] : List UInt8) then true else if t.toList = ([1] : List UInt8) then false else (tx g).toList == ([1] : List UInt8)) := by
   by_cases h3 : t.toList = ([1] : List UInt8)
   ·simp [h3]
   have h4 : (t.toList == ([1] : List UInt8)) = false := by rw [beq_eq_false_iff_ne]; exact h3
   rw [h4, if_neg h3]
  rw [he] at this
  exact this
 refine ⟨_, Ev.same (fun k => ?_) (nj true), Ev.same (h := fun k => (e1_Normalize.f k s).bind fun t555 => if t555.toList = s.toList then (e1_Normalize.f k t).bind fun t556 => (if t556.toList = t.toList then e1_Valid.j0 k (t.toList == ([1] : List UInt8)) neg s t else e1_Valid.j0 k true neg s t) else e1_Valid.j0 k true neg s t) (fun k => by rw [e1_Valid.f]) (Ev.bind r1 (Ev.same (fun k => if_pos e1) (Ev.bind r2 (Ev.same (fun k => if_neg e2) (rj true)))))⟩
 rw [q_Valid.f, n1, Option.bind_some, if_pos e1, n2, Option.bind_some, show ((nrm t).toList != t.toList) = true from bne_iff_ne.2 e2]
theorem clean_both {neg : Bool} {s t : ByteArray} (hs : s.size ≤ 1000) (ht : t.size ≤ 1000) : ∃ r : Bool × ByteArray × ByteArray, Ev (fun k => q_clean.f k neg s t) r ∧ Ev (fun k => e1_Fix.f k neg s t) r := by
 obtain ⟨v, h1, h2⟩ := valid_both (neg := neg) hs ht
 refine ⟨if v = true then (neg, s, t) else (false, ⟨#[]⟩, ⟨#[]⟩), Ev.same (h := fun k => (q_Valid.f k neg s t).bind fun t264 => if t264 = true then some (neg, s, t) else some (false, ⟨#[]⟩, ⟨#[]⟩)) (fun k => by rw [q_clean.f]) (Ev.bind h1 ?_), Ev.same (h := fun k => (e1_Valid.f k neg s t).bind fun t264 => if t264 = true then some (neg, s, t) else some (false, ⟨#[]⟩, ⟨#[]⟩)) (fun k => by rw [e1_Fix.f]) (Ev.bind h2 ?_)⟩
 ·cases v <;> exact Ev.ret
 cases v <;> exact Ev.ret
theorem sign_of (neg : Bool) (s t : ByteArray) : ∃ c, q_signOf.f neg s t = some c ∧ e1_Signum.f neg s t = some c := by
 unfold q_signOf.f e1_Signum.f
 split
 ·exact ⟨_, rfl, rfl⟩
 split
 ·exact ⟨_, rfl, rfl⟩
 exact ⟨_, rfl, rfl⟩
theorem sign_both {neg : Bool} {s t : ByteArray} (hs : s.size ≤ 1000) (ht : t.size ≤ 1000) : ∃ c, Ev (fun k => q_Sign.f k neg s t) c ∧ Ev (fun k => e1_Sign.f k neg s t) c := by
 obtain ⟨r, h1, h2⟩ := clean_both (neg := neg) hs ht
 obtain ⟨c, c1, c2⟩ := sign_of r.1 r.2.1 r.2.2
 refine ⟨c, Ev.same (h := fun k => (q_clean.f k neg s t).bind fun bt => (q_signOf.f bt.1 bt.2.1 bt.2.2).bind fun t => some t) (fun k => by rw [q_Sign.f]) (Ev.bind h1 (Ev.same (fun k => by rw [c1]; rfl) Ev.ret)), Ev.same (h := fun k => (e1_Fix.f k neg s t).bind fun bt => (e1_Signum.f bt.1 bt.2.1 bt.2.2).bind fun t => some t) (fun k => by rw [e1_Sign.f]) (Ev.bind h2 (Ev.same (fun k => by rw [c2]; rfl) Ev.ret))⟩
end Go.Proofs.YtfnfjmeiaamheaaDoor.PA
namespace Go.Proofs.YtfnfjmeiaamheaaDoor.PA
open Go.RowKit Go.Proofs.YtfnfjmeiaamheaaDoorW.PrintWords Go.Proofs.YtfnfjmeiaamheaaDoorW.PrintLast Go.Proofs.YtfnfjmeiaamheaaDoorW.PrintMore
attribute [local go_sem] max2_int min2_int max_two min_two max_three min_three max_four min_four
def c_isCode.l0 : Nat → ByteArray → Int → Int → Option (Bool)
 | 0, _, _, _ => none
 | k + 1, x0, x5, x6 => if x6 < x5 then (if 0 ≤ x6 then (if x6 < (x0.size : Int) then (if (bt x0 x6) < 65 then (some false) else (if (bt x0 x6) > 90 then (some false) else (c_isCode.l0 k x0 x5 (wrap64 (x6 + 1))))) else (none)) else (none)) else (some ((x0.size : Int) == 3))
def c_isCode.f (k : Nat) (a0 : ByteArray) : Option (Bool) := c_isCode.l0 k a0 (a0.size : Int) 0
set_option maxHeartbeats 8000000 in
set_option maxRecDepth 100000 in
theorem c_isCode.calls (k : Nat) (a0 : ByteArray) (r : Bool) (w : World) (h : c_isCode.f k a0 = some r) :
  Calls Tryd.prog 24 #[.string a0] w fun e w' => e = .returned (.bool r) ∧ Drawn0 w w' := by
 have H : (c_isCode.l0 k a0 (a0.size : Int) 0) = some r := h
 clear h
 have H' := Aside0.mk H
 clear H
 go_enter Tryd.func24, Tryd.ntmps24
 go_wp2
 go_loopg [6] k (fun kq v6 w' => ∃ (x6_1 : Int), v6 = .int .i64 x6_1 ∧ Aside0 (c_isCode.l0 kq a0 (a0.size : Int) x6_1 = some r) ∧ Aside0 (kq ≤ k) ∧ Drawn0 w w')
 case atStart => exact ⟨(0), (by first | rfl | (simp; done) | (simp [*]; done)), H', ⟨Nat.le_refl _⟩, by repeat (first | exact Drawn0.refl _ | apply Drawn0.step)⟩
 case round =>
  clear H'
  obtain ⟨x6_1, rfl, HA, HK1, ⟨m1, rfl⟩⟩ := hrel
  cases gk with
  | zero => exact absurd HA.out (by simp [c_isCode.l0])
  | succ k1 =>
   have H := HA.out
   clear HA
   simp only [c_isCode.l0] at H
   by_cases c2 : x6_1 < (a0.size : Int)
   rotate_left
   ·rw [if_neg c2] at H
    have c2b0 := decide_eq_false c2
    clear c2
    obtain rfl := Option.some.inj H
    go_wp2
    go_ret
    exact ⟨by first | rfl | (simp; done) | (simp [*]; done), by repeat (first | exact Drawn0.refl _ | apply Drawn0.step)⟩
   rw [if_pos c2] at H
   have c2b0 := decide_eq_true c2
   clear c2
   by_cases c3 : 0 ≤ x6_1
   rotate_left
   ·rw [if_neg c3] at H
    exact absurd H (by simp)
   rw [if_pos c3] at H
   have c3b0 := decide_eq_true c3
   clear c3
   by_cases c4 : x6_1 < (a0.size : Int)
   rotate_left
   ·rw [if_neg c4] at H
    exact absurd H (by simp)
   rw [if_pos c4] at H
   have c4b0 := decide_eq_true c4
   clear c4
   by_cases c6 : (bt a0 x6_1) < 65
   ·rw [if_pos c6] at H
    have c6b0 := decide_eq_true c6
    clear c6
    obtain rfl := Option.some.inj H
    have p5 : 0 ≤ (x6_1 : Int) := odt
    have q5 : x6_1 < (a0.size : Int) := odt
    have hx5 := bt_at a0 x6_1
    replace p5 := eq_true p5
    replace q5 := eq_true q5
    go_wp2
    go_ret
    exact ⟨by first | rfl | (simp; done) | (simp [*]; done), by repeat (first | exact Drawn0.refl _ | apply Drawn0.step)⟩
   rw [if_neg c6] at H
   have c6b0 := decide_eq_false c6
   clear c6
   by_cases c8 : (bt a0 x6_1) > 90
   ·rw [if_pos c8] at H
    have c8b0 : decide (90 < (bt a0 x6_1)) = true := decide_eq_true c8
    clear c8
    obtain rfl := Option.some.inj H
    have p5 : 0 ≤ (x6_1 : Int) := odt
    have q5 : x6_1 < (a0.size : Int) := odt
    have hx5 := bt_at a0 x6_1
    replace p5 := eq_true p5
    replace q5 := eq_true q5
    have p7 : 0 ≤ (x6_1 : Int) := odt
    have q7 : x6_1 < (a0.size : Int) := odt
    have hx7 := bt_at a0 x6_1
    replace p7 := eq_true p7
    replace q7 := eq_true q7
    go_wp2
    go_ret
    exact ⟨by first | rfl | (simp; done) | (simp [*]; done), by repeat (first | exact Drawn0.refl _ | apply Drawn0.step)⟩
   rw [if_neg c8] at H
   have c8b0 : decide (90 < (bt a0 x6_1)) = false := decide_eq_false c8
   clear c8
   have H' := Aside0.mk H
   clear H
   have p5 : 0 ≤ (x6_1 : Int) := odt
   have q5 : x6_1 < (a0.size : Int) := odt
   have hx5 := bt_at a0 x6_1
   replace p5 := eq_true p5
   replace q5 := eq_true q5
   have p7 : 0 ≤ (x6_1 : Int) := odt
   have q7 : x6_1 < (a0.size : Int) := odt
   have hx7 := bt_at a0 x6_1
   replace p7 := eq_true p7
   replace q7 := eq_true q7
   go_wp2
   go_roundg k1
   case measure => have := HK1.out; omega
   case rel => exact ⟨(wrap64 (x6_1 + 1)), (by first | rfl | (simp; done) | (simp [*]; done)), H', ⟨by have := HK1.out; omega⟩, by repeat (first | exact Drawn0.refl _ | apply Drawn0.step)⟩
def c_isDay.f (a0 : Int) : Option (Bool) := if a0 ≥ 0 then (some (decide (a0 ≤ 1048576))) else (some false)
set_option maxHeartbeats 8000000 in
set_option maxRecDepth 100000 in
theorem c_isDay.calls (a0 : Int) (r : Bool) (w : World) (h : c_isDay.f a0 = some r) :
  Calls Tryd.prog 25 #[.int .i64 a0] w fun e w' => e = .returned (.bool r) ∧ Drawn0 w w' := by
 have H : (if a0 ≥ 0 then (some (decide (a0 ≤ 1048576))) else (some false)) = some r := h
 clear h
 by_cases c2 : a0 ≥ 0
 ·rw [if_pos c2] at H
  have c2b0 : decide (0 ≤ a0) = true := decide_eq_true c2
  clear c2
  obtain rfl := Option.some.inj H
  go_enter Tryd.func25, Tryd.ntmps25
  go_wp2
  go_ret
  exact ⟨by first | rfl | (simp; done) | (simp [*]; done), by repeat (first | exact Drawn0.refl _ | apply Drawn0.step)⟩
 rw [if_neg c2] at H
 have c2b0 : decide (0 ≤ a0) = false := decide_eq_false c2
 clear c2
 obtain rfl := Option.some.inj H
 go_enter Tryd.func25, Tryd.ntmps25
 go_wp2
 go_ret
 exact ⟨by first | rfl | (simp; done) | (simp [*]; done), by repeat (first | exact Drawn0.refl _ | apply Drawn0.step)⟩
end Go.Proofs.YtfnfjmeiaamheaaDoor.PA
namespace Go.Proofs.YtfnfjmeiaamheaaDoor.PA
open Go.RowKit Go.Proofs.YtfnfjmeiaamheaaDoorW.PrintWords Go.Proofs.YtfnfjmeiaamheaaDoorW.PrintLast Go.Proofs.YtfnfjmeiaamheaaDoorW.PrintMore
open Go.Maps (Keyed)
def keyV (q : S33) : Value := .agg #[.string q.f0, .int .i64 q.f1]
def keyL (q : S33) : Lit := .string (keyBytes [.string q.f0.data.toList, .int .i64 q.f1])
def keyOk (q : S33) : Bool := decide (q.f0.size ≤ maxLen) && (Lit.int .i64 q.f1).wf
def hasKey (l : List S33) (q : S33) : Bool := l.any fun p => decide (p.f0 = q.f0) && decide (p.f1 = q.f1)
def c_isDay_has.f (l0 : List S33) (i : Int) : Option Bool := if (0 ≤ i ∧ i < l0.length) ∧ keyOk (rd_T33 l0 i) = true then some (hasKey (l0.take i.toNat) (rd_T33 l0 i)) else none
theorem has_inv {l0 : List S33} {i : Int} {t : Bool} (h : c_isDay_has.f l0 i = some t) : keyOk (rd_T33 l0 i) = true ∧ hasKey (l0.take i.toNat) (rd_T33 l0 i) = t ∧ 0 ≤ i ∧ i < l0.length := by
 unfold c_isDay_has.f at h
 split at h
 ·rename_i hc
  exact ⟨hc.2, Option.some.inj h, hc.1.1, hc.1.2⟩
 cases h
theorem mp_laidOut : laidOutB Tryd.prog = true := by kernel_rfl
theorem mp_row54 : (54 : TypeId) < Tryd.prog.types.size := of_decide_eq_true (by kernel_rfl)
theorem mp_u54 : Tryd.prog.underlying 54 = some (.struct #[{ name := "code", type := 9, offset := 0, embedded := false, tag := "", pkgPath := "insolvency/currency", byteOffset := 0 }, { name := "day", type := 3, offset := 1, embedded := false, tag := "", pkgPath := "insolvency/currency", byteOffset := 16 }]) := by kernel_rfl
theorem mp_u52 : Tryd.prog.underlying 52 = some (.map 54 4) := by kernel_rfl
theorem mp_u4 : Tryd.prog.underlying 4 = some .bool := by kernel_rfl
theorem mp_u9 : Tryd.prog.underlying 9 = some .string := by kernel_rfl
theorem mp_u3 : Tryd.prog.underlying 3 = some (.int .i64) := by kernel_rfl
theorem mp_wide : (match Tryd.prog.underlying 54 with | some (.array _ _) | some (.struct _) => true | _ => false) = true := by rw [mp_u54]
set_option maxRecDepth 100000 in
theorem mp_keyed : Keyed Tryd.prog 54 := Keyed.of_law (deep_law_laid mp_laidOut (m := 2) (by omega) mp_row54 (by kernel_rfl) mp_wide)
theorem mp_keyType : Tryd.prog.keyType 54 = true := by kernel_rfl
theorem mp_c54 : Tryd.prog.cellsOf 54 = 2 := by kernel_rfl
theorem mp_c9 : Tryd.prog.cellsOf 9 = 1 := by kernel_rfl
theorem mp_c3 : Tryd.prog.cellsOf 3 = 1 := by kernel_rfl
theorem mp_zero (w : World) : (zeroValue 4).run Tryd.prog w = .ok (.bool false) w := by kernel_rfl
set_option maxRecDepth 100000 in
theorem mp_keyOf {q : S33} (h : keyOk q = true) : keyOf Tryd.prog 54 (keyV q) = some (keyL q) := by
 simp only [keyOk, Bool.and_eq_true, decide_eq_true_eq] at h
 obtain ⟨hs, hw⟩ := h
 obtain ⟨m, hm⟩ : ∃ m, Tryd.prog.types.size = m + 1 := ⟨Tryd.prog.types.size - 1, (Nat.succ_pred_eq_of_pos (Nat.lt_of_le_of_lt (Nat.zero_le _) mp_row54)).symm⟩
 have hf : (keyV q).formed Tryd.prog 54 = true := by simp [keyV, Value.formed, mp_u54, mp_c54]
 have hl : Tryd.prog.keyLits (Tryd.prog.types.size + 1) 54 (keyV q).cells.toList = some [.string q.f0.data.toList, .int .i64 q.f1] := by
  rw [hm]
  simp [keyV, Value.cells, Program.keyLits, mp_u54, mp_u9, mp_u3, mp_c54, mp_c9, mp_c3, hs, hw]
 unfold keyOf
 rw [mp_u54]
 simp only [mp_keyType, hf, Bool.and_self, if_true, hl, Option.map_some, keyL]
theorem plainElem_bool_inv {P : Program} {e : TypeId} (he : P.underlying e = some .bool) {v : Value} {t : Bool} {ps : List MemPlace} (h : plainElem (H := Unit) P e v = some (.lit (.bool t), ps)) : v = .bool t := by
 unfold plainElem at h
 rw [he] at h
 cases v <;> simp at h
 rw [h.1]
theorem mp_same {p q : S33} (hp : keyOk p = true) (hq : keyOk q = true) : (keyL p = keyL q) ↔ (p.f0 = q.f0 ∧ p.f1 = q.f1) := by
 constructor
 ·intro h
  have h1 := mp_keyOf hp
  rw [h] at h1
  have := mp_keyed.inj h1 (mp_keyOf hq)
  simpa [keyV] using this
 rintro ⟨h1, h2⟩
 simp [keyL, h1, h2]
def Mp (w : World) (b : Nat) (l : List S33) : Prop :=
 ∃ D n, w.ownsMap Tryd.prog 54 (plainElem (H := Unit) Tryd.prog 4) b n D ∧ n ≤ l.length ∧ ∀ q, keyOk q = true → D.atKey (keyL q) (.lit (.bool false)) = .lit (.bool (hasKey l q))
namespace Mp
section
variable {w w' w1 : World} {b g : Nat} {l : List S33}
theorem made (w : World) : Mp (w.alloc (.map #[] 0)) w.heap.size [] := ⟨_, _, World.ownsMap_made w _ _ _, Nat.le_refl _, fun _ _ => rfl⟩
theorem kept {row : Option Nat} (h : Mp w b l) (hg : w.grownBy w' row) (hne : some b ≠ row) : Mp w' b l := by
 obtain ⟨D, n, ho, hn, hD⟩ := h
 exact ⟨D, n, ho.kept hg hne, hn, hD⟩
theorem lt (h : Mp w b l) : b < w.heap.size := by
 obtain ⟨D, n, ho, _⟩ := h
 exact ho.lt
theorem alloc (h : Mp w b l) (o : Obj) : Mp (w.alloc o) b l := h.kept (World.grownBy_alloc w o none) (by simp)
theorem below (h : Mp w b l) (hb : Below w.heap.size w w1) : Mp w1 b l := by
 have hlt := h.lt
 obtain ⟨D, n, ⟨es, clock, h1, h2⟩, hn, hD⟩ := h
 exact ⟨D, n, ⟨es, clock, (hb.block b hlt).trans h1, h2⟩, hn, hD⟩
theorem drew (h : Mp w b l) : Mp w.drew b l := h.below (below_drew (Below.refl _ _))
theorem drewN (h : Mp w b l) (m : Nat) : Mp (w.drewN m) b l := h.below (pw_below_drewN (Below.refl _ _) m)
theorem far (h : Mp w b l) {i : Nat} (hp : b ≠ g) (v : Value) : Mp (w.setCell ⟨g, i, none⟩ v) b l := by
 have hlt := h.lt
 obtain ⟨D, n, ⟨es, clock, h1, h2⟩, hn, hD⟩ := h
 exact ⟨D, n, ⟨es, clock, (Below.heap_setCell w ⟨g, i, none⟩ v b hp).trans h1, h2⟩, hn, hD⟩
theorem look {ops : Array Oper} {rest : List Oper} {o : Oper} {a : Act} {Q : Exit → Act → World → Prop} (hgd : o.guard = none) {N : Tmp} (hd : o.dst = some N) {m x : Operand} (ho : o.op = .lookup 52 m x false) (hm : a.eval m = .map (some b)) (h : Mp w b l) (q : S33)
 (hx : a.eval x = keyV q) (hq : keyOk q = true) {t : Bool} (ht : hasKey l q = t) (hK : wpList Tryd.prog ops Q rest (a.put o.dst (.bool t)) w) : wpList Tryd.prog ops Q (o :: rest) a w := by
 obtain ⟨D, n, hown, _, hD⟩ := h
 obtain ⟨v, ps, hrun, hv⟩ := hown.lookup mp_keyed mp_u52 (mp_zero w) (plainElem_bool mp_u4 false) (mp_keyOf hq)
 rw [hD q hq, ht] at hv
 rw [plainElem_bool_inv mp_u4 hv] at hrun
 refine wpList_plain hgd fun K' hK' => ?_
 unfold Oper.wp
 simp [execOp, ho, hm, hx, hrun, Result.andThen]
 exact hK' _ _ hK
theorem put {ops : Array Oper} {rest : List Oper} {o : Oper} {a : Act} {Q : Exit → Act → World → Prop} (hgd : o.guard = none) {m x v : Operand} (ho : o.op = .mapUpdate 52 m x v) (hm : a.eval m = .map (some b)) (h : Mp w b l) (q : S33)
  (hx : a.eval x = keyV q) (hv : a.eval v = .bool true) (hq : keyOk q = true) (hl : l.length < 1000) (hK : ∀ w', Mp w' b (l ++ [q]) → w.grownBy w' (some b) → wpList Tryd.prog ops Q rest (a.put o.dst undef) w') : wpList Tryd.prog ops Q (o :: rest) a w := by
 obtain ⟨D, n, hown, hn, hD⟩ := h
 refine wpList_mapUpdate_own w hgd m x v 52 ho 54 4 mp_keyed mp_u52 _ b n D hm hown (by simp only [maxLen]; omega) (keyV q) (.bool true) (keyL q) hx hv (mp_keyOf hq) (.lit (.bool true)) [] (plainElem_bool mp_u4 true) ?_
 intro w' h1 hg
 refine hK w' ⟨_, _, h1, by simp; omega, fun p hp => ?_⟩ hg
 by_cases e : keyL p = keyL q
 ·have h2 := (mp_same hp hq).1 e
  rw [e, Maps.atKey_put_same ?_ (mp_keyed.key (mp_keyOf hq))]
  ·simp [hasKey, h2.1, h2.2]
  obtain ⟨es, clock, _, _, _, rfl⟩ := hown
  exact ⟨_, rfl⟩
 rw [Maps.atKey_put_other e, hD p hp]
 have h3 : ¬ (q.f0 = p.f0 ∧ q.f1 = p.f1) := fun h4 => e ((mp_same hp hq).2 ⟨h4.1.symm, h4.2.symm⟩)
 have h5 : (decide (q.f0 = p.f0) && decide (q.f1 = p.f1)) = false := by
  rw [Bool.and_eq_false_iff, decide_eq_false_iff_not, decide_eq_false_iff_not]
  by_cases h6 : q.f0 = p.f0
  rotate_left
  ·exact .inl h6
  exact .inr fun h7 => h3 ⟨h6, h7⟩
 simp only [hasKey, List.any_append, List.any_cons, List.any_nil, Bool.or_false, h5]
end
theorem next_ {l0 : List S33} {i : Int} {w : World} {b : Nat} (h : Mp w b (l0.take i.toNat ++ [rd_T33 l0 i])) (h0 : 0 ≤ i) (h1 : i < l0.length) (hl : l0.length ≤ 256) : Mp w b (l0.take (wrap64 (i + 1)).toNat) := by
 have e1 : (wrap64 (i + 1)).toNat = i.toNat + 1 := by unfold wrap64; omega
 have e2 : i.toNat < l0.length := by omega
 rw [e1, List.take_add_one, List.getElem?_eq_getElem e2]
 simpa [rd_T33, List.getD_eq_getElem?_getD, List.getElem?_eq_getElem e2] using h
end Mp
end Go.Proofs.YtfnfjmeiaamheaaDoor.PA
namespace Go.Proofs.YtfnfjmeiaamheaaDoor.PA
open Go.RowKit Go.Proofs.YtfnfjmeiaamheaaDoorW.PrintWords Go.Proofs.YtfnfjmeiaamheaaDoorW.PrintLast Go.Proofs.YtfnfjmeiaamheaaDoorW.PrintMore
attribute [local go_sem] max2_int min2_int max_two min_two max_three min_three max_four min_four
mutual
def c_Check.l0 : Nat → List (S33) → List (S33) → Int → Int → Option (Int)
 | 0, _, _, _, _ => none
 | k + 1, x0, x11, x12, x13 => if x13 < x12 then (if 0 ≤ x13 then (if x13 < (x11.length : Int) then ((c_isCode.f k ((rd_T33 x11 x13).f0)).bind fun t273 => (if t273 = true then (c_Check.j1 k x0 x11 x12 x13 (((rd_T33 x11 x13).f0).toList == ([69, 85, 82] : List UInt8)) ((rd_T33 x11 x13).f0) ((rd_T33 x11 x13).f1) ((rd_T33 x11 x13).f2.f0) ((rd_T33 x11 x13).f2.f1) ((rd_T33 x11 x13).f2.f2)) else (c_Check.j1 k x0 x11 x12 x13 true ((rd_T33 x11 x13).f0) ((rd_T33 x11 x13).f1) ((rd_T33 x11 x13).f2.f0) ((rd_T33 x11 x13).f2.f1) ((rd_T33 x11 x13).f2.f2)))) else (none)) else (none)) else (some 0)
def c_Check.j1 : Nat → List (S33) → List (S33) → Int → Int → Bool → ByteArray → Int → Bool → ByteArray → ByteArray → Option (Int)
 | 0, _, _, _, _, _, _, _, _, _, _ => none
 | k + 1, x0, x11, x12, x13, x22, x272000, x272001, x272002, x272003, x272004 => if x22 = true then (some 8) else ((c_isDay.f x272001).bind fun t274 => (if t274 = true then ((q_Sign.f k x272002 x272003 x272004).bind fun t275 => (c_Check.j2 k x0 x11 x12 x13 (decide (t275 ≤ 0)))) else (c_Check.j2 k x0 x11 x12 x13 true)))
def c_Check.j2 : Nat → List (S33) → List (S33) → Int → Int → Bool → Option (Int)
 | 0, _, _, _, _, _ => none
 | k + 1, x0, x11, x12, x13, x32 => if x32 = true then (some 1) else ((c_isDay_has.f x0 x13).bind fun t276 => (if t276 = true then (some 12) else (c_Check.l0 k x0 x11 x12 (wrap64 (x13 + 1)))))
end
def c_Check.f (k : Nat) (l0 : List (S33)) : Option (Int) := if (l0.length : Int) > 256 then (some 2) else (c_Check.l0 k l0 l0 (l0.length : Int) 0)
set_option maxHeartbeats 8000000 in
set_option maxRecDepth 100000 in
theorem c_Check.calls (k : Nat) (A0 : Option Addr) (c0 : Nat) (l0 : List (S33)) (r : Int) (w : World) (hr0 : Kd.C k33 w A0 l0.length l0) (hc0 : l0.length ≤ c0) (h : c_Check.f k l0 = some r) :
  Calls Tryd.prog 12 #[.slice A0 l0.length c0] w fun e w' => e = .returned (.int .i64 r) ∧ Below w.heap.size w w' := by
 have hu33 := Tryd.underlying33
 have hu54 := Tryd.underlying54
 have hu30 := Tryd.underlying30
 have HR0 := Aside0.mk hr0
 have HC0 := Aside0.mk hc0
 clear hr0 hc0
 have HB := Aside0.mk (Below.refl w.heap.size w)
 have H : (if (l0.length : Int) > 256 then (some 2) else (c_Check.l0 k l0 l0 (l0.length : Int) 0)) = some r := h
 clear h
 by_cases c2 : (l0.length : Int) > 256
 ·rw [if_pos c2] at H
  have c2b0 : decide (256 < (l0.length : Int)) = true := decide_eq_true c2
  have c2b1 : decide (256 < l0.length) = true := decide_eq_true (by omega)
  clear c2
  obtain rfl := Option.some.inj H
  go_enter Tryd.func12, Tryd.ntmps12
  go_wp2
  go_ret
  exact ⟨by first | rfl | (simp [errW_none, errW_some] <;> rfl) | (simp [*, errW_none, errW_some] <;> rfl), bq HB.out⟩
 rw [if_neg c2] at H
 have c2b0 : decide (256 < (l0.length : Int)) = false := decide_eq_false c2
 have HL256 := Aside0.mk (show l0.length ≤ 256 by omega)
 have c2b1 : decide (256 < l0.length) = false := decide_eq_false (by omega)
 clear c2
 have H' := Aside0.mk H
 clear H
 have hmkm_ := fun W : World => run_makeMap (P := Tryd.prog) 52 W
 go_enter Tryd.func12, Tryd.ntmps12
 go_wp2
 go_loopg [13] k (fun kq v13 w' => ∃ (x13_1 : Int), v13 = .int .i64 x13_1 ∧ Aside0 (c_Check.l0 kq l0 l0 (l0.length : Int) x13_1 = some r) ∧ Aside0 (kq ≤ k) ∧ Aside0 (Below w.heap.size w w') ∧ Aside0 (Mp w' w.heap.size (l0.take x13_1.toNat)))
 case atStart => exact ⟨(0), (by first | rfl | (simp; done) | (simp [*]; done)), H', ⟨Nat.le_refl _⟩, ⟨bq HB.out⟩, ⟨Mp.made w⟩⟩
 case round =>
  clear H'
  try clear c1
  try clear c2
  try clear c2b0
  try clear c2b1
  try clear p2
  obtain ⟨x13_1, rfl, HA, HK1, HB, HM⟩ := hrel
  cases gk with
  | zero => exact absurd HA.out (by simp [c_Check.l0])
  | succ k1 =>
   have H := HA.out
   clear HA
   simp only [c_Check.l0] at H
   by_cases c3 : x13_1 < (l0.length : Int)
   rotate_left
   ·rw [if_neg c3] at H
    have c3b0 := decide_eq_false c3
    clear c3
    obtain rfl := Option.some.inj H
    go_wp2
    go_ret
    exact ⟨by first | rfl | (simp [errW_none, errW_some] <;> rfl) | (simp [*, errW_none, errW_some] <;> rfl), bq HB.out⟩
   rw [if_pos c3] at H
   have c3b0 := decide_eq_true c3
   clear c3
   by_cases c4 : 0 ≤ x13_1
   rotate_left
   ·rw [if_neg c4] at H
    exact absurd H (by simp)
   rw [if_pos c4] at H
   have c4b0 := decide_eq_true c4
   clear c4
   by_cases c5 : x13_1 < (l0.length : Int)
   rotate_left
   ·rw [if_neg c5] at H
    exact absurd H (by simp)
   rw [if_pos c5] at H
   have c5b0 := decide_eq_true c5
   clear c5
   have HC6 := Aside0.mk H
   clear H
   have p270 : 0 ≤ (x13_1 : Int) := odt
   have q270 : x13_1 < (l0.length : Int) := odt
   obtain ⟨ad270, e270, hx270_0, hx270_1, hx270_2, hx270_3, hx270_4⟩ := at_T33 HR0.out x13_1 p270 q270
   cases e270
   replace hx270_0 := (HB.out.cell (World.block_lt_of_cell? w _ hx270_0)).trans hx270_0
   replace hx270_1 := (HB.out.cell (World.block_lt_of_cell? w _ hx270_1)).trans hx270_1
   replace hx270_2 := (HB.out.cell (World.block_lt_of_cell? w _ hx270_2)).trans hx270_2
   replace hx270_3 := (HB.out.cell (World.block_lt_of_cell? w _ hx270_3)).trans hx270_3
   replace hx270_4 := (HB.out.cell (World.block_lt_of_cell? w _ hx270_4)).trans hx270_4
   replace p270 := eq_true p270
   replace q270 := eq_true q270
   go_upto_region 8 with (first | ((with_reducible refine gate_dst (N := 5) rfl ?_); refine box_event ?hg (N := 5) ?hd (cs := #[.string (⟨#[]⟩ : ByteArray), .int .i64 0, .bool false, .string (⟨#[]⟩ : ByteArray), .string (⟨#[]⟩ : ByteArray)]) (t := 33) ?hr ?_; (case hd => rfl); (case hg => rfl); (case hr => first | (go_simp; done) | (go_simp; rfl)); intro gb271 hg w7 hbox hb; have hmn_ := Aside0.mk (Mp.below (b := w.heap.size) (l := l0.take x13_1.toNat) (by repeat (first | (with_reducible first | exact HM.out | apply Mp.alloc | apply Mp.drewN | apply Mp.drew) | exact HM.out)) hb); have NM271 := Aside0.mk (show w.heap.size ≠ gb271 from by rw [hg]; exact Nat.ne_of_lt (Mp.lt (l := l0.take x13_1.toNat) (by repeat (first | (with_reducible first | exact HM.out | apply Mp.alloc | apply Mp.drewN | apply Mp.drew) | exact HM.out)))); clear HM; have HM := hmn_; clear hmn_; have BK271 := am (hbox); have GW271 := am ((by rw [hg]; exact (below_size (bq HB.out)) : w.heap.size ≤ gb271)); have GE271 := am ((by rw [hg]; exact (below_size (bq HB.out)) : w.heap.size ≤ gb271)); replace HB := am (below_step (bq HB.out) hb); clear hb hbox hg; have hcz8_0 : w7.cell? ⟨gb271, 0, none⟩ = some (.string (⟨#[]⟩ : ByteArray)) := (blk_cell BK271.out 0).trans rfl; have hcz8_1 : w7.cell? ⟨gb271, 1, none⟩ = some (.int .i64 0) := (blk_cell BK271.out 1).trans rfl; have hcz8_2 : w7.cell? ⟨gb271, 2, none⟩ = some (.bool false) := (blk_cell BK271.out 2).trans rfl; have hcz8_3 : w7.cell? ⟨gb271, 3, none⟩ = some (.string (⟨#[]⟩ : ByteArray)) := (blk_cell BK271.out 3).trans rfl; have hcz8_4 : w7.cell? ⟨gb271, 4, none⟩ = some (.string (⟨#[]⟩ : ByteArray)) := (blk_cell BK271.out 4).trans rfl; have hfz8_0 := blk_frozen BK271.out 0; have hfz8_1 := blk_frozen BK271.out 1; have hfz8_2 := blk_frozen BK271.out 2; have hfz8_3 := blk_frozen BK271.out 3; have hfz8_4 := blk_frozen BK271.out 4) | ((with_reducible refine gate_dst (N := 6) rfl ?_); refine box_event ?hg (N := 6) ?hd (cs := #[.string (⟨#[]⟩ : ByteArray), .int .i64 0]) (t := 54) ?hr ?_; (case hd => rfl); (case hg => rfl); (case hr => first | (go_simp; done) | (go_simp; rfl)); intro gb272 hg w9 hbox hb; have hmn_ := Aside0.mk (Mp.below (b := w.heap.size) (l := l0.take x13_1.toNat) (by repeat (first | (with_reducible first | exact HM.out | apply Mp.alloc | apply Mp.drewN | apply Mp.drew | refine Mp.far ?_ NM271.out _) | exact HM.out)) hb); have NM272 := Aside0.mk (show w.heap.size ≠ gb272 from by rw [hg]; exact Nat.ne_of_lt (Mp.lt (l := l0.take x13_1.toNat) (by repeat (first | (with_reducible first | exact HM.out | apply Mp.alloc | apply Mp.drewN | apply Mp.drew | refine Mp.far ?_ NM271.out _) | exact HM.out)))); clear HM; have HM := hmn_; clear hmn_; have BK272 := am (hbox); have GW272 := am ((by rw [hg]; exact (below_size (bq HB.out)) : w.heap.size ≤ gb272)); have GE272 := am ((by rw [hg]; exact (below_size (bq HB.out)) : w.heap.size ≤ gb272)); replace HB := am (below_step (bq HB.out) hb); have NB271_272 := am ((by rw [hg]; exact Nat.ne_of_lt (blk_lt (g := gb271) (o := .cells #[.string ((rd_T33 l0 x13_1).f0), .int .i64 ((rd_T33 l0 x13_1).f1), .bool ((rd_T33 l0 x13_1).f2.f0), .string ((rd_T33 l0 x13_1).f2.f1), .string ((rd_T33 l0 x13_1).f2.f2)] 33 (0, 0)) (by (with_reducible repeat (first | refine blk_drewN ?_ _ | refine blk_drew ?_ | refine blk_alloc ?_ _)); refine blk_put (cs := #[.string ((rd_T33 l0 x13_1).f0), .int .i64 ((rd_T33 l0 x13_1).f1), .bool ((rd_T33 l0 x13_1).f2.f0), .string ((rd_T33 l0 x13_1).f2.f1), .string (⟨#[]⟩ : ByteArray)]) ?_ 4 _ rfl; (with_reducible repeat (first | refine blk_drewN ?_ _ | refine blk_drew ?_ | refine blk_alloc ?_ _)); refine blk_put (cs := #[.string ((rd_T33 l0 x13_1).f0), .int .i64 ((rd_T33 l0 x13_1).f1), .bool ((rd_T33 l0 x13_1).f2.f0), .string (⟨#[]⟩ : ByteArray), .string (⟨#[]⟩ : ByteArray)]) ?_ 3 _ rfl; (with_reducible repeat (first | refine blk_drewN ?_ _ | refine blk_drew ?_ | refine blk_alloc ?_ _)); refine blk_put (cs := #[.string ((rd_T33 l0 x13_1).f0), .int .i64 ((rd_T33 l0 x13_1).f1), .bool false, .string (⟨#[]⟩ : ByteArray), .string (⟨#[]⟩ : ByteArray)]) ?_ 2 _ rfl; (with_reducible repeat (first | refine blk_drewN ?_ _ | refine blk_drew ?_ | refine blk_alloc ?_ _)); refine blk_put (cs := #[.string ((rd_T33 l0 x13_1).f0), .int .i64 0, .bool false, .string (⟨#[]⟩ : ByteArray), .string (⟨#[]⟩ : ByteArray)]) ?_ 1 _ rfl; (with_reducible repeat (first | refine blk_drewN ?_ _ | refine blk_drew ?_ | refine blk_alloc ?_ _)); refine blk_put (cs := #[.string (⟨#[]⟩ : ByteArray), .int .i64 0, .bool false, .string (⟨#[]⟩ : ByteArray), .string (⟨#[]⟩ : ByteArray)]) ?_ 0 _ rfl; (with_reducible repeat (first | refine blk_drewN ?_ _ | refine blk_drew ?_ | refine blk_alloc ?_ _)); exact BK271.out)) : gb271 ≠ gb272)); have NB272_271 := am ((by rw [hg]; exact Nat.ne_of_gt (blk_lt (g := gb271) (o := .cells #[.string ((rd_T33 l0 x13_1).f0), .int .i64 ((rd_T33 l0 x13_1).f1), .bool ((rd_T33 l0 x13_1).f2.f0), .string ((rd_T33 l0 x13_1).f2.f1), .string ((rd_T33 l0 x13_1).f2.f2)] 33 (0, 0)) (by (with_reducible repeat (first | refine blk_drewN ?_ _ | refine blk_drew ?_ | refine blk_alloc ?_ _)); refine blk_put (cs := #[.string ((rd_T33 l0 x13_1).f0), .int .i64 ((rd_T33 l0 x13_1).f1), .bool ((rd_T33 l0 x13_1).f2.f0), .string ((rd_T33 l0 x13_1).f2.f1), .string (⟨#[]⟩ : ByteArray)]) ?_ 4 _ rfl; (with_reducible repeat (first | refine blk_drewN ?_ _ | refine blk_drew ?_ | refine blk_alloc ?_ _)); refine blk_put (cs := #[.string ((rd_T33 l0 x13_1).f0), .int .i64 ((rd_T33 l0 x13_1).f1), .bool ((rd_T33 l0 x13_1).f2.f0), .string (⟨#[]⟩ : ByteArray), .string (⟨#[]⟩ : ByteArray)]) ?_ 3 _ rfl; (with_reducible repeat (first | refine blk_drewN ?_ _ | refine blk_drew ?_ | refine blk_alloc ?_ _)); refine blk_put (cs := #[.string ((rd_T33 l0 x13_1).f0), .int .i64 ((rd_T33 l0 x13_1).f1), .bool false, .string (⟨#[]⟩ : ByteArray), .string (⟨#[]⟩ : ByteArray)]) ?_ 2 _ rfl; (with_reducible repeat (first | refine blk_drewN ?_ _ | refine blk_drew ?_ | refine blk_alloc ?_ _)); refine blk_put (cs := #[.string ((rd_T33 l0 x13_1).f0), .int .i64 0, .bool false, .string (⟨#[]⟩ : ByteArray), .string (⟨#[]⟩ : ByteArray)]) ?_ 1 _ rfl; (with_reducible repeat (first | refine blk_drewN ?_ _ | refine blk_drew ?_ | refine blk_alloc ?_ _)); refine blk_put (cs := #[.string (⟨#[]⟩ : ByteArray), .int .i64 0, .bool false, .string (⟨#[]⟩ : ByteArray), .string (⟨#[]⟩ : ByteArray)]) ?_ 0 _ rfl; (with_reducible repeat (first | refine blk_drewN ?_ _ | refine blk_drew ?_ | refine blk_alloc ?_ _)); exact BK271.out)) : gb272 ≠ gb271)); replace BK271 := am (blk_below (g := gb271) (o := .cells #[.string ((rd_T33 l0 x13_1).f0), .int .i64 ((rd_T33 l0 x13_1).f1), .bool ((rd_T33 l0 x13_1).f2.f0), .string ((rd_T33 l0 x13_1).f2.f1), .string ((rd_T33 l0 x13_1).f2.f2)] 33 (0, 0)) (by (with_reducible repeat (first | refine blk_drewN ?_ _ | refine blk_drew ?_ | refine blk_alloc ?_ _)); refine blk_put (cs := #[.string ((rd_T33 l0 x13_1).f0), .int .i64 ((rd_T33 l0 x13_1).f1), .bool ((rd_T33 l0 x13_1).f2.f0), .string ((rd_T33 l0 x13_1).f2.f1), .string (⟨#[]⟩ : ByteArray)]) ?_ 4 _ rfl; (with_reducible repeat (first | refine blk_drewN ?_ _ | refine blk_drew ?_ | refine blk_alloc ?_ _)); refine blk_put (cs := #[.string ((rd_T33 l0 x13_1).f0), .int .i64 ((rd_T33 l0 x13_1).f1), .bool ((rd_T33 l0 x13_1).f2.f0), .string (⟨#[]⟩ : ByteArray), .string (⟨#[]⟩ : ByteArray)]) ?_ 3 _ rfl; (with_reducible repeat (first | refine blk_drewN ?_ _ | refine blk_drew ?_ | refine blk_alloc ?_ _)); refine blk_put (cs := #[.string ((rd_T33 l0 x13_1).f0), .int .i64 ((rd_T33 l0 x13_1).f1), .bool false, .string (⟨#[]⟩ : ByteArray), .string (⟨#[]⟩ : ByteArray)]) ?_ 2 _ rfl; (with_reducible repeat (first | refine blk_drewN ?_ _ | refine blk_drew ?_ | refine blk_alloc ?_ _)); refine blk_put (cs := #[.string ((rd_T33 l0 x13_1).f0), .int .i64 0, .bool false, .string (⟨#[]⟩ : ByteArray), .string (⟨#[]⟩ : ByteArray)]) ?_ 1 _ rfl; (with_reducible repeat (first | refine blk_drewN ?_ _ | refine blk_drew ?_ | refine blk_alloc ?_ _)); refine blk_put (cs := #[.string (⟨#[]⟩ : ByteArray), .int .i64 0, .bool false, .string (⟨#[]⟩ : ByteArray), .string (⟨#[]⟩ : ByteArray)]) ?_ 0 _ rfl; (with_reducible repeat (first | refine blk_drewN ?_ _ | refine blk_drew ?_ | refine blk_alloc ?_ _)); exact BK271.out) hb); clear hb hbox hg; have hnb10 := NB272_271.out; have hnc10 := NB271_272.out; have hcz11_0 : w9.cell? ⟨gb272, 0, none⟩ = some (.string (⟨#[]⟩ : ByteArray)) := (blk_cell BK272.out 0).trans rfl; have hcz11_1 : w9.cell? ⟨gb272, 1, none⟩ = some (.int .i64 0) := (blk_cell BK272.out 1).trans rfl; have hfz11_0 := blk_frozen BK272.out 0; have hfz11_1 := blk_frozen BK272.out 1))
   (try simp only [Act.put, List.setIfInBounds_toArray, List.set_cons_zero, List.set_cons_succ])
   go_cut [22] (fun v22 wc => ∃ (kq : Nat) (x22_5 : Bool), v22 = .bool x22_5 ∧ Aside0 (c_Check.j1 kq l0 l0 (l0.length : Int) x13_1 x22_5 ((rd_T33 l0 x13_1).f0) ((rd_T33 l0 x13_1).f1) ((rd_T33 l0 x13_1).f2.f0) ((rd_T33 l0 x13_1).f2.f1) ((rd_T33 l0 x13_1).f2.f2) = some r) ∧ Aside0 (kq ≤ k1) ∧ Aside0 (wc.heap[gb271]? = some (.cells #[.string ((rd_T33 l0 x13_1).f0), .int .i64 ((rd_T33 l0 x13_1).f1), .bool ((rd_T33 l0 x13_1).f2.f0), .string ((rd_T33 l0 x13_1).f2.f1), .string ((rd_T33 l0 x13_1).f2.f2)] 33 (0, 0))) ∧ Aside0 (wc.heap[gb272]? = some (.cells #[.string ((rd_T33 l0 x13_1).f0), .int .i64 ((rd_T33 l0 x13_1).f1)] 54 (0, 0))) ∧ Aside0 (Below w.heap.size w wc) ∧ Aside0 (Mp wc w.heap.size (l0.take x13_1.toNat)))
   case first =>
    have H := HC6.out
    clear HC6
    replace H := Option.bind_eq_some_iff.mp H
    obtain ⟨t273, A120, H⟩ := H
    try dsimp only at H
    have A12 := Aside0.mk A120
    clear A120
    by_cases c13 : t273 = true
    rotate_left
    ·replace c13 := Bool.eq_false_iff.mpr c13
     subst c13
     rw [if_neg (show ¬ (false = true) by decide)] at H
     have H' := Aside0.mk H
     clear H
     have hnb16 := NB271_272.out
     have hnc16 := NB272_271.out
     have hcz17_0 : w9.cell? ⟨gb271, 0, none⟩ = some (.string ((rd_T33 l0 x13_1).f0)) := (blk_cell BK271.out 0).trans rfl
     have hcz17_1 : w9.cell? ⟨gb271, 1, none⟩ = some (.int .i64 ((rd_T33 l0 x13_1).f1)) := (blk_cell BK271.out 1).trans rfl
     have hcz17_2 : w9.cell? ⟨gb271, 2, none⟩ = some (.bool ((rd_T33 l0 x13_1).f2.f0)) := (blk_cell BK271.out 2).trans rfl
     have hcz17_3 : w9.cell? ⟨gb271, 3, none⟩ = some (.string ((rd_T33 l0 x13_1).f2.f1)) := (blk_cell BK271.out 3).trans rfl
     have hcz17_4 : w9.cell? ⟨gb271, 4, none⟩ = some (.string ((rd_T33 l0 x13_1).f2.f2)) := (blk_cell BK271.out 4).trans rfl
     have hfz17_0 := blk_frozen BK271.out 0
     have hfz17_1 := blk_frozen BK271.out 1
     have hfz17_2 := blk_frozen BK271.out 2
     have hfz17_3 := blk_frozen BK271.out 3
     have hfz17_4 := blk_frozen BK271.out 4
     go_wp2_with (first | ((with_reducible refine gate_callee (f := 24) rfl ?_); refine goesq (some 25) Tryd.func24 #[.string ((rd_T33 l0 x13_1).f0)] ?_; (with_reducible refine (c_isCode.calls k1 ((rd_T33 l0 x13_1).f0) false _ A12.out).mono ?_); rintro e w' ⟨rfl, ⟨nd, rfl⟩⟩; refine ⟨_, rfl, ?_⟩))
     go_meet
     case rel => exact ⟨_, (true), (by first | rfl | (simp; done) | (simp [*]; done)), H', ⟨by have := HK1.out; first | omega | exact Nat.le_refl _⟩, ⟨by (with_reducible repeat (first | refine blk_drewN ?_ _ | refine blk_drew ?_ | refine blk_alloc ?_ _)); refine blk_far ?_ NB271_272.out _; (with_reducible repeat (first | refine blk_drewN ?_ _ | refine blk_drew ?_ | refine blk_alloc ?_ _)); refine blk_far ?_ NB271_272.out _; (with_reducible repeat (first | refine blk_drewN ?_ _ | refine blk_drew ?_ | refine blk_alloc ?_ _)); exact BK271.out⟩, ⟨by (with_reducible repeat (first | refine blk_drewN ?_ _ | refine blk_drew ?_ | refine blk_alloc ?_ _)); refine blk_put (cs := #[.string ((rd_T33 l0 x13_1).f0), .int .i64 0]) ?_ 1 _ rfl; (with_reducible repeat (first | refine blk_drewN ?_ _ | refine blk_drew ?_ | refine blk_alloc ?_ _)); refine blk_put (cs := #[.string (⟨#[]⟩ : ByteArray), .int .i64 0]) ?_ 0 _ rfl; (with_reducible repeat (first | refine blk_drewN ?_ _ | refine blk_drew ?_ | refine blk_alloc ?_ _)); exact BK272.out⟩, ⟨bq HB.out⟩, ⟨by repeat (first | (with_reducible first | exact HM.out | apply Mp.alloc | apply Mp.drewN | apply Mp.drew | refine Mp.far ?_ NM271.out _ | refine Mp.far ?_ NM272.out _) | exact HM.out)⟩⟩
    subst c13
    rw [if_pos rfl] at H
    have H' := Aside0.mk H
    clear H
    have hnb14 := NB271_272.out
    have hnc14 := NB272_271.out
    have hcz15_0 : w9.cell? ⟨gb271, 0, none⟩ = some (.string ((rd_T33 l0 x13_1).f0)) := (blk_cell BK271.out 0).trans rfl
    have hcz15_1 : w9.cell? ⟨gb271, 1, none⟩ = some (.int .i64 ((rd_T33 l0 x13_1).f1)) := (blk_cell BK271.out 1).trans rfl
    have hcz15_2 : w9.cell? ⟨gb271, 2, none⟩ = some (.bool ((rd_T33 l0 x13_1).f2.f0)) := (blk_cell BK271.out 2).trans rfl
    have hcz15_3 : w9.cell? ⟨gb271, 3, none⟩ = some (.string ((rd_T33 l0 x13_1).f2.f1)) := (blk_cell BK271.out 3).trans rfl
    have hcz15_4 : w9.cell? ⟨gb271, 4, none⟩ = some (.string ((rd_T33 l0 x13_1).f2.f2)) := (blk_cell BK271.out 4).trans rfl
    have hfz15_0 := blk_frozen BK271.out 0
    have hfz15_1 := blk_frozen BK271.out 1
    have hfz15_2 := blk_frozen BK271.out 2
    have hfz15_3 := blk_frozen BK271.out 3
    have hfz15_4 := blk_frozen BK271.out 4
    go_wp2_with (first | ((with_reducible refine gate_callee (f := 24) rfl ?_); refine goesq (some 25) Tryd.func24 #[.string ((rd_T33 l0 x13_1).f0)] ?_; (with_reducible refine (c_isCode.calls k1 ((rd_T33 l0 x13_1).f0) true _ A12.out).mono ?_); rintro e w' ⟨rfl, ⟨nd, rfl⟩⟩; refine ⟨_, rfl, ?_⟩))
    go_meet
    case rel => exact ⟨_, ((((rd_T33 l0 x13_1).f0).toList == ([69, 85, 82] : List UInt8))), (by first | rfl | (simp; done) | (simp [*]; done)), H', ⟨by have := HK1.out; first | omega | exact Nat.le_refl _⟩, ⟨by (with_reducible repeat (first | refine blk_drewN ?_ _ | refine blk_drew ?_ | refine blk_alloc ?_ _)); refine blk_far ?_ NB271_272.out _; (with_reducible repeat (first | refine blk_drewN ?_ _ | refine blk_drew ?_ | refine blk_alloc ?_ _)); refine blk_far ?_ NB271_272.out _; (with_reducible repeat (first | refine blk_drewN ?_ _ | refine blk_drew ?_ | refine blk_alloc ?_ _)); exact BK271.out⟩, ⟨by (with_reducible repeat (first | refine blk_drewN ?_ _ | refine blk_drew ?_ | refine blk_alloc ?_ _)); refine blk_put (cs := #[.string ((rd_T33 l0 x13_1).f0), .int .i64 0]) ?_ 1 _ rfl; (with_reducible repeat (first | refine blk_drewN ?_ _ | refine blk_drew ?_ | refine blk_alloc ?_ _)); refine blk_put (cs := #[.string (⟨#[]⟩ : ByteArray), .int .i64 0]) ?_ 0 _ rfl; (with_reducible repeat (first | refine blk_drewN ?_ _ | refine blk_drew ?_ | refine blk_alloc ?_ _)); exact BK272.out⟩, ⟨bq HB.out⟩, ⟨by repeat (first | (with_reducible first | exact HM.out | apply Mp.alloc | apply Mp.drewN | apply Mp.drew | refine Mp.far ?_ NM271.out _ | refine Mp.far ?_ NM272.out _) | exact HM.out)⟩⟩
   case rest =>
    clear HC6
    try clear c1
    try clear c2
    try clear c2b0
    try clear c2b1
    try clear p2
    try clear q2
    try clear hx2
    try clear c3
    try clear c3b0
    try clear c4
    try clear c4b0
    try clear c5
    try clear c5b0
    try clear c10
    try clear c12
    try clear c13
    try clear c14
    try clear c16
    try clear hcz11_0
    try clear hcz11_1
    try clear hcz15_0
    try clear hcz15_1
    try clear hcz15_2
    try clear hcz15_3
    try clear hcz15_4
    try clear hcz17_0
    try clear hcz17_1
    try clear hcz17_2
    try clear hcz17_3
    try clear hcz17_4
    try clear hcz8_0
    try clear hcz8_1
    try clear hcz8_2
    try clear hcz8_3
    try clear hcz8_4
    try clear hfz11_0
    try clear hfz11_1
    try clear hfz15_0
    try clear hfz15_1
    try clear hfz15_2
    try clear hfz15_3
    try clear hfz15_4
    try clear hfz17_0
    try clear hfz17_1
    try clear hfz17_2
    try clear hfz17_3
    try clear hfz17_4
    try clear hfz8_0
    try clear hfz8_1
    try clear hfz8_2
    try clear hfz8_3
    try clear hfz8_4
    try clear hx270_0
    try clear hx270_1
    try clear hx270_2
    try clear hx270_3
    try clear hx270_4
    try clear p2
    try clear p270
    try clear q270
    obtain ⟨kq, x22_5, rfl, HA, HJ5, BK271, BK272, HB, HM⟩ := hcut
    cases kq with
    | zero => exact absurd HA.out (by simp [c_Check.j1])
    | succ kj5 =>
     have H := HA.out
     clear HA
     simp only [c_Check.j1] at H
     by_cases c18 : x22_5 = true
     ·subst c18
      rw [if_pos rfl] at H
      obtain rfl := Option.some.inj H
      go_wp2
      go_ret
      exact ⟨by first | rfl | (simp [errW_none, errW_some] <;> rfl) | (simp [*, errW_none, errW_some] <;> rfl), bq HB.out⟩
     replace c18 := Bool.eq_false_iff.mpr c18
     subst c18
     rw [if_neg (show ¬ (false = true) by decide)] at H
     have HC19 := Aside0.mk H
     clear H
     go_upto_region 10 with (fail)
     go_cut [32] (fun v32 wc => ∃ (kq : Nat) (x32_18 : Bool), v32 = .bool x32_18 ∧ Aside0 (c_Check.j2 kq l0 l0 (l0.length : Int) x13_1 x32_18 = some r) ∧ Aside0 (kq ≤ kj5) ∧ Aside0 (wc.heap[gb271]? = some (.cells #[.string ((rd_T33 l0 x13_1).f0), .int .i64 ((rd_T33 l0 x13_1).f1), .bool ((rd_T33 l0 x13_1).f2.f0), .string ((rd_T33 l0 x13_1).f2.f1), .string ((rd_T33 l0 x13_1).f2.f2)] 33 (0, 0))) ∧ Aside0 (wc.heap[gb272]? = some (.cells #[.string ((rd_T33 l0 x13_1).f0), .int .i64 ((rd_T33 l0 x13_1).f1)] 54 (0, 0))) ∧ Aside0 (Below w.heap.size w wc) ∧ Aside0 (Mp wc w.heap.size (l0.take x13_1.toNat)))
     case first =>
      have H := HC19.out
      clear HC19
      replace H := Option.bind_eq_some_iff.mp H
      obtain ⟨t274, A200, H⟩ := H
      try dsimp only at H
      have A20 := Aside0.mk A200
      clear A200
      by_cases c21 : t274 = true
      rotate_left
      ·replace c21 := Bool.eq_false_iff.mpr c21
       subst c21
       rw [if_neg (show ¬ (false = true) by decide)] at H
       have H' := Aside0.mk H
       clear H
       have hnb26 := NB271_272.out
       have hnc26 := NB272_271.out
       have hcz27_0 : wc.cell? ⟨gb271, 0, none⟩ = some (.string ((rd_T33 l0 x13_1).f0)) := (blk_cell BK271.out 0).trans rfl
       have hcz27_1 : wc.cell? ⟨gb271, 1, none⟩ = some (.int .i64 ((rd_T33 l0 x13_1).f1)) := (blk_cell BK271.out 1).trans rfl
       have hcz27_2 : wc.cell? ⟨gb271, 2, none⟩ = some (.bool ((rd_T33 l0 x13_1).f2.f0)) := (blk_cell BK271.out 2).trans rfl
       have hcz27_3 : wc.cell? ⟨gb271, 3, none⟩ = some (.string ((rd_T33 l0 x13_1).f2.f1)) := (blk_cell BK271.out 3).trans rfl
       have hcz27_4 : wc.cell? ⟨gb271, 4, none⟩ = some (.string ((rd_T33 l0 x13_1).f2.f2)) := (blk_cell BK271.out 4).trans rfl
       have hfz27_0 := blk_frozen BK271.out 0
       have hfz27_1 := blk_frozen BK271.out 1
       have hfz27_2 := blk_frozen BK271.out 2
       have hfz27_3 := blk_frozen BK271.out 3
       have hfz27_4 := blk_frozen BK271.out 4
       go_wp2_with (first | ((with_reducible refine gate_callee (f := 25) rfl ?_); refine goesq (some 35) Tryd.func25 #[.int .i64 ((rd_T33 l0 x13_1).f1)] ?_; (with_reducible refine (c_isDay.calls ((rd_T33 l0 x13_1).f1) false _ A20.out).mono ?_); rintro e w' ⟨rfl, ⟨nd, rfl⟩⟩; refine ⟨_, rfl, ?_⟩))
       go_meet
       case rel => exact ⟨_, (true), (by first | rfl | (simp; done) | (simp [*]; done)), H', ⟨by have := HK1.out; have := HJ5.out; first | omega | exact Nat.le_refl _⟩, ⟨by (with_reducible repeat (first | refine blk_drewN ?_ _ | refine blk_drew ?_ | refine blk_alloc ?_ _)); exact BK271.out⟩, ⟨by (with_reducible repeat (first | refine blk_drewN ?_ _ | refine blk_drew ?_ | refine blk_alloc ?_ _)); exact BK272.out⟩, ⟨bq HB.out⟩, ⟨by repeat (first | (with_reducible first | exact HM.out | apply Mp.alloc | apply Mp.drewN | apply Mp.drew | refine Mp.far ?_ NM271.out _ | refine Mp.far ?_ NM272.out _) | exact HM.out)⟩⟩
      subst c21
      rw [if_pos rfl] at H
      replace H := Option.bind_eq_some_iff.mp H
      obtain ⟨t275, A220, H⟩ := H
      try dsimp only at H
      have A22 := Aside0.mk A220
      clear A220
      have H' := Aside0.mk H
      clear H
      have hnb23 := NB271_272.out
      have hnc23 := NB272_271.out
      have hcz24_0 : wc.cell? ⟨gb271, 0, none⟩ = some (.string ((rd_T33 l0 x13_1).f0)) := (blk_cell BK271.out 0).trans rfl
      have hcz24_1 : wc.cell? ⟨gb271, 1, none⟩ = some (.int .i64 ((rd_T33 l0 x13_1).f1)) := (blk_cell BK271.out 1).trans rfl
      have hcz24_2 : wc.cell? ⟨gb271, 2, none⟩ = some (.bool ((rd_T33 l0 x13_1).f2.f0)) := (blk_cell BK271.out 2).trans rfl
      have hcz24_3 : wc.cell? ⟨gb271, 3, none⟩ = some (.string ((rd_T33 l0 x13_1).f2.f1)) := (blk_cell BK271.out 3).trans rfl
      have hcz24_4 : wc.cell? ⟨gb271, 4, none⟩ = some (.string ((rd_T33 l0 x13_1).f2.f2)) := (blk_cell BK271.out 4).trans rfl
      have hfz24_0 := blk_frozen BK271.out 0
      have hfz24_1 := blk_frozen BK271.out 1
      have hfz24_2 := blk_frozen BK271.out 2
      have hfz24_3 := blk_frozen BK271.out 3
      have hfz24_4 := blk_frozen BK271.out 4
      go_wp2_with (first | ((with_reducible refine gate_callee (f := 25) rfl ?_); refine goesq (some 35) Tryd.func25 #[.int .i64 ((rd_T33 l0 x13_1).f1)] ?_; (with_reducible refine (c_isDay.calls ((rd_T33 l0 x13_1).f1) true _ A20.out).mono ?_); rintro e w' ⟨rfl, ⟨nd, rfl⟩⟩; refine ⟨_, rfl, ?_⟩) | (go_at_call 26; (with_reducible refine (q_Sign.calls kj5 ((rd_T33 l0 x13_1).f2.f0) ((rd_T33 l0 x13_1).f2.f1) ((rd_T33 l0 x13_1).f2.f2) t275 _ A22.out).mono ?_); rintro e w25 ⟨rfl, hb⟩; have hmn_ := Aside0.mk (Mp.below (b := w.heap.size) (l := l0.take x13_1.toNat) (by repeat (first | (with_reducible first | exact HM.out | apply Mp.alloc | apply Mp.drewN | apply Mp.drew | refine Mp.far ?_ NM271.out _ | refine Mp.far ?_ NM272.out _) | exact HM.out)) hb); clear HM; have HM := hmn_; clear hmn_; replace BK271 := am (blk_below (g := gb271) (o := .cells #[.string ((rd_T33 l0 x13_1).f0), .int .i64 ((rd_T33 l0 x13_1).f1), .bool ((rd_T33 l0 x13_1).f2.f0), .string ((rd_T33 l0 x13_1).f2.f1), .string ((rd_T33 l0 x13_1).f2.f2)] 33 (0, 0)) (kq BK271.out) hb); replace BK272 := am (blk_below (g := gb272) (o := .cells #[.string ((rd_T33 l0 x13_1).f0), .int .i64 ((rd_T33 l0 x13_1).f1)] 54 (0, 0)) (kq BK272.out) hb); replace HB := am (below_step (bq HB.out) hb); (try clear hb)))
      go_meet
      case rel => exact ⟨_, (decide (t275 ≤ 0)), (by first | rfl | (simp; done) | (simp [*]; done)), H', ⟨by have := HK1.out; have := HJ5.out; first | omega | exact Nat.le_refl _⟩, ⟨by (with_reducible repeat (first | refine blk_drewN ?_ _ | refine blk_drew ?_ | refine blk_alloc ?_ _)); exact BK271.out⟩, ⟨by (with_reducible repeat (first | refine blk_drewN ?_ _ | refine blk_drew ?_ | refine blk_alloc ?_ _)); exact BK272.out⟩, ⟨bq HB.out⟩, ⟨by repeat (first | (with_reducible first | exact HM.out | apply Mp.alloc | apply Mp.drewN | apply Mp.drew | refine Mp.far ?_ NM271.out _ | refine Mp.far ?_ NM272.out _) | exact HM.out)⟩⟩
     case rest =>
      clear HC19
      try clear c1
      try clear c2
      try clear c2b0
      try clear c2b1
      try clear p2
      try clear q2
      try clear hx2
      try clear c3
      try clear c3b0
      try clear c4
      try clear c4b0
      try clear c5
      try clear c5b0
      try clear c10
      try clear c12
      try clear c13
      try clear c14
      try clear c16
      try clear c18
      try clear c21
      try clear c23
      try clear c24
      try clear c25
      try clear c26
      try clear p27
      try clear q27
      try clear hx27
      try clear hcz11_0
      try clear hcz11_1
      try clear hcz15_0
      try clear hcz15_1
      try clear hcz15_2
      try clear hcz15_3
      try clear hcz15_4
      try clear hcz17_0
      try clear hcz17_1
      try clear hcz17_2
      try clear hcz17_3
      try clear hcz17_4
      try clear hcz24_0
      try clear hcz24_1
      try clear hcz24_2
      try clear hcz24_3
      try clear hcz24_4
      try clear hcz27_0
      try clear hcz27_1
      try clear hcz27_2
      try clear hcz27_3
      try clear hcz27_4
      try clear hcz8_0
      try clear hcz8_1
      try clear hcz8_2
      try clear hcz8_3
      try clear hcz8_4
      try clear hfz11_0
      try clear hfz11_1
      try clear hfz15_0
      try clear hfz15_1
      try clear hfz15_2
      try clear hfz15_3
      try clear hfz15_4
      try clear hfz17_0
      try clear hfz17_1
      try clear hfz17_2
      try clear hfz17_3
      try clear hfz17_4
      try clear hfz24_0
      try clear hfz24_1
      try clear hfz24_2
      try clear hfz24_3
      try clear hfz24_4
      try clear hfz27_0
      try clear hfz27_1
      try clear hfz27_2
      try clear hfz27_3
      try clear hfz27_4
      try clear hfz8_0
      try clear hfz8_1
      try clear hfz8_2
      try clear hfz8_3
      try clear hfz8_4
      try clear hx270_0
      try clear hx270_1
      try clear hx270_2
      try clear hx270_3
      try clear hx270_4
      try clear p2
      try clear p270
      try clear q2
      try clear q270
      obtain ⟨kq, x32_18, rfl, HA, HJ18, BK271, BK272, HB, HM⟩ := hcut
      cases kq with
      | zero => exact absurd HA.out (by simp [c_Check.j2])
      | succ kj18 =>
       have H := HA.out
       clear HA
       simp only [c_Check.j2] at H
       by_cases c28 : x32_18 = true
       ·subst c28
        rw [if_pos rfl] at H
        obtain rfl := Option.some.inj H
        go_wp2
        go_ret
        exact ⟨by first | rfl | (simp [errW_none, errW_some] <;> rfl) | (simp [*, errW_none, errW_some] <;> rfl), bq HB.out⟩
       replace c28 := Bool.eq_false_iff.mpr c28
       subst c28
       rw [if_neg (show ¬ (false = true) by decide)] at H
       replace H := Option.bind_eq_some_iff.mp H
       obtain ⟨t276, A290, H⟩ := H
       try dsimp only at H
       have A29 := Aside0.mk A290
       clear A290
       by_cases c30 : t276 = true
       ·subst c30
        rw [if_pos rfl] at H
        obtain rfl := Option.some.inj H
        have hhas_ := Aside0.mk (has_inv A29.out)
        have hczk_0 := (blk_cell BK272.out 0).trans (show _ = some (Value.string ((rd_T33 l0 x13_1).f0)) from rfl)
        have hczk_1 := (blk_cell BK272.out 1).trans (show _ = some (Value.int .i64 ((rd_T33 l0 x13_1).f1)) from rfl)
        go_wp2_with (first | ((with_reducible refine gate_dst (N := 46) rfl ?_); refine Mp.look rfl (N := 46) rfl rfl rfl (by repeat (first | (with_reducible first | exact HM.out | apply Mp.alloc | apply Mp.drewN | apply Mp.drew | refine Mp.far ?_ NM271.out _ | refine Mp.far ?_ NM272.out _) | exact HM.out)) (rd_T33 l0 x13_1) rfl hhas_.out.1 hhas_.out.2.1 ?_) | (at_mapUpdate; refine Mp.put rfl rfl rfl (by repeat (first | (with_reducible first | exact HM.out | apply Mp.alloc | apply Mp.drewN | apply Mp.drew | refine Mp.far ?_ NM271.out _ | refine Mp.far ?_ NM272.out _) | exact HM.out)) (rd_T33 l0 x13_1) rfl rfl hhas_.out.1 (by have := HL256.out; simp only [List.length_take]; omega) ?_; intro wm_ hmm_ hgm_; have n0_ := Aside0.mk (Below.grown (bq HB.out) hgm_ (below_size (bq HB.out)) (fun k hk => by injection hk with hk; omega)); clear HB; clear HM; have HB := n0_; have HM := Aside0.mk hmm_; clear n0_ hmm_ hgm_))
        go_ret
        exact ⟨by first | rfl | (simp [errW_none, errW_some] <;> rfl) | (simp [*, errW_none, errW_some] <;> rfl), bq HB.out⟩
       replace c30 := Bool.eq_false_iff.mpr c30
       subst c30
       rw [if_neg (show ¬ (false = true) by decide)] at H
       have H' := Aside0.mk H
       clear H
       have hhas_ := Aside0.mk (has_inv A29.out)
       have hczk_0 := (blk_cell BK272.out 0).trans (show _ = some (Value.string ((rd_T33 l0 x13_1).f0)) from rfl)
       have hczk_1 := (blk_cell BK272.out 1).trans (show _ = some (Value.int .i64 ((rd_T33 l0 x13_1).f1)) from rfl)
       go_wp2_with (first | ((with_reducible refine gate_dst (N := 46) rfl ?_); refine Mp.look rfl (N := 46) rfl rfl rfl (by repeat (first | (with_reducible first | exact HM.out | apply Mp.alloc | apply Mp.drewN | apply Mp.drew | refine Mp.far ?_ NM271.out _ | refine Mp.far ?_ NM272.out _) | exact HM.out)) (rd_T33 l0 x13_1) rfl hhas_.out.1 hhas_.out.2.1 ?_) | (at_mapUpdate; refine Mp.put rfl rfl rfl (by repeat (first | (with_reducible first | exact HM.out | apply Mp.alloc | apply Mp.drewN | apply Mp.drew | refine Mp.far ?_ NM271.out _ | refine Mp.far ?_ NM272.out _) | exact HM.out)) (rd_T33 l0 x13_1) rfl rfl hhas_.out.1 (by have := HL256.out; simp only [List.length_take]; omega) ?_; intro wm_ hmm_ hgm_; have n0_ := Aside0.mk (Below.grown (bq HB.out) hgm_ (below_size (bq HB.out)) (fun k hk => by injection hk with hk; omega)); clear HB; clear HM; have HB := n0_; have HM := Aside0.mk hmm_; clear n0_ hmm_ hgm_))
       go_roundg kj18
       case measure => have := HK1.out; have := HJ5.out; have := HJ18.out; omega
       case rel => exact ⟨(wrap64 (x13_1 + 1)), (by first | rfl | (simp; done) | (simp [*]; done)), H', ⟨by have := HK1.out; have := HJ5.out; have := HJ18.out; omega⟩, ⟨bq HB.out⟩, ⟨Mp.next_ HM.out hhas_.out.2.2.1 hhas_.out.2.2.2 HL256.out⟩⟩
def e1_IsCode.l0 : Nat → ByteArray → Int → Option (Bool)
 | 0, _, _ => none
 | k + 1, x0, x3 => if x3 < (x0.size : Int) then (if 0 ≤ x3 then (if (bt x0 x3) < 65 then (some false) else (if (bt x0 x3) > 90 then (some false) else (e1_IsCode.l0 k x0 (wrap64 (x3 + 1))))) else (none)) else (some ((x0.size : Int) == 3))
def e1_IsCode.f (k : Nat) (a0 : ByteArray) : Option (Bool) := e1_IsCode.l0 k a0 0
set_option maxHeartbeats 8000000 in
set_option maxRecDepth 100000 in
theorem e1_IsCode.calls (k : Nat) (a0 : ByteArray) (r : Bool) (w : World) (h : e1_IsCode.f k a0 = some r) :
  Calls Tryd.prog 27 #[.string a0] w fun e w' => e = .returned (.bool r) ∧ Drawn0 w w' := by
 have H : (e1_IsCode.l0 k a0 0) = some r := h
 clear h
 have H' := Aside0.mk H
 clear H
 go_enter Tryd.func27, Tryd.ntmps27
 go_wp2
 go_loopg [3] k (fun kq v3 w' => ∃ (x3_1 : Int), v3 = .int .i64 x3_1 ∧ Aside0 (e1_IsCode.l0 kq a0 x3_1 = some r) ∧ Aside0 (kq ≤ k) ∧ Drawn0 w w')
 case atStart => exact ⟨(0), (by first | rfl | (simp; done) | (simp [*]; done)), H', ⟨Nat.le_refl _⟩, by repeat (first | exact Drawn0.refl _ | apply Drawn0.step)⟩
 case round =>
  clear H'
  obtain ⟨x3_1, rfl, HA, HK1, ⟨m1, rfl⟩⟩ := hrel
  cases gk with
  | zero => exact absurd HA.out (by simp [e1_IsCode.l0])
  | succ k1 =>
   have H := HA.out
   clear HA
   simp only [e1_IsCode.l0] at H
   by_cases c2 : x3_1 < (a0.size : Int)
   rotate_left
   ·rw [if_neg c2] at H
    have c2b0 := decide_eq_false c2
    clear c2
    obtain rfl := Option.some.inj H
    go_wp2
    go_ret
    exact ⟨by first | rfl | (simp; done) | (simp [*]; done), by repeat (first | exact Drawn0.refl _ | apply Drawn0.step)⟩
   rw [if_pos c2] at H
   have c2b0 := decide_eq_true c2
   clear c2
   by_cases c3 : 0 ≤ x3_1
   rotate_left
   ·rw [if_neg c3] at H
    exact absurd H (by simp)
   rw [if_pos c3] at H
   have c3b0 := decide_eq_true c3
   clear c3
   by_cases c5 : (bt a0 x3_1) < 65
   ·rw [if_pos c5] at H
    have c5b0 := decide_eq_true c5
    clear c5
    obtain rfl := Option.some.inj H
    have p4 : 0 ≤ (x3_1 : Int) := odt
    have q4 : x3_1 < (a0.size : Int) := odt
    have hx4 := bt_at a0 x3_1
    replace p4 := eq_true p4
    replace q4 := eq_true q4
    go_wp2
    go_ret
    exact ⟨by first | rfl | (simp; done) | (simp [*]; done), by repeat (first | exact Drawn0.refl _ | apply Drawn0.step)⟩
   rw [if_neg c5] at H
   have c5b0 := decide_eq_false c5
   clear c5
   by_cases c7 : (bt a0 x3_1) > 90
   ·rw [if_pos c7] at H
    have c7b0 : decide (90 < (bt a0 x3_1)) = true := decide_eq_true c7
    clear c7
    obtain rfl := Option.some.inj H
    have p4 : 0 ≤ (x3_1 : Int) := odt
    have q4 : x3_1 < (a0.size : Int) := odt
    have hx4 := bt_at a0 x3_1
    replace p4 := eq_true p4
    replace q4 := eq_true q4
    have p6 : 0 ≤ (x3_1 : Int) := odt
    have q6 : x3_1 < (a0.size : Int) := odt
    have hx6 := bt_at a0 x3_1
    replace p6 := eq_true p6
    replace q6 := eq_true q6
    go_wp2
    go_ret
    exact ⟨by first | rfl | (simp; done) | (simp [*]; done), by repeat (first | exact Drawn0.refl _ | apply Drawn0.step)⟩
   rw [if_neg c7] at H
   have c7b0 : decide (90 < (bt a0 x3_1)) = false := decide_eq_false c7
   clear c7
   have H' := Aside0.mk H
   clear H
   have p4 : 0 ≤ (x3_1 : Int) := odt
   have q4 : x3_1 < (a0.size : Int) := odt
   have hx4 := bt_at a0 x3_1
   replace p4 := eq_true p4
   replace q4 := eq_true q4
   have p6 : 0 ≤ (x3_1 : Int) := odt
   have q6 : x3_1 < (a0.size : Int) := odt
   have hx6 := bt_at a0 x3_1
   replace p6 := eq_true p6
   replace q6 := eq_true q6
   go_wp2
   go_roundg k1
   case measure => have := HK1.out; omega
   case rel => exact ⟨(wrap64 (x3_1 + 1)), (by first | rfl | (simp; done) | (simp [*]; done)), H', ⟨by have := HK1.out; omega⟩, by repeat (first | exact Drawn0.refl _ | apply Drawn0.step)⟩
def e1_IsDay.f (a0 : Int) : Option (Bool) := if a0 ≥ 0 then (some (decide (a0 ≤ 1048576))) else (some false)
set_option maxHeartbeats 8000000 in
set_option maxRecDepth 100000 in
theorem e1_IsDay.calls (a0 : Int) (r : Bool) (w : World) (h : e1_IsDay.f a0 = some r) :
  Calls Tryd.prog 28 #[.int .i64 a0] w fun e w' => e = .returned (.bool r) ∧ Drawn0 w w' := by
 have H : (if a0 ≥ 0 then (some (decide (a0 ≤ 1048576))) else (some false)) = some r := h
 clear h
 by_cases c2 : a0 ≥ 0
 ·rw [if_pos c2] at H
  have c2b0 : decide (0 ≤ a0) = true := decide_eq_true c2
  clear c2
  obtain rfl := Option.some.inj H
  go_enter Tryd.func28, Tryd.ntmps28
  go_wp2
  go_ret
  exact ⟨by first | rfl | (simp; done) | (simp [*]; done), by repeat (first | exact Drawn0.refl _ | apply Drawn0.step)⟩
 rw [if_neg c2] at H
 have c2b0 : decide (0 ≤ a0) = false := decide_eq_false c2
 clear c2
 obtain rfl := Option.some.inj H
 go_enter Tryd.func28, Tryd.ntmps28
 go_wp2
 go_ret
 exact ⟨by first | rfl | (simp; done) | (simp [*]; done), by repeat (first | exact Drawn0.refl _ | apply Drawn0.step)⟩
end Go.Proofs.YtfnfjmeiaamheaaDoor.PA
