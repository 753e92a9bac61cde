/- Texts of this claim, made small by a program of mine (wip/tools/small.py): words that the kit's print tool writes, walks, and what they rest on. -/
import Derived.Test.YtfnfjmeiaamheaaDoorMany1
import Derived.Maps.OwnOps
import Derived.Maps.Views
import Derived.DeepKeys4
import Derived.Carry
set_option linter.unusedVariables false
set_option linter.unusedSimpArgs false
namespace Go.Proofs.YtfnfjmeiaamheaaDoor.PA
open Go.RowKit Go.Proofs.YtfnfjmeiaamheaaDoorW.PrintWords Go.Proofs.YtfnfjmeiaamheaaDoorW.PrintLast Go.Proofs.YtfnfjmeiaamheaaDoorW.PrintMore
attribute [local go_sem] max2_int min2_int max_two min_two max_three min_three max_four min_four
def natural_divide.l0 : Nat → Int → Int → List Int → List Int → List Int → Int → Option (List Int × List Int)
 | 0, _, _, _, _, _, _ => none
 | k + 1, x8, x9, x10, x11, x12, x13 => if x13 ≥ 0 then ((natural_step_at.f k x11 x10 x13 (wrap64 ((wrap64 (x13 + x9)) + 1))).bind fun bt226 => (if 0 ≤ x13 then (if x13 < (x12.length : Int) then (natural_divide.l0 k x8 x9 x10 bt226.2 (x12.set (x13 : Int).toNat bt226.1) (wrap64 (x13 - 1))) else (none)) else (none))) else ((natural_limbs_trim.f k x12).bind fun t229 => (if 0 ≤ x9 then (if x9 ≤ (x11.length : Int) then ((natural_unshift.f k (x11.take (x9 : Int).toNat) x8).bind fun t236 => (some (t229, t236))) else (none)) else (none)))
def natural_divide.f (k : Nat) (l0 : List Int) (l1 : List Int) : Option (List Int × List Int) := (natural_compare.f k l0 l1).bind fun t203 => (if t203 < 0 then (some (([] : List Int), l0)) else (if (l1.length : Int) = 1 then (if 0 < (l1.length : Int) then ((natural_divideSmall.f k l0 (rd l1 0)).bind fun bt205 => ((natural_limbs_trim.f k (([bt205.2] : List Int))).bind fun t212 => (some (bt205.1, t212)))) else (none)) else (if 0 ≤ (wrap64 ((l1.length : Int) - 1)) then (if (wrap64 ((l1.length : Int) - 1)) < (l1.length : Int) then ((bits_LeadingZeros32.f (rd l1 (wrap64 ((l1.length : Int) - 1)))).bind fun t216 => ((natural_shift.f k l1 (IntKind.u64.wrap (t216)) (l1.length : Int)).bind fun t217 => ((natural_shift.f k l0 (IntKind.u64.wrap (t216)) (wrap64 ((l0.length : Int) + 1))).bind fun t220 => (if 0 ≤ (wrap64 ((wrap64 ((l0.length : Int) - (l1.length : Int))) + 1)) then (if (wrap64 ((wrap64 ((l0.length : Int) - (l1.length : Int))) + 1) : Int).toNat ≤ 70368744177664 then ((some (List.replicate (wrap64 ((wrap64 ((l0.length : Int) - (l1.length : Int))) + 1) : Int).toNat 0 : List Int)).bind fun y223 => (natural_divide.l0 k (IntKind.u64.wrap (t216)) (l1.length : Int) t217 t220 y223 (wrap64 ((y223.length : Int) - 1)))) else (none)) else (none))))) else (none)) else (none))))
theorem natural_divide.mono_l : ∀ k, (∀ y0 y1 y2 y3 y4 y5, LeO (natural_divide.l0 k y0 y1 y2 y3 y4 y5) (natural_divide.l0 (k + 1) y0 y1 y2 y3 y4 y5))
 | 0 => fun _ _ _ _ _ _ r h => by simp [natural_divide.l0] at h
 | k + 1 => by
  have ih0 := natural_divide.mono_l k
  intro y0 y1 y2 y3 y4 y5
  unfold natural_divide.l0
  repeat' first
  | (with_reducible exact ih0 _ _ _ _ _ _)
  | (with_reducible exact natural_compare.mono _ _ _)
  | (with_reducible exact natural_divideSmall.mono _ _ _)
  | (with_reducible exact natural_limbs_trim.mono _ _)
  | (with_reducible exact natural_shift.mono _ _ _ _)
  | (with_reducible exact natural_step_at.mono _ _ _ _ _)
  | (with_reducible exact natural_unshift.mono _ _ _)
  | (with_reducible exact LeO.refl _)
  | (with_reducible exact LeO.none _)
  | (with_reducible refine LeO.ite ?_ ?_)
  | (with_reducible refine LeO.bind ?_ (fun _ => ?_))
  | exact ih0 _ _ _ _ _ _
  | exact natural_compare.mono _ _ _
  | exact natural_divideSmall.mono _ _ _
  | exact natural_limbs_trim.mono _ _
  | exact natural_shift.mono _ _ _ _
  | exact natural_step_at.mono _ _ _ _ _
  | exact natural_unshift.mono _ _ _
  | exact LeO.none _
  | refine LeO.ite ?_ ?_
  | refine LeO.bind ?_ (fun _ => ?_)
theorem natural_divide.mono : ∀ a0 a1 k, LeO (natural_divide.f k a0 a1) (natural_divide.f (k + 1) a0 a1) := by
 intro a0 a1 k
 have ih0 := natural_divide.mono_l k
 unfold natural_divide.f
 repeat' first
  | (with_reducible exact ih0 _ _ _ _ _ _)
  | (with_reducible exact natural_compare.mono _ _ _)
  | (with_reducible exact natural_divideSmall.mono _ _ _)
  | (with_reducible exact natural_limbs_trim.mono _ _)
  | (with_reducible exact natural_shift.mono _ _ _ _)
  | (with_reducible exact natural_step_at.mono _ _ _ _ _)
  | (with_reducible exact natural_unshift.mono _ _ _)
  | (with_reducible exact LeO.refl _)
  | (with_reducible exact LeO.none _)
  | (with_reducible refine LeO.ite ?_ ?_)
  | (with_reducible refine LeO.bind ?_ (fun _ => ?_))
  | exact ih0 _ _ _ _ _ _
  | exact natural_compare.mono _ _ _
  | exact natural_divideSmall.mono _ _ _
  | exact natural_limbs_trim.mono _ _
  | exact natural_shift.mono _ _ _ _
  | exact natural_step_at.mono _ _ _ _ _
  | exact natural_unshift.mono _ _ _
  | exact LeO.none _
  | refine LeO.ite ?_ ?_
  | refine LeO.bind ?_ (fun _ => ?_)
def natural_divide.T15 : Bool × List (List Nat × List Nat) := (true, [([], []), ([0], [0]), ([], []), ([], []), ([2, 3], [2, 3]), ([], []), ([4, 5, 1], [4, 5]), ([1, 6, 0, 1], [1]), ([6, 7, 0, 1, 2, 3, 4, 5, 6, 7], [6])])
def natural_divide.B15 : List Nat := [0, 1, 0, 0, 12, 0, 63, 127, 255]
theorem natural_divide.tab15 : rtab .any (opsOf Tryd.f63 15) = natural_divide.T15 := by kernel_rfl
theorem natural_divide.bits15 : waitsOk natural_divide.T15.2 natural_divide.B15 = true := by kernel_rfl
set_option maxHeartbeats 8000000 in
set_option maxRecDepth 100000 in
theorem natural_divide.calls (k : Nat) (P0_ : Nat → Prop) (A0 : Option Addr) (c0 : Nat) (l0 : List Int) (A1 : Option Addr) (c1 : Nat) (l1 : List Int) (r1 : List Int) (r2 : List Int) (w : World) (hs0 : Kd.V (Kd.int .u32) 88 w w.heap.size (fun k_ => P0_ k_) (.slice A0 l0.length c0) l0) (hr1 : Kd.C (Kd.int .u32) w A1 l1.length l1) (hc1 : l1.length ≤ c1) (h : natural_divide.f k l0 l1 = some (r1, r2)) :
  Calls Tryd.prog 63 #[.slice A0 l0.length c0, .slice A1 l1.length c1] w fun e w' => ∃ v0_ v1_ : Value, e = .returned (.tuple #[v0_, v1_]) ∧ Kd.V (Kd.int .u32) 88 w' w.heap.size (fun k_ => (P0_ k_ ∨ w.heap.size ≤ k_)) v0_ r1 ∧ Kd.V (Kd.int .u32) 88 w' w.heap.size (fun k_ => (P0_ k_ ∨ w.heap.size ≤ k_)) v1_ r2 ∧ Below w.heap.size w w' := by
 have HO0 := Aside0.mk (show Kd.V (Kd.int .u32) 88 w w.heap.size (fun k_ => (P0_ k_ ∨ w.heap.size ≤ k_)) (.slice A0 l0.length c0) l0 from Kd.V_mono hs0 (fun k_ hk => .inl hk))
 have HR1 := Aside0.mk hr1
 have HC1 := Aside0.mk hc1
 clear hr1 hc1
 have HB := Aside0.mk (Below.refl w.heap.size w)
 have H : ((natural_compare.f k l0 l1).bind fun t203 => (if t203 < 0 then (some (([] : List Int), l0)) else (if (l1.length : Int) = 1 then (if 0 < (l1.length : Int) then ((natural_divideSmall.f k l0 (rd l1 0)).bind fun bt205 => ((natural_limbs_trim.f k (([bt205.2] : List Int))).bind fun t212 => (some (bt205.1, t212)))) else (none)) else (if 0 ≤ (wrap64 ((l1.length : Int) - 1)) then (if (wrap64 ((l1.length : Int) - 1)) < (l1.length : Int) then ((bits_LeadingZeros32.f (rd l1 (wrap64 ((l1.length : Int) - 1)))).bind fun t216 => ((natural_shift.f k l1 (IntKind.u64.wrap (t216)) (l1.length : Int)).bind fun t217 => ((natural_shift.f k l0 (IntKind.u64.wrap (t216)) (wrap64 ((l0.length : Int) + 1))).bind fun t220 => (if 0 ≤ (wrap64 ((wrap64 ((l0.length : Int) - (l1.length : Int))) + 1)) then (if (wrap64 ((wrap64 ((l0.length : Int) - (l1.length : Int))) + 1) : Int).toNat ≤ 70368744177664 then ((some (List.replicate (wrap64 ((wrap64 ((l0.length : Int) - (l1.length : Int))) + 1) : Int).toNat 0 : List Int)).bind fun y223 => (natural_divide.l0 k (IntKind.u64.wrap (t216)) (l1.length : Int) t217 t220 y223 (wrap64 ((y223.length : Int) - 1)))) else (none)) else (none))))) else (none)) else (none))))) = some (r1, r2) := h
 clear h
 replace H := Option.bind_eq_some_iff.mp H
 obtain ⟨t203, A30, H⟩ := H
 replace H : (if t203 < 0 then (some (([] : List Int), l0)) else (if (l1.length : Int) = 1 then (if 0 < (l1.length : Int) then ((natural_divideSmall.f k l0 (rd l1 0)).bind fun bt205 => ((natural_limbs_trim.f k (([bt205.2] : List Int))).bind fun t212 => (some (bt205.1, t212)))) else (none)) else (if 0 ≤ (wrap64 ((l1.length : Int) - 1)) then (if (wrap64 ((l1.length : Int) - 1)) < (l1.length : Int) then ((bits_LeadingZeros32.f (rd l1 (wrap64 ((l1.length : Int) - 1)))).bind fun t216 => ((natural_shift.f k l1 (IntKind.u64.wrap (t216)) (l1.length : Int)).bind fun t217 => ((natural_shift.f k l0 (IntKind.u64.wrap (t216)) (wrap64 ((l0.length : Int) + 1))).bind fun t220 => (if 0 ≤ (wrap64 ((wrap64 ((l0.length : Int) - (l1.length : Int))) + 1)) then (if (wrap64 ((wrap64 ((l0.length : Int) - (l1.length : Int))) + 1) : Int).toNat ≤ 70368744177664 then ((some (List.replicate (wrap64 ((wrap64 ((l0.length : Int) - (l1.length : Int))) + 1) : Int).toNat 0 : List Int)).bind fun y223 => (natural_divide.l0 k (IntKind.u64.wrap (t216)) (l1.length : Int) t217 t220 y223 (wrap64 ((y223.length : Int) - 1)))) else (none)) else (none))))) else (none)) else (none)))) = some (r1, r2) := H
 have A3 := Aside0.mk A30
 clear A30
 by_cases c4 : t203 < 0
 ·rw [if_pos c4] at H
  have c4b0 : decide (t203 < 0) = true := decide_eq_true c4
  clear c4
  simp only [Option.some.injEq, Prod.mk.injEq] at H
  obtain ⟨rfl, rfl⟩ := H
  go_enter Tryd.func63, Tryd.ntmps63
  go_wp2_with (first | ((with_reducible refine gate_callee (f := 77) rfl ?_); refine goesL_ (some 16) rfl rfl Tryd.func77 (by kernel_rfl) rfl #[.slice A0 l0.length c0, .slice A1 l1.length c1] rfl (by (try simp only [List.map_toArray, List.map_cons, List.map_nil]); first | done | rfl | (simp only [List.length_drop, List.length_take]; rfl)) ?_; (with_reducible refine (natural_compare.calls k _ _ l0 _ _ l1 t203 _ ?side1 ?side2 ?side3 ?side4 A3.out).mono ?_); (case side1 => repeat (first | exact (Kd.V_reads' HO0.out).2.2 | (with_reducible refine Kd.C_alloc ?_ _) | (with_reducible refine Kd.C_drewN ?_ _) | (with_reducible refine Kd.C_drew ?_))); (case side2 => exact (Kd.V_reads' HO0.out).2.1); (case side3 => repeat (first | exact HR1.out | (with_reducible refine Kd.C_alloc ?_ _) | (with_reducible refine Kd.C_drewN ?_ _) | (with_reducible refine Kd.C_drew ?_))); (case side4 => exact HC1.out); rintro e w' ⟨rfl, ⟨nd, rfl⟩⟩; refine ⟨_, rfl, ?_⟩))
  go_ret2
  exact ⟨_, _, by first | rfl | (simp [errW_none, errW_some] <;> rfl) | (simp [*, errW_none, errW_some] <;> rfl), Kd.V_nil _ _ _ _ _, by (with_reducible repeat (first | apply Kd.V_alloc | apply Kd.V_drewN | apply Kd.V_drew)); exact HO0.out, by repeat (first | (with_reducible first | exact HB.out | apply below_alloc | apply pw_below_drewN | apply below_drew1) | exact HB.out)⟩
 rw [if_neg c4] at H
 have c4b0 : decide (t203 < 0) = false := decide_eq_false c4
 clear c4
 by_cases c5 : (l1.length : Int) = 1
 ·rw [if_pos c5] at H
  have c5b0 : ((l1.length : Int) == 1) = true := beq_iff_eq.mpr c5
  have c5b1 : ((l1.length : Int) != 1) = false := bne_eq_false_iff_eq.mpr c5
  clear c5
  by_cases c6 : 0 < (l1.length : Int)
  rotate_left
  ·rw [if_neg c6] at H
   exact absurd H (by simp)
  rw [if_pos c6] at H
  have c6b0 : decide (0 < (l1.length : Int)) = true := decide_eq_true c6
  have c6b1 : decide (0 < l1.length) = true := decide_eq_true (by omega)
  clear c6
  replace H := Option.bind_eq_some_iff.mp H
  obtain ⟨⟨t205, t208⟩, A70, H⟩ := H
  replace H : ((natural_limbs_trim.f k (([t208] : List Int))).bind fun t212 => (some (t205, t212))) = some (r1, r2) := H
  have A7 := Aside0.mk A70
  clear A70
  obtain ⟨y209, hy209⟩ : ∃ y_ : List Int, y_ = (([t208] : List Int)) := ⟨_, rfl⟩
  replace H : ((natural_limbs_trim.f k y209).bind fun t212 => (some (t205, t212))) = some (r1, r2) := by first | (rw [hy209]; with_reducible exact H) | (have H2_ := (Option.bind_some _ _).symm.trans H; rw [hy209]; with_reducible exact H2_) | (have H2_ := (Option.bind_some _ _).symm.trans H; with_reducible exact H2_) | with_reducible exact H | (rw [hy209]; exact H) | exact H
  have Ny209 := Aside0.mk hy209
  clear hy209
  replace H := Option.bind_eq_some_iff.mp H
  obtain ⟨t212, A80, H⟩ := H
  replace H : (some (t205, t212)) = some (r1, r2) := H
  have A8 := Aside0.mk A80
  clear A80
  simp only [Option.some.injEq, Prod.mk.injEq] at H
  obtain ⟨rfl, rfl⟩ := H
  go_enter Tryd.func63, Tryd.ntmps63
  go_wp2_with (first | ((with_reducible refine gate_callee (f := 77) rfl ?_); refine goesL_ (some 16) rfl rfl Tryd.func77 (by kernel_rfl) rfl #[.slice A0 l0.length c0, .slice A1 l1.length c1] rfl (by (try simp only [List.map_toArray, List.map_cons, List.map_nil]); first | done | rfl | (simp only [List.length_drop, List.length_take]; rfl)) ?_; (with_reducible refine (natural_compare.calls k _ _ l0 _ _ l1 t203 _ ?side1 ?side2 ?side3 ?side4 A3.out).mono ?_); (case side1 => repeat (first | exact (Kd.V_reads' HO0.out).2.2 | (with_reducible refine Kd.C_alloc ?_ _) | (with_reducible refine Kd.C_drewN ?_ _) | (with_reducible refine Kd.C_drew ?_))); (case side2 => exact (Kd.V_reads' HO0.out).2.1); (case side3 => repeat (first | exact HR1.out | (with_reducible refine Kd.C_alloc ?_ _) | (with_reducible refine Kd.C_drewN ?_ _) | (with_reducible refine Kd.C_drew ?_))); (case side4 => exact HC1.out); rintro e w' ⟨rfl, ⟨nd, rfl⟩⟩; refine ⟨_, rfl, ?_⟩; have p204 : 0 ≤ (0 : Int) := (by omega); have q204 : 0 < (l1.length : Int) := of_decide_eq_true (by first | (with_reducible assumption) | assumption); obtain ⟨ad204, e204, hx204_0⟩ := Kd.at_int HR1.out 0 p204 q204; cases e204; have qi204 : (0 < l1.length) = True := eq_true (by omega); (try rw [show ((0 : Int)).toNat = 0 from rfl] at hx204_0); (try rw [Addr.add_zero'] at hx204_0); replace p204 := eq_true p204; replace q204 := eq_true q204) | ((with_reducible refine gate_callee (f := 78) rfl ?_); refine goesL_ (some 27) rfl rfl Tryd.func78 (by kernel_rfl) rfl #[.slice A0 l0.length c0, .int .u32 (rd l1 0)] rfl (by (try simp only [List.map_toArray, List.map_cons, List.map_nil]); first | done | rfl | (simp only [List.length_drop, List.length_take]; rfl)) ?_; (with_reducible refine (natural_divideSmall.calls k _ _ l0 (rd l1 0) t205 t208 _ ?side1 ?side2 A7.out).mono ?_); (case side1 => repeat (first | exact (Kd.V_reads' HO0.out).2.2 | (with_reducible refine Kd.C_alloc ?_ _) | (with_reducible refine Kd.C_drewN ?_ _) | (with_reducible refine Kd.C_drew ?_))); (case side2 => exact (Kd.V_reads' HO0.out).2.1); rintro e w9 ⟨v206, rfl, ho0, hb⟩; refine ⟨_, rfl, ?_⟩; have n0_ := Aside0.mk (Kd.V_below (by (with_reducible repeat (first | apply Kd.V_alloc | apply Kd.V_drewN | apply Kd.V_drew)); exact HO0.out) hb); have n1_ := Aside0.mk (Kd.V_lower (Kd.V_mono (ok' := fun k_ => (P0_ k_ ∨ w.heap.size ≤ k_)) ho0 (fun k_ hk_ => (.inr (Nat.le_trans (below_size (by repeat (first | (with_reducible first | exact HB.out | apply below_alloc | apply pw_below_drewN | apply below_drew1) | exact HB.out))) hk_)))) (below_size (by repeat (first | (with_reducible first | exact HB.out | apply below_alloc | apply pw_below_drewN | apply below_drew1) | exact HB.out)))); have n2_ := Aside0.mk (below_step (by repeat (first | (with_reducible first | exact HB.out | apply below_alloc | apply pw_below_drewN | apply below_drew1) | exact HB.out)) hb); clear HO0; clear HB; have HO0 := n0_; have HO207 := n1_; have HB := n2_; clear n0_ n1_ n2_; (try clear hb); (try clear hb2); (try clear hk); (try clear hi); (try clear ho0)) | ((with_reducible refine gate_dst (N := 32) rfl ?_); refine Kd.R_lit (Kd.int .u32) _ 88 ?hg (N := 32) ?hd (xs := ([t208] : List Int)) (inner := [.int .u32 t208]) (ok := fun _ => True) (okp := fun _ => True) ?hr ?hp (fun _ hk => hk) trivial (Below.refl _ _) (Nat.le_refl _) (by simp) ?_; (case hd => rfl); (case hg => rfl); (case hr => first | (go_simp; done) | (go_simp; rfl)); (case hp => exact (Reps.one (show Kd.M (Kd.int .u32) _ _ _ t208 [.int .u32 t208] from rfl) (Reps.none _ _))); intro v210 w10 ho11 hb hg_ hnew_; clear hg_ hnew_; (first | rw [← Ny209.out] at ho11 | (simp only [Int.reduceToNat] at ho11; rw [← Ny209.out] at ho11)); have n0_ := Aside0.mk (Kd.V_elder' (by (with_reducible repeat (first | apply Kd.V_alloc | apply Kd.V_drewN | apply Kd.V_drew)); exact HO0.out) (Kd.R_base ho11) hb); have n1_ := Aside0.mk (Kd.V_elder' (by (with_reducible repeat (first | apply Kd.V_alloc | apply Kd.V_drewN | apply Kd.V_drew)); exact HO207.out) (Kd.R_base ho11) hb); have n2_ := Aside0.mk (Kd.R_lower (Kd.R_newM (M := fun k_ => (w.heap.size ≤ k_)) ho11 (below_size (by repeat (first | (with_reducible first | exact HB.out | apply below_alloc | apply pw_below_drewN | apply below_drew1) | exact HB.out))) (fun k_ h_ => h_)) (below_size (by repeat (first | (with_reducible first | exact HB.out | apply below_alloc | apply pw_below_drewN | apply below_drew1) | exact HB.out)))); have n3_ := Aside0.mk (below_step (by repeat (first | (with_reducible first | exact HB.out | apply below_alloc | apply pw_below_drewN | apply below_drew1) | exact HB.out)) hb); clear HO0; clear HO207; clear HB; have HO0 := n0_; have HO207 := n1_; have HO211 := n2_; have HB := n3_; clear n0_ n1_ n2_ n3_; clear hb ho11; obtain ⟨Ao12, co12, eo12⟩ := Kd.R_slice HO211.out; subst eo12) | ((with_reducible refine gate_callee (f := 76) rfl ?_); refine goesL_ (some 33) rfl rfl Tryd.func76 (by kernel_rfl) rfl #[.slice Ao12 y209.length co12] rfl (by (try simp only [List.map_toArray, List.map_cons, List.map_nil]); first | done | rfl | (simp only [List.length_drop, List.length_take]; rfl)) ?_; (with_reducible refine (natural_limbs_trim.calls k (fun k_ => some k_ = (.slice Ao12 y209.length co12 : Value).ownBlock) _ _ y209 t212 _ ?side1 A8.out).mono ?_); (case side1 => exact Kd.R_V (Kd.R_tight rfl (HO211.out))); rintro e w13 ⟨v213, rfl, ho0, hb⟩; refine ⟨_, rfl, ?_⟩; have n0_ := Aside0.mk (Kd.V_below (by (with_reducible repeat (first | apply Kd.V_alloc | apply Kd.V_drewN | apply Kd.V_drew)); exact HO0.out) hb); have n1_ := Aside0.mk (Kd.V_below (by (with_reducible repeat (first | apply Kd.V_alloc | apply Kd.V_drewN | apply Kd.V_drew)); exact HO207.out) hb); have n2_ := Aside0.mk (Kd.R_below (by (with_reducible repeat (first | apply Kd.R_alloc | apply Kd.R_drewN | apply Kd.R_drew)); exact HO211.out) hb); have n3_ := Aside0.mk (Kd.V_lower (Kd.V_mono (ok' := fun k_ => (P0_ k_ ∨ w.heap.size ≤ k_)) ho0 (fun k_ hk_ => Or.elim hk_ (fun hs_ => (.inr (((HO211.out).1 k_ hs_.symm).1))) (fun hn_ => (.inr (Nat.le_trans (below_size (by repeat (first | (with_reducible first | exact HB.out | apply below_alloc | apply pw_below_drewN | apply below_drew1) | exact HB.out))) hn_))))) (below_size (by repeat (first | (with_reducible first | exact HB.out | apply below_alloc | apply pw_below_drewN | apply below_drew1) | exact HB.out)))); have n4_ := Aside0.mk (below_step (by repeat (first | (with_reducible first | exact HB.out | apply below_alloc | apply pw_below_drewN | apply below_drew1) | exact HB.out)) hb); clear HO0; clear HO207; clear HO211; clear HB; have HO0 := n0_; have HO207 := n1_; have HO211 := n2_; have HO214 := n3_; have HB := n4_; clear n0_ n1_ n2_ n3_ n4_; (try clear hb); (try clear hb2); (try clear hk); (try clear hi); (try clear ho0)))
  go_ret2
  exact ⟨_, _, by first | rfl | (simp [errW_none, errW_some] <;> rfl) | (simp [*, errW_none, errW_some] <;> rfl), by (with_reducible repeat (first | apply Kd.V_alloc | apply Kd.V_drewN | apply Kd.V_drew)); exact Kd.V_mono HO207.out (fun _ hk => hk.1), by (with_reducible repeat (first | apply Kd.V_alloc | apply Kd.V_drewN | apply Kd.V_drew)); exact HO214.out, by repeat (first | (with_reducible first | exact HB.out | apply below_alloc | apply pw_below_drewN | apply below_drew1) | exact HB.out)⟩
 rw [if_neg c5] at H
 have c5b0 : ((l1.length : Int) == 1) = false := beq_eq_false_iff_ne.mpr c5
 have c5b1 : ((l1.length : Int) != 1) = true := bne_iff_ne.mpr c5
 obtain ⟨ji14, hji14⟩ : ∃ j_ : Int, (wrap64 ((l1.length : Int) - 1)) = j_ := ⟨_, rfl⟩
 replace H : (if 0 ≤ (ji14) then (if (ji14) < (l1.length : Int) then ((bits_LeadingZeros32.f (rd l1 (ji14))).bind fun t216 => ((natural_shift.f k l1 (IntKind.u64.wrap (t216)) (l1.length : Int)).bind fun t217 => ((natural_shift.f k l0 (IntKind.u64.wrap (t216)) (wrap64 ((l0.length : Int) + 1))).bind fun t220 => (if 0 ≤ (wrap64 ((wrap64 ((l0.length : Int) - (l1.length : Int))) + 1)) then (if (wrap64 ((wrap64 ((l0.length : Int) - (l1.length : Int))) + 1) : Int).toNat ≤ 70368744177664 then ((some (List.replicate (wrap64 ((wrap64 ((l0.length : Int) - (l1.length : Int))) + 1) : Int).toNat 0 : List Int)).bind fun y223 => (natural_divide.l0 k (IntKind.u64.wrap (t216)) (l1.length : Int) t217 t220 y223 (wrap64 ((y223.length : Int) - 1)))) else (none)) else (none))))) else (none)) else (none)) = some (r1, r2) := by first | (rw [hji14] at H; exact H) | (simp only [hji14] at H ⊢; exact H)
 (try rw [hji14] at A3)
 have hji14w : (IntKind.i64.wrap ((l1.length : Int) - 1)) = ji14 := (i64_w _).trans hji14
 by_cases c15 : 0 ≤ (ji14)
 rotate_left
 ·rw [if_neg c15] at H
  exact absurd H (by simp)
 rw [if_pos c15] at H
 have c15b0 : decide (0 ≤ (ji14)) = true := decide_eq_true c15
 clear c15
 by_cases c16 : (ji14) < (l1.length : Int)
 rotate_left
 ·rw [if_neg c16] at H
  exact absurd H (by simp)
 rw [if_pos c16] at H
 have c16b0 : decide ((ji14) < (l1.length : Int)) = true := decide_eq_true c16
 clear c16
 replace H := Option.bind_eq_some_iff.mp H
 obtain ⟨t216, A170, H⟩ := H
 replace H : ((natural_shift.f k l1 (IntKind.u64.wrap (t216)) (l1.length : Int)).bind fun t217 => ((natural_shift.f k l0 (IntKind.u64.wrap (t216)) (wrap64 ((l0.length : Int) + 1))).bind fun t220 => (if 0 ≤ (wrap64 ((wrap64 ((l0.length : Int) - (l1.length : Int))) + 1)) then (if (wrap64 ((wrap64 ((l0.length : Int) - (l1.length : Int))) + 1) : Int).toNat ≤ 70368744177664 then ((some (List.replicate (wrap64 ((wrap64 ((l0.length : Int) - (l1.length : Int))) + 1) : Int).toNat 0 : List Int)).bind fun y223 => (natural_divide.l0 k (IntKind.u64.wrap (t216)) (l1.length : Int) t217 t220 y223 (wrap64 ((y223.length : Int) - 1)))) else (none)) else (none)))) = some (r1, r2) := H
 have A17 := Aside0.mk A170
 clear A170
 replace H := Option.bind_eq_some_iff.mp H
 obtain ⟨t217, A180, H⟩ := H
 replace H : ((natural_shift.f k l0 (IntKind.u64.wrap (t216)) (wrap64 ((l0.length : Int) + 1))).bind fun t220 => (if 0 ≤ (wrap64 ((wrap64 ((l0.length : Int) - (l1.length : Int))) + 1)) then (if (wrap64 ((wrap64 ((l0.length : Int) - (l1.length : Int))) + 1) : Int).toNat ≤ 70368744177664 then ((some (List.replicate (wrap64 ((wrap64 ((l0.length : Int) - (l1.length : Int))) + 1) : Int).toNat 0 : List Int)).bind fun y223 => (natural_divide.l0 k (IntKind.u64.wrap (t216)) (l1.length : Int) t217 t220 y223 (wrap64 ((y223.length : Int) - 1)))) else (none)) else (none))) = some (r1, r2) := H
 have A18 := Aside0.mk A180
 clear A180
 replace H := Option.bind_eq_some_iff.mp H
 obtain ⟨t220, A190, H⟩ := H
 replace H : (if 0 ≤ (wrap64 ((wrap64 ((l0.length : Int) - (l1.length : Int))) + 1)) then (if (wrap64 ((wrap64 ((l0.length : Int) - (l1.length : Int))) + 1) : Int).toNat ≤ 70368744177664 then ((some (List.replicate (wrap64 ((wrap64 ((l0.length : Int) - (l1.length : Int))) + 1) : Int).toNat 0 : List Int)).bind fun y223 => (natural_divide.l0 k (IntKind.u64.wrap (t216)) (l1.length : Int) t217 t220 y223 (wrap64 ((y223.length : Int) - 1)))) else (none)) else (none)) = some (r1, r2) := H
 have A19 := Aside0.mk A190
 clear A190
 obtain ⟨ji20, hji20⟩ : ∃ j_ : Int, (wrap64 ((wrap64 ((l0.length : Int) - (l1.length : Int))) + 1)) = j_ := ⟨_, rfl⟩
 replace H : (if 0 ≤ (ji20) then (if (ji20 : Int).toNat ≤ 70368744177664 then ((some (List.replicate (ji20 : Int).toNat 0 : List Int)).bind fun y223 => (natural_divide.l0 k (IntKind.u64.wrap (t216)) (l1.length : Int) t217 t220 y223 (wrap64 ((y223.length : Int) - 1)))) else (none)) else (none)) = some (r1, r2) := by first | (rw [hji20] at H; exact H) | (simp only [hji20] at H ⊢; exact H)
 (try rw [hji20] at A3)
 (try rw [hji20] at A17)
 (try rw [hji20] at A18)
 (try rw [hji20] at A19)
 have hji20w : (IntKind.i64.wrap ((wrap64 ((l0.length : Int) - (l1.length : Int))) + 1)) = ji20 := (i64_w _).trans hji20
 by_cases c21 : 0 ≤ (ji20)
 rotate_left
 ·rw [if_neg c21] at H
  exact absurd H (by simp)
 rw [if_pos c21] at H
 have c21b0 := eq_true c21
 have c21b1 : decide (0 ≤ (ji20)) = true := decide_eq_true c21
 clear c21
 by_cases c22 : (ji20 : Int).toNat ≤ 70368744177664
 rotate_left
 ·rw [if_neg c22] at H
  exact absurd H (by simp)
 rw [if_pos c22] at H
 have c22b0 := eq_true c22
 have c22b1 : decide ((ji20 : Int).toNat ≤ 70368744177664) = true := decide_eq_true c22
 clear c22
 obtain ⟨y223, hy223⟩ : ∃ y_ : List Int, y_ = (List.replicate (ji20 : Int).toNat 0) := ⟨_, rfl⟩
 replace H : (natural_divide.l0 k (IntKind.u64.wrap (t216)) (l1.length : Int) t217 t220 y223 (wrap64 ((y223.length : Int) - 1))) = some (r1, r2) := by first | (rw [hy223]; with_reducible exact H) | (have H2_ := (Option.bind_some _ _).symm.trans H; rw [hy223]; with_reducible exact H2_) | (have H2_ := (Option.bind_some _ _).symm.trans H; with_reducible exact H2_) | with_reducible exact H | (rw [hy223]; exact H) | exact H
 have Ny223 := Aside0.mk hy223
 clear hy223
 have H' := Aside0.mk H
 clear H
 go_enter Tryd.func63, Tryd.ntmps63
 go_wp2_with (first | ((with_reducible refine gate_callee (f := 77) rfl ?_); refine goesL_ (some 16) rfl rfl Tryd.func77 (by kernel_rfl) rfl #[.slice A0 l0.length c0, .slice A1 l1.length c1] rfl (by (try simp only [List.map_toArray, List.map_cons, List.map_nil]); first | done | rfl | (simp only [List.length_drop, List.length_take]; rfl)) ?_; (with_reducible refine (natural_compare.calls k _ _ l0 _ _ l1 t203 _ ?side1 ?side2 ?side3 ?side4 A3.out).mono ?_); (case side1 => repeat (first | exact (Kd.V_reads' HO0.out).2.2 | (with_reducible refine Kd.C_alloc ?_ _) | (with_reducible refine Kd.C_drewN ?_ _) | (with_reducible refine Kd.C_drew ?_))); (case side2 => exact (Kd.V_reads' HO0.out).2.1); (case side3 => repeat (first | exact HR1.out | (with_reducible refine Kd.C_alloc ?_ _) | (with_reducible refine Kd.C_drewN ?_ _) | (with_reducible refine Kd.C_drew ?_))); (case side4 => exact HC1.out); rintro e w' ⟨rfl, ⟨nd, rfl⟩⟩; refine ⟨_, rfl, ?_⟩; have p215 : 0 ≤ ((ji14) : Int) := of_decide_eq_true (by first | (with_reducible assumption) | assumption); have q215 : (ji14) < (l1.length : Int) := of_decide_eq_true (by first | (with_reducible assumption) | assumption); obtain ⟨ad215, e215, hx215_0⟩ := Kd.at_int HR1.out (ji14) p215 q215; cases e215; replace p215 := eq_true p215; replace q215 := eq_true q215) | ((with_reducible refine gate_callee (f := 79) rfl ?_); refine goesL_ (some 40) rfl rfl Tryd.func79 (by kernel_rfl) rfl #[.int .u32 (rd l1 (ji14))] rfl (by (try simp only [List.map_toArray, List.map_cons, List.map_nil]); first | done | (simp only [hji14]; rfl) | rfl | (simp only [List.length_drop, List.length_take]; rfl)) ?_; (with_reducible refine (bits_LeadingZeros32.calls (rd l1 (ji14)) t216 _ A17.out).mono ?_); rintro e w' ⟨rfl, ⟨nd, rfl⟩⟩; refine ⟨_, rfl, ?_⟩) | ((with_reducible refine gate_callee (f := 80) rfl ?_); refine goesL_ (some 47) rfl rfl Tryd.func80 (by kernel_rfl) rfl #[.slice (some ad215) l1.length c1, .int .u64 (IntKind.u64.wrap (t216)), .int .i64 (l1.length : Int)] rfl (by (try simp only [List.map_toArray, List.map_cons, List.map_nil]); first | done | rfl | (simp only [List.length_drop, List.length_take]; rfl)) ?_; (with_reducible refine (natural_shift.calls k _ _ l1 (IntKind.u64.wrap (t216)) (l1.length : Int) t217 _ ?side1 ?side2 A18.out).mono ?_); (case side1 => repeat (first | exact HR1.out | (with_reducible refine Kd.C_alloc ?_ _) | (with_reducible refine Kd.C_drewN ?_ _) | (with_reducible refine Kd.C_drew ?_))); (case side2 => exact HC1.out); rintro e w23 ⟨v218, rfl, ho0, hb⟩; refine ⟨_, rfl, ?_⟩; have n0_ := Aside0.mk (Kd.V_elder' (by (with_reducible repeat (first | apply Kd.V_alloc | apply Kd.V_drewN | apply Kd.V_drew)); exact HO0.out) (Kd.R_base ho0) hb); have n1_ := Aside0.mk (Kd.R_lower (Kd.R_newM (M := fun k_ => (w.heap.size ≤ k_)) ho0 (below_size (by repeat (first | (with_reducible first | exact HB.out | apply below_alloc | apply pw_below_drewN | apply below_drew1) | exact HB.out))) (fun k_ h_ => h_)) (below_size (by repeat (first | (with_reducible first | exact HB.out | apply below_alloc | apply pw_below_drewN | apply below_drew1) | exact HB.out)))); have n2_ := Aside0.mk (below_step (by repeat (first | (with_reducible first | exact HB.out | apply below_alloc | apply pw_below_drewN | apply below_drew1) | exact HB.out)) hb); clear HO0; clear HB; have HO0 := n0_; have HO219 := n1_; have HB := n2_; clear n0_ n1_ n2_; (try clear hb); (try clear hb2); (try clear hk); (try clear hi); (try clear ho0)) | ((with_reducible refine gate_callee (f := 80) rfl ?_); refine goesL_ (some 53) rfl rfl Tryd.func80 (by kernel_rfl) rfl #[.slice A0 l0.length c0, .int .u64 (IntKind.u64.wrap (t216)), .int .i64 (wrap64 ((l0.length : Int) + 1))] rfl (by (try simp only [List.map_toArray, List.map_cons, List.map_nil]); first | done | rfl | (simp only [List.length_drop, List.length_take]; rfl)) ?_; (with_reducible refine (natural_shift.calls k _ _ l0 (IntKind.u64.wrap (t216)) (wrap64 ((l0.length : Int) + 1)) t220 _ ?side1 ?side2 A19.out).mono ?_); (case side1 => repeat (first | exact (Kd.V_reads' HO0.out).2.2 | (with_reducible refine Kd.C_alloc ?_ _) | (with_reducible refine Kd.C_drewN ?_ _) | (with_reducible refine Kd.C_drew ?_))); (case side2 => exact (Kd.V_reads' HO0.out).2.1); rintro e w24 ⟨v221, rfl, ho0, hb⟩; refine ⟨_, rfl, ?_⟩; have n0_ := Aside0.mk (Kd.V_elder' (by (with_reducible repeat (first | apply Kd.V_alloc | apply Kd.V_drewN | apply Kd.V_drew)); exact HO0.out) (Kd.R_base ho0) hb); have n1_ := Aside0.mk (Kd.R_elder' (by (with_reducible repeat (first | apply Kd.R_alloc | apply Kd.R_drewN | apply Kd.R_drew)); exact HO219.out) (Kd.R_base ho0) hb); have n2_ := Aside0.mk (Kd.R_lower (Kd.R_new' (Kd.R_newM (M := fun k_ => (w.heap.size ≤ k_)) ho0 (below_size (by repeat (first | (with_reducible first | exact HB.out | apply below_alloc | apply pw_below_drewN | apply below_drew1) | exact HB.out))) (fun k_ h_ => h_)) (Kd.R_lt (by (with_reducible repeat (first | apply Kd.R_alloc | apply Kd.R_drewN | apply Kd.R_drew)); exact HO219.out))) (below_size (by repeat (first | (with_reducible first | exact HB.out | apply below_alloc | apply pw_below_drewN | apply below_drew1) | exact HB.out)))); have n3_ := Aside0.mk (below_step (by repeat (first | (with_reducible first | exact HB.out | apply below_alloc | apply pw_below_drewN | apply below_drew1) | exact HB.out)) hb); clear HO0; clear HO219; clear HB; have HO0 := n0_; have HO219 := n1_; have HO222 := n2_; have HB := n3_; clear n0_ n1_ n2_ n3_; (try clear hb); (try clear hb2); (try clear hk); (try clear hi); (try clear ho0)) | ((with_reducible refine gate_dst (N := 59) rfl ?_); refine Kd.R_make (Kd.int .u32) _ 88 rfl (N := 59) rfl 83 _ _ rfl ji20 rfl rfl Tryd.underlying83 (.int .u32 0) 4 info88 rfl (by decide) (by omega) 0 (ok := fun _ => True) (okp := fun _ => True) rfl (fun _ hk => hk) trivial (of_decide_eq_true (by first | (with_reducible assumption) | assumption)) (Nat.le_trans (Nat.mul_le_mul_right _ (of_decide_eq_true (by first | (with_reducible assumption) | assumption) : ji20.toNat ≤ 70368744177664)) (by omega)) (Below.refl _ _) (Nat.le_refl _) ?_; intro v224 w25 ho26 hb hg_ hnew_; clear hg_ hnew_; (first | rw [← Ny223.out] at ho26 | (simp only [Int.reduceToNat] at ho26; rw [← Ny223.out] at ho26)); have n0_ := Aside0.mk (Kd.V_elder' (by (with_reducible repeat (first | apply Kd.V_alloc | apply Kd.V_drewN | apply Kd.V_drew)); exact HO0.out) (Kd.R_base ho26) hb); have n1_ := Aside0.mk (Kd.R_elder' (by (with_reducible repeat (first | apply Kd.R_alloc | apply Kd.R_drewN | apply Kd.R_drew)); exact HO219.out) (Kd.R_base ho26) hb); have n2_ := Aside0.mk (Kd.R_elder' (by (with_reducible repeat (first | apply Kd.R_alloc | apply Kd.R_drewN | apply Kd.R_drew)); exact HO222.out) (Kd.R_base ho26) hb); have n3_ := Aside0.mk (Kd.R_lower (Kd.R_new' (Kd.R_new' (Kd.R_newM (M := fun k_ => (w.heap.size ≤ k_)) ho26 (below_size (by repeat (first | (with_reducible first | exact HB.out | apply below_alloc | apply pw_below_drewN | apply below_drew1) | exact HB.out))) (fun k_ h_ => h_)) (Kd.R_lt (by (with_reducible repeat (first | apply Kd.R_alloc | apply Kd.R_drewN | apply Kd.R_drew)); exact HO219.out))) (Kd.R_lt (by (with_reducible repeat (first | apply Kd.R_alloc | apply Kd.R_drewN | apply Kd.R_drew)); exact HO222.out))) (below_size (by repeat (first | (with_reducible first | exact HB.out | apply below_alloc | apply pw_below_drewN | apply below_drew1) | exact HB.out)))); have n4_ := Aside0.mk (below_step (by repeat (first | (with_reducible first | exact HB.out | apply below_alloc | apply pw_below_drewN | apply below_drew1) | exact HB.out)) hb); clear HO0; clear HO219; clear HO222; clear HB; have HO0 := n0_; have HO219 := n1_; have HO222 := n2_; have HO225 := n3_; have HB := n4_; clear n0_ n1_ n2_ n3_ n4_; clear hb ho26; obtain ⟨Ao27, co27, eo27⟩ := Kd.R_slice HO225.out; subst eo27))
 go_loopg [13] k (fun kq v13 w' => ∃ (x10_1 : List Int) (x11_1 : List Int) (x12_1 : List Int) (x13_1 : Int), v13 = .int .i64 x13_1 ∧ Aside0 (natural_divide.l0 kq (IntKind.u64.wrap (t216)) (l1.length : Int) x10_1 x11_1 x12_1 x13_1 = some (r1, r2)) ∧ Aside0 (kq ≤ k) ∧ Aside0 (Kd.R (Kd.int .u32) 88 w' w.heap.size (fun k_ => (w.heap.size ≤ k_) ∧ some k_ ≠ (v221 : Value).ownBlock ∧ some k_ ≠ ((.slice Ao27 y223.length co27) : Value).ownBlock) v218 x10_1) ∧ Aside0 (Kd.R (Kd.int .u32) 88 w' w.heap.size (fun k_ => (w.heap.size ≤ k_) ∧ some k_ ≠ (v218 : Value).ownBlock ∧ some k_ ≠ ((.slice Ao27 y223.length co27) : Value).ownBlock) v221 x11_1) ∧ Aside0 (Kd.R (Kd.int .u32) 88 w' w.heap.size (fun k_ => (w.heap.size ≤ k_) ∧ some k_ ≠ (v218 : Value).ownBlock ∧ some k_ ≠ (v221 : Value).ownBlock) (.slice Ao27 y223.length co27) x12_1) ∧ Aside0 (Below w.heap.size w w'))
 case atStart => exact ⟨(t217), (t220), (y223), (wrap64 ((y223.length : Int) - 1)), (by first | rfl | (simp; done) | (simp [*]; done)), H', ⟨Nat.le_refl _⟩, ⟨by (with_reducible repeat (first | apply Kd.R_alloc | apply Kd.R_drewN | apply Kd.R_drew)); exact Kd.R_mono HO219.out (fun _ hk => ⟨hk.1.1.1, ⟨hk.1.2, hk.2⟩⟩)⟩, ⟨by (with_reducible repeat (first | apply Kd.R_alloc | apply Kd.R_drewN | apply Kd.R_drew)); exact Kd.R_mono HO222.out (fun _ hk => ⟨hk.1.1.1, ⟨hk.1.2, hk.2⟩⟩)⟩, ⟨by (with_reducible repeat (first | apply Kd.R_alloc | apply Kd.R_drewN | apply Kd.R_drew)); exact Kd.R_mono HO225.out (fun _ hk => ⟨hk.1.1.1, ⟨hk.1.2, hk.2⟩⟩)⟩, ⟨by repeat (first | (with_reducible first | exact HB.out | apply below_alloc | apply pw_below_drewN | apply below_drew1) | exact HB.out)⟩⟩
 case round =>
  clear H'
  try clear c1
  try clear c2
  try clear p2
  try clear q2
  try clear hx2
  try clear qi2
  try clear c4
  try clear c4b0
  try clear c5
  try clear c5b0
  try clear c5b1
  try clear c6
  try clear c6b0
  try clear c6b1
  try clear p6
  try clear c7
  try clear c8
  try clear c15
  try clear c15b0
  try clear c16
  try clear c16b0
  try clear p20
  try clear q20
  try clear hx20
  try clear qi20
  try clear c21
  try clear c21b0
  try clear c21b1
  try clear p21
  try clear q21
  try clear hx21
  try clear c22
  try clear c22b0
  try clear c22b1
  try clear hx204_0
  try clear hx215_0
  try clear p204
  try clear p215
  try clear q204
  try clear q215
  obtain ⟨x10_1, x11_1, x12_1, x13_1, rfl, HA, HK1, HO_10, HO_11, HO_12, HB⟩ := hrel
  have hl12_1 := (Kd.R_reads' HO_12.out).1
  rw [hl12_1] at HO_12
  (try simp only [hl12_1])
  (try simp only [hl12_1] at HO_10)
  (try simp only [hl12_1] at HO_11)
  cases gk with
  | zero => exact absurd HA.out (by simp [natural_divide.l0])
  | succ k1 =>
   have H := HA.out
   clear HA
   simp only [natural_divide.l0] at H
   by_cases c28 : x13_1 ≥ 0
   ·rw [if_pos c28] at H
    have c28b0 : decide (0 ≤ x13_1) = true := decide_eq_true c28
    clear c28
    replace H := Option.bind_eq_some_iff.mp H
    obtain ⟨⟨t226, t227⟩, A290, H⟩ := H
    replace H : (if 0 ≤ x13_1 then (if x13_1 < (x12_1.length : Int) then (natural_divide.l0 k1 (IntKind.u64.wrap (t216)) (l1.length : Int) x10_1 t227 (x12_1.set (x13_1 : Int).toNat t226) (wrap64 (x13_1 - 1))) else (none)) else (none)) = some (r1, r2) := H
    have A29 := Aside0.mk A290
    clear A290
    by_cases c30 : 0 ≤ x13_1
    rotate_left
    ·rw [if_neg c30] at H
     exact absurd H (by simp)
    rw [if_pos c30] at H
    have c30b0 : decide (0 ≤ x13_1) = true := decide_eq_true c30
    clear c30
    by_cases c31 : x13_1 < (x12_1.length : Int)
    rotate_left
    ·rw [if_neg c31] at H
     exact absurd H (by simp)
    rw [if_pos c31] at H
    have c31b0 : decide (x13_1 < (x12_1.length : Int)) = true := decide_eq_true c31
    clear c31
    obtain ⟨y228, hy228⟩ : ∃ y_ : List Int, y_ = (x12_1.set (x13_1 : Int).toNat t226) := ⟨_, rfl⟩
    replace H : (natural_divide.l0 k1 (IntKind.u64.wrap (t216)) (l1.length : Int) x10_1 t227 y228 (wrap64 (x13_1 - 1))) = some (r1, r2) := by first | (rw [hy228]; with_reducible exact H) | (have H2_ := (Option.bind_some _ _).symm.trans H; rw [hy228]; with_reducible exact H2_) | (have H2_ := (Option.bind_some _ _).symm.trans H; with_reducible exact H2_) | with_reducible exact H | (rw [hy228]; exact H) | exact H
    have Ny228 := Aside0.mk hy228
    clear hy228
    have H' := Aside0.mk H
    clear H
    obtain ⟨Ao33, co33, eo33⟩ := Kd.R_slice HO_11.out
    subst eo33
    obtain ⟨Ao34, co34, eo34⟩ := Kd.R_slice HO_10.out
    subst eo34
    have hsl_ := natural_step_at.cut (A := Ao33) (c := co33) (n := x11_1.length) rfl A29.out (Kd.R_reads' HO_11.out).2.1
    obtain ⟨cv_, hcv_⟩ : ∃ v_ : Value, v_ = .slice (Ao33.map fun x => x.add (x13_1 : Int).toNat) (((wrap64 ((wrap64 (x13_1 + (l1.length : Int))) + 1)) : Int).toNat - (x13_1 : Int).toNat) (co33 - (x13_1 : Int).toNat) := ⟨_, rfl⟩
    simp only [← hcv_] at hsl_
    have hcw_ := Aside0.mk hcv_
    clear hcv_
    go_wp2_with (first | ((with_reducible refine gate_callee (f := 81) rfl ?_); refine goesL_ (some 77) rfl rfl Tryd.func81 (by kernel_rfl) rfl #[cv_, .slice Ao34 x10_1.length co34] rfl (by (try simp only [List.map_toArray, List.map_cons, List.map_nil]); first | done | rfl | (simp only [List.length_drop, List.length_take]; rfl)) ?_; (with_reducible refine (natural_step_at.calls k1 (fun k_ => some k_ = (.slice Ao33 x11_1.length co33 : Value).ownBlock) cv_ Ao33 x11_1.length co33 x11_1 _ _ x10_1 x13_1 (wrap64 ((wrap64 (x13_1 + (l1.length : Int))) + 1)) t226 t227 w _ ?side1 ?side2 ?side3 ?side4 hcw_.out A29.out).mono ?_); (case side1 => repeat (first | (with_reducible first | exact HB.out | apply below_alloc | apply pw_below_drewN | apply below_drew1) | exact HB.out)); (case side2 => exact Kd.R_tight rfl HO_11.out); (case side3 => exact Kd.C_kept_own (HO_10.out) (fun k_ hk_ hs_ => (hk_.2.1) hs_)); (case side4 => exact (Kd.R_reads' HO_10.out).2.1); rintro e w35 ⟨rfl, hy0, hb, hkp⟩; refine ⟨_, rfl, ?_⟩; have n0_ := Aside0.mk (Kd.R_mono (ok' := fun k_ => (w.heap.size ≤ k_) ∧ some k_ ≠ (.slice Ao33 x11_1.length co33 : Value).ownBlock ∧ some k_ ≠ (.slice Ao27 x12_1.length co27 : Value).ownBlock) (Kd.R_keptB (HO_10.out) hkp (fun k_ hk_ hs_ => (hk_.2.1) hs_)) (fun k_ hk_ => ⟨hk_.1.1, hk_.1.2.1, hk_.1.2.2⟩)); have n1_ := Aside0.mk (Kd.R_reok rfl hy0 (fun k_ e_ => HO_11.out.1 k_ e_)); have n2_ := Aside0.mk (Kd.R_mono (ok' := fun k_ => (w.heap.size ≤ k_) ∧ some k_ ≠ (.slice Ao34 x10_1.length co34 : Value).ownBlock ∧ some k_ ≠ (.slice Ao33 x11_1.length co33 : Value).ownBlock) (Kd.R_keptB (HO_12.out) hkp (fun k_ hk_ hs_ => (hk_.2.2) hs_)) (fun k_ hk_ => ⟨hk_.1.1, hk_.1.2.1, hk_.1.2.2⟩)); have n3_ := Aside0.mk (hb); clear HO_10; clear HO_11; clear HO_12; clear HB; have HO_10 := n0_; have HO_11 := n1_; have HO_12 := n2_; have HB := n3_; clear n0_ n1_ n2_ n3_; (try clear hb); (try clear hkp); (try clear hy0); have p32 : 0 ≤ (x13_1 : Int) := of_decide_eq_true (by first | (with_reducible assumption) | assumption); have q32 : (x13_1 : Int) < ((x12_1.length : Int) : Int) := of_decide_eq_true (by first | (with_reducible assumption) | assumption); obtain ⟨go32, co32, eo32, gb32, gl32, cl32, HG32⟩ := Kd.R_form HO_12.out (by omega); (first | cases eo32 | (injection eo32 with ea_ en_ ec_; (first | subst ea_ | (injection ea_ with ea_; subst ea_)); subst ec_; clear en_)); have GB32 := Aside0.mk gb32; have GG32 := Aside0.mk HG32; clear gb32 gl32 HG32; obtain ⟨hx32_0, hf32_0⟩ := Kd.R_celln 0 HO_12.out (x13_1 : Int) p32 q32; replace p32 := eq_true p32; replace q32 := eq_true q32; obtain ⟨hy36_, hz36_⟩ := Kd.R_celln 0 HO_12.out (x13_1 : Int) (of_decide_eq_true (by first | (with_reducible assumption) | assumption)) (of_decide_eq_true (by first | (with_reducible assumption) | assumption)); have HP36 := Kd.R_putg HO_12.out (x13_1 : Int) t226) | ((with_reducible refine gate_store (t := 88) (p := 78) rfl ?_); refine store_event (t := 88) (p := 78) (v := ?vo_w37) (w1 := (w35.setCell ⟨go32, (x13_1 : Int).toNat, none⟩ (.int .u32 t226))) ?hg ?ho ?hn ?hr ?_; (case ho => rfl); (case hg => rfl); (case hn => rfl); (case hr => first | (go_simp; done) | (go_simp; rfl)); intro w37 hw; have hg : w35.grownBy w37 (some go32) := (by rw [hw]; exact HP36.2); have hp_ : Kd.R (Kd.int .u32) 88 w37 w.heap.size (fun k_ => (w.heap.size ≤ k_) ∧ some k_ ≠ (.slice Ao34 x10_1.length co34 : Value).ownBlock ∧ some k_ ≠ (.slice Ao33 x11_1.length co33 : Value).ownBlock) (.slice (some ⟨go32, 0, none⟩) x12_1.length co27) y228 := (by rw [hw, Ny228.out]; exact HP36.1); clear HP36; have n0_ := Aside0.mk (Kd.R_after (v := (.slice (some ⟨go32, 0, none⟩) x12_1.length co27)) (v1 := (.slice (some ⟨go32, 0, none⟩) x12_1.length co27)) (ok := (fun k_ => (w.heap.size ≤ k_) ∧ some k_ ≠ (.slice Ao33 x11_1.length co33 : Value).ownBlock)) (by (with_reducible repeat (first | apply Kd.R_alloc | apply Kd.R_drewN | apply Kd.R_drew)); exact Kd.R_mono HO_10.out (fun _ hk => ⟨⟨hk.1, hk.2.1⟩, hk.2.2⟩)) hg (.inl rfl)); have n1_ := Aside0.mk (Kd.R_after (v := (.slice (some ⟨go32, 0, none⟩) x12_1.length co27)) (v1 := (.slice (some ⟨go32, 0, none⟩) x12_1.length co27)) (ok := (fun k_ => (w.heap.size ≤ k_) ∧ some k_ ≠ (.slice Ao34 x10_1.length co34 : Value).ownBlock)) (by (with_reducible repeat (first | apply Kd.R_alloc | apply Kd.R_drewN | apply Kd.R_drew)); exact Kd.R_mono HO_11.out (fun _ hk => ⟨⟨hk.1, hk.2.1⟩, hk.2.2⟩)) hg (.inl rfl)); have n2_ := Aside0.mk (hp_); have n3_ := Aside0.mk ((by rw [hw]; exact below_set (HB.out) GB32.out : Below w.heap.size w w37)); clear HO_10; clear HO_11; clear HO_12; clear HB; have HO_10 := n0_; have HO_11 := n1_; have HO_12 := n2_; have HB := n3_; clear n0_ n1_ n2_ n3_; clear hg hw hp_))
    (try simp only [← hl12_1])
    go_roundg k1
    case measure => have := HK1.out; omega
    case rel => exact ⟨(x10_1), (t227), (y228), (wrap64 (x13_1 - 1)), (by first | rfl | (simp; done) | (simp [*]; done)), H', ⟨by have := HK1.out; omega⟩, ⟨by (try simp only [hl12_1]); (with_reducible repeat (first | apply Kd.R_alloc | apply Kd.R_drewN | apply Kd.R_drew)); exact Kd.R_mono HO_10.out (fun _ hk => ⟨hk.1.1, ⟨hk.1.2, hk.2⟩⟩)⟩, ⟨by (try simp only [hl12_1]); (with_reducible repeat (first | apply Kd.R_alloc | apply Kd.R_drewN | apply Kd.R_drew)); exact Kd.R_mono HO_11.out (fun _ hk => ⟨hk.1.1, ⟨hk.1.2, hk.2⟩⟩)⟩, ⟨by (try simp only [hl12_1]); (with_reducible repeat (first | apply Kd.R_alloc | apply Kd.R_drewN | apply Kd.R_drew)); exact HO_12.out⟩, ⟨by repeat (first | (with_reducible first | exact HB.out | apply below_alloc | apply pw_below_drewN | apply below_drew1) | exact HB.out)⟩⟩
   rw [if_neg c28] at H
   have c28b0 : decide (0 ≤ x13_1) = false := decide_eq_false c28
   clear c28
   replace H := Option.bind_eq_some_iff.mp H
   obtain ⟨t229, A380, H⟩ := H
   replace H : (if 0 ≤ (l1.length : Int) then (if (l1.length : Int) ≤ (x11_1.length : Int) then ((natural_unshift.f k1 (x11_1.take ((l1.length : Int) : Int).toNat) (IntKind.u64.wrap (t216))).bind fun t236 => (some (t229, t236))) else (none)) else (none)) = some (r1, r2) := H
   have A38 := Aside0.mk A380
   clear A380
   by_cases c39 : 0 ≤ (l1.length : Int)
   rotate_left
   ·rw [if_neg c39] at H
    exact absurd H (by simp)
   rw [if_pos c39] at H
   have c39b0 := eq_true c39
   have c39b1 : decide (0 ≤ (l1.length : Int)) = true := decide_eq_true c39
   clear c39
   by_cases c40 : (l1.length : Int) ≤ (x11_1.length : Int)
   rotate_left
   ·rw [if_neg c40] at H
    exact absurd H (by simp)
   rw [if_pos c40] at H
   have c40b0 := eq_true c40
   have c40b1 : decide ((l1.length : Int) ≤ (x11_1.length : Int)) = true := decide_eq_true c40
   clear c40
   obtain ⟨y232, hy232⟩ : ∃ y_ : List Int, y_ = (x11_1.take ((l1.length : Int) : Int).toNat) := ⟨_, rfl⟩
   replace H : ((natural_unshift.f k1 y232 (IntKind.u64.wrap (t216))).bind fun t236 => (some (t229, t236))) = some (r1, r2) := by first | (rw [hy232]; with_reducible exact H) | (have H2_ := (Option.bind_some _ _).symm.trans H; rw [hy232]; with_reducible exact H2_) | (have H2_ := (Option.bind_some _ _).symm.trans H; with_reducible exact H2_) | with_reducible exact H | (rw [hy232]; exact H) | exact H
   have Ny232 := Aside0.mk hy232
   clear hy232
   replace H := Option.bind_eq_some_iff.mp H
   obtain ⟨t236, A410, H⟩ := H
   replace H : (some (t229, t236)) = some (r1, r2) := H
   have A41 := Aside0.mk A410
   clear A410
   simp only [Option.some.injEq, Prod.mk.injEq] at H
   obtain ⟨rfl, rfl⟩ := H
   try go_wp2
   have n0_ := Aside0.mk (Kd.R_drew HO_10.out)
   have n1_ := Aside0.mk (Kd.R_drew HO_11.out)
   have n2_ := Aside0.mk (Kd.R_drew HO_12.out)
   have n3_ := Aside0.mk (below_drew1 HB.out)
   clear HO_10
   clear HO_11
   clear HO_12
   clear HB
   have HO_10 := n0_
   have HO_11 := n1_
   have HO_12 := n2_
   have HB := n3_
   clear n0_ n1_ n2_ n3_
   obtain ⟨Ao44, co44, eo44⟩ := Kd.R_slice HO_11.out
   (first | subst eo44 | (injection eo44 with f1_ f2_ f3_; have f4_ := f1_.symm; have f5_ := f3_.symm; clear f1_ f2_ f3_; subst f4_; subst f5_))
   have q43 : ((l1.length : Int) : Int) ≤ ((x11_1.length : Int) : Int) := of_decide_eq_true (by first | (with_reducible assumption) | assumption)
   obtain ⟨i043, hi043, _, hsz43, _⟩ := info_parts info88
   have hroom43 : x11_1.length ≤ co44 := (Kd.R_reads' HO_11.out).2.1
   have hC43 : Kd.C (Kd.int .u32) _ Ao44 x11_1.length x11_1 := (Kd.R_reads' HO_11.out).2.2
   have hcut43 := cut_to (P := Tryd.prog) 83 88 .i64 Tryd.underlying83 hi043 Ao44 x11_1.length co44 (l1.length : Int) (of_decide_eq_true (by first | (with_reducible assumption) | assumption)) q43 hroom43
   have hr43 := Kd.C_take (m := ((l1.length : Int) : Int).toNat) hC43 (by omega)
   have hy43 : y232.length = ((l1.length : Int) : Int).toNat := (by rw [Ny232.out, List.length_take]; omega)
   rw [← Ny232.out] at hr43
   rw [← hy43] at hcut43
   have HR235 := Aside0.mk hr43
   have HC235 := Aside0.mk (show y232.length ≤ co44 from by omega)
   clear hr43 hC43 hroom43 hi043 hsz43
   have KY43 := Aside0.mk hy43
   clear hy43
   have KL43 := Aside0.mk (show ((l1.length : Int) : Int).toNat ≤ x11_1.length from by omega)
   replace q43 := eq_true q43
   refine start_ (n := 9) (S := fun w' => True) (ds := []) #[false, false, false, false, false, false, false, false, false] (by kernel_rfl) rfl rfl trivial (fun hHeld => ?_); refine with_tabW natural_divide.tab15 natural_divide.bits15 (fun HT_ HW_ => ?_)
   generalize wr.drew = w42 at HO_10 HO_11 HO_12 HB HR235 hHeld ⊢
   refine pure_ (i := 0) (N := some 79) (v := ?_) (a' := ?_) #[true, false, false, false, false, false, false, false, false] rfl rfl (any_of HT_.out (by kernel_rfl)) (fun _ _ _ h => h) (Or.inl ⟨by rfl, ?_⟩) ?_ ?_
   rotate_left
   ·intro w'
    go_simp
    with_reducible rfl
   rotate_left
   ·simp only [Act.put, List.setIfInBounds_toArray, List.set_cons_zero, List.set_cons_succ, i64_w, i32_w]
    rfl
   refine pure_ (i := 2) (N := some 81) (v := ?_) (a' := ?_) #[true, false, true, false, false, false, false, false, false] rfl rfl (any_of HT_.out (by kernel_rfl)) (fun _ _ _ h => h) (Or.inl ⟨by rfl, ?_⟩) ?_ ?_
   rotate_left
   ·intro w'
    go_simp
    with_reducible rfl
   rotate_left
   ·simp only [Act.put, List.setIfInBounds_toArray, List.set_cons_zero, List.set_cons_succ, i64_w, i32_w]
    rfl
   refine pure_ (i := 3) (N := some 82) (v := ?_) (a' := ?_) #[true, false, true, true, false, false, false, false, false] rfl rfl (any_of HT_.out (by kernel_rfl)) (fun _ _ _ h => h) (Or.inl ⟨by rfl, ?_⟩) ?_ ?_
   rotate_left
   ·intro w'
    go_simp
    with_reducible rfl
   rotate_left
   ·simp only [Act.put, List.setIfInBounds_toArray, List.set_cons_zero, List.set_cons_succ, i64_w, i32_w]
    rfl
   refine pure_ (i := 4) (N := some 83) (v := ?_) (a' := ?_) #[true, false, true, true, true, false, false, false, false] rfl rfl (any_of HT_.out (by kernel_rfl)) (fun _ _ _ h => h) (Or.inl ⟨by rfl, ?_⟩) ?_ ?_
   rotate_left
   ·intro w'
    go_simp
    with_reducible rfl
   rotate_left
   ·simp only [Act.put, List.setIfInBounds_toArray, List.set_cons_zero, List.set_cons_succ, i64_w, i32_w]
    rfl
   refine pure_ (i := 5) (N := some 84) (v := ?_) (a' := ?_) #[true, false, true, true, true, true, false, false, false] rfl rfl (any_of HT_.out (by kernel_rfl)) (fun _ _ _ h => h) (Or.inl ⟨by rfl, ?_⟩) ?_ ?_
   rotate_left
   ·intro w'
    go_simp
    with_reducible rfl
   rotate_left
   ·simp only [Act.put, List.setIfInBounds_toArray, List.set_cons_zero, List.set_cons_succ, i64_w, i32_w]
    rfl
   refine one_ (i := 1) (N := some 80) #[true, true, true, true, true, true, false, false, false] rfl rfl (one_of HT_.out (by kernel_rfl)) (by decide) (fun K hK => ?_)
   refine goes_ Tryd.func76 (by kernel_rfl) rfl #[.slice Ao27 x12_1.length co27] (by rfl) rfl rfl (by (try simp only [List.map_toArray, List.map_cons, List.map_nil]); first | done | rfl | (simp only [List.length_drop, List.length_take]; rfl)) ?_
   with_reducible refine (natural_limbs_trim.calls k1 (fun k_ => some k_ = (.slice Ao27 x12_1.length co27 : Value).ownBlock) _ _ x12_1 t229 _ ?side1 A38.out).mono ?_
   (case side1 => exact Kd.R_V (Kd.R_tight rfl (HO_12.out)))
   rintro e w45 ⟨v230, rfl, ho0, hb⟩
   refine ⟨_, rfl, ?_⟩
   have n0_ := Aside0.mk (Kd.R_below (by (with_reducible repeat (first | apply Kd.R_alloc | apply Kd.R_drewN | apply Kd.R_drew)); exact HO_10.out) hb)
   have n1_ := Aside0.mk (Kd.R_below (by (with_reducible repeat (first | apply Kd.R_alloc | apply Kd.R_drewN | apply Kd.R_drew)); exact HO_11.out) hb)
   have n2_ := Aside0.mk (Kd.R_below (by (with_reducible repeat (first | apply Kd.R_alloc | apply Kd.R_drewN | apply Kd.R_drew)); exact HO_12.out) hb)
   have n3_ := Aside0.mk (Kd.V_lower (Kd.V_mono (ok' := fun k_ => (P0_ k_ ∨ w.heap.size ≤ k_) ∧ some k_ ≠ (v218 : Value).ownBlock ∧ some k_ ≠ (.slice Ao44 x11_1.length co44 : Value).ownBlock) ho0 (fun k_ hk_ => ⟨Or.elim hk_ (fun hs_ => (.inr (((HO_12.out).1 k_ hs_.symm).1))) (fun hn_ => (.inr (Nat.le_trans (below_size (by repeat (first | (with_reducible first | exact HB.out | apply below_alloc | apply pw_below_drewN | apply below_drew1) | exact HB.out))) hn_))), Or.elim hk_ (fun hs_ => ((HO_12.out).1 k_ hs_.symm).2.1) (fun hn_ => (Kd.fresh' (Kd.R_lt (by (with_reducible repeat (first | apply Kd.R_alloc | apply Kd.R_drewN | apply Kd.R_drew)); exact HO_10.out)) k_ hn_)), Or.elim hk_ (fun hs_ => ((HO_12.out).1 k_ hs_.symm).2.2) (fun hn_ => (Kd.fresh' (Kd.R_lt (by (with_reducible repeat (first | apply Kd.R_alloc | apply Kd.R_drewN | apply Kd.R_drew)); exact HO_11.out)) k_ hn_))⟩)) (below_size (by repeat (first | (with_reducible first | exact HB.out | apply below_alloc | apply pw_below_drewN | apply below_drew1) | exact HB.out))))
   have n4_ := Aside0.mk (Kd.C_below (by repeat (first | (with_reducible exact HR235.out) | (with_reducible refine Kd.C_alloc ?_ _) | (with_reducible refine Kd.C_drewN ?_ _) | (with_reducible refine Kd.C_drew ?_) | exact HR235.out)) hb)
   have n5_ := Aside0.mk (below_step (by repeat (first | (with_reducible first | exact HB.out | apply below_alloc | apply pw_below_drewN | apply below_drew1) | exact HB.out)) hb)
   clear HO_10
   clear HO_11
   clear HO_12
   clear HR235
   clear HB
   have HO_10 := n0_
   have HO_11 := n1_
   have HO_12 := n2_
   have HO231 := n3_
   have HR235 := n4_
   have HB := n5_
   clear n0_ n1_ n2_ n3_ n4_ n5_
   (try clear hb)
   (try clear hb2)
   (try clear hk)
   (try clear hi)
   (try clear ho0)
   refine hK.out _ _ trivial (fun hHeld => ?_)
   clear hK K
   refine norm_ (a' := ?_) ?_ ?_
   rotate_left
   ·show Act.put _ (some 80) _ = _
    simp only [Act.put, List.setIfInBounds_toArray, List.set_cons_zero, List.set_cons_succ, i64_w, i32_w]
    rfl
   refine one_ (i := 6) (N := some 85) #[true, true, true, true, true, true, true, false, false] rfl rfl (one_of HT_.out (by kernel_rfl)) (by decide) (fun K hK => ?_)
   refine goes_ Tryd.func82 (by kernel_rfl) rfl #[.slice Ao44 y232.length co44, .int .u64 (IntKind.u64.wrap (t216))] (by rfl) rfl rfl (by (try simp only [List.map_toArray, List.map_cons, List.map_nil]); first | done | rfl | (simp only [List.length_drop, List.length_take]; rfl)) ?_
   with_reducible refine (natural_unshift.calls k1 _ _ y232 (IntKind.u64.wrap (t216)) t236 _ ?side1 ?side2 A41.out).mono ?_
   (case side1 => repeat (first | exact (by repeat (first | (with_reducible exact HR235.out) | (with_reducible refine Kd.C_alloc ?_ _) | (with_reducible refine Kd.C_drewN ?_ _) | (with_reducible refine Kd.C_drew ?_) | exact HR235.out)) | (with_reducible refine Kd.C_alloc ?_ _) | (with_reducible refine Kd.C_drewN ?_ _) | (with_reducible refine Kd.C_drew ?_)))
   (case side2 => exact HC235.out)
   rintro e w46 ⟨v237, rfl, ho0, hb⟩
   refine ⟨_, rfl, ?_⟩
   have n0_ := Aside0.mk (Kd.R_below (by (with_reducible repeat (first | apply Kd.R_alloc | apply Kd.R_drewN | apply Kd.R_drew)); exact HO_10.out) hb)
   have n1_ := Aside0.mk (Kd.R_below (by (with_reducible repeat (first | apply Kd.R_alloc | apply Kd.R_drewN | apply Kd.R_drew)); exact HO_11.out) hb)
   have n2_ := Aside0.mk (Kd.R_below (by (with_reducible repeat (first | apply Kd.R_alloc | apply Kd.R_drewN | apply Kd.R_drew)); exact HO_12.out) hb)
   have n3_ := Aside0.mk (Kd.V_below (by (with_reducible repeat (first | apply Kd.V_alloc | apply Kd.V_drewN | apply Kd.V_drew)); exact HO231.out) hb)
   have n4_ := Aside0.mk (Kd.V_lower (Kd.V_mono (ok' := fun k_ => (P0_ k_ ∨ w.heap.size ≤ k_) ∧ some k_ ≠ (v218 : Value).ownBlock ∧ some k_ ≠ (.slice Ao44 x11_1.length co44 : Value).ownBlock ∧ some k_ ≠ (.slice Ao27 x12_1.length co27 : Value).ownBlock) ho0 (fun k_ hk_ => ⟨(.inr (Nat.le_trans (below_size (by repeat (first | (with_reducible first | exact HB.out | apply below_alloc | apply pw_below_drewN | apply below_drew1) | exact HB.out))) hk_)), (Kd.fresh' (Kd.R_lt (by (with_reducible repeat (first | apply Kd.R_alloc | apply Kd.R_drewN | apply Kd.R_drew)); exact HO_10.out)) k_ hk_), (Kd.fresh' (Kd.R_lt (by (with_reducible repeat (first | apply Kd.R_alloc | apply Kd.R_drewN | apply Kd.R_drew)); exact HO_11.out)) k_ hk_), (Kd.fresh' (Kd.R_lt (by (with_reducible repeat (first | apply Kd.R_alloc | apply Kd.R_drewN | apply Kd.R_drew)); exact HO_12.out)) k_ hk_)⟩)) (below_size (by repeat (first | (with_reducible first | exact HB.out | apply below_alloc | apply pw_below_drewN | apply below_drew1) | exact HB.out))))
   have n5_ := Aside0.mk (Kd.C_below (by repeat (first | (with_reducible exact HR235.out) | (with_reducible refine Kd.C_alloc ?_ _) | (with_reducible refine Kd.C_drewN ?_ _) | (with_reducible refine Kd.C_drew ?_) | exact HR235.out)) hb)
   have n6_ := Aside0.mk (below_step (by repeat (first | (with_reducible first | exact HB.out | apply below_alloc | apply pw_below_drewN | apply below_drew1) | exact HB.out)) hb)
   clear HO_10
   clear HO_11
   clear HO_12
   clear HO231
   clear HR235
   clear HB
   have HO_10 := n0_
   have HO_11 := n1_
   have HO_12 := n2_
   have HO231 := n3_
   have HO238 := n4_
   have HR235 := n5_
   have HB := n6_
   clear n0_ n1_ n2_ n3_ n4_ n5_ n6_
   (try clear hb)
   (try clear hb2)
   (try clear hk)
   (try clear hi)
   (try clear ho0)
   refine hK.out _ _ trivial (fun hHeld => ?_)
   clear hK K
   refine norm_ (a' := ?_) ?_ ?_
   rotate_left
   ·show Act.put _ (some 85) _ = _
    simp only [Act.put, List.setIfInBounds_toArray, List.set_cons_zero, List.set_cons_succ, i64_w, i32_w]
    rfl
   refine pure_ (i := 7) (N := some 4) (v := ?_) (a' := ?_) #[true, true, true, true, true, true, true, true, false] rfl rfl (any_of HT_.out (by kernel_rfl)) (fun _ _ _ h => h) (Or.inl ⟨by rfl, ?_⟩) ?_ ?_
   rotate_left
   ·intro w'
    go_simp
    with_reducible rfl
   rotate_left
   ·simp only [Act.put, List.setIfInBounds_toArray, List.set_cons_zero, List.set_cons_succ, i64_w, i32_w]
    rfl
   refine pure_ (i := 8) (N := some 5) (v := ?_) (a' := ?_) #[true, true, true, true, true, true, true, true, true] rfl rfl (any_of HT_.out (by kernel_rfl)) (fun _ _ _ h => h) (Or.inl ⟨by rfl, ?_⟩) ?_ ?_
   rotate_left
   ·intro w'
    go_simp
    with_reducible rfl
   rotate_left
   ·simp only [Act.put, List.setIfInBounds_toArray, List.set_cons_zero, List.set_cons_succ, i64_w, i32_w]
    rfl
   refine done_ (done_of HT_.out (by kernel_rfl)) ?_
   try go_wp2
   go_ret2
   exact ⟨_, _, by first | rfl | (simp [errW_none, errW_some] <;> rfl) | (simp only [← hji14, ← hji20]; first | rfl | (simp [errW_none, errW_some] <;> rfl)) | (simp [*, errW_none, errW_some] <;> rfl), by (with_reducible repeat (first | apply Kd.V_alloc | apply Kd.V_drewN | apply Kd.V_drew)); exact Kd.V_mono HO231.out (fun _ hk => hk.1), by (with_reducible repeat (first | apply Kd.V_alloc | apply Kd.V_drewN | apply Kd.V_drew)); exact Kd.V_mono HO238.out (fun _ hk => hk.1), by repeat (first | (with_reducible first | exact HB.out | apply below_alloc | apply pw_below_drewN | apply below_drew1) | exact HB.out)⟩
end Go.Proofs.YtfnfjmeiaamheaaDoor.PA
namespace Go.Proofs.YtfnfjmeiaamheaaDoor.PA
open Go.RowKit Go.Proofs.YtfnfjmeiaamheaaDoorW.PrintWords Go.Proofs.YtfnfjmeiaamheaaDoorW.PrintLast Go.Proofs.YtfnfjmeiaamheaaDoorW.PrintMore
attribute [local go_sem] max2_int min2_int max_two min_two max_three min_three max_four min_four
def natural_limbs_text.l0 : Nat → List Int → List Int → Int → Int → Option (ByteArray)
 | 0, _, _, _, _ => none
 | k + 1, x0, x3, x10, x11 => if x11 < x10 then (if 0 ≤ (wrap64 (Int.tdiv x11 4)) then (if (wrap64 (Int.tdiv x11 4)) < (x0.length : Int) then (if 0 ≤ (wrap64 (8 * (Int.tmod x11 4))) then (if 0 ≤ (wrap64 ((wrap64 ((x3.length : Int) - 1)) - x11)) then (if (wrap64 ((wrap64 ((x3.length : Int) - 1)) - x11)) < (x3.length : Int) then (natural_limbs_text.l0 k x0 (x3.set ((wrap64 ((wrap64 ((x3.length : Int) - 1)) - x11)) : Int).toNat ((shr .u32 (rd x0 (wrap64 (Int.tdiv x11 4))) (wrap64 (8 * (Int.tmod x11 4)))) % 256)) x10 (wrap64 (x11 + 1))) else (none)) else (none)) else (none)) else (none)) else (none)) else ((natural_Normalize.f (strOfNums x3)).bind fun t244 => (some t244))
def natural_limbs_text.f (k : Nat) (l0 : List Int) : Option (ByteArray) := if 0 ≤ (wrap64 ((l0.length : Int) * 4)) then (if (wrap64 ((l0.length : Int) * 4) : Int).toNat ≤ 281474976710656 then ((some (List.replicate (wrap64 ((l0.length : Int) * 4) : Int).toNat 0 : List Int)).bind fun y239 => (natural_limbs_text.l0 k l0 y239 (y239.length : Int) 0)) else (none)) else (none)
theorem natural_limbs_text.mono_l : ∀ k, (∀ y0 y1 y2 y3, LeO (natural_limbs_text.l0 k y0 y1 y2 y3) (natural_limbs_text.l0 (k + 1) y0 y1 y2 y3))
 | 0 => fun _ _ _ _ r h => by simp [natural_limbs_text.l0] at h
 | k + 1 => by
  have ih0 := natural_limbs_text.mono_l k
  intro y0 y1 y2 y3
  unfold natural_limbs_text.l0
  repeat' first
  | (with_reducible exact ih0 _ _ _ _)
  | (with_reducible exact LeO.refl _)
  | (with_reducible exact LeO.none _)
  | (with_reducible refine LeO.ite ?_ ?_)
  | (with_reducible refine LeO.bind ?_ (fun _ => ?_))
  | exact ih0 _ _ _ _
  | exact LeO.none _
  | refine LeO.ite ?_ ?_
  | refine LeO.bind ?_ (fun _ => ?_)
theorem natural_limbs_text.mono : ∀ a0 k, LeO (natural_limbs_text.f k a0) (natural_limbs_text.f (k + 1) a0) := by
 intro a0 k
 have ih0 := natural_limbs_text.mono_l k
 unfold natural_limbs_text.f
 repeat' first
  | (with_reducible exact ih0 _ _ _ _)
  | (with_reducible exact LeO.refl _)
  | (with_reducible exact LeO.none _)
  | (with_reducible refine LeO.ite ?_ ?_)
  | (with_reducible refine LeO.bind ?_ (fun _ => ?_))
  | exact ih0 _ _ _ _
  | exact LeO.none _
  | refine LeO.ite ?_ ?_
  | refine LeO.bind ?_ (fun _ => ?_)
set_option maxHeartbeats 8000000 in
set_option maxRecDepth 100000 in
theorem natural_limbs_text.calls (k : Nat) (A0 : Option Addr) (c0 : Nat) (l0 : List Int) (r : ByteArray) (w : World) (hr0 : Kd.C (Kd.int .u32) w A0 l0.length l0) (hc0 : l0.length ≤ c0) (h : natural_limbs_text.f k l0 = some r) :
  Calls Tryd.prog 64 #[.slice A0 l0.length c0] w fun e w' => e = .returned (.string r) ∧ Below w.heap.size w w' := by
 have HR0 := Aside0.mk hr0
 have HC0 := Aside0.mk hc0
 clear hr0 hc0
 have HB := Aside0.mk (Below.refl w.heap.size w)
 have H : (if 0 ≤ (wrap64 ((l0.length : Int) * 4)) then (if (wrap64 ((l0.length : Int) * 4) : Int).toNat ≤ 281474976710656 then ((some (List.replicate (wrap64 ((l0.length : Int) * 4) : Int).toNat 0 : List Int)).bind fun y239 => (natural_limbs_text.l0 k l0 y239 (y239.length : Int) 0)) else (none)) else (none)) = some r := h
 clear h
 obtain ⟨ji2, hji2⟩ : ∃ j_ : Int, (wrap64 ((l0.length : Int) * 4)) = j_ := ⟨_, rfl⟩
 replace H : (if 0 ≤ (ji2) then (if (ji2 : Int).toNat ≤ 281474976710656 then ((some (List.replicate (ji2 : Int).toNat 0 : List Int)).bind fun y239 => (natural_limbs_text.l0 k l0 y239 (y239.length : Int) 0)) else (none)) else (none)) = some r := by first | (rw [hji2] at H; exact H) | (simp only [hji2] at H ⊢; exact H)
 have hji2w : (IntKind.i64.wrap ((l0.length : Int) * 4)) = ji2 := (i64_w _).trans hji2
 by_cases c3 : 0 ≤ (ji2)
 rotate_left
 ·rw [if_neg c3] at H
  exact absurd H (by simp)
 rw [if_pos c3] at H
 have c3b0 := eq_true c3
 have c3b1 : decide (0 ≤ (ji2)) = true := decide_eq_true c3
 clear c3
 by_cases c4 : (ji2 : Int).toNat ≤ 281474976710656
 rotate_left
 ·rw [if_neg c4] at H
  exact absurd H (by simp)
 rw [if_pos c4] at H
 have c4b0 := eq_true c4
 have c4b1 : decide ((ji2 : Int).toNat ≤ 281474976710656) = true := decide_eq_true c4
 clear c4
 obtain ⟨y239, hy239⟩ : ∃ y_ : List Int, y_ = (List.replicate (ji2 : Int).toNat 0) := ⟨_, rfl⟩
 replace H : (natural_limbs_text.l0 k l0 y239 (y239.length : Int) 0) = some r := by first | (rw [hy239]; with_reducible exact H) | (have H2_ := (Option.bind_some _ _).symm.trans H; rw [hy239]; with_reducible exact H2_) | (have H2_ := (Option.bind_some _ _).symm.trans H; with_reducible exact H2_) | with_reducible exact H | (rw [hy239]; exact H) | exact H
 have Ny239 := Aside0.mk hy239
 clear hy239
 have H' := Aside0.mk H
 clear H
 go_enter Tryd.func64, Tryd.ntmps64
 go_wp2_with (first | ((with_reducible refine gate_dst (N := 8) rfl ?_); refine Kd.R_make (Kd.int .u8) _ 5 rfl (N := 8) rfl 109 _ _ rfl ji2 rfl rfl Tryd.underlying109 (.int .u8 0) 1 info5 rfl (by decide) (by omega) 0 (ok := fun _ => True) (okp := fun _ => True) rfl (fun _ hk => hk) trivial (of_decide_eq_true (by first | (with_reducible assumption) | assumption)) (Nat.le_trans (Nat.mul_le_mul_right _ (of_decide_eq_true (by first | (with_reducible assumption) | assumption) : ji2.toNat ≤ 281474976710656)) (by omega)) (Below.refl _ _) (Nat.le_refl _) ?_; intro v240 w5 ho6 hb hg_ hnew_; clear hg_ hnew_; (first | rw [← Ny239.out] at ho6 | (simp only [Int.reduceToNat] at ho6; rw [← Ny239.out] at ho6)); have n0_ := Aside0.mk (Kd.R_lower ho6 (below_size (by repeat (first | (with_reducible first | exact HB.out | apply below_alloc | apply pw_below_drewN | apply below_drew1) | exact HB.out)))); have n1_ := Aside0.mk (below_step (by repeat (first | (with_reducible first | exact HB.out | apply below_alloc | apply pw_below_drewN | apply below_drew1) | exact HB.out)) hb); clear HB; have HO241 := n0_; have HB := n1_; clear n0_ n1_; clear hb ho6; obtain ⟨Ao7, co7, eo7⟩ := Kd.R_slice HO241.out; subst eo7))
 go_loopg [11] k (fun kq v11 w' => ∃ (x3_1 : List Int) (x11_1 : Int), v11 = .int .i64 x11_1 ∧ Aside0 (natural_limbs_text.l0 kq l0 x3_1 (y239.length : Int) x11_1 = some r) ∧ Aside0 (kq ≤ k) ∧ Aside0 (Kd.R (Kd.int .u8) 5 w' w.heap.size (fun _ => True) (.slice Ao7 y239.length co7) x3_1) ∧ Aside0 (Below w.heap.size w w'))
 case atStart => exact ⟨(y239), (0), (by first | rfl | (simp; done) | (simp [*]; done)), H', ⟨Nat.le_refl _⟩, ⟨by (with_reducible repeat (first | apply Kd.R_alloc | apply Kd.R_drewN | apply Kd.R_drew)); exact HO241.out⟩, ⟨by repeat (first | (with_reducible first | exact HB.out | apply below_alloc | apply pw_below_drewN | apply below_drew1) | exact HB.out)⟩⟩
 case round =>
  clear H'
  try clear p2
  try clear c3
  try clear c3b0
  try clear c3b1
  try clear c4
  try clear c4b0
  try clear c4b1
  try clear c6
  try clear p6
  obtain ⟨x3_1, x11_1, rfl, HA, HK1, HO_3, HB⟩ := hrel
  have hl3_1 := (Kd.R_reads' HO_3.out).1
  rw [hl3_1] at HO_3
  (try simp only [hl3_1])
  cases gk with
  | zero => exact absurd HA.out (by simp [natural_limbs_text.l0])
  | succ k1 =>
   have H := HA.out
   clear HA
   simp only [natural_limbs_text.l0] at H
   by_cases c8 : x11_1 < (y239.length : Int)
   rotate_left
   ·rw [if_neg c8] at H
    have c8b0 : decide (x11_1 < (y239.length : Int)) = false := decide_eq_false c8
    (try (have c8b9_0 := c8b0; rw [hl3_1] at c8b9_0))
    clear c8
    replace H := Option.bind_eq_some_iff.mp H
    obtain ⟨t244, A210, H⟩ := H
    replace H : (some t244) = some r := H
    have A21 := Aside0.mk A210
    clear A210
    obtain rfl := Option.some.inj H
    have hcv22 := own_string (P := Tryd.prog) Tryd.underlying109 Tryd.underlying5 Tryd.underlying9 (Kd.own_of_R HO_3.out)
    go_wp2_with (first | ((with_reducible refine gate_callee (f := 44) rfl ?_); refine goesL_ (some 34) rfl rfl Tryd.func44 (by kernel_rfl) rfl #[.string (strOfNums x3_1)] rfl (by (try simp only [List.map_toArray, List.map_cons, List.map_nil]); first | done | rfl | (simp only [List.length_drop, List.length_take]; rfl)) ?_; (with_reducible refine (natural_Normalize.calls (strOfNums x3_1) t244 _ A21.out).mono ?_); rintro e w' ⟨rfl, ⟨nd, rfl⟩⟩; refine ⟨_, rfl, ?_⟩))
    go_ret
    exact ⟨by first | rfl | (simp [errW_none, errW_some] <;> rfl) | (simp only [← hji2]; first | rfl | (simp [errW_none, errW_some] <;> rfl)) | (simp [*, errW_none, errW_some] <;> rfl), by repeat (first | (with_reducible first | exact HB.out | apply below_alloc | apply pw_below_drewN | apply below_drew1) | exact HB.out)⟩
   rw [if_pos c8] at H
   have c8b0 : decide (x11_1 < (y239.length : Int)) = true := decide_eq_true c8
   (try (have c8b9_0 := c8b0; rw [hl3_1] at c8b9_0))
   clear c8
   obtain ⟨ji9, hji9⟩ : ∃ j_ : Int, (wrap64 (Int.tdiv x11_1 4)) = j_ := ⟨_, rfl⟩
   replace H : (if 0 ≤ (ji9) then (if (ji9) < (l0.length : Int) then (if 0 ≤ (wrap64 (8 * (Int.tmod x11_1 4))) then (if 0 ≤ (wrap64 ((wrap64 ((x3_1.length : Int) - 1)) - x11_1)) then (if (wrap64 ((wrap64 ((x3_1.length : Int) - 1)) - x11_1)) < (x3_1.length : Int) then (natural_limbs_text.l0 k1 l0 (x3_1.set ((wrap64 ((wrap64 ((x3_1.length : Int) - 1)) - x11_1)) : Int).toNat ((shr .u32 (rd l0 (ji9)) (wrap64 (8 * (Int.tmod x11_1 4)))) % 256)) (y239.length : Int) (wrap64 (x11_1 + 1))) else (none)) else (none)) else (none)) else (none)) else (none)) = some r := by first | (rw [hji9] at H; exact H) | (simp only [hji9] at H ⊢; exact H)
   have hji9w : (IntKind.i64.wrap (Int.tdiv x11_1 4)) = ji9 := (i64_w _).trans hji9
   by_cases c10 : 0 ≤ (ji9)
   rotate_left
   ·rw [if_neg c10] at H
    exact absurd H (by simp)
   rw [if_pos c10] at H
   have c10b0 : decide (0 ≤ (ji9)) = true := decide_eq_true c10
   clear c10
   by_cases c11 : (ji9) < (l0.length : Int)
   rotate_left
   ·rw [if_neg c11] at H
    exact absurd H (by simp)
   rw [if_pos c11] at H
   have c11b0 : decide ((ji9) < (l0.length : Int)) = true := decide_eq_true c11
   clear c11
   obtain ⟨ji12, hji12⟩ : ∃ j_ : Int, (wrap64 (8 * (Int.tmod x11_1 4))) = j_ := ⟨_, rfl⟩
   replace H : (if 0 ≤ (ji12) then (if 0 ≤ (wrap64 ((wrap64 ((x3_1.length : Int) - 1)) - x11_1)) then (if (wrap64 ((wrap64 ((x3_1.length : Int) - 1)) - x11_1)) < (x3_1.length : Int) then (natural_limbs_text.l0 k1 l0 (x3_1.set ((wrap64 ((wrap64 ((x3_1.length : Int) - 1)) - x11_1)) : Int).toNat ((shr .u32 (rd l0 (ji9)) (ji12)) % 256)) (y239.length : Int) (wrap64 (x11_1 + 1))) else (none)) else (none)) else (none)) = some r := by first | (rw [hji12] at H; exact H) | (simp only [hji12] at H ⊢; exact H)
   have hji12w : (IntKind.i64.wrap (8 * (Int.tmod x11_1 4))) = ji12 := (i64_w _).trans hji12
   by_cases c13 : 0 ≤ (ji12)
   rotate_left
   ·rw [if_neg c13] at H
    exact absurd H (by simp)
   rw [if_pos c13] at H
   have c13b0 := eq_true c13
   have c13b1 : decide (0 ≤ (ji12)) = true := decide_eq_true c13
   clear c13
   obtain ⟨ji14, hji14⟩ : ∃ j_ : Int, (shr .u32 (rd l0 (ji9)) (ji12)) = j_ := ⟨_, rfl⟩
   replace H : (if 0 ≤ (wrap64 ((wrap64 ((x3_1.length : Int) - 1)) - x11_1)) then (if (wrap64 ((wrap64 ((x3_1.length : Int) - 1)) - x11_1)) < (x3_1.length : Int) then (natural_limbs_text.l0 k1 l0 (x3_1.set ((wrap64 ((wrap64 ((x3_1.length : Int) - 1)) - x11_1)) : Int).toNat ((ji14) % 256)) (y239.length : Int) (wrap64 (x11_1 + 1))) else (none)) else (none)) = some r := by first | (rw [hji14] at H; exact H) | (simp only [hji14] at H ⊢; exact H)
   have hji14_ : ((rd l0 (ji9)) / 2 ^ min (ji12).toNat 32) = ji14 := hji14
   have hji14z : (ji12) ≤ 32 → ((rd l0 (ji9)) / 2 ^ (ji12).toNat) = ji14 := shr_small hji14
   obtain ⟨ji15, hji15⟩ : ∃ j_ : Int, (wrap64 ((wrap64 ((x3_1.length : Int) - 1)) - x11_1)) = j_ := ⟨_, rfl⟩
   replace H : (if 0 ≤ (ji15) then (if (ji15) < (x3_1.length : Int) then (natural_limbs_text.l0 k1 l0 (x3_1.set ((ji15) : Int).toNat ((ji14) % 256)) (y239.length : Int) (wrap64 (x11_1 + 1))) else (none)) else (none)) = some r := by first | (rw [hji15] at H; exact H) | (simp only [hji15] at H ⊢; exact H)
   have hji15w : (IntKind.i64.wrap ((wrap64 ((x3_1.length : Int) - 1)) - x11_1)) = ji15 := (i64_w _).trans hji15
   by_cases c16 : 0 ≤ (ji15)
   rotate_left
   ·rw [if_neg c16] at H
    exact absurd H (by simp)
   rw [if_pos c16] at H
   have c16b0 : decide (0 ≤ (ji15)) = true := decide_eq_true c16
   clear c16
   by_cases c17 : (ji15) < (x3_1.length : Int)
   rotate_left
   ·rw [if_neg c17] at H
    exact absurd H (by simp)
   rw [if_pos c17] at H
   have c17b0 : decide ((ji15) < (x3_1.length : Int)) = true := decide_eq_true c17
   clear c17
   obtain ⟨y243, hy243⟩ : ∃ y_ : List Int, y_ = (x3_1.set ((ji15) : Int).toNat ((ji14) % 256)) := ⟨_, rfl⟩
   replace H : (natural_limbs_text.l0 k1 l0 y243 (y239.length : Int) (wrap64 (x11_1 + 1))) = some r := by first | (rw [hy243]; with_reducible exact H) | (have H2_ := (Option.bind_some _ _).symm.trans H; rw [hy243]; with_reducible exact H2_) | (have H2_ := (Option.bind_some _ _).symm.trans H; with_reducible exact H2_) | with_reducible exact H | (rw [hy243]; exact H) | exact H
   have Ny243 := Aside0.mk hy243
   clear hy243
   have H' := Aside0.mk H
   clear H
   have p242 : 0 ≤ ((ji9) : Int) := of_decide_eq_true (by first | (with_reducible assumption) | assumption)
   have q242 : (ji9) < (l0.length : Int) := of_decide_eq_true (by first | (with_reducible assumption) | assumption)
   obtain ⟨ad242, e242, hx242_0⟩ := Kd.at_int HR0.out (ji9) p242 q242
   cases e242
   replace hx242_0 := (HB.out.cell (World.block_lt_of_cell? w _ hx242_0)).trans hx242_0
   replace p242 := eq_true p242
   replace q242 := eq_true q242
   have p18 : 0 ≤ ((ji15) : Int) := of_decide_eq_true (by first | (with_reducible assumption) | assumption)
   have q18 : ((ji15) : Int) < ((x3_1.length : Int) : Int) := of_decide_eq_true (by first | (with_reducible assumption) | assumption)
   obtain ⟨go18, co18, eo18, gb18, gl18, cl18, HG18⟩ := Kd.R_form HO_3.out (by omega)
   (first | cases eo18 | (injection eo18 with ea_ en_ ec_; (first | subst ea_ | (injection ea_ with ea_; subst ea_)); subst ec_; clear en_))
   have GB18 := Aside0.mk gb18
   have GG18 := Aside0.mk HG18
   clear gb18 gl18 HG18
   obtain ⟨hx18_0, hf18_0⟩ := Kd.R_celln 0 HO_3.out ((ji15) : Int) p18 q18
   replace p18 := eq_true p18
   replace q18 := eq_true q18
   have HP19 := Kd.R_putg HO_3.out ((ji15) : Int) ((ji14) % 256)
   go_wp2_with (first | ((with_reducible refine gate_store (t := 5) (p := 30) rfl ?_); refine store_event (t := 5) (p := 30) (v := ?vo_w20) (w1 := (wr.setCell ⟨go18, ((ji15) : Int).toNat, none⟩ (.int .u8 ((ji14) % 256)))) ?hg ?ho ?hn ?hr ?_; (case ho => rfl); (case hg => rfl); (case hn => rfl); (case hr => first | (go_simp; done) | (go_simp; rfl)); intro w20 hw; have hg : wr.grownBy w20 (some go18) := (by rw [hw]; exact HP19.2); have hp_ : Kd.R (Kd.int .u8) 5 w20 w.heap.size (fun _ => True) (.slice (some ⟨go18, 0, none⟩) x3_1.length co7) y243 := (by rw [hw, Ny243.out]; exact HP19.1); clear HP19; have n0_ := Aside0.mk (hp_); have n1_ := Aside0.mk ((by rw [hw]; exact below_set (HB.out) GB18.out : Below w.heap.size w w20)); clear HO_3; clear HB; have HO_3 := n0_; have HB := n1_; clear n0_ n1_; clear hg hw hp_))
   (try simp only [← hl3_1])
   go_roundg k1
   case measure => have := HK1.out; omega
   case rel => exact ⟨(y243), (wrap64 (x11_1 + 1)), (by first | rfl | (simp; done) | (simp [*]; done)), H', ⟨by have := HK1.out; omega⟩, ⟨by (try simp only [hl3_1]); (with_reducible repeat (first | apply Kd.R_alloc | apply Kd.R_drewN | apply Kd.R_drew)); exact HO_3.out⟩, ⟨by repeat (first | (with_reducible first | exact HB.out | apply below_alloc | apply pw_below_drewN | apply below_drew1) | exact HB.out)⟩⟩
end Go.Proofs.YtfnfjmeiaamheaaDoor.PA
namespace Go.Proofs.YtfnfjmeiaamheaaDoor.PA
open Go.RowKit Go.Proofs.YtfnfjmeiaamheaaDoorW.PrintWords Go.Proofs.YtfnfjmeiaamheaaDoorW.PrintLast Go.Proofs.YtfnfjmeiaamheaaDoorW.PrintMore
attribute [local go_sem] max2_int min2_int max_two min_two max_three min_three max_four min_four
def natural_GCD.l0 : Nat → List Int → List Int → Option (ByteArray)
 | 0, _, _ => none
 | k + 1, x5, x6 => if (x6.length : Int) > 0 then ((natural_divide.f k x5 x6).bind fun bt251 => (natural_GCD.l0 k x6 bt251.2)) else ((natural_limbs_text.f k x5).bind fun t257 => (some t257))
def natural_GCD.f (k : Nat) (a0 : ByteArray) (a1 : ByteArray) : Option (ByteArray) := (natural_parse.f k a0).bind fun t245 => ((natural_parse.f k a1).bind fun t248 => (natural_GCD.l0 k t245 t248))
theorem natural_GCD.mono_l : ∀ k, (∀ y0 y1, LeO (natural_GCD.l0 k y0 y1) (natural_GCD.l0 (k + 1) y0 y1))
 | 0 => fun _ _ r h => by simp [natural_GCD.l0] at h
 | k + 1 => by
  have ih0 := natural_GCD.mono_l k
  intro y0 y1
  unfold natural_GCD.l0
  repeat' first
  | (with_reducible exact ih0 _ _)
  | (with_reducible exact natural_divide.mono _ _ _)
  | (with_reducible exact natural_limbs_text.mono _ _)
  | (with_reducible exact natural_parse.mono _ _)
  | (with_reducible exact LeO.refl _)
  | (with_reducible exact LeO.none _)
  | (with_reducible refine LeO.ite ?_ ?_)
  | (with_reducible refine LeO.bind ?_ (fun _ => ?_))
  | exact ih0 _ _
  | exact natural_divide.mono _ _ _
  | exact natural_limbs_text.mono _ _
  | exact natural_parse.mono _ _
  | exact LeO.none _
  | refine LeO.ite ?_ ?_
  | refine LeO.bind ?_ (fun _ => ?_)
theorem natural_GCD.mono : ∀ a0 a1 k, LeO (natural_GCD.f k a0 a1) (natural_GCD.f (k + 1) a0 a1) := by
 intro a0 a1 k
 have ih0 := natural_GCD.mono_l k
 unfold natural_GCD.f
 repeat' first
  | (with_reducible exact ih0 _ _)
  | (with_reducible exact natural_divide.mono _ _ _)
  | (with_reducible exact natural_limbs_text.mono _ _)
  | (with_reducible exact natural_parse.mono _ _)
  | (with_reducible exact LeO.refl _)
  | (with_reducible exact LeO.none _)
  | (with_reducible refine LeO.ite ?_ ?_)
  | (with_reducible refine LeO.bind ?_ (fun _ => ?_))
  | exact ih0 _ _
  | exact natural_divide.mono _ _ _
  | exact natural_limbs_text.mono _ _
  | exact natural_parse.mono _ _
  | exact LeO.none _
  | refine LeO.ite ?_ ?_
  | refine LeO.bind ?_ (fun _ => ?_)
set_option maxHeartbeats 8000000 in
set_option maxRecDepth 100000 in
theorem natural_GCD.calls (k : Nat) (a0 : ByteArray) (a1 : ByteArray) (r : ByteArray) (w : World) (h : natural_GCD.f k a0 a1 = some r) :
  Calls Tryd.prog 45 #[.string a0, .string a1] w fun e w' => e = .returned (.string r) ∧ Below w.heap.size w w' := by
 have HB := Aside0.mk (Below.refl w.heap.size w)
 have H : ((natural_parse.f k a0).bind fun t245 => ((natural_parse.f k a1).bind fun t248 => (natural_GCD.l0 k t245 t248))) = some r := h
 clear h
 replace H := Option.bind_eq_some_iff.mp H
 obtain ⟨t245, A30, H⟩ := H
 replace H : ((natural_parse.f k a1).bind fun t248 => (natural_GCD.l0 k t245 t248)) = some r := H
 have A3 := Aside0.mk A30
 clear A30
 replace H := Option.bind_eq_some_iff.mp H
 obtain ⟨t248, A40, H⟩ := H
 replace H : (natural_GCD.l0 k t245 t248) = some r := H
 have A4 := Aside0.mk A40
 clear A40
 have H' := Aside0.mk H
 clear H
 go_enter Tryd.func45, Tryd.ntmps45
 go_wp2_with (first | ((with_reducible refine gate_callee (f := 62) rfl ?_); refine goesL_ (some 10) rfl rfl Tryd.func62 (by kernel_rfl) rfl #[.string a0] rfl (by (try simp only [List.map_toArray, List.map_cons, List.map_nil]); first | done | rfl | (simp only [List.length_drop, List.length_take]; rfl)) ?_; (with_reducible refine (natural_parse.calls k a0 t245 _ A3.out).mono ?_); rintro e w5 ⟨v246, rfl, ho0, hb⟩; refine ⟨_, rfl, ?_⟩; have n0_ := Aside0.mk (Kd.V_lower (Kd.V_mono (ok' := fun k_ => True) ho0 (fun k_ hk_ => trivial)) (below_size (by repeat (first | (with_reducible first | exact HB.out | apply below_alloc | apply pw_below_drewN | apply below_drew1) | exact HB.out)))); have n1_ := Aside0.mk (below_step (by repeat (first | (with_reducible first | exact HB.out | apply below_alloc | apply pw_below_drewN | apply below_drew1) | exact HB.out)) hb); clear HB; have HO247 := n0_; have HB := n1_; clear n0_ n1_; (try clear hb); (try clear hb2); (try clear hk); (try clear hi); (try clear ho0)) | ((with_reducible refine gate_callee (f := 62) rfl ?_); refine goesL_ (some 12) rfl rfl Tryd.func62 (by kernel_rfl) rfl #[.string a1] rfl (by (try simp only [List.map_toArray, List.map_cons, List.map_nil]); first | done | rfl | (simp only [List.length_drop, List.length_take]; rfl)) ?_; (with_reducible refine (natural_parse.calls k a1 t248 _ A4.out).mono ?_); rintro e w6 ⟨v249, rfl, ho0, hb⟩; refine ⟨_, rfl, ?_⟩; have n0_ := Aside0.mk (Kd.V_below (by (with_reducible repeat (first | apply Kd.V_alloc | apply Kd.V_drewN | apply Kd.V_drew)); exact HO247.out) hb); have n1_ := Aside0.mk (Kd.V_lower (Kd.V_mono (ok' := fun k_ => True) ho0 (fun k_ hk_ => trivial)) (below_size (by repeat (first | (with_reducible first | exact HB.out | apply below_alloc | apply pw_below_drewN | apply below_drew1) | exact HB.out)))); have n2_ := Aside0.mk (below_step (by repeat (first | (with_reducible first | exact HB.out | apply below_alloc | apply pw_below_drewN | apply below_drew1) | exact HB.out)) hb); clear HO247; clear HB; have HO247 := n0_; have HO250 := n1_; have HB := n2_; clear n0_ n1_ n2_; (try clear hb); (try clear hb2); (try clear hk); (try clear hi); (try clear ho0)))
 go_loopg [5, 6] k (fun kq v5 v6 w' => ∃ (x5_1 : List Int) (x6_1 : List Int), Aside0 (natural_GCD.l0 kq x5_1 x6_1 = some r) ∧ Aside0 (kq ≤ k) ∧ Aside0 (Kd.V (Kd.int .u32) 88 w' w.heap.size (fun _ => True) v5 x5_1) ∧ Aside0 (Kd.V (Kd.int .u32) 88 w' w.heap.size (fun _ => True) v6 x6_1) ∧ Aside0 (Below w.heap.size w w'))
 case atStart => exact ⟨(t245), (t248), H', ⟨Nat.le_refl _⟩, ⟨by (with_reducible repeat (first | apply Kd.V_alloc | apply Kd.V_drewN | apply Kd.V_drew)); exact HO247.out⟩, ⟨by (with_reducible repeat (first | apply Kd.V_alloc | apply Kd.V_drewN | apply Kd.V_drew)); exact HO250.out⟩, ⟨by repeat (first | (with_reducible first | exact HB.out | apply below_alloc | apply pw_below_drewN | apply below_drew1) | exact HB.out)⟩⟩
 case round =>
  clear H'
  try clear p2
  try clear c4
  try clear c6
  obtain ⟨x5_1, x6_1, HA, HK1, HO_5, HO_6, HB⟩ := hrel
  cases gk with
  | zero => exact absurd HA.out (by simp [natural_GCD.l0])
  | succ k1 =>
   have H := HA.out
   clear HA
   simp only [natural_GCD.l0] at H
   by_cases c7 : (x6_1.length : Int) > 0
   rotate_left
   ·rw [if_neg c7] at H
    have c7b0 : decide (0 < (x6_1.length : Int)) = false := decide_eq_false c7
    have c7b1 : decide (0 < x6_1.length) = false := decide_eq_false (by omega)
    clear c7
    replace H := Option.bind_eq_some_iff.mp H
    obtain ⟨t257, A120, H⟩ := H
    replace H : (some t257) = some r := H
    have A12 := Aside0.mk A120
    clear A120
    obtain rfl := Option.some.inj H
    obtain ⟨Ao13, co13, eo13⟩ := Kd.V_slice HO_6.out
    subst eo13
    obtain ⟨Ao14, co14, eo14⟩ := Kd.V_slice HO_5.out
    subst eo14
    go_wp2_with (first | ((with_reducible refine gate_callee (f := 64) rfl ?_); refine goesL_ (some 25) rfl rfl Tryd.func64 (by kernel_rfl) rfl #[.slice Ao14 x5_1.length co14] rfl (by (try simp only [List.map_toArray, List.map_cons, List.map_nil]); first | done | rfl | (simp only [List.length_drop, List.length_take]; rfl)) ?_; (with_reducible refine (natural_limbs_text.calls k1 _ _ x5_1 t257 _ ?side1 ?side2 A12.out).mono ?_); (case side1 => repeat (first | exact (Kd.V_reads' HO_5.out).2.2 | (with_reducible refine Kd.C_alloc ?_ _) | (with_reducible refine Kd.C_drewN ?_ _) | (with_reducible refine Kd.C_drew ?_))); (case side2 => exact (Kd.V_reads' HO_5.out).2.1); rintro e w15 ⟨rfl, hb⟩; refine ⟨_, rfl, ?_⟩; have n0_ := Aside0.mk (Kd.V_below (by (with_reducible repeat (first | apply Kd.V_alloc | apply Kd.V_drewN | apply Kd.V_drew)); exact HO_5.out) hb); have n1_ := Aside0.mk (Kd.V_below (by (with_reducible repeat (first | apply Kd.V_alloc | apply Kd.V_drewN | apply Kd.V_drew)); exact HO_6.out) hb); have n2_ := Aside0.mk (below_step (by repeat (first | (with_reducible first | exact HB.out | apply below_alloc | apply pw_below_drewN | apply below_drew1) | exact HB.out)) hb); clear HO_5; clear HO_6; clear HB; have HO_5 := n0_; have HO_6 := n1_; have HB := n2_; clear n0_ n1_ n2_; (try clear hb); (try clear hb2); (try clear hk); (try clear hi)))
    go_ret
    exact ⟨by first | rfl | (simp [errW_none, errW_some] <;> rfl) | (simp [*, errW_none, errW_some] <;> rfl), by repeat (first | (with_reducible first | exact HB.out | apply below_alloc | apply pw_below_drewN | apply below_drew1) | exact HB.out)⟩
   rw [if_pos c7] at H
   have c7b0 : decide (0 < (x6_1.length : Int)) = true := decide_eq_true c7
   have c7b1 : decide (0 < x6_1.length) = true := decide_eq_true (by omega)
   clear c7
   replace H := Option.bind_eq_some_iff.mp H
   obtain ⟨⟨t251, t254⟩, A80, H⟩ := H
   replace H : (natural_GCD.l0 k1 x6_1 t254) = some r := H
   have A8 := Aside0.mk A80
   clear A80
   have H' := Aside0.mk H
   clear H
   obtain ⟨Ao9, co9, eo9⟩ := Kd.V_slice HO_6.out
   subst eo9
   obtain ⟨Ao10, co10, eo10⟩ := Kd.V_slice HO_5.out
   subst eo10
   go_wp2_with (first | ((with_reducible refine gate_callee (f := 63) rfl ?_); refine goesL_ (some 19) rfl rfl Tryd.func63 (by kernel_rfl) rfl #[.slice Ao10 x5_1.length co10, .slice Ao9 x6_1.length co9] rfl (by (try simp only [List.map_toArray, List.map_cons, List.map_nil]); first | done | rfl | (simp only [List.length_drop, List.length_take]; rfl)) ?_; (with_reducible refine (natural_divide.calls k1 (fun k_ => True) _ _ x5_1 _ _ x6_1 t251 t254 _ ?side1 ?side2 ?side3 A8.out).mono ?_); (case side1 => exact HO_5.out); (case side2 => repeat (first | exact (Kd.V_reads' HO_6.out).2.2 | (with_reducible refine Kd.C_alloc ?_ _) | (with_reducible refine Kd.C_drewN ?_ _) | (with_reducible refine Kd.C_drew ?_))); (case side3 => exact (Kd.V_reads' HO_6.out).2.1); rintro e w11 ⟨v252, v255, rfl, ho0, ho1, hb⟩; refine ⟨_, rfl, ?_⟩; have n0_ := Aside0.mk (Kd.V_below (by (with_reducible repeat (first | apply Kd.V_alloc | apply Kd.V_drewN | apply Kd.V_drew)); exact HO_5.out) hb); have n1_ := Aside0.mk (Kd.V_below (by (with_reducible repeat (first | apply Kd.V_alloc | apply Kd.V_drewN | apply Kd.V_drew)); exact HO_6.out) hb); have n2_ := Aside0.mk (Kd.V_lower (Kd.V_mono (ok' := fun k_ => True) ho0 (fun k_ hk_ => trivial)) (below_size (by repeat (first | (with_reducible first | exact HB.out | apply below_alloc | apply pw_below_drewN | apply below_drew1) | exact HB.out)))); have n3_ := Aside0.mk (Kd.V_lower (Kd.V_mono (ok' := fun k_ => True) ho1 (fun k_ hk_ => trivial)) (below_size (by repeat (first | (with_reducible first | exact HB.out | apply below_alloc | apply pw_below_drewN | apply below_drew1) | exact HB.out)))); have n4_ := Aside0.mk (below_step (by repeat (first | (with_reducible first | exact HB.out | apply below_alloc | apply pw_below_drewN | apply below_drew1) | exact HB.out)) hb); clear HO_5; clear HO_6; clear HB; have HO_5 := n0_; have HO_6 := n1_; have HO253 := n2_; have HO256 := n3_; have HB := n4_; clear n0_ n1_ n2_ n3_ n4_; (try clear hb); (try clear hb2); (try clear hk); (try clear hi); (try clear ho0); (try clear ho1)))
   go_roundg k1
   case measure => have := HK1.out; omega
   case rel => exact ⟨(x6_1), (t254), H', ⟨by have := HK1.out; omega⟩, ⟨by (with_reducible repeat (first | apply Kd.V_alloc | apply Kd.V_drewN | apply Kd.V_drew)); exact HO_6.out⟩, ⟨by (with_reducible repeat (first | apply Kd.V_alloc | apply Kd.V_drewN | apply Kd.V_drew)); exact HO256.out⟩, ⟨by repeat (first | (with_reducible first | exact HB.out | apply below_alloc | apply pw_below_drewN | apply below_drew1) | exact HB.out)⟩⟩
end Go.Proofs.YtfnfjmeiaamheaaDoor.PA
namespace Go.Proofs.YtfnfjmeiaamheaaDoor.PA
open Go.RowKit Go.Proofs.YtfnfjmeiaamheaaDoorW.PrintWords Go.Proofs.YtfnfjmeiaamheaaDoorW.PrintLast Go.Proofs.YtfnfjmeiaamheaaDoorW.PrintMore
attribute [local go_sem] max2_int min2_int max_two min_two max_three min_three max_four min_four
def rational_Valid.j0 : Nat → Bool → Bool → ByteArray → ByteArray → Option (Bool)
 | 0, _, _, _, _ => none
 | k + 1, x16, x259000, x259001, x259002 => if x16 = true then (some false) else (if x259001.toList = ([] : List UInt8) then (if x259000 = true then (some false) else (some (x259002.toList == ([] : List UInt8)))) else (if x259002.toList = ([] : List UInt8) then (some true) else (if x259002.toList = ([1] : List UInt8) then (some false) else ((natural_GCD.f k x259001 x259002).bind fun t261 => (some (t261.toList == ([1] : List UInt8)))))))
def rational_Valid.f (k : Nat) (a0_0 : Bool) (a0_1 : ByteArray) (a0_2 : ByteArray) : Option (Bool) := (natural_Normalize.f a0_1).bind fun t259 => (if t259.toList = a0_1.toList then ((natural_Normalize.f a0_2).bind fun t260 => (rational_Valid.j0 k (t260.toList != a0_2.toList) a0_0 a0_1 a0_2)) else (rational_Valid.j0 k true a0_0 a0_1 a0_2))
theorem rational_Valid.mono_l : ∀ k, (∀ y0 y1 y2 y3, LeO (rational_Valid.j0 k y0 y1 y2 y3) (rational_Valid.j0 (k + 1) y0 y1 y2 y3))
 | 0 => fun _ _ _ _ r h => by simp [rational_Valid.j0] at h
 | k + 1 => by
  have ih0 := rational_Valid.mono_l k
  intro y0 y1 y2 y3
  unfold rational_Valid.j0
  repeat' first
  | (with_reducible exact ih0 _ _ _ _)
  | (with_reducible exact natural_GCD.mono _ _ _)
  | (with_reducible exact LeO.refl _)
  | (with_reducible exact LeO.none _)
  | (with_reducible refine LeO.ite ?_ ?_)
  | (with_reducible refine LeO.bind ?_ (fun _ => ?_))
  | exact ih0 _ _ _ _
  | exact natural_GCD.mono _ _ _
  | exact LeO.none _
  | refine LeO.ite ?_ ?_
  | refine LeO.bind ?_ (fun _ => ?_)
theorem rational_Valid.mono : ∀ a0 a1 a2 k, LeO (rational_Valid.f k a0 a1 a2) (rational_Valid.f (k + 1) a0 a1 a2) := by
 intro a0 a1 a2 k
 have ih0 := rational_Valid.mono_l k
 unfold rational_Valid.f
 repeat' first
  | (with_reducible exact ih0 _ _ _ _)
  | (with_reducible exact natural_GCD.mono _ _ _)
  | (with_reducible exact LeO.refl _)
  | (with_reducible exact LeO.none _)
  | (with_reducible refine LeO.ite ?_ ?_)
  | (with_reducible refine LeO.bind ?_ (fun _ => ?_))
  | exact ih0 _ _ _ _
  | exact natural_GCD.mono _ _ _
  | exact LeO.none _
  | refine LeO.ite ?_ ?_
  | refine LeO.bind ?_ (fun _ => ?_)
set_option maxHeartbeats 8000000 in
set_option maxRecDepth 100000 in
theorem rational_Valid.calls (k : Nat) (a0_0 : Bool) (a0_1 : ByteArray) (a0_2 : ByteArray) (r : Bool) (w : World) (h : rational_Valid.f k a0_0 a0_1 a0_2 = some r) :
  Calls Tryd.prog 60 #[.agg #[.bool a0_0, .string a0_1, .string a0_2]] w fun e w' => e = .returned (.bool r) ∧ Below w.heap.size w w' := by
 have hu30 := Tryd.underlying30
 have HB := Aside0.mk (Below.refl w.heap.size w)
 have H : ((natural_Normalize.f a0_1).bind fun t259 => (if t259.toList = a0_1.toList then ((natural_Normalize.f a0_2).bind fun t260 => (rational_Valid.j0 k (t260.toList != a0_2.toList) a0_0 a0_1 a0_2)) else (rational_Valid.j0 k true a0_0 a0_1 a0_2))) = some r := h
 clear h
 have HC2 := Aside0.mk H
 clear H
 go_enter Tryd.func60, Tryd.ntmps60
 go_upto_region 1 with (first | ((with_reducible refine gate_dst (N := 1) rfl ?_); refine box_event ?hg (N := 1) ?hd (cs := #[.bool a0_0, .string a0_1, .string a0_2]) (t := 30) ?hr ?_; (case hd => rfl); (case hg => rfl); (case hr => first | (go_simp; done) | (go_simp; rfl)); intro gb258 hg w3 hbox hb; have n0_ := Aside0.mk (below_step (by repeat (first | (with_reducible first | exact HB.out | apply below_alloc | apply pw_below_drewN | apply below_drew1) | exact HB.out)) hb); have n1_ := Aside0.mk (hbox); have n2_ := Aside0.mk ((by rw [hg]; exact (below_size (by repeat (first | (with_reducible first | exact HB.out | apply below_alloc | apply pw_below_drewN | apply below_drew1) | exact HB.out))) : w.heap.size ≤ gb258)); have n3_ := Aside0.mk ((by rw [hg]; exact (below_size (by repeat (first | (with_reducible first | exact HB.out | apply below_alloc | apply pw_below_drewN | apply below_drew1) | exact HB.out))) : w.heap.size ≤ gb258)); clear HB; have HB := n0_; have BK258 := n1_; have GW258 := n2_; have GE258 := n3_; clear n0_ n1_ n2_ n3_; clear hb hbox hg))
 (try simp only [Act.put, List.setIfInBounds_toArray, List.set_cons_zero, List.set_cons_succ])
 go_cut [16] (fun v16 wc => ∃ (kq : Nat) (x16_1 : Bool), v16 = .bool x16_1 ∧ Aside0 (rational_Valid.j0 kq x16_1 a0_0 a0_1 a0_2 = some r) ∧ Aside0 (kq ≤ k) ∧ Aside0 (wc.heap[gb258]? = some (.cells #[.bool a0_0, .string a0_1, .string a0_2] 30 (0, 0))) ∧ Aside0 (Below w.heap.size w wc))
 case first =>
  have H := HC2.out
  clear HC2
  replace H := Option.bind_eq_some_iff.mp H
  obtain ⟨t259, A40, H⟩ := H
  replace H : (if t259.toList = a0_1.toList then ((natural_Normalize.f a0_2).bind fun t260 => (rational_Valid.j0 k (t260.toList != a0_2.toList) a0_0 a0_1 a0_2)) else (rational_Valid.j0 k true a0_0 a0_1 a0_2)) = some r := H
  have A4 := Aside0.mk A40
  clear A40
  by_cases c5 : t259.toList = a0_1.toList
  rotate_left
  ·rw [if_neg c5] at H
   have c5b0 : (t259.toList == a0_1.toList) = false := beq_eq_false_iff_ne.mpr c5
   have c5b1 : (t259.toList != a0_1.toList) = true := bne_iff_ne.mpr c5
   (first | rw [c5b0] | (simp only [i64_w, i32_w]; rw [c5b0]) | skip)
   have H' := Aside0.mk H
   clear H
   have hcz8_0 : w3.cell? ⟨gb258, 0, none⟩ = some (.bool a0_0) := (blk_cell BK258.out 0).trans rfl
   have hcz8_1 : w3.cell? ⟨gb258, 1, none⟩ = some (.string a0_1) := (blk_cell BK258.out 1).trans rfl
   have hcz8_2 : w3.cell? ⟨gb258, 2, none⟩ = some (.string a0_2) := (blk_cell BK258.out 2).trans rfl
   have hfz8_0 := blk_frozen BK258.out 0
   have hfz8_1 := blk_frozen BK258.out 1
   have hfz8_2 := blk_frozen BK258.out 2
   go_wp2_with (first | (go_at_call 44; (with_reducible refine (natural_Normalize.calls a0_1 t259 _ A4.out).mono ?_); rintro e w' ⟨rfl, ⟨nd, rfl⟩⟩; (try first | exact ⟨rfl, _, World.drewN_drewN _ _ _⟩ | exact ⟨rfl, _, Eq.trans (World.drewN_drewN _ _ _) (congrArg (World.drewN _) (Nat.add_assoc _ _ _))⟩)))
   repeat (go_quiet (first | (go_at_call 44; (with_reducible refine (natural_Normalize.calls a0_1 t259 _ A4.out).mono ?_); rintro e w' ⟨rfl, ⟨nd, rfl⟩⟩; (try first | exact ⟨rfl, _, World.drewN_drewN _ _ _⟩ | exact ⟨rfl, _, Eq.trans (World.drewN_drewN _ _ _) (congrArg (World.drewN _) (Nat.add_assoc _ _ _))⟩))); try go_wp2_with (first | (go_at_call 44; (with_reducible refine (natural_Normalize.calls a0_1 t259 _ A4.out).mono ?_); rintro e w' ⟨rfl, ⟨nd, rfl⟩⟩; (try first | exact ⟨rfl, _, World.drewN_drewN _ _ _⟩ | exact ⟨rfl, _, Eq.trans (World.drewN_drewN _ _ _) (congrArg (World.drewN _) (Nat.add_assoc _ _ _))⟩))))
   go_meet
   case rel => exact ⟨_, (true), (by first | rfl | (simp; done) | (simp [*]; done)), H', ⟨by first | omega | exact Nat.le_refl _⟩, ⟨by (with_reducible repeat (first | refine blk_drewN ?_ _ | refine blk_drew ?_ | refine blk_alloc ?_ _)); exact BK258.out⟩, ⟨by repeat (first | (with_reducible first | exact HB.out | apply below_alloc | apply pw_below_drewN | apply below_drew1 | refine below_set ?_ GE258.out) | exact HB.out)⟩⟩
  rw [if_pos c5] at H
  have c5b0 : (t259.toList == a0_1.toList) = true := beq_iff_eq.mpr c5
  have c5b1 : (t259.toList != a0_1.toList) = false := bne_eq_false_iff_eq.mpr c5
  clear c5
  (first | rw [c5b0] | (simp only [i64_w, i32_w]; rw [c5b0]) | skip)
  replace H := Option.bind_eq_some_iff.mp H
  obtain ⟨t260, A60, H⟩ := H
  replace H : (rational_Valid.j0 k (t260.toList != a0_2.toList) a0_0 a0_1 a0_2) = some r := H
  have A6 := Aside0.mk A60
  clear A60
  have H' := Aside0.mk H
  clear H
  have hcz7_0 : w3.cell? ⟨gb258, 0, none⟩ = some (.bool a0_0) := (blk_cell BK258.out 0).trans rfl
  have hcz7_1 : w3.cell? ⟨gb258, 1, none⟩ = some (.string a0_1) := (blk_cell BK258.out 1).trans rfl
  have hcz7_2 : w3.cell? ⟨gb258, 2, none⟩ = some (.string a0_2) := (blk_cell BK258.out 2).trans rfl
  have hfz7_0 := blk_frozen BK258.out 0
  have hfz7_1 := blk_frozen BK258.out 1
  have hfz7_2 := blk_frozen BK258.out 2
  go_wp2_with (first | (go_at_call 44; (with_reducible refine (natural_Normalize.calls a0_1 t259 _ A4.out).mono ?_); rintro e w' ⟨rfl, ⟨nd, rfl⟩⟩; (try first | exact ⟨rfl, _, World.drewN_drewN _ _ _⟩ | exact ⟨rfl, _, Eq.trans (World.drewN_drewN _ _ _) (congrArg (World.drewN _) (Nat.add_assoc _ _ _))⟩)) | (go_at_call 44; (with_reducible refine (natural_Normalize.calls a0_2 t260 _ A6.out).mono ?_); rintro e w' ⟨rfl, ⟨nd, rfl⟩⟩; (try first | exact ⟨rfl, _, World.drewN_drewN _ _ _⟩ | exact ⟨rfl, _, Eq.trans (World.drewN_drewN _ _ _) (congrArg (World.drewN _) (Nat.add_assoc _ _ _))⟩)))
  repeat (go_quiet (first | (go_at_call 44; (with_reducible refine (natural_Normalize.calls a0_1 t259 _ A4.out).mono ?_); rintro e w' ⟨rfl, ⟨nd, rfl⟩⟩; (try first | exact ⟨rfl, _, World.drewN_drewN _ _ _⟩ | exact ⟨rfl, _, Eq.trans (World.drewN_drewN _ _ _) (congrArg (World.drewN _) (Nat.add_assoc _ _ _))⟩)) | (go_at_call 44; (with_reducible refine (natural_Normalize.calls a0_2 t260 _ A6.out).mono ?_); rintro e w' ⟨rfl, ⟨nd, rfl⟩⟩; (try first | exact ⟨rfl, _, World.drewN_drewN _ _ _⟩ | exact ⟨rfl, _, Eq.trans (World.drewN_drewN _ _ _) (congrArg (World.drewN _) (Nat.add_assoc _ _ _))⟩))); try go_wp2_with (first | (go_at_call 44; (with_reducible refine (natural_Normalize.calls a0_1 t259 _ A4.out).mono ?_); rintro e w' ⟨rfl, ⟨nd, rfl⟩⟩; (try first | exact ⟨rfl, _, World.drewN_drewN _ _ _⟩ | exact ⟨rfl, _, Eq.trans (World.drewN_drewN _ _ _) (congrArg (World.drewN _) (Nat.add_assoc _ _ _))⟩)) | (go_at_call 44; (with_reducible refine (natural_Normalize.calls a0_2 t260 _ A6.out).mono ?_); rintro e w' ⟨rfl, ⟨nd, rfl⟩⟩; (try first | exact ⟨rfl, _, World.drewN_drewN _ _ _⟩ | exact ⟨rfl, _, Eq.trans (World.drewN_drewN _ _ _) (congrArg (World.drewN _) (Nat.add_assoc _ _ _))⟩))))
  go_meet
  case rel => exact ⟨_, ((t260.toList != a0_2.toList)), (by first | rfl | (simp; done) | (simp [*]; done)), H', ⟨by first | omega | exact Nat.le_refl _⟩, ⟨by (with_reducible repeat (first | refine blk_drewN ?_ _ | refine blk_drew ?_ | refine blk_alloc ?_ _)); exact BK258.out⟩, ⟨by repeat (first | (with_reducible first | exact HB.out | apply below_alloc | apply pw_below_drewN | apply below_drew1 | refine below_set ?_ GE258.out) | exact HB.out)⟩⟩
 case rest =>
  clear HC2
  try clear p2
  try clear c5
  try clear c5b0
  try clear c5b1
  try clear c6
  try clear hcz7_0
  try clear hcz7_1
  try clear hcz7_2
  try clear hcz8_0
  try clear hcz8_1
  try clear hcz8_2
  try clear hfz7_0
  try clear hfz7_1
  try clear hfz7_2
  try clear hfz8_0
  try clear hfz8_1
  try clear hfz8_2
  obtain ⟨kq, x16_1, rfl, HA, HJ1, BK258, HB⟩ := hcut
  cases kq with
  | zero => exact absurd HA.out (by simp [rational_Valid.j0])
  | succ kj1 =>
   have H := HA.out
   clear HA
   simp only [rational_Valid.j0] at H
   by_cases c9 : x16_1 = true
   ·subst c9
    have H1 : (some false) = some r := by rw [if_pos rfl] at H; exact H
    clear H
    have H := H1
    clear H1
    obtain rfl := Option.some.inj H
    go_wp2
    go_ret
    exact ⟨by first | rfl | (simp [errW_none, errW_some] <;> rfl) | (simp [*, errW_none, errW_some] <;> rfl), by repeat (first | (with_reducible first | exact HB.out | apply below_alloc | apply pw_below_drewN | apply below_drew1 | refine below_set ?_ GE258.out) | exact HB.out)⟩
   replace c9 := Bool.eq_false_iff.mpr c9
   subst c9
   have H1 : (if a0_1.toList = ([] : List UInt8) then (if a0_0 = true then (some false) else (some (a0_2.toList == ([] : List UInt8)))) else (if a0_2.toList = ([] : List UInt8) then (some true) else (if a0_2.toList = ([1] : List UInt8) then (some false) else ((natural_GCD.f kj1 a0_1 a0_2).bind fun t261 => (some (t261.toList == ([1] : List UInt8))))))) = some r := by rw [if_neg (show ¬ (false = true) by decide)] at H; exact H
   clear H
   have H := H1
   clear H1
   by_cases c10 : a0_1.toList = ([] : List UInt8)
   ·rw [if_pos c10] at H
    have c10b0 : (a0_1.toList == ([] : List UInt8)) = true := beq_iff_eq.mpr c10
    have c10b1 : (a0_1.toList != ([] : List UInt8)) = false := bne_eq_false_iff_eq.mpr c10
    clear c10
    by_cases c11 : a0_0 = true
    ·subst c11
     have H1 : (some false) = some r := by rw [if_pos rfl] at H; exact H
     clear H
     have H := H1
     clear H1
     obtain rfl := Option.some.inj H
     have hcz12_0 : wc.cell? ⟨gb258, 0, none⟩ = some (.bool true) := (blk_cell BK258.out 0).trans rfl
     have hcz12_1 : wc.cell? ⟨gb258, 1, none⟩ = some (.string a0_1) := (blk_cell BK258.out 1).trans rfl
     have hcz12_2 : wc.cell? ⟨gb258, 2, none⟩ = some (.string a0_2) := (blk_cell BK258.out 2).trans rfl
     have hfz12_0 := blk_frozen BK258.out 0
     have hfz12_1 := blk_frozen BK258.out 1
     have hfz12_2 := blk_frozen BK258.out 2
     go_wp2
     go_ret
     exact ⟨by first | rfl | (simp [errW_none, errW_some] <;> rfl) | (simp [*, errW_none, errW_some] <;> rfl), by repeat (first | (with_reducible first | exact HB.out | apply below_alloc | apply pw_below_drewN | apply below_drew1 | refine below_set ?_ GE258.out) | exact HB.out)⟩
    replace c11 := Bool.eq_false_iff.mpr c11
    subst c11
    have H1 : (some (a0_2.toList == ([] : List UInt8))) = some r := by rw [if_neg (show ¬ (false = true) by decide)] at H; exact H
    clear H
    have H := H1
    clear H1
    obtain rfl := Option.some.inj H
    have hcz13_0 : wc.cell? ⟨gb258, 0, none⟩ = some (.bool false) := (blk_cell BK258.out 0).trans rfl
    have hcz13_1 : wc.cell? ⟨gb258, 1, none⟩ = some (.string a0_1) := (blk_cell BK258.out 1).trans rfl
    have hcz13_2 : wc.cell? ⟨gb258, 2, none⟩ = some (.string a0_2) := (blk_cell BK258.out 2).trans rfl
    have hfz13_0 := blk_frozen BK258.out 0
    have hfz13_1 := blk_frozen BK258.out 1
    have hfz13_2 := blk_frozen BK258.out 2
    go_wp2
    go_ret
    exact ⟨by first | rfl | (simp [errW_none, errW_some] <;> rfl) | (simp [*, errW_none, errW_some] <;> rfl), by repeat (first | (with_reducible first | exact HB.out | apply below_alloc | apply pw_below_drewN | apply below_drew1 | refine below_set ?_ GE258.out) | exact HB.out)⟩
   rw [if_neg c10] at H
   have c10b0 : (a0_1.toList == ([] : List UInt8)) = false := beq_eq_false_iff_ne.mpr c10
   have c10b1 : (a0_1.toList != ([] : List UInt8)) = true := bne_iff_ne.mpr c10
   by_cases c14 : a0_2.toList = ([] : List UInt8)
   ·rw [if_pos c14] at H
    have c14b0 : (a0_2.toList == ([] : List UInt8)) = true := beq_iff_eq.mpr c14
    have c14b1 : (a0_2.toList != ([] : List UInt8)) = false := bne_eq_false_iff_eq.mpr c14
    clear c14
    obtain rfl := Option.some.inj H
    have hcz15_0 : wc.cell? ⟨gb258, 0, none⟩ = some (.bool a0_0) := (blk_cell BK258.out 0).trans rfl
    have hcz15_1 : wc.cell? ⟨gb258, 1, none⟩ = some (.string a0_1) := (blk_cell BK258.out 1).trans rfl
    have hcz15_2 : wc.cell? ⟨gb258, 2, none⟩ = some (.string a0_2) := (blk_cell BK258.out 2).trans rfl
    have hfz15_0 := blk_frozen BK258.out 0
    have hfz15_1 := blk_frozen BK258.out 1
    have hfz15_2 := blk_frozen BK258.out 2
    go_wp2
    go_ret
    exact ⟨by first | rfl | (simp [errW_none, errW_some] <;> rfl) | (simp [*, errW_none, errW_some] <;> rfl), by repeat (first | (with_reducible first | exact HB.out | apply below_alloc | apply pw_below_drewN | apply below_drew1 | refine below_set ?_ GE258.out) | exact HB.out)⟩
   rw [if_neg c14] at H
   have c14b0 : (a0_2.toList == ([] : List UInt8)) = false := beq_eq_false_iff_ne.mpr c14
   have c14b1 : (a0_2.toList != ([] : List UInt8)) = true := bne_iff_ne.mpr c14
   by_cases c16 : a0_2.toList = ([1] : List UInt8)
   ·rw [if_pos c16] at H
    have c16b0 : (a0_2.toList == ([1] : List UInt8)) = true := beq_iff_eq.mpr c16
    have c16b1 : (a0_2.toList != ([1] : List UInt8)) = false := bne_eq_false_iff_eq.mpr c16
    clear c16
    obtain rfl := Option.some.inj H
    have hcz17_0 : wc.cell? ⟨gb258, 0, none⟩ = some (.bool a0_0) := (blk_cell BK258.out 0).trans rfl
    have hcz17_1 : wc.cell? ⟨gb258, 1, none⟩ = some (.string a0_1) := (blk_cell BK258.out 1).trans rfl
    have hcz17_2 : wc.cell? ⟨gb258, 2, none⟩ = some (.string a0_2) := (blk_cell BK258.out 2).trans rfl
    have hfz17_0 := blk_frozen BK258.out 0
    have hfz17_1 := blk_frozen BK258.out 1
    have hfz17_2 := blk_frozen BK258.out 2
    go_wp2
    go_ret
    exact ⟨by first | rfl | (simp [errW_none, errW_some] <;> rfl) | (simp [*, errW_none, errW_some] <;> rfl), by repeat (first | (with_reducible first | exact HB.out | apply below_alloc | apply pw_below_drewN | apply below_drew1 | refine below_set ?_ GE258.out) | exact HB.out)⟩
   rw [if_neg c16] at H
   have c16b0 : (a0_2.toList == ([1] : List UInt8)) = false := beq_eq_false_iff_ne.mpr c16
   have c16b1 : (a0_2.toList != ([1] : List UInt8)) = true := bne_iff_ne.mpr c16
   replace H := Option.bind_eq_some_iff.mp H
   obtain ⟨t261, A180, H⟩ := H
   replace H : (some (t261.toList == ([1] : List UInt8))) = some r := H
   have A18 := Aside0.mk A180
   clear A180
   obtain rfl := Option.some.inj H
   have hcz19_0 : wc.cell? ⟨gb258, 0, none⟩ = some (.bool a0_0) := (blk_cell BK258.out 0).trans rfl
   have hcz19_1 : wc.cell? ⟨gb258, 1, none⟩ = some (.string a0_1) := (blk_cell BK258.out 1).trans rfl
   have hcz19_2 : wc.cell? ⟨gb258, 2, none⟩ = some (.string a0_2) := (blk_cell BK258.out 2).trans rfl
   have hfz19_0 := blk_frozen BK258.out 0
   have hfz19_1 := blk_frozen BK258.out 1
   have hfz19_2 := blk_frozen BK258.out 2
   go_wp2_with (first | (go_at_call 45; (with_reducible refine (natural_GCD.calls kj1 a0_1 a0_2 t261 _ A18.out).mono ?_); rintro e w20 ⟨rfl, hb⟩; have n0_ := Aside0.mk (blk_below (g := gb258) (o := .cells #[.bool a0_0, .string a0_1, .string a0_2] 30 (0, 0)) (by (with_reducible repeat (first | refine blk_drewN ?_ _ | refine blk_drew ?_ | refine blk_alloc ?_ _)); exact BK258.out) hb); have n1_ := Aside0.mk (below_step (by repeat (first | (with_reducible first | exact HB.out | apply below_alloc | apply pw_below_drewN | apply below_drew1 | refine below_set ?_ GE258.out) | exact HB.out)) hb); clear BK258; clear HB; have BK258 := n0_; have HB := n1_; clear n0_ n1_; (try clear hb); (try clear hb2); (try clear hk); (try clear hi)))
   go_ret
   exact ⟨by first | rfl | (simp [errW_none, errW_some] <;> rfl) | (simp [*, errW_none, errW_some] <;> rfl), by repeat (first | (with_reducible first | exact HB.out | apply below_alloc | apply pw_below_drewN | apply below_drew1 | refine below_set ?_ GE258.out) | exact HB.out)⟩
end Go.Proofs.YtfnfjmeiaamheaaDoor.PA
namespace Go.Proofs.YtfnfjmeiaamheaaDoor.PA
open Go.RowKit Go.Proofs.YtfnfjmeiaamheaaDoorW.PrintWords Go.Proofs.YtfnfjmeiaamheaaDoorW.PrintLast Go.Proofs.YtfnfjmeiaamheaaDoorW.PrintMore
attribute [local go_sem] max2_int min2_int max_two min_two max_three min_three max_four min_four
def rational_clean.f (k : Nat) (a0_0 : Bool) (a0_1 : ByteArray) (a0_2 : ByteArray) : Option (Bool × ByteArray × ByteArray) := (rational_Valid.f k a0_0 a0_1 a0_2).bind fun t264 => (if t264 = true then (some (a0_0, a0_1, a0_2)) else (some (false, (⟨#[]⟩ : ByteArray), (⟨#[]⟩ : ByteArray))))
theorem rational_clean.mono : ∀ a0 a1 a2 k, LeO (rational_clean.f k a0 a1 a2) (rational_clean.f (k + 1) a0 a1 a2) := by
 intro a0 a1 a2 k
 unfold rational_clean.f
 repeat' first
  | (with_reducible exact rational_Valid.mono _ _ _ _)
  | (with_reducible exact LeO.refl _)
  | (with_reducible exact LeO.none _)
  | (with_reducible refine LeO.ite ?_ ?_)
  | (with_reducible refine LeO.bind ?_ (fun _ => ?_))
  | exact rational_Valid.mono _ _ _ _
  | exact LeO.none _
  | refine LeO.ite ?_ ?_
  | refine LeO.bind ?_ (fun _ => ?_)
set_option maxHeartbeats 8000000 in
set_option maxRecDepth 100000 in
theorem rational_clean.calls (k : Nat) (a0_0 : Bool) (a0_1 : ByteArray) (a0_2 : ByteArray) (r1 : Bool) (r2 : ByteArray) (r3 : ByteArray) (w : World) (h : rational_clean.f k a0_0 a0_1 a0_2 = some (r1, r2, r3)) :
  Calls Tryd.prog 42 #[.agg #[.bool a0_0, .string a0_1, .string a0_2]] w fun e w' => e = .returned (.agg #[.bool r1, .string r2, .string r3]) ∧ Below w.heap.size w w' := by
 have hu30 := Tryd.underlying30
 have HB := Aside0.mk (Below.refl w.heap.size w)
 have H : ((rational_Valid.f k a0_0 a0_1 a0_2).bind fun t264 => (if t264 = true then (some (a0_0, a0_1, a0_2)) else (some (false, (⟨#[]⟩ : ByteArray), (⟨#[]⟩ : ByteArray))))) = some (r1, r2, r3) := h
 clear h
 replace H := Option.bind_eq_some_iff.mp H
 obtain ⟨t264, A20, H⟩ := H
 replace H : (if t264 = true then (some (a0_0, a0_1, a0_2)) else (some (false, (⟨#[]⟩ : ByteArray), (⟨#[]⟩ : ByteArray)))) = some (r1, r2, r3) := H
 have A2 := Aside0.mk A20
 clear A20
 by_cases c3 : t264 = true
 rotate_left
 ·replace c3 := Bool.eq_false_iff.mpr c3
  subst c3
  have H1 : (some (false, (⟨#[]⟩ : ByteArray), (⟨#[]⟩ : ByteArray))) = some (r1, r2, r3) := by rw [if_neg (show ¬ (false = true) by decide)] at H; exact H
  clear H
  have H := H1
  clear H1
  simp only [Option.some.injEq, Prod.mk.injEq] at H
  obtain ⟨rfl, rfl, rfl⟩ := H
  go_enter Tryd.func42, Tryd.ntmps42
  go_wp2_with (first | ((with_reducible refine gate_dst (N := 1) rfl ?_); refine box_event ?hg (N := 1) ?hd (cs := #[.bool a0_0, .string a0_1, .string a0_2]) (t := 30) ?hr ?_; (case hd => rfl); (case hg => rfl); (case hr => first | (go_simp; done) | (go_simp; rfl)); intro gb262 hg w11 hbox hb; have n0_ := Aside0.mk (below_step (by repeat (first | (with_reducible first | exact HB.out | apply below_alloc | apply pw_below_drewN | apply below_drew1) | exact HB.out)) hb); have n1_ := Aside0.mk (hbox); have n2_ := Aside0.mk ((by rw [hg]; exact (below_size (by repeat (first | (with_reducible first | exact HB.out | apply below_alloc | apply pw_below_drewN | apply below_drew1) | exact HB.out))) : w.heap.size ≤ gb262)); have n3_ := Aside0.mk ((by rw [hg]; exact (below_size (by repeat (first | (with_reducible first | exact HB.out | apply below_alloc | apply pw_below_drewN | apply below_drew1) | exact HB.out))) : w.heap.size ≤ gb262)); clear HB; have HB := n0_; have BK262 := n1_; have GW262 := n2_; have GE262 := n3_; clear n0_ n1_ n2_ n3_; clear hb hbox hg) | ((with_reducible refine gate_dst (N := 2) rfl ?_); refine box_event ?hg (N := 2) ?hd (cs := #[.bool false, .string (⟨#[]⟩ : ByteArray), .string (⟨#[]⟩ : ByteArray)]) (t := 30) ?hr ?_; (case hd => rfl); (case hg => rfl); (case hr => first | (go_simp; done) | (go_simp; rfl)); intro gb263 hg w12 hbox hb; have n0_ := Aside0.mk (blk_below (g := gb262) (o := .cells #[.bool a0_0, .string a0_1, .string a0_2] 30 (0, 0)) (by (with_reducible repeat (first | refine blk_drewN ?_ _ | refine blk_drew ?_ | refine blk_alloc ?_ _)); exact BK262.out) hb); have n1_ := Aside0.mk (below_step (by repeat (first | (with_reducible first | exact HB.out | apply below_alloc | apply pw_below_drewN | apply below_drew1 | refine below_set ?_ GE262.out) | exact HB.out)) hb); have n2_ := Aside0.mk (hbox); have n3_ := Aside0.mk ((by rw [hg]; exact (below_size (by repeat (first | (with_reducible first | exact HB.out | apply below_alloc | apply pw_below_drewN | apply below_drew1 | refine below_set ?_ GE262.out) | exact HB.out))) : w.heap.size ≤ gb263)); have n4_ := Aside0.mk ((by rw [hg]; exact (below_size (by repeat (first | (with_reducible first | exact HB.out | apply below_alloc | apply pw_below_drewN | apply below_drew1 | refine below_set ?_ GE262.out) | exact HB.out))) : w.heap.size ≤ gb263)); have n5_ := Aside0.mk ((by rw [hg]; exact Nat.ne_of_lt (blk_lt (g := gb262) (o := .cells #[.bool a0_0, .string a0_1, .string a0_2] 30 (0, 0)) (by (with_reducible repeat (first | refine blk_drewN ?_ _ | refine blk_drew ?_ | refine blk_alloc ?_ _)); exact BK262.out)) : gb262 ≠ gb263)); have n6_ := Aside0.mk ((by rw [hg]; exact Nat.ne_of_gt (blk_lt (g := gb262) (o := .cells #[.bool a0_0, .string a0_1, .string a0_2] 30 (0, 0)) (by (with_reducible repeat (first | refine blk_drewN ?_ _ | refine blk_drew ?_ | refine blk_alloc ?_ _)); exact BK262.out)) : gb263 ≠ gb262)); clear BK262; clear HB; have BK262 := n0_; have HB := n1_; have BK263 := n2_; have GW263 := n3_; have GE263 := n4_; have NB262_263 := n5_; have NB263_262 := n6_; clear n0_ n1_ n2_ n3_ n4_ n5_ n6_; clear hb hbox hg; have hnb13 := NB262_263.out; have hnc13 := NB263_262.out; have hcz14_0 : w12.cell? ⟨gb262, 0, none⟩ = some (.bool a0_0) := (blk_cell BK262.out 0).trans rfl; have hcz14_1 : w12.cell? ⟨gb262, 1, none⟩ = some (.string a0_1) := (blk_cell BK262.out 1).trans rfl; have hcz14_2 : w12.cell? ⟨gb262, 2, none⟩ = some (.string a0_2) := (blk_cell BK262.out 2).trans rfl; have hfz14_0 := blk_frozen BK262.out 0; have hfz14_1 := blk_frozen BK262.out 1; have hfz14_2 := blk_frozen BK262.out 2) | ((with_reducible refine gate_callee (f := 60) rfl ?_); refine goesL_ (some 4) rfl rfl Tryd.func60 (by kernel_rfl) rfl #[.agg #[.bool a0_0, .string a0_1, .string a0_2]] rfl (by (try simp only [List.map_toArray, List.map_cons, List.map_nil]); first | done | rfl | (simp only [List.length_drop, List.length_take]; rfl)) ?_; (with_reducible refine (rational_Valid.calls k a0_0 a0_1 a0_2 false _ A2.out).mono ?_); rintro e w15 ⟨rfl, hb⟩; refine ⟨_, rfl, ?_⟩; have n0_ := Aside0.mk (blk_below (g := gb262) (o := .cells #[.bool a0_0, .string a0_1, .string a0_2] 30 (0, 0)) (by (with_reducible repeat (first | refine blk_drewN ?_ _ | refine blk_drew ?_ | refine blk_alloc ?_ _)); exact BK262.out) hb); have n1_ := Aside0.mk (blk_below (g := gb263) (o := .cells #[.bool false, .string (⟨#[]⟩ : ByteArray), .string (⟨#[]⟩ : ByteArray)] 30 (0, 0)) (by (with_reducible repeat (first | refine blk_drewN ?_ _ | refine blk_drew ?_ | refine blk_alloc ?_ _)); exact BK263.out) hb); have n2_ := Aside0.mk (below_step (by repeat (first | (with_reducible first | exact HB.out | apply below_alloc | apply pw_below_drewN | apply below_drew1 | refine below_set ?_ GE262.out | refine below_set ?_ GE263.out) | exact HB.out)) hb); clear BK262; clear BK263; clear HB; have BK262 := n0_; have BK263 := n1_; have HB := n2_; clear n0_ n1_ n2_; (try clear hb); (try clear hb2); (try clear hk); (try clear hi); have hcz16_0 : w15.cell? ⟨gb263, 0, none⟩ = some (.bool false) := (blk_cell BK263.out 0).trans rfl; have hcz16_1 : w15.cell? ⟨gb263, 1, none⟩ = some (.string (⟨#[]⟩ : ByteArray)) := (blk_cell BK263.out 1).trans rfl; have hcz16_2 : w15.cell? ⟨gb263, 2, none⟩ = some (.string (⟨#[]⟩ : ByteArray)) := (blk_cell BK263.out 2).trans rfl; have hfz16_0 := blk_frozen BK263.out 0; have hfz16_1 := blk_frozen BK263.out 1; have hfz16_2 := blk_frozen BK263.out 2))
  refine bodyPost_ret (results_cell_row rfl _ _ gb263 30 #[.bool false, .string (⟨#[]⟩ : ByteArray), .string (⟨#[]⟩ : ByteArray)] (0, 0) _ rfl (by (with_reducible repeat (first | refine blk_drewN ?_ _ | refine blk_drew ?_ | refine blk_alloc ?_ _)); refine blk_put (cs := #[.bool false, .string (⟨#[]⟩ : ByteArray), .string (⟨#[]⟩ : ByteArray)]) ?_ 2 _ rfl; (with_reducible repeat (first | refine blk_drewN ?_ _ | refine blk_drew ?_ | refine blk_alloc ?_ _)); refine blk_put (cs := #[.bool false, .string (⟨#[]⟩ : ByteArray), .string (⟨#[]⟩ : ByteArray)]) ?_ 1 _ rfl; (with_reducible repeat (first | refine blk_drewN ?_ _ | refine blk_drew ?_ | refine blk_alloc ?_ _)); refine blk_put (cs := #[.bool false, .string (⟨#[]⟩ : ByteArray), .string (⟨#[]⟩ : ByteArray)]) ?_ 0 _ rfl; (with_reducible repeat (first | refine blk_drewN ?_ _ | refine blk_drew ?_ | refine blk_alloc ?_ _)); exact BK263.out) Tryd.underlying30 rfl (by kernel_rfl)) rfl ?_
  exact ⟨by first | rfl | (simp [errW_none, errW_some] <;> rfl) | (simp [*, errW_none, errW_some] <;> rfl), by repeat (first | (with_reducible first | exact HB.out | apply below_alloc | apply pw_below_drewN | apply below_drew1 | refine below_set ?_ GE262.out | refine below_set ?_ GE263.out) | exact HB.out)⟩
 subst c3
 have H1 : (some (a0_0, a0_1, a0_2)) = some (r1, r2, r3) := by rw [if_pos rfl] at H; exact H
 clear H
 have H := H1
 clear H1
 simp only [Option.some.injEq, Prod.mk.injEq] at H
 obtain ⟨rfl, rfl, rfl⟩ := H
 go_enter Tryd.func42, Tryd.ntmps42
 go_wp2_with (first | ((with_reducible refine gate_dst (N := 1) rfl ?_); refine box_event ?hg (N := 1) ?hd (cs := #[.bool a0_0, .string a0_1, .string a0_2]) (t := 30) ?hr ?_; (case hd => rfl); (case hg => rfl); (case hr => first | (go_simp; done) | (go_simp; rfl)); intro gb262 hg w4 hbox hb; have n0_ := Aside0.mk (below_step (by repeat (first | (with_reducible first | exact HB.out | apply below_alloc | apply pw_below_drewN | apply below_drew1) | exact HB.out)) hb); have n1_ := Aside0.mk (hbox); have n2_ := Aside0.mk ((by rw [hg]; exact (below_size (by repeat (first | (with_reducible first | exact HB.out | apply below_alloc | apply pw_below_drewN | apply below_drew1) | exact HB.out))) : w.heap.size ≤ gb262)); have n3_ := Aside0.mk ((by rw [hg]; exact (below_size (by repeat (first | (with_reducible first | exact HB.out | apply below_alloc | apply pw_below_drewN | apply below_drew1) | exact HB.out))) : w.heap.size ≤ gb262)); clear HB; have HB := n0_; have BK262 := n1_; have GW262 := n2_; have GE262 := n3_; clear n0_ n1_ n2_ n3_; clear hb hbox hg) | ((with_reducible refine gate_dst (N := 2) rfl ?_); refine box_event ?hg (N := 2) ?hd (cs := #[.bool false, .string (⟨#[]⟩ : ByteArray), .string (⟨#[]⟩ : ByteArray)]) (t := 30) ?hr ?_; (case hd => rfl); (case hg => rfl); (case hr => first | (go_simp; done) | (go_simp; rfl)); intro gb263 hg w5 hbox hb; have n0_ := Aside0.mk (blk_below (g := gb262) (o := .cells #[.bool a0_0, .string a0_1, .string a0_2] 30 (0, 0)) (by (with_reducible repeat (first | refine blk_drewN ?_ _ | refine blk_drew ?_ | refine blk_alloc ?_ _)); exact BK262.out) hb); have n1_ := Aside0.mk (below_step (by repeat (first | (with_reducible first | exact HB.out | apply below_alloc | apply pw_below_drewN | apply below_drew1 | refine below_set ?_ GE262.out) | exact HB.out)) hb); have n2_ := Aside0.mk (hbox); have n3_ := Aside0.mk ((by rw [hg]; exact (below_size (by repeat (first | (with_reducible first | exact HB.out | apply below_alloc | apply pw_below_drewN | apply below_drew1 | refine below_set ?_ GE262.out) | exact HB.out))) : w.heap.size ≤ gb263)); have n4_ := Aside0.mk ((by rw [hg]; exact (below_size (by repeat (first | (with_reducible first | exact HB.out | apply below_alloc | apply pw_below_drewN | apply below_drew1 | refine below_set ?_ GE262.out) | exact HB.out))) : w.heap.size ≤ gb263)); have n5_ := Aside0.mk ((by rw [hg]; exact Nat.ne_of_lt (blk_lt (g := gb262) (o := .cells #[.bool a0_0, .string a0_1, .string a0_2] 30 (0, 0)) (by (with_reducible repeat (first | refine blk_drewN ?_ _ | refine blk_drew ?_ | refine blk_alloc ?_ _)); exact BK262.out)) : gb262 ≠ gb263)); have n6_ := Aside0.mk ((by rw [hg]; exact Nat.ne_of_gt (blk_lt (g := gb262) (o := .cells #[.bool a0_0, .string a0_1, .string a0_2] 30 (0, 0)) (by (with_reducible repeat (first | refine blk_drewN ?_ _ | refine blk_drew ?_ | refine blk_alloc ?_ _)); exact BK262.out)) : gb263 ≠ gb262)); clear BK262; clear HB; have BK262 := n0_; have HB := n1_; have BK263 := n2_; have GW263 := n3_; have GE263 := n4_; have NB262_263 := n5_; have NB263_262 := n6_; clear n0_ n1_ n2_ n3_ n4_ n5_ n6_; clear hb hbox hg; have hnb6 := NB262_263.out; have hnc6 := NB263_262.out; have hcz7_0 : w5.cell? ⟨gb262, 0, none⟩ = some (.bool a0_0) := (blk_cell BK262.out 0).trans rfl; have hcz7_1 : w5.cell? ⟨gb262, 1, none⟩ = some (.string a0_1) := (blk_cell BK262.out 1).trans rfl; have hcz7_2 : w5.cell? ⟨gb262, 2, none⟩ = some (.string a0_2) := (blk_cell BK262.out 2).trans rfl; have hfz7_0 := blk_frozen BK262.out 0; have hfz7_1 := blk_frozen BK262.out 1; have hfz7_2 := blk_frozen BK262.out 2) | ((with_reducible refine gate_callee (f := 60) rfl ?_); refine goesL_ (some 4) rfl rfl Tryd.func60 (by kernel_rfl) rfl #[.agg #[.bool a0_0, .string a0_1, .string a0_2]] rfl (by (try simp only [List.map_toArray, List.map_cons, List.map_nil]); first | done | rfl | (simp only [List.length_drop, List.length_take]; rfl)) ?_; (with_reducible refine (rational_Valid.calls k a0_0 a0_1 a0_2 true _ A2.out).mono ?_); rintro e w8 ⟨rfl, hb⟩; refine ⟨_, rfl, ?_⟩; have n0_ := Aside0.mk (blk_below (g := gb262) (o := .cells #[.bool a0_0, .string a0_1, .string a0_2] 30 (0, 0)) (by (with_reducible repeat (first | refine blk_drewN ?_ _ | refine blk_drew ?_ | refine blk_alloc ?_ _)); exact BK262.out) hb); have n1_ := Aside0.mk (blk_below (g := gb263) (o := .cells #[.bool false, .string (⟨#[]⟩ : ByteArray), .string (⟨#[]⟩ : ByteArray)] 30 (0, 0)) (by (with_reducible repeat (first | refine blk_drewN ?_ _ | refine blk_drew ?_ | refine blk_alloc ?_ _)); exact BK263.out) hb); have n2_ := Aside0.mk (below_step (by repeat (first | (with_reducible first | exact HB.out | apply below_alloc | apply pw_below_drewN | apply below_drew1 | refine below_set ?_ GE262.out | refine below_set ?_ GE263.out) | exact HB.out)) hb); clear BK262; clear BK263; clear HB; have BK262 := n0_; have BK263 := n1_; have HB := n2_; clear n0_ n1_ n2_; (try clear hb); (try clear hb2); (try clear hk); (try clear hi); have hcz9_0 : w8.cell? ⟨gb262, 0, none⟩ = some (.bool a0_0) := (blk_cell BK262.out 0).trans rfl; have hcz9_1 : w8.cell? ⟨gb262, 1, none⟩ = some (.string a0_1) := (blk_cell BK262.out 1).trans rfl; have hcz9_2 : w8.cell? ⟨gb262, 2, none⟩ = some (.string a0_2) := (blk_cell BK262.out 2).trans rfl; have hfz9_0 := blk_frozen BK262.out 0; have hfz9_1 := blk_frozen BK262.out 1; have hfz9_2 := blk_frozen BK262.out 2; have hcz10_0 : w8.cell? ⟨gb263, 0, none⟩ = some (.bool false) := (blk_cell BK263.out 0).trans rfl; have hcz10_1 : w8.cell? ⟨gb263, 1, none⟩ = some (.string (⟨#[]⟩ : ByteArray)) := (blk_cell BK263.out 1).trans rfl; have hcz10_2 : w8.cell? ⟨gb263, 2, none⟩ = some (.string (⟨#[]⟩ : ByteArray)) := (blk_cell BK263.out 2).trans rfl; have hfz10_0 := blk_frozen BK263.out 0; have hfz10_1 := blk_frozen BK263.out 1; have hfz10_2 := blk_frozen BK263.out 2))
 refine bodyPost_ret (results_cell_row rfl _ _ gb263 30 #[.bool a0_0, .string a0_1, .string a0_2] (0, 0) _ rfl (by (with_reducible repeat (first | refine blk_drewN ?_ _ | refine blk_drew ?_ | refine blk_alloc ?_ _)); refine blk_put (cs := #[.bool a0_0, .string a0_1, .string (⟨#[]⟩ : ByteArray)]) ?_ 2 _ rfl; (with_reducible repeat (first | refine blk_drewN ?_ _ | refine blk_drew ?_ | refine blk_alloc ?_ _)); refine blk_put (cs := #[.bool a0_0, .string (⟨#[]⟩ : ByteArray), .string (⟨#[]⟩ : ByteArray)]) ?_ 1 _ rfl; (with_reducible repeat (first | refine blk_drewN ?_ _ | refine blk_drew ?_ | refine blk_alloc ?_ _)); refine blk_put (cs := #[.bool false, .string (⟨#[]⟩ : ByteArray), .string (⟨#[]⟩ : ByteArray)]) ?_ 0 _ rfl; (with_reducible repeat (first | refine blk_drewN ?_ _ | refine blk_drew ?_ | refine blk_alloc ?_ _)); exact BK263.out) Tryd.underlying30 rfl (by kernel_rfl)) rfl ?_
 exact ⟨by first | rfl | (simp [errW_none, errW_some] <;> rfl) | (simp [*, errW_none, errW_some] <;> rfl), by repeat (first | (with_reducible first | exact HB.out | apply below_alloc | apply pw_below_drewN | apply below_drew1 | refine below_set ?_ GE262.out | refine below_set ?_ GE263.out) | exact HB.out)⟩
end Go.Proofs.YtfnfjmeiaamheaaDoor.PA
namespace Go.Proofs.YtfnfjmeiaamheaaDoor.PA
open Go.RowKit Go.Proofs.YtfnfjmeiaamheaaDoorW.PrintWords Go.Proofs.YtfnfjmeiaamheaaDoorW.PrintLast Go.Proofs.YtfnfjmeiaamheaaDoorW.PrintMore
attribute [local go_sem] max2_int min2_int max_two min_two max_three min_three max_four min_four
def rational_Sign.f (k : Nat) (a0_0 : Bool) (a0_1 : ByteArray) (a0_2 : ByteArray) : Option (Int) := (rational_clean.f k a0_0 a0_1 a0_2).bind fun bt266 => ((rational_signOf.f bt266.1 bt266.2.1 bt266.2.2).bind fun t269 => (some t269))
theorem rational_Sign.mono : ∀ a0 a1 a2 k, LeO (rational_Sign.f k a0 a1 a2) (rational_Sign.f (k + 1) a0 a1 a2) := by
 intro a0 a1 a2 k
 unfold rational_Sign.f
 repeat' first
  | (with_reducible exact rational_clean.mono _ _ _ _)
  | (with_reducible exact LeO.refl _)
  | (with_reducible exact LeO.none _)
  | (with_reducible refine LeO.ite ?_ ?_)
  | (with_reducible refine LeO.bind ?_ (fun _ => ?_))
  | exact rational_clean.mono _ _ _ _
  | exact LeO.none _
  | refine LeO.ite ?_ ?_
  | refine LeO.bind ?_ (fun _ => ?_)
set_option maxHeartbeats 8000000 in
set_option maxRecDepth 100000 in
theorem rational_Sign.calls (k : Nat) (a0_0 : Bool) (a0_1 : ByteArray) (a0_2 : ByteArray) (r : Int) (w : World) (h : rational_Sign.f k a0_0 a0_1 a0_2 = some r) :
 Calls Tryd.prog 26 #[.agg #[.bool a0_0, .string a0_1, .string a0_2]] w fun e w' => e = .returned (.int .i64 r) ∧ Below w.heap.size w w' := by
 have hu30 := Tryd.underlying30
 have HB := Aside0.mk (Below.refl w.heap.size w)
 have H : ((rational_clean.f k a0_0 a0_1 a0_2).bind fun bt266 => ((rational_signOf.f bt266.1 bt266.2.1 bt266.2.2).bind fun t269 => (some t269))) = some r := h
 clear h
 replace H := Option.bind_eq_some_iff.mp H
 obtain ⟨⟨t266, t267, t268⟩, A20, H⟩ := H
 replace H : ((rational_signOf.f t266 t267 t268).bind fun t269 => (some t269)) = some r := H
 have A2 := Aside0.mk A20
 clear A20
 replace H := Option.bind_eq_some_iff.mp H
 obtain ⟨t269, A30, H⟩ := H
 replace H : (some t269) = some r := H
 have A3 := Aside0.mk A30
 clear A30
 obtain rfl := Option.some.inj H
 go_enter Tryd.func26, Tryd.ntmps26
 go_wp2_with (first | ((with_reducible refine gate_dst (N := 1) rfl ?_); refine box_event ?hg (N := 1) ?hd (cs := #[.bool a0_0, .string a0_1, .string a0_2]) (t := 30) ?hr ?_; (case hd => rfl); (case hg => rfl); (case hr => first | (go_simp; done) | (go_simp; rfl)); intro gb265 hg w4 hbox hb; have n0_ := Aside0.mk (below_step (by repeat (first | (with_reducible first | exact HB.out | apply below_alloc | apply pw_below_drewN | apply below_drew1) | exact HB.out)) hb); have n1_ := Aside0.mk (hbox); have n2_ := Aside0.mk ((by rw [hg]; exact (below_size (by repeat (first | (with_reducible first | exact HB.out | apply below_alloc | apply pw_below_drewN | apply below_drew1) | exact HB.out))) : w.heap.size ≤ gb265)); have n3_ := Aside0.mk ((by rw [hg]; exact (below_size (by repeat (first | (with_reducible first | exact HB.out | apply below_alloc | apply pw_below_drewN | apply below_drew1) | exact HB.out))) : w.heap.size ≤ gb265)); clear HB; have HB := n0_; have BK265 := n1_; have GW265 := n2_; have GE265 := n3_; clear n0_ n1_ n2_ n3_; clear hb hbox hg; have hcz5_0 : w4.cell? ⟨gb265, 0, none⟩ = some (.bool a0_0) := (blk_cell BK265.out 0).trans rfl; have hcz5_1 : w4.cell? ⟨gb265, 1, none⟩ = some (.string a0_1) := (blk_cell BK265.out 1).trans rfl; have hcz5_2 : w4.cell? ⟨gb265, 2, none⟩ = some (.string a0_2) := (blk_cell BK265.out 2).trans rfl; have hfz5_0 := blk_frozen BK265.out 0; have hfz5_1 := blk_frozen BK265.out 1; have hfz5_2 := blk_frozen BK265.out 2) | ((with_reducible refine gate_callee (f := 42) rfl ?_); refine goesL_ (some 4) rfl rfl Tryd.func42 (by kernel_rfl) rfl #[.agg #[.bool a0_0, .string a0_1, .string a0_2]] rfl (by (try simp only [List.map_toArray, List.map_cons, List.map_nil]); first | done | rfl | (simp only [List.length_drop, List.length_take]; rfl)) ?_; (with_reducible refine (rational_clean.calls k a0_0 a0_1 a0_2 t266 t267 t268 _ A2.out).mono ?_); rintro e w6 ⟨rfl, hb⟩; refine ⟨_, rfl, ?_⟩; have n0_ := Aside0.mk (blk_below (g := gb265) (o := .cells #[.bool a0_0, .string a0_1, .string a0_2] 30 (0, 0)) (by (with_reducible repeat (first | refine blk_drewN ?_ _ | refine blk_drew ?_ | refine blk_alloc ?_ _)); exact BK265.out) hb); have n1_ := Aside0.mk (below_step (by repeat (first | (with_reducible first | exact HB.out | apply below_alloc | apply pw_below_drewN | apply below_drew1 | refine below_set ?_ GE265.out) | exact HB.out)) hb); clear BK265; clear HB; have BK265 := n0_; have HB := n1_; clear n0_ n1_; (try clear hb); (try clear hb2); (try clear hk); (try clear hi)) | ((with_reducible refine gate_callee (f := 41) rfl ?_); refine goesL_ (some 5) rfl rfl Tryd.func41 (by kernel_rfl) rfl #[.agg #[.bool t266, .string t267, .string t268]] rfl (by (try simp only [List.map_toArray, List.map_cons, List.map_nil]); first | done | rfl | (simp only [List.length_drop, List.length_take]; rfl)) ?_; (with_reducible refine (rational_signOf.calls t266 t267 t268 t269 _ A3.out).mono ?_); rintro e w7 ⟨rfl, hb⟩; refine ⟨_, rfl, ?_⟩; have n0_ := Aside0.mk (blk_below (g := gb265) (o := .cells #[.bool a0_0, .string a0_1, .string a0_2] 30 (0, 0)) (by (with_reducible repeat (first | refine blk_drewN ?_ _ | refine blk_drew ?_ | refine blk_alloc ?_ _)); exact BK265.out) hb); have n1_ := Aside0.mk (below_step (by repeat (first | (with_reducible first | exact HB.out | apply below_alloc | apply pw_below_drewN | apply below_drew1 | refine below_set ?_ GE265.out) | exact HB.out)) hb); clear BK265; clear HB; have BK265 := n0_; have HB := n1_; clear n0_ n1_; (try clear hb); (try clear hb2); (try clear hk); (try clear hi)))
 go_ret
 exact ⟨by first | rfl | (simp [errW_none, errW_some] <;> rfl) | (simp [*, errW_none, errW_some] <;> rfl), by repeat (first | (with_reducible first | exact HB.out | apply below_alloc | apply pw_below_drewN | apply below_drew1 | refine below_set ?_ GE265.out) | exact HB.out)⟩
end Go.Proofs.YtfnfjmeiaamheaaDoor.PA
namespace Go.Proofs.YtfnfjmeiaamheaaDoor.PA
open Go.RowKit Go.Proofs.YtfnfjmeiaamheaaDoorW.PrintWords Go.Proofs.YtfnfjmeiaamheaaDoorW.PrintLast Go.Proofs.YtfnfjmeiaamheaaDoorW.PrintMore
open Go.Maps (Keyed)
def keyV (q : S33) : Value := .agg #[.string q.f0, .int .i64 q.f1]
def keyL (q : S33) : Lit := .string (keyBytes [.string q.f0.data.toList, .int .i64 q.f1])
def keyOk (q : S33) : Bool := decide (q.f0.size ≤ maxLen) && (Lit.int .i64 q.f1).wf
def hasKey (l : List S33) (q : S33) : Bool := l.any fun p => decide (p.f0 = q.f0) && decide (p.f1 = q.f1)
def currency_isDay_has.f (l0 : List S33) (i : Int) : Option Bool := if (0 ≤ i ∧ i < l0.length) ∧ keyOk (rd_T33 l0 i) = true then some (hasKey (l0.take i.toNat) (rd_T33 l0 i)) else none
theorem has_inv {l0 : List S33} {i : Int} {t : Bool} (h : currency_isDay_has.f l0 i = some t) : keyOk (rd_T33 l0 i) = true ∧ hasKey (l0.take i.toNat) (rd_T33 l0 i) = t ∧ 0 ≤ i ∧ i < l0.length := by
 unfold currency_isDay_has.f at h
 split at h
 ·rename_i hc
  exact ⟨hc.2, Option.some.inj h, hc.1.1, hc.1.2⟩
 cases h
theorem mp_laidOut : laidOutB Tryd.prog = true := by kernel_rfl
theorem mp_row54 : (54 : TypeId) < Tryd.prog.types.size := of_decide_eq_true (by kernel_rfl)
theorem mp_u54 : Tryd.prog.underlying 54 = some (.struct #[{ name := "code", type := 9, offset := 0, embedded := false, tag := "", pkgPath := "insolvency/currency", byteOffset := 0 }, { name := "day", type := 3, offset := 1, embedded := false, tag := "", pkgPath := "insolvency/currency", byteOffset := 16 }]) := by kernel_rfl
theorem mp_u52 : Tryd.prog.underlying 52 = some (.map 54 4) := by kernel_rfl
theorem mp_u4 : Tryd.prog.underlying 4 = some .bool := by kernel_rfl
theorem mp_u9 : Tryd.prog.underlying 9 = some .string := by kernel_rfl
theorem mp_u3 : Tryd.prog.underlying 3 = some (.int .i64) := by kernel_rfl
theorem mp_wide : (match Tryd.prog.underlying 54 with | some (.array _ _) | some (.struct _) => true | _ => false) = true := by rw [mp_u54]
set_option maxRecDepth 100000 in
theorem mp_keyed : Keyed Tryd.prog 54 := Keyed.of_law (deep_law_laid mp_laidOut (m := 2) (by omega) mp_row54 (by kernel_rfl) mp_wide)
theorem mp_keyType : Tryd.prog.keyType 54 = true := by kernel_rfl
theorem mp_c54 : Tryd.prog.cellsOf 54 = 2 := by kernel_rfl
theorem mp_c9 : Tryd.prog.cellsOf 9 = 1 := by kernel_rfl
theorem mp_c3 : Tryd.prog.cellsOf 3 = 1 := by kernel_rfl
theorem mp_zero (w : World) : (zeroValue 4).run Tryd.prog w = .ok (.bool false) w := by kernel_rfl
set_option maxRecDepth 100000 in
theorem mp_keyOf {q : S33} (h : keyOk q = true) : keyOf Tryd.prog 54 (keyV q) = some (keyL q) := by
 simp only [keyOk, Bool.and_eq_true, decide_eq_true_eq] at h
 obtain ⟨hs, hw⟩ := h
 obtain ⟨m, hm⟩ : ∃ m, Tryd.prog.types.size = m + 1 := ⟨Tryd.prog.types.size - 1, (Nat.succ_pred_eq_of_pos (Nat.lt_of_le_of_lt (Nat.zero_le _) mp_row54)).symm⟩
 have hf : (keyV q).formed Tryd.prog 54 = true := by simp [keyV, Value.formed, mp_u54, mp_c54]
 have hl : Tryd.prog.keyLits (Tryd.prog.types.size + 1) 54 (keyV q).cells.toList = some [.string q.f0.data.toList, .int .i64 q.f1] := by
  rw [hm]
  simp [keyV, Value.cells, Program.keyLits, mp_u54, mp_u9, mp_u3, mp_c54, mp_c9, mp_c3, hs, hw]
 unfold keyOf
 rw [mp_u54]
 simp only [mp_keyType, hf, Bool.and_self, if_true, hl, Option.map_some, keyL]
theorem plainElem_bool_inv {P : Program} {e : TypeId} (he : P.underlying e = some .bool) {v : Value} {t : Bool} {ps : List MemPlace} (h : plainElem (H := Unit) P e v = some (.lit (.bool t), ps)) : v = .bool t := by
 unfold plainElem at h
 rw [he] at h
 cases v <;> simp at h
 rw [h.1]
theorem mp_same {p q : S33} (hp : keyOk p = true) (hq : keyOk q = true) : (keyL p = keyL q) ↔ (p.f0 = q.f0 ∧ p.f1 = q.f1) := by
 constructor
 ·intro h
  have h1 := mp_keyOf hp
  rw [h] at h1
  have := mp_keyed.inj h1 (mp_keyOf hq)
  simpa [keyV] using this
 rintro ⟨h1, h2⟩
 simp [keyL, h1, h2]
def Mp (w : World) (b : Nat) (l : List S33) : Prop :=
 ∃ D n, w.ownsMap Tryd.prog 54 (plainElem (H := Unit) Tryd.prog 4) b n D ∧ n ≤ l.length ∧ ∀ q, keyOk q = true → D.atKey (keyL q) (.lit (.bool false)) = .lit (.bool (hasKey l q))
namespace Mp
section
variable {w w' w1 : World} {b g : Nat} {l : List S33}
theorem made (w : World) : Mp (w.alloc (.map #[] 0)) w.heap.size [] := ⟨_, _, World.ownsMap_made w _ _ _, Nat.le_refl _, fun _ _ => rfl⟩
theorem kept {row : Option Nat} (h : Mp w b l) (hg : w.grownBy w' row) (hne : some b ≠ row) : Mp w' b l := by
 obtain ⟨D, n, ho, hn, hD⟩ := h
 exact ⟨D, n, ho.kept hg hne, hn, hD⟩
theorem lt (h : Mp w b l) : b < w.heap.size := by
 obtain ⟨D, n, ho, _⟩ := h
 exact ho.lt
theorem alloc (h : Mp w b l) (o : Obj) : Mp (w.alloc o) b l := h.kept (World.grownBy_alloc w o none) (by simp)
theorem below (h : Mp w b l) (hb : Below w.heap.size w w1) : Mp w1 b l := by
 have hlt := h.lt
 obtain ⟨D, n, ⟨es, clock, h1, h2⟩, hn, hD⟩ := h
 exact ⟨D, n, ⟨es, clock, (hb.block b hlt).trans h1, h2⟩, hn, hD⟩
theorem drew (h : Mp w b l) : Mp w.drew b l := h.below (below_drew (Below.refl _ _))
theorem drewN (h : Mp w b l) (m : Nat) : Mp (w.drewN m) b l := h.below (pw_below_drewN (Below.refl _ _) m)
theorem far (h : Mp w b l) {i : Nat} (hp : b ≠ g) (v : Value) : Mp (w.setCell ⟨g, i, none⟩ v) b l := by
 have hlt := h.lt
 obtain ⟨D, n, ⟨es, clock, h1, h2⟩, hn, hD⟩ := h
 exact ⟨D, n, ⟨es, clock, (Below.heap_setCell w ⟨g, i, none⟩ v b hp).trans h1, h2⟩, hn, hD⟩
theorem look {ops : Array Oper} {rest : List Oper} {o : Oper} {a : Act} {Q : Exit → Act → World → Prop} (hgd : o.guard = none) {N : Tmp} (hd : o.dst = some N) {m x : Operand} (ho : o.op = .lookup 52 m x false) (hm : a.eval m = .map (some b)) (h : Mp w b l) (q : S33)
 (hx : a.eval x = keyV q) (hq : keyOk q = true) {t : Bool} (ht : hasKey l q = t) (hK : wpList Tryd.prog ops Q rest (a.put o.dst (.bool t)) w) : wpList Tryd.prog ops Q (o :: rest) a w := by
 obtain ⟨D, n, hown, _, hD⟩ := h
 obtain ⟨v, ps, hrun, hv⟩ := hown.lookup mp_keyed mp_u52 (mp_zero w) (plainElem_bool mp_u4 false) (mp_keyOf hq)
 rw [hD q hq, ht] at hv
 rw [plainElem_bool_inv mp_u4 hv] at hrun
 refine wpList_plain hgd fun K' hK' => ?_
 unfold Oper.wp
 simp [execOp, ho, hm, hx, hrun, Result.andThen]
 exact hK' _ _ hK
theorem put {ops : Array Oper} {rest : List Oper} {o : Oper} {a : Act} {Q : Exit → Act → World → Prop} (hgd : o.guard = none) {m x v : Operand} (ho : o.op = .mapUpdate 52 m x v) (hm : a.eval m = .map (some b)) (h : Mp w b l) (q : S33)
  (hx : a.eval x = keyV q) (hv : a.eval v = .bool true) (hq : keyOk q = true) (hl : l.length < 1000) (hK : ∀ w', Mp w' b (l ++ [q]) → w.grownBy w' (some b) → wpList Tryd.prog ops Q rest (a.put o.dst undef) w') : wpList Tryd.prog ops Q (o :: rest) a w := by
 obtain ⟨D, n, hown, hn, hD⟩ := h
 refine wpList_mapUpdate_own w hgd m x v 52 ho 54 4 mp_keyed mp_u52 _ b n D hm hown (by simp only [maxLen]; omega) (keyV q) (.bool true) (keyL q) hx hv (mp_keyOf hq) (.lit (.bool true)) [] (plainElem_bool mp_u4 true) ?_
 intro w' h1 hg
 refine hK w' ⟨_, _, h1, by simp; omega, fun p hp => ?_⟩ hg
 by_cases e : keyL p = keyL q
 ·have h2 := (mp_same hp hq).1 e
  rw [e, Maps.atKey_put_same ?_ (mp_keyed.key (mp_keyOf hq))]
  ·simp [hasKey, h2.1, h2.2]
  obtain ⟨es, clock, _, _, _, rfl⟩ := hown
  exact ⟨_, rfl⟩
 rw [Maps.atKey_put_other e, hD p hp]
 have h3 : ¬ (q.f0 = p.f0 ∧ q.f1 = p.f1) := fun h4 => e ((mp_same hp hq).2 ⟨h4.1.symm, h4.2.symm⟩)
 have h5 : (decide (q.f0 = p.f0) && decide (q.f1 = p.f1)) = false := by
  rw [Bool.and_eq_false_iff, decide_eq_false_iff_not, decide_eq_false_iff_not]
  by_cases h6 : q.f0 = p.f0
  rotate_left
  ·exact .inl h6
  exact .inr fun h7 => h3 ⟨h6, h7⟩
 simp only [hasKey, List.any_append, List.any_cons, List.any_nil, Bool.or_false, h5]
end
theorem next_ {l0 : List S33} {i : Int} {w : World} {b : Nat} (h : Mp w b (l0.take i.toNat ++ [rd_T33 l0 i])) (h0 : 0 ≤ i) (h1 : i < l0.length) (hl : l0.length ≤ 256) : Mp w b (l0.take (wrap64 (i + 1)).toNat) := by
 have e1 : (wrap64 (i + 1)).toNat = i.toNat + 1 := by unfold wrap64; omega
 have e2 : i.toNat < l0.length := by omega
 rw [e1, List.take_add_one, List.getElem?_eq_getElem e2]
 simpa [rd_T33, List.getD_eq_getElem?_getD, List.getElem?_eq_getElem e2] using h
end Mp
end Go.Proofs.YtfnfjmeiaamheaaDoor.PA
namespace Go.Proofs.YtfnfjmeiaamheaaDoor.PA
open Go.RowKit Go.Proofs.YtfnfjmeiaamheaaDoorW.PrintWords Go.Proofs.YtfnfjmeiaamheaaDoorW.PrintLast Go.Proofs.YtfnfjmeiaamheaaDoorW.PrintMore
attribute [local go_sem] max2_int min2_int max_two min_two max_three min_three max_four min_four
mutual
def currency_Check.l0 : Nat → List (S33) → List (S33) → Int → Int → Option (Int)
 | 0, _, _, _, _ => none
 | k + 1, x0, x11, x12, x13 => if x13 < x12 then (if 0 ≤ x13 then (if x13 < (x11.length : Int) then ((currency_isCode.f k ((rd_T33 x11 x13).f0)).bind fun t273 => (if t273 = true then (currency_Check.j1 k x0 x11 x12 x13 (((rd_T33 x11 x13).f0).toList == ([69, 85, 82] : List UInt8)) ((rd_T33 x11 x13).f0) ((rd_T33 x11 x13).f1) ((rd_T33 x11 x13).f2.f0) ((rd_T33 x11 x13).f2.f1) ((rd_T33 x11 x13).f2.f2)) else (currency_Check.j1 k x0 x11 x12 x13 true ((rd_T33 x11 x13).f0) ((rd_T33 x11 x13).f1) ((rd_T33 x11 x13).f2.f0) ((rd_T33 x11 x13).f2.f1) ((rd_T33 x11 x13).f2.f2)))) else (none)) else (none)) else (some 0)
def currency_Check.j1 : Nat → List (S33) → List (S33) → Int → Int → Bool → ByteArray → Int → Bool → ByteArray → ByteArray → Option (Int)
 | 0, _, _, _, _, _, _, _, _, _, _ => none
 | k + 1, x0, x11, x12, x13, x22, x272000, x272001, x272002, x272003, x272004 => if x22 = true then (some 8) else ((currency_isDay.f x272001).bind fun t274 => (if t274 = true then ((rational_Sign.f k x272002 x272003 x272004).bind fun t275 => (currency_Check.j2 k x0 x11 x12 x13 (decide (t275 ≤ 0)))) else (currency_Check.j2 k x0 x11 x12 x13 true)))
def currency_Check.j2 : Nat → List (S33) → List (S33) → Int → Int → Bool → Option (Int)
 | 0, _, _, _, _, _ => none
 | k + 1, x0, x11, x12, x13, x32 => if x32 = true then (some 1) else ((currency_isDay_has.f x0 x13).bind fun t276 => (if t276 = true then (some 12) else (currency_Check.l0 k x0 x11 x12 (wrap64 (x13 + 1)))))
end
def currency_Check.f (k : Nat) (l0 : List (S33)) : Option (Int) := if (l0.length : Int) > 256 then (some 2) else (currency_Check.l0 k l0 l0 (l0.length : Int) 0)
theorem currency_Check.mono_l : ∀ k, (∀ y0 y1 y2 y3, LeO (currency_Check.l0 k y0 y1 y2 y3) (currency_Check.l0 (k + 1) y0 y1 y2 y3)) ∧ (∀ y0 y1 y2 y3 y4 y5 y6 y7 y8 y9, LeO (currency_Check.j1 k y0 y1 y2 y3 y4 y5 y6 y7 y8 y9) (currency_Check.j1 (k + 1) y0 y1 y2 y3 y4 y5 y6 y7 y8 y9)) ∧ (∀ y0 y1 y2 y3 y4, LeO (currency_Check.j2 k y0 y1 y2 y3 y4) (currency_Check.j2 (k + 1) y0 y1 y2 y3 y4))
 | 0 => ⟨fun _ _ _ _ r h => by simp [currency_Check.l0] at h, fun _ _ _ _ _ _ _ _ _ _ r h => by simp [currency_Check.j1] at h, fun _ _ _ _ _ r h => by simp [currency_Check.j2] at h⟩
 | k + 1 => by
  obtain ⟨ih0, ih1, ih2⟩ := currency_Check.mono_l k
  refine ⟨?_, ?_, ?_⟩
  ·intro y0 y1 y2 y3
   unfold currency_Check.l0
   repeat' first
   | (with_reducible exact ih0 _ _ _ _)
   | (with_reducible exact ih1 _ _ _ _ _ _ _ _ _ _)
   | (with_reducible exact ih2 _ _ _ _ _)
   | (with_reducible exact currency_isCode.mono _ _)
   | (with_reducible exact rational_Sign.mono _ _ _ _)
   | (with_reducible exact LeO.refl _)
   | (with_reducible exact LeO.none _)
   | (with_reducible refine LeO.ite ?_ ?_)
   | (with_reducible refine LeO.bind ?_ (fun _ => ?_))
   | exact ih0 _ _ _ _
   | exact ih1 _ _ _ _ _ _ _ _ _ _
   | exact ih2 _ _ _ _ _
   | exact currency_isCode.mono _ _
   | exact rational_Sign.mono _ _ _ _
   | exact LeO.none _
   | refine LeO.ite ?_ ?_
   | refine LeO.bind ?_ (fun _ => ?_)
  ·intro y0 y1 y2 y3 y4 y5 y6 y7 y8 y9
   unfold currency_Check.j1
   repeat' first
   | (with_reducible exact ih0 _ _ _ _)
   | (with_reducible exact ih1 _ _ _ _ _ _ _ _ _ _)
   | (with_reducible exact ih2 _ _ _ _ _)
   | (with_reducible exact currency_isCode.mono _ _)
   | (with_reducible exact rational_Sign.mono _ _ _ _)
   | (with_reducible exact LeO.refl _)
   | (with_reducible exact LeO.none _)
   | (with_reducible refine LeO.ite ?_ ?_)
   | (with_reducible refine LeO.bind ?_ (fun _ => ?_))
   | exact ih0 _ _ _ _
   | exact ih1 _ _ _ _ _ _ _ _ _ _
   | exact ih2 _ _ _ _ _
   | exact currency_isCode.mono _ _
   | exact rational_Sign.mono _ _ _ _
   | exact LeO.none _
   | refine LeO.ite ?_ ?_
   | refine LeO.bind ?_ (fun _ => ?_)
  intro y0 y1 y2 y3 y4
  unfold currency_Check.j2
  repeat' first
  | (with_reducible exact ih0 _ _ _ _)
  | (with_reducible exact ih1 _ _ _ _ _ _ _ _ _ _)
  | (with_reducible exact ih2 _ _ _ _ _)
  | (with_reducible exact currency_isCode.mono _ _)
  | (with_reducible exact rational_Sign.mono _ _ _ _)
  | (with_reducible exact LeO.refl _)
  | (with_reducible exact LeO.none _)
  | (with_reducible refine LeO.ite ?_ ?_)
  | (with_reducible refine LeO.bind ?_ (fun _ => ?_))
  | exact ih0 _ _ _ _
  | exact ih1 _ _ _ _ _ _ _ _ _ _
  | exact ih2 _ _ _ _ _
  | exact currency_isCode.mono _ _
  | exact rational_Sign.mono _ _ _ _
  | exact LeO.none _
  | refine LeO.ite ?_ ?_
  | refine LeO.bind ?_ (fun _ => ?_)
theorem currency_Check.mono : ∀ a0 k, LeO (currency_Check.f k a0) (currency_Check.f (k + 1) a0) := by
 intro a0 k
 obtain ⟨ih0, ih1, ih2⟩ := currency_Check.mono_l k
 unfold currency_Check.f
 repeat' first
  | (with_reducible exact ih0 _ _ _ _)
  | (with_reducible exact ih1 _ _ _ _ _ _ _ _ _ _)
  | (with_reducible exact ih2 _ _ _ _ _)
  | (with_reducible exact currency_isCode.mono _ _)
  | (with_reducible exact rational_Sign.mono _ _ _ _)
  | (with_reducible exact LeO.refl _)
  | (with_reducible exact LeO.none _)
  | (with_reducible refine LeO.ite ?_ ?_)
  | (with_reducible refine LeO.bind ?_ (fun _ => ?_))
  | exact ih0 _ _ _ _
  | exact ih1 _ _ _ _ _ _ _ _ _ _
  | exact ih2 _ _ _ _ _
  | exact currency_isCode.mono _ _
  | exact rational_Sign.mono _ _ _ _
  | exact LeO.none _
  | refine LeO.ite ?_ ?_
  | refine LeO.bind ?_ (fun _ => ?_)
set_option maxHeartbeats 8000000 in
set_option maxRecDepth 100000 in
theorem currency_Check.calls (k : Nat) (A0 : Option Addr) (c0 : Nat) (l0 : List (S33)) (r : Int) (w : World) (hr0 : Kd.C k33 w A0 l0.length l0) (hc0 : l0.length ≤ c0) (h : currency_Check.f k l0 = some r) :
  Calls Tryd.prog 12 #[.slice A0 l0.length c0] w fun e w' => e = .returned (.int .i64 r) ∧ Below w.heap.size w w' := by
 have hu33 := Tryd.underlying33
 have hu54 := Tryd.underlying54
 have hu30 := Tryd.underlying30
 have HR0 := Aside0.mk hr0
 have HC0 := Aside0.mk hc0
 clear hr0 hc0
 have HB := Aside0.mk (Below.refl w.heap.size w)
 have H : (if (l0.length : Int) > 256 then (some 2) else (currency_Check.l0 k l0 l0 (l0.length : Int) 0)) = some r := h
 clear h
 by_cases c2 : (l0.length : Int) > 256
 ·rw [if_pos c2] at H
  have c2b0 : decide (256 < (l0.length : Int)) = true := decide_eq_true c2
  have c2b1 : decide (256 < l0.length) = true := decide_eq_true (by omega)
  clear c2
  obtain rfl := Option.some.inj H
  go_enter Tryd.func12, Tryd.ntmps12
  go_wp2
  go_ret
  exact ⟨by first | rfl | (simp [errW_none, errW_some] <;> rfl) | (simp [*, errW_none, errW_some] <;> rfl), by repeat (first | (with_reducible first | exact HB.out | apply below_alloc | apply pw_below_drewN | apply below_drew1) | exact HB.out)⟩
 rw [if_neg c2] at H
 have c2b0 : decide (256 < (l0.length : Int)) = false := decide_eq_false c2
 have HL256 := Aside0.mk (show l0.length ≤ 256 by omega)
 have c2b1 : decide (256 < l0.length) = false := decide_eq_false (by omega)
 clear c2
 have H' := Aside0.mk H
 clear H
 have hmkm_ := fun W : World => run_makeMap (P := Tryd.prog) 52 W
 go_enter Tryd.func12, Tryd.ntmps12
 go_wp2
 go_loopg [13] k (fun kq v13 w' => ∃ (x13_1 : Int), v13 = .int .i64 x13_1 ∧ Aside0 (currency_Check.l0 kq l0 l0 (l0.length : Int) x13_1 = some r) ∧ Aside0 (kq ≤ k) ∧ Aside0 (Below w.heap.size w w') ∧ Aside0 (Mp w' w.heap.size (l0.take x13_1.toNat)))
 case atStart => exact ⟨(0), (by first | rfl | (simp; done) | (simp [*]; done)), H', ⟨Nat.le_refl _⟩, ⟨by repeat (first | (with_reducible first | exact HB.out | apply below_alloc | apply pw_below_drewN | apply below_drew1) | exact HB.out)⟩, ⟨Mp.made w⟩⟩
 case round =>
  clear H'
  try clear c1
  try clear c2
  try clear c2b0
  try clear c2b1
  try clear p2
  obtain ⟨x13_1, rfl, HA, HK1, HB, HM⟩ := hrel
  cases gk with
  | zero => exact absurd HA.out (by simp [currency_Check.l0])
  | succ k1 =>
   have H := HA.out
   clear HA
   simp only [currency_Check.l0] at H
   by_cases c3 : x13_1 < (l0.length : Int)
   rotate_left
   ·rw [if_neg c3] at H
    have c3b0 : decide (x13_1 < (l0.length : Int)) = false := decide_eq_false c3
    clear c3
    obtain rfl := Option.some.inj H
    go_wp2
    go_ret
    exact ⟨by first | rfl | (simp [errW_none, errW_some] <;> rfl) | (simp [*, errW_none, errW_some] <;> rfl), by repeat (first | (with_reducible first | exact HB.out | apply below_alloc | apply pw_below_drewN | apply below_drew1) | exact HB.out)⟩
   rw [if_pos c3] at H
   have c3b0 : decide (x13_1 < (l0.length : Int)) = true := decide_eq_true c3
   clear c3
   by_cases c4 : 0 ≤ x13_1
   rotate_left
   ·rw [if_neg c4] at H
    exact absurd H (by simp)
   rw [if_pos c4] at H
   have c4b0 : decide (0 ≤ x13_1) = true := decide_eq_true c4
   clear c4
   by_cases c5 : x13_1 < (l0.length : Int)
   rotate_left
   ·rw [if_neg c5] at H
    exact absurd H (by simp)
   rw [if_pos c5] at H
   have c5b0 : decide (x13_1 < (l0.length : Int)) = true := decide_eq_true c5
   clear c5
   have HC6 := Aside0.mk H
   clear H
   have p270 : 0 ≤ (x13_1 : Int) := of_decide_eq_true (by first | (with_reducible assumption) | assumption)
   have q270 : x13_1 < (l0.length : Int) := of_decide_eq_true (by first | (with_reducible assumption) | assumption)
   obtain ⟨ad270, e270, hx270_0, hx270_1, hx270_2, hx270_3, hx270_4⟩ := at_T33 HR0.out x13_1 p270 q270
   cases e270
   replace hx270_0 := (HB.out.cell (World.block_lt_of_cell? w _ hx270_0)).trans hx270_0
   replace hx270_1 := (HB.out.cell (World.block_lt_of_cell? w _ hx270_1)).trans hx270_1
   replace hx270_2 := (HB.out.cell (World.block_lt_of_cell? w _ hx270_2)).trans hx270_2
   replace hx270_3 := (HB.out.cell (World.block_lt_of_cell? w _ hx270_3)).trans hx270_3
   replace hx270_4 := (HB.out.cell (World.block_lt_of_cell? w _ hx270_4)).trans hx270_4
   replace p270 := eq_true p270
   replace q270 := eq_true q270
   go_upto_region 8 with (first | ((with_reducible refine gate_dst (N := 5) rfl ?_); refine box_event ?hg (N := 5) ?hd (cs := #[.string (⟨#[]⟩ : ByteArray), .int .i64 0, .bool false, .string (⟨#[]⟩ : ByteArray), .string (⟨#[]⟩ : ByteArray)]) (t := 33) ?hr ?_; (case hd => rfl); (case hg => rfl); (case hr => first | (go_simp; done) | (go_simp; rfl)); intro gb271 hg w7 hbox hb; have hmn_ := Aside0.mk (Mp.below (b := w.heap.size) (l := l0.take x13_1.toNat) (by repeat (first | (with_reducible first | exact HM.out | apply Mp.alloc | apply Mp.drewN | apply Mp.drew) | exact HM.out)) hb); have NM271 := Aside0.mk (show w.heap.size ≠ gb271 from by rw [hg]; exact Nat.ne_of_lt (Mp.lt (l := l0.take x13_1.toNat) (by repeat (first | (with_reducible first | exact HM.out | apply Mp.alloc | apply Mp.drewN | apply Mp.drew) | exact HM.out)))); clear HM; have HM := hmn_; clear hmn_; have n0_ := Aside0.mk (below_step (by repeat (first | (with_reducible first | exact HB.out | apply below_alloc | apply pw_below_drewN | apply below_drew1) | exact HB.out)) hb); have n1_ := Aside0.mk (hbox); have n2_ := Aside0.mk ((by rw [hg]; exact (below_size (by repeat (first | (with_reducible first | exact HB.out | apply below_alloc | apply pw_below_drewN | apply below_drew1) | exact HB.out))) : w.heap.size ≤ gb271)); have n3_ := Aside0.mk ((by rw [hg]; exact (below_size (by repeat (first | (with_reducible first | exact HB.out | apply below_alloc | apply pw_below_drewN | apply below_drew1) | exact HB.out))) : w.heap.size ≤ gb271)); clear HB; have HB := n0_; have BK271 := n1_; have GW271 := n2_; have GE271 := n3_; clear n0_ n1_ n2_ n3_; clear hb hbox hg; have hcz8_0 : w7.cell? ⟨gb271, 0, none⟩ = some (.string (⟨#[]⟩ : ByteArray)) := (blk_cell BK271.out 0).trans rfl; have hcz8_1 : w7.cell? ⟨gb271, 1, none⟩ = some (.int .i64 0) := (blk_cell BK271.out 1).trans rfl; have hcz8_2 : w7.cell? ⟨gb271, 2, none⟩ = some (.bool false) := (blk_cell BK271.out 2).trans rfl; have hcz8_3 : w7.cell? ⟨gb271, 3, none⟩ = some (.string (⟨#[]⟩ : ByteArray)) := (blk_cell BK271.out 3).trans rfl; have hcz8_4 : w7.cell? ⟨gb271, 4, none⟩ = some (.string (⟨#[]⟩ : ByteArray)) := (blk_cell BK271.out 4).trans rfl; have hfz8_0 := blk_frozen BK271.out 0; have hfz8_1 := blk_frozen BK271.out 1; have hfz8_2 := blk_frozen BK271.out 2; have hfz8_3 := blk_frozen BK271.out 3; have hfz8_4 := blk_frozen BK271.out 4) | ((with_reducible refine gate_dst (N := 6) rfl ?_); refine box_event ?hg (N := 6) ?hd (cs := #[.string (⟨#[]⟩ : ByteArray), .int .i64 0]) (t := 54) ?hr ?_; (case hd => rfl); (case hg => rfl); (case hr => first | (go_simp; done) | (go_simp; rfl)); intro gb272 hg w9 hbox hb; have hmn_ := Aside0.mk (Mp.below (b := w.heap.size) (l := l0.take x13_1.toNat) (by repeat (first | (with_reducible first | exact HM.out | apply Mp.alloc | apply Mp.drewN | apply Mp.drew | refine Mp.far ?_ NM271.out _) | exact HM.out)) hb); have NM272 := Aside0.mk (show w.heap.size ≠ gb272 from by rw [hg]; exact Nat.ne_of_lt (Mp.lt (l := l0.take x13_1.toNat) (by repeat (first | (with_reducible first | exact HM.out | apply Mp.alloc | apply Mp.drewN | apply Mp.drew | refine Mp.far ?_ NM271.out _) | exact HM.out)))); clear HM; have HM := hmn_; clear hmn_; have n0_ := Aside0.mk (blk_below (g := gb271) (o := .cells #[.string ((rd_T33 l0 x13_1).f0), .int .i64 ((rd_T33 l0 x13_1).f1), .bool ((rd_T33 l0 x13_1).f2.f0), .string ((rd_T33 l0 x13_1).f2.f1), .string ((rd_T33 l0 x13_1).f2.f2)] 33 (0, 0)) (by (with_reducible repeat (first | refine blk_drewN ?_ _ | refine blk_drew ?_ | refine blk_alloc ?_ _)); refine blk_put (cs := #[.string ((rd_T33 l0 x13_1).f0), .int .i64 ((rd_T33 l0 x13_1).f1), .bool ((rd_T33 l0 x13_1).f2.f0), .string ((rd_T33 l0 x13_1).f2.f1), .string (⟨#[]⟩ : ByteArray)]) ?_ 4 _ rfl; (with_reducible repeat (first | refine blk_drewN ?_ _ | refine blk_drew ?_ | refine blk_alloc ?_ _)); refine blk_put (cs := #[.string ((rd_T33 l0 x13_1).f0), .int .i64 ((rd_T33 l0 x13_1).f1), .bool ((rd_T33 l0 x13_1).f2.f0), .string (⟨#[]⟩ : ByteArray), .string (⟨#[]⟩ : ByteArray)]) ?_ 3 _ rfl; (with_reducible repeat (first | refine blk_drewN ?_ _ | refine blk_drew ?_ | refine blk_alloc ?_ _)); refine blk_put (cs := #[.string ((rd_T33 l0 x13_1).f0), .int .i64 ((rd_T33 l0 x13_1).f1), .bool false, .string (⟨#[]⟩ : ByteArray), .string (⟨#[]⟩ : ByteArray)]) ?_ 2 _ rfl; (with_reducible repeat (first | refine blk_drewN ?_ _ | refine blk_drew ?_ | refine blk_alloc ?_ _)); refine blk_put (cs := #[.string ((rd_T33 l0 x13_1).f0), .int .i64 0, .bool false, .string (⟨#[]⟩ : ByteArray), .string (⟨#[]⟩ : ByteArray)]) ?_ 1 _ rfl; (with_reducible repeat (first | refine blk_drewN ?_ _ | refine blk_drew ?_ | refine blk_alloc ?_ _)); refine blk_put (cs := #[.string (⟨#[]⟩ : ByteArray), .int .i64 0, .bool false, .string (⟨#[]⟩ : ByteArray), .string (⟨#[]⟩ : ByteArray)]) ?_ 0 _ rfl; (with_reducible repeat (first | refine blk_drewN ?_ _ | refine blk_drew ?_ | refine blk_alloc ?_ _)); exact BK271.out) hb); have n1_ := Aside0.mk (below_step (by repeat (first | (with_reducible first | exact HB.out | apply below_alloc | apply pw_below_drewN | apply below_drew1 | refine below_set ?_ GE271.out) | exact HB.out)) hb); have n2_ := Aside0.mk (hbox); have n3_ := Aside0.mk ((by rw [hg]; exact (below_size (by repeat (first | (with_reducible first | exact HB.out | apply below_alloc | apply pw_below_drewN | apply below_drew1 | refine below_set ?_ GE271.out) | exact HB.out))) : w.heap.size ≤ gb272)); have n4_ := Aside0.mk ((by rw [hg]; exact (below_size (by repeat (first | (with_reducible first | exact HB.out | apply below_alloc | apply pw_below_drewN | apply below_drew1 | refine below_set ?_ GE271.out) | exact HB.out))) : w.heap.size ≤ gb272)); have n5_ := Aside0.mk ((by rw [hg]; exact Nat.ne_of_lt (blk_lt (g := gb271) (o := .cells #[.string ((rd_T33 l0 x13_1).f0), .int .i64 ((rd_T33 l0 x13_1).f1), .bool ((rd_T33 l0 x13_1).f2.f0), .string ((rd_T33 l0 x13_1).f2.f1), .string ((rd_T33 l0 x13_1).f2.f2)] 33 (0, 0)) (by (with_reducible repeat (first | refine blk_drewN ?_ _ | refine blk_drew ?_ | refine blk_alloc ?_ _)); refine blk_put (cs := #[.string ((rd_T33 l0 x13_1).f0), .int .i64 ((rd_T33 l0 x13_1).f1), .bool ((rd_T33 l0 x13_1).f2.f0), .string ((rd_T33 l0 x13_1).f2.f1), .string (⟨#[]⟩ : ByteArray)]) ?_ 4 _ rfl; (with_reducible repeat (first | refine blk_drewN ?_ _ | refine blk_drew ?_ | refine blk_alloc ?_ _)); refine blk_put (cs := #[.string ((rd_T33 l0 x13_1).f0), .int .i64 ((rd_T33 l0 x13_1).f1), .bool ((rd_T33 l0 x13_1).f2.f0), .string (⟨#[]⟩ : ByteArray), .string (⟨#[]⟩ : ByteArray)]) ?_ 3 _ rfl; (with_reducible repeat (first | refine blk_drewN ?_ _ | refine blk_drew ?_ | refine blk_alloc ?_ _)); refine blk_put (cs := #[.string ((rd_T33 l0 x13_1).f0), .int .i64 ((rd_T33 l0 x13_1).f1), .bool false, .string (⟨#[]⟩ : ByteArray), .string (⟨#[]⟩ : ByteArray)]) ?_ 2 _ rfl; (with_reducible repeat (first | refine blk_drewN ?_ _ | refine blk_drew ?_ | refine blk_alloc ?_ _)); refine blk_put (cs := #[.string ((rd_T33 l0 x13_1).f0), .int .i64 0, .bool false, .string (⟨#[]⟩ : ByteArray), .string (⟨#[]⟩ : ByteArray)]) ?_ 1 _ rfl; (with_reducible repeat (first | refine blk_drewN ?_ _ | refine blk_drew ?_ | refine blk_alloc ?_ _)); refine blk_put (cs := #[.string (⟨#[]⟩ : ByteArray), .int .i64 0, .bool false, .string (⟨#[]⟩ : ByteArray), .string (⟨#[]⟩ : ByteArray)]) ?_ 0 _ rfl; (with_reducible repeat (first | refine blk_drewN ?_ _ | refine blk_drew ?_ | refine blk_alloc ?_ _)); exact BK271.out)) : gb271 ≠ gb272)); have n6_ := Aside0.mk ((by rw [hg]; exact Nat.ne_of_gt (blk_lt (g := gb271) (o := .cells #[.string ((rd_T33 l0 x13_1).f0), .int .i64 ((rd_T33 l0 x13_1).f1), .bool ((rd_T33 l0 x13_1).f2.f0), .string ((rd_T33 l0 x13_1).f2.f1), .string ((rd_T33 l0 x13_1).f2.f2)] 33 (0, 0)) (by (with_reducible repeat (first | refine blk_drewN ?_ _ | refine blk_drew ?_ | refine blk_alloc ?_ _)); refine blk_put (cs := #[.string ((rd_T33 l0 x13_1).f0), .int .i64 ((rd_T33 l0 x13_1).f1), .bool ((rd_T33 l0 x13_1).f2.f0), .string ((rd_T33 l0 x13_1).f2.f1), .string (⟨#[]⟩ : ByteArray)]) ?_ 4 _ rfl; (with_reducible repeat (first | refine blk_drewN ?_ _ | refine blk_drew ?_ | refine blk_alloc ?_ _)); refine blk_put (cs := #[.string ((rd_T33 l0 x13_1).f0), .int .i64 ((rd_T33 l0 x13_1).f1), .bool ((rd_T33 l0 x13_1).f2.f0), .string (⟨#[]⟩ : ByteArray), .string (⟨#[]⟩ : ByteArray)]) ?_ 3 _ rfl; (with_reducible repeat (first | refine blk_drewN ?_ _ | refine blk_drew ?_ | refine blk_alloc ?_ _)); refine blk_put (cs := #[.string ((rd_T33 l0 x13_1).f0), .int .i64 ((rd_T33 l0 x13_1).f1), .bool false, .string (⟨#[]⟩ : ByteArray), .string (⟨#[]⟩ : ByteArray)]) ?_ 2 _ rfl; (with_reducible repeat (first | refine blk_drewN ?_ _ | refine blk_drew ?_ | refine blk_alloc ?_ _)); refine blk_put (cs := #[.string ((rd_T33 l0 x13_1).f0), .int .i64 0, .bool false, .string (⟨#[]⟩ : ByteArray), .string (⟨#[]⟩ : ByteArray)]) ?_ 1 _ rfl; (with_reducible repeat (first | refine blk_drewN ?_ _ | refine blk_drew ?_ | refine blk_alloc ?_ _)); refine blk_put (cs := #[.string (⟨#[]⟩ : ByteArray), .int .i64 0, .bool false, .string (⟨#[]⟩ : ByteArray), .string (⟨#[]⟩ : ByteArray)]) ?_ 0 _ rfl; (with_reducible repeat (first | refine blk_drewN ?_ _ | refine blk_drew ?_ | refine blk_alloc ?_ _)); exact BK271.out)) : gb272 ≠ gb271)); clear BK271; clear HB; have BK271 := n0_; have HB := n1_; have BK272 := n2_; have GW272 := n3_; have GE272 := n4_; have NB271_272 := n5_; have NB272_271 := n6_; clear n0_ n1_ n2_ n3_ n4_ n5_ n6_; clear hb hbox hg; have hnb10 := NB272_271.out; have hnc10 := NB271_272.out; have hcz11_0 : w9.cell? ⟨gb272, 0, none⟩ = some (.string (⟨#[]⟩ : ByteArray)) := (blk_cell BK272.out 0).trans rfl; have hcz11_1 : w9.cell? ⟨gb272, 1, none⟩ = some (.int .i64 0) := (blk_cell BK272.out 1).trans rfl; have hfz11_0 := blk_frozen BK272.out 0; have hfz11_1 := blk_frozen BK272.out 1))
   (try simp only [Act.put, List.setIfInBounds_toArray, List.set_cons_zero, List.set_cons_succ])
   go_cut [22] (fun v22 wc => ∃ (kq : Nat) (x22_5 : Bool), v22 = .bool x22_5 ∧ Aside0 (currency_Check.j1 kq l0 l0 (l0.length : Int) x13_1 x22_5 ((rd_T33 l0 x13_1).f0) ((rd_T33 l0 x13_1).f1) ((rd_T33 l0 x13_1).f2.f0) ((rd_T33 l0 x13_1).f2.f1) ((rd_T33 l0 x13_1).f2.f2) = some r) ∧ Aside0 (kq ≤ k1) ∧ Aside0 (wc.heap[gb271]? = some (.cells #[.string ((rd_T33 l0 x13_1).f0), .int .i64 ((rd_T33 l0 x13_1).f1), .bool ((rd_T33 l0 x13_1).f2.f0), .string ((rd_T33 l0 x13_1).f2.f1), .string ((rd_T33 l0 x13_1).f2.f2)] 33 (0, 0))) ∧ Aside0 (wc.heap[gb272]? = some (.cells #[.string ((rd_T33 l0 x13_1).f0), .int .i64 ((rd_T33 l0 x13_1).f1)] 54 (0, 0))) ∧ Aside0 (Below w.heap.size w wc) ∧ Aside0 (Mp wc w.heap.size (l0.take x13_1.toNat)))
   case first =>
    have H := HC6.out
    clear HC6
    replace H := Option.bind_eq_some_iff.mp H
    obtain ⟨t273, A120, H⟩ := H
    replace H : (if t273 = true then (currency_Check.j1 k1 l0 l0 (l0.length : Int) x13_1 (((rd_T33 l0 x13_1).f0).toList == ([69, 85, 82] : List UInt8)) ((rd_T33 l0 x13_1).f0) ((rd_T33 l0 x13_1).f1) ((rd_T33 l0 x13_1).f2.f0) ((rd_T33 l0 x13_1).f2.f1) ((rd_T33 l0 x13_1).f2.f2)) else (currency_Check.j1 k1 l0 l0 (l0.length : Int) x13_1 true ((rd_T33 l0 x13_1).f0) ((rd_T33 l0 x13_1).f1) ((rd_T33 l0 x13_1).f2.f0) ((rd_T33 l0 x13_1).f2.f1) ((rd_T33 l0 x13_1).f2.f2))) = some r := H
    have A12 := Aside0.mk A120
    clear A120
    by_cases c13 : t273 = true
    rotate_left
    ·replace c13 := Bool.eq_false_iff.mpr c13
     subst c13
     have H1 : (currency_Check.j1 k1 l0 l0 (l0.length : Int) x13_1 true ((rd_T33 l0 x13_1).f0) ((rd_T33 l0 x13_1).f1) ((rd_T33 l0 x13_1).f2.f0) ((rd_T33 l0 x13_1).f2.f1) ((rd_T33 l0 x13_1).f2.f2)) = some r := by rw [if_neg (show ¬ (false = true) by decide)] at H; exact H
     clear H
     have H := H1
     clear H1
     have H' := Aside0.mk H
     clear H
     have hnb16 := NB271_272.out
     have hnc16 := NB272_271.out
     have hcz17_0 : w9.cell? ⟨gb271, 0, none⟩ = some (.string ((rd_T33 l0 x13_1).f0)) := (blk_cell BK271.out 0).trans rfl
     have hcz17_1 : w9.cell? ⟨gb271, 1, none⟩ = some (.int .i64 ((rd_T33 l0 x13_1).f1)) := (blk_cell BK271.out 1).trans rfl
     have hcz17_2 : w9.cell? ⟨gb271, 2, none⟩ = some (.bool ((rd_T33 l0 x13_1).f2.f0)) := (blk_cell BK271.out 2).trans rfl
     have hcz17_3 : w9.cell? ⟨gb271, 3, none⟩ = some (.string ((rd_T33 l0 x13_1).f2.f1)) := (blk_cell BK271.out 3).trans rfl
     have hcz17_4 : w9.cell? ⟨gb271, 4, none⟩ = some (.string ((rd_T33 l0 x13_1).f2.f2)) := (blk_cell BK271.out 4).trans rfl
     have hfz17_0 := blk_frozen BK271.out 0
     have hfz17_1 := blk_frozen BK271.out 1
     have hfz17_2 := blk_frozen BK271.out 2
     have hfz17_3 := blk_frozen BK271.out 3
     have hfz17_4 := blk_frozen BK271.out 4
     go_wp2_with (first | ((with_reducible refine gate_callee (f := 24) rfl ?_); refine goesL_ (some 25) rfl rfl Tryd.func24 (by kernel_rfl) rfl #[.string ((rd_T33 l0 x13_1).f0)] rfl (by (try simp only [List.map_toArray, List.map_cons, List.map_nil]); first | done | rfl | (simp only [List.length_drop, List.length_take]; rfl)) ?_; (with_reducible refine (currency_isCode.calls k1 ((rd_T33 l0 x13_1).f0) false _ A12.out).mono ?_); rintro e w' ⟨rfl, ⟨nd, rfl⟩⟩; refine ⟨_, rfl, ?_⟩))
     go_meet
     case rel => exact ⟨_, (true), (by first | rfl | (simp; done) | (simp [*]; done)), H', ⟨by have := HK1.out; first | omega | exact Nat.le_refl _⟩, ⟨by (with_reducible repeat (first | refine blk_drewN ?_ _ | refine blk_drew ?_ | refine blk_alloc ?_ _)); refine blk_far ?_ NB271_272.out _; (with_reducible repeat (first | refine blk_drewN ?_ _ | refine blk_drew ?_ | refine blk_alloc ?_ _)); refine blk_far ?_ NB271_272.out _; (with_reducible repeat (first | refine blk_drewN ?_ _ | refine blk_drew ?_ | refine blk_alloc ?_ _)); exact BK271.out⟩, ⟨by (with_reducible repeat (first | refine blk_drewN ?_ _ | refine blk_drew ?_ | refine blk_alloc ?_ _)); refine blk_put (cs := #[.string ((rd_T33 l0 x13_1).f0), .int .i64 0]) ?_ 1 _ rfl; (with_reducible repeat (first | refine blk_drewN ?_ _ | refine blk_drew ?_ | refine blk_alloc ?_ _)); refine blk_put (cs := #[.string (⟨#[]⟩ : ByteArray), .int .i64 0]) ?_ 0 _ rfl; (with_reducible repeat (first | refine blk_drewN ?_ _ | refine blk_drew ?_ | refine blk_alloc ?_ _)); exact BK272.out⟩, ⟨by repeat (first | (with_reducible first | exact HB.out | apply below_alloc | apply pw_below_drewN | apply below_drew1 | refine below_set ?_ GE271.out | refine below_set ?_ GE272.out) | exact HB.out)⟩, ⟨by repeat (first | (with_reducible first | exact HM.out | apply Mp.alloc | apply Mp.drewN | apply Mp.drew | refine Mp.far ?_ NM271.out _ | refine Mp.far ?_ NM272.out _) | exact HM.out)⟩⟩
    subst c13
    have H1 : (currency_Check.j1 k1 l0 l0 (l0.length : Int) x13_1 (((rd_T33 l0 x13_1).f0).toList == ([69, 85, 82] : List UInt8)) ((rd_T33 l0 x13_1).f0) ((rd_T33 l0 x13_1).f1) ((rd_T33 l0 x13_1).f2.f0) ((rd_T33 l0 x13_1).f2.f1) ((rd_T33 l0 x13_1).f2.f2)) = some r := by rw [if_pos rfl] at H; exact H
    clear H
    have H := H1
    clear H1
    have H' := Aside0.mk H
    clear H
    have hnb14 := NB271_272.out
    have hnc14 := NB272_271.out
    have hcz15_0 : w9.cell? ⟨gb271, 0, none⟩ = some (.string ((rd_T33 l0 x13_1).f0)) := (blk_cell BK271.out 0).trans rfl
    have hcz15_1 : w9.cell? ⟨gb271, 1, none⟩ = some (.int .i64 ((rd_T33 l0 x13_1).f1)) := (blk_cell BK271.out 1).trans rfl
    have hcz15_2 : w9.cell? ⟨gb271, 2, none⟩ = some (.bool ((rd_T33 l0 x13_1).f2.f0)) := (blk_cell BK271.out 2).trans rfl
    have hcz15_3 : w9.cell? ⟨gb271, 3, none⟩ = some (.string ((rd_T33 l0 x13_1).f2.f1)) := (blk_cell BK271.out 3).trans rfl
    have hcz15_4 : w9.cell? ⟨gb271, 4, none⟩ = some (.string ((rd_T33 l0 x13_1).f2.f2)) := (blk_cell BK271.out 4).trans rfl
    have hfz15_0 := blk_frozen BK271.out 0
    have hfz15_1 := blk_frozen BK271.out 1
    have hfz15_2 := blk_frozen BK271.out 2
    have hfz15_3 := blk_frozen BK271.out 3
    have hfz15_4 := blk_frozen BK271.out 4
    go_wp2_with (first | ((with_reducible refine gate_callee (f := 24) rfl ?_); refine goesL_ (some 25) rfl rfl Tryd.func24 (by kernel_rfl) rfl #[.string ((rd_T33 l0 x13_1).f0)] rfl (by (try simp only [List.map_toArray, List.map_cons, List.map_nil]); first | done | rfl | (simp only [List.length_drop, List.length_take]; rfl)) ?_; (with_reducible refine (currency_isCode.calls k1 ((rd_T33 l0 x13_1).f0) true _ A12.out).mono ?_); rintro e w' ⟨rfl, ⟨nd, rfl⟩⟩; refine ⟨_, rfl, ?_⟩))
    go_meet
    case rel => exact ⟨_, ((((rd_T33 l0 x13_1).f0).toList == ([69, 85, 82] : List UInt8))), (by first | rfl | (simp; done) | (simp [*]; done)), H', ⟨by have := HK1.out; first | omega | exact Nat.le_refl _⟩, ⟨by (with_reducible repeat (first | refine blk_drewN ?_ _ | refine blk_drew ?_ | refine blk_alloc ?_ _)); refine blk_far ?_ NB271_272.out _; (with_reducible repeat (first | refine blk_drewN ?_ _ | refine blk_drew ?_ | refine blk_alloc ?_ _)); refine blk_far ?_ NB271_272.out _; (with_reducible repeat (first | refine blk_drewN ?_ _ | refine blk_drew ?_ | refine blk_alloc ?_ _)); exact BK271.out⟩, ⟨by (with_reducible repeat (first | refine blk_drewN ?_ _ | refine blk_drew ?_ | refine blk_alloc ?_ _)); refine blk_put (cs := #[.string ((rd_T33 l0 x13_1).f0), .int .i64 0]) ?_ 1 _ rfl; (with_reducible repeat (first | refine blk_drewN ?_ _ | refine blk_drew ?_ | refine blk_alloc ?_ _)); refine blk_put (cs := #[.string (⟨#[]⟩ : ByteArray), .int .i64 0]) ?_ 0 _ rfl; (with_reducible repeat (first | refine blk_drewN ?_ _ | refine blk_drew ?_ | refine blk_alloc ?_ _)); exact BK272.out⟩, ⟨by repeat (first | (with_reducible first | exact HB.out | apply below_alloc | apply pw_below_drewN | apply below_drew1 | refine below_set ?_ GE271.out | refine below_set ?_ GE272.out) | exact HB.out)⟩, ⟨by repeat (first | (with_reducible first | exact HM.out | apply Mp.alloc | apply Mp.drewN | apply Mp.drew | refine Mp.far ?_ NM271.out _ | refine Mp.far ?_ NM272.out _) | exact HM.out)⟩⟩
   case rest =>
    clear HC6
    try clear c1
    try clear c2
    try clear c2b0
    try clear c2b1
    try clear p2
    try clear q2
    try clear hx2
    try clear c3
    try clear c3b0
    try clear c4
    try clear c4b0
    try clear c5
    try clear c5b0
    try clear c10
    try clear c12
    try clear c13
    try clear c14
    try clear c16
    try clear hcz11_0
    try clear hcz11_1
    try clear hcz15_0
    try clear hcz15_1
    try clear hcz15_2
    try clear hcz15_3
    try clear hcz15_4
    try clear hcz17_0
    try clear hcz17_1
    try clear hcz17_2
    try clear hcz17_3
    try clear hcz17_4
    try clear hcz8_0
    try clear hcz8_1
    try clear hcz8_2
    try clear hcz8_3
    try clear hcz8_4
    try clear hfz11_0
    try clear hfz11_1
    try clear hfz15_0
    try clear hfz15_1
    try clear hfz15_2
    try clear hfz15_3
    try clear hfz15_4
    try clear hfz17_0
    try clear hfz17_1
    try clear hfz17_2
    try clear hfz17_3
    try clear hfz17_4
    try clear hfz8_0
    try clear hfz8_1
    try clear hfz8_2
    try clear hfz8_3
    try clear hfz8_4
    try clear hx270_0
    try clear hx270_1
    try clear hx270_2
    try clear hx270_3
    try clear hx270_4
    try clear p2
    try clear p270
    try clear q270
    obtain ⟨kq, x22_5, rfl, HA, HJ5, BK271, BK272, HB, HM⟩ := hcut
    cases kq with
    | zero => exact absurd HA.out (by simp [currency_Check.j1])
    | succ kj5 =>
     have H := HA.out
     clear HA
     simp only [currency_Check.j1] at H
     by_cases c18 : x22_5 = true
     ·subst c18
      have H1 : (some 8) = some r := by rw [if_pos rfl] at H; exact H
      clear H
      have H := H1
      clear H1
      obtain rfl := Option.some.inj H
      go_wp2
      go_ret
      exact ⟨by first | rfl | (simp [errW_none, errW_some] <;> rfl) | (simp [*, errW_none, errW_some] <;> rfl), by repeat (first | (with_reducible first | exact HB.out | apply below_alloc | apply pw_below_drewN | apply below_drew1 | refine below_set ?_ GE271.out | refine below_set ?_ GE272.out) | exact HB.out)⟩
     replace c18 := Bool.eq_false_iff.mpr c18
     subst c18
     have H1 : ((currency_isDay.f ((rd_T33 l0 x13_1).f1)).bind fun t274 => (if t274 = true then ((rational_Sign.f kj5 ((rd_T33 l0 x13_1).f2.f0) ((rd_T33 l0 x13_1).f2.f1) ((rd_T33 l0 x13_1).f2.f2)).bind fun t275 => (currency_Check.j2 kj5 l0 l0 (l0.length : Int) x13_1 (decide (t275 ≤ 0)))) else (currency_Check.j2 kj5 l0 l0 (l0.length : Int) x13_1 true))) = some r := by rw [if_neg (show ¬ (false = true) by decide)] at H; exact H
     clear H
     have H := H1
     clear H1
     have HC19 := Aside0.mk H
     clear H
     go_upto_region 10 with (fail)
     go_cut [32] (fun v32 wc => ∃ (kq : Nat) (x32_18 : Bool), v32 = .bool x32_18 ∧ Aside0 (currency_Check.j2 kq l0 l0 (l0.length : Int) x13_1 x32_18 = some r) ∧ Aside0 (kq ≤ kj5) ∧ Aside0 (wc.heap[gb271]? = some (.cells #[.string ((rd_T33 l0 x13_1).f0), .int .i64 ((rd_T33 l0 x13_1).f1), .bool ((rd_T33 l0 x13_1).f2.f0), .string ((rd_T33 l0 x13_1).f2.f1), .string ((rd_T33 l0 x13_1).f2.f2)] 33 (0, 0))) ∧ Aside0 (wc.heap[gb272]? = some (.cells #[.string ((rd_T33 l0 x13_1).f0), .int .i64 ((rd_T33 l0 x13_1).f1)] 54 (0, 0))) ∧ Aside0 (Below w.heap.size w wc) ∧ Aside0 (Mp wc w.heap.size (l0.take x13_1.toNat)))
     case first =>
      have H := HC19.out
      clear HC19
      replace H := Option.bind_eq_some_iff.mp H
      obtain ⟨t274, A200, H⟩ := H
      replace H : (if t274 = true then ((rational_Sign.f kj5 ((rd_T33 l0 x13_1).f2.f0) ((rd_T33 l0 x13_1).f2.f1) ((rd_T33 l0 x13_1).f2.f2)).bind fun t275 => (currency_Check.j2 kj5 l0 l0 (l0.length : Int) x13_1 (decide (t275 ≤ 0)))) else (currency_Check.j2 kj5 l0 l0 (l0.length : Int) x13_1 true)) = some r := H
      have A20 := Aside0.mk A200
      clear A200
      by_cases c21 : t274 = true
      rotate_left
      ·replace c21 := Bool.eq_false_iff.mpr c21
       subst c21
       have H1 : (currency_Check.j2 kj5 l0 l0 (l0.length : Int) x13_1 true) = some r := by rw [if_neg (show ¬ (false = true) by decide)] at H; exact H
       clear H
       have H := H1
       clear H1
       have H' := Aside0.mk H
       clear H
       have hnb26 := NB271_272.out
       have hnc26 := NB272_271.out
       have hcz27_0 : wc.cell? ⟨gb271, 0, none⟩ = some (.string ((rd_T33 l0 x13_1).f0)) := (blk_cell BK271.out 0).trans rfl
       have hcz27_1 : wc.cell? ⟨gb271, 1, none⟩ = some (.int .i64 ((rd_T33 l0 x13_1).f1)) := (blk_cell BK271.out 1).trans rfl
       have hcz27_2 : wc.cell? ⟨gb271, 2, none⟩ = some (.bool ((rd_T33 l0 x13_1).f2.f0)) := (blk_cell BK271.out 2).trans rfl
       have hcz27_3 : wc.cell? ⟨gb271, 3, none⟩ = some (.string ((rd_T33 l0 x13_1).f2.f1)) := (blk_cell BK271.out 3).trans rfl
       have hcz27_4 : wc.cell? ⟨gb271, 4, none⟩ = some (.string ((rd_T33 l0 x13_1).f2.f2)) := (blk_cell BK271.out 4).trans rfl
       have hfz27_0 := blk_frozen BK271.out 0
       have hfz27_1 := blk_frozen BK271.out 1
       have hfz27_2 := blk_frozen BK271.out 2
       have hfz27_3 := blk_frozen BK271.out 3
       have hfz27_4 := blk_frozen BK271.out 4
       go_wp2_with (first | ((with_reducible refine gate_callee (f := 25) rfl ?_); refine goesL_ (some 35) rfl rfl Tryd.func25 (by kernel_rfl) rfl #[.int .i64 ((rd_T33 l0 x13_1).f1)] rfl (by (try simp only [List.map_toArray, List.map_cons, List.map_nil]); first | done | rfl | (simp only [List.length_drop, List.length_take]; rfl)) ?_; (with_reducible refine (currency_isDay.calls ((rd_T33 l0 x13_1).f1) false _ A20.out).mono ?_); rintro e w' ⟨rfl, ⟨nd, rfl⟩⟩; refine ⟨_, rfl, ?_⟩))
       go_meet
       case rel => exact ⟨_, (true), (by first | rfl | (simp; done) | (simp [*]; done)), H', ⟨by have := HK1.out; have := HJ5.out; first | omega | exact Nat.le_refl _⟩, ⟨by (with_reducible repeat (first | refine blk_drewN ?_ _ | refine blk_drew ?_ | refine blk_alloc ?_ _)); exact BK271.out⟩, ⟨by (with_reducible repeat (first | refine blk_drewN ?_ _ | refine blk_drew ?_ | refine blk_alloc ?_ _)); exact BK272.out⟩, ⟨by repeat (first | (with_reducible first | exact HB.out | apply below_alloc | apply pw_below_drewN | apply below_drew1 | refine below_set ?_ GE271.out | refine below_set ?_ GE272.out) | exact HB.out)⟩, ⟨by repeat (first | (with_reducible first | exact HM.out | apply Mp.alloc | apply Mp.drewN | apply Mp.drew | refine Mp.far ?_ NM271.out _ | refine Mp.far ?_ NM272.out _) | exact HM.out)⟩⟩
      subst c21
      have H1 : ((rational_Sign.f kj5 ((rd_T33 l0 x13_1).f2.f0) ((rd_T33 l0 x13_1).f2.f1) ((rd_T33 l0 x13_1).f2.f2)).bind fun t275 => (currency_Check.j2 kj5 l0 l0 (l0.length : Int) x13_1 (decide (t275 ≤ 0)))) = some r := by rw [if_pos rfl] at H; exact H
      clear H
      have H := H1
      clear H1
      replace H := Option.bind_eq_some_iff.mp H
      obtain ⟨t275, A220, H⟩ := H
      replace H : (currency_Check.j2 kj5 l0 l0 (l0.length : Int) x13_1 (decide (t275 ≤ 0))) = some r := H
      have A22 := Aside0.mk A220
      clear A220
      have H' := Aside0.mk H
      clear H
      have hnb23 := NB271_272.out
      have hnc23 := NB272_271.out
      have hcz24_0 : wc.cell? ⟨gb271, 0, none⟩ = some (.string ((rd_T33 l0 x13_1).f0)) := (blk_cell BK271.out 0).trans rfl
      have hcz24_1 : wc.cell? ⟨gb271, 1, none⟩ = some (.int .i64 ((rd_T33 l0 x13_1).f1)) := (blk_cell BK271.out 1).trans rfl
      have hcz24_2 : wc.cell? ⟨gb271, 2, none⟩ = some (.bool ((rd_T33 l0 x13_1).f2.f0)) := (blk_cell BK271.out 2).trans rfl
      have hcz24_3 : wc.cell? ⟨gb271, 3, none⟩ = some (.string ((rd_T33 l0 x13_1).f2.f1)) := (blk_cell BK271.out 3).trans rfl
      have hcz24_4 : wc.cell? ⟨gb271, 4, none⟩ = some (.string ((rd_T33 l0 x13_1).f2.f2)) := (blk_cell BK271.out 4).trans rfl
      have hfz24_0 := blk_frozen BK271.out 0
      have hfz24_1 := blk_frozen BK271.out 1
      have hfz24_2 := blk_frozen BK271.out 2
      have hfz24_3 := blk_frozen BK271.out 3
      have hfz24_4 := blk_frozen BK271.out 4
      go_wp2_with (first | ((with_reducible refine gate_callee (f := 25) rfl ?_); refine goesL_ (some 35) rfl rfl Tryd.func25 (by kernel_rfl) rfl #[.int .i64 ((rd_T33 l0 x13_1).f1)] rfl (by (try simp only [List.map_toArray, List.map_cons, List.map_nil]); first | done | rfl | (simp only [List.length_drop, List.length_take]; rfl)) ?_; (with_reducible refine (currency_isDay.calls ((rd_T33 l0 x13_1).f1) true _ A20.out).mono ?_); rintro e w' ⟨rfl, ⟨nd, rfl⟩⟩; refine ⟨_, rfl, ?_⟩) | (go_at_call 26; (with_reducible refine (rational_Sign.calls kj5 ((rd_T33 l0 x13_1).f2.f0) ((rd_T33 l0 x13_1).f2.f1) ((rd_T33 l0 x13_1).f2.f2) t275 _ A22.out).mono ?_); rintro e w25 ⟨rfl, hb⟩; have hmn_ := Aside0.mk (Mp.below (b := w.heap.size) (l := l0.take x13_1.toNat) (by repeat (first | (with_reducible first | exact HM.out | apply Mp.alloc | apply Mp.drewN | apply Mp.drew | refine Mp.far ?_ NM271.out _ | refine Mp.far ?_ NM272.out _) | exact HM.out)) hb); clear HM; have HM := hmn_; clear hmn_; have n0_ := Aside0.mk (blk_below (g := gb271) (o := .cells #[.string ((rd_T33 l0 x13_1).f0), .int .i64 ((rd_T33 l0 x13_1).f1), .bool ((rd_T33 l0 x13_1).f2.f0), .string ((rd_T33 l0 x13_1).f2.f1), .string ((rd_T33 l0 x13_1).f2.f2)] 33 (0, 0)) (by (with_reducible repeat (first | refine blk_drewN ?_ _ | refine blk_drew ?_ | refine blk_alloc ?_ _)); exact BK271.out) hb); have n1_ := Aside0.mk (blk_below (g := gb272) (o := .cells #[.string ((rd_T33 l0 x13_1).f0), .int .i64 ((rd_T33 l0 x13_1).f1)] 54 (0, 0)) (by (with_reducible repeat (first | refine blk_drewN ?_ _ | refine blk_drew ?_ | refine blk_alloc ?_ _)); exact BK272.out) hb); have n2_ := Aside0.mk (below_step (by repeat (first | (with_reducible first | exact HB.out | apply below_alloc | apply pw_below_drewN | apply below_drew1 | refine below_set ?_ GE271.out | refine below_set ?_ GE272.out) | exact HB.out)) hb); clear BK271; clear BK272; clear HB; have BK271 := n0_; have BK272 := n1_; have HB := n2_; clear n0_ n1_ n2_; (try clear hb); (try clear hb2); (try clear hk); (try clear hi)))
      go_meet
      case rel => exact ⟨_, (decide (t275 ≤ 0)), (by first | rfl | (simp; done) | (simp [*]; done)), H', ⟨by have := HK1.out; have := HJ5.out; first | omega | exact Nat.le_refl _⟩, ⟨by (with_reducible repeat (first | refine blk_drewN ?_ _ | refine blk_drew ?_ | refine blk_alloc ?_ _)); exact BK271.out⟩, ⟨by (with_reducible repeat (first | refine blk_drewN ?_ _ | refine blk_drew ?_ | refine blk_alloc ?_ _)); exact BK272.out⟩, ⟨by repeat (first | (with_reducible first | exact HB.out | apply below_alloc | apply pw_below_drewN | apply below_drew1 | refine below_set ?_ GE271.out | refine below_set ?_ GE272.out) | exact HB.out)⟩, ⟨by repeat (first | (with_reducible first | exact HM.out | apply Mp.alloc | apply Mp.drewN | apply Mp.drew | refine Mp.far ?_ NM271.out _ | refine Mp.far ?_ NM272.out _) | exact HM.out)⟩⟩
     case rest =>
      clear HC19
      try clear c1
      try clear c2
      try clear c2b0
      try clear c2b1
      try clear p2
      try clear q2
      try clear hx2
      try clear c3
      try clear c3b0
      try clear c4
      try clear c4b0
      try clear c5
      try clear c5b0
      try clear c10
      try clear c12
      try clear c13
      try clear c14
      try clear c16
      try clear c18
      try clear c21
      try clear c23
      try clear c24
      try clear c25
      try clear c26
      try clear p27
      try clear q27
      try clear hx27
      try clear hcz11_0
      try clear hcz11_1
      try clear hcz15_0
      try clear hcz15_1
      try clear hcz15_2
      try clear hcz15_3
      try clear hcz15_4
      try clear hcz17_0
      try clear hcz17_1
      try clear hcz17_2
      try clear hcz17_3
      try clear hcz17_4
      try clear hcz24_0
      try clear hcz24_1
      try clear hcz24_2
      try clear hcz24_3
      try clear hcz24_4
      try clear hcz27_0
      try clear hcz27_1
      try clear hcz27_2
      try clear hcz27_3
      try clear hcz27_4
      try clear hcz8_0
      try clear hcz8_1
      try clear hcz8_2
      try clear hcz8_3
      try clear hcz8_4
      try clear hfz11_0
      try clear hfz11_1
      try clear hfz15_0
      try clear hfz15_1
      try clear hfz15_2
      try clear hfz15_3
      try clear hfz15_4
      try clear hfz17_0
      try clear hfz17_1
      try clear hfz17_2
      try clear hfz17_3
      try clear hfz17_4
      try clear hfz24_0
      try clear hfz24_1
      try clear hfz24_2
      try clear hfz24_3
      try clear hfz24_4
      try clear hfz27_0
      try clear hfz27_1
      try clear hfz27_2
      try clear hfz27_3
      try clear hfz27_4
      try clear hfz8_0
      try clear hfz8_1
      try clear hfz8_2
      try clear hfz8_3
      try clear hfz8_4
      try clear hx270_0
      try clear hx270_1
      try clear hx270_2
      try clear hx270_3
      try clear hx270_4
      try clear p2
      try clear p270
      try clear q2
      try clear q270
      obtain ⟨kq, x32_18, rfl, HA, HJ18, BK271, BK272, HB, HM⟩ := hcut
      cases kq with
      | zero => exact absurd HA.out (by simp [currency_Check.j2])
      | succ kj18 =>
       have H := HA.out
       clear HA
       simp only [currency_Check.j2] at H
       by_cases c28 : x32_18 = true
       ·subst c28
        have H1 : (some 1) = some r := by rw [if_pos rfl] at H; exact H
        clear H
        have H := H1
        clear H1
        obtain rfl := Option.some.inj H
        go_wp2
        go_ret
        exact ⟨by first | rfl | (simp [errW_none, errW_some] <;> rfl) | (simp [*, errW_none, errW_some] <;> rfl), by repeat (first | (with_reducible first | exact HB.out | apply below_alloc | apply pw_below_drewN | apply below_drew1 | refine below_set ?_ GE271.out | refine below_set ?_ GE272.out) | exact HB.out)⟩
       replace c28 := Bool.eq_false_iff.mpr c28
       subst c28
       have H1 : ((currency_isDay_has.f l0 x13_1).bind fun t276 => (if t276 = true then (some 12) else (currency_Check.l0 kj18 l0 l0 (l0.length : Int) (wrap64 (x13_1 + 1))))) = some r := by rw [if_neg (show ¬ (false = true) by decide)] at H; exact H
       clear H
       have H := H1
       clear H1
       replace H := Option.bind_eq_some_iff.mp H
       obtain ⟨t276, A290, H⟩ := H
       replace H : (if t276 = true then (some 12) else (currency_Check.l0 kj18 l0 l0 (l0.length : Int) (wrap64 (x13_1 + 1)))) = some r := H
       have A29 := Aside0.mk A290
       clear A290
       by_cases c30 : t276 = true
       ·subst c30
        have H1 : (some 12) = some r := by rw [if_pos rfl] at H; exact H
        clear H
        have H := H1
        clear H1
        obtain rfl := Option.some.inj H
        have hhas_ := Aside0.mk (has_inv A29.out)
        have hczk_0 := (blk_cell BK272.out 0).trans (show _ = some (Value.string ((rd_T33 l0 x13_1).f0)) from rfl)
        have hczk_1 := (blk_cell BK272.out 1).trans (show _ = some (Value.int .i64 ((rd_T33 l0 x13_1).f1)) from rfl)
        go_wp2_with (first | ((with_reducible refine gate_dst (N := 46) rfl ?_); refine Mp.look rfl (N := 46) rfl rfl rfl (by repeat (first | (with_reducible first | exact HM.out | apply Mp.alloc | apply Mp.drewN | apply Mp.drew | refine Mp.far ?_ NM271.out _ | refine Mp.far ?_ NM272.out _) | exact HM.out)) (rd_T33 l0 x13_1) rfl hhas_.out.1 hhas_.out.2.1 ?_) | (at_mapUpdate; refine Mp.put rfl rfl rfl (by repeat (first | (with_reducible first | exact HM.out | apply Mp.alloc | apply Mp.drewN | apply Mp.drew | refine Mp.far ?_ NM271.out _ | refine Mp.far ?_ NM272.out _) | exact HM.out)) (rd_T33 l0 x13_1) rfl rfl hhas_.out.1 (by have := HL256.out; simp only [List.length_take]; omega) ?_; intro wm_ hmm_ hgm_; have n0_ := Aside0.mk (Below.grown (by repeat (first | (with_reducible first | exact HB.out | apply below_alloc | apply pw_below_drewN | apply below_drew1 | refine below_set ?_ GE271.out | refine below_set ?_ GE272.out) | exact HB.out)) hgm_ (below_size (by repeat (first | (with_reducible first | exact HB.out | apply below_alloc | apply pw_below_drewN | apply below_drew1 | refine below_set ?_ GE271.out | refine below_set ?_ GE272.out) | exact HB.out))) (fun k hk => by injection hk with hk; omega)); clear HB; clear HM; have HB := n0_; have HM := Aside0.mk hmm_; clear n0_ hmm_ hgm_))
        go_ret
        exact ⟨by first | rfl | (simp [errW_none, errW_some] <;> rfl) | (simp [*, errW_none, errW_some] <;> rfl), by repeat (first | (with_reducible first | exact HB.out | apply below_alloc | apply pw_below_drewN | apply below_drew1 | refine below_set ?_ GE271.out | refine below_set ?_ GE272.out) | exact HB.out)⟩
       replace c30 := Bool.eq_false_iff.mpr c30
       subst c30
       have H1 : (currency_Check.l0 kj18 l0 l0 (l0.length : Int) (wrap64 (x13_1 + 1))) = some r := by rw [if_neg (show ¬ (false = true) by decide)] at H; exact H
       clear H
       have H := H1
       clear H1
       have H' := Aside0.mk H
       clear H
       have hhas_ := Aside0.mk (has_inv A29.out)
       have hczk_0 := (blk_cell BK272.out 0).trans (show _ = some (Value.string ((rd_T33 l0 x13_1).f0)) from rfl)
       have hczk_1 := (blk_cell BK272.out 1).trans (show _ = some (Value.int .i64 ((rd_T33 l0 x13_1).f1)) from rfl)
       go_wp2_with (first | ((with_reducible refine gate_dst (N := 46) rfl ?_); refine Mp.look rfl (N := 46) rfl rfl rfl (by repeat (first | (with_reducible first | exact HM.out | apply Mp.alloc | apply Mp.drewN | apply Mp.drew | refine Mp.far ?_ NM271.out _ | refine Mp.far ?_ NM272.out _) | exact HM.out)) (rd_T33 l0 x13_1) rfl hhas_.out.1 hhas_.out.2.1 ?_) | (at_mapUpdate; refine Mp.put rfl rfl rfl (by repeat (first | (with_reducible first | exact HM.out | apply Mp.alloc | apply Mp.drewN | apply Mp.drew | refine Mp.far ?_ NM271.out _ | refine Mp.far ?_ NM272.out _) | exact HM.out)) (rd_T33 l0 x13_1) rfl rfl hhas_.out.1 (by have := HL256.out; simp only [List.length_take]; omega) ?_; intro wm_ hmm_ hgm_; have n0_ := Aside0.mk (Below.grown (by repeat (first | (with_reducible first | exact HB.out | apply below_alloc | apply pw_below_drewN | apply below_drew1 | refine below_set ?_ GE271.out | refine below_set ?_ GE272.out) | exact HB.out)) hgm_ (below_size (by repeat (first | (with_reducible first | exact HB.out | apply below_alloc | apply pw_below_drewN | apply below_drew1 | refine below_set ?_ GE271.out | refine below_set ?_ GE272.out) | exact HB.out))) (fun k hk => by injection hk with hk; omega)); clear HB; clear HM; have HB := n0_; have HM := Aside0.mk hmm_; clear n0_ hmm_ hgm_))
       go_roundg kj18
       case measure => have := HK1.out; have := HJ5.out; have := HJ18.out; omega
       case rel => exact ⟨(wrap64 (x13_1 + 1)), (by first | rfl | (simp; done) | (simp [*]; done)), H', ⟨by have := HK1.out; have := HJ5.out; have := HJ18.out; omega⟩, ⟨by repeat (first | (with_reducible first | exact HB.out | apply below_alloc | apply pw_below_drewN | apply below_drew1 | refine below_set ?_ GE271.out | refine below_set ?_ GE272.out) | exact HB.out)⟩, ⟨Mp.next_ HM.out hhas_.out.2.2.1 hhas_.out.2.2.2 HL256.out⟩⟩
end Go.Proofs.YtfnfjmeiaamheaaDoor.PA
namespace Go.Proofs.YtfnfjmeiaamheaaDoor.PA
open Go.RowKit Go.Proofs.YtfnfjmeiaamheaaDoorW.PrintWords Go.Proofs.YtfnfjmeiaamheaaDoorW.PrintLast Go.Proofs.YtfnfjmeiaamheaaDoorW.PrintMore
attribute [local go_sem] max2_int min2_int max_two min_two max_three min_three max_four min_four
def natural_Divide.f (k : Nat) (a0 : ByteArray) (a1 : ByteArray) : Option (ByteArray × ByteArray × Bool) := (natural_parse.f k a1).bind fun t277 => (if (t277.length : Int) = 0 then (some ((⟨#[]⟩ : ByteArray), (⟨#[]⟩ : ByteArray), false)) else ((natural_parse.f k a0).bind fun t280 => ((natural_divide.f k t280 t277).bind fun bt283 => ((natural_limbs_text.f k bt283.1).bind fun t289 => ((natural_limbs_text.f k bt283.2).bind fun t290 => (some (t289, t290, true)))))))
theorem natural_Divide.mono : ∀ a0 a1 k, LeO (natural_Divide.f k a0 a1) (natural_Divide.f (k + 1) a0 a1) := by
 intro a0 a1 k
 unfold natural_Divide.f
 repeat' first
  | (with_reducible exact natural_divide.mono _ _ _)
  | (with_reducible exact natural_limbs_text.mono _ _)
  | (with_reducible exact natural_parse.mono _ _)
  | (with_reducible exact LeO.refl _)
  | (with_reducible exact LeO.none _)
  | (with_reducible refine LeO.ite ?_ ?_)
  | (with_reducible refine LeO.bind ?_ (fun _ => ?_))
  | exact natural_divide.mono _ _ _
  | exact natural_limbs_text.mono _ _
  | exact natural_parse.mono _ _
  | exact LeO.none _
  | refine LeO.ite ?_ ?_
  | refine LeO.bind ?_ (fun _ => ?_)
set_option maxHeartbeats 8000000 in
set_option maxRecDepth 100000 in
theorem natural_Divide.calls (k : Nat) (a0 : ByteArray) (a1 : ByteArray) (r1 : ByteArray) (r2 : ByteArray) (r3 : Bool) (w : World) (h : natural_Divide.f k a0 a1 = some (r1, r2, r3)) :
  Calls Tryd.prog 46 #[.string a0, .string a1] w fun e w' => e = .returned (.tuple #[.string r1, .string r2, .bool r3]) ∧ Below w.heap.size w w' := by
 have HB := Aside0.mk (Below.refl w.heap.size w)
 have H : ((natural_parse.f k a1).bind fun t277 => (if (t277.length : Int) = 0 then (some ((⟨#[]⟩ : ByteArray), (⟨#[]⟩ : ByteArray), false)) else ((natural_parse.f k a0).bind fun t280 => ((natural_divide.f k t280 t277).bind fun bt283 => ((natural_limbs_text.f k bt283.1).bind fun t289 => ((natural_limbs_text.f k bt283.2).bind fun t290 => (some (t289, t290, true)))))))) = some (r1, r2, r3) := h
 clear h
 replace H := Option.bind_eq_some_iff.mp H
 obtain ⟨t277, A30, H⟩ := H
 replace H : (if (t277.length : Int) = 0 then (some ((⟨#[]⟩ : ByteArray), (⟨#[]⟩ : ByteArray), false)) else ((natural_parse.f k a0).bind fun t280 => ((natural_divide.f k t280 t277).bind fun bt283 => ((natural_limbs_text.f k bt283.1).bind fun t289 => ((natural_limbs_text.f k bt283.2).bind fun t290 => (some (t289, t290, true))))))) = some (r1, r2, r3) := H
 have A3 := Aside0.mk A30
 clear A30
 by_cases c4 : (t277.length : Int) = 0
 ·rw [if_pos c4] at H
  have c4b0 : ((t277.length : Int) == 0) = true := beq_iff_eq.mpr c4
  have c4b1 : ((t277.length : Int) != 0) = false := bne_eq_false_iff_eq.mpr c4
  clear c4
  simp only [Option.some.injEq, Prod.mk.injEq] at H
  obtain ⟨rfl, rfl, rfl⟩ := H
  go_enter Tryd.func46, Tryd.ntmps46
  go_wp2_with (first | ((with_reducible refine gate_callee (f := 62) rfl ?_); refine goesL_ (some 11) rfl rfl Tryd.func62 (by kernel_rfl) rfl #[.string a1] rfl (by (try simp only [List.map_toArray, List.map_cons, List.map_nil]); first | done | rfl | (simp only [List.length_drop, List.length_take]; rfl)) ?_; (with_reducible refine (natural_parse.calls k a1 t277 _ A3.out).mono ?_); rintro e w5 ⟨v278, rfl, ho0, hb⟩; refine ⟨_, rfl, ?_⟩; have n0_ := Aside0.mk (Kd.V_lower (Kd.V_mono (ok' := fun k_ => True) ho0 (fun k_ hk_ => trivial)) (below_size (by repeat (first | (with_reducible first | exact HB.out | apply below_alloc | apply pw_below_drewN | apply below_drew1) | exact HB.out)))); have n1_ := Aside0.mk (below_step (by repeat (first | (with_reducible first | exact HB.out | apply below_alloc | apply pw_below_drewN | apply below_drew1) | exact HB.out)) hb); clear HB; have HO279 := n0_; have HB := n1_; clear n0_ n1_; (try clear hb); (try clear hb2); (try clear hk); (try clear hi); (try clear ho0); obtain ⟨Ao6, co6, eo6⟩ := Kd.V_slice HO279.out; subst eo6))
  go_ret3
  exact ⟨by first | rfl | (simp [errW_none, errW_some] <;> rfl) | (simp [*, errW_none, errW_some] <;> rfl), by repeat (first | (with_reducible first | exact HB.out | apply below_alloc | apply pw_below_drewN | apply below_drew1) | exact HB.out)⟩
 rw [if_neg c4] at H
 have c4b0 : ((t277.length : Int) == 0) = false := beq_eq_false_iff_ne.mpr c4
 have c4b1 : ((t277.length : Int) != 0) = true := bne_iff_ne.mpr c4
 have c4b2 : ¬ (t277 = []) := fun h_ => c4 (by rw [h_]; rfl)
 replace H := Option.bind_eq_some_iff.mp H
 obtain ⟨t280, A70, H⟩ := H
 replace H : ((natural_divide.f k t280 t277).bind fun bt283 => ((natural_limbs_text.f k bt283.1).bind fun t289 => ((natural_limbs_text.f k bt283.2).bind fun t290 => (some (t289, t290, true))))) = some (r1, r2, r3) := H
 have A7 := Aside0.mk A70
 clear A70
 replace H := Option.bind_eq_some_iff.mp H
 obtain ⟨⟨t283, t286⟩, A80, H⟩ := H
 replace H : ((natural_limbs_text.f k t283).bind fun t289 => ((natural_limbs_text.f k t286).bind fun t290 => (some (t289, t290, true)))) = some (r1, r2, r3) := H
 have A8 := Aside0.mk A80
 clear A80
 replace H := Option.bind_eq_some_iff.mp H
 obtain ⟨t289, A90, H⟩ := H
 replace H : ((natural_limbs_text.f k t286).bind fun t290 => (some (t289, t290, true))) = some (r1, r2, r3) := H
 have A9 := Aside0.mk A90
 clear A90
 replace H := Option.bind_eq_some_iff.mp H
 obtain ⟨t290, A100, H⟩ := H
 replace H : (some (t289, t290, true)) = some (r1, r2, r3) := H
 have A10 := Aside0.mk A100
 clear A100
 simp only [Option.some.injEq, Prod.mk.injEq] at H
 obtain ⟨rfl, rfl, rfl⟩ := H
 go_enter Tryd.func46, Tryd.ntmps46
 go_wp2_with (first | ((with_reducible refine gate_callee (f := 62) rfl ?_); refine goesL_ (some 11) rfl rfl Tryd.func62 (by kernel_rfl) rfl #[.string a1] rfl (by (try simp only [List.map_toArray, List.map_cons, List.map_nil]); first | done | rfl | (simp only [List.length_drop, List.length_take]; rfl)) ?_; (with_reducible refine (natural_parse.calls k a1 t277 _ A3.out).mono ?_); rintro e w11 ⟨v278, rfl, ho0, hb⟩; refine ⟨_, rfl, ?_⟩; have n0_ := Aside0.mk (Kd.V_lower (Kd.V_mono (ok' := fun k_ => True) ho0 (fun k_ hk_ => trivial)) (below_size (by repeat (first | (with_reducible first | exact HB.out | apply below_alloc | apply pw_below_drewN | apply below_drew1) | exact HB.out)))); have n1_ := Aside0.mk (below_step (by repeat (first | (with_reducible first | exact HB.out | apply below_alloc | apply pw_below_drewN | apply below_drew1) | exact HB.out)) hb); clear HB; have HO279 := n0_; have HB := n1_; clear n0_ n1_; (try clear hb); (try clear hb2); (try clear hk); (try clear hi); (try clear ho0); obtain ⟨Ao12, co12, eo12⟩ := Kd.V_slice HO279.out; subst eo12) | ((with_reducible refine gate_callee (f := 62) rfl ?_); refine goesL_ (some 17) rfl rfl Tryd.func62 (by kernel_rfl) rfl #[.string a0] rfl (by (try simp only [List.map_toArray, List.map_cons, List.map_nil]); first | done | rfl | (simp only [List.length_drop, List.length_take]; rfl)) ?_; (with_reducible refine (natural_parse.calls k a0 t280 _ A7.out).mono ?_); rintro e w13 ⟨v281, rfl, ho0, hb⟩; refine ⟨_, rfl, ?_⟩; have n0_ := Aside0.mk (Kd.V_below (by (with_reducible repeat (first | apply Kd.V_alloc | apply Kd.V_drewN | apply Kd.V_drew)); exact HO279.out) hb); have n1_ := Aside0.mk (Kd.V_lower (Kd.V_mono (ok' := fun k_ => True) ho0 (fun k_ hk_ => trivial)) (below_size (by repeat (first | (with_reducible first | exact HB.out | apply below_alloc | apply pw_below_drewN | apply below_drew1) | exact HB.out)))); have n2_ := Aside0.mk (below_step (by repeat (first | (with_reducible first | exact HB.out | apply below_alloc | apply pw_below_drewN | apply below_drew1) | exact HB.out)) hb); clear HO279; clear HB; have HO279 := n0_; have HO282 := n1_; have HB := n2_; clear n0_ n1_ n2_; (try clear hb); (try clear hb2); (try clear hk); (try clear hi); (try clear ho0); obtain ⟨Ao14, co14, eo14⟩ := Kd.V_slice HO282.out; subst eo14) | ((with_reducible refine gate_callee (f := 63) rfl ?_); refine goesL_ (some 19) rfl rfl Tryd.func63 (by kernel_rfl) rfl #[.slice Ao14 t280.length co14, .slice Ao12 t277.length co12] rfl (by (try simp only [List.map_toArray, List.map_cons, List.map_nil]); first | done | rfl | (simp only [List.length_drop, List.length_take]; rfl)) ?_; (with_reducible refine (natural_divide.calls k (fun k_ => True) _ _ t280 _ _ t277 t283 t286 _ ?side1 ?side2 ?side3 A8.out).mono ?_); (case side1 => exact HO282.out); (case side2 => repeat (first | exact (Kd.V_reads' HO279.out).2.2 | (with_reducible refine Kd.C_alloc ?_ _) | (with_reducible refine Kd.C_drewN ?_ _) | (with_reducible refine Kd.C_drew ?_))); (case side3 => exact (Kd.V_reads' HO279.out).2.1); rintro e w15 ⟨v284, v287, rfl, ho0, ho1, hb⟩; refine ⟨_, rfl, ?_⟩; have n0_ := Aside0.mk (Kd.V_below (by (with_reducible repeat (first | apply Kd.V_alloc | apply Kd.V_drewN | apply Kd.V_drew)); exact HO279.out) hb); have n1_ := Aside0.mk (Kd.V_below (by (with_reducible repeat (first | apply Kd.V_alloc | apply Kd.V_drewN | apply Kd.V_drew)); exact HO282.out) hb); have n2_ := Aside0.mk (Kd.V_lower (Kd.V_mono (ok' := fun k_ => True) ho0 (fun k_ hk_ => trivial)) (below_size (by repeat (first | (with_reducible first | exact HB.out | apply below_alloc | apply pw_below_drewN | apply below_drew1) | exact HB.out)))); have n3_ := Aside0.mk (Kd.V_lower (Kd.V_mono (ok' := fun k_ => True) ho1 (fun k_ hk_ => trivial)) (below_size (by repeat (first | (with_reducible first | exact HB.out | apply below_alloc | apply pw_below_drewN | apply below_drew1) | exact HB.out)))); have n4_ := Aside0.mk (below_step (by repeat (first | (with_reducible first | exact HB.out | apply below_alloc | apply pw_below_drewN | apply below_drew1) | exact HB.out)) hb); clear HO279; clear HO282; clear HB; have HO279 := n0_; have HO282 := n1_; have HO285 := n2_; have HO288 := n3_; have HB := n4_; clear n0_ n1_ n2_ n3_ n4_; (try clear hb); (try clear hb2); (try clear hk); (try clear hi); (try clear ho0); (try clear ho1); obtain ⟨Ao16, co16, eo16⟩ := Kd.V_slice HO285.out; subst eo16) | ((with_reducible refine gate_callee (f := 64) rfl ?_); refine goesL_ (some 23) rfl rfl Tryd.func64 (by kernel_rfl) rfl #[.slice Ao16 t283.length co16] rfl (by (try simp only [List.map_toArray, List.map_cons, List.map_nil]); first | done | rfl | (simp only [List.length_drop, List.length_take]; rfl)) ?_; (with_reducible refine (natural_limbs_text.calls k _ _ t283 t289 _ ?side1 ?side2 A9.out).mono ?_); (case side1 => repeat (first | exact (Kd.V_reads' HO285.out).2.2 | (with_reducible refine Kd.C_alloc ?_ _) | (with_reducible refine Kd.C_drewN ?_ _) | (with_reducible refine Kd.C_drew ?_))); (case side2 => exact (Kd.V_reads' HO285.out).2.1); rintro e w17 ⟨rfl, hb⟩; refine ⟨_, rfl, ?_⟩; have n0_ := Aside0.mk (Kd.V_below (by (with_reducible repeat (first | apply Kd.V_alloc | apply Kd.V_drewN | apply Kd.V_drew)); exact HO279.out) hb); have n1_ := Aside0.mk (Kd.V_below (by (with_reducible repeat (first | apply Kd.V_alloc | apply Kd.V_drewN | apply Kd.V_drew)); exact HO282.out) hb); have n2_ := Aside0.mk (Kd.V_below (by (with_reducible repeat (first | apply Kd.V_alloc | apply Kd.V_drewN | apply Kd.V_drew)); exact HO285.out) hb); have n3_ := Aside0.mk (Kd.V_below (by (with_reducible repeat (first | apply Kd.V_alloc | apply Kd.V_drewN | apply Kd.V_drew)); exact HO288.out) hb); have n4_ := Aside0.mk (below_step (by repeat (first | (with_reducible first | exact HB.out | apply below_alloc | apply pw_below_drewN | apply below_drew1) | exact HB.out)) hb); clear HO279; clear HO282; clear HO285; clear HO288; clear HB; have HO279 := n0_; have HO282 := n1_; have HO285 := n2_; have HO288 := n3_; have HB := n4_; clear n0_ n1_ n2_ n3_ n4_; (try clear hb); (try clear hb2); (try clear hk); (try clear hi); obtain ⟨Ao18, co18, eo18⟩ := Kd.V_slice HO288.out; subst eo18) | ((with_reducible refine gate_callee (f := 64) rfl ?_); refine goesL_ (some 25) rfl rfl Tryd.func64 (by kernel_rfl) rfl #[.slice Ao18 t286.length co18] rfl (by (try simp only [List.map_toArray, List.map_cons, List.map_nil]); first | done | rfl | (simp only [List.length_drop, List.length_take]; rfl)) ?_; (with_reducible refine (natural_limbs_text.calls k _ _ t286 t290 _ ?side1 ?side2 A10.out).mono ?_); (case side1 => repeat (first | exact (Kd.V_reads' HO288.out).2.2 | (with_reducible refine Kd.C_alloc ?_ _) | (with_reducible refine Kd.C_drewN ?_ _) | (with_reducible refine Kd.C_drew ?_))); (case side2 => exact (Kd.V_reads' HO288.out).2.1); rintro e w19 ⟨rfl, hb⟩; refine ⟨_, rfl, ?_⟩; have n0_ := Aside0.mk (Kd.V_below (by (with_reducible repeat (first | apply Kd.V_alloc | apply Kd.V_drewN | apply Kd.V_drew)); exact HO279.out) hb); have n1_ := Aside0.mk (Kd.V_below (by (with_reducible repeat (first | apply Kd.V_alloc | apply Kd.V_drewN | apply Kd.V_drew)); exact HO282.out) hb); have n2_ := Aside0.mk (Kd.V_below (by (with_reducible repeat (first | apply Kd.V_alloc | apply Kd.V_drewN | apply Kd.V_drew)); exact HO285.out) hb); have n3_ := Aside0.mk (Kd.V_below (by (with_reducible repeat (first | apply Kd.V_alloc | apply Kd.V_drewN | apply Kd.V_drew)); exact HO288.out) hb); have n4_ := Aside0.mk (below_step (by repeat (first | (with_reducible first | exact HB.out | apply below_alloc | apply pw_below_drewN | apply below_drew1) | exact HB.out)) hb); clear HO279; clear HO282; clear HO285; clear HO288; clear HB; have HO279 := n0_; have HO282 := n1_; have HO285 := n2_; have HO288 := n3_; have HB := n4_; clear n0_ n1_ n2_ n3_ n4_; (try clear hb); (try clear hb2); (try clear hk); (try clear hi)))
 go_ret3
 exact ⟨by first | rfl | (simp [errW_none, errW_some] <;> rfl) | (simp [*, errW_none, errW_some] <;> rfl), by repeat (first | (with_reducible first | exact HB.out | apply below_alloc | apply pw_below_drewN | apply below_drew1) | exact HB.out)⟩
end Go.Proofs.YtfnfjmeiaamheaaDoor.PA
namespace Go.Proofs.YtfnfjmeiaamheaaDoor.PA
open Go.RowKit Go.Proofs.YtfnfjmeiaamheaaDoorW.PrintWords Go.Proofs.YtfnfjmeiaamheaaDoorW.PrintLast Go.Proofs.YtfnfjmeiaamheaaDoorW.PrintMore
attribute [local go_sem] max2_int min2_int max_two min_two max_three min_three max_four min_four
def rational_reduced.f (k : Nat) (a0 : Bool) (a1 : ByteArray) (a2 : ByteArray) : Option (Bool × ByteArray × ByteArray) := (natural_Normalize.f a1).bind fun t292 => ((natural_Normalize.f a2).bind fun t293 => (if t292.toList = ([] : List UInt8) then (some (false, (⟨#[]⟩ : ByteArray), (⟨#[]⟩ : ByteArray))) else (if t293.toList = ([1] : List UInt8) then (some (a0, t292, (⟨#[]⟩ : ByteArray))) else ((natural_GCD.f k t292 t293).bind fun t294 => (if t294.toList = ([1] : List UInt8) then (some (a0, t292, t293)) else ((natural_Divide.f k t292 t294).bind fun bt295 => ((natural_Divide.f k t293 t294).bind fun bt298 => (if bt298.1.toList = ([1] : List UInt8) then (some (a0, bt295.1, (⟨#[]⟩ : ByteArray))) else (some (a0, bt295.1, bt298.1))))))))))
theorem rational_reduced.mono : ∀ a0 a1 a2 k, LeO (rational_reduced.f k a0 a1 a2) (rational_reduced.f (k + 1) a0 a1 a2) := by
 intro a0 a1 a2 k
 unfold rational_reduced.f
 repeat' first
  | (with_reducible exact natural_Divide.mono _ _ _)
  | (with_reducible exact natural_GCD.mono _ _ _)
  | (with_reducible exact LeO.refl _)
  | (with_reducible exact LeO.none _)
  | (with_reducible refine LeO.ite ?_ ?_)
  | (with_reducible refine LeO.bind ?_ (fun _ => ?_))
  | exact natural_Divide.mono _ _ _
  | exact natural_GCD.mono _ _ _
  | exact LeO.none _
  | refine LeO.ite ?_ ?_
  | refine LeO.bind ?_ (fun _ => ?_)
set_option maxHeartbeats 8000000 in
set_option maxRecDepth 100000 in
theorem rational_reduced.calls (k : Nat) (a0 : Bool) (a1 : ByteArray) (a2 : ByteArray) (r1 : Bool) (r2 : ByteArray) (r3 : ByteArray) (w : World) (h : rational_reduced.f k a0 a1 a2 = some (r1, r2, r3)) :
  Calls Tryd.prog 30 #[.bool a0, .string a1, .string a2] w fun e w' => e = .returned (.agg #[.bool r1, .string r2, .string r3]) ∧ Below w.heap.size w w' := by
 have hu30 := Tryd.underlying30
 have HB := Aside0.mk (Below.refl w.heap.size w)
 have H : ((natural_Normalize.f a1).bind fun t292 => ((natural_Normalize.f a2).bind fun t293 => (if t292.toList = ([] : List UInt8) then (some (false, (⟨#[]⟩ : ByteArray), (⟨#[]⟩ : ByteArray))) else (if t293.toList = ([1] : List UInt8) then (some (a0, t292, (⟨#[]⟩ : ByteArray))) else ((natural_GCD.f k t292 t293).bind fun t294 => (if t294.toList = ([1] : List UInt8) then (some (a0, t292, t293)) else ((natural_Divide.f k t292 t294).bind fun bt295 => ((natural_Divide.f k t293 t294).bind fun bt298 => (if bt298.1.toList = ([1] : List UInt8) then (some (a0, bt295.1, (⟨#[]⟩ : ByteArray))) else (some (a0, bt295.1, bt298.1))))))))))) = some (r1, r2, r3) := h
 clear h
 replace H := Option.bind_eq_some_iff.mp H
 obtain ⟨t292, A40, H⟩ := H
 replace H : ((natural_Normalize.f a2).bind fun t293 => (if t292.toList = ([] : List UInt8) then (some (false, (⟨#[]⟩ : ByteArray), (⟨#[]⟩ : ByteArray))) else (if t293.toList = ([1] : List UInt8) then (some (a0, t292, (⟨#[]⟩ : ByteArray))) else ((natural_GCD.f k t292 t293).bind fun t294 => (if t294.toList = ([1] : List UInt8) then (some (a0, t292, t293)) else ((natural_Divide.f k t292 t294).bind fun bt295 => ((natural_Divide.f k t293 t294).bind fun bt298 => (if bt298.1.toList = ([1] : List UInt8) then (some (a0, bt295.1, (⟨#[]⟩ : ByteArray))) else (some (a0, bt295.1, bt298.1)))))))))) = some (r1, r2, r3) := H
 have A4 := Aside0.mk A40
 clear A40
 replace H := Option.bind_eq_some_iff.mp H
 obtain ⟨t293, A50, H⟩ := H
 replace H : (if t292.toList = ([] : List UInt8) then (some (false, (⟨#[]⟩ : ByteArray), (⟨#[]⟩ : ByteArray))) else (if t293.toList = ([1] : List UInt8) then (some (a0, t292, (⟨#[]⟩ : ByteArray))) else ((natural_GCD.f k t292 t293).bind fun t294 => (if t294.toList = ([1] : List UInt8) then (some (a0, t292, t293)) else ((natural_Divide.f k t292 t294).bind fun bt295 => ((natural_Divide.f k t293 t294).bind fun bt298 => (if bt298.1.toList = ([1] : List UInt8) then (some (a0, bt295.1, (⟨#[]⟩ : ByteArray))) else (some (a0, bt295.1, bt298.1))))))))) = some (r1, r2, r3) := H
 have A5 := Aside0.mk A50
 clear A50
 by_cases c6 : t292.toList = ([] : List UInt8)
 ·rw [if_pos c6] at H
  have c6b0 : (t292.toList == ([] : List UInt8)) = true := beq_iff_eq.mpr c6
  have c6b1 : (t292.toList != ([] : List UInt8)) = false := bne_eq_false_iff_eq.mpr c6
  clear c6
  simp only [Option.some.injEq, Prod.mk.injEq] at H
  obtain ⟨rfl, rfl, rfl⟩ := H
  go_enter Tryd.func30, Tryd.ntmps30
  go_wp2_with (first | ((with_reducible refine gate_dst (N := 6) rfl ?_); refine box_event ?hg (N := 6) ?hd (cs := #[.bool false, .string (⟨#[]⟩ : ByteArray), .string (⟨#[]⟩ : ByteArray)]) (t := 30) ?hr ?_; (case hd => rfl); (case hg => rfl); (case hr => first | (go_simp; done) | (go_simp; rfl)); intro gb291 hg w7 hbox hb; have n0_ := Aside0.mk (below_step (by repeat (first | (with_reducible first | exact HB.out | apply below_alloc | apply pw_below_drewN | apply below_drew1) | exact HB.out)) hb); have n1_ := Aside0.mk (hbox); have n2_ := Aside0.mk ((by rw [hg]; exact (below_size (by repeat (first | (with_reducible first | exact HB.out | apply below_alloc | apply pw_below_drewN | apply below_drew1) | exact HB.out))) : w.heap.size ≤ gb291)); have n3_ := Aside0.mk ((by rw [hg]; exact (below_size (by repeat (first | (with_reducible first | exact HB.out | apply below_alloc | apply pw_below_drewN | apply below_drew1) | exact HB.out))) : w.heap.size ≤ gb291)); clear HB; have HB := n0_; have BK291 := n1_; have GW291 := n2_; have GE291 := n3_; clear n0_ n1_ n2_ n3_; clear hb hbox hg) | ((with_reducible refine gate_callee (f := 44) rfl ?_); refine goesL_ (some 9) rfl rfl Tryd.func44 (by kernel_rfl) rfl #[.string a1] rfl (by (try simp only [List.map_toArray, List.map_cons, List.map_nil]); first | done | rfl | (simp only [List.length_drop, List.length_take]; rfl)) ?_; (with_reducible refine (natural_Normalize.calls a1 t292 _ A4.out).mono ?_); rintro e w' ⟨rfl, ⟨nd, rfl⟩⟩; refine ⟨_, rfl, ?_⟩; (try (rw [drewN_self w7]; generalize hq_ : World.drewN w7 _ = w7; have n0_ : Aside0 (w7.heap[gb291]? = some (.cells #[.bool false, .string (⟨#[]⟩ : ByteArray), .string (⟨#[]⟩ : ByteArray)] 30 (0, 0))) := ⟨by rw [← hq_]; exact (by (with_reducible repeat (first | refine blk_drewN ?_ _ | refine blk_drew ?_ | refine blk_alloc ?_ _)); exact BK291.out)⟩; have n1_ : Aside0 (Below w.heap.size w w7) := ⟨by rw [← hq_]; exact (by repeat (first | (with_reducible first | exact HB.out | apply below_alloc | apply pw_below_drewN | apply below_drew1 | refine below_set ?_ GE291.out) | exact HB.out))⟩; clear BK291 HB hq_; have BK291 := n0_; have HB := n1_; clear n0_ n1_))) | ((with_reducible refine gate_callee (f := 44) rfl ?_); refine goesL_ (some 11) rfl rfl Tryd.func44 (by kernel_rfl) rfl #[.string a2] rfl (by (try simp only [List.map_toArray, List.map_cons, List.map_nil]); first | done | rfl | (simp only [List.length_drop, List.length_take]; rfl)) ?_; (with_reducible refine (natural_Normalize.calls a2 t293 _ A5.out).mono ?_); rintro e w' ⟨rfl, ⟨nd, rfl⟩⟩; refine ⟨_, rfl, ?_⟩; (try (rw [drewN_self w7]; generalize hq_ : World.drewN w7 _ = w7; have n0_ : Aside0 (w7.heap[gb291]? = some (.cells #[.bool false, .string (⟨#[]⟩ : ByteArray), .string (⟨#[]⟩ : ByteArray)] 30 (0, 0))) := ⟨by rw [← hq_]; exact (by (with_reducible repeat (first | refine blk_drewN ?_ _ | refine blk_drew ?_ | refine blk_alloc ?_ _)); exact BK291.out)⟩; have n1_ : Aside0 (Below w.heap.size w w7) := ⟨by rw [← hq_]; exact (by repeat (first | (with_reducible first | exact HB.out | apply below_alloc | apply pw_below_drewN | apply below_drew1 | refine below_set ?_ GE291.out) | exact HB.out))⟩; clear BK291 HB hq_; have BK291 := n0_; have HB := n1_; clear n0_ n1_)); have hcz8_0 : w7.cell? ⟨gb291, 0, none⟩ = some (.bool false) := (blk_cell BK291.out 0).trans rfl; have hcz8_1 : w7.cell? ⟨gb291, 1, none⟩ = some (.string (⟨#[]⟩ : ByteArray)) := (blk_cell BK291.out 1).trans rfl; have hcz8_2 : w7.cell? ⟨gb291, 2, none⟩ = some (.string (⟨#[]⟩ : ByteArray)) := (blk_cell BK291.out 2).trans rfl; have hfz8_0 := blk_frozen BK291.out 0; have hfz8_1 := blk_frozen BK291.out 1; have hfz8_2 := blk_frozen BK291.out 2))
  refine bodyPost_ret (results_cell_row rfl _ _ gb291 30 #[.bool false, .string (⟨#[]⟩ : ByteArray), .string (⟨#[]⟩ : ByteArray)] (0, 0) _ rfl (by (with_reducible repeat (first | refine blk_drewN ?_ _ | refine blk_drew ?_ | refine blk_alloc ?_ _)); refine blk_put (cs := #[.bool false, .string (⟨#[]⟩ : ByteArray), .string (⟨#[]⟩ : ByteArray)]) ?_ 2 _ rfl; (with_reducible repeat (first | refine blk_drewN ?_ _ | refine blk_drew ?_ | refine blk_alloc ?_ _)); refine blk_put (cs := #[.bool false, .string (⟨#[]⟩ : ByteArray), .string (⟨#[]⟩ : ByteArray)]) ?_ 1 _ rfl; (with_reducible repeat (first | refine blk_drewN ?_ _ | refine blk_drew ?_ | refine blk_alloc ?_ _)); refine blk_put (cs := #[.bool false, .string (⟨#[]⟩ : ByteArray), .string (⟨#[]⟩ : ByteArray)]) ?_ 0 _ rfl; (with_reducible repeat (first | refine blk_drewN ?_ _ | refine blk_drew ?_ | refine blk_alloc ?_ _)); exact BK291.out) Tryd.underlying30 rfl (by kernel_rfl)) rfl ?_
  exact ⟨by first | rfl | (simp [errW_none, errW_some] <;> rfl) | (simp [*, errW_none, errW_some] <;> rfl), by repeat (first | (with_reducible first | exact HB.out | apply below_alloc | apply pw_below_drewN | apply below_drew1 | refine below_set ?_ GE291.out) | exact HB.out)⟩
 rw [if_neg c6] at H
 have c6b0 : (t292.toList == ([] : List UInt8)) = false := beq_eq_false_iff_ne.mpr c6
 have c6b1 : (t292.toList != ([] : List UInt8)) = true := bne_iff_ne.mpr c6
 by_cases c9 : t293.toList = ([1] : List UInt8)
 ·rw [if_pos c9] at H
  have c9b0 : (t293.toList == ([1] : List UInt8)) = true := beq_iff_eq.mpr c9
  have c9b1 : (t293.toList != ([1] : List UInt8)) = false := bne_eq_false_iff_eq.mpr c9
  clear c9
  simp only [Option.some.injEq, Prod.mk.injEq] at H
  obtain ⟨rfl, rfl, rfl⟩ := H
  go_enter Tryd.func30, Tryd.ntmps30
  go_wp2_with (first | ((with_reducible refine gate_dst (N := 6) rfl ?_); refine box_event ?hg (N := 6) ?hd (cs := #[.bool false, .string (⟨#[]⟩ : ByteArray), .string (⟨#[]⟩ : ByteArray)]) (t := 30) ?hr ?_; (case hd => rfl); (case hg => rfl); (case hr => first | (go_simp; done) | (go_simp; rfl)); intro gb291 hg w10 hbox hb; have n0_ := Aside0.mk (below_step (by repeat (first | (with_reducible first | exact HB.out | apply below_alloc | apply pw_below_drewN | apply below_drew1) | exact HB.out)) hb); have n1_ := Aside0.mk (hbox); have n2_ := Aside0.mk ((by rw [hg]; exact (below_size (by repeat (first | (with_reducible first | exact HB.out | apply below_alloc | apply pw_below_drewN | apply below_drew1) | exact HB.out))) : w.heap.size ≤ gb291)); have n3_ := Aside0.mk ((by rw [hg]; exact (below_size (by repeat (first | (with_reducible first | exact HB.out | apply below_alloc | apply pw_below_drewN | apply below_drew1) | exact HB.out))) : w.heap.size ≤ gb291)); clear HB; have HB := n0_; have BK291 := n1_; have GW291 := n2_; have GE291 := n3_; clear n0_ n1_ n2_ n3_; clear hb hbox hg) | ((with_reducible refine gate_callee (f := 44) rfl ?_); refine goesL_ (some 9) rfl rfl Tryd.func44 (by kernel_rfl) rfl #[.string a1] rfl (by (try simp only [List.map_toArray, List.map_cons, List.map_nil]); first | done | rfl | (simp only [List.length_drop, List.length_take]; rfl)) ?_; (with_reducible refine (natural_Normalize.calls a1 t292 _ A4.out).mono ?_); rintro e w' ⟨rfl, ⟨nd, rfl⟩⟩; refine ⟨_, rfl, ?_⟩; (try (rw [drewN_self w10]; generalize hq_ : World.drewN w10 _ = w10; have n0_ : Aside0 (w10.heap[gb291]? = some (.cells #[.bool false, .string (⟨#[]⟩ : ByteArray), .string (⟨#[]⟩ : ByteArray)] 30 (0, 0))) := ⟨by rw [← hq_]; exact (by (with_reducible repeat (first | refine blk_drewN ?_ _ | refine blk_drew ?_ | refine blk_alloc ?_ _)); exact BK291.out)⟩; have n1_ : Aside0 (Below w.heap.size w w10) := ⟨by rw [← hq_]; exact (by repeat (first | (with_reducible first | exact HB.out | apply below_alloc | apply pw_below_drewN | apply below_drew1 | refine below_set ?_ GE291.out) | exact HB.out))⟩; clear BK291 HB hq_; have BK291 := n0_; have HB := n1_; clear n0_ n1_))) | ((with_reducible refine gate_callee (f := 44) rfl ?_); refine goesL_ (some 11) rfl rfl Tryd.func44 (by kernel_rfl) rfl #[.string a2] rfl (by (try simp only [List.map_toArray, List.map_cons, List.map_nil]); first | done | rfl | (simp only [List.length_drop, List.length_take]; rfl)) ?_; (with_reducible refine (natural_Normalize.calls a2 t293 _ A5.out).mono ?_); rintro e w' ⟨rfl, ⟨nd, rfl⟩⟩; refine ⟨_, rfl, ?_⟩; (try (rw [drewN_self w10]; generalize hq_ : World.drewN w10 _ = w10; have n0_ : Aside0 (w10.heap[gb291]? = some (.cells #[.bool false, .string (⟨#[]⟩ : ByteArray), .string (⟨#[]⟩ : ByteArray)] 30 (0, 0))) := ⟨by rw [← hq_]; exact (by (with_reducible repeat (first | refine blk_drewN ?_ _ | refine blk_drew ?_ | refine blk_alloc ?_ _)); exact BK291.out)⟩; have n1_ : Aside0 (Below w.heap.size w w10) := ⟨by rw [← hq_]; exact (by repeat (first | (with_reducible first | exact HB.out | apply below_alloc | apply pw_below_drewN | apply below_drew1 | refine below_set ?_ GE291.out) | exact HB.out))⟩; clear BK291 HB hq_; have BK291 := n0_; have HB := n1_; clear n0_ n1_)); have hcz11_0 : w10.cell? ⟨gb291, 0, none⟩ = some (.bool false) := (blk_cell BK291.out 0).trans rfl; have hcz11_1 : w10.cell? ⟨gb291, 1, none⟩ = some (.string (⟨#[]⟩ : ByteArray)) := (blk_cell BK291.out 1).trans rfl; have hcz11_2 : w10.cell? ⟨gb291, 2, none⟩ = some (.string (⟨#[]⟩ : ByteArray)) := (blk_cell BK291.out 2).trans rfl; have hfz11_0 := blk_frozen BK291.out 0; have hfz11_1 := blk_frozen BK291.out 1; have hfz11_2 := blk_frozen BK291.out 2))
  refine bodyPost_ret (results_cell_row rfl _ _ gb291 30 #[.bool a0, .string t292, .string (⟨#[]⟩ : ByteArray)] (0, 0) _ rfl (by (with_reducible repeat (first | refine blk_drewN ?_ _ | refine blk_drew ?_ | refine blk_alloc ?_ _)); refine blk_put (cs := #[.bool a0, .string t292, .string (⟨#[]⟩ : ByteArray)]) ?_ 2 _ rfl; (with_reducible repeat (first | refine blk_drewN ?_ _ | refine blk_drew ?_ | refine blk_alloc ?_ _)); refine blk_put (cs := #[.bool a0, .string (⟨#[]⟩ : ByteArray), .string (⟨#[]⟩ : ByteArray)]) ?_ 1 _ rfl; (with_reducible repeat (first | refine blk_drewN ?_ _ | refine blk_drew ?_ | refine blk_alloc ?_ _)); refine blk_put (cs := #[.bool false, .string (⟨#[]⟩ : ByteArray), .string (⟨#[]⟩ : ByteArray)]) ?_ 0 _ rfl; (with_reducible repeat (first | refine blk_drewN ?_ _ | refine blk_drew ?_ | refine blk_alloc ?_ _)); exact BK291.out) Tryd.underlying30 rfl (by kernel_rfl)) rfl ?_
  exact ⟨by first | rfl | (simp [errW_none, errW_some] <;> rfl) | (simp [*, errW_none, errW_some] <;> rfl), by repeat (first | (with_reducible first | exact HB.out | apply below_alloc | apply pw_below_drewN | apply below_drew1 | refine below_set ?_ GE291.out) | exact HB.out)⟩
 rw [if_neg c9] at H
 have c9b0 : (t293.toList == ([1] : List UInt8)) = false := beq_eq_false_iff_ne.mpr c9
 have c9b1 : (t293.toList != ([1] : List UInt8)) = true := bne_iff_ne.mpr c9
 replace H := Option.bind_eq_some_iff.mp H
 obtain ⟨t294, A120, H⟩ := H
 replace H : (if t294.toList = ([1] : List UInt8) then (some (a0, t292, t293)) else ((natural_Divide.f k t292 t294).bind fun bt295 => ((natural_Divide.f k t293 t294).bind fun bt298 => (if bt298.1.toList = ([1] : List UInt8) then (some (a0, bt295.1, (⟨#[]⟩ : ByteArray))) else (some (a0, bt295.1, bt298.1)))))) = some (r1, r2, r3) := H
 have A12 := Aside0.mk A120
 clear A120
 by_cases c13 : t294.toList = ([1] : List UInt8)
 ·rw [if_pos c13] at H
  have c13b0 : (t294.toList == ([1] : List UInt8)) = true := beq_iff_eq.mpr c13
  have c13b1 : (t294.toList != ([1] : List UInt8)) = false := bne_eq_false_iff_eq.mpr c13
  clear c13
  simp only [Option.some.injEq, Prod.mk.injEq] at H
  obtain ⟨rfl, rfl, rfl⟩ := H
  go_enter Tryd.func30, Tryd.ntmps30
  go_wp2_with (first | ((with_reducible refine gate_dst (N := 6) rfl ?_); refine box_event ?hg (N := 6) ?hd (cs := #[.bool false, .string (⟨#[]⟩ : ByteArray), .string (⟨#[]⟩ : ByteArray)]) (t := 30) ?hr ?_; (case hd => rfl); (case hg => rfl); (case hr => first | (go_simp; done) | (go_simp; rfl)); intro gb291 hg w14 hbox hb; have n0_ := Aside0.mk (below_step (by repeat (first | (with_reducible first | exact HB.out | apply below_alloc | apply pw_below_drewN | apply below_drew1) | exact HB.out)) hb); have n1_ := Aside0.mk (hbox); have n2_ := Aside0.mk ((by rw [hg]; exact (below_size (by repeat (first | (with_reducible first | exact HB.out | apply below_alloc | apply pw_below_drewN | apply below_drew1) | exact HB.out))) : w.heap.size ≤ gb291)); have n3_ := Aside0.mk ((by rw [hg]; exact (below_size (by repeat (first | (with_reducible first | exact HB.out | apply below_alloc | apply pw_below_drewN | apply below_drew1) | exact HB.out))) : w.heap.size ≤ gb291)); clear HB; have HB := n0_; have BK291 := n1_; have GW291 := n2_; have GE291 := n3_; clear n0_ n1_ n2_ n3_; clear hb hbox hg) | ((with_reducible refine gate_callee (f := 44) rfl ?_); refine goesL_ (some 9) rfl rfl Tryd.func44 (by kernel_rfl) rfl #[.string a1] rfl (by (try simp only [List.map_toArray, List.map_cons, List.map_nil]); first | done | rfl | (simp only [List.length_drop, List.length_take]; rfl)) ?_; (with_reducible refine (natural_Normalize.calls a1 t292 _ A4.out).mono ?_); rintro e w' ⟨rfl, ⟨nd, rfl⟩⟩; refine ⟨_, rfl, ?_⟩; (try (rw [drewN_self w14]; generalize hq_ : World.drewN w14 _ = w14; have n0_ : Aside0 (w14.heap[gb291]? = some (.cells #[.bool false, .string (⟨#[]⟩ : ByteArray), .string (⟨#[]⟩ : ByteArray)] 30 (0, 0))) := ⟨by rw [← hq_]; exact (by (with_reducible repeat (first | refine blk_drewN ?_ _ | refine blk_drew ?_ | refine blk_alloc ?_ _)); exact BK291.out)⟩; have n1_ : Aside0 (Below w.heap.size w w14) := ⟨by rw [← hq_]; exact (by repeat (first | (with_reducible first | exact HB.out | apply below_alloc | apply pw_below_drewN | apply below_drew1 | refine below_set ?_ GE291.out) | exact HB.out))⟩; clear BK291 HB hq_; have BK291 := n0_; have HB := n1_; clear n0_ n1_))) | ((with_reducible refine gate_callee (f := 44) rfl ?_); refine goesL_ (some 11) rfl rfl Tryd.func44 (by kernel_rfl) rfl #[.string a2] rfl (by (try simp only [List.map_toArray, List.map_cons, List.map_nil]); first | done | rfl | (simp only [List.length_drop, List.length_take]; rfl)) ?_; (with_reducible refine (natural_Normalize.calls a2 t293 _ A5.out).mono ?_); rintro e w' ⟨rfl, ⟨nd, rfl⟩⟩; refine ⟨_, rfl, ?_⟩; (try (rw [drewN_self w14]; generalize hq_ : World.drewN w14 _ = w14; have n0_ : Aside0 (w14.heap[gb291]? = some (.cells #[.bool false, .string (⟨#[]⟩ : ByteArray), .string (⟨#[]⟩ : ByteArray)] 30 (0, 0))) := ⟨by rw [← hq_]; exact (by (with_reducible repeat (first | refine blk_drewN ?_ _ | refine blk_drew ?_ | refine blk_alloc ?_ _)); exact BK291.out)⟩; have n1_ : Aside0 (Below w.heap.size w w14) := ⟨by rw [← hq_]; exact (by repeat (first | (with_reducible first | exact HB.out | apply below_alloc | apply pw_below_drewN | apply below_drew1 | refine below_set ?_ GE291.out) | exact HB.out))⟩; clear BK291 HB hq_; have BK291 := n0_; have HB := n1_; clear n0_ n1_))) | ((with_reducible refine gate_callee (f := 45) rfl ?_); refine goesL_ (some 19) rfl rfl Tryd.func45 (by kernel_rfl) rfl #[.string t292, .string t293] rfl (by (try simp only [List.map_toArray, List.map_cons, List.map_nil]); first | done | rfl | (simp only [List.length_drop, List.length_take]; rfl)) ?_; (with_reducible refine (natural_GCD.calls k t292 t293 t294 _ A12.out).mono ?_); rintro e w15 ⟨rfl, hb⟩; refine ⟨_, rfl, ?_⟩; have n0_ := Aside0.mk (blk_below (g := gb291) (o := .cells #[.bool false, .string (⟨#[]⟩ : ByteArray), .string (⟨#[]⟩ : ByteArray)] 30 (0, 0)) (by (with_reducible repeat (first | refine blk_drewN ?_ _ | refine blk_drew ?_ | refine blk_alloc ?_ _)); exact BK291.out) hb); have n1_ := Aside0.mk (below_step (by repeat (first | (with_reducible first | exact HB.out | apply below_alloc | apply pw_below_drewN | apply below_drew1 | refine below_set ?_ GE291.out) | exact HB.out)) hb); clear BK291; clear HB; have BK291 := n0_; have HB := n1_; clear n0_ n1_; (try clear hb); (try clear hb2); (try clear hk); (try clear hi); have hcz16_0 : w15.cell? ⟨gb291, 0, none⟩ = some (.bool false) := (blk_cell BK291.out 0).trans rfl; have hcz16_1 : w15.cell? ⟨gb291, 1, none⟩ = some (.string (⟨#[]⟩ : ByteArray)) := (blk_cell BK291.out 1).trans rfl; have hcz16_2 : w15.cell? ⟨gb291, 2, none⟩ = some (.string (⟨#[]⟩ : ByteArray)) := (blk_cell BK291.out 2).trans rfl; have hfz16_0 := blk_frozen BK291.out 0; have hfz16_1 := blk_frozen BK291.out 1; have hfz16_2 := blk_frozen BK291.out 2))
  refine bodyPost_ret (results_cell_row rfl _ _ gb291 30 #[.bool a0, .string t292, .string t293] (0, 0) _ rfl (by (with_reducible repeat (first | refine blk_drewN ?_ _ | refine blk_drew ?_ | refine blk_alloc ?_ _)); refine blk_put (cs := #[.bool a0, .string t292, .string (⟨#[]⟩ : ByteArray)]) ?_ 2 _ rfl; (with_reducible repeat (first | refine blk_drewN ?_ _ | refine blk_drew ?_ | refine blk_alloc ?_ _)); refine blk_put (cs := #[.bool a0, .string (⟨#[]⟩ : ByteArray), .string (⟨#[]⟩ : ByteArray)]) ?_ 1 _ rfl; (with_reducible repeat (first | refine blk_drewN ?_ _ | refine blk_drew ?_ | refine blk_alloc ?_ _)); refine blk_put (cs := #[.bool false, .string (⟨#[]⟩ : ByteArray), .string (⟨#[]⟩ : ByteArray)]) ?_ 0 _ rfl; (with_reducible repeat (first | refine blk_drewN ?_ _ | refine blk_drew ?_ | refine blk_alloc ?_ _)); exact BK291.out) Tryd.underlying30 rfl (by kernel_rfl)) rfl ?_
  exact ⟨by first | rfl | (simp [errW_none, errW_some] <;> rfl) | (simp [*, errW_none, errW_some] <;> rfl), by repeat (first | (with_reducible first | exact HB.out | apply below_alloc | apply pw_below_drewN | apply below_drew1 | refine below_set ?_ GE291.out) | exact HB.out)⟩
 rw [if_neg c13] at H
 have c13b0 : (t294.toList == ([1] : List UInt8)) = false := beq_eq_false_iff_ne.mpr c13
 have c13b1 : (t294.toList != ([1] : List UInt8)) = true := bne_iff_ne.mpr c13
 replace H := Option.bind_eq_some_iff.mp H
 obtain ⟨⟨t295, t296, t297⟩, A170, H⟩ := H
 replace H : ((natural_Divide.f k t293 t294).bind fun bt298 => (if bt298.1.toList = ([1] : List UInt8) then (some (a0, t295, (⟨#[]⟩ : ByteArray))) else (some (a0, t295, bt298.1)))) = some (r1, r2, r3) := H
 have A17 := Aside0.mk A170
 clear A170
 replace H := Option.bind_eq_some_iff.mp H
 obtain ⟨⟨t298, t299, t300⟩, A180, H⟩ := H
 replace H : (if t298.toList = ([1] : List UInt8) then (some (a0, t295, (⟨#[]⟩ : ByteArray))) else (some (a0, t295, t298))) = some (r1, r2, r3) := H
 have A18 := Aside0.mk A180
 clear A180
 by_cases c19 : t298.toList = ([1] : List UInt8)
 rotate_left
 ·rw [if_neg c19] at H
  have c19b0 : (t298.toList == ([1] : List UInt8)) = false := beq_eq_false_iff_ne.mpr c19
  have c19b1 : (t298.toList != ([1] : List UInt8)) = true := bne_iff_ne.mpr c19
  simp only [Option.some.injEq, Prod.mk.injEq] at H
  obtain ⟨rfl, rfl, rfl⟩ := H
  go_enter Tryd.func30, Tryd.ntmps30
  go_wp2_with (first | ((with_reducible refine gate_dst (N := 6) rfl ?_); refine box_event ?hg (N := 6) ?hd (cs := #[.bool false, .string (⟨#[]⟩ : ByteArray), .string (⟨#[]⟩ : ByteArray)]) (t := 30) ?hr ?_; (case hd => rfl); (case hg => rfl); (case hr => first | (go_simp; done) | (go_simp; rfl)); intro gb291 hg w25 hbox hb; have n0_ := Aside0.mk (below_step (by repeat (first | (with_reducible first | exact HB.out | apply below_alloc | apply pw_below_drewN | apply below_drew1) | exact HB.out)) hb); have n1_ := Aside0.mk (hbox); have n2_ := Aside0.mk ((by rw [hg]; exact (below_size (by repeat (first | (with_reducible first | exact HB.out | apply below_alloc | apply pw_below_drewN | apply below_drew1) | exact HB.out))) : w.heap.size ≤ gb291)); have n3_ := Aside0.mk ((by rw [hg]; exact (below_size (by repeat (first | (with_reducible first | exact HB.out | apply below_alloc | apply pw_below_drewN | apply below_drew1) | exact HB.out))) : w.heap.size ≤ gb291)); clear HB; have HB := n0_; have BK291 := n1_; have GW291 := n2_; have GE291 := n3_; clear n0_ n1_ n2_ n3_; clear hb hbox hg) | ((with_reducible refine gate_callee (f := 44) rfl ?_); refine goesL_ (some 9) rfl rfl Tryd.func44 (by kernel_rfl) rfl #[.string a1] rfl (by (try simp only [List.map_toArray, List.map_cons, List.map_nil]); first | done | rfl | (simp only [List.length_drop, List.length_take]; rfl)) ?_; (with_reducible refine (natural_Normalize.calls a1 t292 _ A4.out).mono ?_); rintro e w' ⟨rfl, ⟨nd, rfl⟩⟩; refine ⟨_, rfl, ?_⟩; (try (rw [drewN_self w25]; generalize hq_ : World.drewN w25 _ = w25; have n0_ : Aside0 (w25.heap[gb291]? = some (.cells #[.bool false, .string (⟨#[]⟩ : ByteArray), .string (⟨#[]⟩ : ByteArray)] 30 (0, 0))) := ⟨by rw [← hq_]; exact (by (with_reducible repeat (first | refine blk_drewN ?_ _ | refine blk_drew ?_ | refine blk_alloc ?_ _)); exact BK291.out)⟩; have n1_ : Aside0 (Below w.heap.size w w25) := ⟨by rw [← hq_]; exact (by repeat (first | (with_reducible first | exact HB.out | apply below_alloc | apply pw_below_drewN | apply below_drew1 | refine below_set ?_ GE291.out) | exact HB.out))⟩; clear BK291 HB hq_; have BK291 := n0_; have HB := n1_; clear n0_ n1_))) | ((with_reducible refine gate_callee (f := 44) rfl ?_); refine goesL_ (some 11) rfl rfl Tryd.func44 (by kernel_rfl) rfl #[.string a2] rfl (by (try simp only [List.map_toArray, List.map_cons, List.map_nil]); first | done | rfl | (simp only [List.length_drop, List.length_take]; rfl)) ?_; (with_reducible refine (natural_Normalize.calls a2 t293 _ A5.out).mono ?_); rintro e w' ⟨rfl, ⟨nd, rfl⟩⟩; refine ⟨_, rfl, ?_⟩; (try (rw [drewN_self w25]; generalize hq_ : World.drewN w25 _ = w25; have n0_ : Aside0 (w25.heap[gb291]? = some (.cells #[.bool false, .string (⟨#[]⟩ : ByteArray), .string (⟨#[]⟩ : ByteArray)] 30 (0, 0))) := ⟨by rw [← hq_]; exact (by (with_reducible repeat (first | refine blk_drewN ?_ _ | refine blk_drew ?_ | refine blk_alloc ?_ _)); exact BK291.out)⟩; have n1_ : Aside0 (Below w.heap.size w w25) := ⟨by rw [← hq_]; exact (by repeat (first | (with_reducible first | exact HB.out | apply below_alloc | apply pw_below_drewN | apply below_drew1 | refine below_set ?_ GE291.out) | exact HB.out))⟩; clear BK291 HB hq_; have BK291 := n0_; have HB := n1_; clear n0_ n1_))) | ((with_reducible refine gate_callee (f := 45) rfl ?_); refine goesL_ (some 19) rfl rfl Tryd.func45 (by kernel_rfl) rfl #[.string t292, .string t293] rfl (by (try simp only [List.map_toArray, List.map_cons, List.map_nil]); first | done | rfl | (simp only [List.length_drop, List.length_take]; rfl)) ?_; (with_reducible refine (natural_GCD.calls k t292 t293 t294 _ A12.out).mono ?_); rintro e w26 ⟨rfl, hb⟩; refine ⟨_, rfl, ?_⟩; have n0_ := Aside0.mk (blk_below (g := gb291) (o := .cells #[.bool false, .string (⟨#[]⟩ : ByteArray), .string (⟨#[]⟩ : ByteArray)] 30 (0, 0)) (by (with_reducible repeat (first | refine blk_drewN ?_ _ | refine blk_drew ?_ | refine blk_alloc ?_ _)); exact BK291.out) hb); have n1_ := Aside0.mk (below_step (by repeat (first | (with_reducible first | exact HB.out | apply below_alloc | apply pw_below_drewN | apply below_drew1 | refine below_set ?_ GE291.out) | exact HB.out)) hb); clear BK291; clear HB; have BK291 := n0_; have HB := n1_; clear n0_ n1_; (try clear hb); (try clear hb2); (try clear hk); (try clear hi)) | ((with_reducible refine gate_callee (f := 46) rfl ?_); refine goesL_ (some 25) rfl rfl Tryd.func46 (by kernel_rfl) rfl #[.string t292, .string t294] rfl (by (try simp only [List.map_toArray, List.map_cons, List.map_nil]); first | done | rfl | (simp only [List.length_drop, List.length_take]; rfl)) ?_; (with_reducible refine (natural_Divide.calls k t292 t294 t295 t296 t297 _ A17.out).mono ?_); rintro e w27 ⟨rfl, hb⟩; refine ⟨_, rfl, ?_⟩; have n0_ := Aside0.mk (blk_below (g := gb291) (o := .cells #[.bool false, .string (⟨#[]⟩ : ByteArray), .string (⟨#[]⟩ : ByteArray)] 30 (0, 0)) (by (with_reducible repeat (first | refine blk_drewN ?_ _ | refine blk_drew ?_ | refine blk_alloc ?_ _)); exact BK291.out) hb); have n1_ := Aside0.mk (below_step (by repeat (first | (with_reducible first | exact HB.out | apply below_alloc | apply pw_below_drewN | apply below_drew1 | refine below_set ?_ GE291.out) | exact HB.out)) hb); clear BK291; clear HB; have BK291 := n0_; have HB := n1_; clear n0_ n1_; (try clear hb); (try clear hb2); (try clear hk); (try clear hi)) | ((with_reducible refine gate_callee (f := 46) rfl ?_); refine goesL_ (some 32) rfl rfl Tryd.func46 (by kernel_rfl) rfl #[.string t293, .string t294] rfl (by (try simp only [List.map_toArray, List.map_cons, List.map_nil]); first | done | rfl | (simp only [List.length_drop, List.length_take]; rfl)) ?_; (with_reducible refine (natural_Divide.calls k t293 t294 t298 t299 t300 _ A18.out).mono ?_); rintro e w28 ⟨rfl, hb⟩; refine ⟨_, rfl, ?_⟩; have n0_ := Aside0.mk (blk_below (g := gb291) (o := .cells #[.bool false, .string (⟨#[]⟩ : ByteArray), .string (⟨#[]⟩ : ByteArray)] 30 (0, 0)) (by (with_reducible repeat (first | refine blk_drewN ?_ _ | refine blk_drew ?_ | refine blk_alloc ?_ _)); exact BK291.out) hb); have n1_ := Aside0.mk (below_step (by repeat (first | (with_reducible first | exact HB.out | apply below_alloc | apply pw_below_drewN | apply below_drew1 | refine below_set ?_ GE291.out) | exact HB.out)) hb); clear BK291; clear HB; have BK291 := n0_; have HB := n1_; clear n0_ n1_; (try clear hb); (try clear hb2); (try clear hk); (try clear hi); have hcz29_0 : w28.cell? ⟨gb291, 0, none⟩ = some (.bool false) := (blk_cell BK291.out 0).trans rfl; have hcz29_1 : w28.cell? ⟨gb291, 1, none⟩ = some (.string (⟨#[]⟩ : ByteArray)) := (blk_cell BK291.out 1).trans rfl; have hcz29_2 : w28.cell? ⟨gb291, 2, none⟩ = some (.string (⟨#[]⟩ : ByteArray)) := (blk_cell BK291.out 2).trans rfl; have hfz29_0 := blk_frozen BK291.out 0; have hfz29_1 := blk_frozen BK291.out 1; have hfz29_2 := blk_frozen BK291.out 2))
  refine bodyPost_ret (results_cell_row rfl _ _ gb291 30 #[.bool a0, .string t295, .string t298] (0, 0) _ rfl (by (with_reducible repeat (first | refine blk_drewN ?_ _ | refine blk_drew ?_ | refine blk_alloc ?_ _)); refine blk_put (cs := #[.bool a0, .string t295, .string (⟨#[]⟩ : ByteArray)]) ?_ 2 _ rfl; (with_reducible repeat (first | refine blk_drewN ?_ _ | refine blk_drew ?_ | refine blk_alloc ?_ _)); refine blk_put (cs := #[.bool a0, .string (⟨#[]⟩ : ByteArray), .string (⟨#[]⟩ : ByteArray)]) ?_ 1 _ rfl; (with_reducible repeat (first | refine blk_drewN ?_ _ | refine blk_drew ?_ | refine blk_alloc ?_ _)); refine blk_put (cs := #[.bool false, .string (⟨#[]⟩ : ByteArray), .string (⟨#[]⟩ : ByteArray)]) ?_ 0 _ rfl; (with_reducible repeat (first | refine blk_drewN ?_ _ | refine blk_drew ?_ | refine blk_alloc ?_ _)); exact BK291.out) Tryd.underlying30 rfl (by kernel_rfl)) rfl ?_
  exact ⟨by first | rfl | (simp [errW_none, errW_some] <;> rfl) | (simp [*, errW_none, errW_some] <;> rfl), by repeat (first | (with_reducible first | exact HB.out | apply below_alloc | apply pw_below_drewN | apply below_drew1 | refine below_set ?_ GE291.out) | exact HB.out)⟩
 rw [if_pos c19] at H
 have c19b0 : (t298.toList == ([1] : List UInt8)) = true := beq_iff_eq.mpr c19
 have c19b1 : (t298.toList != ([1] : List UInt8)) = false := bne_eq_false_iff_eq.mpr c19
 clear c19
 simp only [Option.some.injEq, Prod.mk.injEq] at H
 obtain ⟨rfl, rfl, rfl⟩ := H
 go_enter Tryd.func30, Tryd.ntmps30
 go_wp2_with (first | ((with_reducible refine gate_dst (N := 6) rfl ?_); refine box_event ?hg (N := 6) ?hd (cs := #[.bool false, .string (⟨#[]⟩ : ByteArray), .string (⟨#[]⟩ : ByteArray)]) (t := 30) ?hr ?_; (case hd => rfl); (case hg => rfl); (case hr => first | (go_simp; done) | (go_simp; rfl)); intro gb291 hg w20 hbox hb; have n0_ := Aside0.mk (below_step (by repeat (first | (with_reducible first | exact HB.out | apply below_alloc | apply pw_below_drewN | apply below_drew1) | exact HB.out)) hb); have n1_ := Aside0.mk (hbox); have n2_ := Aside0.mk ((by rw [hg]; exact (below_size (by repeat (first | (with_reducible first | exact HB.out | apply below_alloc | apply pw_below_drewN | apply below_drew1) | exact HB.out))) : w.heap.size ≤ gb291)); have n3_ := Aside0.mk ((by rw [hg]; exact (below_size (by repeat (first | (with_reducible first | exact HB.out | apply below_alloc | apply pw_below_drewN | apply below_drew1) | exact HB.out))) : w.heap.size ≤ gb291)); clear HB; have HB := n0_; have BK291 := n1_; have GW291 := n2_; have GE291 := n3_; clear n0_ n1_ n2_ n3_; clear hb hbox hg) | ((with_reducible refine gate_callee (f := 44) rfl ?_); refine goesL_ (some 9) rfl rfl Tryd.func44 (by kernel_rfl) rfl #[.string a1] rfl (by (try simp only [List.map_toArray, List.map_cons, List.map_nil]); first | done | rfl | (simp only [List.length_drop, List.length_take]; rfl)) ?_; (with_reducible refine (natural_Normalize.calls a1 t292 _ A4.out).mono ?_); rintro e w' ⟨rfl, ⟨nd, rfl⟩⟩; refine ⟨_, rfl, ?_⟩; (try (rw [drewN_self w20]; generalize hq_ : World.drewN w20 _ = w20; have n0_ : Aside0 (w20.heap[gb291]? = some (.cells #[.bool false, .string (⟨#[]⟩ : ByteArray), .string (⟨#[]⟩ : ByteArray)] 30 (0, 0))) := ⟨by rw [← hq_]; exact (by (with_reducible repeat (first | refine blk_drewN ?_ _ | refine blk_drew ?_ | refine blk_alloc ?_ _)); exact BK291.out)⟩; have n1_ : Aside0 (Below w.heap.size w w20) := ⟨by rw [← hq_]; exact (by repeat (first | (with_reducible first | exact HB.out | apply below_alloc | apply pw_below_drewN | apply below_drew1 | refine below_set ?_ GE291.out) | exact HB.out))⟩; clear BK291 HB hq_; have BK291 := n0_; have HB := n1_; clear n0_ n1_))) | ((with_reducible refine gate_callee (f := 44) rfl ?_); refine goesL_ (some 11) rfl rfl Tryd.func44 (by kernel_rfl) rfl #[.string a2] rfl (by (try simp only [List.map_toArray, List.map_cons, List.map_nil]); first | done | rfl | (simp only [List.length_drop, List.length_take]; rfl)) ?_; (with_reducible refine (natural_Normalize.calls a2 t293 _ A5.out).mono ?_); rintro e w' ⟨rfl, ⟨nd, rfl⟩⟩; refine ⟨_, rfl, ?_⟩; (try (rw [drewN_self w20]; generalize hq_ : World.drewN w20 _ = w20; have n0_ : Aside0 (w20.heap[gb291]? = some (.cells #[.bool false, .string (⟨#[]⟩ : ByteArray), .string (⟨#[]⟩ : ByteArray)] 30 (0, 0))) := ⟨by rw [← hq_]; exact (by (with_reducible repeat (first | refine blk_drewN ?_ _ | refine blk_drew ?_ | refine blk_alloc ?_ _)); exact BK291.out)⟩; have n1_ : Aside0 (Below w.heap.size w w20) := ⟨by rw [← hq_]; exact (by repeat (first | (with_reducible first | exact HB.out | apply below_alloc | apply pw_below_drewN | apply below_drew1 | refine below_set ?_ GE291.out) | exact HB.out))⟩; clear BK291 HB hq_; have BK291 := n0_; have HB := n1_; clear n0_ n1_))) | ((with_reducible refine gate_callee (f := 45) rfl ?_); refine goesL_ (some 19) rfl rfl Tryd.func45 (by kernel_rfl) rfl #[.string t292, .string t293] rfl (by (try simp only [List.map_toArray, List.map_cons, List.map_nil]); first | done | rfl | (simp only [List.length_drop, List.length_take]; rfl)) ?_; (with_reducible refine (natural_GCD.calls k t292 t293 t294 _ A12.out).mono ?_); rintro e w21 ⟨rfl, hb⟩; refine ⟨_, rfl, ?_⟩; have n0_ := Aside0.mk (blk_below (g := gb291) (o := .cells #[.bool false, .string (⟨#[]⟩ : ByteArray), .string (⟨#[]⟩ : ByteArray)] 30 (0, 0)) (by (with_reducible repeat (first | refine blk_drewN ?_ _ | refine blk_drew ?_ | refine blk_alloc ?_ _)); exact BK291.out) hb); have n1_ := Aside0.mk (below_step (by repeat (first | (with_reducible first | exact HB.out | apply below_alloc | apply pw_below_drewN | apply below_drew1 | refine below_set ?_ GE291.out) | exact HB.out)) hb); clear BK291; clear HB; have BK291 := n0_; have HB := n1_; clear n0_ n1_; (try clear hb); (try clear hb2); (try clear hk); (try clear hi)) | ((with_reducible refine gate_callee (f := 46) rfl ?_); refine goesL_ (some 25) rfl rfl Tryd.func46 (by kernel_rfl) rfl #[.string t292, .string t294] rfl (by (try simp only [List.map_toArray, List.map_cons, List.map_nil]); first | done | rfl | (simp only [List.length_drop, List.length_take]; rfl)) ?_; (with_reducible refine (natural_Divide.calls k t292 t294 t295 t296 t297 _ A17.out).mono ?_); rintro e w22 ⟨rfl, hb⟩; refine ⟨_, rfl, ?_⟩; have n0_ := Aside0.mk (blk_below (g := gb291) (o := .cells #[.bool false, .string (⟨#[]⟩ : ByteArray), .string (⟨#[]⟩ : ByteArray)] 30 (0, 0)) (by (with_reducible repeat (first | refine blk_drewN ?_ _ | refine blk_drew ?_ | refine blk_alloc ?_ _)); exact BK291.out) hb); have n1_ := Aside0.mk (below_step (by repeat (first | (with_reducible first | exact HB.out | apply below_alloc | apply pw_below_drewN | apply below_drew1 | refine below_set ?_ GE291.out) | exact HB.out)) hb); clear BK291; clear HB; have BK291 := n0_; have HB := n1_; clear n0_ n1_; (try clear hb); (try clear hb2); (try clear hk); (try clear hi)) | ((with_reducible refine gate_callee (f := 46) rfl ?_); refine goesL_ (some 32) rfl rfl Tryd.func46 (by kernel_rfl) rfl #[.string t293, .string t294] rfl (by (try simp only [List.map_toArray, List.map_cons, List.map_nil]); first | done | rfl | (simp only [List.length_drop, List.length_take]; rfl)) ?_; (with_reducible refine (natural_Divide.calls k t293 t294 t298 t299 t300 _ A18.out).mono ?_); rintro e w23 ⟨rfl, hb⟩; refine ⟨_, rfl, ?_⟩; have n0_ := Aside0.mk (blk_below (g := gb291) (o := .cells #[.bool false, .string (⟨#[]⟩ : ByteArray), .string (⟨#[]⟩ : ByteArray)] 30 (0, 0)) (by (with_reducible repeat (first | refine blk_drewN ?_ _ | refine blk_drew ?_ | refine blk_alloc ?_ _)); exact BK291.out) hb); have n1_ := Aside0.mk (below_step (by repeat (first | (with_reducible first | exact HB.out | apply below_alloc | apply pw_below_drewN | apply below_drew1 | refine below_set ?_ GE291.out) | exact HB.out)) hb); clear BK291; clear HB; have BK291 := n0_; have HB := n1_; clear n0_ n1_; (try clear hb); (try clear hb2); (try clear hk); (try clear hi); have hcz24_0 : w23.cell? ⟨gb291, 0, none⟩ = some (.bool false) := (blk_cell BK291.out 0).trans rfl; have hcz24_1 : w23.cell? ⟨gb291, 1, none⟩ = some (.string (⟨#[]⟩ : ByteArray)) := (blk_cell BK291.out 1).trans rfl; have hcz24_2 : w23.cell? ⟨gb291, 2, none⟩ = some (.string (⟨#[]⟩ : ByteArray)) := (blk_cell BK291.out 2).trans rfl; have hfz24_0 := blk_frozen BK291.out 0; have hfz24_1 := blk_frozen BK291.out 1; have hfz24_2 := blk_frozen BK291.out 2))
 refine bodyPost_ret (results_cell_row rfl _ _ gb291 30 #[.bool a0, .string t295, .string (⟨#[]⟩ : ByteArray)] (0, 0) _ rfl (by (with_reducible repeat (first | refine blk_drewN ?_ _ | refine blk_drew ?_ | refine blk_alloc ?_ _)); refine blk_put (cs := #[.bool a0, .string t295, .string (⟨#[]⟩ : ByteArray)]) ?_ 2 _ rfl; (with_reducible repeat (first | refine blk_drewN ?_ _ | refine blk_drew ?_ | refine blk_alloc ?_ _)); refine blk_put (cs := #[.bool a0, .string (⟨#[]⟩ : ByteArray), .string (⟨#[]⟩ : ByteArray)]) ?_ 1 _ rfl; (with_reducible repeat (first | refine blk_drewN ?_ _ | refine blk_drew ?_ | refine blk_alloc ?_ _)); refine blk_put (cs := #[.bool false, .string (⟨#[]⟩ : ByteArray), .string (⟨#[]⟩ : ByteArray)]) ?_ 0 _ rfl; (with_reducible repeat (first | refine blk_drewN ?_ _ | refine blk_drew ?_ | refine blk_alloc ?_ _)); exact BK291.out) Tryd.underlying30 rfl (by kernel_rfl)) rfl ?_
 exact ⟨by first | rfl | (simp [errW_none, errW_some] <;> rfl) | (simp [*, errW_none, errW_some] <;> rfl), by repeat (first | (with_reducible first | exact HB.out | apply below_alloc | apply pw_below_drewN | apply below_drew1 | refine below_set ?_ GE291.out) | exact HB.out)⟩
end Go.Proofs.YtfnfjmeiaamheaaDoor.PA
