/- CurrencyMany returns true at every input: exactly the lists of at most 256 quotes are accepted. The tables of unicode/utf8 lie as the program's text lays them. -/
import Derived.Test.YtfnfjmeiaamheaaDoorMany6
import Derived.Test.YtfnfjmeiaamheaaDoorTie
import Derived.Test.YtfnfjmeiaamheaaDoorCards
import Derived.ProofKit
import Derived.OpenShut
import Derived.ShutString
import Derived.ChangeOld
import Derived.SizedLaws
import Derived.Lay
import Derived.SevenTiedAt
set_option linter.unusedVariables false
set_option linter.unusedSimpArgs false
namespace Go.Proofs.YtfnfjmeiaamheaaDoor.PA
open Go.RowKit Go.Proofs.YtfnfjmeiaamheaaDoorW.PrintWords Go.Proofs.YtfnfjmeiaamheaaDoorW.PrintLast Go.Proofs.YtfnfjmeiaamheaaDoorW.PrintMore
attribute [local go_sem] max2_int min2_int max_two min_two max_three min_three max_four min_four
def insolvencyref1_Make.f (k : Nat) (a0 : Bool) (a1 : ByteArray) (a2 : ByteArray) : Option (Bool × ByteArray × ByteArray × Bool) := (insolvencyref1_limbs.f k a2).bind fun t486 => (if (t486.length : Int) = 0 then (some (false, (⟨#[]⟩ : ByteArray), (⟨#[]⟩ : ByteArray), false)) else ((insolvencyref1_limbs.f k a1).bind fun t489 => ((insolvencyref1_reduced.f k a0 t489 t486).bind fun bt492 => (some (bt492.1, bt492.2.1, bt492.2.2, true)))))
theorem insolvencyref1_Make.mono : ∀ a0 a1 a2 k, LeO (insolvencyref1_Make.f k a0 a1 a2) (insolvencyref1_Make.f (k + 1) a0 a1 a2) := by
 intro a0 a1 a2 k
 unfold insolvencyref1_Make.f
 repeat' first
  | (with_reducible exact insolvencyref1_limbs.mono _ _)
  | (with_reducible exact insolvencyref1_reduced.mono _ _ _ _)
  | (with_reducible exact LeO.refl _)
  | (with_reducible exact LeO.none _)
  | (with_reducible refine LeO.ite ?_ ?_)
  | (with_reducible refine LeO.bind ?_ (fun _ => ?_))
  | exact insolvencyref1_limbs.mono _ _
  | exact insolvencyref1_reduced.mono _ _ _ _
  | exact LeO.none _
  | refine LeO.ite ?_ ?_
  | refine LeO.bind ?_ (fun _ => ?_)
set_option maxHeartbeats 8000000 in
set_option maxRecDepth 100000 in
theorem insolvencyref1_Make.calls (k : Nat) (a0 : Bool) (a1 : ByteArray) (a2 : ByteArray) (r1 : Bool) (r2 : ByteArray) (r3 : ByteArray) (r4 : Bool) (w : World) (h : insolvencyref1_Make.f k a0 a1 a2 = some (r1, r2, r3, r4)) :
  Calls Tryd.prog 57 #[.bool a0, .string a1, .string a2] w fun e w' => e = .returned (.tuple #[.agg #[.bool r1, .string r2, .string r3], .bool r4]) ∧ Below w.heap.size w w' := by
 have hu30 := Tryd.underlying30
 have HB := Aside0.mk (Below.refl w.heap.size w)
 have H : ((insolvencyref1_limbs.f k a2).bind fun t486 => (if (t486.length : Int) = 0 then (some (false, (⟨#[]⟩ : ByteArray), (⟨#[]⟩ : ByteArray), false)) else ((insolvencyref1_limbs.f k a1).bind fun t489 => ((insolvencyref1_reduced.f k a0 t489 t486).bind fun bt492 => (some (bt492.1, bt492.2.1, bt492.2.2, true)))))) = some (r1, r2, r3, r4) := h
 clear h
 replace H := Option.bind_eq_some_iff.mp H
 obtain ⟨t486, A40, H⟩ := H
 replace H : (if (t486.length : Int) = 0 then (some (false, (⟨#[]⟩ : ByteArray), (⟨#[]⟩ : ByteArray), false)) else ((insolvencyref1_limbs.f k a1).bind fun t489 => ((insolvencyref1_reduced.f k a0 t489 t486).bind fun bt492 => (some (bt492.1, bt492.2.1, bt492.2.2, true))))) = some (r1, r2, r3, r4) := H
 have A4 := Aside0.mk A40
 clear A40
 by_cases c5 : (t486.length : Int) = 0
 ·rw [if_pos c5] at H
  have c5b0 : ((t486.length : Int) == 0) = true := beq_iff_eq.mpr c5
  have c5b1 : ((t486.length : Int) != 0) = false := bne_eq_false_iff_eq.mpr c5
  clear c5
  simp only [Option.some.injEq, Prod.mk.injEq] at H
  obtain ⟨rfl, rfl, rfl, rfl⟩ := H
  go_enter Tryd.func57, Tryd.ntmps57
  go_wp2_with (first | ((with_reducible refine gate_dst (N := 6) rfl ?_); refine box_event ?hg (N := 6) ?hd (cs := #[.bool false, .string (⟨#[]⟩ : ByteArray), .string (⟨#[]⟩ : ByteArray)]) (t := 30) ?hr ?_; (case hd => rfl); (case hg => rfl); (case hr => first | (go_simp; done) | (go_simp; rfl)); intro gb485 hg w6 hbox hb; have n0_ := Aside0.mk (below_step (by repeat (first | (with_reducible first | exact HB.out | apply below_alloc | apply pw_below_drewN | apply below_drew1) | exact HB.out)) hb); have n1_ := Aside0.mk (hbox); have n2_ := Aside0.mk ((by rw [hg]; exact (below_size (by repeat (first | (with_reducible first | exact HB.out | apply below_alloc | apply pw_below_drewN | apply below_drew1) | exact HB.out))) : w.heap.size ≤ gb485)); have n3_ := Aside0.mk ((by rw [hg]; exact (below_size (by repeat (first | (with_reducible first | exact HB.out | apply below_alloc | apply pw_below_drewN | apply below_drew1) | exact HB.out))) : w.heap.size ≤ gb485)); clear HB; have HB := n0_; have BK485 := n1_; have GW485 := n2_; have GE485 := n3_; clear n0_ n1_ n2_ n3_; clear hb hbox hg) | ((with_reducible refine gate_callee (f := 53) rfl ?_); refine goesL_ (some 10) rfl rfl Tryd.func53 (by kernel_rfl) rfl #[.string a2] rfl (by (try simp only [List.map_toArray, List.map_cons, List.map_nil]); first | done | rfl | (simp only [List.length_drop, List.length_take]; rfl)) ?_; (with_reducible refine (insolvencyref1_limbs.calls k a2 t486 _ A4.out).mono ?_); rintro e w7 ⟨v487, rfl, ho0, hb⟩; refine ⟨_, rfl, ?_⟩; have n0_ := Aside0.mk (Kd.R_lower ho0 (below_size (by repeat (first | (with_reducible first | exact HB.out | apply below_alloc | apply pw_below_drewN | apply below_drew1 | refine below_set ?_ GE485.out) | exact HB.out)))); have n1_ := Aside0.mk (blk_below (g := gb485) (o := .cells #[.bool false, .string (⟨#[]⟩ : ByteArray), .string (⟨#[]⟩ : ByteArray)] 30 (0, 0)) (by (with_reducible repeat (first | refine blk_drewN ?_ _ | refine blk_drew ?_ | refine blk_alloc ?_ _)); exact BK485.out) hb); have n2_ := Aside0.mk (below_step (by repeat (first | (with_reducible first | exact HB.out | apply below_alloc | apply pw_below_drewN | apply below_drew1 | refine below_set ?_ GE485.out) | exact HB.out)) hb); clear BK485; clear HB; have HO488 := n0_; have BK485 := n1_; have HB := n2_; clear n0_ n1_ n2_; (try clear hb); (try clear hb2); (try clear hk); (try clear hi); (try clear ho0); obtain ⟨Ao8, co8, eo8⟩ := Kd.R_slice HO488.out; subst eo8; have hcz9_0 : w7.cell? ⟨gb485, 0, none⟩ = some (.bool false) := (blk_cell BK485.out 0).trans rfl; have hcz9_1 : w7.cell? ⟨gb485, 1, none⟩ = some (.string (⟨#[]⟩ : ByteArray)) := (blk_cell BK485.out 1).trans rfl; have hcz9_2 : w7.cell? ⟨gb485, 2, none⟩ = some (.string (⟨#[]⟩ : ByteArray)) := (blk_cell BK485.out 2).trans rfl; have hfz9_0 := blk_frozen BK485.out 0; have hfz9_1 := blk_frozen BK485.out 1; have hfz9_2 := blk_frozen BK485.out 2))
  refine bodyPost_ret (results_ct rfl _ _ gb485 30 #[.bool false, .string (⟨#[]⟩ : ByteArray), .string (⟨#[]⟩ : ByteArray)] (0, 0) _ rfl (by (with_reducible repeat (first | refine blk_drewN ?_ _ | refine blk_drew ?_ | refine blk_alloc ?_ _)); refine blk_put (cs := #[.bool false, .string (⟨#[]⟩ : ByteArray), .string (⟨#[]⟩ : ByteArray)]) ?_ 2 _ rfl; (with_reducible repeat (first | refine blk_drewN ?_ _ | refine blk_drew ?_ | refine blk_alloc ?_ _)); refine blk_put (cs := #[.bool false, .string (⟨#[]⟩ : ByteArray), .string (⟨#[]⟩ : ByteArray)]) ?_ 1 _ rfl; (with_reducible repeat (first | refine blk_drewN ?_ _ | refine blk_drew ?_ | refine blk_alloc ?_ _)); refine blk_put (cs := #[.bool false, .string (⟨#[]⟩ : ByteArray), .string (⟨#[]⟩ : ByteArray)]) ?_ 0 _ rfl; (with_reducible repeat (first | refine blk_drewN ?_ _ | refine blk_drew ?_ | refine blk_alloc ?_ _)); exact BK485.out) Tryd.underlying30 rfl (by kernel_rfl)) rfl ?_
  exact ⟨by first | rfl | (simp [errW_none, errW_some] <;> rfl) | (simp [*, errW_none, errW_some] <;> rfl), by repeat (first | (with_reducible first | exact HB.out | apply below_alloc | apply pw_below_drewN | apply below_drew1 | refine below_set ?_ GE485.out) | exact HB.out)⟩
 rw [if_neg c5] at H
 have c5b0 : ((t486.length : Int) == 0) = false := beq_eq_false_iff_ne.mpr c5
 have c5b1 : ((t486.length : Int) != 0) = true := bne_iff_ne.mpr c5
 have c5b2 : ¬ (t486 = []) := fun h_ => c5 (by rw [h_]; rfl)
 replace H := Option.bind_eq_some_iff.mp H
 obtain ⟨t489, A100, H⟩ := H
 replace H : ((insolvencyref1_reduced.f k a0 t489 t486).bind fun bt492 => (some (bt492.1, bt492.2.1, bt492.2.2, true))) = some (r1, r2, r3, r4) := H
 have A10 := Aside0.mk A100
 clear A100
 replace H := Option.bind_eq_some_iff.mp H
 obtain ⟨⟨t492, t493, t494⟩, A110, H⟩ := H
 replace H : (some (t492, t493, t494, true)) = some (r1, r2, r3, r4) := H
 have A11 := Aside0.mk A110
 clear A110
 simp only [Option.some.injEq, Prod.mk.injEq] at H
 obtain ⟨rfl, rfl, rfl, rfl⟩ := H
 go_enter Tryd.func57, Tryd.ntmps57
 go_wp2_with (first | ((with_reducible refine gate_dst (N := 6) rfl ?_); refine box_event ?hg (N := 6) ?hd (cs := #[.bool false, .string (⟨#[]⟩ : ByteArray), .string (⟨#[]⟩ : ByteArray)]) (t := 30) ?hr ?_; (case hd => rfl); (case hg => rfl); (case hr => first | (go_simp; done) | (go_simp; rfl)); intro gb485 hg w12 hbox hb; have n0_ := Aside0.mk (below_step (by repeat (first | (with_reducible first | exact HB.out | apply below_alloc | apply pw_below_drewN | apply below_drew1) | exact HB.out)) hb); have n1_ := Aside0.mk (hbox); have n2_ := Aside0.mk ((by rw [hg]; exact (below_size (by repeat (first | (with_reducible first | exact HB.out | apply below_alloc | apply pw_below_drewN | apply below_drew1) | exact HB.out))) : w.heap.size ≤ gb485)); have n3_ := Aside0.mk ((by rw [hg]; exact (below_size (by repeat (first | (with_reducible first | exact HB.out | apply below_alloc | apply pw_below_drewN | apply below_drew1) | exact HB.out))) : w.heap.size ≤ gb485)); clear HB; have HB := n0_; have BK485 := n1_; have GW485 := n2_; have GE485 := n3_; clear n0_ n1_ n2_ n3_; clear hb hbox hg) | ((with_reducible refine gate_callee (f := 53) rfl ?_); refine goesL_ (some 10) rfl rfl Tryd.func53 (by kernel_rfl) rfl #[.string a2] rfl (by (try simp only [List.map_toArray, List.map_cons, List.map_nil]); first | done | rfl | (simp only [List.length_drop, List.length_take]; rfl)) ?_; (with_reducible refine (insolvencyref1_limbs.calls k a2 t486 _ A4.out).mono ?_); rintro e w13 ⟨v487, rfl, ho0, hb⟩; refine ⟨_, rfl, ?_⟩; have n0_ := Aside0.mk (Kd.R_lower ho0 (below_size (by repeat (first | (with_reducible first | exact HB.out | apply below_alloc | apply pw_below_drewN | apply below_drew1 | refine below_set ?_ GE485.out) | exact HB.out)))); have n1_ := Aside0.mk (blk_below (g := gb485) (o := .cells #[.bool false, .string (⟨#[]⟩ : ByteArray), .string (⟨#[]⟩ : ByteArray)] 30 (0, 0)) (by (with_reducible repeat (first | refine blk_drewN ?_ _ | refine blk_drew ?_ | refine blk_alloc ?_ _)); exact BK485.out) hb); have n2_ := Aside0.mk (below_step (by repeat (first | (with_reducible first | exact HB.out | apply below_alloc | apply pw_below_drewN | apply below_drew1 | refine below_set ?_ GE485.out) | exact HB.out)) hb); clear BK485; clear HB; have HO488 := n0_; have BK485 := n1_; have HB := n2_; clear n0_ n1_ n2_; (try clear hb); (try clear hb2); (try clear hk); (try clear hi); (try clear ho0); obtain ⟨Ao14, co14, eo14⟩ := Kd.R_slice HO488.out; subst eo14) | ((with_reducible refine gate_callee (f := 53) rfl ?_); refine goesL_ (some 17) rfl rfl Tryd.func53 (by kernel_rfl) rfl #[.string a1] rfl (by (try simp only [List.map_toArray, List.map_cons, List.map_nil]); first | done | rfl | (simp only [List.length_drop, List.length_take]; rfl)) ?_; (with_reducible refine (insolvencyref1_limbs.calls k a1 t489 _ A10.out).mono ?_); rintro e w15 ⟨v490, rfl, ho0, hb⟩; refine ⟨_, rfl, ?_⟩; have n0_ := Aside0.mk (Kd.R_elder' (by (with_reducible repeat (first | apply Kd.R_alloc | apply Kd.R_drewN | apply Kd.R_drew)); exact HO488.out) (Kd.R_base ho0) hb); have n1_ := Aside0.mk (Kd.R_lower (Kd.R_new' ho0 (Kd.R_lt (by (with_reducible repeat (first | apply Kd.R_alloc | apply Kd.R_drewN | apply Kd.R_drew)); exact HO488.out))) (below_size (by repeat (first | (with_reducible first | exact HB.out | apply below_alloc | apply pw_below_drewN | apply below_drew1 | refine below_set ?_ GE485.out) | exact HB.out)))); have n2_ := Aside0.mk (blk_below (g := gb485) (o := .cells #[.bool false, .string (⟨#[]⟩ : ByteArray), .string (⟨#[]⟩ : ByteArray)] 30 (0, 0)) (by (with_reducible repeat (first | refine blk_drewN ?_ _ | refine blk_drew ?_ | refine blk_alloc ?_ _)); exact BK485.out) hb); have n3_ := Aside0.mk (below_step (by repeat (first | (with_reducible first | exact HB.out | apply below_alloc | apply pw_below_drewN | apply below_drew1 | refine below_set ?_ GE485.out) | exact HB.out)) hb); clear HO488; clear BK485; clear HB; have HO488 := n0_; have HO491 := n1_; have BK485 := n2_; have HB := n3_; clear n0_ n1_ n2_ n3_; (try clear hb); (try clear hb2); (try clear hk); (try clear hi); (try clear ho0); obtain ⟨Ao16, co16, eo16⟩ := Kd.R_slice HO491.out; subst eo16) | ((with_reducible refine gate_callee (f := 51) rfl ?_); refine goesL_ (some 19) rfl rfl Tryd.func51 (by kernel_rfl) rfl #[.bool a0, .slice Ao16 t489.length co16, .slice Ao14 t486.length co14] rfl (by (try simp only [List.map_toArray, List.map_cons, List.map_nil]); first | done | rfl | (simp only [List.length_drop, List.length_take]; rfl)) ?_; (with_reducible refine (insolvencyref1_reduced.calls k a0 _ _ t489 _ _ t486 t492 t493 t494 _ ?side1 ?side2 ?side3 ?side4 A11.out).mono ?_); (case side1 => repeat (first | exact (Kd.R_reads' HO491.out).2.2 | (with_reducible refine Kd.C_alloc ?_ _) | (with_reducible refine Kd.C_drewN ?_ _) | (with_reducible refine Kd.C_drew ?_))); (case side2 => exact (Kd.R_reads' HO491.out).2.1); (case side3 => repeat (first | exact (Kd.R_reads' HO488.out).2.2 | (with_reducible refine Kd.C_alloc ?_ _) | (with_reducible refine Kd.C_drewN ?_ _) | (with_reducible refine Kd.C_drew ?_))); (case side4 => exact (Kd.R_reads' HO488.out).2.1); rintro e w17 ⟨rfl, hb⟩; refine ⟨_, rfl, ?_⟩; have n0_ := Aside0.mk (Kd.R_below (by (with_reducible repeat (first | apply Kd.R_alloc | apply Kd.R_drewN | apply Kd.R_drew)); exact HO488.out) hb); have n1_ := Aside0.mk (Kd.R_below (by (with_reducible repeat (first | apply Kd.R_alloc | apply Kd.R_drewN | apply Kd.R_drew)); exact HO491.out) hb); have n2_ := Aside0.mk (blk_below (g := gb485) (o := .cells #[.bool false, .string (⟨#[]⟩ : ByteArray), .string (⟨#[]⟩ : ByteArray)] 30 (0, 0)) (by (with_reducible repeat (first | refine blk_drewN ?_ _ | refine blk_drew ?_ | refine blk_alloc ?_ _)); exact BK485.out) hb); have n3_ := Aside0.mk (below_step (by repeat (first | (with_reducible first | exact HB.out | apply below_alloc | apply pw_below_drewN | apply below_drew1 | refine below_set ?_ GE485.out) | exact HB.out)) hb); clear HO488; clear HO491; clear BK485; clear HB; have HO488 := n0_; have HO491 := n1_; have BK485 := n2_; have HB := n3_; clear n0_ n1_ n2_ n3_; (try clear hb); (try clear hb2); (try clear hk); (try clear hi); have hcz18_0 : w17.cell? ⟨gb485, 0, none⟩ = some (.bool false) := (blk_cell BK485.out 0).trans rfl; have hcz18_1 : w17.cell? ⟨gb485, 1, none⟩ = some (.string (⟨#[]⟩ : ByteArray)) := (blk_cell BK485.out 1).trans rfl; have hcz18_2 : w17.cell? ⟨gb485, 2, none⟩ = some (.string (⟨#[]⟩ : ByteArray)) := (blk_cell BK485.out 2).trans rfl; have hfz18_0 := blk_frozen BK485.out 0; have hfz18_1 := blk_frozen BK485.out 1; have hfz18_2 := blk_frozen BK485.out 2))
 refine bodyPost_ret (results_ct rfl _ _ gb485 30 #[.bool t492, .string t493, .string t494] (0, 0) _ rfl (by (with_reducible repeat (first | refine blk_drewN ?_ _ | refine blk_drew ?_ | refine blk_alloc ?_ _)); refine blk_put (cs := #[.bool t492, .string t493, .string (⟨#[]⟩ : ByteArray)]) ?_ 2 _ rfl; (with_reducible repeat (first | refine blk_drewN ?_ _ | refine blk_drew ?_ | refine blk_alloc ?_ _)); refine blk_put (cs := #[.bool t492, .string (⟨#[]⟩ : ByteArray), .string (⟨#[]⟩ : ByteArray)]) ?_ 1 _ rfl; (with_reducible repeat (first | refine blk_drewN ?_ _ | refine blk_drew ?_ | refine blk_alloc ?_ _)); refine blk_put (cs := #[.bool false, .string (⟨#[]⟩ : ByteArray), .string (⟨#[]⟩ : ByteArray)]) ?_ 0 _ rfl; (with_reducible repeat (first | refine blk_drewN ?_ _ | refine blk_drew ?_ | refine blk_alloc ?_ _)); exact BK485.out) Tryd.underlying30 rfl (by kernel_rfl)) rfl ?_
 exact ⟨by first | rfl | (simp [errW_none, errW_some] <;> rfl) | (simp [*, errW_none, errW_some] <;> rfl), by repeat (first | (with_reducible first | exact HB.out | apply below_alloc | apply pw_below_drewN | apply below_drew1 | refine below_set ?_ GE485.out) | exact HB.out)⟩
end Go.Proofs.YtfnfjmeiaamheaaDoor.PA
namespace Go.Proofs.YtfnfjmeiaamheaaDoor.PA
open Go.RowKit Go.Proofs.YtfnfjmeiaamheaaDoorW.PrintWords Go.Proofs.YtfnfjmeiaamheaaDoorW.PrintLast Go.Proofs.YtfnfjmeiaamheaaDoorW.PrintMore
attribute [local go_sem] max2_int min2_int max_two min_two max_three min_three max_four min_four
def insolvencyref1_FromUint.f (k : Nat) (a0 : Int) : Option (ByteArray) := (insolvencyref1_text.f k (([(a0) % 4294967296, (a0 / 4294967296) % 4294967296] : List Int))).bind fun t498 => (some t498)
theorem insolvencyref1_FromUint.mono : ∀ a0 k, LeO (insolvencyref1_FromUint.f k a0) (insolvencyref1_FromUint.f (k + 1) a0) := by
 intro a0 k
 unfold insolvencyref1_FromUint.f
 repeat' first
  | (with_reducible exact insolvencyref1_text.mono _ _)
  | (with_reducible exact LeO.refl _)
  | (with_reducible exact LeO.none _)
  | (with_reducible refine LeO.ite ?_ ?_)
  | (with_reducible refine LeO.bind ?_ (fun _ => ?_))
  | exact insolvencyref1_text.mono _ _
  | exact LeO.none _
  | refine LeO.ite ?_ ?_
  | refine LeO.bind ?_ (fun _ => ?_)
set_option maxHeartbeats 8000000 in
set_option maxRecDepth 100000 in
theorem insolvencyref1_FromUint.calls (k : Nat) (a0 : Int) (r : ByteArray) (w : World) (h : insolvencyref1_FromUint.f k a0 = some r) :
 Calls Tryd.prog 58 #[.int .u64 a0] w fun e w' => e = .returned (.string r) ∧ Below w.heap.size w w' := by
 have HB := Aside0.mk (Below.refl w.heap.size w)
 have H : ((insolvencyref1_text.f k (([(a0) % 4294967296, (a0 / 4294967296) % 4294967296] : List Int))).bind fun t498 => (some t498)) = some r := h
 clear h
 obtain ⟨y495, hy495⟩ : ∃ y_ : List Int, y_ = (([(a0) % 4294967296, (a0 / 4294967296) % 4294967296] : List Int)) := ⟨_, rfl⟩
 replace H : ((insolvencyref1_text.f k y495).bind fun t498 => (some t498)) = some r := by first | (rw [hy495]; with_reducible exact H) | (have H2_ := (Option.bind_some _ _).symm.trans H; rw [hy495]; with_reducible exact H2_) | (have H2_ := (Option.bind_some _ _).symm.trans H; with_reducible exact H2_) | with_reducible exact H | (rw [hy495]; exact H) | exact H
 have Ny495 := Aside0.mk hy495
 clear hy495
 replace H := Option.bind_eq_some_iff.mp H
 obtain ⟨t498, A20, H⟩ := H
 replace H : (some t498) = some r := H
 have A2 := Aside0.mk A20
 clear A20
 obtain rfl := Option.some.inj H
 go_enter Tryd.func58, Tryd.ntmps58
 go_wp2_with (first | ((with_reducible refine gate_dst (N := 8) rfl ?_); refine Kd.R_lit (Kd.int .u32) _ 88 ?hg (N := 8) ?hd (xs := ([(a0) % 4294967296, (a0 / 4294967296) % 4294967296] : List Int)) (inner := [.int .u32 ((a0) % 4294967296), .int .u32 ((a0 / 4294967296) % 4294967296)]) (ok := fun _ => True) (okp := fun _ => True) ?hr ?hp (fun _ hk => hk) trivial (Below.refl _ _) (Nat.le_refl _) (by simp) ?_; (case hd => rfl); (case hg => rfl); (case hr => first | (go_simp; done) | (go_simp; rfl)); (case hp => exact (Reps.one (show Kd.M (Kd.int .u32) _ _ _ ((a0) % 4294967296) [.int .u32 ((a0) % 4294967296)] from rfl) (Reps.one (show Kd.M (Kd.int .u32) _ _ _ ((a0 / 4294967296) % 4294967296) [.int .u32 ((a0 / 4294967296) % 4294967296)] from rfl) (Reps.none _ _)))); intro v496 w3 ho4 hb hg_ hnew_; clear hg_ hnew_; (first | rw [← Ny495.out] at ho4 | (simp only [Int.reduceToNat] at ho4; rw [← Ny495.out] at ho4)); have n0_ := Aside0.mk (Kd.R_lower ho4 (below_size (by repeat (first | (with_reducible first | exact HB.out | apply below_alloc | apply pw_below_drewN | apply below_drew1) | exact HB.out)))); have n1_ := Aside0.mk (below_step (by repeat (first | (with_reducible first | exact HB.out | apply below_alloc | apply pw_below_drewN | apply below_drew1) | exact HB.out)) hb); clear HB; have HO497 := n0_; have HB := n1_; clear n0_ n1_; clear hb ho4; obtain ⟨Ao5, co5, eo5⟩ := Kd.R_slice HO497.out; subst eo5) | ((with_reducible refine gate_callee (f := 67) rfl ?_); refine goesL_ (some 9) rfl rfl Tryd.func67 (by kernel_rfl) rfl #[.slice Ao5 y495.length co5] rfl (by (try simp only [List.map_toArray, List.map_cons, List.map_nil]); first | done | rfl | (simp only [List.length_drop, List.length_take]; rfl)) ?_; (with_reducible refine (insolvencyref1_text.calls k _ _ y495 t498 _ ?side1 ?side2 A2.out).mono ?_); (case side1 => repeat (first | exact (Kd.R_reads' HO497.out).2.2 | (with_reducible refine Kd.C_alloc ?_ _) | (with_reducible refine Kd.C_drewN ?_ _) | (with_reducible refine Kd.C_drew ?_))); (case side2 => exact (Kd.R_reads' HO497.out).2.1); rintro e w6 ⟨rfl, hb⟩; refine ⟨_, rfl, ?_⟩; have n0_ := Aside0.mk (Kd.R_below (by (with_reducible repeat (first | apply Kd.R_alloc | apply Kd.R_drewN | apply Kd.R_drew)); exact HO497.out) hb); have n1_ := Aside0.mk (below_step (by repeat (first | (with_reducible first | exact HB.out | apply below_alloc | apply pw_below_drewN | apply below_drew1) | exact HB.out)) hb); clear HO497; clear HB; have HO497 := n0_; have HB := n1_; clear n0_ n1_; (try clear hb); (try clear hb2); (try clear hk); (try clear hi)))
 go_ret
 exact ⟨by first | rfl | (simp [errW_none, errW_some] <;> rfl) | (simp [*, errW_none, errW_some] <;> rfl), by repeat (first | (with_reducible first | exact HB.out | apply below_alloc | apply pw_below_drewN | apply below_drew1) | exact HB.out)⟩
end Go.Proofs.YtfnfjmeiaamheaaDoor.PA
namespace Go.Proofs.YtfnfjmeiaamheaaDoor.PA
open Go.RowKit Go.Proofs.YtfnfjmeiaamheaaDoorW.PrintWords Go.Proofs.YtfnfjmeiaamheaaDoorW.PrintLast Go.Proofs.YtfnfjmeiaamheaaDoorW.PrintMore
attribute [local go_sem] max2_int min2_int max_two min_two max_three min_three max_four min_four
def insolvencyref1_size.f (a0 : Int) : Option (Int) := if a0 < 0 then (some (IntKind.u64.wrap ((IntKind.u64.wrap (wrap64 (-(wrap64 (a0 + 1))))) + 1))) else (some (IntKind.u64.wrap (a0)))
set_option maxHeartbeats 8000000 in
set_option maxRecDepth 100000 in
theorem insolvencyref1_size.calls (a0 : Int) (r : Int) (w : World) (h : insolvencyref1_size.f a0 = some r) :
  Calls Tryd.prog 59 #[.int .i64 a0] w fun e w' => e = .returned (.int .u64 r) ∧ Drawn0 w w' := by
 have H : (if a0 < 0 then (some (IntKind.u64.wrap ((IntKind.u64.wrap (wrap64 (-(wrap64 (a0 + 1))))) + 1))) else (some (IntKind.u64.wrap (a0)))) = some r := h
 clear h
 by_cases c2 : a0 < 0
 ·rw [if_pos c2] at H
  have c2b0 : decide (a0 < 0) = true := decide_eq_true c2
  clear c2
  obtain rfl := Option.some.inj H
  go_enter Tryd.func59, Tryd.ntmps59
  go_wp2
  go_ret
  exact ⟨by first | rfl | (simp; done) | (simp [*]; done), by repeat (first | exact Drawn0.refl _ | apply Drawn0.step)⟩
 rw [if_neg c2] at H
 have c2b0 : decide (a0 < 0) = false := decide_eq_false c2
 clear c2
 obtain rfl := Option.some.inj H
 go_enter Tryd.func59, Tryd.ntmps59
 go_wp2
 go_ret
 exact ⟨by first | rfl | (simp; done) | (simp [*]; done), by repeat (first | exact Drawn0.refl _ | apply Drawn0.step)⟩
end Go.Proofs.YtfnfjmeiaamheaaDoor.PA
namespace Go.Proofs.YtfnfjmeiaamheaaDoor.PA
open Go.RowKit Go.Proofs.YtfnfjmeiaamheaaDoorW.PrintWords Go.Proofs.YtfnfjmeiaamheaaDoorW.PrintLast Go.Proofs.YtfnfjmeiaamheaaDoorW.PrintMore
attribute [local go_sem] max2_int min2_int max_two min_two max_three min_three max_four min_four
def insolvencyref1_Fraction.f (k : Nat) (a0 : Int) (a1 : Int) : Option (Bool × ByteArray × ByteArray × Bool) := (insolvencyref1_size.f a0).bind fun t500 => ((insolvencyref1_FromUint.f k t500).bind fun t501 => ((insolvencyref1_size.f a1).bind fun t502 => ((insolvencyref1_FromUint.f k t502).bind fun t503 => ((insolvencyref1_Make.f k ((decide (a0 < 0)) != (decide (a1 < 0))) t501 t503).bind fun bt504 => (some (bt504.1, bt504.2.1, bt504.2.2.1, bt504.2.2.2))))))
theorem insolvencyref1_Fraction.mono : ∀ a0 a1 k, LeO (insolvencyref1_Fraction.f k a0 a1) (insolvencyref1_Fraction.f (k + 1) a0 a1) := by
 intro a0 a1 k
 unfold insolvencyref1_Fraction.f
 repeat' first
  | (with_reducible exact insolvencyref1_FromUint.mono _ _)
  | (with_reducible exact insolvencyref1_Make.mono _ _ _ _)
  | (with_reducible exact LeO.refl _)
  | (with_reducible exact LeO.none _)
  | (with_reducible refine LeO.ite ?_ ?_)
  | (with_reducible refine LeO.bind ?_ (fun _ => ?_))
  | exact insolvencyref1_FromUint.mono _ _
  | exact insolvencyref1_Make.mono _ _ _ _
  | exact LeO.none _
  | refine LeO.ite ?_ ?_
  | refine LeO.bind ?_ (fun _ => ?_)
set_option maxHeartbeats 8000000 in
set_option maxRecDepth 100000 in
theorem insolvencyref1_Fraction.calls (k : Nat) (a0 : Int) (a1 : Int) (r1 : Bool) (r2 : ByteArray) (r3 : ByteArray) (r4 : Bool) (w : World) (h : insolvencyref1_Fraction.f k a0 a1 = some (r1, r2, r3, r4)) :
 Calls Tryd.prog 40 #[.int .i64 a0, .int .i64 a1] w fun e w' => e = .returned (.tuple #[.agg #[.bool r1, .string r2, .string r3], .bool r4]) ∧ Below w.heap.size w w' := by
 have hu30 := Tryd.underlying30
 have HB := Aside0.mk (Below.refl w.heap.size w)
 have H : ((insolvencyref1_size.f a0).bind fun t500 => ((insolvencyref1_FromUint.f k t500).bind fun t501 => ((insolvencyref1_size.f a1).bind fun t502 => ((insolvencyref1_FromUint.f k t502).bind fun t503 => ((insolvencyref1_Make.f k ((decide (a0 < 0)) != (decide (a1 < 0))) t501 t503).bind fun bt504 => (some (bt504.1, bt504.2.1, bt504.2.2.1, bt504.2.2.2))))))) = some (r1, r2, r3, r4) := h
 clear h
 replace H := Option.bind_eq_some_iff.mp H
 obtain ⟨t500, A30, H⟩ := H
 replace H : ((insolvencyref1_FromUint.f k t500).bind fun t501 => ((insolvencyref1_size.f a1).bind fun t502 => ((insolvencyref1_FromUint.f k t502).bind fun t503 => ((insolvencyref1_Make.f k ((decide (a0 < 0)) != (decide (a1 < 0))) t501 t503).bind fun bt504 => (some (bt504.1, bt504.2.1, bt504.2.2.1, bt504.2.2.2)))))) = some (r1, r2, r3, r4) := H
 have A3 := Aside0.mk A30
 clear A30
 replace H := Option.bind_eq_some_iff.mp H
 obtain ⟨t501, A40, H⟩ := H
 replace H : ((insolvencyref1_size.f a1).bind fun t502 => ((insolvencyref1_FromUint.f k t502).bind fun t503 => ((insolvencyref1_Make.f k ((decide (a0 < 0)) != (decide (a1 < 0))) t501 t503).bind fun bt504 => (some (bt504.1, bt504.2.1, bt504.2.2.1, bt504.2.2.2))))) = some (r1, r2, r3, r4) := H
 have A4 := Aside0.mk A40
 clear A40
 replace H := Option.bind_eq_some_iff.mp H
 obtain ⟨t502, A50, H⟩ := H
 replace H : ((insolvencyref1_FromUint.f k t502).bind fun t503 => ((insolvencyref1_Make.f k ((decide (a0 < 0)) != (decide (a1 < 0))) t501 t503).bind fun bt504 => (some (bt504.1, bt504.2.1, bt504.2.2.1, bt504.2.2.2)))) = some (r1, r2, r3, r4) := H
 have A5 := Aside0.mk A50
 clear A50
 replace H := Option.bind_eq_some_iff.mp H
 obtain ⟨t503, A60, H⟩ := H
 replace H : ((insolvencyref1_Make.f k ((decide (a0 < 0)) != (decide (a1 < 0))) t501 t503).bind fun bt504 => (some (bt504.1, bt504.2.1, bt504.2.2.1, bt504.2.2.2))) = some (r1, r2, r3, r4) := H
 have A6 := Aside0.mk A60
 clear A60
 replace H := Option.bind_eq_some_iff.mp H
 obtain ⟨⟨t504, t505, t506, t507⟩, A70, H⟩ := H
 replace H : (some (t504, t505, t506, t507)) = some (r1, r2, r3, r4) := H
 have A7 := Aside0.mk A70
 clear A70
 simp only [Option.some.injEq, Prod.mk.injEq] at H
 obtain ⟨rfl, rfl, rfl, rfl⟩ := H
 go_enter Tryd.func40, Tryd.ntmps40
 go_wp2_with (first | ((with_reducible refine gate_dst (N := 4) rfl ?_); refine box_event ?hg (N := 4) ?hd (cs := #[.bool false, .string (⟨#[]⟩ : ByteArray), .string (⟨#[]⟩ : ByteArray)]) (t := 30) ?hr ?_; (case hd => rfl); (case hg => rfl); (case hr => first | (go_simp; done) | (go_simp; rfl)); intro gb499 hg w8 hbox hb; have n0_ := Aside0.mk (below_step (by repeat (first | (with_reducible first | exact HB.out | apply below_alloc | apply pw_below_drewN | apply below_drew1) | exact HB.out)) hb); have n1_ := Aside0.mk (hbox); have n2_ := Aside0.mk ((by rw [hg]; exact (below_size (by repeat (first | (with_reducible first | exact HB.out | apply below_alloc | apply pw_below_drewN | apply below_drew1) | exact HB.out))) : w.heap.size ≤ gb499)); have n3_ := Aside0.mk ((by rw [hg]; exact (below_size (by repeat (first | (with_reducible first | exact HB.out | apply below_alloc | apply pw_below_drewN | apply below_drew1) | exact HB.out))) : w.heap.size ≤ gb499)); clear HB; have HB := n0_; have BK499 := n1_; have GW499 := n2_; have GE499 := n3_; clear n0_ n1_ n2_ n3_; clear hb hbox hg) | ((with_reducible refine gate_callee (f := 59) rfl ?_); refine goesL_ (some 12) rfl rfl Tryd.func59 (by kernel_rfl) rfl #[.int .i64 a0] rfl (by (try simp only [List.map_toArray, List.map_cons, List.map_nil]); first | done | rfl | (simp only [List.length_drop, List.length_take]; rfl)) ?_; (with_reducible refine (insolvencyref1_size.calls a0 t500 _ A3.out).mono ?_); rintro e w' ⟨rfl, ⟨nd, rfl⟩⟩; refine ⟨_, rfl, ?_⟩; (try (rw [drewN_self w8]; generalize hq_ : World.drewN w8 _ = w8; have n0_ : Aside0 (w8.heap[gb499]? = some (.cells #[.bool false, .string (⟨#[]⟩ : ByteArray), .string (⟨#[]⟩ : ByteArray)] 30 (0, 0))) := ⟨by rw [← hq_]; exact (by (with_reducible repeat (first | refine blk_drewN ?_ _ | refine blk_drew ?_ | refine blk_alloc ?_ _)); exact BK499.out)⟩; have n1_ : Aside0 (Below w.heap.size w w8) := ⟨by rw [← hq_]; exact (by repeat (first | (with_reducible first | exact HB.out | apply below_alloc | apply pw_below_drewN | apply below_drew1 | refine below_set ?_ GE499.out) | exact HB.out))⟩; clear BK499 HB hq_; have BK499 := n0_; have HB := n1_; clear n0_ n1_))) | ((with_reducible refine gate_callee (f := 58) rfl ?_); refine goesL_ (some 13) rfl rfl Tryd.func58 (by kernel_rfl) rfl #[.int .u64 t500] rfl (by (try simp only [List.map_toArray, List.map_cons, List.map_nil]); first | done | rfl | (simp only [List.length_drop, List.length_take]; rfl)) ?_; (with_reducible refine (insolvencyref1_FromUint.calls k t500 t501 _ A4.out).mono ?_); rintro e w9 ⟨rfl, hb⟩; refine ⟨_, rfl, ?_⟩; have n0_ := Aside0.mk (blk_below (g := gb499) (o := .cells #[.bool false, .string (⟨#[]⟩ : ByteArray), .string (⟨#[]⟩ : ByteArray)] 30 (0, 0)) (by (with_reducible repeat (first | refine blk_drewN ?_ _ | refine blk_drew ?_ | refine blk_alloc ?_ _)); exact BK499.out) hb); have n1_ := Aside0.mk (below_step (by repeat (first | (with_reducible first | exact HB.out | apply below_alloc | apply pw_below_drewN | apply below_drew1 | refine below_set ?_ GE499.out) | exact HB.out)) hb); clear BK499; clear HB; have BK499 := n0_; have HB := n1_; clear n0_ n1_; (try clear hb); (try clear hb2); (try clear hk); (try clear hi)) | ((with_reducible refine gate_callee (f := 59) rfl ?_); refine goesL_ (some 15) rfl rfl Tryd.func59 (by kernel_rfl) rfl #[.int .i64 a1] rfl (by (try simp only [List.map_toArray, List.map_cons, List.map_nil]); first | done | rfl | (simp only [List.length_drop, List.length_take]; rfl)) ?_; (with_reducible refine (insolvencyref1_size.calls a1 t502 _ A5.out).mono ?_); rintro e w' ⟨rfl, ⟨nd, rfl⟩⟩; refine ⟨_, rfl, ?_⟩; (try (rw [drewN_self w9]; generalize hq_ : World.drewN w9 _ = w9; have n0_ : Aside0 (w9.heap[gb499]? = some (.cells #[.bool false, .string (⟨#[]⟩ : ByteArray), .string (⟨#[]⟩ : ByteArray)] 30 (0, 0))) := ⟨by rw [← hq_]; exact (by (with_reducible repeat (first | refine blk_drewN ?_ _ | refine blk_drew ?_ | refine blk_alloc ?_ _)); exact BK499.out)⟩; have n1_ : Aside0 (Below w.heap.size w w9) := ⟨by rw [← hq_]; exact (by repeat (first | (with_reducible first | exact HB.out | apply below_alloc | apply pw_below_drewN | apply below_drew1 | refine below_set ?_ GE499.out) | exact HB.out))⟩; clear BK499 HB hq_; have BK499 := n0_; have HB := n1_; clear n0_ n1_))) | ((with_reducible refine gate_callee (f := 58) rfl ?_); refine goesL_ (some 16) rfl rfl Tryd.func58 (by kernel_rfl) rfl #[.int .u64 t502] rfl (by (try simp only [List.map_toArray, List.map_cons, List.map_nil]); first | done | rfl | (simp only [List.length_drop, List.length_take]; rfl)) ?_; (with_reducible refine (insolvencyref1_FromUint.calls k t502 t503 _ A6.out).mono ?_); rintro e w10 ⟨rfl, hb⟩; refine ⟨_, rfl, ?_⟩; have n0_ := Aside0.mk (blk_below (g := gb499) (o := .cells #[.bool false, .string (⟨#[]⟩ : ByteArray), .string (⟨#[]⟩ : ByteArray)] 30 (0, 0)) (by (with_reducible repeat (first | refine blk_drewN ?_ _ | refine blk_drew ?_ | refine blk_alloc ?_ _)); exact BK499.out) hb); have n1_ := Aside0.mk (below_step (by repeat (first | (with_reducible first | exact HB.out | apply below_alloc | apply pw_below_drewN | apply below_drew1 | refine below_set ?_ GE499.out) | exact HB.out)) hb); clear BK499; clear HB; have BK499 := n0_; have HB := n1_; clear n0_ n1_; (try clear hb); (try clear hb2); (try clear hk); (try clear hi)) | ((with_reducible refine gate_callee (f := 57) rfl ?_); refine goesL_ (some 17) rfl rfl Tryd.func57 (by kernel_rfl) rfl #[.bool ((decide (a0 < 0)) != (decide (a1 < 0))), .string t501, .string t503] rfl (by (try simp only [List.map_toArray, List.map_cons, List.map_nil]); first | done | rfl | (simp only [List.length_drop, List.length_take]; rfl)) ?_; (with_reducible refine (insolvencyref1_Make.calls k ((decide (a0 < 0)) != (decide (a1 < 0))) t501 t503 t504 t505 t506 t507 _ A7.out).mono ?_); rintro e w11 ⟨rfl, hb⟩; refine ⟨_, rfl, ?_⟩; have n0_ := Aside0.mk (blk_below (g := gb499) (o := .cells #[.bool false, .string (⟨#[]⟩ : ByteArray), .string (⟨#[]⟩ : ByteArray)] 30 (0, 0)) (by (with_reducible repeat (first | refine blk_drewN ?_ _ | refine blk_drew ?_ | refine blk_alloc ?_ _)); exact BK499.out) hb); have n1_ := Aside0.mk (below_step (by repeat (first | (with_reducible first | exact HB.out | apply below_alloc | apply pw_below_drewN | apply below_drew1 | refine below_set ?_ GE499.out) | exact HB.out)) hb); clear BK499; clear HB; have BK499 := n0_; have HB := n1_; clear n0_ n1_; (try clear hb); (try clear hb2); (try clear hk); (try clear hi); have hcz12_0 : w11.cell? ⟨gb499, 0, none⟩ = some (.bool false) := (blk_cell BK499.out 0).trans rfl; have hcz12_1 : w11.cell? ⟨gb499, 1, none⟩ = some (.string (⟨#[]⟩ : ByteArray)) := (blk_cell BK499.out 1).trans rfl; have hcz12_2 : w11.cell? ⟨gb499, 2, none⟩ = some (.string (⟨#[]⟩ : ByteArray)) := (blk_cell BK499.out 2).trans rfl; have hfz12_0 := blk_frozen BK499.out 0; have hfz12_1 := blk_frozen BK499.out 1; have hfz12_2 := blk_frozen BK499.out 2))
 refine bodyPost_ret (results_ct rfl _ _ gb499 30 #[.bool t504, .string t505, .string t506] (0, 0) _ rfl (by (with_reducible repeat (first | refine blk_drewN ?_ _ | refine blk_drew ?_ | refine blk_alloc ?_ _)); refine blk_put (cs := #[.bool t504, .string t505, .string (⟨#[]⟩ : ByteArray)]) ?_ 2 _ rfl; (with_reducible repeat (first | refine blk_drewN ?_ _ | refine blk_drew ?_ | refine blk_alloc ?_ _)); refine blk_put (cs := #[.bool t504, .string (⟨#[]⟩ : ByteArray), .string (⟨#[]⟩ : ByteArray)]) ?_ 1 _ rfl; (with_reducible repeat (first | refine blk_drewN ?_ _ | refine blk_drew ?_ | refine blk_alloc ?_ _)); refine blk_put (cs := #[.bool false, .string (⟨#[]⟩ : ByteArray), .string (⟨#[]⟩ : ByteArray)]) ?_ 0 _ rfl; (with_reducible repeat (first | refine blk_drewN ?_ _ | refine blk_drew ?_ | refine blk_alloc ?_ _)); exact BK499.out) Tryd.underlying30 rfl (by kernel_rfl)) rfl ?_
 exact ⟨by first | rfl | (simp [errW_none, errW_some] <;> rfl) | (simp [*, errW_none, errW_some] <;> rfl), by repeat (first | (with_reducible first | exact HB.out | apply below_alloc | apply pw_below_drewN | apply below_drew1 | refine below_set ?_ GE499.out) | exact HB.out)⟩
end Go.Proofs.YtfnfjmeiaamheaaDoor.PA
namespace Go.Proofs.YtfnfjmeiaamheaaDoor.PA
open Go.RowKit Go.Proofs.YtfnfjmeiaamheaaDoorW.PrintWords Go.Proofs.YtfnfjmeiaamheaaDoorW.PrintLast Go.Proofs.YtfnfjmeiaamheaaDoorW.PrintMore
attribute [local go_sem] max2_int min2_int max_two min_two max_three min_three max_four min_four
def insolvencylaw0_Ratio.f (k : Nat) (a0 : Int) (a1 : Int) : Option (Bool × ByteArray × ByteArray) := (insolvencyref1_Fraction.f k a0 a1).bind fun bt509 => (some (bt509.1, bt509.2.1, bt509.2.2.1))
theorem insolvencylaw0_Ratio.mono : ∀ a0 a1 k, LeO (insolvencylaw0_Ratio.f k a0 a1) (insolvencylaw0_Ratio.f (k + 1) a0 a1) := by
 intro a0 a1 k
 unfold insolvencylaw0_Ratio.f
 repeat' first
  | (with_reducible exact insolvencyref1_Fraction.mono _ _ _)
  | (with_reducible exact LeO.refl _)
  | (with_reducible exact LeO.none _)
  | (with_reducible refine LeO.ite ?_ ?_)
  | (with_reducible refine LeO.bind ?_ (fun _ => ?_))
  | exact insolvencyref1_Fraction.mono _ _ _
  | exact LeO.none _
  | refine LeO.ite ?_ ?_
  | refine LeO.bind ?_ (fun _ => ?_)
set_option maxHeartbeats 8000000 in
set_option maxRecDepth 100000 in
theorem insolvencylaw0_Ratio.calls (k : Nat) (a0 : Int) (a1 : Int) (r1 : Bool) (r2 : ByteArray) (r3 : ByteArray) (w : World) (h : insolvencylaw0_Ratio.f k a0 a1 = some (r1, r2, r3)) :
 Calls Tryd.prog 23 #[.int .i64 a0, .int .i64 a1] w fun e w' => e = .returned (.agg #[.bool r1, .string r2, .string r3]) ∧ Below w.heap.size w w' := by
 have hu30 := Tryd.underlying30
 have HB := Aside0.mk (Below.refl w.heap.size w)
 have H : ((insolvencyref1_Fraction.f k a0 a1).bind fun bt509 => (some (bt509.1, bt509.2.1, bt509.2.2.1))) = some (r1, r2, r3) := h
 clear h
 replace H := Option.bind_eq_some_iff.mp H
 obtain ⟨⟨t509, t510, t511, t512⟩, A30, H⟩ := H
 replace H : (some (t509, t510, t511)) = some (r1, r2, r3) := H
 have A3 := Aside0.mk A30
 clear A30
 simp only [Option.some.injEq, Prod.mk.injEq] at H
 obtain ⟨rfl, rfl, rfl⟩ := H
 go_enter Tryd.func23, Tryd.ntmps23
 go_wp2_with (first | ((with_reducible refine gate_dst (N := 4) rfl ?_); refine box_event ?hg (N := 4) ?hd (cs := #[.bool false, .string (⟨#[]⟩ : ByteArray), .string (⟨#[]⟩ : ByteArray)]) (t := 30) ?hr ?_; (case hd => rfl); (case hg => rfl); (case hr => first | (go_simp; done) | (go_simp; rfl)); intro gb508 hg w4 hbox hb; have n0_ := Aside0.mk (below_step (by repeat (first | (with_reducible first | exact HB.out | apply below_alloc | apply pw_below_drewN | apply below_drew1) | exact HB.out)) hb); have n1_ := Aside0.mk (hbox); have n2_ := Aside0.mk ((by rw [hg]; exact (below_size (by repeat (first | (with_reducible first | exact HB.out | apply below_alloc | apply pw_below_drewN | apply below_drew1) | exact HB.out))) : w.heap.size ≤ gb508)); have n3_ := Aside0.mk ((by rw [hg]; exact (below_size (by repeat (first | (with_reducible first | exact HB.out | apply below_alloc | apply pw_below_drewN | apply below_drew1) | exact HB.out))) : w.heap.size ≤ gb508)); clear HB; have HB := n0_; have BK508 := n1_; have GW508 := n2_; have GE508 := n3_; clear n0_ n1_ n2_ n3_; clear hb hbox hg) | ((with_reducible refine gate_callee (f := 40) rfl ?_); refine goesL_ (some 10) rfl rfl Tryd.func40 (by kernel_rfl) rfl #[.int .i64 a0, .int .i64 a1] rfl (by (try simp only [List.map_toArray, List.map_cons, List.map_nil]); first | done | rfl | (simp only [List.length_drop, List.length_take]; rfl)) ?_; (with_reducible refine (insolvencyref1_Fraction.calls k a0 a1 t509 t510 t511 t512 _ A3.out).mono ?_); rintro e w5 ⟨rfl, hb⟩; refine ⟨_, rfl, ?_⟩; have n0_ := Aside0.mk (blk_below (g := gb508) (o := .cells #[.bool false, .string (⟨#[]⟩ : ByteArray), .string (⟨#[]⟩ : ByteArray)] 30 (0, 0)) (by (with_reducible repeat (first | refine blk_drewN ?_ _ | refine blk_drew ?_ | refine blk_alloc ?_ _)); exact BK508.out) hb); have n1_ := Aside0.mk (below_step (by repeat (first | (with_reducible first | exact HB.out | apply below_alloc | apply pw_below_drewN | apply below_drew1 | refine below_set ?_ GE508.out) | exact HB.out)) hb); clear BK508; clear HB; have BK508 := n0_; have HB := n1_; clear n0_ n1_; (try clear hb); (try clear hb2); (try clear hk); (try clear hi)) | ((with_reducible refine gate_dst (N := 5) rfl ?_); refine box_event ?hg (N := 5) ?hd (cs := #[.bool false, .string (⟨#[]⟩ : ByteArray), .string (⟨#[]⟩ : ByteArray)]) (t := 30) ?hr ?_; (case hd => rfl); (case hg => rfl); (case hr => first | (go_simp; done) | (go_simp; rfl)); intro gb513 hg w6 hbox hb; have n0_ := Aside0.mk (blk_below (g := gb508) (o := .cells #[.bool false, .string (⟨#[]⟩ : ByteArray), .string (⟨#[]⟩ : ByteArray)] 30 (0, 0)) (by (with_reducible repeat (first | refine blk_drewN ?_ _ | refine blk_drew ?_ | refine blk_alloc ?_ _)); exact BK508.out) hb); have n1_ := Aside0.mk (below_step (by repeat (first | (with_reducible first | exact HB.out | apply below_alloc | apply pw_below_drewN | apply below_drew1 | refine below_set ?_ GE508.out) | exact HB.out)) hb); have n2_ := Aside0.mk (hbox); have n3_ := Aside0.mk ((by rw [hg]; exact (below_size (by repeat (first | (with_reducible first | exact HB.out | apply below_alloc | apply pw_below_drewN | apply below_drew1 | refine below_set ?_ GE508.out) | exact HB.out))) : w.heap.size ≤ gb513)); have n4_ := Aside0.mk ((by rw [hg]; exact (below_size (by repeat (first | (with_reducible first | exact HB.out | apply below_alloc | apply pw_below_drewN | apply below_drew1 | refine below_set ?_ GE508.out) | exact HB.out))) : w.heap.size ≤ gb513)); have n5_ := Aside0.mk ((by rw [hg]; exact Nat.ne_of_lt (blk_lt (g := gb508) (o := .cells #[.bool false, .string (⟨#[]⟩ : ByteArray), .string (⟨#[]⟩ : ByteArray)] 30 (0, 0)) (by (with_reducible repeat (first | refine blk_drewN ?_ _ | refine blk_drew ?_ | refine blk_alloc ?_ _)); exact BK508.out)) : gb508 ≠ gb513)); have n6_ := Aside0.mk ((by rw [hg]; exact Nat.ne_of_gt (blk_lt (g := gb508) (o := .cells #[.bool false, .string (⟨#[]⟩ : ByteArray), .string (⟨#[]⟩ : ByteArray)] 30 (0, 0)) (by (with_reducible repeat (first | refine blk_drewN ?_ _ | refine blk_drew ?_ | refine blk_alloc ?_ _)); exact BK508.out)) : gb513 ≠ gb508)); clear BK508; clear HB; have BK508 := n0_; have HB := n1_; have BK513 := n2_; have GW513 := n3_; have GE513 := n4_; have NB508_513 := n5_; have NB513_508 := n6_; clear n0_ n1_ n2_ n3_ n4_ n5_ n6_; clear hb hbox hg; have hnb7 := NB513_508.out; have hnc7 := NB508_513.out; have hcz8_0 : w6.cell? ⟨gb513, 0, none⟩ = some (.bool false) := (blk_cell BK513.out 0).trans rfl; have hcz8_1 : w6.cell? ⟨gb513, 1, none⟩ = some (.string (⟨#[]⟩ : ByteArray)) := (blk_cell BK513.out 1).trans rfl; have hcz8_2 : w6.cell? ⟨gb513, 2, none⟩ = some (.string (⟨#[]⟩ : ByteArray)) := (blk_cell BK513.out 2).trans rfl; have hfz8_0 := blk_frozen BK513.out 0; have hfz8_1 := blk_frozen BK513.out 1; have hfz8_2 := blk_frozen BK513.out 2; have hcz9_0 : w6.cell? ⟨gb508, 0, none⟩ = some (.bool false) := (blk_cell BK508.out 0).trans rfl; have hcz9_1 : w6.cell? ⟨gb508, 1, none⟩ = some (.string (⟨#[]⟩ : ByteArray)) := (blk_cell BK508.out 1).trans rfl; have hcz9_2 : w6.cell? ⟨gb508, 2, none⟩ = some (.string (⟨#[]⟩ : ByteArray)) := (blk_cell BK508.out 2).trans rfl; have hfz9_0 := blk_frozen BK508.out 0; have hfz9_1 := blk_frozen BK508.out 1; have hfz9_2 := blk_frozen BK508.out 2))
 refine bodyPost_ret (results_cell_row rfl _ _ gb508 30 #[.bool t509, .string t510, .string t511] (0, 0) _ rfl (by (with_reducible repeat (first | refine blk_drewN ?_ _ | refine blk_drew ?_ | refine blk_alloc ?_ _)); refine blk_put (cs := #[.bool t509, .string t510, .string (⟨#[]⟩ : ByteArray)]) ?_ 2 _ rfl; (with_reducible repeat (first | refine blk_drewN ?_ _ | refine blk_drew ?_ | refine blk_alloc ?_ _)); refine blk_put (cs := #[.bool t509, .string (⟨#[]⟩ : ByteArray), .string (⟨#[]⟩ : ByteArray)]) ?_ 1 _ rfl; (with_reducible repeat (first | refine blk_drewN ?_ _ | refine blk_drew ?_ | refine blk_alloc ?_ _)); refine blk_put (cs := #[.bool false, .string (⟨#[]⟩ : ByteArray), .string (⟨#[]⟩ : ByteArray)]) ?_ 0 _ rfl; (with_reducible repeat (first | refine blk_drewN ?_ _ | refine blk_drew ?_ | refine blk_alloc ?_ _)); refine blk_far ?_ NB508_513.out _; (with_reducible repeat (first | refine blk_drewN ?_ _ | refine blk_drew ?_ | refine blk_alloc ?_ _)); refine blk_far ?_ NB508_513.out _; (with_reducible repeat (first | refine blk_drewN ?_ _ | refine blk_drew ?_ | refine blk_alloc ?_ _)); refine blk_far ?_ NB508_513.out _; (with_reducible repeat (first | refine blk_drewN ?_ _ | refine blk_drew ?_ | refine blk_alloc ?_ _)); exact BK508.out) Tryd.underlying30 rfl (by kernel_rfl)) rfl ?_
 exact ⟨by first | rfl | (simp [errW_none, errW_some] <;> rfl) | (simp [*, errW_none, errW_some] <;> rfl), by repeat (first | (with_reducible first | exact HB.out | apply below_alloc | apply pw_below_drewN | apply below_drew1 | refine below_set ?_ GE508.out | refine below_set ?_ GE513.out) | exact HB.out)⟩
end Go.Proofs.YtfnfjmeiaamheaaDoor.PA
namespace Go.Proofs.YtfnfjmeiaamheaaDoor.PA
open Go.RowKit Go.Proofs.YtfnfjmeiaamheaaDoorW.PrintWords Go.Proofs.YtfnfjmeiaamheaaDoorW.PrintLast Go.Proofs.YtfnfjmeiaamheaaDoorW.PrintMore
attribute [local go_sem] max2_int min2_int max_two min_two max_three min_three max_four min_four
attribute [local go_sem high] eqA30
def insolvencylaw7_awake.f (k : Nat)  : Option (Bool) := (insolvencylaw0_Ratio.f k 9 10).bind fun bt514 => ((insolvencylaw0_Ratio.f k 8 10).bind fun bt517 => ((some (([(⟨(⟨#[85, 83, 68]⟩ : ByteArray), 5, (⟨bt514.1, bt514.2.1, bt514.2.2⟩ : S30)⟩ : S33), (⟨(⟨#[85, 83, 68]⟩ : ByteArray), 2, (⟨bt517.1, bt517.2.1, bt517.2.2⟩ : S30)⟩ : S33)] : List (S33)) : List (S33))).bind fun y520 => ((currency_Rate.f k y520 (⟨#[85, 83, 68]⟩ : ByteArray) 4).bind fun bt523 => ((currency_Rate.f k y520 (⟨#[85, 83, 68]⟩ : ByteArray) 5).bind fun bt528 => ((currency_Rate.f k y520 (⟨#[85, 83, 68]⟩ : ByteArray) 1).bind fun bt533 => (if bt523.2.2.2 = 0 then ((insolvencylaw0_Ratio.f k 4 5).bind fun bt538 => (if (bt523.1 == bt538.1 && (bt523.2.1.toList == bt538.2.1.toList && (bt523.2.2.1.toList == bt538.2.2.toList))) = true then (if bt528.2.2.2 = 0 then ((insolvencylaw0_Ratio.f k 9 10).bind fun bt541 => (if (bt528.1 == bt541.1 && (bt528.2.1.toList == bt541.2.1.toList && (bt528.2.2.1.toList == bt541.2.2.toList))) = true then (some (bt533.2.2.2 == 9)) else (some false))) else (some false)) else (some false))) else (some false)))))))
theorem insolvencylaw7_awake.mono : ∀ k, LeO (insolvencylaw7_awake.f k ) (insolvencylaw7_awake.f (k + 1) ) := by
 intro  k
 unfold insolvencylaw7_awake.f
 repeat' first
  | (with_reducible exact currency_Rate.mono _ _ _ _)
  | (with_reducible exact insolvencylaw0_Ratio.mono _ _ _)
  | (with_reducible exact LeO.refl _)
  | (with_reducible exact LeO.none _)
  | (with_reducible refine LeO.ite ?_ ?_)
  | (with_reducible refine LeO.bind ?_ (fun _ => ?_))
  | exact currency_Rate.mono _ _ _ _
  | exact insolvencylaw0_Ratio.mono _ _ _
  | exact LeO.none _
  | refine LeO.ite ?_ ?_
  | refine LeO.bind ?_ (fun _ => ?_)
def insolvencylaw7_awake.T5 : Bool × List (List Nat × List Nat) := (true, [([], []), ([0], [0]), ([1], [1]), ([2], [2]), ([2, 2], [2]), ([3, 4, 2], [2, 3, 4]), ([2, 5], [2, 5]), ([6, 4], [6]), ([7], [7]), ([8, 7], [7, 8]), ([7, 9], [7, 9]), ([10, 7], [10]), ([11], [11]), ([11, 11], [11]), ([12, 13, 11], [11, 12, 13]), ([11, 14], [11, 14]), ([15, 13], [15]), ([16], [16]), ([17, 16], [16, 17]), ([16, 18], [16, 18]), ([19, 16, 0, 1, 2, 3, 4, 5, 6, 7, 8, 9, 10, 11, 12, 13, 14, 15, 16, 17, 18, 19], [19])])
def insolvencylaw7_awake.B5 : List Nat := [0, 1, 3, 7, 7, 31, 63, 127, 255, 511, 1023, 2047, 4095, 4095, 16383, 32767, 65535, 131071, 262143, 524287, 1048575]
theorem insolvencylaw7_awake.tab5 : rtab .any (opsOf Tryd.f11 5) = insolvencylaw7_awake.T5 := by kernel_rfl
theorem insolvencylaw7_awake.bits5 : waitsOk insolvencylaw7_awake.T5.2 insolvencylaw7_awake.B5 = true := by kernel_rfl
set_option maxHeartbeats 8000000 in
set_option maxRecDepth 100000 in
theorem insolvencylaw7_awake.calls (k : Nat)  (r : Bool) (w : World) (h : insolvencylaw7_awake.f k  = some r) (hrT : r = true) :
  Calls Tryd.prog 11 #[] w fun e w' => e = .returned (.bool r) ∧ Below w.heap.size w w' := by
 have hu33 := Tryd.underlying33
 have hu30 := Tryd.underlying30
 have HB := Aside0.mk (Below.refl w.heap.size w)
 have HRT := Aside0.mk hrT
 clear hrT
 have H : ((insolvencylaw0_Ratio.f k 9 10).bind fun bt514 => ((insolvencylaw0_Ratio.f k 8 10).bind fun bt517 => ((some (([(⟨(⟨#[85, 83, 68]⟩ : ByteArray), 5, (⟨bt514.1, bt514.2.1, bt514.2.2⟩ : S30)⟩ : S33), (⟨(⟨#[85, 83, 68]⟩ : ByteArray), 2, (⟨bt517.1, bt517.2.1, bt517.2.2⟩ : S30)⟩ : S33)] : List (S33)) : List (S33))).bind fun y520 => ((currency_Rate.f k y520 (⟨#[85, 83, 68]⟩ : ByteArray) 4).bind fun bt523 => ((currency_Rate.f k y520 (⟨#[85, 83, 68]⟩ : ByteArray) 5).bind fun bt528 => ((currency_Rate.f k y520 (⟨#[85, 83, 68]⟩ : ByteArray) 1).bind fun bt533 => (if bt523.2.2.2 = 0 then ((insolvencylaw0_Ratio.f k 4 5).bind fun bt538 => (if (bt523.1 == bt538.1 && (bt523.2.1.toList == bt538.2.1.toList && (bt523.2.2.1.toList == bt538.2.2.toList))) = true then (if bt528.2.2.2 = 0 then ((insolvencylaw0_Ratio.f k 9 10).bind fun bt541 => (if (bt528.1 == bt541.1 && (bt528.2.1.toList == bt541.2.1.toList && (bt528.2.2.1.toList == bt541.2.2.toList))) = true then (some (bt533.2.2.2 == 9)) else (some false))) else (some false)) else (some false))) else (some false)))))))) = some r := h
 clear h
 replace H := Option.bind_eq_some_iff.mp H
 obtain ⟨⟨t514, t515, t516⟩, A10, H⟩ := H
 replace H : ((insolvencylaw0_Ratio.f k 8 10).bind fun bt517 => ((some (([(⟨(⟨#[85, 83, 68]⟩ : ByteArray), 5, (⟨t514, t515, t516⟩ : S30)⟩ : S33), (⟨(⟨#[85, 83, 68]⟩ : ByteArray), 2, (⟨bt517.1, bt517.2.1, bt517.2.2⟩ : S30)⟩ : S33)] : List (S33)) : List (S33))).bind fun y520 => ((currency_Rate.f k y520 (⟨#[85, 83, 68]⟩ : ByteArray) 4).bind fun bt523 => ((currency_Rate.f k y520 (⟨#[85, 83, 68]⟩ : ByteArray) 5).bind fun bt528 => ((currency_Rate.f k y520 (⟨#[85, 83, 68]⟩ : ByteArray) 1).bind fun bt533 => (if bt523.2.2.2 = 0 then ((insolvencylaw0_Ratio.f k 4 5).bind fun bt538 => (if (bt523.1 == bt538.1 && (bt523.2.1.toList == bt538.2.1.toList && (bt523.2.2.1.toList == bt538.2.2.toList))) = true then (if bt528.2.2.2 = 0 then ((insolvencylaw0_Ratio.f k 9 10).bind fun bt541 => (if (bt528.1 == bt541.1 && (bt528.2.1.toList == bt541.2.1.toList && (bt528.2.2.1.toList == bt541.2.2.toList))) = true then (some (bt533.2.2.2 == 9)) else (some false))) else (some false)) else (some false))) else (some false))))))) = some r := H
 have A1 := Aside0.mk A10
 clear A10
 replace H := Option.bind_eq_some_iff.mp H
 obtain ⟨⟨t517, t518, t519⟩, A20, H⟩ := H
 replace H : ((some (([(⟨(⟨#[85, 83, 68]⟩ : ByteArray), 5, (⟨t514, t515, t516⟩ : S30)⟩ : S33), (⟨(⟨#[85, 83, 68]⟩ : ByteArray), 2, (⟨t517, t518, t519⟩ : S30)⟩ : S33)] : List (S33)) : List (S33))).bind fun y520 => ((currency_Rate.f k y520 (⟨#[85, 83, 68]⟩ : ByteArray) 4).bind fun bt523 => ((currency_Rate.f k y520 (⟨#[85, 83, 68]⟩ : ByteArray) 5).bind fun bt528 => ((currency_Rate.f k y520 (⟨#[85, 83, 68]⟩ : ByteArray) 1).bind fun bt533 => (if bt523.2.2.2 = 0 then ((insolvencylaw0_Ratio.f k 4 5).bind fun bt538 => (if (bt523.1 == bt538.1 && (bt523.2.1.toList == bt538.2.1.toList && (bt523.2.2.1.toList == bt538.2.2.toList))) = true then (if bt528.2.2.2 = 0 then ((insolvencylaw0_Ratio.f k 9 10).bind fun bt541 => (if (bt528.1 == bt541.1 && (bt528.2.1.toList == bt541.2.1.toList && (bt528.2.2.1.toList == bt541.2.2.toList))) = true then (some (bt533.2.2.2 == 9)) else (some false))) else (some false)) else (some false))) else (some false)))))) = some r := H
 have A2 := Aside0.mk A20
 clear A20
 obtain ⟨y520, hy520⟩ : ∃ y_ : List (S33), y_ = (([(⟨(⟨#[85, 83, 68]⟩ : ByteArray), 5, (⟨t514, t515, t516⟩ : S30)⟩ : S33), (⟨(⟨#[85, 83, 68]⟩ : ByteArray), 2, (⟨t517, t518, t519⟩ : S30)⟩ : S33)] : List (S33))) := ⟨_, rfl⟩
 replace H : ((currency_Rate.f k y520 (⟨#[85, 83, 68]⟩ : ByteArray) 4).bind fun bt523 => ((currency_Rate.f k y520 (⟨#[85, 83, 68]⟩ : ByteArray) 5).bind fun bt528 => ((currency_Rate.f k y520 (⟨#[85, 83, 68]⟩ : ByteArray) 1).bind fun bt533 => (if bt523.2.2.2 = 0 then ((insolvencylaw0_Ratio.f k 4 5).bind fun bt538 => (if (bt523.1 == bt538.1 && (bt523.2.1.toList == bt538.2.1.toList && (bt523.2.2.1.toList == bt538.2.2.toList))) = true then (if bt528.2.2.2 = 0 then ((insolvencylaw0_Ratio.f k 9 10).bind fun bt541 => (if (bt528.1 == bt541.1 && (bt528.2.1.toList == bt541.2.1.toList && (bt528.2.2.1.toList == bt541.2.2.toList))) = true then (some (bt533.2.2.2 == 9)) else (some false))) else (some false)) else (some false))) else (some false))))) = some r := by first | (rw [hy520]; with_reducible exact H) | (have H2_ := (Option.bind_some _ _).symm.trans H; rw [hy520]; with_reducible exact H2_) | (have H2_ := (Option.bind_some _ _).symm.trans H; with_reducible exact H2_) | with_reducible exact H | (rw [hy520]; exact H) | exact H
 have Ny520 := Aside0.mk hy520
 clear hy520
 replace H := Option.bind_eq_some_iff.mp H
 obtain ⟨⟨t523, t524, t525, t526⟩, A30, H⟩ := H
 replace H : ((currency_Rate.f k y520 (⟨#[85, 83, 68]⟩ : ByteArray) 5).bind fun bt528 => ((currency_Rate.f k y520 (⟨#[85, 83, 68]⟩ : ByteArray) 1).bind fun bt533 => (if t526 = 0 then ((insolvencylaw0_Ratio.f k 4 5).bind fun bt538 => (if (t523 == bt538.1 && (t524.toList == bt538.2.1.toList && (t525.toList == bt538.2.2.toList))) = true then (if bt528.2.2.2 = 0 then ((insolvencylaw0_Ratio.f k 9 10).bind fun bt541 => (if (bt528.1 == bt541.1 && (bt528.2.1.toList == bt541.2.1.toList && (bt528.2.2.1.toList == bt541.2.2.toList))) = true then (some (bt533.2.2.2 == 9)) else (some false))) else (some false)) else (some false))) else (some false)))) = some r := H
 have A3 := Aside0.mk A30
 clear A30
 replace H := Option.bind_eq_some_iff.mp H
 obtain ⟨⟨t528, t529, t530, t531⟩, A40, H⟩ := H
 replace H : ((currency_Rate.f k y520 (⟨#[85, 83, 68]⟩ : ByteArray) 1).bind fun bt533 => (if t526 = 0 then ((insolvencylaw0_Ratio.f k 4 5).bind fun bt538 => (if (t523 == bt538.1 && (t524.toList == bt538.2.1.toList && (t525.toList == bt538.2.2.toList))) = true then (if t531 = 0 then ((insolvencylaw0_Ratio.f k 9 10).bind fun bt541 => (if (t528 == bt541.1 && (t529.toList == bt541.2.1.toList && (t530.toList == bt541.2.2.toList))) = true then (some (bt533.2.2.2 == 9)) else (some false))) else (some false)) else (some false))) else (some false))) = some r := H
 have A4 := Aside0.mk A40
 clear A40
 replace H := Option.bind_eq_some_iff.mp H
 obtain ⟨⟨t533, t534, t535, t536⟩, A50, H⟩ := H
 replace H : (if t526 = 0 then ((insolvencylaw0_Ratio.f k 4 5).bind fun bt538 => (if (t523 == bt538.1 && (t524.toList == bt538.2.1.toList && (t525.toList == bt538.2.2.toList))) = true then (if t531 = 0 then ((insolvencylaw0_Ratio.f k 9 10).bind fun bt541 => (if (t528 == bt541.1 && (t529.toList == bt541.2.1.toList && (t530.toList == bt541.2.2.toList))) = true then (some (t536 == 9)) else (some false))) else (some false)) else (some false))) else (some false)) = some r := H
 have A5 := Aside0.mk A50
 clear A50
 by_cases c6 : t526 = 0
 rotate_left
 ·rw [if_neg c6] at H
  exact absurd ((Option.some.inj H).trans HRT.out) (by decide)
 rw [if_pos c6] at H
 have c6b0 : (t526 == 0) = true := beq_iff_eq.mpr c6
 have c6b1 : (t526 != 0) = false := bne_eq_false_iff_eq.mpr c6
 clear c6
 replace H := Option.bind_eq_some_iff.mp H
 obtain ⟨⟨t538, t539, t540⟩, A70, H⟩ := H
 replace H : (if (t523 == t538 && (t524.toList == t539.toList && (t525.toList == t540.toList))) = true then (if t531 = 0 then ((insolvencylaw0_Ratio.f k 9 10).bind fun bt541 => (if (t528 == bt541.1 && (t529.toList == bt541.2.1.toList && (t530.toList == bt541.2.2.toList))) = true then (some (t536 == 9)) else (some false))) else (some false)) else (some false)) = some r := H
 have A7 := Aside0.mk A70
 clear A70
 by_cases c8 : (t523 == t538 && (t524.toList == t539.toList && (t525.toList == t540.toList))) = true
 rotate_left
 ·rw [if_neg c8] at H
  exact absurd ((Option.some.inj H).trans HRT.out) (by decide)
 rw [if_pos c8] at H
 have c8b0 : (t523 == t538 && (t524.toList == t539.toList && (t525.toList == t540.toList))) = true := c8
 (try (have c8b1 : decide (t523 = t538 && (t524.toList == t539.toList && (t525.toList == t540.toList))) = true := by simpa using c8))
 (try (have c8b2 : (t523 == t538 && (t524.toList == t539.toList && (t525.toList == t540.toList))) = true := by simpa using c8))
 clear c8
 by_cases c9 : t531 = 0
 rotate_left
 ·rw [if_neg c9] at H
  exact absurd ((Option.some.inj H).trans HRT.out) (by decide)
 rw [if_pos c9] at H
 have c9b0 : (t531 == 0) = true := beq_iff_eq.mpr c9
 have c9b1 : (t531 != 0) = false := bne_eq_false_iff_eq.mpr c9
 clear c9
 replace H := Option.bind_eq_some_iff.mp H
 obtain ⟨⟨t541, t542, t543⟩, A100, H⟩ := H
 replace H : (if (t528 == t541 && (t529.toList == t542.toList && (t530.toList == t543.toList))) = true then (some (t536 == 9)) else (some false)) = some r := H
 have A10 := Aside0.mk A100
 clear A100
 by_cases c11 : (t528 == t541 && (t529.toList == t542.toList && (t530.toList == t543.toList))) = true
 rotate_left
 ·rw [if_neg c11] at H
  exact absurd ((Option.some.inj H).trans HRT.out) (by decide)
 rw [if_pos c11] at H
 have c11b0 : (t528 == t541 && (t529.toList == t542.toList && (t530.toList == t543.toList))) = true := c11
 (try (have c11b1 : decide (t528 = t541 && (t529.toList == t542.toList && (t530.toList == t543.toList))) = true := by simpa using c11))
 (try (have c11b2 : (t528 == t541 && (t529.toList == t542.toList && (t530.toList == t543.toList))) = true := by simpa using c11))
 clear c11
 obtain rfl := Option.some.inj H
 go_enter Tryd.func11, Tryd.ntmps11
 try go_wp2_with (first | ((with_reducible refine gate_callee (f := 23) rfl ?_); refine goesL_ (some 8) rfl rfl Tryd.func23 (by kernel_rfl) rfl #[.int .i64 9, .int .i64 10] rfl (by (try simp only [List.map_toArray, List.map_cons, List.map_nil]); first | done | rfl | (simp only [List.length_drop, List.length_take]; rfl)) ?_; (with_reducible refine (insolvencylaw0_Ratio.calls k 9 10 t514 t515 t516 _ A1.out).mono ?_); rintro e w12 ⟨rfl, hb⟩; refine ⟨_, rfl, ?_⟩; have n0_ := Aside0.mk (below_step (by repeat (first | (with_reducible first | exact HB.out | apply below_alloc | apply pw_below_drewN | apply below_drew1) | exact HB.out)) hb); clear HB; have HB := n0_; clear n0_; (try clear hb); (try clear hb2); (try clear hk); (try clear hi)) | ((with_reducible refine gate_callee (f := 23) rfl ?_); refine goesL_ (some 10) rfl rfl Tryd.func23 (by kernel_rfl) rfl #[.int .i64 8, .int .i64 10] rfl (by (try simp only [List.map_toArray, List.map_cons, List.map_nil]); first | done | rfl | (simp only [List.length_drop, List.length_take]; rfl)) ?_; (with_reducible refine (insolvencylaw0_Ratio.calls k 8 10 t517 t518 t519 _ A2.out).mono ?_); rintro e w13 ⟨rfl, hb⟩; refine ⟨_, rfl, ?_⟩; have n0_ := Aside0.mk (below_step (by repeat (first | (with_reducible first | exact HB.out | apply below_alloc | apply pw_below_drewN | apply below_drew1) | exact HB.out)) hb); clear HB; have HB := n0_; clear n0_; (try clear hb); (try clear hb2); (try clear hk); (try clear hi)) | ((with_reducible refine gate_dst (N := 12) rfl ?_); refine Kd.R_lit k33 _ 33 ?hg (N := 12) ?hd (xs := ([(⟨(⟨#[85, 83, 68]⟩ : ByteArray), 5, (⟨t514, t515, t516⟩ : S30)⟩ : S33), (⟨(⟨#[85, 83, 68]⟩ : ByteArray), 2, (⟨t517, t518, t519⟩ : S30)⟩ : S33)] : List (S33))) (inner := [.string (⟨#[85, 83, 68]⟩ : ByteArray), .int .i64 5, .bool t514, .string t515, .string t516, .string (⟨#[85, 83, 68]⟩ : ByteArray), .int .i64 2, .bool t517, .string t518, .string t519]) (ok := fun _ => True) (okp := fun _ => True) ?hr ?hp (fun _ hk => hk) trivial (Below.refl _ _) (Nat.le_refl _) (by simp) ?_; (case hd => rfl); (case hg => rfl); (case hr => first | (go_simp; done) | (go_simp; rfl)); (case hp => exact (Reps.c5 (show Kd.M k33 _ _ _ (⟨(⟨#[85, 83, 68]⟩ : ByteArray), 5, (⟨t514, t515, t516⟩ : S30)⟩ : S33) [.string (⟨#[85, 83, 68]⟩ : ByteArray), .int .i64 5, .bool t514, .string t515, .string t516] from (k33_mkM _ _ _ (⟨(⟨#[85, 83, 68]⟩ : ByteArray), 5, (⟨t514, t515, t516⟩ : S30)⟩ : S33) )) (Reps.c5 (show Kd.M k33 _ _ _ (⟨(⟨#[85, 83, 68]⟩ : ByteArray), 2, (⟨t517, t518, t519⟩ : S30)⟩ : S33) [.string (⟨#[85, 83, 68]⟩ : ByteArray), .int .i64 2, .bool t517, .string t518, .string t519] from (k33_mkM _ _ _ (⟨(⟨#[85, 83, 68]⟩ : ByteArray), 2, (⟨t517, t518, t519⟩ : S30)⟩ : S33) )) (Reps.none _ _)))); intro v521 w14 ho15 hb hg_ hnew_; clear hg_ hnew_; (first | rw [← Ny520.out] at ho15 | (simp only [Int.reduceToNat] at ho15; rw [← Ny520.out] at ho15)); have n0_ := Aside0.mk (Kd.R_lower ho15 (below_size (by repeat (first | (with_reducible first | exact HB.out | apply below_alloc | apply pw_below_drewN | apply below_drew1) | exact HB.out)))); have n1_ := Aside0.mk (below_step (by repeat (first | (with_reducible first | exact HB.out | apply below_alloc | apply pw_below_drewN | apply below_drew1) | exact HB.out)) hb); clear HB; have HO522 := n0_; have HB := n1_; clear n0_ n1_; clear hb ho15; obtain ⟨Ao16, co16, eo16⟩ := Kd.R_slice HO522.out; subst eo16) | ((with_reducible refine gate_callee (f := 15) rfl ?_); refine goesL_ (some 15) rfl rfl Tryd.func15 (by kernel_rfl) rfl #[.slice Ao16 y520.length co16, .string (⟨#[85, 83, 68]⟩ : ByteArray), .int .i64 4] rfl (by (try simp only [List.map_toArray, List.map_cons, List.map_nil]); first | done | rfl | (simp only [List.length_drop, List.length_take]; rfl)) ?_; (with_reducible refine (currency_Rate.calls k _ _ y520 (⟨#[85, 83, 68]⟩ : ByteArray) 4 t523 t524 t525 t526 _ ?side1 ?side2 A3.out).mono ?_); (case side1 => repeat (first | exact (Kd.R_reads' HO522.out).2.2 | (with_reducible refine Kd.C_alloc ?_ _) | (with_reducible refine Kd.C_drewN ?_ _) | (with_reducible refine Kd.C_drew ?_))); (case side2 => exact (Kd.R_reads' HO522.out).2.1); rintro e w17 ⟨rfl, hb⟩; refine ⟨_, rfl, ?_⟩; have n0_ := Aside0.mk (Kd.R_below (by (with_reducible repeat (first | apply Kd.R_alloc | apply Kd.R_drewN | apply Kd.R_drew)); exact HO522.out) hb); have n1_ := Aside0.mk (below_step (by repeat (first | (with_reducible first | exact HB.out | apply below_alloc | apply pw_below_drewN | apply below_drew1) | exact HB.out)) hb); clear HO522; clear HB; have HO522 := n0_; have HB := n1_; clear n0_ n1_; (try clear hb); (try clear hb2); (try clear hk); (try clear hi)) | ((with_reducible refine gate_dst (N := 2) rfl ?_); refine box_event ?hg (N := 2) ?hd (cs := #[.bool false, .string (⟨#[]⟩ : ByteArray), .string (⟨#[]⟩ : ByteArray)]) (t := 30) ?hr ?_; (case hd => rfl); (case hg => rfl); (case hr => first | (go_simp; done) | (go_simp; rfl)); intro gb527 hg w18 hbox hb; have n0_ := Aside0.mk (Kd.R_below (by (with_reducible repeat (first | apply Kd.R_alloc | apply Kd.R_drewN | apply Kd.R_drew)); exact HO522.out) hb); have n1_ := Aside0.mk (below_step (by repeat (first | (with_reducible first | exact HB.out | apply below_alloc | apply pw_below_drewN | apply below_drew1) | exact HB.out)) hb); have n2_ := Aside0.mk (hbox); have n3_ := Aside0.mk ((by rw [hg]; exact (below_size (by repeat (first | (with_reducible first | exact HB.out | apply below_alloc | apply pw_below_drewN | apply below_drew1) | exact HB.out))) : w.heap.size ≤ gb527)); have n4_ := Aside0.mk ((by rw [hg]; exact (below_size (by repeat (first | (with_reducible first | exact HB.out | apply below_alloc | apply pw_below_drewN | apply below_drew1) | exact HB.out))) : w.heap.size ≤ gb527)); clear HO522; clear HB; have HO522 := n0_; have HB := n1_; have BK527 := n2_; have GW527 := n3_; have GE527 := n4_; clear n0_ n1_ n2_ n3_ n4_; clear hb hbox hg; have hcz19_0 : w18.cell? ⟨gb527, 0, none⟩ = some (.bool false) := (blk_cell BK527.out 0).trans rfl; have hcz19_1 : w18.cell? ⟨gb527, 1, none⟩ = some (.string (⟨#[]⟩ : ByteArray)) := (blk_cell BK527.out 1).trans rfl; have hcz19_2 : w18.cell? ⟨gb527, 2, none⟩ = some (.string (⟨#[]⟩ : ByteArray)) := (blk_cell BK527.out 2).trans rfl; have hfz19_0 := blk_frozen BK527.out 0; have hfz19_1 := blk_frozen BK527.out 1; have hfz19_2 := blk_frozen BK527.out 2) | ((with_reducible refine gate_callee (f := 15) rfl ?_); refine goesL_ (some 20) rfl rfl Tryd.func15 (by kernel_rfl) rfl #[.slice Ao16 y520.length co16, .string (⟨#[85, 83, 68]⟩ : ByteArray), .int .i64 5] rfl (by (try simp only [List.map_toArray, List.map_cons, List.map_nil]); first | done | rfl | (simp only [List.length_drop, List.length_take]; rfl)) ?_; (with_reducible refine (currency_Rate.calls k _ _ y520 (⟨#[85, 83, 68]⟩ : ByteArray) 5 t528 t529 t530 t531 _ ?side1 ?side2 A4.out).mono ?_); (case side1 => refine (Kd.R_reads' (e := 33) (base := w.heap.size) (ok := fun k_ => True) (n := y520.length) (c := co16) ?_).2.2; exact (by (with_reducible repeat (first | apply Kd.R_alloc | apply Kd.R_drewN | apply Kd.R_drew)); exact (Kd.R_mono (Kd.R_far (p := ⟨gb527, 2, none⟩) (Kd.R_far (p := ⟨gb527, 1, none⟩) (Kd.R_far (p := ⟨gb527, 0, none⟩) (Kd.R_types HO522.out BK527.out (by decide)) (fun _ hk => hk.2) (.bool t523)) (fun _ hk => hk.2) (.string t524)) (fun _ hk => hk.2) (.string t525)) (fun _ h_ => h_.1)))); (case side2 => exact (Kd.R_reads' HO522.out).2.1); rintro e w20 ⟨rfl, hb⟩; refine ⟨_, rfl, ?_⟩; have n0_ := Aside0.mk (Kd.R_below (by (with_reducible repeat (first | apply Kd.R_alloc | apply Kd.R_drewN | apply Kd.R_drew)); exact (Kd.R_mono (Kd.R_far (p := ⟨gb527, 2, none⟩) (Kd.R_far (p := ⟨gb527, 1, none⟩) (Kd.R_far (p := ⟨gb527, 0, none⟩) (Kd.R_types HO522.out BK527.out (by decide)) (fun _ hk => hk.2) (.bool t523)) (fun _ hk => hk.2) (.string t524)) (fun _ hk => hk.2) (.string t525)) (fun _ h_ => h_.1))) hb); have n1_ := Aside0.mk (blk_below (g := gb527) (o := .cells #[.bool t523, .string t524, .string t525] 30 (0, 0)) (by (with_reducible repeat (first | refine blk_drewN ?_ _ | refine blk_drew ?_ | refine blk_alloc ?_ _)); refine blk_put (cs := #[.bool t523, .string t524, .string (⟨#[]⟩ : ByteArray)]) ?_ 2 _ rfl; (with_reducible repeat (first | refine blk_drewN ?_ _ | refine blk_drew ?_ | refine blk_alloc ?_ _)); refine blk_put (cs := #[.bool t523, .string (⟨#[]⟩ : ByteArray), .string (⟨#[]⟩ : ByteArray)]) ?_ 1 _ rfl; (with_reducible repeat (first | refine blk_drewN ?_ _ | refine blk_drew ?_ | refine blk_alloc ?_ _)); refine blk_put (cs := #[.bool false, .string (⟨#[]⟩ : ByteArray), .string (⟨#[]⟩ : ByteArray)]) ?_ 0 _ rfl; (with_reducible repeat (first | refine blk_drewN ?_ _ | refine blk_drew ?_ | refine blk_alloc ?_ _)); exact BK527.out) hb); have n2_ := Aside0.mk (below_step (by repeat (first | (with_reducible first | exact HB.out | apply below_alloc | apply pw_below_drewN | apply below_drew1 | refine below_set ?_ GE527.out) | exact HB.out)) hb); clear HO522; clear BK527; clear HB; have HO522 := n0_; have BK527 := n1_; have HB := n2_; clear n0_ n1_ n2_; (try clear hb); (try clear hb2); (try clear hk); (try clear hi)) | ((with_reducible refine gate_dst (N := 4) rfl ?_); refine box_event ?hg (N := 4) ?hd (cs := #[.bool false, .string (⟨#[]⟩ : ByteArray), .string (⟨#[]⟩ : ByteArray)]) (t := 30) ?hr ?_; (case hd => rfl); (case hg => rfl); (case hr => first | (go_simp; done) | (go_simp; rfl)); intro gb532 hg w21 hbox hb; have n0_ := Aside0.mk (Kd.R_below (by (with_reducible repeat (first | apply Kd.R_alloc | apply Kd.R_drewN | apply Kd.R_drew)); exact HO522.out) hb); have n1_ := Aside0.mk (blk_below (g := gb527) (o := .cells #[.bool t523, .string t524, .string t525] 30 (0, 0)) (by (with_reducible repeat (first | refine blk_drewN ?_ _ | refine blk_drew ?_ | refine blk_alloc ?_ _)); exact BK527.out) hb); have n2_ := Aside0.mk (below_step (by repeat (first | (with_reducible first | exact HB.out | apply below_alloc | apply pw_below_drewN | apply below_drew1 | refine below_set ?_ GE527.out) | exact HB.out)) hb); have n3_ := Aside0.mk (hbox); have n4_ := Aside0.mk ((by rw [hg]; exact (below_size (by repeat (first | (with_reducible first | exact HB.out | apply below_alloc | apply pw_below_drewN | apply below_drew1 | refine below_set ?_ GE527.out) | exact HB.out))) : w.heap.size ≤ gb532)); have n5_ := Aside0.mk ((by rw [hg]; exact (below_size (by repeat (first | (with_reducible first | exact HB.out | apply below_alloc | apply pw_below_drewN | apply below_drew1 | refine below_set ?_ GE527.out) | exact HB.out))) : w.heap.size ≤ gb532)); have n6_ := Aside0.mk ((by rw [hg]; exact Nat.ne_of_lt (blk_lt (g := gb527) (o := .cells #[.bool t523, .string t524, .string t525] 30 (0, 0)) (by (with_reducible repeat (first | refine blk_drewN ?_ _ | refine blk_drew ?_ | refine blk_alloc ?_ _)); exact BK527.out)) : gb527 ≠ gb532)); have n7_ := Aside0.mk ((by rw [hg]; exact Nat.ne_of_gt (blk_lt (g := gb527) (o := .cells #[.bool t523, .string t524, .string t525] 30 (0, 0)) (by (with_reducible repeat (first | refine blk_drewN ?_ _ | refine blk_drew ?_ | refine blk_alloc ?_ _)); exact BK527.out)) : gb532 ≠ gb527)); clear HO522; clear BK527; clear HB; have HO522 := n0_; have BK527 := n1_; have HB := n2_; have BK532 := n3_; have GW532 := n4_; have GE532 := n5_; have NB527_532 := n6_; have NB532_527 := n7_; clear n0_ n1_ n2_ n3_ n4_ n5_ n6_ n7_; clear hb hbox hg; have hnb22 := NB532_527.out; have hnc22 := NB527_532.out; have hcz23_0 : w21.cell? ⟨gb532, 0, none⟩ = some (.bool false) := (blk_cell BK532.out 0).trans rfl; have hcz23_1 : w21.cell? ⟨gb532, 1, none⟩ = some (.string (⟨#[]⟩ : ByteArray)) := (blk_cell BK532.out 1).trans rfl; have hcz23_2 : w21.cell? ⟨gb532, 2, none⟩ = some (.string (⟨#[]⟩ : ByteArray)) := (blk_cell BK532.out 2).trans rfl; have hfz23_0 := blk_frozen BK532.out 0; have hfz23_1 := blk_frozen BK532.out 1; have hfz23_2 := blk_frozen BK532.out 2) | ((with_reducible refine gate_callee (f := 15) rfl ?_); refine goesL_ (some 25) rfl rfl Tryd.func15 (by kernel_rfl) rfl #[.slice Ao16 y520.length co16, .string (⟨#[85, 83, 68]⟩ : ByteArray), .int .i64 1] rfl (by (try simp only [List.map_toArray, List.map_cons, List.map_nil]); first | done | rfl | (simp only [List.length_drop, List.length_take]; rfl)) ?_; (with_reducible refine (currency_Rate.calls k _ _ y520 (⟨#[85, 83, 68]⟩ : ByteArray) 1 t533 t534 t535 t536 _ ?side1 ?side2 A5.out).mono ?_); (case side1 => refine (Kd.R_reads' (e := 33) (base := w.heap.size) (ok := fun k_ => True) (n := y520.length) (c := co16) ?_).2.2; exact (by (with_reducible repeat (first | apply Kd.R_alloc | apply Kd.R_drewN | apply Kd.R_drew)); exact (Kd.R_mono (Kd.R_far (p := ⟨gb532, 2, none⟩) (Kd.R_far (p := ⟨gb532, 1, none⟩) (Kd.R_far (p := ⟨gb532, 0, none⟩) (Kd.R_types HO522.out BK532.out (by decide)) (fun _ hk => hk.2) (.bool t528)) (fun _ hk => hk.2) (.string t529)) (fun _ hk => hk.2) (.string t530)) (fun _ h_ => h_.1)))); (case side2 => exact (Kd.R_reads' HO522.out).2.1); rintro e w24 ⟨rfl, hb⟩; refine ⟨_, rfl, ?_⟩; have n0_ := Aside0.mk (Kd.R_below (by (with_reducible repeat (first | apply Kd.R_alloc | apply Kd.R_drewN | apply Kd.R_drew)); exact (Kd.R_mono (Kd.R_far (p := ⟨gb532, 2, none⟩) (Kd.R_far (p := ⟨gb532, 1, none⟩) (Kd.R_far (p := ⟨gb532, 0, none⟩) (Kd.R_types HO522.out BK532.out (by decide)) (fun _ hk => hk.2) (.bool t528)) (fun _ hk => hk.2) (.string t529)) (fun _ hk => hk.2) (.string t530)) (fun _ h_ => h_.1))) hb); have n1_ := Aside0.mk (blk_below (g := gb527) (o := .cells #[.bool t523, .string t524, .string t525] 30 (0, 0)) (by (with_reducible repeat (first | refine blk_drewN ?_ _ | refine blk_drew ?_ | refine blk_alloc ?_ _)); refine blk_far ?_ NB527_532.out _; (with_reducible repeat (first | refine blk_drewN ?_ _ | refine blk_drew ?_ | refine blk_alloc ?_ _)); refine blk_far ?_ NB527_532.out _; (with_reducible repeat (first | refine blk_drewN ?_ _ | refine blk_drew ?_ | refine blk_alloc ?_ _)); refine blk_far ?_ NB527_532.out _; (with_reducible repeat (first | refine blk_drewN ?_ _ | refine blk_drew ?_ | refine blk_alloc ?_ _)); exact BK527.out) hb); have n2_ := Aside0.mk (blk_below (g := gb532) (o := .cells #[.bool t528, .string t529, .string t530] 30 (0, 0)) (by (with_reducible repeat (first | refine blk_drewN ?_ _ | refine blk_drew ?_ | refine blk_alloc ?_ _)); refine blk_put (cs := #[.bool t528, .string t529, .string (⟨#[]⟩ : ByteArray)]) ?_ 2 _ rfl; (with_reducible repeat (first | refine blk_drewN ?_ _ | refine blk_drew ?_ | refine blk_alloc ?_ _)); refine blk_put (cs := #[.bool t528, .string (⟨#[]⟩ : ByteArray), .string (⟨#[]⟩ : ByteArray)]) ?_ 1 _ rfl; (with_reducible repeat (first | refine blk_drewN ?_ _ | refine blk_drew ?_ | refine blk_alloc ?_ _)); refine blk_put (cs := #[.bool false, .string (⟨#[]⟩ : ByteArray), .string (⟨#[]⟩ : ByteArray)]) ?_ 0 _ rfl; (with_reducible repeat (first | refine blk_drewN ?_ _ | refine blk_drew ?_ | refine blk_alloc ?_ _)); exact BK532.out) hb); have n3_ := Aside0.mk (below_step (by repeat (first | (with_reducible first | exact HB.out | apply below_alloc | apply pw_below_drewN | apply below_drew1 | refine below_set ?_ GE527.out | refine below_set ?_ GE532.out) | exact HB.out)) hb); clear HO522; clear BK527; clear BK532; clear HB; have HO522 := n0_; have BK527 := n1_; have BK532 := n2_; have HB := n3_; clear n0_ n1_ n2_ n3_; (try clear hb); (try clear hb2); (try clear hk); (try clear hi)) | ((with_reducible refine gate_dst (N := 6) rfl ?_); refine box_event ?hg (N := 6) ?hd (cs := #[.bool false, .string (⟨#[]⟩ : ByteArray), .string (⟨#[]⟩ : ByteArray)]) (t := 30) ?hr ?_; (case hd => rfl); (case hg => rfl); (case hr => first | (go_simp; done) | (go_simp; rfl)); intro gb537 hg w25 hbox hb; have n0_ := Aside0.mk (Kd.R_below (by (with_reducible repeat (first | apply Kd.R_alloc | apply Kd.R_drewN | apply Kd.R_drew)); exact HO522.out) hb); have n1_ := Aside0.mk (blk_below (g := gb527) (o := .cells #[.bool t523, .string t524, .string t525] 30 (0, 0)) (by (with_reducible repeat (first | refine blk_drewN ?_ _ | refine blk_drew ?_ | refine blk_alloc ?_ _)); exact BK527.out) hb); have n2_ := Aside0.mk (blk_below (g := gb532) (o := .cells #[.bool t528, .string t529, .string t530] 30 (0, 0)) (by (with_reducible repeat (first | refine blk_drewN ?_ _ | refine blk_drew ?_ | refine blk_alloc ?_ _)); exact BK532.out) hb); have n3_ := Aside0.mk (below_step (by repeat (first | (with_reducible first | exact HB.out | apply below_alloc | apply pw_below_drewN | apply below_drew1 | refine below_set ?_ GE527.out | refine below_set ?_ GE532.out) | exact HB.out)) hb); have n4_ := Aside0.mk (hbox); have n5_ := Aside0.mk ((by rw [hg]; exact (below_size (by repeat (first | (with_reducible first | exact HB.out | apply below_alloc | apply pw_below_drewN | apply below_drew1 | refine below_set ?_ GE527.out | refine below_set ?_ GE532.out) | exact HB.out))) : w.heap.size ≤ gb537)); have n6_ := Aside0.mk ((by rw [hg]; exact (below_size (by repeat (first | (with_reducible first | exact HB.out | apply below_alloc | apply pw_below_drewN | apply below_drew1 | refine below_set ?_ GE527.out | refine below_set ?_ GE532.out) | exact HB.out))) : w.heap.size ≤ gb537)); have n7_ := Aside0.mk ((by rw [hg]; exact Nat.ne_of_lt (blk_lt (g := gb527) (o := .cells #[.bool t523, .string t524, .string t525] 30 (0, 0)) (by (with_reducible repeat (first | refine blk_drewN ?_ _ | refine blk_drew ?_ | refine blk_alloc ?_ _)); exact BK527.out)) : gb527 ≠ gb537)); have n8_ := Aside0.mk ((by rw [hg]; exact Nat.ne_of_gt (blk_lt (g := gb527) (o := .cells #[.bool t523, .string t524, .string t525] 30 (0, 0)) (by (with_reducible repeat (first | refine blk_drewN ?_ _ | refine blk_drew ?_ | refine blk_alloc ?_ _)); exact BK527.out)) : gb537 ≠ gb527)); have n9_ := Aside0.mk ((by rw [hg]; exact Nat.ne_of_lt (blk_lt (g := gb532) (o := .cells #[.bool t528, .string t529, .string t530] 30 (0, 0)) (by (with_reducible repeat (first | refine blk_drewN ?_ _ | refine blk_drew ?_ | refine blk_alloc ?_ _)); exact BK532.out)) : gb532 ≠ gb537)); have n10_ := Aside0.mk ((by rw [hg]; exact Nat.ne_of_gt (blk_lt (g := gb532) (o := .cells #[.bool t528, .string t529, .string t530] 30 (0, 0)) (by (with_reducible repeat (first | refine blk_drewN ?_ _ | refine blk_drew ?_ | refine blk_alloc ?_ _)); exact BK532.out)) : gb537 ≠ gb532)); clear HO522; clear BK527; clear BK532; clear HB; have HO522 := n0_; have BK527 := n1_; have BK532 := n2_; have HB := n3_; have BK537 := n4_; have GW537 := n5_; have GE537 := n6_; have NB527_537 := n7_; have NB537_527 := n8_; have NB532_537 := n9_; have NB537_532 := n10_; clear n0_ n1_ n2_ n3_ n4_ n5_ n6_ n7_ n8_ n9_ n10_; clear hb hbox hg; have hnb26 := NB537_527.out; have hnc26 := NB527_537.out; have hnb27 := NB537_532.out; have hnc27 := NB532_537.out; have hcz28_0 : w25.cell? ⟨gb537, 0, none⟩ = some (.bool false) := (blk_cell BK537.out 0).trans rfl; have hcz28_1 : w25.cell? ⟨gb537, 1, none⟩ = some (.string (⟨#[]⟩ : ByteArray)) := (blk_cell BK537.out 1).trans rfl; have hcz28_2 : w25.cell? ⟨gb537, 2, none⟩ = some (.string (⟨#[]⟩ : ByteArray)) := (blk_cell BK537.out 2).trans rfl; have hfz28_0 := blk_frozen BK537.out 0; have hfz28_1 := blk_frozen BK537.out 1; have hfz28_2 := blk_frozen BK537.out 2))
 have n0_ : Aside0 (Kd.R k33 33 (((w25.setCell ⟨gb537, 0, none⟩ (.bool t533)).setCell ⟨gb537, 1, none⟩ (.string t534)).setCell ⟨gb537, 2, none⟩ (.string t535)) w.heap.size (fun _ => True) (.slice Ao16 y520.length co16) y520) := ⟨by (with_reducible repeat (first | apply Kd.R_alloc | apply Kd.R_drewN | apply Kd.R_drew)); exact Kd.R_mono (Kd.R_far (p := ⟨gb537, 2, none⟩) (Kd.R_far (p := ⟨gb537, 1, none⟩) (Kd.R_far (p := ⟨gb537, 0, none⟩) (Kd.R_types HO522.out BK537.out (by decide)) (fun _ hk => hk.2) (.bool t533)) (fun _ hk => hk.2) (.string t534)) (fun _ hk => hk.2) (.string t535)) (fun _ hk => trivial)⟩
 have n1_ : Aside0 ((((w25.setCell ⟨gb537, 0, none⟩ (.bool t533)).setCell ⟨gb537, 1, none⟩ (.string t534)).setCell ⟨gb537, 2, none⟩ (.string t535)).heap[gb527]? = some (.cells #[.bool t523, .string t524, .string t525] 30 (0, 0))) := ⟨by (with_reducible repeat (first | refine blk_drewN ?_ _ | refine blk_drew ?_ | refine blk_alloc ?_ _)); refine blk_far ?_ NB527_537.out _; (with_reducible repeat (first | refine blk_drewN ?_ _ | refine blk_drew ?_ | refine blk_alloc ?_ _)); refine blk_far ?_ NB527_537.out _; (with_reducible repeat (first | refine blk_drewN ?_ _ | refine blk_drew ?_ | refine blk_alloc ?_ _)); refine blk_far ?_ NB527_537.out _; (with_reducible repeat (first | refine blk_drewN ?_ _ | refine blk_drew ?_ | refine blk_alloc ?_ _)); exact BK527.out⟩
 have n2_ : Aside0 ((((w25.setCell ⟨gb537, 0, none⟩ (.bool t533)).setCell ⟨gb537, 1, none⟩ (.string t534)).setCell ⟨gb537, 2, none⟩ (.string t535)).heap[gb532]? = some (.cells #[.bool t528, .string t529, .string t530] 30 (0, 0))) := ⟨by (with_reducible repeat (first | refine blk_drewN ?_ _ | refine blk_drew ?_ | refine blk_alloc ?_ _)); refine blk_far ?_ NB532_537.out _; (with_reducible repeat (first | refine blk_drewN ?_ _ | refine blk_drew ?_ | refine blk_alloc ?_ _)); refine blk_far ?_ NB532_537.out _; (with_reducible repeat (first | refine blk_drewN ?_ _ | refine blk_drew ?_ | refine blk_alloc ?_ _)); refine blk_far ?_ NB532_537.out _; (with_reducible repeat (first | refine blk_drewN ?_ _ | refine blk_drew ?_ | refine blk_alloc ?_ _)); exact BK532.out⟩
 have n3_ : Aside0 ((((w25.setCell ⟨gb537, 0, none⟩ (.bool t533)).setCell ⟨gb537, 1, none⟩ (.string t534)).setCell ⟨gb537, 2, none⟩ (.string t535)).heap[gb537]? = some (.cells #[.bool t533, .string t534, .string t535] 30 (0, 0))) := ⟨by (with_reducible repeat (first | refine blk_drewN ?_ _ | refine blk_drew ?_ | refine blk_alloc ?_ _)); refine blk_put (cs := #[.bool t533, .string t534, .string (⟨#[]⟩ : ByteArray)]) ?_ 2 _ rfl; (with_reducible repeat (first | refine blk_drewN ?_ _ | refine blk_drew ?_ | refine blk_alloc ?_ _)); refine blk_put (cs := #[.bool t533, .string (⟨#[]⟩ : ByteArray), .string (⟨#[]⟩ : ByteArray)]) ?_ 1 _ rfl; (with_reducible repeat (first | refine blk_drewN ?_ _ | refine blk_drew ?_ | refine blk_alloc ?_ _)); refine blk_put (cs := #[.bool false, .string (⟨#[]⟩ : ByteArray), .string (⟨#[]⟩ : ByteArray)]) ?_ 0 _ rfl; (with_reducible repeat (first | refine blk_drewN ?_ _ | refine blk_drew ?_ | refine blk_alloc ?_ _)); exact BK537.out⟩
 have n4_ : Aside0 (Below w.heap.size w (((w25.setCell ⟨gb537, 0, none⟩ (.bool t533)).setCell ⟨gb537, 1, none⟩ (.string t534)).setCell ⟨gb537, 2, none⟩ (.string t535))) := ⟨by repeat (first | (with_reducible first | exact HB.out | apply below_alloc | apply pw_below_drewN | apply below_drew1 | refine below_set ?_ GE527.out | refine below_set ?_ GE532.out | refine below_set ?_ GE537.out) | exact HB.out)⟩
 (try clear HO522)
 (try clear BK527)
 (try clear BK532)
 (try clear BK537)
 (try clear HB)
 generalize (((w25.setCell ⟨gb537, 0, none⟩ (.bool t533)).setCell ⟨gb537, 1, none⟩ (.string t534)).setCell ⟨gb537, 2, none⟩ (.string t535)) = w29 at n0_ n1_ n2_ n3_ n4_ ⊢
 have HO522 := n0_
 have BK527 := n1_
 have BK532 := n2_
 have BK537 := n3_
 have HB := n4_
 clear n0_ n1_ n2_ n3_ n4_
 have n0_ := Aside0.mk (Kd.R_drew HO522.out)
 have n1_ := Aside0.mk (blk_drew BK527.out)
 have n2_ := Aside0.mk (blk_drew BK532.out)
 have n3_ := Aside0.mk (blk_drew BK537.out)
 have n4_ := Aside0.mk (below_drew1 HB.out)
 clear HO522
 clear BK527
 clear BK532
 clear BK537
 clear HB
 have HO522 := n0_
 have BK527 := n1_
 have BK532 := n2_
 have BK537 := n3_
 have HB := n4_
 clear n0_ n1_ n2_ n3_ n4_
 refine start_ (n := 21) (S := fun w' => w'.cell? ⟨gb527, 0, none⟩ = some (.bool t523) ∧ w'.cell? ⟨gb527, 1, none⟩ = some (.string t524) ∧ w'.cell? ⟨gb527, 2, none⟩ = some (.string t525) ∧ w'.cell? ⟨gb532, 0, none⟩ = some (.bool t528) ∧ w'.cell? ⟨gb532, 1, none⟩ = some (.string t529) ∧ w'.cell? ⟨gb532, 2, none⟩ = some (.string t530)) (ds := []) #[false, false, false, false, false, false, false, false, false, false, false, false, false, false, false, false, false, false, false, false, false] (by kernel_rfl) rfl rfl ⟨(blk_cell BK527.out 0).trans rfl, (blk_cell BK527.out 1).trans rfl, (blk_cell BK527.out 2).trans rfl, (blk_cell BK532.out 0).trans rfl, (blk_cell BK532.out 1).trans rfl, (blk_cell BK532.out 2).trans rfl⟩ (fun hHeld => ?_); refine with_tabW insolvencylaw7_awake.tab5 insolvencylaw7_awake.bits5 (fun HT_ HW_ => ?_)
 generalize w29.drew = w30 at HO522 BK527 BK532 BK537 HB hHeld ⊢
 refine pure_ (i := 0) (N := some 28) (v := ?_) (a' := ?_) #[true, false, false, false, false, false, false, false, false, false, false, false, false, false, false, false, false, false, false, false, false] rfl rfl (any_of HT_.out (by kernel_rfl)) (fun _ _ _ h => h) (Or.inl ⟨by rfl, ?_⟩) ?_ ?_
 rotate_left
 ·intro w'
  go_simp
  with_reducible rfl
 rotate_left
 ·simp only [Act.put, List.setIfInBounds_toArray, List.set_cons_zero, List.set_cons_succ, i64_w, i32_w]
  rfl
 refine pure_ (i := 1) (N := some 29) (v := ?_) (a' := ?_) #[true, true, false, false, false, false, false, false, false, false, false, false, false, false, false, false, false, false, false, false, false] rfl rfl (any_of HT_.out (by kernel_rfl)) (fun _ _ _ h => h) (Or.inl ⟨by rfl, ?_⟩) ?_ ?_
 rotate_left
 ·intro w'
  go_simp
  with_reducible rfl
 rotate_left
 ·simp only [Act.put, List.setIfInBounds_toArray, List.set_cons_zero, List.set_cons_succ, i64_w, i32_w]
  rfl
 refine pure_ (i := 2) (N := some 30) (v := ?_) (a' := ?_) #[true, true, true, false, false, false, false, false, false, false, false, false, false, false, false, false, false, false, false, false, false] rfl rfl (any_of HT_.out (by kernel_rfl)) (fun _ _ _ h => h) (Or.inl ⟨by rfl, ?_⟩) ?_ ?_
 rotate_left
 ·intro w'
  go_simp
  with_reducible rfl
 rotate_left
 ·simp only [Act.put, List.setIfInBounds_toArray, List.set_cons_zero, List.set_cons_succ, i64_w, i32_w]
  rfl
 refine take_ (i := 3) (N := some 31) (v := ?_) (a' := ?_) #[true, true, true, true, false, false, false, false, false, false, false, false, false, false, false, false, false, false, false, false, false] rfl rfl (take_ofW HT_.out HW_.out (by kernel_rfl)) (fun _ _ _ h => h) (Or.inl ⟨by rfl, ?_⟩) hHeld ?_ ?_
 rotate_left
 ·rintro w' ⟨s0, s1, s2, s3, s4, s5⟩
  go_simp
  with_reducible rfl
 rotate_left
 ·simp only [Act.put, List.setIfInBounds_toArray, List.set_cons_zero, List.set_cons_succ, i64_w, i32_w]
  rfl
 refine one_ (i := 4) (N := some 32) #[true, true, true, true, true, false, false, false, false, false, false, false, false, false, false, false, false, false, false, false, false] rfl rfl (one_of HT_.out (by kernel_rfl)) (by decide) (fun K hK => ?_)
 refine goes_ Tryd.func23 (by kernel_rfl) rfl #[.int .i64 4, .int .i64 5] (by rfl) rfl rfl (by (try simp only [List.map_toArray, List.map_cons, List.map_nil]); first | done | rfl | (simp only [List.length_drop, List.length_take]; rfl)) ?_
 with_reducible refine (insolvencylaw0_Ratio.calls k 4 5 t538 t539 t540 _ A7.out).mono ?_
 rintro e w31 ⟨rfl, hb⟩
 refine ⟨_, rfl, ?_⟩
 have n0_ := Aside0.mk (Kd.R_below (by (with_reducible repeat (first | apply Kd.R_alloc | apply Kd.R_drewN | apply Kd.R_drew)); exact HO522.out) hb)
 have n1_ := Aside0.mk (blk_below (g := gb527) (o := .cells #[.bool t523, .string t524, .string t525] 30 (0, 0)) (by (with_reducible repeat (first | refine blk_drewN ?_ _ | refine blk_drew ?_ | refine blk_alloc ?_ _)); exact BK527.out) hb)
 have n2_ := Aside0.mk (blk_below (g := gb532) (o := .cells #[.bool t528, .string t529, .string t530] 30 (0, 0)) (by (with_reducible repeat (first | refine blk_drewN ?_ _ | refine blk_drew ?_ | refine blk_alloc ?_ _)); exact BK532.out) hb)
 have n3_ := Aside0.mk (blk_below (g := gb537) (o := .cells #[.bool t533, .string t534, .string t535] 30 (0, 0)) (by (with_reducible repeat (first | refine blk_drewN ?_ _ | refine blk_drew ?_ | refine blk_alloc ?_ _)); exact BK537.out) hb)
 have n4_ := Aside0.mk (below_step (by repeat (first | (with_reducible first | exact HB.out | apply below_alloc | apply pw_below_drewN | apply below_drew1 | refine below_set ?_ GE527.out | refine below_set ?_ GE532.out | refine below_set ?_ GE537.out) | exact HB.out)) hb)
 clear HO522
 clear BK527
 clear BK532
 clear BK537
 clear HB
 have HO522 := n0_
 have BK527 := n1_
 have BK532 := n2_
 have BK537 := n3_
 have HB := n4_
 clear n0_ n1_ n2_ n3_ n4_
 (try clear hb)
 (try clear hb2)
 (try clear hk)
 (try clear hi)
 refine hK.out _ _ ⟨(blk_cell BK527.out 0).trans rfl, (blk_cell BK527.out 1).trans rfl, (blk_cell BK527.out 2).trans rfl, (blk_cell BK532.out 0).trans rfl, (blk_cell BK532.out 1).trans rfl, (blk_cell BK532.out 2).trans rfl⟩ (fun hHeld => ?_)
 clear hK K
 refine norm_ (a' := ?_) ?_ ?_
 rotate_left
 ·show Act.put _ (some 32) _ = _
  simp only [Act.put, List.setIfInBounds_toArray, List.set_cons_zero, List.set_cons_succ, i64_w, i32_w]
  rfl
 refine pure_ (i := 5) (N := some 33) (v := ?_) (a' := ?_) #[true, true, true, true, true, true, false, false, false, false, false, false, false, false, false, false, false, false, false, false, false] rfl rfl (any_of HT_.out (by kernel_rfl)) (fun _ _ _ h => h) (Or.inl ⟨by rfl, ?_⟩) ?_ ?_
 rotate_left
 ·intro w'
  go_simp
  with_reducible rfl
 rotate_left
 ·simp only [Act.put, List.setIfInBounds_toArray, List.set_cons_zero, List.set_cons_succ, i64_w, i32_w]
  rfl
 refine pure_ (i := 6) (N := some 34) (v := ?_) (a' := ?_) #[true, true, true, true, true, true, true, false, false, false, false, false, false, false, false, false, false, false, false, false, false] rfl rfl (any_of HT_.out (by kernel_rfl)) (fun _ _ _ h => h) (Or.inl ⟨by rfl, ?_⟩) ?_ ?_
 rotate_left
 ·intro w'
  go_simp
  with_reducible rfl
 rotate_left
 ·simp only [Act.put, List.setIfInBounds_toArray, List.set_cons_zero, List.set_cons_succ, i64_w, i32_w]
  rfl
 refine pure_ (i := 7) (N := some 35) (v := ?_) (a' := ?_) #[true, true, true, true, true, true, true, true, false, false, false, false, false, false, false, false, false, false, false, false, false] rfl rfl (any_of HT_.out (by kernel_rfl)) (fun _ _ _ h => h) (Or.inl ⟨by rfl, ?_⟩) ?_ ?_
 rotate_left
 ·intro w'
  go_simp
  with_reducible rfl
 rotate_left
 ·simp only [Act.put, List.setIfInBounds_toArray, List.set_cons_zero, List.set_cons_succ, i64_w, i32_w]
  rfl
 refine pure_ (i := 8) (N := some 36) (v := ?_) (a' := ?_) #[true, true, true, true, true, true, true, true, true, false, false, false, false, false, false, false, false, false, false, false, false] rfl rfl (any_of HT_.out (by kernel_rfl)) (fun _ _ _ h => h) (Or.inl ⟨by rfl, ?_⟩) ?_ ?_
 rotate_left
 ·intro w'
  go_simp
  with_reducible rfl
 rotate_left
 ·simp only [Act.put, List.setIfInBounds_toArray, List.set_cons_zero, List.set_cons_succ, i64_w, i32_w]
  rfl
 refine pure_ (i := 9) (N := some 37) (v := ?_) (a' := ?_) #[true, true, true, true, true, true, true, true, true, true, false, false, false, false, false, false, false, false, false, false, false] rfl rfl (any_of HT_.out (by kernel_rfl)) (fun _ _ _ h => h) (Or.inl ⟨by rfl, ?_⟩) ?_ ?_
 rotate_left
 ·intro w'
  go_simp
  with_reducible rfl
 rotate_left
 ·simp only [Act.put, List.setIfInBounds_toArray, List.set_cons_zero, List.set_cons_succ, i64_w, i32_w]
  rfl
 refine pure_ (i := 10) (N := some 38) (v := ?_) (a' := ?_) #[true, true, true, true, true, true, true, true, true, true, true, false, false, false, false, false, false, false, false, false, false] rfl rfl (any_of HT_.out (by kernel_rfl)) (fun _ _ _ h => h) (Or.inl ⟨by rfl, ?_⟩) ?_ ?_
 rotate_left
 ·intro w'
  go_simp
  with_reducible rfl
 rotate_left
 ·simp only [Act.put, List.setIfInBounds_toArray, List.set_cons_zero, List.set_cons_succ, i64_w, i32_w]
  rfl
 refine pure_ (i := 11) (N := some 39) (v := ?_) (a' := ?_) #[true, true, true, true, true, true, true, true, true, true, true, true, false, false, false, false, false, false, false, false, false] rfl rfl (any_of HT_.out (by kernel_rfl)) (fun _ _ _ h => h) (Or.inl ⟨by rfl, ?_⟩) ?_ ?_
 rotate_left
 ·intro w'
  go_simp
  with_reducible rfl
 rotate_left
 ·simp only [Act.put, List.setIfInBounds_toArray, List.set_cons_zero, List.set_cons_succ, i64_w, i32_w]
  rfl
 refine take_ (i := 12) (N := some 40) (v := ?_) (a' := ?_) #[true, true, true, true, true, true, true, true, true, true, true, true, true, false, false, false, false, false, false, false, false] rfl rfl (take_ofW HT_.out HW_.out (by kernel_rfl)) (fun _ _ _ h => h) (Or.inl ⟨by rfl, ?_⟩) hHeld ?_ ?_
 rotate_left
 ·rintro w' ⟨s0, s1, s2, s3, s4, s5⟩
  go_simp
  with_reducible rfl
 rotate_left
 ·simp only [Act.put, List.setIfInBounds_toArray, List.set_cons_zero, List.set_cons_succ, i64_w, i32_w]
  rfl
 refine one_ (i := 13) (N := some 41) #[true, true, true, true, true, true, true, true, true, true, true, true, true, true, false, false, false, false, false, false, false] rfl rfl (one_of HT_.out (by kernel_rfl)) (by decide) (fun K hK => ?_)
 refine goes_ Tryd.func23 (by kernel_rfl) rfl #[.int .i64 9, .int .i64 10] (by rfl) rfl rfl (by (try simp only [List.map_toArray, List.map_cons, List.map_nil]); first | done | rfl | (simp only [List.length_drop, List.length_take]; rfl)) ?_
 with_reducible refine (insolvencylaw0_Ratio.calls k 9 10 t541 t542 t543 _ A10.out).mono ?_
 rintro e w32 ⟨rfl, hb⟩
 refine ⟨_, rfl, ?_⟩
 have n0_ := Aside0.mk (Kd.R_below (by (with_reducible repeat (first | apply Kd.R_alloc | apply Kd.R_drewN | apply Kd.R_drew)); exact HO522.out) hb)
 have n1_ := Aside0.mk (blk_below (g := gb527) (o := .cells #[.bool t523, .string t524, .string t525] 30 (0, 0)) (by (with_reducible repeat (first | refine blk_drewN ?_ _ | refine blk_drew ?_ | refine blk_alloc ?_ _)); exact BK527.out) hb)
 have n2_ := Aside0.mk (blk_below (g := gb532) (o := .cells #[.bool t528, .string t529, .string t530] 30 (0, 0)) (by (with_reducible repeat (first | refine blk_drewN ?_ _ | refine blk_drew ?_ | refine blk_alloc ?_ _)); exact BK532.out) hb)
 have n3_ := Aside0.mk (blk_below (g := gb537) (o := .cells #[.bool t533, .string t534, .string t535] 30 (0, 0)) (by (with_reducible repeat (first | refine blk_drewN ?_ _ | refine blk_drew ?_ | refine blk_alloc ?_ _)); exact BK537.out) hb)
 have n4_ := Aside0.mk (below_step (by repeat (first | (with_reducible first | exact HB.out | apply below_alloc | apply pw_below_drewN | apply below_drew1 | refine below_set ?_ GE527.out | refine below_set ?_ GE532.out | refine below_set ?_ GE537.out) | exact HB.out)) hb)
 clear HO522
 clear BK527
 clear BK532
 clear BK537
 clear HB
 have HO522 := n0_
 have BK527 := n1_
 have BK532 := n2_
 have BK537 := n3_
 have HB := n4_
 clear n0_ n1_ n2_ n3_ n4_
 (try clear hb)
 (try clear hb2)
 (try clear hk)
 (try clear hi)
 refine hK.out _ _ ⟨(blk_cell BK527.out 0).trans rfl, (blk_cell BK527.out 1).trans rfl, (blk_cell BK527.out 2).trans rfl, (blk_cell BK532.out 0).trans rfl, (blk_cell BK532.out 1).trans rfl, (blk_cell BK532.out 2).trans rfl⟩ (fun hHeld => ?_)
 clear hK K
 refine norm_ (a' := ?_) ?_ ?_
 rotate_left
 ·show Act.put _ (some 41) _ = _
  simp only [Act.put, List.setIfInBounds_toArray, List.set_cons_zero, List.set_cons_succ, i64_w, i32_w]
  rfl
 refine pure_ (i := 14) (N := some 42) (v := ?_) (a' := ?_) #[true, true, true, true, true, true, true, true, true, true, true, true, true, true, true, false, false, false, false, false, false] rfl rfl (any_of HT_.out (by kernel_rfl)) (fun _ _ _ h => h) (Or.inl ⟨by rfl, ?_⟩) ?_ ?_
 rotate_left
 ·intro w'
  go_simp
  with_reducible rfl
 rotate_left
 ·simp only [Act.put, List.setIfInBounds_toArray, List.set_cons_zero, List.set_cons_succ, i64_w, i32_w]
  rfl
 refine pure_ (i := 15) (N := some 43) (v := ?_) (a' := ?_) #[true, true, true, true, true, true, true, true, true, true, true, true, true, true, true, true, false, false, false, false, false] rfl rfl (any_of HT_.out (by kernel_rfl)) (fun _ _ _ h => h) (Or.inl ⟨by rfl, ?_⟩) ?_ ?_
 rotate_left
 ·intro w'
  go_simp
  with_reducible rfl
 rotate_left
 ·simp only [Act.put, List.setIfInBounds_toArray, List.set_cons_zero, List.set_cons_succ, i64_w, i32_w]
  rfl
 refine pure_ (i := 16) (N := some 44) (v := ?_) (a' := ?_) #[true, true, true, true, true, true, true, true, true, true, true, true, true, true, true, true, true, false, false, false, false] rfl rfl (any_of HT_.out (by kernel_rfl)) (fun _ _ _ h => h) (Or.inl ⟨by rfl, ?_⟩) ?_ ?_
 rotate_left
 ·intro w'
  go_simp
  with_reducible rfl
 rotate_left
 ·simp only [Act.put, List.setIfInBounds_toArray, List.set_cons_zero, List.set_cons_succ, i64_w, i32_w]
  rfl
 refine pure_ (i := 17) (N := some 45) (v := ?_) (a' := ?_) #[true, true, true, true, true, true, true, true, true, true, true, true, true, true, true, true, true, true, false, false, false] rfl rfl (any_of HT_.out (by kernel_rfl)) (fun _ _ _ h => h) (Or.inl ⟨by rfl, ?_⟩) ?_ ?_
 rotate_left
 ·intro w'
  go_simp
  with_reducible rfl
 rotate_left
 ·simp only [Act.put, List.setIfInBounds_toArray, List.set_cons_zero, List.set_cons_succ, i64_w, i32_w]
  rfl
 refine pure_ (i := 18) (N := some 46) (v := ?_) (a' := ?_) #[true, true, true, true, true, true, true, true, true, true, true, true, true, true, true, true, true, true, true, false, false] rfl rfl (any_of HT_.out (by kernel_rfl)) (fun _ _ _ h => h) (Or.inl ⟨by rfl, ?_⟩) ?_ ?_
 rotate_left
 ·intro w'
  go_simp
  with_reducible rfl
 rotate_left
 ·simp only [Act.put, List.setIfInBounds_toArray, List.set_cons_zero, List.set_cons_succ, i64_w, i32_w]
  rfl
 refine pure_ (i := 19) (N := some 47) (v := ?_) (a' := ?_) #[true, true, true, true, true, true, true, true, true, true, true, true, true, true, true, true, true, true, true, true, false] rfl rfl (any_of HT_.out (by kernel_rfl)) (fun _ _ _ h => h) (Or.inl ⟨by rfl, ?_⟩) ?_ ?_
 rotate_left
 ·intro w'
  go_simp
  with_reducible rfl
 rotate_left
 ·simp only [Act.put, List.setIfInBounds_toArray, List.set_cons_zero, List.set_cons_succ, i64_w, i32_w]
  rfl
 refine pure_ (i := 20) (N := some 0) (v := ?_) (a' := ?_) #[true, true, true, true, true, true, true, true, true, true, true, true, true, true, true, true, true, true, true, true, true] rfl rfl (any_of HT_.out (by kernel_rfl)) (fun _ _ _ h => h) (Or.inl ⟨by rfl, ?_⟩) ?_ ?_
 rotate_left
 ·intro w'
  go_simp
  with_reducible rfl
 rotate_left
 ·simp only [Act.put, List.setIfInBounds_toArray, List.set_cons_zero, List.set_cons_succ, i64_w, i32_w]
  rfl
 refine done_ (done_of HT_.out (by kernel_rfl)) ?_
 try go_wp2
 go_ret
 exact ⟨by first | rfl | (simp [errW_none, errW_some] <;> rfl) | (simp [*, errW_none, errW_some] <;> rfl), by repeat (first | (with_reducible first | exact HB.out | apply below_alloc | apply pw_below_drewN | apply below_drew1 | refine below_set ?_ GE527.out | refine below_set ?_ GE532.out | refine below_set ?_ GE537.out) | exact HB.out)⟩
end Go.Proofs.YtfnfjmeiaamheaaDoor.PA
namespace Go.Proofs.YtfnfjmeiaamheaaDoor.PA
open Go Go.RowKit Go.Proofs.YtfnfjmeiaamheaaDoorW.PrintWords
theorem ev_ge {α : Type} {f : Nat → Option α} (hm : ∀ k, LeO (f k) (f (k + 1))) {K : Nat} {r : α} (h : f K = some r) : ∀ k, K ≤ k → f k = some r := by
 intro k hk
 induction k with
 | zero => obtain rfl : K = 0 := Nat.le_zero.1 hk; exact h
 | succ n ih =>
  by_cases hc : K ≤ n
  ·exact hm n r (ih hc)
  obtain rfl : K = n + 1 := by omega
  exact h
set_option maxRecDepth 100000 in
theorem awake_40 : insolvencylaw7_awake.f 40 = some true := by kernel_rfl
theorem awake_ge (k : Nat) (h : 40 ≤ k) : insolvencylaw7_awake.f k = some true := ev_ge insolvencylaw7_awake.mono awake_40 k h
end Go.Proofs.YtfnfjmeiaamheaaDoor.PA
namespace Go.Proofs.YtfnfjmeiaamheaaDoor.PA
open Go.RowKit Go.Proofs.YtfnfjmeiaamheaaDoorW.PrintWords Go.Proofs.YtfnfjmeiaamheaaDoorW.PrintLast Go.Proofs.YtfnfjmeiaamheaaDoorW.PrintMore
attribute [local go_sem] max2_int min2_int max_two min_two max_three min_three max_four min_four
def insolvencylaw7_CurrencyMany.l0 : Nat → Int → List (S33) → Int → Option (Bool)
 | 0, _, _, _ => none
 | k + 1, x0, x3, x4 => if x4 < (Int.tmod (wrap64 (x0)) 286) then ((rational_Int.f k 1).bind fun bt583 => (if x3.length < 2199023255552 then (insolvencylaw7_CurrencyMany.l0 k x0 (x3 ++ [(⟨(⟨#[85, 83, 68]⟩ : ByteArray), x4, (⟨bt583.1, bt583.2.1, bt583.2.2⟩ : S30)⟩ : S33)]) (wrap64 (x4 + 1))) else (none))) else (if (x3.length : Int) > 256 then ((insolvencylaw7_awake.f k).bind fun t589 => (if t589 = true then ((currency_Check.f k x3).bind fun t590 => (some (t590 == 2))) else (some false))) else ((insolvencylaw7_awake.f k).bind fun t591 => (if t591 = true then ((currency_Check.f k x3).bind fun t592 => (some (t592 == 0))) else (some false))))
def insolvencylaw7_CurrencyMany.f (k : Nat) (a0 : Int) : Option (Bool) := insolvencylaw7_CurrencyMany.l0 k a0 ([] : List (S33)) 0
set_option maxHeartbeats 8000000 in
set_option maxRecDepth 100000 in
theorem insolvencylaw7_CurrencyMany.calls (k : Nat) (a0 : Int) (r : Bool) (w : World) (h : insolvencylaw7_CurrencyMany.f k a0 = some r) (hrT : r = true) :
  Calls Tryd.prog 4 #[.int .u16 a0] w fun e w' => e = .returned (.bool r) ∧ Below w.heap.size w w' := by
 have hu33 := Tryd.underlying33
 have HB := Aside0.mk (Below.refl w.heap.size w)
 have HRT := Aside0.mk hrT
 clear hrT
 have H : (insolvencylaw7_CurrencyMany.l0 k a0 ([] : List (S33)) 0) = some r := h
 clear h
 have H' := Aside0.mk H
 clear H
 go_enter Tryd.func4, Tryd.ntmps4
 go_wp2
 go_loopg [3, 4] k (fun kq v3 v4 w' => ∃ (x3_1 : List (S33)) (x4_1 : Int), v4 = .int .i64 x4_1 ∧ Aside0 (insolvencylaw7_CurrencyMany.l0 kq a0 x3_1 x4_1 = some r) ∧ Aside0 (kq ≤ k) ∧ Aside0 (Kd.R k33 33 w' w.heap.size (fun _ => True) v3 x3_1) ∧ Aside0 (Below w.heap.size w w'))
 case atStart => exact ⟨(([] : List (S33))), (0), (by first | rfl | (simp; done) | (simp [*]; done)), H', ⟨Nat.le_refl _⟩, ⟨by first | exact Kd.R_nil _ _ _ _ _ | exact Kd.N_nil _ _ _ _ _ | exact Kd.V_nil _ _ _ _ _ | exact Kd.Q_nil _ _ _ _ _ | exact Kd.S_nil _ _ _ _ _⟩, ⟨by repeat (first | (with_reducible first | exact HB.out | apply below_alloc | apply pw_below_drewN | apply below_drew1) | exact HB.out)⟩⟩
 case round =>
  clear H'
  obtain ⟨x3_1, x4_1, rfl, HA, HK1, HO_3, HB⟩ := hrel
  cases gk with
  | zero => exact absurd HA.out (by simp [insolvencylaw7_CurrencyMany.l0])
  | succ k1 =>
   have H := HA.out
   clear HA
   simp only [insolvencylaw7_CurrencyMany.l0] at H
   by_cases c2 : x4_1 < (Int.tmod (wrap64 (a0)) 286)
   ·rw [if_pos c2] at H
    have c2b0 : decide (x4_1 < (Int.tmod (wrap64 (a0)) 286)) = true := decide_eq_true c2
    clear c2
    replace H := Option.bind_eq_some_iff.mp H
    obtain ⟨⟨t583, t584, t585⟩, A30, H⟩ := H
    replace H : (if x3_1.length < 2199023255552 then (insolvencylaw7_CurrencyMany.l0 k1 a0 (x3_1 ++ [(⟨(⟨#[85, 83, 68]⟩ : ByteArray), x4_1, (⟨t583, t584, t585⟩ : S30)⟩ : S33)]) (wrap64 (x4_1 + 1))) else (none)) = some r := H
    have A3 := Aside0.mk A30
    clear A30
    by_cases c4 : x3_1.length < 2199023255552
    rotate_left
    ·rw [if_neg c4] at H
     exact absurd H (by simp)
    rw [if_pos c4] at H
    have LMc4 := Aside0.mk c4
    clear c4
    obtain ⟨y586, hy586⟩ : ∃ y_ : List (S33), y_ = (x3_1 ++ [(⟨(⟨#[85, 83, 68]⟩ : ByteArray), x4_1, (⟨t583, t584, t585⟩ : S30)⟩ : S33)]) := ⟨_, rfl⟩
    replace H : (insolvencylaw7_CurrencyMany.l0 k1 a0 y586 (wrap64 (x4_1 + 1))) = some r := by first | (rw [hy586]; with_reducible exact H) | (have H2_ := (Option.bind_some _ _).symm.trans H; rw [hy586]; with_reducible exact H2_) | (have H2_ := (Option.bind_some _ _).symm.trans H; with_reducible exact H2_) | with_reducible exact H | (rw [hy586]; exact H) | exact H
    have Ny586 := Aside0.mk hy586
    clear hy586
    have H' := Aside0.mk H
    clear H
    go_wp2_with (first | ((with_reducible refine gate_callee (f := 14) rfl ?_); refine goesL_ (some 15) rfl rfl Tryd.func14 (by kernel_rfl) rfl #[.int .i64 1] rfl (by (try simp only [List.map_toArray, List.map_cons, List.map_nil]); first | done | rfl | (simp only [List.length_drop, List.length_take]; rfl)) ?_; (with_reducible refine (rational_Int.calls k1 1 t583 t584 t585 _ A3.out).mono ?_); rintro e w5 ⟨rfl, hb⟩; refine ⟨_, rfl, ?_⟩; have n0_ := Aside0.mk (Kd.R_below (by (with_reducible repeat (first | apply Kd.R_alloc | apply Kd.R_drewN | apply Kd.R_drew)); exact HO_3.out) hb); have n1_ := Aside0.mk (below_step (by repeat (first | (with_reducible first | exact HB.out | apply below_alloc | apply pw_below_drewN | apply below_drew1) | exact HB.out)) hb); clear HO_3; clear HB; have HO_3 := n0_; have HB := n1_; clear n0_ n1_; (try clear hb); (try clear hb2); (try clear hk); (try clear hi)) | ((with_reducible refine gate_builtin (b := .append) (xs := #[.tmp 13, .tmp 17]) rfl ?_); at_builtin; refine Kd.R_append k33 (w0 := w) w.heap.size rfl (.tmp 13) (.tmp 17) 22 33 (.agg #[(.string ⟨#[]⟩), (.int .i64 0), (.bool false), (.string ⟨#[]⟩), (.string ⟨#[]⟩)]) 64 rfl Tryd.underlying22 info33 rfl (by decide) (by omega) u3 x3_1 (⟨(⟨#[85, 83, 68]⟩ : ByteArray), x4_1, (⟨t583, t584, t585⟩ : S30)⟩ : S33) [.string (⟨#[85, 83, 68]⟩ : ByteArray), .int .i64 x4_1, .bool t583, .string t584, .string t585] (fun _ => True) (fun _ => False) rfl rfl ?aP (fun _ hk => hk.elim) ?aF ?aO ?aB ?aS ?aL ?_; (case aP => exact k33_mkM _ _ _ (⟨(⟨#[85, 83, 68]⟩ : ByteArray), x4_1, (⟨t583, t584, t585⟩ : S30)⟩ : S33)); (case aB => exact (by repeat (first | (with_reducible first | exact HB.out | apply below_alloc | apply pw_below_drewN | apply below_drew1) | exact HB.out))); (case aF => exact (fun _ _ => trivial)); (case aO => exact (by (with_reducible repeat (first | apply Kd.R_alloc | apply Kd.R_drewN | apply Kd.R_drew)); exact HO_3.out)); (case aS => exact (below_size (by repeat (first | (with_reducible first | exact HB.out | apply below_alloc | apply pw_below_drewN | apply below_drew1) | exact HB.out)))); (case aL => have := LMc4.out; omega); intro v587 w6 ho hb hg hat; rw [← Ny586.out] at ho; have n0_ := Aside0.mk (hb); have n1_ := Aside0.mk (ho); clear HB; clear HO_3; have HB := n0_; have HO588 := n1_; clear n0_ n1_; clear ho hb hg hat))
    go_roundg k1
    case measure => have := HK1.out; omega
    case rel => exact ⟨(y586), (wrap64 (x4_1 + 1)), (by first | rfl | (simp; done) | (simp [*]; done)), H', ⟨by have := HK1.out; omega⟩, ⟨by (with_reducible repeat (first | apply Kd.R_alloc | apply Kd.R_drewN | apply Kd.R_drew)); exact HO588.out⟩, ⟨by repeat (first | (with_reducible first | exact HB.out | apply below_alloc | apply pw_below_drewN | apply below_drew1) | exact HB.out)⟩⟩
   rw [if_neg c2] at H
   have c2b0 : decide (x4_1 < (Int.tmod (wrap64 (a0)) 286)) = false := decide_eq_false c2
   clear c2
   by_cases c7 : (x3_1.length : Int) > 256
   ·rw [if_pos c7] at H
    have c7b0 : decide (256 < (x3_1.length : Int)) = true := decide_eq_true c7
    have c7b1 : decide (256 < x3_1.length) = true := decide_eq_true (by omega)
    clear c7
    replace H := Option.bind_eq_some_iff.mp H
    obtain ⟨t589, A80, H⟩ := H
    replace H : (if t589 = true then ((currency_Check.f k1 x3_1).bind fun t590 => (some (t590 == 2))) else (some false)) = some r := H
    have A8 := Aside0.mk A80
    clear A80
    by_cases c9 : t589 = true
    rotate_left
    ·replace c9 := Bool.eq_false_iff.mpr c9
     subst c9
     have H1 : (some false) = some r := by rw [if_neg (show ¬ (false = true) by decide)] at H; exact H
     exact absurd ((Option.some.inj H1).trans HRT.out) (by decide)
    subst c9
    have H1 : ((currency_Check.f k1 x3_1).bind fun t590 => (some (t590 == 2))) = some r := by rw [if_pos rfl] at H; exact H
    clear H
    have H := H1
    clear H1
    replace H := Option.bind_eq_some_iff.mp H
    obtain ⟨t590, A100, H⟩ := H
    replace H : (some (t590 == 2)) = some r := H
    have A10 := Aside0.mk A100
    clear A100
    obtain rfl := Option.some.inj H
    obtain ⟨Ao11, co11, eo11⟩ := Kd.R_slice HO_3.out
    subst eo11
    go_wp2_with (first | ((with_reducible refine gate_callee (f := 11) rfl ?_); refine goesL_ (some 22) rfl rfl Tryd.func11 (by kernel_rfl) rfl #[] rfl (by (try simp only [List.map_toArray, List.map_cons, List.map_nil]); first | done | rfl | (simp only [List.length_drop, List.length_take]; rfl)) ?_; (with_reducible refine (insolvencylaw7_awake.calls k1  true _ A8.out rfl).mono ?_); rintro e w12 ⟨rfl, hb⟩; refine ⟨_, rfl, ?_⟩; have n0_ := Aside0.mk (Kd.R_below (by (with_reducible repeat (first | apply Kd.R_alloc | apply Kd.R_drewN | apply Kd.R_drew)); exact HO_3.out) hb); have n1_ := Aside0.mk (below_step (by repeat (first | (with_reducible first | exact HB.out | apply below_alloc | apply pw_below_drewN | apply below_drew1) | exact HB.out)) hb); clear HO_3; clear HB; have HO_3 := n0_; have HB := n1_; clear n0_ n1_; (try clear hb); (try clear hb2); (try clear hk); (try clear hi)) | (go_at_call 12; (with_reducible refine (currency_Check.calls k1 _ _ x3_1 t590 _ ?side1 ?side2 A10.out).mono ?_); (case side1 => repeat (first | exact (Kd.R_reads' HO_3.out).2.2 | (with_reducible refine Kd.C_alloc ?_ _) | (with_reducible refine Kd.C_drewN ?_ _) | (with_reducible refine Kd.C_drew ?_))); (case side2 => exact (Kd.R_reads' HO_3.out).2.1); rintro e w13 ⟨rfl, hb⟩; have n0_ := Aside0.mk (Kd.R_below (by (with_reducible repeat (first | apply Kd.R_alloc | apply Kd.R_drewN | apply Kd.R_drew)); exact HO_3.out) hb); have n1_ := Aside0.mk (below_step (by repeat (first | (with_reducible first | exact HB.out | apply below_alloc | apply pw_below_drewN | apply below_drew1) | exact HB.out)) hb); clear HO_3; clear HB; have HO_3 := n0_; have HB := n1_; clear n0_ n1_; (try clear hb); (try clear hb2); (try clear hk); (try clear hi)))
    go_ret
    exact ⟨by first | rfl | (simp [errW_none, errW_some] <;> rfl) | (simp [*, errW_none, errW_some] <;> rfl), by repeat (first | (with_reducible first | exact HB.out | apply below_alloc | apply pw_below_drewN | apply below_drew1) | exact HB.out)⟩
   rw [if_neg c7] at H
   have c7b0 : decide (256 < (x3_1.length : Int)) = false := decide_eq_false c7
   have c7b1 : decide (256 < x3_1.length) = false := decide_eq_false (by omega)
   clear c7
   replace H := Option.bind_eq_some_iff.mp H
   obtain ⟨t591, A160, H⟩ := H
   replace H : (if t591 = true then ((currency_Check.f k1 x3_1).bind fun t592 => (some (t592 == 0))) else (some false)) = some r := H
   have A16 := Aside0.mk A160
   clear A160
   by_cases c17 : t591 = true
   rotate_left
   ·replace c17 := Bool.eq_false_iff.mpr c17
    subst c17
    have H1 : (some false) = some r := by rw [if_neg (show ¬ (false = true) by decide)] at H; exact H
    exact absurd ((Option.some.inj H1).trans HRT.out) (by decide)
   subst c17
   have H1 : ((currency_Check.f k1 x3_1).bind fun t592 => (some (t592 == 0))) = some r := by rw [if_pos rfl] at H; exact H
   clear H
   have H := H1
   clear H1
   replace H := Option.bind_eq_some_iff.mp H
   obtain ⟨t592, A180, H⟩ := H
   replace H : (some (t592 == 0)) = some r := H
   have A18 := Aside0.mk A180
   clear A180
   obtain rfl := Option.some.inj H
   obtain ⟨Ao19, co19, eo19⟩ := Kd.R_slice HO_3.out
   subst eo19
   go_wp2_with (first | ((with_reducible refine gate_callee (f := 11) rfl ?_); refine goesL_ (some 22) rfl rfl Tryd.func11 (by kernel_rfl) rfl #[] rfl (by (try simp only [List.map_toArray, List.map_cons, List.map_nil]); first | done | rfl | (simp only [List.length_drop, List.length_take]; rfl)) ?_; (with_reducible refine (insolvencylaw7_awake.calls k1  true _ A16.out rfl).mono ?_); rintro e w20 ⟨rfl, hb⟩; refine ⟨_, rfl, ?_⟩; have n0_ := Aside0.mk (Kd.R_below (by (with_reducible repeat (first | apply Kd.R_alloc | apply Kd.R_drewN | apply Kd.R_drew)); exact HO_3.out) hb); have n1_ := Aside0.mk (below_step (by repeat (first | (with_reducible first | exact HB.out | apply below_alloc | apply pw_below_drewN | apply below_drew1) | exact HB.out)) hb); clear HO_3; clear HB; have HO_3 := n0_; have HB := n1_; clear n0_ n1_; (try clear hb); (try clear hb2); (try clear hk); (try clear hi)) | (go_at_call 12; (with_reducible refine (currency_Check.calls k1 _ _ x3_1 t592 _ ?side1 ?side2 A18.out).mono ?_); (case side1 => repeat (first | exact (Kd.R_reads' HO_3.out).2.2 | (with_reducible refine Kd.C_alloc ?_ _) | (with_reducible refine Kd.C_drewN ?_ _) | (with_reducible refine Kd.C_drew ?_))); (case side2 => exact (Kd.R_reads' HO_3.out).2.1); rintro e w21 ⟨rfl, hb⟩; have n0_ := Aside0.mk (Kd.R_below (by (with_reducible repeat (first | apply Kd.R_alloc | apply Kd.R_drewN | apply Kd.R_drew)); exact HO_3.out) hb); have n1_ := Aside0.mk (below_step (by repeat (first | (with_reducible first | exact HB.out | apply below_alloc | apply pw_below_drewN | apply below_drew1) | exact HB.out)) hb); clear HO_3; clear HB; have HO_3 := n0_; have HB := n1_; clear n0_ n1_; (try clear hb); (try clear hb2); (try clear hk); (try clear hi)))
   go_ret
   exact ⟨by first | rfl | (simp [errW_none, errW_some] <;> rfl) | (simp [*, errW_none, errW_some] <;> rfl), by repeat (first | (with_reducible first | exact HB.out | apply below_alloc | apply pw_below_drewN | apply below_drew1) | exact HB.out)⟩
def insolvencylaw7_CurrencyMany.Pure : Prop := ∀ (a0 : Int), (Lit.int .u16 a0).wf = true → ∃ k, insolvencylaw7_CurrencyMany.f k a0 = some true
theorem insolvencylaw7_CurrencyMany.walk (P : insolvencylaw7_CurrencyMany.Pure) (a0 : Int) (w : World) (w0 : (Lit.int .u16 a0).wf = true) :
 Calls Tryd.prog 4 #[.int .u16 a0] w fun e w' => e = .returned (.bool true) ∧ Below w.heap.size w w' := by
 obtain ⟨k, h⟩ := P a0 w0
 refine (insolvencylaw7_CurrencyMany.calls k a0 true w h rfl).mono ?_
 rintro e w' ⟨rfl, hd⟩
 exact ⟨rfl, hd⟩
end Go.Proofs.YtfnfjmeiaamheaaDoor.PA
namespace Go.Proofs.YtfnfjmeiaamheaaDoor.PA
open Go Go.RowKit Go.Proofs.YtfnfjmeiaamheaaDoorW.PrintWords
def manyQ (i : Nat) : S33 := ⟨(⟨#[85, 83, 68]⟩ : ByteArray), (i : Int), (⟨false, ⟨#[1]⟩, ⟨#[]⟩⟩ : S30)⟩
def manyL (n : Nat) : List S33 := (List.range n).map manyQ
theorem manyL_len (n : Nat) : (manyL n).length = n := by simp [manyL]
theorem manyL_rd {n i : Nat} (h : i < n) : rd_T33 (manyL n) (i : Int) = manyQ i := by
 have h1 : i < (manyL n).length := by rw [manyL_len]; exact h
 simp [rd_T33, List.getD, manyL, h]
set_option maxRecDepth 100000 in
theorem isCode_usd (k : Nat) (h : 10 ≤ k) : currency_isCode.f k (⟨#[85, 83, 68]⟩ : ByteArray) = some true := ev_ge (fun k => currency_isCode.mono _ k) (K := 10) (by kernel_rfl) k h
set_option maxRecDepth 100000 in
theorem sign_one (k : Nat) (h : 20 ≤ k) : rational_Sign.f k false (⟨#[1]⟩ : ByteArray) (⟨#[]⟩ : ByteArray) = some 1 := ev_ge (fun k => rational_Sign.mono _ _ _ k) (K := 20) (by kernel_rfl) k h
set_option maxRecDepth 100000 in
theorem int_one (k : Nat) (h : 40 ≤ k) : rational_Int.f k 1 = some (false, (⟨#[1]⟩ : ByteArray), (⟨#[]⟩ : ByteArray)) := ev_ge (fun k => rational_Int.mono _ k) (K := 40) (by kernel_rfl) k h
theorem usd_not_eur : ((⟨#[85, 83, 68]⟩ : ByteArray).toList == ([69, 85, 82] : List UInt8)) = false := by kernel_rfl
theorem wrap64_small {x : Int} (h0 : -9223372036854775808 ≤ x) (h1 : x < 9223372036854775808) : wrap64 x = x := by unfold wrap64; omega
theorem has_many {n i : Nat} (h : i < n) (hn : n ≤ 256) : currency_isDay_has.f (manyL n) (i : Int) = some false := by
 have e := manyL_rd h
 have hk : keyOk (manyQ i) = true := by
  have h1 : (manyQ i).f0.size ≤ maxLen := by show 3 ≤ maxLen; decide
  have h2 : (Lit.int .i64 (i : Int)).wf = true := by
   simp only [Lit.wf, IntKind.min, IntKind.max, IntKind.signed, IntKind.bits, Bool.and_eq_true, decide_eq_true_eq, if_true]; omega
  simp only [keyOk, Bool.and_eq_true, decide_eq_true_eq]
  exact ⟨h1, h2⟩
 have hf : hasKey ((manyL n).take (i : Int).toNat) (manyQ i) = false := by
  simp only [hasKey, List.any_eq_false]
  intro p hp
  obtain ⟨j, hj, rfl⟩ := List.mem_iff_getElem.1 hp
  have hj2 : j < i := by simp [manyL_len] at hj; omega
  have : (List.take (i : Int).toNat (manyL n))[j] = manyQ j := by simp [manyL]
  rw [this]
  have : ((manyQ j).f1 = (manyQ i).f1) = False := by simp [manyQ]; omega
  simp [this]
 unfold currency_isDay_has.f
 rw [e, hf]
 have : (0 ≤ (i : Int) ∧ (i : Int) < (manyL n).length) := by rw [manyL_len]; omega
 rw [if_pos ⟨this, hk⟩]
theorem check_many (n : Nat) (hn : n ≤ 256) : ∀ m i k, i + m = n → 30 + 3 * m ≤ k → currency_Check.l0 k (manyL n) (manyL n) (n : Int) (i : Int) = some 0 := by
 intro m
 induction m with
 | zero =>
  intro i k hi hk
  obtain ⟨k, rfl⟩ : ∃ j, k = j + 1 := ⟨k - 1, by omega⟩
  rw [currency_Check.l0, if_neg (by omega)]
 | succ m ih =>
  intro i k hi hk
  obtain ⟨k, rfl⟩ : ∃ j, k = j + 3 := ⟨k - 3, by omega⟩
  have hin : i < n := by omega
  have hd : currency_isDay.f (i : Int) = some true := by
   unfold currency_isDay.f
   rw [if_pos (by omega), decide_eq_true (by omega)]
  have e1 : currency_isCode.f (k + 2) (manyQ i).f0 = some true := isCode_usd (k + 2) (by omega)
  have e2 : ((manyQ i).f0.toList == ([69, 85, 82] : List UInt8)) = false := usd_not_eur
  have e3 : currency_isDay.f (manyQ i).f1 = some true := hd
  have e4 : rational_Sign.f (k + 1) (manyQ i).f2.f0 (manyQ i).f2.f1 (manyQ i).f2.f2 = some 1 := sign_one (k + 1) (by omega)
  have e5 : decide ((1 : Int) ≤ 0) = false := by decide
  rw [currency_Check.l0, if_pos (by omega), if_pos (by omega), if_pos (by rw [manyL_len]; omega), manyL_rd hin, e1, Option.bind_some, if_pos rfl, e2, currency_Check.j1, if_neg (by decide), e3, Option.bind_some, if_pos rfl, e4, Option.bind_some, e5,
   currency_Check.j2, if_neg (by decide), has_many hin hn, Option.bind_some, if_neg (by decide), wrap64_small (by omega) (by omega)]
  exact ih (i + 1) k (by omega) (by omega)
theorem many_loop (a0 : Int) (n : Nat) (hN : Int.tmod (wrap64 a0) 286 = (n : Int)) (hn : n < 286) : ∀ m i k, i + m = n → 1000 + m ≤ k → insolvencylaw7_CurrencyMany.l0 k a0 (manyL i) (i : Int) = some true := by
 intro m
 induction m with
 | zero =>
  intro i k hi hk
  obtain rfl : i = n := by omega
  obtain ⟨k, rfl⟩ : ∃ j, k = j + 1 := ⟨k - 1, by omega⟩
  rw [insolvencylaw7_CurrencyMany.l0, hN, if_neg (by omega)]
  by_cases hc : ((manyL i).length : Int) > 256
  ·rw [if_pos hc, awake_ge k (by omega)]
   rw [Option.bind_some, if_pos rfl, currency_Check.f, if_pos hc]
   rfl
  rw [if_neg hc, awake_ge k (by omega)]
  rw [Option.bind_some, if_pos rfl, currency_Check.f, if_neg hc]
  rw [manyL_len] at hc ⊢
  rw [show ((0 : Int)) = ((0 : Nat) : Int) from rfl, check_many i (by omega) i 0 k (by omega) (by omega)]
  rfl
 | succ m ih =>
  intro i k hi hk
  obtain ⟨k, rfl⟩ : ∃ j, k = j + 1 := ⟨k - 1, by omega⟩
  rw [insolvencylaw7_CurrencyMany.l0, hN, if_pos (by omega), int_one k (by omega)]
  show (if (manyL i).length < 2199023255552 then insolvencylaw7_CurrencyMany.l0 k a0 (manyL i ++ [manyQ i]) (wrap64 ((i : Int) + 1)) else none) = _
  rw [if_pos (by rw [manyL_len]; omega), wrap64_small (by omega) (by omega)]
  have : manyL i ++ [manyQ i] = manyL (i + 1) := by simp [manyL, List.range_succ]
  rw [this]
  exact ih (i + 1) k (by omega) (by omega)
theorem pure_many : insolvencylaw7_CurrencyMany.Pure := by
 intro a0 hw
 have hb : 0 ≤ a0 ∧ a0 ≤ 65535 := by
  simpa [Lit.wf, IntKind.min, IntKind.max, IntKind.signed, IntKind.bits] using hw
 have e1 : wrap64 a0 = a0 := wrap64_small (by omega) (by omega)
 have e2 : Int.tmod (wrap64 a0) 286 = ((a0.toNat % 286 : Nat) : Int) := by
  rw [e1, Int.tmod_eq_emod_of_nonneg hb.1]; omega
 refine ⟨2000, ?_⟩
 exact many_loop a0 (a0.toNat % 286) e2 (Nat.mod_lt _ (by decide)) (a0.toNat % 286) 0 2000 (by omega) (by have := Nat.mod_lt a0.toNat (show 286 > 0 by decide); omega)
end Go.Proofs.YtfnfjmeiaamheaaDoor.PA
namespace Go.Proofs.YtfnfjmeiaamheaaDoor.currencyMany
open Go.ChangeShapes Go.WideShapes Go.ChangeAt Go.RowKit
open Go.ChangeMaps (open_string shut_string)
theorem own : ownKnob Tryd.prog.godebug = none := by kernel_rfl
set_option maxRecDepth 100000 in
theorem lifted (os : Os) (started : os.Started) (H : Type) (enc : TypeId × Value → H) :
 ReturnsInHanded {} Tryd.checked os 4 .any (fun w args => (Rows.currencyManySpec.pre enc Tryd.prog Tryd.f4 Rows.currencyManyRow.domain false w args ∧ laidMetH Tryd.prog Rows.currencyManyRow.laid w) ∧ sizedMet enc Tryd.prog Tryd.f4 (OpenSpec.ofChange Rows.currencyManySpec) false w args)
  (Rows.currencyManySpec.post enc Tryd.prog Tryd.f4 false true false false) := by
 refine returnsInHanded_of_change_and (C := Tryd.checked) (X := fun w _ => laidMetH Tryd.prog Rows.currencyManyRow.laid w) (fun _ _ _ hh h => h.of_heap hh) own started (by kernel_rfl) Tryd.func4
  (ChangeSpec.witness_shaped (enc := enc) (C := Tryd.checked) (os := os) (X := fun w _ => laidMetH Tryd.prog Rows.currencyManyRow.laid w) false (World.laidAll Tryd.prog os Rows.currencyManyRow.laid) #[.int .u16 0] 8 (World.laidAll_os _ _ _)
   (World.shaped_of_ZipB (by kernel_rfl) (by kernel_rfl)) (by kernel_rfl) (by kernel_rfl) (by kernel_rfl)
   (by rw [MakeChecks.laidMetH_plain _ _ _ (by kernel_rfl)]; exact laidMet_laidAll _ (by kernel_rfl) (by kernel_rfl))) ?_
 intro W base args ds gs before hval0 hW _ _ _ _
 have hval : ∀ (j : Nat) t v, Tryd.f4.params[j]? = some t → args[j]? = some v → Value.okWide Tryd.prog W .any base t v := hval0
 have hW' := hW
 obtain ⟨p, q, hA0, hV, rfl, _, _⟩ := hW
 have hA : DataW.TrodAll enc Tryd.prog W 0 (fun _ => true) true Tryd.f4.params.toList args.toList ds p := hA0
 rw [Tryd.params4] at hA hval
 obtain ⟨v0, d0, rfl, rfl, h0⟩ := trodAll_one hA
 obtain ⟨rfl, rfl⟩ := trodVars_none hV
 obtain ⟨a0, rfl, rfl, rfl, w0⟩ := open_int Tryd.underlying28 (hval 0 28 v0 rfl rfl) h0
 simp only [List.append_nil] at hW'
 refine (PA.insolvencylaw7_CurrencyMany.walk PA.pure_many a0 W w0).mono fun e W' ⟨he, hb⟩ => ?_
 subst he
 exact ⟨_, rfl, _, _, _, [], [], [], hW', trodAll_mk1 (shut_bool Tryd.underlying4 _), trodAll_mk1 (shut_int Tryd.underlying28 w0), rfl, hb.frame _, fun h => by cases h⟩
theorem holds : Rows.CurrencyManySaid :=
 OpenClaim.holds_of_wide 4 Tryd.f4 rfl rfl rfl rfl rfl rfl rfl ⟨rfl, rfl, rfl, rfl, rfl⟩ rfl rfl rfl rfl rfl (by kernel_rfl) Tryd.func4 (by kernel_rfl)
  (of_decide_eq_true (by kernel_rfl)) (by unfold Func.isWrapper; first | (rw [if_pos (by decide +kernel)]; kernel_rfl) | (rw [if_neg (by decide +kernel)]; exact ⟨rfl, rfl⟩))
  (fun os started H enc _ => lifted os started H enc)
end Go.Proofs.YtfnfjmeiaamheaaDoor.currencyMany
namespace Go.Proofs.YtfnfjmeiaamheaaDoor
theorem currencyMany_holds : Rows.CurrencyManyCardSaid :=
 Claim7.holds_tied_plain_at .later [] [.data, .pinned] true (true, "5bfc081f87bed625174066f6293cfe8983b3a0676fe84266add06b58b293d139") false currencyMany.holds (fun _ h => by cases h) (by kernel_rfl) (fun _ h => by cases h) currencyMany_row_tie rfl ⟨rfl, rfl⟩ (by kernel_rfl) rfl
  (fun f fn hf hfn => by
   obtain rfl : f = 4 := Option.some.inj ((show Tryd.prog.funcNamed "insolvency/insolvencylaw7.CurrencyMany" = some 4 by kernel_rfl).symm.trans hf) |>.symm
   obtain rfl : fn = Tryd.f4 := (Option.some.inj (Tryd.func4.symm.trans hfn)).symm
   exact ⟨by kernel_rfl, fun j t ht => by
    rw [Tryd.params4] at ht
    have hm : t ∈ [28] := by simpa using Array.mem_of_getElem? ht
    have hall : ([28].all fun u => !Tryd.prog.wantsStandIn u) = true := by kernel_rfl
    exact (show Tryd.prog.wantsStandIn t = false by simpa using List.all_eq_true.1 hall t hm)⟩)
  (by kernel_rfl)
#print axioms currencyMany_holds
end Go.Proofs.YtfnfjmeiaamheaaDoor
