/- CurrencyRate returns true at every input: Rate agrees with the reference's definition for arbitrary short quotes, codes and days. The tables of unicode/utf8 lie as the program's text lays them. -/
import Derived.Test.YtfnfjmeiaamheaaDoorRate6
import Derived.Deep.Slices
import Derived.OpenShut
import Derived.Test.YtfnfjmeiaamheaaDoorTie
import Derived.Test.YtfnfjmeiaamheaaDoorCards
import Derived.ProofKit
import Derived.ShutString
import Derived.ChangeOld
import Derived.SizedLaws
import Derived.Lay
import Derived.SevenTiedAt
set_option linter.unusedVariables false
set_option linter.unusedSimpArgs false
namespace Go.Proofs.YtfnfjmeiaamheaaDoor.PA
open Go.RowKit Go.Proofs.YtfnfjmeiaamheaaDoorW.PrintWords Go.Proofs.YtfnfjmeiaamheaaDoorW.PrintLast Go.Proofs.YtfnfjmeiaamheaaDoorW.PrintMore
attribute [local go_sem] max2_int min2_int max_two min_two max_three min_three max_four min_four
def e1_ExchangeRate.l0 : Nat → List (S33) → ByteArray → Int → Bool → Int → Int → Option (Bool × ByteArray × ByteArray × Int)
 | 0, _, _, _, _, _, _ => none
 | k + 1, x0, x1, x2, x9, x10, x11 => if x11 < (x0.length : Int) then (if 0 ≤ x11 then (if ((rd_T33 x0 x11).f0).toList = x1.toList then (if ((rd_T33 x0 x11).f1) ≤ x2 then (if x10 < 0 then (e1_ExchangeRate.l0 k x0 x1 x2 true x11 (wrap64 (x11 + 1))) else (if 0 ≤ x10 then (if x10 < (x0.length : Int) then (if ((rd_T33 x0 x10).f1) < ((rd_T33 x0 x11).f1) then (e1_ExchangeRate.l0 k x0 x1 x2 true x11 (wrap64 (x11 + 1))) else (e1_ExchangeRate.l0 k x0 x1 x2 true x10 (wrap64 (x11 + 1)))) else (none)) else (none))) else (e1_ExchangeRate.l0 k x0 x1 x2 true x10 (wrap64 (x11 + 1)))) else (e1_ExchangeRate.l0 k x0 x1 x2 x9 x10 (wrap64 (x11 + 1)))) else (none)) else (if x9 = true then (if x10 < 0 then (some (false, (⟨#[]⟩ : ByteArray), (⟨#[]⟩ : ByteArray), 9)) else (if 0 ≤ x10 then (if x10 < (x0.length : Int) then (some ((rd_T33 x0 x10).f2.f0, (rd_T33 x0 x10).f2.f1, (rd_T33 x0 x10).f2.f2, 0)) else (none)) else (none))) else (some (false, (⟨#[]⟩ : ByteArray), (⟨#[]⟩ : ByteArray), 8)))
def e1_ExchangeRate.f (k : Nat) (l0 : List (S33)) (a1 : ByteArray) (a2 : Int) : Option (Bool × ByteArray × ByteArray × Int) := (e1_CheckQuotes.f k l0).bind fun t595 => (if t595 = 0 then ((e1_IsDay.f a2).bind fun t596 => (if t596 = true then (if a1.toList = ([69, 85, 82] : List UInt8) then ((e1_One.f).bind fun bt597 => (some (bt597.1, bt597.2.1, bt597.2.2, 0))) else (e1_ExchangeRate.l0 k l0 a1 a2 false (-1) 0)) else (some (false, (⟨#[]⟩ : ByteArray), (⟨#[]⟩ : ByteArray), 1)))) else (some (false, (⟨#[]⟩ : ByteArray), (⟨#[]⟩ : ByteArray), t595)))
set_option maxHeartbeats 8000000 in
set_option maxRecDepth 100000 in
theorem e1_ExchangeRate.calls (k : Nat) (A0 : Option Addr) (c0 : Nat) (l0 : List (S33)) (a1 : ByteArray) (a2 : Int) (r1 : Bool) (r2 : ByteArray) (r3 : ByteArray) (r4 : Int) (w : World) (hr0 : Kd.C k33 w A0 l0.length l0) (hc0 : l0.length ≤ c0) (h : e1_ExchangeRate.f k l0 a1 a2 = some (r1, r2, r3, r4)) :
  Calls Tryd.prog 16 #[.slice A0 l0.length c0, .string a1, .int .i64 a2] w fun e w' => e = .returned (.tuple #[.agg #[.bool r1, .string r2, .string r3], .int .i64 r4]) ∧ Below w.heap.size w w' := by
 have hu30 := Tryd.underlying30
 have HR0 := Aside0.mk hr0
 have HC0 := Aside0.mk hc0
 clear hr0 hc0
 have HB := Aside0.mk (Below.refl w.heap.size w)
 have H : ((e1_CheckQuotes.f k l0).bind fun t595 => (if t595 = 0 then ((e1_IsDay.f a2).bind fun t596 => (if t596 = true then (if a1.toList = ([69, 85, 82] : List UInt8) then ((e1_One.f).bind fun bt597 => (some (bt597.1, bt597.2.1, bt597.2.2, 0))) else (e1_ExchangeRate.l0 k l0 a1 a2 false (-1) 0)) else (some (false, (⟨#[]⟩ : ByteArray), (⟨#[]⟩ : ByteArray), 1)))) else (some (false, (⟨#[]⟩ : ByteArray), (⟨#[]⟩ : ByteArray), t595)))) = some (r1, r2, r3, r4) := h
 clear h
 replace H := Option.bind_eq_some_iff.mp H
 obtain ⟨t595, A40, H⟩ := H
 try dsimp only at H
 have A4 := Aside0.mk A40
 clear A40
 by_cases c5 : t595 = 0
 rotate_left
 ·rw [if_neg c5] at H
  have c5b0 : (t595 == 0) = false := beq_eq_false_iff_ne.mpr c5
  have c5b1 : (t595 != 0) = true := bne_iff_ne.mpr c5
  simp only [Option.some.injEq, Prod.mk.injEq] at H
  obtain ⟨rfl, rfl, rfl, rfl⟩ := H
  go_enter Tryd.func16, Tryd.ntmps16
  go_wp2_with (first | ((with_reducible refine gate_dst (N := 6) rfl ?_); refine box_event ?hg (N := 6) ?hd (cs := #[.bool false, .string (⟨#[]⟩ : ByteArray), .string (⟨#[]⟩ : ByteArray)]) (t := 30) ?hr ?_; (case hd => rfl); (case hg => rfl); (case hr => first | (go_simp; done) | (go_simp; rfl)); intro gb594 hg w34 hbox hb; have BK594 := am (hbox); have GW594 := am ((by rw [hg]; exact (below_size (bq HB.out)) : w.heap.size ≤ gb594)); have GE594 := am ((by rw [hg]; exact (below_size (bq HB.out)) : w.heap.size ≤ gb594)); replace HB := am (below_step (bq HB.out) hb); clear hb hbox hg) | (go_at_call 13; (with_reducible refine (e1_CheckQuotes.calls k _ _ l0 t595 _ ?side1 ?side2 A4.out).mono ?_); (case side1 => repeat (first | exact (Kd.C_below HR0.out HB.out) | (with_reducible refine Kd.C_alloc ?_ _) | (with_reducible refine Kd.C_drewN ?_ _) | (with_reducible refine Kd.C_drew ?_))); (case side2 => exact HC0.out); rintro e w35 ⟨rfl, hb⟩; replace BK594 := am (blk_below (g := gb594) (o := .cells #[.bool false, .string (⟨#[]⟩ : ByteArray), .string (⟨#[]⟩ : ByteArray)] 30 (0, 0)) (kq BK594.out) hb); replace HB := am (below_step (bq HB.out) hb); (try clear hb); have hcz36_0 : w35.cell? ⟨gb594, 0, none⟩ = some (.bool false) := (blk_cell BK594.out 0).trans rfl; have hcz36_1 : w35.cell? ⟨gb594, 1, none⟩ = some (.string (⟨#[]⟩ : ByteArray)) := (blk_cell BK594.out 1).trans rfl; have hcz36_2 : w35.cell? ⟨gb594, 2, none⟩ = some (.string (⟨#[]⟩ : ByteArray)) := (blk_cell BK594.out 2).trans rfl; have hfz36_0 := blk_frozen BK594.out 0; have hfz36_1 := blk_frozen BK594.out 1; have hfz36_2 := blk_frozen BK594.out 2))
  refine bodyPost_ret (results_ct rfl _ _ gb594 30 #[.bool false, .string (⟨#[]⟩ : ByteArray), .string (⟨#[]⟩ : ByteArray)] (0, 0) _ rfl (by (with_reducible repeat (first | refine blk_drewN ?_ _ | refine blk_drew ?_ | refine blk_alloc ?_ _)); refine blk_put (cs := #[.bool false, .string (⟨#[]⟩ : ByteArray), .string (⟨#[]⟩ : ByteArray)]) ?_ 2 _ rfl; (with_reducible repeat (first | refine blk_drewN ?_ _ | refine blk_drew ?_ | refine blk_alloc ?_ _)); refine blk_put (cs := #[.bool false, .string (⟨#[]⟩ : ByteArray), .string (⟨#[]⟩ : ByteArray)]) ?_ 1 _ rfl; (with_reducible repeat (first | refine blk_drewN ?_ _ | refine blk_drew ?_ | refine blk_alloc ?_ _)); refine blk_put (cs := #[.bool false, .string (⟨#[]⟩ : ByteArray), .string (⟨#[]⟩ : ByteArray)]) ?_ 0 _ rfl; (with_reducible repeat (first | refine blk_drewN ?_ _ | refine blk_drew ?_ | refine blk_alloc ?_ _)); exact BK594.out) Tryd.underlying30 rfl (by kernel_rfl)) rfl ?_
  exact ⟨by first | rfl | (simp [errW_none, errW_some] <;> rfl) | (simp [*, errW_none, errW_some] <;> rfl), bq HB.out⟩
 rw [if_pos c5] at H
 have c5b0 : (t595 == 0) = true := beq_iff_eq.mpr c5
 have c5b1 : (t595 != 0) = false := bne_eq_false_iff_eq.mpr c5
 clear c5
 replace H := Option.bind_eq_some_iff.mp H
 obtain ⟨t596, A60, H⟩ := H
 try dsimp only at H
 have A6 := Aside0.mk A60
 clear A60
 by_cases c7 : t596 = true
 rotate_left
 ·replace c7 := Bool.eq_false_iff.mpr c7
  subst c7
  rw [if_neg (show ¬ (false = true) by decide)] at H
  simp only [Option.some.injEq, Prod.mk.injEq] at H
  obtain ⟨rfl, rfl, rfl, rfl⟩ := H
  go_enter Tryd.func16, Tryd.ntmps16
  go_wp2_with (first | ((with_reducible refine gate_dst (N := 6) rfl ?_); refine box_event ?hg (N := 6) ?hd (cs := #[.bool false, .string (⟨#[]⟩ : ByteArray), .string (⟨#[]⟩ : ByteArray)]) (t := 30) ?hr ?_; (case hd => rfl); (case hg => rfl); (case hr => first | (go_simp; done) | (go_simp; rfl)); intro gb594 hg w31 hbox hb; have BK594 := am (hbox); have GW594 := am ((by rw [hg]; exact (below_size (bq HB.out)) : w.heap.size ≤ gb594)); have GE594 := am ((by rw [hg]; exact (below_size (bq HB.out)) : w.heap.size ≤ gb594)); replace HB := am (below_step (bq HB.out) hb); clear hb hbox hg) | (go_at_call 13; (with_reducible refine (e1_CheckQuotes.calls k _ _ l0 t595 _ ?side1 ?side2 A4.out).mono ?_); (case side1 => repeat (first | exact (Kd.C_below HR0.out HB.out) | (with_reducible refine Kd.C_alloc ?_ _) | (with_reducible refine Kd.C_drewN ?_ _) | (with_reducible refine Kd.C_drew ?_))); (case side2 => exact HC0.out); rintro e w32 ⟨rfl, hb⟩; replace BK594 := am (blk_below (g := gb594) (o := .cells #[.bool false, .string (⟨#[]⟩ : ByteArray), .string (⟨#[]⟩ : ByteArray)] 30 (0, 0)) (kq BK594.out) hb); replace HB := am (below_step (bq HB.out) hb); (try clear hb)) | (go_at_call 28; (with_reducible refine (e1_IsDay.calls a2 false _ A6.out).mono ?_); rintro e w' ⟨rfl, ⟨nd, rfl⟩⟩; (try first | exact ⟨rfl, _, World.drewN_drewN _ _ _⟩ | exact ⟨rfl, _, Eq.trans (World.drewN_drewN _ _ _) (congrArg (World.drewN _) (Nat.add_assoc _ _ _))⟩); have hcz33_0 : w32.cell? ⟨gb594, 0, none⟩ = some (.bool false) := (blk_cell BK594.out 0).trans rfl; have hcz33_1 : w32.cell? ⟨gb594, 1, none⟩ = some (.string (⟨#[]⟩ : ByteArray)) := (blk_cell BK594.out 1).trans rfl; have hcz33_2 : w32.cell? ⟨gb594, 2, none⟩ = some (.string (⟨#[]⟩ : ByteArray)) := (blk_cell BK594.out 2).trans rfl; have hfz33_0 := blk_frozen BK594.out 0; have hfz33_1 := blk_frozen BK594.out 1; have hfz33_2 := blk_frozen BK594.out 2))
  refine bodyPost_ret (results_ct rfl _ _ gb594 30 #[.bool false, .string (⟨#[]⟩ : ByteArray), .string (⟨#[]⟩ : ByteArray)] (0, 0) _ rfl (by (with_reducible repeat (first | refine blk_drewN ?_ _ | refine blk_drew ?_ | refine blk_alloc ?_ _)); refine blk_put (cs := #[.bool false, .string (⟨#[]⟩ : ByteArray), .string (⟨#[]⟩ : ByteArray)]) ?_ 2 _ rfl; (with_reducible repeat (first | refine blk_drewN ?_ _ | refine blk_drew ?_ | refine blk_alloc ?_ _)); refine blk_put (cs := #[.bool false, .string (⟨#[]⟩ : ByteArray), .string (⟨#[]⟩ : ByteArray)]) ?_ 1 _ rfl; (with_reducible repeat (first | refine blk_drewN ?_ _ | refine blk_drew ?_ | refine blk_alloc ?_ _)); refine blk_put (cs := #[.bool false, .string (⟨#[]⟩ : ByteArray), .string (⟨#[]⟩ : ByteArray)]) ?_ 0 _ rfl; (with_reducible repeat (first | refine blk_drewN ?_ _ | refine blk_drew ?_ | refine blk_alloc ?_ _)); exact BK594.out) Tryd.underlying30 rfl (by kernel_rfl)) rfl ?_
  exact ⟨by first | rfl | (simp [errW_none, errW_some] <;> rfl) | (simp [*, errW_none, errW_some] <;> rfl), bq HB.out⟩
 subst c7
 rw [if_pos rfl] at H
 by_cases c8 : a1.toList = ([69, 85, 82] : List UInt8)
 ·rw [if_pos c8] at H
  have c8b0 : (a1.toList == ([69, 85, 82] : List UInt8)) = true := beq_iff_eq.mpr c8
  have c8b1 : (a1.toList != ([69, 85, 82] : List UInt8)) = false := bne_eq_false_iff_eq.mpr c8
  clear c8
  replace H := Option.bind_eq_some_iff.mp H
  obtain ⟨⟨t597, t598, t599⟩, A90, H⟩ := H
  try dsimp only at H
  have A9 := Aside0.mk A90
  clear A90
  simp only [Option.some.injEq, Prod.mk.injEq] at H
  obtain ⟨rfl, rfl, rfl, rfl⟩ := H
  go_enter Tryd.func16, Tryd.ntmps16
  go_wp2_with (first | ((with_reducible refine gate_dst (N := 6) rfl ?_); refine box_event ?hg (N := 6) ?hd (cs := #[.bool false, .string (⟨#[]⟩ : ByteArray), .string (⟨#[]⟩ : ByteArray)]) (t := 30) ?hr ?_; (case hd => rfl); (case hg => rfl); (case hr => first | (go_simp; done) | (go_simp; rfl)); intro gb594 hg w10 hbox hb; have BK594 := am (hbox); have GW594 := am ((by rw [hg]; exact (below_size (bq HB.out)) : w.heap.size ≤ gb594)); have GE594 := am ((by rw [hg]; exact (below_size (bq HB.out)) : w.heap.size ≤ gb594)); replace HB := am (below_step (bq HB.out) hb); clear hb hbox hg) | (go_at_call 13; (with_reducible refine (e1_CheckQuotes.calls k _ _ l0 t595 _ ?side1 ?side2 A4.out).mono ?_); (case side1 => repeat (first | exact (Kd.C_below HR0.out HB.out) | (with_reducible refine Kd.C_alloc ?_ _) | (with_reducible refine Kd.C_drewN ?_ _) | (with_reducible refine Kd.C_drew ?_))); (case side2 => exact HC0.out); rintro e w11 ⟨rfl, hb⟩; replace BK594 := am (blk_below (g := gb594) (o := .cells #[.bool false, .string (⟨#[]⟩ : ByteArray), .string (⟨#[]⟩ : ByteArray)] 30 (0, 0)) (kq BK594.out) hb); replace HB := am (below_step (bq HB.out) hb); (try clear hb)) | (go_at_call 28; (with_reducible refine (e1_IsDay.calls a2 true _ A6.out).mono ?_); rintro e w' ⟨rfl, ⟨nd, rfl⟩⟩; (try first | exact ⟨rfl, _, World.drewN_drewN _ _ _⟩ | exact ⟨rfl, _, Eq.trans (World.drewN_drewN _ _ _) (congrArg (World.drewN _) (Nat.add_assoc _ _ _))⟩)) | (go_at_call 32; (with_reducible refine (e1_One.calls  t597 t598 t599 _ A9.out).mono ?_); rintro e w12 ⟨rfl, hb⟩; replace BK594 := am (blk_below (g := gb594) (o := .cells #[.bool false, .string (⟨#[]⟩ : ByteArray), .string (⟨#[]⟩ : ByteArray)] 30 (0, 0)) (kq BK594.out) hb); replace HB := am (below_step (bq HB.out) hb); (try clear hb); have hcz13_0 : w12.cell? ⟨gb594, 0, none⟩ = some (.bool false) := (blk_cell BK594.out 0).trans rfl; have hcz13_1 : w12.cell? ⟨gb594, 1, none⟩ = some (.string (⟨#[]⟩ : ByteArray)) := (blk_cell BK594.out 1).trans rfl; have hcz13_2 : w12.cell? ⟨gb594, 2, none⟩ = some (.string (⟨#[]⟩ : ByteArray)) := (blk_cell BK594.out 2).trans rfl; have hfz13_0 := blk_frozen BK594.out 0; have hfz13_1 := blk_frozen BK594.out 1; have hfz13_2 := blk_frozen BK594.out 2))
  refine bodyPost_ret (results_ct rfl _ _ gb594 30 #[.bool t597, .string t598, .string t599] (0, 0) _ rfl (by (with_reducible repeat (first | refine blk_drewN ?_ _ | refine blk_drew ?_ | refine blk_alloc ?_ _)); refine blk_put (cs := #[.bool t597, .string t598, .string (⟨#[]⟩ : ByteArray)]) ?_ 2 _ rfl; (with_reducible repeat (first | refine blk_drewN ?_ _ | refine blk_drew ?_ | refine blk_alloc ?_ _)); refine blk_put (cs := #[.bool t597, .string (⟨#[]⟩ : ByteArray), .string (⟨#[]⟩ : ByteArray)]) ?_ 1 _ rfl; (with_reducible repeat (first | refine blk_drewN ?_ _ | refine blk_drew ?_ | refine blk_alloc ?_ _)); refine blk_put (cs := #[.bool false, .string (⟨#[]⟩ : ByteArray), .string (⟨#[]⟩ : ByteArray)]) ?_ 0 _ rfl; (with_reducible repeat (first | refine blk_drewN ?_ _ | refine blk_drew ?_ | refine blk_alloc ?_ _)); exact BK594.out) Tryd.underlying30 rfl (by kernel_rfl)) rfl ?_
  exact ⟨by first | rfl | (simp [errW_none, errW_some] <;> rfl) | (simp [*, errW_none, errW_some] <;> rfl), bq HB.out⟩
 rw [if_neg c8] at H
 have c8b0 : (a1.toList == ([69, 85, 82] : List UInt8)) = false := beq_eq_false_iff_ne.mpr c8
 have c8b1 : (a1.toList != ([69, 85, 82] : List UInt8)) = true := bne_iff_ne.mpr c8
 have H' := Aside0.mk H
 clear H
 go_enter Tryd.func16, Tryd.ntmps16
 go_wp2_with (first | ((with_reducible refine gate_dst (N := 6) rfl ?_); refine box_event ?hg (N := 6) ?hd (cs := #[.bool false, .string (⟨#[]⟩ : ByteArray), .string (⟨#[]⟩ : ByteArray)]) (t := 30) ?hr ?_; (case hd => rfl); (case hg => rfl); (case hr => first | (go_simp; done) | (go_simp; rfl)); intro gb594 hg w14 hbox hb; have BK594 := am (hbox); have GW594 := am ((by rw [hg]; exact (below_size (bq HB.out)) : w.heap.size ≤ gb594)); have GE594 := am ((by rw [hg]; exact (below_size (bq HB.out)) : w.heap.size ≤ gb594)); replace HB := am (below_step (bq HB.out) hb); clear hb hbox hg) | (go_at_call 13; (with_reducible refine (e1_CheckQuotes.calls k _ _ l0 t595 _ ?side1 ?side2 A4.out).mono ?_); (case side1 => repeat (first | exact (Kd.C_below HR0.out HB.out) | (with_reducible refine Kd.C_alloc ?_ _) | (with_reducible refine Kd.C_drewN ?_ _) | (with_reducible refine Kd.C_drew ?_))); (case side2 => exact HC0.out); rintro e w15 ⟨rfl, hb⟩; replace BK594 := am (blk_below (g := gb594) (o := .cells #[.bool false, .string (⟨#[]⟩ : ByteArray), .string (⟨#[]⟩ : ByteArray)] 30 (0, 0)) (kq BK594.out) hb); replace HB := am (below_step (bq HB.out) hb); (try clear hb)) | (go_at_call 28; (with_reducible refine (e1_IsDay.calls a2 true _ A6.out).mono ?_); rintro e w' ⟨rfl, ⟨nd, rfl⟩⟩; (try first | exact ⟨rfl, _, World.drewN_drewN _ _ _⟩ | exact ⟨rfl, _, Eq.trans (World.drewN_drewN _ _ _) (congrArg (World.drewN _) (Nat.add_assoc _ _ _))⟩)))
 go_loopg [9, 10, 11] k (fun kq v9 v10 v11 w' => ∃ (x9_1 : Bool) (x10_1 : Int) (x11_1 : Int), v9 = .bool x9_1 ∧ v10 = .int .i64 x10_1 ∧ v11 = .int .i64 x11_1 ∧ Aside0 (e1_ExchangeRate.l0 kq l0 a1 a2 x9_1 x10_1 x11_1 = some (r1, r2, r3, r4)) ∧ Aside0 (kq ≤ k) ∧ Aside0 (w'.heap[gb594]? = some (.cells #[.bool false, .string (⟨#[]⟩ : ByteArray), .string (⟨#[]⟩ : ByteArray)] 30 (0, 0))) ∧ Aside0 (Below w.heap.size w w'))
 case atStart => exact ⟨(false), ((-1)), (0), (by first | rfl | (simp; done) | (simp [*]; done)), (by first | rfl | (simp; done) | (simp [*]; done)), (by first | rfl | (simp; done) | (simp [*]; done)), H', ⟨Nat.le_refl _⟩, ⟨by (with_reducible repeat (first | refine blk_drewN ?_ _ | refine blk_drew ?_ | refine blk_alloc ?_ _)); exact BK594.out⟩, ⟨bq HB.out⟩⟩
 case round =>
  clear H'
  try clear c1
  try clear p2
  try clear c5
  try clear c5b0
  try clear c5b1
  try clear c7
  try clear c8
  try clear c8b0
  try clear c8b1
  try clear hcz13_0
  try clear hcz13_1
  try clear hcz13_2
  try clear hfz13_0
  try clear hfz13_1
  try clear hfz13_2
  obtain ⟨x9_1, x10_1, x11_1, rfl, rfl, rfl, HA, HK1, BK594, HB⟩ := hrel
  cases gk with
  | zero => exact absurd HA.out (by simp [e1_ExchangeRate.l0])
  | succ k1 =>
   have H := HA.out
   clear HA
   simp only [e1_ExchangeRate.l0] at H
   by_cases c16 : x11_1 < (l0.length : Int)
   rotate_left
   ·rw [if_neg c16] at H
    have c16b0 := decide_eq_false c16
    clear c16
    by_cases c24 : x9_1 = true
    rotate_left
    ·replace c24 := Bool.eq_false_iff.mpr c24
     subst c24
     rw [if_neg (show ¬ (false = true) by decide)] at H
     simp only [Option.some.injEq, Prod.mk.injEq] at H
     obtain ⟨rfl, rfl, rfl, rfl⟩ := H
     have hcz30_0 : wr.cell? ⟨gb594, 0, none⟩ = some (.bool false) := (blk_cell BK594.out 0).trans rfl
     have hcz30_1 : wr.cell? ⟨gb594, 1, none⟩ = some (.string (⟨#[]⟩ : ByteArray)) := (blk_cell BK594.out 1).trans rfl
     have hcz30_2 : wr.cell? ⟨gb594, 2, none⟩ = some (.string (⟨#[]⟩ : ByteArray)) := (blk_cell BK594.out 2).trans rfl
     have hfz30_0 := blk_frozen BK594.out 0
     have hfz30_1 := blk_frozen BK594.out 1
     have hfz30_2 := blk_frozen BK594.out 2
     go_wp2
     refine bodyPost_ret (results_ct rfl _ _ gb594 30 #[.bool false, .string (⟨#[]⟩ : ByteArray), .string (⟨#[]⟩ : ByteArray)] (0, 0) _ rfl (by (with_reducible repeat (first | refine blk_drewN ?_ _ | refine blk_drew ?_ | refine blk_alloc ?_ _)); refine blk_put (cs := #[.bool false, .string (⟨#[]⟩ : ByteArray), .string (⟨#[]⟩ : ByteArray)]) ?_ 2 _ rfl; (with_reducible repeat (first | refine blk_drewN ?_ _ | refine blk_drew ?_ | refine blk_alloc ?_ _)); refine blk_put (cs := #[.bool false, .string (⟨#[]⟩ : ByteArray), .string (⟨#[]⟩ : ByteArray)]) ?_ 1 _ rfl; (with_reducible repeat (first | refine blk_drewN ?_ _ | refine blk_drew ?_ | refine blk_alloc ?_ _)); refine blk_put (cs := #[.bool false, .string (⟨#[]⟩ : ByteArray), .string (⟨#[]⟩ : ByteArray)]) ?_ 0 _ rfl; (with_reducible repeat (first | refine blk_drewN ?_ _ | refine blk_drew ?_ | refine blk_alloc ?_ _)); exact BK594.out) Tryd.underlying30 rfl (by kernel_rfl)) rfl ?_
     exact ⟨by first | rfl | (simp [errW_none, errW_some] <;> rfl) | (simp [*, errW_none, errW_some] <;> rfl), bq HB.out⟩
    subst c24
    rw [if_pos rfl] at H
    by_cases c25 : x10_1 < 0
    ·rw [if_pos c25] at H
     have c25b0 := decide_eq_true c25
     clear c25
     simp only [Option.some.injEq, Prod.mk.injEq] at H
     obtain ⟨rfl, rfl, rfl, rfl⟩ := H
     have hcz26_0 : wr.cell? ⟨gb594, 0, none⟩ = some (.bool false) := (blk_cell BK594.out 0).trans rfl
     have hcz26_1 : wr.cell? ⟨gb594, 1, none⟩ = some (.string (⟨#[]⟩ : ByteArray)) := (blk_cell BK594.out 1).trans rfl
     have hcz26_2 : wr.cell? ⟨gb594, 2, none⟩ = some (.string (⟨#[]⟩ : ByteArray)) := (blk_cell BK594.out 2).trans rfl
     have hfz26_0 := blk_frozen BK594.out 0
     have hfz26_1 := blk_frozen BK594.out 1
     have hfz26_2 := blk_frozen BK594.out 2
     go_wp2
     refine bodyPost_ret (results_ct rfl _ _ gb594 30 #[.bool false, .string (⟨#[]⟩ : ByteArray), .string (⟨#[]⟩ : ByteArray)] (0, 0) _ rfl (by (with_reducible repeat (first | refine blk_drewN ?_ _ | refine blk_drew ?_ | refine blk_alloc ?_ _)); refine blk_put (cs := #[.bool false, .string (⟨#[]⟩ : ByteArray), .string (⟨#[]⟩ : ByteArray)]) ?_ 2 _ rfl; (with_reducible repeat (first | refine blk_drewN ?_ _ | refine blk_drew ?_ | refine blk_alloc ?_ _)); refine blk_put (cs := #[.bool false, .string (⟨#[]⟩ : ByteArray), .string (⟨#[]⟩ : ByteArray)]) ?_ 1 _ rfl; (with_reducible repeat (first | refine blk_drewN ?_ _ | refine blk_drew ?_ | refine blk_alloc ?_ _)); refine blk_put (cs := #[.bool false, .string (⟨#[]⟩ : ByteArray), .string (⟨#[]⟩ : ByteArray)]) ?_ 0 _ rfl; (with_reducible repeat (first | refine blk_drewN ?_ _ | refine blk_drew ?_ | refine blk_alloc ?_ _)); exact BK594.out) Tryd.underlying30 rfl (by kernel_rfl)) rfl ?_
     exact ⟨by first | rfl | (simp [errW_none, errW_some] <;> rfl) | (simp [*, errW_none, errW_some] <;> rfl), bq HB.out⟩
    rw [if_neg c25] at H
    have c25b0 := decide_eq_false c25
    clear c25
    by_cases c27 : 0 ≤ x10_1
    rotate_left
    ·rw [if_neg c27] at H
     exact absurd H (by simp)
    rw [if_pos c27] at H
    have c27b0 := decide_eq_true c27
    clear c27
    by_cases c28 : x10_1 < (l0.length : Int)
    rotate_left
    ·rw [if_neg c28] at H
     exact absurd H (by simp)
    rw [if_pos c28] at H
    have c28b0 := decide_eq_true c28
    clear c28
    simp only [Option.some.injEq, Prod.mk.injEq] at H
    obtain ⟨rfl, rfl, rfl, rfl⟩ := H
    have p604 : 0 ≤ (x10_1 : Int) := odt
    have q604 : x10_1 < (l0.length : Int) := odt
    obtain ⟨ad604, e604, hx604_0, hx604_1, hx604_2, hx604_3, hx604_4⟩ := at_T33 HR0.out x10_1 p604 q604
    cases e604
    replace hx604_0 := (HB.out.cell (World.block_lt_of_cell? w _ hx604_0)).trans hx604_0
    replace hx604_1 := (HB.out.cell (World.block_lt_of_cell? w _ hx604_1)).trans hx604_1
    replace hx604_2 := (HB.out.cell (World.block_lt_of_cell? w _ hx604_2)).trans hx604_2
    replace hx604_3 := (HB.out.cell (World.block_lt_of_cell? w _ hx604_3)).trans hx604_3
    replace hx604_4 := (HB.out.cell (World.block_lt_of_cell? w _ hx604_4)).trans hx604_4
    replace p604 := eq_true p604
    replace q604 := eq_true q604
    have hcz29_0 : wr.cell? ⟨gb594, 0, none⟩ = some (.bool false) := (blk_cell BK594.out 0).trans rfl
    have hcz29_1 : wr.cell? ⟨gb594, 1, none⟩ = some (.string (⟨#[]⟩ : ByteArray)) := (blk_cell BK594.out 1).trans rfl
    have hcz29_2 : wr.cell? ⟨gb594, 2, none⟩ = some (.string (⟨#[]⟩ : ByteArray)) := (blk_cell BK594.out 2).trans rfl
    have hfz29_0 := blk_frozen BK594.out 0
    have hfz29_1 := blk_frozen BK594.out 1
    have hfz29_2 := blk_frozen BK594.out 2
    go_wp2
    refine bodyPost_ret (results_ct rfl _ _ gb594 30 #[.bool ((rd_T33 l0 x10_1).f2.f0), .string ((rd_T33 l0 x10_1).f2.f1), .string ((rd_T33 l0 x10_1).f2.f2)] (0, 0) _ rfl (by (with_reducible repeat (first | refine blk_drewN ?_ _ | refine blk_drew ?_ | refine blk_alloc ?_ _)); refine blk_put (cs := #[.bool ((rd_T33 l0 x10_1).f2.f0), .string ((rd_T33 l0 x10_1).f2.f1), .string (⟨#[]⟩ : ByteArray)]) ?_ 2 _ rfl; (with_reducible repeat (first | refine blk_drewN ?_ _ | refine blk_drew ?_ | refine blk_alloc ?_ _)); refine blk_put (cs := #[.bool ((rd_T33 l0 x10_1).f2.f0), .string (⟨#[]⟩ : ByteArray), .string (⟨#[]⟩ : ByteArray)]) ?_ 1 _ rfl; (with_reducible repeat (first | refine blk_drewN ?_ _ | refine blk_drew ?_ | refine blk_alloc ?_ _)); refine blk_put (cs := #[.bool false, .string (⟨#[]⟩ : ByteArray), .string (⟨#[]⟩ : ByteArray)]) ?_ 0 _ rfl; (with_reducible repeat (first | refine blk_drewN ?_ _ | refine blk_drew ?_ | refine blk_alloc ?_ _)); exact BK594.out) Tryd.underlying30 rfl (by kernel_rfl)) rfl ?_
    exact ⟨by first | rfl | (simp [errW_none, errW_some] <;> rfl) | (simp [*, errW_none, errW_some] <;> rfl), bq HB.out⟩
   rw [if_pos c16] at H
   have c16b0 := decide_eq_true c16
   clear c16
   by_cases c17 : 0 ≤ x11_1
   rotate_left
   ·rw [if_neg c17] at H
    exact absurd H (by simp)
   rw [if_pos c17] at H
   have c17b0 := decide_eq_true c17
   clear c17
   by_cases c18 : ((rd_T33 l0 x11_1).f0).toList = a1.toList
   rotate_left
   ·rw [if_neg c18] at H
    have c18b0 : (((rd_T33 l0 x11_1).f0).toList == a1.toList) = false := beq_eq_false_iff_ne.mpr c18
    have c18b1 : (((rd_T33 l0 x11_1).f0).toList != a1.toList) = true := bne_iff_ne.mpr c18
    have H' := Aside0.mk H
    clear H
    have p600 : 0 ≤ (x11_1 : Int) := odt
    have q600 : x11_1 < (l0.length : Int) := odt
    obtain ⟨ad600, e600, hx600_0, hx600_1, hx600_2, hx600_3, hx600_4⟩ := at_T33 HR0.out x11_1 p600 q600
    cases e600
    replace hx600_0 := (HB.out.cell (World.block_lt_of_cell? w _ hx600_0)).trans hx600_0
    replace hx600_1 := (HB.out.cell (World.block_lt_of_cell? w _ hx600_1)).trans hx600_1
    replace hx600_2 := (HB.out.cell (World.block_lt_of_cell? w _ hx600_2)).trans hx600_2
    replace hx600_3 := (HB.out.cell (World.block_lt_of_cell? w _ hx600_3)).trans hx600_3
    replace hx600_4 := (HB.out.cell (World.block_lt_of_cell? w _ hx600_4)).trans hx600_4
    replace p600 := eq_true p600
    replace q600 := eq_true q600
    go_wp2
    go_roundg k1
    case measure => have := HK1.out; omega
    case rel => exact ⟨(x9_1), (x10_1), (wrap64 (x11_1 + 1)), (by first | rfl | (simp; done) | (simp [*]; done)), (by first | rfl | (simp; done) | (simp [*]; done)), (by first | rfl | (simp; done) | (simp [*]; done)), H', ⟨by have := HK1.out; omega⟩, ⟨by (with_reducible repeat (first | refine blk_drewN ?_ _ | refine blk_drew ?_ | refine blk_alloc ?_ _)); exact BK594.out⟩, ⟨bq HB.out⟩⟩
   rw [if_pos c18] at H
   have c18b0 : (((rd_T33 l0 x11_1).f0).toList == a1.toList) = true := beq_iff_eq.mpr c18
   have c18b1 : (((rd_T33 l0 x11_1).f0).toList != a1.toList) = false := bne_eq_false_iff_eq.mpr c18
   clear c18
   by_cases c19 : ((rd_T33 l0 x11_1).f1) ≤ a2
   rotate_left
   ·rw [if_neg c19] at H
    have c19b0 := decide_eq_false c19
    clear c19
    have H' := Aside0.mk H
    clear H
    have p600 : 0 ≤ (x11_1 : Int) := odt
    have q600 : x11_1 < (l0.length : Int) := odt
    obtain ⟨ad600, e600, hx600_0, hx600_1, hx600_2, hx600_3, hx600_4⟩ := at_T33 HR0.out x11_1 p600 q600
    cases e600
    replace hx600_0 := (HB.out.cell (World.block_lt_of_cell? w _ hx600_0)).trans hx600_0
    replace hx600_1 := (HB.out.cell (World.block_lt_of_cell? w _ hx600_1)).trans hx600_1
    replace hx600_2 := (HB.out.cell (World.block_lt_of_cell? w _ hx600_2)).trans hx600_2
    replace hx600_3 := (HB.out.cell (World.block_lt_of_cell? w _ hx600_3)).trans hx600_3
    replace hx600_4 := (HB.out.cell (World.block_lt_of_cell? w _ hx600_4)).trans hx600_4
    replace p600 := eq_true p600
    replace q600 := eq_true q600
    have p601 : 0 ≤ (x11_1 : Int) := odt
    have q601 : x11_1 < (l0.length : Int) := odt
    obtain ⟨ad601, e601, hx601_0, hx601_1, hx601_2, hx601_3, hx601_4⟩ := at_T33 HR0.out x11_1 p601 q601
    obtain rfl : ad600 = ad601 := (by injection e601)
    replace hx601_0 := (HB.out.cell (World.block_lt_of_cell? w _ hx601_0)).trans hx601_0
    replace hx601_1 := (HB.out.cell (World.block_lt_of_cell? w _ hx601_1)).trans hx601_1
    replace hx601_2 := (HB.out.cell (World.block_lt_of_cell? w _ hx601_2)).trans hx601_2
    replace hx601_3 := (HB.out.cell (World.block_lt_of_cell? w _ hx601_3)).trans hx601_3
    replace hx601_4 := (HB.out.cell (World.block_lt_of_cell? w _ hx601_4)).trans hx601_4
    replace p601 := eq_true p601
    replace q601 := eq_true q601
    go_wp2
    repeat (go_quiet (fail); try go_wp2)
    go_roundg k1
    case measure => have := HK1.out; omega
    case rel => exact ⟨(true), (x10_1), (wrap64 (x11_1 + 1)), (by first | rfl | (simp; done) | (simp [*]; done)), (by first | rfl | (simp; done) | (simp [*]; done)), (by first | rfl | (simp; done) | (simp [*]; done)), H', ⟨by have := HK1.out; omega⟩, ⟨by (with_reducible repeat (first | refine blk_drewN ?_ _ | refine blk_drew ?_ | refine blk_alloc ?_ _)); exact BK594.out⟩, ⟨bq HB.out⟩⟩
   rw [if_pos c19] at H
   have c19b0 := decide_eq_true c19
   clear c19
   by_cases c20 : x10_1 < 0
   ·rw [if_pos c20] at H
    have c20b0 := decide_eq_true c20
    clear c20
    have H' := Aside0.mk H
    clear H
    have p600 : 0 ≤ (x11_1 : Int) := odt
    have q600 : x11_1 < (l0.length : Int) := odt
    obtain ⟨ad600, e600, hx600_0, hx600_1, hx600_2, hx600_3, hx600_4⟩ := at_T33 HR0.out x11_1 p600 q600
    cases e600
    replace hx600_0 := (HB.out.cell (World.block_lt_of_cell? w _ hx600_0)).trans hx600_0
    replace hx600_1 := (HB.out.cell (World.block_lt_of_cell? w _ hx600_1)).trans hx600_1
    replace hx600_2 := (HB.out.cell (World.block_lt_of_cell? w _ hx600_2)).trans hx600_2
    replace hx600_3 := (HB.out.cell (World.block_lt_of_cell? w _ hx600_3)).trans hx600_3
    replace hx600_4 := (HB.out.cell (World.block_lt_of_cell? w _ hx600_4)).trans hx600_4
    replace p600 := eq_true p600
    replace q600 := eq_true q600
    have p601 : 0 ≤ (x11_1 : Int) := odt
    have q601 : x11_1 < (l0.length : Int) := odt
    obtain ⟨ad601, e601, hx601_0, hx601_1, hx601_2, hx601_3, hx601_4⟩ := at_T33 HR0.out x11_1 p601 q601
    obtain rfl : ad600 = ad601 := (by injection e601)
    replace hx601_0 := (HB.out.cell (World.block_lt_of_cell? w _ hx601_0)).trans hx601_0
    replace hx601_1 := (HB.out.cell (World.block_lt_of_cell? w _ hx601_1)).trans hx601_1
    replace hx601_2 := (HB.out.cell (World.block_lt_of_cell? w _ hx601_2)).trans hx601_2
    replace hx601_3 := (HB.out.cell (World.block_lt_of_cell? w _ hx601_3)).trans hx601_3
    replace hx601_4 := (HB.out.cell (World.block_lt_of_cell? w _ hx601_4)).trans hx601_4
    replace p601 := eq_true p601
    replace q601 := eq_true q601
    go_wp2
    repeat (go_quiet (fail); try go_wp2)
    go_roundg k1
    case measure => have := HK1.out; omega
    case rel => exact ⟨(true), (x11_1), (wrap64 (x11_1 + 1)), (by first | rfl | (simp; done) | (simp [*]; done)), (by first | rfl | (simp; done) | (simp [*]; done)), (by first | rfl | (simp; done) | (simp [*]; done)), H', ⟨by have := HK1.out; omega⟩, ⟨by (with_reducible repeat (first | refine blk_drewN ?_ _ | refine blk_drew ?_ | refine blk_alloc ?_ _)); exact BK594.out⟩, ⟨bq HB.out⟩⟩
   rw [if_neg c20] at H
   have c20b0 := decide_eq_false c20
   clear c20
   by_cases c21 : 0 ≤ x10_1
   rotate_left
   ·rw [if_neg c21] at H
    exact absurd H (by simp)
   rw [if_pos c21] at H
   have c21b0 := decide_eq_true c21
   clear c21
   by_cases c22 : x10_1 < (l0.length : Int)
   rotate_left
   ·rw [if_neg c22] at H
    exact absurd H (by simp)
   rw [if_pos c22] at H
   have c22b0 := decide_eq_true c22
   clear c22
   by_cases c23 : ((rd_T33 l0 x10_1).f1) < ((rd_T33 l0 x11_1).f1)
   ·rw [if_pos c23] at H
    have c23b0 := decide_eq_true c23
    clear c23
    have H' := Aside0.mk H
    clear H
    have p600 : 0 ≤ (x11_1 : Int) := odt
    have q600 : x11_1 < (l0.length : Int) := odt
    obtain ⟨ad600, e600, hx600_0, hx600_1, hx600_2, hx600_3, hx600_4⟩ := at_T33 HR0.out x11_1 p600 q600
    cases e600
    replace hx600_0 := (HB.out.cell (World.block_lt_of_cell? w _ hx600_0)).trans hx600_0
    replace hx600_1 := (HB.out.cell (World.block_lt_of_cell? w _ hx600_1)).trans hx600_1
    replace hx600_2 := (HB.out.cell (World.block_lt_of_cell? w _ hx600_2)).trans hx600_2
    replace hx600_3 := (HB.out.cell (World.block_lt_of_cell? w _ hx600_3)).trans hx600_3
    replace hx600_4 := (HB.out.cell (World.block_lt_of_cell? w _ hx600_4)).trans hx600_4
    replace p600 := eq_true p600
    replace q600 := eq_true q600
    have p601 : 0 ≤ (x11_1 : Int) := odt
    have q601 : x11_1 < (l0.length : Int) := odt
    obtain ⟨ad601, e601, hx601_0, hx601_1, hx601_2, hx601_3, hx601_4⟩ := at_T33 HR0.out x11_1 p601 q601
    obtain rfl : ad600 = ad601 := (by injection e601)
    replace hx601_0 := (HB.out.cell (World.block_lt_of_cell? w _ hx601_0)).trans hx601_0
    replace hx601_1 := (HB.out.cell (World.block_lt_of_cell? w _ hx601_1)).trans hx601_1
    replace hx601_2 := (HB.out.cell (World.block_lt_of_cell? w _ hx601_2)).trans hx601_2
    replace hx601_3 := (HB.out.cell (World.block_lt_of_cell? w _ hx601_3)).trans hx601_3
    replace hx601_4 := (HB.out.cell (World.block_lt_of_cell? w _ hx601_4)).trans hx601_4
    replace p601 := eq_true p601
    replace q601 := eq_true q601
    have p602 : 0 ≤ (x10_1 : Int) := odt
    have q602 : x10_1 < (l0.length : Int) := odt
    obtain ⟨ad602, e602, hx602_0, hx602_1, hx602_2, hx602_3, hx602_4⟩ := at_T33 HR0.out x10_1 p602 q602
    obtain rfl : ad600 = ad602 := (by injection e602)
    replace hx602_0 := (HB.out.cell (World.block_lt_of_cell? w _ hx602_0)).trans hx602_0
    replace hx602_1 := (HB.out.cell (World.block_lt_of_cell? w _ hx602_1)).trans hx602_1
    replace hx602_2 := (HB.out.cell (World.block_lt_of_cell? w _ hx602_2)).trans hx602_2
    replace hx602_3 := (HB.out.cell (World.block_lt_of_cell? w _ hx602_3)).trans hx602_3
    replace hx602_4 := (HB.out.cell (World.block_lt_of_cell? w _ hx602_4)).trans hx602_4
    replace p602 := eq_true p602
    replace q602 := eq_true q602
    have p603 : 0 ≤ (x11_1 : Int) := odt
    have q603 : x11_1 < (l0.length : Int) := odt
    obtain ⟨ad603, e603, hx603_0, hx603_1, hx603_2, hx603_3, hx603_4⟩ := at_T33 HR0.out x11_1 p603 q603
    obtain rfl : ad600 = ad603 := (by injection e603)
    replace hx603_0 := (HB.out.cell (World.block_lt_of_cell? w _ hx603_0)).trans hx603_0
    replace hx603_1 := (HB.out.cell (World.block_lt_of_cell? w _ hx603_1)).trans hx603_1
    replace hx603_2 := (HB.out.cell (World.block_lt_of_cell? w _ hx603_2)).trans hx603_2
    replace hx603_3 := (HB.out.cell (World.block_lt_of_cell? w _ hx603_3)).trans hx603_3
    replace hx603_4 := (HB.out.cell (World.block_lt_of_cell? w _ hx603_4)).trans hx603_4
    replace p603 := eq_true p603
    replace q603 := eq_true q603
    go_wp2
    repeat (go_quiet (fail); try go_wp2)
    go_roundg k1
    case measure => have := HK1.out; omega
    case rel => exact ⟨(true), (x11_1), (wrap64 (x11_1 + 1)), (by first | rfl | (simp; done) | (simp [*]; done)), (by first | rfl | (simp; done) | (simp [*]; done)), (by first | rfl | (simp; done) | (simp [*]; done)), H', ⟨by have := HK1.out; omega⟩, ⟨by (with_reducible repeat (first | refine blk_drewN ?_ _ | refine blk_drew ?_ | refine blk_alloc ?_ _)); exact BK594.out⟩, ⟨bq HB.out⟩⟩
   rw [if_neg c23] at H
   have c23b0 := decide_eq_false c23
   clear c23
   have H' := Aside0.mk H
   clear H
   have p600 : 0 ≤ (x11_1 : Int) := odt
   have q600 : x11_1 < (l0.length : Int) := odt
   obtain ⟨ad600, e600, hx600_0, hx600_1, hx600_2, hx600_3, hx600_4⟩ := at_T33 HR0.out x11_1 p600 q600
   cases e600
   replace hx600_0 := (HB.out.cell (World.block_lt_of_cell? w _ hx600_0)).trans hx600_0
   replace hx600_1 := (HB.out.cell (World.block_lt_of_cell? w _ hx600_1)).trans hx600_1
   replace hx600_2 := (HB.out.cell (World.block_lt_of_cell? w _ hx600_2)).trans hx600_2
   replace hx600_3 := (HB.out.cell (World.block_lt_of_cell? w _ hx600_3)).trans hx600_3
   replace hx600_4 := (HB.out.cell (World.block_lt_of_cell? w _ hx600_4)).trans hx600_4
   replace p600 := eq_true p600
   replace q600 := eq_true q600
   have p601 : 0 ≤ (x11_1 : Int) := odt
   have q601 : x11_1 < (l0.length : Int) := odt
   obtain ⟨ad601, e601, hx601_0, hx601_1, hx601_2, hx601_3, hx601_4⟩ := at_T33 HR0.out x11_1 p601 q601
   obtain rfl : ad600 = ad601 := (by injection e601)
   replace hx601_0 := (HB.out.cell (World.block_lt_of_cell? w _ hx601_0)).trans hx601_0
   replace hx601_1 := (HB.out.cell (World.block_lt_of_cell? w _ hx601_1)).trans hx601_1
   replace hx601_2 := (HB.out.cell (World.block_lt_of_cell? w _ hx601_2)).trans hx601_2
   replace hx601_3 := (HB.out.cell (World.block_lt_of_cell? w _ hx601_3)).trans hx601_3
   replace hx601_4 := (HB.out.cell (World.block_lt_of_cell? w _ hx601_4)).trans hx601_4
   replace p601 := eq_true p601
   replace q601 := eq_true q601
   have p602 : 0 ≤ (x10_1 : Int) := odt
   have q602 : x10_1 < (l0.length : Int) := odt
   obtain ⟨ad602, e602, hx602_0, hx602_1, hx602_2, hx602_3, hx602_4⟩ := at_T33 HR0.out x10_1 p602 q602
   obtain rfl : ad600 = ad602 := (by injection e602)
   replace hx602_0 := (HB.out.cell (World.block_lt_of_cell? w _ hx602_0)).trans hx602_0
   replace hx602_1 := (HB.out.cell (World.block_lt_of_cell? w _ hx602_1)).trans hx602_1
   replace hx602_2 := (HB.out.cell (World.block_lt_of_cell? w _ hx602_2)).trans hx602_2
   replace hx602_3 := (HB.out.cell (World.block_lt_of_cell? w _ hx602_3)).trans hx602_3
   replace hx602_4 := (HB.out.cell (World.block_lt_of_cell? w _ hx602_4)).trans hx602_4
   replace p602 := eq_true p602
   replace q602 := eq_true q602
   have p603 : 0 ≤ (x11_1 : Int) := odt
   have q603 : x11_1 < (l0.length : Int) := odt
   obtain ⟨ad603, e603, hx603_0, hx603_1, hx603_2, hx603_3, hx603_4⟩ := at_T33 HR0.out x11_1 p603 q603
   obtain rfl : ad600 = ad603 := (by injection e603)
   replace hx603_0 := (HB.out.cell (World.block_lt_of_cell? w _ hx603_0)).trans hx603_0
   replace hx603_1 := (HB.out.cell (World.block_lt_of_cell? w _ hx603_1)).trans hx603_1
   replace hx603_2 := (HB.out.cell (World.block_lt_of_cell? w _ hx603_2)).trans hx603_2
   replace hx603_3 := (HB.out.cell (World.block_lt_of_cell? w _ hx603_3)).trans hx603_3
   replace hx603_4 := (HB.out.cell (World.block_lt_of_cell? w _ hx603_4)).trans hx603_4
   replace p603 := eq_true p603
   replace q603 := eq_true q603
   go_wp2
   repeat (go_quiet (fail); try go_wp2)
   go_roundg k1
   case measure => have := HK1.out; omega
   case rel => exact ⟨(true), (x10_1), (wrap64 (x11_1 + 1)), (by first | rfl | (simp; done) | (simp [*]; done)), (by first | rfl | (simp; done) | (simp [*]; done)), (by first | rfl | (simp; done) | (simp [*]; done)), H', ⟨by have := HK1.out; omega⟩, ⟨by (with_reducible repeat (first | refine blk_drewN ?_ _ | refine blk_drew ?_ | refine blk_alloc ?_ _)); exact BK594.out⟩, ⟨bq HB.out⟩⟩
end Go.Proofs.YtfnfjmeiaamheaaDoor.PA
namespace Go.Proofs.YtfnfjmeiaamheaaDoor.PA
open Go Go.RowKit Go.Proofs.YtfnfjmeiaamheaaDoorW.PrintWords
set_option maxRecDepth 100000 in
theorem rint_40 (k : Nat) : q_Int.f (k + 40) 1 = some (false, (⟨#[1]⟩ : ByteArray), (⟨#[]⟩ : ByteArray)) := by kernel_rfl
theorem rint_one (k : Nat) (h : 40 ≤ k) : q_Int.f k 1 = some (false, (⟨#[1]⟩ : ByteArray), (⟨#[]⟩ : ByteArray)) := by
 obtain ⟨j, rfl⟩ : ∃ j, k = j + 40 := ⟨k - 40, by omega⟩
 exact rint_40 j
theorem rone : e1_One.f = some (false, (⟨#[1]⟩ : ByteArray), (⟨#[]⟩ : ByteArray)) := by kernel_rfl
theorem rate_loop {l : List S33} (hl : l.length ≤ 256) (code : ByteArray) (day : Int) : ∀ m i (known : Bool) (best : Int), i + m = l.length → best = -1 ∨ (0 ≤ best ∧ best < (i : Int)) →
 ∃ r, Ev (fun k => c_Rate.l0 k l code day known best l (l.length : Int) (i : Int)) r ∧ Ev (fun k => e1_ExchangeRate.l0 k l code day known best (i : Int)) r
 | 0, i, known, best, hi, hb => by
  obtain rfl : i = l.length := by omega
  cases known with
  | false => exact ⟨_, Ev.rets fun k => by rw [c_Rate.l0, if_neg (by omega), if_neg (by decide)], Ev.rets fun k => by rw [e1_ExchangeRate.l0, if_neg (by omega), if_neg (by decide)]⟩
  | true =>
   by_cases h : best < 0
   ·exact ⟨_, Ev.rets fun k => by rw [c_Rate.l0, if_neg (by omega), if_pos rfl, if_pos h], Ev.rets fun k => by rw [e1_ExchangeRate.l0, if_neg (by omega), if_pos rfl, if_pos h]⟩
   have x1 : 0 ≤ best := by omega
   have x2 : best < (l.length : Int) := by omega
   exact ⟨_, Ev.rets fun k => by rw [c_Rate.l0, if_neg (by omega), if_pos rfl, if_neg h, if_pos x1, if_pos x2], Ev.rets fun k => by rw [e1_ExchangeRate.l0, if_neg (by omega), if_pos rfl, if_neg h, if_pos x1, if_pos x2]⟩
 | m + 1, i, known, best, hi, hb => by
  have x1 : (i : Int) < (l.length : Int) := by omega
  have x2 : (0 : Int) ≤ (i : Int) := by omega
  have hw : Aside0 (wrap64 ((i : Int) + 1) = ((i + 1 : Nat) : Int)) := ⟨by rw [wrap_s (by omega) (by omega)]; omega⟩
  by_cases h1 : ((rd_T33 l (i : Int)).f0).toList = code.toList
  ·by_cases h2 : ((rd_T33 l (i : Int)).f1) ≤ day
   ·by_cases h3 : best < 0
    ·obtain ⟨r, r1, r2⟩ := rate_loop hl code day m (i + 1) true (i : Int) (by omega) (by omega)
     exact ⟨r, Ev.step (fun k => by rw [c_Rate.l0, if_pos x1, if_pos x2, if_pos x1, if_pos h1, if_pos h2, if_pos h3, hw.out]) r1, Ev.step (fun k => by rw [e1_ExchangeRate.l0, if_pos x1, if_pos x2, if_pos h1, if_pos h2, if_pos h3, hw.out]) r2⟩
    have x3 : 0 ≤ best := by omega
    have x4 : best < (l.length : Int) := by omega
    by_cases h4 : ((rd_T33 l best).f1) < ((rd_T33 l (i : Int)).f1)
    ·obtain ⟨r, r1, r2⟩ := rate_loop hl code day m (i + 1) true (i : Int) (by omega) (by omega)
     exact ⟨r, Ev.step (fun k => by rw [c_Rate.l0, if_pos x1, if_pos x2, if_pos x1, if_pos h1, if_pos h2, if_neg h3, if_pos x3, if_pos x4, if_pos (show ((rd_T33 l (i : Int)).f1) > ((rd_T33 l best).f1) from h4), hw.out]) r1, Ev.step (fun k => by rw [e1_ExchangeRate.l0, if_pos x1, if_pos x2, if_pos h1, if_pos h2, if_neg h3, if_pos x3, if_pos x4, if_pos h4, hw.out]) r2⟩
    obtain ⟨r, r1, r2⟩ := rate_loop hl code day m (i + 1) true best (by omega) (by omega)
    exact ⟨r, Ev.step (fun k => by rw [c_Rate.l0, if_pos x1, if_pos x2, if_pos x1, if_pos h1, if_pos h2, if_neg h3, if_pos x3, if_pos x4, if_neg (show ¬ ((rd_T33 l (i : Int)).f1) > ((rd_T33 l best).f1) from h4), hw.out]) r1, Ev.step (fun k => by rw [e1_ExchangeRate.l0, if_pos x1, if_pos x2, if_pos h1, if_pos h2, if_neg h3, if_pos x3, if_pos x4, if_neg h4, hw.out]) r2⟩
   obtain ⟨r, r1, r2⟩ := rate_loop hl code day m (i + 1) true best (by omega) (by omega)
   exact ⟨r, Ev.step (fun k => by rw [c_Rate.l0, if_pos x1, if_pos x2, if_pos x1, if_pos h1, if_neg h2, hw.out]) r1, Ev.step (fun k => by rw [e1_ExchangeRate.l0, if_pos x1, if_pos x2, if_pos h1, if_neg h2, hw.out]) r2⟩
  obtain ⟨r, r1, r2⟩ := rate_loop hl code day m (i + 1) known best (by omega) (by omega)
  exact ⟨r, Ev.step (fun k => by rw [c_Rate.l0, if_pos x1, if_pos x2, if_pos x1, if_neg h1, hw.out]) r1, Ev.step (fun k => by rw [e1_ExchangeRate.l0, if_pos x1, if_pos x2, if_neg h1, hw.out]) r2⟩
theorem rate_both {l : List S33} (hl : l.length ≤ 256) (hq : ∀ q, q ∈ l → Sq q) (code : ByteArray) (day : Int) : ∃ r, Ev (fun k => c_Rate.f k l code day) r ∧ Ev (fun k => e1_ExchangeRate.f k l code day) r := by
 obtain ⟨e, e1, e2⟩ := check_both hl hq
 obtain ⟨b, b1, b2, _⟩ := isDay_both day
 obtain ⟨r, r1, r2⟩ := rate_loop hl code day l.length 0 false (-1) (by omega) (Or.inl rfl)
 have A : ∃ s : Bool × ByteArray × ByteArray × Int, Ev (fun k => if e = 0 then ((c_isDay.f day).bind fun t314 => if t314 = true then (if code.toList = ([69, 85, 82] : List UInt8) then ((q_Int.f k 1).bind fun bt315 => some (bt315.1, bt315.2.1, bt315.2.2, (0 : Int))) else c_Rate.l0 k l code day false (-1) l (l.length : Int) 0) else some (false, (⟨#[]⟩ : ByteArray), (⟨#[]⟩ : ByteArray), (1 : Int))) else some (false, (⟨#[]⟩ : ByteArray), (⟨#[]⟩ : ByteArray), e)) s ∧
     Ev (fun k => if e = 0 then ((e1_IsDay.f day).bind fun t596 => if t596 = true then (if code.toList = ([69, 85, 82] : List UInt8) then ((e1_One.f).bind fun bt597 => some (bt597.1, bt597.2.1, bt597.2.2, (0 : Int))) else e1_ExchangeRate.l0 k l code day false (-1) 0) else some (false, (⟨#[]⟩ : ByteArray), (⟨#[]⟩ : ByteArray), (1 : Int))) else some (false, (⟨#[]⟩ : ByteArray), (⟨#[]⟩ : ByteArray), e)) s := by
   by_cases h0 : e = 0
   · cases b with
     | false => exact ⟨_, Ev.same (fun k => by rw [if_pos h0, b1, Option.bind_some, if_neg (by decide)]) Ev.ret, Ev.same (fun k => by rw [if_pos h0, b2, Option.bind_some, if_neg (by decide)]) Ev.ret⟩
     | true =>
       by_cases h1 : code.toList = ([69, 85, 82] : List UInt8)
       · exact ⟨(false, ⟨#[1]⟩, ⟨#[]⟩, 0), Ev.same (h := fun k => (q_Int.f k 1).bind fun bt315 => some (bt315.1, bt315.2.1, bt315.2.2, (0 : Int))) (fun k => by rw [if_pos h0, b1, Option.bind_some, if_pos rfl, if_pos h1]) (Ev.bind (t := (false, (⟨#[1]⟩ : ByteArray), (⟨#[]⟩ : ByteArray))) ⟨40, rint_one⟩ Ev.ret), Ev.same (fun k => by rw [if_pos h0, b2, Option.bind_some, if_pos rfl, if_pos h1, rone, Option.bind_some]) Ev.ret⟩
       · exact ⟨r, Ev.same (fun k => by rw [if_pos h0, b1, Option.bind_some, if_pos rfl, if_neg h1]; rfl) r1, Ev.same (fun k => by rw [if_pos h0, b2, Option.bind_some, if_pos rfl, if_neg h1]; rfl) r2⟩
   · exact ⟨_, Ev.same (fun k => by rw [if_neg h0]) Ev.ret, Ev.same (fun k => by rw [if_neg h0]) Ev.ret⟩
 obtain ⟨s, s1, s2⟩ := A
 refine ⟨s, Ev.same (fun k => by rw [c_Rate.f]) (Ev.bind e1 (c := fun k e => if e = 0 then ((c_isDay.f day).bind fun t314 => if t314 = true then (if code.toList = ([69, 85, 82] : List UInt8) then ((q_Int.f k 1).bind fun bt315 => some (bt315.1, bt315.2.1, bt315.2.2, (0 : Int))) else c_Rate.l0 k l code day false (-1) l (l.length : Int) 0) else some (false, (⟨#[]⟩ : ByteArray), (⟨#[]⟩ : ByteArray), (1 : Int))) else some (false, (⟨#[]⟩ : ByteArray), (⟨#[]⟩ : ByteArray), e)) s1),
  Ev.same (fun k => by rw [e1_ExchangeRate.f]) (Ev.bind e2 (c := fun k e => if e = 0 then ((e1_IsDay.f day).bind fun t596 => if t596 = true then (if code.toList = ([69, 85, 82] : List UInt8) then ((e1_One.f).bind fun bt597 => some (bt597.1, bt597.2.1, bt597.2.2, (0 : Int))) else e1_ExchangeRate.l0 k l code day false (-1) 0) else some (false, (⟨#[]⟩ : ByteArray), (⟨#[]⟩ : ByteArray), (1 : Int))) else some (false, (⟨#[]⟩ : ByteArray), (⟨#[]⟩ : ByteArray), e)) s2)⟩
end Go.Proofs.YtfnfjmeiaamheaaDoor.PA
namespace Go.Proofs.YtfnfjmeiaamheaaDoor.PA
open Go.RowKit Go.Proofs.YtfnfjmeiaamheaaDoorW.PrintWords Go.Proofs.YtfnfjmeiaamheaaDoorW.PrintLast Go.Proofs.YtfnfjmeiaamheaaDoorW.PrintMore
attribute [local go_sem] max2_int min2_int max_two min_two max_three min_three max_four min_four
attribute [local go_sem high] eqA30
def l7_CurrencyRate.f (k : Nat) (l0 : List (S33)) (a1 : ByteArray) (a2 : Int) : Option (Bool) := (l7_few.f k l0).bind fun t605 => (if t605 = true then ((c_Rate.f k l0 a1 a2).bind fun bt606 => ((e1_ExchangeRate.f k l0 a1 a2).bind fun bt611 => ((l7_awake.f k).bind fun t616 => (if t616 = true then (if (bt606.1 == bt611.1 && (bt606.2.1.toList == bt611.2.1.toList && (bt606.2.2.1.toList == bt611.2.2.1.toList))) = true then (some (bt606.2.2.2 == bt611.2.2.2)) else (some false)) else (some false))))) else ((l7_awake.f k).bind fun t617 => (some t617)))
set_option maxHeartbeats 8000000 in
set_option maxRecDepth 100000 in
theorem l7_CurrencyRate.calls (k : Nat) (A0 : Option Addr) (c0 : Nat) (l0 : List (S33)) (a1 : ByteArray) (a2 : Int) (r : Bool) (w : World) (hr0 : Kd.C k33 w A0 l0.length l0) (hc0 : l0.length ≤ c0) (h : l7_CurrencyRate.f k l0 a1 a2 = some r) (hrT : r = true) :
  Calls Tryd.prog 5 #[.slice A0 l0.length c0, .string a1, .int .i64 a2] w fun e w' => e = .returned (.bool r) ∧ Below w.heap.size w w' := by
 have hu30 := Tryd.underlying30
 have HR0 := Aside0.mk hr0
 have HC0 := Aside0.mk hc0
 clear hr0 hc0
 have HB := Aside0.mk (Below.refl w.heap.size w)
 have HRT := Aside0.mk hrT
 clear hrT
 have H : ((l7_few.f k l0).bind fun t605 => (if t605 = true then ((c_Rate.f k l0 a1 a2).bind fun bt606 => ((e1_ExchangeRate.f k l0 a1 a2).bind fun bt611 => ((l7_awake.f k).bind fun t616 => (if t616 = true then (if (bt606.1 == bt611.1 && (bt606.2.1.toList == bt611.2.1.toList && (bt606.2.2.1.toList == bt611.2.2.1.toList))) = true then (some (bt606.2.2.2 == bt611.2.2.2)) else (some false)) else (some false))))) else ((l7_awake.f k).bind fun t617 => (some t617)))) = some r := h
 clear h
 replace H := Option.bind_eq_some_iff.mp H
 obtain ⟨t605, A40, H⟩ := H
 try dsimp only at H
 have A4 := Aside0.mk A40
 clear A40
 by_cases c5 : t605 = true
 rotate_left
 ·replace c5 := Bool.eq_false_iff.mpr c5
  subst c5
  rw [if_neg (show ¬ (false = true) by decide)] at H
  replace H := Option.bind_eq_some_iff.mp H
  obtain ⟨t617, A420, H⟩ := H
  try dsimp only at H
  have A42 := Aside0.mk A420
  clear A420
  obtain rfl := Option.some.inj H
  go_enter Tryd.func5, Tryd.ntmps5
  go_wp2_with (first | ((with_reducible refine gate_callee (f := 10) rfl ?_); refine goesq (some 12) Tryd.func10 #[.slice A0 l0.length c0] ?_; (with_reducible refine (l7_few.calls k _ _ l0 false _ ?side1 ?side2 A4.out).mono ?_); (case side1 => repeat (first | exact HR0.out | (with_reducible refine Kd.C_alloc ?_ _) | (with_reducible refine Kd.C_drewN ?_ _) | (with_reducible refine Kd.C_drew ?_))); (case side2 => exact HC0.out); rintro e w43 ⟨rfl, hb⟩; refine ⟨_, rfl, ?_⟩; replace HB := am (below_step (bq HB.out) hb); (try clear hb)) | ((with_reducible refine gate_callee (f := 11) rfl ?_); refine goesq (some 14) Tryd.func11 #[] ?_; (with_reducible refine (l7_awake.calls k  t617 _ A42.out HRT.out).mono ?_); rintro e w44 ⟨rfl, hb⟩; refine ⟨_, rfl, ?_⟩; replace HB := am (below_step (bq HB.out) hb); (try clear hb)))
  go_ret
  exact ⟨by first | rfl | (simp [errW_none, errW_some] <;> rfl) | (simp [*, errW_none, errW_some] <;> rfl), bq HB.out⟩
 subst c5
 rw [if_pos rfl] at H
 replace H := Option.bind_eq_some_iff.mp H
 obtain ⟨⟨t606, t607, t608, t609⟩, A60, H⟩ := H
 try dsimp only at H
 have A6 := Aside0.mk A60
 clear A60
 replace H := Option.bind_eq_some_iff.mp H
 obtain ⟨⟨t611, t612, t613, t614⟩, A70, H⟩ := H
 try dsimp only at H
 have A7 := Aside0.mk A70
 clear A70
 replace H := Option.bind_eq_some_iff.mp H
 obtain ⟨t616, A80, H⟩ := H
 try dsimp only at H
 have A8 := Aside0.mk A80
 clear A80
 by_cases c9 : t616 = true
 rotate_left
 ·replace c9 := Bool.eq_false_iff.mpr c9
  subst c9
  have H1 : (some false) = some r := by rw [if_neg (show ¬ (false = true) by decide)] at H; exact H
  exact absurd ((Option.some.inj H1).trans HRT.out) (by decide)
 subst c9
 rw [if_pos rfl] at H
 by_cases c10 : (t606 == t611 && (t607.toList == t612.toList && (t608.toList == t613.toList))) = true
 rotate_left
 ·rw [if_neg c10] at H
  exact absurd ((Option.some.inj H).trans HRT.out) (by decide)
 rw [if_pos c10] at H
 have c10b0 : (t606 == t611 && (t607.toList == t612.toList && (t608.toList == t613.toList))) = true := c10
 (try (have c10b1 : decide (t606 = t611 && (t607.toList == t612.toList && (t608.toList == t613.toList))) = true := by simpa using c10))
 (try (have c10b2 : (t606 == t611 && (t607.toList == t612.toList && (t608.toList == t613.toList))) = true := by simpa using c10))
 clear c10
 obtain rfl := Option.some.inj H
 go_enter Tryd.func5, Tryd.ntmps5
 go_wp2_with (first | ((with_reducible refine gate_callee (f := 10) rfl ?_); refine goesq (some 12) Tryd.func10 #[.slice A0 l0.length c0] ?_; (with_reducible refine (l7_few.calls k _ _ l0 true _ ?side1 ?side2 A4.out).mono ?_); (case side1 => repeat (first | exact HR0.out | (with_reducible refine Kd.C_alloc ?_ _) | (with_reducible refine Kd.C_drewN ?_ _) | (with_reducible refine Kd.C_drew ?_))); (case side2 => exact HC0.out); rintro e w11 ⟨rfl, hb⟩; refine ⟨_, rfl, ?_⟩; replace HB := am (below_step (bq HB.out) hb); (try clear hb)) | ((with_reducible refine gate_callee (f := 15) rfl ?_); refine goesq (some 19) Tryd.func15 #[.slice A0 l0.length c0, .string a1, .int .i64 a2] ?_; (with_reducible refine (c_Rate.calls k _ _ l0 a1 a2 t606 t607 t608 t609 _ ?side1 ?side2 A6.out).mono ?_); (case side1 => repeat (first | exact (Kd.C_below HR0.out HB.out) | (with_reducible refine Kd.C_alloc ?_ _) | (with_reducible refine Kd.C_drewN ?_ _) | (with_reducible refine Kd.C_drew ?_))); (case side2 => exact HC0.out); rintro e w12 ⟨rfl, hb⟩; refine ⟨_, rfl, ?_⟩; replace HB := am (below_step (bq HB.out) hb); (try clear hb)) | ((with_reducible refine gate_dst (N := 7) rfl ?_); refine box_event ?hg (N := 7) ?hd (cs := #[.bool false, .string (⟨#[]⟩ : ByteArray), .string (⟨#[]⟩ : ByteArray)]) (t := 30) ?hr ?_; (case hd => rfl); (case hg => rfl); (case hr => first | (go_simp; done) | (go_simp; rfl)); intro gb610 hg w13 hbox hb; have BK610 := am (hbox); have GW610 := am ((by rw [hg]; exact (below_size (bq HB.out)) : w.heap.size ≤ gb610)); have GE610 := am ((by rw [hg]; exact (below_size (bq HB.out)) : w.heap.size ≤ gb610)); replace HB := am (below_step (bq HB.out) hb); clear hb hbox hg; have hcz14_0 : w13.cell? ⟨gb610, 0, none⟩ = some (.bool false) := (blk_cell BK610.out 0).trans rfl; have hcz14_1 : w13.cell? ⟨gb610, 1, none⟩ = some (.string (⟨#[]⟩ : ByteArray)) := (blk_cell BK610.out 1).trans rfl; have hcz14_2 : w13.cell? ⟨gb610, 2, none⟩ = some (.string (⟨#[]⟩ : ByteArray)) := (blk_cell BK610.out 2).trans rfl; have hfz14_0 := blk_frozen BK610.out 0; have hfz14_1 := blk_frozen BK610.out 1; have hfz14_2 := blk_frozen BK610.out 2) | ((with_reducible refine gate_callee (f := 16) rfl ?_); refine goesq (some 26) Tryd.func16 #[.slice A0 l0.length c0, .string a1, .int .i64 a2] ?_; (with_reducible refine (e1_ExchangeRate.calls k _ _ l0 a1 a2 t611 t612 t613 t614 _ ?side1 ?side2 A7.out).mono ?_); (case side1 => exact Kd.C_below HR0.out (bq HB.out)); (case side2 => exact HC0.out); rintro e w15 ⟨rfl, hb⟩; refine ⟨_, rfl, ?_⟩; replace BK610 := am (blk_below (g := gb610) (o := .cells #[.bool t606, .string t607, .string t608] 30 (0, 0)) (by (with_reducible repeat (first | refine blk_drewN ?_ _ | refine blk_drew ?_ | refine blk_alloc ?_ _)); refine blk_put (cs := #[.bool t606, .string t607, .string (⟨#[]⟩ : ByteArray)]) ?_ 2 _ rfl; (with_reducible repeat (first | refine blk_drewN ?_ _ | refine blk_drew ?_ | refine blk_alloc ?_ _)); refine blk_put (cs := #[.bool t606, .string (⟨#[]⟩ : ByteArray), .string (⟨#[]⟩ : ByteArray)]) ?_ 1 _ rfl; (with_reducible repeat (first | refine blk_drewN ?_ _ | refine blk_drew ?_ | refine blk_alloc ?_ _)); refine blk_put (cs := #[.bool false, .string (⟨#[]⟩ : ByteArray), .string (⟨#[]⟩ : ByteArray)]) ?_ 0 _ rfl; (with_reducible repeat (first | refine blk_drewN ?_ _ | refine blk_drew ?_ | refine blk_alloc ?_ _)); exact BK610.out) hb); replace HB := am (below_step (bq HB.out) hb); (try clear hb)) | ((with_reducible refine gate_dst (N := 9) rfl ?_); refine box_event ?hg (N := 9) ?hd (cs := #[.bool false, .string (⟨#[]⟩ : ByteArray), .string (⟨#[]⟩ : ByteArray)]) (t := 30) ?hr ?_; (case hd => rfl); (case hg => rfl); (case hr => first | (go_simp; done) | (go_simp; rfl)); intro gb615 hg w16 hbox hb; have BK615 := am (hbox); have GW615 := am ((by rw [hg]; exact (below_size (bq HB.out)) : w.heap.size ≤ gb615)); have GE615 := am ((by rw [hg]; exact (below_size (bq HB.out)) : w.heap.size ≤ gb615)); replace HB := am (below_step (bq HB.out) hb); have NB610_615 := am ((by rw [hg]; exact Nat.ne_of_lt (blk_lt (g := gb610) (o := .cells #[.bool t606, .string t607, .string t608] 30 (0, 0)) (kq BK610.out)) : gb610 ≠ gb615)); have NB615_610 := am ((by rw [hg]; exact Nat.ne_of_gt (blk_lt (g := gb610) (o := .cells #[.bool t606, .string t607, .string t608] 30 (0, 0)) (kq BK610.out)) : gb615 ≠ gb610)); replace BK610 := am (blk_below (g := gb610) (o := .cells #[.bool t606, .string t607, .string t608] 30 (0, 0)) (kq BK610.out) hb); clear hb hbox hg; have hnb17 := NB615_610.out; have hnc17 := NB610_615.out; have hcz18_0 : w16.cell? ⟨gb615, 0, none⟩ = some (.bool false) := (blk_cell BK615.out 0).trans rfl; have hcz18_1 : w16.cell? ⟨gb615, 1, none⟩ = some (.string (⟨#[]⟩ : ByteArray)) := (blk_cell BK615.out 1).trans rfl; have hcz18_2 : w16.cell? ⟨gb615, 2, none⟩ = some (.string (⟨#[]⟩ : ByteArray)) := (blk_cell BK615.out 2).trans rfl; have hfz18_0 := blk_frozen BK615.out 0; have hfz18_1 := blk_frozen BK615.out 1; have hfz18_2 := blk_frozen BK615.out 2) | ((with_reducible refine gate_callee (f := 11) rfl ?_); refine goesq (some 29) Tryd.func11 #[] ?_; (with_reducible refine (l7_awake.calls k  true _ A8.out rfl).mono ?_); rintro e w19 ⟨rfl, hb⟩; refine ⟨_, rfl, ?_⟩; replace BK610 := am (blk_below (g := gb610) (o := .cells #[.bool t606, .string t607, .string t608] 30 (0, 0)) (by (with_reducible repeat (first | refine blk_drewN ?_ _ | refine blk_drew ?_ | refine blk_alloc ?_ _)); refine blk_far ?_ NB610_615.out _; (with_reducible repeat (first | refine blk_drewN ?_ _ | refine blk_drew ?_ | refine blk_alloc ?_ _)); refine blk_far ?_ NB610_615.out _; (with_reducible repeat (first | refine blk_drewN ?_ _ | refine blk_drew ?_ | refine blk_alloc ?_ _)); refine blk_far ?_ NB610_615.out _; (with_reducible repeat (first | refine blk_drewN ?_ _ | refine blk_drew ?_ | refine blk_alloc ?_ _)); exact BK610.out) hb); replace BK615 := am (blk_below (g := gb615) (o := .cells #[.bool t611, .string t612, .string t613] 30 (0, 0)) (by (with_reducible repeat (first | refine blk_drewN ?_ _ | refine blk_drew ?_ | refine blk_alloc ?_ _)); refine blk_put (cs := #[.bool t611, .string t612, .string (⟨#[]⟩ : ByteArray)]) ?_ 2 _ rfl; (with_reducible repeat (first | refine blk_drewN ?_ _ | refine blk_drew ?_ | refine blk_alloc ?_ _)); refine blk_put (cs := #[.bool t611, .string (⟨#[]⟩ : ByteArray), .string (⟨#[]⟩ : ByteArray)]) ?_ 1 _ rfl; (with_reducible repeat (first | refine blk_drewN ?_ _ | refine blk_drew ?_ | refine blk_alloc ?_ _)); refine blk_put (cs := #[.bool false, .string (⟨#[]⟩ : ByteArray), .string (⟨#[]⟩ : ByteArray)]) ?_ 0 _ rfl; (with_reducible repeat (first | refine blk_drewN ?_ _ | refine blk_drew ?_ | refine blk_alloc ?_ _)); exact BK615.out) hb); replace HB := am (below_step (bq HB.out) hb); (try clear hb); have hcz20_0 : w19.cell? ⟨gb610, 0, none⟩ = some (.bool t606) := (blk_cell BK610.out 0).trans rfl; have hcz20_1 : w19.cell? ⟨gb610, 1, none⟩ = some (.string t607) := (blk_cell BK610.out 1).trans rfl; have hcz20_2 : w19.cell? ⟨gb610, 2, none⟩ = some (.string t608) := (blk_cell BK610.out 2).trans rfl; have hfz20_0 := blk_frozen BK610.out 0; have hfz20_1 := blk_frozen BK610.out 1; have hfz20_2 := blk_frozen BK610.out 2; have hcz21_0 : w19.cell? ⟨gb615, 0, none⟩ = some (.bool t611) := (blk_cell BK615.out 0).trans rfl; have hcz21_1 : w19.cell? ⟨gb615, 1, none⟩ = some (.string t612) := (blk_cell BK615.out 1).trans rfl; have hcz21_2 : w19.cell? ⟨gb615, 2, none⟩ = some (.string t613) := (blk_cell BK615.out 2).trans rfl; have hfz21_0 := blk_frozen BK615.out 0; have hfz21_1 := blk_frozen BK615.out 1; have hfz21_2 := blk_frozen BK615.out 2))
 go_ret
 exact ⟨by first | rfl | (simp [errW_none, errW_some] <;> rfl) | (simp [*, errW_none, errW_some] <;> rfl), bq HB.out⟩
end Go.Proofs.YtfnfjmeiaamheaaDoor.PA
namespace Go.Proofs.YtfnfjmeiaamheaaDoor.PA
open Go Go.RowKit Go.Proofs.YtfnfjmeiaamheaaDoorW.PrintWords
theorem pure_rate {l : List S33} (hw : ∀ q, q ∈ l → (Lit.int .i64 q.f1).wf = true) (code : ByteArray) (day : Int) : ∃ k, l7_CurrencyRate.f k l code day = some true := by
 obtain ⟨b, b1, b2⟩ := few_ev hw
 have aw : Ev (fun k => l7_awake.f k) true := ⟨40, awake_ge⟩
 have : Ev (fun k => l7_CurrencyRate.f k l code day) true := by
  refine Ev.same (h := fun k => (l7_few.f k l).bind fun t605 => if t605 = true then ((c_Rate.f k l code day).bind fun bt606 => (e1_ExchangeRate.f k l code day).bind fun bt611 => (l7_awake.f k).bind fun t616 => if t616 = true then (if (bt606.1 == bt611.1 && (bt606.2.1.toList == bt611.2.1.toList && (bt606.2.2.1.toList == bt611.2.2.1.toList))) = true then some (bt606.2.2.2 == bt611.2.2.2) else some false) else some false) else (l7_awake.f k).bind fun t617 => some t617) (fun k => by rw [l7_CurrencyRate.f]) (Ev.bind b1 ?_)
  cases b with
  | false => exact Ev.bind aw Ev.ret
  | true =>
   obtain ⟨h1, h2⟩ := b2 rfl
   obtain ⟨r, r1, r2⟩ := rate_both (l := l) (by omega) h2 code day
   refine Ev.bind r1 (Ev.bind r2 (Ev.bind aw ?_))
   exact Ev.const (by simp)
 obtain ⟨K, hK⟩ := this
 exact ⟨K, hK K (Nat.le_refl _)⟩
end Go.Proofs.YtfnfjmeiaamheaaDoor.PA
namespace Go.Proofs.YtfnfjmeiaamheaaDoor.PA
open Go Go.RowKit Go.ChangeShapes Go.WideShapes Go.Deep Go.Proofs.YtfnfjmeiaamheaaDoorW.PrintWords
theorem c33 : Tryd.prog.cellsOf 33 = 5 := by kernel_rfl
theorem c30 : Tryd.prog.cellsOf 30 = 3 := by kernel_rfl
theorem c9 : Tryd.prog.cellsOf 9 = 1 := by kernel_rfl
theorem c3 : Tryd.prog.cellsOf 3 = 1 := by kernel_rfl
theorem c4 : Tryd.prog.cellsOf 4 = 1 := by kernel_rfl
instance : Inhabited S33 := ⟨z33⟩
section
variable {H : Type} {enc : TypeId × Value → H} {W : World} {base : Nat} {spare : Nat → Bool} {held : Bool}
set_option maxRecDepth 100000 in
theorem open_rat {fuel : Nat} {cs : List Value} {x : DataW H × List MemPlace} (h : DataW.trod enc Tryd.prog W base spare held fuel 30 cs = some x) : ∃ q : S30, cs = [.bool q.f0, .string q.f1, .string q.f2] := by
 obtain ⟨xs, k, _, _, hl, hxl, hf⟩ := DataW.trod_struct Tryd.underlying30 h
 rw [c30] at hl
 match cs, hl, xs, hxl with
 | [v0, v1, v2], _, [y0, y1, y2], _ =>
  have g0 : DataW.trod enc Tryd.prog W base spare held k 4 (([v0, v1, v2].drop 0).take (Tryd.prog.cellsOf 4)) = some y0 := hf 0 _ rfl
  rw [c4] at g0
  have g1 : DataW.trod enc Tryd.prog W base spare held k 9 (([v0, v1, v2].drop 1).take (Tryd.prog.cellsOf 9)) = some y1 := hf 1 _ rfl
  rw [c9] at g1
  have g2 : DataW.trod enc Tryd.prog W base spare held k 9 (([v0, v1, v2].drop 2).take (Tryd.prog.cellsOf 9)) = some y2 := hf 2 _ rfl
  rw [c9] at g2
  obtain ⟨z0, e0, _⟩ := DataW.trod_bool Tryd.underlying4 (show DataW.trod enc Tryd.prog W base spare held k 4 [v0] = some y0 from g0)
  obtain ⟨z1, e1, _⟩ := DataW.trod_string Tryd.underlying9 (show DataW.trod enc Tryd.prog W base spare held k 9 [v1] = some y1 from g1)
  obtain ⟨z2, e2, _⟩ := DataW.trod_string Tryd.underlying9 (show DataW.trod enc Tryd.prog W base spare held k 9 [v2] = some y2 from g2)
  simp only [List.cons.injEq, and_true] at e0 e1 e2
  exact ⟨⟨z0, z1, z2⟩, by rw [e0, e1, e2]⟩
set_option maxRecDepth 100000 in
theorem open_quote {fuel : Nat} {cs : List Value} {x : DataW H × List MemPlace} (h : DataW.trod enc Tryd.prog W base spare held fuel 33 cs = some x) : ∃ q : S33, cs = [.string q.f0, .int .i64 q.f1, .bool q.f2.f0, .string q.f2.f1, .string q.f2.f2] ∧ (Lit.int .i64 q.f1).wf = true := by
 obtain ⟨xs, k, _, _, hl, hxl, hf⟩ := DataW.trod_struct Tryd.underlying33 h
 rw [c33] at hl
 match cs, hl, xs, hxl with
 | [v0, v1, v2, v3, v4], _, [y0, y1, y2], _ =>
  have g0 : DataW.trod enc Tryd.prog W base spare held k 9 (([v0, v1, v2, v3, v4].drop 0).take (Tryd.prog.cellsOf 9)) = some y0 := hf 0 _ rfl
  rw [c9] at g0
  have g1 : DataW.trod enc Tryd.prog W base spare held k 3 (([v0, v1, v2, v3, v4].drop 1).take (Tryd.prog.cellsOf 3)) = some y1 := hf 1 _ rfl
  rw [c3] at g1
  have g2 : DataW.trod enc Tryd.prog W base spare held k 30 (([v0, v1, v2, v3, v4].drop 2).take (Tryd.prog.cellsOf 30)) = some y2 := hf 2 _ rfl
  rw [c30] at g2
  obtain ⟨z0, e0, _⟩ := DataW.trod_string Tryd.underlying9 (show DataW.trod enc Tryd.prog W base spare held k 9 [v0] = some y0 from g0)
  obtain ⟨z1, e1, _, w1⟩ := DataW.trod_int Tryd.underlying3 (show DataW.trod enc Tryd.prog W base spare held k 3 [v1] = some y1 from g1)
  obtain ⟨z2, e2⟩ := open_rat (show DataW.trod enc Tryd.prog W base spare held k 30 [v2, v3, v4] = some y2 from g2)
  simp only [List.cons.injEq, and_true] at e0 e1 e2
  exact ⟨⟨z0, z1, z2⟩, by rw [e0, e1, e2.1, e2.2.1, e2.2.2], w1⟩
set_option maxRecDepth 100000 in
theorem open_quotes {r : Reach} {b0 : Nat} {v : Value} {d : DataW H} {p : List MemPlace} (hval : Value.okWide Tryd.prog W r b0 22 v) (h : DataW.Trod enc Tryd.prog W base spare held 22 v d p) :
  ∃ (A : Option Addr) (c : Nat) (l : List S33), v = .slice A l.length c ∧ l.length ≤ c ∧ Kd.C k33 W A l.length l ∧ ∀ q, q ∈ l → (Lit.int .i64 q.f1).wf = true := by
 obtain ⟨a0, len, cap, rfl⟩ := okWide_slice Tryd.underlying22 hval
 obtain ⟨fuel, hf⟩ := h
 rcases open_slice Tryd.underlying22 hf with ⟨h1, _⟩ | ⟨a, len', cap', m, n, D, Pl, h1, hb, hl, hm, hmm, _, hel⟩
 ·simp only [Value.cells, List.cons.injEq, Value.slice.injEq, and_true] at h1
  obtain ⟨rfl, rfl, rfl⟩ := h1
  exact ⟨none, 0, [], rfl, Nat.le_refl _, ⟨rfl, by simp, fun h => by simp at h⟩, fun q hq => by cases hq⟩
 simp only [Value.cells, List.cons.injEq, Value.slice.injEq, and_true] at h1
 obtain ⟨rfl, rfl, rfl⟩ := h1
 have hlm : len ≤ m := by rw [hmm]; split <;> omega
 obtain ⟨q, hq⟩ := choose_lt (α := S33) (p := fun i q => (∀ j u, [Value.string q.f0, .int .i64 q.f1, .bool q.f2.f0, .string q.f2.f1, .string q.f2.f2][j]? = some u → W.cell? (a.add (i * 5 + j)) = some u) ∧ (Lit.int .i64 q.f1).wf = true) (n := len) (fun i hi => by
  obtain ⟨cs', h2, h3⟩ := hel i (by omega)
  rw [c33] at h2
  obtain ⟨q, hq, hw⟩ := open_quote h3
  obtain ⟨_, hlen, hcell⟩ := World.cells?_some h2
  refine ⟨q, fun j u hu => ?_, hw⟩
  have hj : j < 5 := by
   have := (List.getElem?_eq_some_iff.1 hu).1
   simpa using this
  have := hcell j hj
  rw [Go.Deep.add_add, hq, hu] at this
  exact this)
 refine ⟨some a, cap, (List.range len).map q, by simp, by simpa using hl, ⟨rfl, ?_, fun _ => ⟨a, rfl, fun j x hx => ?_⟩⟩, fun x hx => ?_⟩
 ·simp only [List.length_map, List.length_range]
  exact Nat.le_trans (Nat.le_trans hl hm) (by decide)
 ·rw [List.getElem?_map] at hx
  have hj : j < len := by
   refine Classical.byContradiction fun hn => ?_
   rw [List.getElem?_eq_none (by simp; omega)] at hx
   cases hx
  rw [List.getElem?_range hj] at hx
  obtain rfl := Option.some.inj hx
  exact ⟨_, rfl, k33_mk _ _, (hq j hj).1⟩
 obtain ⟨j, hj, rfl⟩ := List.mem_map.1 hx
 exact (hq j (List.mem_range.1 hj)).2
end
end Go.Proofs.YtfnfjmeiaamheaaDoor.PA
namespace Go.Proofs.YtfnfjmeiaamheaaDoor.currencyRate
open Go.ChangeShapes Go.WideShapes Go.ChangeAt Go.RowKit
open Go.ChangeMaps (open_string shut_string)
theorem own : ownKnob Tryd.prog.godebug = none := by kernel_rfl
theorem laidOut : laidOutB Tryd.prog = true := by kernel_rfl
set_option maxRecDepth 100000 in
theorem lifted (os : Os) (started : os.Started) (H : Type) (enc : TypeId × Value → H) :
 ReturnsInHanded {} Tryd.checked os 5 .any (fun w args => (Rows.currencyRateSpec.pre enc Tryd.prog Tryd.f5 Rows.currencyRateRow.domain false w args ∧ laidMetH Tryd.prog Rows.currencyRateRow.laid w) ∧ sizedMet enc Tryd.prog Tryd.f5 (OpenSpec.ofChange Rows.currencyRateSpec) false w args)
  (Rows.currencyRateSpec.post enc Tryd.prog Tryd.f5 false true false false) := by
 refine returnsInHanded_of_change_and (C := Tryd.checked) (X := fun w _ => laidMetH Tryd.prog Rows.currencyRateRow.laid w) (fun _ _ _ hh h => h.of_heap hh) own started (by kernel_rfl) Tryd.func5
  (ChangeSpec.witness_shaped (enc := enc) (C := Tryd.checked) (os := os) (X := fun w _ => laidMetH Tryd.prog Rows.currencyRateRow.laid w) false (World.laidAll Tryd.prog os Rows.currencyRateRow.laid) #[.slice none 0 0, .string ⟨#[]⟩, .int .i64 0] 8 (World.laidAll_os _ _ _)
   (World.shaped_of_ZipB (by kernel_rfl) (by kernel_rfl)) (by kernel_rfl) (by kernel_rfl) (by kernel_rfl)
   (by rw [MakeChecks.laidMetH_plain _ _ _ (by kernel_rfl)]; exact laidMet_laidAll _ (by kernel_rfl) (by kernel_rfl))) ?_
 intro W base args ds gs before hval0 hW _ _ _ _
 have hval : ∀ (j : Nat) t v, Tryd.f5.params[j]? = some t → args[j]? = some v → Value.okWide Tryd.prog W .any base t v := hval0
 have hW' := hW
 obtain ⟨p, q, hA0, hV, rfl, _, _⟩ := hW
 have hA : DataW.TrodAll enc Tryd.prog W 0 (fun _ => true) true Tryd.f5.params.toList args.toList ds p := hA0
 rw [Tryd.params5] at hA hval
 have hlt := hA.lt
 obtain ⟨v0, v1, v2, d0, d1, d2, p0, p1, p2, rfl, rfl, rfl, h0, h1, h2⟩ := trodAll_three hA
 obtain ⟨rfl, rfl⟩ := trodVars_none hV
 obtain ⟨A, c, l, rfl, hc, hC, hw⟩ := PA.open_quotes (hval 0 22 v0 rfl rfl) h0
 obtain ⟨s, rfl, rfl, rfl, hs⟩ := open_string Tryd.underlying9 (hval 1 9 v1 rfl rfl) h1
 obtain ⟨n, rfl, rfl, rfl, hn⟩ := open_int Tryd.underlying3 (hval 2 3 v2 rfl rfl) h2
 simp only [List.append_nil] at hW' hlt
 obtain ⟨k, hk⟩ := PA.pure_rate hw s n
 refine (PA.l7_CurrencyRate.calls k A c l s n true W hC hc hk rfl).mono fun e W' ⟨he, hb⟩ => ?_
 subst he
 exact ⟨_, rfl, _, _, _, [], _, [], hW', trodAll_mk1 (shut_bool Tryd.underlying4 _), trodAll_cons_mk (Below.trod laidOut (by kernel_rfl) (of_decide_eq_true (by kernel_rfl)) h0 hb hlt) (trodAll_cons_mk (shut_string Tryd.underlying9 hs) (trodAll_cons_mk (shut_int Tryd.underlying3 hn) trodAll_mk0)), rfl, hb.frame _, fun h => by cases h⟩
theorem holds : Rows.CurrencyRateSaid :=
 OpenClaim.holds_of_wide 5 Tryd.f5 rfl rfl rfl rfl rfl rfl rfl ⟨rfl, rfl, rfl, rfl, rfl⟩ rfl rfl rfl rfl rfl (by kernel_rfl) Tryd.func5 (by kernel_rfl)
  (of_decide_eq_true (by kernel_rfl)) (by unfold Func.isWrapper; first | (rw [if_pos (by decide +kernel)]; kernel_rfl) | (rw [if_neg (by decide +kernel)]; exact ⟨rfl, rfl⟩))
  (fun os started H enc _ => lifted os started H enc)
end Go.Proofs.YtfnfjmeiaamheaaDoor.currencyRate
namespace Go.Proofs.YtfnfjmeiaamheaaDoor
theorem currencyRate_holds : Rows.CurrencyRateCardSaid :=
 Claim7.holds_tied_plain_at .later [] [.data, .pinned] true (true, "5bfc081f87bed625174066f6293cfe8983b3a0676fe84266add06b58b293d139") false currencyRate.holds (fun _ h => by cases h) (by kernel_rfl) (fun _ h => by cases h) currencyRate_row_tie rfl ⟨rfl, rfl⟩ (by kernel_rfl) rfl
  (fun f fn hf hfn => by
   obtain rfl : f = 5 := Option.some.inj ((show Tryd.prog.funcNamed "insolvency/insolvencylaw7.CurrencyRate" = some 5 by kernel_rfl).symm.trans hf) |>.symm
   obtain rfl : fn = Tryd.f5 := (Option.some.inj (Tryd.func5.symm.trans hfn)).symm
   exact ⟨by kernel_rfl, fun j t ht => by
    rw [Tryd.params5] at ht
    have hm : t ∈ [22, 9, 3] := by simpa using Array.mem_of_getElem? ht
    have hall : ([22, 9, 3].all fun u => !Tryd.prog.wantsStandIn u) = true := by kernel_rfl
    exact (show Tryd.prog.wantsStandIn t = false by simpa using List.all_eq_true.1 hall t hm)⟩)
  (by kernel_rfl)
#print axioms currencyRate_holds
end Go.Proofs.YtfnfjmeiaamheaaDoor
