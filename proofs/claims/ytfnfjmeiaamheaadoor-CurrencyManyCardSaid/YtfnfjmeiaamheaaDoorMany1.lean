/- Texts of this claim, made small by a program of mine (wip/tools/small.py): words that the kit's print tool writes, walks, and what they rest on. -/
import Derived.Test.YtfnfjmeiaamheaaDoorMany0
import Derived.Test.YtfnfjmeiaamheaaDoorProg
import Derived.Shelf.Strings.Trim
import Derived.Shelf.Small.Utf8
import Derived.Shelf.Small.Bits
import Derived.Shelf.Small.Strs
import Derived.Shelf.Strings.Search1
import Derived.Shelf.Unicode.Decode
import Derived.Shelf.Strings.Runes
import Derived.Shelf.Strings.AsciiSet
import Derived.Shelf.Unicode.DecodeSlow
import Derived.Shelf.Unicode.DecodeAny
import Derived.Lib.Hide
set_option linter.unusedVariables false
set_option linter.unusedSimpArgs false
namespace Go.Proofs.YtfnfjmeiaamheaaDoor.PA
open Go.RowKit Go.Proofs.YtfnfjmeiaamheaaDoorW.PrintWords Go.Proofs.YtfnfjmeiaamheaaDoorW.PrintLast Go.Proofs.YtfnfjmeiaamheaaDoorW.PrintMore
attribute [local go_sem] max2_int min2_int max_two min_two max_three min_three max_four min_four
def errW : Option Int → Value
 | none => .nilIface
 | some c => .iface 0 (.int .i64 c)
theorem errW_none : errW none = .nilIface := rfl
theorem errW_some (c : Int) : errW (some c) = .iface 0 (.int .i64 c) := rfl
theorem info5 : (Tryd.prog.info? 5).map (fun i => (i.zero, i.size, i.bytes)) = some (some (.int .u8 0), 1, 1) := by kernel_rfl
theorem info33 : (Tryd.prog.info? 33).map (fun i => (i.zero, i.size, i.bytes)) = some (some (.agg #[(.string ⟨#[]⟩), (.int .i64 0), (.bool false), (.string ⟨#[]⟩), (.string ⟨#[]⟩)]), 5, 64) := by kernel_rfl
theorem info88 : (Tryd.prog.info? 88).map (fun i => (i.zero, i.size, i.bytes)) = some (some (.int .u32 0), 1, 4) := by kernel_rfl
structure S30 where
 f0 : Bool
 f1 : ByteArray
 f2 : ByteArray
def z30 : S30 := ⟨false, (⟨#[]⟩ : ByteArray), (⟨#[]⟩ : ByteArray)⟩
def k30 : Kd S30 := Kd.iso (Kd.pair Kd.bool (Kd.pair Kd.string Kd.string)) (fun x : S30 => (x.f0, x.f1, x.f2))
theorem k30_open {w : World} {x : S30} {cs : List Value} (h : k30.K w x cs) : cs = [.bool x.f0, .string x.f1, .string x.f2] := by
 obtain ⟨_, _, rfl, rfl, ⟨_, _, rfl, rfl, rfl⟩⟩ := h
 exact rfl
theorem k30_mkM (w : World) (base : Nat) (ok : Nat → Prop) (x : S30)  : k30.M w base ok x [.bool x.f0, .string x.f1, .string x.f2] := ⟨[.bool x.f0], [.string x.f1, .string x.f2], rfl, rfl, ⟨[.string x.f1], [.string x.f2], rfl, rfl, rfl⟩⟩
structure S33 where
 f0 : ByteArray
 f1 : Int
 f2 : S30
def z33 : S33 := ⟨(⟨#[]⟩ : ByteArray), (0 : Int), z30⟩
def k33 : Kd S33 := Kd.iso (Kd.pair Kd.string (Kd.pair (Kd.int .i64) k30)) (fun x : S33 => (x.f0, x.f1, x.f2))
theorem k33_open {w : World} {x : S33} {cs : List Value} (h : k33.K w x cs) : cs = [.string x.f0, .int .i64 x.f1, .bool x.f2.f0, .string x.f2.f1, .string x.f2.f2] := by
 obtain ⟨_, _, rfl, rfl, ⟨_, _, rfl, rfl, s2⟩⟩ := h
 obtain rfl := k30_open s2
 exact rfl
theorem k33_mkM (w : World) (base : Nat) (ok : Nat → Prop) (x : S33)  : k33.M w base ok x [.string x.f0, .int .i64 x.f1, .bool x.f2.f0, .string x.f2.f1, .string x.f2.f2] := ⟨[.string x.f0], [.int .i64 x.f1, .bool x.f2.f0, .string x.f2.f1, .string x.f2.f2], rfl, rfl, ⟨[.int .i64 x.f1], [.bool x.f2.f0, .string x.f2.f1, .string x.f2.f2], rfl, rfl, (k30_mkM w base ok x.f2 )⟩⟩
def rd_T33 (xs : List S33) (i : Int) : S33 := xs.getD i.toNat z33
theorem at_T33 {w : World} {A : Option Addr} {n : Nat} {xs : List S33} (h : Kd.C k33 w A n xs) (i : Int) (h0 : 0 ≤ i) (h1 : i < n) : ∃ ad , A = some ad ∧ w.cell? (ad.add (i.toNat * 5)) = some (.string (rd_T33 xs i).f0) ∧ w.cell? ⟨(ad.add (i.toNat * 5)).block, (ad.add (i.toNat * 5)).off + 1, none⟩ = some (.int .i64 (rd_T33 xs i).f1) ∧ w.cell? ⟨(ad.add (i.toNat * 5)).block, (ad.add (i.toNat * 5)).off + 2, none⟩ = some (.bool (rd_T33 xs i).f2.f0) ∧ w.cell? ⟨(ad.add (i.toNat * 5)).block, (ad.add (i.toNat * 5)).off + 3, none⟩ = some (.string (rd_T33 xs i).f2.f1) ∧ w.cell? ⟨(ad.add (i.toNat * 5)).block, (ad.add (i.toNat * 5)).off + 4, none⟩ = some (.string (rd_T33 xs i).f2.f2) := by
 obtain ⟨ad, c, e, _, hK, hc0⟩ := Kd.C_get h z33 i h0 h1
 have hc : ∀ j u, c[j]? = some u → w.cell? (ad.add (i.toNat * 5 + j)) = some u := hc0
 obtain rfl := k33_open hK
 exact ⟨ad, e, hc 0 _ rfl, by rw [← add_field _ _ 1 (by omega)]; exact hc 1 _ rfl, by rw [← add_field _ _ 2 (by omega)]; exact hc 2 _ rfl, by rw [← add_field _ _ 3 (by omega)]; exact hc 3 _ rfl, by rw [← add_field _ _ 4 (by omega)]; exact hc 4 _ rfl⟩
end Go.Proofs.YtfnfjmeiaamheaaDoor.PA
namespace Go.Proofs.YtfnfjmeiaamheaaDoor.PA
open Go.RowKit Go.Proofs.YtfnfjmeiaamheaaDoorW.PrintWords Go.Proofs.YtfnfjmeiaamheaaDoorW.PrintLast Go.Proofs.YtfnfjmeiaamheaaDoorW.PrintMore
attribute [local go_sem] max2_int min2_int max_two min_two max_three min_three max_four min_four
theorem eqA30 (d : Nat) (w : World) (x0 y0 : Bool) (x1 y1 : ByteArray) (x2 y2 : ByteArray) :
 (Op.equalIn (d + 2) 30 (.agg #[.bool x0, .string x1, .string x2]) (.agg #[.bool y0, .string y1, .string y2])).run Tryd.prog w = .ok (x0 == y0 && (x1.toList == y1.toList && (x2.toList == y2.toList))) w := by
 refine eqA_of Tryd.underlying30 (by kernel_rfl) ?_
 refine eqf_cons (by rfl) (by go_simp; rfl) (by go_simp; rfl) (by go_simp) ?_
 refine eqf_cons (by rfl) (by go_simp; rfl) (by go_simp; rfl) (by go_simp) ?_
 exact eqf_last (by rfl) (by go_simp; rfl) (by go_simp; rfl) (by go_simp)
end Go.Proofs.YtfnfjmeiaamheaaDoor.PA
namespace Go.Proofs.YtfnfjmeiaamheaaDoor.PA
open Go.RowKit Go.Proofs.YtfnfjmeiaamheaaDoorW.PrintWords Go.Proofs.YtfnfjmeiaamheaaDoorW.PrintLast Go.Proofs.YtfnfjmeiaamheaaDoorW.PrintMore
attribute [local go_sem] max2_int min2_int max_two min_two max_three min_three max_four min_four
def currency_isDay.f (a0 : Int) : Option (Bool) := if a0 ≥ 0 then (some (decide (a0 ≤ 1048576))) else (some false)
set_option maxHeartbeats 8000000 in
set_option maxRecDepth 100000 in
theorem currency_isDay.calls (a0 : Int) (r : Bool) (w : World) (h : currency_isDay.f a0 = some r) :
  Calls Tryd.prog 25 #[.int .i64 a0] w fun e w' => e = .returned (.bool r) ∧ Drawn0 w w' := by
 have H : (if a0 ≥ 0 then (some (decide (a0 ≤ 1048576))) else (some false)) = some r := h
 clear h
 by_cases c2 : a0 ≥ 0
 ·rw [if_pos c2] at H
  have c2b0 : decide (0 ≤ a0) = true := decide_eq_true c2
  clear c2
  obtain rfl := Option.some.inj H
  go_enter Tryd.func25, Tryd.ntmps25
  go_wp2
  go_ret
  exact ⟨by first | rfl | (simp; done) | (simp [*]; done), by repeat (first | exact Drawn0.refl _ | apply Drawn0.step)⟩
 rw [if_neg c2] at H
 have c2b0 : decide (0 ≤ a0) = false := decide_eq_false c2
 clear c2
 obtain rfl := Option.some.inj H
 go_enter Tryd.func25, Tryd.ntmps25
 go_wp2
 go_ret
 exact ⟨by first | rfl | (simp; done) | (simp [*]; done), by repeat (first | exact Drawn0.refl _ | apply Drawn0.step)⟩
end Go.Proofs.YtfnfjmeiaamheaaDoor.PA
namespace Go.Proofs.YtfnfjmeiaamheaaDoor.PA
open Go.RowKit Go.Proofs.YtfnfjmeiaamheaaDoorW.PrintWords Go.Proofs.YtfnfjmeiaamheaaDoorW.PrintLast Go.Proofs.YtfnfjmeiaamheaaDoorW.PrintMore
attribute [local go_sem] max2_int min2_int max_two min_two max_three min_three max_four min_four
def currency_isCode.l0 : Nat → ByteArray → Int → Int → Option (Bool)
 | 0, _, _, _ => none
 | k + 1, x0, x5, x6 => if x6 < x5 then (if 0 ≤ x6 then (if x6 < (x0.size : Int) then (if (bt x0 x6) < 65 then (some false) else (if (bt x0 x6) > 90 then (some false) else (currency_isCode.l0 k x0 x5 (wrap64 (x6 + 1))))) else (none)) else (none)) else (some ((x0.size : Int) == 3))
def currency_isCode.f (k : Nat) (a0 : ByteArray) : Option (Bool) := currency_isCode.l0 k a0 (a0.size : Int) 0
theorem currency_isCode.mono_l : ∀ k, (∀ y0 y1 y2, LeO (currency_isCode.l0 k y0 y1 y2) (currency_isCode.l0 (k + 1) y0 y1 y2))
 | 0 => fun _ _ _ r h => by simp [currency_isCode.l0] at h
 | k + 1 => by
  have ih0 := currency_isCode.mono_l k
  intro y0 y1 y2
  unfold currency_isCode.l0
  repeat' first
  | (with_reducible exact ih0 _ _ _)
  | (with_reducible exact LeO.refl _)
  | (with_reducible exact LeO.none _)
  | (with_reducible refine LeO.ite ?_ ?_)
  | (with_reducible refine LeO.bind ?_ (fun _ => ?_))
  | exact ih0 _ _ _
  | exact LeO.none _
  | refine LeO.ite ?_ ?_
  | refine LeO.bind ?_ (fun _ => ?_)
theorem currency_isCode.mono : ∀ a0 k, LeO (currency_isCode.f k a0) (currency_isCode.f (k + 1) a0) := by
 intro a0 k
 have ih0 := currency_isCode.mono_l k
 unfold currency_isCode.f
 repeat' first
  | (with_reducible exact ih0 _ _ _)
  | (with_reducible exact LeO.refl _)
  | (with_reducible exact LeO.none _)
  | (with_reducible refine LeO.ite ?_ ?_)
  | (with_reducible refine LeO.bind ?_ (fun _ => ?_))
  | exact ih0 _ _ _
  | exact LeO.none _
  | refine LeO.ite ?_ ?_
  | refine LeO.bind ?_ (fun _ => ?_)
set_option maxHeartbeats 8000000 in
set_option maxRecDepth 100000 in
theorem currency_isCode.calls (k : Nat) (a0 : ByteArray) (r : Bool) (w : World) (h : currency_isCode.f k a0 = some r) :
  Calls Tryd.prog 24 #[.string a0] w fun e w' => e = .returned (.bool r) ∧ Drawn0 w w' := by
 have H : (currency_isCode.l0 k a0 (a0.size : Int) 0) = some r := h
 clear h
 have H' := Aside0.mk H
 clear H
 go_enter Tryd.func24, Tryd.ntmps24
 go_wp2
 go_loopg [6] k (fun kq v6 w' => ∃ (x6_1 : Int), v6 = .int .i64 x6_1 ∧ Aside0 (currency_isCode.l0 kq a0 (a0.size : Int) x6_1 = some r) ∧ Aside0 (kq ≤ k) ∧ Drawn0 w w')
 case atStart => exact ⟨(0), (by first | rfl | (simp; done) | (simp [*]; done)), H', ⟨Nat.le_refl _⟩, by repeat (first | exact Drawn0.refl _ | apply Drawn0.step)⟩
 case round =>
  clear H'
  obtain ⟨x6_1, rfl, HA, HK1, ⟨m1, rfl⟩⟩ := hrel
  cases gk with
  | zero => exact absurd HA.out (by simp [currency_isCode.l0])
  | succ k1 =>
   have H := HA.out
   clear HA
   simp only [currency_isCode.l0] at H
   by_cases c2 : x6_1 < (a0.size : Int)
   rotate_left
   ·rw [if_neg c2] at H
    have c2b0 : decide (x6_1 < (a0.size : Int)) = false := decide_eq_false c2
    clear c2
    obtain rfl := Option.some.inj H
    go_wp2
    go_ret
    exact ⟨by first | rfl | (simp; done) | (simp [*]; done), by repeat (first | exact Drawn0.refl _ | apply Drawn0.step)⟩
   rw [if_pos c2] at H
   have c2b0 : decide (x6_1 < (a0.size : Int)) = true := decide_eq_true c2
   clear c2
   by_cases c3 : 0 ≤ x6_1
   rotate_left
   ·rw [if_neg c3] at H
    exact absurd H (by simp)
   rw [if_pos c3] at H
   have c3b0 : decide (0 ≤ x6_1) = true := decide_eq_true c3
   clear c3
   by_cases c4 : x6_1 < (a0.size : Int)
   rotate_left
   ·rw [if_neg c4] at H
    exact absurd H (by simp)
   rw [if_pos c4] at H
   have c4b0 : decide (x6_1 < (a0.size : Int)) = true := decide_eq_true c4
   clear c4
   by_cases c6 : (bt a0 x6_1) < 65
   ·rw [if_pos c6] at H
    have c6b0 : decide ((bt a0 x6_1) < 65) = true := decide_eq_true c6
    clear c6
    obtain rfl := Option.some.inj H
    have p5 : 0 ≤ (x6_1 : Int) := of_decide_eq_true (by first | (with_reducible assumption) | assumption)
    have q5 : x6_1 < (a0.size : Int) := of_decide_eq_true (by first | (with_reducible assumption) | assumption)
    have hx5 := bt_at a0 x6_1
    replace p5 := eq_true p5
    replace q5 := eq_true q5
    go_wp2
    go_ret
    exact ⟨by first | rfl | (simp; done) | (simp [*]; done), by repeat (first | exact Drawn0.refl _ | apply Drawn0.step)⟩
   rw [if_neg c6] at H
   have c6b0 : decide ((bt a0 x6_1) < 65) = false := decide_eq_false c6
   clear c6
   by_cases c8 : (bt a0 x6_1) > 90
   ·rw [if_pos c8] at H
    have c8b0 : decide (90 < (bt a0 x6_1)) = true := decide_eq_true c8
    clear c8
    obtain rfl := Option.some.inj H
    have p5 : 0 ≤ (x6_1 : Int) := of_decide_eq_true (by first | (with_reducible assumption) | assumption)
    have q5 : x6_1 < (a0.size : Int) := of_decide_eq_true (by first | (with_reducible assumption) | assumption)
    have hx5 := bt_at a0 x6_1
    replace p5 := eq_true p5
    replace q5 := eq_true q5
    have p7 : 0 ≤ (x6_1 : Int) := of_decide_eq_true (by first | (with_reducible assumption) | assumption)
    have q7 : x6_1 < (a0.size : Int) := of_decide_eq_true (by first | (with_reducible assumption) | assumption)
    have hx7 := bt_at a0 x6_1
    replace p7 := eq_true p7
    replace q7 := eq_true q7
    go_wp2
    go_ret
    exact ⟨by first | rfl | (simp; done) | (simp [*]; done), by repeat (first | exact Drawn0.refl _ | apply Drawn0.step)⟩
   rw [if_neg c8] at H
   have c8b0 : decide (90 < (bt a0 x6_1)) = false := decide_eq_false c8
   clear c8
   have H' := Aside0.mk H
   clear H
   have p5 : 0 ≤ (x6_1 : Int) := of_decide_eq_true (by first | (with_reducible assumption) | assumption)
   have q5 : x6_1 < (a0.size : Int) := of_decide_eq_true (by first | (with_reducible assumption) | assumption)
   have hx5 := bt_at a0 x6_1
   replace p5 := eq_true p5
   replace q5 := eq_true q5
   have p7 : 0 ≤ (x6_1 : Int) := of_decide_eq_true (by first | (with_reducible assumption) | assumption)
   have q7 : x6_1 < (a0.size : Int) := of_decide_eq_true (by first | (with_reducible assumption) | assumption)
   have hx7 := bt_at a0 x6_1
   replace p7 := eq_true p7
   replace q7 := eq_true q7
   go_wp2
   go_roundg k1
   case measure => have := HK1.out; omega
   case rel => exact ⟨(wrap64 (x6_1 + 1)), (by first | rfl | (simp; done) | (simp [*]; done)), H', ⟨by have := HK1.out; omega⟩, by repeat (first | exact Drawn0.refl _ | apply Drawn0.step)⟩
end Go.Proofs.YtfnfjmeiaamheaaDoor.PA
namespace Go.Proofs.YtfnfjmeiaamheaaDoor.PA
open Go.RowKit Go.Proofs.YtfnfjmeiaamheaaDoorW.PrintWords Go.Proofs.YtfnfjmeiaamheaaDoorW.PrintLast Go.Proofs.YtfnfjmeiaamheaaDoorW.PrintMore
attribute [local go_sem] max2_int min2_int max_two min_two max_three min_three max_four min_four
def rational_signOf.f (a0_0 : Bool) (a0_1 : ByteArray) (a0_2 : ByteArray) : Option (Int) := if a0_1.toList = ([] : List UInt8) then (some 0) else (if a0_0 = true then (some (-1)) else (some 1))
set_option maxHeartbeats 8000000 in
set_option maxRecDepth 100000 in
theorem rational_signOf.calls (a0_0 : Bool) (a0_1 : ByteArray) (a0_2 : ByteArray) (r : Int) (w : World) (h : rational_signOf.f a0_0 a0_1 a0_2 = some r) :
  Calls Tryd.prog 41 #[.agg #[.bool a0_0, .string a0_1, .string a0_2]] w fun e w' => e = .returned (.int .i64 r) ∧ Below w.heap.size w w' := by
 have hu30 := Tryd.underlying30
 have HB := Aside0.mk (Below.refl w.heap.size w)
 have H : (if a0_1.toList = ([] : List UInt8) then (some 0) else (if a0_0 = true then (some (-1)) else (some 1))) = some r := h
 clear h
 by_cases c2 : a0_1.toList = ([] : List UInt8)
 ·rw [if_pos c2] at H
  have c2b0 : (a0_1.toList == ([] : List UInt8)) = true := beq_iff_eq.mpr c2
  have c2b1 : (a0_1.toList != ([] : List UInt8)) = false := bne_eq_false_iff_eq.mpr c2
  clear c2
  obtain rfl := Option.some.inj H
  go_enter Tryd.func41, Tryd.ntmps41
  go_wp2_with (first | ((with_reducible refine gate_dst (N := 1) rfl ?_); refine box_event ?hg (N := 1) ?hd (cs := #[.bool a0_0, .string a0_1, .string a0_2]) (t := 30) ?hr ?_; (case hd => rfl); (case hg => rfl); (case hr => first | (go_simp; done) | (go_simp; rfl)); intro gb105 hg w3 hbox hb; have n0_ := Aside0.mk (below_step (by repeat (first | (with_reducible first | exact HB.out | apply below_alloc | apply pw_below_drewN | apply below_drew1) | exact HB.out)) hb); have n1_ := Aside0.mk (hbox); have n2_ := Aside0.mk ((by rw [hg]; exact (below_size (by repeat (first | (with_reducible first | exact HB.out | apply below_alloc | apply pw_below_drewN | apply below_drew1) | exact HB.out))) : w.heap.size ≤ gb105)); have n3_ := Aside0.mk ((by rw [hg]; exact (below_size (by repeat (first | (with_reducible first | exact HB.out | apply below_alloc | apply pw_below_drewN | apply below_drew1) | exact HB.out))) : w.heap.size ≤ gb105)); clear HB; have HB := n0_; have BK105 := n1_; have GW105 := n2_; have GE105 := n3_; clear n0_ n1_ n2_ n3_; clear hb hbox hg; have hcz4_0 : w3.cell? ⟨gb105, 0, none⟩ = some (.bool a0_0) := (blk_cell BK105.out 0).trans rfl; have hcz4_1 : w3.cell? ⟨gb105, 1, none⟩ = some (.string a0_1) := (blk_cell BK105.out 1).trans rfl; have hcz4_2 : w3.cell? ⟨gb105, 2, none⟩ = some (.string a0_2) := (blk_cell BK105.out 2).trans rfl; have hfz4_0 := blk_frozen BK105.out 0; have hfz4_1 := blk_frozen BK105.out 1; have hfz4_2 := blk_frozen BK105.out 2))
  go_ret
  exact ⟨by first | rfl | (simp [errW_none, errW_some] <;> rfl) | (simp [*, errW_none, errW_some] <;> rfl), by repeat (first | (with_reducible first | exact HB.out | apply below_alloc | apply pw_below_drewN | apply below_drew1 | refine below_set ?_ GE105.out) | exact HB.out)⟩
 rw [if_neg c2] at H
 have c2b0 : (a0_1.toList == ([] : List UInt8)) = false := beq_eq_false_iff_ne.mpr c2
 have c2b1 : (a0_1.toList != ([] : List UInt8)) = true := bne_iff_ne.mpr c2
 by_cases c5 : a0_0 = true
 ·subst c5
  have H1 : (some (-1)) = some r := by rw [if_pos rfl] at H; exact H
  clear H
  have H := H1
  clear H1
  obtain rfl := Option.some.inj H
  go_enter Tryd.func41, Tryd.ntmps41
  go_wp2_with (first | ((with_reducible refine gate_dst (N := 1) rfl ?_); refine box_event ?hg (N := 1) ?hd (cs := #[.bool true, .string a0_1, .string a0_2]) (t := 30) ?hr ?_; (case hd => rfl); (case hg => rfl); (case hr => first | (go_simp; done) | (go_simp; rfl)); intro gb105 hg w6 hbox hb; have n0_ := Aside0.mk (below_step (by repeat (first | (with_reducible first | exact HB.out | apply below_alloc | apply pw_below_drewN | apply below_drew1) | exact HB.out)) hb); have n1_ := Aside0.mk (hbox); have n2_ := Aside0.mk ((by rw [hg]; exact (below_size (by repeat (first | (with_reducible first | exact HB.out | apply below_alloc | apply pw_below_drewN | apply below_drew1) | exact HB.out))) : w.heap.size ≤ gb105)); have n3_ := Aside0.mk ((by rw [hg]; exact (below_size (by repeat (first | (with_reducible first | exact HB.out | apply below_alloc | apply pw_below_drewN | apply below_drew1) | exact HB.out))) : w.heap.size ≤ gb105)); clear HB; have HB := n0_; have BK105 := n1_; have GW105 := n2_; have GE105 := n3_; clear n0_ n1_ n2_ n3_; clear hb hbox hg; have hcz7_0 : w6.cell? ⟨gb105, 0, none⟩ = some (.bool true) := (blk_cell BK105.out 0).trans rfl; have hcz7_1 : w6.cell? ⟨gb105, 1, none⟩ = some (.string a0_1) := (blk_cell BK105.out 1).trans rfl; have hcz7_2 : w6.cell? ⟨gb105, 2, none⟩ = some (.string a0_2) := (blk_cell BK105.out 2).trans rfl; have hfz7_0 := blk_frozen BK105.out 0; have hfz7_1 := blk_frozen BK105.out 1; have hfz7_2 := blk_frozen BK105.out 2))
  go_ret
  exact ⟨by first | rfl | (simp [errW_none, errW_some] <;> rfl) | (simp [*, errW_none, errW_some] <;> rfl), by repeat (first | (with_reducible first | exact HB.out | apply below_alloc | apply pw_below_drewN | apply below_drew1 | refine below_set ?_ GE105.out) | exact HB.out)⟩
 replace c5 := Bool.eq_false_iff.mpr c5
 subst c5
 have H1 : (some 1) = some r := by rw [if_neg (show ¬ (false = true) by decide)] at H; exact H
 clear H
 have H := H1
 clear H1
 obtain rfl := Option.some.inj H
 go_enter Tryd.func41, Tryd.ntmps41
 go_wp2_with (first | ((with_reducible refine gate_dst (N := 1) rfl ?_); refine box_event ?hg (N := 1) ?hd (cs := #[.bool false, .string a0_1, .string a0_2]) (t := 30) ?hr ?_; (case hd => rfl); (case hg => rfl); (case hr => first | (go_simp; done) | (go_simp; rfl)); intro gb105 hg w8 hbox hb; have n0_ := Aside0.mk (below_step (by repeat (first | (with_reducible first | exact HB.out | apply below_alloc | apply pw_below_drewN | apply below_drew1) | exact HB.out)) hb); have n1_ := Aside0.mk (hbox); have n2_ := Aside0.mk ((by rw [hg]; exact (below_size (by repeat (first | (with_reducible first | exact HB.out | apply below_alloc | apply pw_below_drewN | apply below_drew1) | exact HB.out))) : w.heap.size ≤ gb105)); have n3_ := Aside0.mk ((by rw [hg]; exact (below_size (by repeat (first | (with_reducible first | exact HB.out | apply below_alloc | apply pw_below_drewN | apply below_drew1) | exact HB.out))) : w.heap.size ≤ gb105)); clear HB; have HB := n0_; have BK105 := n1_; have GW105 := n2_; have GE105 := n3_; clear n0_ n1_ n2_ n3_; clear hb hbox hg; have hcz9_0 : w8.cell? ⟨gb105, 0, none⟩ = some (.bool false) := (blk_cell BK105.out 0).trans rfl; have hcz9_1 : w8.cell? ⟨gb105, 1, none⟩ = some (.string a0_1) := (blk_cell BK105.out 1).trans rfl; have hcz9_2 : w8.cell? ⟨gb105, 2, none⟩ = some (.string a0_2) := (blk_cell BK105.out 2).trans rfl; have hfz9_0 := blk_frozen BK105.out 0; have hfz9_1 := blk_frozen BK105.out 1; have hfz9_2 := blk_frozen BK105.out 2))
 go_ret
 exact ⟨by first | rfl | (simp [errW_none, errW_some] <;> rfl) | (simp [*, errW_none, errW_some] <;> rfl), by repeat (first | (with_reducible first | exact HB.out | apply below_alloc | apply pw_below_drewN | apply below_drew1 | refine below_set ?_ GE105.out) | exact HB.out)⟩
end Go.Proofs.YtfnfjmeiaamheaaDoor.PA
namespace Go.Proofs
open Go.Shelf
def Tryd.lays161_ren : Go.Shelf.Ren := ⟨fun | 161 => 61 | 231 => 72 | 227 => 73 | 233 => 74 | 235 => 75 | 228 => 86 | 197 => 87 | 151 => 88 | 260 => 94 | 152 => 95 | 137 => 96 | 119 => 97 | 224 => 98 | 225 => 99 | 217 => 100 | 266 => 101 | n => n, fun | 9 => 9 | 4 => 4 | 3 => 3 | 5 => 5 | 117 => 97 | 116 => 96 | 0 => 0 | 124 => 100 | 105 => 114 | 21 => 21 | 119 => 122 | 46 => 89 | 139 => 125 | 138 => 124 | n => n, fun | 3 => 0 | 4 => 1 | n => n⟩
theorem Tryd.lays161 : Go.Proofs.Lays.n161 Tryd.prog Tryd.lays161_ren := {
 mixed := by kernel_rfl
 f119 := Tryd.func97.trans (congrArg some (by kernel_rfl))
 f137 := Tryd.func96.trans (congrArg some (by kernel_rfl))
 f151 := Tryd.func88.trans (congrArg some (by kernel_rfl))
 f152 := Tryd.func95.trans (congrArg some (by kernel_rfl))
 f161 := Tryd.func61.trans (congrArg some (by kernel_rfl))
 f197 := Tryd.func87.trans (congrArg some (by kernel_rfl))
 f217 := Tryd.func100.trans (congrArg some (by kernel_rfl))
 f224 := Tryd.func98.trans (congrArg some (by kernel_rfl))
 f225 := Tryd.func99.trans (congrArg some (by kernel_rfl))
 f227 := Tryd.func73.trans (congrArg some (by kernel_rfl))
 f228 := Tryd.func86.trans (congrArg some (by kernel_rfl))
 f231 := Tryd.func72.trans (congrArg some (by kernel_rfl))
 f233 := Tryd.func74.trans (congrArg some (by kernel_rfl))
 f235 := Tryd.func75.trans (congrArg some (by kernel_rfl))
 f260 := Tryd.func94.trans (congrArg some (by kernel_rfl))
 f266 := Tryd.func101.trans (congrArg some (by kernel_rfl))
 t0 := Tryd.underlying0
 a0 := Tryd.isAgg0
 z0 := Tryd.sizeOf0
 v0 := Tryd.zeroValue0
 t3 := Tryd.underlying3
 a3 := Tryd.isAgg3
 z3 := Tryd.sizeOf3
 v3 := Tryd.zeroValue3
 t4 := Tryd.underlying4
 a4 := Tryd.isAgg4
 z4 := Tryd.sizeOf4
 v4 := Tryd.zeroValue4
 t5 := Tryd.underlying5
 a5 := Tryd.isAgg5
 z5 := Tryd.sizeOf5
 v5 := Tryd.zeroValue5
 t9 := Tryd.underlying9
 a9 := Tryd.isAgg9
 z9 := Tryd.sizeOf9
 v9 := Tryd.zeroValue9
 t21 := Tryd.underlying21
 a21 := Tryd.isAgg21
 z21 := Tryd.sizeOf21
 v21 := Tryd.zeroValue21
 t46 := Tryd.underlying89
 a46 := Tryd.isAgg89
 z46 := Tryd.sizeOf89
 v46 := Tryd.zeroValue89
 t105 := Tryd.underlying114
 a105 := Tryd.isAgg114
 z105 := Tryd.sizeOf114
 v105 := Tryd.zeroValue114
 t116 := Tryd.underlying96
 a116 := Tryd.isAgg96
 z116 := Tryd.sizeOf96
 t117 := Tryd.underlying97
 a117 := Tryd.isAgg97
 z117 := Tryd.sizeOf97
 v117 := Tryd.zeroValue97
 t119 := Tryd.underlying122
 a119 := Tryd.isAgg122
 z119 := Tryd.sizeOf122
 t124 := Tryd.underlying100
 a124 := Tryd.isAgg100
 z124 := Tryd.sizeOf100
 v124 := Tryd.zeroValue100
 t138 := Tryd.underlying124
 a138 := Tryd.isAgg124
 z138 := Tryd.sizeOf124
 v138 := Tryd.zeroValue124
 t139 := Tryd.underlying125
 a139 := Tryd.isAgg125
 z139 := Tryd.sizeOf125
 v139 := Tryd.zeroValue125
 g3 := by kernel_rfl
 g4 := by kernel_rfl }
open Go.RowKit in
theorem Tryd.strings_TrimLeft_one (s : ByteArray) (c : UInt8) (hc : c.toNat < 128) (w : World) :
 Calls Tryd.prog 61 #[.string s, .string ⟨#[c]⟩] w fun e w' => e = .returned (.string ⟨(Lib.trimLeftB s.data.toList c).toArray⟩) ∧ w' = w := Any.strings_TrimLeft_one Tryd.lays161 s c hc w
def Tryd.lays133_ren : Go.Shelf.Ren := ⟨fun | 133 => 79 | 128 => 90 | n => n, fun | 51 => 88 | 3 => 3 | 4 => 4 | 46 => 89 | 5 => 5 | 9 => 9 | n => n, fun | n => n⟩
theorem Tryd.lays133 : Go.Proofs.Lays.n133 Tryd.prog Tryd.lays133_ren := {
 mixed := by kernel_rfl
 f128 := Tryd.func90.trans (congrArg some (by kernel_rfl))
 f133 := Tryd.func79.trans (congrArg some (by kernel_rfl))
 t3 := Tryd.underlying3
 a3 := Tryd.isAgg3
 z3 := Tryd.sizeOf3
 v3 := Tryd.zeroValue3
 t4 := Tryd.underlying4
 a4 := Tryd.isAgg4
 z4 := Tryd.sizeOf4
 v4 := Tryd.zeroValue4
 t5 := Tryd.underlying5
 a5 := Tryd.isAgg5
 z5 := Tryd.sizeOf5
 v5 := Tryd.zeroValue5
 t9 := Tryd.underlying9
 a9 := Tryd.isAgg9
 z9 := Tryd.sizeOf9
 v9 := Tryd.zeroValue9
 t46 := Tryd.underlying89
 a46 := Tryd.isAgg89
 z46 := Tryd.sizeOf89
 v46 := Tryd.zeroValue89
 t51 := Tryd.underlying88
 a51 := Tryd.isAgg88
 z51 := Tryd.sizeOf88
 v51 := Tryd.zeroValue88 }
theorem Tryd.bits_LeadingZeros32 (x : Int) (w : World) (h0 : 0 ≤ x) (h1 : x ≤ 4294967295) :
 Calls Tryd.prog 79 #[.int .u32 x] w fun e w' => e = .returned (.int .i64 (32 - (Lib.bitLen x.toNat : Int))) ∧ w' = w := Any.bits_LeadingZeros32 Tryd.lays133 x w h0 h1
end Go.Proofs
namespace Go.Proofs.YtfnfjmeiaamheaaDoor.PA
open Go.RowKit Go.Proofs.YtfnfjmeiaamheaaDoorW.PrintWords Go.Proofs.YtfnfjmeiaamheaaDoorW.PrintLast Go.Proofs.YtfnfjmeiaamheaaDoorW.PrintMore
def strings_TrimLeft.f (a0 : ByteArray) (a1 : ByteArray) : Option (ByteArray) :=
 if a1.data.toList = [0] then some ⟨(a0.data.toList.dropWhile fun c => c == 0).toArray⟩ else none
theorem strings_TrimLeft.calls (a0 : ByteArray) (a1 : ByteArray) (r : ByteArray) (w : World) (h : strings_TrimLeft.f a0 a1 = some r) :
  Calls Tryd.prog 61 #[.string a0, .string a1] w fun e w' => e = .returned (.string r) ∧ Drawn0 w w' := by
 unfold strings_TrimLeft.f at h
 split at h
 ·rename_i hc
  injection h with h
  subst h
  obtain rfl : a1 = ⟨#[0]⟩ := by
   apply ByteArray.ext
   apply Array.ext'
   simpa using hc
  refine (Tryd.strings_TrimLeft_one a0 0 (by decide) w).mono ?_
  rintro e w' ⟨rfl, rfl⟩
  exact ⟨rfl, Drawn0.refl _⟩
 cases h
end Go.Proofs.YtfnfjmeiaamheaaDoor.PA
namespace Go.Proofs.YtfnfjmeiaamheaaDoor.PA
open Go.RowKit Go.Proofs.YtfnfjmeiaamheaaDoorW.PrintWords Go.Proofs.YtfnfjmeiaamheaaDoorW.PrintLast Go.Proofs.YtfnfjmeiaamheaaDoorW.PrintMore
attribute [local go_sem] max2_int min2_int max_two min_two max_three min_three max_four min_four
def natural_Normalize.f (a0 : ByteArray) : Option (ByteArray) := (strings_TrimLeft.f a0 (⟨#[0]⟩ : ByteArray)).bind fun t106 => (some t106)
set_option maxHeartbeats 8000000 in
set_option maxRecDepth 100000 in
theorem natural_Normalize.calls (a0 : ByteArray) (r : ByteArray) (w : World) (h : natural_Normalize.f a0 = some r) :
 Calls Tryd.prog 44 #[.string a0] w fun e w' => e = .returned (.string r) ∧ Drawn0 w w' := by
 have H : ((strings_TrimLeft.f a0 (⟨#[0]⟩ : ByteArray)).bind fun t106 => (some t106)) = some r := h
 clear h
 replace H := Option.bind_eq_some_iff.mp H
 obtain ⟨t106, A20, H⟩ := H
 replace H : (some t106) = some r := H
 have A2 := Aside0.mk A20
 clear A20
 obtain rfl := Option.some.inj H
 go_enter Tryd.func44, Tryd.ntmps44
 go_wp2_with (first | ((with_reducible refine gate_callee (f := 61) rfl ?_); refine goesL_ (some 4) rfl rfl Tryd.func61 (by kernel_rfl) rfl #[.string a0, .string (⟨#[0]⟩ : ByteArray)] rfl (by (try simp only [List.map_toArray, List.map_cons, List.map_nil]); first | done | rfl | (simp only [List.length_drop, List.length_take]; rfl)) ?_; (with_reducible refine (strings_TrimLeft.calls a0 (⟨#[0]⟩ : ByteArray) t106 _ A2.out).mono ?_); rintro e w' ⟨rfl, ⟨nd, rfl⟩⟩; refine ⟨_, rfl, ?_⟩))
 go_ret
 exact ⟨by first | rfl | (simp; done) | (simp [*]; done), by repeat (first | exact Drawn0.refl _ | apply Drawn0.step)⟩
end Go.Proofs.YtfnfjmeiaamheaaDoor.PA
namespace Go.Proofs.YtfnfjmeiaamheaaDoor.PA
open Go.RowKit Go.Proofs.YtfnfjmeiaamheaaDoorW.PrintWords Go.Proofs.YtfnfjmeiaamheaaDoorW.PrintLast Go.Proofs.YtfnfjmeiaamheaaDoorW.PrintMore
attribute [local go_sem] max2_int min2_int max_two min_two max_three min_three max_four min_four
def natural_limbs_trim.l0 : Nat → List Int → Int → Option (List Int)
 | 0, _, _ => none
 | k + 1, x0, x3 => if x3 > 0 then (if 0 ≤ (wrap64 (x3 - 1)) then (if (wrap64 (x3 - 1)) < (x0.length : Int) then (if (rd x0 (wrap64 (x3 - 1))) = 0 then (natural_limbs_trim.l0 k x0 (wrap64 (x3 - 1))) else (if 0 ≤ x3 then (if x3 ≤ (x0.length : Int) then (some (x0.take (x3 : Int).toNat)) else (none)) else (none))) else (none)) else (none)) else (if 0 ≤ x3 then (if x3 ≤ (x0.length : Int) then (some (x0.take (x3 : Int).toNat)) else (none)) else (none))
def natural_limbs_trim.f (k : Nat) (l0 : List Int) : Option (List Int) := natural_limbs_trim.l0 k l0 (l0.length : Int)
theorem natural_limbs_trim.mono_l : ∀ k, (∀ y0 y1, LeO (natural_limbs_trim.l0 k y0 y1) (natural_limbs_trim.l0 (k + 1) y0 y1))
 | 0 => fun _ _ r h => by simp [natural_limbs_trim.l0] at h
 | k + 1 => by
  have ih0 := natural_limbs_trim.mono_l k
  intro y0 y1
  unfold natural_limbs_trim.l0
  repeat' first
  | (with_reducible exact ih0 _ _)
  | (with_reducible exact LeO.refl _)
  | (with_reducible exact LeO.none _)
  | (with_reducible refine LeO.ite ?_ ?_)
  | (with_reducible refine LeO.bind ?_ (fun _ => ?_))
  | exact ih0 _ _
  | exact LeO.none _
  | refine LeO.ite ?_ ?_
  | refine LeO.bind ?_ (fun _ => ?_)
theorem natural_limbs_trim.mono : ∀ a0 k, LeO (natural_limbs_trim.f k a0) (natural_limbs_trim.f (k + 1) a0) := by
 intro a0 k
 have ih0 := natural_limbs_trim.mono_l k
 unfold natural_limbs_trim.f
 repeat' first
  | (with_reducible exact ih0 _ _)
  | (with_reducible exact LeO.refl _)
  | (with_reducible exact LeO.none _)
  | (with_reducible refine LeO.ite ?_ ?_)
  | (with_reducible refine LeO.bind ?_ (fun _ => ?_))
  | exact ih0 _ _
  | exact LeO.none _
  | refine LeO.ite ?_ ?_
  | refine LeO.bind ?_ (fun _ => ?_)
set_option maxHeartbeats 8000000 in
set_option maxRecDepth 100000 in
theorem natural_limbs_trim.calls (k : Nat) (P0_ : Nat → Prop) (A0 : Option Addr) (c0 : Nat) (l0 : List Int) (r : List Int) (w : World) (hs0 : Kd.V (Kd.int .u32) 88 w w.heap.size (fun k_ => P0_ k_) (.slice A0 l0.length c0) l0) (h : natural_limbs_trim.f k l0 = some r) :
  Calls Tryd.prog 76 #[.slice A0 l0.length c0] w fun e w' => ∃ v0_ : Value, e = .returned (v0_) ∧ Kd.V (Kd.int .u32) 88 w' w.heap.size (fun k_ => (P0_ k_ ∨ w.heap.size ≤ k_)) v0_ r ∧ Below w.heap.size w w' := by
 have HO0 := Aside0.mk (show Kd.V (Kd.int .u32) 88 w w.heap.size (fun k_ => (P0_ k_ ∨ w.heap.size ≤ k_)) (.slice A0 l0.length c0) l0 from Kd.V_mono hs0 (fun k_ hk => .inl hk))
 have HB := Aside0.mk (Below.refl w.heap.size w)
 have H : (natural_limbs_trim.l0 k l0 (l0.length : Int)) = some r := h
 clear h
 have H' := Aside0.mk H
 clear H
 go_enter Tryd.func76, Tryd.ntmps76
 go_wp2
 go_loopg [3] k (fun kq v3 w' => ∃ (x3_1 : Int), v3 = .int .i64 x3_1 ∧ Aside0 (natural_limbs_trim.l0 kq l0 x3_1 = some r) ∧ Aside0 (kq ≤ k) ∧ Aside0 (Kd.V (Kd.int .u32) 88 w' w.heap.size (fun k_ => (P0_ k_ ∨ w.heap.size ≤ k_)) (.slice A0 l0.length c0) l0) ∧ Aside0 (Below w.heap.size w w'))
 case atStart => exact ⟨((l0.length : Int)), (by first | rfl | (simp; done) | (simp [*]; done)), H', ⟨Nat.le_refl _⟩, ⟨by (with_reducible repeat (first | apply Kd.V_alloc | apply Kd.V_drewN | apply Kd.V_drew)); exact HO0.out⟩, ⟨by repeat (first | (with_reducible first | exact HB.out | apply below_alloc | apply pw_below_drewN | apply below_drew1) | exact HB.out)⟩⟩
 case round =>
  clear H'
  obtain ⟨x3_1, rfl, HA, HK1, HO_0, HB⟩ := hrel
  cases gk with
  | zero => exact absurd HA.out (by simp [natural_limbs_trim.l0])
  | succ k1 =>
   have H := HA.out
   clear HA
   simp only [natural_limbs_trim.l0] at H
   by_cases c2 : x3_1 > 0
   rotate_left
   ·rw [if_neg c2] at H
    have c2b0 : decide (0 < x3_1) = false := decide_eq_false c2
    clear c2
    by_cases c10 : 0 ≤ x3_1
    rotate_left
    ·rw [if_neg c10] at H
     exact absurd H (by simp)
    rw [if_pos c10] at H
    have c10b0 := eq_true c10
    have c10b1 : decide (0 ≤ x3_1) = true := decide_eq_true c10
    clear c10
    by_cases c11 : x3_1 ≤ (l0.length : Int)
    rotate_left
    ·rw [if_neg c11] at H
     exact absurd H (by simp)
    rw [if_pos c11] at H
    have c11b0 := eq_true c11
    have c11b1 : decide (x3_1 ≤ (l0.length : Int)) = true := decide_eq_true c11
    clear c11
    obtain ⟨y113, hy113⟩ : ∃ y_ : List Int, y_ = (l0.take (x3_1 : Int).toNat) := ⟨_, rfl⟩
    replace H : (some y113) = some r := by first | (rw [hy113]; with_reducible exact H) | (have H2_ := (Option.bind_some _ _).symm.trans H; rw [hy113]; with_reducible exact H2_) | (have H2_ := (Option.bind_some _ _).symm.trans H; with_reducible exact H2_) | with_reducible exact H | (rw [hy113]; exact H) | exact H
    have Ny113 := Aside0.mk hy113
    clear hy113
    obtain rfl := Option.some.inj H
    have q12 : (x3_1 : Int) ≤ ((l0.length : Int) : Int) := of_decide_eq_true (by first | (with_reducible assumption) | assumption)
    obtain ⟨i012, hi012, _, hsz12, _⟩ := info_parts info88
    have hroom12 : l0.length ≤ c0 := (Kd.V_reads' HO_0.out).2.1
    have hC12 : Kd.F (Kd.int .u32) _ _ A0 l0.length l0 := (Kd.V_at (base := w.heap.size) HO_0.out).2.2
    have hcut12 := cut_to (P := Tryd.prog) 83 88 .i64 Tryd.underlying83 hi012 A0 l0.length c0 x3_1 (of_decide_eq_true (by first | (with_reducible assumption) | assumption)) q12 hroom12
    have hr12 := Kd.F_take (m := (x3_1 : Int).toNat) hC12 (by omega)
    have hy12 : y113.length = (x3_1 : Int).toNat := (by rw [Ny113.out, List.length_take]; omega)
    rw [← Ny113.out] at hr12
    rw [← hy12] at hcut12
    have HO117 := Aside0.mk (show Kd.V (Kd.int .u32) 88 _ w.heap.size _ (.slice A0 y113.length c0) y113 from Kd.V_mk (by omega) hr12)
    have HC117 := Aside0.mk (show y113.length ≤ c0 from by omega)
    clear hr12 hC12 hroom12 hi012 hsz12
    have KY12 := Aside0.mk hy12
    clear hy12
    replace q12 := eq_true q12
    go_wp2
    go_ret
    exact ⟨_, by first | rfl | (simp [errW_none, errW_some] <;> rfl) | (simp [*, errW_none, errW_some] <;> rfl), by (with_reducible repeat (first | apply Kd.V_alloc | apply Kd.V_drewN | apply Kd.V_drew)); exact HO117.out, by repeat (first | (with_reducible first | exact HB.out | apply below_alloc | apply pw_below_drewN | apply below_drew1) | exact HB.out)⟩
   rw [if_pos c2] at H
   have c2b0 : decide (0 < x3_1) = true := decide_eq_true c2
   clear c2
   obtain ⟨ji3, hji3⟩ : ∃ j_ : Int, (wrap64 (x3_1 - 1)) = j_ := ⟨_, rfl⟩
   replace H : (if 0 ≤ (ji3) then (if (ji3) < (l0.length : Int) then (if (rd l0 (ji3)) = 0 then (natural_limbs_trim.l0 k1 l0 ji3) else (if 0 ≤ x3_1 then (if x3_1 ≤ (l0.length : Int) then (some (l0.take (x3_1 : Int).toNat)) else (none)) else (none))) else (none)) else (none)) = some r := by first | (rw [hji3] at H; exact H) | (simp only [hji3] at H ⊢; exact H)
   have hji3w : (IntKind.i64.wrap (x3_1 - 1)) = ji3 := (i64_w _).trans hji3
   by_cases c4 : 0 ≤ (ji3)
   rotate_left
   ·rw [if_neg c4] at H
    exact absurd H (by simp)
   rw [if_pos c4] at H
   have c4b0 : decide (0 ≤ (ji3)) = true := decide_eq_true c4
   clear c4
   by_cases c5 : (ji3) < (l0.length : Int)
   rotate_left
   ·rw [if_neg c5] at H
    exact absurd H (by simp)
   rw [if_pos c5] at H
   have c5b0 : decide ((ji3) < (l0.length : Int)) = true := decide_eq_true c5
   clear c5
   by_cases c6 : (rd l0 (ji3)) = 0
   ·rw [if_pos c6] at H
    have c6b0 : ((rd l0 (ji3)) == 0) = true := beq_iff_eq.mpr c6
    have c6b1 : ((rd l0 (ji3)) != 0) = false := bne_eq_false_iff_eq.mpr c6
    clear c6
    have H' := Aside0.mk H
    clear H
    have p107 : 0 ≤ ((ji3) : Int) := of_decide_eq_true (by first | (with_reducible assumption) | assumption)
    have q107 : (ji3) < (l0.length : Int) := of_decide_eq_true (by first | (with_reducible assumption) | assumption)
    obtain ⟨ad107, e107, hx107_0⟩ := Kd.at_int (Kd.V_reads' HO_0.out).2.2 (ji3) p107 q107
    cases e107
    replace p107 := eq_true p107
    replace q107 := eq_true q107
    go_wp2
    go_roundg k1
    case measure => have := HK1.out; omega
    case rel => exact ⟨(ji3), (by first | rfl | (simp; done) | (simp only [← hji3] <;> (first | rfl | simp)) | (simp [*]; done)), H', ⟨by have := HK1.out; omega⟩, ⟨by (with_reducible repeat (first | apply Kd.V_alloc | apply Kd.V_drewN | apply Kd.V_drew)); exact HO_0.out⟩, ⟨by repeat (first | (with_reducible first | exact HB.out | apply below_alloc | apply pw_below_drewN | apply below_drew1) | exact HB.out)⟩⟩
   rw [if_neg c6] at H
   have c6b0 : ((rd l0 (ji3)) == 0) = false := beq_eq_false_iff_ne.mpr c6
   have c6b1 : ((rd l0 (ji3)) != 0) = true := bne_iff_ne.mpr c6
   by_cases c7 : 0 ≤ x3_1
   rotate_left
   ·rw [if_neg c7] at H
    exact absurd H (by simp)
   rw [if_pos c7] at H
   have c7b0 := eq_true c7
   have c7b1 : decide (0 ≤ x3_1) = true := decide_eq_true c7
   clear c7
   by_cases c8 : x3_1 ≤ (l0.length : Int)
   rotate_left
   ·rw [if_neg c8] at H
    exact absurd H (by simp)
   rw [if_pos c8] at H
   have c8b0 := eq_true c8
   have c8b1 : decide (x3_1 ≤ (l0.length : Int)) = true := decide_eq_true c8
   clear c8
   obtain ⟨y108, hy108⟩ : ∃ y_ : List Int, y_ = (l0.take (x3_1 : Int).toNat) := ⟨_, rfl⟩
   replace H : (some y108) = some r := by first | (rw [hy108]; with_reducible exact H) | (have H2_ := (Option.bind_some _ _).symm.trans H; rw [hy108]; with_reducible exact H2_) | (have H2_ := (Option.bind_some _ _).symm.trans H; with_reducible exact H2_) | with_reducible exact H | (rw [hy108]; exact H) | exact H
   have Ny108 := Aside0.mk hy108
   clear hy108
   obtain rfl := Option.some.inj H
   have p107 : 0 ≤ ((ji3) : Int) := of_decide_eq_true (by first | (with_reducible assumption) | assumption)
   have q107 : (ji3) < (l0.length : Int) := of_decide_eq_true (by first | (with_reducible assumption) | assumption)
   obtain ⟨ad107, e107, hx107_0⟩ := Kd.at_int (Kd.V_reads' HO_0.out).2.2 (ji3) p107 q107
   cases e107
   replace p107 := eq_true p107
   replace q107 := eq_true q107
   have q9 : (x3_1 : Int) ≤ ((l0.length : Int) : Int) := of_decide_eq_true (by first | (with_reducible assumption) | assumption)
   obtain ⟨i09, hi09, _, hsz9, _⟩ := info_parts info88
   have hroom9 : l0.length ≤ c0 := (Kd.V_reads' HO_0.out).2.1
   have hC9 : Kd.F (Kd.int .u32) _ _ (some ad107) l0.length l0 := (Kd.V_at (base := w.heap.size) HO_0.out).2.2
   have hcut9 := cut_to (P := Tryd.prog) 83 88 .i64 Tryd.underlying83 hi09 (some ad107) l0.length c0 x3_1 (of_decide_eq_true (by first | (with_reducible assumption) | assumption)) q9 hroom9
   have hr9 := Kd.F_take (m := (x3_1 : Int).toNat) hC9 (by omega)
   have hy9 : y108.length = (x3_1 : Int).toNat := (by rw [Ny108.out, List.length_take]; omega)
   rw [← Ny108.out] at hr9
   rw [← hy9] at hcut9
   have HO112 := Aside0.mk (show Kd.V (Kd.int .u32) 88 _ w.heap.size _ (.slice (some ad107) y108.length c0) y108 from Kd.V_mk (by omega) hr9)
   have HC112 := Aside0.mk (show y108.length ≤ c0 from by omega)
   clear hr9 hC9 hroom9 hi09 hsz9
   have KY9 := Aside0.mk hy9
   clear hy9
   replace q9 := eq_true q9
   go_wp2
   go_ret
   exact ⟨_, by first | rfl | (simp [errW_none, errW_some] <;> rfl) | (simp only [← hji3]; first | rfl | (simp [errW_none, errW_some] <;> rfl)) | (simp [*, errW_none, errW_some] <;> rfl), by (with_reducible repeat (first | apply Kd.V_alloc | apply Kd.V_drewN | apply Kd.V_drew)); exact HO112.out, by repeat (first | (with_reducible first | exact HB.out | apply below_alloc | apply pw_below_drewN | apply below_drew1) | exact HB.out)⟩
end Go.Proofs.YtfnfjmeiaamheaaDoor.PA
namespace Go.Proofs.YtfnfjmeiaamheaaDoor.PA
open Go.RowKit Go.Proofs.YtfnfjmeiaamheaaDoorW.PrintWords Go.Proofs.YtfnfjmeiaamheaaDoorW.PrintLast Go.Proofs.YtfnfjmeiaamheaaDoorW.PrintMore
attribute [local go_sem] max2_int min2_int max_two min_two max_three min_three max_four min_four
def natural_parse.l0 : Nat → ByteArray → List Int → Int → Int → Option (List Int)
 | 0, _, _, _, _ => none
 | k + 1, x0, x3, x12, x13 => if x13 < x12 then (if 0 ≤ (wrap64 (Int.tdiv x13 4)) then (if (wrap64 (Int.tdiv x13 4)) < (x3.length : Int) then (if 0 ≤ (wrap64 ((wrap64 ((x0.size : Int) - 1)) - x13)) then (if (wrap64 ((wrap64 ((x0.size : Int) - 1)) - x13)) < (x0.size : Int) then (if 0 ≤ (wrap64 (8 * (Int.tmod x13 4))) then (natural_parse.l0 k x0 (x3.set ((wrap64 (Int.tdiv x13 4)) : Int).toNat (Go.bits .or .u32 (rd x3 (wrap64 (Int.tdiv x13 4))) (shl .u32 ((bt x0 (wrap64 ((wrap64 ((x0.size : Int) - 1)) - x13))) % 4294967296) (wrap64 (8 * (Int.tmod x13 4)))))) x12 (wrap64 (x13 + 1))) else (none)) else (none)) else (none)) else (none)) else (none)) else ((natural_limbs_trim.f k x3).bind fun t123 => (some t123))
def natural_parse.f (k : Nat) (a0 : ByteArray) : Option (List Int) := if 0 ≤ (wrap64 (Int.tdiv (wrap64 ((wrap64 ((a0.size : Int) + 4)) - 1)) 4)) then (if (wrap64 (Int.tdiv (wrap64 ((wrap64 ((a0.size : Int) + 4)) - 1)) 4) : Int).toNat ≤ 70368744177664 then (natural_parse.l0 k a0 (List.replicate (wrap64 (Int.tdiv (wrap64 ((wrap64 ((a0.size : Int) + 4)) - 1)) 4) : Int).toNat 0) (a0.size : Int) 0) else (none)) else (none)
theorem natural_parse.mono_l : ∀ k, (∀ y0 y1 y2 y3, LeO (natural_parse.l0 k y0 y1 y2 y3) (natural_parse.l0 (k + 1) y0 y1 y2 y3))
 | 0 => fun _ _ _ _ r h => by simp [natural_parse.l0] at h
 | k + 1 => by
  have ih0 := natural_parse.mono_l k
  intro y0 y1 y2 y3
  unfold natural_parse.l0
  repeat' first
  | (with_reducible exact ih0 _ _ _ _)
  | (with_reducible exact natural_limbs_trim.mono _ _)
  | (with_reducible exact LeO.refl _)
  | (with_reducible exact LeO.none _)
  | (with_reducible refine LeO.ite ?_ ?_)
  | (with_reducible refine LeO.bind ?_ (fun _ => ?_))
  | exact ih0 _ _ _ _
  | exact natural_limbs_trim.mono _ _
  | exact LeO.none _
  | refine LeO.ite ?_ ?_
  | refine LeO.bind ?_ (fun _ => ?_)
theorem natural_parse.mono : ∀ a0 k, LeO (natural_parse.f k a0) (natural_parse.f (k + 1) a0) := by
 intro a0 k
 have ih0 := natural_parse.mono_l k
 unfold natural_parse.f
 repeat' first
  | (with_reducible exact ih0 _ _ _ _)
  | (with_reducible exact natural_limbs_trim.mono _ _)
  | (with_reducible exact LeO.refl _)
  | (with_reducible exact LeO.none _)
  | (with_reducible refine LeO.ite ?_ ?_)
  | (with_reducible refine LeO.bind ?_ (fun _ => ?_))
  | exact ih0 _ _ _ _
  | exact natural_limbs_trim.mono _ _
  | exact LeO.none _
  | refine LeO.ite ?_ ?_
  | refine LeO.bind ?_ (fun _ => ?_)
def natural_parse.T5 : Bool × List (List Nat × List Nat) := (true, [([], []), ([], []), ([1], [1]), ([0, 2], [0, 2]), ([3], [3]), ([], []), ([], []), ([6], [6]), ([7], [7]), ([], []), ([8, 9], [8, 9]), ([5, 10], [5, 10]), ([11], [11]), ([], []), ([13], [13]), ([14], [14]), ([12, 15], [12, 15]), ([4, 16], [4, 16]), ([0, 2, 0, 1, 2, 3, 4, 5, 6, 7, 8, 9, 10, 11, 12, 13, 14, 15, 16, 17], [0, 2]), ([18, 17, 0, 1, 2, 3, 4, 5, 6, 7, 8, 9, 10, 11, 12, 13, 14, 15, 16, 17], [17, 18])])
def natural_parse.B5 : List Nat := [0, 0, 2, 7, 15, 0, 0, 64, 192, 0, 960, 2016, 4064, 0, 8192, 24576, 65504, 131071, 262143, 524287]
theorem natural_parse.tab5 : rtab .any (opsOf Tryd.f62 5) = natural_parse.T5 := by kernel_rfl
theorem natural_parse.bits5 : waitsOk natural_parse.T5.2 natural_parse.B5 = true := by kernel_rfl
set_option maxHeartbeats 8000000 in
set_option maxRecDepth 100000 in
theorem natural_parse.calls (k : Nat) (a0 : ByteArray) (r : List Int) (w : World) (h : natural_parse.f k a0 = some r) :
  Calls Tryd.prog 62 #[.string a0] w fun e w' => ∃ v0_ : Value, e = .returned (v0_) ∧ Kd.V (Kd.int .u32) 88 w' w.heap.size (fun k_ => (w.heap.size ≤ k_)) v0_ r ∧ Below w.heap.size w w' := by
 have HB := Aside0.mk (Below.refl w.heap.size w)
 have H : (if 0 ≤ (wrap64 (Int.tdiv (wrap64 ((wrap64 ((a0.size : Int) + 4)) - 1)) 4)) then (if (wrap64 (Int.tdiv (wrap64 ((wrap64 ((a0.size : Int) + 4)) - 1)) 4) : Int).toNat ≤ 70368744177664 then (natural_parse.l0 k a0 (List.replicate (wrap64 (Int.tdiv (wrap64 ((wrap64 ((a0.size : Int) + 4)) - 1)) 4) : Int).toNat 0) (a0.size : Int) 0) else (none)) else (none)) = some r := h
 clear h
 obtain ⟨ji2, hji2⟩ : ∃ j_ : Int, (wrap64 (Int.tdiv (wrap64 ((wrap64 ((a0.size : Int) + 4)) - 1)) 4)) = j_ := ⟨_, rfl⟩
 replace H : (if 0 ≤ (ji2) then (if (ji2 : Int).toNat ≤ 70368744177664 then (natural_parse.l0 k a0 (List.replicate (ji2 : Int).toNat 0) (a0.size : Int) 0) else (none)) else (none)) = some r := by first | (rw [hji2] at H; exact H) | (simp only [hji2] at H ⊢; exact H)
 have hji2w : (IntKind.i64.wrap (Int.tdiv (wrap64 ((wrap64 ((a0.size : Int) + 4)) - 1)) 4)) = ji2 := (i64_w _).trans hji2
 by_cases c3 : 0 ≤ (ji2)
 rotate_left
 ·rw [if_neg c3] at H
  exact absurd H (by simp)
 rw [if_pos c3] at H
 have c3b0 := eq_true c3
 have c3b1 : decide (0 ≤ (ji2)) = true := decide_eq_true c3
 clear c3
 by_cases c4 : (ji2 : Int).toNat ≤ 70368744177664
 rotate_left
 ·rw [if_neg c4] at H
  exact absurd H (by simp)
 rw [if_pos c4] at H
 have c4b0 := eq_true c4
 have c4b1 : decide ((ji2 : Int).toNat ≤ 70368744177664) = true := decide_eq_true c4
 clear c4
 obtain ⟨y118, hy118⟩ : ∃ y_ : List Int, y_ = (List.replicate (ji2 : Int).toNat 0) := ⟨_, rfl⟩
 replace H : (natural_parse.l0 k a0 y118 (a0.size : Int) 0) = some r := by first | (rw [hy118]; with_reducible exact H) | (have H2_ := (Option.bind_some _ _).symm.trans H; rw [hy118]; with_reducible exact H2_) | (have H2_ := (Option.bind_some _ _).symm.trans H; with_reducible exact H2_) | with_reducible exact H | (rw [hy118]; exact H) | exact H
 have Ny118 := Aside0.mk hy118
 clear hy118
 have H' := Aside0.mk H
 clear H
 go_enter Tryd.func62, Tryd.ntmps62
 go_wp2_with (first | ((with_reducible refine gate_dst (N := 10) rfl ?_); refine Kd.R_make (Kd.int .u32) _ 88 rfl (N := 10) rfl 83 _ _ rfl ji2 rfl rfl Tryd.underlying83 (.int .u32 0) 4 info88 rfl (by decide) (by omega) 0 (ok := fun _ => True) (okp := fun _ => True) rfl (fun _ hk => hk) trivial (of_decide_eq_true (by first | (with_reducible assumption) | assumption)) (Nat.le_trans (Nat.mul_le_mul_right _ (of_decide_eq_true (by first | (with_reducible assumption) | assumption) : ji2.toNat ≤ 70368744177664)) (by omega)) (Below.refl _ _) (Nat.le_refl _) ?_; intro v119 w5 ho6 hb hg_ hnew_; clear hg_ hnew_; (first | rw [← Ny118.out] at ho6 | (simp only [Int.reduceToNat] at ho6; rw [← Ny118.out] at ho6)); have n0_ := Aside0.mk (Kd.R_lower (Kd.R_newM (M := fun k_ => (w.heap.size ≤ k_)) ho6 (below_size (by repeat (first | (with_reducible first | exact HB.out | apply below_alloc | apply pw_below_drewN | apply below_drew1) | exact HB.out))) (fun k_ h_ => h_)) (below_size (by repeat (first | (with_reducible first | exact HB.out | apply below_alloc | apply pw_below_drewN | apply below_drew1) | exact HB.out)))); have n1_ := Aside0.mk (below_step (by repeat (first | (with_reducible first | exact HB.out | apply below_alloc | apply pw_below_drewN | apply below_drew1) | exact HB.out)) hb); clear HB; have HO120 := n0_; have HB := n1_; clear n0_ n1_; clear hb ho6))
 go_loopg [13] k (fun kq v13 w' => ∃ (x3_1 : List Int) (x13_1 : Int), v13 = .int .i64 x13_1 ∧ Aside0 (natural_parse.l0 kq a0 x3_1 (a0.size : Int) x13_1 = some r) ∧ Aside0 (kq ≤ k) ∧ Aside0 (Kd.R (Kd.int .u32) 88 w' w.heap.size (fun k_ => (w.heap.size ≤ k_)) v119 x3_1) ∧ Aside0 (Below w.heap.size w w'))
 case atStart => exact ⟨(y118), (0), (by first | rfl | (simp; done) | (simp [*]; done)), H', ⟨Nat.le_refl _⟩, ⟨by (with_reducible repeat (first | apply Kd.R_alloc | apply Kd.R_drewN | apply Kd.R_drew)); exact Kd.R_mono HO120.out (fun _ hk => hk.1)⟩, ⟨by repeat (first | (with_reducible first | exact HB.out | apply below_alloc | apply pw_below_drewN | apply below_drew1) | exact HB.out)⟩⟩
 case round =>
  clear H'
  try clear p2
  try clear c3
  try clear c3b0
  try clear c3b1
  try clear c4
  try clear c4b0
  try clear c4b1
  try clear c6
  try clear p6
  obtain ⟨x3_1, x13_1, rfl, HA, HK1, HO_3, HB⟩ := hrel
  cases gk with
  | zero => exact absurd HA.out (by simp [natural_parse.l0])
  | succ k1 =>
   have H := HA.out
   clear HA
   simp only [natural_parse.l0] at H
   by_cases c7 : x13_1 < (a0.size : Int)
   rotate_left
   ·rw [if_neg c7] at H
    have c7b0 : decide (x13_1 < (a0.size : Int)) = false := decide_eq_false c7
    clear c7
    replace H := Option.bind_eq_some_iff.mp H
    obtain ⟨t123, A220, H⟩ := H
    replace H : (some t123) = some r := H
    have A22 := Aside0.mk A220
    clear A220
    obtain rfl := Option.some.inj H
    obtain ⟨Ao23, co23, eo23⟩ := Kd.R_slice HO_3.out
    subst eo23
    go_wp2_with (first | ((with_reducible refine gate_callee (f := 76) rfl ?_); refine goesL_ (some 37) rfl rfl Tryd.func76 (by kernel_rfl) rfl #[.slice Ao23 x3_1.length co23] rfl (by (try simp only [List.map_toArray, List.map_cons, List.map_nil]); first | done | rfl | (simp only [List.length_drop, List.length_take]; rfl)) ?_; (with_reducible refine (natural_limbs_trim.calls k1 (fun k_ => some k_ = (.slice Ao23 x3_1.length co23 : Value).ownBlock) _ _ x3_1 t123 _ ?side1 A22.out).mono ?_); (case side1 => exact Kd.R_V (Kd.R_tight rfl (HO_3.out))); rintro e w24 ⟨v124, rfl, ho0, hb⟩; refine ⟨_, rfl, ?_⟩; have n0_ := Aside0.mk (Kd.R_below (by (with_reducible repeat (first | apply Kd.R_alloc | apply Kd.R_drewN | apply Kd.R_drew)); exact HO_3.out) hb); have n1_ := Aside0.mk (Kd.V_lower (Kd.V_mono (ok' := fun k_ => (w.heap.size ≤ k_)) ho0 (fun k_ hk_ => Or.elim hk_ (fun hs_ => ((HO_3.out).1 k_ hs_.symm)) (fun hn_ => (Nat.le_trans (below_size (by repeat (first | (with_reducible first | exact HB.out | apply below_alloc | apply pw_below_drewN | apply below_drew1) | exact HB.out))) hn_)))) (below_size (by repeat (first | (with_reducible first | exact HB.out | apply below_alloc | apply pw_below_drewN | apply below_drew1) | exact HB.out)))); have n2_ := Aside0.mk (below_step (by repeat (first | (with_reducible first | exact HB.out | apply below_alloc | apply pw_below_drewN | apply below_drew1) | exact HB.out)) hb); clear HO_3; clear HB; have HO_3 := n0_; have HO125 := n1_; have HB := n2_; clear n0_ n1_ n2_; (try clear hb); (try clear hb2); (try clear hk); (try clear hi); (try clear ho0)))
    go_ret
    exact ⟨_, by first | rfl | (simp [errW_none, errW_some] <;> rfl) | (simp only [← hji2]; first | rfl | (simp [errW_none, errW_some] <;> rfl)) | (simp [*, errW_none, errW_some] <;> rfl), by (with_reducible repeat (first | apply Kd.V_alloc | apply Kd.V_drewN | apply Kd.V_drew)); exact HO125.out, by repeat (first | (with_reducible first | exact HB.out | apply below_alloc | apply pw_below_drewN | apply below_drew1) | exact HB.out)⟩
   rw [if_pos c7] at H
   have c7b0 : decide (x13_1 < (a0.size : Int)) = true := decide_eq_true c7
   clear c7
   obtain ⟨ji8, hji8⟩ : ∃ j_ : Int, (wrap64 (Int.tdiv x13_1 4)) = j_ := ⟨_, rfl⟩
   replace H : (if 0 ≤ (ji8) then (if (ji8) < (x3_1.length : Int) then (if 0 ≤ (wrap64 ((wrap64 ((a0.size : Int) - 1)) - x13_1)) then (if (wrap64 ((wrap64 ((a0.size : Int) - 1)) - x13_1)) < (a0.size : Int) then (if 0 ≤ (wrap64 (8 * (Int.tmod x13_1 4))) then (natural_parse.l0 k1 a0 (x3_1.set ((ji8) : Int).toNat (Go.bits .or .u32 (rd x3_1 (ji8)) (shl .u32 ((bt a0 (wrap64 ((wrap64 ((a0.size : Int) - 1)) - x13_1))) % 4294967296) (wrap64 (8 * (Int.tmod x13_1 4)))))) (a0.size : Int) (wrap64 (x13_1 + 1))) else (none)) else (none)) else (none)) else (none)) else (none)) = some r := by first | (rw [hji8] at H; exact H) | (simp only [hji8] at H ⊢; exact H)
   have hji8w : (IntKind.i64.wrap (Int.tdiv x13_1 4)) = ji8 := (i64_w _).trans hji8
   by_cases c9 : 0 ≤ (ji8)
   rotate_left
   ·rw [if_neg c9] at H
    exact absurd H (by simp)
   rw [if_pos c9] at H
   have c9b0 : decide (0 ≤ (ji8)) = true := decide_eq_true c9
   clear c9
   by_cases c10 : (ji8) < (x3_1.length : Int)
   rotate_left
   ·rw [if_neg c10] at H
    exact absurd H (by simp)
   rw [if_pos c10] at H
   have c10b0 : decide ((ji8) < (x3_1.length : Int)) = true := decide_eq_true c10
   clear c10
   obtain ⟨ji11, hji11⟩ : ∃ j_ : Int, (wrap64 ((wrap64 ((a0.size : Int) - 1)) - x13_1)) = j_ := ⟨_, rfl⟩
   replace H : (if 0 ≤ (ji11) then (if (ji11) < (a0.size : Int) then (if 0 ≤ (wrap64 (8 * (Int.tmod x13_1 4))) then (natural_parse.l0 k1 a0 (x3_1.set ((ji8) : Int).toNat (Go.bits .or .u32 (rd x3_1 (ji8)) (shl .u32 ((bt a0 (ji11)) % 4294967296) (wrap64 (8 * (Int.tmod x13_1 4)))))) (a0.size : Int) (wrap64 (x13_1 + 1))) else (none)) else (none)) else (none)) = some r := by first | (rw [hji11] at H; exact H) | (simp only [hji11] at H ⊢; exact H)
   have hji11w : (IntKind.i64.wrap ((wrap64 ((a0.size : Int) - 1)) - x13_1)) = ji11 := (i64_w _).trans hji11
   by_cases c12 : 0 ≤ (ji11)
   rotate_left
   ·rw [if_neg c12] at H
    exact absurd H (by simp)
   rw [if_pos c12] at H
   have c12b0 : decide (0 ≤ (ji11)) = true := decide_eq_true c12
   clear c12
   by_cases c13 : (ji11) < (a0.size : Int)
   rotate_left
   ·rw [if_neg c13] at H
    exact absurd H (by simp)
   rw [if_pos c13] at H
   have c13b0 : decide ((ji11) < (a0.size : Int)) = true := decide_eq_true c13
   clear c13
   obtain ⟨ji15, hji15⟩ : ∃ j_ : Int, (wrap64 (8 * (Int.tmod x13_1 4))) = j_ := ⟨_, rfl⟩
   replace H : (if 0 ≤ (ji15) then (natural_parse.l0 k1 a0 (x3_1.set ((ji8) : Int).toNat (Go.bits .or .u32 (rd x3_1 (ji8)) (shl .u32 ((bt a0 (ji11)) % 4294967296) (ji15)))) (a0.size : Int) (wrap64 (x13_1 + 1))) else (none)) = some r := by first | (rw [hji15] at H; exact H) | (simp only [hji15] at H ⊢; exact H)
   have hji15w : (IntKind.i64.wrap (8 * (Int.tmod x13_1 4))) = ji15 := (i64_w _).trans hji15
   by_cases c16 : 0 ≤ (ji15)
   rotate_left
   ·rw [if_neg c16] at H
    exact absurd H (by simp)
   rw [if_pos c16] at H
   have c16b0 := eq_true c16
   have c16b1 : decide (0 ≤ (ji15)) = true := decide_eq_true c16
   clear c16
   obtain ⟨ji17, hji17⟩ : ∃ j_ : Int, (shl .u32 ((bt a0 (ji11)) % 4294967296) (ji15)) = j_ := ⟨_, rfl⟩
   replace H : (natural_parse.l0 k1 a0 (x3_1.set ((ji8) : Int).toNat (Go.bits .or .u32 (rd x3_1 (ji8)) (ji17))) (a0.size : Int) (wrap64 (x13_1 + 1))) = some r := by first | (rw [hji17] at H; exact H) | (simp only [hji17] at H ⊢; exact H)
   have hji17_ : (IntKind.u32.wrap (((bt a0 (ji11)) % 4294967296) * 2 ^ min (ji15).toNat 32)) = ji17 := hji17
   have hji17m : (((bt a0 (ji11)) % 4294967296) * 2 ^ min (ji15).toNat 32) % 4294967296 = ji17 := hji17_
   have hji17z : (ji15) ≤ 32 → (IntKind.u32.wrap (((bt a0 (ji11)) % 4294967296) * 2 ^ (ji15).toNat)) = ji17 := shl_small hji17
   obtain ⟨y122, hy122⟩ : ∃ y_ : List Int, y_ = (x3_1.set ((ji8) : Int).toNat (Go.bits .or .u32 (rd x3_1 (ji8)) (ji17))) := ⟨_, rfl⟩
   replace H : (natural_parse.l0 k1 a0 y122 (a0.size : Int) (wrap64 (x13_1 + 1))) = some r := by first | (rw [hy122]; with_reducible exact H) | (have H2_ := (Option.bind_some _ _).symm.trans H; rw [hy122]; with_reducible exact H2_) | (have H2_ := (Option.bind_some _ _).symm.trans H; with_reducible exact H2_) | with_reducible exact H | (rw [hy122]; exact H) | exact H
   have Ny122 := Aside0.mk hy122
   clear hy122
   have H' := Aside0.mk H
   clear H
   try go_wp2
   have n0_ := Aside0.mk (Kd.R_drew HO_3.out)
   have n1_ := Aside0.mk (below_drew1 HB.out)
   clear HO_3
   clear HB
   have HO_3 := n0_
   have HB := n1_
   clear n0_ n1_
   obtain ⟨Ao20, co20, eo20⟩ := Kd.R_slice HO_3.out
   (first | subst eo20 | (injection eo20 with f1_ f2_ f3_; have f4_ := f1_.symm; have f5_ := f3_.symm; clear f1_ f2_ f3_; subst f4_; subst f5_))
   have p121 : 0 ≤ ((ji8) : Int) := of_decide_eq_true (by first | (with_reducible assumption) | assumption)
   have q121 : (ji8) < (x3_1.length : Int) := of_decide_eq_true (by first | (with_reducible assumption) | assumption)
   obtain ⟨ad121, e121, hx121_0⟩ := Kd.at_int (Kd.R_reads' HO_3.out).2.2 (ji8) p121 q121
   cases e121
   replace p121 := eq_true p121
   replace q121 := eq_true q121
   have p14 : 0 ≤ ((ji11) : Int) := of_decide_eq_true (by first | (with_reducible assumption) | assumption)
   have q14 : (ji11) < (a0.size : Int) := of_decide_eq_true (by first | (with_reducible assumption) | assumption)
   have hx14 := bt_at a0 (ji11)
   replace p14 := eq_true p14
   replace q14 := eq_true q14
   have p18 : 0 ≤ ((ji8) : Int) := of_decide_eq_true (by first | (with_reducible assumption) | assumption)
   have q18 : ((ji8) : Int) < ((x3_1.length : Int) : Int) := of_decide_eq_true (by first | (with_reducible assumption) | assumption)
   obtain ⟨go18, co18, eo18, gb18, gl18, cl18, HG18⟩ := Kd.R_form HO_3.out (by omega)
   (first | cases eo18 | (injection eo18 with ea_ en_ ec_; (first | subst ea_ | (injection ea_ with ea_; subst ea_)); subst ec_; clear en_))
   have GB18 := Aside0.mk gb18
   have GG18 := Aside0.mk HG18
   clear gb18 gl18 HG18
   (first | simp only [add_plain] at hx121_0 | skip)
   obtain ⟨hx18_0, hf18_0⟩ := Kd.R_celln 0 HO_3.out ((ji8) : Int) p18 q18
   replace p18 := eq_true p18
   replace q18 := eq_true q18
   have HP21 := Kd.R_putn HO_3.out ((ji8) : Int) (Go.bits .or .u32 (rd x3_1 (ji8)) (ji17))
   rw [← Ny122.out] at HP21
   have HQ21 := Aside0.mk HP21
   clear HP21
   refine start_ (n := 20) (S := fun w' => w'.cell? ⟨go18, ((ji8)).toNat, none⟩ = some (.int .u32 (rd x3_1 (ji8)))) (ds := [19]) #[false, false, false, false, false, false, false, false, false, false, false, false, false, false, false, false, false, false, false, false] (by kernel_rfl) rfl rfl (hx121_0) (fun hHeld => ?_); refine with_tabW natural_parse.tab5 natural_parse.bits5 (fun HT_ HW_ => ?_)
   generalize wr.drew = w19 at HO_3 HB GG18 HQ21 hf18_0 hx121_0 hx18_0 hHeld ⊢
   refine pure_ (i := 0) (N := some 16) (v := ?_) (a' := ?_) #[true, false, false, false, false, false, false, false, false, false, false, false, false, false, false, false, false, false, false, false] rfl rfl (any_of HT_.out (by kernel_rfl)) (fun _ _ _ h => h) (Or.inl ⟨by rfl, ?_⟩) ?_ ?_
   rotate_left
   ·intro w'
    go_simp
    with_reducible rfl
   rotate_left
   ·simp only [Act.put, List.setIfInBounds_toArray, List.set_cons_zero, List.set_cons_succ, i64_w, i32_w]
    rfl
   refine pure_ (i := 1) (N := some 17) (v := ?_) (a' := ?_) #[true, true, false, false, false, false, false, false, false, false, false, false, false, false, false, false, false, false, false, false] rfl rfl (any_of HT_.out (by kernel_rfl)) (fun _ _ _ h => h) (Or.inl ⟨by rfl, ?_⟩) ?_ ?_
   rotate_left
   ·intro w'
    go_simp
    with_reducible rfl
   rotate_left
   ·simp only [Act.put, List.setIfInBounds_toArray, List.set_cons_zero, List.set_cons_succ, i64_w, i32_w]
    rfl
   refine pure_ (i := 2) (N := some 18) (v := ?_) (a' := ?_) #[true, true, true, false, false, false, false, false, false, false, false, false, false, false, false, false, false, false, false, false] rfl rfl (any_of HT_.out (by kernel_rfl)) (fun _ _ _ h => h) (Or.inl ⟨by rfl, ?_⟩) ?_ ?_
   rotate_left
   ·intro w'
    go_simp
    with_reducible rfl
   rotate_left
   ·simp only [Act.put, List.setIfInBounds_toArray, List.set_cons_zero, List.set_cons_succ, i64_w, i32_w]
    rfl
   refine pure_ (i := 3) (N := some 19) (v := ?_) (a' := ?_) #[true, true, true, true, false, false, false, false, false, false, false, false, false, false, false, false, false, false, false, false] rfl rfl (any_of HT_.out (by kernel_rfl)) (fun _ _ _ h => h) (Or.inl ⟨by rfl, ?_⟩) ?_ ?_
   rotate_left
   ·intro w'
    go_simp
    with_reducible rfl
   rotate_left
   ·simp only [Act.put, List.setIfInBounds_toArray, List.set_cons_zero, List.set_cons_succ, i64_w, i32_w]
    rfl
   refine pure_ (i := 5) (N := some 21) (v := ?_) (a' := ?_) #[true, true, true, true, false, true, false, false, false, false, false, false, false, false, false, false, false, false, false, false] rfl rfl (any_of HT_.out (by kernel_rfl)) (fun _ _ _ h => h) (Or.inl ⟨by rfl, ?_⟩) ?_ ?_
   rotate_left
   ·intro w'
    go_simp
    with_reducible rfl
   rotate_left
   ·simp only [Act.put, List.setIfInBounds_toArray, List.set_cons_zero, List.set_cons_succ, i64_w, i32_w]
    rfl
   refine pure_ (i := 6) (N := some 22) (v := ?_) (a' := ?_) #[true, true, true, true, false, true, true, false, false, false, false, false, false, false, false, false, false, false, false, false] rfl rfl (any_of HT_.out (by kernel_rfl)) (fun _ _ _ h => h) (Or.inl ⟨by rfl, ?_⟩) ?_ ?_
   rotate_left
   ·intro w'
    go_simp
    with_reducible rfl
   rotate_left
   ·simp only [Act.put, List.setIfInBounds_toArray, List.set_cons_zero, List.set_cons_succ, i64_w, i32_w]
    rfl
   refine pure_ (i := 7) (N := some 23) (v := ?_) (a' := ?_) #[true, true, true, true, false, true, true, true, false, false, false, false, false, false, false, false, false, false, false, false] rfl rfl (any_of HT_.out (by kernel_rfl)) (fun _ _ _ h => h) (Or.inl ⟨by rfl, ?_⟩) ?_ ?_
   rotate_left
   ·intro w'
    go_simp
    with_reducible rfl
   rotate_left
   ·simp only [Act.put, List.setIfInBounds_toArray, List.set_cons_zero, List.set_cons_succ, i64_w, i32_w]
    rfl
   refine pure_ (i := 8) (N := some 24) (v := ?_) (a' := ?_) #[true, true, true, true, false, true, true, true, true, false, false, false, false, false, false, false, false, false, false, false] rfl rfl (any_of HT_.out (by kernel_rfl)) (fun _ _ _ h => h) (Or.inl ⟨by rfl, ?_⟩) ?_ ?_
   rotate_left
   ·intro w'
    go_simp
    with_reducible rfl
   rotate_left
   ·simp only [Act.put, List.setIfInBounds_toArray, List.set_cons_zero, List.set_cons_succ, i64_w, i32_w]
    rfl
   refine pure_ (i := 9) (N := some 25) (v := ?_) (a' := ?_) #[true, true, true, true, false, true, true, true, true, true, false, false, false, false, false, false, false, false, false, false] rfl rfl (any_of HT_.out (by kernel_rfl)) (fun _ _ _ h => h) (Or.inl ⟨by rfl, ?_⟩) ?_ ?_
   rotate_left
   ·intro w'
    go_simp
    with_reducible rfl
   rotate_left
   ·simp only [Act.put, List.setIfInBounds_toArray, List.set_cons_zero, List.set_cons_succ, i64_w, i32_w]
    rfl
   refine pure_ (i := 10) (N := some 26) (v := ?_) (a' := ?_) #[true, true, true, true, false, true, true, true, true, true, true, false, false, false, false, false, false, false, false, false] rfl rfl (any_of HT_.out (by kernel_rfl)) (fun _ _ _ h => h) (Or.inl ⟨by rfl, ?_⟩) ?_ ?_
   rotate_left
   ·intro w'
    go_simp
    with_reducible rfl
   rotate_left
   ·simp only [Act.put, List.setIfInBounds_toArray, List.set_cons_zero, List.set_cons_succ, i64_w, i32_w]
    rfl
   refine pure_ (i := 13) (N := some 29) (v := ?_) (a' := ?_) #[true, true, true, true, false, true, true, true, true, true, true, false, false, true, false, false, false, false, false, false] rfl rfl (any_of HT_.out (by kernel_rfl)) (fun _ _ _ h => h) (Or.inl ⟨by rfl, ?_⟩) ?_ ?_
   rotate_left
   ·intro w'
    go_simp
    with_reducible rfl
   rotate_left
   ·simp only [Act.put, List.setIfInBounds_toArray, List.set_cons_zero, List.set_cons_succ, i64_w, i32_w]
    rfl
   refine pure_ (i := 14) (N := some 30) (v := ?_) (a' := ?_) #[true, true, true, true, false, true, true, true, true, true, true, false, false, true, true, false, false, false, false, false] rfl rfl (any_of HT_.out (by kernel_rfl)) (fun _ _ _ h => h) (Or.inl ⟨by rfl, ?_⟩) ?_ ?_
   rotate_left
   ·intro w'
    go_simp
    with_reducible rfl
   rotate_left
   ·simp only [Act.put, List.setIfInBounds_toArray, List.set_cons_zero, List.set_cons_succ, i64_w, i32_w]
    rfl
   refine pure_ (i := 15) (N := some 31) (v := ?_) (a' := ?_) #[true, true, true, true, false, true, true, true, true, true, true, false, false, true, true, true, false, false, false, false] rfl rfl (any_of HT_.out (by kernel_rfl)) (fun _ _ _ h => h) (Or.inl ⟨by rfl, ?_⟩) ?_ ?_
   rotate_left
   ·intro w'
    go_simp
    with_reducible rfl
   rotate_left
   ·simp only [Act.put, List.setIfInBounds_toArray, List.set_cons_zero, List.set_cons_succ, i64_w, i32_w]
    rfl
   refine take_ (i := 4) (N := some 20) (v := ?_) (a' := ?_) #[true, true, true, true, true, true, true, true, true, true, true, false, false, true, true, true, false, false, false, false] rfl rfl (take_ofW HT_.out HW_.out (by kernel_rfl)) (fun _ _ _ h => h) (Or.inl ⟨by rfl, ?_⟩) hHeld ?_ ?_
   rotate_left
   ·intro w' s0
    go_simp
    with_reducible rfl
   rotate_left
   ·simp only [Act.put, List.setIfInBounds_toArray, List.set_cons_zero, List.set_cons_succ, i64_w, i32_w]
    rfl
   refine take_ (i := 11) (N := some 27) (v := ?_) (a' := ?_) #[true, true, true, true, true, true, true, true, true, true, true, true, false, true, true, true, false, false, false, false] rfl rfl (take_ofW HT_.out HW_.out (by kernel_rfl)) (fun _ _ _ h => h) (Or.inl ⟨by rfl, ?_⟩) hHeld ?_ ?_
   rotate_left
   ·intro w' s0
    go_simp
    with_reducible rfl
   rotate_left
   ·simp only [Act.put, List.setIfInBounds_toArray, List.set_cons_zero, List.set_cons_succ, i64_w, i32_w]
    rfl
   refine pure_ (i := 12) (N := some 28) (v := ?_) (a' := ?_) #[true, true, true, true, true, true, true, true, true, true, true, true, true, true, true, true, false, false, false, false] rfl rfl (any_of HT_.out (by kernel_rfl)) (fun _ _ _ h => h) (Or.inl ⟨by rfl, ?_⟩) ?_ ?_
   rotate_left
   ·intro w'
    go_simp
    with_reducible rfl
   rotate_left
   ·simp only [Act.put, List.setIfInBounds_toArray, List.set_cons_zero, List.set_cons_succ, i64_w, i32_w]
    rfl
   refine pure_ (i := 16) (N := some 32) (v := ?_) (a' := ?_) #[true, true, true, true, true, true, true, true, true, true, true, true, true, true, true, true, true, false, false, false] rfl rfl (any_of HT_.out (by kernel_rfl)) (fun _ _ _ h => h) (Or.inl ⟨by rfl, ?_⟩) ?_ ?_
   rotate_left
   ·intro w'
    go_simp
    with_reducible rfl
   rotate_left
   ·simp only [Act.put, List.setIfInBounds_toArray, List.set_cons_zero, List.set_cons_succ, i64_w, i32_w]
    rfl
   refine pure_ (i := 17) (N := some 33) (v := ?_) (a' := ?_) #[true, true, true, true, true, true, true, true, true, true, true, true, true, true, true, true, true, true, false, false] rfl rfl (any_of HT_.out (by kernel_rfl)) (fun _ _ _ h => h) (Or.inl ⟨by rfl, ?_⟩) ?_ ?_
   rotate_left
   ·intro w'
    go_simp
    with_reducible rfl
   rotate_left
   ·simp only [Act.put, List.setIfInBounds_toArray, List.set_cons_zero, List.set_cons_succ, i64_w, i32_w]
    rfl
   refine pure_ (i := 18) (N := some 34) (v := ?_) (a' := ?_) #[true, true, true, true, true, true, true, true, true, true, true, true, true, true, true, true, true, true, true, false] rfl rfl (any_of HT_.out (by kernel_rfl)) (fun _ _ _ h => h) (Or.inl ⟨by rfl, ?_⟩) ?_ ?_
   rotate_left
   ·intro w'
    go_simp
    with_reducible rfl
   rotate_left
   ·simp only [Act.put, List.setIfInBounds_toArray, List.set_cons_zero, List.set_cons_succ, i64_w, i32_w]
    rfl
   refine last_ (i := 19) (N := none) #[true, true, true, true, true, true, true, true, true, true, true, true, true, true, true, true, true, true, true, true] rfl rfl (one_of HT_.out (by kernel_rfl)) (by decide) (fun K hK => ?_)
   refine skip_ (w1 := ?_) (by rfl) rfl ?_ ?_
   rotate_left
   ·go_simp
    rfl
   refine hK.out _ _ ?_
   clear hK K
   refine done_ (done_of HT_.out (by kernel_rfl)) ?_
   try go_wp2
   go_roundg k1
   case measure => have := HK1.out; omega
   case rel => exact ⟨(y122), (wrap64 (x13_1 + 1)), (by first | rfl | (simp; done) | (simp [*]; done)), H', ⟨by have := HK1.out; omega⟩, ⟨by (with_reducible repeat (first | apply Kd.R_alloc | apply Kd.R_drewN | apply Kd.R_drew)); first | exact HQ21.out | (simp only [hji17m]; exact HQ21.out)⟩, ⟨by repeat (first | (with_reducible first | exact HB.out | apply below_alloc | apply pw_below_drewN | apply below_drew1 | refine below_set ?_ GB18.out) | exact HB.out)⟩⟩
end Go.Proofs.YtfnfjmeiaamheaaDoor.PA
namespace Go.Proofs.YtfnfjmeiaamheaaDoor.PA
open Go.RowKit Go.Proofs.YtfnfjmeiaamheaaDoorW.PrintWords Go.Proofs.YtfnfjmeiaamheaaDoorW.PrintLast Go.Proofs.YtfnfjmeiaamheaaDoorW.PrintMore
attribute [local go_sem] max2_int min2_int max_two min_two max_three min_three max_four min_four
def natural_sign.f (a0 : Int) : Option (Int) := if a0 < 0 then (some (-1)) else (if a0 > 0 then (some 1) else (some 0))
set_option maxHeartbeats 8000000 in
set_option maxRecDepth 100000 in
theorem natural_sign.calls (a0 : Int) (r : Int) (w : World) (h : natural_sign.f a0 = some r) :
  Calls Tryd.prog 89 #[.int .i64 a0] w fun e w' => e = .returned (.int .i64 r) ∧ Drawn0 w w' := by
 have H : (if a0 < 0 then (some (-1)) else (if a0 > 0 then (some 1) else (some 0))) = some r := h
 clear h
 by_cases c2 : a0 < 0
 ·rw [if_pos c2] at H
  have c2b0 : decide (a0 < 0) = true := decide_eq_true c2
  clear c2
  obtain rfl := Option.some.inj H
  go_enter Tryd.func89, Tryd.ntmps89
  go_wp2
  go_ret
  exact ⟨by first | rfl | (simp; done) | (simp [*]; done), by repeat (first | exact Drawn0.refl _ | apply Drawn0.step)⟩
 rw [if_neg c2] at H
 have c2b0 : decide (a0 < 0) = false := decide_eq_false c2
 clear c2
 by_cases c3 : a0 > 0
 ·rw [if_pos c3] at H
  have c3b0 : decide (0 < a0) = true := decide_eq_true c3
  clear c3
  obtain rfl := Option.some.inj H
  go_enter Tryd.func89, Tryd.ntmps89
  go_wp2
  go_ret
  exact ⟨by first | rfl | (simp; done) | (simp [*]; done), by repeat (first | exact Drawn0.refl _ | apply Drawn0.step)⟩
 rw [if_neg c3] at H
 have c3b0 : decide (0 < a0) = false := decide_eq_false c3
 clear c3
 obtain rfl := Option.some.inj H
 go_enter Tryd.func89, Tryd.ntmps89
 go_wp2
 go_ret
 exact ⟨by first | rfl | (simp; done) | (simp [*]; done), by repeat (first | exact Drawn0.refl _ | apply Drawn0.step)⟩
end Go.Proofs.YtfnfjmeiaamheaaDoor.PA
namespace Go.Proofs.YtfnfjmeiaamheaaDoor.PA
open Go.RowKit Go.Proofs.YtfnfjmeiaamheaaDoorW.PrintWords Go.Proofs.YtfnfjmeiaamheaaDoorW.PrintLast Go.Proofs.YtfnfjmeiaamheaaDoorW.PrintMore
attribute [local go_sem] max2_int min2_int max_two min_two max_three min_three max_four min_four
def natural_compare.l0 : Nat → List Int → List Int → Int → Option (Int)
 | 0, _, _, _ => none
 | k + 1, x0, x1, x5 => if x5 ≥ 0 then (if 0 ≤ x5 then (if x5 < (x0.length : Int) then (if x5 < (x1.length : Int) then (if (rd x0 x5) = (rd x1 x5) then (natural_compare.l0 k x0 x1 (wrap64 (x5 - 1))) else (if (rd x0 x5) < (rd x1 x5) then (some (-1)) else (some 1))) else (none)) else (none)) else (none)) else (some 0)
def natural_compare.f (k : Nat) (l0 : List Int) (l1 : List Int) : Option (Int) := if (l0.length : Int) = (l1.length : Int) then (natural_compare.l0 k l0 l1 (wrap64 ((l0.length : Int) - 1))) else ((natural_sign.f (wrap64 ((l0.length : Int) - (l1.length : Int)))).bind fun t126 => (some t126))
theorem natural_compare.mono_l : ∀ k, (∀ y0 y1 y2, LeO (natural_compare.l0 k y0 y1 y2) (natural_compare.l0 (k + 1) y0 y1 y2))
 | 0 => fun _ _ _ r h => by simp [natural_compare.l0] at h
 | k + 1 => by
  have ih0 := natural_compare.mono_l k
  intro y0 y1 y2
  unfold natural_compare.l0
  repeat' first
  | (with_reducible exact ih0 _ _ _)
  | (with_reducible exact LeO.refl _)
  | (with_reducible exact LeO.none _)
  | (with_reducible refine LeO.ite ?_ ?_)
  | (with_reducible refine LeO.bind ?_ (fun _ => ?_))
  | exact ih0 _ _ _
  | exact LeO.none _
  | refine LeO.ite ?_ ?_
  | refine LeO.bind ?_ (fun _ => ?_)
theorem natural_compare.mono : ∀ a0 a1 k, LeO (natural_compare.f k a0 a1) (natural_compare.f (k + 1) a0 a1) := by
 intro a0 a1 k
 have ih0 := natural_compare.mono_l k
 unfold natural_compare.f
 repeat' first
  | (with_reducible exact ih0 _ _ _)
  | (with_reducible exact LeO.refl _)
  | (with_reducible exact LeO.none _)
  | (with_reducible refine LeO.ite ?_ ?_)
  | (with_reducible refine LeO.bind ?_ (fun _ => ?_))
  | exact ih0 _ _ _
  | exact LeO.none _
  | refine LeO.ite ?_ ?_
  | refine LeO.bind ?_ (fun _ => ?_)
set_option maxHeartbeats 8000000 in
set_option maxRecDepth 100000 in
theorem natural_compare.calls (k : Nat) (A0 : Option Addr) (c0 : Nat) (l0 : List Int) (A1 : Option Addr) (c1 : Nat) (l1 : List Int) (r : Int) (w : World) (hr0 : Kd.C (Kd.int .u32) w A0 l0.length l0) (hc0 : l0.length ≤ c0) (hr1 : Kd.C (Kd.int .u32) w A1 l1.length l1) (hc1 : l1.length ≤ c1) (h : natural_compare.f k l0 l1 = some r) :
  Calls Tryd.prog 77 #[.slice A0 l0.length c0, .slice A1 l1.length c1] w fun e w' => e = .returned (.int .i64 r) ∧ Drawn0 w w' := by
 have HR0 := Aside0.mk hr0
 have HC0 := Aside0.mk hc0
 clear hr0 hc0
 have HR1 := Aside0.mk hr1
 have HC1 := Aside0.mk hc1
 clear hr1 hc1
 have H : (if (l0.length : Int) = (l1.length : Int) then (natural_compare.l0 k l0 l1 (wrap64 ((l0.length : Int) - 1))) else ((natural_sign.f (wrap64 ((l0.length : Int) - (l1.length : Int)))).bind fun t126 => (some t126))) = some r := h
 clear h
 by_cases c3 : (l0.length : Int) = (l1.length : Int)
 rotate_left
 ·rw [if_neg c3] at H
  have c3b0 : ((l0.length : Int) == (l1.length : Int)) = false := beq_eq_false_iff_ne.mpr c3
  have c3b1 : ((l0.length : Int) != (l1.length : Int)) = true := bne_iff_ne.mpr c3
  have c3b2 : (l0.length == l1.length) = false := by first | simpa using c3 | (simp at c3 ⊢; omega)
  replace H := Option.bind_eq_some_iff.mp H
  obtain ⟨t126, A100, H⟩ := H
  replace H : (some t126) = some r := H
  have A10 := Aside0.mk A100
  clear A100
  obtain rfl := Option.some.inj H
  go_enter Tryd.func77, Tryd.ntmps77
  go_wp2_with (first | (go_at_call 89; (with_reducible refine (natural_sign.calls (wrap64 ((l0.length : Int) - (l1.length : Int))) t126 _ A10.out).mono ?_); rintro e w' ⟨rfl, ⟨nd, rfl⟩⟩; (try first | exact ⟨rfl, _, World.drewN_drewN _ _ _⟩ | exact ⟨rfl, _, Eq.trans (World.drewN_drewN _ _ _) (congrArg (World.drewN _) (Nat.add_assoc _ _ _))⟩)))
  repeat (go_quiet (first | (go_at_call 89; (with_reducible refine (natural_sign.calls (wrap64 ((l0.length : Int) - (l1.length : Int))) t126 _ A10.out).mono ?_); rintro e w' ⟨rfl, ⟨nd, rfl⟩⟩; (try first | exact ⟨rfl, _, World.drewN_drewN _ _ _⟩ | exact ⟨rfl, _, Eq.trans (World.drewN_drewN _ _ _) (congrArg (World.drewN _) (Nat.add_assoc _ _ _))⟩))); try go_wp2_with (first | (go_at_call 89; (with_reducible refine (natural_sign.calls (wrap64 ((l0.length : Int) - (l1.length : Int))) t126 _ A10.out).mono ?_); rintro e w' ⟨rfl, ⟨nd, rfl⟩⟩; (try first | exact ⟨rfl, _, World.drewN_drewN _ _ _⟩ | exact ⟨rfl, _, Eq.trans (World.drewN_drewN _ _ _) (congrArg (World.drewN _) (Nat.add_assoc _ _ _))⟩))))
  go_ret
  exact ⟨by first | rfl | (simp; done) | (simp [*]; done), by repeat (first | exact Drawn0.refl _ | apply Drawn0.step)⟩
 rw [if_pos c3] at H
 have c3b0 : ((l0.length : Int) == (l1.length : Int)) = true := beq_iff_eq.mpr c3
 have c3b1 : ((l0.length : Int) != (l1.length : Int)) = false := bne_eq_false_iff_eq.mpr c3
 have c3b2 : (l0.length == l1.length) = true := by first | simpa using c3 | (simp at c3 ⊢; omega)
 clear c3
 have H' := Aside0.mk H
 clear H
 go_enter Tryd.func77, Tryd.ntmps77
 go_wp2
 repeat (go_quiet (fail); try go_wp2)
 go_loopg [5] k (fun kq v5 w' => ∃ (x5_1 : Int), v5 = .int .i64 x5_1 ∧ Aside0 (natural_compare.l0 kq l0 l1 x5_1 = some r) ∧ Aside0 (kq ≤ k) ∧ Drawn0 w w')
 case atStart => exact ⟨(wrap64 ((l0.length : Int) - 1)), (by first | rfl | (simp; done) | (simp [*]; done)), H', ⟨Nat.le_refl _⟩, by repeat (first | exact Drawn0.refl _ | apply Drawn0.step)⟩
 case round =>
  clear H'
  try clear c1
  try clear p2
  try clear c3
  try clear c3b0
  try clear c3b1
  try clear c3b2
  obtain ⟨x5_1, rfl, HA, HK1, ⟨m1, rfl⟩⟩ := hrel
  cases gk with
  | zero => exact absurd HA.out (by simp [natural_compare.l0])
  | succ k1 =>
   have H := HA.out
   clear HA
   simp only [natural_compare.l0] at H
   by_cases c4 : x5_1 ≥ 0
   rotate_left
   ·rw [if_neg c4] at H
    have c4b0 : decide (0 ≤ x5_1) = false := decide_eq_false c4
    clear c4
    obtain rfl := Option.some.inj H
    go_wp2
    repeat (go_quiet (fail); try go_wp2)
    go_ret
    exact ⟨by first | rfl | (simp; done) | (simp [*]; done), by repeat (first | exact Drawn0.refl _ | apply Drawn0.step)⟩
   rw [if_pos c4] at H
   have c4b0 : decide (0 ≤ x5_1) = true := decide_eq_true c4
   clear c4
   by_cases c5 : 0 ≤ x5_1
   rotate_left
   ·rw [if_neg c5] at H
    exact absurd H (by simp)
   rw [if_pos c5] at H
   have c5b0 : decide (0 ≤ x5_1) = true := decide_eq_true c5
   clear c5
   by_cases c6 : x5_1 < (l0.length : Int)
   rotate_left
   ·rw [if_neg c6] at H
    exact absurd H (by simp)
   rw [if_pos c6] at H
   have c6b0 : decide (x5_1 < (l0.length : Int)) = true := decide_eq_true c6
   clear c6
   by_cases c7 : x5_1 < (l1.length : Int)
   rotate_left
   ·rw [if_neg c7] at H
    exact absurd H (by simp)
   rw [if_pos c7] at H
   have c7b0 : decide (x5_1 < (l1.length : Int)) = true := decide_eq_true c7
   clear c7
   by_cases c8 : (rd l0 x5_1) = (rd l1 x5_1)
   ·rw [if_pos c8] at H
    have c8b0 : ((rd l0 x5_1) == (rd l1 x5_1)) = true := beq_iff_eq.mpr c8
    have c8b1 : ((rd l0 x5_1) != (rd l1 x5_1)) = false := bne_eq_false_iff_eq.mpr c8
    clear c8
    have H' := Aside0.mk H
    clear H
    have p127 : 0 ≤ (x5_1 : Int) := of_decide_eq_true (by first | (with_reducible assumption) | assumption)
    have q127 : x5_1 < (l0.length : Int) := of_decide_eq_true (by first | (with_reducible assumption) | assumption)
    obtain ⟨ad127, e127, hx127_0⟩ := Kd.at_int HR0.out x5_1 p127 q127
    cases e127
    replace p127 := eq_true p127
    replace q127 := eq_true q127
    have p128 : 0 ≤ (x5_1 : Int) := of_decide_eq_true (by first | (with_reducible assumption) | assumption)
    have q128 : x5_1 < (l1.length : Int) := of_decide_eq_true (by first | (with_reducible assumption) | assumption)
    obtain ⟨ad128, e128, hx128_0⟩ := Kd.at_int HR1.out x5_1 p128 q128
    cases e128
    replace p128 := eq_true p128
    replace q128 := eq_true q128
    go_wp2
    repeat (go_quiet (fail); try go_wp2)
    go_roundg k1
    case measure => have := HK1.out; omega
    case rel => exact ⟨(wrap64 (x5_1 - 1)), (by first | rfl | (simp; done) | (simp [*]; done)), H', ⟨by have := HK1.out; omega⟩, by repeat (first | exact Drawn0.refl _ | apply Drawn0.step)⟩
   rw [if_neg c8] at H
   have c8b0 : ((rd l0 x5_1) == (rd l1 x5_1)) = false := beq_eq_false_iff_ne.mpr c8
   have c8b1 : ((rd l0 x5_1) != (rd l1 x5_1)) = true := bne_iff_ne.mpr c8
   by_cases c9 : (rd l0 x5_1) < (rd l1 x5_1)
   ·rw [if_pos c9] at H
    have c9b0 : decide ((rd l0 x5_1) < (rd l1 x5_1)) = true := decide_eq_true c9
    clear c9
    obtain rfl := Option.some.inj H
    have p127 : 0 ≤ (x5_1 : Int) := of_decide_eq_true (by first | (with_reducible assumption) | assumption)
    have q127 : x5_1 < (l0.length : Int) := of_decide_eq_true (by first | (with_reducible assumption) | assumption)
    obtain ⟨ad127, e127, hx127_0⟩ := Kd.at_int HR0.out x5_1 p127 q127
    cases e127
    replace p127 := eq_true p127
    replace q127 := eq_true q127
    have p128 : 0 ≤ (x5_1 : Int) := of_decide_eq_true (by first | (with_reducible assumption) | assumption)
    have q128 : x5_1 < (l1.length : Int) := of_decide_eq_true (by first | (with_reducible assumption) | assumption)
    obtain ⟨ad128, e128, hx128_0⟩ := Kd.at_int HR1.out x5_1 p128 q128
    cases e128
    replace p128 := eq_true p128
    replace q128 := eq_true q128
    have p129 : 0 ≤ (x5_1 : Int) := of_decide_eq_true (by first | (with_reducible assumption) | assumption)
    have q129 : x5_1 < (l0.length : Int) := of_decide_eq_true (by first | (with_reducible assumption) | assumption)
    obtain ⟨ad129, e129, hx129_0⟩ := Kd.at_int HR0.out x5_1 p129 q129
    obtain rfl : ad127 = ad129 := (by injection e129)
    replace p129 := eq_true p129
    replace q129 := eq_true q129
    have p130 : 0 ≤ (x5_1 : Int) := of_decide_eq_true (by first | (with_reducible assumption) | assumption)
    have q130 : x5_1 < (l1.length : Int) := of_decide_eq_true (by first | (with_reducible assumption) | assumption)
    obtain ⟨ad130, e130, hx130_0⟩ := Kd.at_int HR1.out x5_1 p130 q130
    obtain rfl : ad128 = ad130 := (by injection e130)
    replace p130 := eq_true p130
    replace q130 := eq_true q130
    go_wp2
    repeat (go_quiet (fail); try go_wp2)
    go_ret
    exact ⟨by first | rfl | (simp; done) | (simp [*]; done), by repeat (first | exact Drawn0.refl _ | apply Drawn0.step)⟩
   rw [if_neg c9] at H
   have c9b0 : decide ((rd l0 x5_1) < (rd l1 x5_1)) = false := decide_eq_false c9
   clear c9
   obtain rfl := Option.some.inj H
   have p127 : 0 ≤ (x5_1 : Int) := of_decide_eq_true (by first | (with_reducible assumption) | assumption)
   have q127 : x5_1 < (l0.length : Int) := of_decide_eq_true (by first | (with_reducible assumption) | assumption)
   obtain ⟨ad127, e127, hx127_0⟩ := Kd.at_int HR0.out x5_1 p127 q127
   cases e127
   replace p127 := eq_true p127
   replace q127 := eq_true q127
   have p128 : 0 ≤ (x5_1 : Int) := of_decide_eq_true (by first | (with_reducible assumption) | assumption)
   have q128 : x5_1 < (l1.length : Int) := of_decide_eq_true (by first | (with_reducible assumption) | assumption)
   obtain ⟨ad128, e128, hx128_0⟩ := Kd.at_int HR1.out x5_1 p128 q128
   cases e128
   replace p128 := eq_true p128
   replace q128 := eq_true q128
   have p129 : 0 ≤ (x5_1 : Int) := of_decide_eq_true (by first | (with_reducible assumption) | assumption)
   have q129 : x5_1 < (l0.length : Int) := of_decide_eq_true (by first | (with_reducible assumption) | assumption)
   obtain ⟨ad129, e129, hx129_0⟩ := Kd.at_int HR0.out x5_1 p129 q129
   obtain rfl : ad127 = ad129 := (by injection e129)
   replace p129 := eq_true p129
   replace q129 := eq_true q129
   have p130 : 0 ≤ (x5_1 : Int) := of_decide_eq_true (by first | (with_reducible assumption) | assumption)
   have q130 : x5_1 < (l1.length : Int) := of_decide_eq_true (by first | (with_reducible assumption) | assumption)
   obtain ⟨ad130, e130, hx130_0⟩ := Kd.at_int HR1.out x5_1 p130 q130
   obtain rfl : ad128 = ad130 := (by injection e130)
   replace p130 := eq_true p130
   replace q130 := eq_true q130
   go_wp2
   repeat (go_quiet (fail); try go_wp2)
   go_ret
   exact ⟨by first | rfl | (simp; done) | (simp [*]; done), by repeat (first | exact Drawn0.refl _ | apply Drawn0.step)⟩
end Go.Proofs.YtfnfjmeiaamheaaDoor.PA
namespace Go.Proofs.YtfnfjmeiaamheaaDoor.PA
open Go.RowKit Go.Proofs.YtfnfjmeiaamheaaDoorW.PrintWords Go.Proofs.YtfnfjmeiaamheaaDoorW.PrintLast Go.Proofs.YtfnfjmeiaamheaaDoorW.PrintMore
attribute [local go_sem] max2_int min2_int max_two min_two max_three min_three max_four min_four
def natural_divideSmall.l0 : Nat → List Int → Int → List Int → Int → Int → Option (List Int × Int)
 | 0, _, _, _, _, _ => none
 | k + 1, x0, x1, x6, x7, x8 => if x8 ≥ 0 then (if 0 ≤ x8 then (if x8 < (x0.length : Int) then (if (IntKind.u64.wrap (x1)) = 0 then (none) else (if x8 < (x6.length : Int) then (natural_divideSmall.l0 k x0 x1 (x6.set (x8 : Int).toNat ((IntKind.u64.wrap (Int.tdiv (Go.bits .or .u64 (IntKind.u64.wrap (x7 * 4294967296)) (IntKind.u64.wrap (rd x0 x8))) (IntKind.u64.wrap (x1)))) % 4294967296)) (Int.tmod (Go.bits .or .u64 (IntKind.u64.wrap (x7 * 4294967296)) (IntKind.u64.wrap (rd x0 x8))) (IntKind.u64.wrap (x1))) (wrap64 (x8 - 1))) else (none))) else (none)) else (none)) else ((natural_limbs_trim.f k x6).bind fun t136 => (some (t136, (x7) % 4294967296)))
def natural_divideSmall.f (k : Nat) (l0 : List Int) (a1 : Int) : Option (List Int × Int) := if 0 ≤ (l0.length : Int) then (if ((l0.length : Int) : Int).toNat ≤ 70368744177664 then (natural_divideSmall.l0 k l0 a1 (List.replicate ((l0.length : Int) : Int).toNat 0) 0 (wrap64 ((l0.length : Int) - 1))) else (none)) else (none)
theorem natural_divideSmall.mono_l : ∀ k, (∀ y0 y1 y2 y3 y4, LeO (natural_divideSmall.l0 k y0 y1 y2 y3 y4) (natural_divideSmall.l0 (k + 1) y0 y1 y2 y3 y4))
 | 0 => fun _ _ _ _ _ r h => by simp [natural_divideSmall.l0] at h
 | k + 1 => by
  have ih0 := natural_divideSmall.mono_l k
  intro y0 y1 y2 y3 y4
  unfold natural_divideSmall.l0
  repeat' first
  | (with_reducible exact ih0 _ _ _ _ _)
  | (with_reducible exact natural_limbs_trim.mono _ _)
  | (with_reducible exact LeO.refl _)
  | (with_reducible exact LeO.none _)
  | (with_reducible refine LeO.ite ?_ ?_)
  | (with_reducible refine LeO.bind ?_ (fun _ => ?_))
  | exact ih0 _ _ _ _ _
  | exact natural_limbs_trim.mono _ _
  | exact LeO.none _
  | refine LeO.ite ?_ ?_
  | refine LeO.bind ?_ (fun _ => ?_)
theorem natural_divideSmall.mono : ∀ a0 a1 k, LeO (natural_divideSmall.f k a0 a1) (natural_divideSmall.f (k + 1) a0 a1) := by
 intro a0 a1 k
 have ih0 := natural_divideSmall.mono_l k
 unfold natural_divideSmall.f
 repeat' first
  | (with_reducible exact ih0 _ _ _ _ _)
  | (with_reducible exact natural_limbs_trim.mono _ _)
  | (with_reducible exact LeO.refl _)
  | (with_reducible exact LeO.none _)
  | (with_reducible refine LeO.ite ?_ ?_)
  | (with_reducible refine LeO.bind ?_ (fun _ => ?_))
  | exact ih0 _ _ _ _ _
  | exact natural_limbs_trim.mono _ _
  | exact LeO.none _
  | refine LeO.ite ?_ ?_
  | refine LeO.bind ?_ (fun _ => ?_)
set_option maxHeartbeats 8000000 in
set_option maxRecDepth 100000 in
theorem natural_divideSmall.calls (k : Nat) (A0 : Option Addr) (c0 : Nat) (l0 : List Int) (a1 : Int) (r1 : List Int) (r2 : Int) (w : World) (hr0 : Kd.C (Kd.int .u32) w A0 l0.length l0) (hc0 : l0.length ≤ c0) (h : natural_divideSmall.f k l0 a1 = some (r1, r2)) :
  Calls Tryd.prog 78 #[.slice A0 l0.length c0, .int .u32 a1] w fun e w' => ∃ v0_ : Value, e = .returned (.tuple #[v0_, .int .u32 r2]) ∧ Kd.V (Kd.int .u32) 88 w' w.heap.size (fun k_ => (w.heap.size ≤ k_)) v0_ r1 ∧ Below w.heap.size w w' := by
 have HR0 := Aside0.mk hr0
 have HC0 := Aside0.mk hc0
 clear hr0 hc0
 have HB := Aside0.mk (Below.refl w.heap.size w)
 have H : (if 0 ≤ (l0.length : Int) then (if ((l0.length : Int) : Int).toNat ≤ 70368744177664 then (natural_divideSmall.l0 k l0 a1 (List.replicate ((l0.length : Int) : Int).toNat 0) 0 (wrap64 ((l0.length : Int) - 1))) else (none)) else (none)) = some (r1, r2) := h
 clear h
 by_cases c3 : 0 ≤ (l0.length : Int)
 rotate_left
 ·rw [if_neg c3] at H
  exact absurd H (by simp)
 rw [if_pos c3] at H
 have c3b0 := eq_true c3
 have c3b1 : decide (0 ≤ (l0.length : Int)) = true := decide_eq_true c3
 clear c3
 by_cases c4 : ((l0.length : Int) : Int).toNat ≤ 70368744177664
 rotate_left
 ·rw [if_neg c4] at H
  exact absurd H (by simp)
 rw [if_pos c4] at H
 have c4b0 := eq_true c4
 have c4b1 : decide (((l0.length : Int) : Int).toNat ≤ 70368744177664) = true := decide_eq_true c4
 clear c4
 obtain ⟨y131, hy131⟩ : ∃ y_ : List Int, y_ = (List.replicate ((l0.length : Int) : Int).toNat 0) := ⟨_, rfl⟩
 replace H : (natural_divideSmall.l0 k l0 a1 y131 0 (wrap64 ((l0.length : Int) - 1))) = some (r1, r2) := by first | (rw [hy131]; with_reducible exact H) | (have H2_ := (Option.bind_some _ _).symm.trans H; rw [hy131]; with_reducible exact H2_) | (have H2_ := (Option.bind_some _ _).symm.trans H; with_reducible exact H2_) | with_reducible exact H | (rw [hy131]; exact H) | exact H
 have Ny131 := Aside0.mk hy131
 clear hy131
 have H' := Aside0.mk H
 clear H
 go_enter Tryd.func78, Tryd.ntmps78
 go_wp2_with (first | ((with_reducible refine gate_dst (N := 12) rfl ?_); refine Kd.R_make (Kd.int .u32) _ 88 rfl (N := 12) rfl 83 _ _ rfl (l0.length : Int) rfl rfl Tryd.underlying83 (.int .u32 0) 4 info88 rfl (by decide) (by omega) 0 (ok := fun _ => True) (okp := fun _ => True) rfl (fun _ hk => hk) trivial (of_decide_eq_true (by first | (with_reducible assumption) | assumption)) (Nat.le_trans (Nat.mul_le_mul_right _ (of_decide_eq_true (by first | (with_reducible assumption) | assumption) : (l0.length : Int).toNat ≤ 70368744177664)) (by omega)) (Below.refl _ _) (Nat.le_refl _) ?_; intro v132 w5 ho6 hb hg_ hnew_; clear hg_ hnew_; (first | rw [← Ny131.out] at ho6 | (simp only [Int.reduceToNat] at ho6; rw [← Ny131.out] at ho6)); have n0_ := Aside0.mk (Kd.R_lower (Kd.R_newM (M := fun k_ => (w.heap.size ≤ k_)) ho6 (below_size (by repeat (first | (with_reducible first | exact HB.out | apply below_alloc | apply pw_below_drewN | apply below_drew1) | exact HB.out))) (fun k_ h_ => h_)) (below_size (by repeat (first | (with_reducible first | exact HB.out | apply below_alloc | apply pw_below_drewN | apply below_drew1) | exact HB.out)))); have n1_ := Aside0.mk (below_step (by repeat (first | (with_reducible first | exact HB.out | apply below_alloc | apply pw_below_drewN | apply below_drew1) | exact HB.out)) hb); clear HB; have HO133 := n0_; have HB := n1_; clear n0_ n1_; clear hb ho6))
 go_loopg [7, 8] k (fun kq v7 v8 w' => ∃ (x6_1 : List Int) (x7_1 : Int) (x8_1 : Int), v7 = .int .u64 x7_1 ∧ v8 = .int .i64 x8_1 ∧ Aside0 (natural_divideSmall.l0 kq l0 a1 x6_1 x7_1 x8_1 = some (r1, r2)) ∧ Aside0 (kq ≤ k) ∧ Aside0 (Kd.R (Kd.int .u32) 88 w' w.heap.size (fun k_ => (w.heap.size ≤ k_)) v132 x6_1) ∧ Aside0 (Below w.heap.size w w'))
 case atStart => exact ⟨(y131), (0), (wrap64 ((l0.length : Int) - 1)), (by first | rfl | (simp; done) | (simp [*]; done)), (by first | rfl | (simp; done) | (simp [*]; done)), H', ⟨Nat.le_refl _⟩, ⟨by (with_reducible repeat (first | apply Kd.R_alloc | apply Kd.R_drewN | apply Kd.R_drew)); exact Kd.R_mono HO133.out (fun _ hk => hk.1)⟩, ⟨by repeat (first | (with_reducible first | exact HB.out | apply below_alloc | apply pw_below_drewN | apply below_drew1) | exact HB.out)⟩⟩
 case round =>
  clear H'
  try clear p2
  try clear c3
  try clear c3b0
  try clear c3b1
  try clear c4
  try clear c4b0
  try clear c4b1
  try clear p6
  obtain ⟨x6_1, x7_1, x8_1, rfl, rfl, HA, HK1, HO_6, HB⟩ := hrel
  cases gk with
  | zero => exact absurd HA.out (by simp [natural_divideSmall.l0])
  | succ k1 =>
   have H := HA.out
   clear HA
   simp only [natural_divideSmall.l0] at H
   by_cases c7 : x8_1 ≥ 0
   rotate_left
   ·rw [if_neg c7] at H
    have c7b0 : decide (0 ≤ x8_1) = false := decide_eq_false c7
    clear c7
    replace H := Option.bind_eq_some_iff.mp H
    obtain ⟨t136, A150, H⟩ := H
    replace H : (some (t136, (x7_1) % 4294967296)) = some (r1, r2) := H
    have A15 := Aside0.mk A150
    clear A150
    simp only [Option.some.injEq, Prod.mk.injEq] at H
    obtain ⟨rfl, rfl⟩ := H
    obtain ⟨Ao16, co16, eo16⟩ := Kd.R_slice HO_6.out
    subst eo16
    go_wp2_with (first | ((with_reducible refine gate_callee (f := 76) rfl ?_); refine goesL_ (some 41) rfl rfl Tryd.func76 (by kernel_rfl) rfl #[.slice Ao16 x6_1.length co16] rfl (by (try simp only [List.map_toArray, List.map_cons, List.map_nil]); first | done | rfl | (simp only [List.length_drop, List.length_take]; rfl)) ?_; (with_reducible refine (natural_limbs_trim.calls k1 (fun k_ => some k_ = (.slice Ao16 x6_1.length co16 : Value).ownBlock) _ _ x6_1 t136 _ ?side1 A15.out).mono ?_); (case side1 => exact Kd.R_V (Kd.R_tight rfl (HO_6.out))); rintro e w17 ⟨v137, rfl, ho0, hb⟩; refine ⟨_, rfl, ?_⟩; have n0_ := Aside0.mk (Kd.R_below (by (with_reducible repeat (first | apply Kd.R_alloc | apply Kd.R_drewN | apply Kd.R_drew)); exact HO_6.out) hb); have n1_ := Aside0.mk (Kd.V_lower (Kd.V_mono (ok' := fun k_ => (w.heap.size ≤ k_)) ho0 (fun k_ hk_ => Or.elim hk_ (fun hs_ => ((HO_6.out).1 k_ hs_.symm)) (fun hn_ => (Nat.le_trans (below_size (by repeat (first | (with_reducible first | exact HB.out | apply below_alloc | apply pw_below_drewN | apply below_drew1) | exact HB.out))) hn_)))) (below_size (by repeat (first | (with_reducible first | exact HB.out | apply below_alloc | apply pw_below_drewN | apply below_drew1) | exact HB.out)))); have n2_ := Aside0.mk (below_step (by repeat (first | (with_reducible first | exact HB.out | apply below_alloc | apply pw_below_drewN | apply below_drew1) | exact HB.out)) hb); clear HO_6; clear HB; have HO_6 := n0_; have HO138 := n1_; have HB := n2_; clear n0_ n1_ n2_; (try clear hb); (try clear hb2); (try clear hk); (try clear hi); (try clear ho0)))
    go_ret2
    exact ⟨_, by first | rfl | (simp [errW_none, errW_some] <;> rfl) | (simp [*, errW_none, errW_some] <;> rfl), by (with_reducible repeat (first | apply Kd.V_alloc | apply Kd.V_drewN | apply Kd.V_drew)); exact HO138.out, by repeat (first | (with_reducible first | exact HB.out | apply below_alloc | apply pw_below_drewN | apply below_drew1) | exact HB.out)⟩
   rw [if_pos c7] at H
   have c7b0 : decide (0 ≤ x8_1) = true := decide_eq_true c7
   clear c7
   by_cases c8 : 0 ≤ x8_1
   rotate_left
   ·rw [if_neg c8] at H
    exact absurd H (by simp)
   rw [if_pos c8] at H
   have c8b0 : decide (0 ≤ x8_1) = true := decide_eq_true c8
   clear c8
   by_cases c9 : x8_1 < (l0.length : Int)
   rotate_left
   ·rw [if_neg c9] at H
    exact absurd H (by simp)
   rw [if_pos c9] at H
   have c9b0 : decide (x8_1 < (l0.length : Int)) = true := decide_eq_true c9
   clear c9
   by_cases c10 : (IntKind.u64.wrap (a1)) = 0
   ·rw [if_pos c10] at H
    exact absurd H (by simp)
   rw [if_neg c10] at H
   have c10b0 : ((IntKind.u64.wrap (a1)) == 0) = false := beq_eq_false_iff_ne.mpr c10
   have c10b1 : ((IntKind.u64.wrap (a1)) != 0) = true := bne_iff_ne.mpr c10
   by_cases c11 : x8_1 < (x6_1.length : Int)
   rotate_left
   ·rw [if_neg c11] at H
    exact absurd H (by simp)
   rw [if_pos c11] at H
   have c11b0 : decide (x8_1 < (x6_1.length : Int)) = true := decide_eq_true c11
   clear c11
   obtain ⟨y135, hy135⟩ : ∃ y_ : List Int, y_ = (x6_1.set (x8_1 : Int).toNat ((IntKind.u64.wrap (Int.tdiv (Go.bits .or .u64 (IntKind.u64.wrap (x7_1 * 4294967296)) (IntKind.u64.wrap (rd l0 x8_1))) (IntKind.u64.wrap (a1)))) % 4294967296)) := ⟨_, rfl⟩
   replace H : (natural_divideSmall.l0 k1 l0 a1 y135 (Int.tmod (Go.bits .or .u64 (IntKind.u64.wrap (x7_1 * 4294967296)) (IntKind.u64.wrap (rd l0 x8_1))) (IntKind.u64.wrap (a1))) (wrap64 (x8_1 - 1))) = some (r1, r2) := by first | (rw [hy135]; with_reducible exact H) | (have H2_ := (Option.bind_some _ _).symm.trans H; rw [hy135]; with_reducible exact H2_) | (have H2_ := (Option.bind_some _ _).symm.trans H; with_reducible exact H2_) | with_reducible exact H | (rw [hy135]; exact H) | exact H
   have Ny135 := Aside0.mk hy135
   clear hy135
   have H' := Aside0.mk H
   clear H
   have p134 : 0 ≤ (x8_1 : Int) := of_decide_eq_true (by first | (with_reducible assumption) | assumption)
   have q134 : x8_1 < (l0.length : Int) := of_decide_eq_true (by first | (with_reducible assumption) | assumption)
   obtain ⟨ad134, e134, hx134_0⟩ := Kd.at_int HR0.out x8_1 p134 q134
   cases e134
   replace hx134_0 := (HB.out.cell (World.block_lt_of_cell? w _ hx134_0)).trans hx134_0
   replace p134 := eq_true p134
   replace q134 := eq_true q134
   have p12 : 0 ≤ (x8_1 : Int) := of_decide_eq_true (by first | (with_reducible assumption) | assumption)
   have q12 : (x8_1 : Int) < ((x6_1.length : Int) : Int) := of_decide_eq_true (by first | (with_reducible assumption) | assumption)
   obtain ⟨go12, co12, eo12, gb12, gl12, cl12, HG12⟩ := Kd.R_form HO_6.out (by omega)
   (first | cases eo12 | (injection eo12 with ea_ en_ ec_; (first | subst ea_ | (injection ea_ with ea_; subst ea_)); subst ec_; clear en_))
   have GB12 := Aside0.mk gb12
   have GG12 := Aside0.mk HG12
   clear gb12 gl12 HG12
   obtain ⟨hx12_0, hf12_0⟩ := Kd.R_celln 0 HO_6.out (x8_1 : Int) p12 q12
   replace p12 := eq_true p12
   replace q12 := eq_true q12
   have HP13 := Kd.R_putg HO_6.out (x8_1 : Int) ((IntKind.u64.wrap (Int.tdiv (Go.bits .or .u64 (IntKind.u64.wrap (x7_1 * 4294967296)) (IntKind.u64.wrap (rd l0 x8_1))) (IntKind.u64.wrap (a1)))) % 4294967296)
   go_wp2_with (first | ((with_reducible refine gate_store (t := 88) (p := 35) rfl ?_); refine store_event (t := 88) (p := 35) (v := ?vo_w14) (w1 := (wr.setCell ⟨go12, (x8_1 : Int).toNat, none⟩ (.int .u32 ((IntKind.u64.wrap (Int.tdiv (Go.bits .or .u64 (IntKind.u64.wrap (x7_1 * 4294967296)) (IntKind.u64.wrap (rd l0 x8_1))) (IntKind.u64.wrap (a1)))) % 4294967296)))) ?hg ?ho ?hn ?hr ?_; (case ho => rfl); (case hg => rfl); (case hn => rfl); (case hr => first | (go_simp; done) | (go_simp; rfl)); intro w14 hw; have hg : wr.grownBy w14 (some go12) := (by rw [hw]; exact HP13.2); have hp_ : Kd.R (Kd.int .u32) 88 w14 w.heap.size (fun k_ => (w.heap.size ≤ k_)) (.slice (some ⟨go12, 0, none⟩) x6_1.length co12) y135 := (by rw [hw, Ny135.out]; exact HP13.1); clear HP13; have n0_ := Aside0.mk (hp_); have n1_ := Aside0.mk ((by rw [hw]; exact below_set (HB.out) GB12.out : Below w.heap.size w w14)); clear HO_6; clear HB; have HO_6 := n0_; have HB := n1_; clear n0_ n1_; clear hg hw hp_))
   go_roundg k1
   case measure => have := HK1.out; omega
   case rel => exact ⟨(y135), (Int.tmod (Go.bits .or .u64 (IntKind.u64.wrap (x7_1 * 4294967296)) (IntKind.u64.wrap (rd l0 x8_1))) (IntKind.u64.wrap (a1))), (wrap64 (x8_1 - 1)), (by first | rfl | (simp; done) | (simp [*]; done)), (by first | rfl | (simp; done) | (simp [*]; done)), H', ⟨by have := HK1.out; omega⟩, ⟨by (with_reducible repeat (first | apply Kd.R_alloc | apply Kd.R_drewN | apply Kd.R_drew)); exact HO_6.out⟩, ⟨by repeat (first | (with_reducible first | exact HB.out | apply below_alloc | apply pw_below_drewN | apply below_drew1) | exact HB.out)⟩⟩
end Go.Proofs.YtfnfjmeiaamheaaDoor.PA
namespace Go.Proofs.YtfnfjmeiaamheaaDoor.PA
open Go.RowKit Go.Proofs.YtfnfjmeiaamheaaDoorW.PrintWords Go.Proofs.YtfnfjmeiaamheaaDoorW.PrintLast Go.Proofs.YtfnfjmeiaamheaaDoorW.PrintMore
def bits_LeadingZeros32.f (a0 : Int) : Option (Int) := if 0 ≤ a0 ∧ a0 ≤ 4294967295 then some (32 - (Lib.bitLen a0.toNat : Int)) else none
theorem bits_LeadingZeros32.calls (a0 : Int) (r : Int) (w : World) (h : bits_LeadingZeros32.f a0 = some r) :
  Calls Tryd.prog 79 #[.int .u32 a0] w fun e w' => e = .returned (.int .i64 r) ∧ Drawn0 w w' := by
 unfold bits_LeadingZeros32.f at h
 split at h
 ·rename_i hc
  injection h with h
  subst h
  refine (Tryd.bits_LeadingZeros32 a0 w hc.1 hc.2).mono ?_
  rintro e w' ⟨rfl, rfl⟩
  exact ⟨rfl, Drawn0.refl _⟩
 cases h
end Go.Proofs.YtfnfjmeiaamheaaDoor.PA
namespace Go.Proofs.YtfnfjmeiaamheaaDoor.PA
open Go.RowKit Go.Proofs.YtfnfjmeiaamheaaDoorW.PrintWords Go.Proofs.YtfnfjmeiaamheaaDoorW.PrintLast Go.Proofs.YtfnfjmeiaamheaaDoorW.PrintMore
attribute [local go_sem] max2_int min2_int max_two min_two max_three min_three max_four min_four
def natural_shift.l0 : Nat → Int → Int → List Int → List Int → Int → Int → Option (List Int)
 | 0, _, _, _, _, _, _ => none
 | k + 1, x1, x2, x7, x13, x14, x15 => if x15 < x14 then (if 0 ≤ x15 then (if x15 < (x13.length : Int) then (if 0 ≤ x1 then (if x15 < (x7.length : Int) then ((some (x7.set (x15 : Int).toNat (Go.bits .or .u32 (rd x7 x15) ((shl .u64 (IntKind.u64.wrap (rd x13 x15)) x1) % 4294967296)) : List Int)).bind fun y144 => (if (wrap64 (x15 + 1)) < x2 then (if 0 ≤ (wrap64 (x15 + 1)) then (if (wrap64 (x15 + 1)) < (x7.length : Int) then (natural_shift.l0 k x1 x2 (y144.set ((wrap64 (x15 + 1)) : Int).toNat (Go.bits .or .u32 (rd y144 (wrap64 (x15 + 1))) (((shl .u64 (IntKind.u64.wrap (rd x13 x15)) x1) / 4294967296) % 4294967296))) x13 x14 (wrap64 (x15 + 1))) else (none)) else (none)) else (natural_shift.l0 k x1 x2 y144 x13 x14 (wrap64 (x15 + 1))))) else (none)) else (none)) else (none)) else (none)) else (some x7)
def natural_shift.f (k : Nat) (l0 : List Int) (a1 : Int) (a2 : Int) : Option (List Int) := if 0 ≤ a2 then (if (a2 : Int).toNat ≤ 70368744177664 then (natural_shift.l0 k a1 a2 (List.replicate (a2 : Int).toNat 0) l0 (l0.length : Int) 0) else (none)) else (none)
theorem natural_shift.mono_l : ∀ k, (∀ y0 y1 y2 y3 y4 y5, LeO (natural_shift.l0 k y0 y1 y2 y3 y4 y5) (natural_shift.l0 (k + 1) y0 y1 y2 y3 y4 y5))
 | 0 => fun _ _ _ _ _ _ r h => by simp [natural_shift.l0] at h
 | k + 1 => by
  have ih0 := natural_shift.mono_l k
  intro y0 y1 y2 y3 y4 y5
  unfold natural_shift.l0
  repeat' first
  | (with_reducible exact ih0 _ _ _ _ _ _)
  | (with_reducible exact LeO.refl _)
  | (with_reducible exact LeO.none _)
  | (with_reducible refine LeO.ite ?_ ?_)
  | (with_reducible refine LeO.bind ?_ (fun _ => ?_))
  | exact ih0 _ _ _ _ _ _
  | exact LeO.none _
  | refine LeO.ite ?_ ?_
  | refine LeO.bind ?_ (fun _ => ?_)
theorem natural_shift.mono : ∀ a0 a1 a2 k, LeO (natural_shift.f k a0 a1 a2) (natural_shift.f (k + 1) a0 a1 a2) := by
 intro a0 a1 a2 k
 have ih0 := natural_shift.mono_l k
 unfold natural_shift.f
 repeat' first
  | (with_reducible exact ih0 _ _ _ _ _ _)
  | (with_reducible exact LeO.refl _)
  | (with_reducible exact LeO.none _)
  | (with_reducible refine LeO.ite ?_ ?_)
  | (with_reducible refine LeO.bind ?_ (fun _ => ?_))
  | exact ih0 _ _ _ _ _ _
  | exact LeO.none _
  | refine LeO.ite ?_ ?_
  | refine LeO.bind ?_ (fun _ => ?_)
set_option maxHeartbeats 8000000 in
set_option maxRecDepth 100000 in
theorem natural_shift.calls (k : Nat) (A0 : Option Addr) (c0 : Nat) (l0 : List Int) (a1 : Int) (a2 : Int) (r : List Int) (w : World) (hr0 : Kd.C (Kd.int .u32) w A0 l0.length l0) (hc0 : l0.length ≤ c0) (h : natural_shift.f k l0 a1 a2 = some r) :
  Calls Tryd.prog 80 #[.slice A0 l0.length c0, .int .u64 a1, .int .i64 a2] w fun e w' => ∃ v0_ : Value, e = .returned (v0_) ∧ Kd.R (Kd.int .u32) 88 w' w.heap.size (fun _ => True) v0_ r ∧ Below w.heap.size w w' := by
 have HR0 := Aside0.mk hr0
 have HC0 := Aside0.mk hc0
 clear hr0 hc0
 have HB := Aside0.mk (Below.refl w.heap.size w)
 have H : (if 0 ≤ a2 then (if (a2 : Int).toNat ≤ 70368744177664 then (natural_shift.l0 k a1 a2 (List.replicate (a2 : Int).toNat 0) l0 (l0.length : Int) 0) else (none)) else (none)) = some r := h
 clear h
 by_cases c4 : 0 ≤ a2
 rotate_left
 ·rw [if_neg c4] at H
  exact absurd H (by simp)
 rw [if_pos c4] at H
 have c4b0 := eq_true c4
 have c4b1 : decide (0 ≤ a2) = true := decide_eq_true c4
 clear c4
 by_cases c5 : (a2 : Int).toNat ≤ 70368744177664
 rotate_left
 ·rw [if_neg c5] at H
  exact absurd H (by simp)
 rw [if_pos c5] at H
 have c5b0 := eq_true c5
 have c5b1 : decide ((a2 : Int).toNat ≤ 70368744177664) = true := decide_eq_true c5
 clear c5
 obtain ⟨y139, hy139⟩ : ∃ y_ : List Int, y_ = (List.replicate (a2 : Int).toNat 0) := ⟨_, rfl⟩
 replace H : (natural_shift.l0 k a1 a2 y139 l0 (l0.length : Int) 0) = some r := by first | (rw [hy139]; with_reducible exact H) | (have H2_ := (Option.bind_some _ _).symm.trans H; rw [hy139]; with_reducible exact H2_) | (have H2_ := (Option.bind_some _ _).symm.trans H; with_reducible exact H2_) | with_reducible exact H | (rw [hy139]; exact H) | exact H
 have Ny139 := Aside0.mk hy139
 clear hy139
 have H' := Aside0.mk H
 clear H
 go_enter Tryd.func80, Tryd.ntmps80
 go_wp2_with (first | ((with_reducible refine gate_dst (N := 12) rfl ?_); refine Kd.R_make (Kd.int .u32) _ 88 rfl (N := 12) rfl 83 _ _ rfl a2 rfl rfl Tryd.underlying83 (.int .u32 0) 4 info88 rfl (by decide) (by omega) 0 (ok := fun _ => True) (okp := fun _ => True) rfl (fun _ hk => hk) trivial (of_decide_eq_true (by first | (with_reducible assumption) | assumption)) (Nat.le_trans (Nat.mul_le_mul_right _ (of_decide_eq_true (by first | (with_reducible assumption) | assumption) : a2.toNat ≤ 70368744177664)) (by omega)) (Below.refl _ _) (Nat.le_refl _) ?_; intro v140 w6 ho7 hb hg_ hnew_; clear hg_ hnew_; (first | rw [← Ny139.out] at ho7 | (simp only [Int.reduceToNat] at ho7; rw [← Ny139.out] at ho7)); have n0_ := Aside0.mk (Kd.R_lower ho7 (below_size (by repeat (first | (with_reducible first | exact HB.out | apply below_alloc | apply pw_below_drewN | apply below_drew1) | exact HB.out)))); have n1_ := Aside0.mk (below_step (by repeat (first | (with_reducible first | exact HB.out | apply below_alloc | apply pw_below_drewN | apply below_drew1) | exact HB.out)) hb); clear HB; have HO141 := n0_; have HB := n1_; clear n0_ n1_; clear hb ho7))
 go_loopg [15] k (fun kq v15 w' => ∃ (x7_1 : List Int) (x15_1 : Int), v15 = .int .i64 x15_1 ∧ Aside0 (natural_shift.l0 kq a1 a2 x7_1 l0 (l0.length : Int) x15_1 = some r) ∧ Aside0 (kq ≤ k) ∧ Aside0 (Kd.R (Kd.int .u32) 88 w' w.heap.size (fun _ => True) v140 x7_1) ∧ Aside0 (Below w.heap.size w w'))
 case atStart => exact ⟨(y139), (0), (by first | rfl | (simp; done) | (simp [*]; done)), H', ⟨Nat.le_refl _⟩, ⟨by (with_reducible repeat (first | apply Kd.R_alloc | apply Kd.R_drewN | apply Kd.R_drew)); exact HO141.out⟩, ⟨by repeat (first | (with_reducible first | exact HB.out | apply below_alloc | apply pw_below_drewN | apply below_drew1) | exact HB.out)⟩⟩
 case round =>
  clear H'
  try clear p2
  try clear c4
  try clear c4b0
  try clear c4b1
  try clear c5
  try clear c5b0
  try clear c5b1
  obtain ⟨x7_1, x15_1, rfl, HA, HK1, HO_7, HB⟩ := hrel
  cases gk with
  | zero => exact absurd HA.out (by simp [natural_shift.l0])
  | succ k1 =>
   have H := HA.out
   clear HA
   simp only [natural_shift.l0] at H
   by_cases c8 : x15_1 < (l0.length : Int)
   rotate_left
   ·rw [if_neg c8] at H
    have c8b0 : decide (x15_1 < (l0.length : Int)) = false := decide_eq_false c8
    clear c8
    obtain rfl := Option.some.inj H
    go_wp2
    go_ret
    exact ⟨_, by first | rfl | (simp [errW_none, errW_some] <;> rfl) | (simp [*, errW_none, errW_some] <;> rfl), by (with_reducible repeat (first | apply Kd.R_alloc | apply Kd.R_drewN | apply Kd.R_drew)); exact HO_7.out, by repeat (first | (with_reducible first | exact HB.out | apply below_alloc | apply pw_below_drewN | apply below_drew1) | exact HB.out)⟩
   rw [if_pos c8] at H
   have c8b0 : decide (x15_1 < (l0.length : Int)) = true := decide_eq_true c8
   clear c8
   by_cases c9 : 0 ≤ x15_1
   rotate_left
   ·rw [if_neg c9] at H
    exact absurd H (by simp)
   rw [if_pos c9] at H
   have c9b0 : decide (0 ≤ x15_1) = true := decide_eq_true c9
   clear c9
   by_cases c10 : x15_1 < (l0.length : Int)
   rotate_left
   ·rw [if_neg c10] at H
    exact absurd H (by simp)
   rw [if_pos c10] at H
   have c10b0 : decide (x15_1 < (l0.length : Int)) = true := decide_eq_true c10
   clear c10
   by_cases c11 : 0 ≤ a1
   rotate_left
   ·rw [if_neg c11] at H
    exact absurd H (by simp)
   rw [if_pos c11] at H
   have c11b0 := eq_true c11
   have c11b1 : decide (0 ≤ a1) = true := decide_eq_true c11
   clear c11
   obtain ⟨ji12, hji12⟩ : ∃ j_ : Int, (shl .u64 (IntKind.u64.wrap (rd l0 x15_1)) a1) = j_ := ⟨_, rfl⟩
   replace H : (if x15_1 < (x7_1.length : Int) then ((some (x7_1.set (x15_1 : Int).toNat (Go.bits .or .u32 (rd x7_1 x15_1) ((ji12) % 4294967296)) : List Int)).bind fun y144 => (if (wrap64 (x15_1 + 1)) < a2 then (if 0 ≤ (wrap64 (x15_1 + 1)) then (if (wrap64 (x15_1 + 1)) < (x7_1.length : Int) then (natural_shift.l0 k1 a1 a2 (y144.set ((wrap64 (x15_1 + 1)) : Int).toNat (Go.bits .or .u32 (rd y144 (wrap64 (x15_1 + 1))) (((ji12) / 4294967296) % 4294967296))) l0 (l0.length : Int) (wrap64 (x15_1 + 1))) else (none)) else (none)) else (natural_shift.l0 k1 a1 a2 y144 l0 (l0.length : Int) (wrap64 (x15_1 + 1))))) else (none)) = some r := by first | (rw [hji12] at H; exact H) | (simp only [hji12] at H ⊢; exact H)
   have hji12_ : (IntKind.u64.wrap ((IntKind.u64.wrap (rd l0 x15_1)) * 2 ^ min a1.toNat 64)) = ji12 := hji12
   have hji12z : a1 ≤ 64 → (IntKind.u64.wrap ((IntKind.u64.wrap (rd l0 x15_1)) * 2 ^ a1.toNat)) = ji12 := shl_small hji12
   by_cases c13 : x15_1 < (x7_1.length : Int)
   rotate_left
   ·rw [if_neg c13] at H
    exact absurd H (by simp)
   rw [if_pos c13] at H
   have c13b0 : decide (x15_1 < (x7_1.length : Int)) = true := decide_eq_true c13
   clear c13
   obtain ⟨y144, hy144⟩ : ∃ y_ : List Int, y_ = (x7_1.set (x15_1 : Int).toNat (Go.bits .or .u32 (rd x7_1 x15_1) ((ji12) % 4294967296))) := ⟨_, rfl⟩
   replace H : (if (wrap64 (x15_1 + 1)) < a2 then (if 0 ≤ (wrap64 (x15_1 + 1)) then (if (wrap64 (x15_1 + 1)) < (x7_1.length : Int) then (natural_shift.l0 k1 a1 a2 (y144.set ((wrap64 (x15_1 + 1)) : Int).toNat (Go.bits .or .u32 (rd y144 (wrap64 (x15_1 + 1))) (((ji12) / 4294967296) % 4294967296))) l0 (l0.length : Int) (wrap64 (x15_1 + 1))) else (none)) else (none)) else (natural_shift.l0 k1 a1 a2 y144 l0 (l0.length : Int) (wrap64 (x15_1 + 1)))) = some r := by first | (rw [hy144]; with_reducible exact H) | (have H2_ := (Option.bind_some _ _).symm.trans H; rw [hy144]; with_reducible exact H2_) | (have H2_ := (Option.bind_some _ _).symm.trans H; with_reducible exact H2_) | with_reducible exact H | (rw [hy144]; exact H) | exact H
   have Ny144 := Aside0.mk hy144
   clear hy144
   by_cases c15 : (wrap64 (x15_1 + 1)) < a2
   rotate_left
   ·rw [if_neg c15] at H
    have c15b0 : decide ((wrap64 (x15_1 + 1)) < a2) = false := decide_eq_false c15
    clear c15
    have H' := Aside0.mk H
    clear H
    have p142 : 0 ≤ (x15_1 : Int) := of_decide_eq_true (by first | (with_reducible assumption) | assumption)
    have q142 : x15_1 < (l0.length : Int) := of_decide_eq_true (by first | (with_reducible assumption) | assumption)
    obtain ⟨ad142, e142, hx142_0⟩ := Kd.at_int HR0.out x15_1 p142 q142
    cases e142
    replace hx142_0 := (HB.out.cell (World.block_lt_of_cell? w _ hx142_0)).trans hx142_0
    replace p142 := eq_true p142
    replace q142 := eq_true q142
    obtain ⟨Ao25, co25, eo25⟩ := Kd.R_slice HO_7.out
    subst eo25
    have p143 : 0 ≤ (x15_1 : Int) := of_decide_eq_true (by first | (with_reducible assumption) | assumption)
    have q143 : x15_1 < (x7_1.length : Int) := of_decide_eq_true (by first | (with_reducible assumption) | assumption)
    obtain ⟨ad143, e143, hx143_0⟩ := Kd.at_int (Kd.R_reads' HO_7.out).2.2 x15_1 p143 q143
    cases e143
    replace p143 := eq_true p143
    replace q143 := eq_true q143
    have p14 : 0 ≤ (x15_1 : Int) := of_decide_eq_true (by first | (with_reducible assumption) | assumption)
    have q14 : (x15_1 : Int) < ((x7_1.length : Int) : Int) := of_decide_eq_true (by first | (with_reducible assumption) | assumption)
    obtain ⟨go14, co14, eo14, gb14, gl14, cl14, HG14⟩ := Kd.R_form HO_7.out (by omega)
    (first | cases eo14 | (injection eo14 with ea_ en_ ec_; (first | subst ea_ | (injection ea_ with ea_; subst ea_)); subst ec_; clear en_))
    have GB14 := Aside0.mk gb14
    have GG14 := Aside0.mk HG14
    clear gb14 gl14 HG14
    (first | simp only [add_plain] at hx143_0 | skip)
    obtain ⟨hx14_0, hf14_0⟩ := Kd.R_celln 0 HO_7.out (x15_1 : Int) p14 q14
    replace p14 := eq_true p14
    replace q14 := eq_true q14
    have HP26 := Kd.R_putg HO_7.out (x15_1 : Int) (Go.bits .or .u32 (rd x7_1 x15_1) ((ji12) % 4294967296))
    go_wp2_with (first | ((with_reducible refine gate_store (t := 88) (p := 31) rfl ?_); refine store_event (t := 88) (p := 31) (v := ?vo_w27) (w1 := (wr.setCell ⟨go14, (x15_1 : Int).toNat, none⟩ (.int .u32 (Go.bits .or .u32 (rd x7_1 x15_1) ((ji12) % 4294967296))))) ?hg ?ho ?hn ?hr ?_; (case ho => rfl); (case hg => rfl); (case hn => rfl); (case hr => first | (go_simp; done) | (go_simp; rfl)); intro w27 hw; have hg : wr.grownBy w27 (some go14) := (by rw [hw]; exact HP26.2); have hp_ : Kd.R (Kd.int .u32) 88 w27 w.heap.size (fun _ => True) (.slice (some ⟨go14, 0, none⟩) x7_1.length co25) y144 := (by rw [hw, Ny144.out]; exact HP26.1); clear HP26; have n0_ := Aside0.mk (hp_); have n1_ := Aside0.mk ((by rw [hw]; exact below_set (HB.out) GB14.out : Below w.heap.size w w27)); clear HO_7; clear HB; have HO_7 := n0_; have HB := n1_; clear n0_ n1_; clear hg hw hp_))
    go_roundg k1
    case measure => have := HK1.out; omega
    case rel => exact ⟨(y144), (wrap64 (x15_1 + 1)), (by first | rfl | (simp; done) | (simp [*]; done)), H', ⟨by have := HK1.out; omega⟩, ⟨by (with_reducible repeat (first | apply Kd.R_alloc | apply Kd.R_drewN | apply Kd.R_drew)); exact HO_7.out⟩, ⟨by repeat (first | (with_reducible first | exact HB.out | apply below_alloc | apply pw_below_drewN | apply below_drew1) | exact HB.out)⟩⟩
   rw [if_pos c15] at H
   have c15b0 : decide ((wrap64 (x15_1 + 1)) < a2) = true := decide_eq_true c15
   clear c15
   obtain ⟨ji16, hji16⟩ : ∃ j_ : Int, (wrap64 (x15_1 + 1)) = j_ := ⟨_, rfl⟩
   replace H : (if 0 ≤ (ji16) then (if (ji16) < (x7_1.length : Int) then (natural_shift.l0 k1 a1 a2 (y144.set ((ji16) : Int).toNat (Go.bits .or .u32 (rd y144 (ji16)) (((ji12) / 4294967296) % 4294967296))) l0 (l0.length : Int) ji16) else (none)) else (none)) = some r := by first | (rw [hji16] at H; exact H) | (simp only [hji16] at H ⊢; exact H)
   (try rw [hji16] at c15b0)
   have hji16w : (IntKind.i64.wrap (x15_1 + 1)) = ji16 := (i64_w _).trans hji16
   by_cases c17 : 0 ≤ (ji16)
   rotate_left
   ·rw [if_neg c17] at H
    exact absurd H (by simp)
   rw [if_pos c17] at H
   have c17b0 : decide (0 ≤ (ji16)) = true := decide_eq_true c17
   clear c17
   by_cases c18 : (ji16) < (x7_1.length : Int)
   rotate_left
   ·rw [if_neg c18] at H
    exact absurd H (by simp)
   rw [if_pos c18] at H
   have c18b0 : decide ((ji16) < (x7_1.length : Int)) = true := decide_eq_true c18
   clear c18
   obtain ⟨y146, hy146⟩ : ∃ y_ : List Int, y_ = (y144.set ((ji16) : Int).toNat (Go.bits .or .u32 (rd y144 (ji16)) (((ji12) / 4294967296) % 4294967296))) := ⟨_, rfl⟩
   replace H : (natural_shift.l0 k1 a1 a2 y146 l0 (l0.length : Int) ji16) = some r := by first | (rw [hy146]; with_reducible exact H) | (have H2_ := (Option.bind_some _ _).symm.trans H; rw [hy146]; with_reducible exact H2_) | (have H2_ := (Option.bind_some _ _).symm.trans H; with_reducible exact H2_) | with_reducible exact H | (rw [hy146]; exact H) | exact H
   have Ny146 := Aside0.mk hy146
   clear hy146
   have H' := Aside0.mk H
   clear H
   have p142 : 0 ≤ (x15_1 : Int) := of_decide_eq_true (by first | (with_reducible assumption) | assumption)
   have q142 : x15_1 < (l0.length : Int) := of_decide_eq_true (by first | (with_reducible assumption) | assumption)
   obtain ⟨ad142, e142, hx142_0⟩ := Kd.at_int HR0.out x15_1 p142 q142
   cases e142
   replace hx142_0 := (HB.out.cell (World.block_lt_of_cell? w _ hx142_0)).trans hx142_0
   replace p142 := eq_true p142
   replace q142 := eq_true q142
   obtain ⟨Ao20, co20, eo20⟩ := Kd.R_slice HO_7.out
   subst eo20
   have p143 : 0 ≤ (x15_1 : Int) := of_decide_eq_true (by first | (with_reducible assumption) | assumption)
   have q143 : x15_1 < (x7_1.length : Int) := of_decide_eq_true (by first | (with_reducible assumption) | assumption)
   obtain ⟨ad143, e143, hx143_0⟩ := Kd.at_int (Kd.R_reads' HO_7.out).2.2 x15_1 p143 q143
   cases e143
   replace p143 := eq_true p143
   replace q143 := eq_true q143
   have p14 : 0 ≤ (x15_1 : Int) := of_decide_eq_true (by first | (with_reducible assumption) | assumption)
   have q14 : (x15_1 : Int) < ((x7_1.length : Int) : Int) := of_decide_eq_true (by first | (with_reducible assumption) | assumption)
   obtain ⟨go14, co14, eo14, gb14, gl14, cl14, HG14⟩ := Kd.R_form HO_7.out (by omega)
   (first | cases eo14 | (injection eo14 with ea_ en_ ec_; (first | subst ea_ | (injection ea_ with ea_; subst ea_)); subst ec_; clear en_))
   have GB14 := Aside0.mk gb14
   have GG14 := Aside0.mk HG14
   clear gb14 gl14 HG14
   (first | simp only [add_plain] at hx143_0 | skip)
   obtain ⟨hx14_0, hf14_0⟩ := Kd.R_celln 0 HO_7.out (x15_1 : Int) p14 q14
   replace p14 := eq_true p14
   replace q14 := eq_true q14
   have HP21 := Kd.R_putg HO_7.out (x15_1 : Int) (Go.bits .or .u32 (rd x7_1 x15_1) ((ji12) % 4294967296))
   go_wp2_with (first | ((with_reducible refine gate_store (t := 88) (p := 31) rfl ?_); refine store_event (t := 88) (p := 31) (v := ?vo_w22) (w1 := (wr.setCell ⟨go14, (x15_1 : Int).toNat, none⟩ (.int .u32 (Go.bits .or .u32 (rd x7_1 x15_1) ((ji12) % 4294967296))))) ?hg ?ho ?hn ?hr ?_; (case ho => rfl); (case hg => rfl); (case hn => rfl); (case hr => first | (go_simp; done) | (go_simp; rfl)); intro w22 hw; have hg : wr.grownBy w22 (some go14) := (by rw [hw]; exact HP21.2); have hp_ : Kd.R (Kd.int .u32) 88 w22 w.heap.size (fun _ => True) (.slice (some ⟨go14, 0, none⟩) x7_1.length co20) y144 := (by rw [hw, Ny144.out]; exact HP21.1); clear HP21; have n0_ := Aside0.mk (hp_); have n1_ := Aside0.mk ((by rw [hw]; exact below_set (HB.out) GB14.out : Below w.heap.size w w22)); clear HO_7; clear HB; have HO_7 := n0_; have HB := n1_; clear n0_ n1_; clear hg hw hp_; have p145 : 0 ≤ ((ji16) : Int) := of_decide_eq_true (by first | (with_reducible assumption) | assumption); have q145 : (ji16) < (y144.length : Int) := (by have h_ : ((ji16) : Int) < ((x7_1.length : Int) : Int) := of_decide_eq_true (by first | (with_reducible assumption) | assumption); first | (have e_ := (Kd.R_reads' HO_7.out).1; omega) | simpa only [Ny144.out, List.length_set] using h_); have ql145 : (((ji16) : Int) < ((x7_1.length : Int) : Int)) = True := eq_true (of_decide_eq_true (by first | (with_reducible assumption) | assumption)); obtain ⟨ad145, e145, hx145_0⟩ := Kd.at_int (Kd.R_reads' HO_7.out).2.2 (ji16) p145 q145; obtain rfl : (⟨go14, 0, none⟩ : Addr) = ad145 := (by injection e145); (first | simp only [add_plain] at hx145_0 | simp only [add_at] at hx145_0 | simp only [Addr.add, Nat.zero_add] at hx145_0 | skip); replace p145 := eq_true p145; replace q145 := eq_true q145; have p19 : 0 ≤ ((ji16) : Int) := of_decide_eq_true (by first | (with_reducible assumption) | assumption); have q19 : ((ji16) : Int) < ((x7_1.length : Int) : Int) := of_decide_eq_true (by first | (with_reducible assumption) | assumption); obtain ⟨hx19_0, hf19_0⟩ := Kd.R_celln 0 HO_7.out ((ji16) : Int) p19 q19; replace p19 := eq_true p19; replace q19 := eq_true q19; obtain ⟨hy23_, hz23_⟩ := Kd.R_celln 0 HO_7.out ((ji16) : Int) (of_decide_eq_true (by first | (with_reducible assumption) | assumption)) (of_decide_eq_true (by first | (with_reducible assumption) | assumption)); have HP23 := Kd.R_putg HO_7.out ((ji16) : Int) (Go.bits .or .u32 (rd y144 (ji16)) (((ji12) / 4294967296) % 4294967296))) | ((with_reducible refine gate_store (t := 88) (p := 45) rfl ?_); refine store_event (t := 88) (p := 45) (v := ?vo_w24) (w1 := (w22.setCell ⟨go14, ((ji16) : Int).toNat, none⟩ (.int .u32 (Go.bits .or .u32 (rd y144 (ji16)) (((ji12) / 4294967296) % 4294967296))))) ?hg ?ho ?hn ?hr ?_; (case ho => rfl); (case hg => rfl); (case hn => rfl); (case hr => first | (go_simp; done) | (go_simp; rfl)); intro w24 hw; have hg : w22.grownBy w24 (some go14) := (by rw [hw]; exact HP23.2); have hp_ : Kd.R (Kd.int .u32) 88 w24 w.heap.size (fun _ => True) (.slice (some ⟨go14, 0, none⟩) x7_1.length co20) y146 := (by rw [hw, Ny146.out]; exact HP23.1); clear HP23; have n0_ := Aside0.mk (hp_); have n1_ := Aside0.mk ((by rw [hw]; exact below_set (HB.out) GB14.out : Below w.heap.size w w24)); clear HO_7; clear HB; have HO_7 := n0_; have HB := n1_; clear n0_ n1_; clear hg hw hp_))
   go_roundg k1
   case measure => have := HK1.out; omega
   case rel => exact ⟨(y146), (ji16), (by first | rfl | (simp; done) | (simp only [← hji16] <;> (first | rfl | simp)) | (simp [*]; done)), H', ⟨by have := HK1.out; omega⟩, ⟨by (with_reducible repeat (first | apply Kd.R_alloc | apply Kd.R_drewN | apply Kd.R_drew)); exact HO_7.out⟩, ⟨by repeat (first | (with_reducible first | exact HB.out | apply below_alloc | apply pw_below_drewN | apply below_drew1) | exact HB.out)⟩⟩
end Go.Proofs.YtfnfjmeiaamheaaDoor.PA
namespace Go.Proofs.YtfnfjmeiaamheaaDoor.PA
open Go.RowKit Go.Proofs.YtfnfjmeiaamheaaDoorW.PrintWords Go.Proofs.YtfnfjmeiaamheaaDoorW.PrintLast Go.Proofs.YtfnfjmeiaamheaaDoorW.PrintMore
attribute [local go_sem] max2_int min2_int max_two min_two max_three min_three max_four min_four
def natural_unshift.l0 : Nat → List Int → Int → List Int → Int → Int → Option (List Int)
 | 0, _, _, _, _, _ => none
 | k + 1, x0, x1, x5, x12, x13 => if x13 < x12 then (if 0 ≤ x13 then (if x13 < (x0.length : Int) then (if (wrap64 (x13 + 1)) < (x0.length : Int) then (if 0 ≤ (wrap64 (x13 + 1)) then (if 0 ≤ x1 then (if x13 < (x5.length : Int) then (natural_unshift.l0 k x0 x1 (x5.set (x13 : Int).toNat ((shr .u64 (Go.bits .or .u64 (IntKind.u64.wrap (rd x0 x13)) (IntKind.u64.wrap ((IntKind.u64.wrap (rd x0 (wrap64 (x13 + 1)))) * 4294967296))) x1) % 4294967296)) x12 (wrap64 (x13 + 1))) else (none)) else (none)) else (none)) else (if 0 ≤ x1 then (if x13 < (x5.length : Int) then (natural_unshift.l0 k x0 x1 (x5.set (x13 : Int).toNat ((shr .u64 (IntKind.u64.wrap (rd x0 x13)) x1) % 4294967296)) x12 (wrap64 (x13 + 1))) else (none)) else (none))) else (none)) else (none)) else ((natural_limbs_trim.f k x5).bind fun t177 => (some t177))
def natural_unshift.f (k : Nat) (l0 : List Int) (a1 : Int) : Option (List Int) := if 0 ≤ (l0.length : Int) then (if ((l0.length : Int) : Int).toNat ≤ 70368744177664 then (natural_unshift.l0 k l0 a1 (List.replicate ((l0.length : Int) : Int).toNat 0) (l0.length : Int) 0) else (none)) else (none)
theorem natural_unshift.mono_l : ∀ k, (∀ y0 y1 y2 y3 y4, LeO (natural_unshift.l0 k y0 y1 y2 y3 y4) (natural_unshift.l0 (k + 1) y0 y1 y2 y3 y4))
 | 0 => fun _ _ _ _ _ r h => by simp [natural_unshift.l0] at h
 | k + 1 => by
  have ih0 := natural_unshift.mono_l k
  intro y0 y1 y2 y3 y4
  unfold natural_unshift.l0
  repeat' first
  | (with_reducible exact ih0 _ _ _ _ _)
  | (with_reducible exact natural_limbs_trim.mono _ _)
  | (with_reducible exact LeO.refl _)
  | (with_reducible exact LeO.none _)
  | (with_reducible refine LeO.ite ?_ ?_)
  | (with_reducible refine LeO.bind ?_ (fun _ => ?_))
  | exact ih0 _ _ _ _ _
  | exact natural_limbs_trim.mono _ _
  | exact LeO.none _
  | refine LeO.ite ?_ ?_
  | refine LeO.bind ?_ (fun _ => ?_)
theorem natural_unshift.mono : ∀ a0 a1 k, LeO (natural_unshift.f k a0 a1) (natural_unshift.f (k + 1) a0 a1) := by
 intro a0 a1 k
 have ih0 := natural_unshift.mono_l k
 unfold natural_unshift.f
 repeat' first
  | (with_reducible exact ih0 _ _ _ _ _)
  | (with_reducible exact natural_limbs_trim.mono _ _)
  | (with_reducible exact LeO.refl _)
  | (with_reducible exact LeO.none _)
  | (with_reducible refine LeO.ite ?_ ?_)
  | (with_reducible refine LeO.bind ?_ (fun _ => ?_))
  | exact ih0 _ _ _ _ _
  | exact natural_limbs_trim.mono _ _
  | exact LeO.none _
  | refine LeO.ite ?_ ?_
  | refine LeO.bind ?_ (fun _ => ?_)
set_option maxHeartbeats 8000000 in
set_option maxRecDepth 100000 in
theorem natural_unshift.calls (k : Nat) (A0 : Option Addr) (c0 : Nat) (l0 : List Int) (a1 : Int) (r : List Int) (w : World) (hr0 : Kd.C (Kd.int .u32) w A0 l0.length l0) (hc0 : l0.length ≤ c0) (h : natural_unshift.f k l0 a1 = some r) :
  Calls Tryd.prog 82 #[.slice A0 l0.length c0, .int .u64 a1] w fun e w' => ∃ v0_ : Value, e = .returned (v0_) ∧ Kd.V (Kd.int .u32) 88 w' w.heap.size (fun k_ => (w.heap.size ≤ k_)) v0_ r ∧ Below w.heap.size w w' := by
 have HR0 := Aside0.mk hr0
 have HC0 := Aside0.mk hc0
 clear hr0 hc0
 have HB := Aside0.mk (Below.refl w.heap.size w)
 have H : (if 0 ≤ (l0.length : Int) then (if ((l0.length : Int) : Int).toNat ≤ 70368744177664 then (natural_unshift.l0 k l0 a1 (List.replicate ((l0.length : Int) : Int).toNat 0) (l0.length : Int) 0) else (none)) else (none)) = some r := h
 clear h
 by_cases c3 : 0 ≤ (l0.length : Int)
 rotate_left
 ·rw [if_neg c3] at H
  exact absurd H (by simp)
 rw [if_pos c3] at H
 have c3b0 := eq_true c3
 have c3b1 : decide (0 ≤ (l0.length : Int)) = true := decide_eq_true c3
 clear c3
 by_cases c4 : ((l0.length : Int) : Int).toNat ≤ 70368744177664
 rotate_left
 ·rw [if_neg c4] at H
  exact absurd H (by simp)
 rw [if_pos c4] at H
 have c4b0 := eq_true c4
 have c4b1 : decide (((l0.length : Int) : Int).toNat ≤ 70368744177664) = true := decide_eq_true c4
 clear c4
 obtain ⟨y170, hy170⟩ : ∃ y_ : List Int, y_ = (List.replicate ((l0.length : Int) : Int).toNat 0) := ⟨_, rfl⟩
 replace H : (natural_unshift.l0 k l0 a1 y170 (l0.length : Int) 0) = some r := by first | (rw [hy170]; with_reducible exact H) | (have H2_ := (Option.bind_some _ _).symm.trans H; rw [hy170]; with_reducible exact H2_) | (have H2_ := (Option.bind_some _ _).symm.trans H; with_reducible exact H2_) | with_reducible exact H | (rw [hy170]; exact H) | exact H
 have Ny170 := Aside0.mk hy170
 clear hy170
 have H' := Aside0.mk H
 clear H
 go_enter Tryd.func82, Tryd.ntmps82
 go_wp2_with (first | ((with_reducible refine gate_dst (N := 10) rfl ?_); refine Kd.R_make (Kd.int .u32) _ 88 rfl (N := 10) rfl 83 _ _ rfl (l0.length : Int) rfl rfl Tryd.underlying83 (.int .u32 0) 4 info88 rfl (by decide) (by omega) 0 (ok := fun _ => True) (okp := fun _ => True) rfl (fun _ hk => hk) trivial (of_decide_eq_true (by first | (with_reducible assumption) | assumption)) (Nat.le_trans (Nat.mul_le_mul_right _ (of_decide_eq_true (by first | (with_reducible assumption) | assumption) : (l0.length : Int).toNat ≤ 70368744177664)) (by omega)) (Below.refl _ _) (Nat.le_refl _) ?_; intro v171 w5 ho6 hb hg_ hnew_; clear hg_ hnew_; (first | rw [← Ny170.out] at ho6 | (simp only [Int.reduceToNat] at ho6; rw [← Ny170.out] at ho6)); have n0_ := Aside0.mk (Kd.R_lower (Kd.R_newM (M := fun k_ => (w.heap.size ≤ k_)) ho6 (below_size (by repeat (first | (with_reducible first | exact HB.out | apply below_alloc | apply pw_below_drewN | apply below_drew1) | exact HB.out))) (fun k_ h_ => h_)) (below_size (by repeat (first | (with_reducible first | exact HB.out | apply below_alloc | apply pw_below_drewN | apply below_drew1) | exact HB.out)))); have n1_ := Aside0.mk (below_step (by repeat (first | (with_reducible first | exact HB.out | apply below_alloc | apply pw_below_drewN | apply below_drew1) | exact HB.out)) hb); clear HB; have HO172 := n0_; have HB := n1_; clear n0_ n1_; clear hb ho6))
 go_loopg [13] k (fun kq v13 w' => ∃ (x5_1 : List Int) (x13_1 : Int), v13 = .int .i64 x13_1 ∧ Aside0 (natural_unshift.l0 kq l0 a1 x5_1 (l0.length : Int) x13_1 = some r) ∧ Aside0 (kq ≤ k) ∧ Aside0 (Kd.R (Kd.int .u32) 88 w' w.heap.size (fun k_ => (w.heap.size ≤ k_)) v171 x5_1) ∧ Aside0 (Below w.heap.size w w'))
 case atStart => exact ⟨(y170), (0), (by first | rfl | (simp; done) | (simp [*]; done)), H', ⟨Nat.le_refl _⟩, ⟨by (with_reducible repeat (first | apply Kd.R_alloc | apply Kd.R_drewN | apply Kd.R_drew)); exact Kd.R_mono HO172.out (fun _ hk => hk.1)⟩, ⟨by repeat (first | (with_reducible first | exact HB.out | apply below_alloc | apply pw_below_drewN | apply below_drew1) | exact HB.out)⟩⟩
 case round =>
  clear H'
  try clear p2
  try clear c3
  try clear c3b0
  try clear c3b1
  try clear c4
  try clear c4b0
  try clear c4b1
  obtain ⟨x5_1, x13_1, rfl, HA, HK1, HO_5, HB⟩ := hrel
  cases gk with
  | zero => exact absurd HA.out (by simp [natural_unshift.l0])
  | succ k1 =>
   have H := HA.out
   clear HA
   simp only [natural_unshift.l0] at H
   by_cases c7 : x13_1 < (l0.length : Int)
   rotate_left
   ·rw [if_neg c7] at H
    have c7b0 : decide (x13_1 < (l0.length : Int)) = false := decide_eq_false c7
    clear c7
    replace H := Option.bind_eq_some_iff.mp H
    obtain ⟨t177, A250, H⟩ := H
    replace H : (some t177) = some r := H
    have A25 := Aside0.mk A250
    clear A250
    obtain rfl := Option.some.inj H
    obtain ⟨Ao26, co26, eo26⟩ := Kd.R_slice HO_5.out
    subst eo26
    go_wp2_with (first | ((with_reducible refine gate_callee (f := 76) rfl ?_); refine goesL_ (some 44) rfl rfl Tryd.func76 (by kernel_rfl) rfl #[.slice Ao26 x5_1.length co26] rfl (by (try simp only [List.map_toArray, List.map_cons, List.map_nil]); first | done | rfl | (simp only [List.length_drop, List.length_take]; rfl)) ?_; (with_reducible refine (natural_limbs_trim.calls k1 (fun k_ => some k_ = (.slice Ao26 x5_1.length co26 : Value).ownBlock) _ _ x5_1 t177 _ ?side1 A25.out).mono ?_); (case side1 => exact Kd.R_V (Kd.R_tight rfl (HO_5.out))); rintro e w27 ⟨v178, rfl, ho0, hb⟩; refine ⟨_, rfl, ?_⟩; have n0_ := Aside0.mk (Kd.R_below (by (with_reducible repeat (first | apply Kd.R_alloc | apply Kd.R_drewN | apply Kd.R_drew)); exact HO_5.out) hb); have n1_ := Aside0.mk (Kd.V_lower (Kd.V_mono (ok' := fun k_ => (w.heap.size ≤ k_)) ho0 (fun k_ hk_ => Or.elim hk_ (fun hs_ => ((HO_5.out).1 k_ hs_.symm)) (fun hn_ => (Nat.le_trans (below_size (by repeat (first | (with_reducible first | exact HB.out | apply below_alloc | apply pw_below_drewN | apply below_drew1) | exact HB.out))) hn_)))) (below_size (by repeat (first | (with_reducible first | exact HB.out | apply below_alloc | apply pw_below_drewN | apply below_drew1) | exact HB.out)))); have n2_ := Aside0.mk (below_step (by repeat (first | (with_reducible first | exact HB.out | apply below_alloc | apply pw_below_drewN | apply below_drew1) | exact HB.out)) hb); clear HO_5; clear HB; have HO_5 := n0_; have HO179 := n1_; have HB := n2_; clear n0_ n1_ n2_; (try clear hb); (try clear hb2); (try clear hk); (try clear hi); (try clear ho0)))
    go_ret
    exact ⟨_, by first | rfl | (simp [errW_none, errW_some] <;> rfl) | (simp [*, errW_none, errW_some] <;> rfl), by (with_reducible repeat (first | apply Kd.V_alloc | apply Kd.V_drewN | apply Kd.V_drew)); exact HO179.out, by repeat (first | (with_reducible first | exact HB.out | apply below_alloc | apply pw_below_drewN | apply below_drew1) | exact HB.out)⟩
   rw [if_pos c7] at H
   have c7b0 : decide (x13_1 < (l0.length : Int)) = true := decide_eq_true c7
   clear c7
   by_cases c8 : 0 ≤ x13_1
   rotate_left
   ·rw [if_neg c8] at H
    exact absurd H (by simp)
   rw [if_pos c8] at H
   have c8b0 : decide (0 ≤ x13_1) = true := decide_eq_true c8
   clear c8
   by_cases c9 : x13_1 < (l0.length : Int)
   rotate_left
   ·rw [if_neg c9] at H
    exact absurd H (by simp)
   rw [if_pos c9] at H
   have c9b0 : decide (x13_1 < (l0.length : Int)) = true := decide_eq_true c9
   clear c9
   by_cases c10 : (wrap64 (x13_1 + 1)) < (l0.length : Int)
   rotate_left
   ·rw [if_neg c10] at H
    have c10b0 : decide ((wrap64 (x13_1 + 1)) < (l0.length : Int)) = false := decide_eq_false c10
    clear c10
    by_cases c19 : 0 ≤ a1
    rotate_left
    ·rw [if_neg c19] at H
     exact absurd H (by simp)
    rw [if_pos c19] at H
    have c19b0 := eq_true c19
    have c19b1 : decide (0 ≤ a1) = true := decide_eq_true c19
    clear c19
    obtain ⟨ji20, hji20⟩ : ∃ j_ : Int, (shr .u64 (IntKind.u64.wrap (rd l0 x13_1)) a1) = j_ := ⟨_, rfl⟩
    replace H : (if x13_1 < (x5_1.length : Int) then (natural_unshift.l0 k1 l0 a1 (x5_1.set (x13_1 : Int).toNat ((ji20) % 4294967296)) (l0.length : Int) (wrap64 (x13_1 + 1))) else (none)) = some r := by first | (rw [hji20] at H; exact H) | (simp only [hji20] at H ⊢; exact H)
    have hji20_ : ((IntKind.u64.wrap (rd l0 x13_1)) / 2 ^ min a1.toNat 64) = ji20 := hji20
    have hji20z : a1 ≤ 64 → ((IntKind.u64.wrap (rd l0 x13_1)) / 2 ^ a1.toNat) = ji20 := shr_small hji20
    by_cases c21 : x13_1 < (x5_1.length : Int)
    rotate_left
    ·rw [if_neg c21] at H
     exact absurd H (by simp)
    rw [if_pos c21] at H
    have c21b0 : decide (x13_1 < (x5_1.length : Int)) = true := decide_eq_true c21
    clear c21
    obtain ⟨y176, hy176⟩ : ∃ y_ : List Int, y_ = (x5_1.set (x13_1 : Int).toNat ((ji20) % 4294967296)) := ⟨_, rfl⟩
    replace H : (natural_unshift.l0 k1 l0 a1 y176 (l0.length : Int) (wrap64 (x13_1 + 1))) = some r := by first | (rw [hy176]; with_reducible exact H) | (have H2_ := (Option.bind_some _ _).symm.trans H; rw [hy176]; with_reducible exact H2_) | (have H2_ := (Option.bind_some _ _).symm.trans H; with_reducible exact H2_) | with_reducible exact H | (rw [hy176]; exact H) | exact H
    have Ny176 := Aside0.mk hy176
    clear hy176
    have H' := Aside0.mk H
    clear H
    have p173 : 0 ≤ (x13_1 : Int) := of_decide_eq_true (by first | (with_reducible assumption) | assumption)
    have q173 : x13_1 < (l0.length : Int) := of_decide_eq_true (by first | (with_reducible assumption) | assumption)
    obtain ⟨ad173, e173, hx173_0⟩ := Kd.at_int HR0.out x13_1 p173 q173
    cases e173
    replace hx173_0 := (HB.out.cell (World.block_lt_of_cell? w _ hx173_0)).trans hx173_0
    replace p173 := eq_true p173
    replace q173 := eq_true q173
    have p22 : 0 ≤ (x13_1 : Int) := of_decide_eq_true (by first | (with_reducible assumption) | assumption)
    have q22 : (x13_1 : Int) < ((x5_1.length : Int) : Int) := of_decide_eq_true (by first | (with_reducible assumption) | assumption)
    obtain ⟨go22, co22, eo22, gb22, gl22, cl22, HG22⟩ := Kd.R_form HO_5.out (by omega)
    (first | cases eo22 | (injection eo22 with ea_ en_ ec_; (first | subst ea_ | (injection ea_ with ea_; subst ea_)); subst ec_; clear en_))
    have GB22 := Aside0.mk gb22
    have GG22 := Aside0.mk HG22
    clear gb22 gl22 HG22
    obtain ⟨hx22_0, hf22_0⟩ := Kd.R_celln 0 HO_5.out (x13_1 : Int) p22 q22
    replace p22 := eq_true p22
    replace q22 := eq_true q22
    have HP23 := Kd.R_putg HO_5.out (x13_1 : Int) ((ji20) % 4294967296)
    go_wp2_with (first | ((with_reducible refine gate_store (t := 88) (p := 41) rfl ?_); refine store_event (t := 88) (p := 41) (v := ?vo_w24) (w1 := (wr.setCell ⟨go22, (x13_1 : Int).toNat, none⟩ (.int .u32 ((ji20) % 4294967296)))) ?hg ?ho ?hn ?hr ?_; (case ho => rfl); (case hg => rfl); (case hn => rfl); (case hr => first | (go_simp; done) | (go_simp; rfl)); intro w24 hw; have hg : wr.grownBy w24 (some go22) := (by rw [hw]; exact HP23.2); have hp_ : Kd.R (Kd.int .u32) 88 w24 w.heap.size (fun k_ => (w.heap.size ≤ k_)) (.slice (some ⟨go22, 0, none⟩) x5_1.length co22) y176 := (by rw [hw, Ny176.out]; exact HP23.1); clear HP23; have n0_ := Aside0.mk (hp_); have n1_ := Aside0.mk ((by rw [hw]; exact below_set (HB.out) GB22.out : Below w.heap.size w w24)); clear HO_5; clear HB; have HO_5 := n0_; have HB := n1_; clear n0_ n1_; clear hg hw hp_))
    go_roundg k1
    case measure => have := HK1.out; omega
    case rel => exact ⟨(y176), (wrap64 (x13_1 + 1)), (by first | rfl | (simp; done) | (simp [*]; done)), H', ⟨by have := HK1.out; omega⟩, ⟨by (with_reducible repeat (first | apply Kd.R_alloc | apply Kd.R_drewN | apply Kd.R_drew)); exact HO_5.out⟩, ⟨by repeat (first | (with_reducible first | exact HB.out | apply below_alloc | apply pw_below_drewN | apply below_drew1) | exact HB.out)⟩⟩
   rw [if_pos c10] at H
   have c10b0 : decide ((wrap64 (x13_1 + 1)) < (l0.length : Int)) = true := decide_eq_true c10
   clear c10
   obtain ⟨ji11, hji11⟩ : ∃ j_ : Int, (wrap64 (x13_1 + 1)) = j_ := ⟨_, rfl⟩
   replace H : (if 0 ≤ (ji11) then (if 0 ≤ a1 then (if x13_1 < (x5_1.length : Int) then (natural_unshift.l0 k1 l0 a1 (x5_1.set (x13_1 : Int).toNat ((shr .u64 (Go.bits .or .u64 (IntKind.u64.wrap (rd l0 x13_1)) (IntKind.u64.wrap ((IntKind.u64.wrap (rd l0 (ji11))) * 4294967296))) a1) % 4294967296)) (l0.length : Int) ji11) else (none)) else (none)) else (none)) = some r := by first | (rw [hji11] at H; exact H) | (simp only [hji11] at H ⊢; exact H)
   (try rw [hji11] at c10b0)
   have hji11w : (IntKind.i64.wrap (x13_1 + 1)) = ji11 := (i64_w _).trans hji11
   by_cases c12 : 0 ≤ (ji11)
   rotate_left
   ·rw [if_neg c12] at H
    exact absurd H (by simp)
   rw [if_pos c12] at H
   have c12b0 : decide (0 ≤ (ji11)) = true := decide_eq_true c12
   clear c12
   by_cases c13 : 0 ≤ a1
   rotate_left
   ·rw [if_neg c13] at H
    exact absurd H (by simp)
   rw [if_pos c13] at H
   have c13b0 := eq_true c13
   have c13b1 : decide (0 ≤ a1) = true := decide_eq_true c13
   clear c13
   obtain ⟨ji14, hji14⟩ : ∃ j_ : Int, (shr .u64 (Go.bits .or .u64 (IntKind.u64.wrap (rd l0 x13_1)) (IntKind.u64.wrap ((IntKind.u64.wrap (rd l0 (ji11))) * 4294967296))) a1) = j_ := ⟨_, rfl⟩
   replace H : (if x13_1 < (x5_1.length : Int) then (natural_unshift.l0 k1 l0 a1 (x5_1.set (x13_1 : Int).toNat ((ji14) % 4294967296)) (l0.length : Int) ji11) else (none)) = some r := by first | (rw [hji14] at H; exact H) | (simp only [hji14] at H ⊢; exact H)
   have hji14_ : ((Go.bits .or .u64 (IntKind.u64.wrap (rd l0 x13_1)) (IntKind.u64.wrap ((IntKind.u64.wrap (rd l0 (ji11))) * 4294967296))) / 2 ^ min a1.toNat 64) = ji14 := hji14
   have hji14z : a1 ≤ 64 → ((Go.bits .or .u64 (IntKind.u64.wrap (rd l0 x13_1)) (IntKind.u64.wrap ((IntKind.u64.wrap (rd l0 (ji11))) * 4294967296))) / 2 ^ a1.toNat) = ji14 := shr_small hji14
   by_cases c15 : x13_1 < (x5_1.length : Int)
   rotate_left
   ·rw [if_neg c15] at H
    exact absurd H (by simp)
   rw [if_pos c15] at H
   have c15b0 : decide (x13_1 < (x5_1.length : Int)) = true := decide_eq_true c15
   clear c15
   obtain ⟨y175, hy175⟩ : ∃ y_ : List Int, y_ = (x5_1.set (x13_1 : Int).toNat ((ji14) % 4294967296)) := ⟨_, rfl⟩
   replace H : (natural_unshift.l0 k1 l0 a1 y175 (l0.length : Int) ji11) = some r := by first | (rw [hy175]; with_reducible exact H) | (have H2_ := (Option.bind_some _ _).symm.trans H; rw [hy175]; with_reducible exact H2_) | (have H2_ := (Option.bind_some _ _).symm.trans H; with_reducible exact H2_) | with_reducible exact H | (rw [hy175]; exact H) | exact H
   have Ny175 := Aside0.mk hy175
   clear hy175
   have H' := Aside0.mk H
   clear H
   have p173 : 0 ≤ (x13_1 : Int) := of_decide_eq_true (by first | (with_reducible assumption) | assumption)
   have q173 : x13_1 < (l0.length : Int) := of_decide_eq_true (by first | (with_reducible assumption) | assumption)
   obtain ⟨ad173, e173, hx173_0⟩ := Kd.at_int HR0.out x13_1 p173 q173
   cases e173
   replace hx173_0 := (HB.out.cell (World.block_lt_of_cell? w _ hx173_0)).trans hx173_0
   replace p173 := eq_true p173
   replace q173 := eq_true q173
   have p174 : 0 ≤ ((ji11) : Int) := of_decide_eq_true (by first | (with_reducible assumption) | assumption)
   have q174 : (ji11) < (l0.length : Int) := of_decide_eq_true (by first | (with_reducible assumption) | assumption)
   obtain ⟨ad174, e174, hx174_0⟩ := Kd.at_int HR0.out (ji11) p174 q174
   obtain rfl : ad173 = ad174 := (by injection e174)
   replace hx174_0 := (HB.out.cell (World.block_lt_of_cell? w _ hx174_0)).trans hx174_0
   replace p174 := eq_true p174
   replace q174 := eq_true q174
   have p16 : 0 ≤ (x13_1 : Int) := of_decide_eq_true (by first | (with_reducible assumption) | assumption)
   have q16 : (x13_1 : Int) < ((x5_1.length : Int) : Int) := of_decide_eq_true (by first | (with_reducible assumption) | assumption)
   obtain ⟨go16, co16, eo16, gb16, gl16, cl16, HG16⟩ := Kd.R_form HO_5.out (by omega)
   (first | cases eo16 | (injection eo16 with ea_ en_ ec_; (first | subst ea_ | (injection ea_ with ea_; subst ea_)); subst ec_; clear en_))
   have GB16 := Aside0.mk gb16
   have GG16 := Aside0.mk HG16
   clear gb16 gl16 HG16
   obtain ⟨hx16_0, hf16_0⟩ := Kd.R_celln 0 HO_5.out (x13_1 : Int) p16 q16
   replace p16 := eq_true p16
   replace q16 := eq_true q16
   have HP17 := Kd.R_putg HO_5.out (x13_1 : Int) ((ji14) % 4294967296)
   go_wp2_with (first | ((with_reducible refine gate_store (t := 88) (p := 41) rfl ?_); refine store_event (t := 88) (p := 41) (v := ?vo_w18) (w1 := (wr.setCell ⟨go16, (x13_1 : Int).toNat, none⟩ (.int .u32 ((ji14) % 4294967296)))) ?hg ?ho ?hn ?hr ?_; (case ho => rfl); (case hg => rfl); (case hn => rfl); (case hr => first | (go_simp; done) | (go_simp; rfl)); intro w18 hw; have hg : wr.grownBy w18 (some go16) := (by rw [hw]; exact HP17.2); have hp_ : Kd.R (Kd.int .u32) 88 w18 w.heap.size (fun k_ => (w.heap.size ≤ k_)) (.slice (some ⟨go16, 0, none⟩) x5_1.length co16) y175 := (by rw [hw, Ny175.out]; exact HP17.1); clear HP17; have n0_ := Aside0.mk (hp_); have n1_ := Aside0.mk ((by rw [hw]; exact below_set (HB.out) GB16.out : Below w.heap.size w w18)); clear HO_5; clear HB; have HO_5 := n0_; have HB := n1_; clear n0_ n1_; clear hg hw hp_))
   go_roundg k1
   case measure => have := HK1.out; omega
   case rel => exact ⟨(y175), (ji11), (by first | rfl | (simp; done) | (simp only [← hji11] <;> (first | rfl | simp)) | (simp [*]; done)), H', ⟨by have := HK1.out; omega⟩, ⟨by (with_reducible repeat (first | apply Kd.R_alloc | apply Kd.R_drewN | apply Kd.R_drew)); exact HO_5.out⟩, ⟨by repeat (first | (with_reducible first | exact HB.out | apply below_alloc | apply pw_below_drewN | apply below_drew1) | exact HB.out)⟩⟩
end Go.Proofs.YtfnfjmeiaamheaaDoor.PA
namespace Go.Proofs.YtfnfjmeiaamheaaDoor.PA
open Go.RowKit Go.Proofs.YtfnfjmeiaamheaaDoorW.PrintWords Go.Proofs.YtfnfjmeiaamheaaDoorW.PrintLast Go.Proofs.YtfnfjmeiaamheaaDoorW.PrintMore
def bits_Sub32.f (a0 : Int) (a1 : Int) (a2 : Int) : Option (Int × Int) :=
 if 0 ≤ a0 ∧ a0 < 4294967296 ∧ 0 ≤ a1 ∧ a1 < 4294967296 ∧ 0 ≤ a2 ∧ a2 ≤ 1 then some ((a0 - a1 - a2) % 4294967296, if a0 < a1 + a2 then 1 else 0) else none
theorem b31 (n : Nat) (h : n < 4294967296) : n.testBit 31 = decide (2147483648 ≤ n) := by
 rw [Nat.testBit_eq_decide_div_mod_eq]
 by_cases h1 : 2147483648 ≤ n
 ·have : n / 2 ^ 31 = 1 := by omega
  simp [this, h1]
 have : n / 2 ^ 31 = 0 := by omega
 simp [this, h1]
theorem top31 (n : Nat) (h : n < 4294967296) : n / 2147483648 = (n.testBit 31).toNat := by
 rw [b31 n h]
 by_cases h1 : 2147483648 ≤ n
 ·simp [h1]; omega
 simp [h1]; omega
theorem u32_in (n : Int) (h0 : 0 ≤ n) (h1 : n < 2 ^ 32) : IntKind.u32.wrap n = n := by rw [IntKind.wrap_u32]; omega
theorem u32_and (a b : Nat) (ha : a < 4294967296) (hb : b < 4294967296) : bits .and .u32 (a : Int) (b : Int) = ((a &&& b : Nat) : Int) := (bits_nat .u32 32 (by decide) u32_in a b ha hb).1
theorem u32_or (a b : Nat) (ha : a < 4294967296) (hb : b < 4294967296) : bits .or .u32 (a : Int) (b : Int) = ((a ||| b : Nat) : Int) := (bits_nat .u32 32 (by decide) u32_in a b ha hb).2
theorem u32_xor (a b : Nat) (ha : a < 4294967296) (hb : b < 4294967296) : bits .xor .u32 (a : Int) (b : Int) = ((a ^^^ b : Nat) : Int) := by
 have ha' : a % 2 ^ 32 = a := Nat.mod_eq_of_lt ha
 have hb' : b % 2 ^ 32 = b := Nat.mod_eq_of_lt hb
 have hlt : a ^^^ b < 2 ^ 32 := Nat.xor_lt_two_pow ha hb
 show IntKind.u32.wrap ((BitVec.ofInt 32 (a : Int) ^^^ BitVec.ofInt 32 (b : Int)).toNat : Int) = _
 rw [BitVec.ofInt_natCast, BitVec.ofInt_natCast, BitVec.toNat_xor, BitVec.toNat_ofNat, BitVec.toNat_ofNat, ha', hb']
 exact u32_in _ (Int.natCast_nonneg _) (by exact_mod_cast hlt)
theorem borrow_nat (x y c d : Nat) (hx : x < 4294967296) (hy : y < 4294967296) (hc : c ≤ 1) (hd : d < 4294967296) (he : (d : Int) = ((x : Int) - y - c) % 4294967296) :
 (((4294967295 ^^^ x) &&& y) ||| ((4294967295 ^^^ (x ^^^ y)) &&& d)) / 2147483648 = if x < y + c then 1 else 0 := by
 have hxy : x ^^^ y < 4294967296 := Nat.xor_lt_two_pow (n := 32) hx hy
 have h1 : 4294967295 ^^^ x < 4294967296 := Nat.xor_lt_two_pow (n := 32) (by decide) hx
 have h2 : 4294967295 ^^^ (x ^^^ y) < 4294967296 := Nat.xor_lt_two_pow (n := 32) (by decide) hxy
 have h3 : (4294967295 ^^^ x) &&& y < 4294967296 := Nat.and_lt_two_pow (n := 32) _ hy
 have h4 : (4294967295 ^^^ (x ^^^ y)) &&& d < 4294967296 := Nat.and_lt_two_pow (n := 32) _ hd
 rw [top31 _ (Nat.or_lt_two_pow (n := 32) h3 h4), Nat.testBit_or, Nat.testBit_and, Nat.testBit_and, Nat.testBit_xor, Nat.testBit_xor, Nat.testBit_xor, b31 x hx, b31 y hy, b31 d hd, b31 4294967295 (by decide)]
 by_cases k1 : 2147483648 ≤ x <;> by_cases k2 : 2147483648 ≤ y <;> by_cases k3 : 2147483648 ≤ d <;> simp [k1, k2, k3] <;> omega
set_option maxRecDepth 100000 in
theorem bits_Sub32.calls (a0 : Int) (a1 : Int) (a2 : Int) (r1 : Int) (r2 : Int) (w : World) (h : bits_Sub32.f a0 a1 a2 = some (r1, r2)) :
  Calls Tryd.prog 91 #[.int .u32 a0, .int .u32 a1, .int .u32 a2] w fun e w' => e = .returned (.tuple #[.int .u32 r1, .int .u32 r2]) ∧ Drawn0 w w' := by
 unfold bits_Sub32.f at h
 split at h
 ·rename_i hc
  obtain ⟨h0, h1, h2, h3, h4, h5⟩ := hc
  have hm := Lib.hid (show bits .or .u32 (bits .and .u32 (bits .xor .u32 IntKind.u32.max a0) a1) (bits .and .u32 (bits .xor .u32 IntKind.u32.max (bits .xor .u32 a0 a1)) ((a0 - a1 - a2) % 4294967296)) / 2147483648 = if a0 < a1 + a2 then 1 else 0 by
   obtain ⟨x, rfl⟩ := Int.eq_ofNat_of_zero_le h0
   obtain ⟨y, rfl⟩ := Int.eq_ofNat_of_zero_le h2
   obtain ⟨c, rfl⟩ := Int.eq_ofNat_of_zero_le h4
   obtain ⟨d, hd⟩ := Int.eq_ofNat_of_zero_le (show 0 ≤ ((x : Int) - y - c) % 4294967296 by omega)
   have hx : x < 4294967296 := by omega
   have hy : y < 4294967296 := by omega
   have hdl : d < 4294967296 := by omega
   have hxy : x ^^^ y < 4294967296 := Nat.xor_lt_two_pow (n := 32) hx hy
   rw [hd, show IntKind.u32.max = ((4294967295 : Nat) : Int) from rfl, u32_xor _ x (by decide) hx, u32_xor x y hx hy, u32_xor _ _ (by decide) hxy]
   rw [u32_and _ y (Nat.xor_lt_two_pow (n := 32) (by decide) hx) hy, u32_and _ d (Nat.xor_lt_two_pow (n := 32) (by decide) hxy) hdl, u32_or _ _ (Nat.and_lt_two_pow (n := 32) _ hy) (Nat.and_lt_two_pow (n := 32) _ hdl)]
   have := borrow_nat x y c d hx hy (by omega) hdl hd.symm
   rw [show (2147483648 : Int) = ((2147483648 : Nat) : Int) from rfl, ← Int.natCast_ediv, this]
   by_cases hlt : x < y + c
   ·rw [if_pos hlt, if_pos (by omega)]; rfl
   rw [if_neg hlt, if_neg (by omega)]; rfl)
  have hr := Lib.hid (Option.some.inj h)
  clear h
  go_enter Tryd.func91, Tryd.ntmps91
  go_wp2
  go_ret2
  refine ⟨?_, Drawn0.refl _⟩
  have e1 := congrArg Prod.fst hr.out
  have e2 := congrArg Prod.snd hr.out
  simp only at e1 e2
  rw [← e1, ← e2, ← hm.out]
  rfl
 cases h
end Go.Proofs.YtfnfjmeiaamheaaDoor.PA
namespace Go.Proofs.YtfnfjmeiaamheaaDoor.PA
open Go.RowKit Go.Proofs.YtfnfjmeiaamheaaDoorW.PrintWords Go.Proofs.YtfnfjmeiaamheaaDoorW.PrintLast Go.Proofs.YtfnfjmeiaamheaaDoorW.PrintMore
attribute [local go_sem] max2_int min2_int max_two min_two max_three min_three max_four min_four
def bits_Add32.f (a0 : Int) (a1 : Int) (a2 : Int) : Option (Int × Int) := some ((IntKind.u64.wrap ((IntKind.u64.wrap ((IntKind.u64.wrap (a0)) + (IntKind.u64.wrap (a1)))) + (IntKind.u64.wrap (a2)))) % 4294967296, ((IntKind.u64.wrap ((IntKind.u64.wrap ((IntKind.u64.wrap (a0)) + (IntKind.u64.wrap (a1)))) + (IntKind.u64.wrap (a2)))) / 4294967296) % 4294967296)
set_option maxHeartbeats 8000000 in
set_option maxRecDepth 100000 in
theorem bits_Add32.calls (a0 : Int) (a1 : Int) (a2 : Int) (r1 : Int) (r2 : Int) (w : World) (h : bits_Add32.f a0 a1 a2 = some (r1, r2)) :
 Calls Tryd.prog 92 #[.int .u32 a0, .int .u32 a1, .int .u32 a2] w fun e w' => e = .returned (.tuple #[.int .u32 r1, .int .u32 r2]) ∧ Drawn0 w w' := by
 have H : (some ((IntKind.u64.wrap ((IntKind.u64.wrap ((IntKind.u64.wrap (a0)) + (IntKind.u64.wrap (a1)))) + (IntKind.u64.wrap (a2)))) % 4294967296, ((IntKind.u64.wrap ((IntKind.u64.wrap ((IntKind.u64.wrap (a0)) + (IntKind.u64.wrap (a1)))) + (IntKind.u64.wrap (a2)))) / 4294967296) % 4294967296)) = some (r1, r2) := h
 clear h
 simp only [Option.some.injEq, Prod.mk.injEq] at H
 obtain ⟨rfl, rfl⟩ := H
 go_enter Tryd.func92, Tryd.ntmps92
 go_wp2
 go_ret2
 exact ⟨by first | rfl | (simp; done) | (simp [*]; done), by repeat (first | exact Drawn0.refl _ | apply Drawn0.step)⟩
end Go.Proofs.YtfnfjmeiaamheaaDoor.PA
namespace Go.Proofs.YtfnfjmeiaamheaaDoor.PA
open Go.RowKit Go.Proofs.YtfnfjmeiaamheaaDoorW.PrintWords Go.Proofs.YtfnfjmeiaamheaaDoorW.PrintLast Go.Proofs.YtfnfjmeiaamheaaDoorW.PrintMore
attribute [local go_sem] max2_int min2_int max_two min_two max_three min_three max_four min_four
mutual
def natural_step.j2 : Nat → List Int → List Int → Int → Int → Option (Int × List Int)
 | 0, _, _, _, _ => none
 | k + 1, x0, x1, x5, x7 => natural_step.l1 k x0 x1 x5 x7 0 0 x1 (x1.length : Int) 0
def natural_step.l1 : Nat → List Int → List Int → Int → Int → Int → Int → List Int → Int → Int → Option (Int × List Int)
 | 0, _, _, _, _, _, _, _, _, _ => none
 | k + 1, x0, x1, x5, x7, x9, x10, x82, x83, x84 => if x84 < x83 then (if 0 ≤ x84 then (if x84 < (x82.length : Int) then (if x84 < (x0.length : Int) then ((bits_Sub32.f (rd x0 x84) ((IntKind.u64.wrap ((IntKind.u64.wrap (x7 * (IntKind.u64.wrap (rd x82 x84)))) + x9)) % 4294967296) x10).bind fun bt156 => (natural_step.l1 k (x0.set (x84 : Int).toNat bt156.1) x1 x5 x7 ((IntKind.u64.wrap ((IntKind.u64.wrap (x7 * (IntKind.u64.wrap (rd x82 x84)))) + x9)) / 4294967296) bt156.2 x82 x83 (wrap64 (x84 + 1)))) else (none)) else (none)) else (none)) else (if 0 ≤ x5 then (if x5 < (x0.length : Int) then ((bits_Sub32.f (rd x0 x5) ((x9) % 4294967296) x10).bind fun bt160 => ((some (x0.set (x5 : Int).toNat bt160.1 : List Int)).bind fun y162 => (if bt160.2 = 0 then (some ((x7) % 4294967296, y162)) else (natural_step.l2 k y162 x5 x7 0 x1 (x1.length : Int) 0)))) else (none)) else (none))
def natural_step.l2 : Nat → List Int → Int → Int → Int → List Int → Int → Int → Option (Int × List Int)
 | 0, _, _, _, _, _, _, _ => none
 | k + 1, x0, x5, x7, x14, x130, x131, x132 => if x132 < x131 then (if 0 ≤ x132 then (if x132 < (x130.length : Int) then (if x132 < (x0.length : Int) then ((bits_Add32.f (rd x0 x132) (rd x130 x132) x14).bind fun bt165 => (natural_step.l2 k (x0.set (x132 : Int).toNat bt165.1) x5 x7 bt165.2 x130 x131 (wrap64 (x132 + 1)))) else (none)) else (none)) else (none)) else (if 0 ≤ x5 then (if x5 < (x0.length : Int) then (some ((IntKind.u64.wrap (x7 - 1)) % 4294967296, (x0.set (x5 : Int).toNat (((rd x0 x5) + x14) % 4294967296)))) else (none)) else (none))
def natural_step.l0 : Nat → List Int → List Int → Int → Int → Int → Option (Int × List Int)
 | 0, _, _, _, _, _ => none
 | k + 1, x0, x1, x5, x7, x8 => if x7 ≥ 4294967296 then (natural_step.j1 k x0 x1 x5 x7 x8 true) else (if 0 ≤ (wrap64 (x5 - 2)) then (if (wrap64 (x5 - 2)) < (x1.length : Int) then (if (wrap64 (x5 - 2)) < (x0.length : Int) then (natural_step.j1 k x0 x1 x5 x7 x8 (decide ((IntKind.u64.wrap (x7 * (IntKind.u64.wrap (rd x1 (wrap64 (x5 - 2)))))) > (Go.bits .or .u64 (IntKind.u64.wrap (x8 * 4294967296)) (IntKind.u64.wrap (rd x0 (wrap64 (x5 - 2)))))))) else (none)) else (none)) else (none))
def natural_step.j1 : Nat → List Int → List Int → Int → Int → Int → Bool → Option (Int × List Int)
 | 0, _, _, _, _, _, _ => none
 | k + 1, x0, x1, x5, x7, x8, x69 => if x69 = true then (if 0 ≤ (wrap64 (x5 - 1)) then (if (wrap64 (x5 - 1)) < (x1.length : Int) then (if (IntKind.u64.wrap (x8 + (IntKind.u64.wrap (rd x1 (wrap64 (x5 - 1)))))) ≥ 4294967296 then (natural_step.j2 k x0 x1 x5 (IntKind.u64.wrap (x7 - 1))) else (natural_step.l0 k x0 x1 x5 (IntKind.u64.wrap (x7 - 1)) (IntKind.u64.wrap (x8 + (IntKind.u64.wrap (rd x1 (wrap64 (x5 - 1)))))))) else (none)) else (none)) else (natural_step.j2 k x0 x1 x5 x7)
end
def natural_step.f (k : Nat) (l0 : List Int) (l1 : List Int) : Option (Int × List Int) := if 0 ≤ (l1.length : Int) then (if (l1.length : Int) < (l0.length : Int) then (if 0 ≤ (wrap64 ((l1.length : Int) - 1)) then (if (wrap64 ((l1.length : Int) - 1)) < (l0.length : Int) then (if (wrap64 ((l1.length : Int) - 1)) < (l1.length : Int) then (if (IntKind.u64.wrap (rd l1 (wrap64 ((l1.length : Int) - 1)))) = 0 then (none) else (natural_step.l0 k l0 l1 (l1.length : Int) (IntKind.u64.wrap (Int.tdiv (Go.bits .or .u64 (IntKind.u64.wrap ((IntKind.u64.wrap (rd l0 (l1.length : Int))) * 4294967296)) (IntKind.u64.wrap (rd l0 (wrap64 ((l1.length : Int) - 1))))) (IntKind.u64.wrap (rd l1 (wrap64 ((l1.length : Int) - 1)))))) (Int.tmod (Go.bits .or .u64 (IntKind.u64.wrap ((IntKind.u64.wrap (rd l0 (l1.length : Int))) * 4294967296)) (IntKind.u64.wrap (rd l0 (wrap64 ((l1.length : Int) - 1))))) (IntKind.u64.wrap (rd l1 (wrap64 ((l1.length : Int) - 1))))))) else (none)) else (none)) else (none)) else (none)) else (none)
theorem natural_step.mono_l : ∀ k, (∀ y0 y1 y2 y3, LeO (natural_step.j2 k y0 y1 y2 y3) (natural_step.j2 (k + 1) y0 y1 y2 y3)) ∧ (∀ y0 y1 y2 y3 y4 y5 y6 y7 y8, LeO (natural_step.l1 k y0 y1 y2 y3 y4 y5 y6 y7 y8) (natural_step.l1 (k + 1) y0 y1 y2 y3 y4 y5 y6 y7 y8)) ∧ (∀ y0 y1 y2 y3 y4 y5 y6, LeO (natural_step.l2 k y0 y1 y2 y3 y4 y5 y6) (natural_step.l2 (k + 1) y0 y1 y2 y3 y4 y5 y6)) ∧ (∀ y0 y1 y2 y3 y4, LeO (natural_step.l0 k y0 y1 y2 y3 y4) (natural_step.l0 (k + 1) y0 y1 y2 y3 y4)) ∧ (∀ y0 y1 y2 y3 y4 y5, LeO (natural_step.j1 k y0 y1 y2 y3 y4 y5) (natural_step.j1 (k + 1) y0 y1 y2 y3 y4 y5))
 | 0 => ⟨fun _ _ _ _ r h => by simp [natural_step.j2] at h, fun _ _ _ _ _ _ _ _ _ r h => by simp [natural_step.l1] at h, fun _ _ _ _ _ _ _ r h => by simp [natural_step.l2] at h, fun _ _ _ _ _ r h => by simp [natural_step.l0] at h, fun _ _ _ _ _ _ r h => by simp [natural_step.j1] at h⟩
 | k + 1 => by
  obtain ⟨ih0, ih1, ih2, ih3, ih4⟩ := natural_step.mono_l k
  refine ⟨?_, ?_, ?_, ?_, ?_⟩
  ·intro y0 y1 y2 y3
   unfold natural_step.j2
   repeat' first
   | (with_reducible exact ih0 _ _ _ _)
   | (with_reducible exact ih1 _ _ _ _ _ _ _ _ _)
   | (with_reducible exact ih2 _ _ _ _ _ _ _)
   | (with_reducible exact ih3 _ _ _ _ _)
   | (with_reducible exact ih4 _ _ _ _ _ _)
   | (with_reducible exact LeO.refl _)
   | (with_reducible exact LeO.none _)
   | (with_reducible refine LeO.ite ?_ ?_)
   | (with_reducible refine LeO.bind ?_ (fun _ => ?_))
   | exact ih0 _ _ _ _
   | exact ih1 _ _ _ _ _ _ _ _ _
   | exact ih2 _ _ _ _ _ _ _
   | exact ih3 _ _ _ _ _
   | exact ih4 _ _ _ _ _ _
   | exact LeO.none _
   | refine LeO.ite ?_ ?_
   | refine LeO.bind ?_ (fun _ => ?_)
  ·intro y0 y1 y2 y3 y4 y5 y6 y7 y8
   unfold natural_step.l1
   repeat' first
   | (with_reducible exact ih0 _ _ _ _)
   | (with_reducible exact ih1 _ _ _ _ _ _ _ _ _)
   | (with_reducible exact ih2 _ _ _ _ _ _ _)
   | (with_reducible exact ih3 _ _ _ _ _)
   | (with_reducible exact ih4 _ _ _ _ _ _)
   | (with_reducible exact LeO.refl _)
   | (with_reducible exact LeO.none _)
   | (with_reducible refine LeO.ite ?_ ?_)
   | (with_reducible refine LeO.bind ?_ (fun _ => ?_))
   | exact ih0 _ _ _ _
   | exact ih1 _ _ _ _ _ _ _ _ _
   | exact ih2 _ _ _ _ _ _ _
   | exact ih3 _ _ _ _ _
   | exact ih4 _ _ _ _ _ _
   | exact LeO.none _
   | refine LeO.ite ?_ ?_
   | refine LeO.bind ?_ (fun _ => ?_)
  ·intro y0 y1 y2 y3 y4 y5 y6
   unfold natural_step.l2
   repeat' first
   | (with_reducible exact ih0 _ _ _ _)
   | (with_reducible exact ih1 _ _ _ _ _ _ _ _ _)
   | (with_reducible exact ih2 _ _ _ _ _ _ _)
   | (with_reducible exact ih3 _ _ _ _ _)
   | (with_reducible exact ih4 _ _ _ _ _ _)
   | (with_reducible exact LeO.refl _)
   | (with_reducible exact LeO.none _)
   | (with_reducible refine LeO.ite ?_ ?_)
   | (with_reducible refine LeO.bind ?_ (fun _ => ?_))
   | exact ih0 _ _ _ _
   | exact ih1 _ _ _ _ _ _ _ _ _
   | exact ih2 _ _ _ _ _ _ _
   | exact ih3 _ _ _ _ _
   | exact ih4 _ _ _ _ _ _
   | exact LeO.none _
   | refine LeO.ite ?_ ?_
   | refine LeO.bind ?_ (fun _ => ?_)
  ·intro y0 y1 y2 y3 y4
   unfold natural_step.l0
   repeat' first
   | (with_reducible exact ih0 _ _ _ _)
   | (with_reducible exact ih1 _ _ _ _ _ _ _ _ _)
   | (with_reducible exact ih2 _ _ _ _ _ _ _)
   | (with_reducible exact ih3 _ _ _ _ _)
   | (with_reducible exact ih4 _ _ _ _ _ _)
   | (with_reducible exact LeO.refl _)
   | (with_reducible exact LeO.none _)
   | (with_reducible refine LeO.ite ?_ ?_)
   | (with_reducible refine LeO.bind ?_ (fun _ => ?_))
   | exact ih0 _ _ _ _
   | exact ih1 _ _ _ _ _ _ _ _ _
   | exact ih2 _ _ _ _ _ _ _
   | exact ih3 _ _ _ _ _
   | exact ih4 _ _ _ _ _ _
   | exact LeO.none _
   | refine LeO.ite ?_ ?_
   | refine LeO.bind ?_ (fun _ => ?_)
  intro y0 y1 y2 y3 y4 y5
  unfold natural_step.j1
  repeat' first
  | (with_reducible exact ih0 _ _ _ _)
  | (with_reducible exact ih1 _ _ _ _ _ _ _ _ _)
  | (with_reducible exact ih2 _ _ _ _ _ _ _)
  | (with_reducible exact ih3 _ _ _ _ _)
  | (with_reducible exact ih4 _ _ _ _ _ _)
  | (with_reducible exact LeO.refl _)
  | (with_reducible exact LeO.none _)
  | (with_reducible refine LeO.ite ?_ ?_)
  | (with_reducible refine LeO.bind ?_ (fun _ => ?_))
  | exact ih0 _ _ _ _
  | exact ih1 _ _ _ _ _ _ _ _ _
  | exact ih2 _ _ _ _ _ _ _
  | exact ih3 _ _ _ _ _
  | exact ih4 _ _ _ _ _ _
  | exact LeO.none _
  | refine LeO.ite ?_ ?_
  | refine LeO.bind ?_ (fun _ => ?_)
theorem natural_step.mono : ∀ a0 a1 k, LeO (natural_step.f k a0 a1) (natural_step.f (k + 1) a0 a1) := by
 intro a0 a1 k
 obtain ⟨ih0, ih1, ih2, ih3, ih4⟩ := natural_step.mono_l k
 unfold natural_step.f
 repeat' first
  | (with_reducible exact ih0 _ _ _ _)
  | (with_reducible exact ih1 _ _ _ _ _ _ _ _ _)
  | (with_reducible exact ih2 _ _ _ _ _ _ _)
  | (with_reducible exact ih3 _ _ _ _ _)
  | (with_reducible exact ih4 _ _ _ _ _ _)
  | (with_reducible exact LeO.refl _)
  | (with_reducible exact LeO.none _)
  | (with_reducible refine LeO.ite ?_ ?_)
  | (with_reducible refine LeO.bind ?_ (fun _ => ?_))
  | exact ih0 _ _ _ _
  | exact ih1 _ _ _ _ _ _ _ _ _
  | exact ih2 _ _ _ _ _ _ _
  | exact ih3 _ _ _ _ _
  | exact ih4 _ _ _ _ _ _
  | exact LeO.none _
  | refine LeO.ite ?_ ?_
  | refine LeO.bind ?_ (fun _ => ?_)
end Go.Proofs.YtfnfjmeiaamheaaDoor.PA
namespace Go.Proofs.YtfnfjmeiaamheaaDoor.PA
open Go.RowKit Go.Proofs.YtfnfjmeiaamheaaDoorW.PrintWords Go.Proofs.YtfnfjmeiaamheaaDoorW.PrintLast Go.Proofs.YtfnfjmeiaamheaaDoorW.PrintMore
attribute [local go_sem] max2_int min2_int max_two min_two max_three min_three max_four min_four
def Wd (P S : List Int) (d : Kd Int) (e : Nat) (w : World) (base : Nat) (ok : Nat → Prop) (v : Value) (xs : List Int) : Prop :=
 ∃ g C c, v = .slice (some ⟨g, P.length, none⟩) xs.length c ∧ xs.length ≤ c ∧ C = P.length + c ∧ Kd.R d e w base ok (.slice (some ⟨g, 0, none⟩) (P ++ xs ++ S).length C) (P ++ xs ++ S)
namespace Wd
theorem add_plainP (g P j : Nat) : (⟨g, P, none⟩ : Addr).add j = ⟨g, P + j, none⟩ := by unfold Addr.add; split <;> simp_all
section
variable {P S xs : List Int} {k : IntKind} {e base g n cap c m : Nat} {w w' : World} {ok ok' : Nat → Prop} {v : Value} {A : Option Addr}
theorem mono (h : Wd P S (Kd.int k) e w base ok v xs) (hok : ∀ k, ok k → ok' k) : Wd P S (Kd.int k) e w base ok' v xs := by
 obtain ⟨g, C, c, hv, hl, hC, hR⟩ := h
 exact ⟨g, C, c, hv, hl, hC, Kd.R_mono hR hok⟩
theorem alloc (h : Wd P S (Kd.int k) e w base ok v xs) (o : Obj) : Wd P S (Kd.int k) e (w.alloc o) base ok v xs := by
 obtain ⟨g, C, c, hv, hl, hC, hR⟩ := h
 exact ⟨g, C, c, hv, hl, hC, Kd.R_alloc hR o⟩
theorem drew (h : Wd P S (Kd.int k) e w base ok v xs) : Wd P S (Kd.int k) e w.drew base ok v xs := by
 obtain ⟨g, C, c, hv, hl, hC, hR⟩ := h
 exact ⟨g, C, c, hv, hl, hC, Kd.R_drew hR⟩
theorem drewN (h : Wd P S (Kd.int k) e w base ok v xs) (m : Nat) : Wd P S (Kd.int k) e (w.drewN m) base ok v xs := by
 obtain ⟨g, C, c, hv, hl, hC, hR⟩ := h
 exact ⟨g, C, c, hv, hl, hC, Kd.R_drewN hR m⟩
theorem at_ (hq : w.drewN m = w') (h : Wd P S (Kd.int k) e w base ok v xs) : Wd P S (Kd.int k) e w' base ok v xs := by subst hq; exact drewN h m
theorem slice_ (h : Wd P S (Kd.int k) e w base ok v xs) : ∃ A c, v = .slice A xs.length c := by
 obtain ⟨g, C, c, hv, _⟩ := h
 exact ⟨_, _, hv⟩
theorem form (h : Wd P S (Kd.int k) e w base ok v xs) (hp : 0 < xs.length) : ∃ g cap, v = .slice (some ⟨g, P.length, none⟩) xs.length cap ∧ base ≤ g ∧ g < w.heap.size ∧ ∃ cells, w.heap[g]? = some (.cells cells e (0, 0)) := by
 obtain ⟨g, C, c, hv, _, _, hR⟩ := h
 obtain ⟨g', cap, he, h1, h2, h3⟩ := Kd.R_form hR (by simp only [List.length_append]; omega)
 injection he with ha _ _
 injection ha with ha
 injection ha with ha _ _
 subst ha
 exact ⟨g, c, hv, h1, h2, h3⟩
theorem ok_ (h : Wd P S (Kd.int k) e w base ok v xs) : ∀ k, v.ownBlock = some k → ok k := by
 obtain ⟨g, C, c, rfl, _, _, hR⟩ := h
 exact fun k hk => hR.1 k hk
theorem rdOf_mid (i : Int) (h0 : 0 ≤ i) (h1 : i < xs.length) : rdOf 0 (P ++ xs ++ S) ((P.length : Int) + i) = rdOf 0 xs i := by
 obtain ⟨j, rfl⟩ := Int.eq_ofNat_of_zero_le h0
 have hj : j < xs.length := by omega
 have e1 : ((P.length : Int) + (j : Int)).toNat = P.length + j := by omega
 simp only [rdOf, e1, Int.toNat_natCast]
 simp [List.append_assoc, List.getElem?_append_right, List.getElem?_append_left, hj]
theorem celln (d0 : Int) (h : Wd P S (Kd.int k) e w base ok (.slice (some ⟨g, P.length, none⟩) n cap) xs) (i : Int) (h0 : 0 ≤ i) (hi : i < n) : w.cell? ⟨g, P.length + i.toNat, none⟩ = some (.int k (rdOf 0 xs i)) ∧ w.frozen? ⟨g, P.length + i.toNat, none⟩ = false := by
 obtain ⟨g', C, c, hv, hl, hC, hR⟩ := h
 injection hv with ha hn hc
 injection ha with ha
 injection ha with ha _ _
 subst ha; subst hn
 have h2 := Kd.R_celln (0 : Int) hR ((P.length : Int) + i) (by omega) (by simp only [List.length_append]; omega)
 rw [show ((P.length : Int) + i).toNat = P.length + i.toNat by omega, rdOf_mid i h0 hi] at h2
 exact h2
theorem putg (h : Wd P S (Kd.int k) e w base ok (.slice (some ⟨g, P.length, none⟩) n cap) xs) (i : Int) (h0 : 0 ≤ i) (hi : i < n) (x : Int) : Wd P S (Kd.int k) e (w.setCell ⟨g, P.length + i.toNat, none⟩ (.int k x)) base ok (.slice (some ⟨g, P.length, none⟩) n cap) (xs.set i.toNat x) ∧ w.grownBy (w.setCell ⟨g, P.length + i.toNat, none⟩ (.int k x)) (some g) := by
 obtain ⟨g', C, c, hv, hl, hC, hR⟩ := h
 injection hv with ha hn hc
 injection ha with ha
 injection ha with ha _ _
 subst ha; subst hn; subst hc
 have h2 := Kd.R_putg hR ((P.length : Int) + i) x
 rw [show ((P.length : Int) + i).toNat = P.length + i.toNat by omega] at h2
 have e1 : (P ++ xs ++ S).set (P.length + i.toNat) x = P ++ xs.set i.toNat x ++ S := by
  rw [List.append_assoc, List.set_append_right _ _ (by omega), Nat.add_sub_cancel_left, List.set_append_left _ _ (by omega), ← List.append_assoc]
 rw [e1] at h2
 refine ⟨⟨g, C, cap, by rw [List.length_set], by rw [List.length_set]; exact hl, hC, ?_⟩, h2.2⟩
 have e2 : (P ++ xs.set i.toNat x ++ S).length = (P ++ xs ++ S).length := by simp
 rw [e2]
 exact h2.1
theorem reads' (h : Wd P S (Kd.int k) e w base ok (.slice A n c) xs) : n = xs.length ∧ n ≤ c ∧ (Kd.int k).C w A xs.length xs := by
 obtain ⟨g, C, c', hv, hl, hC, hR⟩ := h
 injection hv with ha hn hc
 subst ha; subst hn; subst hc
 refine ⟨rfl, hl, ?_⟩
 have h1 := (Kd.R_reads' hR).2.2
 have h2 := Kd.C_drop (m := P.length) (c := C) h1 (by simp only [List.length_append]; omega) (Kd.R_reads' hR).2.1
 have h3 := Kd.C_take (m := xs.length) h2 (by simp)
 rw [show ((P ++ xs ++ S).drop P.length).take xs.length = xs by simp [List.append_assoc]] at h3
 by_cases hP : C = P.length
 ·have : c = 0 := by omega
  have : xs.length = 0 := by omega
  have : xs = [] := List.eq_nil_of_length_eq_zero this
  subst this
  rw [if_pos hP] at h3
  exact ⟨rfl, by simp, fun hp => absurd hp (by simp)⟩
 rw [if_neg hP] at h3
 have ha : (⟨g, 0, none⟩ : Addr).add P.length = ⟨g, P.length, none⟩ := by
  unfold Addr.add
  by_cases h : P.length = 0 <;> simp [h]
 simpa [ha, show (Kd.int k).sz = 1 from rfl] using h3
end
end Wd
set_option maxHeartbeats 8000000 in
set_option maxRecDepth 100000 in
theorem natural_step.callsW (P_ S_ : List Int) (k : Nat) (P0_ : Nat → Prop) (u9000_ : Value) (l0 : List Int) (A1 : Option Addr) (c1 : Nat) (l1 : List Int) (r1 : Int) (r2 : List Int) (w0 w : World) (hB : Below w0.heap.size w0 w) (ho0 : Wd P_ S_ (Kd.int .u32) 88 w w0.heap.size P0_ u9000_ l0) (hr1 : ∀ W_, Kept w W_ (fun k_ => P0_ k_) → Kd.C (Kd.int .u32) W_ A1 l1.length l1) (hc1 : l1.length ≤ c1) (h : natural_step.f k l0 l1 = some (r1, r2)) :
  Calls Tryd.prog 81 #[u9000_, .slice A1 l1.length c1] w fun e w' => e = .returned (.int .u32 r1) ∧ Wd P_ S_ (Kd.int .u32) 88 w' w0.heap.size (fun k_ => (P0_ k_ ∨ w.heap.size ≤ k_)) u9000_ r2 ∧ Below w0.heap.size w0 w' ∧ Kept w w' (fun k_ => P0_ k_) := by
 have HO0 := Aside0.mk (show Wd P_ S_ (Kd.int .u32) 88 w w0.heap.size (fun k_ => (P0_ k_ ∨ w.heap.size ≤ k_)) u9000_ l0 from Wd.mono ho0 (fun k_ hk => (.inl hk)))
 have HR1 := Aside0.mk hr1
 have HC1 := Aside0.mk hc1
 clear hr1 hc1
 have HK := Aside0.mk (Kept.refl w (fun k_ => P0_ k_))
 have HW0 := Aside0.mk hB.size
 have HB := Aside0.mk hB
 clear hB
 have H : (if 0 ≤ (l1.length : Int) then (if (l1.length : Int) < (l0.length : Int) then (if 0 ≤ (wrap64 ((l1.length : Int) - 1)) then (if (wrap64 ((l1.length : Int) - 1)) < (l0.length : Int) then (if (wrap64 ((l1.length : Int) - 1)) < (l1.length : Int) then (if (IntKind.u64.wrap (rd l1 (wrap64 ((l1.length : Int) - 1)))) = 0 then (none) else (natural_step.l0 k l0 l1 (l1.length : Int) (IntKind.u64.wrap (Int.tdiv (Go.bits .or .u64 (IntKind.u64.wrap ((IntKind.u64.wrap (rd l0 (l1.length : Int))) * 4294967296)) (IntKind.u64.wrap (rd l0 (wrap64 ((l1.length : Int) - 1))))) (IntKind.u64.wrap (rd l1 (wrap64 ((l1.length : Int) - 1)))))) (Int.tmod (Go.bits .or .u64 (IntKind.u64.wrap ((IntKind.u64.wrap (rd l0 (l1.length : Int))) * 4294967296)) (IntKind.u64.wrap (rd l0 (wrap64 ((l1.length : Int) - 1))))) (IntKind.u64.wrap (rd l1 (wrap64 ((l1.length : Int) - 1))))))) else (none)) else (none)) else (none)) else (none)) else (none)) = some (r1, r2) := h
 clear h
 by_cases c3 : 0 ≤ (l1.length : Int)
 rotate_left
 ·rw [if_neg c3] at H
  exact absurd H (by simp)
 rw [if_pos c3] at H
 have c3b0 : decide (0 ≤ (l1.length : Int)) = true := decide_eq_true c3
 have c3b1 : decide (0 ≤ l1.length) = true := decide_eq_true (by omega)
 clear c3
 by_cases c4 : (l1.length : Int) < (l0.length : Int)
 rotate_left
 ·rw [if_neg c4] at H
  exact absurd H (by simp)
 rw [if_pos c4] at H
 have c4b0 : decide ((l1.length : Int) < (l0.length : Int)) = true := decide_eq_true c4
 have c4b1 : decide (l1.length < l0.length) = true := decide_eq_true (Int.ofNat_lt.mp c4)
 clear c4
 obtain ⟨ji5, hji5⟩ : ∃ j_ : Int, (wrap64 ((l1.length : Int) - 1)) = j_ := ⟨_, rfl⟩
 replace H : (if 0 ≤ (ji5) then (if (ji5) < (l0.length : Int) then (if (ji5) < (l1.length : Int) then (if (IntKind.u64.wrap (rd l1 (ji5))) = 0 then (none) else (natural_step.l0 k l0 l1 (l1.length : Int) (IntKind.u64.wrap (Int.tdiv (Go.bits .or .u64 (IntKind.u64.wrap ((IntKind.u64.wrap (rd l0 (l1.length : Int))) * 4294967296)) (IntKind.u64.wrap (rd l0 (ji5)))) (IntKind.u64.wrap (rd l1 (ji5))))) (Int.tmod (Go.bits .or .u64 (IntKind.u64.wrap ((IntKind.u64.wrap (rd l0 (l1.length : Int))) * 4294967296)) (IntKind.u64.wrap (rd l0 (ji5)))) (IntKind.u64.wrap (rd l1 (ji5)))))) else (none)) else (none)) else (none)) = some (r1, r2) := by first | (rw [hji5] at H; exact H) | (simp only [hji5] at H ⊢; exact H)
 have hji5w : (IntKind.i64.wrap ((l1.length : Int) - 1)) = ji5 := (i64_w _).trans hji5
 by_cases c6 : 0 ≤ (ji5)
 rotate_left
 ·rw [if_neg c6] at H
  exact absurd H (by simp)
 rw [if_pos c6] at H
 have c6b0 : decide (0 ≤ (ji5)) = true := decide_eq_true c6
 clear c6
 by_cases c7 : (ji5) < (l0.length : Int)
 rotate_left
 ·rw [if_neg c7] at H
  exact absurd H (by simp)
 rw [if_pos c7] at H
 have c7b0 : decide ((ji5) < (l0.length : Int)) = true := decide_eq_true c7
 clear c7
 by_cases c8 : (ji5) < (l1.length : Int)
 rotate_left
 ·rw [if_neg c8] at H
  exact absurd H (by simp)
 rw [if_pos c8] at H
 have c8b0 : decide ((ji5) < (l1.length : Int)) = true := decide_eq_true c8
 clear c8
 by_cases c9 : (IntKind.u64.wrap (rd l1 (ji5))) = 0
 ·rw [if_pos c9] at H
  exact absurd H (by simp)
 rw [if_neg c9] at H
 have c9b0 : ((IntKind.u64.wrap (rd l1 (ji5))) == 0) = false := beq_eq_false_iff_ne.mpr c9
 have c9b1 : ((IntKind.u64.wrap (rd l1 (ji5))) != 0) = true := bne_iff_ne.mpr c9
 have HC10 := Aside0.mk H
 clear H
 obtain ⟨Ao11, co11, eo11⟩ := Wd.slice_ HO0.out
 subst eo11
 have p147 : 0 ≤ ((l1.length : Int) : Int) := of_decide_eq_true (by first | (with_reducible assumption) | assumption)
 have q147 : (l1.length : Int) < (l0.length : Int) := of_decide_eq_true (by first | (with_reducible assumption) | assumption)
 obtain ⟨ad147, e147, hx147_0⟩ := Kd.at_int (Wd.reads' HO0.out).2.2 (l1.length : Int) p147 q147
 cases e147
 (try simp only [Go.IntWalk.toNatUp] at hx147_0)
 replace p147 := eq_true p147
 replace q147 := eq_true q147
 have p148 : 0 ≤ ((ji5) : Int) := of_decide_eq_true (by first | (with_reducible assumption) | assumption)
 have q148 : (ji5) < (l0.length : Int) := of_decide_eq_true (by first | (with_reducible assumption) | assumption)
 obtain ⟨ad148, e148, hx148_0⟩ := Kd.at_int (Wd.reads' HO0.out).2.2 (ji5) p148 q148
 obtain rfl : ad147 = ad148 := (by injection e148)
 replace p148 := eq_true p148
 replace q148 := eq_true q148
 have p149 : 0 ≤ ((ji5) : Int) := of_decide_eq_true (by first | (with_reducible assumption) | assumption)
 have q149 : (ji5) < (l1.length : Int) := of_decide_eq_true (by first | (with_reducible assumption) | assumption)
 obtain ⟨ad149, e149, hx149_0⟩ := Kd.at_int (Kd.C_kept_now HR1.out HK.out) (ji5) p149 q149
 cases e149
 replace p149 := eq_true p149
 replace q149 := eq_true q149
 have p150 : 0 ≤ ((ji5) : Int) := of_decide_eq_true (by first | (with_reducible assumption) | assumption)
 have q150 : (ji5) < (l1.length : Int) := of_decide_eq_true (by first | (with_reducible assumption) | assumption)
 obtain ⟨ad150, e150, hx150_0⟩ := Kd.at_int (Kd.C_kept_now HR1.out HK.out) (ji5) p150 q150
 obtain rfl : ad149 = ad150 := (by injection e150)
 replace p150 := eq_true p150
 replace q150 := eq_true q150
 go_enter Tryd.func81, Tryd.ntmps81
 go_upto_block 0 with (fail)
 repeat (go_quiet (fail); go_upto_block 0 with (fail))
 go_cut [7] (fun v7 wc => ∃ (kq : Nat) (x7_9 : Int), v7 = .int .u64 x7_9 ∧ Aside0 (natural_step.j2 kq l0 l1 (l1.length : Int) x7_9 = some (r1, r2)) ∧ Aside0 (kq ≤ k) ∧ Aside0 (Wd P_ S_ (Kd.int .u32) 88 wc w0.heap.size (fun k_ => (P0_ k_ ∨ w.heap.size ≤ k_)) (.slice (some ad147) l0.length co11) l0) ∧ Aside0 (Kept w wc (fun k_ => P0_ k_)) ∧ Aside0 (Below w0.heap.size w0 wc))
 case first =>
  have H := HC10.out
  clear HC10
  have H' := Aside0.mk H
  clear H
  go_wp2
  repeat (go_quiet (fail); try go_wp2)
  go_loopg [7, 8] k (fun kq v7 v8 w' => ∃ (x7_1 : Int) (x8_1 : Int), v7 = .int .u64 x7_1 ∧ v8 = .int .u64 x8_1 ∧ Aside0 (natural_step.l0 kq l0 l1 (l1.length : Int) x7_1 x8_1 = some (r1, r2)) ∧ Aside0 (kq ≤ k) ∧ Aside0 (Wd P_ S_ (Kd.int .u32) 88 w' w0.heap.size (fun k_ => (P0_ k_ ∨ w.heap.size ≤ k_)) (.slice (some ad147) l0.length co11) l0) ∧ Aside0 (Kept w w' (fun k_ => P0_ k_)) ∧ Aside0 (Below w0.heap.size w0 w'))
  case atStart => exact ⟨(IntKind.u64.wrap (Int.tdiv (Go.bits .or .u64 (IntKind.u64.wrap ((IntKind.u64.wrap (rd l0 (l1.length : Int))) * 4294967296)) (IntKind.u64.wrap (rd l0 (ji5)))) (IntKind.u64.wrap (rd l1 (ji5))))), (Int.tmod (Go.bits .or .u64 (IntKind.u64.wrap ((IntKind.u64.wrap (rd l0 (l1.length : Int))) * 4294967296)) (IntKind.u64.wrap (rd l0 (ji5)))) (IntKind.u64.wrap (rd l1 (ji5)))), (by first | rfl | (simp; done) | (simp only [← hji5] <;> (first | rfl | simp)) | (simp [*]; done)), (by first | rfl | (simp; done) | (simp only [← hji5] <;> (first | rfl | simp)) | (simp [*]; done)), H', ⟨Nat.le_refl _⟩, ⟨by (with_reducible repeat (first | apply Wd.alloc | apply Wd.drewN | apply Wd.drew)); exact HO0.out⟩, ⟨by repeat (first | (with_reducible first | exact HK.out | apply Kept.alloc | apply Kept.drewN | apply Kept.drew) | exact HK.out)⟩, ⟨by repeat (first | (with_reducible first | exact HB.out | apply below_alloc | apply pw_below_drewN | apply below_drew1) | exact HB.out)⟩⟩
  case round =>
   clear H'
   try clear c1
   try clear p1
   try clear q1
   try clear hx1
   try clear p2
   try clear c3
   try clear c3b0
   try clear c3b1
   try clear c4
   try clear c4b0
   try clear c4b1
   try clear c6
   try clear c6b0
   try clear p6
   try clear c7
   try clear c7b0
   try clear c8
   try clear c8b0
   try clear c9
   try clear c9b0
   try clear c9b1
   try clear hx147_0
   try clear hx148_0
   try clear hx149_0
   try clear hx150_0
   try clear p147
   try clear p148
   try clear p149
   try clear p150
   try clear q147
   try clear q148
   try clear q149
   try clear q150
   obtain ⟨x7_1, x8_1, rfl, rfl, HA, HK1, HO_0, HK, HB⟩ := hrel
   cases gk with
   | zero => exact absurd HA.out (by simp [natural_step.l0])
   | succ k1 =>
    have H := HA.out
    clear HA
    simp only [natural_step.l0] at H
    have HC12 := Aside0.mk H
    clear H
    go_upto_region 4 with (fail)
    go_cut [69] (fun v69 wc => ∃ (kq : Nat) (x69_11 : Bool), v69 = .bool x69_11 ∧ Aside0 (natural_step.j1 kq l0 l1 (l1.length : Int) x7_1 x8_1 x69_11 = some (r1, r2)) ∧ Aside0 (kq ≤ k1) ∧ Aside0 (Wd P_ S_ (Kd.int .u32) 88 wc w0.heap.size (fun k_ => (P0_ k_ ∨ w.heap.size ≤ k_)) (.slice (some ad147) l0.length co11) l0) ∧ Aside0 (Kept w wc (fun k_ => P0_ k_)) ∧ Aside0 (Below w0.heap.size w0 wc))
    case first =>
     have H := HC12.out
     clear HC12
     by_cases c13 : x7_1 ≥ 4294967296
     ·rw [if_pos c13] at H
      have c13b0 : decide (4294967296 ≤ x7_1) = true := decide_eq_true c13
      clear c13
      (first | rw [c13b0] | (simp only [i64_w, i32_w]; rw [c13b0]) | skip)
      have H' := Aside0.mk H
      clear H
      go_wp2
      repeat (go_quiet (fail); try go_wp2)
      go_meet
      case rel => exact ⟨_, (true), (by first | rfl | (simp; done) | (simp [*]; done)), H', ⟨by have := HK1.out; first | omega | exact Nat.le_refl _⟩, ⟨by (with_reducible repeat (first | apply Wd.alloc | apply Wd.drewN | apply Wd.drew)); exact HO_0.out⟩, ⟨by repeat (first | (with_reducible first | exact HK.out | apply Kept.alloc | apply Kept.drewN | apply Kept.drew) | exact HK.out)⟩, ⟨by repeat (first | (with_reducible first | exact HB.out | apply below_alloc | apply pw_below_drewN | apply below_drew1) | exact HB.out)⟩⟩
     rw [if_neg c13] at H
     have c13b0 : decide (4294967296 ≤ x7_1) = false := decide_eq_false c13
     clear c13
     (first | rw [c13b0] | (simp only [i64_w, i32_w]; rw [c13b0]) | skip)
     obtain ⟨ji14, hji14⟩ : ∃ j_ : Int, (wrap64 ((l1.length : Int) - 2)) = j_ := ⟨_, rfl⟩
     replace H : (if 0 ≤ (ji14) then (if (ji14) < (l1.length : Int) then (if (ji14) < (l0.length : Int) then (natural_step.j1 k1 l0 l1 (l1.length : Int) x7_1 x8_1 (decide ((IntKind.u64.wrap (x7_1 * (IntKind.u64.wrap (rd l1 (ji14))))) > (Go.bits .or .u64 (IntKind.u64.wrap (x8_1 * 4294967296)) (IntKind.u64.wrap (rd l0 (ji14))))))) else (none)) else (none)) else (none)) = some (r1, r2) := by first | (rw [hji14] at H; exact H) | (simp only [hji14] at H ⊢; exact H)
     have hji14w : (IntKind.i64.wrap ((l1.length : Int) - 2)) = ji14 := (i64_w _).trans hji14
     by_cases c15 : 0 ≤ (ji14)
     rotate_left
     ·rw [if_neg c15] at H
      exact absurd H (by simp)
     rw [if_pos c15] at H
     have c15b0 : decide (0 ≤ (ji14)) = true := decide_eq_true c15
     clear c15
     by_cases c16 : (ji14) < (l1.length : Int)
     rotate_left
     ·rw [if_neg c16] at H
      exact absurd H (by simp)
     rw [if_pos c16] at H
     have c16b0 : decide ((ji14) < (l1.length : Int)) = true := decide_eq_true c16
     clear c16
     by_cases c17 : (ji14) < (l0.length : Int)
     rotate_left
     ·rw [if_neg c17] at H
      exact absurd H (by simp)
     rw [if_pos c17] at H
     have c17b0 : decide ((ji14) < (l0.length : Int)) = true := decide_eq_true c17
     clear c17
     have H' := Aside0.mk H
     clear H
     have p151 : 0 ≤ ((ji14) : Int) := of_decide_eq_true (by first | (with_reducible assumption) | assumption)
     have q151 : (ji14) < (l1.length : Int) := of_decide_eq_true (by first | (with_reducible assumption) | assumption)
     obtain ⟨ad151, e151, hx151_0⟩ := Kd.at_int (Kd.C_kept_now HR1.out HK.out) (ji14) p151 q151
     obtain rfl : ad149 = ad151 := (by injection e151)
     replace p151 := eq_true p151
     replace q151 := eq_true q151
     have p152 : 0 ≤ ((ji14) : Int) := of_decide_eq_true (by first | (with_reducible assumption) | assumption)
     have q152 : (ji14) < (l0.length : Int) := of_decide_eq_true (by first | (with_reducible assumption) | assumption)
     obtain ⟨ad152, e152, hx152_0⟩ := Kd.at_int (Wd.reads' HO_0.out).2.2 (ji14) p152 q152
     obtain rfl : ad147 = ad152 := (by injection e152)
     replace p152 := eq_true p152
     replace q152 := eq_true q152
     go_wp2
     repeat (go_quiet (fail); try go_wp2)
     go_meet
     case rel => exact ⟨_, (decide ((IntKind.u64.wrap (x7_1 * (IntKind.u64.wrap (rd l1 (ji14))))) > (Go.bits .or .u64 (IntKind.u64.wrap (x8_1 * 4294967296)) (IntKind.u64.wrap (rd l0 (ji14)))))), (by first | rfl | (simp; done) | (simp only [← hji14] <;> (first | rfl | simp)) | (simp [*]; done)), H', ⟨by have := HK1.out; first | omega | exact Nat.le_refl _⟩, ⟨by (with_reducible repeat (first | apply Wd.alloc | apply Wd.drewN | apply Wd.drew)); exact HO_0.out⟩, ⟨by repeat (first | (with_reducible first | exact HK.out | apply Kept.alloc | apply Kept.drewN | apply Kept.drew) | exact HK.out)⟩, ⟨by repeat (first | (with_reducible first | exact HB.out | apply below_alloc | apply pw_below_drewN | apply below_drew1) | exact HB.out)⟩⟩
    case rest =>
     clear HC12
     try clear c1
     try clear p1
     try clear q1
     try clear hx1
     try clear p2
     try clear c3
     try clear c3b0
     try clear c3b1
     try clear c4
     try clear c4b0
     try clear c4b1
     try clear c6
     try clear c6b0
     try clear p6
     try clear c7
     try clear c7b0
     try clear c8
     try clear c8b0
     try clear c9
     try clear c9b0
     try clear c9b1
     try clear c13
     try clear c13b0
     try clear p14
     try clear q14
     try clear hx14
     try clear c15
     try clear c15b0
     try clear p15
     try clear q15
     try clear hx15
     try clear c16
     try clear c16b0
     try clear c17
     try clear c17b0
     try clear hx147_0
     try clear hx148_0
     try clear hx149_0
     try clear hx150_0
     try clear hx151_0
     try clear hx152_0
     try clear p1
     try clear p147
     try clear p148
     try clear p149
     try clear p150
     try clear p151
     try clear p152
     try clear p2
     try clear p6
     try clear q1
     try clear q147
     try clear q148
     try clear q149
     try clear q150
     try clear q151
     try clear q152
     obtain ⟨kq, x69_11, rfl, HA, HJ11, HO_0, HK, HB⟩ := hcut
     cases kq with
     | zero => exact absurd HA.out (by simp [natural_step.j1])
     | succ kj11 =>
      have H := HA.out
      clear HA
      simp only [natural_step.j1] at H
      by_cases c18 : x69_11 = true
      rotate_left
      ·replace c18 := Bool.eq_false_iff.mpr c18
       subst c18
       have H1 : (natural_step.j2 kj11 l0 l1 (l1.length : Int) x7_1) = some (r1, r2) := by rw [if_neg (show ¬ (false = true) by decide)] at H; exact H
       clear H
       have H := H1
       clear H1
       have H' := Aside0.mk H
       clear H
       go_wp2
       repeat (go_quiet (fail); try go_wp2)
       go_meet
       case rel => exact ⟨_, (x7_1), (by first | rfl | (simp; done) | (simp [*]; done)), H', ⟨by have := HK1.out; have := HJ11.out; first | omega | exact Nat.le_refl _⟩, ⟨by (with_reducible repeat (first | apply Wd.alloc | apply Wd.drewN | apply Wd.drew)); exact HO_0.out⟩, ⟨by repeat (first | (with_reducible first | exact HK.out | apply Kept.alloc | apply Kept.drewN | apply Kept.drew) | exact HK.out)⟩, ⟨by repeat (first | (with_reducible first | exact HB.out | apply below_alloc | apply pw_below_drewN | apply below_drew1) | exact HB.out)⟩⟩
      subst c18
      have H1 : (if 0 ≤ (wrap64 ((l1.length : Int) - 1)) then (if (wrap64 ((l1.length : Int) - 1)) < (l1.length : Int) then (if (IntKind.u64.wrap (x8_1 + (IntKind.u64.wrap (rd l1 (wrap64 ((l1.length : Int) - 1)))))) ≥ 4294967296 then (natural_step.j2 kj11 l0 l1 (l1.length : Int) (IntKind.u64.wrap (x7_1 - 1))) else (natural_step.l0 kj11 l0 l1 (l1.length : Int) (IntKind.u64.wrap (x7_1 - 1)) (IntKind.u64.wrap (x8_1 + (IntKind.u64.wrap (rd l1 (wrap64 ((l1.length : Int) - 1)))))))) else (none)) else (none)) = some (r1, r2) := by rw [if_pos rfl] at H; exact H
      clear H
      have H := H1
      clear H1
      have hji19 := hji5
      replace H : (if 0 ≤ (ji5) then (if (ji5) < (l1.length : Int) then (if (IntKind.u64.wrap (x8_1 + (IntKind.u64.wrap (rd l1 (ji5))))) ≥ 4294967296 then (natural_step.j2 kj11 l0 l1 (l1.length : Int) (IntKind.u64.wrap (x7_1 - 1))) else (natural_step.l0 kj11 l0 l1 (l1.length : Int) (IntKind.u64.wrap (x7_1 - 1)) (IntKind.u64.wrap (x8_1 + (IntKind.u64.wrap (rd l1 (ji5))))))) else (none)) else (none)) = some (r1, r2) := by first | (rw [hji19] at H; exact H) | (simp only [hji19] at H ⊢; exact H)
      have hji19w : (IntKind.i64.wrap ((l1.length : Int) - 1)) = ji5 := (i64_w _).trans hji19
      by_cases c20 : 0 ≤ (ji5)
      rotate_left
      ·rw [if_neg c20] at H
       exact absurd H (by simp)
      rw [if_pos c20] at H
      have c20b0 : decide (0 ≤ (ji5)) = true := decide_eq_true c20
      clear c20
      by_cases c21 : (ji5) < (l1.length : Int)
      rotate_left
      ·rw [if_neg c21] at H
       exact absurd H (by simp)
      rw [if_pos c21] at H
      have c21b0 : decide ((ji5) < (l1.length : Int)) = true := decide_eq_true c21
      clear c21
      by_cases c22 : (IntKind.u64.wrap (x8_1 + (IntKind.u64.wrap (rd l1 (ji5))))) ≥ 4294967296
      ·rw [if_pos c22] at H
       have c22b0 : decide (4294967296 ≤ (IntKind.u64.wrap (x8_1 + (IntKind.u64.wrap (rd l1 (ji5)))))) = true := decide_eq_true c22
       clear c22
       have H' := Aside0.mk H
       clear H
       have p153 : 0 ≤ ((ji5) : Int) := of_decide_eq_true (by first | (with_reducible assumption) | assumption)
       have q153 : (ji5) < (l1.length : Int) := of_decide_eq_true (by first | (with_reducible assumption) | assumption)
       obtain ⟨ad153, e153, hx153_0⟩ := Kd.at_int (Kd.C_kept_now HR1.out HK.out) (ji5) p153 q153
       obtain rfl : ad149 = ad153 := (by injection e153)
       replace p153 := eq_true p153
       replace q153 := eq_true q153
       go_wp2
       go_meet
       case rel => exact ⟨_, (IntKind.u64.wrap (x7_1 - 1)), (by first | rfl | (simp; done) | (simp [*]; done)), H', ⟨by have := HK1.out; have := HJ11.out; first | omega | exact Nat.le_refl _⟩, ⟨by (with_reducible repeat (first | apply Wd.alloc | apply Wd.drewN | apply Wd.drew)); exact HO_0.out⟩, ⟨by repeat (first | (with_reducible first | exact HK.out | apply Kept.alloc | apply Kept.drewN | apply Kept.drew) | exact HK.out)⟩, ⟨by repeat (first | (with_reducible first | exact HB.out | apply below_alloc | apply pw_below_drewN | apply below_drew1) | exact HB.out)⟩⟩
      rw [if_neg c22] at H
      have c22b0 : decide (4294967296 ≤ (IntKind.u64.wrap (x8_1 + (IntKind.u64.wrap (rd l1 (ji5)))))) = false := decide_eq_false c22
      clear c22
      have H' := Aside0.mk H
      clear H
      have p153 : 0 ≤ ((ji5) : Int) := of_decide_eq_true (by first | (with_reducible assumption) | assumption)
      have q153 : (ji5) < (l1.length : Int) := of_decide_eq_true (by first | (with_reducible assumption) | assumption)
      obtain ⟨ad153, e153, hx153_0⟩ := Kd.at_int (Kd.C_kept_now HR1.out HK.out) (ji5) p153 q153
      obtain rfl : ad149 = ad153 := (by injection e153)
      replace p153 := eq_true p153
      replace q153 := eq_true q153
      go_wp2
      go_roundg kj11
      case measure => have := HK1.out; have := HJ11.out; omega
      case rel => exact ⟨(IntKind.u64.wrap (x7_1 - 1)), (IntKind.u64.wrap (x8_1 + (IntKind.u64.wrap (rd l1 (ji5))))), (by first | rfl | (simp; done) | (simp [*]; done)), (by first | rfl | (simp; done) | (simp only [← hji19] <;> (first | rfl | simp)) | (simp [*]; done)), H', ⟨by have := HK1.out; have := HJ11.out; omega⟩, ⟨by (with_reducible repeat (first | apply Wd.alloc | apply Wd.drewN | apply Wd.drew)); exact HO_0.out⟩, ⟨by repeat (first | (with_reducible first | exact HK.out | apply Kept.alloc | apply Kept.drewN | apply Kept.drew) | exact HK.out)⟩, ⟨by repeat (first | (with_reducible first | exact HB.out | apply below_alloc | apply pw_below_drewN | apply below_drew1) | exact HB.out)⟩⟩
 case rest =>
  clear HC10
  try clear c1
  try clear p1
  try clear q1
  try clear hx1
  try clear c2
  try clear p2
  try clear c3
  try clear c3b0
  try clear c3b1
  try clear c4
  try clear c4b0
  try clear c4b1
  try clear c6
  try clear c6b0
  try clear p6
  try clear c7
  try clear c7b0
  try clear c8
  try clear c8b0
  try clear c9
  try clear c9b0
  try clear c9b1
  try clear c13
  try clear c13b0
  try clear p14
  try clear q14
  try clear hx14
  try clear c15
  try clear c15b0
  try clear p15
  try clear q15
  try clear hx15
  try clear c16
  try clear c16b0
  try clear c17
  try clear c17b0
  try clear c18
  try clear c20
  try clear c20b0
  try clear c21
  try clear c21b0
  try clear c22
  try clear c22b0
  try clear hx147_0
  try clear hx148_0
  try clear hx149_0
  try clear hx150_0
  try clear hx151_0
  try clear hx152_0
  try clear hx153_0
  try clear p1
  try clear p14
  try clear p147
  try clear p148
  try clear p149
  try clear p15
  try clear p150
  try clear p151
  try clear p152
  try clear p153
  try clear p2
  try clear p6
  try clear q1
  try clear q14
  try clear q147
  try clear q148
  try clear q149
  try clear q15
  try clear q150
  try clear q151
  try clear q152
  try clear q153
  obtain ⟨kq, x7_9, rfl, HA, HJ9, HO_0, HK, HB⟩ := hcut
  cases kq with
  | zero => exact absurd HA.out (by simp [natural_step.j2])
  | succ kj9 =>
   have H := HA.out
   clear HA
   simp only [natural_step.j2] at H
   have H' := Aside0.mk H
   clear H
   go_wp2
   repeat (go_quiet (fail); try go_wp2)
   (try generalize Value.pointer (some (Addr.add ad147 l1.length)) = dp1_)
   (try generalize Value.pointer (some (Addr.add ad147 ji5.toNat)) = dp2_)
   go_loopg [9, 10, 84] kj9 (fun kq v9 v10 v84 w' => ∃ (x0_2 : List Int) (x9_2 : Int) (x10_2 : Int) (x84_2 : Int), v9 = .int .u64 x9_2 ∧ v10 = .int .u32 x10_2 ∧ v84 = .int .i64 x84_2 ∧ Aside0 (natural_step.l1 kq x0_2 l1 (l1.length : Int) x7_9 x9_2 x10_2 l1 (l1.length : Int) x84_2 = some (r1, r2)) ∧ Aside0 (kq ≤ kj9) ∧ Aside0 (Wd P_ S_ (Kd.int .u32) 88 w' w0.heap.size (fun k_ => (P0_ k_ ∨ w.heap.size ≤ k_)) (.slice (some ad147) l0.length co11) x0_2) ∧ Aside0 (Kept w w' (fun k_ => P0_ k_)) ∧ Aside0 (Below w0.heap.size w0 w'))
   case atStart => exact ⟨(l0), (0), (0), (0), (by first | rfl | (simp; done) | (simp [*]; done)), (by first | rfl | (simp; done) | (simp [*]; done)), (by first | rfl | (simp; done) | (simp [*]; done)), H', ⟨Nat.le_refl _⟩, ⟨by (with_reducible repeat (first | apply Wd.alloc | apply Wd.drewN | apply Wd.drew)); exact HO_0.out⟩, ⟨by repeat (first | (with_reducible first | exact HK.out | apply Kept.alloc | apply Kept.drewN | apply Kept.drew) | exact HK.out)⟩, ⟨by repeat (first | (with_reducible first | exact HB.out | apply below_alloc | apply pw_below_drewN | apply below_drew1) | exact HB.out)⟩⟩
   case round =>
    clear H'
    try clear c1
    try clear p1
    try clear q1
    try clear hx1
    try clear c2
    try clear p2
    try clear c3
    try clear c3b0
    try clear c3b1
    try clear c4
    try clear c4b0
    try clear c4b1
    try clear c6
    try clear c6b0
    try clear p6
    try clear c7
    try clear c7b0
    try clear c8
    try clear c8b0
    try clear c9
    try clear c9b0
    try clear c9b1
    try clear c13
    try clear c13b0
    try clear p14
    try clear q14
    try clear hx14
    try clear c15
    try clear c15b0
    try clear p15
    try clear q15
    try clear hx15
    try clear c16
    try clear c16b0
    try clear c17
    try clear c17b0
    try clear c18
    try clear c20
    try clear c20b0
    try clear c21
    try clear c21b0
    try clear c22
    try clear c22b0
    try clear hx147_0
    try clear hx148_0
    try clear hx149_0
    try clear hx150_0
    try clear hx151_0
    try clear hx152_0
    try clear hx153_0
    try clear p1
    try clear p14
    try clear p147
    try clear p148
    try clear p149
    try clear p15
    try clear p150
    try clear p151
    try clear p152
    try clear p153
    try clear p2
    try clear p6
    try clear q1
    try clear q14
    try clear q147
    try clear q148
    try clear q149
    try clear q15
    try clear q150
    try clear q151
    try clear q152
    try clear q153
    obtain ⟨x0_2, x9_2, x10_2, x84_2, rfl, rfl, rfl, HA, HK2, HO_0, HK, HB⟩ := hrel
    have hl0_2 := (Wd.reads' HO_0.out).1
    rw [hl0_2] at HO_0
    (try simp only [hl0_2])
    cases gk with
    | zero => exact absurd HA.out (by simp [natural_step.l1])
    | succ k2 =>
     have H := HA.out
     clear HA
     simp only [natural_step.l1] at H
     by_cases c23 : x84_2 < (l1.length : Int)
     ·rw [if_pos c23] at H
      have c23b0 : decide (x84_2 < (l1.length : Int)) = true := decide_eq_true c23
      clear c23
      by_cases c24 : 0 ≤ x84_2
      rotate_left
      ·rw [if_neg c24] at H
       exact absurd H (by simp)
      rw [if_pos c24] at H
      have c24b0 : decide (0 ≤ x84_2) = true := decide_eq_true c24
      clear c24
      by_cases c25 : x84_2 < (l1.length : Int)
      rotate_left
      ·rw [if_neg c25] at H
       exact absurd H (by simp)
      rw [if_pos c25] at H
      have c25b0 : decide (x84_2 < (l1.length : Int)) = true := decide_eq_true c25
      clear c25
      by_cases c26 : x84_2 < (x0_2.length : Int)
      rotate_left
      ·rw [if_neg c26] at H
       exact absurd H (by simp)
      rw [if_pos c26] at H
      have c26b0 : decide (x84_2 < (x0_2.length : Int)) = true := decide_eq_true c26
      clear c26
      replace H := Option.bind_eq_some_iff.mp H
      obtain ⟨⟨t156, t157⟩, A270, H⟩ := H
      replace H : (natural_step.l1 k2 (x0_2.set (x84_2 : Int).toNat t156) l1 (l1.length : Int) x7_9 ((IntKind.u64.wrap ((IntKind.u64.wrap (x7_9 * (IntKind.u64.wrap (rd l1 x84_2)))) + x9_2)) / 4294967296) t157 l1 (l1.length : Int) (wrap64 (x84_2 + 1))) = some (r1, r2) := H
      have A27 := Aside0.mk A270
      clear A270
      obtain ⟨y158, hy158⟩ : ∃ y_ : List Int, y_ = (x0_2.set (x84_2 : Int).toNat t156) := ⟨_, rfl⟩
      replace H : (natural_step.l1 k2 y158 l1 (l1.length : Int) x7_9 ((IntKind.u64.wrap ((IntKind.u64.wrap (x7_9 * (IntKind.u64.wrap (rd l1 x84_2)))) + x9_2)) / 4294967296) t157 l1 (l1.length : Int) (wrap64 (x84_2 + 1))) = some (r1, r2) := by first | (rw [hy158]; with_reducible exact H) | (have H2_ := (Option.bind_some _ _).symm.trans H; rw [hy158]; with_reducible exact H2_) | (have H2_ := (Option.bind_some _ _).symm.trans H; with_reducible exact H2_) | with_reducible exact H | (rw [hy158]; exact H) | exact H
      have Ny158 := Aside0.mk hy158
      clear hy158
      have H' := Aside0.mk H
      clear H
      have p154 : 0 ≤ (x84_2 : Int) := of_decide_eq_true (by first | (with_reducible assumption) | assumption)
      have q154 : x84_2 < (l1.length : Int) := of_decide_eq_true (by first | (with_reducible assumption) | assumption)
      obtain ⟨ad154, e154, hx154_0⟩ := Kd.at_int (Kd.C_kept_now HR1.out HK.out) x84_2 p154 q154
      obtain rfl : ad149 = ad154 := (by injection e154)
      replace p154 := eq_true p154
      replace q154 := eq_true q154
      have p155 : 0 ≤ (x84_2 : Int) := of_decide_eq_true (by first | (with_reducible assumption) | assumption)
      have q155 : x84_2 < (x0_2.length : Int) := of_decide_eq_true (by first | (with_reducible assumption) | assumption)
      obtain ⟨ad155, e155, hx155_0⟩ := Kd.at_int (Wd.reads' HO_0.out).2.2 x84_2 p155 q155
      obtain rfl : ad147 = ad155 := (by injection e155)
      replace p155 := eq_true p155
      replace q155 := eq_true q155
      go_wp2_with (first | (go_at_call 91; (with_reducible refine (bits_Sub32.calls (rd x0_2 x84_2) ((IntKind.u64.wrap ((IntKind.u64.wrap (x7_9 * (IntKind.u64.wrap (rd l1 x84_2)))) + x9_2)) % 4294967296) x10_2 t156 t157 _ A27.out).mono ?_); rintro e w' ⟨rfl, ⟨nd, rfl⟩⟩; (try first | exact ⟨rfl, _, World.drewN_drewN _ _ _⟩ | exact ⟨rfl, _, Eq.trans (World.drewN_drewN _ _ _) (congrArg (World.drewN _) (Nat.add_assoc _ _ _))⟩); have p28 : 0 ≤ (x84_2 : Int) := of_decide_eq_true (by first | (with_reducible assumption) | assumption); have q28 : (x84_2 : Int) < ((x0_2.length : Int) : Int) := of_decide_eq_true (by first | (with_reducible assumption) | assumption); obtain ⟨go28, co28, eo28, gb28, gl28, cl28, HG28⟩ := Wd.form HO_0.out (by omega); (first | cases eo28 | (injection eo28 with ea_ en_ ec_; (first | subst ea_ | (injection ea_ with ea_; subst ea_)); subst ec_; clear en_)); have GB28 := Aside0.mk gb28; have GG28 := Aside0.mk HG28; clear gb28 gl28 HG28; have HMgo28 := Aside0.mk (show (P0_ go28 ∨ w.heap.size ≤ go28) from (Wd.ok_ HO_0.out _ rfl)); (first | simp only [Wd.add_plainP] at hx147_0 | skip); (first | simp only [Wd.add_plainP] at hx148_0 | skip); (first | simp only [Wd.add_plainP] at hx152_0 | skip); (first | simp only [Wd.add_plainP] at hx155_0 | skip); obtain ⟨hx28_0, hf28_0⟩ := Wd.celln 0 HO_0.out (x84_2 : Int) p28 q28; replace p28 := eq_true p28; replace q28 := eq_true q28; obtain ⟨hy29_, hz29_⟩ := Wd.celln 0 HO_0.out (x84_2 : Int) (of_decide_eq_true (by first | (with_reducible assumption) | assumption)) (of_decide_eq_true (by first | (with_reducible assumption) | assumption)); have HP29 := Wd.putg HO_0.out (x84_2 : Int) (by first | exact of_eq_true (by with_reducible assumption) | with_reducible assumption | exact of_eq_true (by assumption) | assumption) (by first | exact of_eq_true (by with_reducible assumption) | with_reducible assumption | exact of_eq_true (by assumption) | assumption) t156) | ((with_reducible refine gate_store (t := 88) (p := 110) rfl ?_); (try (rw [drewN_self wr]; generalize hq_ : World.drewN wr _ = wr; have n0_ := Aside0.mk (Wd.at_ hq_ HO_0.out); have n1_ := Aside0.mk (kept_at hq_ HK.out); have n2_ := Aside0.mk (below_at hq_ HB.out); clear hq_ HO_0 HK HB; have HO_0 := n0_; have HK := n1_; have HB := n2_; clear n0_ n1_ n2_; (try (obtain ⟨hy29_, hz29_⟩ := Wd.celln 0 HO_0.out (x84_2 : Int) (of_decide_eq_true (by first | (with_reducible assumption) | assumption)) (of_decide_eq_true (by first | (with_reducible assumption) | assumption)))); (try (have HP29 := Wd.putg HO_0.out (x84_2 : Int) (by first | exact of_eq_true (by with_reducible assumption) | with_reducible assumption | exact of_eq_true (by assumption) | assumption) (by first | exact of_eq_true (by with_reducible assumption) | with_reducible assumption | exact of_eq_true (by assumption) | assumption) t156)))); refine store_event (t := 88) (p := 110) (v := ?vo_w30) (w1 := (wr.setCell ⟨go28, P_.length + (x84_2 : Int).toNat, none⟩ (.int .u32 t156))) ?hg ?ho ?hn ?hr ?_; (case ho => rfl); (case hg => rfl); (case hn => rfl); (case hr => first | (go_simp; done) | (go_simp; rfl)); intro w30 hw; have hg : wr.grownBy w30 (some go28) := (by rw [hw]; exact HP29.2); have hp_ : Wd P_ S_ (Kd.int .u32) 88 w30 w0.heap.size (fun k_ => (P0_ k_ ∨ w.heap.size ≤ k_)) (.slice (some ⟨go28, P_.length, none⟩) x0_2.length co11) y158 := (by rw [hw, Ny158.out]; exact HP29.1); clear HP29; have n0_ := Aside0.mk (hp_); have n1_ := Aside0.mk ((by rw [hw]; exact below_set (HB.out) GB28.out : Below w0.heap.size w0 w30)); have n2_ := Aside0.mk (Kept.of_grown (S := (fun k_ => P0_ k_)) hg (by repeat (first | (with_reducible first | exact HK.out | apply Kept.alloc | apply Kept.drewN | apply Kept.drew) | exact HK.out)) (fun k_ e_ => (Wd.ok_ HO_0.out k_ e_))); clear HO_0; clear HB; clear HK; have HO_0 := n0_; have HB := n1_; have HK := n2_; clear n0_ n1_ n2_; clear hg hw hp_))
      (try simp only [← hl0_2])
      go_roundg k2
      case measure => have := HJ9.out; have := HK2.out; omega
      case rel => exact ⟨(y158), ((IntKind.u64.wrap ((IntKind.u64.wrap (x7_9 * (IntKind.u64.wrap (rd l1 x84_2)))) + x9_2)) / 4294967296), (t157), (wrap64 (x84_2 + 1)), (by first | rfl | (simp; done) | (simp [*]; done)), (by first | rfl | (simp; done) | (simp [*]; done)), (by first | rfl | (simp; done) | (simp [*]; done)), H', ⟨by have := HJ9.out; have := HK2.out; omega⟩, ⟨by (try simp only [hl0_2]); (with_reducible repeat (first | apply Wd.alloc | apply Wd.drewN | apply Wd.drew)); exact HO_0.out⟩, ⟨by repeat (first | (with_reducible first | exact HK.out | apply Kept.alloc | apply Kept.drewN | apply Kept.drew) | exact HK.out)⟩, ⟨by repeat (first | (with_reducible first | exact HB.out | apply below_alloc | apply pw_below_drewN | apply below_drew1) | exact HB.out)⟩⟩
     rw [if_neg c23] at H
     have c23b0 : decide (x84_2 < (l1.length : Int)) = false := decide_eq_false c23
     clear c23
     by_cases c31 : 0 ≤ (l1.length : Int)
     rotate_left
     ·rw [if_neg c31] at H
      exact absurd H (by simp)
     rw [if_pos c31] at H
     have c31b0 : decide (0 ≤ (l1.length : Int)) = true := decide_eq_true c31
     have c31b1 : decide (0 ≤ l1.length) = true := decide_eq_true (by omega)
     clear c31
     by_cases c32 : (l1.length : Int) < (x0_2.length : Int)
     rotate_left
     ·rw [if_neg c32] at H
      exact absurd H (by simp)
     rw [if_pos c32] at H
     have c32b0 : decide ((l1.length : Int) < (x0_2.length : Int)) = true := decide_eq_true c32
     have c32b1 : decide (l1.length < x0_2.length) = true := decide_eq_true (Int.ofNat_lt.mp c32)
     clear c32
     replace H := Option.bind_eq_some_iff.mp H
     obtain ⟨⟨t160, t161⟩, A330, H⟩ := H
     replace H : ((some (x0_2.set ((l1.length : Int) : Int).toNat t160 : List Int)).bind fun y162 => (if t161 = 0 then (some ((x7_9) % 4294967296, y162)) else (natural_step.l2 k2 y162 (l1.length : Int) x7_9 0 l1 (l1.length : Int) 0))) = some (r1, r2) := H
     have A33 := Aside0.mk A330
     clear A330
     obtain ⟨y162, hy162⟩ : ∃ y_ : List Int, y_ = (x0_2.set ((l1.length : Int) : Int).toNat t160) := ⟨_, rfl⟩
     replace H : (if t161 = 0 then (some ((x7_9) % 4294967296, y162)) else (natural_step.l2 k2 y162 (l1.length : Int) x7_9 0 l1 (l1.length : Int) 0)) = some (r1, r2) := by first | (rw [hy162]; with_reducible exact H) | (have H2_ := (Option.bind_some _ _).symm.trans H; rw [hy162]; with_reducible exact H2_) | (have H2_ := (Option.bind_some _ _).symm.trans H; with_reducible exact H2_) | with_reducible exact H | (rw [hy162]; exact H) | exact H
     have Ny162 := Aside0.mk hy162
     clear hy162
     by_cases c35 : t161 = 0
     ·rw [if_pos c35] at H
      have c35b0 : (t161 == 0) = true := beq_iff_eq.mpr c35
      have c35b1 : (t161 != 0) = false := bne_eq_false_iff_eq.mpr c35
      clear c35
      simp only [Option.some.injEq, Prod.mk.injEq] at H
      obtain ⟨rfl, rfl⟩ := H
      have p159 : 0 ≤ ((l1.length : Int) : Int) := of_decide_eq_true (by first | (with_reducible assumption) | assumption)
      have q159 : (l1.length : Int) < (x0_2.length : Int) := of_decide_eq_true (by first | (with_reducible assumption) | assumption)
      obtain ⟨ad159, e159, hx159_0⟩ := Kd.at_int (Wd.reads' HO_0.out).2.2 (l1.length : Int) p159 q159
      obtain rfl : ad147 = ad159 := (by injection e159)
      (try simp only [Go.IntWalk.toNatUp] at hx159_0)
      (try simp only [hl0_2] at p159)
      (try simp only [hl0_2] at q159)
      (try simp only [hl0_2] at hx159_0)
      replace p159 := eq_true p159
      replace q159 := eq_true q159
      go_wp2_with (first | (go_at_call 91; (with_reducible refine (bits_Sub32.calls (rd x0_2 (l1.length : Int)) ((x9_2) % 4294967296) x10_2 t160 t161 _ A33.out).mono ?_); rintro e w' ⟨rfl, ⟨nd, rfl⟩⟩; (try first | exact ⟨rfl, _, World.drewN_drewN _ _ _⟩ | exact ⟨rfl, _, Eq.trans (World.drewN_drewN _ _ _) (congrArg (World.drewN _) (Nat.add_assoc _ _ _))⟩); have p34 : 0 ≤ ((l1.length : Int) : Int) := of_decide_eq_true (by first | (with_reducible assumption) | assumption); have q34 : ((l1.length : Int) : Int) < ((x0_2.length : Int) : Int) := of_decide_eq_true (by first | (with_reducible assumption) | assumption); obtain ⟨go34, co34, eo34, gb34, gl34, cl34, HG34⟩ := Wd.form HO_0.out (by omega); (first | cases eo34 | (injection eo34 with ea_ en_ ec_; (first | subst ea_ | (injection ea_ with ea_; subst ea_)); subst ec_; clear en_)); have GB34 := Aside0.mk gb34; have GG34 := Aside0.mk HG34; clear gb34 gl34 HG34; have HMgo34 := Aside0.mk (show (P0_ go34 ∨ w.heap.size ≤ go34) from (Wd.ok_ HO_0.out _ rfl)); (first | simp only [Wd.add_plainP] at hx159_0 | skip); obtain ⟨hx34_0, hf34_0⟩ := Wd.celln 0 HO_0.out ((l1.length : Int) : Int) p34 q34; replace p34 := eq_true p34; replace q34 := eq_true q34; obtain ⟨hy36_, hz36_⟩ := Wd.celln 0 HO_0.out ((l1.length : Int) : Int) (of_decide_eq_true (by first | (with_reducible assumption) | assumption)) (of_decide_eq_true (by first | (with_reducible assumption) | assumption)); (try simp only [Go.IntWalk.toNatUp] at hy36_ hz36_); have HP36 := Wd.putg HO_0.out ((l1.length : Int) : Int) (by first | exact of_eq_true (by with_reducible assumption) | with_reducible assumption | exact of_eq_true (by assumption) | assumption) (by first | exact of_eq_true (by with_reducible assumption) | with_reducible assumption | exact of_eq_true (by assumption) | assumption) t160) | ((with_reducible refine gate_store (t := 88) (p := 125) rfl ?_); (try (rw [drewN_self wr]; generalize hq_ : World.drewN wr _ = wr; have n0_ := Aside0.mk (Wd.at_ hq_ HO_0.out); have n1_ := Aside0.mk (kept_at hq_ HK.out); have n2_ := Aside0.mk (below_at hq_ HB.out); clear hq_ HO_0 HK HB; have HO_0 := n0_; have HK := n1_; have HB := n2_; clear n0_ n1_ n2_; (try (obtain ⟨hy36_, hz36_⟩ := Wd.celln 0 HO_0.out ((l1.length : Int) : Int) (of_decide_eq_true (by first | (with_reducible assumption) | assumption)) (of_decide_eq_true (by first | (with_reducible assumption) | assumption)))); (try (try simp only [Go.IntWalk.toNatUp] at hy36_ hz36_)); (try (have HP36 := Wd.putg HO_0.out ((l1.length : Int) : Int) (by first | exact of_eq_true (by with_reducible assumption) | with_reducible assumption | exact of_eq_true (by assumption) | assumption) (by first | exact of_eq_true (by with_reducible assumption) | with_reducible assumption | exact of_eq_true (by assumption) | assumption) t160)))); refine store_event (t := 88) (p := 125) (v := ?vo_w37) (w1 := (wr.setCell ⟨go34, P_.length + ((l1.length : Int) : Int).toNat, none⟩ (.int .u32 t160))) ?hg ?ho ?hn ?hr ?_; (case ho => rfl); (case hg => rfl); (case hn => rfl); (case hr => first | (go_simp; done) | (go_simp; rfl)); intro w37 hw; have hg : wr.grownBy w37 (some go34) := (by rw [hw]; exact HP36.2); have hp_ : Wd P_ S_ (Kd.int .u32) 88 w37 w0.heap.size (fun k_ => (P0_ k_ ∨ w.heap.size ≤ k_)) (.slice (some ⟨go34, P_.length, none⟩) x0_2.length co11) y162 := (by rw [hw, Ny162.out]; exact HP36.1); clear HP36; have n0_ := Aside0.mk (hp_); have n1_ := Aside0.mk ((by rw [hw]; exact below_set (HB.out) GB34.out : Below w0.heap.size w0 w37)); have n2_ := Aside0.mk (Kept.of_grown (S := (fun k_ => P0_ k_)) hg (by repeat (first | (with_reducible first | exact HK.out | apply Kept.alloc | apply Kept.drewN | apply Kept.drew) | exact HK.out)) (fun k_ e_ => (Wd.ok_ HO_0.out k_ e_))); clear HO_0; clear HB; clear HK; have HO_0 := n0_; have HB := n1_; have HK := n2_; clear n0_ n1_ n2_; clear hg hw hp_))
      go_ret
      exact ⟨by first | rfl | (simp [errW_none, errW_some] <;> rfl) | (simp only [← hji5]; first | rfl | (simp [errW_none, errW_some] <;> rfl)) | (simp [*, errW_none, errW_some] <;> rfl), (by first | exact (by (with_reducible repeat (first | apply Wd.alloc | apply Wd.drewN | apply Wd.drew)); exact HO_0.out) | (simp only [hl0_2]; exact (by (with_reducible repeat (first | apply Wd.alloc | apply Wd.drewN | apply Wd.drew)); exact HO_0.out))), by repeat (first | (with_reducible first | exact HB.out | apply below_alloc | apply pw_below_drewN | apply below_drew1) | exact HB.out), by repeat (first | (with_reducible first | exact HK.out | apply Kept.alloc | apply Kept.drewN | apply Kept.drew) | exact HK.out)⟩
     rw [if_neg c35] at H
     have c35b0 : (t161 == 0) = false := beq_eq_false_iff_ne.mpr c35
     have c35b1 : (t161 != 0) = true := bne_iff_ne.mpr c35
     have H' := Aside0.mk H
     clear H
     have p159 : 0 ≤ ((l1.length : Int) : Int) := of_decide_eq_true (by first | (with_reducible assumption) | assumption)
     have q159 : (l1.length : Int) < (x0_2.length : Int) := of_decide_eq_true (by first | (with_reducible assumption) | assumption)
     obtain ⟨ad159, e159, hx159_0⟩ := Kd.at_int (Wd.reads' HO_0.out).2.2 (l1.length : Int) p159 q159
     obtain rfl : ad147 = ad159 := (by injection e159)
     (try simp only [Go.IntWalk.toNatUp] at hx159_0)
     (try simp only [hl0_2] at p159)
     (try simp only [hl0_2] at q159)
     (try simp only [hl0_2] at hx159_0)
     replace p159 := eq_true p159
     replace q159 := eq_true q159
     go_wp2_with (first | (go_at_call 91; (with_reducible refine (bits_Sub32.calls (rd x0_2 (l1.length : Int)) ((x9_2) % 4294967296) x10_2 t160 t161 _ A33.out).mono ?_); rintro e w' ⟨rfl, ⟨nd, rfl⟩⟩; (try first | exact ⟨rfl, _, World.drewN_drewN _ _ _⟩ | exact ⟨rfl, _, Eq.trans (World.drewN_drewN _ _ _) (congrArg (World.drewN _) (Nat.add_assoc _ _ _))⟩); have p34 : 0 ≤ ((l1.length : Int) : Int) := of_decide_eq_true (by first | (with_reducible assumption) | assumption); have q34 : ((l1.length : Int) : Int) < ((x0_2.length : Int) : Int) := of_decide_eq_true (by first | (with_reducible assumption) | assumption); obtain ⟨go34, co34, eo34, gb34, gl34, cl34, HG34⟩ := Wd.form HO_0.out (by omega); (first | cases eo34 | (injection eo34 with ea_ en_ ec_; (first | subst ea_ | (injection ea_ with ea_; subst ea_)); subst ec_; clear en_)); have GB34 := Aside0.mk gb34; have GG34 := Aside0.mk HG34; clear gb34 gl34 HG34; have HMgo34 := Aside0.mk (show (P0_ go34 ∨ w.heap.size ≤ go34) from (Wd.ok_ HO_0.out _ rfl)); (first | simp only [Wd.add_plainP] at hx159_0 | skip); obtain ⟨hx34_0, hf34_0⟩ := Wd.celln 0 HO_0.out ((l1.length : Int) : Int) p34 q34; replace p34 := eq_true p34; replace q34 := eq_true q34; obtain ⟨hy38_, hz38_⟩ := Wd.celln 0 HO_0.out ((l1.length : Int) : Int) (of_decide_eq_true (by first | (with_reducible assumption) | assumption)) (of_decide_eq_true (by first | (with_reducible assumption) | assumption)); (try simp only [Go.IntWalk.toNatUp] at hy38_ hz38_); have HP38 := Wd.putg HO_0.out ((l1.length : Int) : Int) (by first | exact of_eq_true (by with_reducible assumption) | with_reducible assumption | exact of_eq_true (by assumption) | assumption) (by first | exact of_eq_true (by with_reducible assumption) | with_reducible assumption | exact of_eq_true (by assumption) | assumption) t160) | ((with_reducible refine gate_store (t := 88) (p := 125) rfl ?_); (try (rw [drewN_self wr]; generalize hq_ : World.drewN wr _ = wr; have n0_ := Aside0.mk (Wd.at_ hq_ HO_0.out); have n1_ := Aside0.mk (kept_at hq_ HK.out); have n2_ := Aside0.mk (below_at hq_ HB.out); clear hq_ HO_0 HK HB; have HO_0 := n0_; have HK := n1_; have HB := n2_; clear n0_ n1_ n2_; (try (obtain ⟨hy38_, hz38_⟩ := Wd.celln 0 HO_0.out ((l1.length : Int) : Int) (of_decide_eq_true (by first | (with_reducible assumption) | assumption)) (of_decide_eq_true (by first | (with_reducible assumption) | assumption)))); (try (try simp only [Go.IntWalk.toNatUp] at hy38_ hz38_)); (try (have HP38 := Wd.putg HO_0.out ((l1.length : Int) : Int) (by first | exact of_eq_true (by with_reducible assumption) | with_reducible assumption | exact of_eq_true (by assumption) | assumption) (by first | exact of_eq_true (by with_reducible assumption) | with_reducible assumption | exact of_eq_true (by assumption) | assumption) t160)))); refine store_event (t := 88) (p := 125) (v := ?vo_w39) (w1 := (wr.setCell ⟨go34, P_.length + ((l1.length : Int) : Int).toNat, none⟩ (.int .u32 t160))) ?hg ?ho ?hn ?hr ?_; (case ho => rfl); (case hg => rfl); (case hn => rfl); (case hr => first | (go_simp; done) | (go_simp; rfl)); intro w39 hw; have hg : wr.grownBy w39 (some go34) := (by rw [hw]; exact HP38.2); have hp_ : Wd P_ S_ (Kd.int .u32) 88 w39 w0.heap.size (fun k_ => (P0_ k_ ∨ w.heap.size ≤ k_)) (.slice (some ⟨go34, P_.length, none⟩) x0_2.length co11) y162 := (by rw [hw, Ny162.out]; exact HP38.1); clear HP38; have n0_ := Aside0.mk (hp_); have n1_ := Aside0.mk ((by rw [hw]; exact below_set (HB.out) GB34.out : Below w0.heap.size w0 w39)); have n2_ := Aside0.mk (Kept.of_grown (S := (fun k_ => P0_ k_)) hg (by repeat (first | (with_reducible first | exact HK.out | apply Kept.alloc | apply Kept.drewN | apply Kept.drew) | exact HK.out)) (fun k_ e_ => (Wd.ok_ HO_0.out k_ e_))); clear HO_0; clear HB; clear HK; have HO_0 := n0_; have HB := n1_; have HK := n2_; clear n0_ n1_ n2_; clear hg hw hp_))
     (try generalize Value.pointer (some (Addr.add ad147 l1.length)) = dp1_)
     (try generalize Value.pointer (some (Addr.add ad147 ji5.toNat)) = dp2_)
     go_loopg [14, 132] k2 (fun kq v14 v132 w' => ∃ (x0_3 : List Int) (x14_3 : Int) (x132_3 : Int), v14 = .int .u32 x14_3 ∧ v132 = .int .i64 x132_3 ∧ Aside0 (natural_step.l2 kq x0_3 (l1.length : Int) x7_9 x14_3 l1 (l1.length : Int) x132_3 = some (r1, r2)) ∧ Aside0 (kq ≤ k2) ∧ Aside0 (Wd P_ S_ (Kd.int .u32) 88 w' w0.heap.size (fun k_ => (P0_ k_ ∨ w.heap.size ≤ k_)) (.slice (some ⟨go34, P_.length, none⟩) x0_2.length co11) x0_3) ∧ Aside0 (Kept w w' (fun k_ => P0_ k_)) ∧ Aside0 (Below w0.heap.size w0 w'))
     case atStart => exact ⟨(y162), (0), (0), (by first | rfl | (simp; done) | (simp [*]; done)), (by first | rfl | (simp; done) | (simp [*]; done)), H', ⟨Nat.le_refl _⟩, ⟨by (try simp only [hl0_2]); (with_reducible repeat (first | apply Wd.alloc | apply Wd.drewN | apply Wd.drew)); exact HO_0.out⟩, ⟨by repeat (first | (with_reducible first | exact HK.out | apply Kept.alloc | apply Kept.drewN | apply Kept.drew) | exact HK.out)⟩, ⟨by repeat (first | (with_reducible first | exact HB.out | apply below_alloc | apply pw_below_drewN | apply below_drew1) | exact HB.out)⟩⟩
     case round =>
      clear H'
      try clear c1
      try clear p1
      try clear q1
      try clear hx1
      try clear c2
      try clear p2
      try clear q2
      try clear hx2
      try clear hf2
      try clear c3
      try clear c3b0
      try clear c3b1
      try clear p3
      try clear q3
      try clear hx3
      try clear hf3
      try clear c4
      try clear c4b0
      try clear c4b1
      try clear c6
      try clear c6b0
      try clear p6
      try clear c7
      try clear c7b0
      try clear c8
      try clear c8b0
      try clear c9
      try clear c9b0
      try clear c9b1
      try clear c13
      try clear c13b0
      try clear p14
      try clear q14
      try clear hx14
      try clear c15
      try clear c15b0
      try clear p15
      try clear q15
      try clear hx15
      try clear c16
      try clear c16b0
      try clear c17
      try clear c17b0
      try clear c18
      try clear c20
      try clear c20b0
      try clear c21
      try clear c21b0
      try clear c22
      try clear c22b0
      try clear c23
      try clear c23b0
      try clear c24
      try clear c24b0
      try clear c25
      try clear c25b0
      try clear c26
      try clear c26b0
      try clear p28
      try clear q28
      try clear hx28
      try clear hf28
      try clear c31
      try clear c31b0
      try clear c31b1
      try clear c32
      try clear c32b0
      try clear c32b1
      try clear p34
      try clear q34
      try clear hx34
      try clear hf34
      try clear c35
      try clear c35b0
      try clear c35b1
      try clear hx147_0
      try clear hx148_0
      try clear hx149_0
      try clear hx150_0
      try clear hx151_0
      try clear hx152_0
      try clear hx153_0
      try clear hx154_0
      try clear hx155_0
      try clear hx159_0
      try clear hx28_0
      try clear hx34_0
      try clear p1
      try clear p14
      try clear p147
      try clear p148
      try clear p149
      try clear p15
      try clear p150
      try clear p151
      try clear p152
      try clear p153
      try clear p154
      try clear p155
      try clear p159
      try clear p2
      try clear p28
      try clear p34
      try clear p6
      try clear q1
      try clear q14
      try clear q147
      try clear q148
      try clear q149
      try clear q15
      try clear q150
      try clear q151
      try clear q152
      try clear q153
      try clear q154
      try clear q155
      try clear q159
      try clear q28
      try clear q34
      obtain ⟨x0_3, x14_3, x132_3, rfl, rfl, HA, HK3, HO_0, HK, HB⟩ := hrel
      have hl0_3 := (Wd.reads' HO_0.out).1
      rw [hl0_3] at HO_0
      (try simp only [hl0_3])
      cases gk with
      | zero => exact absurd HA.out (by simp [natural_step.l2])
      | succ k3 =>
       have H := HA.out
       clear HA
       simp only [natural_step.l2] at H
       by_cases c40 : x132_3 < (l1.length : Int)
       rotate_left
       ·rw [if_neg c40] at H
        have c40b0 : decide (x132_3 < (l1.length : Int)) = false := decide_eq_false c40
        clear c40
        by_cases c48 : 0 ≤ (l1.length : Int)
        rotate_left
        ·rw [if_neg c48] at H
         exact absurd H (by simp)
        rw [if_pos c48] at H
        have c48b0 : decide (0 ≤ (l1.length : Int)) = true := decide_eq_true c48
        have c48b1 : decide (0 ≤ l1.length) = true := decide_eq_true (by omega)
        clear c48
        by_cases c49 : (l1.length : Int) < (x0_3.length : Int)
        rotate_left
        ·rw [if_neg c49] at H
         exact absurd H (by simp)
        rw [if_pos c49] at H
        have c49b0 : decide ((l1.length : Int) < (x0_3.length : Int)) = true := decide_eq_true c49
        have c49b1 : decide (l1.length < x0_3.length) = true := decide_eq_true (Int.ofNat_lt.mp c49)
        clear c49
        obtain ⟨y169, hy169⟩ : ∃ y_ : List Int, y_ = (x0_3.set ((l1.length : Int) : Int).toNat (((rd x0_3 (l1.length : Int)) + x14_3) % 4294967296)) := ⟨_, rfl⟩
        replace H : (some ((IntKind.u64.wrap (x7_9 - 1)) % 4294967296, y169)) = some (r1, r2) := by first | (rw [hy169]; with_reducible exact H) | (have H2_ := (Option.bind_some _ _).symm.trans H; rw [hy169]; with_reducible exact H2_) | (have H2_ := (Option.bind_some _ _).symm.trans H; with_reducible exact H2_) | with_reducible exact H | (rw [hy169]; exact H) | exact H
        have Ny169 := Aside0.mk hy169
        clear hy169
        simp only [Option.some.injEq, Prod.mk.injEq] at H
        obtain ⟨rfl, rfl⟩ := H
        have p168 : 0 ≤ ((l1.length : Int) : Int) := of_decide_eq_true (by first | (with_reducible assumption) | assumption)
        have q168 : (l1.length : Int) < (x0_3.length : Int) := of_decide_eq_true (by first | (with_reducible assumption) | assumption)
        obtain ⟨ad168, e168, hx168_0⟩ := Kd.at_int (Wd.reads' HO_0.out).2.2 (l1.length : Int) p168 q168
        obtain rfl : (⟨go34, P_.length, none⟩ : Addr) = ad168 := (by injection e168)
        (first | simp only [Wd.add_plainP] at hx168_0 | simp only [add_at] at hx168_0 | simp only [Addr.add, Nat.zero_add] at hx168_0 | skip)
        (try simp only [Go.IntWalk.toNatUp] at hx168_0)
        (try simp only [hl0_2, hl0_3] at p168)
        (try simp only [hl0_2, hl0_3] at q168)
        (try simp only [hl0_2, hl0_3] at hx168_0)
        replace p168 := eq_true p168
        replace q168 := eq_true q168
        have p50 : 0 ≤ ((l1.length : Int) : Int) := of_decide_eq_true (by first | (with_reducible assumption) | assumption)
        have q50 : ((l1.length : Int) : Int) < ((x0_3.length : Int) : Int) := of_decide_eq_true (by first | (with_reducible assumption) | assumption)
        obtain ⟨hx50_0, hf50_0⟩ := Wd.celln 0 HO_0.out ((l1.length : Int) : Int) p50 q50
        (try (have hx50_0n_ := hx50_0; have hf50_0n_ := hf50_0; simp only [Int.toNat_natCast] at hx50_0n_ hf50_0n_))
        replace p50 := eq_true p50
        replace q50 := eq_true q50
        have HP51 := Wd.putg HO_0.out ((l1.length : Int) : Int) (by first | exact of_eq_true (by with_reducible assumption) | with_reducible assumption | exact of_eq_true (by assumption) | assumption) (by first | exact of_eq_true (by with_reducible assumption) | with_reducible assumption | exact of_eq_true (by assumption) | assumption) (((rd x0_3 (l1.length : Int)) + x14_3) % 4294967296)
        go_wp2_with (first | ((with_reducible refine gate_store (t := 88) (p := 157) rfl ?_); (try (rw [drewN_self wr]; generalize hq_ : World.drewN wr _ = wr; have n0_ := Aside0.mk (Wd.at_ hq_ HO_0.out); have n1_ := Aside0.mk (kept_at hq_ HK.out); have n2_ := Aside0.mk (below_at hq_ HB.out); clear hq_ HO_0 HK HB; have HO_0 := n0_; have HK := n1_; have HB := n2_; clear n0_ n1_ n2_; (try (obtain ⟨hx50_0, hf50_0⟩ := Wd.celln 0 HO_0.out ((l1.length : Int) : Int) (of_eq_true p50) (of_eq_true q50)); (try (have hx50_0n_ := hx50_0; have hf50_0n_ := hf50_0; simp only [Int.toNat_natCast] at hx50_0n_ hf50_0n_))); (try (have HP51 := Wd.putg HO_0.out ((l1.length : Int) : Int) (by first | exact of_eq_true (by with_reducible assumption) | with_reducible assumption | exact of_eq_true (by assumption) | assumption) (by first | exact of_eq_true (by with_reducible assumption) | with_reducible assumption | exact of_eq_true (by assumption) | assumption) (((rd x0_3 (l1.length : Int)) + x14_3) % 4294967296))))); refine store_event (t := 88) (p := 157) (v := ?vo_w52) (w1 := (wr.setCell ⟨go34, P_.length + ((l1.length : Int) : Int).toNat, none⟩ (.int .u32 (((rd x0_3 (l1.length : Int)) + x14_3) % 4294967296)))) ?hg ?ho ?hn ?hr ?_; (case ho => rfl); (case hg => rfl); (case hn => rfl); (case hr => first | (go_simp; done) | (go_simp; rfl)); intro w52 hw; have hg : wr.grownBy w52 (some go34) := (by rw [hw]; exact HP51.2); have hp_ : Wd P_ S_ (Kd.int .u32) 88 w52 w0.heap.size (fun k_ => (P0_ k_ ∨ w.heap.size ≤ k_)) (.slice (some ⟨go34, P_.length, none⟩) x0_3.length co11) y169 := (by rw [hw, Ny169.out]; exact HP51.1); clear HP51; have n0_ := Aside0.mk (hp_); have n1_ := Aside0.mk ((by rw [hw]; exact below_set (HB.out) GB34.out : Below w0.heap.size w0 w52)); have n2_ := Aside0.mk (Kept.of_grown (S := (fun k_ => P0_ k_)) hg (by repeat (first | (with_reducible first | exact HK.out | apply Kept.alloc | apply Kept.drewN | apply Kept.drew) | exact HK.out)) (fun k_ e_ => (Wd.ok_ HO_0.out k_ e_))); clear HO_0; clear HB; clear HK; have HO_0 := n0_; have HB := n1_; have HK := n2_; clear n0_ n1_ n2_; clear hg hw hp_))
        go_ret
        exact ⟨by first | rfl | (simp [errW_none, errW_some] <;> rfl) | (simp only [← hji5]; first | rfl | (simp [errW_none, errW_some] <;> rfl)) | (simp [*, errW_none, errW_some] <;> rfl), (by first | exact (by (with_reducible repeat (first | apply Wd.alloc | apply Wd.drewN | apply Wd.drew)); exact HO_0.out) | (simp only [hl0_2, hl0_3]; exact (by (with_reducible repeat (first | apply Wd.alloc | apply Wd.drewN | apply Wd.drew)); exact HO_0.out))), by repeat (first | (with_reducible first | exact HB.out | apply below_alloc | apply pw_below_drewN | apply below_drew1) | exact HB.out), by repeat (first | (with_reducible first | exact HK.out | apply Kept.alloc | apply Kept.drewN | apply Kept.drew) | exact HK.out)⟩
       rw [if_pos c40] at H
       have c40b0 : decide (x132_3 < (l1.length : Int)) = true := decide_eq_true c40
       clear c40
       by_cases c41 : 0 ≤ x132_3
       rotate_left
       ·rw [if_neg c41] at H
        exact absurd H (by simp)
       rw [if_pos c41] at H
       have c41b0 : decide (0 ≤ x132_3) = true := decide_eq_true c41
       clear c41
       by_cases c42 : x132_3 < (l1.length : Int)
       rotate_left
       ·rw [if_neg c42] at H
        exact absurd H (by simp)
       rw [if_pos c42] at H
       have c42b0 : decide (x132_3 < (l1.length : Int)) = true := decide_eq_true c42
       clear c42
       by_cases c43 : x132_3 < (x0_3.length : Int)
       rotate_left
       ·rw [if_neg c43] at H
        exact absurd H (by simp)
       rw [if_pos c43] at H
       have c43b0 : decide (x132_3 < (x0_3.length : Int)) = true := decide_eq_true c43
       clear c43
       replace H := Option.bind_eq_some_iff.mp H
       obtain ⟨⟨t165, t166⟩, A440, H⟩ := H
       replace H : (natural_step.l2 k3 (x0_3.set (x132_3 : Int).toNat t165) (l1.length : Int) x7_9 t166 l1 (l1.length : Int) (wrap64 (x132_3 + 1))) = some (r1, r2) := H
       have A44 := Aside0.mk A440
       clear A440
       obtain ⟨y167, hy167⟩ : ∃ y_ : List Int, y_ = (x0_3.set (x132_3 : Int).toNat t165) := ⟨_, rfl⟩
       replace H : (natural_step.l2 k3 y167 (l1.length : Int) x7_9 t166 l1 (l1.length : Int) (wrap64 (x132_3 + 1))) = some (r1, r2) := by first | (rw [hy167]; with_reducible exact H) | (have H2_ := (Option.bind_some _ _).symm.trans H; rw [hy167]; with_reducible exact H2_) | (have H2_ := (Option.bind_some _ _).symm.trans H; with_reducible exact H2_) | with_reducible exact H | (rw [hy167]; exact H) | exact H
       have Ny167 := Aside0.mk hy167
       clear hy167
       have H' := Aside0.mk H
       clear H
       have p163 : 0 ≤ (x132_3 : Int) := of_decide_eq_true (by first | (with_reducible assumption) | assumption)
       have q163 : x132_3 < (l1.length : Int) := of_decide_eq_true (by first | (with_reducible assumption) | assumption)
       obtain ⟨ad163, e163, hx163_0⟩ := Kd.at_int (Kd.C_kept_now HR1.out HK.out) x132_3 p163 q163
       obtain rfl : ad149 = ad163 := (by injection e163)
       replace p163 := eq_true p163
       replace q163 := eq_true q163
       have p164 : 0 ≤ (x132_3 : Int) := of_decide_eq_true (by first | (with_reducible assumption) | assumption)
       have q164 : x132_3 < (x0_3.length : Int) := of_decide_eq_true (by first | (with_reducible assumption) | assumption)
       obtain ⟨ad164, e164, hx164_0⟩ := Kd.at_int (Wd.reads' HO_0.out).2.2 x132_3 p164 q164
       obtain rfl : (⟨go34, P_.length, none⟩ : Addr) = ad164 := (by injection e164)
       (first | simp only [Wd.add_plainP] at hx164_0 | simp only [add_at] at hx164_0 | simp only [Addr.add, Nat.zero_add] at hx164_0 | skip)
       replace p164 := eq_true p164
       replace q164 := eq_true q164
       go_wp2_with (first | (go_at_call 92; (with_reducible refine (bits_Add32.calls (rd x0_3 x132_3) (rd l1 x132_3) x14_3 t165 t166 _ A44.out).mono ?_); rintro e w' ⟨rfl, ⟨nd, rfl⟩⟩; (try first | exact ⟨rfl, _, World.drewN_drewN _ _ _⟩ | exact ⟨rfl, _, Eq.trans (World.drewN_drewN _ _ _) (congrArg (World.drewN _) (Nat.add_assoc _ _ _))⟩); have p45 : 0 ≤ (x132_3 : Int) := of_decide_eq_true (by first | (with_reducible assumption) | assumption); have q45 : (x132_3 : Int) < ((x0_3.length : Int) : Int) := of_decide_eq_true (by first | (with_reducible assumption) | assumption); obtain ⟨hx45_0, hf45_0⟩ := Wd.celln 0 HO_0.out (x132_3 : Int) p45 q45; replace p45 := eq_true p45; replace q45 := eq_true q45; obtain ⟨hy46_, hz46_⟩ := Wd.celln 0 HO_0.out (x132_3 : Int) (of_decide_eq_true (by first | (with_reducible assumption) | assumption)) (of_decide_eq_true (by first | (with_reducible assumption) | assumption)); have HP46 := Wd.putg HO_0.out (x132_3 : Int) (by first | exact of_eq_true (by with_reducible assumption) | with_reducible assumption | exact of_eq_true (by assumption) | assumption) (by first | exact of_eq_true (by with_reducible assumption) | with_reducible assumption | exact of_eq_true (by assumption) | assumption) t165) | ((with_reducible refine gate_store (t := 88) (p := 149) rfl ?_); (try (rw [drewN_self wr]; generalize hq_ : World.drewN wr _ = wr; have n0_ := Aside0.mk (Wd.at_ hq_ HO_0.out); have n1_ := Aside0.mk (kept_at hq_ HK.out); have n2_ := Aside0.mk (below_at hq_ HB.out); clear hq_ HO_0 HK HB; have HO_0 := n0_; have HK := n1_; have HB := n2_; clear n0_ n1_ n2_; (try (obtain ⟨hy46_, hz46_⟩ := Wd.celln 0 HO_0.out (x132_3 : Int) (of_decide_eq_true (by first | (with_reducible assumption) | assumption)) (of_decide_eq_true (by first | (with_reducible assumption) | assumption)))); (try (have HP46 := Wd.putg HO_0.out (x132_3 : Int) (by first | exact of_eq_true (by with_reducible assumption) | with_reducible assumption | exact of_eq_true (by assumption) | assumption) (by first | exact of_eq_true (by with_reducible assumption) | with_reducible assumption | exact of_eq_true (by assumption) | assumption) t165)))); refine store_event (t := 88) (p := 149) (v := ?vo_w47) (w1 := (wr.setCell ⟨go34, P_.length + (x132_3 : Int).toNat, none⟩ (.int .u32 t165))) ?hg ?ho ?hn ?hr ?_; (case ho => rfl); (case hg => rfl); (case hn => rfl); (case hr => first | (go_simp; done) | (go_simp; rfl)); intro w47 hw; have hg : wr.grownBy w47 (some go34) := (by rw [hw]; exact HP46.2); have hp_ : Wd P_ S_ (Kd.int .u32) 88 w47 w0.heap.size (fun k_ => (P0_ k_ ∨ w.heap.size ≤ k_)) (.slice (some ⟨go34, P_.length, none⟩) x0_3.length co11) y167 := (by rw [hw, Ny167.out]; exact HP46.1); clear HP46; have n0_ := Aside0.mk (hp_); have n1_ := Aside0.mk ((by rw [hw]; exact below_set (HB.out) GB34.out : Below w0.heap.size w0 w47)); have n2_ := Aside0.mk (Kept.of_grown (S := (fun k_ => P0_ k_)) hg (by repeat (first | (with_reducible first | exact HK.out | apply Kept.alloc | apply Kept.drewN | apply Kept.drew) | exact HK.out)) (fun k_ e_ => (Wd.ok_ HO_0.out k_ e_))); clear HO_0; clear HB; clear HK; have HO_0 := n0_; have HB := n1_; have HK := n2_; clear n0_ n1_ n2_; clear hg hw hp_))
       (try simp only [← hl0_3])
       go_roundg k3
       case measure => have := HJ9.out; have := HK2.out; have := HK3.out; omega
       case rel => exact ⟨(y167), (t166), (wrap64 (x132_3 + 1)), (by first | rfl | (simp; done) | (simp [*]; done)), (by first | rfl | (simp; done) | (simp [*]; done)), H', ⟨by have := HJ9.out; have := HK2.out; have := HK3.out; omega⟩, ⟨by (try simp only [hl0_2]); (try simp only [hl0_3]); (with_reducible repeat (first | apply Wd.alloc | apply Wd.drewN | apply Wd.drew)); exact HO_0.out⟩, ⟨by repeat (first | (with_reducible first | exact HK.out | apply Kept.alloc | apply Kept.drewN | apply Kept.drew) | exact HK.out)⟩, ⟨by repeat (first | (with_reducible first | exact HB.out | apply below_alloc | apply pw_below_drewN | apply below_drew1) | exact HB.out)⟩⟩
def natural_step_at.f (k : Nat) (l0 : List Int) (l1 : List Int) (a2 : Int) (a3 : Int) : Option (Int × List Int) :=
 if 0 ≤ a2 ∧ a2 < a3 ∧ a3 ≤ l0.length then (natural_step.f k ((l0.drop a2.toNat).take (a3.toNat - a2.toNat)) l1).bind fun r => some (r.1, l0.take a2.toNat ++ r.2 ++ l0.drop a3.toNat) else none
theorem natural_step_at.mono : ∀ l0 l1 a2 a3 k, LeO (natural_step_at.f k l0 l1 a2 a3) (natural_step_at.f (k + 1) l0 l1 a2 a3) := by
 intro l0 l1 a2 a3 k
 unfold natural_step_at.f
 refine LeO.ite (LeO.bind (natural_step.mono _ _ _) (fun _ => LeO.refl _)) (LeO.refl _)
theorem natural_step_at.cut {k : Nat} {l0 l1 : List Int} {a2 a3 : Int} {r : Int × List Int} {A : Option Addr} {n c : Nat} (hn : n = l0.length) (h : natural_step_at.f k l0 l1 a2 a3 = some r) (hc : n ≤ c) :
  ∀ W : World, (Instr.slice 83 (.slice A n c) (some (.int .i64 a2)) (some (.int .i64 a3)) none).run Tryd.prog W = .ok (.slice (A.map fun x => x.add a2.toNat) (a3.toNat - a2.toNat) (c - a2.toNat)) W := by
 unfold natural_step_at.f at h
 split at h
 ·rename_i hb
  obtain ⟨i0, hi, hzz⟩ := Option.map_eq_some_iff.1 info88
  simp only [Prod.mk.injEq] at hzz
  intro W
  have h1 := cut_mid (P := Tryd.prog) 83 88 .i64 .i64 Tryd.underlying83 hi 1 hzz.2.1 A n c a2 a3 hb.1 (by omega) (by omega) hc W
  rw [if_neg (by omega), Nat.mul_one] at h1
  exact h1
 cases h
theorem natural_step_at.calls (k : Nat) (P0_ : Nat → Prop) (uv : Value) (A : Option Addr) (n c : Nat) (l0 : List Int) (A1 : Option Addr) (c1 : Nat) (l1 : List Int) (a2 : Int) (a3 : Int) (r1 : Int) (r2 : List Int) (w0 w : World) (hB : Below w0.heap.size w0 w) (ho0 : Kd.R (Kd.int .u32) 88 w w0.heap.size P0_ (.slice A n c) l0) (hr1 : ∀ W_, Kept w W_ (fun k_ => P0_ k_) → Kd.C (Kd.int .u32) W_ A1 l1.length l1) (hc1 : l1.length ≤ c1)
  (huv : uv = .slice (A.map fun x => x.add a2.toNat) (a3.toNat - a2.toNat) (c - a2.toNat)) (h : natural_step_at.f k l0 l1 a2 a3 = some (r1, r2)) :
  Calls Tryd.prog 81 #[uv, .slice A1 l1.length c1] w fun e w' => e = .returned (.int .u32 r1) ∧ Kd.R (Kd.int .u32) 88 w' w0.heap.size (fun k_ => (P0_ k_ ∨ w.heap.size ≤ k_)) (.slice A n c) r2 ∧ Below w0.heap.size w0 w' ∧ Kept w w' (fun k_ => P0_ k_) := by
 unfold natural_step_at.f at h
 split at h
 ·rename_i hb
  obtain ⟨h0, h1, h2⟩ := hb
  obtain ⟨⟨q, r⟩, hs, hr⟩ := Option.bind_eq_some_iff.mp h
  simp only [Option.some.injEq, Prod.mk.injEq] at hr
  obtain ⟨rfl, rfl⟩ := hr
  obtain ⟨hn, hnc, _⟩ := Kd.R_reads' ho0
  obtain ⟨g, cap, he, _⟩ := Kd.R_form ho0 (by omega)
  injection he with ea en ec
  subst ea; subst ec
  obtain ⟨P, hP⟩ : ∃ P, P = l0.take a2.toNat := ⟨_, rfl⟩
  obtain ⟨X, hX⟩ : ∃ X, X = (l0.drop a2.toNat).take (a3.toNat - a2.toNat) := ⟨_, rfl⟩
  obtain ⟨S, hS⟩ : ∃ S, S = l0.drop a3.toNat := ⟨_, rfl⟩
  have hPl : P.length = a2.toNat := by rw [hP, List.length_take]; omega
  have hXl : X.length = a3.toNat - a2.toNat := by rw [hX, List.length_take, List.length_drop]; omega
  have hl : l0 = P ++ X ++ S := by
   have e1 : l0.drop a3.toNat = (l0.drop a2.toNat).drop (a3.toNat - a2.toNat) := by rw [List.drop_drop]; congr 1; omega
   rw [hP, hX, hS, e1, List.append_assoc, List.take_append_drop, List.take_append_drop]
  rw [← hX] at hs
  rw [← hP, ← hS]
  have huv' : uv = .slice (some ⟨g, P.length, none⟩) X.length (c - P.length) := by
   rw [huv, hXl, hPl]
   simp [Wd.add_plainP]
  have hw : Wd P S (Kd.int .u32) 88 w w0.heap.size P0_ uv X := by
   refine ⟨g, c, c - P.length, huv', by omega, by omega, ?_⟩
   rw [← hl, ← hn]
   exact ho0
  refine (natural_step.callsW P S k P0_ uv X A1 c1 l1 q r w0 w hB hw hr1 hc1 hs).mono ?_
  rintro e w' ⟨rfl, hW, hb', hk'⟩
  refine ⟨rfl, ?_, hb', hk'⟩
  obtain ⟨g', C', c', hv, hlr, hC, hR⟩ := hW
  rw [huv'] at hv
  injection hv with ea en ec
  injection ea with ea
  injection ea with ea _ _
  subst ea
  have hn2 : n = (P ++ r ++ S).length := by
   rw [hn, hl]
   simp only [List.length_append]
   omega
  have hC2 : c = C' := by omega
  rw [hn2, hC2]
  exact hR
 cases h
end Go.Proofs.YtfnfjmeiaamheaaDoor.PA
