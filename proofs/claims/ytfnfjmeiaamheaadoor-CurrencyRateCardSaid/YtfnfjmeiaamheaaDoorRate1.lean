/- Texts of this claim, made small by a program of mine (wip/tools/small.py): words that the kit's print tool writes, walks, and what they rest on. -/
import Derived.Test.YtfnfjmeiaamheaaDoorRate0
import Derived.Test.YtfnfjmeiaamheaaDoorProg
set_option linter.unusedVariables false
set_option linter.unusedSimpArgs false
namespace Go.Proofs.YtfnfjmeiaamheaaDoor.PA
open Go.RowKit Go.Proofs.YtfnfjmeiaamheaaDoorW.PrintWords Go.Proofs.YtfnfjmeiaamheaaDoorW.PrintLast Go.Proofs.YtfnfjmeiaamheaaDoorW.PrintMore
attribute [local go_sem] max2_int min2_int max_two min_two max_three min_three max_four min_four
def errW : Option Int → Value
 | none => .nilIface
 | some c => .iface 0 (.int .i64 c)
theorem errW_none : errW none = .nilIface := rfl
theorem errW_some (c : Int) : errW (some c) = .iface 0 (.int .i64 c) := rfl
theorem info5 : (Tryd.prog.info? 5).map (fun i => (i.zero, i.size, i.bytes)) = some (some (.int .u8 0), 1, 1) := by kernel_rfl
theorem info88 : (Tryd.prog.info? 88).map (fun i => (i.zero, i.size, i.bytes)) = some (some (.int .u32 0), 1, 4) := by kernel_rfl
structure S30 where
 f0 : Bool
 f1 : ByteArray
 f2 : ByteArray
def z30 : S30 := ⟨false, (⟨#[]⟩ : ByteArray), (⟨#[]⟩ : ByteArray)⟩
def k30 : Kd S30 := Kd.iso (Kd.pair Kd.bool (Kd.pair Kd.string Kd.string)) (fun x : S30 => (x.f0, x.f1, x.f2))
theorem k30_open {w : World} {x : S30} {cs : List Value} (h : k30.K w x cs) : cs = [.bool x.f0, .string x.f1, .string x.f2] := by
 obtain ⟨_, _, rfl, rfl, ⟨_, _, rfl, rfl, rfl⟩⟩ := h
 exact rfl
theorem k30_mk (w : World) (x : S30)  : k30.K w x [.bool x.f0, .string x.f1, .string x.f2] := ⟨[.bool x.f0], [.string x.f1, .string x.f2], rfl, rfl, ⟨[.string x.f1], [.string x.f2], rfl, rfl, rfl⟩⟩
theorem k30_mkM (w : World) (base : Nat) (ok : Nat → Prop) (x : S30)  : k30.M w base ok x [.bool x.f0, .string x.f1, .string x.f2] := ⟨[.bool x.f0], [.string x.f1, .string x.f2], rfl, rfl, ⟨[.string x.f1], [.string x.f2], rfl, rfl, rfl⟩⟩
structure S33 where
 f0 : ByteArray
 f1 : Int
 f2 : S30
def z33 : S33 := ⟨(⟨#[]⟩ : ByteArray), (0 : Int), z30⟩
def k33 : Kd S33 := Kd.iso (Kd.pair Kd.string (Kd.pair (Kd.int .i64) k30)) (fun x : S33 => (x.f0, x.f1, x.f2))
theorem k33_open {w : World} {x : S33} {cs : List Value} (h : k33.K w x cs) : cs = [.string x.f0, .int .i64 x.f1, .bool x.f2.f0, .string x.f2.f1, .string x.f2.f2] := by
 obtain ⟨_, _, rfl, rfl, ⟨_, _, rfl, rfl, s2⟩⟩ := h
 obtain rfl := k30_open s2
 exact rfl
theorem k33_mk (w : World) (x : S33)  : k33.K w x [.string x.f0, .int .i64 x.f1, .bool x.f2.f0, .string x.f2.f1, .string x.f2.f2] := ⟨[.string x.f0], [.int .i64 x.f1, .bool x.f2.f0, .string x.f2.f1, .string x.f2.f2], rfl, rfl, ⟨[.int .i64 x.f1], [.bool x.f2.f0, .string x.f2.f1, .string x.f2.f2], rfl, rfl, (k30_mk w x.f2 )⟩⟩
theorem k33_mkM (w : World) (base : Nat) (ok : Nat → Prop) (x : S33)  : k33.M w base ok x [.string x.f0, .int .i64 x.f1, .bool x.f2.f0, .string x.f2.f1, .string x.f2.f2] := ⟨[.string x.f0], [.int .i64 x.f1, .bool x.f2.f0, .string x.f2.f1, .string x.f2.f2], rfl, rfl, ⟨[.int .i64 x.f1], [.bool x.f2.f0, .string x.f2.f1, .string x.f2.f2], rfl, rfl, (k30_mkM w base ok x.f2 )⟩⟩
def rd_T33 (xs : List S33) (i : Int) : S33 := xs.getD i.toNat z33
theorem at_T33 {w : World} {A : Option Addr} {n : Nat} {xs : List S33} (h : Kd.C k33 w A n xs) (i : Int) (h0 : 0 ≤ i) (h1 : i < n) : ∃ ad , A = some ad ∧ w.cell? (ad.add (i.toNat * 5)) = some (.string (rd_T33 xs i).f0) ∧ w.cell? ⟨(ad.add (i.toNat * 5)).block, (ad.add (i.toNat * 5)).off + 1, none⟩ = some (.int .i64 (rd_T33 xs i).f1) ∧ w.cell? ⟨(ad.add (i.toNat * 5)).block, (ad.add (i.toNat * 5)).off + 2, none⟩ = some (.bool (rd_T33 xs i).f2.f0) ∧ w.cell? ⟨(ad.add (i.toNat * 5)).block, (ad.add (i.toNat * 5)).off + 3, none⟩ = some (.string (rd_T33 xs i).f2.f1) ∧ w.cell? ⟨(ad.add (i.toNat * 5)).block, (ad.add (i.toNat * 5)).off + 4, none⟩ = some (.string (rd_T33 xs i).f2.f2) := by
 obtain ⟨ad, c, e, _, hK, hc0⟩ := Kd.C_get h z33 i h0 h1
 have hc : ∀ j u, c[j]? = some u → w.cell? (ad.add (i.toNat * 5 + j)) = some u := hc0
 obtain rfl := k33_open hK
 exact ⟨ad, e, hc 0 _ rfl, by rw [← add_field _ _ 1 (by omega)]; exact hc 1 _ rfl, by rw [← add_field _ _ 2 (by omega)]; exact hc 2 _ rfl, by rw [← add_field _ _ 3 (by omega)]; exact hc 3 _ rfl, by rw [← add_field _ _ 4 (by omega)]; exact hc 4 _ rfl⟩
def n_limbs_trim.l0 : Nat → List Int → Int → Option (List Int)
 | 0, _, _ => none
 | k + 1, x0, x3 => if x3 > 0 then (if 0 ≤ (wrap64 (x3 - 1)) then (if (wrap64 (x3 - 1)) < (x0.length : Int) then (if (rd x0 (wrap64 (x3 - 1))) = 0 then (n_limbs_trim.l0 k x0 (wrap64 (x3 - 1))) else (if 0 ≤ x3 then (if x3 ≤ (x0.length : Int) then (some (x0.take (x3 : Int).toNat)) else (none)) else (none))) else (none)) else (none)) else (if 0 ≤ x3 then (if x3 ≤ (x0.length : Int) then (some (x0.take (x3 : Int).toNat)) else (none)) else (none))
def n_limbs_trim.f (k : Nat) (l0 : List Int) : Option (List Int) := n_limbs_trim.l0 k l0 (l0.length : Int)
set_option maxHeartbeats 8000000 in
set_option maxRecDepth 100000 in
theorem n_limbs_trim.calls (k : Nat) (P0_ : Nat → Prop) (A0 : Option Addr) (c0 : Nat) (l0 : List Int) (r : List Int) (w : World) (hs0 : Kd.V (Kd.int .u32) 88 w w.heap.size (fun k_ => P0_ k_) (.slice A0 l0.length c0) l0) (h : n_limbs_trim.f k l0 = some r) :
  Calls Tryd.prog 76 #[.slice A0 l0.length c0] w fun e w' => ∃ v0_ : Value, e = .returned (v0_) ∧ Kd.V (Kd.int .u32) 88 w' w.heap.size (fun k_ => (P0_ k_ ∨ w.heap.size ≤ k_)) v0_ r ∧ Below w.heap.size w w' := by
 have HO0 := Aside0.mk (show Kd.V (Kd.int .u32) 88 w w.heap.size (fun k_ => (P0_ k_ ∨ w.heap.size ≤ k_)) (.slice A0 l0.length c0) l0 from Kd.V_mono hs0 (fun k_ hk => .inl hk))
 have HB := Aside0.mk (Below.refl w.heap.size w)
 have H : (n_limbs_trim.l0 k l0 (l0.length : Int)) = some r := h
 clear h
 have H' := Aside0.mk H
 clear H
 go_enter Tryd.func76, Tryd.ntmps76
 go_wp2
 go_loopg [3] k (fun kq v3 w' => ∃ (x3_1 : Int), v3 = .int .i64 x3_1 ∧ Aside0 (n_limbs_trim.l0 kq l0 x3_1 = some r) ∧ Aside0 (kq ≤ k) ∧ Aside0 (Kd.V (Kd.int .u32) 88 w' w.heap.size (fun k_ => (P0_ k_ ∨ w.heap.size ≤ k_)) (.slice A0 l0.length c0) l0) ∧ Aside0 (Below w.heap.size w w'))
 case atStart => exact ⟨((l0.length : Int)), (by first | rfl | (simp; done) | (simp [*]; done)), H', ⟨Nat.le_refl _⟩, ⟨Kd.vq HO0.out⟩, ⟨bq HB.out⟩⟩
 case round =>
  clear H'
  obtain ⟨x3_1, rfl, HA, HK1, HO_0, HB⟩ := hrel
  cases gk with
  | zero => exact absurd HA.out (by simp [n_limbs_trim.l0])
  | succ k1 =>
   have H := HA.out
   clear HA
   simp only [n_limbs_trim.l0] at H
   by_cases c2 : x3_1 > 0
   rotate_left
   ·rw [if_neg c2] at H
    have c2b0 : decide (0 < x3_1) = false := decide_eq_false c2
    clear c2
    by_cases c10 : 0 ≤ x3_1
    rotate_left
    ·rw [if_neg c10] at H
     exact absurd H (by simp)
    rw [if_pos c10] at H
    have c10b0 := eq_true c10
    have c10b1 := decide_eq_true c10
    clear c10
    by_cases c11 : x3_1 ≤ (l0.length : Int)
    rotate_left
    ·rw [if_neg c11] at H
     exact absurd H (by simp)
    rw [if_pos c11] at H
    have c11b0 := eq_true c11
    have c11b1 := decide_eq_true c11
    clear c11
    obtain ⟨y113, hy113⟩ : ∃ y_ : List Int, y_ = (l0.take (x3_1 : Int).toNat) := ⟨_, rfl⟩
    replace H : (some y113) = some r := by first | (rw [hy113]; with_reducible exact H) | (have H2_ := (Option.bind_some _ _).symm.trans H; rw [hy113]; with_reducible exact H2_) | (have H2_ := (Option.bind_some _ _).symm.trans H; with_reducible exact H2_) | with_reducible exact H | (rw [hy113]; exact H) | exact H
    have Ny113 := Aside0.mk hy113
    clear hy113
    obtain rfl := Option.some.inj H
    have q12 : (x3_1 : Int) ≤ ((l0.length : Int) : Int) := odt
    obtain ⟨i012, hi012, _, hsz12, _⟩ := info_parts info88
    have hroom12 : l0.length ≤ c0 := (Kd.V_reads' HO_0.out).2.1
    have hC12 : Kd.F (Kd.int .u32) _ _ A0 l0.length l0 := (Kd.V_at (base := w.heap.size) HO_0.out).2.2
    have hcut12 := cut_to (P := Tryd.prog) 83 88 .i64 Tryd.underlying83 hi012 A0 l0.length c0 x3_1 odt q12 hroom12
    have hr12 := Kd.F_take (m := (x3_1 : Int).toNat) hC12 (by omega)
    have hy12 : y113.length = (x3_1 : Int).toNat := (by rw [Ny113.out, List.length_take]; omega)
    rw [← Ny113.out] at hr12
    rw [← hy12] at hcut12
    have HO117 := Aside0.mk (show Kd.V (Kd.int .u32) 88 _ w.heap.size _ (.slice A0 y113.length c0) y113 from Kd.V_mk (by omega) hr12)
    have HC117 := Aside0.mk (show y113.length ≤ c0 from by omega)
    clear hr12 hC12 hroom12 hi012 hsz12
    have KY12 := Aside0.mk hy12
    clear hy12
    replace q12 := eq_true q12
    go_wp2
    go_ret
    exact ⟨_, by first | rfl | (simp [errW_none, errW_some] <;> rfl) | (simp [*, errW_none, errW_some] <;> rfl), by (with_reducible repeat (first | apply Kd.V_alloc | apply Kd.V_drewN | apply Kd.V_drew)); exact HO117.out, bq HB.out⟩
   rw [if_pos c2] at H
   have c2b0 : decide (0 < x3_1) = true := decide_eq_true c2
   clear c2
   obtain ⟨ji3, hji3⟩ : ∃ j_ : Int, (wrap64 (x3_1 - 1)) = j_ := ⟨_, rfl⟩
   replace H : (if 0 ≤ (ji3) then (if (ji3) < (l0.length : Int) then (if (rd l0 (ji3)) = 0 then (n_limbs_trim.l0 k1 l0 ji3) else (if 0 ≤ x3_1 then (if x3_1 ≤ (l0.length : Int) then (some (l0.take (x3_1 : Int).toNat)) else (none)) else (none))) else (none)) else (none)) = some r := by first | (rw [hji3] at H; exact H) | (simp only [hji3] at H ⊢; exact H)
   have hji3w : (IntKind.i64.wrap (x3_1 - 1)) = ji3 := (i64_w _).trans hji3
   by_cases c4 : 0 ≤ (ji3)
   rotate_left
   ·rw [if_neg c4] at H
    exact absurd H (by simp)
   rw [if_pos c4] at H
   have c4b0 := decide_eq_true c4
   clear c4
   by_cases c5 : (ji3) < (l0.length : Int)
   rotate_left
   ·rw [if_neg c5] at H
    exact absurd H (by simp)
   rw [if_pos c5] at H
   have c5b0 := decide_eq_true c5
   clear c5
   by_cases c6 : (rd l0 (ji3)) = 0
   ·rw [if_pos c6] at H
    have c6b0 : ((rd l0 (ji3)) == 0) = true := beq_iff_eq.mpr c6
    have c6b1 : ((rd l0 (ji3)) != 0) = false := bne_eq_false_iff_eq.mpr c6
    clear c6
    have H' := Aside0.mk H
    clear H
    have p107 : 0 ≤ ((ji3) : Int) := odt
    have q107 : (ji3) < (l0.length : Int) := odt
    obtain ⟨ad107, e107, hx107_0⟩ := Kd.at_int (Kd.V_reads' HO_0.out).2.2 (ji3) p107 q107
    cases e107
    replace p107 := eq_true p107
    replace q107 := eq_true q107
    go_wp2
    go_roundg k1
    case measure => have := HK1.out; omega
    case rel => exact ⟨(ji3), (by first | rfl | (simp; done) | (simp only [← hji3] <;> (first | rfl | simp)) | (simp [*]; done)), H', ⟨by have := HK1.out; omega⟩, ⟨Kd.vq HO_0.out⟩, ⟨bq HB.out⟩⟩
   rw [if_neg c6] at H
   have c6b0 : ((rd l0 (ji3)) == 0) = false := beq_eq_false_iff_ne.mpr c6
   have c6b1 : ((rd l0 (ji3)) != 0) = true := bne_iff_ne.mpr c6
   by_cases c7 : 0 ≤ x3_1
   rotate_left
   ·rw [if_neg c7] at H
    exact absurd H (by simp)
   rw [if_pos c7] at H
   have c7b0 := eq_true c7
   have c7b1 := decide_eq_true c7
   clear c7
   by_cases c8 : x3_1 ≤ (l0.length : Int)
   rotate_left
   ·rw [if_neg c8] at H
    exact absurd H (by simp)
   rw [if_pos c8] at H
   have c8b0 := eq_true c8
   have c8b1 := decide_eq_true c8
   clear c8
   obtain ⟨y108, hy108⟩ : ∃ y_ : List Int, y_ = (l0.take (x3_1 : Int).toNat) := ⟨_, rfl⟩
   replace H : (some y108) = some r := by first | (rw [hy108]; with_reducible exact H) | (have H2_ := (Option.bind_some _ _).symm.trans H; rw [hy108]; with_reducible exact H2_) | (have H2_ := (Option.bind_some _ _).symm.trans H; with_reducible exact H2_) | with_reducible exact H | (rw [hy108]; exact H) | exact H
   have Ny108 := Aside0.mk hy108
   clear hy108
   obtain rfl := Option.some.inj H
   have p107 : 0 ≤ ((ji3) : Int) := odt
   have q107 : (ji3) < (l0.length : Int) := odt
   obtain ⟨ad107, e107, hx107_0⟩ := Kd.at_int (Kd.V_reads' HO_0.out).2.2 (ji3) p107 q107
   cases e107
   replace p107 := eq_true p107
   replace q107 := eq_true q107
   have q9 : (x3_1 : Int) ≤ ((l0.length : Int) : Int) := odt
   obtain ⟨i09, hi09, _, hsz9, _⟩ := info_parts info88
   have hroom9 : l0.length ≤ c0 := (Kd.V_reads' HO_0.out).2.1
   have hC9 : Kd.F (Kd.int .u32) _ _ (some ad107) l0.length l0 := (Kd.V_at (base := w.heap.size) HO_0.out).2.2
   have hcut9 := cut_to (P := Tryd.prog) 83 88 .i64 Tryd.underlying83 hi09 (some ad107) l0.length c0 x3_1 odt q9 hroom9
   have hr9 := Kd.F_take (m := (x3_1 : Int).toNat) hC9 (by omega)
   have hy9 : y108.length = (x3_1 : Int).toNat := (by rw [Ny108.out, List.length_take]; omega)
   rw [← Ny108.out] at hr9
   rw [← hy9] at hcut9
   have HO112 := Aside0.mk (show Kd.V (Kd.int .u32) 88 _ w.heap.size _ (.slice (some ad107) y108.length c0) y108 from Kd.V_mk (by omega) hr9)
   have HC112 := Aside0.mk (show y108.length ≤ c0 from by omega)
   clear hr9 hC9 hroom9 hi09 hsz9
   have KY9 := Aside0.mk hy9
   clear hy9
   replace q9 := eq_true q9
   go_wp2
   go_ret
   exact ⟨_, by first | rfl | (simp [errW_none, errW_some] <;> rfl) | (simp only [← hji3]; first | rfl | (simp [errW_none, errW_some] <;> rfl)) | (simp [*, errW_none, errW_some] <;> rfl), by (with_reducible repeat (first | apply Kd.V_alloc | apply Kd.V_drewN | apply Kd.V_drew)); exact HO112.out, bq HB.out⟩
def e1_strip.l0 : Nat → List Int → Int → Option (List Int)
 | 0, _, _ => none
 | k + 1, x0, x3 => if x3 > 0 then (if 0 ≤ (wrap64 (x3 - 1)) then (if (wrap64 (x3 - 1)) < (x0.length : Int) then (if (rd x0 (wrap64 (x3 - 1))) = 0 then (e1_strip.l0 k x0 (wrap64 (x3 - 1))) else (if 0 ≤ x3 then (if x3 ≤ (x0.length : Int) then (some (x0.take (x3 : Int).toNat)) else (none)) else (none))) else (none)) else (none)) else (if 0 ≤ x3 then (if x3 ≤ (x0.length : Int) then (some (x0.take (x3 : Int).toNat)) else (none)) else (none))
def e1_strip.f (k : Nat) (l0 : List Int) : Option (List Int) := e1_strip.l0 k l0 (l0.length : Int)
set_option maxHeartbeats 8000000 in
set_option maxRecDepth 100000 in
theorem e1_strip.calls (k : Nat) (P0_ : Nat → Prop) (A0 : Option Addr) (c0 : Nat) (l0 : List Int) (r : List Int) (w : World) (hs0 : Kd.V (Kd.int .u32) 88 w w.heap.size (fun k_ => P0_ k_) (.slice A0 l0.length c0) l0) (h : e1_strip.f k l0 = some r) :
  Calls Tryd.prog 68 #[.slice A0 l0.length c0] w fun e w' => ∃ v0_ : Value, e = .returned (v0_) ∧ Kd.V (Kd.int .u32) 88 w' w.heap.size (fun k_ => (P0_ k_ ∨ w.heap.size ≤ k_)) v0_ r ∧ Below w.heap.size w w' := by
 have HO0 := Aside0.mk (show Kd.V (Kd.int .u32) 88 w w.heap.size (fun k_ => (P0_ k_ ∨ w.heap.size ≤ k_)) (.slice A0 l0.length c0) l0 from Kd.V_mono hs0 (fun k_ hk => .inl hk))
 have HB := Aside0.mk (Below.refl w.heap.size w)
 have H : (e1_strip.l0 k l0 (l0.length : Int)) = some r := h
 clear h
 have H' := Aside0.mk H
 clear H
 go_enter Tryd.func68, Tryd.ntmps68
 go_wp2
 go_loopg [3] k (fun kq v3 w' => ∃ (x3_1 : Int), v3 = .int .i64 x3_1 ∧ Aside0 (e1_strip.l0 kq l0 x3_1 = some r) ∧ Aside0 (kq ≤ k) ∧ Aside0 (Kd.V (Kd.int .u32) 88 w' w.heap.size (fun k_ => (P0_ k_ ∨ w.heap.size ≤ k_)) (.slice A0 l0.length c0) l0) ∧ Aside0 (Below w.heap.size w w'))
 case atStart => exact ⟨((l0.length : Int)), (by first | rfl | (simp; done) | (simp [*]; done)), H', ⟨Nat.le_refl _⟩, ⟨Kd.vq HO0.out⟩, ⟨bq HB.out⟩⟩
 case round =>
  clear H'
  obtain ⟨x3_1, rfl, HA, HK1, HO_0, HB⟩ := hrel
  cases gk with
  | zero => exact absurd HA.out (by simp [e1_strip.l0])
  | succ k1 =>
   have H := HA.out
   clear HA
   simp only [e1_strip.l0] at H
   by_cases c2 : x3_1 > 0
   rotate_left
   ·rw [if_neg c2] at H
    have c2b0 : decide (0 < x3_1) = false := decide_eq_false c2
    clear c2
    by_cases c10 : 0 ≤ x3_1
    rotate_left
    ·rw [if_neg c10] at H
     exact absurd H (by simp)
    rw [if_pos c10] at H
    have c10b0 := eq_true c10
    have c10b1 := decide_eq_true c10
    clear c10
    by_cases c11 : x3_1 ≤ (l0.length : Int)
    rotate_left
    ·rw [if_neg c11] at H
     exact absurd H (by simp)
    rw [if_pos c11] at H
    have c11b0 := eq_true c11
    have c11b1 := decide_eq_true c11
    clear c11
    obtain ⟨y328, hy328⟩ : ∃ y_ : List Int, y_ = (l0.take (x3_1 : Int).toNat) := ⟨_, rfl⟩
    replace H : (some y328) = some r := by first | (rw [hy328]; with_reducible exact H) | (have H2_ := (Option.bind_some _ _).symm.trans H; rw [hy328]; with_reducible exact H2_) | (have H2_ := (Option.bind_some _ _).symm.trans H; with_reducible exact H2_) | with_reducible exact H | (rw [hy328]; exact H) | exact H
    have Ny328 := Aside0.mk hy328
    clear hy328
    obtain rfl := Option.some.inj H
    have q12 : (x3_1 : Int) ≤ ((l0.length : Int) : Int) := odt
    obtain ⟨i012, hi012, _, hsz12, _⟩ := info_parts info88
    have hroom12 : l0.length ≤ c0 := (Kd.V_reads' HO_0.out).2.1
    have hC12 : Kd.F (Kd.int .u32) _ _ A0 l0.length l0 := (Kd.V_at (base := w.heap.size) HO_0.out).2.2
    have hcut12 := cut_to (P := Tryd.prog) 77 88 .i64 Tryd.underlying77 hi012 A0 l0.length c0 x3_1 odt q12 hroom12
    have hr12 := Kd.F_take (m := (x3_1 : Int).toNat) hC12 (by omega)
    have hy12 : y328.length = (x3_1 : Int).toNat := (by rw [Ny328.out, List.length_take]; omega)
    rw [← Ny328.out] at hr12
    rw [← hy12] at hcut12
    have HO332 := Aside0.mk (show Kd.V (Kd.int .u32) 88 _ w.heap.size _ (.slice A0 y328.length c0) y328 from Kd.V_mk (by omega) hr12)
    have HC332 := Aside0.mk (show y328.length ≤ c0 from by omega)
    clear hr12 hC12 hroom12 hi012 hsz12
    have KY12 := Aside0.mk hy12
    clear hy12
    replace q12 := eq_true q12
    go_wp2
    go_ret
    exact ⟨_, by first | rfl | (simp [errW_none, errW_some] <;> rfl) | (simp [*, errW_none, errW_some] <;> rfl), by (with_reducible repeat (first | apply Kd.V_alloc | apply Kd.V_drewN | apply Kd.V_drew)); exact HO332.out, bq HB.out⟩
   rw [if_pos c2] at H
   have c2b0 : decide (0 < x3_1) = true := decide_eq_true c2
   clear c2
   obtain ⟨ji3, hji3⟩ : ∃ j_ : Int, (wrap64 (x3_1 - 1)) = j_ := ⟨_, rfl⟩
   replace H : (if 0 ≤ (ji3) then (if (ji3) < (l0.length : Int) then (if (rd l0 (ji3)) = 0 then (e1_strip.l0 k1 l0 ji3) else (if 0 ≤ x3_1 then (if x3_1 ≤ (l0.length : Int) then (some (l0.take (x3_1 : Int).toNat)) else (none)) else (none))) else (none)) else (none)) = some r := by first | (rw [hji3] at H; exact H) | (simp only [hji3] at H ⊢; exact H)
   have hji3w : (IntKind.i64.wrap (x3_1 - 1)) = ji3 := (i64_w _).trans hji3
   by_cases c4 : 0 ≤ (ji3)
   rotate_left
   ·rw [if_neg c4] at H
    exact absurd H (by simp)
   rw [if_pos c4] at H
   have c4b0 := decide_eq_true c4
   clear c4
   by_cases c5 : (ji3) < (l0.length : Int)
   rotate_left
   ·rw [if_neg c5] at H
    exact absurd H (by simp)
   rw [if_pos c5] at H
   have c5b0 := decide_eq_true c5
   clear c5
   by_cases c6 : (rd l0 (ji3)) = 0
   ·rw [if_pos c6] at H
    have c6b0 : ((rd l0 (ji3)) == 0) = true := beq_iff_eq.mpr c6
    have c6b1 : ((rd l0 (ji3)) != 0) = false := bne_eq_false_iff_eq.mpr c6
    clear c6
    have H' := Aside0.mk H
    clear H
    have p322 : 0 ≤ ((ji3) : Int) := odt
    have q322 : (ji3) < (l0.length : Int) := odt
    obtain ⟨ad322, e322, hx322_0⟩ := Kd.at_int (Kd.V_reads' HO_0.out).2.2 (ji3) p322 q322
    cases e322
    replace p322 := eq_true p322
    replace q322 := eq_true q322
    go_wp2
    go_roundg k1
    case measure => have := HK1.out; omega
    case rel => exact ⟨(ji3), (by first | rfl | (simp; done) | (simp only [← hji3] <;> (first | rfl | simp)) | (simp [*]; done)), H', ⟨by have := HK1.out; omega⟩, ⟨Kd.vq HO_0.out⟩, ⟨bq HB.out⟩⟩
   rw [if_neg c6] at H
   have c6b0 : ((rd l0 (ji3)) == 0) = false := beq_eq_false_iff_ne.mpr c6
   have c6b1 : ((rd l0 (ji3)) != 0) = true := bne_iff_ne.mpr c6
   by_cases c7 : 0 ≤ x3_1
   rotate_left
   ·rw [if_neg c7] at H
    exact absurd H (by simp)
   rw [if_pos c7] at H
   have c7b0 := eq_true c7
   have c7b1 := decide_eq_true c7
   clear c7
   by_cases c8 : x3_1 ≤ (l0.length : Int)
   rotate_left
   ·rw [if_neg c8] at H
    exact absurd H (by simp)
   rw [if_pos c8] at H
   have c8b0 := eq_true c8
   have c8b1 := decide_eq_true c8
   clear c8
   obtain ⟨y323, hy323⟩ : ∃ y_ : List Int, y_ = (l0.take (x3_1 : Int).toNat) := ⟨_, rfl⟩
   replace H : (some y323) = some r := by first | (rw [hy323]; with_reducible exact H) | (have H2_ := (Option.bind_some _ _).symm.trans H; rw [hy323]; with_reducible exact H2_) | (have H2_ := (Option.bind_some _ _).symm.trans H; with_reducible exact H2_) | with_reducible exact H | (rw [hy323]; exact H) | exact H
   have Ny323 := Aside0.mk hy323
   clear hy323
   obtain rfl := Option.some.inj H
   have p322 : 0 ≤ ((ji3) : Int) := odt
   have q322 : (ji3) < (l0.length : Int) := odt
   obtain ⟨ad322, e322, hx322_0⟩ := Kd.at_int (Kd.V_reads' HO_0.out).2.2 (ji3) p322 q322
   cases e322
   replace p322 := eq_true p322
   replace q322 := eq_true q322
   have q9 : (x3_1 : Int) ≤ ((l0.length : Int) : Int) := odt
   obtain ⟨i09, hi09, _, hsz9, _⟩ := info_parts info88
   have hroom9 : l0.length ≤ c0 := (Kd.V_reads' HO_0.out).2.1
   have hC9 : Kd.F (Kd.int .u32) _ _ (some ad322) l0.length l0 := (Kd.V_at (base := w.heap.size) HO_0.out).2.2
   have hcut9 := cut_to (P := Tryd.prog) 77 88 .i64 Tryd.underlying77 hi09 (some ad322) l0.length c0 x3_1 odt q9 hroom9
   have hr9 := Kd.F_take (m := (x3_1 : Int).toNat) hC9 (by omega)
   have hy9 : y323.length = (x3_1 : Int).toNat := (by rw [Ny323.out, List.length_take]; omega)
   rw [← Ny323.out] at hr9
   rw [← hy9] at hcut9
   have HO327 := Aside0.mk (show Kd.V (Kd.int .u32) 88 _ w.heap.size _ (.slice (some ad322) y323.length c0) y323 from Kd.V_mk (by omega) hr9)
   have HC327 := Aside0.mk (show y323.length ≤ c0 from by omega)
   clear hr9 hC9 hroom9 hi09 hsz9
   have KY9 := Aside0.mk hy9
   clear hy9
   replace q9 := eq_true q9
   go_wp2
   go_ret
   exact ⟨_, by first | rfl | (simp [errW_none, errW_some] <;> rfl) | (simp only [← hji3]; first | rfl | (simp [errW_none, errW_some] <;> rfl)) | (simp [*, errW_none, errW_some] <;> rfl), by (with_reducible repeat (first | apply Kd.V_alloc | apply Kd.V_drewN | apply Kd.V_drew)); exact HO327.out, bq HB.out⟩
end Go.Proofs.YtfnfjmeiaamheaaDoor.PA
namespace Go.Proofs.YtfnfjmeiaamheaaDoor.PA
open Go Go.RowKit Go.Proofs.YtfnfjmeiaamheaaDoorW.PrintWords
def Ev {α : Type} (g : Nat → Option α) (r : α) : Prop := ∃ K, ∀ k, K ≤ k → g k = some r
theorem Ev.step {α : Type} {g h : Nat → Option α} {r : α} (he : ∀ k, g (k + 1) = h k) (hh : Ev h r) : Ev g r := by
 obtain ⟨K, h1⟩ := hh
 refine ⟨K + 1, fun k hk => ?_⟩
 obtain ⟨j, rfl⟩ : ∃ j, k = j + 1 := ⟨k - 1, by omega⟩
 rw [he]; exact h1 j (by omega)
theorem Ev.same {α : Type} {g h : Nat → Option α} {r : α} (he : ∀ k, g k = h k) (hh : Ev h r) : Ev g r := by
 obtain ⟨K, h1⟩ := hh
 exact ⟨K, fun k hk => (he k).trans (h1 k hk)⟩
theorem Ev.ret {α : Type} {r : α} : Ev (fun _ => some r) r := ⟨0, fun _ _ => rfl⟩
theorem Ev.rets {α : Type} {g : Nat → Option α} {r : α} (he : ∀ k, g (k + 1) = some r) : Ev g r := Ev.step he Ev.ret
theorem Ev.bind {α β : Type} {f : Nat → Option β} {t : β} {c : Nat → β → Option α} {r : α} (hf : Ev f t) (hc : Ev (fun k => c k t) r) : Ev (fun k => (f k).bind (c k)) r := by
 obtain ⟨K, h1⟩ := hf
 obtain ⟨L, h2⟩ := hc
 refine ⟨K + L, fun k hk => ?_⟩
 show (f k).bind (c k) = some r
 rw [h1 k (by omega)]
 exact h2 k (by omega)
theorem Ev.const {α : Type} {f : Option α} {r : α} (h : f = some r) : Ev (fun _ => f) r := ⟨0, fun _ _ => h⟩
theorem Ev.uniq {α : Type} {g : Nat → Option α} {r s : α} (h : Ev g r) (h' : Ev g s) : r = s := by
 obtain ⟨K, h1⟩ := h
 obtain ⟨L, h2⟩ := h'
 exact Option.some.inj ((h1 (K + L) (by omega)).symm.trans (h2 (K + L) (by omega)))
theorem wrap_s {x : Int} (h0 : -9223372036854775808 ≤ x) (h1 : x < 9223372036854775808) : wrap64 x = x := by unfold wrap64; omega
theorem u64_s {x : Int} (h0 : 0 ≤ x) (h1 : x < 18446744073709551616) : IntKind.u64.wrap x = x := by rw [IntKind.wrap_u64]; omega
def dg (l : List Int) (i : Nat) : Int := l.getD i 0
theorem rd_dg (l : List Int) (i : Nat) : rd l (i : Int) = dg l i := rfl
theorem dg_set (l : List Int) (p : Nat) (x : Int) (i : Nat) : dg (l.set p x) i = if p = i ∧ i < l.length then x else dg l i := by
 unfold dg
 rw [List.getD_eq_getElem?_getD, List.getD_eq_getElem?_getD, List.getElem?_set]
 by_cases h : p = i
 rotate_left
 ·simp [h]
 subst h
 by_cases h2 : p < l.length
 ·simp [h2]
 simp [h2]
theorem dg_take (l : List Int) (n i : Nat) : dg (l.take n) i = if i < n then dg l i else 0 := by
 unfold dg
 rw [List.getD_eq_getElem?_getD, List.getD_eq_getElem?_getD, List.getElem?_take]
 split <;> simp
theorem dg_beyond {l : List Int} {i : Nat} (h : l.length ≤ i) : dg l i = 0 := by
 unfold dg
 rw [List.getD_eq_getElem?_getD, List.getElem?_eq_none (by omega)]; rfl
theorem dg_rep (n i : Nat) : dg (List.replicate n 0) i = 0 := by
 unfold dg
 rw [List.getD_eq_getElem?_getD, List.getElem?_replicate]
 split <;> rfl
theorem dg_ext {l m : List Int} (hl : l.length = m.length) (h : ∀ i, i < l.length → dg l i = dg m i) : l = m := by
 apply List.ext_getElem hl
 intro i h1 h2
 have := h i h1
 simpa [dg, List.getD_eq_getElem?_getD, List.getElem?_eq_getElem h1, List.getElem?_eq_getElem h2] using this
def Dg (l : List Int) : Prop := ∀ i, 0 ≤ dg l i ∧ dg l i < 4294967296
theorem Dg.rep (n : Nat) : Dg (List.replicate n 0) := fun i => by rw [dg_rep]; omega
theorem Dg.set {l : List Int} (h : Dg l) {p : Nat} {x : Int} (h0 : 0 ≤ x) (h1 : x < 4294967296) : Dg (l.set p x) := fun i => by
 rw [dg_set]; split
 ·exact ⟨h0, h1⟩
 exact h i
theorem Dg.take {l : List Int} (h : Dg l) (n : Nat) : Dg (l.take n) := fun i => by
 rw [dg_take]; split
 ·exact h i
 omega
def Sm (l : List Int) (j : Nat) : Nat → Int
 | 0 => 0
 | i + 1 => Sm l j i + dg l (j + i) * 4294967296 ^ i
def vl (l : List Int) : Int := Sm l 0 l.length
theorem pw_pos (i : Nat) : (0 : Int) < 4294967296 ^ i := Int.pow_pos (by decide)
theorem pw_succ (i : Nat) : (4294967296 : Int) ^ (i + 1) = 4294967296 ^ i * 4294967296 := Int.pow_succ _ _
theorem pw_add (a b : Nat) : (4294967296 : Int) ^ (a + b) = 4294967296 ^ a * 4294967296 ^ b := Int.pow_add _ _ _
theorem Sm.ext {l m : List Int} {j j' : Nat} : ∀ i, (∀ t, t < i → dg l (j + t) = dg m (j' + t)) → Sm l j i = Sm m j' i
 | 0, _ => rfl
 | i + 1, h => by rw [Sm, Sm, Sm.ext i (fun t ht => h t (by omega)), h i (by omega)]
theorem Sm.nonneg {l : List Int} (h : Dg l) (j : Nat) : ∀ i, 0 ≤ Sm l j i
 | 0 => Int.le_refl 0
 | i + 1 => by
  have h1 := Sm.nonneg h j i
  have h2 := Int.mul_nonneg (h (j + i)).1 (Int.le_of_lt (pw_pos i))
  rw [Sm]; omega
theorem Sm.lt {l : List Int} (h : Dg l) (j : Nat) : ∀ i, Sm l j i < 4294967296 ^ i
 | 0 => by simp [Sm]
 | i + 1 => by
  have h1 := Sm.lt h j i
  have h2 : dg l (j + i) * 4294967296 ^ i ≤ 4294967295 * 4294967296 ^ i := Int.mul_le_mul_of_nonneg_right (by have := (h (j + i)).2; omega) (Int.le_of_lt (pw_pos i))
  rw [Sm, pw_succ]; omega
theorem Sm.add (l : List Int) (j a : Nat) : ∀ b, Sm l j (a + b) = Sm l j a + 4294967296 ^ a * Sm l (j + a) b
 | 0 => by simp [Sm]
 | b + 1 => by
  rw [← Nat.add_assoc, Sm, Sm.add l j a b, Sm, pw_add, Nat.add_assoc]
  generalize dg l (j + (a + b)) = d
  grind
theorem Sm.zero {l : List Int} {j : Nat} : ∀ i, (∀ t, t < i → dg l (j + t) = 0) → Sm l j i = 0
 | 0, _ => rfl
 | i + 1, h => by rw [Sm, Sm.zero i (fun t ht => h t (by omega)), h i (by omega)]; simp
theorem Sm.set_out {l : List Int} {p j i : Nat} {x : Int} (h : p < j ∨ j + i ≤ p) : Sm (l.set p x) j i = Sm l j i :=
 Sm.ext i fun t ht => by rw [dg_set, if_neg (by omega)]
theorem Sm.set_in {l : List Int} {p j : Nat} {x : Int} (hp : p < l.length) : ∀ i, j ≤ p → p < j + i → Sm (l.set p x) j i = Sm l j i + (x - dg l p) * 4294967296 ^ (p - j)
 | 0, _, h => by omega
 | i + 1, h0, h1 => by
  rw [Sm, Sm]
  by_cases hc : p = j + i
  ·subst hc
   rw [Sm.set_out (Or.inr (Nat.le_refl _)), dg_set, if_pos ⟨rfl, hp⟩, Nat.add_sub_cancel_left]
   generalize (4294967296 : Int) ^ i = P
   grind
  rw [Sm.set_in hp i h0 (by omega), dg_set, if_neg (by omega)]
  omega
theorem Sm.beyond {l : List Int} {n : Nat} (h : l.length ≤ n) : Sm l 0 n = vl l := by
 obtain ⟨d, rfl⟩ : ∃ d, n = l.length + d := ⟨n - l.length, by omega⟩
 rw [Sm.add, Sm.zero (j := 0 + l.length) d (fun t _ => dg_beyond (by omega)), Int.mul_zero, Int.add_zero]; rfl
theorem vl_nonneg {l : List Int} (h : Dg l) : 0 ≤ vl l := Sm.nonneg h 0 _
theorem vl_lt {l : List Int} (h : Dg l) : vl l < 4294967296 ^ l.length := Sm.lt h 0 _
structure Can (l : List Int) : Prop where
 dgs : Dg l
 top : l.length = 0 ∨ dg l (l.length - 1) ≠ 0
 few : l.length ≤ 100000
theorem Can.ge {l : List Int} (h : Can l) (h0 : 0 < l.length) : (4294967296 : Int) ^ (l.length - 1) ≤ vl l := by
 have ht := h.top.resolve_left (by omega)
 have h1 := Sm.nonneg h.dgs 0 (l.length - 1)
 have h2 : vl l = Sm l 0 (l.length - 1) + dg l (l.length - 1) * 4294967296 ^ (l.length - 1) := by
  obtain ⟨m, hm⟩ : ∃ m, l.length = m + 1 := ⟨l.length - 1, by omega⟩
  unfold vl; rw [hm, Sm, Nat.add_sub_cancel, Nat.zero_add]
 have h3 : 1 * (4294967296 : Int) ^ (l.length - 1) ≤ dg l (l.length - 1) * 4294967296 ^ (l.length - 1) := Int.mul_le_mul_of_nonneg_right (by have := (h.dgs (l.length - 1)).1; omega) (Int.le_of_lt (pw_pos _))
 omega
theorem pw_mono {a b : Nat} (h : a ≤ b) : (4294967296 : Int) ^ a ≤ 4294967296 ^ b := by
 obtain ⟨d, rfl⟩ : ∃ d, b = a + d := ⟨b - a, by omega⟩
 rw [pw_add]
 have h1 := pw_pos a
 have h2 := pw_pos d
 have := Int.mul_le_mul_of_nonneg_left (show (1 : Int) ≤ 4294967296 ^ d by omega) (Int.le_of_lt h1)
 omega
theorem Can.zero {l : List Int} (h : Can l) : vl l = 0 ↔ l = [] := by
 constructor
 ·intro hv
  by_cases hc : l.length = 0
  ·exact List.length_eq_zero_iff.1 hc
  have := h.ge (by omega)
  have := pw_pos (l.length - 1)
  omega
 rintro rfl; rfl
theorem Can.lt_of_len {l m : List Int} (hl : Dg l) (hm : Can m) (h : l.length < m.length) : vl l < vl m := by
 have h1 := vl_lt hl
 have h2 := hm.ge (by omega)
 have h3 := pw_mono (show l.length ≤ m.length - 1 by omega)
 omega
theorem dg_of_Sm {l m : List Int} (hl : Dg l) (hm : Dg m) : ∀ i, Sm l 0 i = Sm m 0 i → ∀ t, t < i → dg l t = dg m t
 | 0, _, _, h => by omega
 | i + 1, he, t, ht => by
  rw [Sm, Sm, Nat.zero_add] at he
  have a1 := Sm.nonneg hl 0 i
  have a2 := Sm.lt hl 0 i
  have b1 := Sm.nonneg hm 0 i
  have b2 := Sm.lt hm 0 i
  have e1 : (Sm l 0 i + dg l i * 4294967296 ^ i) / 4294967296 ^ i = dg l i := by
   rw [Int.add_mul_ediv_right _ _ (by have := pw_pos i; omega), Int.ediv_eq_zero_of_lt a1 a2, Int.zero_add]
  have e2 : (Sm m 0 i + dg m i * 4294967296 ^ i) / 4294967296 ^ i = dg m i := by
   rw [Int.add_mul_ediv_right _ _ (by have := pw_pos i; omega), Int.ediv_eq_zero_of_lt b1 b2, Int.zero_add]
  have e3 : dg l i = dg m i := by rw [← e1, he, e2]
  by_cases hc : t = i
  ·rw [hc]; exact e3
  exact dg_of_Sm hl hm i (by rw [e3] at he; omega) t (by omega)
theorem Can.uniq {l m : List Int} (hl : Can l) (hm : Can m) (h : vl l = vl m) : l = m := by
 have hlen : l.length = m.length := by
  rcases Nat.lt_trichotomy l.length m.length with hc | hc | hc
  ·have := Can.lt_of_len hl.dgs hm hc; omega
  ·exact hc
  have := Can.lt_of_len hm.dgs hl hc; omega
 refine dg_ext hlen fun i hi => ?_
 unfold vl at h
 rw [← hlen] at h
 exact dg_of_Sm hl.dgs hm.dgs _ h i hi
theorem Can.nil : Can [] := ⟨fun i => by rw [dg_beyond (Nat.zero_le _)]; omega, Or.inl rfl, by decide⟩
theorem trim_loop {l : List Int} (hd : Dg l) (hf : l.length ≤ 100000) : ∀ n, n ≤ l.length → (∀ i, n ≤ i → dg l i = 0) → ∃ r, Ev (fun k => n_limbs_trim.l0 k l (n : Int)) r ∧ Can r ∧ vl r = vl l ∧ r.length ≤ n
 | 0, hn, hz => by
  refine ⟨[], Ev.rets fun k => ?_, Can.nil, ?_, Nat.le_refl _⟩
  ·rw [n_limbs_trim.l0, if_neg (by omega), if_pos (by omega), if_pos (by omega)]
   simp
  unfold vl
  rw [Sm.zero l.length (fun t _ => hz _ (by omega))]; rfl
 | n + 1, hn, hz => by
  have hw : wrap64 (((n + 1 : Nat) : Int) - 1) = (n : Int) := by rw [wrap_s (by omega) (by omega)]; omega
  by_cases hc : dg l n = 0
  ·obtain ⟨r, h1, h2, h3, h4⟩ := trim_loop hd hf n (by omega) (fun i hi => by
    by_cases hi2 : i = n
    ·rw [hi2]; exact hc
    exact hz i (by omega))
   refine ⟨r, Ev.step (fun k => ?_) h1, h2, h3, by omega⟩
   rw [n_limbs_trim.l0, if_pos (by omega), hw, if_pos (by omega), if_pos (by omega), rd_dg, if_pos hc]
  refine ⟨l.take (n + 1), Ev.rets fun k => ?_, ⟨hd.take _, Or.inr ?_, ?_⟩, ?_, ?_⟩
  ·rw [n_limbs_trim.l0, if_pos (by omega), hw, if_pos (by omega), if_pos (by omega), rd_dg, if_neg hc, if_pos (by omega), if_pos (by omega)]
   rfl
  ·rw [List.length_take, Nat.min_eq_left hn, Nat.add_sub_cancel, dg_take, if_pos (by omega)]; exact hc
  ·rw [List.length_take]; omega
  ·have e : (l.take (n + 1)).length = n + 1 := by rw [List.length_take]; omega
   obtain ⟨d, hdl⟩ : ∃ d, l.length = (n + 1) + d := ⟨l.length - (n + 1), by omega⟩
   unfold vl
   rw [e, hdl, Sm.add l 0 (n + 1) d, Sm.zero (j := 0 + (n + 1)) d (fun t _ => hz _ (by omega)), Int.mul_zero, Int.add_zero]
   exact Sm.ext _ fun t ht => by rw [dg_take, if_pos (by omega)]
  rw [List.length_take]; omega
theorem trim_ev {l : List Int} (hd : Dg l) (hf : l.length ≤ 100000) : ∃ r, Ev (fun k => n_limbs_trim.f k l) r ∧ Can r ∧ vl r = vl l ∧ r.length ≤ l.length :=
 trim_loop hd hf l.length (Nat.le_refl _) (fun _ hi => dg_beyond hi)
theorem strip_trim : ∀ k l n, e1_strip.l0 k l n = n_limbs_trim.l0 k l n
 | 0, _, _ => rfl
 | k + 1, l, n => by rw [e1_strip.l0, n_limbs_trim.l0, strip_trim k]
theorem strip_ev {l : List Int} (hd : Dg l) (hf : l.length ≤ 100000) : ∃ r, Ev (fun k => e1_strip.f k l) r ∧ Can r ∧ vl r = vl l ∧ r.length ≤ l.length := by
 obtain ⟨r, h1, h2⟩ := trim_ev hd hf
 exact ⟨r, Ev.same (fun k => strip_trim k l _) h1, h2⟩
theorem trim_can {l : List Int} (h : Can l) : Ev (fun k => n_limbs_trim.f k l) l := by
 obtain ⟨r, h1, h2, h3, _⟩ := trim_ev h.dgs h.few
 rwa [Can.uniq h2 h h3] at h1
theorem strip_can {l : List Int} (h : Can l) : Ev (fun k => e1_strip.f k l) l := Ev.same (fun k => strip_trim k l _) (trim_can h)
end Go.Proofs.YtfnfjmeiaamheaaDoor.PA
namespace Go.Proofs.YtfnfjmeiaamheaaDoor.PA
open Go.RowKit Go.Proofs.YtfnfjmeiaamheaaDoorW.PrintWords Go.Proofs.YtfnfjmeiaamheaaDoorW.PrintLast Go.Proofs.YtfnfjmeiaamheaaDoorW.PrintMore
attribute [local go_sem] max2_int min2_int max_two min_two max_three min_three max_four min_four
def n_sign.f (a0 : Int) : Option (Int) := if a0 < 0 then (some (-1)) else (if a0 > 0 then (some 1) else (some 0))
set_option maxHeartbeats 8000000 in
set_option maxRecDepth 100000 in
theorem n_sign.calls (a0 : Int) (r : Int) (w : World) (h : n_sign.f a0 = some r) :
  Calls Tryd.prog 89 #[.int .i64 a0] w fun e w' => e = .returned (.int .i64 r) ∧ Drawn0 w w' := by
 have H : (if a0 < 0 then (some (-1)) else (if a0 > 0 then (some 1) else (some 0))) = some r := h
 clear h
 by_cases c2 : a0 < 0
 ·rw [if_pos c2] at H
  have c2b0 := decide_eq_true c2
  clear c2
  obtain rfl := Option.some.inj H
  go_enter Tryd.func89, Tryd.ntmps89
  go_wp2
  go_ret
  exact ⟨by first | rfl | (simp; done) | (simp [*]; done), by repeat (first | exact Drawn0.refl _ | apply Drawn0.step)⟩
 rw [if_neg c2] at H
 have c2b0 := decide_eq_false c2
 clear c2
 by_cases c3 : a0 > 0
 ·rw [if_pos c3] at H
  have c3b0 : decide (0 < a0) = true := decide_eq_true c3
  clear c3
  obtain rfl := Option.some.inj H
  go_enter Tryd.func89, Tryd.ntmps89
  go_wp2
  go_ret
  exact ⟨by first | rfl | (simp; done) | (simp [*]; done), by repeat (first | exact Drawn0.refl _ | apply Drawn0.step)⟩
 rw [if_neg c3] at H
 have c3b0 : decide (0 < a0) = false := decide_eq_false c3
 clear c3
 obtain rfl := Option.some.inj H
 go_enter Tryd.func89, Tryd.ntmps89
 go_wp2
 go_ret
 exact ⟨by first | rfl | (simp; done) | (simp [*]; done), by repeat (first | exact Drawn0.refl _ | apply Drawn0.step)⟩
def n_compare.l0 : Nat → List Int → List Int → Int → Option (Int)
 | 0, _, _, _ => none
 | k + 1, x0, x1, x5 => if x5 ≥ 0 then (if 0 ≤ x5 then (if x5 < (x0.length : Int) then (if x5 < (x1.length : Int) then (if (rd x0 x5) = (rd x1 x5) then (n_compare.l0 k x0 x1 (wrap64 (x5 - 1))) else (if (rd x0 x5) < (rd x1 x5) then (some (-1)) else (some 1))) else (none)) else (none)) else (none)) else (some 0)
def n_compare.f (k : Nat) (l0 : List Int) (l1 : List Int) : Option (Int) := if (l0.length : Int) = (l1.length : Int) then (n_compare.l0 k l0 l1 (wrap64 ((l0.length : Int) - 1))) else ((n_sign.f (wrap64 ((l0.length : Int) - (l1.length : Int)))).bind fun t126 => (some t126))
set_option maxHeartbeats 8000000 in
set_option maxRecDepth 100000 in
theorem n_compare.calls (k : Nat) (A0 : Option Addr) (c0 : Nat) (l0 : List Int) (A1 : Option Addr) (c1 : Nat) (l1 : List Int) (r : Int) (w : World) (hr0 : Kd.C (Kd.int .u32) w A0 l0.length l0) (hc0 : l0.length ≤ c0) (hr1 : Kd.C (Kd.int .u32) w A1 l1.length l1) (hc1 : l1.length ≤ c1) (h : n_compare.f k l0 l1 = some r) :
  Calls Tryd.prog 77 #[.slice A0 l0.length c0, .slice A1 l1.length c1] w fun e w' => e = .returned (.int .i64 r) ∧ Drawn0 w w' := by
 have HR0 := Aside0.mk hr0
 have HC0 := Aside0.mk hc0
 clear hr0 hc0
 have HR1 := Aside0.mk hr1
 have HC1 := Aside0.mk hc1
 clear hr1 hc1
 have H : (if (l0.length : Int) = (l1.length : Int) then (n_compare.l0 k l0 l1 (wrap64 ((l0.length : Int) - 1))) else ((n_sign.f (wrap64 ((l0.length : Int) - (l1.length : Int)))).bind fun t126 => (some t126))) = some r := h
 clear h
 by_cases c3 : (l0.length : Int) = (l1.length : Int)
 rotate_left
 ·rw [if_neg c3] at H
  have c3b0 : ((l0.length : Int) == (l1.length : Int)) = false := beq_eq_false_iff_ne.mpr c3
  have c3b1 : ((l0.length : Int) != (l1.length : Int)) = true := bne_iff_ne.mpr c3
  have c3b2 : (l0.length == l1.length) = false := by first | simpa using c3 | (simp at c3 ⊢; omega)
  replace H := Option.bind_eq_some_iff.mp H
  obtain ⟨t126, A100, H⟩ := H
  try dsimp only at H
  have A10 := Aside0.mk A100
  clear A100
  obtain rfl := Option.some.inj H
  go_enter Tryd.func77, Tryd.ntmps77
  go_wp2_with (first | (go_at_call 89; (with_reducible refine (n_sign.calls (wrap64 ((l0.length : Int) - (l1.length : Int))) t126 _ A10.out).mono ?_); rintro e w' ⟨rfl, ⟨nd, rfl⟩⟩; (try first | exact ⟨rfl, _, World.drewN_drewN _ _ _⟩ | exact ⟨rfl, _, Eq.trans (World.drewN_drewN _ _ _) (congrArg (World.drewN _) (Nat.add_assoc _ _ _))⟩)))
  repeat (go_quiet (first | (go_at_call 89; (with_reducible refine (n_sign.calls (wrap64 ((l0.length : Int) - (l1.length : Int))) t126 _ A10.out).mono ?_); rintro e w' ⟨rfl, ⟨nd, rfl⟩⟩; (try first | exact ⟨rfl, _, World.drewN_drewN _ _ _⟩ | exact ⟨rfl, _, Eq.trans (World.drewN_drewN _ _ _) (congrArg (World.drewN _) (Nat.add_assoc _ _ _))⟩))); try go_wp2_with (first | (go_at_call 89; (with_reducible refine (n_sign.calls (wrap64 ((l0.length : Int) - (l1.length : Int))) t126 _ A10.out).mono ?_); rintro e w' ⟨rfl, ⟨nd, rfl⟩⟩; (try first | exact ⟨rfl, _, World.drewN_drewN _ _ _⟩ | exact ⟨rfl, _, Eq.trans (World.drewN_drewN _ _ _) (congrArg (World.drewN _) (Nat.add_assoc _ _ _))⟩))))
  go_ret
  exact ⟨by first | rfl | (simp; done) | (simp [*]; done), by repeat (first | exact Drawn0.refl _ | apply Drawn0.step)⟩
 rw [if_pos c3] at H
 have c3b0 : ((l0.length : Int) == (l1.length : Int)) = true := beq_iff_eq.mpr c3
 have c3b1 : ((l0.length : Int) != (l1.length : Int)) = false := bne_eq_false_iff_eq.mpr c3
 have c3b2 : (l0.length == l1.length) = true := by first | simpa using c3 | (simp at c3 ⊢; omega)
 clear c3
 have H' := Aside0.mk H
 clear H
 go_enter Tryd.func77, Tryd.ntmps77
 go_wp2
 repeat (go_quiet (fail); try go_wp2)
 go_loopg [5] k (fun kq v5 w' => ∃ (x5_1 : Int), v5 = .int .i64 x5_1 ∧ Aside0 (n_compare.l0 kq l0 l1 x5_1 = some r) ∧ Aside0 (kq ≤ k) ∧ Drawn0 w w')
 case atStart => exact ⟨(wrap64 ((l0.length : Int) - 1)), (by first | rfl | (simp; done) | (simp [*]; done)), H', ⟨Nat.le_refl _⟩, by repeat (first | exact Drawn0.refl _ | apply Drawn0.step)⟩
 case round =>
  clear H'
  try clear c1
  try clear p2
  try clear c3
  try clear c3b0
  try clear c3b1
  try clear c3b2
  obtain ⟨x5_1, rfl, HA, HK1, ⟨m1, rfl⟩⟩ := hrel
  cases gk with
  | zero => exact absurd HA.out (by simp [n_compare.l0])
  | succ k1 =>
   have H := HA.out
   clear HA
   simp only [n_compare.l0] at H
   by_cases c4 : x5_1 ≥ 0
   rotate_left
   ·rw [if_neg c4] at H
    have c4b0 : decide (0 ≤ x5_1) = false := decide_eq_false c4
    clear c4
    obtain rfl := Option.some.inj H
    go_wp2
    repeat (go_quiet (fail); try go_wp2)
    go_ret
    exact ⟨by first | rfl | (simp; done) | (simp [*]; done), by repeat (first | exact Drawn0.refl _ | apply Drawn0.step)⟩
   rw [if_pos c4] at H
   have c4b0 : decide (0 ≤ x5_1) = true := decide_eq_true c4
   clear c4
   by_cases c5 : 0 ≤ x5_1
   rotate_left
   ·rw [if_neg c5] at H
    exact absurd H (by simp)
   rw [if_pos c5] at H
   have c5b0 := decide_eq_true c5
   clear c5
   by_cases c6 : x5_1 < (l0.length : Int)
   rotate_left
   ·rw [if_neg c6] at H
    exact absurd H (by simp)
   rw [if_pos c6] at H
   have c6b0 := decide_eq_true c6
   clear c6
   by_cases c7 : x5_1 < (l1.length : Int)
   rotate_left
   ·rw [if_neg c7] at H
    exact absurd H (by simp)
   rw [if_pos c7] at H
   have c7b0 := decide_eq_true c7
   clear c7
   by_cases c8 : (rd l0 x5_1) = (rd l1 x5_1)
   ·rw [if_pos c8] at H
    have c8b0 : ((rd l0 x5_1) == (rd l1 x5_1)) = true := beq_iff_eq.mpr c8
    have c8b1 : ((rd l0 x5_1) != (rd l1 x5_1)) = false := bne_eq_false_iff_eq.mpr c8
    clear c8
    have H' := Aside0.mk H
    clear H
    have p127 : 0 ≤ (x5_1 : Int) := odt
    have q127 : x5_1 < (l0.length : Int) := odt
    obtain ⟨ad127, e127, hx127_0⟩ := Kd.at_int HR0.out x5_1 p127 q127
    cases e127
    replace p127 := eq_true p127
    replace q127 := eq_true q127
    have p128 : 0 ≤ (x5_1 : Int) := odt
    have q128 : x5_1 < (l1.length : Int) := odt
    obtain ⟨ad128, e128, hx128_0⟩ := Kd.at_int HR1.out x5_1 p128 q128
    cases e128
    replace p128 := eq_true p128
    replace q128 := eq_true q128
    go_wp2
    repeat (go_quiet (fail); try go_wp2)
    go_roundg k1
    case measure => have := HK1.out; omega
    case rel => exact ⟨(wrap64 (x5_1 - 1)), (by first | rfl | (simp; done) | (simp [*]; done)), H', ⟨by have := HK1.out; omega⟩, by repeat (first | exact Drawn0.refl _ | apply Drawn0.step)⟩
   rw [if_neg c8] at H
   have c8b0 : ((rd l0 x5_1) == (rd l1 x5_1)) = false := beq_eq_false_iff_ne.mpr c8
   have c8b1 : ((rd l0 x5_1) != (rd l1 x5_1)) = true := bne_iff_ne.mpr c8
   by_cases c9 : (rd l0 x5_1) < (rd l1 x5_1)
   ·rw [if_pos c9] at H
    have c9b0 := decide_eq_true c9
    clear c9
    obtain rfl := Option.some.inj H
    have p127 : 0 ≤ (x5_1 : Int) := odt
    have q127 : x5_1 < (l0.length : Int) := odt
    obtain ⟨ad127, e127, hx127_0⟩ := Kd.at_int HR0.out x5_1 p127 q127
    cases e127
    replace p127 := eq_true p127
    replace q127 := eq_true q127
    have p128 : 0 ≤ (x5_1 : Int) := odt
    have q128 : x5_1 < (l1.length : Int) := odt
    obtain ⟨ad128, e128, hx128_0⟩ := Kd.at_int HR1.out x5_1 p128 q128
    cases e128
    replace p128 := eq_true p128
    replace q128 := eq_true q128
    have p129 : 0 ≤ (x5_1 : Int) := odt
    have q129 : x5_1 < (l0.length : Int) := odt
    obtain ⟨ad129, e129, hx129_0⟩ := Kd.at_int HR0.out x5_1 p129 q129
    obtain rfl : ad127 = ad129 := (by injection e129)
    replace p129 := eq_true p129
    replace q129 := eq_true q129
    have p130 : 0 ≤ (x5_1 : Int) := odt
    have q130 : x5_1 < (l1.length : Int) := odt
    obtain ⟨ad130, e130, hx130_0⟩ := Kd.at_int HR1.out x5_1 p130 q130
    obtain rfl : ad128 = ad130 := (by injection e130)
    replace p130 := eq_true p130
    replace q130 := eq_true q130
    go_wp2
    repeat (go_quiet (fail); try go_wp2)
    go_ret
    exact ⟨by first | rfl | (simp; done) | (simp [*]; done), by repeat (first | exact Drawn0.refl _ | apply Drawn0.step)⟩
   rw [if_neg c9] at H
   have c9b0 := decide_eq_false c9
   clear c9
   obtain rfl := Option.some.inj H
   have p127 : 0 ≤ (x5_1 : Int) := odt
   have q127 : x5_1 < (l0.length : Int) := odt
   obtain ⟨ad127, e127, hx127_0⟩ := Kd.at_int HR0.out x5_1 p127 q127
   cases e127
   replace p127 := eq_true p127
   replace q127 := eq_true q127
   have p128 : 0 ≤ (x5_1 : Int) := odt
   have q128 : x5_1 < (l1.length : Int) := odt
   obtain ⟨ad128, e128, hx128_0⟩ := Kd.at_int HR1.out x5_1 p128 q128
   cases e128
   replace p128 := eq_true p128
   replace q128 := eq_true q128
   have p129 : 0 ≤ (x5_1 : Int) := odt
   have q129 : x5_1 < (l0.length : Int) := odt
   obtain ⟨ad129, e129, hx129_0⟩ := Kd.at_int HR0.out x5_1 p129 q129
   obtain rfl : ad127 = ad129 := (by injection e129)
   replace p129 := eq_true p129
   replace q129 := eq_true q129
   have p130 : 0 ≤ (x5_1 : Int) := odt
   have q130 : x5_1 < (l1.length : Int) := odt
   obtain ⟨ad130, e130, hx130_0⟩ := Kd.at_int HR1.out x5_1 p130 q130
   obtain rfl : ad128 = ad130 := (by injection e130)
   replace p130 := eq_true p130
   replace q130 := eq_true q130
   go_wp2
   repeat (go_quiet (fail); try go_wp2)
   go_ret
   exact ⟨by first | rfl | (simp; done) | (simp [*]; done), by repeat (first | exact Drawn0.refl _ | apply Drawn0.step)⟩
def n_divideSmall.l0 : Nat → List Int → Int → List Int → Int → Int → Option (List Int × Int)
 | 0, _, _, _, _, _ => none
 | k + 1, x0, x1, x6, x7, x8 => if x8 ≥ 0 then (if 0 ≤ x8 then (if x8 < (x0.length : Int) then (if (IntKind.u64.wrap (x1)) = 0 then (none) else (if x8 < (x6.length : Int) then (n_divideSmall.l0 k x0 x1 (x6.set (x8 : Int).toNat ((IntKind.u64.wrap (Int.tdiv (Go.bits .or .u64 (IntKind.u64.wrap (x7 * 4294967296)) (IntKind.u64.wrap (rd x0 x8))) (IntKind.u64.wrap (x1)))) % 4294967296)) (Int.tmod (Go.bits .or .u64 (IntKind.u64.wrap (x7 * 4294967296)) (IntKind.u64.wrap (rd x0 x8))) (IntKind.u64.wrap (x1))) (wrap64 (x8 - 1))) else (none))) else (none)) else (none)) else ((n_limbs_trim.f k x6).bind fun t136 => (some (t136, (x7) % 4294967296)))
def n_divideSmall.f (k : Nat) (l0 : List Int) (a1 : Int) : Option (List Int × Int) := if 0 ≤ (l0.length : Int) then (if ((l0.length : Int) : Int).toNat ≤ 70368744177664 then (n_divideSmall.l0 k l0 a1 (List.replicate ((l0.length : Int) : Int).toNat 0) 0 (wrap64 ((l0.length : Int) - 1))) else (none)) else (none)
set_option maxHeartbeats 8000000 in
set_option maxRecDepth 100000 in
theorem n_divideSmall.calls (k : Nat) (A0 : Option Addr) (c0 : Nat) (l0 : List Int) (a1 : Int) (r1 : List Int) (r2 : Int) (w : World) (hr0 : Kd.C (Kd.int .u32) w A0 l0.length l0) (hc0 : l0.length ≤ c0) (h : n_divideSmall.f k l0 a1 = some (r1, r2)) :
  Calls Tryd.prog 78 #[.slice A0 l0.length c0, .int .u32 a1] w fun e w' => ∃ v0_ : Value, e = .returned (.tuple #[v0_, .int .u32 r2]) ∧ Kd.V (Kd.int .u32) 88 w' w.heap.size (fun k_ => (w.heap.size ≤ k_)) v0_ r1 ∧ Below w.heap.size w w' := by
 have HR0 := Aside0.mk hr0
 have HC0 := Aside0.mk hc0
 clear hr0 hc0
 have HB := Aside0.mk (Below.refl w.heap.size w)
 have H : (if 0 ≤ (l0.length : Int) then (if ((l0.length : Int) : Int).toNat ≤ 70368744177664 then (n_divideSmall.l0 k l0 a1 (List.replicate ((l0.length : Int) : Int).toNat 0) 0 (wrap64 ((l0.length : Int) - 1))) else (none)) else (none)) = some (r1, r2) := h
 clear h
 by_cases c3 : 0 ≤ (l0.length : Int)
 rotate_left
 ·rw [if_neg c3] at H
  exact absurd H (by simp)
 rw [if_pos c3] at H
 have c3b0 := eq_true c3
 have c3b1 := decide_eq_true c3
 clear c3
 by_cases c4 : ((l0.length : Int) : Int).toNat ≤ 70368744177664
 rotate_left
 ·rw [if_neg c4] at H
  exact absurd H (by simp)
 rw [if_pos c4] at H
 have c4b0 := eq_true c4
 have c4b1 := decide_eq_true c4
 clear c4
 obtain ⟨y131, hy131⟩ : ∃ y_ : List Int, y_ = (List.replicate ((l0.length : Int) : Int).toNat 0) := ⟨_, rfl⟩
 replace H : (n_divideSmall.l0 k l0 a1 y131 0 (wrap64 ((l0.length : Int) - 1))) = some (r1, r2) := by first | (rw [hy131]; with_reducible exact H) | (have H2_ := (Option.bind_some _ _).symm.trans H; rw [hy131]; with_reducible exact H2_) | (have H2_ := (Option.bind_some _ _).symm.trans H; with_reducible exact H2_) | with_reducible exact H | (rw [hy131]; exact H) | exact H
 have Ny131 := Aside0.mk hy131
 clear hy131
 have H' := Aside0.mk H
 clear H
 go_enter Tryd.func78, Tryd.ntmps78
 go_wp2_with (first | ((with_reducible refine gate_dst (N := 12) rfl ?_); refine Kd.R_make (Kd.int .u32) _ 88 rfl (N := 12) rfl 83 _ _ rfl (l0.length : Int) rfl rfl Tryd.underlying83 (.int .u32 0) 4 info88 rfl (by decide) (by omega) 0 (ok := fun _ => True) (okp := fun _ => True) rfl (fun _ hk => hk) trivial odt (Nat.le_trans (Nat.mul_le_mul_right _ (of_decide_eq_true (by first | (with_reducible assumption) | assumption) : (l0.length : Int).toNat ≤ 70368744177664)) (by omega)) (Below.refl _ _) (Nat.le_refl _) ?_; intro v132 w5 ho6 hb hg_ hnew_; clear hg_ hnew_; (first | rw [← Ny131.out] at ho6 | (simp only [Int.reduceToNat] at ho6; rw [← Ny131.out] at ho6)); have HO133 := am (Kd.R_lower (Kd.R_newM (M := fun k_ => (w.heap.size ≤ k_)) ho6 (below_size (bq HB.out)) (fun k_ h_ => h_)) (below_size (bq HB.out))); replace HB := am (below_step (bq HB.out) hb); clear hb ho6))
 go_loopg [7, 8] k (fun kq v7 v8 w' => ∃ (x6_1 : List Int) (x7_1 : Int) (x8_1 : Int), v7 = .int .u64 x7_1 ∧ v8 = .int .i64 x8_1 ∧ Aside0 (n_divideSmall.l0 kq l0 a1 x6_1 x7_1 x8_1 = some (r1, r2)) ∧ Aside0 (kq ≤ k) ∧ Aside0 (Kd.R (Kd.int .u32) 88 w' w.heap.size (fun k_ => (w.heap.size ≤ k_)) v132 x6_1) ∧ Aside0 (Below w.heap.size w w'))
 case atStart => exact ⟨(y131), (0), (wrap64 ((l0.length : Int) - 1)), (by first | rfl | (simp; done) | (simp [*]; done)), (by first | rfl | (simp; done) | (simp [*]; done)), H', ⟨Nat.le_refl _⟩, ⟨by (with_reducible repeat (first | apply Kd.R_alloc | apply Kd.R_drewN | apply Kd.R_drew)); exact Kd.R_mono HO133.out (fun _ hk => hk.1)⟩, ⟨bq HB.out⟩⟩
 case round =>
  clear H'
  try clear p2
  try clear c3
  try clear c3b0
  try clear c3b1
  try clear c4
  try clear c4b0
  try clear c4b1
  try clear p6
  obtain ⟨x6_1, x7_1, x8_1, rfl, rfl, HA, HK1, HO_6, HB⟩ := hrel
  cases gk with
  | zero => exact absurd HA.out (by simp [n_divideSmall.l0])
  | succ k1 =>
   have H := HA.out
   clear HA
   simp only [n_divideSmall.l0] at H
   by_cases c7 : x8_1 ≥ 0
   rotate_left
   ·rw [if_neg c7] at H
    have c7b0 : decide (0 ≤ x8_1) = false := decide_eq_false c7
    clear c7
    replace H := Option.bind_eq_some_iff.mp H
    obtain ⟨t136, A150, H⟩ := H
    try dsimp only at H
    have A15 := Aside0.mk A150
    clear A150
    simp only [Option.some.injEq, Prod.mk.injEq] at H
    obtain ⟨rfl, rfl⟩ := H
    obtain ⟨Ao16, co16, eo16⟩ := Kd.R_slice HO_6.out
    subst eo16
    go_wp2_with (first | ((with_reducible refine gate_callee (f := 76) rfl ?_); refine goesq (some 41) Tryd.func76 #[.slice Ao16 x6_1.length co16] ?_; (with_reducible refine (n_limbs_trim.calls k1 (fun k_ => some k_ = (.slice Ao16 x6_1.length co16 : Value).ownBlock) _ _ x6_1 t136 _ ?side1 A15.out).mono ?_); (case side1 => exact Kd.R_V (Kd.R_tight rfl (HO_6.out))); rintro e w17 ⟨v137, rfl, ho0, hb⟩; refine ⟨_, rfl, ?_⟩; have HO138 := am (Kd.V_lower (Kd.V_mono (ok' := fun k_ => (w.heap.size ≤ k_)) ho0 (fun k_ hk_ => Or.elim hk_ (fun hs_ => ((HO_6.out).1 k_ hs_.symm)) (fun hn_ => (Nat.le_trans (below_size (bq HB.out)) hn_)))) (below_size (bq HB.out))); replace HO_6 := am (Kd.R_below (Kd.rq HO_6.out) hb); replace HB := am (below_step (bq HB.out) hb); (try clear hb); (try clear ho0)))
    go_ret2
    exact ⟨_, by first | rfl | (simp [errW_none, errW_some] <;> rfl) | (simp [*, errW_none, errW_some] <;> rfl), by (with_reducible repeat (first | apply Kd.V_alloc | apply Kd.V_drewN | apply Kd.V_drew)); exact HO138.out, bq HB.out⟩
   rw [if_pos c7] at H
   have c7b0 : decide (0 ≤ x8_1) = true := decide_eq_true c7
   clear c7
   by_cases c8 : 0 ≤ x8_1
   rotate_left
   ·rw [if_neg c8] at H
    exact absurd H (by simp)
   rw [if_pos c8] at H
   have c8b0 := decide_eq_true c8
   clear c8
   by_cases c9 : x8_1 < (l0.length : Int)
   rotate_left
   ·rw [if_neg c9] at H
    exact absurd H (by simp)
   rw [if_pos c9] at H
   have c9b0 := decide_eq_true c9
   clear c9
   by_cases c10 : (IntKind.u64.wrap (a1)) = 0
   ·rw [if_pos c10] at H
    exact absurd H (by simp)
   rw [if_neg c10] at H
   have c10b0 : ((IntKind.u64.wrap (a1)) == 0) = false := beq_eq_false_iff_ne.mpr c10
   have c10b1 : ((IntKind.u64.wrap (a1)) != 0) = true := bne_iff_ne.mpr c10
   by_cases c11 : x8_1 < (x6_1.length : Int)
   rotate_left
   ·rw [if_neg c11] at H
    exact absurd H (by simp)
   rw [if_pos c11] at H
   have c11b0 := decide_eq_true c11
   clear c11
   obtain ⟨y135, hy135⟩ : ∃ y_ : List Int, y_ = (x6_1.set (x8_1 : Int).toNat ((IntKind.u64.wrap (Int.tdiv (Go.bits .or .u64 (IntKind.u64.wrap (x7_1 * 4294967296)) (IntKind.u64.wrap (rd l0 x8_1))) (IntKind.u64.wrap (a1)))) % 4294967296)) := ⟨_, rfl⟩
   replace H : (n_divideSmall.l0 k1 l0 a1 y135 (Int.tmod (Go.bits .or .u64 (IntKind.u64.wrap (x7_1 * 4294967296)) (IntKind.u64.wrap (rd l0 x8_1))) (IntKind.u64.wrap (a1))) (wrap64 (x8_1 - 1))) = some (r1, r2) := by first | (rw [hy135]; with_reducible exact H) | (have H2_ := (Option.bind_some _ _).symm.trans H; rw [hy135]; with_reducible exact H2_) | (have H2_ := (Option.bind_some _ _).symm.trans H; with_reducible exact H2_) | with_reducible exact H | (rw [hy135]; exact H) | exact H
   have Ny135 := Aside0.mk hy135
   clear hy135
   have H' := Aside0.mk H
   clear H
   have p134 : 0 ≤ (x8_1 : Int) := odt
   have q134 : x8_1 < (l0.length : Int) := odt
   obtain ⟨ad134, e134, hx134_0⟩ := Kd.at_int HR0.out x8_1 p134 q134
   cases e134
   replace hx134_0 := (HB.out.cell (World.block_lt_of_cell? w _ hx134_0)).trans hx134_0
   replace p134 := eq_true p134
   replace q134 := eq_true q134
   have p12 : 0 ≤ (x8_1 : Int) := odt
   have q12 : (x8_1 : Int) < ((x6_1.length : Int) : Int) := odt
   obtain ⟨go12, co12, eo12, gb12, gl12, cl12, HG12⟩ := Kd.R_form HO_6.out (by omega)
   (first | cases eo12 | (injection eo12 with ea_ en_ ec_; (first | subst ea_ | (injection ea_ with ea_; subst ea_)); subst ec_; clear en_))
   have GB12 := Aside0.mk gb12
   have GG12 := Aside0.mk HG12
   clear gb12 gl12 HG12
   obtain ⟨hx12_0, hf12_0⟩ := Kd.R_celln 0 HO_6.out (x8_1 : Int) p12 q12
   replace p12 := eq_true p12
   replace q12 := eq_true q12
   have HP13 := Kd.R_putg HO_6.out (x8_1 : Int) ((IntKind.u64.wrap (Int.tdiv (Go.bits .or .u64 (IntKind.u64.wrap (x7_1 * 4294967296)) (IntKind.u64.wrap (rd l0 x8_1))) (IntKind.u64.wrap (a1)))) % 4294967296)
   go_wp2_with (first | ((with_reducible refine gate_store (t := 88) (p := 35) rfl ?_); refine store_event (t := 88) (p := 35) (v := ?vo_w14) (w1 := (wr.setCell ⟨go12, (x8_1 : Int).toNat, none⟩ (.int .u32 ((IntKind.u64.wrap (Int.tdiv (Go.bits .or .u64 (IntKind.u64.wrap (x7_1 * 4294967296)) (IntKind.u64.wrap (rd l0 x8_1))) (IntKind.u64.wrap (a1)))) % 4294967296)))) ?hg ?ho ?hn ?hr ?_; (case ho => rfl); (case hg => rfl); (case hn => rfl); (case hr => first | (go_simp; done) | (go_simp; rfl)); intro w14 hw; have hg : wr.grownBy w14 (some go12) := (by rw [hw]; exact HP13.2); have hp_ : Kd.R (Kd.int .u32) 88 w14 w.heap.size (fun k_ => (w.heap.size ≤ k_)) (.slice (some ⟨go12, 0, none⟩) x6_1.length co12) y135 := (by rw [hw, Ny135.out]; exact HP13.1); clear HP13; replace HO_6 := am (hp_); replace HB := am ((by rw [hw]; exact below_set (HB.out) GB12.out : Below w.heap.size w w14)); clear hg hw hp_))
   go_roundg k1
   case measure => have := HK1.out; omega
   case rel => exact ⟨(y135), (Int.tmod (Go.bits .or .u64 (IntKind.u64.wrap (x7_1 * 4294967296)) (IntKind.u64.wrap (rd l0 x8_1))) (IntKind.u64.wrap (a1))), (wrap64 (x8_1 - 1)), (by first | rfl | (simp; done) | (simp [*]; done)), (by first | rfl | (simp; done) | (simp [*]; done)), H', ⟨by have := HK1.out; omega⟩, ⟨Kd.rq HO_6.out⟩, ⟨bq HB.out⟩⟩
def e1_order.l0 : Nat → List Int → List Int → Int → Option (Int)
 | 0, _, _, _ => none
 | k + 1, x0, x1, x5 => if x5 ≥ 0 then (if 0 ≤ x5 then (if x5 < (x0.length : Int) then (if x5 < (x1.length : Int) then (if (rd x0 x5) = (rd x1 x5) then (e1_order.l0 k x0 x1 (wrap64 (x5 - 1))) else (if (rd x0 x5) < (rd x1 x5) then (some (-1)) else (some 1))) else (none)) else (none)) else (none)) else (some 0)
def e1_order.f (k : Nat) (l0 : List Int) (l1 : List Int) : Option (Int) := if (l0.length : Int) = (l1.length : Int) then (e1_order.l0 k l0 l1 (wrap64 ((l0.length : Int) - 1))) else (if (l0.length : Int) < (l1.length : Int) then (some (-1)) else (some 1))
set_option maxHeartbeats 8000000 in
set_option maxRecDepth 100000 in
theorem e1_order.calls (k : Nat) (A0 : Option Addr) (c0 : Nat) (l0 : List Int) (A1 : Option Addr) (c1 : Nat) (l1 : List Int) (r : Int) (w : World) (hr0 : Kd.C (Kd.int .u32) w A0 l0.length l0) (hc0 : l0.length ≤ c0) (hr1 : Kd.C (Kd.int .u32) w A1 l1.length l1) (hc1 : l1.length ≤ c1) (h : e1_order.f k l0 l1 = some r) :
  Calls Tryd.prog 83 #[.slice A0 l0.length c0, .slice A1 l1.length c1] w fun e w' => e = .returned (.int .i64 r) ∧ Drawn0 w w' := by
 have HR0 := Aside0.mk hr0
 have HC0 := Aside0.mk hc0
 clear hr0 hc0
 have HR1 := Aside0.mk hr1
 have HC1 := Aside0.mk hc1
 clear hr1 hc1
 have H : (if (l0.length : Int) = (l1.length : Int) then (e1_order.l0 k l0 l1 (wrap64 ((l0.length : Int) - 1))) else (if (l0.length : Int) < (l1.length : Int) then (some (-1)) else (some 1))) = some r := h
 clear h
 by_cases c3 : (l0.length : Int) = (l1.length : Int)
 rotate_left
 ·rw [if_neg c3] at H
  have c3b0 : ((l0.length : Int) == (l1.length : Int)) = false := beq_eq_false_iff_ne.mpr c3
  have c3b1 : ((l0.length : Int) != (l1.length : Int)) = true := bne_iff_ne.mpr c3
  have c3b2 : (l0.length == l1.length) = false := by first | simpa using c3 | (simp at c3 ⊢; omega)
  by_cases c10 : (l0.length : Int) < (l1.length : Int)
  ·rw [if_pos c10] at H
   have c10b0 : decide ((l0.length : Int) < (l1.length : Int)) = true := decide_eq_true c10
   have c10b1 : decide (l0.length < l1.length) = true := decide_eq_true (Int.ofNat_lt.mp c10)
   clear c10
   obtain rfl := Option.some.inj H
   go_enter Tryd.func83, Tryd.ntmps83
   go_wp2
   repeat (go_quiet (fail); try go_wp2)
   go_ret
   exact ⟨by first | rfl | (simp; done) | (simp [*]; done), by repeat (first | exact Drawn0.refl _ | apply Drawn0.step)⟩
  rw [if_neg c10] at H
  have c10b0 : decide ((l0.length : Int) < (l1.length : Int)) = false := decide_eq_false c10
  have c10b1 : decide (l0.length < l1.length) = false := decide_eq_false (fun h => c10 (Int.ofNat_lt.mpr h))
  clear c10
  obtain rfl := Option.some.inj H
  go_enter Tryd.func83, Tryd.ntmps83
  go_wp2
  repeat (go_quiet (fail); try go_wp2)
  go_ret
  exact ⟨by first | rfl | (simp; done) | (simp [*]; done), by repeat (first | exact Drawn0.refl _ | apply Drawn0.step)⟩
 rw [if_pos c3] at H
 have c3b0 : ((l0.length : Int) == (l1.length : Int)) = true := beq_iff_eq.mpr c3
 have c3b1 : ((l0.length : Int) != (l1.length : Int)) = false := bne_eq_false_iff_eq.mpr c3
 have c3b2 : (l0.length == l1.length) = true := by first | simpa using c3 | (simp at c3 ⊢; omega)
 clear c3
 have H' := Aside0.mk H
 clear H
 go_enter Tryd.func83, Tryd.ntmps83
 go_wp2
 repeat (go_quiet (fail); try go_wp2)
 go_loopg [5] k (fun kq v5 w' => ∃ (x5_1 : Int), v5 = .int .i64 x5_1 ∧ Aside0 (e1_order.l0 kq l0 l1 x5_1 = some r) ∧ Aside0 (kq ≤ k) ∧ Drawn0 w w')
 case atStart => exact ⟨(wrap64 ((l0.length : Int) - 1)), (by first | rfl | (simp; done) | (simp [*]; done)), H', ⟨Nat.le_refl _⟩, by repeat (first | exact Drawn0.refl _ | apply Drawn0.step)⟩
 case round =>
  clear H'
  try clear c1
  try clear p2
  try clear c3
  try clear c3b0
  try clear c3b1
  try clear c3b2
  obtain ⟨x5_1, rfl, HA, HK1, ⟨m1, rfl⟩⟩ := hrel
  cases gk with
  | zero => exact absurd HA.out (by simp [e1_order.l0])
  | succ k1 =>
   have H := HA.out
   clear HA
   simp only [e1_order.l0] at H
   by_cases c4 : x5_1 ≥ 0
   rotate_left
   ·rw [if_neg c4] at H
    have c4b0 : decide (0 ≤ x5_1) = false := decide_eq_false c4
    clear c4
    obtain rfl := Option.some.inj H
    go_wp2
    repeat (go_quiet (fail); try go_wp2)
    go_ret
    exact ⟨by first | rfl | (simp; done) | (simp [*]; done), by repeat (first | exact Drawn0.refl _ | apply Drawn0.step)⟩
   rw [if_pos c4] at H
   have c4b0 : decide (0 ≤ x5_1) = true := decide_eq_true c4
   clear c4
   by_cases c5 : 0 ≤ x5_1
   rotate_left
   ·rw [if_neg c5] at H
    exact absurd H (by simp)
   rw [if_pos c5] at H
   have c5b0 := decide_eq_true c5
   clear c5
   by_cases c6 : x5_1 < (l0.length : Int)
   rotate_left
   ·rw [if_neg c6] at H
    exact absurd H (by simp)
   rw [if_pos c6] at H
   have c6b0 := decide_eq_true c6
   clear c6
   by_cases c7 : x5_1 < (l1.length : Int)
   rotate_left
   ·rw [if_neg c7] at H
    exact absurd H (by simp)
   rw [if_pos c7] at H
   have c7b0 := decide_eq_true c7
   clear c7
   by_cases c8 : (rd l0 x5_1) = (rd l1 x5_1)
   ·rw [if_pos c8] at H
    have c8b0 : ((rd l0 x5_1) == (rd l1 x5_1)) = true := beq_iff_eq.mpr c8
    have c8b1 : ((rd l0 x5_1) != (rd l1 x5_1)) = false := bne_eq_false_iff_eq.mpr c8
    clear c8
    have H' := Aside0.mk H
    clear H
    have p333 : 0 ≤ (x5_1 : Int) := odt
    have q333 : x5_1 < (l0.length : Int) := odt
    obtain ⟨ad333, e333, hx333_0⟩ := Kd.at_int HR0.out x5_1 p333 q333
    cases e333
    replace p333 := eq_true p333
    replace q333 := eq_true q333
    have p334 : 0 ≤ (x5_1 : Int) := odt
    have q334 : x5_1 < (l1.length : Int) := odt
    obtain ⟨ad334, e334, hx334_0⟩ := Kd.at_int HR1.out x5_1 p334 q334
    cases e334
    replace p334 := eq_true p334
    replace q334 := eq_true q334
    go_wp2
    repeat (go_quiet (fail); try go_wp2)
    go_roundg k1
    case measure => have := HK1.out; omega
    case rel => exact ⟨(wrap64 (x5_1 - 1)), (by first | rfl | (simp; done) | (simp [*]; done)), H', ⟨by have := HK1.out; omega⟩, by repeat (first | exact Drawn0.refl _ | apply Drawn0.step)⟩
   rw [if_neg c8] at H
   have c8b0 : ((rd l0 x5_1) == (rd l1 x5_1)) = false := beq_eq_false_iff_ne.mpr c8
   have c8b1 : ((rd l0 x5_1) != (rd l1 x5_1)) = true := bne_iff_ne.mpr c8
   by_cases c9 : (rd l0 x5_1) < (rd l1 x5_1)
   ·rw [if_pos c9] at H
    have c9b0 := decide_eq_true c9
    clear c9
    obtain rfl := Option.some.inj H
    have p333 : 0 ≤ (x5_1 : Int) := odt
    have q333 : x5_1 < (l0.length : Int) := odt
    obtain ⟨ad333, e333, hx333_0⟩ := Kd.at_int HR0.out x5_1 p333 q333
    cases e333
    replace p333 := eq_true p333
    replace q333 := eq_true q333
    have p334 : 0 ≤ (x5_1 : Int) := odt
    have q334 : x5_1 < (l1.length : Int) := odt
    obtain ⟨ad334, e334, hx334_0⟩ := Kd.at_int HR1.out x5_1 p334 q334
    cases e334
    replace p334 := eq_true p334
    replace q334 := eq_true q334
    have p335 : 0 ≤ (x5_1 : Int) := odt
    have q335 : x5_1 < (l0.length : Int) := odt
    obtain ⟨ad335, e335, hx335_0⟩ := Kd.at_int HR0.out x5_1 p335 q335
    obtain rfl : ad333 = ad335 := (by injection e335)
    replace p335 := eq_true p335
    replace q335 := eq_true q335
    have p336 : 0 ≤ (x5_1 : Int) := odt
    have q336 : x5_1 < (l1.length : Int) := odt
    obtain ⟨ad336, e336, hx336_0⟩ := Kd.at_int HR1.out x5_1 p336 q336
    obtain rfl : ad334 = ad336 := (by injection e336)
    replace p336 := eq_true p336
    replace q336 := eq_true q336
    go_wp2
    repeat (go_quiet (fail); try go_wp2)
    go_ret
    exact ⟨by first | rfl | (simp; done) | (simp [*]; done), by repeat (first | exact Drawn0.refl _ | apply Drawn0.step)⟩
   rw [if_neg c9] at H
   have c9b0 := decide_eq_false c9
   clear c9
   obtain rfl := Option.some.inj H
   have p333 : 0 ≤ (x5_1 : Int) := odt
   have q333 : x5_1 < (l0.length : Int) := odt
   obtain ⟨ad333, e333, hx333_0⟩ := Kd.at_int HR0.out x5_1 p333 q333
   cases e333
   replace p333 := eq_true p333
   replace q333 := eq_true q333
   have p334 : 0 ≤ (x5_1 : Int) := odt
   have q334 : x5_1 < (l1.length : Int) := odt
   obtain ⟨ad334, e334, hx334_0⟩ := Kd.at_int HR1.out x5_1 p334 q334
   cases e334
   replace p334 := eq_true p334
   replace q334 := eq_true q334
   have p335 : 0 ≤ (x5_1 : Int) := odt
   have q335 : x5_1 < (l0.length : Int) := odt
   obtain ⟨ad335, e335, hx335_0⟩ := Kd.at_int HR0.out x5_1 p335 q335
   obtain rfl : ad333 = ad335 := (by injection e335)
   replace p335 := eq_true p335
   replace q335 := eq_true q335
   have p336 : 0 ≤ (x5_1 : Int) := odt
   have q336 : x5_1 < (l1.length : Int) := odt
   obtain ⟨ad336, e336, hx336_0⟩ := Kd.at_int HR1.out x5_1 p336 q336
   obtain rfl : ad334 = ad336 := (by injection e336)
   replace p336 := eq_true p336
   replace q336 := eq_true q336
   go_wp2
   repeat (go_quiet (fail); try go_wp2)
   go_ret
   exact ⟨by first | rfl | (simp; done) | (simp [*]; done), by repeat (first | exact Drawn0.refl _ | apply Drawn0.step)⟩
def e1_short.l0 : Nat → List Int → Int → List Int → Int → Int → Option (List Int × Int)
 | 0, _, _, _, _, _ => none
 | k + 1, x0, x1, x6, x7, x8 => if x8 ≥ 0 then (if 0 ≤ x8 then (if x8 < (x0.length : Int) then (if (IntKind.u64.wrap (x1)) = 0 then (none) else (if x8 < (x6.length : Int) then (e1_short.l0 k x0 x1 (x6.set (x8 : Int).toNat ((IntKind.u64.wrap (Int.tdiv (Go.bits .or .u64 (IntKind.u64.wrap (x7 * 4294967296)) (IntKind.u64.wrap (rd x0 x8))) (IntKind.u64.wrap (x1)))) % 4294967296)) (Int.tmod (Go.bits .or .u64 (IntKind.u64.wrap (x7 * 4294967296)) (IntKind.u64.wrap (rd x0 x8))) (IntKind.u64.wrap (x1))) (wrap64 (x8 - 1))) else (none))) else (none)) else (none)) else ((e1_strip.f k x6).bind fun t342 => (some (t342, (x7) % 4294967296)))
def e1_short.f (k : Nat) (l0 : List Int) (a1 : Int) : Option (List Int × Int) := if 0 ≤ (l0.length : Int) then (if ((l0.length : Int) : Int).toNat ≤ 70368744177664 then (e1_short.l0 k l0 a1 (List.replicate ((l0.length : Int) : Int).toNat 0) 0 (wrap64 ((l0.length : Int) - 1))) else (none)) else (none)
set_option maxHeartbeats 8000000 in
set_option maxRecDepth 100000 in
theorem e1_short.calls (k : Nat) (A0 : Option Addr) (c0 : Nat) (l0 : List Int) (a1 : Int) (r1 : List Int) (r2 : Int) (w : World) (hr0 : Kd.C (Kd.int .u32) w A0 l0.length l0) (hc0 : l0.length ≤ c0) (h : e1_short.f k l0 a1 = some (r1, r2)) :
  Calls Tryd.prog 84 #[.slice A0 l0.length c0, .int .u32 a1] w fun e w' => ∃ v0_ : Value, e = .returned (.tuple #[v0_, .int .u32 r2]) ∧ Kd.V (Kd.int .u32) 88 w' w.heap.size (fun k_ => (w.heap.size ≤ k_)) v0_ r1 ∧ Below w.heap.size w w' := by
 have HR0 := Aside0.mk hr0
 have HC0 := Aside0.mk hc0
 clear hr0 hc0
 have HB := Aside0.mk (Below.refl w.heap.size w)
 have H : (if 0 ≤ (l0.length : Int) then (if ((l0.length : Int) : Int).toNat ≤ 70368744177664 then (e1_short.l0 k l0 a1 (List.replicate ((l0.length : Int) : Int).toNat 0) 0 (wrap64 ((l0.length : Int) - 1))) else (none)) else (none)) = some (r1, r2) := h
 clear h
 by_cases c3 : 0 ≤ (l0.length : Int)
 rotate_left
 ·rw [if_neg c3] at H
  exact absurd H (by simp)
 rw [if_pos c3] at H
 have c3b0 := eq_true c3
 have c3b1 := decide_eq_true c3
 clear c3
 by_cases c4 : ((l0.length : Int) : Int).toNat ≤ 70368744177664
 rotate_left
 ·rw [if_neg c4] at H
  exact absurd H (by simp)
 rw [if_pos c4] at H
 have c4b0 := eq_true c4
 have c4b1 := decide_eq_true c4
 clear c4
 obtain ⟨y337, hy337⟩ : ∃ y_ : List Int, y_ = (List.replicate ((l0.length : Int) : Int).toNat 0) := ⟨_, rfl⟩
 replace H : (e1_short.l0 k l0 a1 y337 0 (wrap64 ((l0.length : Int) - 1))) = some (r1, r2) := by first | (rw [hy337]; with_reducible exact H) | (have H2_ := (Option.bind_some _ _).symm.trans H; rw [hy337]; with_reducible exact H2_) | (have H2_ := (Option.bind_some _ _).symm.trans H; with_reducible exact H2_) | with_reducible exact H | (rw [hy337]; exact H) | exact H
 have Ny337 := Aside0.mk hy337
 clear hy337
 have H' := Aside0.mk H
 clear H
 go_enter Tryd.func84, Tryd.ntmps84
 go_wp2_with (first | ((with_reducible refine gate_dst (N := 11) rfl ?_); refine Kd.R_make (Kd.int .u32) _ 88 rfl (N := 11) rfl 77 _ _ rfl (l0.length : Int) rfl rfl Tryd.underlying77 (.int .u32 0) 4 info88 rfl (by decide) (by omega) 0 (ok := fun _ => True) (okp := fun _ => True) rfl (fun _ hk => hk) trivial odt (Nat.le_trans (Nat.mul_le_mul_right _ (of_decide_eq_true (by first | (with_reducible assumption) | assumption) : (l0.length : Int).toNat ≤ 70368744177664)) (by omega)) (Below.refl _ _) (Nat.le_refl _) ?_; intro v338 w5 ho6 hb hg_ hnew_; clear hg_ hnew_; (first | rw [← Ny337.out] at ho6 | (simp only [Int.reduceToNat] at ho6; rw [← Ny337.out] at ho6)); have HO339 := am (Kd.R_lower (Kd.R_newM (M := fun k_ => (w.heap.size ≤ k_)) ho6 (below_size (bq HB.out)) (fun k_ h_ => h_)) (below_size (bq HB.out))); replace HB := am (below_step (bq HB.out) hb); clear hb ho6))
 go_loopg [7, 8] k (fun kq v7 v8 w' => ∃ (x6_1 : List Int) (x7_1 : Int) (x8_1 : Int), v7 = .int .u64 x7_1 ∧ v8 = .int .i64 x8_1 ∧ Aside0 (e1_short.l0 kq l0 a1 x6_1 x7_1 x8_1 = some (r1, r2)) ∧ Aside0 (kq ≤ k) ∧ Aside0 (Kd.R (Kd.int .u32) 88 w' w.heap.size (fun k_ => (w.heap.size ≤ k_)) v338 x6_1) ∧ Aside0 (Below w.heap.size w w'))
 case atStart => exact ⟨(y337), (0), (wrap64 ((l0.length : Int) - 1)), (by first | rfl | (simp; done) | (simp [*]; done)), (by first | rfl | (simp; done) | (simp [*]; done)), H', ⟨Nat.le_refl _⟩, ⟨by (with_reducible repeat (first | apply Kd.R_alloc | apply Kd.R_drewN | apply Kd.R_drew)); exact Kd.R_mono HO339.out (fun _ hk => hk.1)⟩, ⟨bq HB.out⟩⟩
 case round =>
  clear H'
  try clear p2
  try clear c3
  try clear c3b0
  try clear c3b1
  try clear c4
  try clear c4b0
  try clear c4b1
  try clear p6
  obtain ⟨x6_1, x7_1, x8_1, rfl, rfl, HA, HK1, HO_6, HB⟩ := hrel
  cases gk with
  | zero => exact absurd HA.out (by simp [e1_short.l0])
  | succ k1 =>
   have H := HA.out
   clear HA
   simp only [e1_short.l0] at H
   by_cases c7 : x8_1 ≥ 0
   rotate_left
   ·rw [if_neg c7] at H
    have c7b0 : decide (0 ≤ x8_1) = false := decide_eq_false c7
    clear c7
    replace H := Option.bind_eq_some_iff.mp H
    obtain ⟨t342, A150, H⟩ := H
    try dsimp only at H
    have A15 := Aside0.mk A150
    clear A150
    simp only [Option.some.injEq, Prod.mk.injEq] at H
    obtain ⟨rfl, rfl⟩ := H
    obtain ⟨Ao16, co16, eo16⟩ := Kd.R_slice HO_6.out
    subst eo16
    go_wp2_with (first | ((with_reducible refine gate_callee (f := 68) rfl ?_); refine goesq (some 40) Tryd.func68 #[.slice Ao16 x6_1.length co16] ?_; (with_reducible refine (e1_strip.calls k1 (fun k_ => some k_ = (.slice Ao16 x6_1.length co16 : Value).ownBlock) _ _ x6_1 t342 _ ?side1 A15.out).mono ?_); (case side1 => exact Kd.R_V (Kd.R_tight rfl (HO_6.out))); rintro e w17 ⟨v343, rfl, ho0, hb⟩; refine ⟨_, rfl, ?_⟩; have HO344 := am (Kd.V_lower (Kd.V_mono (ok' := fun k_ => (w.heap.size ≤ k_)) ho0 (fun k_ hk_ => Or.elim hk_ (fun hs_ => ((HO_6.out).1 k_ hs_.symm)) (fun hn_ => (Nat.le_trans (below_size (bq HB.out)) hn_)))) (below_size (bq HB.out))); replace HO_6 := am (Kd.R_below (Kd.rq HO_6.out) hb); replace HB := am (below_step (bq HB.out) hb); (try clear hb); (try clear ho0)))
    go_ret2
    exact ⟨_, by first | rfl | (simp [errW_none, errW_some] <;> rfl) | (simp [*, errW_none, errW_some] <;> rfl), by (with_reducible repeat (first | apply Kd.V_alloc | apply Kd.V_drewN | apply Kd.V_drew)); exact HO344.out, bq HB.out⟩
   rw [if_pos c7] at H
   have c7b0 : decide (0 ≤ x8_1) = true := decide_eq_true c7
   clear c7
   by_cases c8 : 0 ≤ x8_1
   rotate_left
   ·rw [if_neg c8] at H
    exact absurd H (by simp)
   rw [if_pos c8] at H
   have c8b0 := decide_eq_true c8
   clear c8
   by_cases c9 : x8_1 < (l0.length : Int)
   rotate_left
   ·rw [if_neg c9] at H
    exact absurd H (by simp)
   rw [if_pos c9] at H
   have c9b0 := decide_eq_true c9
   clear c9
   by_cases c10 : (IntKind.u64.wrap (a1)) = 0
   ·rw [if_pos c10] at H
    exact absurd H (by simp)
   rw [if_neg c10] at H
   have c10b0 : ((IntKind.u64.wrap (a1)) == 0) = false := beq_eq_false_iff_ne.mpr c10
   have c10b1 : ((IntKind.u64.wrap (a1)) != 0) = true := bne_iff_ne.mpr c10
   by_cases c11 : x8_1 < (x6_1.length : Int)
   rotate_left
   ·rw [if_neg c11] at H
    exact absurd H (by simp)
   rw [if_pos c11] at H
   have c11b0 := decide_eq_true c11
   clear c11
   obtain ⟨y341, hy341⟩ : ∃ y_ : List Int, y_ = (x6_1.set (x8_1 : Int).toNat ((IntKind.u64.wrap (Int.tdiv (Go.bits .or .u64 (IntKind.u64.wrap (x7_1 * 4294967296)) (IntKind.u64.wrap (rd l0 x8_1))) (IntKind.u64.wrap (a1)))) % 4294967296)) := ⟨_, rfl⟩
   replace H : (e1_short.l0 k1 l0 a1 y341 (Int.tmod (Go.bits .or .u64 (IntKind.u64.wrap (x7_1 * 4294967296)) (IntKind.u64.wrap (rd l0 x8_1))) (IntKind.u64.wrap (a1))) (wrap64 (x8_1 - 1))) = some (r1, r2) := by first | (rw [hy341]; with_reducible exact H) | (have H2_ := (Option.bind_some _ _).symm.trans H; rw [hy341]; with_reducible exact H2_) | (have H2_ := (Option.bind_some _ _).symm.trans H; with_reducible exact H2_) | with_reducible exact H | (rw [hy341]; exact H) | exact H
   have Ny341 := Aside0.mk hy341
   clear hy341
   have H' := Aside0.mk H
   clear H
   have p340 : 0 ≤ (x8_1 : Int) := odt
   have q340 : x8_1 < (l0.length : Int) := odt
   obtain ⟨ad340, e340, hx340_0⟩ := Kd.at_int HR0.out x8_1 p340 q340
   cases e340
   replace hx340_0 := (HB.out.cell (World.block_lt_of_cell? w _ hx340_0)).trans hx340_0
   replace p340 := eq_true p340
   replace q340 := eq_true q340
   have p12 : 0 ≤ (x8_1 : Int) := odt
   have q12 : (x8_1 : Int) < ((x6_1.length : Int) : Int) := odt
   obtain ⟨go12, co12, eo12, gb12, gl12, cl12, HG12⟩ := Kd.R_form HO_6.out (by omega)
   (first | cases eo12 | (injection eo12 with ea_ en_ ec_; (first | subst ea_ | (injection ea_ with ea_; subst ea_)); subst ec_; clear en_))
   have GB12 := Aside0.mk gb12
   have GG12 := Aside0.mk HG12
   clear gb12 gl12 HG12
   obtain ⟨hx12_0, hf12_0⟩ := Kd.R_celln 0 HO_6.out (x8_1 : Int) p12 q12
   replace p12 := eq_true p12
   replace q12 := eq_true q12
   have HP13 := Kd.R_putg HO_6.out (x8_1 : Int) ((IntKind.u64.wrap (Int.tdiv (Go.bits .or .u64 (IntKind.u64.wrap (x7_1 * 4294967296)) (IntKind.u64.wrap (rd l0 x8_1))) (IntKind.u64.wrap (a1)))) % 4294967296)
   go_wp2_with (first | ((with_reducible refine gate_store (t := 88) (p := 34) rfl ?_); refine store_event (t := 88) (p := 34) (v := ?vo_w14) (w1 := (wr.setCell ⟨go12, (x8_1 : Int).toNat, none⟩ (.int .u32 ((IntKind.u64.wrap (Int.tdiv (Go.bits .or .u64 (IntKind.u64.wrap (x7_1 * 4294967296)) (IntKind.u64.wrap (rd l0 x8_1))) (IntKind.u64.wrap (a1)))) % 4294967296)))) ?hg ?ho ?hn ?hr ?_; (case ho => rfl); (case hg => rfl); (case hn => rfl); (case hr => first | (go_simp; done) | (go_simp; rfl)); intro w14 hw; have hg : wr.grownBy w14 (some go12) := (by rw [hw]; exact HP13.2); have hp_ : Kd.R (Kd.int .u32) 88 w14 w.heap.size (fun k_ => (w.heap.size ≤ k_)) (.slice (some ⟨go12, 0, none⟩) x6_1.length co12) y341 := (by rw [hw, Ny341.out]; exact HP13.1); clear HP13; replace HO_6 := am (hp_); replace HB := am ((by rw [hw]; exact below_set (HB.out) GB12.out : Below w.heap.size w w14)); clear hg hw hp_))
   go_roundg k1
   case measure => have := HK1.out; omega
   case rel => exact ⟨(y341), (Int.tmod (Go.bits .or .u64 (IntKind.u64.wrap (x7_1 * 4294967296)) (IntKind.u64.wrap (rd l0 x8_1))) (IntKind.u64.wrap (a1))), (wrap64 (x8_1 - 1)), (by first | rfl | (simp; done) | (simp [*]; done)), (by first | rfl | (simp; done) | (simp [*]; done)), H', ⟨by have := HK1.out; omega⟩, ⟨Kd.rq HO_6.out⟩, ⟨bq HB.out⟩⟩
end Go.Proofs.YtfnfjmeiaamheaaDoor.PA
namespace Go.Proofs.YtfnfjmeiaamheaaDoor.PA
open Go Go.RowKit Go.Proofs.YtfnfjmeiaamheaaDoorW.PrintWords
theorem u64_in' (n : Int) (h0 : 0 ≤ n) (h1 : n < 2 ^ 64) : IntKind.u64.wrap n = n := u64_s h0 (by omega)
theorem u64_or (a b : Nat) (ha : a < 18446744073709551616) (hb : b < 18446744073709551616) : Go.bits .or .u64 (a : Int) (b : Int) = ((a ||| b : Nat) : Int) := (bits_nat .u64 64 (by decide) u64_in' a b ha hb).2
theorem u64_and (a b : Nat) (ha : a < 18446744073709551616) (hb : b < 18446744073709551616) : Go.bits .and .u64 (a : Int) (b : Int) = ((a &&& b : Nat) : Int) := (bits_nat .u64 64 (by decide) u64_in' a b ha hb).1
theorem or_hi {a b : Int} (ha : 0 ≤ a) (ha1 : a < 4294967296) (hb : 0 ≤ b) (hb1 : b < 4294967296) : Go.bits .or .u64 (IntKind.u64.wrap (a * 4294967296)) (IntKind.u64.wrap b) = a * 4294967296 + b := by
 rw [u64_s (by omega) (by omega), u64_s hb (by omega)]
 obtain ⟨x, rfl⟩ : ∃ x : Nat, a = x := ⟨a.toNat, by omega⟩
 obtain ⟨y, rfl⟩ : ∃ y : Nat, b = y := ⟨b.toNat, by omega⟩
 rw [show (x : Int) * 4294967296 = ((x * 4294967296 : Nat) : Int) by omega, u64_or _ _ (by omega) (by omega)]
 have := Nat.shiftLeft_add_eq_or_of_lt (show y < 2 ^ 32 by omega) x
 rw [Nat.shiftLeft_eq] at this
 rw [show x * 4294967296 = x * 2 ^ 32 from rfl, ← this]
 omega
theorem or_lo {a b : Int} (ha : 0 ≤ a) (ha1 : a < 4294967296) (hb : 0 ≤ b) (hb1 : b < 4294967296) : Go.bits .or .u64 (IntKind.u64.wrap b) (IntKind.u64.wrap (a * 4294967296)) = a * 4294967296 + b := by
 rw [u64_s (x := a * 4294967296) (by omega) (by omega), u64_s hb (by omega)]
 obtain ⟨x, rfl⟩ : ∃ x : Nat, a = x := ⟨a.toNat, by omega⟩
 obtain ⟨y, rfl⟩ : ∃ y : Nat, b = y := ⟨b.toNat, by omega⟩
 rw [show (x : Int) * 4294967296 = ((x * 4294967296 : Nat) : Int) by omega, u64_or _ _ (by omega) (by omega)]
 have := Nat.shiftLeft_add_eq_or_of_lt (show y < 2 ^ 32 by omega) x
 rw [Nat.shiftLeft_eq] at this
 rw [Nat.or_comm, show x * 4294967296 = x * 2 ^ 32 from rfl, ← this]
 omega
theorem cmp_loop {a b : List Int} (ha : Can a) (hb : Can b) (hl : a.length = b.length) : ∀ n, n ≤ a.length → (∀ i, n ≤ i → dg a i = dg b i) → ∃ c, Ev (fun k => n_compare.l0 k a b ((n : Int) - 1)) c ∧ (c < 0 ↔ vl a < vl b) ∧ -1 ≤ c ∧ c ≤ 1 ∧ (c = 0 ↔ vl a = vl b)
 | 0, hn, hz => by
  have e : vl a = vl b := by unfold vl; rw [← hl]; exact Sm.ext _ fun t _ => hz _ (by omega)
  exact ⟨0, Ev.rets fun k => by rw [n_compare.l0, if_neg (by omega)], by omega, by omega, by omega, by omega⟩
 | n + 1, hn, hz => by
  have hw : wrap64 (((n + 1 : Nat) : Int) - 1 - 1) = (n : Int) - 1 := by rw [wrap_s (by have := ha.few; omega) (by have := ha.few; omega)]; omega
  have e0 : (((n + 1 : Nat) : Int) - 1) = (n : Int) := by omega
  by_cases hc : dg a n = dg b n
  ·obtain ⟨c, h1, h2⟩ := cmp_loop ha hb hl n (by omega) (fun i hi => by
    by_cases hi2 : i = n
    ·rw [hi2]; exact hc
    exact hz i (by omega))
   refine ⟨c, Ev.step (fun k => ?_) h1, h2⟩
   rw [n_compare.l0, hw, e0, if_pos (by omega), if_pos (by omega), if_pos (by omega), if_pos (by omega), rd_dg, rd_dg, if_pos hc]
  obtain ⟨d, hd⟩ : ∃ d, a.length = (n + 1) + d := ⟨a.length - (n + 1), by omega⟩
  have ea : vl a = Sm a 0 n + dg a n * 4294967296 ^ n + 4294967296 ^ (n + 1) * Sm a (n + 1) d := by unfold vl; rw [hd, Sm.add a 0 (n + 1) d, Sm, Nat.zero_add, Nat.zero_add]
  have eb : vl b = Sm b 0 n + dg b n * 4294967296 ^ n + 4294967296 ^ (n + 1) * Sm b (n + 1) d := by unfold vl; rw [← hl, hd, Sm.add b 0 (n + 1) d, Sm, Nat.zero_add, Nat.zero_add]
  have et : Sm a (n + 1) d = Sm b (n + 1) d := Sm.ext _ fun t _ => hz _ (by omega)
  rw [et] at ea
  have a1 := Sm.nonneg ha.dgs 0 n
  have a2 := Sm.lt ha.dgs 0 n
  have b1 := Sm.nonneg hb.dgs 0 n
  have b2 := Sm.lt hb.dgs 0 n
  have hp := pw_pos n
  by_cases hlt : dg a n < dg b n
  ·have h1 : (dg a n + 1) * 4294967296 ^ n ≤ dg b n * 4294967296 ^ n := Int.mul_le_mul_of_nonneg_right (by omega) (by omega)
   rw [Int.add_mul, Int.one_mul] at h1
   refine ⟨-1, Ev.rets fun k => ?_, ⟨fun _ => by omega, fun _ => by omega⟩, by omega, by omega, ⟨fun h => by omega, fun h => by omega⟩⟩
   rw [n_compare.l0, e0, if_pos (by omega), if_pos (by omega), if_pos (by omega), if_pos (by omega), rd_dg, rd_dg, if_neg hc, if_pos hlt]
  have h1 : (dg b n + 1) * 4294967296 ^ n ≤ dg a n * 4294967296 ^ n := Int.mul_le_mul_of_nonneg_right (by omega) (by omega)
  rw [Int.add_mul, Int.one_mul] at h1
  refine ⟨1, Ev.rets fun k => ?_, ⟨fun h => by omega, fun _ => by omega⟩, by omega, by omega, ⟨fun h => by omega, fun h => by omega⟩⟩
  rw [n_compare.l0, e0, if_pos (by omega), if_pos (by omega), if_pos (by omega), if_pos (by omega), rd_dg, rd_dg, if_neg hc, if_neg hlt]
theorem cmp_ev {a b : List Int} (ha : Can a) (hb : Can b) : ∃ c, Ev (fun k => n_compare.f k a b) c ∧ (c < 0 ↔ vl a < vl b) ∧ -1 ≤ c ∧ c ≤ 1 ∧ (c = 0 ↔ vl a = vl b) := by
 have fa := ha.few
 have fb := hb.few
 by_cases hl : a.length = b.length
 ·obtain ⟨c, h1, h2⟩ := cmp_loop ha hb hl a.length (Nat.le_refl _) (fun i hi => by rw [dg_beyond hi, dg_beyond (by omega)])
  refine ⟨c, Ev.same (fun k => ?_) h1, h2⟩
  rw [n_compare.f, if_pos (by omega), wrap_s (by omega) (by omega)]
 by_cases hlt : a.length < b.length
 ·have := Can.lt_of_len ha.dgs hb hlt
  refine ⟨-1, Ev.same (h := fun _ => some (-1)) (fun k => ?_) Ev.ret, by omega, by omega, by omega, by omega⟩
  rw [n_compare.f, if_neg (by omega), wrap_s (by omega) (by omega), n_sign.f, if_pos (by omega)]; rfl
 have := Can.lt_of_len hb.dgs ha (by omega)
 refine ⟨1, Ev.same (h := fun _ => some 1) (fun k => ?_) Ev.ret, by omega, by omega, by omega, by omega⟩
 rw [n_compare.f, if_neg (by omega), wrap_s (by omega) (by omega), n_sign.f, if_neg (by omega), if_pos (by omega)]; rfl
theorem order_cmp0 : ∀ k a b n, e1_order.l0 k a b n = n_compare.l0 k a b n
 | 0, _, _, _ => rfl
 | k + 1, a, b, n => by rw [e1_order.l0, n_compare.l0, order_cmp0 k]
theorem order_ev {a b : List Int} (ha : Can a) (hb : Can b) : ∃ c, Ev (fun k => e1_order.f k a b) c ∧ (c < 0 ↔ vl a < vl b) ∧ -1 ≤ c ∧ c ≤ 1 ∧ (c = 0 ↔ vl a = vl b) := by
 obtain ⟨c, h1, h2⟩ := cmp_ev ha hb
 refine ⟨c, Ev.same (fun k => ?_) h1, h2⟩
 have fa := ha.few
 have fb := hb.few
 rw [e1_order.f, n_compare.f]
 by_cases hl : (a.length : Int) = (b.length : Int)
 ·rw [if_pos hl, if_pos hl, order_cmp0]
 rw [if_neg hl, if_neg hl, wrap_s (by omega) (by omega), n_sign.f]
 by_cases hlt : (a.length : Int) < b.length
 ·rw [if_pos hlt, if_pos (by omega)]; rfl
 rw [if_neg hlt, if_neg (by omega), if_pos (by omega)]; rfl
theorem Sm.one (l : List Int) (j : Nat) : Sm l j 1 = dg l j := by simp [Sm]
theorem Sm.cons (l : List Int) (j b : Nat) : Sm l j (b + 1) = dg l j + 4294967296 * Sm l (j + 1) b := by
 rw [Nat.add_comm b 1, Sm.add, Sm.one]; rfl
theorem small_loop {a : List Int} (ha : Dg a) (hf : a.length ≤ 100000) {d : Int} (h0 : 0 < d) (h1 : d < 4294967296) : ∀ n out rest, n ≤ a.length → out.length = a.length → Dg out → 0 ≤ rest → rest < d →
 Sm a n (a.length - n) = d * Sm out n (a.length - n) + rest → ∃ q, Ev (fun k => n_divideSmall.l0 k a d out rest ((n : Int) - 1)) (q, vl a % d) ∧ Can q ∧ vl q = vl a / d ∧ q.length ≤ a.length
 | 0, out, rest, hn, hol, hod, hr0, hr1, hi => by
  have e1 : vl a = d * vl out + rest := by unfold vl; rw [hol]; exact hi
  obtain ⟨q, hq1, hq2, hq3, hq4⟩ := trim_ev hod (by omega)
  have e2 : vl a % d = rest := by rw [e1, Int.add_comm, Int.add_mul_emod_self_left]; exact Int.emod_eq_of_lt hr0 hr1
  have e3 : vl a / d = vl out := by rw [e1, Int.add_comm, Int.add_mul_ediv_left _ _ (by omega), Int.ediv_eq_zero_of_lt hr0 hr1, Int.zero_add]
  refine ⟨q, ?_, hq2, by rw [hq3, e3], by omega⟩
  refine Ev.step (h := fun k => (n_limbs_trim.f k out).bind fun t => some (t, rest % 4294967296)) (fun k => ?_) ?_
  ·rw [n_divideSmall.l0, if_neg (by omega)]
  refine Ev.bind hq1 ?_
  rw [show rest % 4294967296 = vl a % d by rw [e2]; omega]
  exact Ev.ret
 | n + 1, out, rest, hn, hol, hod, hr0, hr1, hi => by
  have hx := ha n
  have hw : wrap64 (((n + 1 : Nat) : Int) - 1 - 1) = (n : Int) - 1 := by rw [wrap_s (by omega) (by omega)]; omega
  have e0 : (((n + 1 : Nat) : Int) - 1) = (n : Int) := by omega
  obtain ⟨t, ht⟩ : ∃ t, t = rest * 4294967296 + dg a n := ⟨_, rfl⟩
  have ht0 : 0 ≤ t := by omega
  have htd : t < d * 4294967296 := by omega
  have hq : t / d < 4294967296 := Int.ediv_lt_of_lt_mul h0 (by omega)
  have hq0 : 0 ≤ t / d := Int.ediv_nonneg ht0 (by omega)
  have hm0 := Int.emod_nonneg t (show d ≠ 0 by omega)
  have hm1 := Int.emod_lt_of_pos t h0
  have hdm := Int.mul_ediv_add_emod t d
  obtain ⟨m, hm⟩ : ∃ m, a.length - (n + 1) = m := ⟨_, rfl⟩
  have hm' : a.length - n = m + 1 := by omega
  have hi' : Sm a n (a.length - n) = d * Sm (out.set n (t / d)) n (a.length - n) + t % d := by
   rw [hm] at hi
   rw [hm', Sm.cons, Sm.cons, hi, Sm.set_out (Or.inl (by omega)), dg_set, if_pos ⟨rfl, by omega⟩]
   generalize Sm out (n + 1) m = S
   generalize t / d = q at *
   generalize t % d = r at *
   grind
  obtain ⟨q, g1, g2⟩ := small_loop ha hf h0 h1 n (out.set n (t / d)) (t % d) (by omega) (by rw [List.length_set]; exact hol) (hod.set hq0 hq) hm0 hm1 hi'
  refine ⟨q, Ev.step (fun k => ?_) g1, g2⟩
  rw [n_divideSmall.l0, hw, e0, if_pos (by omega), if_pos (by omega), if_pos (by omega), u64_s (x := d) (by omega) (by omega), if_neg (by omega), if_pos (by omega), rd_dg, or_hi hr0 (by omega) hx.1 hx.2, ← ht, Int.tdiv_eq_ediv_of_nonneg ht0, Int.tmod_eq_emod_of_nonneg ht0, u64_s hq0 (by omega),
   Int.emod_eq_of_lt hq0 hq]
  rfl
theorem small_ev {a : List Int} (ha : Dg a) (hf : a.length ≤ 100000) {d : Int} (h0 : 0 < d) (h1 : d < 4294967296) : ∃ q, Ev (fun k => n_divideSmall.f k a d) (q, vl a % d) ∧ Can q ∧ vl q = vl a / d ∧ q.length ≤ a.length := by
 obtain ⟨q, g1, g2⟩ := small_loop ha hf h0 h1 a.length (List.replicate a.length 0) 0 (Nat.le_refl _) (by simp) (Dg.rep _) (by omega) h0 (by simp [Sm])
 refine ⟨q, Ev.same (fun k => ?_) g1, g2⟩
 rw [n_divideSmall.f, if_pos (by omega), if_pos (by omega), wrap_s (by omega) (by omega)]
 rfl
theorem short_small0 : ∀ k a d out rest n, e1_short.l0 k a d out rest n = n_divideSmall.l0 k a d out rest n
 | 0, _, _, _, _, _ => rfl
 | k + 1, a, d, out, rest, n => by
  have : e1_strip.f k out = n_limbs_trim.f k out := strip_trim k out _
  rw [e1_short.l0, n_divideSmall.l0, this]
  simp only [short_small0 k]
theorem short_small (k : Nat) (a : List Int) (d : Int) : e1_short.f k a d = n_divideSmall.f k a d := by
 unfold e1_short.f n_divideSmall.f
 simp only [short_small0]
end Go.Proofs.YtfnfjmeiaamheaaDoor.PA
namespace Go.Proofs.YtfnfjmeiaamheaaDoor.PA
open Go.RowKit Go.Proofs.YtfnfjmeiaamheaaDoorW.PrintWords Go.Proofs.YtfnfjmeiaamheaaDoorW.PrintLast Go.Proofs.YtfnfjmeiaamheaaDoorW.PrintMore
attribute [local go_sem] max2_int min2_int max_two min_two max_three min_three max_four min_four
def n_shift.l0 : Nat → Int → Int → List Int → List Int → Int → Int → Option (List Int)
 | 0, _, _, _, _, _, _ => none
 | k + 1, x1, x2, x7, x13, x14, x15 => if x15 < x14 then (if 0 ≤ x15 then (if x15 < (x13.length : Int) then (if 0 ≤ x1 then (if x15 < (x7.length : Int) then ((some (x7.set (x15 : Int).toNat (Go.bits .or .u32 (rd x7 x15) ((shl .u64 (IntKind.u64.wrap (rd x13 x15)) x1) % 4294967296)) : List Int)).bind fun y144 => (if (wrap64 (x15 + 1)) < x2 then (if 0 ≤ (wrap64 (x15 + 1)) then (if (wrap64 (x15 + 1)) < (x7.length : Int) then (n_shift.l0 k x1 x2 (y144.set ((wrap64 (x15 + 1)) : Int).toNat (Go.bits .or .u32 (rd y144 (wrap64 (x15 + 1))) (((shl .u64 (IntKind.u64.wrap (rd x13 x15)) x1) / 4294967296) % 4294967296))) x13 x14 (wrap64 (x15 + 1))) else (none)) else (none)) else (n_shift.l0 k x1 x2 y144 x13 x14 (wrap64 (x15 + 1))))) else (none)) else (none)) else (none)) else (none)) else (some x7)
def n_shift.f (k : Nat) (l0 : List Int) (a1 : Int) (a2 : Int) : Option (List Int) := if 0 ≤ a2 then (if (a2 : Int).toNat ≤ 70368744177664 then (n_shift.l0 k a1 a2 (List.replicate (a2 : Int).toNat 0) l0 (l0.length : Int) 0) else (none)) else (none)
set_option maxHeartbeats 8000000 in
set_option maxRecDepth 100000 in
theorem n_shift.calls (k : Nat) (A0 : Option Addr) (c0 : Nat) (l0 : List Int) (a1 : Int) (a2 : Int) (r : List Int) (w : World) (hr0 : Kd.C (Kd.int .u32) w A0 l0.length l0) (hc0 : l0.length ≤ c0) (h : n_shift.f k l0 a1 a2 = some r) :
  Calls Tryd.prog 80 #[.slice A0 l0.length c0, .int .u64 a1, .int .i64 a2] w fun e w' => ∃ v0_ : Value, e = .returned (v0_) ∧ Kd.R (Kd.int .u32) 88 w' w.heap.size (fun _ => True) v0_ r ∧ Below w.heap.size w w' := by
 have HR0 := Aside0.mk hr0
 have HC0 := Aside0.mk hc0
 clear hr0 hc0
 have HB := Aside0.mk (Below.refl w.heap.size w)
 have H : (if 0 ≤ a2 then (if (a2 : Int).toNat ≤ 70368744177664 then (n_shift.l0 k a1 a2 (List.replicate (a2 : Int).toNat 0) l0 (l0.length : Int) 0) else (none)) else (none)) = some r := h
 clear h
 by_cases c4 : 0 ≤ a2
 rotate_left
 ·rw [if_neg c4] at H
  exact absurd H (by simp)
 rw [if_pos c4] at H
 have c4b0 := eq_true c4
 have c4b1 := decide_eq_true c4
 clear c4
 by_cases c5 : (a2 : Int).toNat ≤ 70368744177664
 rotate_left
 ·rw [if_neg c5] at H
  exact absurd H (by simp)
 rw [if_pos c5] at H
 have c5b0 := eq_true c5
 have c5b1 := decide_eq_true c5
 clear c5
 obtain ⟨y139, hy139⟩ : ∃ y_ : List Int, y_ = (List.replicate (a2 : Int).toNat 0) := ⟨_, rfl⟩
 replace H : (n_shift.l0 k a1 a2 y139 l0 (l0.length : Int) 0) = some r := by first | (rw [hy139]; with_reducible exact H) | (have H2_ := (Option.bind_some _ _).symm.trans H; rw [hy139]; with_reducible exact H2_) | (have H2_ := (Option.bind_some _ _).symm.trans H; with_reducible exact H2_) | with_reducible exact H | (rw [hy139]; exact H) | exact H
 have Ny139 := Aside0.mk hy139
 clear hy139
 have H' := Aside0.mk H
 clear H
 go_enter Tryd.func80, Tryd.ntmps80
 go_wp2_with (first | ((with_reducible refine gate_dst (N := 12) rfl ?_); refine Kd.R_make (Kd.int .u32) _ 88 rfl (N := 12) rfl 83 _ _ rfl a2 rfl rfl Tryd.underlying83 (.int .u32 0) 4 info88 rfl (by decide) (by omega) 0 (ok := fun _ => True) (okp := fun _ => True) rfl (fun _ hk => hk) trivial odt (Nat.le_trans (Nat.mul_le_mul_right _ (of_decide_eq_true (by first | (with_reducible assumption) | assumption) : a2.toNat ≤ 70368744177664)) (by omega)) (Below.refl _ _) (Nat.le_refl _) ?_; intro v140 w6 ho7 hb hg_ hnew_; clear hg_ hnew_; (first | rw [← Ny139.out] at ho7 | (simp only [Int.reduceToNat] at ho7; rw [← Ny139.out] at ho7)); have HO141 := am (Kd.R_lower ho7 (below_size (bq HB.out))); replace HB := am (below_step (bq HB.out) hb); clear hb ho7))
 go_loopg [15] k (fun kq v15 w' => ∃ (x7_1 : List Int) (x15_1 : Int), v15 = .int .i64 x15_1 ∧ Aside0 (n_shift.l0 kq a1 a2 x7_1 l0 (l0.length : Int) x15_1 = some r) ∧ Aside0 (kq ≤ k) ∧ Aside0 (Kd.R (Kd.int .u32) 88 w' w.heap.size (fun _ => True) v140 x7_1) ∧ Aside0 (Below w.heap.size w w'))
 case atStart => exact ⟨(y139), (0), (by first | rfl | (simp; done) | (simp [*]; done)), H', ⟨Nat.le_refl _⟩, ⟨Kd.rq HO141.out⟩, ⟨bq HB.out⟩⟩
 case round =>
  clear H'
  try clear p2
  try clear c4
  try clear c4b0
  try clear c4b1
  try clear c5
  try clear c5b0
  try clear c5b1
  obtain ⟨x7_1, x15_1, rfl, HA, HK1, HO_7, HB⟩ := hrel
  cases gk with
  | zero => exact absurd HA.out (by simp [n_shift.l0])
  | succ k1 =>
   have H := HA.out
   clear HA
   simp only [n_shift.l0] at H
   by_cases c8 : x15_1 < (l0.length : Int)
   rotate_left
   ·rw [if_neg c8] at H
    have c8b0 := decide_eq_false c8
    clear c8
    obtain rfl := Option.some.inj H
    go_wp2
    go_ret
    exact ⟨_, by first | rfl | (simp [errW_none, errW_some] <;> rfl) | (simp [*, errW_none, errW_some] <;> rfl), by (with_reducible repeat (first | apply Kd.R_alloc | apply Kd.R_drewN | apply Kd.R_drew)); exact HO_7.out, bq HB.out⟩
   rw [if_pos c8] at H
   have c8b0 := decide_eq_true c8
   clear c8
   by_cases c9 : 0 ≤ x15_1
   rotate_left
   ·rw [if_neg c9] at H
    exact absurd H (by simp)
   rw [if_pos c9] at H
   have c9b0 := decide_eq_true c9
   clear c9
   by_cases c10 : x15_1 < (l0.length : Int)
   rotate_left
   ·rw [if_neg c10] at H
    exact absurd H (by simp)
   rw [if_pos c10] at H
   have c10b0 := decide_eq_true c10
   clear c10
   by_cases c11 : 0 ≤ a1
   rotate_left
   ·rw [if_neg c11] at H
    exact absurd H (by simp)
   rw [if_pos c11] at H
   have c11b0 := eq_true c11
   have c11b1 := decide_eq_true c11
   clear c11
   obtain ⟨ji12, hji12⟩ : ∃ j_ : Int, (shl .u64 (IntKind.u64.wrap (rd l0 x15_1)) a1) = j_ := ⟨_, rfl⟩
   replace H : (if x15_1 < (x7_1.length : Int) then ((some (x7_1.set (x15_1 : Int).toNat (Go.bits .or .u32 (rd x7_1 x15_1) ((ji12) % 4294967296)) : List Int)).bind fun y144 => (if (wrap64 (x15_1 + 1)) < a2 then (if 0 ≤ (wrap64 (x15_1 + 1)) then (if (wrap64 (x15_1 + 1)) < (x7_1.length : Int) then (n_shift.l0 k1 a1 a2 (y144.set ((wrap64 (x15_1 + 1)) : Int).toNat (Go.bits .or .u32 (rd y144 (wrap64 (x15_1 + 1))) (((ji12) / 4294967296) % 4294967296))) l0 (l0.length : Int) (wrap64 (x15_1 + 1))) else (none)) else (none)) else (n_shift.l0 k1 a1 a2 y144 l0 (l0.length : Int) (wrap64 (x15_1 + 1))))) else (none)) = some r := by first | (rw [hji12] at H; exact H) | (simp only [hji12] at H ⊢; exact H)
   have hji12_ : (IntKind.u64.wrap ((IntKind.u64.wrap (rd l0 x15_1)) * 2 ^ min a1.toNat 64)) = ji12 := hji12
   have hji12z : a1 ≤ 64 → (IntKind.u64.wrap ((IntKind.u64.wrap (rd l0 x15_1)) * 2 ^ a1.toNat)) = ji12 := shl_small hji12
   by_cases c13 : x15_1 < (x7_1.length : Int)
   rotate_left
   ·rw [if_neg c13] at H
    exact absurd H (by simp)
   rw [if_pos c13] at H
   have c13b0 := decide_eq_true c13
   clear c13
   obtain ⟨y144, hy144⟩ : ∃ y_ : List Int, y_ = (x7_1.set (x15_1 : Int).toNat (Go.bits .or .u32 (rd x7_1 x15_1) ((ji12) % 4294967296))) := ⟨_, rfl⟩
   replace H : (if (wrap64 (x15_1 + 1)) < a2 then (if 0 ≤ (wrap64 (x15_1 + 1)) then (if (wrap64 (x15_1 + 1)) < (x7_1.length : Int) then (n_shift.l0 k1 a1 a2 (y144.set ((wrap64 (x15_1 + 1)) : Int).toNat (Go.bits .or .u32 (rd y144 (wrap64 (x15_1 + 1))) (((ji12) / 4294967296) % 4294967296))) l0 (l0.length : Int) (wrap64 (x15_1 + 1))) else (none)) else (none)) else (n_shift.l0 k1 a1 a2 y144 l0 (l0.length : Int) (wrap64 (x15_1 + 1)))) = some r := by first | (rw [hy144]; with_reducible exact H) | (have H2_ := (Option.bind_some _ _).symm.trans H; rw [hy144]; with_reducible exact H2_) | (have H2_ := (Option.bind_some _ _).symm.trans H; with_reducible exact H2_) | with_reducible exact H | (rw [hy144]; exact H) | exact H
   have Ny144 := Aside0.mk hy144
   clear hy144
   by_cases c15 : (wrap64 (x15_1 + 1)) < a2
   rotate_left
   ·rw [if_neg c15] at H
    have c15b0 := decide_eq_false c15
    clear c15
    have H' := Aside0.mk H
    clear H
    have p142 : 0 ≤ (x15_1 : Int) := odt
    have q142 : x15_1 < (l0.length : Int) := odt
    obtain ⟨ad142, e142, hx142_0⟩ := Kd.at_int HR0.out x15_1 p142 q142
    cases e142
    replace hx142_0 := (HB.out.cell (World.block_lt_of_cell? w _ hx142_0)).trans hx142_0
    replace p142 := eq_true p142
    replace q142 := eq_true q142
    obtain ⟨Ao25, co25, eo25⟩ := Kd.R_slice HO_7.out
    subst eo25
    have p143 : 0 ≤ (x15_1 : Int) := odt
    have q143 : x15_1 < (x7_1.length : Int) := odt
    obtain ⟨ad143, e143, hx143_0⟩ := Kd.at_int (Kd.R_reads' HO_7.out).2.2 x15_1 p143 q143
    cases e143
    replace p143 := eq_true p143
    replace q143 := eq_true q143
    have p14 : 0 ≤ (x15_1 : Int) := odt
    have q14 : (x15_1 : Int) < ((x7_1.length : Int) : Int) := odt
    obtain ⟨go14, co14, eo14, gb14, gl14, cl14, HG14⟩ := Kd.R_form HO_7.out (by omega)
    (first | cases eo14 | (injection eo14 with ea_ en_ ec_; (first | subst ea_ | (injection ea_ with ea_; subst ea_)); subst ec_; clear en_))
    have GB14 := Aside0.mk gb14
    have GG14 := Aside0.mk HG14
    clear gb14 gl14 HG14
    (first | simp only [add_plain] at hx143_0 | skip)
    obtain ⟨hx14_0, hf14_0⟩ := Kd.R_celln 0 HO_7.out (x15_1 : Int) p14 q14
    replace p14 := eq_true p14
    replace q14 := eq_true q14
    have HP26 := Kd.R_putg HO_7.out (x15_1 : Int) (Go.bits .or .u32 (rd x7_1 x15_1) ((ji12) % 4294967296))
    go_wp2_with (first | ((with_reducible refine gate_store (t := 88) (p := 31) rfl ?_); refine store_event (t := 88) (p := 31) (v := ?vo_w27) (w1 := (wr.setCell ⟨go14, (x15_1 : Int).toNat, none⟩ (.int .u32 (Go.bits .or .u32 (rd x7_1 x15_1) ((ji12) % 4294967296))))) ?hg ?ho ?hn ?hr ?_; (case ho => rfl); (case hg => rfl); (case hn => rfl); (case hr => first | (go_simp; done) | (go_simp; rfl)); intro w27 hw; have hg : wr.grownBy w27 (some go14) := (by rw [hw]; exact HP26.2); have hp_ : Kd.R (Kd.int .u32) 88 w27 w.heap.size (fun _ => True) (.slice (some ⟨go14, 0, none⟩) x7_1.length co25) y144 := (by rw [hw, Ny144.out]; exact HP26.1); clear HP26; replace HO_7 := am (hp_); replace HB := am ((by rw [hw]; exact below_set (HB.out) GB14.out : Below w.heap.size w w27)); clear hg hw hp_))
    go_roundg k1
    case measure => have := HK1.out; omega
    case rel => exact ⟨(y144), (wrap64 (x15_1 + 1)), (by first | rfl | (simp; done) | (simp [*]; done)), H', ⟨by have := HK1.out; omega⟩, ⟨Kd.rq HO_7.out⟩, ⟨bq HB.out⟩⟩
   rw [if_pos c15] at H
   have c15b0 := decide_eq_true c15
   clear c15
   obtain ⟨ji16, hji16⟩ : ∃ j_ : Int, (wrap64 (x15_1 + 1)) = j_ := ⟨_, rfl⟩
   replace H : (if 0 ≤ (ji16) then (if (ji16) < (x7_1.length : Int) then (n_shift.l0 k1 a1 a2 (y144.set ((ji16) : Int).toNat (Go.bits .or .u32 (rd y144 (ji16)) (((ji12) / 4294967296) % 4294967296))) l0 (l0.length : Int) ji16) else (none)) else (none)) = some r := by first | (rw [hji16] at H; exact H) | (simp only [hji16] at H ⊢; exact H)
   (try rw [hji16] at c15b0)
   have hji16w : (IntKind.i64.wrap (x15_1 + 1)) = ji16 := (i64_w _).trans hji16
   by_cases c17 : 0 ≤ (ji16)
   rotate_left
   ·rw [if_neg c17] at H
    exact absurd H (by simp)
   rw [if_pos c17] at H
   have c17b0 := decide_eq_true c17
   clear c17
   by_cases c18 : (ji16) < (x7_1.length : Int)
   rotate_left
   ·rw [if_neg c18] at H
    exact absurd H (by simp)
   rw [if_pos c18] at H
   have c18b0 := decide_eq_true c18
   clear c18
   obtain ⟨y146, hy146⟩ : ∃ y_ : List Int, y_ = (y144.set ((ji16) : Int).toNat (Go.bits .or .u32 (rd y144 (ji16)) (((ji12) / 4294967296) % 4294967296))) := ⟨_, rfl⟩
   replace H : (n_shift.l0 k1 a1 a2 y146 l0 (l0.length : Int) ji16) = some r := by first | (rw [hy146]; with_reducible exact H) | (have H2_ := (Option.bind_some _ _).symm.trans H; rw [hy146]; with_reducible exact H2_) | (have H2_ := (Option.bind_some _ _).symm.trans H; with_reducible exact H2_) | with_reducible exact H | (rw [hy146]; exact H) | exact H
   have Ny146 := Aside0.mk hy146
   clear hy146
   have H' := Aside0.mk H
   clear H
   have p142 : 0 ≤ (x15_1 : Int) := odt
   have q142 : x15_1 < (l0.length : Int) := odt
   obtain ⟨ad142, e142, hx142_0⟩ := Kd.at_int HR0.out x15_1 p142 q142
   cases e142
   replace hx142_0 := (HB.out.cell (World.block_lt_of_cell? w _ hx142_0)).trans hx142_0
   replace p142 := eq_true p142
   replace q142 := eq_true q142
   obtain ⟨Ao20, co20, eo20⟩ := Kd.R_slice HO_7.out
   subst eo20
   have p143 : 0 ≤ (x15_1 : Int) := odt
   have q143 : x15_1 < (x7_1.length : Int) := odt
   obtain ⟨ad143, e143, hx143_0⟩ := Kd.at_int (Kd.R_reads' HO_7.out).2.2 x15_1 p143 q143
   cases e143
   replace p143 := eq_true p143
   replace q143 := eq_true q143
   have p14 : 0 ≤ (x15_1 : Int) := odt
   have q14 : (x15_1 : Int) < ((x7_1.length : Int) : Int) := odt
   obtain ⟨go14, co14, eo14, gb14, gl14, cl14, HG14⟩ := Kd.R_form HO_7.out (by omega)
   (first | cases eo14 | (injection eo14 with ea_ en_ ec_; (first | subst ea_ | (injection ea_ with ea_; subst ea_)); subst ec_; clear en_))
   have GB14 := Aside0.mk gb14
   have GG14 := Aside0.mk HG14
   clear gb14 gl14 HG14
   (first | simp only [add_plain] at hx143_0 | skip)
   obtain ⟨hx14_0, hf14_0⟩ := Kd.R_celln 0 HO_7.out (x15_1 : Int) p14 q14
   replace p14 := eq_true p14
   replace q14 := eq_true q14
   have HP21 := Kd.R_putg HO_7.out (x15_1 : Int) (Go.bits .or .u32 (rd x7_1 x15_1) ((ji12) % 4294967296))
   go_wp2_with (first | ((with_reducible refine gate_store (t := 88) (p := 31) rfl ?_); refine store_event (t := 88) (p := 31) (v := ?vo_w22) (w1 := (wr.setCell ⟨go14, (x15_1 : Int).toNat, none⟩ (.int .u32 (Go.bits .or .u32 (rd x7_1 x15_1) ((ji12) % 4294967296))))) ?hg ?ho ?hn ?hr ?_; (case ho => rfl); (case hg => rfl); (case hn => rfl); (case hr => first | (go_simp; done) | (go_simp; rfl)); intro w22 hw; have hg : wr.grownBy w22 (some go14) := (by rw [hw]; exact HP21.2); have hp_ : Kd.R (Kd.int .u32) 88 w22 w.heap.size (fun _ => True) (.slice (some ⟨go14, 0, none⟩) x7_1.length co20) y144 := (by rw [hw, Ny144.out]; exact HP21.1); clear HP21; replace HO_7 := am (hp_); replace HB := am ((by rw [hw]; exact below_set (HB.out) GB14.out : Below w.heap.size w w22)); clear hg hw hp_; have p145 : 0 ≤ ((ji16) : Int) := odt; have q145 : (ji16) < (y144.length : Int) := (by have h_ : ((ji16) : Int) < ((x7_1.length : Int) : Int) := odt; first | (have e_ := (Kd.R_reads' HO_7.out).1; omega) | simpa only [Ny144.out, List.length_set] using h_); have ql145 : (((ji16) : Int) < ((x7_1.length : Int) : Int)) = True := eq_true odt; obtain ⟨ad145, e145, hx145_0⟩ := Kd.at_int (Kd.R_reads' HO_7.out).2.2 (ji16) p145 q145; obtain rfl : (⟨go14, 0, none⟩ : Addr) = ad145 := (by injection e145); (first | simp only [add_plain] at hx145_0 | simp only [add_at] at hx145_0 | simp only [Addr.add, Nat.zero_add] at hx145_0 | skip); replace p145 := eq_true p145; replace q145 := eq_true q145; have p19 : 0 ≤ ((ji16) : Int) := odt; have q19 : ((ji16) : Int) < ((x7_1.length : Int) : Int) := odt; obtain ⟨hx19_0, hf19_0⟩ := Kd.R_celln 0 HO_7.out ((ji16) : Int) p19 q19; replace p19 := eq_true p19; replace q19 := eq_true q19; obtain ⟨hy23_, hz23_⟩ := Kd.R_celln 0 HO_7.out ((ji16) : Int) odt odt; have HP23 := Kd.R_putg HO_7.out ((ji16) : Int) (Go.bits .or .u32 (rd y144 (ji16)) (((ji12) / 4294967296) % 4294967296))) | ((with_reducible refine gate_store (t := 88) (p := 45) rfl ?_); refine store_event (t := 88) (p := 45) (v := ?vo_w24) (w1 := (w22.setCell ⟨go14, ((ji16) : Int).toNat, none⟩ (.int .u32 (Go.bits .or .u32 (rd y144 (ji16)) (((ji12) / 4294967296) % 4294967296))))) ?hg ?ho ?hn ?hr ?_; (case ho => rfl); (case hg => rfl); (case hn => rfl); (case hr => first | (go_simp; done) | (go_simp; rfl)); intro w24 hw; have hg : w22.grownBy w24 (some go14) := (by rw [hw]; exact HP23.2); have hp_ : Kd.R (Kd.int .u32) 88 w24 w.heap.size (fun _ => True) (.slice (some ⟨go14, 0, none⟩) x7_1.length co20) y146 := (by rw [hw, Ny146.out]; exact HP23.1); clear HP23; replace HO_7 := am (hp_); replace HB := am ((by rw [hw]; exact below_set (HB.out) GB14.out : Below w.heap.size w w24)); clear hg hw hp_))
   go_roundg k1
   case measure => have := HK1.out; omega
   case rel => exact ⟨(y146), (ji16), (by first | rfl | (simp; done) | (simp only [← hji16] <;> (first | rfl | simp)) | (simp [*]; done)), H', ⟨by have := HK1.out; omega⟩, ⟨Kd.rq HO_7.out⟩, ⟨bq HB.out⟩⟩
def n_unshift.l0 : Nat → List Int → Int → List Int → Int → Int → Option (List Int)
 | 0, _, _, _, _, _ => none
 | k + 1, x0, x1, x5, x12, x13 => if x13 < x12 then (if 0 ≤ x13 then (if x13 < (x0.length : Int) then (if (wrap64 (x13 + 1)) < (x0.length : Int) then (if 0 ≤ (wrap64 (x13 + 1)) then (if 0 ≤ x1 then (if x13 < (x5.length : Int) then (n_unshift.l0 k x0 x1 (x5.set (x13 : Int).toNat ((shr .u64 (Go.bits .or .u64 (IntKind.u64.wrap (rd x0 x13)) (IntKind.u64.wrap ((IntKind.u64.wrap (rd x0 (wrap64 (x13 + 1)))) * 4294967296))) x1) % 4294967296)) x12 (wrap64 (x13 + 1))) else (none)) else (none)) else (none)) else (if 0 ≤ x1 then (if x13 < (x5.length : Int) then (n_unshift.l0 k x0 x1 (x5.set (x13 : Int).toNat ((shr .u64 (IntKind.u64.wrap (rd x0 x13)) x1) % 4294967296)) x12 (wrap64 (x13 + 1))) else (none)) else (none))) else (none)) else (none)) else ((n_limbs_trim.f k x5).bind fun t177 => (some t177))
def n_unshift.f (k : Nat) (l0 : List Int) (a1 : Int) : Option (List Int) := if 0 ≤ (l0.length : Int) then (if ((l0.length : Int) : Int).toNat ≤ 70368744177664 then (n_unshift.l0 k l0 a1 (List.replicate ((l0.length : Int) : Int).toNat 0) (l0.length : Int) 0) else (none)) else (none)
set_option maxHeartbeats 8000000 in
set_option maxRecDepth 100000 in
theorem n_unshift.calls (k : Nat) (A0 : Option Addr) (c0 : Nat) (l0 : List Int) (a1 : Int) (r : List Int) (w : World) (hr0 : Kd.C (Kd.int .u32) w A0 l0.length l0) (hc0 : l0.length ≤ c0) (h : n_unshift.f k l0 a1 = some r) :
  Calls Tryd.prog 82 #[.slice A0 l0.length c0, .int .u64 a1] w fun e w' => ∃ v0_ : Value, e = .returned (v0_) ∧ Kd.V (Kd.int .u32) 88 w' w.heap.size (fun k_ => (w.heap.size ≤ k_)) v0_ r ∧ Below w.heap.size w w' := by
 have HR0 := Aside0.mk hr0
 have HC0 := Aside0.mk hc0
 clear hr0 hc0
 have HB := Aside0.mk (Below.refl w.heap.size w)
 have H : (if 0 ≤ (l0.length : Int) then (if ((l0.length : Int) : Int).toNat ≤ 70368744177664 then (n_unshift.l0 k l0 a1 (List.replicate ((l0.length : Int) : Int).toNat 0) (l0.length : Int) 0) else (none)) else (none)) = some r := h
 clear h
 by_cases c3 : 0 ≤ (l0.length : Int)
 rotate_left
 ·rw [if_neg c3] at H
  exact absurd H (by simp)
 rw [if_pos c3] at H
 have c3b0 := eq_true c3
 have c3b1 := decide_eq_true c3
 clear c3
 by_cases c4 : ((l0.length : Int) : Int).toNat ≤ 70368744177664
 rotate_left
 ·rw [if_neg c4] at H
  exact absurd H (by simp)
 rw [if_pos c4] at H
 have c4b0 := eq_true c4
 have c4b1 := decide_eq_true c4
 clear c4
 obtain ⟨y170, hy170⟩ : ∃ y_ : List Int, y_ = (List.replicate ((l0.length : Int) : Int).toNat 0) := ⟨_, rfl⟩
 replace H : (n_unshift.l0 k l0 a1 y170 (l0.length : Int) 0) = some r := by first | (rw [hy170]; with_reducible exact H) | (have H2_ := (Option.bind_some _ _).symm.trans H; rw [hy170]; with_reducible exact H2_) | (have H2_ := (Option.bind_some _ _).symm.trans H; with_reducible exact H2_) | with_reducible exact H | (rw [hy170]; exact H) | exact H
 have Ny170 := Aside0.mk hy170
 clear hy170
 have H' := Aside0.mk H
 clear H
 go_enter Tryd.func82, Tryd.ntmps82
 go_wp2_with (first | ((with_reducible refine gate_dst (N := 10) rfl ?_); refine Kd.R_make (Kd.int .u32) _ 88 rfl (N := 10) rfl 83 _ _ rfl (l0.length : Int) rfl rfl Tryd.underlying83 (.int .u32 0) 4 info88 rfl (by decide) (by omega) 0 (ok := fun _ => True) (okp := fun _ => True) rfl (fun _ hk => hk) trivial odt (Nat.le_trans (Nat.mul_le_mul_right _ (of_decide_eq_true (by first | (with_reducible assumption) | assumption) : (l0.length : Int).toNat ≤ 70368744177664)) (by omega)) (Below.refl _ _) (Nat.le_refl _) ?_; intro v171 w5 ho6 hb hg_ hnew_; clear hg_ hnew_; (first | rw [← Ny170.out] at ho6 | (simp only [Int.reduceToNat] at ho6; rw [← Ny170.out] at ho6)); have HO172 := am (Kd.R_lower (Kd.R_newM (M := fun k_ => (w.heap.size ≤ k_)) ho6 (below_size (bq HB.out)) (fun k_ h_ => h_)) (below_size (bq HB.out))); replace HB := am (below_step (bq HB.out) hb); clear hb ho6))
 go_loopg [13] k (fun kq v13 w' => ∃ (x5_1 : List Int) (x13_1 : Int), v13 = .int .i64 x13_1 ∧ Aside0 (n_unshift.l0 kq l0 a1 x5_1 (l0.length : Int) x13_1 = some r) ∧ Aside0 (kq ≤ k) ∧ Aside0 (Kd.R (Kd.int .u32) 88 w' w.heap.size (fun k_ => (w.heap.size ≤ k_)) v171 x5_1) ∧ Aside0 (Below w.heap.size w w'))
 case atStart => exact ⟨(y170), (0), (by first | rfl | (simp; done) | (simp [*]; done)), H', ⟨Nat.le_refl _⟩, ⟨by (with_reducible repeat (first | apply Kd.R_alloc | apply Kd.R_drewN | apply Kd.R_drew)); exact Kd.R_mono HO172.out (fun _ hk => hk.1)⟩, ⟨bq HB.out⟩⟩
 case round =>
  clear H'
  try clear p2
  try clear c3
  try clear c3b0
  try clear c3b1
  try clear c4
  try clear c4b0
  try clear c4b1
  obtain ⟨x5_1, x13_1, rfl, HA, HK1, HO_5, HB⟩ := hrel
  cases gk with
  | zero => exact absurd HA.out (by simp [n_unshift.l0])
  | succ k1 =>
   have H := HA.out
   clear HA
   simp only [n_unshift.l0] at H
   by_cases c7 : x13_1 < (l0.length : Int)
   rotate_left
   ·rw [if_neg c7] at H
    have c7b0 := decide_eq_false c7
    clear c7
    replace H := Option.bind_eq_some_iff.mp H
    obtain ⟨t177, A250, H⟩ := H
    try dsimp only at H
    have A25 := Aside0.mk A250
    clear A250
    obtain rfl := Option.some.inj H
    obtain ⟨Ao26, co26, eo26⟩ := Kd.R_slice HO_5.out
    subst eo26
    go_wp2_with (first | ((with_reducible refine gate_callee (f := 76) rfl ?_); refine goesq (some 44) Tryd.func76 #[.slice Ao26 x5_1.length co26] ?_; (with_reducible refine (n_limbs_trim.calls k1 (fun k_ => some k_ = (.slice Ao26 x5_1.length co26 : Value).ownBlock) _ _ x5_1 t177 _ ?side1 A25.out).mono ?_); (case side1 => exact Kd.R_V (Kd.R_tight rfl (HO_5.out))); rintro e w27 ⟨v178, rfl, ho0, hb⟩; refine ⟨_, rfl, ?_⟩; have HO179 := am (Kd.V_lower (Kd.V_mono (ok' := fun k_ => (w.heap.size ≤ k_)) ho0 (fun k_ hk_ => Or.elim hk_ (fun hs_ => ((HO_5.out).1 k_ hs_.symm)) (fun hn_ => (Nat.le_trans (below_size (bq HB.out)) hn_)))) (below_size (bq HB.out))); replace HO_5 := am (Kd.R_below (Kd.rq HO_5.out) hb); replace HB := am (below_step (bq HB.out) hb); (try clear hb); (try clear ho0)))
    go_ret
    exact ⟨_, by first | rfl | (simp [errW_none, errW_some] <;> rfl) | (simp [*, errW_none, errW_some] <;> rfl), by (with_reducible repeat (first | apply Kd.V_alloc | apply Kd.V_drewN | apply Kd.V_drew)); exact HO179.out, bq HB.out⟩
   rw [if_pos c7] at H
   have c7b0 := decide_eq_true c7
   clear c7
   by_cases c8 : 0 ≤ x13_1
   rotate_left
   ·rw [if_neg c8] at H
    exact absurd H (by simp)
   rw [if_pos c8] at H
   have c8b0 := decide_eq_true c8
   clear c8
   by_cases c9 : x13_1 < (l0.length : Int)
   rotate_left
   ·rw [if_neg c9] at H
    exact absurd H (by simp)
   rw [if_pos c9] at H
   have c9b0 := decide_eq_true c9
   clear c9
   by_cases c10 : (wrap64 (x13_1 + 1)) < (l0.length : Int)
   rotate_left
   ·rw [if_neg c10] at H
    have c10b0 := decide_eq_false c10
    clear c10
    by_cases c19 : 0 ≤ a1
    rotate_left
    ·rw [if_neg c19] at H
     exact absurd H (by simp)
    rw [if_pos c19] at H
    have c19b0 := eq_true c19
    have c19b1 := decide_eq_true c19
    clear c19
    obtain ⟨ji20, hji20⟩ : ∃ j_ : Int, (shr .u64 (IntKind.u64.wrap (rd l0 x13_1)) a1) = j_ := ⟨_, rfl⟩
    replace H : (if x13_1 < (x5_1.length : Int) then (n_unshift.l0 k1 l0 a1 (x5_1.set (x13_1 : Int).toNat ((ji20) % 4294967296)) (l0.length : Int) (wrap64 (x13_1 + 1))) else (none)) = some r := by first | (rw [hji20] at H; exact H) | (simp only [hji20] at H ⊢; exact H)
    have hji20_ : ((IntKind.u64.wrap (rd l0 x13_1)) / 2 ^ min a1.toNat 64) = ji20 := hji20
    have hji20z : a1 ≤ 64 → ((IntKind.u64.wrap (rd l0 x13_1)) / 2 ^ a1.toNat) = ji20 := shr_small hji20
    by_cases c21 : x13_1 < (x5_1.length : Int)
    rotate_left
    ·rw [if_neg c21] at H
     exact absurd H (by simp)
    rw [if_pos c21] at H
    have c21b0 := decide_eq_true c21
    clear c21
    obtain ⟨y176, hy176⟩ : ∃ y_ : List Int, y_ = (x5_1.set (x13_1 : Int).toNat ((ji20) % 4294967296)) := ⟨_, rfl⟩
    replace H : (n_unshift.l0 k1 l0 a1 y176 (l0.length : Int) (wrap64 (x13_1 + 1))) = some r := by first | (rw [hy176]; with_reducible exact H) | (have H2_ := (Option.bind_some _ _).symm.trans H; rw [hy176]; with_reducible exact H2_) | (have H2_ := (Option.bind_some _ _).symm.trans H; with_reducible exact H2_) | with_reducible exact H | (rw [hy176]; exact H) | exact H
    have Ny176 := Aside0.mk hy176
    clear hy176
    have H' := Aside0.mk H
    clear H
    have p173 : 0 ≤ (x13_1 : Int) := odt
    have q173 : x13_1 < (l0.length : Int) := odt
    obtain ⟨ad173, e173, hx173_0⟩ := Kd.at_int HR0.out x13_1 p173 q173
    cases e173
    replace hx173_0 := (HB.out.cell (World.block_lt_of_cell? w _ hx173_0)).trans hx173_0
    replace p173 := eq_true p173
    replace q173 := eq_true q173
    have p22 : 0 ≤ (x13_1 : Int) := odt
    have q22 : (x13_1 : Int) < ((x5_1.length : Int) : Int) := odt
    obtain ⟨go22, co22, eo22, gb22, gl22, cl22, HG22⟩ := Kd.R_form HO_5.out (by omega)
    (first | cases eo22 | (injection eo22 with ea_ en_ ec_; (first | subst ea_ | (injection ea_ with ea_; subst ea_)); subst ec_; clear en_))
    have GB22 := Aside0.mk gb22
    have GG22 := Aside0.mk HG22
    clear gb22 gl22 HG22
    obtain ⟨hx22_0, hf22_0⟩ := Kd.R_celln 0 HO_5.out (x13_1 : Int) p22 q22
    replace p22 := eq_true p22
    replace q22 := eq_true q22
    have HP23 := Kd.R_putg HO_5.out (x13_1 : Int) ((ji20) % 4294967296)
    go_wp2_with (first | ((with_reducible refine gate_store (t := 88) (p := 41) rfl ?_); refine store_event (t := 88) (p := 41) (v := ?vo_w24) (w1 := (wr.setCell ⟨go22, (x13_1 : Int).toNat, none⟩ (.int .u32 ((ji20) % 4294967296)))) ?hg ?ho ?hn ?hr ?_; (case ho => rfl); (case hg => rfl); (case hn => rfl); (case hr => first | (go_simp; done) | (go_simp; rfl)); intro w24 hw; have hg : wr.grownBy w24 (some go22) := (by rw [hw]; exact HP23.2); have hp_ : Kd.R (Kd.int .u32) 88 w24 w.heap.size (fun k_ => (w.heap.size ≤ k_)) (.slice (some ⟨go22, 0, none⟩) x5_1.length co22) y176 := (by rw [hw, Ny176.out]; exact HP23.1); clear HP23; replace HO_5 := am (hp_); replace HB := am ((by rw [hw]; exact below_set (HB.out) GB22.out : Below w.heap.size w w24)); clear hg hw hp_))
    go_roundg k1
    case measure => have := HK1.out; omega
    case rel => exact ⟨(y176), (wrap64 (x13_1 + 1)), (by first | rfl | (simp; done) | (simp [*]; done)), H', ⟨by have := HK1.out; omega⟩, ⟨Kd.rq HO_5.out⟩, ⟨bq HB.out⟩⟩
   rw [if_pos c10] at H
   have c10b0 := decide_eq_true c10
   clear c10
   obtain ⟨ji11, hji11⟩ : ∃ j_ : Int, (wrap64 (x13_1 + 1)) = j_ := ⟨_, rfl⟩
   replace H : (if 0 ≤ (ji11) then (if 0 ≤ a1 then (if x13_1 < (x5_1.length : Int) then (n_unshift.l0 k1 l0 a1 (x5_1.set (x13_1 : Int).toNat ((shr .u64 (Go.bits .or .u64 (IntKind.u64.wrap (rd l0 x13_1)) (IntKind.u64.wrap ((IntKind.u64.wrap (rd l0 (ji11))) * 4294967296))) a1) % 4294967296)) (l0.length : Int) ji11) else (none)) else (none)) else (none)) = some r := by first | (rw [hji11] at H; exact H) | (simp only [hji11] at H ⊢; exact H)
   (try rw [hji11] at c10b0)
   have hji11w : (IntKind.i64.wrap (x13_1 + 1)) = ji11 := (i64_w _).trans hji11
   by_cases c12 : 0 ≤ (ji11)
   rotate_left
   ·rw [if_neg c12] at H
    exact absurd H (by simp)
   rw [if_pos c12] at H
   have c12b0 := decide_eq_true c12
   clear c12
   by_cases c13 : 0 ≤ a1
   rotate_left
   ·rw [if_neg c13] at H
    exact absurd H (by simp)
   rw [if_pos c13] at H
   have c13b0 := eq_true c13
   have c13b1 := decide_eq_true c13
   clear c13
   obtain ⟨ji14, hji14⟩ : ∃ j_ : Int, (shr .u64 (Go.bits .or .u64 (IntKind.u64.wrap (rd l0 x13_1)) (IntKind.u64.wrap ((IntKind.u64.wrap (rd l0 (ji11))) * 4294967296))) a1) = j_ := ⟨_, rfl⟩
   replace H : (if x13_1 < (x5_1.length : Int) then (n_unshift.l0 k1 l0 a1 (x5_1.set (x13_1 : Int).toNat ((ji14) % 4294967296)) (l0.length : Int) ji11) else (none)) = some r := by first | (rw [hji14] at H; exact H) | (simp only [hji14] at H ⊢; exact H)
   have hji14_ : ((Go.bits .or .u64 (IntKind.u64.wrap (rd l0 x13_1)) (IntKind.u64.wrap ((IntKind.u64.wrap (rd l0 (ji11))) * 4294967296))) / 2 ^ min a1.toNat 64) = ji14 := hji14
   have hji14z : a1 ≤ 64 → ((Go.bits .or .u64 (IntKind.u64.wrap (rd l0 x13_1)) (IntKind.u64.wrap ((IntKind.u64.wrap (rd l0 (ji11))) * 4294967296))) / 2 ^ a1.toNat) = ji14 := shr_small hji14
   by_cases c15 : x13_1 < (x5_1.length : Int)
   rotate_left
   ·rw [if_neg c15] at H
    exact absurd H (by simp)
   rw [if_pos c15] at H
   have c15b0 := decide_eq_true c15
   clear c15
   obtain ⟨y175, hy175⟩ : ∃ y_ : List Int, y_ = (x5_1.set (x13_1 : Int).toNat ((ji14) % 4294967296)) := ⟨_, rfl⟩
   replace H : (n_unshift.l0 k1 l0 a1 y175 (l0.length : Int) ji11) = some r := by first | (rw [hy175]; with_reducible exact H) | (have H2_ := (Option.bind_some _ _).symm.trans H; rw [hy175]; with_reducible exact H2_) | (have H2_ := (Option.bind_some _ _).symm.trans H; with_reducible exact H2_) | with_reducible exact H | (rw [hy175]; exact H) | exact H
   have Ny175 := Aside0.mk hy175
   clear hy175
   have H' := Aside0.mk H
   clear H
   have p173 : 0 ≤ (x13_1 : Int) := odt
   have q173 : x13_1 < (l0.length : Int) := odt
   obtain ⟨ad173, e173, hx173_0⟩ := Kd.at_int HR0.out x13_1 p173 q173
   cases e173
   replace hx173_0 := (HB.out.cell (World.block_lt_of_cell? w _ hx173_0)).trans hx173_0
   replace p173 := eq_true p173
   replace q173 := eq_true q173
   have p174 : 0 ≤ ((ji11) : Int) := odt
   have q174 : (ji11) < (l0.length : Int) := odt
   obtain ⟨ad174, e174, hx174_0⟩ := Kd.at_int HR0.out (ji11) p174 q174
   obtain rfl : ad173 = ad174 := (by injection e174)
   replace hx174_0 := (HB.out.cell (World.block_lt_of_cell? w _ hx174_0)).trans hx174_0
   replace p174 := eq_true p174
   replace q174 := eq_true q174
   have p16 : 0 ≤ (x13_1 : Int) := odt
   have q16 : (x13_1 : Int) < ((x5_1.length : Int) : Int) := odt
   obtain ⟨go16, co16, eo16, gb16, gl16, cl16, HG16⟩ := Kd.R_form HO_5.out (by omega)
   (first | cases eo16 | (injection eo16 with ea_ en_ ec_; (first | subst ea_ | (injection ea_ with ea_; subst ea_)); subst ec_; clear en_))
   have GB16 := Aside0.mk gb16
   have GG16 := Aside0.mk HG16
   clear gb16 gl16 HG16
   obtain ⟨hx16_0, hf16_0⟩ := Kd.R_celln 0 HO_5.out (x13_1 : Int) p16 q16
   replace p16 := eq_true p16
   replace q16 := eq_true q16
   have HP17 := Kd.R_putg HO_5.out (x13_1 : Int) ((ji14) % 4294967296)
   go_wp2_with (first | ((with_reducible refine gate_store (t := 88) (p := 41) rfl ?_); refine store_event (t := 88) (p := 41) (v := ?vo_w18) (w1 := (wr.setCell ⟨go16, (x13_1 : Int).toNat, none⟩ (.int .u32 ((ji14) % 4294967296)))) ?hg ?ho ?hn ?hr ?_; (case ho => rfl); (case hg => rfl); (case hn => rfl); (case hr => first | (go_simp; done) | (go_simp; rfl)); intro w18 hw; have hg : wr.grownBy w18 (some go16) := (by rw [hw]; exact HP17.2); have hp_ : Kd.R (Kd.int .u32) 88 w18 w.heap.size (fun k_ => (w.heap.size ≤ k_)) (.slice (some ⟨go16, 0, none⟩) x5_1.length co16) y175 := (by rw [hw, Ny175.out]; exact HP17.1); clear HP17; replace HO_5 := am (hp_); replace HB := am ((by rw [hw]; exact below_set (HB.out) GB16.out : Below w.heap.size w w18)); clear hg hw hp_))
   go_roundg k1
   case measure => have := HK1.out; omega
   case rel => exact ⟨(y175), (ji11), (by first | rfl | (simp; done) | (simp only [← hji11] <;> (first | rfl | simp)) | (simp [*]; done)), H', ⟨by have := HK1.out; omega⟩, ⟨Kd.rq HO_5.out⟩, ⟨bq HB.out⟩⟩
def e1_shifted.l0 : Nat → List Int → Int → List Int → Int → Option (List Int)
 | 0, _, _, _, _ => none
 | k + 1, x0, x1, x5, x6 => if x6 < (x0.length : Int) then (if 0 ≤ x6 then (if 0 ≤ x1 then (if x6 < (x5.length : Int) then (if 0 ≤ (wrap64 (x6 + 1)) then (if (wrap64 (x6 + 1)) < (x5.length : Int) then (e1_shifted.l0 k x0 x1 ((x5.set (x6 : Int).toNat (Go.bits .or .u32 (rd x5 x6) ((shl .u64 (IntKind.u64.wrap (rd x0 x6)) x1) % 4294967296))).set ((wrap64 (x6 + 1)) : Int).toNat (((shl .u64 (IntKind.u64.wrap (rd x0 x6)) x1) / 4294967296) % 4294967296)) (wrap64 (x6 + 1))) else (none)) else (none)) else (none)) else (none)) else (none)) else (some x5)
def e1_shifted.f (k : Nat) (l0 : List Int) (a1 : Int) : Option (List Int) := if 0 ≤ (wrap64 ((l0.length : Int) + 1)) then (if (wrap64 ((l0.length : Int) + 1) : Int).toNat ≤ 70368744177664 then (e1_shifted.l0 k l0 a1 (List.replicate (wrap64 ((l0.length : Int) + 1) : Int).toNat 0) 0) else (none)) else (none)
set_option maxHeartbeats 8000000 in
set_option maxRecDepth 100000 in
theorem e1_shifted.calls (k : Nat) (A0 : Option Addr) (c0 : Nat) (l0 : List Int) (a1 : Int) (r : List Int) (w : World) (hr0 : Kd.C (Kd.int .u32) w A0 l0.length l0) (hc0 : l0.length ≤ c0) (h : e1_shifted.f k l0 a1 = some r) :
  Calls Tryd.prog 93 #[.slice A0 l0.length c0, .int .u64 a1] w fun e w' => ∃ v0_ : Value, e = .returned (v0_) ∧ Kd.R (Kd.int .u32) 88 w' w.heap.size (fun _ => True) v0_ r ∧ Below w.heap.size w w' := by
 have HR0 := Aside0.mk hr0
 have HC0 := Aside0.mk hc0
 clear hr0 hc0
 have HB := Aside0.mk (Below.refl w.heap.size w)
 have H : (if 0 ≤ (wrap64 ((l0.length : Int) + 1)) then (if (wrap64 ((l0.length : Int) + 1) : Int).toNat ≤ 70368744177664 then (e1_shifted.l0 k l0 a1 (List.replicate (wrap64 ((l0.length : Int) + 1) : Int).toNat 0) 0) else (none)) else (none)) = some r := h
 clear h
 obtain ⟨ji3, hji3⟩ : ∃ j_ : Int, (wrap64 ((l0.length : Int) + 1)) = j_ := ⟨_, rfl⟩
 replace H : (if 0 ≤ (ji3) then (if (ji3 : Int).toNat ≤ 70368744177664 then (e1_shifted.l0 k l0 a1 (List.replicate (ji3 : Int).toNat 0) 0) else (none)) else (none)) = some r := by first | (rw [hji3] at H; exact H) | (simp only [hji3] at H ⊢; exact H)
 have hji3w : (IntKind.i64.wrap ((l0.length : Int) + 1)) = ji3 := (i64_w _).trans hji3
 by_cases c4 : 0 ≤ (ji3)
 rotate_left
 ·rw [if_neg c4] at H
  exact absurd H (by simp)
 rw [if_pos c4] at H
 have c4b0 := eq_true c4
 have c4b1 := decide_eq_true c4
 clear c4
 by_cases c5 : (ji3 : Int).toNat ≤ 70368744177664
 rotate_left
 ·rw [if_neg c5] at H
  exact absurd H (by simp)
 rw [if_pos c5] at H
 have c5b0 := eq_true c5
 have c5b1 := decide_eq_true c5
 clear c5
 obtain ⟨y345, hy345⟩ : ∃ y_ : List Int, y_ = (List.replicate (ji3 : Int).toNat 0) := ⟨_, rfl⟩
 replace H : (e1_shifted.l0 k l0 a1 y345 0) = some r := by first | (rw [hy345]; with_reducible exact H) | (have H2_ := (Option.bind_some _ _).symm.trans H; rw [hy345]; with_reducible exact H2_) | (have H2_ := (Option.bind_some _ _).symm.trans H; with_reducible exact H2_) | with_reducible exact H | (rw [hy345]; exact H) | exact H
 have Ny345 := Aside0.mk hy345
 clear hy345
 have H' := Aside0.mk H
 clear H
 go_enter Tryd.func93, Tryd.ntmps93
 go_wp2_with (first | ((with_reducible refine gate_dst (N := 11) rfl ?_); refine Kd.R_make (Kd.int .u32) _ 88 rfl (N := 11) rfl 77 _ _ rfl ji3 rfl rfl Tryd.underlying77 (.int .u32 0) 4 info88 rfl (by decide) (by omega) 0 (ok := fun _ => True) (okp := fun _ => True) rfl (fun _ hk => hk) trivial odt (Nat.le_trans (Nat.mul_le_mul_right _ (of_decide_eq_true (by first | (with_reducible assumption) | assumption) : ji3.toNat ≤ 70368744177664)) (by omega)) (Below.refl _ _) (Nat.le_refl _) ?_; intro v346 w6 ho7 hb hg_ hnew_; clear hg_ hnew_; (first | rw [← Ny345.out] at ho7 | (simp only [Int.reduceToNat] at ho7; rw [← Ny345.out] at ho7)); have HO347 := am (Kd.R_lower ho7 (below_size (bq HB.out))); replace HB := am (below_step (bq HB.out) hb); clear hb ho7))
 go_loopg [6] k (fun kq v6 w' => ∃ (x5_1 : List Int) (x6_1 : Int), v6 = .int .i64 x6_1 ∧ Aside0 (e1_shifted.l0 kq l0 a1 x5_1 x6_1 = some r) ∧ Aside0 (kq ≤ k) ∧ Aside0 (Kd.R (Kd.int .u32) 88 w' w.heap.size (fun _ => True) v346 x5_1) ∧ Aside0 (Below w.heap.size w w'))
 case atStart => exact ⟨(y345), (0), (by first | rfl | (simp; done) | (simp [*]; done)), H', ⟨Nat.le_refl _⟩, ⟨Kd.rq HO347.out⟩, ⟨bq HB.out⟩⟩
 case round =>
  clear H'
  try clear p2
  try clear c4
  try clear c4b0
  try clear c4b1
  try clear c5
  try clear c5b0
  try clear c5b1
  try clear p6
  obtain ⟨x5_1, x6_1, rfl, HA, HK1, HO_5, HB⟩ := hrel
  cases gk with
  | zero => exact absurd HA.out (by simp [e1_shifted.l0])
  | succ k1 =>
   have H := HA.out
   clear HA
   simp only [e1_shifted.l0] at H
   by_cases c8 : x6_1 < (l0.length : Int)
   rotate_left
   ·rw [if_neg c8] at H
    have c8b0 := decide_eq_false c8
    clear c8
    obtain rfl := Option.some.inj H
    go_wp2
    go_ret
    exact ⟨_, by first | rfl | (simp [errW_none, errW_some] <;> rfl) | (simp only [← hji3]; first | rfl | (simp [errW_none, errW_some] <;> rfl)) | (simp [*, errW_none, errW_some] <;> rfl), by (with_reducible repeat (first | apply Kd.R_alloc | apply Kd.R_drewN | apply Kd.R_drew)); exact HO_5.out, bq HB.out⟩
   rw [if_pos c8] at H
   have c8b0 := decide_eq_true c8
   clear c8
   by_cases c9 : 0 ≤ x6_1
   rotate_left
   ·rw [if_neg c9] at H
    exact absurd H (by simp)
   rw [if_pos c9] at H
   have c9b0 := decide_eq_true c9
   clear c9
   by_cases c10 : 0 ≤ a1
   rotate_left
   ·rw [if_neg c10] at H
    exact absurd H (by simp)
   rw [if_pos c10] at H
   have c10b0 := eq_true c10
   have c10b1 := decide_eq_true c10
   clear c10
   obtain ⟨ji11, hji11⟩ : ∃ j_ : Int, (shl .u64 (IntKind.u64.wrap (rd l0 x6_1)) a1) = j_ := ⟨_, rfl⟩
   replace H : (if x6_1 < (x5_1.length : Int) then (if 0 ≤ (wrap64 (x6_1 + 1)) then (if (wrap64 (x6_1 + 1)) < (x5_1.length : Int) then (e1_shifted.l0 k1 l0 a1 ((x5_1.set (x6_1 : Int).toNat (Go.bits .or .u32 (rd x5_1 x6_1) ((ji11) % 4294967296))).set ((wrap64 (x6_1 + 1)) : Int).toNat (((ji11) / 4294967296) % 4294967296)) (wrap64 (x6_1 + 1))) else (none)) else (none)) else (none)) = some r := by first | (rw [hji11] at H; exact H) | (simp only [hji11] at H ⊢; exact H)
   have hji11_ : (IntKind.u64.wrap ((IntKind.u64.wrap (rd l0 x6_1)) * 2 ^ min a1.toNat 64)) = ji11 := hji11
   have hji11z : a1 ≤ 64 → (IntKind.u64.wrap ((IntKind.u64.wrap (rd l0 x6_1)) * 2 ^ a1.toNat)) = ji11 := shl_small hji11
   by_cases c12 : x6_1 < (x5_1.length : Int)
   rotate_left
   ·rw [if_neg c12] at H
    exact absurd H (by simp)
   rw [if_pos c12] at H
   have c12b0 := decide_eq_true c12
   clear c12
   obtain ⟨y350, hy350⟩ : ∃ y_ : List Int, y_ = (x5_1.set (x6_1 : Int).toNat (Go.bits .or .u32 (rd x5_1 x6_1) ((ji11) % 4294967296))) := ⟨_, rfl⟩
   replace H : (if 0 ≤ (wrap64 (x6_1 + 1)) then (if (wrap64 (x6_1 + 1)) < (x5_1.length : Int) then (e1_shifted.l0 k1 l0 a1 (y350.set ((wrap64 (x6_1 + 1)) : Int).toNat (((ji11) / 4294967296) % 4294967296)) (wrap64 (x6_1 + 1))) else (none)) else (none)) = some r := by first | (rw [hy350]; with_reducible exact H) | (have H2_ := (Option.bind_some _ _).symm.trans H; rw [hy350]; with_reducible exact H2_) | (have H2_ := (Option.bind_some _ _).symm.trans H; with_reducible exact H2_) | with_reducible exact H | (rw [hy350]; exact H) | exact H
   have Ny350 := Aside0.mk hy350
   clear hy350
   obtain ⟨ji14, hji14⟩ : ∃ j_ : Int, (wrap64 (x6_1 + 1)) = j_ := ⟨_, rfl⟩
   replace H : (if 0 ≤ (ji14) then (if (ji14) < (x5_1.length : Int) then (e1_shifted.l0 k1 l0 a1 (y350.set ((ji14) : Int).toNat (((ji11) / 4294967296) % 4294967296)) ji14) else (none)) else (none)) = some r := by first | (rw [hji14] at H; exact H) | (simp only [hji14] at H ⊢; exact H)
   have hji14w : (IntKind.i64.wrap (x6_1 + 1)) = ji14 := (i64_w _).trans hji14
   by_cases c15 : 0 ≤ (ji14)
   rotate_left
   ·rw [if_neg c15] at H
    exact absurd H (by simp)
   rw [if_pos c15] at H
   have c15b0 := decide_eq_true c15
   clear c15
   by_cases c16 : (ji14) < (x5_1.length : Int)
   rotate_left
   ·rw [if_neg c16] at H
    exact absurd H (by simp)
   rw [if_pos c16] at H
   have c16b0 := decide_eq_true c16
   clear c16
   obtain ⟨y351, hy351⟩ : ∃ y_ : List Int, y_ = (y350.set ((ji14) : Int).toNat (((ji11) / 4294967296) % 4294967296)) := ⟨_, rfl⟩
   replace H : (e1_shifted.l0 k1 l0 a1 y351 ji14) = some r := by first | (rw [hy351]; with_reducible exact H) | (have H2_ := (Option.bind_some _ _).symm.trans H; rw [hy351]; with_reducible exact H2_) | (have H2_ := (Option.bind_some _ _).symm.trans H; with_reducible exact H2_) | with_reducible exact H | (rw [hy351]; exact H) | exact H
   have Ny351 := Aside0.mk hy351
   clear hy351
   have H' := Aside0.mk H
   clear H
   have p348 : 0 ≤ (x6_1 : Int) := odt
   have q348 : x6_1 < (l0.length : Int) := odt
   obtain ⟨ad348, e348, hx348_0⟩ := Kd.at_int HR0.out x6_1 p348 q348
   cases e348
   replace hx348_0 := (HB.out.cell (World.block_lt_of_cell? w _ hx348_0)).trans hx348_0
   replace p348 := eq_true p348
   replace q348 := eq_true q348
   obtain ⟨Ao18, co18, eo18⟩ := Kd.R_slice HO_5.out
   subst eo18
   have p349 : 0 ≤ (x6_1 : Int) := odt
   have q349 : x6_1 < (x5_1.length : Int) := odt
   obtain ⟨ad349, e349, hx349_0⟩ := Kd.at_int (Kd.R_reads' HO_5.out).2.2 x6_1 p349 q349
   cases e349
   replace p349 := eq_true p349
   replace q349 := eq_true q349
   have p13 : 0 ≤ (x6_1 : Int) := odt
   have q13 : (x6_1 : Int) < ((x5_1.length : Int) : Int) := odt
   obtain ⟨go13, co13, eo13, gb13, gl13, cl13, HG13⟩ := Kd.R_form HO_5.out (by omega)
   (first | cases eo13 | (injection eo13 with ea_ en_ ec_; (first | subst ea_ | (injection ea_ with ea_; subst ea_)); subst ec_; clear en_))
   have GB13 := Aside0.mk gb13
   have GG13 := Aside0.mk HG13
   clear gb13 gl13 HG13
   (first | simp only [add_plain] at hx349_0 | skip)
   obtain ⟨hx13_0, hf13_0⟩ := Kd.R_celln 0 HO_5.out (x6_1 : Int) p13 q13
   replace p13 := eq_true p13
   replace q13 := eq_true q13
   have HP19 := Kd.R_putg HO_5.out (x6_1 : Int) (Go.bits .or .u32 (rd x5_1 x6_1) ((ji11) % 4294967296))
   go_wp2_with (first | ((with_reducible refine gate_store (t := 88) (p := 34) rfl ?_); refine store_event (t := 88) (p := 34) (v := ?vo_w20) (w1 := (wr.setCell ⟨go13, (x6_1 : Int).toNat, none⟩ (.int .u32 (Go.bits .or .u32 (rd x5_1 x6_1) ((ji11) % 4294967296))))) ?hg ?ho ?hn ?hr ?_; (case ho => rfl); (case hg => rfl); (case hn => rfl); (case hr => first | (go_simp; done) | (go_simp; rfl)); intro w20 hw; have hg : wr.grownBy w20 (some go13) := (by rw [hw]; exact HP19.2); have hp_ : Kd.R (Kd.int .u32) 88 w20 w.heap.size (fun _ => True) (.slice (some ⟨go13, 0, none⟩) x5_1.length co18) y350 := (by rw [hw, Ny350.out]; exact HP19.1); clear HP19; replace HO_5 := am (hp_); replace HB := am ((by rw [hw]; exact below_set (HB.out) GB13.out : Below w.heap.size w w20)); clear hg hw hp_; have p17 : 0 ≤ ((ji14) : Int) := odt; have q17 : ((ji14) : Int) < ((x5_1.length : Int) : Int) := odt; obtain ⟨hx17_0, hf17_0⟩ := Kd.R_celln 0 HO_5.out ((ji14) : Int) p17 q17; replace p17 := eq_true p17; replace q17 := eq_true q17; obtain ⟨hy21_, hz21_⟩ := Kd.R_celln 0 HO_5.out ((ji14) : Int) odt odt; have HP21 := Kd.R_putg HO_5.out ((ji14) : Int) (((ji11) / 4294967296) % 4294967296)) | ((with_reducible refine gate_store (t := 88) (p := 41) rfl ?_); refine store_event (t := 88) (p := 41) (v := ?vo_w22) (w1 := (w20.setCell ⟨go13, ((ji14) : Int).toNat, none⟩ (.int .u32 (((ji11) / 4294967296) % 4294967296)))) ?hg ?ho ?hn ?hr ?_; (case ho => rfl); (case hg => rfl); (case hn => rfl); (case hr => first | (go_simp; done) | (go_simp; rfl)); intro w22 hw; have hg : w20.grownBy w22 (some go13) := (by rw [hw]; exact HP21.2); have hp_ : Kd.R (Kd.int .u32) 88 w22 w.heap.size (fun _ => True) (.slice (some ⟨go13, 0, none⟩) x5_1.length co18) y351 := (by rw [hw, Ny351.out]; exact HP21.1); clear HP21; replace HO_5 := am (hp_); replace HB := am ((by rw [hw]; exact below_set (HB.out) GB13.out : Below w.heap.size w w22)); clear hg hw hp_))
   go_roundg k1
   case measure => have := HK1.out; omega
   case rel => exact ⟨(y351), (ji14), (by first | rfl | (simp; done) | (simp only [← hji14] <;> (first | rfl | simp)) | (simp [*]; done)), H', ⟨by have := HK1.out; omega⟩, ⟨Kd.rq HO_5.out⟩, ⟨bq HB.out⟩⟩
end Go.Proofs.YtfnfjmeiaamheaaDoor.PA
namespace Go.Proofs.YtfnfjmeiaamheaaDoor.PA
open Go Go.RowKit Go.Proofs.YtfnfjmeiaamheaaDoorW.PrintWords
theorem p2_pos (s : Nat) : (0 : Int) < 2 ^ s := Int.pow_pos (by decide)
theorem p2_le {s : Nat} (h : s < 32) : (2 : Int) ^ s ≤ 2147483648 := by
 have : (2 : Nat) ^ s ≤ 2 ^ 31 := Nat.pow_le_pow_right (by decide) (by omega)
 have e : (2 : Int) ^ s = ((2 ^ s : Nat) : Int) := by simp
 rw [e]; omega
theorem p2_split {s : Nat} (h : s < 32) : (2 : Int) ^ s * 2 ^ (32 - s) = 4294967296 := by
 rw [← Int.pow_add, show s + (32 - s) = 32 by omega]; rfl
theorem shl_u64 {x : Int} {s : Nat} (h0 : 0 ≤ x) (h1 : x < 4294967296) (hs : s < 32) : shl .u64 (IntKind.u64.wrap x) (s : Int) = x * 2 ^ s := by
 have hp := p2_pos s
 have hl := p2_le hs
 have h2 : x * 2 ^ s ≤ x * 2147483648 := Int.mul_le_mul_of_nonneg_left hl h0
 have h3 := Int.mul_nonneg h0 (Int.le_of_lt hp)
 unfold shl
 rw [u64_s h0 (by omega), show min (s : Int).toNat IntKind.u64.bits = s from Nat.min_eq_left (show s ≤ 64 by omega)]
 exact u64_s h3 (by omega)
theorem shr_u64 {x : Int} {s : Nat} (hs : s < 32) : shr .u64 x (s : Int) = x / 2 ^ s := by
 unfold shr
 rw [show min (s : Int).toNat IntKind.u64.bits = s from Nat.min_eq_left (show s ≤ 64 by omega)]
theorem u32_in' (n : Int) (h0 : 0 ≤ n) (h1 : n < 2 ^ 32) : IntKind.u32.wrap n = n := by rw [IntKind.wrap_u32]; omega
theorem u32_or' (a b : Nat) (ha : a < 4294967296) (hb : b < 4294967296) : Go.bits .or .u32 (a : Int) (b : Int) = ((a ||| b : Nat) : Int) := (bits_nat .u32 32 (by decide) u32_in' a b ha hb).2
theorem or_low {a m : Int} {s : Nat} (ha : 0 ≤ a) (has : a < 2 ^ s) (hm : 0 ≤ m) (ha1 : a < 4294967296) (hm1 : m * 2 ^ s < 4294967296) : Go.bits .or .u32 a (m * 2 ^ s) = a + m * 2 ^ s := by
 obtain ⟨x, rfl⟩ : ∃ x : Nat, a = x := ⟨a.toNat, by omega⟩
 obtain ⟨y, rfl⟩ : ∃ y : Nat, m = y := ⟨m.toNat, by omega⟩
 have e : (y : Int) * 2 ^ s = ((y * 2 ^ s : Nat) : Int) := by simp
 rw [e] at hm1 ⊢
 have hx : x < 2 ^ s := by
  have : ((2 : Int) ^ s) = ((2 ^ s : Nat) : Int) := by simp
  rw [this] at has; omega
 rw [u32_or' _ _ (by omega) (by omega)]
 have := Nat.shiftLeft_add_eq_or_of_lt hx y
 rw [Nat.shiftLeft_eq] at this
 rw [Nat.or_comm, ← this]
 omega
theorem shl_parts {x : Int} {s : Nat} (h0 : 0 ≤ x) (h1 : x < 4294967296) (hs : s < 32) : ∃ m, x * 2 ^ s % 4294967296 = m * 2 ^ s ∧ 0 ≤ m ∧ 0 ≤ x * 2 ^ s / 4294967296 ∧ x * 2 ^ s / 4294967296 < 2 ^ s := by
 have hp := p2_pos s
 have hq := p2_pos (32 - s)
 have e := p2_split hs
 have h3 := Int.mul_nonneg h0 (Int.le_of_lt hp)
 refine ⟨x % 2 ^ (32 - s), ?_, Int.emod_nonneg _ (by omega), Int.ediv_nonneg h3 (by decide), ?_⟩
 ·rw [← e, Int.mul_comm x (2 ^ s), Int.mul_emod_mul_of_pos _ _ hp, Int.mul_comm]
 apply Int.ediv_lt_of_lt_mul (by decide)
 rw [Int.mul_comm (2 ^ s) 4294967296]
 exact Int.mul_lt_mul_of_pos_right h1 hp
theorem dg_lt_of {l : List Int} (hd : Dg l) {i : Nat} {c : Int} (h : Sm l 0 (i + 1) < c * 4294967296 ^ i) : dg l i < c := by
 have h1 := Sm.nonneg hd 0 i
 rw [Sm, Nat.zero_add] at h
 have hp := pw_pos i
 refine Classical.byContradiction fun hc => ?_
 have := Int.mul_le_mul_of_nonneg_right (show c ≤ dg l i by omega) (Int.le_of_lt hp)
 omega
structure ShInv (a out : List Int) (s n i : Nat) : Prop where
 dgs : Dg out
 len : out.length = n
 low : Sm out 0 n = Sm a 0 i * 2 ^ s
 rest : ∀ t, i < t → dg out t = 0
theorem ShInv.start (a : List Int) (s n : Nat) : ShInv a (List.replicate n 0) s n 0 :=
 ⟨Dg.rep n, by simp, by rw [Sm.zero n (fun t _ => dg_rep _ _)]; simp [Sm], fun t _ => dg_rep _ _⟩
theorem ShInv.lt {a out : List Int} {s n i : Nat} (ha : Dg a) (h : ShInv a out s n i) (hi : i < n) : dg out i < 2 ^ s := by
 apply dg_lt_of h.dgs
 have h1 : Sm out 0 n = Sm out 0 (i + 1) := by
  obtain ⟨d, rfl⟩ : ∃ d, n = (i + 1) + d := ⟨n - (i + 1), by omega⟩
  rw [Sm.add out 0 (i + 1) d, Sm.zero (j := 0 + (i + 1)) d (fun t _ => h.rest _ (by omega)), Int.mul_zero, Int.add_zero]
 rw [← h1, h.low, Int.mul_comm]
 exact Int.mul_lt_mul_of_pos_left (Sm.lt ha 0 i) (p2_pos s)
theorem ShInv.next {a out : List Int} {s n i : Nat} (ha : Dg a) (hs : s < 32) (h : ShInv a out s n i) (hi : i + 1 < n) {lo : Int} (hlo : lo = dg out i + dg a i * 2 ^ s % 4294967296) (hl1 : lo < 4294967296) :
  ShInv a ((out.set i lo).set (i + 1) (dg a i * 2 ^ s / 4294967296)) s n (i + 1) := by
 obtain ⟨m, e1, hm0, hh0, hh1⟩ := shl_parts (ha i).1 (ha i).2 hs
 have hl0 : 0 ≤ lo := by have := (h.dgs i).1; have := Int.emod_nonneg (dg a i * 2 ^ s) (show (4294967296 : Int) ≠ 0 by decide); omega
 have h2 := p2_le hs
 refine ⟨(h.dgs.set hl0 hl1).set hh0 (by omega), by rw [List.length_set, List.length_set]; exact h.len, ?_, fun t ht => ?_⟩
 ·have hlen := h.len
  rw [Sm.set_in (by rw [List.length_set]; omega) n (Nat.zero_le _) (by omega), Sm.set_in (by omega) n (Nat.zero_le _) (by omega), h.low, Sm, Nat.zero_add, Nat.sub_zero, Nat.sub_zero, dg_set, if_neg (by omega), h.rest (i + 1) (by omega), pw_succ]
  have hdm := Int.mul_ediv_add_emod (dg a i * 2 ^ s) 4294967296
  rw [hlo]
  generalize (4294967296 : Int) ^ i = P
  generalize dg a i * 2 ^ s / 4294967296 = hi at *
  generalize dg a i * 2 ^ s % 4294967296 = lw at *
  have : dg a i * P * 2 ^ s = (4294967296 * hi + lw) * P := by rw [hdm]; grind
  grind
 rw [dg_set, if_neg (by omega), dg_set, if_neg (by omega)]; exact h.rest t (by omega)
theorem ShInv.lo {a out : List Int} {s n i : Nat} (ha : Dg a) (hs : s < 32) (h : ShInv a out s n i) (hi : i < n) :
  Go.bits .or .u32 (dg out i) (dg a i * 2 ^ s % 4294967296) = dg out i + dg a i * 2 ^ s % 4294967296 ∧ dg out i + dg a i * 2 ^ s % 4294967296 < 4294967296 := by
 obtain ⟨m, e1, hm0, hh0, hh1⟩ := shl_parts (ha i).1 (ha i).2 hs
 have h1 := h.lt ha hi
 have h2 := Int.emod_lt_of_pos (dg a i * 2 ^ s) (show (0 : Int) < 4294967296 by decide)
 have e := p2_split hs
 have hp := p2_pos s
 constructor
 ·rw [e1] at h2 ⊢
  exact or_low (h.dgs i).1 h1 hm0 (h.dgs i).2 h2
 rw [e1] at h2 ⊢
 have h3 : m < 2 ^ (32 - s) := by
  refine Int.lt_of_mul_lt_mul_right ?_ (Int.le_of_lt hp)
  rw [Int.mul_comm (2 ^ (32 - s)), e]; exact h2
 have h4 : (m + 1) * 2 ^ s ≤ 2 ^ (32 - s) * 2 ^ s := Int.mul_le_mul_of_nonneg_right (by omega) (Int.le_of_lt hp)
 rw [Int.mul_comm (2 ^ (32 - s)), e, Int.add_mul, Int.one_mul] at h4
 omega
theorem shifted_loop {a : List Int} (ha : Dg a) (hf : a.length ≤ 100000) {s : Nat} (hs : s < 32) : ∀ m i out, i + m = a.length → ShInv a out s (a.length + 1) i → ∃ r, Ev (fun k => e1_shifted.l0 k a (s : Int) out (i : Int)) r ∧ ShInv a r s (a.length + 1) a.length
 | 0, i, out, hi, h => by
  obtain rfl : i = a.length := by omega
  exact ⟨out, Ev.rets fun k => by rw [e1_shifted.l0, if_neg (by omega)], h⟩
 | m + 1, i, out, hi, h => by
  obtain ⟨e1, e2⟩ := h.lo ha hs (by omega)
  obtain ⟨r, g1, g2⟩ := shifted_loop ha hf hs m (i + 1) _ (by omega) (h.next ha hs (by omega) rfl e2)
  refine ⟨r, Ev.step (fun k => ?_) g1, g2⟩
  have hlen := h.len
  have hw : wrap64 ((i : Int) + 1) = ((i + 1 : Nat) : Int) := by rw [wrap_s (by omega) (by omega)]; omega
  have hh := shl_parts (ha i).1 (ha i).2 hs
  obtain ⟨_, _, _, hh0, hh1⟩ := hh
  have h2 := p2_le hs
  rw [e1_shifted.l0, hw, if_pos (by omega), if_pos (by omega), if_pos (by omega), if_pos (by omega), if_pos (by omega), if_pos (by omega), rd_dg, rd_dg, shl_u64 (ha i).1 (ha i).2 hs, e1, Int.emod_eq_of_lt hh0 (by omega)]
  rfl
theorem shifted_ev {a : List Int} (ha : Dg a) (hf : a.length ≤ 100000) {s : Nat} (hs : s < 32) : ∃ r, Ev (fun k => e1_shifted.f k a (s : Int)) r ∧ Dg r ∧ r.length = a.length + 1 ∧ vl r = vl a * 2 ^ s := by
 obtain ⟨r, g1, g2⟩ := shifted_loop ha hf hs a.length 0 _ (by omega) (ShInv.start a s (a.length + 1))
 refine ⟨r, Ev.same (fun k => ?_) g1, g2.dgs, g2.len, ?_⟩
 ·rw [e1_shifted.f, wrap_s (by omega) (by omega), if_pos (by omega), if_pos (by omega), show ((a.length : Int) + 1).toNat = a.length + 1 by omega]
  rfl
 have := g2.low
 rw [← g2.len] at this
 exact this
theorem shift_loop {a : List Int} (ha : Dg a) (hf : a.length ≤ 100000) {s : Nat} (hs : s < 32) {n : Nat} (hn : a.length ≤ n) (hn2 : n ≤ 100001) (hfit0 : Aside0 (vl a * 2 ^ s < 4294967296 ^ n)) :
 ∀ m i out, i + m = a.length → ShInv a out s n i → ∃ r, Ev (fun k => n_shift.l0 k (s : Int) (n : Int) out a (a.length : Int) (i : Int)) r ∧ ShInv a r s n a.length
 | 0, i, out, hi, h => by
  obtain rfl : i = a.length := by omega
  exact ⟨out, Ev.rets fun k => by rw [n_shift.l0, if_neg (by omega)], h⟩
 | m + 1, i, out, hi, h => by
  have hlen := h.len
  have c1 : (i : Int) < (a.length : Int) := by omega
  have c2 : (0 : Int) ≤ (i : Int) := by omega
  have c3 : (0 : Int) ≤ (s : Int) := by omega
  have c4 : (i : Int) < (out.length : Int) := by omega
  have c5 : (0 : Int) ≤ ((i + 1 : Nat) : Int) := by omega
  have hw : wrap64 ((i : Int) + 1) = ((i + 1 : Nat) : Int) := by rw [wrap_s (by omega) (by omega)]; omega
  obtain ⟨mm, em, hm0, hh0, hh1⟩ := shl_parts (ha i).1 (ha i).2 hs
  have h2 := p2_le hs
  have hl0 : 0 ≤ dg out i + dg a i * 2 ^ s % 4294967296 := by have := (h.dgs i).1; have := Int.emod_nonneg (dg a i * 2 ^ s) (show (4294967296 : Int) ≠ 0 by decide); omega
  obtain ⟨e1, e2⟩ := h.lo ha hs (by omega)
  by_cases hc : i + 1 < n
  ·have c6 : ((i + 1 : Nat) : Int) < (n : Int) := by omega
   have c7 : ((i + 1 : Nat) : Int) < (out.length : Int) := by omega
   obtain ⟨r, g1, g2⟩ := shift_loop ha hf hs hn hn2 hfit0 m (i + 1) _ (by omega) (h.next ha hs hc rfl e2)
   refine ⟨r, Ev.step (fun k => ?_) g1, g2⟩
   have e3 : dg (out.set i (dg out i + dg a i * 2 ^ s % 4294967296)) (i + 1) = 0 := by rw [dg_set, if_neg (by omega)]; exact h.rest _ (by omega)
   have e6 : (0 : Int) < 2 ^ 0 := by decide
   have e4 : Go.bits .or .u32 (0 : Int) (dg a i * 2 ^ s / 4294967296) = dg a i * 2 ^ s / 4294967296 := by
    have := or_low (a := 0) (m := dg a i * 2 ^ s / 4294967296) (s := 0) (by omega) (by decide) hh0 (by omega) (by omega)
    simpa using this
   obtain ⟨z, hz⟩ : ∃ z, z = dg a i * 2 ^ s / 4294967296 := ⟨_, rfl⟩
   have e5 : z % 4294967296 = z := by rw [hz]; exact Int.emod_eq_of_lt hh0 (by omega)
   rw [← hz] at e4
   rw [n_shift.l0, hw, if_pos c1, if_pos c2, if_pos c1, if_pos c3, if_pos c4, rd_dg, rd_dg, shl_u64 (ha i).1 (ha i).2 hs, e1, Option.bind_some, if_pos c6, if_pos c5, if_pos c7,
    ← hz, show ((i : Int)).toNat = i from rfl, rd_dg, e3, e5, e4]
   rfl
  have c6 : ¬ ((i + 1 : Nat) : Int) < (n : Int) := by omega
  have hnl : n = i + 1 := by omega
  have hal : a.length = i + 1 := by omega
  have hz : dg a i * 2 ^ s / 4294967296 = 0 := by
   have h5 : vl a * 2 ^ s = Sm out 0 n + dg a i * 2 ^ s * 4294967296 ^ i := by
    rw [h.low]; unfold vl; rw [hal, Sm, Nat.zero_add]; grind
   have h6 := Sm.nonneg h.dgs 0 n
   have hfit := hfit0.out
   rw [hnl, pw_succ, Int.mul_comm _ 4294967296] at hfit
   have h7 : dg a i * 2 ^ s < 4294967296 := by
    refine Int.lt_of_mul_lt_mul_right ?_ (Int.le_of_lt (pw_pos i))
    omega
   exact Int.ediv_eq_zero_of_lt (Int.mul_nonneg (ha i).1 (Int.le_of_lt (p2_pos s))) h7
  have hinv : ShInv a (out.set i (dg out i + dg a i * 2 ^ s % 4294967296)) s n (i + 1) := by
   refine ⟨h.dgs.set hl0 e2, by rw [List.length_set]; exact h.len, ?_, fun t ht => ?_⟩
   ·rw [Sm.set_in (by omega) n (Nat.zero_le _) (by omega), h.low, Sm, Nat.zero_add, Nat.sub_zero]
    have hdm := Int.mul_ediv_add_emod (dg a i * 2 ^ s) 4294967296
    rw [hz] at hdm
    generalize dg a i * 2 ^ s % 4294967296 = lw at *
    have e5 : dg a i * 4294967296 ^ i * 2 ^ s = lw * 4294967296 ^ i := by rw [show lw = dg a i * 2 ^ s by omega]; grind
    grind
   rw [dg_set, if_neg (by omega)]; exact h.rest t (by omega)
  obtain ⟨r, g1, g2⟩ := shift_loop ha hf hs hn hn2 hfit0 m (i + 1) _ (by omega) hinv
  refine ⟨r, Ev.step (fun k => ?_) g1, g2⟩
  rw [n_shift.l0, hw, if_pos c1, if_pos c2, if_pos c1, if_pos c3, if_pos c4, rd_dg, rd_dg, shl_u64 (ha i).1 (ha i).2 hs, e1, Option.bind_some, if_neg c6]
  rfl
theorem shift_ev {a : List Int} (ha : Dg a) (hf : a.length ≤ 100000) {s : Nat} (hs : s < 32) {n : Nat} (hn : a.length ≤ n) (hn2 : n ≤ 100001) (hfit : vl a * 2 ^ s < 4294967296 ^ n) :
  ∃ r, Ev (fun k => n_shift.f k a (s : Int) (n : Int)) r ∧ Dg r ∧ r.length = n ∧ vl r = vl a * 2 ^ s := by
 obtain ⟨r, g1, g2⟩ := shift_loop ha hf hs hn hn2 ⟨hfit⟩ a.length 0 _ (by omega) (ShInv.start a s n)
 refine ⟨r, Ev.same (fun k => ?_) g1, g2.dgs, g2.len, ?_⟩
 ·rw [n_shift.f, if_pos (by omega), if_pos (by omega)]; rfl
 have := g2.low
 rw [← g2.len] at this
 exact this
end Go.Proofs.YtfnfjmeiaamheaaDoor.PA
