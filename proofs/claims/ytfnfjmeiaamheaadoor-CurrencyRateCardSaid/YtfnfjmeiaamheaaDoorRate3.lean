/- Texts of this claim, made small by a program of mine (wip/tools/small.py): words that the kit's print tool writes, walks, and what they rest on. -/
import Derived.Test.YtfnfjmeiaamheaaDoorRate2
import Derived.Shelf.Strings.Trim
import Derived.Shelf.Small.Utf8
import Derived.Shelf.Small.Bits
import Derived.Shelf.Small.Strs
import Derived.Shelf.Strings.Search1
import Derived.Shelf.Unicode.Decode
import Derived.Shelf.Strings.Runes
import Derived.Shelf.Strings.AsciiSet
import Derived.Shelf.Unicode.DecodeSlow
import Derived.Shelf.Unicode.DecodeAny
set_option linter.unusedVariables false
set_option linter.unusedSimpArgs false
namespace Go.Proofs.YtfnfjmeiaamheaaDoor.PA
open Go.RowKit Go.Proofs.YtfnfjmeiaamheaaDoorW.PrintWords Go.Proofs.YtfnfjmeiaamheaaDoorW.PrintLast Go.Proofs.YtfnfjmeiaamheaaDoorW.PrintMore
attribute [local go_sem] max2_int min2_int max_two min_two max_three min_three max_four min_four
def Wd (P S : List Int) (d : Kd Int) (e : Nat) (w : World) (base : Nat) (ok : Nat → Prop) (v : Value) (xs : List Int) : Prop :=
 ∃ g C c, v = .slice (some ⟨g, P.length, none⟩) xs.length c ∧ xs.length ≤ c ∧ C = P.length + c ∧ Kd.R d e w base ok (.slice (some ⟨g, 0, none⟩) (P ++ xs ++ S).length C) (P ++ xs ++ S)
namespace Wd
theorem add_plainP (g P j : Nat) : (⟨g, P, none⟩ : Addr).add j = ⟨g, P + j, none⟩ := by unfold Addr.add; split <;> simp_all
section
variable {P S xs : List Int} {k : IntKind} {e base g n cap c m : Nat} {w w' : World} {ok ok' : Nat → Prop} {v : Value} {A : Option Addr}
theorem mono (h : Wd P S (Kd.int k) e w base ok v xs) (hok : ∀ k, ok k → ok' k) : Wd P S (Kd.int k) e w base ok' v xs := by
 obtain ⟨g, C, c, hv, hl, hC, hR⟩ := h
 exact ⟨g, C, c, hv, hl, hC, Kd.R_mono hR hok⟩
theorem alloc (h : Wd P S (Kd.int k) e w base ok v xs) (o : Obj) : Wd P S (Kd.int k) e (w.alloc o) base ok v xs := by
 obtain ⟨g, C, c, hv, hl, hC, hR⟩ := h
 exact ⟨g, C, c, hv, hl, hC, Kd.R_alloc hR o⟩
theorem drew (h : Wd P S (Kd.int k) e w base ok v xs) : Wd P S (Kd.int k) e w.drew base ok v xs := by
 obtain ⟨g, C, c, hv, hl, hC, hR⟩ := h
 exact ⟨g, C, c, hv, hl, hC, Kd.R_drew hR⟩
theorem drewN (h : Wd P S (Kd.int k) e w base ok v xs) (m : Nat) : Wd P S (Kd.int k) e (w.drewN m) base ok v xs := by
 obtain ⟨g, C, c, hv, hl, hC, hR⟩ := h
 exact ⟨g, C, c, hv, hl, hC, Kd.R_drewN hR m⟩
theorem at_ (hq : w.drewN m = w') (h : Wd P S (Kd.int k) e w base ok v xs) : Wd P S (Kd.int k) e w' base ok v xs := by subst hq; exact drewN h m
theorem slice_ (h : Wd P S (Kd.int k) e w base ok v xs) : ∃ A c, v = .slice A xs.length c := by
 obtain ⟨g, C, c, hv, _⟩ := h
 exact ⟨_, _, hv⟩
theorem form (h : Wd P S (Kd.int k) e w base ok v xs) (hp : 0 < xs.length) : ∃ g cap, v = .slice (some ⟨g, P.length, none⟩) xs.length cap ∧ base ≤ g ∧ g < w.heap.size ∧ ∃ cells, w.heap[g]? = some (.cells cells e (0, 0)) := by
 obtain ⟨g, C, c, hv, _, _, hR⟩ := h
 obtain ⟨g', cap, he, h1, h2, h3⟩ := Kd.R_form hR (by simp only [List.length_append]; omega)
 injection he with ha _ _
 injection ha with ha
 injection ha with ha _ _
 subst ha
 exact ⟨g, c, hv, h1, h2, h3⟩
theorem ok_ (h : Wd P S (Kd.int k) e w base ok v xs) : ∀ k, v.ownBlock = some k → ok k := by
 obtain ⟨g, C, c, rfl, _, _, hR⟩ := h
 exact fun k hk => hR.1 k hk
theorem rdOf_mid (i : Int) (h0 : 0 ≤ i) (h1 : i < xs.length) : rdOf 0 (P ++ xs ++ S) ((P.length : Int) + i) = rdOf 0 xs i := by
 obtain ⟨j, rfl⟩ := Int.eq_ofNat_of_zero_le h0
 have hj : j < xs.length := by omega
 have e1 : ((P.length : Int) + (j : Int)).toNat = P.length + j := by omega
 simp only [rdOf, e1, Int.toNat_natCast]
 simp [List.append_assoc, List.getElem?_append_right, List.getElem?_append_left, hj]
theorem celln (d0 : Int) (h : Wd P S (Kd.int k) e w base ok (.slice (some ⟨g, P.length, none⟩) n cap) xs) (i : Int) (h0 : 0 ≤ i) (hi : i < n) : w.cell? ⟨g, P.length + i.toNat, none⟩ = some (.int k (rdOf 0 xs i)) ∧ w.frozen? ⟨g, P.length + i.toNat, none⟩ = false := by
 obtain ⟨g', C, c, hv, hl, hC, hR⟩ := h
 injection hv with ha hn hc
 injection ha with ha
 injection ha with ha _ _
 subst ha; subst hn
 have h2 := Kd.R_celln (0 : Int) hR ((P.length : Int) + i) (by omega) (by simp only [List.length_append]; omega)
 rw [show ((P.length : Int) + i).toNat = P.length + i.toNat by omega, rdOf_mid i h0 hi] at h2
 exact h2
theorem putg (h : Wd P S (Kd.int k) e w base ok (.slice (some ⟨g, P.length, none⟩) n cap) xs) (i : Int) (h0 : 0 ≤ i) (hi : i < n) (x : Int) : Wd P S (Kd.int k) e (w.setCell ⟨g, P.length + i.toNat, none⟩ (.int k x)) base ok (.slice (some ⟨g, P.length, none⟩) n cap) (xs.set i.toNat x) ∧ w.grownBy (w.setCell ⟨g, P.length + i.toNat, none⟩ (.int k x)) (some g) := by
 obtain ⟨g', C, c, hv, hl, hC, hR⟩ := h
 injection hv with ha hn hc
 injection ha with ha
 injection ha with ha _ _
 subst ha; subst hn; subst hc
 have h2 := Kd.R_putg hR ((P.length : Int) + i) x
 rw [show ((P.length : Int) + i).toNat = P.length + i.toNat by omega] at h2
 have e1 : (P ++ xs ++ S).set (P.length + i.toNat) x = P ++ xs.set i.toNat x ++ S := by
  rw [List.append_assoc, List.set_append_right _ _ (by omega), Nat.add_sub_cancel_left, List.set_append_left _ _ (by omega), ← List.append_assoc]
 rw [e1] at h2
 refine ⟨⟨g, C, cap, by rw [List.length_set], by rw [List.length_set]; exact hl, hC, ?_⟩, h2.2⟩
 have e2 : (P ++ xs.set i.toNat x ++ S).length = (P ++ xs ++ S).length := by simp
 rw [e2]
 exact h2.1
theorem reads' (h : Wd P S (Kd.int k) e w base ok (.slice A n c) xs) : n = xs.length ∧ n ≤ c ∧ (Kd.int k).C w A xs.length xs := by
 obtain ⟨g, C, c', hv, hl, hC, hR⟩ := h
 injection hv with ha hn hc
 subst ha; subst hn; subst hc
 refine ⟨rfl, hl, ?_⟩
 have h1 := (Kd.R_reads' hR).2.2
 have h2 := Kd.C_drop (m := P.length) (c := C) h1 (by simp only [List.length_append]; omega) (Kd.R_reads' hR).2.1
 have h3 := Kd.C_take (m := xs.length) h2 (by simp)
 rw [show ((P ++ xs ++ S).drop P.length).take xs.length = xs by simp [List.append_assoc]] at h3
 by_cases hP : C = P.length
 ·have : c = 0 := by omega
  have : xs.length = 0 := by omega
  have : xs = [] := List.eq_nil_of_length_eq_zero this
  subst this
  rw [if_pos hP] at h3
  exact ⟨rfl, by simp, fun hp => absurd hp (by simp)⟩
 rw [if_neg hP] at h3
 have ha : (⟨g, 0, none⟩ : Addr).add P.length = ⟨g, P.length, none⟩ := by
  unfold Addr.add
  by_cases h : P.length = 0 <;> simp [h]
 simpa [ha, show (Kd.int k).sz = 1 from rfl] using h3
end
end Wd
set_option maxHeartbeats 8000000 in
set_option maxRecDepth 100000 in
theorem n_step.callsW (P_ S_ : List Int) (k : Nat) (P0_ : Nat → Prop) (u9000_ : Value) (l0 : List Int) (A1 : Option Addr) (c1 : Nat) (l1 : List Int) (r1 : Int) (r2 : List Int) (w0 w : World) (hB : Below w0.heap.size w0 w) (ho0 : Wd P_ S_ (Kd.int .u32) 88 w w0.heap.size P0_ u9000_ l0) (hr1 : ∀ W_, Kept w W_ (fun k_ => P0_ k_) → Kd.C (Kd.int .u32) W_ A1 l1.length l1) (hc1 : l1.length ≤ c1) (h : n_step.f k l0 l1 = some (r1, r2)) :
  Calls Tryd.prog 81 #[u9000_, .slice A1 l1.length c1] w fun e w' => e = .returned (.int .u32 r1) ∧ Wd P_ S_ (Kd.int .u32) 88 w' w0.heap.size (fun k_ => (P0_ k_ ∨ w.heap.size ≤ k_)) u9000_ r2 ∧ Below w0.heap.size w0 w' ∧ Kept w w' (fun k_ => P0_ k_) := by
 have HO0 := Aside0.mk (show Wd P_ S_ (Kd.int .u32) 88 w w0.heap.size (fun k_ => (P0_ k_ ∨ w.heap.size ≤ k_)) u9000_ l0 from Wd.mono ho0 (fun k_ hk => (.inl hk)))
 have HR1 := Aside0.mk hr1
 have HC1 := Aside0.mk hc1
 clear hr1 hc1
 have HK := Aside0.mk (Kept.refl w (fun k_ => P0_ k_))
 have HW0 := Aside0.mk hB.size
 have HB := Aside0.mk hB
 clear hB
 have H : (if 0 ≤ (l1.length : Int) then (if (l1.length : Int) < (l0.length : Int) then (if 0 ≤ (wrap64 ((l1.length : Int) - 1)) then (if (wrap64 ((l1.length : Int) - 1)) < (l0.length : Int) then (if (wrap64 ((l1.length : Int) - 1)) < (l1.length : Int) then (if (IntKind.u64.wrap (rd l1 (wrap64 ((l1.length : Int) - 1)))) = 0 then (none) else (n_step.l0 k l0 l1 (l1.length : Int) (IntKind.u64.wrap (Int.tdiv (Go.bits .or .u64 (IntKind.u64.wrap ((IntKind.u64.wrap (rd l0 (l1.length : Int))) * 4294967296)) (IntKind.u64.wrap (rd l0 (wrap64 ((l1.length : Int) - 1))))) (IntKind.u64.wrap (rd l1 (wrap64 ((l1.length : Int) - 1)))))) (Int.tmod (Go.bits .or .u64 (IntKind.u64.wrap ((IntKind.u64.wrap (rd l0 (l1.length : Int))) * 4294967296)) (IntKind.u64.wrap (rd l0 (wrap64 ((l1.length : Int) - 1))))) (IntKind.u64.wrap (rd l1 (wrap64 ((l1.length : Int) - 1))))))) else (none)) else (none)) else (none)) else (none)) else (none)) = some (r1, r2) := h
 clear h
 by_cases c3 : 0 ≤ (l1.length : Int)
 rotate_left
 ·rw [if_neg c3] at H
  exact absurd H (by simp)
 rw [if_pos c3] at H
 have c3b0 : decide (0 ≤ (l1.length : Int)) = true := decide_eq_true c3
 have c3b1 : decide (0 ≤ l1.length) = true := decide_eq_true (by omega)
 clear c3
 by_cases c4 : (l1.length : Int) < (l0.length : Int)
 rotate_left
 ·rw [if_neg c4] at H
  exact absurd H (by simp)
 rw [if_pos c4] at H
 have c4b0 : decide ((l1.length : Int) < (l0.length : Int)) = true := decide_eq_true c4
 have c4b1 : decide (l1.length < l0.length) = true := decide_eq_true (Int.ofNat_lt.mp c4)
 clear c4
 obtain ⟨ji5, hji5⟩ : ∃ j_ : Int, (wrap64 ((l1.length : Int) - 1)) = j_ := ⟨_, rfl⟩
 replace H : (if 0 ≤ (ji5) then (if (ji5) < (l0.length : Int) then (if (ji5) < (l1.length : Int) then (if (IntKind.u64.wrap (rd l1 (ji5))) = 0 then (none) else (n_step.l0 k l0 l1 (l1.length : Int) (IntKind.u64.wrap (Int.tdiv (Go.bits .or .u64 (IntKind.u64.wrap ((IntKind.u64.wrap (rd l0 (l1.length : Int))) * 4294967296)) (IntKind.u64.wrap (rd l0 (ji5)))) (IntKind.u64.wrap (rd l1 (ji5))))) (Int.tmod (Go.bits .or .u64 (IntKind.u64.wrap ((IntKind.u64.wrap (rd l0 (l1.length : Int))) * 4294967296)) (IntKind.u64.wrap (rd l0 (ji5)))) (IntKind.u64.wrap (rd l1 (ji5)))))) else (none)) else (none)) else (none)) = some (r1, r2) := by first | (rw [hji5] at H; exact H) | (simp only [hji5] at H ⊢; exact H)
 have hji5w : (IntKind.i64.wrap ((l1.length : Int) - 1)) = ji5 := (i64_w _).trans hji5
 by_cases c6 : 0 ≤ (ji5)
 rotate_left
 ·rw [if_neg c6] at H
  exact absurd H (by simp)
 rw [if_pos c6] at H
 have c6b0 := decide_eq_true c6
 clear c6
 by_cases c7 : (ji5) < (l0.length : Int)
 rotate_left
 ·rw [if_neg c7] at H
  exact absurd H (by simp)
 rw [if_pos c7] at H
 have c7b0 := decide_eq_true c7
 clear c7
 by_cases c8 : (ji5) < (l1.length : Int)
 rotate_left
 ·rw [if_neg c8] at H
  exact absurd H (by simp)
 rw [if_pos c8] at H
 have c8b0 := decide_eq_true c8
 clear c8
 by_cases c9 : (IntKind.u64.wrap (rd l1 (ji5))) = 0
 ·rw [if_pos c9] at H
  exact absurd H (by simp)
 rw [if_neg c9] at H
 have c9b0 : ((IntKind.u64.wrap (rd l1 (ji5))) == 0) = false := beq_eq_false_iff_ne.mpr c9
 have c9b1 : ((IntKind.u64.wrap (rd l1 (ji5))) != 0) = true := bne_iff_ne.mpr c9
 have HC10 := Aside0.mk H
 clear H
 obtain ⟨Ao11, co11, eo11⟩ := Wd.slice_ HO0.out
 subst eo11
 have p147 : 0 ≤ ((l1.length : Int) : Int) := odt
 have q147 : (l1.length : Int) < (l0.length : Int) := odt
 obtain ⟨ad147, e147, hx147_0⟩ := Kd.at_int (Wd.reads' HO0.out).2.2 (l1.length : Int) p147 q147
 cases e147
 (try simp only [Go.IntWalk.toNatUp] at hx147_0)
 replace p147 := eq_true p147
 replace q147 := eq_true q147
 have p148 : 0 ≤ ((ji5) : Int) := odt
 have q148 : (ji5) < (l0.length : Int) := odt
 obtain ⟨ad148, e148, hx148_0⟩ := Kd.at_int (Wd.reads' HO0.out).2.2 (ji5) p148 q148
 obtain rfl : ad147 = ad148 := (by injection e148)
 replace p148 := eq_true p148
 replace q148 := eq_true q148
 have p149 : 0 ≤ ((ji5) : Int) := odt
 have q149 : (ji5) < (l1.length : Int) := odt
 obtain ⟨ad149, e149, hx149_0⟩ := Kd.at_int (Kd.C_kept_now HR1.out HK.out) (ji5) p149 q149
 cases e149
 replace p149 := eq_true p149
 replace q149 := eq_true q149
 have p150 : 0 ≤ ((ji5) : Int) := odt
 have q150 : (ji5) < (l1.length : Int) := odt
 obtain ⟨ad150, e150, hx150_0⟩ := Kd.at_int (Kd.C_kept_now HR1.out HK.out) (ji5) p150 q150
 obtain rfl : ad149 = ad150 := (by injection e150)
 replace p150 := eq_true p150
 replace q150 := eq_true q150
 go_enter Tryd.func81, Tryd.ntmps81
 go_upto_block 0 with (fail)
 repeat (go_quiet (fail); go_upto_block 0 with (fail))
 go_cut [7] (fun v7 wc => ∃ (kq : Nat) (x7_9 : Int), v7 = .int .u64 x7_9 ∧ Aside0 (n_step.j2 kq l0 l1 (l1.length : Int) x7_9 = some (r1, r2)) ∧ Aside0 (kq ≤ k) ∧ Aside0 (Wd P_ S_ (Kd.int .u32) 88 wc w0.heap.size (fun k_ => (P0_ k_ ∨ w.heap.size ≤ k_)) (.slice (some ad147) l0.length co11) l0) ∧ Aside0 (Kept w wc (fun k_ => P0_ k_)) ∧ Aside0 (Below w0.heap.size w0 wc))
 case first =>
  have H := HC10.out
  clear HC10
  have H' := Aside0.mk H
  clear H
  go_wp2
  repeat (go_quiet (fail); try go_wp2)
  go_loopg [7, 8] k (fun kq v7 v8 w' => ∃ (x7_1 : Int) (x8_1 : Int), v7 = .int .u64 x7_1 ∧ v8 = .int .u64 x8_1 ∧ Aside0 (n_step.l0 kq l0 l1 (l1.length : Int) x7_1 x8_1 = some (r1, r2)) ∧ Aside0 (kq ≤ k) ∧ Aside0 (Wd P_ S_ (Kd.int .u32) 88 w' w0.heap.size (fun k_ => (P0_ k_ ∨ w.heap.size ≤ k_)) (.slice (some ad147) l0.length co11) l0) ∧ Aside0 (Kept w w' (fun k_ => P0_ k_)) ∧ Aside0 (Below w0.heap.size w0 w'))
  case atStart => exact ⟨(IntKind.u64.wrap (Int.tdiv (Go.bits .or .u64 (IntKind.u64.wrap ((IntKind.u64.wrap (rd l0 (l1.length : Int))) * 4294967296)) (IntKind.u64.wrap (rd l0 (ji5)))) (IntKind.u64.wrap (rd l1 (ji5))))), (Int.tmod (Go.bits .or .u64 (IntKind.u64.wrap ((IntKind.u64.wrap (rd l0 (l1.length : Int))) * 4294967296)) (IntKind.u64.wrap (rd l0 (ji5)))) (IntKind.u64.wrap (rd l1 (ji5)))), (by first | rfl | (simp; done) | (simp only [← hji5] <;> (first | rfl | simp)) | (simp [*]; done)), (by first | rfl | (simp; done) | (simp only [← hji5] <;> (first | rfl | simp)) | (simp [*]; done)), H', ⟨Nat.le_refl _⟩, ⟨by (with_reducible repeat (first | apply Wd.alloc | apply Wd.drewN | apply Wd.drew)); exact HO0.out⟩, ⟨by repeat (first | (with_reducible first | exact HK.out | apply Kept.alloc | apply Kept.drewN | apply Kept.drew) | exact HK.out)⟩, ⟨bq HB.out⟩⟩
  case round =>
   clear H'
   try clear c1
   try clear p1
   try clear q1
   try clear hx1
   try clear p2
   try clear c3
   try clear c3b0
   try clear c3b1
   try clear c4
   try clear c4b0
   try clear c4b1
   try clear c6
   try clear c6b0
   try clear p6
   try clear c7
   try clear c7b0
   try clear c8
   try clear c8b0
   try clear c9
   try clear c9b0
   try clear c9b1
   try clear hx147_0
   try clear hx148_0
   try clear hx149_0
   try clear hx150_0
   try clear p147
   try clear p148
   try clear p149
   try clear p150
   try clear q147
   try clear q148
   try clear q149
   try clear q150
   obtain ⟨x7_1, x8_1, rfl, rfl, HA, HK1, HO_0, HK, HB⟩ := hrel
   cases gk with
   | zero => exact absurd HA.out (by simp [n_step.l0])
   | succ k1 =>
    have H := HA.out
    clear HA
    simp only [n_step.l0] at H
    have HC12 := Aside0.mk H
    clear H
    go_upto_region 4 with (fail)
    go_cut [69] (fun v69 wc => ∃ (kq : Nat) (x69_11 : Bool), v69 = .bool x69_11 ∧ Aside0 (n_step.j1 kq l0 l1 (l1.length : Int) x7_1 x8_1 x69_11 = some (r1, r2)) ∧ Aside0 (kq ≤ k1) ∧ Aside0 (Wd P_ S_ (Kd.int .u32) 88 wc w0.heap.size (fun k_ => (P0_ k_ ∨ w.heap.size ≤ k_)) (.slice (some ad147) l0.length co11) l0) ∧ Aside0 (Kept w wc (fun k_ => P0_ k_)) ∧ Aside0 (Below w0.heap.size w0 wc))
    case first =>
     have H := HC12.out
     clear HC12
     by_cases c13 : x7_1 ≥ 4294967296
     ·rw [if_pos c13] at H
      have c13b0 : decide (4294967296 ≤ x7_1) = true := decide_eq_true c13
      clear c13
      (first | rw [c13b0] | (simp only [i64_w, i32_w]; rw [c13b0]) | skip)
      have H' := Aside0.mk H
      clear H
      go_wp2
      repeat (go_quiet (fail); try go_wp2)
      go_meet
      case rel => exact ⟨_, (true), (by first | rfl | (simp; done) | (simp [*]; done)), H', ⟨by have := HK1.out; first | omega | exact Nat.le_refl _⟩, ⟨by (with_reducible repeat (first | apply Wd.alloc | apply Wd.drewN | apply Wd.drew)); exact HO_0.out⟩, ⟨by repeat (first | (with_reducible first | exact HK.out | apply Kept.alloc | apply Kept.drewN | apply Kept.drew) | exact HK.out)⟩, ⟨bq HB.out⟩⟩
     rw [if_neg c13] at H
     have c13b0 : decide (4294967296 ≤ x7_1) = false := decide_eq_false c13
     clear c13
     (first | rw [c13b0] | (simp only [i64_w, i32_w]; rw [c13b0]) | skip)
     obtain ⟨ji14, hji14⟩ : ∃ j_ : Int, (wrap64 ((l1.length : Int) - 2)) = j_ := ⟨_, rfl⟩
     replace H : (if 0 ≤ (ji14) then (if (ji14) < (l1.length : Int) then (if (ji14) < (l0.length : Int) then (n_step.j1 k1 l0 l1 (l1.length : Int) x7_1 x8_1 (decide ((IntKind.u64.wrap (x7_1 * (IntKind.u64.wrap (rd l1 (ji14))))) > (Go.bits .or .u64 (IntKind.u64.wrap (x8_1 * 4294967296)) (IntKind.u64.wrap (rd l0 (ji14))))))) else (none)) else (none)) else (none)) = some (r1, r2) := by first | (rw [hji14] at H; exact H) | (simp only [hji14] at H ⊢; exact H)
     have hji14w : (IntKind.i64.wrap ((l1.length : Int) - 2)) = ji14 := (i64_w _).trans hji14
     by_cases c15 : 0 ≤ (ji14)
     rotate_left
     ·rw [if_neg c15] at H
      exact absurd H (by simp)
     rw [if_pos c15] at H
     have c15b0 := decide_eq_true c15
     clear c15
     by_cases c16 : (ji14) < (l1.length : Int)
     rotate_left
     ·rw [if_neg c16] at H
      exact absurd H (by simp)
     rw [if_pos c16] at H
     have c16b0 := decide_eq_true c16
     clear c16
     by_cases c17 : (ji14) < (l0.length : Int)
     rotate_left
     ·rw [if_neg c17] at H
      exact absurd H (by simp)
     rw [if_pos c17] at H
     have c17b0 := decide_eq_true c17
     clear c17
     have H' := Aside0.mk H
     clear H
     have p151 : 0 ≤ ((ji14) : Int) := odt
     have q151 : (ji14) < (l1.length : Int) := odt
     obtain ⟨ad151, e151, hx151_0⟩ := Kd.at_int (Kd.C_kept_now HR1.out HK.out) (ji14) p151 q151
     obtain rfl : ad149 = ad151 := (by injection e151)
     replace p151 := eq_true p151
     replace q151 := eq_true q151
     have p152 : 0 ≤ ((ji14) : Int) := odt
     have q152 : (ji14) < (l0.length : Int) := odt
     obtain ⟨ad152, e152, hx152_0⟩ := Kd.at_int (Wd.reads' HO_0.out).2.2 (ji14) p152 q152
     obtain rfl : ad147 = ad152 := (by injection e152)
     replace p152 := eq_true p152
     replace q152 := eq_true q152
     go_wp2
     repeat (go_quiet (fail); try go_wp2)
     go_meet
     case rel => exact ⟨_, (decide ((IntKind.u64.wrap (x7_1 * (IntKind.u64.wrap (rd l1 (ji14))))) > (Go.bits .or .u64 (IntKind.u64.wrap (x8_1 * 4294967296)) (IntKind.u64.wrap (rd l0 (ji14)))))), (by first | rfl | (simp; done) | (simp only [← hji14] <;> (first | rfl | simp)) | (simp [*]; done)), H', ⟨by have := HK1.out; first | omega | exact Nat.le_refl _⟩, ⟨by (with_reducible repeat (first | apply Wd.alloc | apply Wd.drewN | apply Wd.drew)); exact HO_0.out⟩, ⟨by repeat (first | (with_reducible first | exact HK.out | apply Kept.alloc | apply Kept.drewN | apply Kept.drew) | exact HK.out)⟩, ⟨bq HB.out⟩⟩
    case rest =>
     clear HC12
     try clear c1
     try clear p1
     try clear q1
     try clear hx1
     try clear p2
     try clear c3
     try clear c3b0
     try clear c3b1
     try clear c4
     try clear c4b0
     try clear c4b1
     try clear c6
     try clear c6b0
     try clear p6
     try clear c7
     try clear c7b0
     try clear c8
     try clear c8b0
     try clear c9
     try clear c9b0
     try clear c9b1
     try clear c13
     try clear c13b0
     try clear p14
     try clear q14
     try clear hx14
     try clear c15
     try clear c15b0
     try clear p15
     try clear q15
     try clear hx15
     try clear c16
     try clear c16b0
     try clear c17
     try clear c17b0
     try clear hx147_0
     try clear hx148_0
     try clear hx149_0
     try clear hx150_0
     try clear hx151_0
     try clear hx152_0
     try clear p1
     try clear p147
     try clear p148
     try clear p149
     try clear p150
     try clear p151
     try clear p152
     try clear p2
     try clear p6
     try clear q1
     try clear q147
     try clear q148
     try clear q149
     try clear q150
     try clear q151
     try clear q152
     obtain ⟨kq, x69_11, rfl, HA, HJ11, HO_0, HK, HB⟩ := hcut
     cases kq with
     | zero => exact absurd HA.out (by simp [n_step.j1])
     | succ kj11 =>
      have H := HA.out
      clear HA
      simp only [n_step.j1] at H
      by_cases c18 : x69_11 = true
      rotate_left
      ·replace c18 := Bool.eq_false_iff.mpr c18
       subst c18
       rw [if_neg (show ¬ (false = true) by decide)] at H
       have H' := Aside0.mk H
       clear H
       go_wp2
       repeat (go_quiet (fail); try go_wp2)
       go_meet
       case rel => exact ⟨_, (x7_1), (by first | rfl | (simp; done) | (simp [*]; done)), H', ⟨by have := HK1.out; have := HJ11.out; first | omega | exact Nat.le_refl _⟩, ⟨by (with_reducible repeat (first | apply Wd.alloc | apply Wd.drewN | apply Wd.drew)); exact HO_0.out⟩, ⟨by repeat (first | (with_reducible first | exact HK.out | apply Kept.alloc | apply Kept.drewN | apply Kept.drew) | exact HK.out)⟩, ⟨bq HB.out⟩⟩
      subst c18
      rw [if_pos rfl] at H
      have hji19 := hji5
      replace H : (if 0 ≤ (ji5) then (if (ji5) < (l1.length : Int) then (if (IntKind.u64.wrap (x8_1 + (IntKind.u64.wrap (rd l1 (ji5))))) ≥ 4294967296 then (n_step.j2 kj11 l0 l1 (l1.length : Int) (IntKind.u64.wrap (x7_1 - 1))) else (n_step.l0 kj11 l0 l1 (l1.length : Int) (IntKind.u64.wrap (x7_1 - 1)) (IntKind.u64.wrap (x8_1 + (IntKind.u64.wrap (rd l1 (ji5))))))) else (none)) else (none)) = some (r1, r2) := by first | (rw [hji19] at H; exact H) | (simp only [hji19] at H ⊢; exact H)
      have hji19w : (IntKind.i64.wrap ((l1.length : Int) - 1)) = ji5 := (i64_w _).trans hji19
      by_cases c20 : 0 ≤ (ji5)
      rotate_left
      ·rw [if_neg c20] at H
       exact absurd H (by simp)
      rw [if_pos c20] at H
      have c20b0 := decide_eq_true c20
      clear c20
      by_cases c21 : (ji5) < (l1.length : Int)
      rotate_left
      ·rw [if_neg c21] at H
       exact absurd H (by simp)
      rw [if_pos c21] at H
      have c21b0 := decide_eq_true c21
      clear c21
      by_cases c22 : (IntKind.u64.wrap (x8_1 + (IntKind.u64.wrap (rd l1 (ji5))))) ≥ 4294967296
      ·rw [if_pos c22] at H
       have c22b0 : decide (4294967296 ≤ (IntKind.u64.wrap (x8_1 + (IntKind.u64.wrap (rd l1 (ji5)))))) = true := decide_eq_true c22
       clear c22
       have H' := Aside0.mk H
       clear H
       have p153 : 0 ≤ ((ji5) : Int) := odt
       have q153 : (ji5) < (l1.length : Int) := odt
       obtain ⟨ad153, e153, hx153_0⟩ := Kd.at_int (Kd.C_kept_now HR1.out HK.out) (ji5) p153 q153
       obtain rfl : ad149 = ad153 := (by injection e153)
       replace p153 := eq_true p153
       replace q153 := eq_true q153
       go_wp2
       go_meet
       case rel => exact ⟨_, (IntKind.u64.wrap (x7_1 - 1)), (by first | rfl | (simp; done) | (simp [*]; done)), H', ⟨by have := HK1.out; have := HJ11.out; first | omega | exact Nat.le_refl _⟩, ⟨by (with_reducible repeat (first | apply Wd.alloc | apply Wd.drewN | apply Wd.drew)); exact HO_0.out⟩, ⟨by repeat (first | (with_reducible first | exact HK.out | apply Kept.alloc | apply Kept.drewN | apply Kept.drew) | exact HK.out)⟩, ⟨bq HB.out⟩⟩
      rw [if_neg c22] at H
      have c22b0 : decide (4294967296 ≤ (IntKind.u64.wrap (x8_1 + (IntKind.u64.wrap (rd l1 (ji5)))))) = false := decide_eq_false c22
      clear c22
      have H' := Aside0.mk H
      clear H
      have p153 : 0 ≤ ((ji5) : Int) := odt
      have q153 : (ji5) < (l1.length : Int) := odt
      obtain ⟨ad153, e153, hx153_0⟩ := Kd.at_int (Kd.C_kept_now HR1.out HK.out) (ji5) p153 q153
      obtain rfl : ad149 = ad153 := (by injection e153)
      replace p153 := eq_true p153
      replace q153 := eq_true q153
      go_wp2
      go_roundg kj11
      case measure => have := HK1.out; have := HJ11.out; omega
      case rel => exact ⟨(IntKind.u64.wrap (x7_1 - 1)), (IntKind.u64.wrap (x8_1 + (IntKind.u64.wrap (rd l1 (ji5))))), (by first | rfl | (simp; done) | (simp [*]; done)), (by first | rfl | (simp; done) | (simp only [← hji19] <;> (first | rfl | simp)) | (simp [*]; done)), H', ⟨by have := HK1.out; have := HJ11.out; omega⟩, ⟨by (with_reducible repeat (first | apply Wd.alloc | apply Wd.drewN | apply Wd.drew)); exact HO_0.out⟩, ⟨by repeat (first | (with_reducible first | exact HK.out | apply Kept.alloc | apply Kept.drewN | apply Kept.drew) | exact HK.out)⟩, ⟨bq HB.out⟩⟩
 case rest =>
  clear HC10
  try clear c1
  try clear p1
  try clear q1
  try clear hx1
  try clear c2
  try clear p2
  try clear c3
  try clear c3b0
  try clear c3b1
  try clear c4
  try clear c4b0
  try clear c4b1
  try clear c6
  try clear c6b0
  try clear p6
  try clear c7
  try clear c7b0
  try clear c8
  try clear c8b0
  try clear c9
  try clear c9b0
  try clear c9b1
  try clear c13
  try clear c13b0
  try clear p14
  try clear q14
  try clear hx14
  try clear c15
  try clear c15b0
  try clear p15
  try clear q15
  try clear hx15
  try clear c16
  try clear c16b0
  try clear c17
  try clear c17b0
  try clear c18
  try clear c20
  try clear c20b0
  try clear c21
  try clear c21b0
  try clear c22
  try clear c22b0
  try clear hx147_0
  try clear hx148_0
  try clear hx149_0
  try clear hx150_0
  try clear hx151_0
  try clear hx152_0
  try clear hx153_0
  try clear p1
  try clear p14
  try clear p147
  try clear p148
  try clear p149
  try clear p15
  try clear p150
  try clear p151
  try clear p152
  try clear p153
  try clear p2
  try clear p6
  try clear q1
  try clear q14
  try clear q147
  try clear q148
  try clear q149
  try clear q15
  try clear q150
  try clear q151
  try clear q152
  try clear q153
  obtain ⟨kq, x7_9, rfl, HA, HJ9, HO_0, HK, HB⟩ := hcut
  cases kq with
  | zero => exact absurd HA.out (by simp [n_step.j2])
  | succ kj9 =>
   have H := HA.out
   clear HA
   simp only [n_step.j2] at H
   have H' := Aside0.mk H
   clear H
   go_wp2
   repeat (go_quiet (fail); try go_wp2)
   (try generalize Value.pointer (some (Addr.add ad147 l1.length)) = dp1_)
   (try generalize Value.pointer (some (Addr.add ad147 ji5.toNat)) = dp2_)
   go_loopg [9, 10, 84] kj9 (fun kq v9 v10 v84 w' => ∃ (x0_2 : List Int) (x9_2 : Int) (x10_2 : Int) (x84_2 : Int), v9 = .int .u64 x9_2 ∧ v10 = .int .u32 x10_2 ∧ v84 = .int .i64 x84_2 ∧ Aside0 (n_step.l1 kq x0_2 l1 (l1.length : Int) x7_9 x9_2 x10_2 l1 (l1.length : Int) x84_2 = some (r1, r2)) ∧ Aside0 (kq ≤ kj9) ∧ Aside0 (Wd P_ S_ (Kd.int .u32) 88 w' w0.heap.size (fun k_ => (P0_ k_ ∨ w.heap.size ≤ k_)) (.slice (some ad147) l0.length co11) x0_2) ∧ Aside0 (Kept w w' (fun k_ => P0_ k_)) ∧ Aside0 (Below w0.heap.size w0 w'))
   case atStart => exact ⟨(l0), (0), (0), (0), (by first | rfl | (simp; done) | (simp [*]; done)), (by first | rfl | (simp; done) | (simp [*]; done)), (by first | rfl | (simp; done) | (simp [*]; done)), H', ⟨Nat.le_refl _⟩, ⟨by (with_reducible repeat (first | apply Wd.alloc | apply Wd.drewN | apply Wd.drew)); exact HO_0.out⟩, ⟨by repeat (first | (with_reducible first | exact HK.out | apply Kept.alloc | apply Kept.drewN | apply Kept.drew) | exact HK.out)⟩, ⟨bq HB.out⟩⟩
   case round =>
    clear H'
    try clear c1
    try clear p1
    try clear q1
    try clear hx1
    try clear c2
    try clear p2
    try clear c3
    try clear c3b0
    try clear c3b1
    try clear c4
    try clear c4b0
    try clear c4b1
    try clear c6
    try clear c6b0
    try clear p6
    try clear c7
    try clear c7b0
    try clear c8
    try clear c8b0
    try clear c9
    try clear c9b0
    try clear c9b1
    try clear c13
    try clear c13b0
    try clear p14
    try clear q14
    try clear hx14
    try clear c15
    try clear c15b0
    try clear p15
    try clear q15
    try clear hx15
    try clear c16
    try clear c16b0
    try clear c17
    try clear c17b0
    try clear c18
    try clear c20
    try clear c20b0
    try clear c21
    try clear c21b0
    try clear c22
    try clear c22b0
    try clear hx147_0
    try clear hx148_0
    try clear hx149_0
    try clear hx150_0
    try clear hx151_0
    try clear hx152_0
    try clear hx153_0
    try clear p1
    try clear p14
    try clear p147
    try clear p148
    try clear p149
    try clear p15
    try clear p150
    try clear p151
    try clear p152
    try clear p153
    try clear p2
    try clear p6
    try clear q1
    try clear q14
    try clear q147
    try clear q148
    try clear q149
    try clear q15
    try clear q150
    try clear q151
    try clear q152
    try clear q153
    obtain ⟨x0_2, x9_2, x10_2, x84_2, rfl, rfl, rfl, HA, HK2, HO_0, HK, HB⟩ := hrel
    have hl0_2 := (Wd.reads' HO_0.out).1
    rw [hl0_2] at HO_0
    (try simp only [hl0_2])
    cases gk with
    | zero => exact absurd HA.out (by simp [n_step.l1])
    | succ k2 =>
     have H := HA.out
     clear HA
     simp only [n_step.l1] at H
     by_cases c23 : x84_2 < (l1.length : Int)
     ·rw [if_pos c23] at H
      have c23b0 := decide_eq_true c23
      clear c23
      by_cases c24 : 0 ≤ x84_2
      rotate_left
      ·rw [if_neg c24] at H
       exact absurd H (by simp)
      rw [if_pos c24] at H
      have c24b0 := decide_eq_true c24
      clear c24
      by_cases c25 : x84_2 < (l1.length : Int)
      rotate_left
      ·rw [if_neg c25] at H
       exact absurd H (by simp)
      rw [if_pos c25] at H
      have c25b0 := decide_eq_true c25
      clear c25
      by_cases c26 : x84_2 < (x0_2.length : Int)
      rotate_left
      ·rw [if_neg c26] at H
       exact absurd H (by simp)
      rw [if_pos c26] at H
      have c26b0 := decide_eq_true c26
      clear c26
      replace H := Option.bind_eq_some_iff.mp H
      obtain ⟨⟨t156, t157⟩, A270, H⟩ := H
      try dsimp only at H
      have A27 := Aside0.mk A270
      clear A270
      obtain ⟨y158, hy158⟩ : ∃ y_ : List Int, y_ = (x0_2.set (x84_2 : Int).toNat t156) := ⟨_, rfl⟩
      replace H : (n_step.l1 k2 y158 l1 (l1.length : Int) x7_9 ((IntKind.u64.wrap ((IntKind.u64.wrap (x7_9 * (IntKind.u64.wrap (rd l1 x84_2)))) + x9_2)) / 4294967296) t157 l1 (l1.length : Int) (wrap64 (x84_2 + 1))) = some (r1, r2) := by first | (rw [hy158]; with_reducible exact H) | (have H2_ := (Option.bind_some _ _).symm.trans H; rw [hy158]; with_reducible exact H2_) | (have H2_ := (Option.bind_some _ _).symm.trans H; with_reducible exact H2_) | with_reducible exact H | (rw [hy158]; exact H) | exact H
      have Ny158 := Aside0.mk hy158
      clear hy158
      have H' := Aside0.mk H
      clear H
      have p154 : 0 ≤ (x84_2 : Int) := odt
      have q154 : x84_2 < (l1.length : Int) := odt
      obtain ⟨ad154, e154, hx154_0⟩ := Kd.at_int (Kd.C_kept_now HR1.out HK.out) x84_2 p154 q154
      obtain rfl : ad149 = ad154 := (by injection e154)
      replace p154 := eq_true p154
      replace q154 := eq_true q154
      have p155 : 0 ≤ (x84_2 : Int) := odt
      have q155 : x84_2 < (x0_2.length : Int) := odt
      obtain ⟨ad155, e155, hx155_0⟩ := Kd.at_int (Wd.reads' HO_0.out).2.2 x84_2 p155 q155
      obtain rfl : ad147 = ad155 := (by injection e155)
      replace p155 := eq_true p155
      replace q155 := eq_true q155
      go_wp2_with (first | (go_at_call 91; (with_reducible refine (bits_Sub32.calls (rd x0_2 x84_2) ((IntKind.u64.wrap ((IntKind.u64.wrap (x7_9 * (IntKind.u64.wrap (rd l1 x84_2)))) + x9_2)) % 4294967296) x10_2 t156 t157 _ A27.out).mono ?_); rintro e w' ⟨rfl, ⟨nd, rfl⟩⟩; (try first | exact ⟨rfl, _, World.drewN_drewN _ _ _⟩ | exact ⟨rfl, _, Eq.trans (World.drewN_drewN _ _ _) (congrArg (World.drewN _) (Nat.add_assoc _ _ _))⟩); have p28 : 0 ≤ (x84_2 : Int) := odt; have q28 : (x84_2 : Int) < ((x0_2.length : Int) : Int) := odt; obtain ⟨go28, co28, eo28, gb28, gl28, cl28, HG28⟩ := Wd.form HO_0.out (by omega); (first | cases eo28 | (injection eo28 with ea_ en_ ec_; (first | subst ea_ | (injection ea_ with ea_; subst ea_)); subst ec_; clear en_)); have GB28 := Aside0.mk gb28; have GG28 := Aside0.mk HG28; clear gb28 gl28 HG28; have HMgo28 := Aside0.mk (show (P0_ go28 ∨ w.heap.size ≤ go28) from (Wd.ok_ HO_0.out _ rfl)); (first | simp only [Wd.add_plainP] at hx147_0 | skip); (first | simp only [Wd.add_plainP] at hx148_0 | skip); (first | simp only [Wd.add_plainP] at hx152_0 | skip); (first | simp only [Wd.add_plainP] at hx155_0 | skip); obtain ⟨hx28_0, hf28_0⟩ := Wd.celln 0 HO_0.out (x84_2 : Int) p28 q28; replace p28 := eq_true p28; replace q28 := eq_true q28; obtain ⟨hy29_, hz29_⟩ := Wd.celln 0 HO_0.out (x84_2 : Int) odt odt; have HP29 := Wd.putg HO_0.out (x84_2 : Int) (by first | exact of_eq_true (by with_reducible assumption) | with_reducible assumption | exact of_eq_true (by assumption) | assumption) (by first | exact of_eq_true (by with_reducible assumption) | with_reducible assumption | exact of_eq_true (by assumption) | assumption) t156) | ((with_reducible refine gate_store (t := 88) (p := 110) rfl ?_); (try (rw [drewN_self wr]; generalize hq_ : World.drewN wr _ = wr; have n0_ := Aside0.mk (Wd.at_ hq_ HO_0.out); have n1_ := Aside0.mk (kept_at hq_ HK.out); have n2_ := Aside0.mk (below_at hq_ HB.out); clear hq_ HO_0 HK HB; have HO_0 := n0_; have HK := n1_; have HB := n2_; clear n0_ n1_ n2_; (try (obtain ⟨hy29_, hz29_⟩ := Wd.celln 0 HO_0.out (x84_2 : Int) odt odt)); (try (have HP29 := Wd.putg HO_0.out (x84_2 : Int) (by first | exact of_eq_true (by with_reducible assumption) | with_reducible assumption | exact of_eq_true (by assumption) | assumption) (by first | exact of_eq_true (by with_reducible assumption) | with_reducible assumption | exact of_eq_true (by assumption) | assumption) t156)))); refine store_event (t := 88) (p := 110) (v := ?vo_w30) (w1 := (wr.setCell ⟨go28, P_.length + (x84_2 : Int).toNat, none⟩ (.int .u32 t156))) ?hg ?ho ?hn ?hr ?_; (case ho => rfl); (case hg => rfl); (case hn => rfl); (case hr => first | (go_simp; done) | (go_simp; rfl)); intro w30 hw; have hg : wr.grownBy w30 (some go28) := (by rw [hw]; exact HP29.2); have hp_ : Wd P_ S_ (Kd.int .u32) 88 w30 w0.heap.size (fun k_ => (P0_ k_ ∨ w.heap.size ≤ k_)) (.slice (some ⟨go28, P_.length, none⟩) x0_2.length co11) y158 := (by rw [hw, Ny158.out]; exact HP29.1); clear HP29; replace HB := am ((by rw [hw]; exact below_set (HB.out) GB28.out : Below w0.heap.size w0 w30)); replace HK := am (Kept.of_grown (S := (fun k_ => P0_ k_)) hg (by repeat (first | (with_reducible first | exact HK.out | apply Kept.alloc | apply Kept.drewN | apply Kept.drew) | exact HK.out)) (fun k_ e_ => (Wd.ok_ HO_0.out k_ e_))); replace HO_0 := am (hp_); clear hg hw hp_))
      (try simp only [← hl0_2])
      go_roundg k2
      case measure => have := HJ9.out; have := HK2.out; omega
      case rel => exact ⟨(y158), ((IntKind.u64.wrap ((IntKind.u64.wrap (x7_9 * (IntKind.u64.wrap (rd l1 x84_2)))) + x9_2)) / 4294967296), (t157), (wrap64 (x84_2 + 1)), (by first | rfl | (simp; done) | (simp [*]; done)), (by first | rfl | (simp; done) | (simp [*]; done)), (by first | rfl | (simp; done) | (simp [*]; done)), H', ⟨by have := HJ9.out; have := HK2.out; omega⟩, ⟨by (try simp only [hl0_2]); (with_reducible repeat (first | apply Wd.alloc | apply Wd.drewN | apply Wd.drew)); exact HO_0.out⟩, ⟨by repeat (first | (with_reducible first | exact HK.out | apply Kept.alloc | apply Kept.drewN | apply Kept.drew) | exact HK.out)⟩, ⟨bq HB.out⟩⟩
     rw [if_neg c23] at H
     have c23b0 := decide_eq_false c23
     clear c23
     by_cases c31 : 0 ≤ (l1.length : Int)
     rotate_left
     ·rw [if_neg c31] at H
      exact absurd H (by simp)
     rw [if_pos c31] at H
     have c31b0 : decide (0 ≤ (l1.length : Int)) = true := decide_eq_true c31
     have c31b1 : decide (0 ≤ l1.length) = true := decide_eq_true (by omega)
     clear c31
     by_cases c32 : (l1.length : Int) < (x0_2.length : Int)
     rotate_left
     ·rw [if_neg c32] at H
      exact absurd H (by simp)
     rw [if_pos c32] at H
     have c32b0 : decide ((l1.length : Int) < (x0_2.length : Int)) = true := decide_eq_true c32
     have c32b1 : decide (l1.length < x0_2.length) = true := decide_eq_true (Int.ofNat_lt.mp c32)
     clear c32
     replace H := Option.bind_eq_some_iff.mp H
     obtain ⟨⟨t160, t161⟩, A330, H⟩ := H
     try dsimp only at H
     have A33 := Aside0.mk A330
     clear A330
     obtain ⟨y162, hy162⟩ : ∃ y_ : List Int, y_ = (x0_2.set ((l1.length : Int) : Int).toNat t160) := ⟨_, rfl⟩
     replace H : (if t161 = 0 then (some ((x7_9) % 4294967296, y162)) else (n_step.l2 k2 y162 (l1.length : Int) x7_9 0 l1 (l1.length : Int) 0)) = some (r1, r2) := by first | (rw [hy162]; with_reducible exact H) | (have H2_ := (Option.bind_some _ _).symm.trans H; rw [hy162]; with_reducible exact H2_) | (have H2_ := (Option.bind_some _ _).symm.trans H; with_reducible exact H2_) | with_reducible exact H | (rw [hy162]; exact H) | exact H
     have Ny162 := Aside0.mk hy162
     clear hy162
     by_cases c35 : t161 = 0
     ·rw [if_pos c35] at H
      have c35b0 : (t161 == 0) = true := beq_iff_eq.mpr c35
      have c35b1 : (t161 != 0) = false := bne_eq_false_iff_eq.mpr c35
      clear c35
      simp only [Option.some.injEq, Prod.mk.injEq] at H
      obtain ⟨rfl, rfl⟩ := H
      have p159 : 0 ≤ ((l1.length : Int) : Int) := odt
      have q159 : (l1.length : Int) < (x0_2.length : Int) := odt
      obtain ⟨ad159, e159, hx159_0⟩ := Kd.at_int (Wd.reads' HO_0.out).2.2 (l1.length : Int) p159 q159
      obtain rfl : ad147 = ad159 := (by injection e159)
      (try simp only [Go.IntWalk.toNatUp] at hx159_0)
      (try simp only [hl0_2] at p159)
      (try simp only [hl0_2] at q159)
      (try simp only [hl0_2] at hx159_0)
      replace p159 := eq_true p159
      replace q159 := eq_true q159
      go_wp2_with (first | (go_at_call 91; (with_reducible refine (bits_Sub32.calls (rd x0_2 (l1.length : Int)) ((x9_2) % 4294967296) x10_2 t160 t161 _ A33.out).mono ?_); rintro e w' ⟨rfl, ⟨nd, rfl⟩⟩; (try first | exact ⟨rfl, _, World.drewN_drewN _ _ _⟩ | exact ⟨rfl, _, Eq.trans (World.drewN_drewN _ _ _) (congrArg (World.drewN _) (Nat.add_assoc _ _ _))⟩); have p34 : 0 ≤ ((l1.length : Int) : Int) := odt; have q34 : ((l1.length : Int) : Int) < ((x0_2.length : Int) : Int) := odt; obtain ⟨go34, co34, eo34, gb34, gl34, cl34, HG34⟩ := Wd.form HO_0.out (by omega); (first | cases eo34 | (injection eo34 with ea_ en_ ec_; (first | subst ea_ | (injection ea_ with ea_; subst ea_)); subst ec_; clear en_)); have GB34 := Aside0.mk gb34; have GG34 := Aside0.mk HG34; clear gb34 gl34 HG34; have HMgo34 := Aside0.mk (show (P0_ go34 ∨ w.heap.size ≤ go34) from (Wd.ok_ HO_0.out _ rfl)); (first | simp only [Wd.add_plainP] at hx159_0 | skip); obtain ⟨hx34_0, hf34_0⟩ := Wd.celln 0 HO_0.out ((l1.length : Int) : Int) p34 q34; replace p34 := eq_true p34; replace q34 := eq_true q34; obtain ⟨hy36_, hz36_⟩ := Wd.celln 0 HO_0.out ((l1.length : Int) : Int) odt odt; (try simp only [Go.IntWalk.toNatUp] at hy36_ hz36_); have HP36 := Wd.putg HO_0.out ((l1.length : Int) : Int) (by first | exact of_eq_true (by with_reducible assumption) | with_reducible assumption | exact of_eq_true (by assumption) | assumption) (by first | exact of_eq_true (by with_reducible assumption) | with_reducible assumption | exact of_eq_true (by assumption) | assumption) t160) | ((with_reducible refine gate_store (t := 88) (p := 125) rfl ?_); (try (rw [drewN_self wr]; generalize hq_ : World.drewN wr _ = wr; have n0_ := Aside0.mk (Wd.at_ hq_ HO_0.out); have n1_ := Aside0.mk (kept_at hq_ HK.out); have n2_ := Aside0.mk (below_at hq_ HB.out); clear hq_ HO_0 HK HB; have HO_0 := n0_; have HK := n1_; have HB := n2_; clear n0_ n1_ n2_; (try (obtain ⟨hy36_, hz36_⟩ := Wd.celln 0 HO_0.out ((l1.length : Int) : Int) odt odt)); (try (try simp only [Go.IntWalk.toNatUp] at hy36_ hz36_)); (try (have HP36 := Wd.putg HO_0.out ((l1.length : Int) : Int) (by first | exact of_eq_true (by with_reducible assumption) | with_reducible assumption | exact of_eq_true (by assumption) | assumption) (by first | exact of_eq_true (by with_reducible assumption) | with_reducible assumption | exact of_eq_true (by assumption) | assumption) t160)))); refine store_event (t := 88) (p := 125) (v := ?vo_w37) (w1 := (wr.setCell ⟨go34, P_.length + ((l1.length : Int) : Int).toNat, none⟩ (.int .u32 t160))) ?hg ?ho ?hn ?hr ?_; (case ho => rfl); (case hg => rfl); (case hn => rfl); (case hr => first | (go_simp; done) | (go_simp; rfl)); intro w37 hw; have hg : wr.grownBy w37 (some go34) := (by rw [hw]; exact HP36.2); have hp_ : Wd P_ S_ (Kd.int .u32) 88 w37 w0.heap.size (fun k_ => (P0_ k_ ∨ w.heap.size ≤ k_)) (.slice (some ⟨go34, P_.length, none⟩) x0_2.length co11) y162 := (by rw [hw, Ny162.out]; exact HP36.1); clear HP36; replace HB := am ((by rw [hw]; exact below_set (HB.out) GB34.out : Below w0.heap.size w0 w37)); replace HK := am (Kept.of_grown (S := (fun k_ => P0_ k_)) hg (by repeat (first | (with_reducible first | exact HK.out | apply Kept.alloc | apply Kept.drewN | apply Kept.drew) | exact HK.out)) (fun k_ e_ => (Wd.ok_ HO_0.out k_ e_))); replace HO_0 := am (hp_); clear hg hw hp_))
      go_ret
      exact ⟨by first | rfl | (simp [errW_none, errW_some] <;> rfl) | (simp only [← hji5]; first | rfl | (simp [errW_none, errW_some] <;> rfl)) | (simp [*, errW_none, errW_some] <;> rfl), (by first | exact (by (with_reducible repeat (first | apply Wd.alloc | apply Wd.drewN | apply Wd.drew)); exact HO_0.out) | (simp only [hl0_2]; exact (by (with_reducible repeat (first | apply Wd.alloc | apply Wd.drewN | apply Wd.drew)); exact HO_0.out))), bq HB.out, by repeat (first | (with_reducible first | exact HK.out | apply Kept.alloc | apply Kept.drewN | apply Kept.drew) | exact HK.out)⟩
     rw [if_neg c35] at H
     have c35b0 : (t161 == 0) = false := beq_eq_false_iff_ne.mpr c35
     have c35b1 : (t161 != 0) = true := bne_iff_ne.mpr c35
     have H' := Aside0.mk H
     clear H
     have p159 : 0 ≤ ((l1.length : Int) : Int) := odt
     have q159 : (l1.length : Int) < (x0_2.length : Int) := odt
     obtain ⟨ad159, e159, hx159_0⟩ := Kd.at_int (Wd.reads' HO_0.out).2.2 (l1.length : Int) p159 q159
     obtain rfl : ad147 = ad159 := (by injection e159)
     (try simp only [Go.IntWalk.toNatUp] at hx159_0)
     (try simp only [hl0_2] at p159)
     (try simp only [hl0_2] at q159)
     (try simp only [hl0_2] at hx159_0)
     replace p159 := eq_true p159
     replace q159 := eq_true q159
     go_wp2_with (first | (go_at_call 91; (with_reducible refine (bits_Sub32.calls (rd x0_2 (l1.length : Int)) ((x9_2) % 4294967296) x10_2 t160 t161 _ A33.out).mono ?_); rintro e w' ⟨rfl, ⟨nd, rfl⟩⟩; (try first | exact ⟨rfl, _, World.drewN_drewN _ _ _⟩ | exact ⟨rfl, _, Eq.trans (World.drewN_drewN _ _ _) (congrArg (World.drewN _) (Nat.add_assoc _ _ _))⟩); have p34 : 0 ≤ ((l1.length : Int) : Int) := odt; have q34 : ((l1.length : Int) : Int) < ((x0_2.length : Int) : Int) := odt; obtain ⟨go34, co34, eo34, gb34, gl34, cl34, HG34⟩ := Wd.form HO_0.out (by omega); (first | cases eo34 | (injection eo34 with ea_ en_ ec_; (first | subst ea_ | (injection ea_ with ea_; subst ea_)); subst ec_; clear en_)); have GB34 := Aside0.mk gb34; have GG34 := Aside0.mk HG34; clear gb34 gl34 HG34; have HMgo34 := Aside0.mk (show (P0_ go34 ∨ w.heap.size ≤ go34) from (Wd.ok_ HO_0.out _ rfl)); (first | simp only [Wd.add_plainP] at hx159_0 | skip); obtain ⟨hx34_0, hf34_0⟩ := Wd.celln 0 HO_0.out ((l1.length : Int) : Int) p34 q34; replace p34 := eq_true p34; replace q34 := eq_true q34; obtain ⟨hy38_, hz38_⟩ := Wd.celln 0 HO_0.out ((l1.length : Int) : Int) odt odt; (try simp only [Go.IntWalk.toNatUp] at hy38_ hz38_); have HP38 := Wd.putg HO_0.out ((l1.length : Int) : Int) (by first | exact of_eq_true (by with_reducible assumption) | with_reducible assumption | exact of_eq_true (by assumption) | assumption) (by first | exact of_eq_true (by with_reducible assumption) | with_reducible assumption | exact of_eq_true (by assumption) | assumption) t160) | ((with_reducible refine gate_store (t := 88) (p := 125) rfl ?_); (try (rw [drewN_self wr]; generalize hq_ : World.drewN wr _ = wr; have n0_ := Aside0.mk (Wd.at_ hq_ HO_0.out); have n1_ := Aside0.mk (kept_at hq_ HK.out); have n2_ := Aside0.mk (below_at hq_ HB.out); clear hq_ HO_0 HK HB; have HO_0 := n0_; have HK := n1_; have HB := n2_; clear n0_ n1_ n2_; (try (obtain ⟨hy38_, hz38_⟩ := Wd.celln 0 HO_0.out ((l1.length : Int) : Int) odt odt)); (try (try simp only [Go.IntWalk.toNatUp] at hy38_ hz38_)); (try (have HP38 := Wd.putg HO_0.out ((l1.length : Int) : Int) (by first | exact of_eq_true (by with_reducible assumption) | with_reducible assumption | exact of_eq_true (by assumption) | assumption) (by first | exact of_eq_true (by with_reducible assumption) | with_reducible assumption | exact of_eq_true (by assumption) | assumption) t160)))); refine store_event (t := 88) (p := 125) (v := ?vo_w39) (w1 := (wr.setCell ⟨go34, P_.length + ((l1.length : Int) : Int).toNat, none⟩ (.int .u32 t160))) ?hg ?ho ?hn ?hr ?_; (case ho => rfl); (case hg => rfl); (case hn => rfl); (case hr => first | (go_simp; done) | (go_simp; rfl)); intro w39 hw; have hg : wr.grownBy w39 (some go34) := (by rw [hw]; exact HP38.2); have hp_ : Wd P_ S_ (Kd.int .u32) 88 w39 w0.heap.size (fun k_ => (P0_ k_ ∨ w.heap.size ≤ k_)) (.slice (some ⟨go34, P_.length, none⟩) x0_2.length co11) y162 := (by rw [hw, Ny162.out]; exact HP38.1); clear HP38; replace HB := am ((by rw [hw]; exact below_set (HB.out) GB34.out : Below w0.heap.size w0 w39)); replace HK := am (Kept.of_grown (S := (fun k_ => P0_ k_)) hg (by repeat (first | (with_reducible first | exact HK.out | apply Kept.alloc | apply Kept.drewN | apply Kept.drew) | exact HK.out)) (fun k_ e_ => (Wd.ok_ HO_0.out k_ e_))); replace HO_0 := am (hp_); clear hg hw hp_))
     (try generalize Value.pointer (some (Addr.add ad147 l1.length)) = dp1_)
     (try generalize Value.pointer (some (Addr.add ad147 ji5.toNat)) = dp2_)
     go_loopg [14, 132] k2 (fun kq v14 v132 w' => ∃ (x0_3 : List Int) (x14_3 : Int) (x132_3 : Int), v14 = .int .u32 x14_3 ∧ v132 = .int .i64 x132_3 ∧ Aside0 (n_step.l2 kq x0_3 (l1.length : Int) x7_9 x14_3 l1 (l1.length : Int) x132_3 = some (r1, r2)) ∧ Aside0 (kq ≤ k2) ∧ Aside0 (Wd P_ S_ (Kd.int .u32) 88 w' w0.heap.size (fun k_ => (P0_ k_ ∨ w.heap.size ≤ k_)) (.slice (some ⟨go34, P_.length, none⟩) x0_2.length co11) x0_3) ∧ Aside0 (Kept w w' (fun k_ => P0_ k_)) ∧ Aside0 (Below w0.heap.size w0 w'))
     case atStart => exact ⟨(y162), (0), (0), (by first | rfl | (simp; done) | (simp [*]; done)), (by first | rfl | (simp; done) | (simp [*]; done)), H', ⟨Nat.le_refl _⟩, ⟨by (try simp only [hl0_2]); (with_reducible repeat (first | apply Wd.alloc | apply Wd.drewN | apply Wd.drew)); exact HO_0.out⟩, ⟨by repeat (first | (with_reducible first | exact HK.out | apply Kept.alloc | apply Kept.drewN | apply Kept.drew) | exact HK.out)⟩, ⟨bq HB.out⟩⟩
     case round =>
      clear H'
      try clear c1
      try clear p1
      try clear q1
      try clear hx1
      try clear c2
      try clear p2
      try clear q2
      try clear hx2
      try clear hf2
      try clear c3
      try clear c3b0
      try clear c3b1
      try clear p3
      try clear q3
      try clear hx3
      try clear hf3
      try clear c4
      try clear c4b0
      try clear c4b1
      try clear c6
      try clear c6b0
      try clear p6
      try clear c7
      try clear c7b0
      try clear c8
      try clear c8b0
      try clear c9
      try clear c9b0
      try clear c9b1
      try clear c13
      try clear c13b0
      try clear p14
      try clear q14
      try clear hx14
      try clear c15
      try clear c15b0
      try clear p15
      try clear q15
      try clear hx15
      try clear c16
      try clear c16b0
      try clear c17
      try clear c17b0
      try clear c18
      try clear c20
      try clear c20b0
      try clear c21
      try clear c21b0
      try clear c22
      try clear c22b0
      try clear c23
      try clear c23b0
      try clear c24
      try clear c24b0
      try clear c25
      try clear c25b0
      try clear c26
      try clear c26b0
      try clear p28
      try clear q28
      try clear hx28
      try clear hf28
      try clear c31
      try clear c31b0
      try clear c31b1
      try clear c32
      try clear c32b0
      try clear c32b1
      try clear p34
      try clear q34
      try clear hx34
      try clear hf34
      try clear c35
      try clear c35b0
      try clear c35b1
      try clear hx147_0
      try clear hx148_0
      try clear hx149_0
      try clear hx150_0
      try clear hx151_0
      try clear hx152_0
      try clear hx153_0
      try clear hx154_0
      try clear hx155_0
      try clear hx159_0
      try clear hx28_0
      try clear hx34_0
      try clear p1
      try clear p14
      try clear p147
      try clear p148
      try clear p149
      try clear p15
      try clear p150
      try clear p151
      try clear p152
      try clear p153
      try clear p154
      try clear p155
      try clear p159
      try clear p2
      try clear p28
      try clear p34
      try clear p6
      try clear q1
      try clear q14
      try clear q147
      try clear q148
      try clear q149
      try clear q15
      try clear q150
      try clear q151
      try clear q152
      try clear q153
      try clear q154
      try clear q155
      try clear q159
      try clear q28
      try clear q34
      obtain ⟨x0_3, x14_3, x132_3, rfl, rfl, HA, HK3, HO_0, HK, HB⟩ := hrel
      have hl0_3 := (Wd.reads' HO_0.out).1
      rw [hl0_3] at HO_0
      (try simp only [hl0_3])
      cases gk with
      | zero => exact absurd HA.out (by simp [n_step.l2])
      | succ k3 =>
       have H := HA.out
       clear HA
       simp only [n_step.l2] at H
       by_cases c40 : x132_3 < (l1.length : Int)
       rotate_left
       ·rw [if_neg c40] at H
        have c40b0 := decide_eq_false c40
        clear c40
        by_cases c48 : 0 ≤ (l1.length : Int)
        rotate_left
        ·rw [if_neg c48] at H
         exact absurd H (by simp)
        rw [if_pos c48] at H
        have c48b0 : decide (0 ≤ (l1.length : Int)) = true := decide_eq_true c48
        have c48b1 : decide (0 ≤ l1.length) = true := decide_eq_true (by omega)
        clear c48
        by_cases c49 : (l1.length : Int) < (x0_3.length : Int)
        rotate_left
        ·rw [if_neg c49] at H
         exact absurd H (by simp)
        rw [if_pos c49] at H
        have c49b0 : decide ((l1.length : Int) < (x0_3.length : Int)) = true := decide_eq_true c49
        have c49b1 : decide (l1.length < x0_3.length) = true := decide_eq_true (Int.ofNat_lt.mp c49)
        clear c49
        obtain ⟨y169, hy169⟩ : ∃ y_ : List Int, y_ = (x0_3.set ((l1.length : Int) : Int).toNat (((rd x0_3 (l1.length : Int)) + x14_3) % 4294967296)) := ⟨_, rfl⟩
        replace H : (some ((IntKind.u64.wrap (x7_9 - 1)) % 4294967296, y169)) = some (r1, r2) := by first | (rw [hy169]; with_reducible exact H) | (have H2_ := (Option.bind_some _ _).symm.trans H; rw [hy169]; with_reducible exact H2_) | (have H2_ := (Option.bind_some _ _).symm.trans H; with_reducible exact H2_) | with_reducible exact H | (rw [hy169]; exact H) | exact H
        have Ny169 := Aside0.mk hy169
        clear hy169
        simp only [Option.some.injEq, Prod.mk.injEq] at H
        obtain ⟨rfl, rfl⟩ := H
        have p168 : 0 ≤ ((l1.length : Int) : Int) := odt
        have q168 : (l1.length : Int) < (x0_3.length : Int) := odt
        obtain ⟨ad168, e168, hx168_0⟩ := Kd.at_int (Wd.reads' HO_0.out).2.2 (l1.length : Int) p168 q168
        obtain rfl : (⟨go34, P_.length, none⟩ : Addr) = ad168 := (by injection e168)
        (first | simp only [Wd.add_plainP] at hx168_0 | simp only [add_at] at hx168_0 | simp only [Addr.add, Nat.zero_add] at hx168_0 | skip)
        (try simp only [Go.IntWalk.toNatUp] at hx168_0)
        (try simp only [hl0_2, hl0_3] at p168)
        (try simp only [hl0_2, hl0_3] at q168)
        (try simp only [hl0_2, hl0_3] at hx168_0)
        replace p168 := eq_true p168
        replace q168 := eq_true q168
        have p50 : 0 ≤ ((l1.length : Int) : Int) := odt
        have q50 : ((l1.length : Int) : Int) < ((x0_3.length : Int) : Int) := odt
        obtain ⟨hx50_0, hf50_0⟩ := Wd.celln 0 HO_0.out ((l1.length : Int) : Int) p50 q50
        (try (have hx50_0n_ := hx50_0; have hf50_0n_ := hf50_0; simp only [Int.toNat_natCast] at hx50_0n_ hf50_0n_))
        replace p50 := eq_true p50
        replace q50 := eq_true q50
        have HP51 := Wd.putg HO_0.out ((l1.length : Int) : Int) (by first | exact of_eq_true (by with_reducible assumption) | with_reducible assumption | exact of_eq_true (by assumption) | assumption) (by first | exact of_eq_true (by with_reducible assumption) | with_reducible assumption | exact of_eq_true (by assumption) | assumption) (((rd x0_3 (l1.length : Int)) + x14_3) % 4294967296)
        go_wp2_with (first | ((with_reducible refine gate_store (t := 88) (p := 157) rfl ?_); (try (rw [drewN_self wr]; generalize hq_ : World.drewN wr _ = wr; have n0_ := Aside0.mk (Wd.at_ hq_ HO_0.out); have n1_ := Aside0.mk (kept_at hq_ HK.out); have n2_ := Aside0.mk (below_at hq_ HB.out); clear hq_ HO_0 HK HB; have HO_0 := n0_; have HK := n1_; have HB := n2_; clear n0_ n1_ n2_; (try (obtain ⟨hx50_0, hf50_0⟩ := Wd.celln 0 HO_0.out ((l1.length : Int) : Int) (of_eq_true p50) (of_eq_true q50)); (try (have hx50_0n_ := hx50_0; have hf50_0n_ := hf50_0; simp only [Int.toNat_natCast] at hx50_0n_ hf50_0n_))); (try (have HP51 := Wd.putg HO_0.out ((l1.length : Int) : Int) (by first | exact of_eq_true (by with_reducible assumption) | with_reducible assumption | exact of_eq_true (by assumption) | assumption) (by first | exact of_eq_true (by with_reducible assumption) | with_reducible assumption | exact of_eq_true (by assumption) | assumption) (((rd x0_3 (l1.length : Int)) + x14_3) % 4294967296))))); refine store_event (t := 88) (p := 157) (v := ?vo_w52) (w1 := (wr.setCell ⟨go34, P_.length + ((l1.length : Int) : Int).toNat, none⟩ (.int .u32 (((rd x0_3 (l1.length : Int)) + x14_3) % 4294967296)))) ?hg ?ho ?hn ?hr ?_; (case ho => rfl); (case hg => rfl); (case hn => rfl); (case hr => first | (go_simp; done) | (go_simp; rfl)); intro w52 hw; have hg : wr.grownBy w52 (some go34) := (by rw [hw]; exact HP51.2); have hp_ : Wd P_ S_ (Kd.int .u32) 88 w52 w0.heap.size (fun k_ => (P0_ k_ ∨ w.heap.size ≤ k_)) (.slice (some ⟨go34, P_.length, none⟩) x0_3.length co11) y169 := (by rw [hw, Ny169.out]; exact HP51.1); clear HP51; replace HB := am ((by rw [hw]; exact below_set (HB.out) GB34.out : Below w0.heap.size w0 w52)); replace HK := am (Kept.of_grown (S := (fun k_ => P0_ k_)) hg (by repeat (first | (with_reducible first | exact HK.out | apply Kept.alloc | apply Kept.drewN | apply Kept.drew) | exact HK.out)) (fun k_ e_ => (Wd.ok_ HO_0.out k_ e_))); replace HO_0 := am (hp_); clear hg hw hp_))
        go_ret
        exact ⟨by first | rfl | (simp [errW_none, errW_some] <;> rfl) | (simp only [← hji5]; first | rfl | (simp [errW_none, errW_some] <;> rfl)) | (simp [*, errW_none, errW_some] <;> rfl), (by first | exact (by (with_reducible repeat (first | apply Wd.alloc | apply Wd.drewN | apply Wd.drew)); exact HO_0.out) | (simp only [hl0_2, hl0_3]; exact (by (with_reducible repeat (first | apply Wd.alloc | apply Wd.drewN | apply Wd.drew)); exact HO_0.out))), bq HB.out, by repeat (first | (with_reducible first | exact HK.out | apply Kept.alloc | apply Kept.drewN | apply Kept.drew) | exact HK.out)⟩
       rw [if_pos c40] at H
       have c40b0 := decide_eq_true c40
       clear c40
       by_cases c41 : 0 ≤ x132_3
       rotate_left
       ·rw [if_neg c41] at H
        exact absurd H (by simp)
       rw [if_pos c41] at H
       have c41b0 := decide_eq_true c41
       clear c41
       by_cases c42 : x132_3 < (l1.length : Int)
       rotate_left
       ·rw [if_neg c42] at H
        exact absurd H (by simp)
       rw [if_pos c42] at H
       have c42b0 := decide_eq_true c42
       clear c42
       by_cases c43 : x132_3 < (x0_3.length : Int)
       rotate_left
       ·rw [if_neg c43] at H
        exact absurd H (by simp)
       rw [if_pos c43] at H
       have c43b0 := decide_eq_true c43
       clear c43
       replace H := Option.bind_eq_some_iff.mp H
       obtain ⟨⟨t165, t166⟩, A440, H⟩ := H
       try dsimp only at H
       have A44 := Aside0.mk A440
       clear A440
       obtain ⟨y167, hy167⟩ : ∃ y_ : List Int, y_ = (x0_3.set (x132_3 : Int).toNat t165) := ⟨_, rfl⟩
       replace H : (n_step.l2 k3 y167 (l1.length : Int) x7_9 t166 l1 (l1.length : Int) (wrap64 (x132_3 + 1))) = some (r1, r2) := by first | (rw [hy167]; with_reducible exact H) | (have H2_ := (Option.bind_some _ _).symm.trans H; rw [hy167]; with_reducible exact H2_) | (have H2_ := (Option.bind_some _ _).symm.trans H; with_reducible exact H2_) | with_reducible exact H | (rw [hy167]; exact H) | exact H
       have Ny167 := Aside0.mk hy167
       clear hy167
       have H' := Aside0.mk H
       clear H
       have p163 : 0 ≤ (x132_3 : Int) := odt
       have q163 : x132_3 < (l1.length : Int) := odt
       obtain ⟨ad163, e163, hx163_0⟩ := Kd.at_int (Kd.C_kept_now HR1.out HK.out) x132_3 p163 q163
       obtain rfl : ad149 = ad163 := (by injection e163)
       replace p163 := eq_true p163
       replace q163 := eq_true q163
       have p164 : 0 ≤ (x132_3 : Int) := odt
       have q164 : x132_3 < (x0_3.length : Int) := odt
       obtain ⟨ad164, e164, hx164_0⟩ := Kd.at_int (Wd.reads' HO_0.out).2.2 x132_3 p164 q164
       obtain rfl : (⟨go34, P_.length, none⟩ : Addr) = ad164 := (by injection e164)
       (first | simp only [Wd.add_plainP] at hx164_0 | simp only [add_at] at hx164_0 | simp only [Addr.add, Nat.zero_add] at hx164_0 | skip)
       replace p164 := eq_true p164
       replace q164 := eq_true q164
       go_wp2_with (first | (go_at_call 92; (with_reducible refine (bits_Add32.calls (rd x0_3 x132_3) (rd l1 x132_3) x14_3 t165 t166 _ A44.out).mono ?_); rintro e w' ⟨rfl, ⟨nd, rfl⟩⟩; (try first | exact ⟨rfl, _, World.drewN_drewN _ _ _⟩ | exact ⟨rfl, _, Eq.trans (World.drewN_drewN _ _ _) (congrArg (World.drewN _) (Nat.add_assoc _ _ _))⟩); have p45 : 0 ≤ (x132_3 : Int) := odt; have q45 : (x132_3 : Int) < ((x0_3.length : Int) : Int) := odt; obtain ⟨hx45_0, hf45_0⟩ := Wd.celln 0 HO_0.out (x132_3 : Int) p45 q45; replace p45 := eq_true p45; replace q45 := eq_true q45; obtain ⟨hy46_, hz46_⟩ := Wd.celln 0 HO_0.out (x132_3 : Int) odt odt; have HP46 := Wd.putg HO_0.out (x132_3 : Int) (by first | exact of_eq_true (by with_reducible assumption) | with_reducible assumption | exact of_eq_true (by assumption) | assumption) (by first | exact of_eq_true (by with_reducible assumption) | with_reducible assumption | exact of_eq_true (by assumption) | assumption) t165) | ((with_reducible refine gate_store (t := 88) (p := 149) rfl ?_); (try (rw [drewN_self wr]; generalize hq_ : World.drewN wr _ = wr; have n0_ := Aside0.mk (Wd.at_ hq_ HO_0.out); have n1_ := Aside0.mk (kept_at hq_ HK.out); have n2_ := Aside0.mk (below_at hq_ HB.out); clear hq_ HO_0 HK HB; have HO_0 := n0_; have HK := n1_; have HB := n2_; clear n0_ n1_ n2_; (try (obtain ⟨hy46_, hz46_⟩ := Wd.celln 0 HO_0.out (x132_3 : Int) odt odt)); (try (have HP46 := Wd.putg HO_0.out (x132_3 : Int) (by first | exact of_eq_true (by with_reducible assumption) | with_reducible assumption | exact of_eq_true (by assumption) | assumption) (by first | exact of_eq_true (by with_reducible assumption) | with_reducible assumption | exact of_eq_true (by assumption) | assumption) t165)))); refine store_event (t := 88) (p := 149) (v := ?vo_w47) (w1 := (wr.setCell ⟨go34, P_.length + (x132_3 : Int).toNat, none⟩ (.int .u32 t165))) ?hg ?ho ?hn ?hr ?_; (case ho => rfl); (case hg => rfl); (case hn => rfl); (case hr => first | (go_simp; done) | (go_simp; rfl)); intro w47 hw; have hg : wr.grownBy w47 (some go34) := (by rw [hw]; exact HP46.2); have hp_ : Wd P_ S_ (Kd.int .u32) 88 w47 w0.heap.size (fun k_ => (P0_ k_ ∨ w.heap.size ≤ k_)) (.slice (some ⟨go34, P_.length, none⟩) x0_3.length co11) y167 := (by rw [hw, Ny167.out]; exact HP46.1); clear HP46; replace HB := am ((by rw [hw]; exact below_set (HB.out) GB34.out : Below w0.heap.size w0 w47)); replace HK := am (Kept.of_grown (S := (fun k_ => P0_ k_)) hg (by repeat (first | (with_reducible first | exact HK.out | apply Kept.alloc | apply Kept.drewN | apply Kept.drew) | exact HK.out)) (fun k_ e_ => (Wd.ok_ HO_0.out k_ e_))); replace HO_0 := am (hp_); clear hg hw hp_))
       (try simp only [← hl0_3])
       go_roundg k3
       case measure => have := HJ9.out; have := HK2.out; have := HK3.out; omega
       case rel => exact ⟨(y167), (t166), (wrap64 (x132_3 + 1)), (by first | rfl | (simp; done) | (simp [*]; done)), (by first | rfl | (simp; done) | (simp [*]; done)), H', ⟨by have := HJ9.out; have := HK2.out; have := HK3.out; omega⟩, ⟨by (try simp only [hl0_2]); (try simp only [hl0_3]); (with_reducible repeat (first | apply Wd.alloc | apply Wd.drewN | apply Wd.drew)); exact HO_0.out⟩, ⟨by repeat (first | (with_reducible first | exact HK.out | apply Kept.alloc | apply Kept.drewN | apply Kept.drew) | exact HK.out)⟩, ⟨bq HB.out⟩⟩
def n_step_at.f (k : Nat) (l0 : List Int) (l1 : List Int) (a2 : Int) (a3 : Int) : Option (Int × List Int) :=
 if 0 ≤ a2 ∧ a2 < a3 ∧ a3 ≤ l0.length then (n_step.f k ((l0.drop a2.toNat).take (a3.toNat - a2.toNat)) l1).bind fun r => some (r.1, l0.take a2.toNat ++ r.2 ++ l0.drop a3.toNat) else none
theorem n_step_at.cut {k : Nat} {l0 l1 : List Int} {a2 a3 : Int} {r : Int × List Int} {A : Option Addr} {n c : Nat} (hn : n = l0.length) (h : n_step_at.f k l0 l1 a2 a3 = some r) (hc : n ≤ c) :
  ∀ W : World, (Instr.slice 83 (.slice A n c) (some (.int .i64 a2)) (some (.int .i64 a3)) none).run Tryd.prog W = .ok (.slice (A.map fun x => x.add a2.toNat) (a3.toNat - a2.toNat) (c - a2.toNat)) W := by
 unfold n_step_at.f at h
 split at h
 ·rename_i hb
  obtain ⟨i0, hi, hzz⟩ := Option.map_eq_some_iff.1 info88
  simp only [Prod.mk.injEq] at hzz
  intro W
  have h1 := cut_mid (P := Tryd.prog) 83 88 .i64 .i64 Tryd.underlying83 hi 1 hzz.2.1 A n c a2 a3 hb.1 (by omega) (by omega) hc W
  rw [if_neg (by omega), Nat.mul_one] at h1
  exact h1
 cases h
theorem n_step_at.calls (k : Nat) (P0_ : Nat → Prop) (uv : Value) (A : Option Addr) (n c : Nat) (l0 : List Int) (A1 : Option Addr) (c1 : Nat) (l1 : List Int) (a2 : Int) (a3 : Int) (r1 : Int) (r2 : List Int) (w0 w : World) (hB : Below w0.heap.size w0 w) (ho0 : Kd.R (Kd.int .u32) 88 w w0.heap.size P0_ (.slice A n c) l0) (hr1 : ∀ W_, Kept w W_ (fun k_ => P0_ k_) → Kd.C (Kd.int .u32) W_ A1 l1.length l1) (hc1 : l1.length ≤ c1)
  (huv : uv = .slice (A.map fun x => x.add a2.toNat) (a3.toNat - a2.toNat) (c - a2.toNat)) (h : n_step_at.f k l0 l1 a2 a3 = some (r1, r2)) :
  Calls Tryd.prog 81 #[uv, .slice A1 l1.length c1] w fun e w' => e = .returned (.int .u32 r1) ∧ Kd.R (Kd.int .u32) 88 w' w0.heap.size (fun k_ => (P0_ k_ ∨ w.heap.size ≤ k_)) (.slice A n c) r2 ∧ Below w0.heap.size w0 w' ∧ Kept w w' (fun k_ => P0_ k_) := by
 unfold n_step_at.f at h
 split at h
 ·rename_i hb
  obtain ⟨h0, h1, h2⟩ := hb
  obtain ⟨⟨q, r⟩, hs, hr⟩ := Option.bind_eq_some_iff.mp h
  simp only [Option.some.injEq, Prod.mk.injEq] at hr
  obtain ⟨rfl, rfl⟩ := hr
  obtain ⟨hn, hnc, _⟩ := Kd.R_reads' ho0
  obtain ⟨g, cap, he, _⟩ := Kd.R_form ho0 (by omega)
  injection he with ea en ec
  subst ea; subst ec
  obtain ⟨P, hP⟩ : ∃ P, P = l0.take a2.toNat := ⟨_, rfl⟩
  obtain ⟨X, hX⟩ : ∃ X, X = (l0.drop a2.toNat).take (a3.toNat - a2.toNat) := ⟨_, rfl⟩
  obtain ⟨S, hS⟩ : ∃ S, S = l0.drop a3.toNat := ⟨_, rfl⟩
  have hPl : P.length = a2.toNat := by rw [hP, List.length_take]; omega
  have hXl : X.length = a3.toNat - a2.toNat := by rw [hX, List.length_take, List.length_drop]; omega
  have hl : l0 = P ++ X ++ S := by
   have e1 : l0.drop a3.toNat = (l0.drop a2.toNat).drop (a3.toNat - a2.toNat) := by rw [List.drop_drop]; congr 1; omega
   rw [hP, hX, hS, e1, List.append_assoc, List.take_append_drop, List.take_append_drop]
  rw [← hX] at hs
  rw [← hP, ← hS]
  have huv' : uv = .slice (some ⟨g, P.length, none⟩) X.length (c - P.length) := by
   rw [huv, hXl, hPl]
   simp [Wd.add_plainP]
  have hw : Wd P S (Kd.int .u32) 88 w w0.heap.size P0_ uv X := by
   refine ⟨g, c, c - P.length, huv', by omega, by omega, ?_⟩
   rw [← hl, ← hn]
   exact ho0
  refine (n_step.callsW P S k P0_ uv X A1 c1 l1 q r w0 w hB hw hr1 hc1 hs).mono ?_
  rintro e w' ⟨rfl, hW, hb', hk'⟩
  refine ⟨rfl, ?_, hb', hk'⟩
  obtain ⟨g', C', c', hv, hlr, hC, hR⟩ := hW
  rw [huv'] at hv
  injection hv with ea en ec
  injection ea with ea
  injection ea with ea _ _
  subst ea
  have hn2 : n = (P ++ r ++ S).length := by
   rw [hn, hl]
   simp only [List.length_append]
   omega
  have hC2 : c = C' := by omega
  rw [hn2, hC2]
  exact hR
 cases h
end Go.Proofs.YtfnfjmeiaamheaaDoor.PA
namespace Go.Proofs.YtfnfjmeiaamheaaDoor.PA
open Go Go.RowKit Go.Proofs.YtfnfjmeiaamheaaDoorW.PrintWords
theorem kn_of {u d : List Int} (hu : Dg u) (hd : Dg d) {j n : Nat} (h2 : 2 ≤ n) (htop : 2147483648 ≤ dg d (n - 1)) (hfit : Sm u j (n + 1) < Sm d 0 n * 4294967296) :
  Kn (Sm u j (n + 1)) (Sm d 0 n) (4294967296 ^ (n - 2)) (dg u (j + n)) (dg u (j + n - 1)) (dg u (j + n - 2)) (dg d (n - 1)) (dg d (n - 2)) := by
 obtain ⟨m, rfl⟩ : ∃ m, n = m + 2 := ⟨n - 2, by omega⟩
 rw [show m + 2 - 1 = m + 1 by omega, show m + 2 - 2 = m by omega, show j + (m + 2) - 1 = j + (m + 1) by omega, show j + (m + 2) - 2 = j + m by omega] at *
 have a2 := hu (j + (m + 2))
 have a1 := hu (j + (m + 1))
 have a0 := hu (j + m)
 have c1 := hd (m + 1)
 have c0 := hd m
 have l0 := Sm.nonneg hu j m
 have l1 := Sm.lt hu j m
 have k0 := Sm.nonneg hd 0 m
 have k1 := Sm.lt hd 0 m
 have p1 : (4294967296 : Int) ^ (m + 1) = 4294967296 ^ m * 4294967296 := pw_succ m
 have p2 : (4294967296 : Int) ^ (m + 2) = 4294967296 ^ m * 4294967296 * 4294967296 := by rw [← p1]; exact pw_succ (m + 1)
 have eU : Sm u j (m + 2 + 1) = Sm u j m + ((dg u (j + (m + 2)) * 4294967296 + dg u (j + (m + 1))) * 4294967296 + dg u (j + m)) * 4294967296 ^ m := by
  rw [Sm, Sm, Sm, p2, p1]; generalize (4294967296 : Int) ^ m = P at *; grind
 have eV : Sm d 0 (m + 2) = Sm d 0 m + (dg d (m + 1) * 4294967296 + dg d m) * 4294967296 ^ m := by
  rw [Sm, Sm, p1, Nat.zero_add, Nat.zero_add]; generalize (4294967296 : Int) ^ m = P at *; grind
 refine ⟨pw_pos m, a2.1, a2.2, a1.1, a1.2, a0.1, a0.2, htop, c1.2, c0.1, c0.2, ?_, ?_, ?_, ?_, hfit⟩
 ·rw [eU]; omega
 ·rw [eU, Int.add_mul (_ + dg u (j + m)), Int.one_mul]; omega
 ·rw [eV]; omega
 rw [eV, Int.add_mul (_ + dg d m), Int.one_mul]; omega
theorem le_mul {g v : Int} (hg : 0 ≤ g) (hv : 1 ≤ v) : g ≤ g * v := by
 have := Int.mul_le_mul_of_nonneg_left hv hg
 omega
theorem nguess {u d : List Int} (hu : Dg u) (hd : Dg d) {n : Nat} (hn : d.length = n) (h2 : 2 ≤ n) (hf : n ≤ 100000) (hul : u.length = n + 1) {U V P : Int}
 (K : Kn U V P (dg u n) (dg u (n - 1)) (dg u (n - 2)) (dg d (n - 1)) (dg d (n - 2))) : ∀ (f : Nat) (g r : Int), 0 ≤ g → g * dg d (n - 1) + r = dg u n * 4294967296 + dg u (n - 1) → 0 ≤ r → r < 4294967296 → U < (g + 1) * V → 4294967296 - r ≤ f →
 ∃ g', 0 ≤ g' ∧ g' < 4294967296 ∧ U < (g' + 1) * V ∧ g' * V < U + V ∧ ∀ res, Ev (fun k => n_step.j2 k u d (n : Int) g') res → Ev (fun k => n_step.l0 k u d (n : Int) g r) res
 | 0, g, r, _, _, _, hr, _, hm => by omega
 | f + 1, g, r, hg, he, hr0, hr1, hU, hm => by
  have hc1 := K.c1
  have hd1 := K.d1
  have hb2 := K.b2
  have hb1 := K.b1
  have ha0 := K.a0
  have hb0 := K.b0
  have hc0 := K.c0
  have hd0 := K.d0
  have hgm := le_mul hg (show 1 ≤ dg d (n - 1) by omega)
  have w1 : wrap64 ((n : Int) - 1) = ((n - 1 : Nat) : Int) := by rw [wrap_s (by omega) (by omega)]; omega
  have w2 : wrap64 ((n : Int) - 2) = ((n - 2 : Nat) : Int) := by rw [wrap_s (by omega) (by omega)]; omega
  have x1 : (0 : Int) ≤ ((n - 1 : Nat) : Int) := by omega
  have x2 : ((n - 1 : Nat) : Int) < (d.length : Int) := by omega
  have x3 : (0 : Int) ≤ ((n - 2 : Nat) : Int) := by omega
  have x4 : ((n - 2 : Nat) : Int) < (d.length : Int) := by omega
  have x5 : ((n - 2 : Nat) : Int) < (u.length : Int) := by omega
  have y1 : IntKind.u64.wrap (dg d (n - 1)) = dg d (n - 1) := u64_s (by omega) (by omega)
  have y2 : IntKind.u64.wrap (r + dg d (n - 1)) = r + dg d (n - 1) := u64_s (by omega) (by omega)
  have y3 : IntKind.u64.wrap (dg d (n - 2)) = dg d (n - 2) := u64_s (by omega) (by omega)
  have on : (4294967296 ≤ g ∨ r * 4294967296 + dg u (n - 2) < g * dg d (n - 2)) → ∃ g', 0 ≤ g' ∧ g' < 4294967296 ∧ U < (g' + 1) * V ∧ g' * V < U + V ∧ ∀ res, Ev (fun k => n_step.j2 k u d (n : Int) g') res → Ev (fun k => n_step.j1 k u d (n : Int) g r true) res := by
   intro hc
   obtain ⟨hl1, hl2⟩ := K.less hg he hc
   have y4 : IntKind.u64.wrap (g - 1) = g - 1 := u64_s (by omega) (by omega)
   have he' : (g - 1) * dg d (n - 1) + (r + dg d (n - 1)) = dg u n * 4294967296 + dg u (n - 1) := by rw [← he]; grind
   by_cases hbr : r + dg d (n - 1) ≥ 4294967296
   ·obtain ⟨hg1, hnear⟩ := K.broke (by omega) he' hbr
    refine ⟨g - 1, by omega, hg1, hl1, K.near (by omega) hg1 he' hnear, fun res hres => Ev.step (fun k => ?_) hres⟩
    rw [n_step.j1, if_pos rfl, w1, if_pos x1, if_pos x2, rd_dg, y1, y2, if_pos hbr, y4]
   obtain ⟨g', a1, a2, a3, a4, a5⟩ := nguess hu hd hn h2 hf hul K f (g - 1) (r + dg d (n - 1)) (by omega) he' (by omega) (by omega) hl1 (by omega)
   refine ⟨g', a1, a2, a3, a4, fun res hres => Ev.step (fun k => ?_) (a5 res hres)⟩
   rw [n_step.j1, if_pos rfl, w1, if_pos x1, if_pos x2, rd_dg, y1, y2, if_neg hbr, y4]
  by_cases hgb : g ≥ 4294967296
  ·obtain ⟨g', a1, a2, a3, a4, a5⟩ := on (Or.inl hgb)
   refine ⟨g', a1, a2, a3, a4, fun res hres => Ev.step (fun k => ?_) (a5 res hres)⟩
   rw [n_step.l0, if_pos hgb]
  have hgv : g * dg d (n - 2) ≤ 4294967295 * dg d (n - 2) := Int.mul_le_mul_of_nonneg_right (by omega) hc0
  have hgv0 : 0 ≤ g * dg d (n - 2) := Int.mul_nonneg hg hc0
  have y5 : IntKind.u64.wrap (g * dg d (n - 2)) = g * dg d (n - 2) := u64_s hgv0 (by omega)
  have y6 := or_hi hr0 hr1 ha0 hb0
  by_cases hc : g * dg d (n - 2) > r * 4294967296 + dg u (n - 2)
  ·obtain ⟨g', a1, a2, a3, a4, a5⟩ := on (Or.inr hc)
   refine ⟨g', a1, a2, a3, a4, fun res hres => Ev.step (fun k => ?_) (a5 res hres)⟩
   rw [n_step.l0, if_neg hgb, w2, if_pos x3, if_pos x4, if_pos x5, rd_dg, rd_dg, y3, y5, y6, decide_eq_true hc]
  refine ⟨g, hg, by omega, hU, K.near hg (by omega) he (by omega), fun res hres => Ev.step (h := fun k => n_step.j1 k u d (n : Int) g r false) (fun k => ?_) (Ev.step (fun k => ?_) hres)⟩
  ·rw [n_step.l0, if_neg hgb, w2, if_pos x3, if_pos x4, if_pos x5, rd_dg, rd_dg, y3, y5, y6, decide_eq_false hc]
  rw [n_step.j1, if_neg (by decide)]
theorem sub32_ev {a b c : Int} (ha : 0 ≤ a ∧ a < 4294967296) (hb0 : 0 ≤ b) (hb1 : b < 4294967296) (hc : 0 ≤ c ∧ c ≤ 1) : bits_Sub32.f a b c = some ((a - b - c) % 4294967296, if a < b + c then 1 else 0) := by
 unfold bits_Sub32.f; rw [if_pos ⟨ha.1, ha.2, hb0, hb1, hc.1, hc.2⟩]
theorem nsub {u0 d : List Int} (hd : Dg d) {n : Nat} (hn : d.length = n) (hf : n ≤ 100000) (hul : u0.length = n + 1) {g : Int} (hg0 : 0 ≤ g) (hg1 : g < 4294967296) : ∀ m i u c b, i + m = n → MS u0 u d 0 i g c b →
 ∃ u' c' b', MS u0 u' d 0 n g c' b' ∧ ∀ res, Ev (fun k => n_step.l1 k u' d (n : Int) g c' b' d (n : Int) (n : Int)) res → Ev (fun k => n_step.l1 k u d (n : Int) g c b d (n : Int) (i : Int)) res
 | 0, i, u, c, b, hi, h => by
  obtain rfl : i = n := by omega
  exact ⟨u, c, b, h, fun _ hr => hr⟩
 | m + 1, i, u, c, b, hi, h => by
  have hlen := h.len
  have x1 : (i : Int) < (n : Int) := by omega
  have x2 : (0 : Int) ≤ (i : Int) := by omega
  have x3 : (i : Int) < (d.length : Int) := by omega
  have x4 : (i : Int) < (u.length : Int) := by omega
  have hw : Aside0 ( wrap64 ((i : Int) + 1) = ((i + 1 : Nat) : Int)) := ⟨by rw [wrap_s (by omega) (by omega)]; omega⟩
  have hi2 : 0 + i < u.length := by omega
  obtain ⟨u', c', b', g1, g2⟩ := nsub hd hn hf hul hg0 hg1 m (i + 1) _ _ _ (by omega) (h.next hd hg0 hg1 hi2)
  refine ⟨u', c', b', g1, fun res hr => Ev.step (fun k => ?_) (g2 res hr)⟩
  have ht := h.t_lt hd hg0 hg1 i
  have hc0 := h.c0
  have hc1 := h.c1
  have hdi := hd i
  have y1 : IntKind.u64.wrap (dg d i) = dg d i := u64_s hdi.1 (by omega)
  have y2 : IntKind.u64.wrap (g * dg d i) = g * dg d i := u64_s ht.1 (by omega)
  have y3 : IntKind.u64.wrap (g * dg d i + c) = g * dg d i + c := u64_s (by omega) (by omega)
  have y4 := sub32_ev (h.dgs i) (b := (g * dg d i + c) % 4294967296) (Int.emod_nonneg _ (by decide)) (Int.emod_lt_of_pos _ (by decide)) h.b01
  rw [n_step.l1, if_pos x1, if_pos x2, if_pos x3, if_pos x4, rd_dg, rd_dg, y1, y2, y3, y4, Option.bind_some, hw.out, Nat.zero_add]
  rfl
theorem nadd {u0 d : List Int} (hd : Dg d) {n : Nat} (hn : d.length = n) (hf : n ≤ 100000) (hul : u0.length = n + 1) {g : Int} : ∀ m i u c, i + m = n → AD u0 u d 0 i c →
 ∃ u' c', AD u0 u' d 0 n c' ∧ ∀ res, Ev (fun k => n_step.l2 k u' (n : Int) g c' d (n : Int) (n : Int)) res → Ev (fun k => n_step.l2 k u (n : Int) g c d (n : Int) (i : Int)) res
 | 0, i, u, c, hi, h => by
  obtain rfl : i = n := by omega
  exact ⟨u, c, h, fun _ hr => hr⟩
 | m + 1, i, u, c, hi, h => by
  have hlen := h.len
  have hi2 : 0 + i < u.length := by omega
  obtain ⟨u', c', g1, g2⟩ := nadd hd hn hf hul (g := g) m (i + 1) _ _ (by omega) (h.next hd hi2)
  refine ⟨u', c', g1, fun res hr => Ev.step (fun k => ?_) (g2 res hr)⟩
  have hc := h.c01
  have hdi := hd i
  have hui := h.dgs i
  have hw : wrap64 ((i : Int) + 1) = ((i + 1 : Nat) : Int) := by rw [wrap_s (by omega) (by omega)]; omega
  have x1 : (i : Int) < (n : Int) := by omega
  have x2 : (0 : Int) ≤ (i : Int) := by omega
  have x3 : (i : Int) < (d.length : Int) := by omega
  have x4 : (i : Int) < (u.length : Int) := by omega
  have y1 : IntKind.u64.wrap (dg d i) = dg d i := u64_s hdi.1 (by omega)
  have y2 : IntKind.u64.wrap (dg u i) = dg u i := u64_s hui.1 (by omega)
  have y3 : IntKind.u64.wrap c = c := u64_s hc.1 (by omega)
  have y4 : IntKind.u64.wrap (dg u i + dg d i) = dg u i + dg d i := u64_s (by omega) (by omega)
  have y5 : IntKind.u64.wrap (dg u i + dg d i + c) = dg u i + dg d i + c := u64_s (by omega) (by omega)
  have y6 : (dg u i + dg d i + c) / 4294967296 % 4294967296 = (dg u i + dg d i + c) / 4294967296 := by omega
  rw [n_step.l2, if_pos x1, if_pos x2, if_pos x3, if_pos x4, rd_dg, rd_dg, bits_Add32.f, y1, y2, y3, y4, y5, y6, Option.bind_some, hw, Nat.zero_add]
  rfl
theorem nstep_ev {u d : List Int} (hu : Dg u) (hd : Dg d) {n : Nat} (hn : d.length = n) (h2 : 2 ≤ n) (hf : n ≤ 100000) (hul : u.length = n + 1) (htop : 2147483648 ≤ dg d (n - 1)) (hfit : Sm u 0 (n + 1) < Sm d 0 n * 4294967296) :
  ∃ q u', Ev (fun k => n_step.f k u d) (q, u') ∧ St u u' d 0 n q := by
 have K := kn_of hu hd (j := 0) h2 htop hfit
 rw [Nat.zero_add] at K
 have ht0 : 0 ≤ dg u n * 4294967296 + dg u (n - 1) := by have := K.a2; have := K.a1; omega
 have hv1 := K.c1
 have hdm := Int.mul_ediv_add_emod (dg u n * 4294967296 + dg u (n - 1)) (dg d (n - 1))
 have hr0 := Int.emod_nonneg (dg u n * 4294967296 + dg u (n - 1)) (show dg d (n - 1) ≠ 0 by omega)
 have hr1 := Int.emod_lt_of_pos (dg u n * 4294967296 + dg u (n - 1)) (show 0 < dg d (n - 1) by omega)
 have hg0 : 0 ≤ (dg u n * 4294967296 + dg u (n - 1)) / dg d (n - 1) := Int.ediv_nonneg ht0 (by omega)
 have hg1 : (dg u n * 4294967296 + dg u (n - 1)) / dg d (n - 1) ≤ dg u n * 4294967296 + dg u (n - 1) := Int.ediv_le_self _ ht0
 have hd1 := K.d1
 have hb2 := K.b2
 have hb1 := K.b1
 obtain ⟨g, hg⟩ : ∃ g, g = (dg u n * 4294967296 + dg u (n - 1)) / dg d (n - 1) := ⟨_, rfl⟩
 obtain ⟨r, hr⟩ : ∃ r, r = (dg u n * 4294967296 + dg u (n - 1)) % dg d (n - 1) := ⟨_, rfl⟩
 rw [← hg] at hdm hg0 hg1
 rw [← hr] at hdm hr0 hr1
 have he : g * dg d (n - 1) + r = dg u n * 4294967296 + dg u (n - 1) := by rw [← hdm, Int.mul_comm]
 obtain ⟨g', a1, a2, a3, a4, a5⟩ := nguess hu hd hn h2 hf hul K (4294967296 - r).toNat g r hg0 he hr0 (by omega) (K.start hg0 he hr1) (by omega)
 obtain ⟨u1, c1, b1, m1, m2⟩ := nsub hd hn hf hul a1 a2 n 0 u 0 0 (by omega) (MS.start hu 0 g')
 have hlen := m1.len
 have hx := m1.dgs n
 have hc0 := m1.c0
 have hc1 := m1.c1
 have hi : 0 + n < u1.length := by omega
 have z1 : (0 : Int) ≤ (n : Int) := by omega
 have z2 : (n : Int) < (u1.length : Int) := by omega
 have z3 : c1 % 4294967296 = c1 := Int.emod_eq_of_lt hc0 hc1
 have z4 := sub32_ev hx hc0 hc1 m1.b01
 have z5 : g' % 4294967296 = g' := Int.emod_eq_of_lt a1 a2
 have hfun : ∀ res, Ev (fun k => n_step.l0 k u d (n : Int) g r) res → Ev (fun k => n_step.f k u d) res := by
  intro res hres
  refine Ev.same (fun k => ?_) hres
  have w1 : wrap64 ((n : Int) - 1) = ((n - 1 : Nat) : Int) := by rw [wrap_s (by omega) (by omega)]; omega
  have y1 : (n : Int) < (u.length : Int) := by omega
  have y2 : (0 : Int) ≤ ((n - 1 : Nat) : Int) := by omega
  have y3 : ((n - 1 : Nat) : Int) < (u.length : Int) := by omega
  have y4 : ((n - 1 : Nat) : Int) < (n : Int) := by omega
  have y5 : IntKind.u64.wrap (dg d (n - 1)) = dg d (n - 1) := u64_s (by omega) (by omega)
  have y6 : ¬ dg d (n - 1) = 0 := by omega
  have y7 : IntKind.u64.wrap (dg u n) = dg u n := u64_s K.a2 (by omega)
  have y8 := or_hi K.a2 K.b2 K.a1 K.b1
  have y9 : IntKind.u64.wrap g = g := u64_s hg0 (by omega)
  rw [n_step.f, hn, if_pos z1, if_pos y1, w1, if_pos y2, if_pos y3, if_pos y4, rd_dg, rd_dg, rd_dg, y5, if_neg y6, y7, y8, Int.tdiv_eq_ediv_of_nonneg ht0, Int.tmod_eq_emod_of_nonneg ht0, ← hg, ← hr, y9]
 have hj : ∀ res, Ev (fun k => n_step.l1 k u1 d (n : Int) g' c1 b1 d (n : Int) (n : Int)) res → Ev (fun k => n_step.f k u d) res := by
  intro res hres
  refine hfun res (a5 res (Ev.step (fun k => ?_) (m2 res hres)))
  rw [n_step.j2, hn]; rfl
 by_cases hb : dg u1 n < c1 + b1
 ·
  have hAD := AD.start (u := u1.set n ((dg u1 n - c1 - b1) % 4294967296)) (d := d) (m1.dgs.set (p := n) (Int.emod_nonneg _ (by decide)) (Int.emod_lt_of_pos _ (by decide))) 0
  obtain ⟨u2, c2, k1, k2⟩ := nadd hd hn hf (by rw [List.length_set]; omega) (g := g') n 0 _ _ (by omega) hAD
  have hst := m1.fin1 hd hi a2 hu a4 (by rw [Nat.zero_add]; exact hb) (u2 := u2) (cc := c2) (by rw [Nat.zero_add]; exact k1)
  rw [Nat.zero_add] at hst
  refine ⟨g' - 1, _, hj _ (Ev.step (h := fun k => n_step.l2 k (u1.set n ((dg u1 n - c1 - b1) % 4294967296)) (n : Int) g' 0 d (n : Int) (0 : Nat)) (fun k => ?_) (k2 _ (Ev.rets fun k => ?_))), hst⟩
  ·rw [n_step.l1, if_neg (by omega), if_pos z1, if_pos z2, rd_dg, z3, z4, if_pos hb, Option.bind_some, Option.bind_some, if_neg (by simp), hn]
   rfl
  have hq := hst.q0
  have e1 : IntKind.u64.wrap (g' - 1) = g' - 1 := u64_s hq (by omega)
  have e2 : (g' - 1) % 4294967296 = g' - 1 := Int.emod_eq_of_lt hq (by omega)
  have hl2 := k1.len
  rw [List.length_set] at hl2
  have z6 : (n : Int) < (u2.length : Int) := by omega
  rw [n_step.l2, if_neg (by omega), if_pos z1, if_pos z6, rd_dg, e1, e2]
  rfl
 have hst := m1.fin0 hi a1 a2 a3 (by rw [Nat.zero_add]; exact hb)
 rw [Nat.zero_add] at hst
 refine ⟨g', _, hj _ (Ev.rets fun k => ?_), hst⟩
 rw [n_step.l1, if_neg (by omega), if_pos z1, if_pos z2, rd_dg, z3, z4, if_neg hb, Option.bind_some, Option.bind_some, if_pos rfl, z5]
 rfl
end Go.Proofs.YtfnfjmeiaamheaaDoor.PA
namespace Go.Proofs
open Go.Shelf
def Tryd.lays161_ren : Go.Shelf.Ren := ⟨fun | 161 => 61 | 231 => 72 | 227 => 73 | 233 => 74 | 235 => 75 | 228 => 86 | 197 => 87 | 151 => 88 | 260 => 94 | 152 => 95 | 137 => 96 | 119 => 97 | 224 => 98 | 225 => 99 | 217 => 100 | 266 => 101 | n => n, fun | 9 => 9 | 4 => 4 | 3 => 3 | 5 => 5 | 117 => 97 | 116 => 96 | 0 => 0 | 124 => 100 | 105 => 114 | 21 => 21 | 119 => 122 | 46 => 89 | 139 => 125 | 138 => 124 | n => n, fun | 3 => 0 | 4 => 1 | n => n⟩
theorem Tryd.lays161 : Go.Proofs.Lays.n161 Tryd.prog Tryd.lays161_ren := {
 mixed := by kernel_rfl
 f119 := Tryd.func97.trans (congrArg some (by kernel_rfl))
 f137 := Tryd.func96.trans (congrArg some (by kernel_rfl))
 f151 := Tryd.func88.trans (congrArg some (by kernel_rfl))
 f152 := Tryd.func95.trans (congrArg some (by kernel_rfl))
 f161 := Tryd.func61.trans (congrArg some (by kernel_rfl))
 f197 := Tryd.func87.trans (congrArg some (by kernel_rfl))
 f217 := Tryd.func100.trans (congrArg some (by kernel_rfl))
 f224 := Tryd.func98.trans (congrArg some (by kernel_rfl))
 f225 := Tryd.func99.trans (congrArg some (by kernel_rfl))
 f227 := Tryd.func73.trans (congrArg some (by kernel_rfl))
 f228 := Tryd.func86.trans (congrArg some (by kernel_rfl))
 f231 := Tryd.func72.trans (congrArg some (by kernel_rfl))
 f233 := Tryd.func74.trans (congrArg some (by kernel_rfl))
 f235 := Tryd.func75.trans (congrArg some (by kernel_rfl))
 f260 := Tryd.func94.trans (congrArg some (by kernel_rfl))
 f266 := Tryd.func101.trans (congrArg some (by kernel_rfl))
 t0 := Tryd.underlying0
 a0 := Tryd.isAgg0
 z0 := Tryd.sizeOf0
 v0 := Tryd.zeroValue0
 t3 := Tryd.underlying3
 a3 := Tryd.isAgg3
 z3 := Tryd.sizeOf3
 v3 := Tryd.zeroValue3
 t4 := Tryd.underlying4
 a4 := Tryd.isAgg4
 z4 := Tryd.sizeOf4
 v4 := Tryd.zeroValue4
 t5 := Tryd.underlying5
 a5 := Tryd.isAgg5
 z5 := Tryd.sizeOf5
 v5 := Tryd.zeroValue5
 t9 := Tryd.underlying9
 a9 := Tryd.isAgg9
 z9 := Tryd.sizeOf9
 v9 := Tryd.zeroValue9
 t21 := Tryd.underlying21
 a21 := Tryd.isAgg21
 z21 := Tryd.sizeOf21
 v21 := Tryd.zeroValue21
 t46 := Tryd.underlying89
 a46 := Tryd.isAgg89
 z46 := Tryd.sizeOf89
 v46 := Tryd.zeroValue89
 t105 := Tryd.underlying114
 a105 := Tryd.isAgg114
 z105 := Tryd.sizeOf114
 v105 := Tryd.zeroValue114
 t116 := Tryd.underlying96
 a116 := Tryd.isAgg96
 z116 := Tryd.sizeOf96
 t117 := Tryd.underlying97
 a117 := Tryd.isAgg97
 z117 := Tryd.sizeOf97
 v117 := Tryd.zeroValue97
 t119 := Tryd.underlying122
 a119 := Tryd.isAgg122
 z119 := Tryd.sizeOf122
 t124 := Tryd.underlying100
 a124 := Tryd.isAgg100
 z124 := Tryd.sizeOf100
 v124 := Tryd.zeroValue100
 t138 := Tryd.underlying124
 a138 := Tryd.isAgg124
 z138 := Tryd.sizeOf124
 v138 := Tryd.zeroValue124
 t139 := Tryd.underlying125
 a139 := Tryd.isAgg125
 z139 := Tryd.sizeOf125
 v139 := Tryd.zeroValue125
 g3 := by kernel_rfl
 g4 := by kernel_rfl }
open Go.RowKit in
theorem Tryd.strings_TrimLeft_one (s : ByteArray) (c : UInt8) (hc : c.toNat < 128) (w : World) :
 Calls Tryd.prog 61 #[.string s, .string ⟨#[c]⟩] w fun e w' => e = .returned (.string ⟨(Lib.trimLeftB s.data.toList c).toArray⟩) ∧ w' = w := Any.strings_TrimLeft_one Tryd.lays161 s c hc w
def Tryd.lays133_ren : Go.Shelf.Ren := ⟨fun | 133 => 79 | 128 => 90 | n => n, fun | 51 => 88 | 3 => 3 | 4 => 4 | 46 => 89 | 5 => 5 | 9 => 9 | n => n, fun | n => n⟩
theorem Tryd.lays133 : Go.Proofs.Lays.n133 Tryd.prog Tryd.lays133_ren := {
 mixed := by kernel_rfl
 f128 := Tryd.func90.trans (congrArg some (by kernel_rfl))
 f133 := Tryd.func79.trans (congrArg some (by kernel_rfl))
 t3 := Tryd.underlying3
 a3 := Tryd.isAgg3
 z3 := Tryd.sizeOf3
 v3 := Tryd.zeroValue3
 t4 := Tryd.underlying4
 a4 := Tryd.isAgg4
 z4 := Tryd.sizeOf4
 v4 := Tryd.zeroValue4
 t5 := Tryd.underlying5
 a5 := Tryd.isAgg5
 z5 := Tryd.sizeOf5
 v5 := Tryd.zeroValue5
 t9 := Tryd.underlying9
 a9 := Tryd.isAgg9
 z9 := Tryd.sizeOf9
 v9 := Tryd.zeroValue9
 t46 := Tryd.underlying89
 a46 := Tryd.isAgg89
 z46 := Tryd.sizeOf89
 v46 := Tryd.zeroValue89
 t51 := Tryd.underlying88
 a51 := Tryd.isAgg88
 z51 := Tryd.sizeOf88
 v51 := Tryd.zeroValue88 }
theorem Tryd.bits_LeadingZeros32 (x : Int) (w : World) (h0 : 0 ≤ x) (h1 : x ≤ 4294967295) :
 Calls Tryd.prog 79 #[.int .u32 x] w fun e w' => e = .returned (.int .i64 (32 - (Lib.bitLen x.toNat : Int))) ∧ w' = w := Any.bits_LeadingZeros32 Tryd.lays133 x w h0 h1
end Go.Proofs
namespace Go.Proofs.YtfnfjmeiaamheaaDoor.PA
open Go.RowKit Go.Proofs.YtfnfjmeiaamheaaDoorW.PrintWords Go.Proofs.YtfnfjmeiaamheaaDoorW.PrintLast Go.Proofs.YtfnfjmeiaamheaaDoorW.PrintMore
def bits_LeadingZeros32.f (a0 : Int) : Option (Int) := if 0 ≤ a0 ∧ a0 ≤ 4294967295 then some (32 - (Lib.bitLen a0.toNat : Int)) else none
theorem bits_LeadingZeros32.calls (a0 : Int) (r : Int) (w : World) (h : bits_LeadingZeros32.f a0 = some r) :
  Calls Tryd.prog 79 #[.int .u32 a0] w fun e w' => e = .returned (.int .i64 r) ∧ Drawn0 w w' := by
 unfold bits_LeadingZeros32.f at h
 split at h
 ·rename_i hc
  injection h with h
  subst h
  refine (Tryd.bits_LeadingZeros32 a0 w hc.1 hc.2).mono ?_
  rintro e w' ⟨rfl, rfl⟩
  exact ⟨rfl, Drawn0.refl _⟩
 cases h
end Go.Proofs.YtfnfjmeiaamheaaDoor.PA
namespace Go.Proofs.YtfnfjmeiaamheaaDoor.PA
open Go.RowKit Go.Proofs.YtfnfjmeiaamheaaDoorW.PrintWords Go.Proofs.YtfnfjmeiaamheaaDoorW.PrintLast Go.Proofs.YtfnfjmeiaamheaaDoorW.PrintMore
attribute [local go_sem] max2_int min2_int max_two min_two max_three min_three max_four min_four
def n_divide.l0 : Nat → Int → Int → List Int → List Int → List Int → Int → Option (List Int × List Int)
 | 0, _, _, _, _, _, _ => none
 | k + 1, x8, x9, x10, x11, x12, x13 => if x13 ≥ 0 then ((n_step_at.f k x11 x10 x13 (wrap64 ((wrap64 (x13 + x9)) + 1))).bind fun bt226 => (if 0 ≤ x13 then (if x13 < (x12.length : Int) then (n_divide.l0 k x8 x9 x10 bt226.2 (x12.set (x13 : Int).toNat bt226.1) (wrap64 (x13 - 1))) else (none)) else (none))) else ((n_limbs_trim.f k x12).bind fun t229 => (if 0 ≤ x9 then (if x9 ≤ (x11.length : Int) then ((n_unshift.f k (x11.take (x9 : Int).toNat) x8).bind fun t236 => (some (t229, t236))) else (none)) else (none)))
def n_divide.f (k : Nat) (l0 : List Int) (l1 : List Int) : Option (List Int × List Int) := (n_compare.f k l0 l1).bind fun t203 => (if t203 < 0 then (some (([] : List Int), l0)) else (if (l1.length : Int) = 1 then (if 0 < (l1.length : Int) then ((n_divideSmall.f k l0 (rd l1 0)).bind fun bt205 => ((n_limbs_trim.f k (([bt205.2] : List Int))).bind fun t212 => (some (bt205.1, t212)))) else (none)) else (if 0 ≤ (wrap64 ((l1.length : Int) - 1)) then (if (wrap64 ((l1.length : Int) - 1)) < (l1.length : Int) then ((bits_LeadingZeros32.f (rd l1 (wrap64 ((l1.length : Int) - 1)))).bind fun t216 => ((n_shift.f k l1 (IntKind.u64.wrap (t216)) (l1.length : Int)).bind fun t217 => ((n_shift.f k l0 (IntKind.u64.wrap (t216)) (wrap64 ((l0.length : Int) + 1))).bind fun t220 => (if 0 ≤ (wrap64 ((wrap64 ((l0.length : Int) - (l1.length : Int))) + 1)) then (if (wrap64 ((wrap64 ((l0.length : Int) - (l1.length : Int))) + 1) : Int).toNat ≤ 70368744177664 then ((some (List.replicate (wrap64 ((wrap64 ((l0.length : Int) - (l1.length : Int))) + 1) : Int).toNat 0 : List Int)).bind fun y223 => (n_divide.l0 k (IntKind.u64.wrap (t216)) (l1.length : Int) t217 t220 y223 (wrap64 ((y223.length : Int) - 1)))) else (none)) else (none))))) else (none)) else (none))))
def n_divide.T15 : Bool × List (List Nat × List Nat) := (true, [([], []), ([0], [0]), ([], []), ([], []), ([2, 3], [2, 3]), ([], []), ([4, 5, 1], [4, 5]), ([1, 6, 0, 1], [1]), ([6, 7, 0, 1, 2, 3, 4, 5, 6, 7], [6])])
def n_divide.B15 : List Nat := [0, 1, 0, 0, 12, 0, 63, 127, 255]
theorem n_divide.tab15 : rtab .any (opsOf Tryd.f63 15) = n_divide.T15 := by kernel_rfl
theorem n_divide.bits15 : waitsOk n_divide.T15.2 n_divide.B15 = true := by kernel_rfl
set_option maxHeartbeats 8000000 in
set_option maxRecDepth 100000 in
theorem n_divide.calls (k : Nat) (P0_ : Nat → Prop) (A0 : Option Addr) (c0 : Nat) (l0 : List Int) (A1 : Option Addr) (c1 : Nat) (l1 : List Int) (r1 : List Int) (r2 : List Int) (w : World) (hs0 : Kd.V (Kd.int .u32) 88 w w.heap.size (fun k_ => P0_ k_) (.slice A0 l0.length c0) l0) (hr1 : Kd.C (Kd.int .u32) w A1 l1.length l1) (hc1 : l1.length ≤ c1) (h : n_divide.f k l0 l1 = some (r1, r2)) :
  Calls Tryd.prog 63 #[.slice A0 l0.length c0, .slice A1 l1.length c1] w fun e w' => ∃ v0_ v1_ : Value, e = .returned (.tuple #[v0_, v1_]) ∧ Kd.V (Kd.int .u32) 88 w' w.heap.size (fun k_ => (P0_ k_ ∨ w.heap.size ≤ k_)) v0_ r1 ∧ Kd.V (Kd.int .u32) 88 w' w.heap.size (fun k_ => (P0_ k_ ∨ w.heap.size ≤ k_)) v1_ r2 ∧ Below w.heap.size w w' := by
 have HO0 := Aside0.mk (show Kd.V (Kd.int .u32) 88 w w.heap.size (fun k_ => (P0_ k_ ∨ w.heap.size ≤ k_)) (.slice A0 l0.length c0) l0 from Kd.V_mono hs0 (fun k_ hk => .inl hk))
 have HR1 := Aside0.mk hr1
 have HC1 := Aside0.mk hc1
 clear hr1 hc1
 have HB := Aside0.mk (Below.refl w.heap.size w)
 have H : ((n_compare.f k l0 l1).bind fun t203 => (if t203 < 0 then (some (([] : List Int), l0)) else (if (l1.length : Int) = 1 then (if 0 < (l1.length : Int) then ((n_divideSmall.f k l0 (rd l1 0)).bind fun bt205 => ((n_limbs_trim.f k (([bt205.2] : List Int))).bind fun t212 => (some (bt205.1, t212)))) else (none)) else (if 0 ≤ (wrap64 ((l1.length : Int) - 1)) then (if (wrap64 ((l1.length : Int) - 1)) < (l1.length : Int) then ((bits_LeadingZeros32.f (rd l1 (wrap64 ((l1.length : Int) - 1)))).bind fun t216 => ((n_shift.f k l1 (IntKind.u64.wrap (t216)) (l1.length : Int)).bind fun t217 => ((n_shift.f k l0 (IntKind.u64.wrap (t216)) (wrap64 ((l0.length : Int) + 1))).bind fun t220 => (if 0 ≤ (wrap64 ((wrap64 ((l0.length : Int) - (l1.length : Int))) + 1)) then (if (wrap64 ((wrap64 ((l0.length : Int) - (l1.length : Int))) + 1) : Int).toNat ≤ 70368744177664 then ((some (List.replicate (wrap64 ((wrap64 ((l0.length : Int) - (l1.length : Int))) + 1) : Int).toNat 0 : List Int)).bind fun y223 => (n_divide.l0 k (IntKind.u64.wrap (t216)) (l1.length : Int) t217 t220 y223 (wrap64 ((y223.length : Int) - 1)))) else (none)) else (none))))) else (none)) else (none))))) = some (r1, r2) := h
 clear h
 replace H := Option.bind_eq_some_iff.mp H
 obtain ⟨t203, A30, H⟩ := H
 try dsimp only at H
 have A3 := Aside0.mk A30
 clear A30
 by_cases c4 : t203 < 0
 ·rw [if_pos c4] at H
  have c4b0 := decide_eq_true c4
  clear c4
  simp only [Option.some.injEq, Prod.mk.injEq] at H
  obtain ⟨rfl, rfl⟩ := H
  go_enter Tryd.func63, Tryd.ntmps63
  go_wp2_with (first | ((with_reducible refine gate_callee (f := 77) rfl ?_); refine goesq (some 16) Tryd.func77 #[.slice A0 l0.length c0, .slice A1 l1.length c1] ?_; (with_reducible refine (n_compare.calls k _ _ l0 _ _ l1 t203 _ ?side1 ?side2 ?side3 ?side4 A3.out).mono ?_); (case side1 => repeat (first | exact (Kd.V_reads' HO0.out).2.2 | (with_reducible refine Kd.C_alloc ?_ _) | (with_reducible refine Kd.C_drewN ?_ _) | (with_reducible refine Kd.C_drew ?_))); (case side2 => exact (Kd.V_reads' HO0.out).2.1); (case side3 => repeat (first | exact HR1.out | (with_reducible refine Kd.C_alloc ?_ _) | (with_reducible refine Kd.C_drewN ?_ _) | (with_reducible refine Kd.C_drew ?_))); (case side4 => exact HC1.out); rintro e w' ⟨rfl, ⟨nd, rfl⟩⟩; refine ⟨_, rfl, ?_⟩))
  go_ret2
  exact ⟨_, _, by first | rfl | (simp [errW_none, errW_some] <;> rfl) | (simp [*, errW_none, errW_some] <;> rfl), Kd.V_nil _ _ _ _ _, by (with_reducible repeat (first | apply Kd.V_alloc | apply Kd.V_drewN | apply Kd.V_drew)); exact HO0.out, bq HB.out⟩
 rw [if_neg c4] at H
 have c4b0 := decide_eq_false c4
 clear c4
 by_cases c5 : (l1.length : Int) = 1
 ·rw [if_pos c5] at H
  have c5b0 : ((l1.length : Int) == 1) = true := beq_iff_eq.mpr c5
  have c5b1 : ((l1.length : Int) != 1) = false := bne_eq_false_iff_eq.mpr c5
  clear c5
  by_cases c6 : 0 < (l1.length : Int)
  rotate_left
  ·rw [if_neg c6] at H
   exact absurd H (by simp)
  rw [if_pos c6] at H
  have c6b0 : decide (0 < (l1.length : Int)) = true := decide_eq_true c6
  have c6b1 : decide (0 < l1.length) = true := decide_eq_true (by omega)
  clear c6
  replace H := Option.bind_eq_some_iff.mp H
  obtain ⟨⟨t205, t208⟩, A70, H⟩ := H
  try dsimp only at H
  have A7 := Aside0.mk A70
  clear A70
  obtain ⟨y209, hy209⟩ : ∃ y_ : List Int, y_ = (([t208] : List Int)) := ⟨_, rfl⟩
  replace H : ((n_limbs_trim.f k y209).bind fun t212 => (some (t205, t212))) = some (r1, r2) := by first | (rw [hy209]; with_reducible exact H) | (have H2_ := (Option.bind_some _ _).symm.trans H; rw [hy209]; with_reducible exact H2_) | (have H2_ := (Option.bind_some _ _).symm.trans H; with_reducible exact H2_) | with_reducible exact H | (rw [hy209]; exact H) | exact H
  have Ny209 := Aside0.mk hy209
  clear hy209
  replace H := Option.bind_eq_some_iff.mp H
  obtain ⟨t212, A80, H⟩ := H
  try dsimp only at H
  have A8 := Aside0.mk A80
  clear A80
  simp only [Option.some.injEq, Prod.mk.injEq] at H
  obtain ⟨rfl, rfl⟩ := H
  go_enter Tryd.func63, Tryd.ntmps63
  go_wp2_with (first | ((with_reducible refine gate_callee (f := 77) rfl ?_); refine goesq (some 16) Tryd.func77 #[.slice A0 l0.length c0, .slice A1 l1.length c1] ?_; (with_reducible refine (n_compare.calls k _ _ l0 _ _ l1 t203 _ ?side1 ?side2 ?side3 ?side4 A3.out).mono ?_); (case side1 => repeat (first | exact (Kd.V_reads' HO0.out).2.2 | (with_reducible refine Kd.C_alloc ?_ _) | (with_reducible refine Kd.C_drewN ?_ _) | (with_reducible refine Kd.C_drew ?_))); (case side2 => exact (Kd.V_reads' HO0.out).2.1); (case side3 => repeat (first | exact HR1.out | (with_reducible refine Kd.C_alloc ?_ _) | (with_reducible refine Kd.C_drewN ?_ _) | (with_reducible refine Kd.C_drew ?_))); (case side4 => exact HC1.out); rintro e w' ⟨rfl, ⟨nd, rfl⟩⟩; refine ⟨_, rfl, ?_⟩; have p204 : 0 ≤ (0 : Int) := (by omega); have q204 : 0 < (l1.length : Int) := odt; obtain ⟨ad204, e204, hx204_0⟩ := Kd.at_int HR1.out 0 p204 q204; cases e204; have qi204 : (0 < l1.length) = True := eq_true (by omega); (try rw [show ((0 : Int)).toNat = 0 from rfl] at hx204_0); (try rw [Addr.add_zero'] at hx204_0); replace p204 := eq_true p204; replace q204 := eq_true q204) | ((with_reducible refine gate_callee (f := 78) rfl ?_); refine goesq (some 27) Tryd.func78 #[.slice A0 l0.length c0, .int .u32 (rd l1 0)] ?_; (with_reducible refine (n_divideSmall.calls k _ _ l0 (rd l1 0) t205 t208 _ ?side1 ?side2 A7.out).mono ?_); (case side1 => repeat (first | exact (Kd.V_reads' HO0.out).2.2 | (with_reducible refine Kd.C_alloc ?_ _) | (with_reducible refine Kd.C_drewN ?_ _) | (with_reducible refine Kd.C_drew ?_))); (case side2 => exact (Kd.V_reads' HO0.out).2.1); rintro e w9 ⟨v206, rfl, ho0, hb⟩; refine ⟨_, rfl, ?_⟩; replace HO0 := am (Kd.V_below (Kd.vq HO0.out) hb); have HO207 := am (Kd.V_lower (Kd.V_mono (ok' := fun k_ => (P0_ k_ ∨ w.heap.size ≤ k_)) ho0 (fun k_ hk_ => (.inr (Nat.le_trans (below_size (bq HB.out)) hk_)))) (below_size (bq HB.out))); replace HB := am (below_step (bq HB.out) hb); (try clear hb); (try clear ho0)) | ((with_reducible refine gate_dst (N := 32) rfl ?_); refine Kd.R_lit (Kd.int .u32) _ 88 ?hg (N := 32) ?hd (xs := ([t208] : List Int)) (inner := [.int .u32 t208]) (ok := fun _ => True) (okp := fun _ => True) ?hr ?hp (fun _ hk => hk) trivial (Below.refl _ _) (Nat.le_refl _) (by simp) ?_; (case hd => rfl); (case hg => rfl); (case hr => first | (go_simp; done) | (go_simp; rfl)); (case hp => exact (Reps.one (show Kd.M (Kd.int .u32) _ _ _ t208 [.int .u32 t208] from rfl) (Reps.none _ _))); intro v210 w10 ho11 hb hg_ hnew_; clear hg_ hnew_; (first | rw [← Ny209.out] at ho11 | (simp only [Int.reduceToNat] at ho11; rw [← Ny209.out] at ho11)); replace HO0 := am (Kd.V_elder' (Kd.vq HO0.out) (Kd.R_base ho11) hb); replace HO207 := am (Kd.V_elder' (Kd.vq HO207.out) (Kd.R_base ho11) hb); have HO211 := am (Kd.R_lower (Kd.R_newM (M := fun k_ => (w.heap.size ≤ k_)) ho11 (below_size (bq HB.out)) (fun k_ h_ => h_)) (below_size (bq HB.out))); replace HB := am (below_step (bq HB.out) hb); clear hb ho11; obtain ⟨Ao12, co12, eo12⟩ := Kd.R_slice HO211.out; subst eo12) | ((with_reducible refine gate_callee (f := 76) rfl ?_); refine goesq (some 33) Tryd.func76 #[.slice Ao12 y209.length co12] ?_; (with_reducible refine (n_limbs_trim.calls k (fun k_ => some k_ = (.slice Ao12 y209.length co12 : Value).ownBlock) _ _ y209 t212 _ ?side1 A8.out).mono ?_); (case side1 => exact Kd.R_V (Kd.R_tight rfl (HO211.out))); rintro e w13 ⟨v213, rfl, ho0, hb⟩; refine ⟨_, rfl, ?_⟩; replace HO0 := am (Kd.V_below (Kd.vq HO0.out) hb); replace HO207 := am (Kd.V_below (Kd.vq HO207.out) hb); have HO214 := am (Kd.V_lower (Kd.V_mono (ok' := fun k_ => (P0_ k_ ∨ w.heap.size ≤ k_)) ho0 (fun k_ hk_ => Or.elim hk_ (fun hs_ => (.inr (((HO211.out).1 k_ hs_.symm).1))) (fun hn_ => (.inr (Nat.le_trans (below_size (bq HB.out)) hn_))))) (below_size (bq HB.out))); replace HO211 := am (Kd.R_below (Kd.rq HO211.out) hb); replace HB := am (below_step (bq HB.out) hb); (try clear hb); (try clear ho0)))
  go_ret2
  exact ⟨_, _, by first | rfl | (simp [errW_none, errW_some] <;> rfl) | (simp [*, errW_none, errW_some] <;> rfl), by (with_reducible repeat (first | apply Kd.V_alloc | apply Kd.V_drewN | apply Kd.V_drew)); exact Kd.V_mono HO207.out (fun _ hk => hk.1), by (with_reducible repeat (first | apply Kd.V_alloc | apply Kd.V_drewN | apply Kd.V_drew)); exact HO214.out, bq HB.out⟩
 rw [if_neg c5] at H
 have c5b0 : ((l1.length : Int) == 1) = false := beq_eq_false_iff_ne.mpr c5
 have c5b1 : ((l1.length : Int) != 1) = true := bne_iff_ne.mpr c5
 obtain ⟨ji14, hji14⟩ : ∃ j_ : Int, (wrap64 ((l1.length : Int) - 1)) = j_ := ⟨_, rfl⟩
 replace H : (if 0 ≤ (ji14) then (if (ji14) < (l1.length : Int) then ((bits_LeadingZeros32.f (rd l1 (ji14))).bind fun t216 => ((n_shift.f k l1 (IntKind.u64.wrap (t216)) (l1.length : Int)).bind fun t217 => ((n_shift.f k l0 (IntKind.u64.wrap (t216)) (wrap64 ((l0.length : Int) + 1))).bind fun t220 => (if 0 ≤ (wrap64 ((wrap64 ((l0.length : Int) - (l1.length : Int))) + 1)) then (if (wrap64 ((wrap64 ((l0.length : Int) - (l1.length : Int))) + 1) : Int).toNat ≤ 70368744177664 then ((some (List.replicate (wrap64 ((wrap64 ((l0.length : Int) - (l1.length : Int))) + 1) : Int).toNat 0 : List Int)).bind fun y223 => (n_divide.l0 k (IntKind.u64.wrap (t216)) (l1.length : Int) t217 t220 y223 (wrap64 ((y223.length : Int) - 1)))) else (none)) else (none))))) else (none)) else (none)) = some (r1, r2) := by first | (rw [hji14] at H; exact H) | (simp only [hji14] at H ⊢; exact H)
 (try rw [hji14] at A3)
 have hji14w : (IntKind.i64.wrap ((l1.length : Int) - 1)) = ji14 := (i64_w _).trans hji14
 by_cases c15 : 0 ≤ (ji14)
 rotate_left
 ·rw [if_neg c15] at H
  exact absurd H (by simp)
 rw [if_pos c15] at H
 have c15b0 := decide_eq_true c15
 clear c15
 by_cases c16 : (ji14) < (l1.length : Int)
 rotate_left
 ·rw [if_neg c16] at H
  exact absurd H (by simp)
 rw [if_pos c16] at H
 have c16b0 := decide_eq_true c16
 clear c16
 replace H := Option.bind_eq_some_iff.mp H
 obtain ⟨t216, A170, H⟩ := H
 try dsimp only at H
 have A17 := Aside0.mk A170
 clear A170
 replace H := Option.bind_eq_some_iff.mp H
 obtain ⟨t217, A180, H⟩ := H
 try dsimp only at H
 have A18 := Aside0.mk A180
 clear A180
 replace H := Option.bind_eq_some_iff.mp H
 obtain ⟨t220, A190, H⟩ := H
 try dsimp only at H
 have A19 := Aside0.mk A190
 clear A190
 obtain ⟨ji20, hji20⟩ : ∃ j_ : Int, (wrap64 ((wrap64 ((l0.length : Int) - (l1.length : Int))) + 1)) = j_ := ⟨_, rfl⟩
 replace H : (if 0 ≤ (ji20) then (if (ji20 : Int).toNat ≤ 70368744177664 then ((some (List.replicate (ji20 : Int).toNat 0 : List Int)).bind fun y223 => (n_divide.l0 k (IntKind.u64.wrap (t216)) (l1.length : Int) t217 t220 y223 (wrap64 ((y223.length : Int) - 1)))) else (none)) else (none)) = some (r1, r2) := by first | (rw [hji20] at H; exact H) | (simp only [hji20] at H ⊢; exact H)
 (try rw [hji20] at A3)
 (try rw [hji20] at A17)
 (try rw [hji20] at A18)
 (try rw [hji20] at A19)
 have hji20w : (IntKind.i64.wrap ((wrap64 ((l0.length : Int) - (l1.length : Int))) + 1)) = ji20 := (i64_w _).trans hji20
 by_cases c21 : 0 ≤ (ji20)
 rotate_left
 ·rw [if_neg c21] at H
  exact absurd H (by simp)
 rw [if_pos c21] at H
 have c21b0 := eq_true c21
 have c21b1 := decide_eq_true c21
 clear c21
 by_cases c22 : (ji20 : Int).toNat ≤ 70368744177664
 rotate_left
 ·rw [if_neg c22] at H
  exact absurd H (by simp)
 rw [if_pos c22] at H
 have c22b0 := eq_true c22
 have c22b1 := decide_eq_true c22
 clear c22
 obtain ⟨y223, hy223⟩ : ∃ y_ : List Int, y_ = (List.replicate (ji20 : Int).toNat 0) := ⟨_, rfl⟩
 replace H : (n_divide.l0 k (IntKind.u64.wrap (t216)) (l1.length : Int) t217 t220 y223 (wrap64 ((y223.length : Int) - 1))) = some (r1, r2) := by first | (rw [hy223]; with_reducible exact H) | (have H2_ := (Option.bind_some _ _).symm.trans H; rw [hy223]; with_reducible exact H2_) | (have H2_ := (Option.bind_some _ _).symm.trans H; with_reducible exact H2_) | with_reducible exact H | (rw [hy223]; exact H) | exact H
 have Ny223 := Aside0.mk hy223
 clear hy223
 have H' := Aside0.mk H
 clear H
 go_enter Tryd.func63, Tryd.ntmps63
 go_wp2_with (first | ((with_reducible refine gate_callee (f := 77) rfl ?_); refine goesq (some 16) Tryd.func77 #[.slice A0 l0.length c0, .slice A1 l1.length c1] ?_; (with_reducible refine (n_compare.calls k _ _ l0 _ _ l1 t203 _ ?side1 ?side2 ?side3 ?side4 A3.out).mono ?_); (case side1 => repeat (first | exact (Kd.V_reads' HO0.out).2.2 | (with_reducible refine Kd.C_alloc ?_ _) | (with_reducible refine Kd.C_drewN ?_ _) | (with_reducible refine Kd.C_drew ?_))); (case side2 => exact (Kd.V_reads' HO0.out).2.1); (case side3 => repeat (first | exact HR1.out | (with_reducible refine Kd.C_alloc ?_ _) | (with_reducible refine Kd.C_drewN ?_ _) | (with_reducible refine Kd.C_drew ?_))); (case side4 => exact HC1.out); rintro e w' ⟨rfl, ⟨nd, rfl⟩⟩; refine ⟨_, rfl, ?_⟩; have p215 : 0 ≤ ((ji14) : Int) := odt; have q215 : (ji14) < (l1.length : Int) := odt; obtain ⟨ad215, e215, hx215_0⟩ := Kd.at_int HR1.out (ji14) p215 q215; cases e215; replace p215 := eq_true p215; replace q215 := eq_true q215) | ((with_reducible refine gate_callee (f := 79) rfl ?_); refine goesL_ (some 40) rfl rfl Tryd.func79 (by kernel_rfl) rfl #[.int .u32 (rd l1 (ji14))] rfl (by (try simp only [List.map_toArray, List.map_cons, List.map_nil]); first | done | (simp only [hji14]; rfl) | rfl | (simp only [List.length_drop, List.length_take]; rfl)) ?_; (with_reducible refine (bits_LeadingZeros32.calls (rd l1 (ji14)) t216 _ A17.out).mono ?_); rintro e w' ⟨rfl, ⟨nd, rfl⟩⟩; refine ⟨_, rfl, ?_⟩) | ((with_reducible refine gate_callee (f := 80) rfl ?_); refine goesq (some 47) Tryd.func80 #[.slice (some ad215) l1.length c1, .int .u64 (IntKind.u64.wrap (t216)), .int .i64 (l1.length : Int)] ?_; (with_reducible refine (n_shift.calls k _ _ l1 (IntKind.u64.wrap (t216)) (l1.length : Int) t217 _ ?side1 ?side2 A18.out).mono ?_); (case side1 => repeat (first | exact HR1.out | (with_reducible refine Kd.C_alloc ?_ _) | (with_reducible refine Kd.C_drewN ?_ _) | (with_reducible refine Kd.C_drew ?_))); (case side2 => exact HC1.out); rintro e w23 ⟨v218, rfl, ho0, hb⟩; refine ⟨_, rfl, ?_⟩; replace HO0 := am (Kd.V_elder' (Kd.vq HO0.out) (Kd.R_base ho0) hb); have HO219 := am (Kd.R_lower (Kd.R_newM (M := fun k_ => (w.heap.size ≤ k_)) ho0 (below_size (bq HB.out)) (fun k_ h_ => h_)) (below_size (bq HB.out))); replace HB := am (below_step (bq HB.out) hb); (try clear hb); (try clear ho0)) | ((with_reducible refine gate_callee (f := 80) rfl ?_); refine goesq (some 53) Tryd.func80 #[.slice A0 l0.length c0, .int .u64 (IntKind.u64.wrap (t216)), .int .i64 (wrap64 ((l0.length : Int) + 1))] ?_; (with_reducible refine (n_shift.calls k _ _ l0 (IntKind.u64.wrap (t216)) (wrap64 ((l0.length : Int) + 1)) t220 _ ?side1 ?side2 A19.out).mono ?_); (case side1 => repeat (first | exact (Kd.V_reads' HO0.out).2.2 | (with_reducible refine Kd.C_alloc ?_ _) | (with_reducible refine Kd.C_drewN ?_ _) | (with_reducible refine Kd.C_drew ?_))); (case side2 => exact (Kd.V_reads' HO0.out).2.1); rintro e w24 ⟨v221, rfl, ho0, hb⟩; refine ⟨_, rfl, ?_⟩; replace HO0 := am (Kd.V_elder' (Kd.vq HO0.out) (Kd.R_base ho0) hb); have HO222 := am (Kd.R_lower (Kd.R_new' (Kd.R_newM (M := fun k_ => (w.heap.size ≤ k_)) ho0 (below_size (bq HB.out)) (fun k_ h_ => h_)) (Kd.R_lt (Kd.rq HO219.out))) (below_size (bq HB.out))); replace HO219 := am (Kd.R_elder' (Kd.rq HO219.out) (Kd.R_base ho0) hb); replace HB := am (below_step (bq HB.out) hb); (try clear hb); (try clear ho0)) | ((with_reducible refine gate_dst (N := 59) rfl ?_); refine Kd.R_make (Kd.int .u32) _ 88 rfl (N := 59) rfl 83 _ _ rfl ji20 rfl rfl Tryd.underlying83 (.int .u32 0) 4 info88 rfl (by decide) (by omega) 0 (ok := fun _ => True) (okp := fun _ => True) rfl (fun _ hk => hk) trivial odt (Nat.le_trans (Nat.mul_le_mul_right _ (of_decide_eq_true (by first | (with_reducible assumption) | assumption) : ji20.toNat ≤ 70368744177664)) (by omega)) (Below.refl _ _) (Nat.le_refl _) ?_; intro v224 w25 ho26 hb hg_ hnew_; clear hg_ hnew_; (first | rw [← Ny223.out] at ho26 | (simp only [Int.reduceToNat] at ho26; rw [← Ny223.out] at ho26)); replace HO0 := am (Kd.V_elder' (Kd.vq HO0.out) (Kd.R_base ho26) hb); have HO225 := am (Kd.R_lower (Kd.R_new' (Kd.R_new' (Kd.R_newM (M := fun k_ => (w.heap.size ≤ k_)) ho26 (below_size (bq HB.out)) (fun k_ h_ => h_)) (Kd.R_lt (Kd.rq HO219.out))) (Kd.R_lt (Kd.rq HO222.out))) (below_size (bq HB.out))); replace HO219 := am (Kd.R_elder' (Kd.rq HO219.out) (Kd.R_base ho26) hb); replace HO222 := am (Kd.R_elder' (Kd.rq HO222.out) (Kd.R_base ho26) hb); replace HB := am (below_step (bq HB.out) hb); clear hb ho26; obtain ⟨Ao27, co27, eo27⟩ := Kd.R_slice HO225.out; subst eo27))
 go_loopg [13] k (fun kq v13 w' => ∃ (x10_1 : List Int) (x11_1 : List Int) (x12_1 : List Int) (x13_1 : Int), v13 = .int .i64 x13_1 ∧ Aside0 (n_divide.l0 kq (IntKind.u64.wrap (t216)) (l1.length : Int) x10_1 x11_1 x12_1 x13_1 = some (r1, r2)) ∧ Aside0 (kq ≤ k) ∧ Aside0 (Kd.R (Kd.int .u32) 88 w' w.heap.size (fun k_ => (w.heap.size ≤ k_) ∧ some k_ ≠ (v221 : Value).ownBlock ∧ some k_ ≠ ((.slice Ao27 y223.length co27) : Value).ownBlock) v218 x10_1) ∧ Aside0 (Kd.R (Kd.int .u32) 88 w' w.heap.size (fun k_ => (w.heap.size ≤ k_) ∧ some k_ ≠ (v218 : Value).ownBlock ∧ some k_ ≠ ((.slice Ao27 y223.length co27) : Value).ownBlock) v221 x11_1) ∧ Aside0 (Kd.R (Kd.int .u32) 88 w' w.heap.size (fun k_ => (w.heap.size ≤ k_) ∧ some k_ ≠ (v218 : Value).ownBlock ∧ some k_ ≠ (v221 : Value).ownBlock) (.slice Ao27 y223.length co27) x12_1) ∧ Aside0 (Below w.heap.size w w'))
 case atStart => exact ⟨(t217), (t220), (y223), (wrap64 ((y223.length : Int) - 1)), (by first | rfl | (simp; done) | (simp [*]; done)), H', ⟨Nat.le_refl _⟩, ⟨by (with_reducible repeat (first | apply Kd.R_alloc | apply Kd.R_drewN | apply Kd.R_drew)); exact Kd.R_mono HO219.out (fun _ hk => ⟨hk.1.1.1, ⟨hk.1.2, hk.2⟩⟩)⟩, ⟨by (with_reducible repeat (first | apply Kd.R_alloc | apply Kd.R_drewN | apply Kd.R_drew)); exact Kd.R_mono HO222.out (fun _ hk => ⟨hk.1.1.1, ⟨hk.1.2, hk.2⟩⟩)⟩, ⟨by (with_reducible repeat (first | apply Kd.R_alloc | apply Kd.R_drewN | apply Kd.R_drew)); exact Kd.R_mono HO225.out (fun _ hk => ⟨hk.1.1.1, ⟨hk.1.2, hk.2⟩⟩)⟩, ⟨bq HB.out⟩⟩
 case round =>
  clear H'
  try clear c1
  try clear c2
  try clear p2
  try clear q2
  try clear hx2
  try clear qi2
  try clear c4
  try clear c4b0
  try clear c5
  try clear c5b0
  try clear c5b1
  try clear c6
  try clear c6b0
  try clear c6b1
  try clear p6
  try clear c7
  try clear c8
  try clear c15
  try clear c15b0
  try clear c16
  try clear c16b0
  try clear p20
  try clear q20
  try clear hx20
  try clear qi20
  try clear c21
  try clear c21b0
  try clear c21b1
  try clear p21
  try clear q21
  try clear hx21
  try clear c22
  try clear c22b0
  try clear c22b1
  try clear hx204_0
  try clear hx215_0
  try clear p204
  try clear p215
  try clear q204
  try clear q215
  obtain ⟨x10_1, x11_1, x12_1, x13_1, rfl, HA, HK1, HO_10, HO_11, HO_12, HB⟩ := hrel
  have hl12_1 := (Kd.R_reads' HO_12.out).1
  rw [hl12_1] at HO_12
  (try simp only [hl12_1])
  (try simp only [hl12_1] at HO_10)
  (try simp only [hl12_1] at HO_11)
  cases gk with
  | zero => exact absurd HA.out (by simp [n_divide.l0])
  | succ k1 =>
   have H := HA.out
   clear HA
   simp only [n_divide.l0] at H
   by_cases c28 : x13_1 ≥ 0
   ·rw [if_pos c28] at H
    have c28b0 : decide (0 ≤ x13_1) = true := decide_eq_true c28
    clear c28
    replace H := Option.bind_eq_some_iff.mp H
    obtain ⟨⟨t226, t227⟩, A290, H⟩ := H
    try dsimp only at H
    have A29 := Aside0.mk A290
    clear A290
    by_cases c30 : 0 ≤ x13_1
    rotate_left
    ·rw [if_neg c30] at H
     exact absurd H (by simp)
    rw [if_pos c30] at H
    have c30b0 := decide_eq_true c30
    clear c30
    by_cases c31 : x13_1 < (x12_1.length : Int)
    rotate_left
    ·rw [if_neg c31] at H
     exact absurd H (by simp)
    rw [if_pos c31] at H
    have c31b0 := decide_eq_true c31
    clear c31
    obtain ⟨y228, hy228⟩ : ∃ y_ : List Int, y_ = (x12_1.set (x13_1 : Int).toNat t226) := ⟨_, rfl⟩
    replace H : (n_divide.l0 k1 (IntKind.u64.wrap (t216)) (l1.length : Int) x10_1 t227 y228 (wrap64 (x13_1 - 1))) = some (r1, r2) := by first | (rw [hy228]; with_reducible exact H) | (have H2_ := (Option.bind_some _ _).symm.trans H; rw [hy228]; with_reducible exact H2_) | (have H2_ := (Option.bind_some _ _).symm.trans H; with_reducible exact H2_) | with_reducible exact H | (rw [hy228]; exact H) | exact H
    have Ny228 := Aside0.mk hy228
    clear hy228
    have H' := Aside0.mk H
    clear H
    obtain ⟨Ao33, co33, eo33⟩ := Kd.R_slice HO_11.out
    subst eo33
    obtain ⟨Ao34, co34, eo34⟩ := Kd.R_slice HO_10.out
    subst eo34
    have hsl_ := n_step_at.cut (A := Ao33) (c := co33) (n := x11_1.length) rfl A29.out (Kd.R_reads' HO_11.out).2.1
    obtain ⟨cv_, hcv_⟩ : ∃ v_ : Value, v_ = .slice (Ao33.map fun x => x.add (x13_1 : Int).toNat) (((wrap64 ((wrap64 (x13_1 + (l1.length : Int))) + 1)) : Int).toNat - (x13_1 : Int).toNat) (co33 - (x13_1 : Int).toNat) := ⟨_, rfl⟩
    simp only [← hcv_] at hsl_
    have hcw_ := Aside0.mk hcv_
    clear hcv_
    go_wp2_with (first | ((with_reducible refine gate_callee (f := 81) rfl ?_); refine goesq (some 77) Tryd.func81 #[cv_, .slice Ao34 x10_1.length co34] ?_; (with_reducible refine (n_step_at.calls k1 (fun k_ => some k_ = (.slice Ao33 x11_1.length co33 : Value).ownBlock) cv_ Ao33 x11_1.length co33 x11_1 _ _ x10_1 x13_1 (wrap64 ((wrap64 (x13_1 + (l1.length : Int))) + 1)) t226 t227 w _ ?side1 ?side2 ?side3 ?side4 hcw_.out A29.out).mono ?_); (case side1 => repeat (first | (with_reducible first | exact HB.out | apply below_alloc | apply pw_below_drewN | apply below_drew1) | exact HB.out)); (case side2 => exact Kd.R_tight rfl HO_11.out); (case side3 => exact Kd.C_kept_own (HO_10.out) (fun k_ hk_ hs_ => (hk_.2.1) hs_)); (case side4 => exact (Kd.R_reads' HO_10.out).2.1); rintro e w35 ⟨rfl, hy0, hb, hkp⟩; refine ⟨_, rfl, ?_⟩; replace HO_10 := am (Kd.R_mono (ok' := fun k_ => (w.heap.size ≤ k_) ∧ some k_ ≠ (.slice Ao33 x11_1.length co33 : Value).ownBlock ∧ some k_ ≠ (.slice Ao27 x12_1.length co27 : Value).ownBlock) (Kd.R_keptB (HO_10.out) hkp (fun k_ hk_ hs_ => (hk_.2.1) hs_)) (fun k_ hk_ => ⟨hk_.1.1, hk_.1.2.1, hk_.1.2.2⟩)); replace HO_11 := am (Kd.R_reok rfl hy0 (fun k_ e_ => HO_11.out.1 k_ e_)); replace HO_12 := am (Kd.R_mono (ok' := fun k_ => (w.heap.size ≤ k_) ∧ some k_ ≠ (.slice Ao34 x10_1.length co34 : Value).ownBlock ∧ some k_ ≠ (.slice Ao33 x11_1.length co33 : Value).ownBlock) (Kd.R_keptB (HO_12.out) hkp (fun k_ hk_ hs_ => (hk_.2.2) hs_)) (fun k_ hk_ => ⟨hk_.1.1, hk_.1.2.1, hk_.1.2.2⟩)); replace HB := am (hb); (try clear hb); (try clear hkp); (try clear hy0); have p32 : 0 ≤ (x13_1 : Int) := odt; have q32 : (x13_1 : Int) < ((x12_1.length : Int) : Int) := odt; obtain ⟨go32, co32, eo32, gb32, gl32, cl32, HG32⟩ := Kd.R_form HO_12.out (by omega); (first | cases eo32 | (injection eo32 with ea_ en_ ec_; (first | subst ea_ | (injection ea_ with ea_; subst ea_)); subst ec_; clear en_)); have GB32 := Aside0.mk gb32; have GG32 := Aside0.mk HG32; clear gb32 gl32 HG32; obtain ⟨hx32_0, hf32_0⟩ := Kd.R_celln 0 HO_12.out (x13_1 : Int) p32 q32; replace p32 := eq_true p32; replace q32 := eq_true q32; obtain ⟨hy36_, hz36_⟩ := Kd.R_celln 0 HO_12.out (x13_1 : Int) odt odt; have HP36 := Kd.R_putg HO_12.out (x13_1 : Int) t226) | ((with_reducible refine gate_store (t := 88) (p := 78) rfl ?_); refine store_event (t := 88) (p := 78) (v := ?vo_w37) (w1 := (w35.setCell ⟨go32, (x13_1 : Int).toNat, none⟩ (.int .u32 t226))) ?hg ?ho ?hn ?hr ?_; (case ho => rfl); (case hg => rfl); (case hn => rfl); (case hr => first | (go_simp; done) | (go_simp; rfl)); intro w37 hw; have hg : w35.grownBy w37 (some go32) := (by rw [hw]; exact HP36.2); have hp_ : Kd.R (Kd.int .u32) 88 w37 w.heap.size (fun k_ => (w.heap.size ≤ k_) ∧ some k_ ≠ (.slice Ao34 x10_1.length co34 : Value).ownBlock ∧ some k_ ≠ (.slice Ao33 x11_1.length co33 : Value).ownBlock) (.slice (some ⟨go32, 0, none⟩) x12_1.length co27) y228 := (by rw [hw, Ny228.out]; exact HP36.1); clear HP36; replace HO_10 := am (Kd.R_after (v := (.slice (some ⟨go32, 0, none⟩) x12_1.length co27)) (v1 := (.slice (some ⟨go32, 0, none⟩) x12_1.length co27)) (ok := (fun k_ => (w.heap.size ≤ k_) ∧ some k_ ≠ (.slice Ao33 x11_1.length co33 : Value).ownBlock)) (by (with_reducible repeat (first | apply Kd.R_alloc | apply Kd.R_drewN | apply Kd.R_drew)); exact Kd.R_mono HO_10.out (fun _ hk => ⟨⟨hk.1, hk.2.1⟩, hk.2.2⟩)) hg (.inl rfl)); replace HO_11 := am (Kd.R_after (v := (.slice (some ⟨go32, 0, none⟩) x12_1.length co27)) (v1 := (.slice (some ⟨go32, 0, none⟩) x12_1.length co27)) (ok := (fun k_ => (w.heap.size ≤ k_) ∧ some k_ ≠ (.slice Ao34 x10_1.length co34 : Value).ownBlock)) (by (with_reducible repeat (first | apply Kd.R_alloc | apply Kd.R_drewN | apply Kd.R_drew)); exact Kd.R_mono HO_11.out (fun _ hk => ⟨⟨hk.1, hk.2.1⟩, hk.2.2⟩)) hg (.inl rfl)); replace HO_12 := am (hp_); replace HB := am ((by rw [hw]; exact below_set (HB.out) GB32.out : Below w.heap.size w w37)); clear hg hw hp_))
    (try simp only [← hl12_1])
    go_roundg k1
    case measure => have := HK1.out; omega
    case rel => exact ⟨(x10_1), (t227), (y228), (wrap64 (x13_1 - 1)), (by first | rfl | (simp; done) | (simp [*]; done)), H', ⟨by have := HK1.out; omega⟩, ⟨by (try simp only [hl12_1]); (with_reducible repeat (first | apply Kd.R_alloc | apply Kd.R_drewN | apply Kd.R_drew)); exact Kd.R_mono HO_10.out (fun _ hk => ⟨hk.1.1, ⟨hk.1.2, hk.2⟩⟩)⟩, ⟨by (try simp only [hl12_1]); (with_reducible repeat (first | apply Kd.R_alloc | apply Kd.R_drewN | apply Kd.R_drew)); exact Kd.R_mono HO_11.out (fun _ hk => ⟨hk.1.1, ⟨hk.1.2, hk.2⟩⟩)⟩, ⟨by (try simp only [hl12_1]); (with_reducible repeat (first | apply Kd.R_alloc | apply Kd.R_drewN | apply Kd.R_drew)); exact HO_12.out⟩, ⟨bq HB.out⟩⟩
   rw [if_neg c28] at H
   have c28b0 : decide (0 ≤ x13_1) = false := decide_eq_false c28
   clear c28
   replace H := Option.bind_eq_some_iff.mp H
   obtain ⟨t229, A380, H⟩ := H
   try dsimp only at H
   have A38 := Aside0.mk A380
   clear A380
   by_cases c39 : 0 ≤ (l1.length : Int)
   rotate_left
   ·rw [if_neg c39] at H
    exact absurd H (by simp)
   rw [if_pos c39] at H
   have c39b0 := eq_true c39
   have c39b1 := decide_eq_true c39
   clear c39
   by_cases c40 : (l1.length : Int) ≤ (x11_1.length : Int)
   rotate_left
   ·rw [if_neg c40] at H
    exact absurd H (by simp)
   rw [if_pos c40] at H
   have c40b0 := eq_true c40
   have c40b1 := decide_eq_true c40
   clear c40
   obtain ⟨y232, hy232⟩ : ∃ y_ : List Int, y_ = (x11_1.take ((l1.length : Int) : Int).toNat) := ⟨_, rfl⟩
   replace H : ((n_unshift.f k1 y232 (IntKind.u64.wrap (t216))).bind fun t236 => (some (t229, t236))) = some (r1, r2) := by first | (rw [hy232]; with_reducible exact H) | (have H2_ := (Option.bind_some _ _).symm.trans H; rw [hy232]; with_reducible exact H2_) | (have H2_ := (Option.bind_some _ _).symm.trans H; with_reducible exact H2_) | with_reducible exact H | (rw [hy232]; exact H) | exact H
   have Ny232 := Aside0.mk hy232
   clear hy232
   replace H := Option.bind_eq_some_iff.mp H
   obtain ⟨t236, A410, H⟩ := H
   try dsimp only at H
   have A41 := Aside0.mk A410
   clear A410
   simp only [Option.some.injEq, Prod.mk.injEq] at H
   obtain ⟨rfl, rfl⟩ := H
   try go_wp2
   have n0_ := Aside0.mk (Kd.R_drew HO_10.out)
   have n1_ := Aside0.mk (Kd.R_drew HO_11.out)
   have n2_ := Aside0.mk (Kd.R_drew HO_12.out)
   have n3_ := Aside0.mk (below_drew1 HB.out)
   clear HO_10
   clear HO_11
   clear HO_12
   clear HB
   have HO_10 := n0_
   have HO_11 := n1_
   have HO_12 := n2_
   have HB := n3_
   clear n0_ n1_ n2_ n3_
   obtain ⟨Ao44, co44, eo44⟩ := Kd.R_slice HO_11.out
   (first | subst eo44 | (injection eo44 with f1_ f2_ f3_; have f4_ := f1_.symm; have f5_ := f3_.symm; clear f1_ f2_ f3_; subst f4_; subst f5_))
   have q43 : ((l1.length : Int) : Int) ≤ ((x11_1.length : Int) : Int) := odt
   obtain ⟨i043, hi043, _, hsz43, _⟩ := info_parts info88
   have hroom43 : x11_1.length ≤ co44 := (Kd.R_reads' HO_11.out).2.1
   have hC43 : Kd.C (Kd.int .u32) _ Ao44 x11_1.length x11_1 := (Kd.R_reads' HO_11.out).2.2
   have hcut43 := cut_to (P := Tryd.prog) 83 88 .i64 Tryd.underlying83 hi043 Ao44 x11_1.length co44 (l1.length : Int) odt q43 hroom43
   have hr43 := Kd.C_take (m := ((l1.length : Int) : Int).toNat) hC43 (by omega)
   have hy43 : y232.length = ((l1.length : Int) : Int).toNat := (by rw [Ny232.out, List.length_take]; omega)
   rw [← Ny232.out] at hr43
   rw [← hy43] at hcut43
   have HR235 := Aside0.mk hr43
   have HC235 := Aside0.mk (show y232.length ≤ co44 from by omega)
   clear hr43 hC43 hroom43 hi043 hsz43
   have KY43 := Aside0.mk hy43
   clear hy43
   have KL43 := Aside0.mk (show ((l1.length : Int) : Int).toNat ≤ x11_1.length from by omega)
   replace q43 := eq_true q43
   refine start_ (n := 9) (S := fun w' => True) (ds := []) #[false, false, false, false, false, false, false, false, false] (by kernel_rfl) rfl rfl trivial (fun hHeld => ?_); refine with_tabW n_divide.tab15 n_divide.bits15 (fun HT_ HW_ => ?_)
   generalize wr.drew = w42 at HO_10 HO_11 HO_12 HB HR235 hHeld ⊢
   refine pure_ (i := 0) (N := some 79) (v := ?_) (a' := ?_) #[true, false, false, false, false, false, false, false, false] rfl rfl (any_of HT_.out (by kernel_rfl)) (fun _ _ _ h => h) (Or.inl ⟨by rfl, ?_⟩) ?_ ?_
   rotate_left
   ·intro w'
    go_simp
    with_reducible rfl
   rotate_left
   ·simp only [Act.put, List.setIfInBounds_toArray, List.set_cons_zero, List.set_cons_succ, i64_w, i32_w]
    rfl
   refine pure_ (i := 2) (N := some 81) (v := ?_) (a' := ?_) #[true, false, true, false, false, false, false, false, false] rfl rfl (any_of HT_.out (by kernel_rfl)) (fun _ _ _ h => h) (Or.inl ⟨by rfl, ?_⟩) ?_ ?_
   rotate_left
   ·intro w'
    go_simp
    with_reducible rfl
   rotate_left
   ·simp only [Act.put, List.setIfInBounds_toArray, List.set_cons_zero, List.set_cons_succ, i64_w, i32_w]
    rfl
   refine pure_ (i := 3) (N := some 82) (v := ?_) (a' := ?_) #[true, false, true, true, false, false, false, false, false] rfl rfl (any_of HT_.out (by kernel_rfl)) (fun _ _ _ h => h) (Or.inl ⟨by rfl, ?_⟩) ?_ ?_
   rotate_left
   ·intro w'
    go_simp
    with_reducible rfl
   rotate_left
   ·simp only [Act.put, List.setIfInBounds_toArray, List.set_cons_zero, List.set_cons_succ, i64_w, i32_w]
    rfl
   refine pure_ (i := 4) (N := some 83) (v := ?_) (a' := ?_) #[true, false, true, true, true, false, false, false, false] rfl rfl (any_of HT_.out (by kernel_rfl)) (fun _ _ _ h => h) (Or.inl ⟨by rfl, ?_⟩) ?_ ?_
   rotate_left
   ·intro w'
    go_simp
    with_reducible rfl
   rotate_left
   ·simp only [Act.put, List.setIfInBounds_toArray, List.set_cons_zero, List.set_cons_succ, i64_w, i32_w]
    rfl
   refine pure_ (i := 5) (N := some 84) (v := ?_) (a' := ?_) #[true, false, true, true, true, true, false, false, false] rfl rfl (any_of HT_.out (by kernel_rfl)) (fun _ _ _ h => h) (Or.inl ⟨by rfl, ?_⟩) ?_ ?_
   rotate_left
   ·intro w'
    go_simp
    with_reducible rfl
   rotate_left
   ·simp only [Act.put, List.setIfInBounds_toArray, List.set_cons_zero, List.set_cons_succ, i64_w, i32_w]
    rfl
   refine one_ (i := 1) (N := some 80) #[true, true, true, true, true, true, false, false, false] rfl rfl (one_of HT_.out (by kernel_rfl)) (by decide) (fun K hK => ?_)
   refine goes_ Tryd.func76 (by kernel_rfl) rfl #[.slice Ao27 x12_1.length co27] (by rfl) rfl rfl (by (try simp only [List.map_toArray, List.map_cons, List.map_nil]); first | done | rfl | (simp only [List.length_drop, List.length_take]; rfl)) ?_
   with_reducible refine (n_limbs_trim.calls k1 (fun k_ => some k_ = (.slice Ao27 x12_1.length co27 : Value).ownBlock) _ _ x12_1 t229 _ ?side1 A38.out).mono ?_
   (case side1 => exact Kd.R_V (Kd.R_tight rfl (HO_12.out)))
   rintro e w45 ⟨v230, rfl, ho0, hb⟩
   refine ⟨_, rfl, ?_⟩
   have n0_ := Aside0.mk (Kd.R_below (Kd.rq HO_10.out) hb)
   have n1_ := Aside0.mk (Kd.R_below (Kd.rq HO_11.out) hb)
   have n2_ := Aside0.mk (Kd.R_below (Kd.rq HO_12.out) hb)
   have n3_ := Aside0.mk (Kd.V_lower (Kd.V_mono (ok' := fun k_ => (P0_ k_ ∨ w.heap.size ≤ k_) ∧ some k_ ≠ (v218 : Value).ownBlock ∧ some k_ ≠ (.slice Ao44 x11_1.length co44 : Value).ownBlock) ho0 (fun k_ hk_ => ⟨Or.elim hk_ (fun hs_ => (.inr (((HO_12.out).1 k_ hs_.symm).1))) (fun hn_ => (.inr (Nat.le_trans (below_size (bq HB.out)) hn_))), Or.elim hk_ (fun hs_ => ((HO_12.out).1 k_ hs_.symm).2.1) (fun hn_ => (Kd.fresh' (Kd.R_lt (Kd.rq HO_10.out)) k_ hn_)), Or.elim hk_ (fun hs_ => ((HO_12.out).1 k_ hs_.symm).2.2) (fun hn_ => (Kd.fresh' (Kd.R_lt (Kd.rq HO_11.out)) k_ hn_))⟩)) (below_size (bq HB.out)))
   have n4_ := Aside0.mk (Kd.C_below (by repeat (first | (with_reducible exact HR235.out) | (with_reducible refine Kd.C_alloc ?_ _) | (with_reducible refine Kd.C_drewN ?_ _) | (with_reducible refine Kd.C_drew ?_) | exact HR235.out)) hb)
   have n5_ := Aside0.mk (below_step (bq HB.out) hb)
   clear HO_10
   clear HO_11
   clear HO_12
   clear HR235
   clear HB
   have HO_10 := n0_
   have HO_11 := n1_
   have HO_12 := n2_
   have HO231 := n3_
   have HR235 := n4_
   have HB := n5_
   clear n0_ n1_ n2_ n3_ n4_ n5_
   (try clear hb)
   (try clear hb2)
   (try clear hk)
   (try clear hi)
   (try clear ho0)
   refine hK.out _ _ trivial (fun hHeld => ?_)
   clear hK K
   refine norm_ (a' := ?_) ?_ ?_
   rotate_left
   ·show Act.put _ (some 80) _ = _
    simp only [Act.put, List.setIfInBounds_toArray, List.set_cons_zero, List.set_cons_succ, i64_w, i32_w]
    rfl
   refine one_ (i := 6) (N := some 85) #[true, true, true, true, true, true, true, false, false] rfl rfl (one_of HT_.out (by kernel_rfl)) (by decide) (fun K hK => ?_)
   refine goes_ Tryd.func82 (by kernel_rfl) rfl #[.slice Ao44 y232.length co44, .int .u64 (IntKind.u64.wrap (t216))] (by rfl) rfl rfl (by (try simp only [List.map_toArray, List.map_cons, List.map_nil]); first | done | rfl | (simp only [List.length_drop, List.length_take]; rfl)) ?_
   with_reducible refine (n_unshift.calls k1 _ _ y232 (IntKind.u64.wrap (t216)) t236 _ ?side1 ?side2 A41.out).mono ?_
   (case side1 => repeat (first | exact (by repeat (first | (with_reducible exact HR235.out) | (with_reducible refine Kd.C_alloc ?_ _) | (with_reducible refine Kd.C_drewN ?_ _) | (with_reducible refine Kd.C_drew ?_) | exact HR235.out)) | (with_reducible refine Kd.C_alloc ?_ _) | (with_reducible refine Kd.C_drewN ?_ _) | (with_reducible refine Kd.C_drew ?_)))
   (case side2 => exact HC235.out)
   rintro e w46 ⟨v237, rfl, ho0, hb⟩
   refine ⟨_, rfl, ?_⟩
   have n0_ := Aside0.mk (Kd.R_below (Kd.rq HO_10.out) hb)
   have n1_ := Aside0.mk (Kd.R_below (Kd.rq HO_11.out) hb)
   have n2_ := Aside0.mk (Kd.R_below (Kd.rq HO_12.out) hb)
   have n3_ := Aside0.mk (Kd.V_below (Kd.vq HO231.out) hb)
   have n4_ := Aside0.mk (Kd.V_lower (Kd.V_mono (ok' := fun k_ => (P0_ k_ ∨ w.heap.size ≤ k_) ∧ some k_ ≠ (v218 : Value).ownBlock ∧ some k_ ≠ (.slice Ao44 x11_1.length co44 : Value).ownBlock ∧ some k_ ≠ (.slice Ao27 x12_1.length co27 : Value).ownBlock) ho0 (fun k_ hk_ => ⟨(.inr (Nat.le_trans (below_size (bq HB.out)) hk_)), (Kd.fresh' (Kd.R_lt (Kd.rq HO_10.out)) k_ hk_), (Kd.fresh' (Kd.R_lt (Kd.rq HO_11.out)) k_ hk_), (Kd.fresh' (Kd.R_lt (Kd.rq HO_12.out)) k_ hk_)⟩)) (below_size (bq HB.out)))
   have n5_ := Aside0.mk (Kd.C_below (by repeat (first | (with_reducible exact HR235.out) | (with_reducible refine Kd.C_alloc ?_ _) | (with_reducible refine Kd.C_drewN ?_ _) | (with_reducible refine Kd.C_drew ?_) | exact HR235.out)) hb)
   have n6_ := Aside0.mk (below_step (bq HB.out) hb)
   clear HO_10
   clear HO_11
   clear HO_12
   clear HO231
   clear HR235
   clear HB
   have HO_10 := n0_
   have HO_11 := n1_
   have HO_12 := n2_
   have HO231 := n3_
   have HO238 := n4_
   have HR235 := n5_
   have HB := n6_
   clear n0_ n1_ n2_ n3_ n4_ n5_ n6_
   (try clear hb)
   (try clear hb2)
   (try clear hk)
   (try clear hi)
   (try clear ho0)
   refine hK.out _ _ trivial (fun hHeld => ?_)
   clear hK K
   refine norm_ (a' := ?_) ?_ ?_
   rotate_left
   ·show Act.put _ (some 85) _ = _
    simp only [Act.put, List.setIfInBounds_toArray, List.set_cons_zero, List.set_cons_succ, i64_w, i32_w]
    rfl
   refine pure_ (i := 7) (N := some 4) (v := ?_) (a' := ?_) #[true, true, true, true, true, true, true, true, false] rfl rfl (any_of HT_.out (by kernel_rfl)) (fun _ _ _ h => h) (Or.inl ⟨by rfl, ?_⟩) ?_ ?_
   rotate_left
   ·intro w'
    go_simp
    with_reducible rfl
   rotate_left
   ·simp only [Act.put, List.setIfInBounds_toArray, List.set_cons_zero, List.set_cons_succ, i64_w, i32_w]
    rfl
   refine pure_ (i := 8) (N := some 5) (v := ?_) (a' := ?_) #[true, true, true, true, true, true, true, true, true] rfl rfl (any_of HT_.out (by kernel_rfl)) (fun _ _ _ h => h) (Or.inl ⟨by rfl, ?_⟩) ?_ ?_
   rotate_left
   ·intro w'
    go_simp
    with_reducible rfl
   rotate_left
   ·simp only [Act.put, List.setIfInBounds_toArray, List.set_cons_zero, List.set_cons_succ, i64_w, i32_w]
    rfl
   refine done_ (done_of HT_.out (by kernel_rfl)) ?_
   try go_wp2
   go_ret2
   exact ⟨_, _, by first | rfl | (simp [errW_none, errW_some] <;> rfl) | (simp only [← hji14, ← hji20]; first | rfl | (simp [errW_none, errW_some] <;> rfl)) | (simp [*, errW_none, errW_some] <;> rfl), by (with_reducible repeat (first | apply Kd.V_alloc | apply Kd.V_drewN | apply Kd.V_drew)); exact Kd.V_mono HO231.out (fun _ hk => hk.1), by (with_reducible repeat (first | apply Kd.V_alloc | apply Kd.V_drewN | apply Kd.V_drew)); exact Kd.V_mono HO238.out (fun _ hk => hk.1), bq HB.out⟩
end Go.Proofs.YtfnfjmeiaamheaaDoor.PA
namespace Go.Proofs.YtfnfjmeiaamheaaDoor.PA
open Go Go.RowKit Go.Proofs.YtfnfjmeiaamheaaDoorW.PrintWords
structure DV (A : Int) (u q d : List Int) (n m c : Nat) : Prop where
 dgs : Dg u
 len : u.length = m + n
 qd : Dg q
 ql : q.length = m
 val : A = Sm u 0 (c + n) + Sm d 0 n * (4294967296 ^ c * Sm q c (m - c))
 hi : ∀ t, c + n ≤ t → dg u t = 0
 top : Sm u c n < Sm d 0 n
theorem DV.fit {A : Int} {u q d : List Int} {n m c : Nat} (h : DV A u q d n m (c + 1)) : Sm u c (n + 1) < Sm d 0 n * 4294967296 := by
 rw [Sm.cons]
 have h1 := h.top
 have h2 := (h.dgs c).2
 omega
theorem DV.next {A : Int} {u u' q d : List Int} {n m c : Nat} {x : Int} (h : DV A u q d n m (c + 1)) (hd : Dg d) (hc : c + 1 ≤ m) (s : St u u' d c n x) : DV A u' (q.set c x) d n m c := by
 obtain ⟨dgs, len, qd, ql, val, hi, top⟩ := h
 obtain ⟨sd, sl, so, sv, slt, s0, s1⟩ := s
 have hV := Sm.lt hd 0 n
 have hP := pw_pos n
 have hz : dg u' (c + n) = 0 := by
  have h1 := Sm.nonneg sd c n
  have h2 := (sd (c + n)).1
  have h3 : Sm u' c (n + 1) = Sm u' c n + dg u' (c + n) * 4294967296 ^ n := rfl
  refine Classical.byContradiction fun hn => ?_
  have h4 : 1 * (4294967296 : Int) ^ n ≤ dg u' (c + n) * 4294967296 ^ n := Int.mul_le_mul_of_nonneg_right (by omega) (Int.le_of_lt hP)
  omega
 have hS : Sm u' c (n + 1) = Sm u' c n := by rw [Sm, hz]; omega
 refine ⟨sd, by rw [sl]; exact len, qd.set s0 s1, by rw [List.length_set]; exact ql, ?_, fun t ht => ?_, by rw [← hS]; exact slt⟩
 ·obtain ⟨e, he⟩ : ∃ e, m - c = e + 1 := ⟨m - c - 1, by omega⟩
  rw [he, Sm.cons, dg_set, if_pos ⟨rfl, by omega⟩, Sm.set_out (Or.inl (by omega)), Sm.add u' 0 c n, Nat.zero_add, Sm.ext (m := u) (j' := 0) c (fun t ht => so _ (by omega))]
  rw [show m - (c + 1) = e by omega, show c + 1 + n = c + (n + 1) by omega, Sm.add u 0 c (n + 1), Nat.zero_add, ← sv, hS, pw_succ] at val
  rw [val]
  generalize (4294967296 : Int) ^ c = P
  generalize Sm q (c + 1) e = Q
  grind
 by_cases hc2 : t = c + n
 ·rw [hc2]; exact hz
 rw [so t (by omega)]; exact hi t (by omega)
theorem dg_append (l m : List Int) (i : Nat) : dg (l ++ m) i = if i < l.length then dg l i else dg m (i - l.length) := by
 unfold dg
 rw [List.getD_eq_getElem?_getD, List.getD_eq_getElem?_getD, List.getD_eq_getElem?_getD, List.getElem?_append]
 split <;> rfl
theorem dg_drop (l : List Int) (n i : Nat) : dg (l.drop n) i = dg l (n + i) := by
 unfold dg
 rw [List.getD_eq_getElem?_getD, List.getD_eq_getElem?_getD, List.getElem?_drop]
theorem nstep_at_ev {u d : List Int} (hu : Dg u) (hd : Dg d) {j n : Nat} (hn : d.length = n) (h2 : 2 ≤ n) (hf : n ≤ 100000) (hul : j + n + 1 ≤ u.length) (htop : 2147483648 ≤ dg d (n - 1)) (hfit : Sm u j (n + 1) < Sm d 0 n * 4294967296) :
  ∃ q u', Ev (fun k => n_step_at.f k u d (j : Int) ((j + n + 1 : Nat) : Int)) (q, u') ∧ St u u' d j n q := by
 have ew : ∀ t, dg ((u.drop j).take (n + 1)) t = if t < n + 1 then dg u (j + t) else 0 := fun t => by rw [dg_take, dg_drop]
 have hw : Dg ((u.drop j).take (n + 1)) := fun t => by
  rw [ew]; split
  ·exact hu _
  omega
 have hwl : ((u.drop j).take (n + 1)).length = n + 1 := by rw [List.length_take, List.length_drop]; omega
 have hws : Sm ((u.drop j).take (n + 1)) 0 (n + 1) = Sm u j (n + 1) := Sm.ext _ fun t ht => by rw [Nat.zero_add, ew, if_pos ht]
 obtain ⟨q, w', g1, g2⟩ := nstep_ev hw hd hn h2 hf hwl htop (by rw [hws]; exact hfit)
 obtain ⟨sd, sl, so, sv, slt, s0, s1⟩ := g2
 have hwl' : w'.length = n + 1 := by rw [sl]; exact hwl
 have htl : (u.take j).length = j := by rw [List.length_take]; omega
 have eu : ∀ t, dg (u.take j ++ w' ++ u.drop (j + n + 1)) t = if t < j then dg u t else if t < j + n + 1 then dg w' (t - j) else dg u t := fun t => by
  rw [dg_append, dg_append, List.length_append, htl, hwl', dg_take, dg_drop]
  by_cases h1 : t < j
  ·rw [if_pos (by omega), if_pos h1, if_pos h1, if_pos h1]
  by_cases h2 : t < j + n + 1
  ·rw [if_pos (by omega), if_neg h1, if_neg h1, if_pos h2]
  rw [if_neg (by omega), if_neg h1, if_neg h2, show j + n + 1 + (t - (j + (n + 1))) = t by omega]
 have es : Sm (u.take j ++ w' ++ u.drop (j + n + 1)) j (n + 1) = Sm w' 0 (n + 1) := Sm.ext _ fun t ht => by rw [eu, if_neg (by omega), if_pos (by omega), Nat.zero_add, Nat.add_sub_cancel_left]
 refine ⟨q, u.take j ++ w' ++ u.drop (j + n + 1), Ev.same (fun k => ?_) (Ev.bind g1 (c := fun _ r => some (r.1, u.take j ++ r.2 ++ u.drop (j + n + 1))) Ev.ret), ?_⟩
 ·rw [n_step_at.f, if_pos (by omega), show ((j + n + 1 : Nat) : Int).toNat - ((j : Nat) : Int).toNat = n + 1 by omega]
  rfl
 refine ⟨fun t => ?_, ?_, fun t ht => ?_, by rw [es, sv, hws], by rw [es]; exact slt, s0, s1⟩
 ·rw [eu]; split
  ·exact hu t
  split
  ·exact sd _
  exact hu t
 ·rw [List.length_append, List.length_append, htl, hwl', List.length_drop]; omega
 rw [eu]
 by_cases h1 : t < j
 ·rw [if_pos h1]
 rw [if_neg h1, if_neg (by omega)]
theorem back {A V a b S Q R : Int} (hS : 0 < S) (hA : A = a * S) (hV : V = b * S) (he : A = R + V * Q) (h0 : 0 ≤ R) (h1 : R < V) : a / b = Q ∧ a % b = R / S := by
 have e1 : R = (a - b * Q) * S := by rw [hA, hV] at he; grind
 have e2 : R / S = a - b * Q := by rw [e1]; exact Int.mul_ediv_cancel _ (by omega)
 have p0 : 0 ≤ a - b * Q := by
  refine Classical.byContradiction fun hc => ?_
  have : (a - b * Q) * S ≤ (-1) * S := Int.mul_le_mul_of_nonneg_right (by omega) (by omega)
  omega
 have p1 : a - b * Q < b := by
  refine Int.lt_of_mul_lt_mul_right (a := S) ?_ (by omega)
  rw [← e1, ← hV]; exact h1
 have hb : 0 < b := by omega
 have := (Int.ediv_emod_unique hb (a := a) (q := Q) (r := a - b * Q)).2 ⟨by omega, p0, p1⟩
 rw [e2]; exact this
theorem ndiv_loop {d : List Int} (hd : Dg d) {n m s : Nat} (hn : d.length = n) (h2 : 2 ≤ n) (hf : m + n ≤ 100000) (hs : s < 32) (htop : 2147483648 ≤ dg d (n - 1)) {A a b : Int} (hA : A = a * 2 ^ s) (hV : Sm d 0 n = b * 2 ^ s) :
 ∀ c u q, c ≤ m → DV A u q d n m c → ∃ t r, Ev (fun k => n_divide.l0 k (s : Int) (n : Int) d u q ((c : Int) - 1)) (t, r) ∧ Can t ∧ vl t = a / b ∧ t.length ≤ m ∧ Can r ∧ vl r = a % b ∧ r.length ≤ n
 | 0, u, q, hc, h => by
  have hlen := h.len
  have hql := h.ql
  obtain ⟨t, f1, f2, f3, f4⟩ := trim_ev h.qd (by omega)
  have htl : (u.take n).length = n := by rw [List.length_take]; omega
  obtain ⟨r, g1, g2, g3, g4⟩ := unshift_ev (h.dgs.take n) (by omega) hs
  have hval := h.val
  have htop := h.top
  rw [Nat.zero_add, Int.pow_zero, Int.one_mul, Nat.sub_zero] at hval
  obtain ⟨e1, e2⟩ := back (p2_pos s) hA hV hval (Sm.nonneg h.dgs 0 n) htop
  have e3 : vl (u.take n) = Sm u 0 n := by unfold vl; rw [htl]; exact Sm.ext _ fun t ht => by rw [dg_take, if_pos (by omega)]
  refine ⟨t, r, Ev.step (h := fun k => (n_limbs_trim.f k q).bind fun t229 => (n_unshift.f k (u.take n) (s : Int)).bind fun t236 => some (t229, t236)) (fun k => ?_) (Ev.bind f1 (Ev.bind g1 Ev.ret)), f2, ?_, by omega, g2, ?_, by omega⟩
  ·have x1 : (0 : Int) ≤ (n : Int) := by omega
   have x2 : (n : Int) ≤ (u.length : Int) := by omega
   rw [n_divide.l0, if_neg (by omega)]
   simp only [if_pos x1, if_pos x2]
   rfl
  ·rw [f3, e1]; unfold vl; rw [hql]
  rw [g3, e3, e2]
 | c + 1, u, q, hc, h => by
  have hlen := h.len
  have hql := h.ql
  obtain ⟨x, u', g1, g2⟩ := nstep_at_ev h.dgs hd (j := c) hn h2 (by omega) (by omega) htop h.fit
  obtain ⟨t, r, f1, f2⟩ := ndiv_loop hd hn h2 hf hs htop hA hV c u' (q.set c x) (by omega) (h.next hd hc g2)
  refine ⟨t, r, Ev.step (h := fun k => (n_step_at.f k u d (c : Int) ((c + n + 1 : Nat) : Int)).bind fun bt => n_divide.l0 k (s : Int) (n : Int) d bt.2 (q.set c bt.1) ((c : Int) - 1)) (fun k => ?_) (Ev.bind g1 f1), f2⟩
  have x0 : ((c + 1 : Nat) : Int) - 1 = (c : Int) := by omega
  have x1 : (0 : Int) ≤ (c : Int) := by omega
  have x2 : (c : Int) < (q.length : Int) := by omega
  have x3 : (c : Int) ≥ 0 := x1
  have w1 : Aside0 (wrap64 ((c : Int) + (n : Int)) = ((c + n : Nat) : Int)) := ⟨by rw [wrap_s (by omega) (by omega)]; omega⟩
  have w2 : Aside0 (wrap64 (((c + n : Nat) : Int) + 1) = ((c + n + 1 : Nat) : Int)) := ⟨by rw [wrap_s (by omega) (by omega)]; omega⟩
  have w3 : Aside0 (wrap64 ((c : Int) - 1) = (c : Int) - 1) := ⟨wrap_s (by omega) (by omega)⟩
  rw [x0, n_divide.l0, if_pos x3, w1.out, w2.out, w3.out]
  simp only [if_pos x1, if_pos x2]
  rfl
theorem bitLenAux_spec : ∀ f x, 0 < x → x < 2 ^ f → 1 ≤ Lib.bitLenAux f x ∧ 2 ^ (Lib.bitLenAux f x - 1) ≤ x ∧ x < 2 ^ Lib.bitLenAux f x
 | 0, x, h0, h1 => by simp at h1; omega
 | f + 1, x, h0, h1 => by
  rw [Lib.bitLenAux, if_neg (by omega)]
  by_cases hc : x / 2 = 0
  ·have hx : x = 1 := by omega
   subst hx
   have : Lib.bitLenAux f 0 = 0 := by cases f <;> simp [Lib.bitLenAux]
   rw [hc, this]; decide
  obtain ⟨a1, a2, a3⟩ := bitLenAux_spec f (x / 2) (by omega) (by rw [Nat.pow_succ] at h1; omega)
  obtain ⟨e, he⟩ : ∃ e, Lib.bitLenAux f (x / 2) = e + 1 := ⟨Lib.bitLenAux f (x / 2) - 1, by omega⟩
  rw [he] at a2 a3 ⊢
  rw [Nat.add_sub_cancel] at a2
  refine ⟨by omega, ?_, ?_⟩
  ·rw [show 1 + (e + 1) - 1 = e + 1 by omega, Nat.pow_succ]; omega
  rw [show 1 + (e + 1) = (e + 1) + 1 by omega, Nat.pow_succ]; omega
theorem clz_ev {x : Int} (h0 : 0 < x) (h1 : x < 4294967296) : ∃ s : Nat, bits_LeadingZeros32.f x = some (s : Int) ∧ s < 32 ∧ 2147483648 ≤ x * 2 ^ s ∧ x * 2 ^ s < 4294967296 := by
 obtain ⟨y, rfl⟩ : ∃ y : Nat, x = y := ⟨x.toNat, by omega⟩
 obtain ⟨a1, a2, a3⟩ := bitLenAux_spec 64 y (by omega) (by omega)
 have hL : Lib.bitLen y = Lib.bitLenAux 64 y := rfl
 rw [← hL] at a1 a2 a3
 have hle : Lib.bitLen y ≤ 32 := by
  refine Classical.byContradiction fun hc => ?_
  have : (2 : Nat) ^ 32 ≤ 2 ^ (Lib.bitLen y - 1) := Nat.pow_le_pow_right (by decide) (by omega)
  omega
 obtain ⟨s, hs⟩ : ∃ s, s = 32 - Lib.bitLen y := ⟨_, rfl⟩
 refine ⟨s, ?_, by omega, ?_, ?_⟩
 ·unfold bits_LeadingZeros32.f
  rw [if_pos (by omega)]
  congr 1
  show (32 : Int) - (Lib.bitLen y : Int) = (s : Int)
  omega
 ·have e : (2 : Nat) ^ (Lib.bitLen y - 1) * 2 ^ s = 2147483648 := by
   rw [← Nat.pow_add, show Lib.bitLen y - 1 + s = 31 by omega]
  have := Nat.mul_le_mul_right (2 ^ s) a2
  rw [e] at this
  have e2 : (y : Int) * 2 ^ s = ((y * 2 ^ s : Nat) : Int) := by simp
  rw [e2]; omega
 have e : (2 : Nat) ^ (Lib.bitLen y) * 2 ^ s = 4294967296 := by
  rw [← Nat.pow_add, show Lib.bitLen y + s = 32 by omega]
 have := Nat.mul_lt_mul_of_pos_right a3 (Nat.pow_pos (show 0 < 2 by decide) (n := s))
 rw [e] at this
 have e2 : (y : Int) * 2 ^ s = ((y * 2 ^ s : Nat) : Int) := by simp
 rw [e2]; omega
theorem norm_top {b d : List Int} (hb : Can b) {n s : Nat} (hn : b.length = n + 1) (h0 : 2147483648 ≤ dg b n * 2 ^ s) (hd : Dg d) (hdv : Sm d 0 (n + 1) = vl b * 2 ^ s) : 2147483648 ≤ dg d n := by
 have hp := p2_pos s
 have hP := pw_pos n
 have e : vl b = Sm b 0 n + dg b n * 4294967296 ^ n := by unfold vl; rw [hn, Sm, Nat.zero_add]
 have h1 := Sm.nonneg hb.dgs 0 n
 have h2 : 0 ≤ Sm b 0 n * 2 ^ s := Int.mul_nonneg h1 (Int.le_of_lt hp)
 have h3 := Sm.lt hd 0 n
 rw [Sm, Nat.zero_add, e] at hdv
 refine Classical.byContradiction fun hc => ?_
 have h4 : dg d n * 4294967296 ^ n ≤ 2147483647 * 4294967296 ^ n := Int.mul_le_mul_of_nonneg_right (by omega) (Int.le_of_lt hP)
 have h5 : 2147483648 * 4294967296 ^ n ≤ dg b n * 2 ^ s * 4294967296 ^ n := Int.mul_le_mul_of_nonneg_right h0 (Int.le_of_lt hP)
 have h6 : (Sm b 0 n + dg b n * 4294967296 ^ n) * 2 ^ s = Sm b 0 n * 2 ^ s + dg b n * 2 ^ s * 4294967296 ^ n := by grind
 omega
theorem norm_fit {b : List Int} (hb : Can b) {n s : Nat} (hn : b.length = n + 1) (h0 : dg b n * 2 ^ s < 4294967296) (hs : s < 32) : vl b * 2 ^ s < 4294967296 ^ (n + 1) := by
 have hp := p2_pos s
 have hP := pw_pos n
 have e : vl b = Sm b 0 n + dg b n * 4294967296 ^ n := by unfold vl; rw [hn, Sm, Nat.zero_add]
 have h1 := Sm.lt hb.dgs 0 n
 have hq := p2_split hs
 have h2 : dg b n < 2 ^ (32 - s) := by
  refine Int.lt_of_mul_lt_mul_right (a := 2 ^ s) ?_ (Int.le_of_lt hp)
  rw [Int.mul_comm (2 ^ (32 - s)), hq]; exact h0
 have h3 : (dg b n + 1) * 2 ^ s ≤ 2 ^ (32 - s) * 2 ^ s := Int.mul_le_mul_of_nonneg_right (by omega) (Int.le_of_lt hp)
 rw [Int.mul_comm (2 ^ (32 - s)), hq] at h3
 have h4 : (Sm b 0 n + dg b n * 4294967296 ^ n) * 2 ^ s < (4294967296 ^ n + dg b n * 4294967296 ^ n) * 2 ^ s := Int.mul_lt_mul_of_pos_right (by omega) hp
 have h5 : ((dg b n + 1) * 2 ^ s) * 4294967296 ^ n ≤ 4294967296 * 4294967296 ^ n := Int.mul_le_mul_of_nonneg_right h3 (Int.le_of_lt hP)
 have h6 : (4294967296 ^ n + dg b n * 4294967296 ^ n) * 2 ^ s = ((dg b n + 1) * 2 ^ s) * 4294967296 ^ n := by grind
 rw [e, pw_succ]
 omega
theorem DV.start {a b u d : List Int} (ha : Can a) (hb : Can b) {n m s : Nat} (hn : b.length = n) (h2 : 2 ≤ n) (hm : m + n = a.length + 1) (hs : s < 32) (hu : Dg u) (hul : u.length = a.length + 1) (huv : vl u = vl a * 2 ^ s) (hd : Dg d)
  (htop : 2147483648 ≤ dg d (n - 1)) : DV (vl a * 2 ^ s) u (List.replicate m 0) d n m m := by
 refine ⟨hu, by omega, Dg.rep m, by simp, ?_, fun t ht => dg_beyond (by omega), ?_⟩
 ·rw [Nat.sub_self, Sm, Int.mul_zero, Int.mul_zero, Int.add_zero, Sm.beyond (by omega), huv]
 obtain ⟨p, hp⟩ : ∃ p, n = p + 1 := ⟨n - 1, by omega⟩
 have h3 : dg u a.length < 2 ^ s := by
  apply dg_lt_of hu
  have : Sm u 0 (a.length + 1) = vl u := by unfold vl; rw [hul]
  rw [this, huv, Int.mul_comm]
  exact Int.mul_lt_mul_of_pos_left (vl_lt ha.dgs) (p2_pos s)
 have h4 := p2_le hs
 have h5 := Sm.lt hu m p
 have h6 := Sm.nonneg hd 0 p
 rw [hp, Nat.add_sub_cancel] at htop
 rw [hp, Sm, Sm, Nat.zero_add, show m + p = a.length by omega]
 have h7 : (dg u a.length + 1) * 4294967296 ^ p ≤ dg d p * 4294967296 ^ p := Int.mul_le_mul_of_nonneg_right (by omega) (Int.le_of_lt (pw_pos p))
 rw [Int.add_mul, Int.one_mul] at h7
 omega
theorem ndivide_ev {a b : List Int} (ha : Can a) (hb : Can b) (hb0 : b ≠ []) (hf : a.length + b.length ≤ 90000) : ∃ q r, Ev (fun k => n_divide.f k a b) (q, r) ∧ Can q ∧ vl q = vl a / vl b ∧ q.length ≤ a.length ∧ Can r ∧ vl r = vl a % vl b ∧ r.length ≤ a.length := by
 have hbl : 0 < b.length := List.length_pos_iff.2 hb0
 have hbt := hb.top.resolve_left (by omega)
 have hvb := hb.ge hbl
 have hvp := pw_pos (b.length - 1)
 have ha0 := vl_nonneg ha.dgs
 obtain ⟨c, c1, c2, _, _, _⟩ := cmp_ev ha hb
 by_cases hc : c < 0
 ·have hlt := c2.1 hc
  obtain ⟨K, hK⟩ := c1
  refine ⟨[], a, ⟨K, fun k hk => ?_⟩, Can.nil, ?_, by simp, ha, ?_, Nat.le_refl _⟩
  ·have : n_compare.f k a b = some c := hK k hk
   show n_divide.f k a b = _
   rw [n_divide.f, this, Option.bind_some, if_pos hc]
  ·rw [Int.ediv_eq_zero_of_lt ha0 hlt]; rfl
  rw [Int.emod_eq_of_lt ha0 hlt]
 have hge : vl b ≤ vl a := by
  refine Classical.byContradiction fun hn => hc (c2.2 (by omega))
 have hlen : b.length ≤ a.length := by
  refine Classical.byContradiction fun hn => ?_
  have := Can.lt_of_len ha.dgs hb (by omega)
  omega
 by_cases h1 : b.length = 1
 ·have e0 : vl b = dg b 0 := by unfold vl; rw [h1, Sm.one]
  have hd0 := hb.dgs 0
  rw [h1] at hbt
  have hpos : 0 < dg b 0 := by have : dg b 0 ≠ 0 := hbt; omega
  obtain ⟨q, g1, g2, g3, g4⟩ := small_ev ha.dgs ha.few hpos hd0.2
  have hr0 := Int.emod_nonneg (vl a) (show dg b 0 ≠ 0 by omega)
  have hr1 := Int.emod_lt_of_pos (vl a) hpos
  have hdr : Dg [vl a % dg b 0] := fun i => by
   cases i with
   | zero => exact ⟨hr0, by show vl a % dg b 0 < 4294967296; omega⟩
   | succ i => rw [dg_beyond (by simp)]; omega
  obtain ⟨r, f1, f2, f3, f4⟩ := trim_ev hdr (by simp)
  have er : vl r = vl a % vl b := by rw [f3, e0]; simp [vl, Sm, dg]
  refine ⟨q, r, Ev.same (h := fun k => (n_compare.f k a b).bind fun t => if t < 0 then some (([] : List Int), a) else (n_divideSmall.f k a (dg b 0)).bind fun bt => (n_limbs_trim.f k [bt.2]).bind fun t212 => some (bt.1, t212)) (fun k => ?_) (Ev.bind c1 (Ev.same (fun k => if_neg hc) (Ev.bind g1 (Ev.bind f1 Ev.ret)))), g2, by rw [g3, e0], g4, f2, er, by simp at f4; omega⟩
  rw [n_divide.f]
  have x1 : (b.length : Int) = 1 := by omega
  have x2 : (0 : Int) < (b.length : Int) := by omega
  simp only [if_pos x1, if_pos x2]
  rfl
 obtain ⟨n, hn⟩ : ∃ n, b.length = n + 1 := ⟨b.length - 1, by omega⟩
 rw [hn, Nat.add_sub_cancel] at hbt
 have hbn := hb.dgs n
 obtain ⟨s, k1, k2, k3, k4⟩ := clz_ev (show 0 < dg b n by omega) hbn.2
 obtain ⟨d, f1, f2, f3, f4⟩ := shift_ev hb.dgs hb.few k2 (n := n + 1) (by omega) (by omega) (norm_fit hb hn k4 k2)
 have hfa : vl a * 2 ^ s < 4294967296 ^ (a.length + 1) := by
  have h3 := vl_lt ha.dgs
  have h4 := p2_le k2
  have h5 : vl a * 2 ^ s ≤ vl a * 2147483648 := Int.mul_le_mul_of_nonneg_left h4 ha0
  rw [pw_succ]; omega
 obtain ⟨u, g1, g2, g3, g4⟩ := shift_ev ha.dgs ha.few k2 (n := a.length + 1) (by omega) (by omega) hfa
 have hdv : Sm d 0 (n + 1) = vl b * 2 ^ s := by rw [← f4]; unfold vl; rw [f3]
 have htop := norm_top hb hn k3 f2 hdv
 obtain ⟨m, hm⟩ : ∃ m, m = a.length - (n + 1) + 1 := ⟨_, rfl⟩
 have hst := DV.start ha hb (n := n + 1) (m := m) hn (by omega) (by omega) k2 g2 g3 g4 f2 (by rw [Nat.add_sub_cancel]; exact htop)
 obtain ⟨t, r, r1, r2, r3, r4, r5, r6, r7⟩ := ndiv_loop f2 f3 (by omega) (by omega) k2 (by rw [Nat.add_sub_cancel]; exact htop) rfl hdv m u _ (Nat.le_refl _) hst
 have w1 : Aside0 (wrap64 (((n + 1 : Nat) : Int) - 1) = (n : Int)) := ⟨by rw [wrap_s (by omega) (by omega)]; omega⟩
 have w2 : Aside0 (wrap64 ((a.length : Int) + 1) = ((a.length + 1 : Nat) : Int)) := ⟨by rw [wrap_s (by omega) (by omega)]; omega⟩
 have w3 : Aside0 (wrap64 (wrap64 ((a.length : Int) - ((n + 1 : Nat) : Int)) + 1) = (m : Int)) := ⟨by rw [wrap_s (x := (a.length : Int) - ((n + 1 : Nat) : Int)) (by omega) (by omega), wrap_s (by omega) (by omega)]; omega⟩
 have w4 : Aside0 (wrap64 ((m : Int) - 1) = (m : Int) - 1) := ⟨wrap_s (by omega) (by omega)⟩
 have y1 : IntKind.u64.wrap (s : Int) = (s : Int) := u64_s (by omega) (by omega)
 have x1 : ¬ ((n + 1 : Nat) : Int) = 1 := by omega
 have x2 : (0 : Int) ≤ (n : Int) := by omega
 have x3 : (n : Int) < ((n + 1 : Nat) : Int) := by omega
 have x4 : (0 : Int) ≤ (m : Int) := by omega
 have x5 : m ≤ 70368744177664 := by omega
 have x6 : (m : Int).toNat = m := by omega
 refine ⟨t, r, Ev.same (h := fun k => (n_compare.f k a b).bind fun t => if t < 0 then some (([] : List Int), a) else (n_shift.f k b (s : Int) ((n + 1 : Nat) : Int)).bind fun d => (n_shift.f k a (s : Int) ((a.length + 1 : Nat) : Int)).bind fun u => n_divide.l0 k (s : Int) ((n + 1 : Nat) : Int) d u (List.replicate m 0) ((m : Int) - 1)) (fun k => ?_)
  (Ev.bind c1 (Ev.same (fun k => if_neg hc) (Ev.bind f1 (Ev.bind g1 r1)))), r2, r3, by omega, r5, r6, by omega⟩
 rw [n_divide.f, hn]
 simp only [if_neg x1, w1.out, if_pos x2, if_pos x3, rd_dg, k1, Option.bind_some, y1, w2.out, w3.out, if_pos x4, if_pos x5, x6, List.length_replicate, w4.out]
end Go.Proofs.YtfnfjmeiaamheaaDoor.PA
namespace Go.Proofs.YtfnfjmeiaamheaaDoor.PA
open Go.RowKit Go.Proofs.YtfnfjmeiaamheaaDoorW.PrintWords Go.Proofs.YtfnfjmeiaamheaaDoorW.PrintLast Go.Proofs.YtfnfjmeiaamheaaDoorW.PrintMore
attribute [local go_sem] max2_int min2_int max_two min_two max_three min_three max_four min_four
def e1_divide.f (k : Nat) (l0 : List Int) (l1 : List Int) : Option (List Int × List Int) := (e1_order.f k l0 l1).bind fun t397 => (if t397 < 0 then (some (([] : List Int), l0)) else (if (l1.length : Int) = 1 then (if 0 < (l1.length : Int) then ((e1_short.f k l0 (rd l1 0)).bind fun bt399 => ((e1_strip.f k (([bt399.2] : List Int))).bind fun t406 => (some (bt399.1, t406)))) else (none)) else ((e1_long.f k l0 l1).bind fun bt409 => (some (bt409.1, bt409.2)))))
set_option maxHeartbeats 8000000 in
set_option maxRecDepth 100000 in
theorem e1_divide.calls (k : Nat) (P0_ : Nat → Prop) (A0 : Option Addr) (c0 : Nat) (l0 : List Int) (A1 : Option Addr) (c1 : Nat) (l1 : List Int) (r1 : List Int) (r2 : List Int) (w : World) (hs0 : Kd.V (Kd.int .u32) 88 w w.heap.size (fun k_ => P0_ k_) (.slice A0 l0.length c0) l0) (hr1 : Kd.C (Kd.int .u32) w A1 l1.length l1) (hc1 : l1.length ≤ c1) (h : e1_divide.f k l0 l1 = some (r1, r2)) :
  Calls Tryd.prog 66 #[.slice A0 l0.length c0, .slice A1 l1.length c1] w fun e w' => ∃ v0_ v1_ : Value, e = .returned (.tuple #[v0_, v1_]) ∧ Kd.V (Kd.int .u32) 88 w' w.heap.size (fun k_ => (P0_ k_ ∨ w.heap.size ≤ k_)) v0_ r1 ∧ Kd.V (Kd.int .u32) 88 w' w.heap.size (fun k_ => (P0_ k_ ∨ w.heap.size ≤ k_)) v1_ r2 ∧ Below w.heap.size w w' := by
 have HO0 := Aside0.mk (show Kd.V (Kd.int .u32) 88 w w.heap.size (fun k_ => (P0_ k_ ∨ w.heap.size ≤ k_)) (.slice A0 l0.length c0) l0 from Kd.V_mono hs0 (fun k_ hk => .inl hk))
 have HR1 := Aside0.mk hr1
 have HC1 := Aside0.mk hc1
 clear hr1 hc1
 have HB := Aside0.mk (Below.refl w.heap.size w)
 have H : ((e1_order.f k l0 l1).bind fun t397 => (if t397 < 0 then (some (([] : List Int), l0)) else (if (l1.length : Int) = 1 then (if 0 < (l1.length : Int) then ((e1_short.f k l0 (rd l1 0)).bind fun bt399 => ((e1_strip.f k (([bt399.2] : List Int))).bind fun t406 => (some (bt399.1, t406)))) else (none)) else ((e1_long.f k l0 l1).bind fun bt409 => (some (bt409.1, bt409.2)))))) = some (r1, r2) := h
 clear h
 replace H := Option.bind_eq_some_iff.mp H
 obtain ⟨t397, A30, H⟩ := H
 try dsimp only at H
 have A3 := Aside0.mk A30
 clear A30
 by_cases c4 : t397 < 0
 ·rw [if_pos c4] at H
  have c4b0 := decide_eq_true c4
  clear c4
  simp only [Option.some.injEq, Prod.mk.injEq] at H
  obtain ⟨rfl, rfl⟩ := H
  go_enter Tryd.func66, Tryd.ntmps66
  go_wp2_with (first | ((with_reducible refine gate_callee (f := 83) rfl ?_); refine goesq (some 10) Tryd.func83 #[.slice A0 l0.length c0, .slice A1 l1.length c1] ?_; (with_reducible refine (e1_order.calls k _ _ l0 _ _ l1 t397 _ ?side1 ?side2 ?side3 ?side4 A3.out).mono ?_); (case side1 => repeat (first | exact (Kd.V_reads' HO0.out).2.2 | (with_reducible refine Kd.C_alloc ?_ _) | (with_reducible refine Kd.C_drewN ?_ _) | (with_reducible refine Kd.C_drew ?_))); (case side2 => exact (Kd.V_reads' HO0.out).2.1); (case side3 => repeat (first | exact HR1.out | (with_reducible refine Kd.C_alloc ?_ _) | (with_reducible refine Kd.C_drewN ?_ _) | (with_reducible refine Kd.C_drew ?_))); (case side4 => exact HC1.out); rintro e w' ⟨rfl, ⟨nd, rfl⟩⟩; refine ⟨_, rfl, ?_⟩))
  go_ret2
  exact ⟨_, _, by first | rfl | (simp [errW_none, errW_some] <;> rfl) | (simp [*, errW_none, errW_some] <;> rfl), Kd.V_nil _ _ _ _ _, by (with_reducible repeat (first | apply Kd.V_alloc | apply Kd.V_drewN | apply Kd.V_drew)); exact HO0.out, bq HB.out⟩
 rw [if_neg c4] at H
 have c4b0 := decide_eq_false c4
 clear c4
 by_cases c5 : (l1.length : Int) = 1
 rotate_left
 ·rw [if_neg c5] at H
  have c5b0 : ((l1.length : Int) == 1) = false := beq_eq_false_iff_ne.mpr c5
  have c5b1 : ((l1.length : Int) != 1) = true := bne_iff_ne.mpr c5
  replace H := Option.bind_eq_some_iff.mp H
  obtain ⟨⟨t409, t412⟩, A140, H⟩ := H
  try dsimp only at H
  have A14 := Aside0.mk A140
  clear A140
  simp only [Option.some.injEq, Prod.mk.injEq] at H
  obtain ⟨rfl, rfl⟩ := H
  go_enter Tryd.func66, Tryd.ntmps66
  go_wp2_with (first | ((with_reducible refine gate_callee (f := 83) rfl ?_); refine goesq (some 10) Tryd.func83 #[.slice A0 l0.length c0, .slice A1 l1.length c1] ?_; (with_reducible refine (e1_order.calls k _ _ l0 _ _ l1 t397 _ ?side1 ?side2 ?side3 ?side4 A3.out).mono ?_); (case side1 => repeat (first | exact (Kd.V_reads' HO0.out).2.2 | (with_reducible refine Kd.C_alloc ?_ _) | (with_reducible refine Kd.C_drewN ?_ _) | (with_reducible refine Kd.C_drew ?_))); (case side2 => exact (Kd.V_reads' HO0.out).2.1); (case side3 => repeat (first | exact HR1.out | (with_reducible refine Kd.C_alloc ?_ _) | (with_reducible refine Kd.C_drewN ?_ _) | (with_reducible refine Kd.C_drew ?_))); (case side4 => exact HC1.out); rintro e w' ⟨rfl, ⟨nd, rfl⟩⟩; refine ⟨_, rfl, ?_⟩) | ((with_reducible refine gate_callee (f := 85) rfl ?_); refine goesq (some 30) Tryd.func85 #[.slice A0 l0.length c0, .slice A1 l1.length c1] ?_; (with_reducible refine (e1_long.calls k _ _ l0 _ _ l1 t409 t412 _ ?side1 ?side2 ?side3 ?side4 A14.out).mono ?_); (case side1 => repeat (first | exact (Kd.V_reads' HO0.out).2.2 | (with_reducible refine Kd.C_alloc ?_ _) | (with_reducible refine Kd.C_drewN ?_ _) | (with_reducible refine Kd.C_drew ?_))); (case side2 => exact (Kd.V_reads' HO0.out).2.1); (case side3 => repeat (first | exact HR1.out | (with_reducible refine Kd.C_alloc ?_ _) | (with_reducible refine Kd.C_drewN ?_ _) | (with_reducible refine Kd.C_drew ?_))); (case side4 => exact HC1.out); rintro e w15 ⟨v410, v413, rfl, ho0, ho1, hb⟩; refine ⟨_, rfl, ?_⟩; replace HO0 := am (Kd.V_below (Kd.vq HO0.out) hb); have HO411 := am (Kd.V_lower (Kd.V_mono (ok' := fun k_ => (P0_ k_ ∨ w.heap.size ≤ k_)) ho0 (fun k_ hk_ => (.inr (Nat.le_trans (below_size (bq HB.out)) hk_)))) (below_size (bq HB.out))); have HO414 := am (Kd.V_lower (Kd.V_mono (ok' := fun k_ => (P0_ k_ ∨ w.heap.size ≤ k_)) ho1 (fun k_ hk_ => (.inr (Nat.le_trans (below_size (bq HB.out)) hk_)))) (below_size (bq HB.out))); replace HB := am (below_step (bq HB.out) hb); (try clear hb); (try clear ho0); (try clear ho1)))
  go_ret2
  exact ⟨_, _, by first | rfl | (simp [errW_none, errW_some] <;> rfl) | (simp [*, errW_none, errW_some] <;> rfl), by (with_reducible repeat (first | apply Kd.V_alloc | apply Kd.V_drewN | apply Kd.V_drew)); exact HO411.out, by (with_reducible repeat (first | apply Kd.V_alloc | apply Kd.V_drewN | apply Kd.V_drew)); exact HO414.out, bq HB.out⟩
 rw [if_pos c5] at H
 have c5b0 : ((l1.length : Int) == 1) = true := beq_iff_eq.mpr c5
 have c5b1 : ((l1.length : Int) != 1) = false := bne_eq_false_iff_eq.mpr c5
 clear c5
 by_cases c6 : 0 < (l1.length : Int)
 rotate_left
 ·rw [if_neg c6] at H
  exact absurd H (by simp)
 rw [if_pos c6] at H
 have c6b0 : decide (0 < (l1.length : Int)) = true := decide_eq_true c6
 have c6b1 : decide (0 < l1.length) = true := decide_eq_true (by omega)
 clear c6
 replace H := Option.bind_eq_some_iff.mp H
 obtain ⟨⟨t399, t402⟩, A70, H⟩ := H
 try dsimp only at H
 have A7 := Aside0.mk A70
 clear A70
 obtain ⟨y403, hy403⟩ : ∃ y_ : List Int, y_ = (([t402] : List Int)) := ⟨_, rfl⟩
 replace H : ((e1_strip.f k y403).bind fun t406 => (some (t399, t406))) = some (r1, r2) := by first | (rw [hy403]; with_reducible exact H) | (have H2_ := (Option.bind_some _ _).symm.trans H; rw [hy403]; with_reducible exact H2_) | (have H2_ := (Option.bind_some _ _).symm.trans H; with_reducible exact H2_) | with_reducible exact H | (rw [hy403]; exact H) | exact H
 have Ny403 := Aside0.mk hy403
 clear hy403
 replace H := Option.bind_eq_some_iff.mp H
 obtain ⟨t406, A80, H⟩ := H
 try dsimp only at H
 have A8 := Aside0.mk A80
 clear A80
 simp only [Option.some.injEq, Prod.mk.injEq] at H
 obtain ⟨rfl, rfl⟩ := H
 go_enter Tryd.func66, Tryd.ntmps66
 go_wp2_with (first | ((with_reducible refine gate_callee (f := 83) rfl ?_); refine goesq (some 10) Tryd.func83 #[.slice A0 l0.length c0, .slice A1 l1.length c1] ?_; (with_reducible refine (e1_order.calls k _ _ l0 _ _ l1 t397 _ ?side1 ?side2 ?side3 ?side4 A3.out).mono ?_); (case side1 => repeat (first | exact (Kd.V_reads' HO0.out).2.2 | (with_reducible refine Kd.C_alloc ?_ _) | (with_reducible refine Kd.C_drewN ?_ _) | (with_reducible refine Kd.C_drew ?_))); (case side2 => exact (Kd.V_reads' HO0.out).2.1); (case side3 => repeat (first | exact HR1.out | (with_reducible refine Kd.C_alloc ?_ _) | (with_reducible refine Kd.C_drewN ?_ _) | (with_reducible refine Kd.C_drew ?_))); (case side4 => exact HC1.out); rintro e w' ⟨rfl, ⟨nd, rfl⟩⟩; refine ⟨_, rfl, ?_⟩; have p398 : 0 ≤ (0 : Int) := (by omega); have q398 : 0 < (l1.length : Int) := odt; obtain ⟨ad398, e398, hx398_0⟩ := Kd.at_int HR1.out 0 p398 q398; cases e398; have qi398 : (0 < l1.length) = True := eq_true (by omega); (try rw [show ((0 : Int)).toNat = 0 from rfl] at hx398_0); (try rw [Addr.add_zero'] at hx398_0); replace p398 := eq_true p398; replace q398 := eq_true q398) | ((with_reducible refine gate_callee (f := 84) rfl ?_); refine goesq (some 21) Tryd.func84 #[.slice A0 l0.length c0, .int .u32 (rd l1 0)] ?_; (with_reducible refine (e1_short.calls k _ _ l0 (rd l1 0) t399 t402 _ ?side1 ?side2 A7.out).mono ?_); (case side1 => repeat (first | exact (Kd.V_reads' HO0.out).2.2 | (with_reducible refine Kd.C_alloc ?_ _) | (with_reducible refine Kd.C_drewN ?_ _) | (with_reducible refine Kd.C_drew ?_))); (case side2 => exact (Kd.V_reads' HO0.out).2.1); rintro e w9 ⟨v400, rfl, ho0, hb⟩; refine ⟨_, rfl, ?_⟩; replace HO0 := am (Kd.V_below (Kd.vq HO0.out) hb); have HO401 := am (Kd.V_lower (Kd.V_mono (ok' := fun k_ => (P0_ k_ ∨ w.heap.size ≤ k_)) ho0 (fun k_ hk_ => (.inr (Nat.le_trans (below_size (bq HB.out)) hk_)))) (below_size (bq HB.out))); replace HB := am (below_step (bq HB.out) hb); (try clear hb); (try clear ho0)) | ((with_reducible refine gate_dst (N := 26) rfl ?_); refine Kd.R_lit (Kd.int .u32) _ 88 ?hg (N := 26) ?hd (xs := ([t402] : List Int)) (inner := [.int .u32 t402]) (ok := fun _ => True) (okp := fun _ => True) ?hr ?hp (fun _ hk => hk) trivial (Below.refl _ _) (Nat.le_refl _) (by simp) ?_; (case hd => rfl); (case hg => rfl); (case hr => first | (go_simp; done) | (go_simp; rfl)); (case hp => exact (Reps.one (show Kd.M (Kd.int .u32) _ _ _ t402 [.int .u32 t402] from rfl) (Reps.none _ _))); intro v404 w10 ho11 hb hg_ hnew_; clear hg_ hnew_; (first | rw [← Ny403.out] at ho11 | (simp only [Int.reduceToNat] at ho11; rw [← Ny403.out] at ho11)); replace HO0 := am (Kd.V_elder' (Kd.vq HO0.out) (Kd.R_base ho11) hb); replace HO401 := am (Kd.V_elder' (Kd.vq HO401.out) (Kd.R_base ho11) hb); have HO405 := am (Kd.R_lower (Kd.R_newM (M := fun k_ => (w.heap.size ≤ k_)) ho11 (below_size (bq HB.out)) (fun k_ h_ => h_)) (below_size (bq HB.out))); replace HB := am (below_step (bq HB.out) hb); clear hb ho11; obtain ⟨Ao12, co12, eo12⟩ := Kd.R_slice HO405.out; subst eo12) | ((with_reducible refine gate_callee (f := 68) rfl ?_); refine goesq (some 27) Tryd.func68 #[.slice Ao12 y403.length co12] ?_; (with_reducible refine (e1_strip.calls k (fun k_ => some k_ = (.slice Ao12 y403.length co12 : Value).ownBlock) _ _ y403 t406 _ ?side1 A8.out).mono ?_); (case side1 => exact Kd.R_V (Kd.R_tight rfl (HO405.out))); rintro e w13 ⟨v407, rfl, ho0, hb⟩; refine ⟨_, rfl, ?_⟩; replace HO0 := am (Kd.V_below (Kd.vq HO0.out) hb); replace HO401 := am (Kd.V_below (Kd.vq HO401.out) hb); have HO408 := am (Kd.V_lower (Kd.V_mono (ok' := fun k_ => (P0_ k_ ∨ w.heap.size ≤ k_)) ho0 (fun k_ hk_ => Or.elim hk_ (fun hs_ => (.inr (((HO405.out).1 k_ hs_.symm).1))) (fun hn_ => (.inr (Nat.le_trans (below_size (bq HB.out)) hn_))))) (below_size (bq HB.out))); replace HO405 := am (Kd.R_below (Kd.rq HO405.out) hb); replace HB := am (below_step (bq HB.out) hb); (try clear hb); (try clear ho0)))
 go_ret2
 exact ⟨_, _, by first | rfl | (simp [errW_none, errW_some] <;> rfl) | (simp [*, errW_none, errW_some] <;> rfl), by (with_reducible repeat (first | apply Kd.V_alloc | apply Kd.V_drewN | apply Kd.V_drew)); exact Kd.V_mono HO401.out (fun _ hk => hk.1), by (with_reducible repeat (first | apply Kd.V_alloc | apply Kd.V_drewN | apply Kd.V_drew)); exact HO408.out, bq HB.out⟩
end Go.Proofs.YtfnfjmeiaamheaaDoor.PA
namespace Go.Proofs.YtfnfjmeiaamheaaDoor.PA
open Go Go.RowKit Go.Proofs.YtfnfjmeiaamheaaDoorW.PrintWords
theorem rguess {u d q : List Int} {n j : Nat} {s : Int} (hn : d.length = n) (h2 : 2 ≤ n) (hf : j + n ≤ 100000) (hul : j + n < u.length) {U V P : Int}
 (K : Kn U V P (dg u (j + n)) (dg u (j + n - 1)) (dg u (j + n - 2)) (dg d (n - 1)) (dg d (n - 2))) : ∀ (f : Nat) (g r : Int), 0 ≤ g → g * dg d (n - 1) + r = dg u (j + n) * 4294967296 + dg u (j + n - 1) → 0 ≤ r → r < 4294967296 → U < (g + 1) * V → 4294967296 - r ≤ f →
 ∃ g', 0 ≤ g' ∧ g' < 4294967296 ∧ U < (g' + 1) * V ∧ g' * V < U + V ∧ ∀ res, Ev (fun k => e1_long.j4 k (n : Int) s u d q (j : Int) g') res → Ev (fun k => e1_long.l2 k (n : Int) s u d q (j : Int) g r) res
 | 0, g, r, _, _, _, hr, _, hm => by omega
 | f + 1, g, r, hg, he, hr0, hr1, hU, hm => by
  have hc1 := K.c1
  have hd1 := K.d1
  have hb2 := K.b2
  have hb1 := K.b1
  have ha0 := K.a0
  have hb0 := K.b0
  have hc0 := K.c0
  have hd0 := K.d0
  have hgm := le_mul hg (show 1 ≤ dg d (n - 1) by omega)
  have w1 : Aside0 (wrap64 ((n : Int) - 1) = ((n - 1 : Nat) : Int)) := ⟨by rw [wrap_s (by omega) (by omega)]; omega⟩
  have w2 : Aside0 (wrap64 ((n : Int) - 2) = ((n - 2 : Nat) : Int)) := ⟨by rw [wrap_s (by omega) (by omega)]; omega⟩
  have w3 : Aside0 (wrap64 ((j : Int) + (n : Int)) = ((j + n : Nat) : Int)) := ⟨by rw [wrap_s (by omega) (by omega)]; omega⟩
  have w4 : Aside0 (wrap64 (((j + n : Nat) : Int) - 2) = ((j + n - 2 : Nat) : Int)) := ⟨by rw [wrap_s (by omega) (by omega)]; omega⟩
  have x1 : (0 : Int) ≤ ((n - 1 : Nat) : Int) := by omega
  have x2 : ((n - 1 : Nat) : Int) < (d.length : Int) := by omega
  have x3 : (0 : Int) ≤ ((n - 2 : Nat) : Int) := by omega
  have x4 : ((n - 2 : Nat) : Int) < (d.length : Int) := by omega
  have x5 : (0 : Int) ≤ ((j + n - 2 : Nat) : Int) := by omega
  have x6 : ((j + n - 2 : Nat) : Int) < (u.length : Int) := by omega
  have y1 : IntKind.u64.wrap (dg d (n - 1)) = dg d (n - 1) := u64_s (by omega) (by omega)
  have y2 : IntKind.u64.wrap (r + dg d (n - 1)) = r + dg d (n - 1) := u64_s (by omega) (by omega)
  have y3 : IntKind.u64.wrap (dg d (n - 2)) = dg d (n - 2) := u64_s (by omega) (by omega)
  have on : (4294967296 ≤ g ∨ r * 4294967296 + dg u (j + n - 2) < g * dg d (n - 2)) → ∃ g', 0 ≤ g' ∧ g' < 4294967296 ∧ U < (g' + 1) * V ∧ g' * V < U + V ∧ ∀ res, Ev (fun k => e1_long.j4 k (n : Int) s u d q (j : Int) g') res → Ev (fun k => e1_long.j3 k (n : Int) s u d q (j : Int) g r true) res := by
   intro hc
   obtain ⟨hl1, hl2⟩ := K.less hg he hc
   have y4 : IntKind.u64.wrap (g - 1) = g - 1 := u64_s (by omega) (by omega)
   have he' : (g - 1) * dg d (n - 1) + (r + dg d (n - 1)) = dg u (j + n) * 4294967296 + dg u (j + n - 1) := by rw [← he]; grind
   by_cases hbr : r + dg d (n - 1) ≥ 4294967296
   ·obtain ⟨hg1, hnear⟩ := K.broke (by omega) he' hbr
    refine ⟨g - 1, by omega, hg1, hl1, K.near (by omega) hg1 he' hnear, fun res hres => Ev.step (fun k => ?_) hres⟩
    rw [e1_long.j3, if_pos rfl, w1.out, if_pos x1, if_pos x2, rd_dg, y1, y2, if_pos hbr, y4]
   obtain ⟨g', a1, a2, a3, a4, a5⟩ := rguess hn h2 hf hul K f (g - 1) (r + dg d (n - 1)) (by omega) he' (by omega) (by omega) hl1 (by omega)
   refine ⟨g', a1, a2, a3, a4, fun res hres => Ev.step (fun k => ?_) (a5 res hres)⟩
   rw [e1_long.j3, if_pos rfl, w1.out, if_pos x1, if_pos x2, rd_dg, y1, y2, if_neg hbr, y4]
  by_cases hgb : g ≥ 4294967296
  ·obtain ⟨g', a1, a2, a3, a4, a5⟩ := on (Or.inl hgb)
   refine ⟨g', a1, a2, a3, a4, fun res hres => Ev.step (fun k => ?_) (a5 res hres)⟩
   rw [e1_long.l2, if_pos hgb]
  have hgv : g * dg d (n - 2) ≤ 4294967295 * dg d (n - 2) := Int.mul_le_mul_of_nonneg_right (by omega) hc0
  have hgv0 : 0 ≤ g * dg d (n - 2) := Int.mul_nonneg hg hc0
  have y5 : IntKind.u64.wrap (g * dg d (n - 2)) = g * dg d (n - 2) := u64_s hgv0 (by omega)
  have y6 := or_hi hr0 hr1 ha0 hb0
  by_cases hc : g * dg d (n - 2) > r * 4294967296 + dg u (j + n - 2)
  ·obtain ⟨g', a1, a2, a3, a4, a5⟩ := on (Or.inr hc)
   refine ⟨g', a1, a2, a3, a4, fun res hres => Ev.step (fun k => ?_) (a5 res hres)⟩
   rw [e1_long.l2, if_neg hgb, w2.out, w3.out, w4.out, if_pos x3, if_pos x4, if_pos x5, if_pos x6, rd_dg, rd_dg, y3, y5, y6, decide_eq_true hc]
  refine ⟨g, hg, by omega, hU, K.near hg (by omega) he (by omega), fun res hres => Ev.step (h := fun k => e1_long.j3 k (n : Int) s u d q (j : Int) g r false) (fun k => ?_) (Ev.step (fun k => ?_) hres)⟩
  ·rw [e1_long.l2, if_neg hgb, w2.out, w3.out, w4.out, if_pos x3, if_pos x4, if_pos x5, if_pos x6, rd_dg, rd_dg, y3, y5, y6, decide_eq_false hc]
  rw [e1_long.j3, if_neg (by decide)]
theorem mask {t : Int} (h0 : 0 ≤ t) (h1 : t < 18446744073709551616) : Go.bits .and .u64 t 4294967295 = t % 4294967296 := by
 obtain ⟨x, rfl⟩ : ∃ x : Nat, t = x := ⟨t.toNat, by omega⟩
 rw [show (4294967295 : Int) = ((4294967295 : Nat) : Int) from rfl, u64_and _ _ (by omega) (by decide)]
 have := Nat.and_two_pow_sub_one_eq_mod x 32
 rw [show (2 : Nat) ^ 32 - 1 = 4294967295 from rfl, show (2 : Nat) ^ 32 = 4294967296 from rfl] at this
 rw [this]; omega
theorem rsub {u0 d q : List Int} (hd : Dg d) {n j : Nat} {s : Int} (hn : d.length = n) (hf : j + n ≤ 100000) (hul : j + n < u0.length) {g : Int} (hg0 : 0 ≤ g) (hg1 : g < 4294967296) : ∀ m i u c b, i + m = n → MS u0 u d j i g c b →
 ∃ u' c' b', MS u0 u' d j n g c' b' ∧ ∀ res, Ev (fun k => e1_long.l3 k (n : Int) s u' d q (j : Int) g c' b' (n : Int)) res → Ev (fun k => e1_long.l3 k (n : Int) s u d q (j : Int) g c b (i : Int)) res
 | 0, i, u, c, b, hi, h => by
  obtain rfl : i = n := by omega
  exact ⟨u, c, b, h, fun _ hr => hr⟩
 | m + 1, i, u, c, b, hi, h => by
  have hlen := h.len
  have x1 : (i : Int) < (n : Int) := by omega
  have x2 : (0 : Int) ≤ (i : Int) := by omega
  have x3 : (i : Int) < (d.length : Int) := by omega
  have x4 : (0 : Int) ≤ ((j + i : Nat) : Int) := by omega
  have x5 : ((j + i : Nat) : Int) < (u.length : Int) := by omega
  have hw : Aside0 (wrap64 ((i : Int) + 1) = ((i + 1 : Nat) : Int)) := ⟨by rw [wrap_s (by omega) (by omega)]; omega⟩
  have hw2 : Aside0 (wrap64 ((j : Int) + (i : Int)) = ((j + i : Nat) : Int)) := ⟨by rw [wrap_s (by omega) (by omega)]; omega⟩
  have hi2 : j + i < u.length := by omega
  obtain ⟨u', c', b', g1, g2⟩ := rsub hd hn hf hul (q := q) (s := s) hg0 hg1 m (i + 1) _ _ _ (by omega) (h.next hd hg0 hg1 hi2)
  refine ⟨u', c', b', g1, fun res hr => Ev.step (fun k => ?_) (g2 res hr)⟩
  have ht := h.t_lt hd hg0 hg1 i
  have hc0 := h.c0
  have hc1 := h.c1
  have hb := h.b01
  have hdi := hd i
  have hui := h.dgs (j + i)
  have y1 : IntKind.u64.wrap (dg d i) = dg d i := u64_s hdi.1 (by omega)
  have y2 : IntKind.u64.wrap (g * dg d i) = g * dg d i := u64_s ht.1 (by omega)
  have y3 : IntKind.u64.wrap (c + g * dg d i) = g * dg d i + c := by rw [u64_s (by omega) (by omega)]; omega
  have y4 := mask (t := g * dg d i + c) (by omega) (by omega)
  obtain ⟨tl, htl⟩ : ∃ tl, tl = (g * dg d i + c) % 4294967296 := ⟨_, rfl⟩
  rw [← htl] at y4
  have htl0 : 0 ≤ tl := by omega
  have htl1 : tl < 4294967296 := by omega
  have y5 : IntKind.u64.wrap (tl + b) = tl + b := u64_s (by omega) (by omega)
  have y6 : IntKind.u64.wrap (dg u (j + i)) = dg u (j + i) := u64_s hui.1 (by omega)
  have y7 : IntKind.u64.wrap (dg u (j + i) + 4294967296) = dg u (j + i) + 4294967296 := u64_s (by omega) (by omega)
  by_cases hlt : dg u (j + i) < tl + b
  ·have y8 : IntKind.u64.wrap (dg u (j + i) + 4294967296 - (tl + b)) = dg u (j + i) + 4294967296 - (tl + b) := u64_s (by omega) (by omega)
   have y9 : (dg u (j + i) + 4294967296 - (tl + b)) % 4294967296 = (dg u (j + i) - tl - b) % 4294967296 := by omega
   rw [e1_long.l3, hw.out, hw2.out, if_pos x1, if_pos x2, if_pos x3, if_pos x4, if_pos x5, rd_dg, rd_dg, y1, y2, y3, y4, y5, y6, if_pos hlt, y7, y8, y9, ← htl, if_pos hlt]
   rfl
  have y8 : IntKind.u64.wrap (dg u (j + i) - (tl + b)) = dg u (j + i) - (tl + b) := u64_s (by omega) (by omega)
  have y9 : (dg u (j + i) - (tl + b)) % 4294967296 = (dg u (j + i) - tl - b) % 4294967296 := by omega
  rw [e1_long.l3, hw.out, hw2.out, if_pos x1, if_pos x2, if_pos x3, if_pos x4, if_pos x5, rd_dg, rd_dg, y1, y2, y3, y4, y5, y6, if_neg hlt, y8, y9, ← htl, if_neg hlt]
  rfl
theorem radd {u0 d q : List Int} (hd : Dg d) {n j : Nat} {s : Int} (hn : d.length = n) (hf : j + n ≤ 100000) (hul : j + n < u0.length) {g : Int} : ∀ m i u c, i + m = n → AD u0 u d j i c →
 ∃ u' c', AD u0 u' d j n c' ∧ ∀ res, Ev (fun k => e1_long.l4 k (n : Int) s u' d q (j : Int) g c' (n : Int)) res → Ev (fun k => e1_long.l4 k (n : Int) s u d q (j : Int) g c (i : Int)) res
 | 0, i, u, c, hi, h => by
  obtain rfl : i = n := by omega
  exact ⟨u, c, h, fun _ hr => hr⟩
 | m + 1, i, u, c, hi, h => by
  have hlen := h.len
  have x1 : (i : Int) < (n : Int) := by omega
  have x2 : (0 : Int) ≤ (i : Int) := by omega
  have x3 : (i : Int) < (d.length : Int) := by omega
  have x4 : (0 : Int) ≤ ((j + i : Nat) : Int) := by omega
  have x5 : ((j + i : Nat) : Int) < (u.length : Int) := by omega
  have hw : Aside0 (wrap64 ((i : Int) + 1) = ((i + 1 : Nat) : Int)) := ⟨by rw [wrap_s (by omega) (by omega)]; omega⟩
  have hw2 : Aside0 (wrap64 ((j : Int) + (i : Int)) = ((j + i : Nat) : Int)) := ⟨by rw [wrap_s (by omega) (by omega)]; omega⟩
  have hi2 : j + i < u.length := by omega
  obtain ⟨u', c', g1, g2⟩ := radd hd hn hf hul (q := q) (s := s) (g := g) m (i + 1) _ _ (by omega) (h.next hd hi2)
  refine ⟨u', c', g1, fun res hr => Ev.step (fun k => ?_) (g2 res hr)⟩
  have hc := h.c01
  have hdi := hd i
  have hui := h.dgs (j + i)
  have y1 : IntKind.u64.wrap (dg d i) = dg d i := u64_s hdi.1 (by omega)
  have y2 : IntKind.u64.wrap (dg u (j + i)) = dg u (j + i) := u64_s hui.1 (by omega)
  have y3 : IntKind.u64.wrap (c + dg u (j + i)) = c + dg u (j + i) := u64_s (by omega) (by omega)
  have y4 : IntKind.u64.wrap (c + dg u (j + i) + dg d i) = dg u (j + i) + dg d i + c := by rw [u64_s (by omega) (by omega)]; omega
  rw [e1_long.l4, hw.out, hw2.out, if_pos x1, if_pos x4, if_pos x5, if_pos x2, if_pos x3, rd_dg, rd_dg, y1, y2, y3, y4]
  rfl
theorem rstep_ev {u d q : List Int} (hu : Dg u) (hd : Dg d) {n j : Nat} {s : Int} (hn : d.length = n) (h2 : 2 ≤ n) (hf : j + n ≤ 100000) (hul : j + n < u.length) (hql : j < q.length) (htop : 2147483648 ≤ dg d (n - 1)) (hfit : Sm u j (n + 1) < Sm d 0 n * 4294967296) :
  ∃ x u', St u u' d j n x ∧ ∀ res, Ev (fun k => e1_long.l1 k (n : Int) s u' d (q.set j x) ((j : Int) - 1)) res → Ev (fun k => e1_long.l1 k (n : Int) s u d q (j : Int)) res := by
 have K := kn_of hu hd (j := j) h2 htop hfit
 have ht0 : 0 ≤ dg u (j + n) * 4294967296 + dg u (j + n - 1) := by have := K.a2; have := K.a1; omega
 have hv1 := K.c1
 have hdm := Int.mul_ediv_add_emod (dg u (j + n) * 4294967296 + dg u (j + n - 1)) (dg d (n - 1))
 have hr0 := Int.emod_nonneg (dg u (j + n) * 4294967296 + dg u (j + n - 1)) (show dg d (n - 1) ≠ 0 by omega)
 have hr1 := Int.emod_lt_of_pos (dg u (j + n) * 4294967296 + dg u (j + n - 1)) (show 0 < dg d (n - 1) by omega)
 have hg0 : 0 ≤ (dg u (j + n) * 4294967296 + dg u (j + n - 1)) / dg d (n - 1) := Int.ediv_nonneg ht0 (by omega)
 have hg1 : (dg u (j + n) * 4294967296 + dg u (j + n - 1)) / dg d (n - 1) ≤ dg u (j + n) * 4294967296 + dg u (j + n - 1) := Int.ediv_le_self _ ht0
 have hd1 := K.d1
 have hb2 := K.b2
 have hb1 := K.b1
 obtain ⟨g, hg⟩ : ∃ g, g = (dg u (j + n) * 4294967296 + dg u (j + n - 1)) / dg d (n - 1) := ⟨_, rfl⟩
 obtain ⟨r, hr⟩ : ∃ r, r = (dg u (j + n) * 4294967296 + dg u (j + n - 1)) % dg d (n - 1) := ⟨_, rfl⟩
 rw [← hg] at hdm hg0 hg1
 rw [← hr] at hdm hr0 hr1
 have he : g * dg d (n - 1) + r = dg u (j + n) * 4294967296 + dg u (j + n - 1) := by rw [← hdm, Int.mul_comm]
 obtain ⟨g', a1, a2, a3, a4, a5⟩ := rguess (q := q) (s := s) hn h2 hf hul K (4294967296 - r).toNat g r hg0 he hr0 (by omega) (K.start hg0 he hr1) (by omega)
 obtain ⟨u1, c1, b1, m1, m2⟩ := rsub hd hn hf hul (q := q) (s := s) a1 a2 n 0 u 0 0 (by omega) (MS.start hu j g')
 have hlen := m1.len
 have hx := m1.dgs (j + n)
 have hc0 := m1.c0
 have hc1 := m1.c1
 have hbb := m1.b01
 have hi : j + n < u1.length := by omega
 have z1 : (0 : Int) ≤ ((j + n : Nat) : Int) := by omega
 have z2 : ((j + n : Nat) : Int) < (u1.length : Int) := by omega
 have z3 : (0 : Int) ≤ (j : Int) := by omega
 have z4 : (j : Int) < (q.length : Int) := by omega
 have z5 : g' % 4294967296 = g' := Int.emod_eq_of_lt a1 a2
 have w3 : Aside0 (wrap64 ((j : Int) + (n : Int)) = ((j + n : Nat) : Int)) := ⟨by rw [wrap_s (by omega) (by omega)]; omega⟩
 have w4 : Aside0 (wrap64 ((j : Int) - 1) = (j : Int) - 1) := ⟨wrap_s (by omega) (by omega)⟩
 have hfun : ∀ res, Ev (fun k => e1_long.l2 k (n : Int) s u d q (j : Int) g r) res → Ev (fun k => e1_long.l1 k (n : Int) s u d q (j : Int)) res := by
  intro res hres
  refine Ev.step (fun k => ?_) hres
  have w1 : Aside0 (wrap64 ((n : Int) - 1) = ((n - 1 : Nat) : Int)) := ⟨by rw [wrap_s (by omega) (by omega)]; omega⟩
  have w2 : Aside0 (wrap64 (((j + n : Nat) : Int) - 1) = ((j + n - 1 : Nat) : Int)) := ⟨by rw [wrap_s (by omega) (by omega)]; omega⟩
  have y1 : ((j + n : Nat) : Int) < (u.length : Int) := by omega
  have y2 : (0 : Int) ≤ ((j + n - 1 : Nat) : Int) := by omega
  have y3 : ((j + n - 1 : Nat) : Int) < (u.length : Int) := by omega
  have y4 : (0 : Int) ≤ ((n - 1 : Nat) : Int) := by omega
  have y4' : ((n - 1 : Nat) : Int) < (d.length : Int) := by omega
  have y5 : IntKind.u64.wrap (dg d (n - 1)) = dg d (n - 1) := u64_s (by omega) (by omega)
  have y6 : ¬ dg d (n - 1) = 0 := by omega
  have y7 : IntKind.u64.wrap (dg u (j + n)) = dg u (j + n) := u64_s K.a2 (by omega)
  have y8 := or_hi K.a2 K.b2 K.a1 K.b1
  have y9 : IntKind.u64.wrap g = g := u64_s hg0 (by omega)
  have y10 : (j : Int) ≥ 0 := z3
  rw [e1_long.l1, if_pos y10, w3.out, w2.out, w1.out, if_pos z1, if_pos y1, if_pos y2, if_pos y3, if_pos y4, if_pos y4', rd_dg, rd_dg, rd_dg, y5, if_neg y6, y7, y8, Int.tdiv_eq_ediv_of_nonneg ht0, Int.tmod_eq_emod_of_nonneg ht0, ← hg, ← hr, y9]
 have hj : ∀ res, Ev (fun k => e1_long.l3 k (n : Int) s u1 d q (j : Int) g' c1 b1 (n : Int)) res → Ev (fun k => e1_long.l1 k (n : Int) s u d q (j : Int)) res := by
  intro res hres
  refine hfun res (a5 res (Ev.step (fun k => ?_) (m2 res hres)))
  rw [e1_long.j4]; rfl
 have v1 : IntKind.u64.wrap (dg u1 (j + n)) = dg u1 (j + n) := u64_s hx.1 (by omega)
 have v2 : IntKind.u64.wrap (c1 + b1) = c1 + b1 := u64_s (by omega) (by omega)
 have v3 : IntKind.u64.wrap (dg u1 (j + n) - (c1 + b1)) % 4294967296 = (dg u1 (j + n) - c1 - b1) % 4294967296 := by rw [IntKind.wrap_u64]; omega
 by_cases hb : dg u1 (j + n) < c1 + b1
 rotate_left
 ·have hst := m1.fin0 hi a1 a2 a3 hb
  refine ⟨g', _, hst, fun res hres => hj _ (Ev.step (fun k => ?_) hres)⟩
  rw [e1_long.l3, if_neg (by omega), w3.out, if_pos z1, if_pos z2, rd_dg, v1, v2, v3, Option.bind_some, if_neg hb, if_pos z3, if_pos z4, z5, w4.out]
  rfl
 have hAD := AD.start (u := u1.set (j + n) ((dg u1 (j + n) - c1 - b1) % 4294967296)) (d := d) (m1.dgs.set (p := j + n) (Int.emod_nonneg _ (by decide)) (Int.emod_lt_of_pos _ (by decide))) j
 have hgw : 0 ≤ g' - 1 ∧ IntKind.u64.wrap (g' - 1) = g' - 1 ∧ (g' - 1) % 4294967296 = g' - 1 := by
  have h1 : 1 ≤ g' := by
   refine Classical.byContradiction fun hc => ?_
   obtain rfl : g' = 0 := by omega
   have hv := m1.val
   have hS : Sm u j (n + 1) = Sm u j n + dg u (j + n) * 4294967296 ^ n := rfl
   have hU0 := Sm.nonneg hu j n
   have hL := Sm.lt m1.dgs j n
   have hP := pw_pos n
   have ho := m1.out (j + n) (Or.inr (Nat.le_refl _))
   rw [Int.zero_mul, Int.add_zero] at hv
   have h2 : 1 * 4294967296 ^ n ≤ (c1 + b1) * 4294967296 ^ n := Int.mul_le_mul_of_nonneg_right (by omega) (Int.le_of_lt hP)
   omega
  exact ⟨by omega, u64_s (by omega) (by omega), Int.emod_eq_of_lt (by omega) (by omega)⟩
 obtain ⟨u2, c2, k1, k2⟩ := radd hd hn hf (u0 := u1.set (j + n) ((dg u1 (j + n) - c1 - b1) % 4294967296)) (by rw [List.length_set]; omega) (q := q) (s := s) (g := g' - 1) n 0 _ _ (by omega) hAD
 have hst := m1.fin1 hd hi a2 hu a4 hb k1
 have hl2 := k1.len
 rw [List.length_set] at hl2
 have hcc := k1.c01
 have z6 : ((j + n : Nat) : Int) < (u2.length : Int) := by omega
 have z7 : c2 % 4294967296 = c2 := Int.emod_eq_of_lt hcc.1 (by omega)
 refine ⟨g' - 1, _, hst, fun res hres => hj _ (Ev.step (h := fun k => e1_long.l4 k (n : Int) s (u1.set (j + n) ((dg u1 (j + n) - c1 - b1) % 4294967296)) d q (j : Int) (g' - 1) 0 (0 : Nat)) (fun k => ?_) (k2 _ (Ev.step (fun k => ?_) hres)))⟩
 ·rw [e1_long.l3, if_neg (by omega), w3.out, if_pos z1, if_pos z2, rd_dg, v1, v2, v3, Option.bind_some, if_pos hb, hgw.2.1]
  rfl
 rw [e1_long.l4, if_neg (by omega), w3.out, if_pos z1, if_pos z6, if_pos z3, if_pos z4, rd_dg, z7, hgw.2.2, w4.out]
 rfl
theorem rdiv_loop {d : List Int} (hd : Dg d) {n m s : Nat} (hn : d.length = n) (h2 : 2 ≤ n) (hm : 0 < m) (hf : m + n ≤ 100000) (hs : s < 32) (htop : 2147483648 ≤ dg d (n - 1)) {A a b : Int} (hA : A = a * 2 ^ s) (hV : Sm d 0 n = b * 2 ^ s) :
 ∀ c u q, c ≤ m → DV A u q d n m c → ∃ t r, Ev (fun k => e1_long.l1 k (n : Int) (s : Int) u d q ((c : Int) - 1)) (t, r) ∧ Can t ∧ vl t = a / b ∧ t.length ≤ m ∧ Can r ∧ vl r = a % b ∧ r.length ≤ n
 | 0, u, q, hc, h => by
  have hlen := h.len
  have hql := h.ql
  obtain ⟨t, r, f1, f2, f3, f4, g2, g3, g4⟩ := long5 h.dgs h.qd (by omega) (by omega) hs (n := n) (by omega) (h.hi n (by omega)) n 0 _ (by omega) (UnInv.start u s n)
  have hval := h.val
  have htop := h.top
  rw [Nat.zero_add, Int.pow_zero, Int.one_mul, Nat.sub_zero] at hval
  obtain ⟨e1, e2⟩ := back (p2_pos s) hA hV hval (Sm.nonneg h.dgs 0 n) htop
  refine ⟨t, r, Ev.step (fun k => ?_) f1, f2, ?_, by omega, g2, ?_, by omega⟩
  ·have x1 : (0 : Int) ≤ (n : Int) := by omega
   have x2 : ((n : Int)).toNat ≤ 70368744177664 := by omega
   rw [e1_long.l1, if_neg (by omega), if_pos x1, if_pos x2]
   rfl
  ·rw [f3, e1]; unfold vl; rw [hql]
  rw [g3, e2]
 | c + 1, u, q, hc, h => by
  have hlen := h.len
  have hql := h.ql
  obtain ⟨x, u', g2, g1⟩ := rstep_ev (q := q) (s := (s : Int)) h.dgs hd (j := c) hn h2 (by omega) (by omega) (by omega) htop h.fit
  obtain ⟨t, r, f1, f2⟩ := rdiv_loop hd hn h2 hm hf hs htop hA hV c u' (q.set c x) (by omega) (h.next hd hc g2)
  refine ⟨t, r, ?_, f2⟩
  rw [show ((c + 1 : Nat) : Int) - 1 = (c : Int) by omega]
  exact g1 _ f1
theorem shl_u32 {x : Int} {s : Nat} (h0 : 0 ≤ x * 2 ^ s) (h1 : x * 2 ^ s < 4294967296) (hs : s < 32) : shl .u32 x (s : Int) = x * 2 ^ s := by
 unfold shl
 rw [show min (s : Int).toNat IntKind.u32.bits = s from Nat.min_eq_left (show s ≤ 32 by omega)]
 exact u32_in' _ h0 (by omega)
theorem rlong_ev {a b : List Int} (ha : Can a) (hb : Can b) {n : Nat} (hn : b.length = n + 1) (h2 : 1 ≤ n) (hlen : b.length ≤ a.length) (hf : a.length + b.length ≤ 90000) : ∃ q r, Ev (fun k => e1_long.f k a b) (q, r) ∧ Can q ∧ vl q = vl a / vl b ∧ q.length ≤ a.length ∧ Can r ∧ vl r = vl a % vl b ∧ r.length ≤ a.length := by
 have hbt := hb.top.resolve_left (by omega)
 rw [hn, Nat.add_sub_cancel] at hbt
 have hbn := hb.dgs n
 have hpos : 0 < dg b n := by omega
 have search : ∀ (f s : Nat), 32 - s ≤ f → s < 32 → dg b n * 2 ^ s < 4294967296 → ∃ q r, Ev (fun k => e1_long.l0 k a b ((n + 1 : Nat) : Int) (s : Int)) (q, r) ∧ Can q ∧ vl q = vl a / vl b ∧ q.length ≤ a.length ∧ Can r ∧ vl r = vl a % vl b ∧ r.length ≤ a.length := by
  intro f
  induction f with
  | zero => intro s h1 h2 _; omega
  | succ f ih =>
   intro s hsf hs hlt
   have hp := p2_pos s
   have hx0 : 0 ≤ dg b n * 2 ^ s := Int.mul_nonneg hbn.1 (Int.le_of_lt hp)
   have x1 : (0 : Int) ≤ (n : Int) := by omega
   have x2 : (n : Int) < (b.length : Int) := by omega
   have x3 : (0 : Int) ≤ (s : Int) := by omega
   have w1 : Aside0 (wrap64 (((n + 1 : Nat) : Int) - 1) = (n : Int)) := ⟨by rw [wrap_s (by omega) (by omega)]; omega⟩
   have e := shl_u32 hx0 hlt hs
   by_cases hc : dg b n * 2 ^ s < 2147483648
   ·have hs1 : s + 1 < 32 := by
     refine Classical.byContradiction fun hn => ?_
     have h3 : 1 * (2 : Int) ^ s ≤ dg b n * 2 ^ s := Int.mul_le_mul_of_nonneg_right (by omega) (Int.le_of_lt hp)
     obtain rfl : s = 31 := by omega
     have : (2 : Int) ^ 31 = 2147483648 := rfl
     omega
    have hlt1 : dg b n * 2 ^ (s + 1) < 4294967296 := by rw [Int.pow_succ, ← Int.mul_assoc]; omega
    obtain ⟨q, r, g1, g2⟩ := ih (s + 1) (by omega) hs1 hlt1
    refine ⟨q, r, Ev.step (fun k => ?_) g1, g2⟩
    have y1 : IntKind.u64.wrap ((s : Int) + 1) = ((s + 1 : Nat) : Int) := by rw [u64_s (by omega) (by omega)]; omega
    rw [e1_long.l0, w1.out, if_pos x1, if_pos x2, if_pos x3, rd_dg, e, if_pos hc, y1]
   obtain ⟨d0, f1, f2, f3, f4⟩ := shifted_ev hb.dgs hb.few hs
   obtain ⟨u, g1, g2, g3, g4⟩ := shifted_ev ha.dgs ha.few hs
   have hfitb := norm_fit hb hn hlt hs
   have hz : dg d0 (n + 1) = 0 := by
    have h3 : Sm d0 0 (n + 1 + 1) = vl d0 := by unfold vl; rw [f3, hn]
    have h4 := dg_lt_of f2 (i := n + 1) (c := 1) (by rw [h3, f4, Int.one_mul]; exact hfitb)
    have := (f2 (n + 1)).1
    omega
   have hdl : (d0.take (n + 1)).length = n + 1 := by rw [List.length_take]; omega
   have hdv : Sm (d0.take (n + 1)) 0 (n + 1) = vl b * 2 ^ s := by
    have h3 : Sm (d0.take (n + 1)) 0 (n + 1) = Sm d0 0 (n + 1) := Sm.ext _ fun t ht => by rw [dg_take, if_pos (by omega)]
    have h5 : vl d0 = Sm d0 0 (n + 1) := by unfold vl; rw [f3, hn, Sm, Nat.zero_add, hz]; omega
    rw [h3, ← h5, f4]
   have htop := norm_top hb hn (by omega) (f2.take (n + 1)) hdv
   obtain ⟨m, hm⟩ : ∃ m, m = a.length - (n + 1) + 1 := ⟨_, rfl⟩
   have hst := DV.start ha hb (n := n + 1) (m := m) hn (by omega) (by omega) hs g2 g3 g4 (f2.take (n + 1)) (by rw [Nat.add_sub_cancel]; exact htop)
   obtain ⟨t, r, r1, r2, r3, r4, r5, r6, r7⟩ := rdiv_loop (f2.take (n + 1)) hdl (by omega) (by omega) (by omega) hs (by rw [Nat.add_sub_cancel]; exact htop) rfl hdv m u _ (Nat.le_refl _) hst
   have w2 : Aside0 (wrap64 ((a.length : Int) - ((n + 1 : Nat) : Int)) = (m : Int) - 1) := ⟨by rw [wrap_s (by omega) (by omega)]; omega⟩
   have w3 : Aside0 (wrap64 ((m : Int) - 1 + 1) = (m : Int)) := ⟨by rw [wrap_s (by omega) (by omega)]; omega⟩
   have x4 : (0 : Int) ≤ ((n + 1 : Nat) : Int) := by omega
   have x5 : ((n + 1 : Nat) : Int) ≤ (d0.length : Int) := by omega
   have x6 : (0 : Int) ≤ (m : Int) := by omega
   have x7 : m ≤ 70368744177664 := by omega
   have x8 : (m : Int).toNat = m := by omega
   have x9 : ((n + 1 : Nat) : Int).toNat = n + 1 := by omega
   refine ⟨t, r, Ev.step (h := fun k => (e1_shifted.f k a (s : Int)).bind fun u => (e1_shifted.f k b (s : Int)).bind fun d0 => if ((n + 1 : Nat) : Int) ≤ (d0.length : Int) then e1_long.l1 k ((n + 1 : Nat) : Int) (s : Int) u (d0.take (n + 1)) (List.replicate m 0) ((m : Int) - 1) else none) (fun k => ?_)
    (Ev.bind g1 (Ev.bind f1 (Ev.same (fun k => if_pos x5) r1))), r2, r3, by omega, r5, r6, by omega⟩
   rw [e1_long.l0, w1.out, if_pos x1, if_pos x2, if_pos x3, rd_dg, e, if_neg hc]
   simp only [if_pos x4, w2.out, w3.out, if_pos x6, x8, x9, if_pos x7]
 obtain ⟨q, r, g1, g2⟩ := search 32 0 (by omega) (by omega) (by rw [Int.pow_zero]; omega)
 refine ⟨q, r, Ev.same (fun k => ?_) g1, g2⟩
 rw [e1_long.f, hn]; rfl
theorem rdivide_ev {a b : List Int} (ha : Can a) (hb : Can b) (hb0 : b ≠ []) (hf : a.length + b.length ≤ 90000) : ∃ q r, Ev (fun k => e1_divide.f k a b) (q, r) ∧ Can q ∧ vl q = vl a / vl b ∧ q.length ≤ a.length ∧ Can r ∧ vl r = vl a % vl b ∧ r.length ≤ a.length := by
 have hbl : 0 < b.length := List.length_pos_iff.2 hb0
 have hbt := hb.top.resolve_left (by omega)
 have ha0 := vl_nonneg ha.dgs
 obtain ⟨c, c1, c2, _, _, _⟩ := order_ev ha hb
 by_cases hc : c < 0
 ·have hlt := c2.1 hc
  obtain ⟨K, hK⟩ := c1
  refine ⟨[], a, ⟨K, fun k hk => ?_⟩, Can.nil, ?_, by simp, ha, ?_, Nat.le_refl _⟩
  ·have : e1_order.f k a b = some c := hK k hk
   show e1_divide.f k a b = _
   rw [e1_divide.f, this, Option.bind_some, if_pos hc]
  ·rw [Int.ediv_eq_zero_of_lt ha0 hlt]; rfl
  rw [Int.emod_eq_of_lt ha0 hlt]
 have hge : vl b ≤ vl a := by
  refine Classical.byContradiction fun hn => hc (c2.2 (by omega))
 have hlen : b.length ≤ a.length := by
  refine Classical.byContradiction fun hn => ?_
  have := Can.lt_of_len ha.dgs hb (by omega)
  omega
 by_cases h1 : b.length = 1
 rotate_left
 ·obtain ⟨n, hn⟩ : ∃ n, b.length = n + 1 := ⟨b.length - 1, by omega⟩
  obtain ⟨q, r, g1, g2⟩ := rlong_ev ha hb hn (by omega) hlen hf
  refine ⟨q, r, Ev.same (h := fun k => (e1_order.f k a b).bind fun t => if t < 0 then some (([] : List Int), a) else (e1_long.f k a b).bind fun bt => some (bt.1, bt.2)) (fun k => ?_) (Ev.bind c1 (Ev.same (fun k => if_neg hc) (Ev.bind g1 Ev.ret))), g2⟩
  have x1 : ¬ (b.length : Int) = 1 := by omega
  rw [e1_divide.f]
  simp only [if_neg x1]
 have e0 : vl b = dg b 0 := by unfold vl; rw [h1, Sm.one]
 have hd0 := hb.dgs 0
 rw [h1] at hbt
 have hpos : 0 < dg b 0 := by have : dg b 0 ≠ 0 := hbt; omega
 obtain ⟨q, g1, g2, g3, g4⟩ := small_ev ha.dgs ha.few hpos hd0.2
 have hr0 := Int.emod_nonneg (vl a) (show dg b 0 ≠ 0 by omega)
 have hr1 := Int.emod_lt_of_pos (vl a) hpos
 have hdr : Dg [vl a % dg b 0] := fun i => by
  cases i with
  | zero => exact ⟨hr0, by show vl a % dg b 0 < 4294967296; omega⟩
  | succ i => rw [dg_beyond (by simp)]; omega
 obtain ⟨r, f1, f2, f3, f4⟩ := strip_ev hdr (by simp)
 have er : vl r = vl a % vl b := by rw [f3, e0]; simp [vl, Sm, dg]
 refine ⟨q, r, Ev.same (h := fun k => (e1_order.f k a b).bind fun t => if t < 0 then some (([] : List Int), a) else (n_divideSmall.f k a (dg b 0)).bind fun bt => (e1_strip.f k [bt.2]).bind fun t212 => some (bt.1, t212)) (fun k => ?_) (Ev.bind c1 (Ev.same (fun k => if_neg hc) (Ev.bind g1 (Ev.bind f1 Ev.ret)))), g2, by rw [g3, e0], g4, f2, er, by simp at f4; omega⟩
 rw [e1_divide.f]
 have x1 : (b.length : Int) = 1 := by omega
 have x2 : (0 : Int) < (b.length : Int) := by omega
 simp only [if_pos x1, if_pos x2, short_small]
 rfl
end Go.Proofs.YtfnfjmeiaamheaaDoor.PA
namespace Go.Proofs.YtfnfjmeiaamheaaDoor.PA
open Go.RowKit Go.Proofs.YtfnfjmeiaamheaaDoorW.PrintWords Go.Proofs.YtfnfjmeiaamheaaDoorW.PrintLast Go.Proofs.YtfnfjmeiaamheaaDoorW.PrintMore
attribute [local go_sem] max2_int min2_int max_two min_two max_three min_three max_four min_four
def n_parse.l0 : Nat → ByteArray → List Int → Int → Int → Option (List Int)
 | 0, _, _, _, _ => none
 | k + 1, x0, x3, x12, x13 => if x13 < x12 then (if 0 ≤ (wrap64 (Int.tdiv x13 4)) then (if (wrap64 (Int.tdiv x13 4)) < (x3.length : Int) then (if 0 ≤ (wrap64 ((wrap64 ((x0.size : Int) - 1)) - x13)) then (if (wrap64 ((wrap64 ((x0.size : Int) - 1)) - x13)) < (x0.size : Int) then (if 0 ≤ (wrap64 (8 * (Int.tmod x13 4))) then (n_parse.l0 k x0 (x3.set ((wrap64 (Int.tdiv x13 4)) : Int).toNat (Go.bits .or .u32 (rd x3 (wrap64 (Int.tdiv x13 4))) (shl .u32 ((bt x0 (wrap64 ((wrap64 ((x0.size : Int) - 1)) - x13))) % 4294967296) (wrap64 (8 * (Int.tmod x13 4)))))) x12 (wrap64 (x13 + 1))) else (none)) else (none)) else (none)) else (none)) else (none)) else ((n_limbs_trim.f k x3).bind fun t123 => (some t123))
def n_parse.f (k : Nat) (a0 : ByteArray) : Option (List Int) := if 0 ≤ (wrap64 (Int.tdiv (wrap64 ((wrap64 ((a0.size : Int) + 4)) - 1)) 4)) then (if (wrap64 (Int.tdiv (wrap64 ((wrap64 ((a0.size : Int) + 4)) - 1)) 4) : Int).toNat ≤ 70368744177664 then (n_parse.l0 k a0 (List.replicate (wrap64 (Int.tdiv (wrap64 ((wrap64 ((a0.size : Int) + 4)) - 1)) 4) : Int).toNat 0) (a0.size : Int) 0) else (none)) else (none)
def n_parse.T5 : Bool × List (List Nat × List Nat) := (true, [([], []), ([], []), ([1], [1]), ([0, 2], [0, 2]), ([3], [3]), ([], []), ([], []), ([6], [6]), ([7], [7]), ([], []), ([8, 9], [8, 9]), ([5, 10], [5, 10]), ([11], [11]), ([], []), ([13], [13]), ([14], [14]), ([12, 15], [12, 15]), ([4, 16], [4, 16]), ([0, 2, 0, 1, 2, 3, 4, 5, 6, 7, 8, 9, 10, 11, 12, 13, 14, 15, 16, 17], [0, 2]), ([18, 17, 0, 1, 2, 3, 4, 5, 6, 7, 8, 9, 10, 11, 12, 13, 14, 15, 16, 17], [17, 18])])
def n_parse.B5 : List Nat := [0, 0, 2, 7, 15, 0, 0, 64, 192, 0, 960, 2016, 4064, 0, 8192, 24576, 65504, 131071, 262143, 524287]
theorem n_parse.tab5 : rtab .any (opsOf Tryd.f62 5) = n_parse.T5 := by kernel_rfl
theorem n_parse.bits5 : waitsOk n_parse.T5.2 n_parse.B5 = true := by kernel_rfl
set_option maxHeartbeats 8000000 in
set_option maxRecDepth 100000 in
theorem n_parse.calls (k : Nat) (a0 : ByteArray) (r : List Int) (w : World) (h : n_parse.f k a0 = some r) :
  Calls Tryd.prog 62 #[.string a0] w fun e w' => ∃ v0_ : Value, e = .returned (v0_) ∧ Kd.V (Kd.int .u32) 88 w' w.heap.size (fun k_ => (w.heap.size ≤ k_)) v0_ r ∧ Below w.heap.size w w' := by
 have HB := Aside0.mk (Below.refl w.heap.size w)
 have H : (if 0 ≤ (wrap64 (Int.tdiv (wrap64 ((wrap64 ((a0.size : Int) + 4)) - 1)) 4)) then (if (wrap64 (Int.tdiv (wrap64 ((wrap64 ((a0.size : Int) + 4)) - 1)) 4) : Int).toNat ≤ 70368744177664 then (n_parse.l0 k a0 (List.replicate (wrap64 (Int.tdiv (wrap64 ((wrap64 ((a0.size : Int) + 4)) - 1)) 4) : Int).toNat 0) (a0.size : Int) 0) else (none)) else (none)) = some r := h
 clear h
 obtain ⟨ji2, hji2⟩ : ∃ j_ : Int, (wrap64 (Int.tdiv (wrap64 ((wrap64 ((a0.size : Int) + 4)) - 1)) 4)) = j_ := ⟨_, rfl⟩
 replace H : (if 0 ≤ (ji2) then (if (ji2 : Int).toNat ≤ 70368744177664 then (n_parse.l0 k a0 (List.replicate (ji2 : Int).toNat 0) (a0.size : Int) 0) else (none)) else (none)) = some r := by first | (rw [hji2] at H; exact H) | (simp only [hji2] at H ⊢; exact H)
 have hji2w : (IntKind.i64.wrap (Int.tdiv (wrap64 ((wrap64 ((a0.size : Int) + 4)) - 1)) 4)) = ji2 := (i64_w _).trans hji2
 by_cases c3 : 0 ≤ (ji2)
 rotate_left
 ·rw [if_neg c3] at H
  exact absurd H (by simp)
 rw [if_pos c3] at H
 have c3b0 := eq_true c3
 have c3b1 := decide_eq_true c3
 clear c3
 by_cases c4 : (ji2 : Int).toNat ≤ 70368744177664
 rotate_left
 ·rw [if_neg c4] at H
  exact absurd H (by simp)
 rw [if_pos c4] at H
 have c4b0 := eq_true c4
 have c4b1 := decide_eq_true c4
 clear c4
 obtain ⟨y118, hy118⟩ : ∃ y_ : List Int, y_ = (List.replicate (ji2 : Int).toNat 0) := ⟨_, rfl⟩
 replace H : (n_parse.l0 k a0 y118 (a0.size : Int) 0) = some r := by first | (rw [hy118]; with_reducible exact H) | (have H2_ := (Option.bind_some _ _).symm.trans H; rw [hy118]; with_reducible exact H2_) | (have H2_ := (Option.bind_some _ _).symm.trans H; with_reducible exact H2_) | with_reducible exact H | (rw [hy118]; exact H) | exact H
 have Ny118 := Aside0.mk hy118
 clear hy118
 have H' := Aside0.mk H
 clear H
 go_enter Tryd.func62, Tryd.ntmps62
 go_wp2_with (first | ((with_reducible refine gate_dst (N := 10) rfl ?_); refine Kd.R_make (Kd.int .u32) _ 88 rfl (N := 10) rfl 83 _ _ rfl ji2 rfl rfl Tryd.underlying83 (.int .u32 0) 4 info88 rfl (by decide) (by omega) 0 (ok := fun _ => True) (okp := fun _ => True) rfl (fun _ hk => hk) trivial odt (Nat.le_trans (Nat.mul_le_mul_right _ (of_decide_eq_true (by first | (with_reducible assumption) | assumption) : ji2.toNat ≤ 70368744177664)) (by omega)) (Below.refl _ _) (Nat.le_refl _) ?_; intro v119 w5 ho6 hb hg_ hnew_; clear hg_ hnew_; (first | rw [← Ny118.out] at ho6 | (simp only [Int.reduceToNat] at ho6; rw [← Ny118.out] at ho6)); have HO120 := am (Kd.R_lower (Kd.R_newM (M := fun k_ => (w.heap.size ≤ k_)) ho6 (below_size (bq HB.out)) (fun k_ h_ => h_)) (below_size (bq HB.out))); replace HB := am (below_step (bq HB.out) hb); clear hb ho6))
 go_loopg [13] k (fun kq v13 w' => ∃ (x3_1 : List Int) (x13_1 : Int), v13 = .int .i64 x13_1 ∧ Aside0 (n_parse.l0 kq a0 x3_1 (a0.size : Int) x13_1 = some r) ∧ Aside0 (kq ≤ k) ∧ Aside0 (Kd.R (Kd.int .u32) 88 w' w.heap.size (fun k_ => (w.heap.size ≤ k_)) v119 x3_1) ∧ Aside0 (Below w.heap.size w w'))
 case atStart => exact ⟨(y118), (0), (by first | rfl | (simp; done) | (simp [*]; done)), H', ⟨Nat.le_refl _⟩, ⟨by (with_reducible repeat (first | apply Kd.R_alloc | apply Kd.R_drewN | apply Kd.R_drew)); exact Kd.R_mono HO120.out (fun _ hk => hk.1)⟩, ⟨bq HB.out⟩⟩
 case round =>
  clear H'
  try clear p2
  try clear c3
  try clear c3b0
  try clear c3b1
  try clear c4
  try clear c4b0
  try clear c4b1
  try clear c6
  try clear p6
  obtain ⟨x3_1, x13_1, rfl, HA, HK1, HO_3, HB⟩ := hrel
  cases gk with
  | zero => exact absurd HA.out (by simp [n_parse.l0])
  | succ k1 =>
   have H := HA.out
   clear HA
   simp only [n_parse.l0] at H
   by_cases c7 : x13_1 < (a0.size : Int)
   rotate_left
   ·rw [if_neg c7] at H
    have c7b0 := decide_eq_false c7
    clear c7
    replace H := Option.bind_eq_some_iff.mp H
    obtain ⟨t123, A220, H⟩ := H
    try dsimp only at H
    have A22 := Aside0.mk A220
    clear A220
    obtain rfl := Option.some.inj H
    obtain ⟨Ao23, co23, eo23⟩ := Kd.R_slice HO_3.out
    subst eo23
    go_wp2_with (first | ((with_reducible refine gate_callee (f := 76) rfl ?_); refine goesq (some 37) Tryd.func76 #[.slice Ao23 x3_1.length co23] ?_; (with_reducible refine (n_limbs_trim.calls k1 (fun k_ => some k_ = (.slice Ao23 x3_1.length co23 : Value).ownBlock) _ _ x3_1 t123 _ ?side1 A22.out).mono ?_); (case side1 => exact Kd.R_V (Kd.R_tight rfl (HO_3.out))); rintro e w24 ⟨v124, rfl, ho0, hb⟩; refine ⟨_, rfl, ?_⟩; have HO125 := am (Kd.V_lower (Kd.V_mono (ok' := fun k_ => (w.heap.size ≤ k_)) ho0 (fun k_ hk_ => Or.elim hk_ (fun hs_ => ((HO_3.out).1 k_ hs_.symm)) (fun hn_ => (Nat.le_trans (below_size (bq HB.out)) hn_)))) (below_size (bq HB.out))); replace HO_3 := am (Kd.R_below (Kd.rq HO_3.out) hb); replace HB := am (below_step (bq HB.out) hb); (try clear hb); (try clear ho0)))
    go_ret
    exact ⟨_, by first | rfl | (simp [errW_none, errW_some] <;> rfl) | (simp only [← hji2]; first | rfl | (simp [errW_none, errW_some] <;> rfl)) | (simp [*, errW_none, errW_some] <;> rfl), by (with_reducible repeat (first | apply Kd.V_alloc | apply Kd.V_drewN | apply Kd.V_drew)); exact HO125.out, bq HB.out⟩
   rw [if_pos c7] at H
   have c7b0 := decide_eq_true c7
   clear c7
   obtain ⟨ji8, hji8⟩ : ∃ j_ : Int, (wrap64 (Int.tdiv x13_1 4)) = j_ := ⟨_, rfl⟩
   replace H : (if 0 ≤ (ji8) then (if (ji8) < (x3_1.length : Int) then (if 0 ≤ (wrap64 ((wrap64 ((a0.size : Int) - 1)) - x13_1)) then (if (wrap64 ((wrap64 ((a0.size : Int) - 1)) - x13_1)) < (a0.size : Int) then (if 0 ≤ (wrap64 (8 * (Int.tmod x13_1 4))) then (n_parse.l0 k1 a0 (x3_1.set ((ji8) : Int).toNat (Go.bits .or .u32 (rd x3_1 (ji8)) (shl .u32 ((bt a0 (wrap64 ((wrap64 ((a0.size : Int) - 1)) - x13_1))) % 4294967296) (wrap64 (8 * (Int.tmod x13_1 4)))))) (a0.size : Int) (wrap64 (x13_1 + 1))) else (none)) else (none)) else (none)) else (none)) else (none)) = some r := by first | (rw [hji8] at H; exact H) | (simp only [hji8] at H ⊢; exact H)
   have hji8w : (IntKind.i64.wrap (Int.tdiv x13_1 4)) = ji8 := (i64_w _).trans hji8
   by_cases c9 : 0 ≤ (ji8)
   rotate_left
   ·rw [if_neg c9] at H
    exact absurd H (by simp)
   rw [if_pos c9] at H
   have c9b0 := decide_eq_true c9
   clear c9
   by_cases c10 : (ji8) < (x3_1.length : Int)
   rotate_left
   ·rw [if_neg c10] at H
    exact absurd H (by simp)
   rw [if_pos c10] at H
   have c10b0 := decide_eq_true c10
   clear c10
   obtain ⟨ji11, hji11⟩ : ∃ j_ : Int, (wrap64 ((wrap64 ((a0.size : Int) - 1)) - x13_1)) = j_ := ⟨_, rfl⟩
   replace H : (if 0 ≤ (ji11) then (if (ji11) < (a0.size : Int) then (if 0 ≤ (wrap64 (8 * (Int.tmod x13_1 4))) then (n_parse.l0 k1 a0 (x3_1.set ((ji8) : Int).toNat (Go.bits .or .u32 (rd x3_1 (ji8)) (shl .u32 ((bt a0 (ji11)) % 4294967296) (wrap64 (8 * (Int.tmod x13_1 4)))))) (a0.size : Int) (wrap64 (x13_1 + 1))) else (none)) else (none)) else (none)) = some r := by first | (rw [hji11] at H; exact H) | (simp only [hji11] at H ⊢; exact H)
   have hji11w : (IntKind.i64.wrap ((wrap64 ((a0.size : Int) - 1)) - x13_1)) = ji11 := (i64_w _).trans hji11
   by_cases c12 : 0 ≤ (ji11)
   rotate_left
   ·rw [if_neg c12] at H
    exact absurd H (by simp)
   rw [if_pos c12] at H
   have c12b0 := decide_eq_true c12
   clear c12
   by_cases c13 : (ji11) < (a0.size : Int)
   rotate_left
   ·rw [if_neg c13] at H
    exact absurd H (by simp)
   rw [if_pos c13] at H
   have c13b0 := decide_eq_true c13
   clear c13
   obtain ⟨ji15, hji15⟩ : ∃ j_ : Int, (wrap64 (8 * (Int.tmod x13_1 4))) = j_ := ⟨_, rfl⟩
   replace H : (if 0 ≤ (ji15) then (n_parse.l0 k1 a0 (x3_1.set ((ji8) : Int).toNat (Go.bits .or .u32 (rd x3_1 (ji8)) (shl .u32 ((bt a0 (ji11)) % 4294967296) (ji15)))) (a0.size : Int) (wrap64 (x13_1 + 1))) else (none)) = some r := by first | (rw [hji15] at H; exact H) | (simp only [hji15] at H ⊢; exact H)
   have hji15w : (IntKind.i64.wrap (8 * (Int.tmod x13_1 4))) = ji15 := (i64_w _).trans hji15
   by_cases c16 : 0 ≤ (ji15)
   rotate_left
   ·rw [if_neg c16] at H
    exact absurd H (by simp)
   rw [if_pos c16] at H
   have c16b0 := eq_true c16
   have c16b1 := decide_eq_true c16
   clear c16
   obtain ⟨ji17, hji17⟩ : ∃ j_ : Int, (shl .u32 ((bt a0 (ji11)) % 4294967296) (ji15)) = j_ := ⟨_, rfl⟩
   replace H : (n_parse.l0 k1 a0 (x3_1.set ((ji8) : Int).toNat (Go.bits .or .u32 (rd x3_1 (ji8)) (ji17))) (a0.size : Int) (wrap64 (x13_1 + 1))) = some r := by first | (rw [hji17] at H; exact H) | (simp only [hji17] at H ⊢; exact H)
   have hji17_ : (IntKind.u32.wrap (((bt a0 (ji11)) % 4294967296) * 2 ^ min (ji15).toNat 32)) = ji17 := hji17
   have hji17m : (((bt a0 (ji11)) % 4294967296) * 2 ^ min (ji15).toNat 32) % 4294967296 = ji17 := hji17_
   have hji17z : (ji15) ≤ 32 → (IntKind.u32.wrap (((bt a0 (ji11)) % 4294967296) * 2 ^ (ji15).toNat)) = ji17 := shl_small hji17
   obtain ⟨y122, hy122⟩ : ∃ y_ : List Int, y_ = (x3_1.set ((ji8) : Int).toNat (Go.bits .or .u32 (rd x3_1 (ji8)) (ji17))) := ⟨_, rfl⟩
   replace H : (n_parse.l0 k1 a0 y122 (a0.size : Int) (wrap64 (x13_1 + 1))) = some r := by first | (rw [hy122]; with_reducible exact H) | (have H2_ := (Option.bind_some _ _).symm.trans H; rw [hy122]; with_reducible exact H2_) | (have H2_ := (Option.bind_some _ _).symm.trans H; with_reducible exact H2_) | with_reducible exact H | (rw [hy122]; exact H) | exact H
   have Ny122 := Aside0.mk hy122
   clear hy122
   have H' := Aside0.mk H
   clear H
   try go_wp2
   have n0_ := Aside0.mk (Kd.R_drew HO_3.out)
   have n1_ := Aside0.mk (below_drew1 HB.out)
   clear HO_3
   clear HB
   have HO_3 := n0_
   have HB := n1_
   clear n0_ n1_
   obtain ⟨Ao20, co20, eo20⟩ := Kd.R_slice HO_3.out
   (first | subst eo20 | (injection eo20 with f1_ f2_ f3_; have f4_ := f1_.symm; have f5_ := f3_.symm; clear f1_ f2_ f3_; subst f4_; subst f5_))
   have p121 : 0 ≤ ((ji8) : Int) := odt
   have q121 : (ji8) < (x3_1.length : Int) := odt
   obtain ⟨ad121, e121, hx121_0⟩ := Kd.at_int (Kd.R_reads' HO_3.out).2.2 (ji8) p121 q121
   cases e121
   replace p121 := eq_true p121
   replace q121 := eq_true q121
   have p14 : 0 ≤ ((ji11) : Int) := odt
   have q14 : (ji11) < (a0.size : Int) := odt
   have hx14 := bt_at a0 (ji11)
   replace p14 := eq_true p14
   replace q14 := eq_true q14
   have p18 : 0 ≤ ((ji8) : Int) := odt
   have q18 : ((ji8) : Int) < ((x3_1.length : Int) : Int) := odt
   obtain ⟨go18, co18, eo18, gb18, gl18, cl18, HG18⟩ := Kd.R_form HO_3.out (by omega)
   (first | cases eo18 | (injection eo18 with ea_ en_ ec_; (first | subst ea_ | (injection ea_ with ea_; subst ea_)); subst ec_; clear en_))
   have GB18 := Aside0.mk gb18
   have GG18 := Aside0.mk HG18
   clear gb18 gl18 HG18
   (first | simp only [add_plain] at hx121_0 | skip)
   obtain ⟨hx18_0, hf18_0⟩ := Kd.R_celln 0 HO_3.out ((ji8) : Int) p18 q18
   replace p18 := eq_true p18
   replace q18 := eq_true q18
   have HP21 := Kd.R_putn HO_3.out ((ji8) : Int) (Go.bits .or .u32 (rd x3_1 (ji8)) (ji17))
   rw [← Ny122.out] at HP21
   have HQ21 := Aside0.mk HP21
   clear HP21
   refine start_ (n := 20) (S := fun w' => w'.cell? ⟨go18, ((ji8)).toNat, none⟩ = some (.int .u32 (rd x3_1 (ji8)))) (ds := [19]) #[false, false, false, false, false, false, false, false, false, false, false, false, false, false, false, false, false, false, false, false] (by kernel_rfl) rfl rfl (hx121_0) (fun hHeld => ?_); refine with_tabW n_parse.tab5 n_parse.bits5 (fun HT_ HW_ => ?_)
   generalize wr.drew = w19 at HO_3 HB GG18 HQ21 hf18_0 hx121_0 hx18_0 hHeld ⊢
   refine pure_ (i := 0) (N := some 16) (v := ?_) (a' := ?_) #[true, false, false, false, false, false, false, false, false, false, false, false, false, false, false, false, false, false, false, false] rfl rfl (any_of HT_.out (by kernel_rfl)) (fun _ _ _ h => h) (Or.inl ⟨by rfl, ?_⟩) ?_ ?_
   rotate_left
   ·intro w'
    go_simp
    with_reducible rfl
   rotate_left
   ·simp only [Act.put, List.setIfInBounds_toArray, List.set_cons_zero, List.set_cons_succ, i64_w, i32_w]
    rfl
   refine pure_ (i := 1) (N := some 17) (v := ?_) (a' := ?_) #[true, true, false, false, false, false, false, false, false, false, false, false, false, false, false, false, false, false, false, false] rfl rfl (any_of HT_.out (by kernel_rfl)) (fun _ _ _ h => h) (Or.inl ⟨by rfl, ?_⟩) ?_ ?_
   rotate_left
   ·intro w'
    go_simp
    with_reducible rfl
   rotate_left
   ·simp only [Act.put, List.setIfInBounds_toArray, List.set_cons_zero, List.set_cons_succ, i64_w, i32_w]
    rfl
   refine pure_ (i := 2) (N := some 18) (v := ?_) (a' := ?_) #[true, true, true, false, false, false, false, false, false, false, false, false, false, false, false, false, false, false, false, false] rfl rfl (any_of HT_.out (by kernel_rfl)) (fun _ _ _ h => h) (Or.inl ⟨by rfl, ?_⟩) ?_ ?_
   rotate_left
   ·intro w'
    go_simp
    with_reducible rfl
   rotate_left
   ·simp only [Act.put, List.setIfInBounds_toArray, List.set_cons_zero, List.set_cons_succ, i64_w, i32_w]
    rfl
   refine pure_ (i := 3) (N := some 19) (v := ?_) (a' := ?_) #[true, true, true, true, false, false, false, false, false, false, false, false, false, false, false, false, false, false, false, false] rfl rfl (any_of HT_.out (by kernel_rfl)) (fun _ _ _ h => h) (Or.inl ⟨by rfl, ?_⟩) ?_ ?_
   rotate_left
   ·intro w'
    go_simp
    with_reducible rfl
   rotate_left
   ·simp only [Act.put, List.setIfInBounds_toArray, List.set_cons_zero, List.set_cons_succ, i64_w, i32_w]
    rfl
   refine pure_ (i := 5) (N := some 21) (v := ?_) (a' := ?_) #[true, true, true, true, false, true, false, false, false, false, false, false, false, false, false, false, false, false, false, false] rfl rfl (any_of HT_.out (by kernel_rfl)) (fun _ _ _ h => h) (Or.inl ⟨by rfl, ?_⟩) ?_ ?_
   rotate_left
   ·intro w'
    go_simp
    with_reducible rfl
   rotate_left
   ·simp only [Act.put, List.setIfInBounds_toArray, List.set_cons_zero, List.set_cons_succ, i64_w, i32_w]
    rfl
   refine pure_ (i := 6) (N := some 22) (v := ?_) (a' := ?_) #[true, true, true, true, false, true, true, false, false, false, false, false, false, false, false, false, false, false, false, false] rfl rfl (any_of HT_.out (by kernel_rfl)) (fun _ _ _ h => h) (Or.inl ⟨by rfl, ?_⟩) ?_ ?_
   rotate_left
   ·intro w'
    go_simp
    with_reducible rfl
   rotate_left
   ·simp only [Act.put, List.setIfInBounds_toArray, List.set_cons_zero, List.set_cons_succ, i64_w, i32_w]
    rfl
   refine pure_ (i := 7) (N := some 23) (v := ?_) (a' := ?_) #[true, true, true, true, false, true, true, true, false, false, false, false, false, false, false, false, false, false, false, false] rfl rfl (any_of HT_.out (by kernel_rfl)) (fun _ _ _ h => h) (Or.inl ⟨by rfl, ?_⟩) ?_ ?_
   rotate_left
   ·intro w'
    go_simp
    with_reducible rfl
   rotate_left
   ·simp only [Act.put, List.setIfInBounds_toArray, List.set_cons_zero, List.set_cons_succ, i64_w, i32_w]
    rfl
   refine pure_ (i := 8) (N := some 24) (v := ?_) (a' := ?_) #[true, true, true, true, false, true, true, true, true, false, false, false, false, false, false, false, false, false, false, false] rfl rfl (any_of HT_.out (by kernel_rfl)) (fun _ _ _ h => h) (Or.inl ⟨by rfl, ?_⟩) ?_ ?_
   rotate_left
   ·intro w'
    go_simp
    with_reducible rfl
   rotate_left
   ·simp only [Act.put, List.setIfInBounds_toArray, List.set_cons_zero, List.set_cons_succ, i64_w, i32_w]
    rfl
   refine pure_ (i := 9) (N := some 25) (v := ?_) (a' := ?_) #[true, true, true, true, false, true, true, true, true, true, false, false, false, false, false, false, false, false, false, false] rfl rfl (any_of HT_.out (by kernel_rfl)) (fun _ _ _ h => h) (Or.inl ⟨by rfl, ?_⟩) ?_ ?_
   rotate_left
   ·intro w'
    go_simp
    with_reducible rfl
   rotate_left
   ·simp only [Act.put, List.setIfInBounds_toArray, List.set_cons_zero, List.set_cons_succ, i64_w, i32_w]
    rfl
   refine pure_ (i := 10) (N := some 26) (v := ?_) (a' := ?_) #[true, true, true, true, false, true, true, true, true, true, true, false, false, false, false, false, false, false, false, false] rfl rfl (any_of HT_.out (by kernel_rfl)) (fun _ _ _ h => h) (Or.inl ⟨by rfl, ?_⟩) ?_ ?_
   rotate_left
   ·intro w'
    go_simp
    with_reducible rfl
   rotate_left
   ·simp only [Act.put, List.setIfInBounds_toArray, List.set_cons_zero, List.set_cons_succ, i64_w, i32_w]
    rfl
   refine pure_ (i := 13) (N := some 29) (v := ?_) (a' := ?_) #[true, true, true, true, false, true, true, true, true, true, true, false, false, true, false, false, false, false, false, false] rfl rfl (any_of HT_.out (by kernel_rfl)) (fun _ _ _ h => h) (Or.inl ⟨by rfl, ?_⟩) ?_ ?_
   rotate_left
   ·intro w'
    go_simp
    with_reducible rfl
   rotate_left
   ·simp only [Act.put, List.setIfInBounds_toArray, List.set_cons_zero, List.set_cons_succ, i64_w, i32_w]
    rfl
   refine pure_ (i := 14) (N := some 30) (v := ?_) (a' := ?_) #[true, true, true, true, false, true, true, true, true, true, true, false, false, true, true, false, false, false, false, false] rfl rfl (any_of HT_.out (by kernel_rfl)) (fun _ _ _ h => h) (Or.inl ⟨by rfl, ?_⟩) ?_ ?_
   rotate_left
   ·intro w'
    go_simp
    with_reducible rfl
   rotate_left
   ·simp only [Act.put, List.setIfInBounds_toArray, List.set_cons_zero, List.set_cons_succ, i64_w, i32_w]
    rfl
   refine pure_ (i := 15) (N := some 31) (v := ?_) (a' := ?_) #[true, true, true, true, false, true, true, true, true, true, true, false, false, true, true, true, false, false, false, false] rfl rfl (any_of HT_.out (by kernel_rfl)) (fun _ _ _ h => h) (Or.inl ⟨by rfl, ?_⟩) ?_ ?_
   rotate_left
   ·intro w'
    go_simp
    with_reducible rfl
   rotate_left
   ·simp only [Act.put, List.setIfInBounds_toArray, List.set_cons_zero, List.set_cons_succ, i64_w, i32_w]
    rfl
   refine take_ (i := 4) (N := some 20) (v := ?_) (a' := ?_) #[true, true, true, true, true, true, true, true, true, true, true, false, false, true, true, true, false, false, false, false] rfl rfl (take_ofW HT_.out HW_.out (by kernel_rfl)) (fun _ _ _ h => h) (Or.inl ⟨by rfl, ?_⟩) hHeld ?_ ?_
   rotate_left
   ·intro w' s0
    go_simp
    with_reducible rfl
   rotate_left
   ·simp only [Act.put, List.setIfInBounds_toArray, List.set_cons_zero, List.set_cons_succ, i64_w, i32_w]
    rfl
   refine take_ (i := 11) (N := some 27) (v := ?_) (a' := ?_) #[true, true, true, true, true, true, true, true, true, true, true, true, false, true, true, true, false, false, false, false] rfl rfl (take_ofW HT_.out HW_.out (by kernel_rfl)) (fun _ _ _ h => h) (Or.inl ⟨by rfl, ?_⟩) hHeld ?_ ?_
   rotate_left
   ·intro w' s0
    go_simp
    with_reducible rfl
   rotate_left
   ·simp only [Act.put, List.setIfInBounds_toArray, List.set_cons_zero, List.set_cons_succ, i64_w, i32_w]
    rfl
   refine pure_ (i := 12) (N := some 28) (v := ?_) (a' := ?_) #[true, true, true, true, true, true, true, true, true, true, true, true, true, true, true, true, false, false, false, false] rfl rfl (any_of HT_.out (by kernel_rfl)) (fun _ _ _ h => h) (Or.inl ⟨by rfl, ?_⟩) ?_ ?_
   rotate_left
   ·intro w'
    go_simp
    with_reducible rfl
   rotate_left
   ·simp only [Act.put, List.setIfInBounds_toArray, List.set_cons_zero, List.set_cons_succ, i64_w, i32_w]
    rfl
   refine pure_ (i := 16) (N := some 32) (v := ?_) (a' := ?_) #[true, true, true, true, true, true, true, true, true, true, true, true, true, true, true, true, true, false, false, false] rfl rfl (any_of HT_.out (by kernel_rfl)) (fun _ _ _ h => h) (Or.inl ⟨by rfl, ?_⟩) ?_ ?_
   rotate_left
   ·intro w'
    go_simp
    with_reducible rfl
   rotate_left
   ·simp only [Act.put, List.setIfInBounds_toArray, List.set_cons_zero, List.set_cons_succ, i64_w, i32_w]
    rfl
   refine pure_ (i := 17) (N := some 33) (v := ?_) (a' := ?_) #[true, true, true, true, true, true, true, true, true, true, true, true, true, true, true, true, true, true, false, false] rfl rfl (any_of HT_.out (by kernel_rfl)) (fun _ _ _ h => h) (Or.inl ⟨by rfl, ?_⟩) ?_ ?_
   rotate_left
   ·intro w'
    go_simp
    with_reducible rfl
   rotate_left
   ·simp only [Act.put, List.setIfInBounds_toArray, List.set_cons_zero, List.set_cons_succ, i64_w, i32_w]
    rfl
   refine pure_ (i := 18) (N := some 34) (v := ?_) (a' := ?_) #[true, true, true, true, true, true, true, true, true, true, true, true, true, true, true, true, true, true, true, false] rfl rfl (any_of HT_.out (by kernel_rfl)) (fun _ _ _ h => h) (Or.inl ⟨by rfl, ?_⟩) ?_ ?_
   rotate_left
   ·intro w'
    go_simp
    with_reducible rfl
   rotate_left
   ·simp only [Act.put, List.setIfInBounds_toArray, List.set_cons_zero, List.set_cons_succ, i64_w, i32_w]
    rfl
   refine last_ (i := 19) (N := none) #[true, true, true, true, true, true, true, true, true, true, true, true, true, true, true, true, true, true, true, true] rfl rfl (one_of HT_.out (by kernel_rfl)) (by decide) (fun K hK => ?_)
   refine skip_ (w1 := ?_) (by rfl) rfl ?_ ?_
   rotate_left
   ·go_simp
    rfl
   refine hK.out _ _ ?_
   clear hK K
   refine done_ (done_of HT_.out (by kernel_rfl)) ?_
   try go_wp2
   go_roundg k1
   case measure => have := HK1.out; omega
   case rel => exact ⟨(y122), (wrap64 (x13_1 + 1)), (by first | rfl | (simp; done) | (simp [*]; done)), H', ⟨by have := HK1.out; omega⟩, ⟨by (with_reducible repeat (first | apply Kd.R_alloc | apply Kd.R_drewN | apply Kd.R_drew)); first | exact HQ21.out | (simp only [hji17m]; exact HQ21.out)⟩, ⟨by repeat (first | (with_reducible first | exact HB.out | apply below_alloc | apply pw_below_drewN | apply below_drew1 | refine below_set ?_ GB18.out) | exact HB.out)⟩⟩
end Go.Proofs.YtfnfjmeiaamheaaDoor.PA
namespace Go.Proofs.YtfnfjmeiaamheaaDoor.PA
open Go.RowKit Go.Proofs.YtfnfjmeiaamheaaDoorW.PrintWords Go.Proofs.YtfnfjmeiaamheaaDoorW.PrintLast Go.Proofs.YtfnfjmeiaamheaaDoorW.PrintMore
def strings_TrimLeft.f (a0 : ByteArray) (a1 : ByteArray) : Option (ByteArray) :=
 if a1.data.toList = [0] then some ⟨(a0.data.toList.dropWhile fun c => c == 0).toArray⟩ else none
theorem strings_TrimLeft.calls (a0 : ByteArray) (a1 : ByteArray) (r : ByteArray) (w : World) (h : strings_TrimLeft.f a0 a1 = some r) :
  Calls Tryd.prog 61 #[.string a0, .string a1] w fun e w' => e = .returned (.string r) ∧ Drawn0 w w' := by
 unfold strings_TrimLeft.f at h
 split at h
 ·rename_i hc
  injection h with h
  subst h
  obtain rfl : a1 = ⟨#[0]⟩ := by
   apply ByteArray.ext
   apply Array.ext'
   simpa using hc
  refine (Tryd.strings_TrimLeft_one a0 0 (by decide) w).mono ?_
  rintro e w' ⟨rfl, rfl⟩
  exact ⟨rfl, Drawn0.refl _⟩
 cases h
end Go.Proofs.YtfnfjmeiaamheaaDoor.PA
namespace Go.Proofs.YtfnfjmeiaamheaaDoor.PA
open Go.RowKit Go.Proofs.YtfnfjmeiaamheaaDoorW.PrintWords Go.Proofs.YtfnfjmeiaamheaaDoorW.PrintLast Go.Proofs.YtfnfjmeiaamheaaDoorW.PrintMore
attribute [local go_sem] max2_int min2_int max_two min_two max_three min_three max_four min_four
def n_Normalize.f (a0 : ByteArray) : Option (ByteArray) := (strings_TrimLeft.f a0 (⟨#[0]⟩ : ByteArray)).bind fun t106 => (some t106)
set_option maxHeartbeats 8000000 in
set_option maxRecDepth 100000 in
theorem n_Normalize.calls (a0 : ByteArray) (r : ByteArray) (w : World) (h : n_Normalize.f a0 = some r) :
 Calls Tryd.prog 44 #[.string a0] w fun e w' => e = .returned (.string r) ∧ Drawn0 w w' := by
 have H : ((strings_TrimLeft.f a0 (⟨#[0]⟩ : ByteArray)).bind fun t106 => (some t106)) = some r := h
 clear h
 replace H := Option.bind_eq_some_iff.mp H
 obtain ⟨t106, A20, H⟩ := H
 try dsimp only at H
 have A2 := Aside0.mk A20
 clear A20
 obtain rfl := Option.some.inj H
 go_enter Tryd.func44, Tryd.ntmps44
 go_wp2_with (first | ((with_reducible refine gate_callee (f := 61) rfl ?_); refine goesq (some 4) Tryd.func61 #[.string a0, .string (⟨#[0]⟩ : ByteArray)] ?_; (with_reducible refine (strings_TrimLeft.calls a0 (⟨#[0]⟩ : ByteArray) t106 _ A2.out).mono ?_); rintro e w' ⟨rfl, ⟨nd, rfl⟩⟩; refine ⟨_, rfl, ?_⟩))
 go_ret
 exact ⟨by first | rfl | (simp; done) | (simp [*]; done), by repeat (first | exact Drawn0.refl _ | apply Drawn0.step)⟩
def n_limbs_text.l0 : Nat → List Int → List Int → Int → Int → Option (ByteArray)
 | 0, _, _, _, _ => none
 | k + 1, x0, x3, x10, x11 => if x11 < x10 then (if 0 ≤ (wrap64 (Int.tdiv x11 4)) then (if (wrap64 (Int.tdiv x11 4)) < (x0.length : Int) then (if 0 ≤ (wrap64 (8 * (Int.tmod x11 4))) then (if 0 ≤ (wrap64 ((wrap64 ((x3.length : Int) - 1)) - x11)) then (if (wrap64 ((wrap64 ((x3.length : Int) - 1)) - x11)) < (x3.length : Int) then (n_limbs_text.l0 k x0 (x3.set ((wrap64 ((wrap64 ((x3.length : Int) - 1)) - x11)) : Int).toNat ((shr .u32 (rd x0 (wrap64 (Int.tdiv x11 4))) (wrap64 (8 * (Int.tmod x11 4)))) % 256)) x10 (wrap64 (x11 + 1))) else (none)) else (none)) else (none)) else (none)) else (none)) else ((n_Normalize.f (strOfNums x3)).bind fun t244 => (some t244))
def n_limbs_text.f (k : Nat) (l0 : List Int) : Option (ByteArray) := if 0 ≤ (wrap64 ((l0.length : Int) * 4)) then (if (wrap64 ((l0.length : Int) * 4) : Int).toNat ≤ 281474976710656 then ((some (List.replicate (wrap64 ((l0.length : Int) * 4) : Int).toNat 0 : List Int)).bind fun y239 => (n_limbs_text.l0 k l0 y239 (y239.length : Int) 0)) else (none)) else (none)
set_option maxHeartbeats 8000000 in
set_option maxRecDepth 100000 in
theorem n_limbs_text.calls (k : Nat) (A0 : Option Addr) (c0 : Nat) (l0 : List Int) (r : ByteArray) (w : World) (hr0 : Kd.C (Kd.int .u32) w A0 l0.length l0) (hc0 : l0.length ≤ c0) (h : n_limbs_text.f k l0 = some r) :
  Calls Tryd.prog 64 #[.slice A0 l0.length c0] w fun e w' => e = .returned (.string r) ∧ Below w.heap.size w w' := by
 have HR0 := Aside0.mk hr0
 have HC0 := Aside0.mk hc0
 clear hr0 hc0
 have HB := Aside0.mk (Below.refl w.heap.size w)
 have H : (if 0 ≤ (wrap64 ((l0.length : Int) * 4)) then (if (wrap64 ((l0.length : Int) * 4) : Int).toNat ≤ 281474976710656 then ((some (List.replicate (wrap64 ((l0.length : Int) * 4) : Int).toNat 0 : List Int)).bind fun y239 => (n_limbs_text.l0 k l0 y239 (y239.length : Int) 0)) else (none)) else (none)) = some r := h
 clear h
 obtain ⟨ji2, hji2⟩ : ∃ j_ : Int, (wrap64 ((l0.length : Int) * 4)) = j_ := ⟨_, rfl⟩
 replace H : (if 0 ≤ (ji2) then (if (ji2 : Int).toNat ≤ 281474976710656 then ((some (List.replicate (ji2 : Int).toNat 0 : List Int)).bind fun y239 => (n_limbs_text.l0 k l0 y239 (y239.length : Int) 0)) else (none)) else (none)) = some r := by first | (rw [hji2] at H; exact H) | (simp only [hji2] at H ⊢; exact H)
 have hji2w : (IntKind.i64.wrap ((l0.length : Int) * 4)) = ji2 := (i64_w _).trans hji2
 by_cases c3 : 0 ≤ (ji2)
 rotate_left
 ·rw [if_neg c3] at H
  exact absurd H (by simp)
 rw [if_pos c3] at H
 have c3b0 := eq_true c3
 have c3b1 := decide_eq_true c3
 clear c3
 by_cases c4 : (ji2 : Int).toNat ≤ 281474976710656
 rotate_left
 ·rw [if_neg c4] at H
  exact absurd H (by simp)
 rw [if_pos c4] at H
 have c4b0 := eq_true c4
 have c4b1 := decide_eq_true c4
 clear c4
 obtain ⟨y239, hy239⟩ : ∃ y_ : List Int, y_ = (List.replicate (ji2 : Int).toNat 0) := ⟨_, rfl⟩
 replace H : (n_limbs_text.l0 k l0 y239 (y239.length : Int) 0) = some r := by first | (rw [hy239]; with_reducible exact H) | (have H2_ := (Option.bind_some _ _).symm.trans H; rw [hy239]; with_reducible exact H2_) | (have H2_ := (Option.bind_some _ _).symm.trans H; with_reducible exact H2_) | with_reducible exact H | (rw [hy239]; exact H) | exact H
 have Ny239 := Aside0.mk hy239
 clear hy239
 have H' := Aside0.mk H
 clear H
 go_enter Tryd.func64, Tryd.ntmps64
 go_wp2_with (first | ((with_reducible refine gate_dst (N := 8) rfl ?_); refine Kd.R_make (Kd.int .u8) _ 5 rfl (N := 8) rfl 109 _ _ rfl ji2 rfl rfl Tryd.underlying109 (.int .u8 0) 1 info5 rfl (by decide) (by omega) 0 (ok := fun _ => True) (okp := fun _ => True) rfl (fun _ hk => hk) trivial odt (Nat.le_trans (Nat.mul_le_mul_right _ (of_decide_eq_true (by first | (with_reducible assumption) | assumption) : ji2.toNat ≤ 281474976710656)) (by omega)) (Below.refl _ _) (Nat.le_refl _) ?_; intro v240 w5 ho6 hb hg_ hnew_; clear hg_ hnew_; (first | rw [← Ny239.out] at ho6 | (simp only [Int.reduceToNat] at ho6; rw [← Ny239.out] at ho6)); have HO241 := am (Kd.R_lower ho6 (below_size (bq HB.out))); replace HB := am (below_step (bq HB.out) hb); clear hb ho6; obtain ⟨Ao7, co7, eo7⟩ := Kd.R_slice HO241.out; subst eo7))
 go_loopg [11] k (fun kq v11 w' => ∃ (x3_1 : List Int) (x11_1 : Int), v11 = .int .i64 x11_1 ∧ Aside0 (n_limbs_text.l0 kq l0 x3_1 (y239.length : Int) x11_1 = some r) ∧ Aside0 (kq ≤ k) ∧ Aside0 (Kd.R (Kd.int .u8) 5 w' w.heap.size (fun _ => True) (.slice Ao7 y239.length co7) x3_1) ∧ Aside0 (Below w.heap.size w w'))
 case atStart => exact ⟨(y239), (0), (by first | rfl | (simp; done) | (simp [*]; done)), H', ⟨Nat.le_refl _⟩, ⟨Kd.rq HO241.out⟩, ⟨bq HB.out⟩⟩
 case round =>
  clear H'
  try clear p2
  try clear c3
  try clear c3b0
  try clear c3b1
  try clear c4
  try clear c4b0
  try clear c4b1
  try clear c6
  try clear p6
  obtain ⟨x3_1, x11_1, rfl, HA, HK1, HO_3, HB⟩ := hrel
  have hl3_1 := (Kd.R_reads' HO_3.out).1
  rw [hl3_1] at HO_3
  (try simp only [hl3_1])
  cases gk with
  | zero => exact absurd HA.out (by simp [n_limbs_text.l0])
  | succ k1 =>
   have H := HA.out
   clear HA
   simp only [n_limbs_text.l0] at H
   by_cases c8 : x11_1 < (y239.length : Int)
   rotate_left
   ·rw [if_neg c8] at H
    have c8b0 : decide (x11_1 < (y239.length : Int)) = false := decide_eq_false c8
    (try (have c8b9_0 := c8b0; rw [hl3_1] at c8b9_0))
    clear c8
    replace H := Option.bind_eq_some_iff.mp H
    obtain ⟨t244, A210, H⟩ := H
    try dsimp only at H
    have A21 := Aside0.mk A210
    clear A210
    obtain rfl := Option.some.inj H
    have hcv22 := own_string (P := Tryd.prog) Tryd.underlying109 Tryd.underlying5 Tryd.underlying9 (Kd.own_of_R HO_3.out)
    go_wp2_with (first | ((with_reducible refine gate_callee (f := 44) rfl ?_); refine goesq (some 34) Tryd.func44 #[.string (strOfNums x3_1)] ?_; (with_reducible refine (n_Normalize.calls (strOfNums x3_1) t244 _ A21.out).mono ?_); rintro e w' ⟨rfl, ⟨nd, rfl⟩⟩; refine ⟨_, rfl, ?_⟩))
    go_ret
    exact ⟨by first | rfl | (simp [errW_none, errW_some] <;> rfl) | (simp only [← hji2]; first | rfl | (simp [errW_none, errW_some] <;> rfl)) | (simp [*, errW_none, errW_some] <;> rfl), bq HB.out⟩
   rw [if_pos c8] at H
   have c8b0 : decide (x11_1 < (y239.length : Int)) = true := decide_eq_true c8
   (try (have c8b9_0 := c8b0; rw [hl3_1] at c8b9_0))
   clear c8
   obtain ⟨ji9, hji9⟩ : ∃ j_ : Int, (wrap64 (Int.tdiv x11_1 4)) = j_ := ⟨_, rfl⟩
   replace H : (if 0 ≤ (ji9) then (if (ji9) < (l0.length : Int) then (if 0 ≤ (wrap64 (8 * (Int.tmod x11_1 4))) then (if 0 ≤ (wrap64 ((wrap64 ((x3_1.length : Int) - 1)) - x11_1)) then (if (wrap64 ((wrap64 ((x3_1.length : Int) - 1)) - x11_1)) < (x3_1.length : Int) then (n_limbs_text.l0 k1 l0 (x3_1.set ((wrap64 ((wrap64 ((x3_1.length : Int) - 1)) - x11_1)) : Int).toNat ((shr .u32 (rd l0 (ji9)) (wrap64 (8 * (Int.tmod x11_1 4)))) % 256)) (y239.length : Int) (wrap64 (x11_1 + 1))) else (none)) else (none)) else (none)) else (none)) else (none)) = some r := by first | (rw [hji9] at H; exact H) | (simp only [hji9] at H ⊢; exact H)
   have hji9w : (IntKind.i64.wrap (Int.tdiv x11_1 4)) = ji9 := (i64_w _).trans hji9
   by_cases c10 : 0 ≤ (ji9)
   rotate_left
   ·rw [if_neg c10] at H
    exact absurd H (by simp)
   rw [if_pos c10] at H
   have c10b0 := decide_eq_true c10
   clear c10
   by_cases c11 : (ji9) < (l0.length : Int)
   rotate_left
   ·rw [if_neg c11] at H
    exact absurd H (by simp)
   rw [if_pos c11] at H
   have c11b0 := decide_eq_true c11
   clear c11
   obtain ⟨ji12, hji12⟩ : ∃ j_ : Int, (wrap64 (8 * (Int.tmod x11_1 4))) = j_ := ⟨_, rfl⟩
   replace H : (if 0 ≤ (ji12) then (if 0 ≤ (wrap64 ((wrap64 ((x3_1.length : Int) - 1)) - x11_1)) then (if (wrap64 ((wrap64 ((x3_1.length : Int) - 1)) - x11_1)) < (x3_1.length : Int) then (n_limbs_text.l0 k1 l0 (x3_1.set ((wrap64 ((wrap64 ((x3_1.length : Int) - 1)) - x11_1)) : Int).toNat ((shr .u32 (rd l0 (ji9)) (ji12)) % 256)) (y239.length : Int) (wrap64 (x11_1 + 1))) else (none)) else (none)) else (none)) = some r := by first | (rw [hji12] at H; exact H) | (simp only [hji12] at H ⊢; exact H)
   have hji12w : (IntKind.i64.wrap (8 * (Int.tmod x11_1 4))) = ji12 := (i64_w _).trans hji12
   by_cases c13 : 0 ≤ (ji12)
   rotate_left
   ·rw [if_neg c13] at H
    exact absurd H (by simp)
   rw [if_pos c13] at H
   have c13b0 := eq_true c13
   have c13b1 := decide_eq_true c13
   clear c13
   obtain ⟨ji14, hji14⟩ : ∃ j_ : Int, (shr .u32 (rd l0 (ji9)) (ji12)) = j_ := ⟨_, rfl⟩
   replace H : (if 0 ≤ (wrap64 ((wrap64 ((x3_1.length : Int) - 1)) - x11_1)) then (if (wrap64 ((wrap64 ((x3_1.length : Int) - 1)) - x11_1)) < (x3_1.length : Int) then (n_limbs_text.l0 k1 l0 (x3_1.set ((wrap64 ((wrap64 ((x3_1.length : Int) - 1)) - x11_1)) : Int).toNat ((ji14) % 256)) (y239.length : Int) (wrap64 (x11_1 + 1))) else (none)) else (none)) = some r := by first | (rw [hji14] at H; exact H) | (simp only [hji14] at H ⊢; exact H)
   have hji14_ : ((rd l0 (ji9)) / 2 ^ min (ji12).toNat 32) = ji14 := hji14
   have hji14z : (ji12) ≤ 32 → ((rd l0 (ji9)) / 2 ^ (ji12).toNat) = ji14 := shr_small hji14
   obtain ⟨ji15, hji15⟩ : ∃ j_ : Int, (wrap64 ((wrap64 ((x3_1.length : Int) - 1)) - x11_1)) = j_ := ⟨_, rfl⟩
   replace H : (if 0 ≤ (ji15) then (if (ji15) < (x3_1.length : Int) then (n_limbs_text.l0 k1 l0 (x3_1.set ((ji15) : Int).toNat ((ji14) % 256)) (y239.length : Int) (wrap64 (x11_1 + 1))) else (none)) else (none)) = some r := by first | (rw [hji15] at H; exact H) | (simp only [hji15] at H ⊢; exact H)
   have hji15w : (IntKind.i64.wrap ((wrap64 ((x3_1.length : Int) - 1)) - x11_1)) = ji15 := (i64_w _).trans hji15
   by_cases c16 : 0 ≤ (ji15)
   rotate_left
   ·rw [if_neg c16] at H
    exact absurd H (by simp)
   rw [if_pos c16] at H
   have c16b0 := decide_eq_true c16
   clear c16
   by_cases c17 : (ji15) < (x3_1.length : Int)
   rotate_left
   ·rw [if_neg c17] at H
    exact absurd H (by simp)
   rw [if_pos c17] at H
   have c17b0 := decide_eq_true c17
   clear c17
   obtain ⟨y243, hy243⟩ : ∃ y_ : List Int, y_ = (x3_1.set ((ji15) : Int).toNat ((ji14) % 256)) := ⟨_, rfl⟩
   replace H : (n_limbs_text.l0 k1 l0 y243 (y239.length : Int) (wrap64 (x11_1 + 1))) = some r := by first | (rw [hy243]; with_reducible exact H) | (have H2_ := (Option.bind_some _ _).symm.trans H; rw [hy243]; with_reducible exact H2_) | (have H2_ := (Option.bind_some _ _).symm.trans H; with_reducible exact H2_) | with_reducible exact H | (rw [hy243]; exact H) | exact H
   have Ny243 := Aside0.mk hy243
   clear hy243
   have H' := Aside0.mk H
   clear H
   have p242 : 0 ≤ ((ji9) : Int) := odt
   have q242 : (ji9) < (l0.length : Int) := odt
   obtain ⟨ad242, e242, hx242_0⟩ := Kd.at_int HR0.out (ji9) p242 q242
   cases e242
   replace hx242_0 := (HB.out.cell (World.block_lt_of_cell? w _ hx242_0)).trans hx242_0
   replace p242 := eq_true p242
   replace q242 := eq_true q242
   have p18 : 0 ≤ ((ji15) : Int) := odt
   have q18 : ((ji15) : Int) < ((x3_1.length : Int) : Int) := odt
   obtain ⟨go18, co18, eo18, gb18, gl18, cl18, HG18⟩ := Kd.R_form HO_3.out (by omega)
   (first | cases eo18 | (injection eo18 with ea_ en_ ec_; (first | subst ea_ | (injection ea_ with ea_; subst ea_)); subst ec_; clear en_))
   have GB18 := Aside0.mk gb18
   have GG18 := Aside0.mk HG18
   clear gb18 gl18 HG18
   obtain ⟨hx18_0, hf18_0⟩ := Kd.R_celln 0 HO_3.out ((ji15) : Int) p18 q18
   replace p18 := eq_true p18
   replace q18 := eq_true q18
   have HP19 := Kd.R_putg HO_3.out ((ji15) : Int) ((ji14) % 256)
   go_wp2_with (first | ((with_reducible refine gate_store (t := 5) (p := 30) rfl ?_); refine store_event (t := 5) (p := 30) (v := ?vo_w20) (w1 := (wr.setCell ⟨go18, ((ji15) : Int).toNat, none⟩ (.int .u8 ((ji14) % 256)))) ?hg ?ho ?hn ?hr ?_; (case ho => rfl); (case hg => rfl); (case hn => rfl); (case hr => first | (go_simp; done) | (go_simp; rfl)); intro w20 hw; have hg : wr.grownBy w20 (some go18) := (by rw [hw]; exact HP19.2); have hp_ : Kd.R (Kd.int .u8) 5 w20 w.heap.size (fun _ => True) (.slice (some ⟨go18, 0, none⟩) x3_1.length co7) y243 := (by rw [hw, Ny243.out]; exact HP19.1); clear HP19; replace HO_3 := am (hp_); replace HB := am ((by rw [hw]; exact below_set (HB.out) GB18.out : Below w.heap.size w w20)); clear hg hw hp_))
   (try simp only [← hl3_1])
   go_roundg k1
   case measure => have := HK1.out; omega
   case rel => exact ⟨(y243), (wrap64 (x11_1 + 1)), (by first | rfl | (simp; done) | (simp [*]; done)), H', ⟨by have := HK1.out; omega⟩, ⟨by (try simp only [hl3_1]); (with_reducible repeat (first | apply Kd.R_alloc | apply Kd.R_drewN | apply Kd.R_drew)); exact HO_3.out⟩, ⟨bq HB.out⟩⟩
def e1_Normalize.l0 : Nat → ByteArray → Int → Option (ByteArray)
 | 0, _, _ => none
 | k + 1, x0, x3 => if x3 < (x0.size : Int) then (if 0 ≤ x3 then (if (bt x0 x3) = 0 then (e1_Normalize.l0 k x0 (wrap64 (x3 + 1))) else (if x3 ≤ (x0.size : Int) then (some (x0.extract (x3 : Int).toNat x0.size)) else (none))) else (none)) else (if 0 ≤ x3 then (if x3 ≤ (x0.size : Int) then (some (x0.extract (x3 : Int).toNat x0.size)) else (none)) else (none))
def e1_Normalize.f (k : Nat) (a0 : ByteArray) : Option (ByteArray) := e1_Normalize.l0 k a0 0
set_option maxHeartbeats 8000000 in
set_option maxRecDepth 100000 in
theorem e1_Normalize.calls (k : Nat) (a0 : ByteArray) (r : ByteArray) (w : World) (h : e1_Normalize.f k a0 = some r) :
  Calls Tryd.prog 69 #[.string a0] w fun e w' => e = .returned (.string r) ∧ Drawn0 w w' := by
 have H : (e1_Normalize.l0 k a0 0) = some r := h
 clear h
 have H' := Aside0.mk H
 clear H
 go_enter Tryd.func69, Tryd.ntmps69
 go_wp2
 go_loopg [3] k (fun kq v3 w' => ∃ (x3_1 : Int), v3 = .int .i64 x3_1 ∧ Aside0 (e1_Normalize.l0 kq a0 x3_1 = some r) ∧ Aside0 (kq ≤ k) ∧ Drawn0 w w')
 case atStart => exact ⟨(0), (by first | rfl | (simp; done) | (simp [*]; done)), H', ⟨Nat.le_refl _⟩, by repeat (first | exact Drawn0.refl _ | apply Drawn0.step)⟩
 case round =>
  clear H'
  obtain ⟨x3_1, rfl, HA, HK1, ⟨m1, rfl⟩⟩ := hrel
  cases gk with
  | zero => exact absurd HA.out (by simp [e1_Normalize.l0])
  | succ k1 =>
   have H := HA.out
   clear HA
   simp only [e1_Normalize.l0] at H
   by_cases c2 : x3_1 < (a0.size : Int)
   rotate_left
   ·rw [if_neg c2] at H
    have c2b0 := decide_eq_false c2
    clear c2
    by_cases c8 : 0 ≤ x3_1
    rotate_left
    ·rw [if_neg c8] at H
     exact absurd H (by simp)
    rw [if_pos c8] at H
    have c8b0 := eq_true c8
    have c8b1 := decide_eq_true c8
    clear c8
    by_cases c9 : x3_1 ≤ (a0.size : Int)
    rotate_left
    ·rw [if_neg c9] at H
     exact absurd H (by simp)
    rw [if_pos c9] at H
    have c9b0 := eq_true c9
    have c9b1 := decide_eq_true c9
    clear c9
    obtain rfl := Option.some.inj H
    go_wp2
    go_ret
    exact ⟨by first | rfl | (simp; done) | (simp [*]; done), by repeat (first | exact Drawn0.refl _ | apply Drawn0.step)⟩
   rw [if_pos c2] at H
   have c2b0 := decide_eq_true c2
   clear c2
   by_cases c3 : 0 ≤ x3_1
   rotate_left
   ·rw [if_neg c3] at H
    exact absurd H (by simp)
   rw [if_pos c3] at H
   have c3b0 := decide_eq_true c3
   clear c3
   by_cases c5 : (bt a0 x3_1) = 0
   ·rw [if_pos c5] at H
    have c5b0 : ((bt a0 x3_1) == 0) = true := beq_iff_eq.mpr c5
    have c5b1 : ((bt a0 x3_1) != 0) = false := bne_eq_false_iff_eq.mpr c5
    clear c5
    have H' := Aside0.mk H
    clear H
    have p4 : 0 ≤ (x3_1 : Int) := odt
    have q4 : x3_1 < (a0.size : Int) := odt
    have hx4 := bt_at a0 x3_1
    replace p4 := eq_true p4
    replace q4 := eq_true q4
    go_wp2
    go_roundg k1
    case measure => have := HK1.out; omega
    case rel => exact ⟨(wrap64 (x3_1 + 1)), (by first | rfl | (simp; done) | (simp [*]; done)), H', ⟨by have := HK1.out; omega⟩, by repeat (first | exact Drawn0.refl _ | apply Drawn0.step)⟩
   rw [if_neg c5] at H
   have c5b0 : ((bt a0 x3_1) == 0) = false := beq_eq_false_iff_ne.mpr c5
   have c5b1 : ((bt a0 x3_1) != 0) = true := bne_iff_ne.mpr c5
   have c6b0 := eq_true (of_decide_eq_true (by first | (with_reducible assumption) | assumption) : 0 ≤ x3_1)
   by_cases c7 : x3_1 ≤ (a0.size : Int)
   rotate_left
   ·rw [if_neg c7] at H
    exact absurd H (by simp)
   rw [if_pos c7] at H
   have c7b0 := eq_true c7
   have c7b1 := decide_eq_true c7
   clear c7
   obtain rfl := Option.some.inj H
   have p4 : 0 ≤ (x3_1 : Int) := odt
   have q4 : x3_1 < (a0.size : Int) := odt
   have hx4 := bt_at a0 x3_1
   replace p4 := eq_true p4
   replace q4 := eq_true q4
   go_wp2
   go_ret
   exact ⟨by first | rfl | (simp; done) | (simp [*]; done), by repeat (first | exact Drawn0.refl _ | apply Drawn0.step)⟩
end Go.Proofs.YtfnfjmeiaamheaaDoor.PA
