/- Texts of this claim, made small by a program of mine (wip/tools/small.py): words that the kit's print tool writes, walks, and what they rest on. -/
import Derived.Test.YtfnfjmeiaamheaaDoorRate1
import Derived.Lib.Hide
set_option linter.unusedVariables false
set_option linter.unusedSimpArgs false
namespace Go.Proofs.YtfnfjmeiaamheaaDoor.PA
open Go.RowKit Go.Proofs.YtfnfjmeiaamheaaDoorW.PrintWords Go.Proofs.YtfnfjmeiaamheaaDoorW.PrintLast Go.Proofs.YtfnfjmeiaamheaaDoorW.PrintMore
attribute [local go_sem] max2_int min2_int max_two min_two max_three min_three max_four min_four
theorem own_len {A : Option Addr} {n n' c c' x : Nat} (h : some x ≠ (Value.slice A n c).ownBlock) : some x ≠ (Value.slice A n' c').ownBlock := by
 cases A
 ·simp [Value.ownBlock]
 exact h
mutual
def e1_long.l0 : Nat → List Int → List Int → Int → Int → Option (List Int × List Int)
 | 0, _, _, _, _ => none
 | k + 1, x0, x1, x6, x7 => if 0 ≤ (wrap64 (x6 - 1)) then (if (wrap64 (x6 - 1)) < (x1.length : Int) then (if 0 ≤ x7 then (if (shl .u32 (rd x1 (wrap64 (x6 - 1))) x7) < 2147483648 then (e1_long.l0 k x0 x1 x6 (IntKind.u64.wrap (x7 + 1))) else ((e1_shifted.f k x0 x7).bind fun t353 => ((e1_shifted.f k x1 x7).bind fun t356 => (if 0 ≤ x6 then (if x6 ≤ (t356.length : Int) then (if 0 ≤ (wrap64 ((wrap64 ((x0.length : Int) - x6)) + 1)) then (if (wrap64 ((wrap64 ((x0.length : Int) - x6)) + 1) : Int).toNat ≤ 70368744177664 then (e1_long.l1 k x6 x7 t353 (t356.take (x6 : Int).toNat) (List.replicate (wrap64 ((wrap64 ((x0.length : Int) - x6)) + 1) : Int).toNat 0) (wrap64 ((x0.length : Int) - x6))) else (none)) else (none)) else (none)) else (none))))) else (none)) else (none)) else (none)
def e1_long.l1 : Nat → Int → Int → List Int → List Int → List Int → Int → Option (List Int × List Int)
 | 0, _, _, _, _, _, _ => none
 | k + 1, x6, x7, x8, x9, x10, x11 => if x11 ≥ 0 then (if 0 ≤ (wrap64 (x11 + x6)) then (if (wrap64 (x11 + x6)) < (x8.length : Int) then (if 0 ≤ (wrap64 ((wrap64 (x11 + x6)) - 1)) then (if (wrap64 ((wrap64 (x11 + x6)) - 1)) < (x8.length : Int) then (if 0 ≤ (wrap64 (x6 - 1)) then (if (wrap64 (x6 - 1)) < (x9.length : Int) then (if (IntKind.u64.wrap (rd x9 (wrap64 (x6 - 1)))) = 0 then (none) else (e1_long.l2 k x6 x7 x8 x9 x10 x11 (IntKind.u64.wrap (Int.tdiv (Go.bits .or .u64 (IntKind.u64.wrap ((IntKind.u64.wrap (rd x8 (wrap64 (x11 + x6)))) * 4294967296)) (IntKind.u64.wrap (rd x8 (wrap64 ((wrap64 (x11 + x6)) - 1))))) (IntKind.u64.wrap (rd x9 (wrap64 (x6 - 1)))))) (Int.tmod (Go.bits .or .u64 (IntKind.u64.wrap ((IntKind.u64.wrap (rd x8 (wrap64 (x11 + x6)))) * 4294967296)) (IntKind.u64.wrap (rd x8 (wrap64 ((wrap64 (x11 + x6)) - 1))))) (IntKind.u64.wrap (rd x9 (wrap64 (x6 - 1))))))) else (none)) else (none)) else (none)) else (none)) else (none)) else (none)) else (if 0 ≤ x6 then (if (x6 : Int).toNat ≤ 70368744177664 then (e1_long.l5 k x6 x7 x8 x10 (List.replicate (x6 : Int).toNat 0) 0) else (none)) else (none))
def e1_long.j4 : Nat → Int → Int → List Int → List Int → List Int → Int → Int → Option (List Int × List Int)
 | 0, _, _, _, _, _, _, _ => none
 | k + 1, x6, x7, x8, x9, x10, x11, x13 => e1_long.l3 k x6 x7 x8 x9 x10 x11 x13 0 0 0
def e1_long.l3 : Nat → Int → Int → List Int → List Int → List Int → Int → Int → Int → Int → Int → Option (List Int × List Int)
 | 0, _, _, _, _, _, _, _, _, _, _ => none
 | k + 1, x6, x7, x8, x9, x10, x11, x13, x15, x16, x17 => if x17 < x6 then (if 0 ≤ x17 then (if x17 < (x9.length : Int) then (if 0 ≤ (wrap64 (x11 + x17)) then (if (wrap64 (x11 + x17)) < (x8.length : Int) then (if (IntKind.u64.wrap (rd x8 (wrap64 (x11 + x17)))) < (IntKind.u64.wrap ((Go.bits .and .u64 (IntKind.u64.wrap (x15 + (IntKind.u64.wrap (x13 * (IntKind.u64.wrap (rd x9 x17)))))) 4294967295) + x16)) then (e1_long.l3 k x6 x7 (x8.set ((wrap64 (x11 + x17)) : Int).toNat ((IntKind.u64.wrap ((IntKind.u64.wrap ((IntKind.u64.wrap (rd x8 (wrap64 (x11 + x17)))) + 4294967296)) - (IntKind.u64.wrap ((Go.bits .and .u64 (IntKind.u64.wrap (x15 + (IntKind.u64.wrap (x13 * (IntKind.u64.wrap (rd x9 x17)))))) 4294967295) + x16)))) % 4294967296)) x9 x10 x11 x13 ((IntKind.u64.wrap (x15 + (IntKind.u64.wrap (x13 * (IntKind.u64.wrap (rd x9 x17)))))) / 4294967296) 1 (wrap64 (x17 + 1))) else (e1_long.l3 k x6 x7 (x8.set ((wrap64 (x11 + x17)) : Int).toNat ((IntKind.u64.wrap ((IntKind.u64.wrap (rd x8 (wrap64 (x11 + x17)))) - (IntKind.u64.wrap ((Go.bits .and .u64 (IntKind.u64.wrap (x15 + (IntKind.u64.wrap (x13 * (IntKind.u64.wrap (rd x9 x17)))))) 4294967295) + x16)))) % 4294967296)) x9 x10 x11 x13 ((IntKind.u64.wrap (x15 + (IntKind.u64.wrap (x13 * (IntKind.u64.wrap (rd x9 x17)))))) / 4294967296) 0 (wrap64 (x17 + 1)))) else (none)) else (none)) else (none)) else (none)) else (if 0 ≤ (wrap64 (x11 + x6)) then (if (wrap64 (x11 + x6)) < (x8.length : Int) then ((some (x8.set ((wrap64 (x11 + x6)) : Int).toNat ((IntKind.u64.wrap ((IntKind.u64.wrap (rd x8 (wrap64 (x11 + x6)))) - (IntKind.u64.wrap (x15 + x16)))) % 4294967296) : List Int)).bind fun y377 => (if (IntKind.u64.wrap (rd x8 (wrap64 (x11 + x6)))) < (IntKind.u64.wrap (x15 + x16)) then (e1_long.l4 k x6 x7 y377 x9 x10 x11 (IntKind.u64.wrap (x13 - 1)) 0 0) else (if 0 ≤ x11 then (if x11 < (x10.length : Int) then (e1_long.l1 k x6 x7 y377 x9 (x10.set (x11 : Int).toNat ((x13) % 4294967296)) (wrap64 (x11 - 1))) else (none)) else (none)))) else (none)) else (none))
def e1_long.l4 : Nat → Int → Int → List Int → List Int → List Int → Int → Int → Int → Int → Option (List Int × List Int)
 | 0, _, _, _, _, _, _, _, _, _ => none
 | k + 1, x6, x7, x8, x9, x10, x11, x13, x15, x23 => if x23 < x6 then (if 0 ≤ (wrap64 (x11 + x23)) then (if (wrap64 (x11 + x23)) < (x8.length : Int) then (if 0 ≤ x23 then (if x23 < (x9.length : Int) then (e1_long.l4 k x6 x7 (x8.set ((wrap64 (x11 + x23)) : Int).toNat ((IntKind.u64.wrap ((IntKind.u64.wrap (x15 + (IntKind.u64.wrap (rd x8 (wrap64 (x11 + x23)))))) + (IntKind.u64.wrap (rd x9 x23)))) % 4294967296)) x9 x10 x11 x13 ((IntKind.u64.wrap ((IntKind.u64.wrap (x15 + (IntKind.u64.wrap (rd x8 (wrap64 (x11 + x23)))))) + (IntKind.u64.wrap (rd x9 x23)))) / 4294967296) (wrap64 (x23 + 1))) else (none)) else (none)) else (none)) else (none)) else (if 0 ≤ (wrap64 (x11 + x6)) then (if (wrap64 (x11 + x6)) < (x8.length : Int) then (if 0 ≤ x11 then (if x11 < (x10.length : Int) then (e1_long.l1 k x6 x7 (x8.set ((wrap64 (x11 + x6)) : Int).toNat (((rd x8 (wrap64 (x11 + x6))) + ((x15) % 4294967296)) % 4294967296)) x9 (x10.set (x11 : Int).toNat ((x13) % 4294967296)) (wrap64 (x11 - 1))) else (none)) else (none)) else (none)) else (none))
def e1_long.l2 : Nat → Int → Int → List Int → List Int → List Int → Int → Int → Int → Option (List Int × List Int)
 | 0, _, _, _, _, _, _, _, _ => none
 | k + 1, x6, x7, x8, x9, x10, x11, x13, x14 => if x13 ≥ 4294967296 then (e1_long.j3 k x6 x7 x8 x9 x10 x11 x13 x14 true) else (if 0 ≤ (wrap64 (x6 - 2)) then (if (wrap64 (x6 - 2)) < (x9.length : Int) then (if 0 ≤ (wrap64 ((wrap64 (x11 + x6)) - 2)) then (if (wrap64 ((wrap64 (x11 + x6)) - 2)) < (x8.length : Int) then (e1_long.j3 k x6 x7 x8 x9 x10 x11 x13 x14 (decide ((IntKind.u64.wrap (x13 * (IntKind.u64.wrap (rd x9 (wrap64 (x6 - 2)))))) > (Go.bits .or .u64 (IntKind.u64.wrap (x14 * 4294967296)) (IntKind.u64.wrap (rd x8 (wrap64 ((wrap64 (x11 + x6)) - 2)))))))) else (none)) else (none)) else (none)) else (none))
def e1_long.j3 : Nat → Int → Int → List Int → List Int → List Int → Int → Int → Int → Bool → Option (List Int × List Int)
 | 0, _, _, _, _, _, _, _, _, _ => none
 | k + 1, x6, x7, x8, x9, x10, x11, x13, x14, x116 => if x116 = true then (if 0 ≤ (wrap64 (x6 - 1)) then (if (wrap64 (x6 - 1)) < (x9.length : Int) then (if (IntKind.u64.wrap (x14 + (IntKind.u64.wrap (rd x9 (wrap64 (x6 - 1)))))) ≥ 4294967296 then (e1_long.j4 k x6 x7 x8 x9 x10 x11 (IntKind.u64.wrap (x13 - 1))) else (e1_long.l2 k x6 x7 x8 x9 x10 x11 (IntKind.u64.wrap (x13 - 1)) (IntKind.u64.wrap (x14 + (IntKind.u64.wrap (rd x9 (wrap64 (x6 - 1)))))))) else (none)) else (none)) else (e1_long.j4 k x6 x7 x8 x9 x10 x11 x13)
def e1_long.l5 : Nat → Int → Int → List Int → List Int → List Int → Int → Option (List Int × List Int)
 | 0, _, _, _, _, _, _ => none
 | k + 1, x6, x7, x8, x10, x24, x25 => if x25 < x6 then (if 0 ≤ (wrap64 (x25 + 1)) then (if (wrap64 (x25 + 1)) < (x8.length : Int) then (if 0 ≤ x25 then (if x25 < (x8.length : Int) then (if 0 ≤ x7 then (if x25 < (x24.length : Int) then (e1_long.l5 k x6 x7 x8 x10 (x24.set (x25 : Int).toNat ((shr .u64 (Go.bits .or .u64 (IntKind.u64.wrap ((IntKind.u64.wrap (rd x8 (wrap64 (x25 + 1)))) * 4294967296)) (IntKind.u64.wrap (rd x8 x25))) x7) % 4294967296)) (wrap64 (x25 + 1))) else (none)) else (none)) else (none)) else (none)) else (none)) else (none)) else ((e1_strip.f k x10).bind fun t391 => ((e1_strip.f k x24).bind fun t394 => (some (t391, t394))))
end
def e1_long.f (k : Nat) (l0 : List Int) (l1 : List Int) : Option (List Int × List Int) := e1_long.l0 k l0 l1 (l1.length : Int) 0
def e1_long.T11 : Bool × List (List Nat × List Nat) := (true, [([], []), ([], []), ([], []), ([1, 2], [1, 2]), ([0, 3], [0, 3]), ([4], [4]), ([5], [5]), ([6], [6]), ([], []), ([], []), ([], []), ([9, 10], [9, 10]), ([11], [11]), ([8, 12], [8, 12]), ([13], [13]), ([14], [14]), ([7, 15], [7, 15]), ([16, 0, 1, 2, 3, 4, 5, 6, 7, 8, 9, 10, 11, 12, 13, 14, 15, 16], [16])])
def e1_long.B11 : List Nat := [0, 0, 0, 6, 15, 31, 63, 127, 0, 0, 0, 1536, 3584, 7936, 16128, 32512, 65535, 131071]
theorem e1_long.tab11 : rtab .any (opsOf Tryd.f85 11) = e1_long.T11 := by kernel_rfl
theorem e1_long.bits11 : waitsOk e1_long.T11.2 e1_long.B11 = true := by kernel_rfl
def e1_long.T14 : Bool × List (List Nat × List Nat) := (true, [([], []), ([0], [0]), ([1], [1]), ([2], [2]), ([2], [2]), ([2], [2]), ([5, 2], [2, 5]), ([4, 6, 2], [2, 4, 6]), ([7, 2], [2, 7]), ([8, 2], [2, 8]), ([3, 9, 2], [2, 3, 9]), ([2], [2]), ([11, 2], [2, 11]), ([2], [2]), ([2], [2]), ([2], [2]), ([14, 15, 2], [2, 14, 15]), ([16, 2], [2, 16]), ([13, 17, 2], [2, 13, 17]), ([18, 2], [2, 18]), ([19, 2], [2, 19]), ([12, 20, 2], [2, 12, 20]), ([10, 21, 2], [2, 10, 21]), ([2, 22], [2, 22])])
def e1_long.B14 : List Nat := [0, 1, 3, 7, 7, 7, 39, 119, 247, 503, 1023, 7, 2055, 7, 7, 7, 49159, 114695, 253959, 516103, 1040391, 2095111, 4194303, 8388607]
theorem e1_long.tab14 : rtab .any (opsOf Tryd.f85 14) = e1_long.T14 := by kernel_rfl
theorem e1_long.bits14 : waitsOk e1_long.T14.2 e1_long.B14 = true := by kernel_rfl
def e1_long.T42 : Bool × List (List Nat × List Nat) := (true, [([], []), ([], []), ([], []), ([], []), ([2, 3], [2, 3]), ([1, 4], [1, 4]), ([5], [5]), ([6], [6]), ([0, 7], [0, 7]), ([], []), ([], []), ([9, 10], [9, 10]), ([11], [11]), ([12], [12]), ([8, 13], [8, 13]), ([14, 0, 1, 2, 3, 4, 5, 6, 7, 8, 9, 10, 11, 12, 13, 14], [0, 14])])
def e1_long.B42 : List Nat := [0, 0, 0, 0, 12, 30, 62, 126, 255, 0, 0, 1536, 3584, 7680, 16383, 32767]
theorem e1_long.tab42 : rtab .any (opsOf Tryd.f85 42) = e1_long.T42 := by kernel_rfl
theorem e1_long.bits42 : waitsOk e1_long.T42.2 e1_long.B42 = true := by kernel_rfl
def e1_long.T51 : Bool × List (List Nat × List Nat) := (true, [([], []), ([], []), ([], []), ([], []), ([3], [3]), ([2, 4], [2, 4]), ([5], [5]), ([6], [6]), ([7], [7]), ([], []), ([], []), ([9, 10], [9, 10]), ([11], [11]), ([12], [12]), ([8, 13], [8, 13]), ([], []), ([14, 15], [14, 15]), ([16], [16]), ([0, 1, 0, 1, 2, 3, 4, 5, 6, 7, 8, 9, 10, 11, 12, 13, 14, 15, 16, 17], [0, 1]), ([18, 17, 0, 1, 2, 3, 4, 5, 6, 7, 8, 9, 10, 11, 12, 13, 14, 15, 16, 17], [17, 18])])
def e1_long.B51 : List Nat := [0, 0, 0, 0, 8, 28, 60, 124, 252, 0, 0, 1536, 3584, 7680, 16380, 0, 65532, 131068, 262143, 524287]
theorem e1_long.tab51 : rtab .any (opsOf Tryd.f85 51) = e1_long.T51 := by kernel_rfl
theorem e1_long.bits51 : waitsOk e1_long.T51.2 e1_long.B51 = true := by kernel_rfl
set_option maxHeartbeats 8000000 in
set_option maxRecDepth 100000 in
theorem e1_long.calls (k : Nat) (A0 : Option Addr) (c0 : Nat) (l0 : List Int) (A1 : Option Addr) (c1 : Nat) (l1 : List Int) (r1 : List Int) (r2 : List Int) (w : World) (hr0 : Kd.C (Kd.int .u32) w A0 l0.length l0) (hc0 : l0.length ≤ c0) (hr1 : Kd.C (Kd.int .u32) w A1 l1.length l1) (hc1 : l1.length ≤ c1) (h : e1_long.f k l0 l1 = some (r1, r2)) :
  Calls Tryd.prog 85 #[.slice A0 l0.length c0, .slice A1 l1.length c1] w fun e w' => ∃ v0_ v1_ : Value, e = .returned (.tuple #[v0_, v1_]) ∧ Kd.V (Kd.int .u32) 88 w' w.heap.size (fun k_ => (w.heap.size ≤ k_)) v0_ r1 ∧ Kd.V (Kd.int .u32) 88 w' w.heap.size (fun k_ => (w.heap.size ≤ k_)) v1_ r2 ∧ Below w.heap.size w w' := by
 have HR0 := Aside0.mk hr0
 have HC0 := Aside0.mk hc0
 clear hr0 hc0
 have HR1 := Aside0.mk hr1
 have HC1 := Aside0.mk hc1
 clear hr1 hc1
 have HB := Aside0.mk (Below.refl w.heap.size w)
 have H : (e1_long.l0 k l0 l1 (l1.length : Int) 0) = some (r1, r2) := h
 clear h
 have H' := Aside0.mk H
 clear H
 go_enter Tryd.func85, Tryd.ntmps85
 go_wp2
 go_loopg [7] k (fun kq v7 w' => ∃ (x7_1 : Int), v7 = .int .u64 x7_1 ∧ Aside0 (e1_long.l0 kq l0 l1 (l1.length : Int) x7_1 = some (r1, r2)) ∧ Aside0 (kq ≤ k) ∧ Aside0 (Below w.heap.size w w'))
 case atStart => exact ⟨(0), (by first | rfl | (simp; done) | (simp [*]; done)), H', ⟨Nat.le_refl _⟩, ⟨bq HB.out⟩⟩
 case round =>
  clear H'
  try clear c1
  try clear p2
  obtain ⟨x7_1, rfl, HA, HK1, HB⟩ := hrel
  cases gk with
  | zero => exact absurd HA.out (by simp [e1_long.l0])
  | succ k1 =>
   have H := HA.out
   clear HA
   simp only [e1_long.l0] at H
   obtain ⟨ji3, hji3⟩ : ∃ j_ : Int, (wrap64 ((l1.length : Int) - 1)) = j_ := ⟨_, rfl⟩
   replace H : (if 0 ≤ (ji3) then (if (ji3) < (l1.length : Int) then (if 0 ≤ x7_1 then (if (shl .u32 (rd l1 (ji3)) x7_1) < 2147483648 then (e1_long.l0 k1 l0 l1 (l1.length : Int) (IntKind.u64.wrap (x7_1 + 1))) else ((e1_shifted.f k1 l0 x7_1).bind fun t353 => ((e1_shifted.f k1 l1 x7_1).bind fun t356 => (if 0 ≤ (l1.length : Int) then (if (l1.length : Int) ≤ (t356.length : Int) then (if 0 ≤ (wrap64 ((wrap64 ((l0.length : Int) - (l1.length : Int))) + 1)) then (if (wrap64 ((wrap64 ((l0.length : Int) - (l1.length : Int))) + 1) : Int).toNat ≤ 70368744177664 then (e1_long.l1 k1 (l1.length : Int) x7_1 t353 (t356.take ((l1.length : Int) : Int).toNat) (List.replicate (wrap64 ((wrap64 ((l0.length : Int) - (l1.length : Int))) + 1) : Int).toNat 0) (wrap64 ((l0.length : Int) - (l1.length : Int)))) else (none)) else (none)) else (none)) else (none))))) else (none)) else (none)) else (none)) = some (r1, r2) := by first | (rw [hji3] at H; exact H) | (simp only [hji3] at H ⊢; exact H)
   have hji3w : (IntKind.i64.wrap ((l1.length : Int) - 1)) = ji3 := (i64_w _).trans hji3
   by_cases c4 : 0 ≤ (ji3)
   rotate_left
   ·rw [if_neg c4] at H
    exact absurd H (by simp)
   rw [if_pos c4] at H
   have c4b0 := decide_eq_true c4
   clear c4
   by_cases c5 : (ji3) < (l1.length : Int)
   rotate_left
   ·rw [if_neg c5] at H
    exact absurd H (by simp)
   rw [if_pos c5] at H
   have c5b0 := decide_eq_true c5
   clear c5
   by_cases c6 : 0 ≤ x7_1
   rotate_left
   ·rw [if_neg c6] at H
    exact absurd H (by simp)
   rw [if_pos c6] at H
   have c6b0 := eq_true c6
   have c6b1 := decide_eq_true c6
   clear c6
   obtain ⟨ji7, hji7⟩ : ∃ j_ : Int, (shl .u32 (rd l1 (ji3)) x7_1) = j_ := ⟨_, rfl⟩
   replace H : (if (ji7) < 2147483648 then (e1_long.l0 k1 l0 l1 (l1.length : Int) (IntKind.u64.wrap (x7_1 + 1))) else ((e1_shifted.f k1 l0 x7_1).bind fun t353 => ((e1_shifted.f k1 l1 x7_1).bind fun t356 => (if 0 ≤ (l1.length : Int) then (if (l1.length : Int) ≤ (t356.length : Int) then (if 0 ≤ (wrap64 ((wrap64 ((l0.length : Int) - (l1.length : Int))) + 1)) then (if (wrap64 ((wrap64 ((l0.length : Int) - (l1.length : Int))) + 1) : Int).toNat ≤ 70368744177664 then (e1_long.l1 k1 (l1.length : Int) x7_1 t353 (t356.take ((l1.length : Int) : Int).toNat) (List.replicate (wrap64 ((wrap64 ((l0.length : Int) - (l1.length : Int))) + 1) : Int).toNat 0) (wrap64 ((l0.length : Int) - (l1.length : Int)))) else (none)) else (none)) else (none)) else (none))))) = some (r1, r2) := by first | (rw [hji7] at H; exact H) | (simp only [hji7] at H ⊢; exact H)
   have hji7_ : (IntKind.u32.wrap ((rd l1 (ji3)) * 2 ^ min x7_1.toNat 32)) = ji7 := hji7
   have hji7m : ((rd l1 (ji3)) * 2 ^ min x7_1.toNat 32) % 4294967296 = ji7 := hji7_
   have hji7z : x7_1 ≤ 32 → (IntKind.u32.wrap ((rd l1 (ji3)) * 2 ^ x7_1.toNat)) = ji7 := shl_small hji7
   by_cases c8 : (ji7) < 2147483648
   ·rw [if_pos c8] at H
    have c8b0 := decide_eq_true c8
    clear c8
    have H' := Aside0.mk H
    clear H
    have p352 : 0 ≤ ((ji3) : Int) := odt
    have q352 : (ji3) < (l1.length : Int) := odt
    obtain ⟨ad352, e352, hx352_0⟩ := Kd.at_int HR1.out (ji3) p352 q352
    cases e352
    replace hx352_0 := (HB.out.cell (World.block_lt_of_cell? w _ hx352_0)).trans hx352_0
    replace p352 := eq_true p352
    replace q352 := eq_true q352
    go_wp2
    go_roundg k1
    case measure => have := HK1.out; omega
    case rel => exact ⟨(IntKind.u64.wrap (x7_1 + 1)), (by first | rfl | (simp; done) | (simp [*]; done)), H', ⟨by have := HK1.out; omega⟩, ⟨bq HB.out⟩⟩
   rw [if_neg c8] at H
   have c8b0 := decide_eq_false c8
   clear c8
   replace H := Option.bind_eq_some_iff.mp H
   obtain ⟨t353, A90, H⟩ := H
   try dsimp only at H
   have A9 := Aside0.mk A90
   clear A90
   replace H := Option.bind_eq_some_iff.mp H
   obtain ⟨t356, A100, H⟩ := H
   try dsimp only at H
   have A10 := Aside0.mk A100
   clear A100
   by_cases c11 : 0 ≤ (l1.length : Int)
   rotate_left
   ·rw [if_neg c11] at H
    exact absurd H (by simp)
   rw [if_pos c11] at H
   have c11b0 := eq_true c11
   have c11b1 := decide_eq_true c11
   clear c11
   by_cases c12 : (l1.length : Int) ≤ (t356.length : Int)
   rotate_left
   ·rw [if_neg c12] at H
    exact absurd H (by simp)
   rw [if_pos c12] at H
   have c12b0 := eq_true c12
   have c12b1 := decide_eq_true c12
   clear c12
   obtain ⟨y359, hy359⟩ : ∃ y_ : List Int, y_ = (t356.take ((l1.length : Int) : Int).toNat) := ⟨_, rfl⟩
   replace H : (if 0 ≤ (wrap64 ((wrap64 ((l0.length : Int) - (l1.length : Int))) + 1)) then (if (wrap64 ((wrap64 ((l0.length : Int) - (l1.length : Int))) + 1) : Int).toNat ≤ 70368744177664 then (e1_long.l1 k1 (l1.length : Int) x7_1 t353 y359 (List.replicate (wrap64 ((wrap64 ((l0.length : Int) - (l1.length : Int))) + 1) : Int).toNat 0) (wrap64 ((l0.length : Int) - (l1.length : Int)))) else (none)) else (none)) = some (r1, r2) := by first | (rw [hy359]; with_reducible exact H) | (have H2_ := (Option.bind_some _ _).symm.trans H; rw [hy359]; with_reducible exact H2_) | (have H2_ := (Option.bind_some _ _).symm.trans H; with_reducible exact H2_) | with_reducible exact H | (rw [hy359]; exact H) | exact H
   have Ny359 := Aside0.mk hy359
   clear hy359
   obtain ⟨ji13, hji13⟩ : ∃ j_ : Int, (wrap64 ((wrap64 ((l0.length : Int) - (l1.length : Int))) + 1)) = j_ := ⟨_, rfl⟩
   replace H : (if 0 ≤ (ji13) then (if (ji13 : Int).toNat ≤ 70368744177664 then (e1_long.l1 k1 (l1.length : Int) x7_1 t353 y359 (List.replicate (ji13 : Int).toNat 0) (wrap64 ((l0.length : Int) - (l1.length : Int)))) else (none)) else (none)) = some (r1, r2) := by first | (rw [hji13] at H; exact H) | (simp only [hji13] at H ⊢; exact H)
   (try rw [hji13] at A9)
   (try rw [hji13] at A10)
   have hji13w : (IntKind.i64.wrap ((wrap64 ((l0.length : Int) - (l1.length : Int))) + 1)) = ji13 := (i64_w _).trans hji13
   by_cases c14 : 0 ≤ (ji13)
   rotate_left
   ·rw [if_neg c14] at H
    exact absurd H (by simp)
   rw [if_pos c14] at H
   have c14b0 := eq_true c14
   have c14b1 := decide_eq_true c14
   clear c14
   by_cases c15 : (ji13 : Int).toNat ≤ 70368744177664
   rotate_left
   ·rw [if_neg c15] at H
    exact absurd H (by simp)
   rw [if_pos c15] at H
   have c15b0 := eq_true c15
   have c15b1 := decide_eq_true c15
   clear c15
   obtain ⟨y362, hy362⟩ : ∃ y_ : List Int, y_ = (List.replicate (ji13 : Int).toNat 0) := ⟨_, rfl⟩
   replace H : (e1_long.l1 k1 (l1.length : Int) x7_1 t353 y359 y362 (wrap64 ((l0.length : Int) - (l1.length : Int)))) = some (r1, r2) := by first | (rw [hy362]; with_reducible exact H) | (have H2_ := (Option.bind_some _ _).symm.trans H; rw [hy362]; with_reducible exact H2_) | (have H2_ := (Option.bind_some _ _).symm.trans H; with_reducible exact H2_) | with_reducible exact H | (rw [hy362]; exact H) | exact H
   have Ny362 := Aside0.mk hy362
   clear hy362
   have H' := Aside0.mk H
   clear H
   have p352 : 0 ≤ ((ji3) : Int) := odt
   have q352 : (ji3) < (l1.length : Int) := odt
   obtain ⟨ad352, e352, hx352_0⟩ := Kd.at_int HR1.out (ji3) p352 q352
   cases e352
   replace hx352_0 := (HB.out.cell (World.block_lt_of_cell? w _ hx352_0)).trans hx352_0
   replace p352 := eq_true p352
   replace q352 := eq_true q352
   go_wp2_with (first | ((with_reducible refine gate_callee (f := 93) rfl ?_); refine goesq (some 40) Tryd.func93 #[.slice A0 l0.length c0, .int .u64 x7_1] ?_; (with_reducible refine (e1_shifted.calls k1 _ _ l0 x7_1 t353 _ ?side1 ?side2 A9.out).mono ?_); (case side1 => repeat (first | exact (Kd.C_below HR0.out HB.out) | (with_reducible refine Kd.C_alloc ?_ _) | (with_reducible refine Kd.C_drewN ?_ _) | (with_reducible refine Kd.C_drew ?_))); (case side2 => exact HC0.out); rintro e w16 ⟨v354, rfl, ho0, hb⟩; refine ⟨_, rfl, ?_⟩; have HO355 := am (Kd.R_lower (Kd.R_newM (M := fun k_ => (w.heap.size ≤ k_)) ho0 (below_size (bq HB.out)) (fun k_ h_ => h_)) (below_size (bq HB.out))); replace HB := am (below_step (bq HB.out) hb); (try clear hb); (try clear ho0)) | ((with_reducible refine gate_callee (f := 93) rfl ?_); refine goesq (some 43) Tryd.func93 #[.slice (some ad352) l1.length c1, .int .u64 x7_1] ?_; (with_reducible refine (e1_shifted.calls k1 _ _ l1 x7_1 t356 _ ?side1 ?side2 A10.out).mono ?_); (case side1 => repeat (first | exact (Kd.C_below HR1.out HB.out) | (with_reducible refine Kd.C_alloc ?_ _) | (with_reducible refine Kd.C_drewN ?_ _) | (with_reducible refine Kd.C_drew ?_))); (case side2 => exact HC1.out); rintro e w17 ⟨v357, rfl, ho0, hb⟩; refine ⟨_, rfl, ?_⟩; have HO358 := am (Kd.R_lower (Kd.R_new' (Kd.R_newM (M := fun k_ => (w.heap.size ≤ k_)) ho0 (below_size (bq HB.out)) (fun k_ h_ => h_)) (Kd.R_lt (Kd.rq HO355.out))) (below_size (bq HB.out))); replace HO355 := am (Kd.R_elder' (Kd.rq HO355.out) (Kd.R_base ho0) hb); replace HB := am (below_step (bq HB.out) hb); (try clear hb); (try clear ho0); obtain ⟨Ao18, co18, eo18⟩ := Kd.R_slice HO358.out; subst eo18; have q19 : ((l1.length : Int) : Int) ≤ ((t356.length : Int) : Int) := odt; obtain ⟨i019, hi019, _, hsz19, _⟩ := info_parts info88; have hcut19 := cut_to (P := Tryd.prog) 77 88 .i64 Tryd.underlying77 hi019 Ao18 t356.length co18 (l1.length : Int) odt q19 (Kd.R_reads' HO358.out).2.1; have hr19 := Kd.R_take (m := ((l1.length : Int) : Int).toNat) HO358.out (by omega); have hy19 : y359.length = ((l1.length : Int) : Int).toNat := (by rw [Ny359.out, List.length_take]; omega); rw [← Ny359.out] at hr19; rw [← hy19] at hr19 hcut19; clear hy19 hi019 hsz19 HO358; have HO361 := Aside0.mk hr19; clear hr19; replace q19 := eq_true q19) | ((with_reducible refine gate_dst (N := 51) rfl ?_); refine Kd.R_make (Kd.int .u32) _ 88 rfl (N := 51) rfl 77 _ _ rfl ji13 rfl rfl Tryd.underlying77 (.int .u32 0) 4 info88 rfl (by decide) (by omega) 0 (ok := fun _ => True) (okp := fun _ => True) rfl (fun _ hk => hk) trivial odt (Nat.le_trans (Nat.mul_le_mul_right _ (of_decide_eq_true (by first | (with_reducible assumption) | assumption) : ji13.toNat ≤ 70368744177664)) (by omega)) (Below.refl _ _) (Nat.le_refl _) ?_; intro v363 w20 ho21 hb hg_ hnew_; clear hg_ hnew_; (first | rw [← Ny362.out] at ho21 | (simp only [Int.reduceToNat] at ho21; rw [← Ny362.out] at ho21)); have HO364 := am (Kd.R_lower (Kd.R_new' (Kd.R_new' (Kd.R_newM (M := fun k_ => (w.heap.size ≤ k_)) ho21 (below_size (bq HB.out)) (fun k_ h_ => h_)) (Kd.R_lt (Kd.rq HO355.out))) (Kd.R_lt (Kd.rq HO361.out))) (below_size (bq HB.out))); replace HO355 := am (Kd.R_elder' (Kd.rq HO355.out) (Kd.R_base ho21) hb); replace HO361 := am (Kd.R_elder' (Kd.rq HO361.out) (Kd.R_base ho21) hb); replace HB := am (below_step (bq HB.out) hb); clear hb ho21))
   go_loopg [11] k1 (fun kq v11 w' => ∃ (x8_2 : List Int) (x10_2 : List Int) (x11_2 : Int), v11 = .int .i64 x11_2 ∧ Aside0 (e1_long.l1 kq (l1.length : Int) x7_1 x8_2 y359 x10_2 x11_2 = some (r1, r2)) ∧ Aside0 (kq ≤ k1) ∧ Aside0 (Kd.R (Kd.int .u32) 88 w' w.heap.size (fun k_ => (w.heap.size ≤ k_) ∧ some k_ ≠ ((.slice Ao18 y359.length co18) : Value).ownBlock ∧ some k_ ≠ (v363 : Value).ownBlock) v354 x8_2) ∧ Aside0 (Kd.R (Kd.int .u32) 88 w' w.heap.size (fun k_ => (w.heap.size ≤ k_) ∧ some k_ ≠ (v354 : Value).ownBlock ∧ some k_ ≠ (v363 : Value).ownBlock) (.slice Ao18 y359.length co18) y359) ∧ Aside0 (Kd.R (Kd.int .u32) 88 w' w.heap.size (fun k_ => (w.heap.size ≤ k_) ∧ some k_ ≠ (v354 : Value).ownBlock ∧ some k_ ≠ ((.slice Ao18 y359.length co18) : Value).ownBlock) v363 x10_2) ∧ Aside0 (Below w.heap.size w w'))
   case atStart => exact ⟨(t353), (y362), (wrap64 ((l0.length : Int) - (l1.length : Int))), (by first | rfl | (simp; done) | (simp [*]; done)), H', ⟨Nat.le_refl _⟩, ⟨by (with_reducible repeat (first | apply Kd.R_alloc | apply Kd.R_drewN | apply Kd.R_drew)); exact Kd.R_mono HO355.out (fun _ hk => by first | exact ⟨hk.1.1.1, ⟨hk.1.2, hk.2⟩⟩ | exact ⟨hk.1.1.1, ⟨own_len hk.1.2, hk.2⟩⟩ | exact ⟨hk.1.1.1, ⟨hk.1.2, own_len hk.2⟩⟩ | exact ⟨hk.1.1.1, ⟨own_len hk.1.2, own_len hk.2⟩⟩)⟩, ⟨by (with_reducible repeat (first | apply Kd.R_alloc | apply Kd.R_drewN | apply Kd.R_drew)); exact Kd.R_mono HO361.out (fun _ hk => by first | exact ⟨hk.1.1.1, ⟨hk.1.2, hk.2⟩⟩ | exact ⟨hk.1.1.1, ⟨own_len hk.1.2, hk.2⟩⟩ | exact ⟨hk.1.1.1, ⟨hk.1.2, own_len hk.2⟩⟩ | exact ⟨hk.1.1.1, ⟨own_len hk.1.2, own_len hk.2⟩⟩)⟩, ⟨by (with_reducible repeat (first | apply Kd.R_alloc | apply Kd.R_drewN | apply Kd.R_drew)); exact Kd.R_mono HO364.out (fun _ hk => by first | exact ⟨hk.1.1.1, ⟨hk.1.2, hk.2⟩⟩ | exact ⟨hk.1.1.1, ⟨own_len hk.1.2, hk.2⟩⟩ | exact ⟨hk.1.1.1, ⟨hk.1.2, own_len hk.2⟩⟩ | exact ⟨hk.1.1.1, ⟨own_len hk.1.2, own_len hk.2⟩⟩)⟩, ⟨bq HB.out⟩⟩
   case round =>
    clear H'
    try clear c1
    try clear q1
    try clear p2
    try clear p3
    try clear q3
    try clear hx3
    try clear c4
    try clear c4b0
    try clear c5
    try clear c5b0
    try clear c6
    try clear c6b0
    try clear c6b1
    try clear p6
    try clear c8
    try clear c8b0
    try clear c9
    try clear c11
    try clear c11b0
    try clear c11b1
    try clear c12
    try clear c12b0
    try clear c12b1
    try clear c14
    try clear c14b0
    try clear c14b1
    try clear c15
    try clear c15b0
    try clear c15b1
    try clear q19
    try clear hx352_0
    try clear p2
    try clear p352
    try clear q19
    try clear q352
    obtain ⟨x8_2, x10_2, x11_2, rfl, HA, HK2, HO_8, HO_9, HO_10, HB⟩ := hrel
    cases gk with
    | zero => exact absurd HA.out (by simp [e1_long.l1])
    | succ k2 =>
     have H := HA.out
     clear HA
     simp only [e1_long.l1] at H
     by_cases c22 : x11_2 ≥ 0
     rotate_left
     ·rw [if_neg c22] at H
      have c22b0 : decide (0 ≤ x11_2) = false := decide_eq_false c22
      clear c22
      by_cases c99 : 0 ≤ (l1.length : Int)
      rotate_left
      ·rw [if_neg c99] at H
       exact absurd H (by simp)
      rw [if_pos c99] at H
      have c99b0 := eq_true c99
      have c99b1 := decide_eq_true c99
      clear c99
      by_cases c100 : ((l1.length : Int) : Int).toNat ≤ 70368744177664
      rotate_left
      ·rw [if_neg c100] at H
       exact absurd H (by simp)
      rw [if_pos c100] at H
      have c100b0 := eq_true c100
      have c100b1 := decide_eq_true c100
      clear c100
      obtain ⟨y385, hy385⟩ : ∃ y_ : List Int, y_ = (List.replicate ((l1.length : Int) : Int).toNat 0) := ⟨_, rfl⟩
      replace H : (e1_long.l5 k2 (l1.length : Int) x7_1 x8_2 x10_2 y385 0) = some (r1, r2) := by first | (rw [hy385]; with_reducible exact H) | (have H2_ := (Option.bind_some _ _).symm.trans H; rw [hy385]; with_reducible exact H2_) | (have H2_ := (Option.bind_some _ _).symm.trans H; with_reducible exact H2_) | with_reducible exact H | (rw [hy385]; exact H) | exact H
      have Ny385 := Aside0.mk hy385
      clear hy385
      have H' := Aside0.mk H
      clear H
      go_wp2_with (first | ((with_reducible refine gate_dst (N := 244) rfl ?_); refine Kd.R_make (Kd.int .u32) _ 88 rfl (N := 244) rfl 77 _ _ rfl (l1.length : Int) rfl rfl Tryd.underlying77 (.int .u32 0) 4 info88 rfl (by decide) (by omega) 0 (ok := fun _ => True) (okp := fun _ => True) rfl (fun _ hk => hk) trivial odt (Nat.le_trans (Nat.mul_le_mul_right _ (of_decide_eq_true (by first | (with_reducible assumption) | assumption) : (l1.length : Int).toNat ≤ 70368744177664)) (by omega)) (Below.refl _ _) (Nat.le_refl _) ?_; intro v386 w101 ho102 hb hg_ hnew_; clear hg_ hnew_; (first | rw [← Ny385.out] at ho102 | (simp only [Int.reduceToNat] at ho102; rw [← Ny385.out] at ho102)); have HO387 := am (Kd.R_lower (Kd.R_new' (Kd.R_new' (Kd.R_new' (Kd.R_newM (M := fun k_ => (w.heap.size ≤ k_)) ho102 (below_size (bq HB.out)) (fun k_ h_ => h_)) (Kd.R_lt (Kd.rq HO_8.out))) (Kd.R_lt (Kd.rq HO_9.out))) (Kd.R_lt (Kd.rq HO_10.out))) (below_size (bq HB.out))); replace HO_8 := am (Kd.R_elder' (Kd.rq HO_8.out) (Kd.R_base ho102) hb); replace HO_9 := am (Kd.R_elder' (Kd.rq HO_9.out) (Kd.R_base ho102) hb); replace HO_10 := am (Kd.R_elder' (Kd.rq HO_10.out) (Kd.R_base ho102) hb); replace HB := am (below_step (bq HB.out) hb); clear hb ho102))
      go_loopg [25] k2 (fun kq v25 w' => ∃ (x24_3 : List Int) (x25_3 : Int), v25 = .int .i64 x25_3 ∧ Aside0 (e1_long.l5 kq (l1.length : Int) x7_1 x8_2 x10_2 x24_3 x25_3 = some (r1, r2)) ∧ Aside0 (kq ≤ k2) ∧ Aside0 (Kd.R (Kd.int .u32) 88 w' w.heap.size (fun k_ => (w.heap.size ≤ k_) ∧ some k_ ≠ (v363 : Value).ownBlock ∧ some k_ ≠ (v386 : Value).ownBlock) v354 x8_2) ∧ Aside0 (Kd.R (Kd.int .u32) 88 w' w.heap.size (fun k_ => (w.heap.size ≤ k_) ∧ some k_ ≠ (v354 : Value).ownBlock ∧ some k_ ≠ (v386 : Value).ownBlock) v363 x10_2) ∧ Aside0 (Kd.R (Kd.int .u32) 88 w' w.heap.size (fun k_ => (w.heap.size ≤ k_) ∧ some k_ ≠ (v354 : Value).ownBlock ∧ some k_ ≠ (v363 : Value).ownBlock) v386 x24_3) ∧ Aside0 (Below w.heap.size w w'))
      case atStart => exact ⟨(y385), (0), (by first | rfl | (simp; done) | (simp [*]; done)), H', ⟨Nat.le_refl _⟩, ⟨by (with_reducible repeat (first | apply Kd.R_alloc | apply Kd.R_drewN | apply Kd.R_drew)); exact Kd.R_mono HO_8.out (fun _ hk => ⟨hk.1.1, ⟨hk.1.2.2, hk.2⟩⟩)⟩, ⟨by (with_reducible repeat (first | apply Kd.R_alloc | apply Kd.R_drewN | apply Kd.R_drew)); exact Kd.R_mono HO_10.out (fun _ hk => ⟨hk.1.1, ⟨hk.1.2.1, hk.2⟩⟩)⟩, ⟨by (with_reducible repeat (first | apply Kd.R_alloc | apply Kd.R_drewN | apply Kd.R_drew)); exact Kd.R_mono HO387.out (fun _ hk => ⟨hk.1.1.1.1, ⟨hk.1.1.2, hk.2⟩⟩)⟩, ⟨bq HB.out⟩⟩
      case round =>
       clear H'
       try clear c1
       try clear q1
       try clear c2
       try clear p2
       try clear c3
       try clear p3
       try clear q3
       try clear hx3
       try clear c4
       try clear c4b0
       try clear c5
       try clear c5b0
       try clear p5
       try clear q5
       try clear hx5
       try clear hf5
       try clear c6
       try clear c6b0
       try clear c6b1
       try clear p6
       try clear q6
       try clear hx6
       try clear hf6
       try clear c7
       try clear p7
       try clear q7
       try clear hx7
       try clear hf7
       try clear c8
       try clear c8b0
       try clear p8
       try clear q8
       try clear hx8
       try clear hf8
       try clear c9
       try clear p9
       try clear q9
       try clear hx9
       try clear hf9
       try clear c10
       try clear c11
       try clear c11b0
       try clear c11b1
       try clear c12
       try clear c12b0
       try clear c12b1
       try clear c14
       try clear c14b0
       try clear c14b1
       try clear c15
       try clear c15b0
       try clear c15b1
       try clear q19
       try clear c22
       try clear c22b0
       try clear c24
       try clear c24b0
       try clear c25
       try clear c25b0
       try clear c27
       try clear c27b0
       try clear c28
       try clear c28b0
       try clear c30
       try clear c30b0
       try clear c31
       try clear c31b0
       try clear c32
       try clear c32b0
       try clear c32b1
       try clear p35
       try clear q35
       try clear hx35
       try clear p36
       try clear q36
       try clear hx36
       try clear c37
       try clear c37b0
       try clear p37
       try clear q37
       try clear hx37
       try clear p38
       try clear q38
       try clear hx38
       try clear c40
       try clear c40b0
       try clear c41
       try clear c41b0
       try clear c43
       try clear c43b0
       try clear c44
       try clear c44b0
       try clear c46
       try clear c48
       try clear c48b0
       try clear c49
       try clear c49b0
       try clear c50
       try clear c50b0
       try clear c51
       try clear c51b0
       try clear c52
       try clear c52b0
       try clear c53
       try clear c53b0
       try clear c55
       try clear c55b0
       try clear c56
       try clear c56b0
       try clear c57
       try clear c57b0
       try clear p58
       try clear q58
       try clear hx58
       try clear hf58
       try clear p61
       try clear q61
       try clear hx61
       try clear hf61
       try clear p64
       try clear c65
       try clear c65b0
       try clear c66
       try clear c66b0
       try clear p67
       try clear q67
       try clear hx67
       try clear hf67
       try clear c68
       try clear c68b0
       try clear c71
       try clear c71b0
       try clear c73
       try clear c73b0
       try clear c74
       try clear c74b0
       try clear c75
       try clear c75b0
       try clear c76
       try clear c76b0
       try clear p77
       try clear q77
       try clear hx77
       try clear hf77
       try clear c82
       try clear c82b0
       try clear c83
       try clear c83b0
       try clear p84
       try clear q84
       try clear hx84
       try clear hf84
       try clear c85
       try clear c85b0
       try clear c86
       try clear c86b0
       try clear p87
       try clear q87
       try clear hx87
       try clear hf87
       try clear c92
       try clear c92b0
       try clear c93
       try clear c93b0
       try clear p94
       try clear q94
       try clear hx94
       try clear hf94
       try clear c99
       try clear c99b0
       try clear c99b1
       try clear c100
       try clear c100b0
       try clear c100b1
       try clear hx352_0
       try clear hx365_0
       try clear hx366_0
       try clear hx367_0
       try clear hx368_0
       try clear hx369_0
       try clear hx370_0
       try clear hx371_0
       try clear hx372_0
       try clear hx373_0
       try clear hx376_0
       try clear hx378_0
       try clear hx379_0
       try clear hx381_0
       try clear hx58_0
       try clear hx61_0
       try clear hx67_0
       try clear hx77_0
       try clear hx84_0
       try clear hx87_0
       try clear hx94_0
       try clear p2
       try clear p3
       try clear p35
       try clear p352
       try clear p36
       try clear p365
       try clear p366
       try clear p367
       try clear p368
       try clear p369
       try clear p37
       try clear p370
       try clear p371
       try clear p372
       try clear p373
       try clear p376
       try clear p378
       try clear p379
       try clear p381
       try clear p5
       try clear p58
       try clear p6
       try clear p61
       try clear p64
       try clear p67
       try clear p77
       try clear p84
       try clear p87
       try clear p94
       try clear q1
       try clear q19
       try clear q3
       try clear q35
       try clear q352
       try clear q36
       try clear q365
       try clear q366
       try clear q367
       try clear q368
       try clear q369
       try clear q37
       try clear q370
       try clear q371
       try clear q372
       try clear q373
       try clear q376
       try clear q378
       try clear q379
       try clear q381
       try clear q5
       try clear q58
       try clear q6
       try clear q61
       try clear q67
       try clear q77
       try clear q84
       try clear q87
       try clear q94
       obtain ⟨x24_3, x25_3, rfl, HA, HK3, HO_8, HO_10, HO_24, HB⟩ := hrel
       cases gk with
       | zero => exact absurd HA.out (by simp [e1_long.l5])
       | succ k3 =>
        have H := HA.out
        clear HA
        simp only [e1_long.l5] at H
        by_cases c103 : x25_3 < (l1.length : Int)
        rotate_left
        ·rw [if_neg c103] at H
         have c103b0 := decide_eq_false c103
         clear c103
         replace H := Option.bind_eq_some_iff.mp H
         obtain ⟨t391, A1160, H⟩ := H
         try dsimp only at H
         have A116 := Aside0.mk A1160
         clear A1160
         replace H := Option.bind_eq_some_iff.mp H
         obtain ⟨t394, A1170, H⟩ := H
         try dsimp only at H
         have A117 := Aside0.mk A1170
         clear A1170
         simp only [Option.some.injEq, Prod.mk.injEq] at H
         obtain ⟨rfl, rfl⟩ := H
         obtain ⟨Ao118, co118, eo118⟩ := Kd.R_slice HO_10.out
         subst eo118
         go_wp2_with (first | ((with_reducible refine gate_callee (f := 68) rfl ?_); refine goesq (some 270) Tryd.func68 #[.slice Ao118 x10_2.length co118] ?_; (with_reducible refine (e1_strip.calls k3 (fun k_ => some k_ = (.slice Ao118 x10_2.length co118 : Value).ownBlock) _ _ x10_2 t391 _ ?side1 A116.out).mono ?_); (case side1 => exact Kd.R_V (Kd.R_tight rfl (HO_10.out))); rintro e w119 ⟨v392, rfl, ho0, hb⟩; refine ⟨_, rfl, ?_⟩; have HO393 := am (Kd.V_lower (Kd.V_mono (ok' := fun k_ => (w.heap.size ≤ k_) ∧ some k_ ≠ (v354 : Value).ownBlock ∧ some k_ ≠ (v386 : Value).ownBlock) ho0 (fun k_ hk_ => ⟨Or.elim hk_ (fun hs_ => ((HO_10.out).1 k_ hs_.symm).1) (fun hn_ => (Nat.le_trans (below_size (bq HB.out)) hn_)), Or.elim hk_ (fun hs_ => ((HO_10.out).1 k_ hs_.symm).2.1) (fun hn_ => (Kd.fresh' (Kd.R_lt (Kd.rq HO_8.out)) k_ hn_)), Or.elim hk_ (fun hs_ => ((HO_10.out).1 k_ hs_.symm).2.2) (fun hn_ => (Kd.fresh' (Kd.R_lt (Kd.rq HO_24.out)) k_ hn_))⟩)) (below_size (bq HB.out))); replace HO_8 := am (Kd.R_below (Kd.rq HO_8.out) hb); replace HO_10 := am (Kd.R_below (Kd.rq HO_10.out) hb); replace HO_24 := am (Kd.R_below (Kd.rq HO_24.out) hb); replace HB := am (below_step (bq HB.out) hb); (try clear hb); (try clear ho0); obtain ⟨Ao120, co120, eo120⟩ := Kd.R_slice HO_24.out; subst eo120) | ((with_reducible refine gate_callee (f := 68) rfl ?_); refine goesq (some 272) Tryd.func68 #[.slice Ao120 x24_3.length co120] ?_; (with_reducible refine (e1_strip.calls k3 (fun k_ => some k_ = (.slice Ao120 x24_3.length co120 : Value).ownBlock) _ _ x24_3 t394 _ ?side1 A117.out).mono ?_); (case side1 => exact Kd.R_V (Kd.R_tight rfl (HO_24.out))); rintro e w121 ⟨v395, rfl, ho0, hb⟩; refine ⟨_, rfl, ?_⟩; replace HO393 := am (Kd.V_below (Kd.vq HO393.out) hb); have HO396 := am (Kd.V_lower (Kd.V_mono (ok' := fun k_ => (w.heap.size ≤ k_) ∧ some k_ ≠ (v354 : Value).ownBlock ∧ some k_ ≠ (.slice Ao118 x10_2.length co118 : Value).ownBlock) ho0 (fun k_ hk_ => ⟨Or.elim hk_ (fun hs_ => ((HO_24.out).1 k_ hs_.symm).1) (fun hn_ => (Nat.le_trans (below_size (bq HB.out)) hn_)), Or.elim hk_ (fun hs_ => ((HO_24.out).1 k_ hs_.symm).2.1) (fun hn_ => (Kd.fresh' (Kd.R_lt (Kd.rq HO_8.out)) k_ hn_)), Or.elim hk_ (fun hs_ => ((HO_24.out).1 k_ hs_.symm).2.2) (fun hn_ => (Kd.fresh' (Kd.R_lt (Kd.rq HO_10.out)) k_ hn_))⟩)) (below_size (bq HB.out))); replace HO_8 := am (Kd.R_below (Kd.rq HO_8.out) hb); replace HO_10 := am (Kd.R_below (Kd.rq HO_10.out) hb); replace HO_24 := am (Kd.R_below (Kd.rq HO_24.out) hb); replace HB := am (below_step (bq HB.out) hb); (try clear hb); (try clear ho0)))
         go_ret2
         exact ⟨_, _, by first | rfl | (simp [errW_none, errW_some] <;> rfl) | (simp only [← hji3, ← hji7, ← hji13]; first | rfl | (simp [errW_none, errW_some] <;> rfl)) | (simp [*, errW_none, errW_some] <;> rfl), by (with_reducible repeat (first | apply Kd.V_alloc | apply Kd.V_drewN | apply Kd.V_drew)); exact Kd.V_mono HO393.out (fun _ hk => hk.1), by (with_reducible repeat (first | apply Kd.V_alloc | apply Kd.V_drewN | apply Kd.V_drew)); exact Kd.V_mono HO396.out (fun _ hk => hk.1), bq HB.out⟩
        rw [if_pos c103] at H
        have c103b0 := decide_eq_true c103
        clear c103
        obtain ⟨ji104, hji104⟩ : ∃ j_ : Int, (wrap64 (x25_3 + 1)) = j_ := ⟨_, rfl⟩
        replace H : (if 0 ≤ (ji104) then (if (ji104) < (x8_2.length : Int) then (if 0 ≤ x25_3 then (if x25_3 < (x8_2.length : Int) then (if 0 ≤ x7_1 then (if x25_3 < (x24_3.length : Int) then (e1_long.l5 k3 (l1.length : Int) x7_1 x8_2 x10_2 (x24_3.set (x25_3 : Int).toNat ((shr .u64 (Go.bits .or .u64 (IntKind.u64.wrap ((IntKind.u64.wrap (rd x8_2 (ji104))) * 4294967296)) (IntKind.u64.wrap (rd x8_2 x25_3))) x7_1) % 4294967296)) ji104) else (none)) else (none)) else (none)) else (none)) else (none)) else (none)) = some (r1, r2) := by first | (rw [hji104] at H; exact H) | (simp only [hji104] at H ⊢; exact H)
        have hji104w : (IntKind.i64.wrap (x25_3 + 1)) = ji104 := (i64_w _).trans hji104
        by_cases c105 : 0 ≤ (ji104)
        rotate_left
        ·rw [if_neg c105] at H
         exact absurd H (by simp)
        rw [if_pos c105] at H
        have c105b0 := decide_eq_true c105
        clear c105
        by_cases c106 : (ji104) < (x8_2.length : Int)
        rotate_left
        ·rw [if_neg c106] at H
         exact absurd H (by simp)
        rw [if_pos c106] at H
        have c106b0 := decide_eq_true c106
        clear c106
        by_cases c107 : 0 ≤ x25_3
        rotate_left
        ·rw [if_neg c107] at H
         exact absurd H (by simp)
        rw [if_pos c107] at H
        have c107b0 := decide_eq_true c107
        clear c107
        by_cases c108 : x25_3 < (x8_2.length : Int)
        rotate_left
        ·rw [if_neg c108] at H
         exact absurd H (by simp)
        rw [if_pos c108] at H
        have c108b0 := decide_eq_true c108
        clear c108
        by_cases c109 : 0 ≤ x7_1
        rotate_left
        ·rw [if_neg c109] at H
         exact absurd H (by simp)
        rw [if_pos c109] at H
        have c109b0 := eq_true c109
        have c109b1 := decide_eq_true c109
        clear c109
        obtain ⟨ji110, hji110⟩ : ∃ j_ : Int, (shr .u64 (Go.bits .or .u64 (IntKind.u64.wrap ((IntKind.u64.wrap (rd x8_2 (ji104))) * 4294967296)) (IntKind.u64.wrap (rd x8_2 x25_3))) x7_1) = j_ := ⟨_, rfl⟩
        replace H : (if x25_3 < (x24_3.length : Int) then (e1_long.l5 k3 (l1.length : Int) x7_1 x8_2 x10_2 (x24_3.set (x25_3 : Int).toNat ((ji110) % 4294967296)) ji104) else (none)) = some (r1, r2) := by first | (rw [hji110] at H; exact H) | (simp only [hji110] at H ⊢; exact H)
        have hji110_ : ((Go.bits .or .u64 (IntKind.u64.wrap ((IntKind.u64.wrap (rd x8_2 (ji104))) * 4294967296)) (IntKind.u64.wrap (rd x8_2 x25_3))) / 2 ^ min x7_1.toNat 64) = ji110 := hji110
        have hji110z : x7_1 ≤ 64 → ((Go.bits .or .u64 (IntKind.u64.wrap ((IntKind.u64.wrap (rd x8_2 (ji104))) * 4294967296)) (IntKind.u64.wrap (rd x8_2 x25_3))) / 2 ^ x7_1.toNat) = ji110 := shr_small hji110
        by_cases c111 : x25_3 < (x24_3.length : Int)
        rotate_left
        ·rw [if_neg c111] at H
         exact absurd H (by simp)
        rw [if_pos c111] at H
        have c111b0 := decide_eq_true c111
        clear c111
        obtain ⟨y390, hy390⟩ : ∃ y_ : List Int, y_ = (x24_3.set (x25_3 : Int).toNat ((ji110) % 4294967296)) := ⟨_, rfl⟩
        replace H : (e1_long.l5 k3 (l1.length : Int) x7_1 x8_2 x10_2 y390 ji104) = some (r1, r2) := by first | (rw [hy390]; with_reducible exact H) | (have H2_ := (Option.bind_some _ _).symm.trans H; rw [hy390]; with_reducible exact H2_) | (have H2_ := (Option.bind_some _ _).symm.trans H; with_reducible exact H2_) | with_reducible exact H | (rw [hy390]; exact H) | exact H
        have Ny390 := Aside0.mk hy390
        clear hy390
        have H' := Aside0.mk H
        clear H
        try go_wp2
        have n0_ := Aside0.mk (Kd.R_drew HO_8.out)
        have n1_ := Aside0.mk (Kd.R_drew HO_10.out)
        have n2_ := Aside0.mk (Kd.R_drew HO_24.out)
        have n3_ := Aside0.mk (below_drew1 HB.out)
        clear HO_8
        clear HO_10
        clear HO_24
        clear HB
        have HO_8 := n0_
        have HO_10 := n1_
        have HO_24 := n2_
        have HB := n3_
        clear n0_ n1_ n2_ n3_
        obtain ⟨Ao114, co114, eo114⟩ := Kd.R_slice HO_8.out
        (first | subst eo114 | (injection eo114 with f1_ f2_ f3_; have f4_ := f1_.symm; have f5_ := f3_.symm; clear f1_ f2_ f3_; subst f4_; subst f5_))
        have p388 : 0 ≤ ((ji104) : Int) := odt
        have q388 : (ji104) < (x8_2.length : Int) := odt
        obtain ⟨ad388, e388, hx388_0⟩ := Kd.at_int (Kd.R_reads' HO_8.out).2.2 (ji104) p388 q388
        cases e388
        replace p388 := eq_true p388
        replace q388 := eq_true q388
        have p389 : 0 ≤ (x25_3 : Int) := odt
        have q389 : x25_3 < (x8_2.length : Int) := odt
        obtain ⟨ad389, e389, hx389_0⟩ := Kd.at_int (Kd.R_reads' HO_8.out).2.2 x25_3 p389 q389
        obtain rfl : ad388 = ad389 := (by injection e389)
        replace p389 := eq_true p389
        replace q389 := eq_true q389
        have p112 : 0 ≤ (x25_3 : Int) := odt
        have q112 : (x25_3 : Int) < ((x24_3.length : Int) : Int) := odt
        obtain ⟨go112, co112, eo112, gb112, gl112, cl112, HG112⟩ := Kd.R_form HO_24.out (by omega)
        (first | cases eo112 | (injection eo112 with ea_ en_ ec_; (first | subst ea_ | (injection ea_ with ea_; subst ea_)); subst ec_; clear en_))
        have GB112 := Aside0.mk gb112
        have GG112 := Aside0.mk HG112
        clear gb112 gl112 HG112
        obtain ⟨hx112_0, hf112_0⟩ := Kd.R_celln 0 HO_24.out (x25_3 : Int) p112 q112
        replace p112 := eq_true p112
        replace q112 := eq_true q112
        have HP115 := Kd.R_putn HO_24.out (x25_3 : Int) ((ji110) % 4294967296)
        rw [← Ny390.out] at HP115
        have HQ115 := Aside0.mk HP115
        clear HP115
        refine start_ (n := 20) (S := fun w' => w'.cell? (ad388.add ((ji104)).toNat) = some (.int .u32 (rd x8_2 (ji104))) ∧ w'.cell? (ad388.add (x25_3).toNat) = some (.int .u32 (rd x8_2 x25_3))) (ds := [19]) #[false, false, false, false, false, false, false, false, false, false, false, false, false, false, false, false, false, false, false, false] (by kernel_rfl) rfl rfl ⟨hx388_0, hx389_0⟩ (fun hHeld => ?_); refine with_tabW e1_long.tab51 e1_long.bits51 (fun HT_ HW_ => ?_)
        generalize wr.drew = w113 at HO_8 HO_10 HO_24 HB GG112 HQ115 hf112_0 hx112_0 hx388_0 hx389_0 hHeld ⊢
        refine pure_ (i := 0) (N := some 250) (v := ?_) (a' := ?_) #[true, false, false, false, false, false, false, false, false, false, false, false, false, false, false, false, false, false, false, false] rfl rfl (any_of HT_.out (by kernel_rfl)) (fun _ _ _ h => h) (Or.inl ⟨by rfl, ?_⟩) ?_ ?_
        rotate_left
        ·intro w'
         go_simp
         with_reducible rfl
        rotate_left
        ·simp only [Act.put, List.setIfInBounds_toArray, List.set_cons_zero, List.set_cons_succ, i64_w, i32_w]
         rfl
        refine pure_ (i := 1) (N := some 251) (v := ?_) (a' := ?_) #[true, true, false, false, false, false, false, false, false, false, false, false, false, false, false, false, false, false, false, false] rfl rfl (any_of HT_.out (by kernel_rfl)) (fun _ _ _ h => h) (Or.inl ⟨by rfl, ?_⟩) ?_ ?_
        rotate_left
        ·intro w'
         go_simp
         with_reducible rfl
        rotate_left
        ·simp only [Act.put, List.setIfInBounds_toArray, List.set_cons_zero, List.set_cons_succ, i64_w, i32_w]
         rfl
        refine pure_ (i := 2) (N := some 252) (v := ?_) (a' := ?_) #[true, true, true, false, false, false, false, false, false, false, false, false, false, false, false, false, false, false, false, false] rfl rfl (any_of HT_.out (by kernel_rfl)) (fun _ _ _ h => h) (Or.inl ⟨by rfl, ?_⟩) ?_ ?_
        rotate_left
        ·intro w'
         go_simp
         with_reducible rfl
        rotate_left
        ·simp only [Act.put, List.setIfInBounds_toArray, List.set_cons_zero, List.set_cons_succ, i64_w, i32_w]
         rfl
        refine pure_ (i := 3) (N := some 253) (v := ?_) (a' := ?_) #[true, true, true, true, false, false, false, false, false, false, false, false, false, false, false, false, false, false, false, false] rfl rfl (any_of HT_.out (by kernel_rfl)) (fun _ _ _ h => h) (Or.inl ⟨by rfl, ?_⟩) ?_ ?_
        rotate_left
        ·intro w'
         go_simp
         with_reducible rfl
        rotate_left
        ·simp only [Act.put, List.setIfInBounds_toArray, List.set_cons_zero, List.set_cons_succ, i64_w, i32_w]
         rfl
        refine pure_ (i := 4) (N := some 254) (v := ?_) (a' := ?_) #[true, true, true, true, true, false, false, false, false, false, false, false, false, false, false, false, false, false, false, false] rfl rfl (any_of HT_.out (by kernel_rfl)) (fun _ _ _ h => h) (Or.inl ⟨by rfl, ?_⟩) ?_ ?_
        rotate_left
        ·intro w'
         go_simp
         with_reducible rfl
        rotate_left
        ·simp only [Act.put, List.setIfInBounds_toArray, List.set_cons_zero, List.set_cons_succ, i64_w, i32_w]
         rfl
        refine pure_ (i := 5) (N := some 255) (v := ?_) (a' := ?_) #[true, true, true, true, true, true, false, false, false, false, false, false, false, false, false, false, false, false, false, false] rfl rfl (any_of HT_.out (by kernel_rfl)) (fun _ _ _ h => h) (Or.inl ⟨by rfl, ?_⟩) ?_ ?_
        rotate_left
        ·intro w'
         go_simp
         with_reducible rfl
        rotate_left
        ·simp only [Act.put, List.setIfInBounds_toArray, List.set_cons_zero, List.set_cons_succ, i64_w, i32_w]
         rfl
        refine pure_ (i := 9) (N := some 259) (v := ?_) (a' := ?_) #[true, true, true, true, true, true, false, false, false, true, false, false, false, false, false, false, false, false, false, false] rfl rfl (any_of HT_.out (by kernel_rfl)) (fun _ _ _ h => h) (Or.inl ⟨by rfl, ?_⟩) ?_ ?_
        rotate_left
        ·intro w'
         go_simp
         with_reducible rfl
        rotate_left
        ·simp only [Act.put, List.setIfInBounds_toArray, List.set_cons_zero, List.set_cons_succ, i64_w, i32_w]
         rfl
        refine pure_ (i := 10) (N := some 260) (v := ?_) (a' := ?_) #[true, true, true, true, true, true, false, false, false, true, true, false, false, false, false, false, false, false, false, false] rfl rfl (any_of HT_.out (by kernel_rfl)) (fun _ _ _ h => h) (Or.inl ⟨by rfl, ?_⟩) ?_ ?_
        rotate_left
        ·intro w'
         go_simp
         with_reducible rfl
        rotate_left
        ·simp only [Act.put, List.setIfInBounds_toArray, List.set_cons_zero, List.set_cons_succ, i64_w, i32_w]
         rfl
        refine pure_ (i := 11) (N := some 261) (v := ?_) (a' := ?_) #[true, true, true, true, true, true, false, false, false, true, true, true, false, false, false, false, false, false, false, false] rfl rfl (any_of HT_.out (by kernel_rfl)) (fun _ _ _ h => h) (Or.inl ⟨by rfl, ?_⟩) ?_ ?_
        rotate_left
        ·intro w'
         go_simp
         with_reducible rfl
        rotate_left
        ·simp only [Act.put, List.setIfInBounds_toArray, List.set_cons_zero, List.set_cons_succ, i64_w, i32_w]
         rfl
        refine pure_ (i := 15) (N := some 265) (v := ?_) (a' := ?_) #[true, true, true, true, true, true, false, false, false, true, true, true, false, false, false, true, false, false, false, false] rfl rfl (any_of HT_.out (by kernel_rfl)) (fun _ _ _ h => h) (Or.inl ⟨by rfl, ?_⟩) ?_ ?_
        rotate_left
        ·intro w'
         go_simp
         with_reducible rfl
        rotate_left
        ·simp only [Act.put, List.setIfInBounds_toArray, List.set_cons_zero, List.set_cons_succ, i64_w, i32_w]
         rfl
        refine take_ (i := 6) (N := some 256) (v := ?_) (a' := ?_) #[true, true, true, true, true, true, true, false, false, true, true, true, false, false, false, true, false, false, false, false] rfl rfl (take_ofW HT_.out HW_.out (by kernel_rfl)) (fun _ _ _ h => h) (Or.inl ⟨by rfl, ?_⟩) hHeld ?_ ?_
        rotate_left
        ·rintro w' ⟨s0, s1⟩
         go_simp
         with_reducible rfl
        rotate_left
        ·simp only [Act.put, List.setIfInBounds_toArray, List.set_cons_zero, List.set_cons_succ, i64_w, i32_w]
         rfl
        refine pure_ (i := 7) (N := some 257) (v := ?_) (a' := ?_) #[true, true, true, true, true, true, true, true, false, true, true, true, false, false, false, true, false, false, false, false] rfl rfl (any_of HT_.out (by kernel_rfl)) (fun _ _ _ h => h) (Or.inl ⟨by rfl, ?_⟩) ?_ ?_
        rotate_left
        ·intro w'
         go_simp
         with_reducible rfl
        rotate_left
        ·simp only [Act.put, List.setIfInBounds_toArray, List.set_cons_zero, List.set_cons_succ, i64_w, i32_w]
         rfl
        refine pure_ (i := 8) (N := some 258) (v := ?_) (a' := ?_) #[true, true, true, true, true, true, true, true, true, true, true, true, false, false, false, true, false, false, false, false] rfl rfl (any_of HT_.out (by kernel_rfl)) (fun _ _ _ h => h) (Or.inl ⟨by rfl, ?_⟩) ?_ ?_
        rotate_left
        ·intro w'
         go_simp
         with_reducible rfl
        rotate_left
        ·simp only [Act.put, List.setIfInBounds_toArray, List.set_cons_zero, List.set_cons_succ, i64_w, i32_w]
         rfl
        refine take_ (i := 12) (N := some 262) (v := ?_) (a' := ?_) #[true, true, true, true, true, true, true, true, true, true, true, true, true, false, false, true, false, false, false, false] rfl rfl (take_ofW HT_.out HW_.out (by kernel_rfl)) (fun _ _ _ h => h) (Or.inl ⟨by rfl, ?_⟩) hHeld ?_ ?_
        rotate_left
        ·rintro w' ⟨s0, s1⟩
         go_simp
         with_reducible rfl
        rotate_left
        ·simp only [Act.put, List.setIfInBounds_toArray, List.set_cons_zero, List.set_cons_succ, i64_w, i32_w]
         rfl
        refine pure_ (i := 13) (N := some 263) (v := ?_) (a' := ?_) #[true, true, true, true, true, true, true, true, true, true, true, true, true, true, false, true, false, false, false, false] rfl rfl (any_of HT_.out (by kernel_rfl)) (fun _ _ _ h => h) (Or.inl ⟨by rfl, ?_⟩) ?_ ?_
        rotate_left
        ·intro w'
         go_simp
         with_reducible rfl
        rotate_left
        ·simp only [Act.put, List.setIfInBounds_toArray, List.set_cons_zero, List.set_cons_succ, i64_w, i32_w]
         rfl
        refine pure_ (i := 14) (N := some 264) (v := ?_) (a' := ?_) #[true, true, true, true, true, true, true, true, true, true, true, true, true, true, true, true, false, false, false, false] rfl rfl (any_of HT_.out (by kernel_rfl)) (fun _ _ _ h => h) (Or.inl ⟨by rfl, ?_⟩) ?_ ?_
        rotate_left
        ·intro w'
         go_simp
         with_reducible rfl
        rotate_left
        ·simp only [Act.put, List.setIfInBounds_toArray, List.set_cons_zero, List.set_cons_succ, i64_w, i32_w]
         rfl
        refine pure_ (i := 16) (N := some 266) (v := ?_) (a' := ?_) #[true, true, true, true, true, true, true, true, true, true, true, true, true, true, true, true, true, false, false, false] rfl rfl (any_of HT_.out (by kernel_rfl)) (fun _ _ _ h => h) (Or.inl ⟨by rfl, ?_⟩) ?_ ?_
        rotate_left
        ·intro w'
         go_simp
         with_reducible rfl
        rotate_left
        ·simp only [Act.put, List.setIfInBounds_toArray, List.set_cons_zero, List.set_cons_succ, i64_w, i32_w]
         rfl
        refine pure_ (i := 17) (N := some 267) (v := ?_) (a' := ?_) #[true, true, true, true, true, true, true, true, true, true, true, true, true, true, true, true, true, true, false, false] rfl rfl (any_of HT_.out (by kernel_rfl)) (fun _ _ _ h => h) (Or.inl ⟨by rfl, ?_⟩) ?_ ?_
        rotate_left
        ·intro w'
         go_simp
         with_reducible rfl
        rotate_left
        ·simp only [Act.put, List.setIfInBounds_toArray, List.set_cons_zero, List.set_cons_succ, i64_w, i32_w]
         rfl
        refine pure_ (i := 18) (N := some 268) (v := ?_) (a' := ?_) #[true, true, true, true, true, true, true, true, true, true, true, true, true, true, true, true, true, true, true, false] rfl rfl (any_of HT_.out (by kernel_rfl)) (fun _ _ _ h => h) (Or.inl ⟨by rfl, ?_⟩) ?_ ?_
        rotate_left
        ·intro w'
         go_simp
         with_reducible rfl
        rotate_left
        ·simp only [Act.put, List.setIfInBounds_toArray, List.set_cons_zero, List.set_cons_succ, i64_w, i32_w]
         rfl
        refine last_ (i := 19) (N := none) #[true, true, true, true, true, true, true, true, true, true, true, true, true, true, true, true, true, true, true, true] rfl rfl (one_of HT_.out (by kernel_rfl)) (by decide) (fun K hK => ?_)
        refine skip_ (w1 := ?_) (by rfl) rfl ?_ ?_
        rotate_left
        ·go_simp
         rfl
        refine hK.out _ _ ?_
        clear hK K
        refine done_ (done_of HT_.out (by kernel_rfl)) ?_
        try go_wp2
        go_roundg k3
        case measure => have := HK1.out; have := HK2.out; have := HK3.out; omega
        case rel => exact ⟨(y390), (ji104), (by first | rfl | (simp; done) | (simp only [← hji104] <;> (first | rfl | simp)) | (simp [*]; done)), H', ⟨by have := HK1.out; have := HK2.out; have := HK3.out; omega⟩, ⟨by (with_reducible repeat (first | apply Kd.R_alloc | apply Kd.R_drewN | apply Kd.R_drew)); exact Kd.R_mono (Kd.R_far (p := ⟨go112, (x25_3 : Int).toNat, none⟩) (Kd.R_mono HO_8.out (fun k_ hk => (⟨hk, fun e_ => hk.2.2 (by rw [e_]; rfl)⟩ : _ ∧ k_ ≠ go112))) (fun _ hk => hk.2) (.int .u32 ((ji110) % 4294967296))) (fun _ hk => ⟨hk.1.1, ⟨hk.1.2.1, hk.1.2.2⟩⟩)⟩, ⟨by (with_reducible repeat (first | apply Kd.R_alloc | apply Kd.R_drewN | apply Kd.R_drew)); exact Kd.R_mono (Kd.R_far (p := ⟨go112, (x25_3 : Int).toNat, none⟩) (Kd.R_mono HO_10.out (fun k_ hk => (⟨hk, fun e_ => hk.2.2 (by rw [e_]; rfl)⟩ : _ ∧ k_ ≠ go112))) (fun _ hk => hk.2) (.int .u32 ((ji110) % 4294967296))) (fun _ hk => ⟨hk.1.1, ⟨hk.1.2.1, hk.1.2.2⟩⟩)⟩, ⟨by (with_reducible repeat (first | apply Kd.R_alloc | apply Kd.R_drewN | apply Kd.R_drew)); first | exact HQ115.out | (simp only [hji7m]; exact HQ115.out)⟩, ⟨by repeat (first | (with_reducible first | exact HB.out | apply below_alloc | apply pw_below_drewN | apply below_drew1 | refine below_set ?_ GB112.out) | exact HB.out)⟩⟩
     rw [if_pos c22] at H
     have c22b0 : decide (0 ≤ x11_2) = true := decide_eq_true c22
     clear c22
     obtain ⟨ji23, hji23⟩ : ∃ j_ : Int, (wrap64 (x11_2 + (l1.length : Int))) = j_ := ⟨_, rfl⟩
     replace H : (if 0 ≤ (ji23) then (if (ji23) < (x8_2.length : Int) then (if 0 ≤ (wrap64 ((ji23) - 1)) then (if (wrap64 ((ji23) - 1)) < (x8_2.length : Int) then (if 0 ≤ (wrap64 ((l1.length : Int) - 1)) then (if (wrap64 ((l1.length : Int) - 1)) < (y359.length : Int) then (if (IntKind.u64.wrap (rd y359 (wrap64 ((l1.length : Int) - 1)))) = 0 then (none) else (e1_long.l2 k2 (l1.length : Int) x7_1 x8_2 y359 x10_2 x11_2 (IntKind.u64.wrap (Int.tdiv (Go.bits .or .u64 (IntKind.u64.wrap ((IntKind.u64.wrap (rd x8_2 (ji23))) * 4294967296)) (IntKind.u64.wrap (rd x8_2 (wrap64 ((ji23) - 1))))) (IntKind.u64.wrap (rd y359 (wrap64 ((l1.length : Int) - 1)))))) (Int.tmod (Go.bits .or .u64 (IntKind.u64.wrap ((IntKind.u64.wrap (rd x8_2 (ji23))) * 4294967296)) (IntKind.u64.wrap (rd x8_2 (wrap64 ((ji23) - 1))))) (IntKind.u64.wrap (rd y359 (wrap64 ((l1.length : Int) - 1))))))) else (none)) else (none)) else (none)) else (none)) else (none)) else (none)) = some (r1, r2) := by first | (rw [hji23] at H; exact H) | (simp only [hji23] at H ⊢; exact H)
     have hji23w : (IntKind.i64.wrap (x11_2 + (l1.length : Int))) = ji23 := (i64_w _).trans hji23
     by_cases c24 : 0 ≤ (ji23)
     rotate_left
     ·rw [if_neg c24] at H
      exact absurd H (by simp)
     rw [if_pos c24] at H
     have c24b0 := decide_eq_true c24
     clear c24
     by_cases c25 : (ji23) < (x8_2.length : Int)
     rotate_left
     ·rw [if_neg c25] at H
      exact absurd H (by simp)
     rw [if_pos c25] at H
     have c25b0 := decide_eq_true c25
     clear c25
     obtain ⟨ji26, hji26⟩ : ∃ j_ : Int, (wrap64 ((ji23) - 1)) = j_ := ⟨_, rfl⟩
     replace H : (if 0 ≤ (ji26) then (if (ji26) < (x8_2.length : Int) then (if 0 ≤ (wrap64 ((l1.length : Int) - 1)) then (if (wrap64 ((l1.length : Int) - 1)) < (y359.length : Int) then (if (IntKind.u64.wrap (rd y359 (wrap64 ((l1.length : Int) - 1)))) = 0 then (none) else (e1_long.l2 k2 (l1.length : Int) x7_1 x8_2 y359 x10_2 x11_2 (IntKind.u64.wrap (Int.tdiv (Go.bits .or .u64 (IntKind.u64.wrap ((IntKind.u64.wrap (rd x8_2 (ji23))) * 4294967296)) (IntKind.u64.wrap (rd x8_2 (ji26)))) (IntKind.u64.wrap (rd y359 (wrap64 ((l1.length : Int) - 1)))))) (Int.tmod (Go.bits .or .u64 (IntKind.u64.wrap ((IntKind.u64.wrap (rd x8_2 (ji23))) * 4294967296)) (IntKind.u64.wrap (rd x8_2 (ji26)))) (IntKind.u64.wrap (rd y359 (wrap64 ((l1.length : Int) - 1))))))) else (none)) else (none)) else (none)) else (none)) = some (r1, r2) := by first | (rw [hji26] at H; exact H) | (simp only [hji26] at H ⊢; exact H)
     have hji26w : (IntKind.i64.wrap ((ji23) - 1)) = ji26 := (i64_w _).trans hji26
     by_cases c27 : 0 ≤ (ji26)
     rotate_left
     ·rw [if_neg c27] at H
      exact absurd H (by simp)
     rw [if_pos c27] at H
     have c27b0 := decide_eq_true c27
     clear c27
     by_cases c28 : (ji26) < (x8_2.length : Int)
     rotate_left
     ·rw [if_neg c28] at H
      exact absurd H (by simp)
     rw [if_pos c28] at H
     have c28b0 := decide_eq_true c28
     clear c28
     have hji29 := hji3
     replace H : (if 0 ≤ (ji3) then (if (ji3) < (y359.length : Int) then (if (IntKind.u64.wrap (rd y359 (ji3))) = 0 then (none) else (e1_long.l2 k2 (l1.length : Int) x7_1 x8_2 y359 x10_2 x11_2 (IntKind.u64.wrap (Int.tdiv (Go.bits .or .u64 (IntKind.u64.wrap ((IntKind.u64.wrap (rd x8_2 (ji23))) * 4294967296)) (IntKind.u64.wrap (rd x8_2 (ji26)))) (IntKind.u64.wrap (rd y359 (ji3))))) (Int.tmod (Go.bits .or .u64 (IntKind.u64.wrap ((IntKind.u64.wrap (rd x8_2 (ji23))) * 4294967296)) (IntKind.u64.wrap (rd x8_2 (ji26)))) (IntKind.u64.wrap (rd y359 (ji3)))))) else (none)) else (none)) = some (r1, r2) := by first | (rw [hji29] at H; exact H) | (simp only [hji29] at H ⊢; exact H)
     have hji29w : (IntKind.i64.wrap ((l1.length : Int) - 1)) = ji3 := (i64_w _).trans hji29
     by_cases c30 : 0 ≤ (ji3)
     rotate_left
     ·rw [if_neg c30] at H
      exact absurd H (by simp)
     rw [if_pos c30] at H
     have c30b0 := decide_eq_true c30
     clear c30
     by_cases c31 : (ji3) < (y359.length : Int)
     rotate_left
     ·rw [if_neg c31] at H
      exact absurd H (by simp)
     rw [if_pos c31] at H
     have c31b0 := decide_eq_true c31
     clear c31
     by_cases c32 : (IntKind.u64.wrap (rd y359 (ji3))) = 0
     ·rw [if_pos c32] at H
      exact absurd H (by simp)
     rw [if_neg c32] at H
     have c32b0 : ((IntKind.u64.wrap (rd y359 (ji3))) == 0) = false := beq_eq_false_iff_ne.mpr c32
     have c32b1 : ((IntKind.u64.wrap (rd y359 (ji3))) != 0) = true := bne_iff_ne.mpr c32
     have HC33 := Aside0.mk H
     clear H
     try go_wp2
     have n0_ := Aside0.mk (Kd.R_drew HO_8.out)
     have n1_ := Aside0.mk (Kd.R_drew HO_9.out)
     have n2_ := Aside0.mk (Kd.R_drew HO_10.out)
     have n3_ := Aside0.mk (below_drew1 HB.out)
     clear HO_8
     clear HO_9
     clear HO_10
     clear HB
     have HO_8 := n0_
     have HO_9 := n1_
     have HO_10 := n2_
     have HB := n3_
     clear n0_ n1_ n2_ n3_
     obtain ⟨Ao35, co35, eo35⟩ := Kd.R_slice HO_8.out
     (first | subst eo35 | (injection eo35 with f1_ f2_ f3_; have f4_ := f1_.symm; have f5_ := f3_.symm; clear f1_ f2_ f3_; subst f4_; subst f5_))
     have p365 : 0 ≤ ((ji23) : Int) := odt
     have q365 : (ji23) < (x8_2.length : Int) := odt
     obtain ⟨ad365, e365, hx365_0⟩ := Kd.at_int (Kd.R_reads' HO_8.out).2.2 (ji23) p365 q365
     cases e365
     replace p365 := eq_true p365
     replace q365 := eq_true q365
     have p366 : 0 ≤ ((ji26) : Int) := odt
     have q366 : (ji26) < (x8_2.length : Int) := odt
     obtain ⟨ad366, e366, hx366_0⟩ := Kd.at_int (Kd.R_reads' HO_8.out).2.2 (ji26) p366 q366
     obtain rfl : ad365 = ad366 := (by injection e366)
     replace p366 := eq_true p366
     replace q366 := eq_true q366
     refine start_ (n := 18) (S := fun w' => w'.cell? (ad365.add ((ji23)).toNat) = some (.int .u32 (rd x8_2 (ji23))) ∧ w'.cell? (ad365.add ((ji26)).toNat) = some (.int .u32 (rd x8_2 (ji26)))) (ds := []) #[false, false, false, false, false, false, false, false, false, false, false, false, false, false, false, false, false, false] (by kernel_rfl) rfl rfl ⟨hx365_0, hx366_0⟩ (fun hHeld => ?_); refine with_tabW e1_long.tab11 e1_long.bits11 (fun HT_ HW_ => ?_)
     generalize wr.drew = w34 at HO_8 HO_9 HO_10 HB hx365_0 hx366_0 hHeld ⊢
     refine pure_ (i := 0) (N := some 60) (v := ?_) (a' := ?_) #[true, false, false, false, false, false, false, false, false, false, false, false, false, false, false, false, false, false] rfl rfl (any_of HT_.out (by kernel_rfl)) (fun _ _ _ h => h) (Or.inl ⟨by rfl, ?_⟩) ?_ ?_
     rotate_left
     ·intro w'
      go_simp
      with_reducible rfl
     rotate_left
     ·simp only [Act.put, List.setIfInBounds_toArray, List.set_cons_zero, List.set_cons_succ, i64_w, i32_w]
      rfl
     refine pure_ (i := 1) (N := some 61) (v := ?_) (a' := ?_) #[true, true, false, false, false, false, false, false, false, false, false, false, false, false, false, false, false, false] rfl rfl (any_of HT_.out (by kernel_rfl)) (fun _ _ _ h => h) (Or.inl ⟨by rfl, ?_⟩) ?_ ?_
     rotate_left
     ·intro w'
      go_simp
      with_reducible rfl
     rotate_left
     ·simp only [Act.put, List.setIfInBounds_toArray, List.set_cons_zero, List.set_cons_succ, i64_w, i32_w]
      rfl
     refine pure_ (i := 2) (N := some 62) (v := ?_) (a' := ?_) #[true, true, true, false, false, false, false, false, false, false, false, false, false, false, false, false, false, false] rfl rfl (any_of HT_.out (by kernel_rfl)) (fun _ _ _ h => h) (Or.inl ⟨by rfl, ?_⟩) ?_ ?_
     rotate_left
     ·intro w'
      go_simp
      with_reducible rfl
     rotate_left
     ·simp only [Act.put, List.setIfInBounds_toArray, List.set_cons_zero, List.set_cons_succ, i64_w, i32_w]
      rfl
     refine pure_ (i := 3) (N := some 63) (v := ?_) (a' := ?_) #[true, true, true, true, false, false, false, false, false, false, false, false, false, false, false, false, false, false] rfl rfl (any_of HT_.out (by kernel_rfl)) (fun _ _ _ h => h) (Or.inl ⟨by rfl, ?_⟩) ?_ ?_
     rotate_left
     ·intro w'
      go_simp
      with_reducible rfl
     rotate_left
     ·simp only [Act.put, List.setIfInBounds_toArray, List.set_cons_zero, List.set_cons_succ, i64_w, i32_w]
      rfl
     refine pure_ (i := 4) (N := some 64) (v := ?_) (a' := ?_) #[true, true, true, true, true, false, false, false, false, false, false, false, false, false, false, false, false, false] rfl rfl (any_of HT_.out (by kernel_rfl)) (fun _ _ _ h => h) (Or.inl ⟨by rfl, ?_⟩) ?_ ?_
     rotate_left
     ·intro w'
      go_simp
      with_reducible rfl
     rotate_left
     ·simp only [Act.put, List.setIfInBounds_toArray, List.set_cons_zero, List.set_cons_succ, i64_w, i32_w]
      rfl
     refine pure_ (i := 8) (N := some 68) (v := ?_) (a' := ?_) #[true, true, true, true, true, false, false, false, true, false, false, false, false, false, false, false, false, false] rfl rfl (any_of HT_.out (by kernel_rfl)) (fun _ _ _ h => h) (Or.inl ⟨by rfl, ?_⟩) ?_ ?_
     rotate_left
     ·intro w'
      go_simp
      with_reducible rfl
     rotate_left
     ·simp only [Act.put, List.setIfInBounds_toArray, List.set_cons_zero, List.set_cons_succ, i64_w, i32_w]
      rfl
     refine pure_ (i := 9) (N := some 69) (v := ?_) (a' := ?_) #[true, true, true, true, true, false, false, false, true, true, false, false, false, false, false, false, false, false] rfl rfl (any_of HT_.out (by kernel_rfl)) (fun _ _ _ h => h) (Or.inl ⟨by rfl, ?_⟩) ?_ ?_
     rotate_left
     ·intro w'
      go_simp
      with_reducible rfl
     rotate_left
     ·simp only [Act.put, List.setIfInBounds_toArray, List.set_cons_zero, List.set_cons_succ, i64_w, i32_w]
      rfl
     refine pure_ (i := 10) (N := some 70) (v := ?_) (a' := ?_) #[true, true, true, true, true, false, false, false, true, true, true, false, false, false, false, false, false, false] rfl rfl (any_of HT_.out (by kernel_rfl)) (fun _ _ _ h => h) (Or.inl ⟨by rfl, ?_⟩) ?_ ?_
     rotate_left
     ·intro w'
      go_simp
      with_reducible rfl
     rotate_left
     ·simp only [Act.put, List.setIfInBounds_toArray, List.set_cons_zero, List.set_cons_succ, i64_w, i32_w]
      rfl
     refine pure_ (i := 11) (N := some 71) (v := ?_) (a' := ?_) #[true, true, true, true, true, false, false, false, true, true, true, true, false, false, false, false, false, false] rfl rfl (any_of HT_.out (by kernel_rfl)) (fun _ _ _ h => h) (Or.inl ⟨by rfl, ?_⟩) ?_ ?_
     rotate_left
     ·intro w'
      go_simp
      with_reducible rfl
     rotate_left
     ·simp only [Act.put, List.setIfInBounds_toArray, List.set_cons_zero, List.set_cons_succ, i64_w, i32_w]
      rfl
     refine pure_ (i := 12) (N := some 72) (v := ?_) (a' := ?_) #[true, true, true, true, true, false, false, false, true, true, true, true, true, false, false, false, false, false] rfl rfl (any_of HT_.out (by kernel_rfl)) (fun _ _ _ h => h) (Or.inl ⟨by rfl, ?_⟩) ?_ ?_
     rotate_left
     ·intro w'
      go_simp
      with_reducible rfl
     rotate_left
     ·simp only [Act.put, List.setIfInBounds_toArray, List.set_cons_zero, List.set_cons_succ, i64_w, i32_w]
      rfl
     refine pure_ (i := 13) (N := some 73) (v := ?_) (a' := ?_) #[true, true, true, true, true, false, false, false, true, true, true, true, true, true, false, false, false, false] rfl rfl (any_of HT_.out (by kernel_rfl)) (fun _ _ _ h => h) (Or.inl ⟨by rfl, ?_⟩) ?_ ?_
     rotate_left
     ·intro w'
      go_simp
      with_reducible rfl
     rotate_left
     ·simp only [Act.put, List.setIfInBounds_toArray, List.set_cons_zero, List.set_cons_succ, i64_w, i32_w]
      rfl
     refine take_ (i := 5) (N := some 65) (v := ?_) (a' := ?_) #[true, true, true, true, true, true, false, false, true, true, true, true, true, true, false, false, false, false] rfl rfl (take_ofW HT_.out HW_.out (by kernel_rfl)) (fun _ _ _ h => h) (Or.inl ⟨by rfl, ?_⟩) hHeld ?_ ?_
     rotate_left
     ·rintro w' ⟨s0, s1⟩
      go_simp
      with_reducible rfl
     rotate_left
     ·simp only [Act.put, List.setIfInBounds_toArray, List.set_cons_zero, List.set_cons_succ, i64_w, i32_w]
      rfl
     refine pure_ (i := 6) (N := some 66) (v := ?_) (a' := ?_) #[true, true, true, true, true, true, true, false, true, true, true, true, true, true, false, false, false, false] rfl rfl (any_of HT_.out (by kernel_rfl)) (fun _ _ _ h => h) (Or.inl ⟨by rfl, ?_⟩) ?_ ?_
     rotate_left
     ·intro w'
      go_simp
      with_reducible rfl
     rotate_left
     ·simp only [Act.put, List.setIfInBounds_toArray, List.set_cons_zero, List.set_cons_succ, i64_w, i32_w]
      rfl
     refine pure_ (i := 7) (N := some 67) (v := ?_) (a' := ?_) #[true, true, true, true, true, true, true, true, true, true, true, true, true, true, false, false, false, false] rfl rfl (any_of HT_.out (by kernel_rfl)) (fun _ _ _ h => h) (Or.inl ⟨by rfl, ?_⟩) ?_ ?_
     rotate_left
     ·intro w'
      go_simp
      with_reducible rfl
     rotate_left
     ·simp only [Act.put, List.setIfInBounds_toArray, List.set_cons_zero, List.set_cons_succ, i64_w, i32_w]
      rfl
     refine take_ (i := 14) (N := some 74) (v := ?_) (a' := ?_) #[true, true, true, true, true, true, true, true, true, true, true, true, true, true, true, false, false, false] rfl rfl (take_ofW HT_.out HW_.out (by kernel_rfl)) (fun _ _ _ h => h) (Or.inl ⟨by rfl, ?_⟩) hHeld ?_ ?_
     rotate_left
     ·rintro w' ⟨s0, s1⟩
      go_simp
      with_reducible rfl
     rotate_left
     ·simp only [Act.put, List.setIfInBounds_toArray, List.set_cons_zero, List.set_cons_succ, i64_w, i32_w]
      rfl
     refine pure_ (i := 15) (N := some 75) (v := ?_) (a' := ?_) #[true, true, true, true, true, true, true, true, true, true, true, true, true, true, true, true, false, false] rfl rfl (any_of HT_.out (by kernel_rfl)) (fun _ _ _ h => h) (Or.inl ⟨by rfl, ?_⟩) ?_ ?_
     rotate_left
     ·intro w'
      go_simp
      with_reducible rfl
     rotate_left
     ·simp only [Act.put, List.setIfInBounds_toArray, List.set_cons_zero, List.set_cons_succ, i64_w, i32_w]
      rfl
     refine pure_ (i := 16) (N := some 76) (v := ?_) (a' := ?_) #[true, true, true, true, true, true, true, true, true, true, true, true, true, true, true, true, true, false] rfl rfl (any_of HT_.out (by kernel_rfl)) (fun _ _ _ h => h) (Or.inl ⟨by rfl, ?_⟩) ?_ ?_
     rotate_left
     ·intro w'
      go_simp
      with_reducible rfl
     rotate_left
     ·simp only [Act.put, List.setIfInBounds_toArray, List.set_cons_zero, List.set_cons_succ, i64_w, i32_w]
      rfl
     refine pure_ (i := 17) (N := some 12) (v := ?_) (a' := ?_) #[true, true, true, true, true, true, true, true, true, true, true, true, true, true, true, true, true, true] rfl rfl (any_of HT_.out (by kernel_rfl)) (fun _ _ _ h => h) (Or.inl ⟨by rfl, ?_⟩) ?_ ?_
     rotate_left
     ·intro w'
      go_simp
      with_reducible rfl
     rotate_left
     ·simp only [Act.put, List.setIfInBounds_toArray, List.set_cons_zero, List.set_cons_succ, i64_w, i32_w]
      rfl
     refine done_ (done_of HT_.out (by kernel_rfl)) ?_
     have p367 : 0 ≤ ((ji3) : Int) := odt
     have q367 : (ji3) < (y359.length : Int) := odt
     obtain ⟨ad367, e367, hx367_0⟩ := Kd.at_int (Kd.R_reads' HO_9.out).2.2 (ji3) p367 q367
     cases e367
     replace p367 := eq_true p367
     replace q367 := eq_true q367
     have p368 : 0 ≤ ((ji3) : Int) := odt
     have q368 : (ji3) < (y359.length : Int) := odt
     obtain ⟨ad368, e368, hx368_0⟩ := Kd.at_int (Kd.R_reads' HO_9.out).2.2 (ji3) p368 q368
     obtain rfl : ad367 = ad368 := (by injection e368)
     replace p368 := eq_true p368
     replace q368 := eq_true q368
     go_upto_block 4 with (fail)
     go_cut [13] (fun v13 wc => ∃ (kq : Nat) (x13_32 : Int), v13 = .int .u64 x13_32 ∧ Aside0 (e1_long.j4 kq (l1.length : Int) x7_1 x8_2 y359 x10_2 x11_2 x13_32 = some (r1, r2)) ∧ Aside0 (kq ≤ k2) ∧ Aside0 (Kd.R (Kd.int .u32) 88 wc w.heap.size (fun k_ => (w.heap.size ≤ k_) ∧ some k_ ≠ ((.slice (some ad367) y359.length co18) : Value).ownBlock ∧ some k_ ≠ (v363 : Value).ownBlock) (.slice (some ad365) x8_2.length co35) x8_2) ∧ Aside0 (Kd.R (Kd.int .u32) 88 wc w.heap.size (fun k_ => (w.heap.size ≤ k_) ∧ some k_ ≠ ((.slice (some ad365) x8_2.length co35) : Value).ownBlock ∧ some k_ ≠ (v363 : Value).ownBlock) (.slice (some ad367) y359.length co18) y359) ∧ Aside0 (Kd.R (Kd.int .u32) 88 wc w.heap.size (fun k_ => (w.heap.size ≤ k_) ∧ some k_ ≠ ((.slice (some ad365) x8_2.length co35) : Value).ownBlock ∧ some k_ ≠ ((.slice (some ad367) y359.length co18) : Value).ownBlock) v363 x10_2) ∧ Aside0 (Below w.heap.size w wc))
     case first =>
      have H := HC33.out
      clear HC33
      have H' := Aside0.mk H
      clear H
      go_wp2
      go_loopg [13, 14] k2 (fun kq v13 v14 w' => ∃ (x13_3 : Int) (x14_3 : Int), v13 = .int .u64 x13_3 ∧ v14 = .int .u64 x14_3 ∧ Aside0 (e1_long.l2 kq (l1.length : Int) x7_1 x8_2 y359 x10_2 x11_2 x13_3 x14_3 = some (r1, r2)) ∧ Aside0 (kq ≤ k2) ∧ Aside0 (Kd.R (Kd.int .u32) 88 w' w.heap.size (fun k_ => (w.heap.size ≤ k_) ∧ some k_ ≠ ((.slice (some ad367) y359.length co18) : Value).ownBlock ∧ some k_ ≠ (v363 : Value).ownBlock) (.slice (some ad365) x8_2.length co35) x8_2) ∧ Aside0 (Kd.R (Kd.int .u32) 88 w' w.heap.size (fun k_ => (w.heap.size ≤ k_) ∧ some k_ ≠ ((.slice (some ad365) x8_2.length co35) : Value).ownBlock ∧ some k_ ≠ (v363 : Value).ownBlock) (.slice (some ad367) y359.length co18) y359) ∧ Aside0 (Kd.R (Kd.int .u32) 88 w' w.heap.size (fun k_ => (w.heap.size ≤ k_) ∧ some k_ ≠ ((.slice (some ad365) x8_2.length co35) : Value).ownBlock ∧ some k_ ≠ ((.slice (some ad367) y359.length co18) : Value).ownBlock) v363 x10_2) ∧ Aside0 (Below w.heap.size w w'))
      case atStart => exact ⟨(IntKind.u64.wrap (Int.tdiv (Go.bits .or .u64 (IntKind.u64.wrap ((IntKind.u64.wrap (rd x8_2 (ji23))) * 4294967296)) (IntKind.u64.wrap (rd x8_2 (ji26)))) (IntKind.u64.wrap (rd y359 (ji3))))), (Int.tmod (Go.bits .or .u64 (IntKind.u64.wrap ((IntKind.u64.wrap (rd x8_2 (ji23))) * 4294967296)) (IntKind.u64.wrap (rd x8_2 (ji26)))) (IntKind.u64.wrap (rd y359 (ji3)))), (by first | rfl | (simp; done) | (simp only [← hji23, ← hji26, ← hji29] <;> (first | rfl | simp)) | (simp [*]; done)), (by first | rfl | (simp; done) | (simp only [← hji23, ← hji26, ← hji29] <;> (first | rfl | simp)) | (simp [*]; done)), H', ⟨Nat.le_refl _⟩, ⟨Kd.rq HO_8.out⟩, ⟨Kd.rq HO_9.out⟩, ⟨Kd.rq HO_10.out⟩, ⟨bq HB.out⟩⟩
      case round =>
       clear H'
       try clear c1
       try clear q1
       try clear c2
       try clear p2
       try clear c3
       try clear p3
       try clear q3
       try clear hx3
       try clear c4
       try clear c4b0
       try clear c5
       try clear c5b0
       try clear c6
       try clear c6b0
       try clear c6b1
       try clear p6
       try clear c8
       try clear c8b0
       try clear c9
       try clear c11
       try clear c11b0
       try clear c11b1
       try clear c12
       try clear c12b0
       try clear c12b1
       try clear c14
       try clear c14b0
       try clear c14b1
       try clear c15
       try clear c15b0
       try clear c15b1
       try clear q19
       try clear c22
       try clear c22b0
       try clear c24
       try clear c24b0
       try clear c25
       try clear c25b0
       try clear c27
       try clear c27b0
       try clear c28
       try clear c28b0
       try clear c30
       try clear c30b0
       try clear c31
       try clear c31b0
       try clear c32
       try clear c32b0
       try clear c32b1
       try clear p35
       try clear q35
       try clear hx35
       try clear hx352_0
       try clear hx365_0
       try clear hx366_0
       try clear hx367_0
       try clear hx368_0
       try clear p2
       try clear p3
       try clear p352
       try clear p365
       try clear p366
       try clear p367
       try clear p368
       try clear p6
       try clear q1
       try clear q19
       try clear q3
       try clear q352
       try clear q365
       try clear q366
       try clear q367
       try clear q368
       obtain ⟨x13_3, x14_3, rfl, rfl, HA, HK3, HO_8, HO_9, HO_10, HB⟩ := hrel
       cases gk with
       | zero => exact absurd HA.out (by simp [e1_long.l2])
       | succ k3 =>
        have H := HA.out
        clear HA
        simp only [e1_long.l2] at H
        have HC36 := Aside0.mk H
        clear H
        go_upto_region 14 with (fail)
        go_cut [116] (fun v116 wc => ∃ (kq : Nat) (x116_35 : Bool), v116 = .bool x116_35 ∧ Aside0 (e1_long.j3 kq (l1.length : Int) x7_1 x8_2 y359 x10_2 x11_2 x13_3 x14_3 x116_35 = some (r1, r2)) ∧ Aside0 (kq ≤ k3) ∧ Aside0 (Kd.R (Kd.int .u32) 88 wc w.heap.size (fun k_ => (w.heap.size ≤ k_) ∧ some k_ ≠ ((.slice (some ad367) y359.length co18) : Value).ownBlock ∧ some k_ ≠ (v363 : Value).ownBlock) (.slice (some ad365) x8_2.length co35) x8_2) ∧ Aside0 (Kd.R (Kd.int .u32) 88 wc w.heap.size (fun k_ => (w.heap.size ≤ k_) ∧ some k_ ≠ ((.slice (some ad365) x8_2.length co35) : Value).ownBlock ∧ some k_ ≠ (v363 : Value).ownBlock) (.slice (some ad367) y359.length co18) y359) ∧ Aside0 (Kd.R (Kd.int .u32) 88 wc w.heap.size (fun k_ => (w.heap.size ≤ k_) ∧ some k_ ≠ ((.slice (some ad365) x8_2.length co35) : Value).ownBlock ∧ some k_ ≠ ((.slice (some ad367) y359.length co18) : Value).ownBlock) v363 x10_2) ∧ Aside0 (Below w.heap.size w wc))
        case first =>
         have H := HC36.out
         clear HC36
         by_cases c37 : x13_3 ≥ 4294967296
         ·rw [if_pos c37] at H
          have c37b0 : decide (4294967296 ≤ x13_3) = true := decide_eq_true c37
          clear c37
          (first | rw [c37b0] | (simp only [i64_w, i32_w]; rw [c37b0]) | skip)
          have H' := Aside0.mk H
          clear H
          try go_wp2
          have n0_ := Aside0.mk (Kd.R_drew HO_8.out)
          have n1_ := Aside0.mk (Kd.R_drew HO_9.out)
          have n2_ := Aside0.mk (Kd.R_drew HO_10.out)
          have n3_ := Aside0.mk (below_drew1 HB.out)
          clear HO_8
          clear HO_9
          clear HO_10
          clear HB
          have HO_8 := n0_
          have HO_9 := n1_
          have HO_10 := n2_
          have HB := n3_
          clear n0_ n1_ n2_ n3_
          refine start_ (n := 24) (S := fun w' => True) (ds := []) #[false, false, false, false, false, false, false, false, false, false, false, false, false, false, false, false, false, false, false, false, false, false, false, false] (by kernel_rfl) rfl rfl trivial (fun hHeld => ?_); refine with_tabW e1_long.tab14 e1_long.bits14 (fun HT_ HW_ => ?_)
          generalize wr.drew = w38 at HO_8 HO_9 HO_10 HB hHeld ⊢
          refine pure_ (i := 0) (N := some 93) (v := ?_) (a' := ?_) #[true, false, false, false, false, false, false, false, false, false, false, false, false, false, false, false, false, false, false, false, false, false, false, false] rfl rfl (any_of HT_.out (by kernel_rfl)) (fun _ _ _ h => h) (Or.inl ⟨by rfl, ?_⟩) ?_ ?_
          rotate_left
          ·intro w'
           go_simp
           with_reducible rfl
          rotate_left
          ·simp only [Act.put, List.setIfInBounds_toArray, List.set_cons_zero, List.set_cons_succ, i64_w, i32_w]
           rfl
          refine pure_ (i := 1) (N := some 94) (v := ?_) (a' := ?_) #[true, true, false, false, false, false, false, false, false, false, false, false, false, false, false, false, false, false, false, false, false, false, false, false] rfl rfl (any_of HT_.out (by kernel_rfl)) (fun _ _ _ h => h) (Or.inl ⟨by rfl, ?_⟩) ?_ ?_
          rotate_left
          ·intro w'
           go_simp
           with_reducible rfl
          rotate_left
          ·simp only [Act.put, List.setIfInBounds_toArray, List.set_cons_zero, List.set_cons_succ, i64_w, i32_w]
           rfl
          refine pure_ (i := 2) (N := some 95) (v := ?_) (a' := ?_) #[true, true, true, false, false, false, false, false, false, false, false, false, false, false, false, false, false, false, false, false, false, false, false, false] rfl rfl (any_of HT_.out (by kernel_rfl)) (fun _ _ _ h => h) (Or.inl ⟨by rfl, ?_⟩) ?_ ?_
          rotate_left
          ·intro w'
           go_simp
           with_reducible rfl
          rotate_left
          ·simp only [Act.put, List.setIfInBounds_toArray, List.set_cons_zero, List.set_cons_succ, i64_w, i32_w]
           rfl
          refine pure_ (i := 3) (N := some 96) (v := undef) (a' := ?_) #[true, true, true, true, false, false, false, false, false, false, false, false, false, false, false, false, false, false, false, false, false, false, false, false] rfl rfl (any_of HT_.out (by kernel_rfl)) (fun _ _ _ h => h) (Or.inr ⟨by rfl, rfl⟩) ?_ ?_
          rotate_left
          ·simp only [Act.put, List.setIfInBounds_toArray, List.set_cons_zero, List.set_cons_succ, i64_w, i32_w]
           rfl
          refine pure_ (i := 4) (N := some 97) (v := undef) (a' := ?_) #[true, true, true, true, true, false, false, false, false, false, false, false, false, false, false, false, false, false, false, false, false, false, false, false] rfl rfl (any_of HT_.out (by kernel_rfl)) (fun _ _ _ h => h) (Or.inr ⟨by rfl, rfl⟩) ?_ ?_
          rotate_left
          ·simp only [Act.put, List.setIfInBounds_toArray, List.set_cons_zero, List.set_cons_succ, i64_w, i32_w]
           rfl
          refine pure_ (i := 5) (N := some 98) (v := undef) (a' := ?_) #[true, true, true, true, true, true, false, false, false, false, false, false, false, false, false, false, false, false, false, false, false, false, false, false] rfl rfl (any_of HT_.out (by kernel_rfl)) (fun _ _ _ h => h) (Or.inr ⟨by rfl, rfl⟩) ?_ ?_
          rotate_left
          ·simp only [Act.put, List.setIfInBounds_toArray, List.set_cons_zero, List.set_cons_succ, i64_w, i32_w]
           rfl
          refine pure_ (i := 6) (N := some 99) (v := undef) (a' := ?_) #[true, true, true, true, true, true, true, false, false, false, false, false, false, false, false, false, false, false, false, false, false, false, false, false] rfl rfl (any_of HT_.out (by kernel_rfl)) (fun _ _ _ h => h) (Or.inr ⟨by rfl, rfl⟩) ?_ ?_
          rotate_left
          ·simp only [Act.put, List.setIfInBounds_toArray, List.set_cons_zero, List.set_cons_succ, i64_w, i32_w]
           rfl
          refine pure_ (i := 7) (N := some 100) (v := undef) (a' := ?_) #[true, true, true, true, true, true, true, true, false, false, false, false, false, false, false, false, false, false, false, false, false, false, false, false] rfl rfl (any_of HT_.out (by kernel_rfl)) (fun _ _ _ h => h) (Or.inr ⟨by rfl, rfl⟩) ?_ ?_
          rotate_left
          ·simp only [Act.put, List.setIfInBounds_toArray, List.set_cons_zero, List.set_cons_succ, i64_w, i32_w]
           rfl
          refine pure_ (i := 8) (N := some 101) (v := undef) (a' := ?_) #[true, true, true, true, true, true, true, true, true, false, false, false, false, false, false, false, false, false, false, false, false, false, false, false] rfl rfl (any_of HT_.out (by kernel_rfl)) (fun _ _ _ h => h) (Or.inr ⟨by rfl, rfl⟩) ?_ ?_
          rotate_left
          ·simp only [Act.put, List.setIfInBounds_toArray, List.set_cons_zero, List.set_cons_succ, i64_w, i32_w]
           rfl
          refine pure_ (i := 9) (N := some 102) (v := undef) (a' := ?_) #[true, true, true, true, true, true, true, true, true, true, false, false, false, false, false, false, false, false, false, false, false, false, false, false] rfl rfl (any_of HT_.out (by kernel_rfl)) (fun _ _ _ h => h) (Or.inr ⟨by rfl, rfl⟩) ?_ ?_
          rotate_left
          ·simp only [Act.put, List.setIfInBounds_toArray, List.set_cons_zero, List.set_cons_succ, i64_w, i32_w]
           rfl
          refine pure_ (i := 10) (N := some 103) (v := undef) (a' := ?_) #[true, true, true, true, true, true, true, true, true, true, true, false, false, false, false, false, false, false, false, false, false, false, false, false] rfl rfl (any_of HT_.out (by kernel_rfl)) (fun _ _ _ h => h) (Or.inr ⟨by rfl, rfl⟩) ?_ ?_
          rotate_left
          ·simp only [Act.put, List.setIfInBounds_toArray, List.set_cons_zero, List.set_cons_succ, i64_w, i32_w]
           rfl
          refine pure_ (i := 11) (N := some 104) (v := undef) (a' := ?_) #[true, true, true, true, true, true, true, true, true, true, true, true, false, false, false, false, false, false, false, false, false, false, false, false] rfl rfl (any_of HT_.out (by kernel_rfl)) (fun _ _ _ h => h) (Or.inr ⟨by rfl, rfl⟩) ?_ ?_
          rotate_left
          ·simp only [Act.put, List.setIfInBounds_toArray, List.set_cons_zero, List.set_cons_succ, i64_w, i32_w]
           rfl
          refine pure_ (i := 12) (N := some 105) (v := undef) (a' := ?_) #[true, true, true, true, true, true, true, true, true, true, true, true, true, false, false, false, false, false, false, false, false, false, false, false] rfl rfl (any_of HT_.out (by kernel_rfl)) (fun _ _ _ h => h) (Or.inr ⟨by rfl, rfl⟩) ?_ ?_
          rotate_left
          ·simp only [Act.put, List.setIfInBounds_toArray, List.set_cons_zero, List.set_cons_succ, i64_w, i32_w]
           rfl
          refine pure_ (i := 13) (N := some 106) (v := undef) (a' := ?_) #[true, true, true, true, true, true, true, true, true, true, true, true, true, true, false, false, false, false, false, false, false, false, false, false] rfl rfl (any_of HT_.out (by kernel_rfl)) (fun _ _ _ h => h) (Or.inr ⟨by rfl, rfl⟩) ?_ ?_
          rotate_left
          ·simp only [Act.put, List.setIfInBounds_toArray, List.set_cons_zero, List.set_cons_succ, i64_w, i32_w]
           rfl
          refine pure_ (i := 14) (N := some 107) (v := undef) (a' := ?_) #[true, true, true, true, true, true, true, true, true, true, true, true, true, true, true, false, false, false, false, false, false, false, false, false] rfl rfl (any_of HT_.out (by kernel_rfl)) (fun _ _ _ h => h) (Or.inr ⟨by rfl, rfl⟩) ?_ ?_
          rotate_left
          ·simp only [Act.put, List.setIfInBounds_toArray, List.set_cons_zero, List.set_cons_succ, i64_w, i32_w]
           rfl
          refine pure_ (i := 15) (N := some 108) (v := undef) (a' := ?_) #[true, true, true, true, true, true, true, true, true, true, true, true, true, true, true, true, false, false, false, false, false, false, false, false] rfl rfl (any_of HT_.out (by kernel_rfl)) (fun _ _ _ h => h) (Or.inr ⟨by rfl, rfl⟩) ?_ ?_
          rotate_left
          ·simp only [Act.put, List.setIfInBounds_toArray, List.set_cons_zero, List.set_cons_succ, i64_w, i32_w]
           rfl
          refine pure_ (i := 16) (N := some 109) (v := undef) (a' := ?_) #[true, true, true, true, true, true, true, true, true, true, true, true, true, true, true, true, true, false, false, false, false, false, false, false] rfl rfl (any_of HT_.out (by kernel_rfl)) (fun _ _ _ h => h) (Or.inr ⟨by rfl, rfl⟩) ?_ ?_
          rotate_left
          ·simp only [Act.put, List.setIfInBounds_toArray, List.set_cons_zero, List.set_cons_succ, i64_w, i32_w]
           rfl
          refine pure_ (i := 17) (N := some 110) (v := undef) (a' := ?_) #[true, true, true, true, true, true, true, true, true, true, true, true, true, true, true, true, true, true, false, false, false, false, false, false] rfl rfl (any_of HT_.out (by kernel_rfl)) (fun _ _ _ h => h) (Or.inr ⟨by rfl, rfl⟩) ?_ ?_
          rotate_left
          ·simp only [Act.put, List.setIfInBounds_toArray, List.set_cons_zero, List.set_cons_succ, i64_w, i32_w]
           rfl
          refine pure_ (i := 18) (N := some 111) (v := undef) (a' := ?_) #[true, true, true, true, true, true, true, true, true, true, true, true, true, true, true, true, true, true, true, false, false, false, false, false] rfl rfl (any_of HT_.out (by kernel_rfl)) (fun _ _ _ h => h) (Or.inr ⟨by rfl, rfl⟩) ?_ ?_
          rotate_left
          ·simp only [Act.put, List.setIfInBounds_toArray, List.set_cons_zero, List.set_cons_succ, i64_w, i32_w]
           rfl
          refine pure_ (i := 19) (N := some 112) (v := undef) (a' := ?_) #[true, true, true, true, true, true, true, true, true, true, true, true, true, true, true, true, true, true, true, true, false, false, false, false] rfl rfl (any_of HT_.out (by kernel_rfl)) (fun _ _ _ h => h) (Or.inr ⟨by rfl, rfl⟩) ?_ ?_
          rotate_left
          ·simp only [Act.put, List.setIfInBounds_toArray, List.set_cons_zero, List.set_cons_succ, i64_w, i32_w]
           rfl
          refine pure_ (i := 20) (N := some 113) (v := undef) (a' := ?_) #[true, true, true, true, true, true, true, true, true, true, true, true, true, true, true, true, true, true, true, true, true, false, false, false] rfl rfl (any_of HT_.out (by kernel_rfl)) (fun _ _ _ h => h) (Or.inr ⟨by rfl, rfl⟩) ?_ ?_
          rotate_left
          ·simp only [Act.put, List.setIfInBounds_toArray, List.set_cons_zero, List.set_cons_succ, i64_w, i32_w]
           rfl
          refine pure_ (i := 21) (N := some 114) (v := undef) (a' := ?_) #[true, true, true, true, true, true, true, true, true, true, true, true, true, true, true, true, true, true, true, true, true, true, false, false] rfl rfl (any_of HT_.out (by kernel_rfl)) (fun _ _ _ h => h) (Or.inr ⟨by rfl, rfl⟩) ?_ ?_
          rotate_left
          ·simp only [Act.put, List.setIfInBounds_toArray, List.set_cons_zero, List.set_cons_succ, i64_w, i32_w]
           rfl
          refine pure_ (i := 22) (N := some 115) (v := undef) (a' := ?_) #[true, true, true, true, true, true, true, true, true, true, true, true, true, true, true, true, true, true, true, true, true, true, true, false] rfl rfl (any_of HT_.out (by kernel_rfl)) (fun _ _ _ h => h) (Or.inr ⟨by rfl, rfl⟩) ?_ ?_
          rotate_left
          ·simp only [Act.put, List.setIfInBounds_toArray, List.set_cons_zero, List.set_cons_succ, i64_w, i32_w]
           rfl
          refine pure_ (i := 23) (N := some 116) (v := ?_) (a' := ?_) #[true, true, true, true, true, true, true, true, true, true, true, true, true, true, true, true, true, true, true, true, true, true, true, true] rfl rfl (any_of HT_.out (by kernel_rfl)) (fun _ _ _ h => h) (Or.inl ⟨by rfl, ?_⟩) ?_ ?_
          rotate_left
          ·intro w'
           go_simp
           with_reducible rfl
          rotate_left
          ·simp only [Act.put, List.setIfInBounds_toArray, List.set_cons_zero, List.set_cons_succ, i64_w, i32_w]
           rfl
          refine done_ (done_of HT_.out (by kernel_rfl)) ?_
          try go_wp2
          go_meet
          case rel => exact ⟨_, (true), (by first | rfl | (simp; done) | (simp [*]; done)), H', ⟨by have := HK1.out; have := HK2.out; have := HK3.out; first | omega | exact Nat.le_refl _⟩, ⟨Kd.rq HO_8.out⟩, ⟨Kd.rq HO_9.out⟩, ⟨Kd.rq HO_10.out⟩, ⟨bq HB.out⟩⟩
         rw [if_neg c37] at H
         have c37b0 : decide (4294967296 ≤ x13_3) = false := decide_eq_false c37
         clear c37
         (first | rw [c37b0] | (simp only [i64_w, i32_w]; rw [c37b0]) | skip)
         obtain ⟨ji39, hji39⟩ : ∃ j_ : Int, (wrap64 ((l1.length : Int) - 2)) = j_ := ⟨_, rfl⟩
         replace H : (if 0 ≤ (ji39) then (if (ji39) < (y359.length : Int) then (if 0 ≤ (wrap64 ((wrap64 (x11_2 + (l1.length : Int))) - 2)) then (if (wrap64 ((wrap64 (x11_2 + (l1.length : Int))) - 2)) < (x8_2.length : Int) then (e1_long.j3 k3 (l1.length : Int) x7_1 x8_2 y359 x10_2 x11_2 x13_3 x14_3 (decide ((IntKind.u64.wrap (x13_3 * (IntKind.u64.wrap (rd y359 (ji39))))) > (Go.bits .or .u64 (IntKind.u64.wrap (x14_3 * 4294967296)) (IntKind.u64.wrap (rd x8_2 (wrap64 ((wrap64 (x11_2 + (l1.length : Int))) - 2)))))))) else (none)) else (none)) else (none)) else (none)) = some (r1, r2) := by first | (rw [hji39] at H; exact H) | (simp only [hji39] at H ⊢; exact H)
         have hji39w : (IntKind.i64.wrap ((l1.length : Int) - 2)) = ji39 := (i64_w _).trans hji39
         by_cases c40 : 0 ≤ (ji39)
         rotate_left
         ·rw [if_neg c40] at H
          exact absurd H (by simp)
         rw [if_pos c40] at H
         have c40b0 := decide_eq_true c40
         clear c40
         by_cases c41 : (ji39) < (y359.length : Int)
         rotate_left
         ·rw [if_neg c41] at H
          exact absurd H (by simp)
         rw [if_pos c41] at H
         have c41b0 := decide_eq_true c41
         clear c41
         obtain ⟨ji42, hji42⟩ : ∃ j_ : Int, (wrap64 ((wrap64 (x11_2 + (l1.length : Int))) - 2)) = j_ := ⟨_, rfl⟩
         replace H : (if 0 ≤ (ji42) then (if (ji42) < (x8_2.length : Int) then (e1_long.j3 k3 (l1.length : Int) x7_1 x8_2 y359 x10_2 x11_2 x13_3 x14_3 (decide ((IntKind.u64.wrap (x13_3 * (IntKind.u64.wrap (rd y359 (ji39))))) > (Go.bits .or .u64 (IntKind.u64.wrap (x14_3 * 4294967296)) (IntKind.u64.wrap (rd x8_2 (ji42))))))) else (none)) else (none)) = some (r1, r2) := by first | (rw [hji42] at H; exact H) | (simp only [hji42] at H ⊢; exact H)
         have hji42w : (IntKind.i64.wrap ((wrap64 (x11_2 + (l1.length : Int))) - 2)) = ji42 := (i64_w _).trans hji42
         (try simp only [hji23] at hji42 hji42w)
         by_cases c43 : 0 ≤ (ji42)
         rotate_left
         ·rw [if_neg c43] at H
          exact absurd H (by simp)
         rw [if_pos c43] at H
         have c43b0 := decide_eq_true c43
         clear c43
         by_cases c44 : (ji42) < (x8_2.length : Int)
         rotate_left
         ·rw [if_neg c44] at H
          exact absurd H (by simp)
         rw [if_pos c44] at H
         have c44b0 := decide_eq_true c44
         clear c44
         have H' := Aside0.mk H
         clear H
         try go_wp2
         have n0_ := Aside0.mk (Kd.R_drew HO_8.out)
         have n1_ := Aside0.mk (Kd.R_drew HO_9.out)
         have n2_ := Aside0.mk (Kd.R_drew HO_10.out)
         have n3_ := Aside0.mk (below_drew1 HB.out)
         clear HO_8
         clear HO_9
         clear HO_10
         clear HB
         have HO_8 := n0_
         have HO_9 := n1_
         have HO_10 := n2_
         have HB := n3_
         clear n0_ n1_ n2_ n3_
         have p369 : 0 ≤ ((ji39) : Int) := odt
         have q369 : (ji39) < (y359.length : Int) := odt
         obtain ⟨ad369, e369, hx369_0⟩ := Kd.at_int (Kd.R_reads' HO_9.out).2.2 (ji39) p369 q369
         obtain rfl : ad367 = ad369 := (by injection e369)
         replace p369 := eq_true p369
         replace q369 := eq_true q369
         have p370 : 0 ≤ ((ji42) : Int) := odt
         have q370 : (ji42) < (x8_2.length : Int) := odt
         obtain ⟨ad370, e370, hx370_0⟩ := Kd.at_int (Kd.R_reads' HO_8.out).2.2 (ji42) p370 q370
         obtain rfl : ad365 = ad370 := (by injection e370)
         replace p370 := eq_true p370
         replace q370 := eq_true q370
         refine start_ (n := 24) (S := fun w' => w'.cell? (ad367.add ((ji39)).toNat) = some (.int .u32 (rd y359 (ji39))) ∧ w'.cell? (ad365.add ((ji42)).toNat) = some (.int .u32 (rd x8_2 (ji42)))) (ds := []) #[false, false, false, false, false, false, false, false, false, false, false, false, false, false, false, false, false, false, false, false, false, false, false, false] (by kernel_rfl) rfl rfl ⟨hx369_0, hx370_0⟩ (fun hHeld => ?_); refine with_tabW e1_long.tab14 e1_long.bits14 (fun HT_ HW_ => ?_)
         generalize wr.drew = w45 at HO_8 HO_9 HO_10 HB hx369_0 hx370_0 hHeld ⊢
         refine pure_ (i := 0) (N := some 93) (v := ?_) (a' := ?_) #[true, false, false, false, false, false, false, false, false, false, false, false, false, false, false, false, false, false, false, false, false, false, false, false] rfl rfl (any_of HT_.out (by kernel_rfl)) (fun _ _ _ h => h) (Or.inl ⟨by rfl, ?_⟩) ?_ ?_
         rotate_left
         ·intro w'
          go_simp
          with_reducible rfl
         rotate_left
         ·simp only [Act.put, List.setIfInBounds_toArray, List.set_cons_zero, List.set_cons_succ, i64_w, i32_w]
          rfl
         refine pure_ (i := 1) (N := some 94) (v := ?_) (a' := ?_) #[true, true, false, false, false, false, false, false, false, false, false, false, false, false, false, false, false, false, false, false, false, false, false, false] rfl rfl (any_of HT_.out (by kernel_rfl)) (fun _ _ _ h => h) (Or.inl ⟨by rfl, ?_⟩) ?_ ?_
         rotate_left
         ·intro w'
          go_simp
          with_reducible rfl
         rotate_left
         ·simp only [Act.put, List.setIfInBounds_toArray, List.set_cons_zero, List.set_cons_succ, i64_w, i32_w]
          rfl
         refine pure_ (i := 2) (N := some 95) (v := ?_) (a' := ?_) #[true, true, true, false, false, false, false, false, false, false, false, false, false, false, false, false, false, false, false, false, false, false, false, false] rfl rfl (any_of HT_.out (by kernel_rfl)) (fun _ _ _ h => h) (Or.inl ⟨by rfl, ?_⟩) ?_ ?_
         rotate_left
         ·intro w'
          go_simp
          with_reducible rfl
         rotate_left
         ·simp only [Act.put, List.setIfInBounds_toArray, List.set_cons_zero, List.set_cons_succ, i64_w, i32_w]
          rfl
         refine pure_ (i := 3) (N := some 96) (v := ?_) (a' := ?_) #[true, true, true, true, false, false, false, false, false, false, false, false, false, false, false, false, false, false, false, false, false, false, false, false] rfl rfl (any_of HT_.out (by kernel_rfl)) (fun _ _ _ h => h) (Or.inl ⟨by rfl, ?_⟩) ?_ ?_
         rotate_left
         ·intro w'
          go_simp
          with_reducible rfl
         rotate_left
         ·simp only [Act.put, List.setIfInBounds_toArray, List.set_cons_zero, List.set_cons_succ, i64_w, i32_w]
          rfl
         refine pure_ (i := 4) (N := some 97) (v := ?_) (a' := ?_) #[true, true, true, true, true, false, false, false, false, false, false, false, false, false, false, false, false, false, false, false, false, false, false, false] rfl rfl (any_of HT_.out (by kernel_rfl)) (fun _ _ _ h => h) (Or.inl ⟨by rfl, ?_⟩) ?_ ?_
         rotate_left
         ·intro w'
          go_simp
          with_reducible rfl
         rotate_left
         ·simp only [Act.put, List.setIfInBounds_toArray, List.set_cons_zero, List.set_cons_succ, i64_w, i32_w]
          rfl
         refine pure_ (i := 5) (N := some 98) (v := ?_) (a' := ?_) #[true, true, true, true, true, true, false, false, false, false, false, false, false, false, false, false, false, false, false, false, false, false, false, false] rfl rfl (any_of HT_.out (by kernel_rfl)) (fun _ _ _ h => h) (Or.inl ⟨by rfl, ?_⟩) ?_ ?_
         rotate_left
         ·intro w'
          go_simp
          with_reducible rfl
         rotate_left
         ·simp only [Act.put, List.setIfInBounds_toArray, List.set_cons_zero, List.set_cons_succ, i64_w, i32_w]
          rfl
         refine pure_ (i := 6) (N := some 99) (v := ?_) (a' := ?_) #[true, true, true, true, true, true, true, false, false, false, false, false, false, false, false, false, false, false, false, false, false, false, false, false] rfl rfl (any_of HT_.out (by kernel_rfl)) (fun _ _ _ h => h) (Or.inl ⟨by rfl, ?_⟩) ?_ ?_
         rotate_left
         ·intro w'
          go_simp
          with_reducible rfl
         rotate_left
         ·simp only [Act.put, List.setIfInBounds_toArray, List.set_cons_zero, List.set_cons_succ, i64_w, i32_w]
          rfl
         refine pure_ (i := 7) (N := some 100) (v := ?_) (a' := ?_) #[true, true, true, true, true, true, true, true, false, false, false, false, false, false, false, false, false, false, false, false, false, false, false, false] rfl rfl (any_of HT_.out (by kernel_rfl)) (fun _ _ _ h => h) (Or.inl ⟨by rfl, ?_⟩) ?_ ?_
         rotate_left
         ·intro w'
          go_simp
          with_reducible rfl
         rotate_left
         ·simp only [Act.put, List.setIfInBounds_toArray, List.set_cons_zero, List.set_cons_succ, i64_w, i32_w]
          rfl
         refine pure_ (i := 11) (N := some 104) (v := ?_) (a' := ?_) #[true, true, true, true, true, true, true, true, false, false, false, true, false, false, false, false, false, false, false, false, false, false, false, false] rfl rfl (any_of HT_.out (by kernel_rfl)) (fun _ _ _ h => h) (Or.inl ⟨by rfl, ?_⟩) ?_ ?_
         rotate_left
         ·intro w'
          go_simp
          with_reducible rfl
         rotate_left
         ·simp only [Act.put, List.setIfInBounds_toArray, List.set_cons_zero, List.set_cons_succ, i64_w, i32_w]
          rfl
         refine pure_ (i := 12) (N := some 105) (v := ?_) (a' := ?_) #[true, true, true, true, true, true, true, true, false, false, false, true, true, false, false, false, false, false, false, false, false, false, false, false] rfl rfl (any_of HT_.out (by kernel_rfl)) (fun _ _ _ h => h) (Or.inl ⟨by rfl, ?_⟩) ?_ ?_
         rotate_left
         ·intro w'
          go_simp
          with_reducible rfl
         rotate_left
         ·simp only [Act.put, List.setIfInBounds_toArray, List.set_cons_zero, List.set_cons_succ, i64_w, i32_w]
          rfl
         refine pure_ (i := 13) (N := some 106) (v := ?_) (a' := ?_) #[true, true, true, true, true, true, true, true, false, false, false, true, true, true, false, false, false, false, false, false, false, false, false, false] rfl rfl (any_of HT_.out (by kernel_rfl)) (fun _ _ _ h => h) (Or.inl ⟨by rfl, ?_⟩) ?_ ?_
         rotate_left
         ·intro w'
          go_simp
          with_reducible rfl
         rotate_left
         ·simp only [Act.put, List.setIfInBounds_toArray, List.set_cons_zero, List.set_cons_succ, i64_w, i32_w]
          rfl
         refine pure_ (i := 14) (N := some 107) (v := ?_) (a' := ?_) #[true, true, true, true, true, true, true, true, false, false, false, true, true, true, true, false, false, false, false, false, false, false, false, false] rfl rfl (any_of HT_.out (by kernel_rfl)) (fun _ _ _ h => h) (Or.inl ⟨by rfl, ?_⟩) ?_ ?_
         rotate_left
         ·intro w'
          go_simp
          with_reducible rfl
         rotate_left
         ·simp only [Act.put, List.setIfInBounds_toArray, List.set_cons_zero, List.set_cons_succ, i64_w, i32_w]
          rfl
         refine pure_ (i := 15) (N := some 108) (v := ?_) (a' := ?_) #[true, true, true, true, true, true, true, true, false, false, false, true, true, true, true, true, false, false, false, false, false, false, false, false] rfl rfl (any_of HT_.out (by kernel_rfl)) (fun _ _ _ h => h) (Or.inl ⟨by rfl, ?_⟩) ?_ ?_
         rotate_left
         ·intro w'
          go_simp
          with_reducible rfl
         rotate_left
         ·simp only [Act.put, List.setIfInBounds_toArray, List.set_cons_zero, List.set_cons_succ, i64_w, i32_w]
          rfl
         refine pure_ (i := 16) (N := some 109) (v := ?_) (a' := ?_) #[true, true, true, true, true, true, true, true, false, false, false, true, true, true, true, true, true, false, false, false, false, false, false, false] rfl rfl (any_of HT_.out (by kernel_rfl)) (fun _ _ _ h => h) (Or.inl ⟨by rfl, ?_⟩) ?_ ?_
         rotate_left
         ·intro w'
          go_simp
          with_reducible rfl
         rotate_left
         ·simp only [Act.put, List.setIfInBounds_toArray, List.set_cons_zero, List.set_cons_succ, i64_w, i32_w]
          rfl
         refine pure_ (i := 17) (N := some 110) (v := ?_) (a' := ?_) #[true, true, true, true, true, true, true, true, false, false, false, true, true, true, true, true, true, true, false, false, false, false, false, false] rfl rfl (any_of HT_.out (by kernel_rfl)) (fun _ _ _ h => h) (Or.inl ⟨by rfl, ?_⟩) ?_ ?_
         rotate_left
         ·intro w'
          go_simp
          with_reducible rfl
         rotate_left
         ·simp only [Act.put, List.setIfInBounds_toArray, List.set_cons_zero, List.set_cons_succ, i64_w, i32_w]
          rfl
         refine pure_ (i := 18) (N := some 111) (v := ?_) (a' := ?_) #[true, true, true, true, true, true, true, true, false, false, false, true, true, true, true, true, true, true, true, false, false, false, false, false] rfl rfl (any_of HT_.out (by kernel_rfl)) (fun _ _ _ h => h) (Or.inl ⟨by rfl, ?_⟩) ?_ ?_
         rotate_left
         ·intro w'
          go_simp
          with_reducible rfl
         rotate_left
         ·simp only [Act.put, List.setIfInBounds_toArray, List.set_cons_zero, List.set_cons_succ, i64_w, i32_w]
          rfl
         refine take_ (i := 8) (N := some 101) (v := ?_) (a' := ?_) #[true, true, true, true, true, true, true, true, true, false, false, true, true, true, true, true, true, true, true, false, false, false, false, false] rfl rfl (take_ofW HT_.out HW_.out (by kernel_rfl)) (fun _ _ _ h => h) (Or.inl ⟨by rfl, ?_⟩) hHeld ?_ ?_
         rotate_left
         ·rintro w' ⟨s0, s1⟩
          go_simp
          with_reducible rfl
         rotate_left
         ·simp only [Act.put, List.setIfInBounds_toArray, List.set_cons_zero, List.set_cons_succ, i64_w, i32_w]
          rfl
         refine pure_ (i := 9) (N := some 102) (v := ?_) (a' := ?_) #[true, true, true, true, true, true, true, true, true, true, false, true, true, true, true, true, true, true, true, false, false, false, false, false] rfl rfl (any_of HT_.out (by kernel_rfl)) (fun _ _ _ h => h) (Or.inl ⟨by rfl, ?_⟩) ?_ ?_
         rotate_left
         ·intro w'
          go_simp
          with_reducible rfl
         rotate_left
         ·simp only [Act.put, List.setIfInBounds_toArray, List.set_cons_zero, List.set_cons_succ, i64_w, i32_w]
          rfl
         refine pure_ (i := 10) (N := some 103) (v := ?_) (a' := ?_) #[true, true, true, true, true, true, true, true, true, true, true, true, true, true, true, true, true, true, true, false, false, false, false, false] rfl rfl (any_of HT_.out (by kernel_rfl)) (fun _ _ _ h => h) (Or.inl ⟨by rfl, ?_⟩) ?_ ?_
         rotate_left
         ·intro w'
          go_simp
          with_reducible rfl
         rotate_left
         ·simp only [Act.put, List.setIfInBounds_toArray, List.set_cons_zero, List.set_cons_succ, i64_w, i32_w]
          rfl
         refine take_ (i := 19) (N := some 112) (v := ?_) (a' := ?_) #[true, true, true, true, true, true, true, true, true, true, true, true, true, true, true, true, true, true, true, true, false, false, false, false] rfl rfl (take_ofW HT_.out HW_.out (by kernel_rfl)) (fun _ _ _ h => h) (Or.inl ⟨by rfl, ?_⟩) hHeld ?_ ?_
         rotate_left
         ·rintro w' ⟨s0, s1⟩
          go_simp
          with_reducible rfl
         rotate_left
         ·simp only [Act.put, List.setIfInBounds_toArray, List.set_cons_zero, List.set_cons_succ, i64_w, i32_w]
          rfl
         refine pure_ (i := 20) (N := some 113) (v := ?_) (a' := ?_) #[true, true, true, true, true, true, true, true, true, true, true, true, true, true, true, true, true, true, true, true, true, false, false, false] rfl rfl (any_of HT_.out (by kernel_rfl)) (fun _ _ _ h => h) (Or.inl ⟨by rfl, ?_⟩) ?_ ?_
         rotate_left
         ·intro w'
          go_simp
          with_reducible rfl
         rotate_left
         ·simp only [Act.put, List.setIfInBounds_toArray, List.set_cons_zero, List.set_cons_succ, i64_w, i32_w]
          rfl
         refine pure_ (i := 21) (N := some 114) (v := ?_) (a' := ?_) #[true, true, true, true, true, true, true, true, true, true, true, true, true, true, true, true, true, true, true, true, true, true, false, false] rfl rfl (any_of HT_.out (by kernel_rfl)) (fun _ _ _ h => h) (Or.inl ⟨by rfl, ?_⟩) ?_ ?_
         rotate_left
         ·intro w'
          go_simp
          with_reducible rfl
         rotate_left
         ·simp only [Act.put, List.setIfInBounds_toArray, List.set_cons_zero, List.set_cons_succ, i64_w, i32_w]
          rfl
         refine pure_ (i := 22) (N := some 115) (v := ?_) (a' := ?_) #[true, true, true, true, true, true, true, true, true, true, true, true, true, true, true, true, true, true, true, true, true, true, true, false] rfl rfl (any_of HT_.out (by kernel_rfl)) (fun _ _ _ h => h) (Or.inl ⟨by rfl, ?_⟩) ?_ ?_
         rotate_left
         ·intro w'
          go_simp
          with_reducible rfl
         rotate_left
         ·simp only [Act.put, List.setIfInBounds_toArray, List.set_cons_zero, List.set_cons_succ, i64_w, i32_w]
          rfl
         refine pure_ (i := 23) (N := some 116) (v := ?_) (a' := ?_) #[true, true, true, true, true, true, true, true, true, true, true, true, true, true, true, true, true, true, true, true, true, true, true, true] rfl rfl (any_of HT_.out (by kernel_rfl)) (fun _ _ _ h => h) (Or.inl ⟨by rfl, ?_⟩) ?_ ?_
         rotate_left
         ·intro w'
          go_simp
          with_reducible rfl
         rotate_left
         ·simp only [Act.put, List.setIfInBounds_toArray, List.set_cons_zero, List.set_cons_succ, i64_w, i32_w]
          rfl
         refine done_ (done_of HT_.out (by kernel_rfl)) ?_
         try go_wp2
         go_meet
         case rel => exact ⟨_, (decide ((IntKind.u64.wrap (x13_3 * (IntKind.u64.wrap (rd y359 (ji39))))) > (Go.bits .or .u64 (IntKind.u64.wrap (x14_3 * 4294967296)) (IntKind.u64.wrap (rd x8_2 (ji42)))))), (by first | rfl | (simp; done) | (simp only [← hji39, ← hji42] <;> (first | rfl | simp)) | (simp [*]; done)), H', ⟨by have := HK1.out; have := HK2.out; have := HK3.out; first | omega | exact Nat.le_refl _⟩, ⟨Kd.rq HO_8.out⟩, ⟨Kd.rq HO_9.out⟩, ⟨Kd.rq HO_10.out⟩, ⟨bq HB.out⟩⟩
        case rest =>
         clear HC36
         try clear c1
         try clear q1
         try clear c2
         try clear p2
         try clear c3
         try clear p3
         try clear q3
         try clear hx3
         try clear c4
         try clear c4b0
         try clear c5
         try clear c5b0
         try clear c6
         try clear c6b0
         try clear c6b1
         try clear p6
         try clear c8
         try clear c8b0
         try clear c9
         try clear c11
         try clear c11b0
         try clear c11b1
         try clear c12
         try clear c12b0
         try clear c12b1
         try clear c14
         try clear c14b0
         try clear c14b1
         try clear c15
         try clear c15b0
         try clear c15b1
         try clear q19
         try clear c22
         try clear c22b0
         try clear c24
         try clear c24b0
         try clear c25
         try clear c25b0
         try clear c27
         try clear c27b0
         try clear c28
         try clear c28b0
         try clear c30
         try clear c30b0
         try clear c31
         try clear c31b0
         try clear c32
         try clear c32b0
         try clear c32b1
         try clear p35
         try clear q35
         try clear hx35
         try clear p36
         try clear q36
         try clear hx36
         try clear c37
         try clear c37b0
         try clear p37
         try clear q37
         try clear hx37
         try clear c40
         try clear c40b0
         try clear c41
         try clear c41b0
         try clear c43
         try clear c43b0
         try clear c44
         try clear c44b0
         try clear hx352_0
         try clear hx365_0
         try clear hx366_0
         try clear hx367_0
         try clear hx368_0
         try clear hx369_0
         try clear hx370_0
         try clear p2
         try clear p3
         try clear p35
         try clear p352
         try clear p365
         try clear p366
         try clear p367
         try clear p368
         try clear p369
         try clear p370
         try clear p6
         try clear q1
         try clear q19
         try clear q3
         try clear q35
         try clear q352
         try clear q365
         try clear q366
         try clear q367
         try clear q368
         try clear q369
         try clear q370
         obtain ⟨kq, x116_35, rfl, HA, HJ35, HO_8, HO_9, HO_10, HB⟩ := hcut
         cases kq with
         | zero => exact absurd HA.out (by simp [e1_long.j3])
         | succ kj35 =>
          have H := HA.out
          clear HA
          simp only [e1_long.j3] at H
          by_cases c46 : x116_35 = true
          rotate_left
          ·replace c46 := Bool.eq_false_iff.mpr c46
           subst c46
           rw [if_neg (show ¬ (false = true) by decide)] at H
           have H' := Aside0.mk H
           clear H
           go_wp2
           go_meet
           case rel => exact ⟨_, (x13_3), (by first | rfl | (simp; done) | (simp [*]; done)), H', ⟨by have := HK1.out; have := HK2.out; have := HK3.out; have := HJ35.out; first | omega | exact Nat.le_refl _⟩, ⟨Kd.rq HO_8.out⟩, ⟨Kd.rq HO_9.out⟩, ⟨Kd.rq HO_10.out⟩, ⟨bq HB.out⟩⟩
          subst c46
          rw [if_pos rfl] at H
          have hji47 := hji3
          replace H : (if 0 ≤ (ji3) then (if (ji3) < (y359.length : Int) then (if (IntKind.u64.wrap (x14_3 + (IntKind.u64.wrap (rd y359 (ji3))))) ≥ 4294967296 then (e1_long.j4 kj35 (l1.length : Int) x7_1 x8_2 y359 x10_2 x11_2 (IntKind.u64.wrap (x13_3 - 1))) else (e1_long.l2 kj35 (l1.length : Int) x7_1 x8_2 y359 x10_2 x11_2 (IntKind.u64.wrap (x13_3 - 1)) (IntKind.u64.wrap (x14_3 + (IntKind.u64.wrap (rd y359 (ji3))))))) else (none)) else (none)) = some (r1, r2) := by first | (rw [hji47] at H; exact H) | (simp only [hji47] at H ⊢; exact H)
          have hji47w : (IntKind.i64.wrap ((l1.length : Int) - 1)) = ji3 := (i64_w _).trans hji47
          by_cases c48 : 0 ≤ (ji3)
          rotate_left
          ·rw [if_neg c48] at H
           exact absurd H (by simp)
          rw [if_pos c48] at H
          have c48b0 := decide_eq_true c48
          clear c48
          by_cases c49 : (ji3) < (y359.length : Int)
          rotate_left
          ·rw [if_neg c49] at H
           exact absurd H (by simp)
          rw [if_pos c49] at H
          have c49b0 := decide_eq_true c49
          clear c49
          by_cases c50 : (IntKind.u64.wrap (x14_3 + (IntKind.u64.wrap (rd y359 (ji3))))) ≥ 4294967296
          ·rw [if_pos c50] at H
           have c50b0 : decide (4294967296 ≤ (IntKind.u64.wrap (x14_3 + (IntKind.u64.wrap (rd y359 (ji3)))))) = true := decide_eq_true c50
           clear c50
           have H' := Aside0.mk H
           clear H
           have p371 : 0 ≤ ((ji3) : Int) := odt
           have q371 : (ji3) < (y359.length : Int) := odt
           obtain ⟨ad371, e371, hx371_0⟩ := Kd.at_int (Kd.R_reads' HO_9.out).2.2 (ji3) p371 q371
           obtain rfl : ad367 = ad371 := (by injection e371)
           replace p371 := eq_true p371
           replace q371 := eq_true q371
           go_wp2
           go_meet
           case rel => exact ⟨_, (IntKind.u64.wrap (x13_3 - 1)), (by first | rfl | (simp; done) | (simp [*]; done)), H', ⟨by have := HK1.out; have := HK2.out; have := HK3.out; have := HJ35.out; first | omega | exact Nat.le_refl _⟩, ⟨Kd.rq HO_8.out⟩, ⟨Kd.rq HO_9.out⟩, ⟨Kd.rq HO_10.out⟩, ⟨bq HB.out⟩⟩
          rw [if_neg c50] at H
          have c50b0 : decide (4294967296 ≤ (IntKind.u64.wrap (x14_3 + (IntKind.u64.wrap (rd y359 (ji3)))))) = false := decide_eq_false c50
          clear c50
          have H' := Aside0.mk H
          clear H
          have p371 : 0 ≤ ((ji3) : Int) := odt
          have q371 : (ji3) < (y359.length : Int) := odt
          obtain ⟨ad371, e371, hx371_0⟩ := Kd.at_int (Kd.R_reads' HO_9.out).2.2 (ji3) p371 q371
          obtain rfl : ad367 = ad371 := (by injection e371)
          replace p371 := eq_true p371
          replace q371 := eq_true q371
          go_wp2
          go_roundg kj35
          case measure => have := HK1.out; have := HK2.out; have := HK3.out; have := HJ35.out; omega
          case rel => exact ⟨(IntKind.u64.wrap (x13_3 - 1)), (IntKind.u64.wrap (x14_3 + (IntKind.u64.wrap (rd y359 (ji3))))), (by first | rfl | (simp; done) | (simp [*]; done)), (by first | rfl | (simp; done) | (simp only [← hji47] <;> (first | rfl | simp)) | (simp [*]; done)), H', ⟨by have := HK1.out; have := HK2.out; have := HK3.out; have := HJ35.out; omega⟩, ⟨Kd.rq HO_8.out⟩, ⟨Kd.rq HO_9.out⟩, ⟨Kd.rq HO_10.out⟩, ⟨bq HB.out⟩⟩
     case rest =>
      clear HC33
      try clear c1
      try clear q1
      try clear c2
      try clear p2
      try clear c3
      try clear p3
      try clear q3
      try clear hx3
      try clear c4
      try clear c4b0
      try clear c5
      try clear c5b0
      try clear c6
      try clear c6b0
      try clear c6b1
      try clear p6
      try clear c8
      try clear c8b0
      try clear c9
      try clear c11
      try clear c11b0
      try clear c11b1
      try clear c12
      try clear c12b0
      try clear c12b1
      try clear c14
      try clear c14b0
      try clear c14b1
      try clear c15
      try clear c15b0
      try clear c15b1
      try clear q19
      try clear c22
      try clear c22b0
      try clear c24
      try clear c24b0
      try clear c25
      try clear c25b0
      try clear c27
      try clear c27b0
      try clear c28
      try clear c28b0
      try clear c30
      try clear c30b0
      try clear c31
      try clear c31b0
      try clear c32
      try clear c32b0
      try clear c32b1
      try clear p35
      try clear q35
      try clear hx35
      try clear p36
      try clear q36
      try clear hx36
      try clear c37
      try clear c37b0
      try clear p37
      try clear q37
      try clear hx37
      try clear c40
      try clear c40b0
      try clear c41
      try clear c41b0
      try clear c43
      try clear c43b0
      try clear c44
      try clear c44b0
      try clear c46
      try clear c48
      try clear c48b0
      try clear c49
      try clear c49b0
      try clear c50
      try clear c50b0
      try clear hx352_0
      try clear hx365_0
      try clear hx366_0
      try clear hx367_0
      try clear hx368_0
      try clear hx369_0
      try clear hx370_0
      try clear hx371_0
      try clear p2
      try clear p3
      try clear p35
      try clear p352
      try clear p36
      try clear p365
      try clear p366
      try clear p367
      try clear p368
      try clear p369
      try clear p37
      try clear p370
      try clear p371
      try clear p6
      try clear q1
      try clear q19
      try clear q3
      try clear q35
      try clear q352
      try clear q36
      try clear q365
      try clear q366
      try clear q367
      try clear q368
      try clear q369
      try clear q37
      try clear q370
      try clear q371
      obtain ⟨kq, x13_32, rfl, HA, HJ32, HO_8, HO_9, HO_10, HB⟩ := hcut
      cases kq with
      | zero => exact absurd HA.out (by simp [e1_long.j4])
      | succ kj32 =>
       have H := HA.out
       clear HA
       simp only [e1_long.j4] at H
       have H' := Aside0.mk H
       clear H
       go_wp2
       (try generalize Value.pointer (some (Addr.add ad365 ji23.toNat)) = dp0_)
       (try generalize Value.pointer (some (Addr.add ad365 ji26.toNat)) = dp1_)
       (try generalize Value.pointer (some (Addr.add ad365 ji42.toNat)) = dp2_)
       go_loopg [15, 16, 17] kj32 (fun kq v15 v16 v17 w' => ∃ (x8_4 : List Int) (x15_4 : Int) (x16_4 : Int) (x17_4 : Int), v15 = .int .u64 x15_4 ∧ v16 = .int .u64 x16_4 ∧ v17 = .int .i64 x17_4 ∧ Aside0 (e1_long.l3 kq (l1.length : Int) x7_1 x8_4 y359 x10_2 x11_2 x13_32 x15_4 x16_4 x17_4 = some (r1, r2)) ∧ Aside0 (kq ≤ kj32) ∧ Aside0 (Kd.R (Kd.int .u32) 88 w' w.heap.size (fun k_ => (w.heap.size ≤ k_) ∧ some k_ ≠ ((.slice (some ad367) y359.length co18) : Value).ownBlock ∧ some k_ ≠ (v363 : Value).ownBlock) (.slice (some ad365) x8_2.length co35) x8_4) ∧ Aside0 (Kd.R (Kd.int .u32) 88 w' w.heap.size (fun k_ => (w.heap.size ≤ k_) ∧ some k_ ≠ ((.slice (some ad365) x8_2.length co35) : Value).ownBlock ∧ some k_ ≠ (v363 : Value).ownBlock) (.slice (some ad367) y359.length co18) y359) ∧ Aside0 (Kd.R (Kd.int .u32) 88 w' w.heap.size (fun k_ => (w.heap.size ≤ k_) ∧ some k_ ≠ ((.slice (some ad365) x8_2.length co35) : Value).ownBlock ∧ some k_ ≠ ((.slice (some ad367) y359.length co18) : Value).ownBlock) v363 x10_2) ∧ Aside0 (Below w.heap.size w w'))
       case atStart => exact ⟨(x8_2), (0), (0), (0), (by first | rfl | (simp; done) | (simp [*]; done)), (by first | rfl | (simp; done) | (simp [*]; done)), (by first | rfl | (simp; done) | (simp [*]; done)), H', ⟨Nat.le_refl _⟩, ⟨Kd.rq HO_8.out⟩, ⟨Kd.rq HO_9.out⟩, ⟨Kd.rq HO_10.out⟩, ⟨bq HB.out⟩⟩
       case round =>
        clear H'
        try clear c1
        try clear q1
        try clear c2
        try clear p2
        try clear c3
        try clear p3
        try clear q3
        try clear hx3
        try clear c4
        try clear c4b0
        try clear c5
        try clear c5b0
        try clear c6
        try clear c6b0
        try clear c6b1
        try clear p6
        try clear c8
        try clear c8b0
        try clear c9
        try clear c11
        try clear c11b0
        try clear c11b1
        try clear c12
        try clear c12b0
        try clear c12b1
        try clear c14
        try clear c14b0
        try clear c14b1
        try clear c15
        try clear c15b0
        try clear c15b1
        try clear q19
        try clear c22
        try clear c22b0
        try clear c24
        try clear c24b0
        try clear c25
        try clear c25b0
        try clear c27
        try clear c27b0
        try clear c28
        try clear c28b0
        try clear c30
        try clear c30b0
        try clear c31
        try clear c31b0
        try clear c32
        try clear c32b0
        try clear c32b1
        try clear p35
        try clear q35
        try clear hx35
        try clear p36
        try clear q36
        try clear hx36
        try clear c37
        try clear c37b0
        try clear p37
        try clear q37
        try clear hx37
        try clear c40
        try clear c40b0
        try clear c41
        try clear c41b0
        try clear c43
        try clear c43b0
        try clear c44
        try clear c44b0
        try clear c46
        try clear c48
        try clear c48b0
        try clear c49
        try clear c49b0
        try clear c50
        try clear c50b0
        try clear hx352_0
        try clear hx365_0
        try clear hx366_0
        try clear hx367_0
        try clear hx368_0
        try clear hx369_0
        try clear hx370_0
        try clear hx371_0
        try clear p2
        try clear p3
        try clear p35
        try clear p352
        try clear p36
        try clear p365
        try clear p366
        try clear p367
        try clear p368
        try clear p369
        try clear p37
        try clear p370
        try clear p371
        try clear p6
        try clear q1
        try clear q19
        try clear q3
        try clear q35
        try clear q352
        try clear q36
        try clear q365
        try clear q366
        try clear q367
        try clear q368
        try clear q369
        try clear q37
        try clear q370
        try clear q371
        obtain ⟨x8_4, x15_4, x16_4, x17_4, rfl, rfl, rfl, HA, HK4, HO_8, HO_9, HO_10, HB⟩ := hrel
        have hl8_4 := (Kd.R_reads' HO_8.out).1
        rw [hl8_4] at HO_8
        (try simp only [hl8_4])
        (try simp only [hl8_4] at HO_9)
        (try simp only [hl8_4] at HO_10)
        cases gk with
        | zero => exact absurd HA.out (by simp [e1_long.l3])
        | succ k4 =>
         have H := HA.out
         clear HA
         simp only [e1_long.l3] at H
         by_cases c51 : x17_4 < (l1.length : Int)
         ·rw [if_pos c51] at H
          have c51b0 := decide_eq_true c51
          clear c51
          by_cases c52 : 0 ≤ x17_4
          rotate_left
          ·rw [if_neg c52] at H
           exact absurd H (by simp)
          rw [if_pos c52] at H
          have c52b0 := decide_eq_true c52
          clear c52
          by_cases c53 : x17_4 < (y359.length : Int)
          rotate_left
          ·rw [if_neg c53] at H
           exact absurd H (by simp)
          rw [if_pos c53] at H
          have c53b0 : decide (x17_4 < (y359.length : Int)) = true := decide_eq_true c53
          (try (have c53b9_0 := c53b0; rw [hl8_4] at c53b9_0))
          clear c53
          obtain ⟨ji54, hji54⟩ : ∃ j_ : Int, (wrap64 (x11_2 + x17_4)) = j_ := ⟨_, rfl⟩
          replace H : (if 0 ≤ (ji54) then (if (ji54) < (x8_4.length : Int) then (if (IntKind.u64.wrap (rd x8_4 (ji54))) < (IntKind.u64.wrap ((Go.bits .and .u64 (IntKind.u64.wrap (x15_4 + (IntKind.u64.wrap (x13_32 * (IntKind.u64.wrap (rd y359 x17_4)))))) 4294967295) + x16_4)) then (e1_long.l3 k4 (l1.length : Int) x7_1 (x8_4.set ((ji54) : Int).toNat ((IntKind.u64.wrap ((IntKind.u64.wrap ((IntKind.u64.wrap (rd x8_4 (ji54))) + 4294967296)) - (IntKind.u64.wrap ((Go.bits .and .u64 (IntKind.u64.wrap (x15_4 + (IntKind.u64.wrap (x13_32 * (IntKind.u64.wrap (rd y359 x17_4)))))) 4294967295) + x16_4)))) % 4294967296)) y359 x10_2 x11_2 x13_32 ((IntKind.u64.wrap (x15_4 + (IntKind.u64.wrap (x13_32 * (IntKind.u64.wrap (rd y359 x17_4)))))) / 4294967296) 1 (wrap64 (x17_4 + 1))) else (e1_long.l3 k4 (l1.length : Int) x7_1 (x8_4.set ((ji54) : Int).toNat ((IntKind.u64.wrap ((IntKind.u64.wrap (rd x8_4 (ji54))) - (IntKind.u64.wrap ((Go.bits .and .u64 (IntKind.u64.wrap (x15_4 + (IntKind.u64.wrap (x13_32 * (IntKind.u64.wrap (rd y359 x17_4)))))) 4294967295) + x16_4)))) % 4294967296)) y359 x10_2 x11_2 x13_32 ((IntKind.u64.wrap (x15_4 + (IntKind.u64.wrap (x13_32 * (IntKind.u64.wrap (rd y359 x17_4)))))) / 4294967296) 0 (wrap64 (x17_4 + 1)))) else (none)) else (none)) = some (r1, r2) := by first | (rw [hji54] at H; exact H) | (simp only [hji54] at H ⊢; exact H)
          have hji54w : (IntKind.i64.wrap (x11_2 + x17_4)) = ji54 := (i64_w _).trans hji54
          by_cases c55 : 0 ≤ (ji54)
          rotate_left
          ·rw [if_neg c55] at H
           exact absurd H (by simp)
          rw [if_pos c55] at H
          have c55b0 := decide_eq_true c55
          clear c55
          by_cases c56 : (ji54) < (x8_4.length : Int)
          rotate_left
          ·rw [if_neg c56] at H
           exact absurd H (by simp)
          rw [if_pos c56] at H
          have c56b0 := decide_eq_true c56
          clear c56
          by_cases c57 : (IntKind.u64.wrap (rd x8_4 (ji54))) < (IntKind.u64.wrap ((Go.bits .and .u64 (IntKind.u64.wrap (x15_4 + (IntKind.u64.wrap (x13_32 * (IntKind.u64.wrap (rd y359 x17_4)))))) 4294967295) + x16_4))
          rotate_left
          ·rw [if_neg c57] at H
           have c57b0 := decide_eq_false c57
           clear c57
           obtain ⟨y375, hy375⟩ : ∃ y_ : List Int, y_ = (x8_4.set ((ji54) : Int).toNat ((IntKind.u64.wrap ((IntKind.u64.wrap (rd x8_4 (ji54))) - (IntKind.u64.wrap ((Go.bits .and .u64 (IntKind.u64.wrap (x15_4 + (IntKind.u64.wrap (x13_32 * (IntKind.u64.wrap (rd y359 x17_4)))))) 4294967295) + x16_4)))) % 4294967296)) := ⟨_, rfl⟩
           replace H : (e1_long.l3 k4 (l1.length : Int) x7_1 y375 y359 x10_2 x11_2 x13_32 ((IntKind.u64.wrap (x15_4 + (IntKind.u64.wrap (x13_32 * (IntKind.u64.wrap (rd y359 x17_4)))))) / 4294967296) 0 (wrap64 (x17_4 + 1))) = some (r1, r2) := by first | (rw [hy375]; with_reducible exact H) | (have H2_ := (Option.bind_some _ _).symm.trans H; rw [hy375]; with_reducible exact H2_) | (have H2_ := (Option.bind_some _ _).symm.trans H; with_reducible exact H2_) | with_reducible exact H | (rw [hy375]; exact H) | exact H
           have Ny375 := Aside0.mk hy375
           clear hy375
           have H' := Aside0.mk H
           clear H
           have p372 : 0 ≤ (x17_4 : Int) := odt
           have q372 : x17_4 < (y359.length : Int) := odt
           obtain ⟨ad372, e372, hx372_0⟩ := Kd.at_int (Kd.R_reads' HO_9.out).2.2 x17_4 p372 q372
           obtain rfl : ad367 = ad372 := (by injection e372)
           replace p372 := eq_true p372
           replace q372 := eq_true q372
           have p373 : 0 ≤ ((ji54) : Int) := odt
           have q373 : (ji54) < (x8_4.length : Int) := odt
           obtain ⟨ad373, e373, hx373_0⟩ := Kd.at_int (Kd.R_reads' HO_8.out).2.2 (ji54) p373 q373
           obtain rfl : ad365 = ad373 := (by injection e373)
           replace p373 := eq_true p373
           replace q373 := eq_true q373
           have p61 : 0 ≤ ((ji54) : Int) := odt
           have q61 : ((ji54) : Int) < ((x8_4.length : Int) : Int) := odt
           obtain ⟨go61, co61, eo61, gb61, gl61, cl61, HG61⟩ := Kd.R_form HO_8.out (by omega)
           (first | cases eo61 | (injection eo61 with ea_ en_ ec_; (first | subst ea_ | (injection ea_ with ea_; subst ea_)); subst ec_; clear en_))
           have GB61 := Aside0.mk gb61
           have GG61 := Aside0.mk HG61
           clear gb61 gl61 HG61
           (first | simp only [add_plain] at hx373_0 | skip)
           obtain ⟨hx61_0, hf61_0⟩ := Kd.R_celln 0 HO_8.out ((ji54) : Int) p61 q61
           replace p61 := eq_true p61
           replace q61 := eq_true q61
           have HP62 := Kd.R_putg HO_8.out ((ji54) : Int) ((IntKind.u64.wrap ((IntKind.u64.wrap (rd x8_4 (ji54))) - (IntKind.u64.wrap ((Go.bits .and .u64 (IntKind.u64.wrap (x15_4 + (IntKind.u64.wrap (x13_32 * (IntKind.u64.wrap (rd y359 x17_4)))))) 4294967295) + x16_4)))) % 4294967296)
           go_wp2_with (first | ((with_reducible refine gate_store (t := 88) (p := 169) rfl ?_); refine store_event (t := 88) (p := 169) (v := ?vo_w63) (w1 := (wr.setCell ⟨go61, ((ji54) : Int).toNat, none⟩ (.int .u32 ((IntKind.u64.wrap ((IntKind.u64.wrap (rd x8_4 (ji54))) - (IntKind.u64.wrap ((Go.bits .and .u64 (IntKind.u64.wrap (x15_4 + (IntKind.u64.wrap (x13_32 * (IntKind.u64.wrap (rd y359 x17_4)))))) 4294967295) + x16_4)))) % 4294967296)))) ?hg ?ho ?hn ?hr ?_; (case ho => rfl); (case hg => rfl); (case hn => rfl); (case hr => first | (go_simp; done) | (go_simp; rfl)); intro w63 hw; have hg : wr.grownBy w63 (some go61) := (by rw [hw]; exact HP62.2); have hp_ : Kd.R (Kd.int .u32) 88 w63 w.heap.size (fun k_ => (w.heap.size ≤ k_) ∧ some k_ ≠ (.slice (some ad367) y359.length co18 : Value).ownBlock ∧ some k_ ≠ (v363 : Value).ownBlock) (.slice (some ⟨go61, 0, none⟩) x8_4.length co35) y375 := (by rw [hw, Ny375.out]; exact HP62.1); clear HP62; replace HO_8 := am (hp_); replace HO_9 := am (Kd.R_after (v := (.slice (some ⟨go61, 0, none⟩) x8_4.length co35)) (v1 := (.slice (some ⟨go61, 0, none⟩) x8_4.length co35)) (ok := (fun k_ => (w.heap.size ≤ k_) ∧ some k_ ≠ (v363 : Value).ownBlock)) (by (with_reducible repeat (first | apply Kd.R_alloc | apply Kd.R_drewN | apply Kd.R_drew)); exact Kd.R_mono HO_9.out (fun _ hk => ⟨⟨hk.1, hk.2.2⟩, hk.2.1⟩)) hg (.inl rfl)); replace HO_10 := am (Kd.R_after (v := (.slice (some ⟨go61, 0, none⟩) x8_4.length co35)) (v1 := (.slice (some ⟨go61, 0, none⟩) x8_4.length co35)) (ok := (fun k_ => (w.heap.size ≤ k_) ∧ some k_ ≠ (.slice (some ad367) y359.length co18 : Value).ownBlock)) (by (with_reducible repeat (first | apply Kd.R_alloc | apply Kd.R_drewN | apply Kd.R_drew)); exact Kd.R_mono HO_10.out (fun _ hk => ⟨⟨hk.1, hk.2.2⟩, hk.2.1⟩)) hg (.inl rfl)); replace HB := am ((by rw [hw]; exact below_set (HB.out) GB61.out : Below w.heap.size w w63)); clear hg hw hp_))
           (try simp only [← hl8_4])
           go_roundg k4
           case measure => have := HK1.out; have := HK2.out; have := HJ32.out; have := HK4.out; omega
           case rel => exact ⟨(y375), ((IntKind.u64.wrap (x15_4 + (IntKind.u64.wrap (x13_32 * (IntKind.u64.wrap (rd y359 x17_4)))))) / 4294967296), (0), (wrap64 (x17_4 + 1)), (by first | rfl | (simp; done) | (simp [*]; done)), (by first | rfl | (simp; done) | (simp [*]; done)), (by first | rfl | (simp; done) | (simp [*]; done)), H', ⟨by have := HK1.out; have := HK2.out; have := HJ32.out; have := HK4.out; omega⟩, ⟨by (try simp only [hl8_4]); (with_reducible repeat (first | apply Kd.R_alloc | apply Kd.R_drewN | apply Kd.R_drew)); exact HO_8.out⟩, ⟨by (try simp only [hl8_4]); (with_reducible repeat (first | apply Kd.R_alloc | apply Kd.R_drewN | apply Kd.R_drew)); exact Kd.R_mono HO_9.out (fun _ hk => ⟨hk.1.1, ⟨hk.2, hk.1.2⟩⟩)⟩, ⟨by (try simp only [hl8_4]); (with_reducible repeat (first | apply Kd.R_alloc | apply Kd.R_drewN | apply Kd.R_drew)); exact Kd.R_mono HO_10.out (fun _ hk => ⟨hk.1.1, ⟨hk.2, hk.1.2⟩⟩)⟩, ⟨bq HB.out⟩⟩
          rw [if_pos c57] at H
          have c57b0 := decide_eq_true c57
          clear c57
          obtain ⟨y374, hy374⟩ : ∃ y_ : List Int, y_ = (x8_4.set ((ji54) : Int).toNat ((IntKind.u64.wrap ((IntKind.u64.wrap ((IntKind.u64.wrap (rd x8_4 (ji54))) + 4294967296)) - (IntKind.u64.wrap ((Go.bits .and .u64 (IntKind.u64.wrap (x15_4 + (IntKind.u64.wrap (x13_32 * (IntKind.u64.wrap (rd y359 x17_4)))))) 4294967295) + x16_4)))) % 4294967296)) := ⟨_, rfl⟩
          replace H : (e1_long.l3 k4 (l1.length : Int) x7_1 y374 y359 x10_2 x11_2 x13_32 ((IntKind.u64.wrap (x15_4 + (IntKind.u64.wrap (x13_32 * (IntKind.u64.wrap (rd y359 x17_4)))))) / 4294967296) 1 (wrap64 (x17_4 + 1))) = some (r1, r2) := by first | (rw [hy374]; with_reducible exact H) | (have H2_ := (Option.bind_some _ _).symm.trans H; rw [hy374]; with_reducible exact H2_) | (have H2_ := (Option.bind_some _ _).symm.trans H; with_reducible exact H2_) | with_reducible exact H | (rw [hy374]; exact H) | exact H
          have Ny374 := Aside0.mk hy374
          clear hy374
          have H' := Aside0.mk H
          clear H
          have p372 : 0 ≤ (x17_4 : Int) := odt
          have q372 : x17_4 < (y359.length : Int) := odt
          obtain ⟨ad372, e372, hx372_0⟩ := Kd.at_int (Kd.R_reads' HO_9.out).2.2 x17_4 p372 q372
          obtain rfl : ad367 = ad372 := (by injection e372)
          replace p372 := eq_true p372
          replace q372 := eq_true q372
          have p373 : 0 ≤ ((ji54) : Int) := odt
          have q373 : (ji54) < (x8_4.length : Int) := odt
          obtain ⟨ad373, e373, hx373_0⟩ := Kd.at_int (Kd.R_reads' HO_8.out).2.2 (ji54) p373 q373
          obtain rfl : ad365 = ad373 := (by injection e373)
          replace p373 := eq_true p373
          replace q373 := eq_true q373
          have p58 : 0 ≤ ((ji54) : Int) := odt
          have q58 : ((ji54) : Int) < ((x8_4.length : Int) : Int) := odt
          obtain ⟨go58, co58, eo58, gb58, gl58, cl58, HG58⟩ := Kd.R_form HO_8.out (by omega)
          (first | cases eo58 | (injection eo58 with ea_ en_ ec_; (first | subst ea_ | (injection ea_ with ea_; subst ea_)); subst ec_; clear en_))
          have GB58 := Aside0.mk gb58
          have GG58 := Aside0.mk HG58
          clear gb58 gl58 HG58
          (first | simp only [add_plain] at hx365_0 | skip)
          (first | simp only [add_plain] at hx366_0 | skip)
          (first | simp only [add_plain] at hx370_0 | skip)
          (first | simp only [add_plain] at hx373_0 | skip)
          obtain ⟨hx58_0, hf58_0⟩ := Kd.R_celln 0 HO_8.out ((ji54) : Int) p58 q58
          replace p58 := eq_true p58
          replace q58 := eq_true q58
          have HP59 := Kd.R_putg HO_8.out ((ji54) : Int) ((IntKind.u64.wrap ((IntKind.u64.wrap ((IntKind.u64.wrap (rd x8_4 (ji54))) + 4294967296)) - (IntKind.u64.wrap ((Go.bits .and .u64 (IntKind.u64.wrap (x15_4 + (IntKind.u64.wrap (x13_32 * (IntKind.u64.wrap (rd y359 x17_4)))))) 4294967295) + x16_4)))) % 4294967296)
          go_wp2_with (first | ((with_reducible refine gate_store (t := 88) (p := 169) rfl ?_); refine store_event (t := 88) (p := 169) (v := ?vo_w60) (w1 := (wr.setCell ⟨go58, ((ji54) : Int).toNat, none⟩ (.int .u32 ((IntKind.u64.wrap ((IntKind.u64.wrap ((IntKind.u64.wrap (rd x8_4 (ji54))) + 4294967296)) - (IntKind.u64.wrap ((Go.bits .and .u64 (IntKind.u64.wrap (x15_4 + (IntKind.u64.wrap (x13_32 * (IntKind.u64.wrap (rd y359 x17_4)))))) 4294967295) + x16_4)))) % 4294967296)))) ?hg ?ho ?hn ?hr ?_; (case ho => rfl); (case hg => rfl); (case hn => rfl); (case hr => first | (go_simp; done) | (go_simp; rfl)); intro w60 hw; have hg : wr.grownBy w60 (some go58) := (by rw [hw]; exact HP59.2); have hp_ : Kd.R (Kd.int .u32) 88 w60 w.heap.size (fun k_ => (w.heap.size ≤ k_) ∧ some k_ ≠ (.slice (some ad367) y359.length co18 : Value).ownBlock ∧ some k_ ≠ (v363 : Value).ownBlock) (.slice (some ⟨go58, 0, none⟩) x8_4.length co35) y374 := (by rw [hw, Ny374.out]; exact HP59.1); clear HP59; replace HO_8 := am (hp_); replace HO_9 := am (Kd.R_after (v := (.slice (some ⟨go58, 0, none⟩) x8_4.length co35)) (v1 := (.slice (some ⟨go58, 0, none⟩) x8_4.length co35)) (ok := (fun k_ => (w.heap.size ≤ k_) ∧ some k_ ≠ (v363 : Value).ownBlock)) (by (with_reducible repeat (first | apply Kd.R_alloc | apply Kd.R_drewN | apply Kd.R_drew)); exact Kd.R_mono HO_9.out (fun _ hk => ⟨⟨hk.1, hk.2.2⟩, hk.2.1⟩)) hg (.inl rfl)); replace HO_10 := am (Kd.R_after (v := (.slice (some ⟨go58, 0, none⟩) x8_4.length co35)) (v1 := (.slice (some ⟨go58, 0, none⟩) x8_4.length co35)) (ok := (fun k_ => (w.heap.size ≤ k_) ∧ some k_ ≠ (.slice (some ad367) y359.length co18 : Value).ownBlock)) (by (with_reducible repeat (first | apply Kd.R_alloc | apply Kd.R_drewN | apply Kd.R_drew)); exact Kd.R_mono HO_10.out (fun _ hk => ⟨⟨hk.1, hk.2.2⟩, hk.2.1⟩)) hg (.inl rfl)); replace HB := am ((by rw [hw]; exact below_set (HB.out) GB58.out : Below w.heap.size w w60)); clear hg hw hp_))
          (try simp only [← hl8_4])
          go_roundg k4
          case measure => have := HK1.out; have := HK2.out; have := HJ32.out; have := HK4.out; omega
          case rel => exact ⟨(y374), ((IntKind.u64.wrap (x15_4 + (IntKind.u64.wrap (x13_32 * (IntKind.u64.wrap (rd y359 x17_4)))))) / 4294967296), (1), (wrap64 (x17_4 + 1)), (by first | rfl | (simp; done) | (simp [*]; done)), (by first | rfl | (simp; done) | (simp [*]; done)), (by first | rfl | (simp; done) | (simp [*]; done)), H', ⟨by have := HK1.out; have := HK2.out; have := HJ32.out; have := HK4.out; omega⟩, ⟨by (try simp only [hl8_4]); (with_reducible repeat (first | apply Kd.R_alloc | apply Kd.R_drewN | apply Kd.R_drew)); exact HO_8.out⟩, ⟨by (try simp only [hl8_4]); (with_reducible repeat (first | apply Kd.R_alloc | apply Kd.R_drewN | apply Kd.R_drew)); exact Kd.R_mono HO_9.out (fun _ hk => ⟨hk.1.1, ⟨hk.2, hk.1.2⟩⟩)⟩, ⟨by (try simp only [hl8_4]); (with_reducible repeat (first | apply Kd.R_alloc | apply Kd.R_drewN | apply Kd.R_drew)); exact Kd.R_mono HO_10.out (fun _ hk => ⟨hk.1.1, ⟨hk.2, hk.1.2⟩⟩)⟩, ⟨bq HB.out⟩⟩
         rw [if_neg c51] at H
         have c51b0 := decide_eq_false c51
         clear c51
         have hji64 := hji23
         replace H : (if 0 ≤ (ji23) then (if (ji23) < (x8_4.length : Int) then ((some (x8_4.set ((ji23) : Int).toNat ((IntKind.u64.wrap ((IntKind.u64.wrap (rd x8_4 (ji23))) - (IntKind.u64.wrap (x15_4 + x16_4)))) % 4294967296) : List Int)).bind fun y377 => (if (IntKind.u64.wrap (rd x8_4 (ji23))) < (IntKind.u64.wrap (x15_4 + x16_4)) then (e1_long.l4 k4 (l1.length : Int) x7_1 y377 y359 x10_2 x11_2 (IntKind.u64.wrap (x13_32 - 1)) 0 0) else (if 0 ≤ x11_2 then (if x11_2 < (x10_2.length : Int) then (e1_long.l1 k4 (l1.length : Int) x7_1 y377 y359 (x10_2.set (x11_2 : Int).toNat ((x13_32) % 4294967296)) (wrap64 (x11_2 - 1))) else (none)) else (none)))) else (none)) else (none)) = some (r1, r2) := by first | (rw [hji64] at H; exact H) | (simp only [hji64] at H ⊢; exact H)
         have hji64w : (IntKind.i64.wrap (x11_2 + (l1.length : Int))) = ji23 := (i64_w _).trans hji64
         by_cases c65 : 0 ≤ (ji23)
         rotate_left
         ·rw [if_neg c65] at H
          exact absurd H (by simp)
         rw [if_pos c65] at H
         have c65b0 := decide_eq_true c65
         clear c65
         by_cases c66 : (ji23) < (x8_4.length : Int)
         rotate_left
         ·rw [if_neg c66] at H
          exact absurd H (by simp)
         rw [if_pos c66] at H
         have c66b0 := decide_eq_true c66
         clear c66
         obtain ⟨y377, hy377⟩ : ∃ y_ : List Int, y_ = (x8_4.set ((ji23) : Int).toNat ((IntKind.u64.wrap ((IntKind.u64.wrap (rd x8_4 (ji23))) - (IntKind.u64.wrap (x15_4 + x16_4)))) % 4294967296)) := ⟨_, rfl⟩
         replace H : (if (IntKind.u64.wrap (rd x8_4 (ji23))) < (IntKind.u64.wrap (x15_4 + x16_4)) then (e1_long.l4 k4 (l1.length : Int) x7_1 y377 y359 x10_2 x11_2 (IntKind.u64.wrap (x13_32 - 1)) 0 0) else (if 0 ≤ x11_2 then (if x11_2 < (x10_2.length : Int) then (e1_long.l1 k4 (l1.length : Int) x7_1 y377 y359 (x10_2.set (x11_2 : Int).toNat ((x13_32) % 4294967296)) (wrap64 (x11_2 - 1))) else (none)) else (none))) = some (r1, r2) := by first | (rw [hy377]; with_reducible exact H) | (have H2_ := (Option.bind_some _ _).symm.trans H; rw [hy377]; with_reducible exact H2_) | (have H2_ := (Option.bind_some _ _).symm.trans H; with_reducible exact H2_) | with_reducible exact H | (rw [hy377]; exact H) | exact H
         have Ny377 := Aside0.mk hy377
         clear hy377
         by_cases c68 : (IntKind.u64.wrap (rd x8_4 (ji23))) < (IntKind.u64.wrap (x15_4 + x16_4))
         rotate_left
         ·rw [if_neg c68] at H
          have c68b0 := decide_eq_false c68
          clear c68
          by_cases c92 : 0 ≤ x11_2
          rotate_left
          ·rw [if_neg c92] at H
           exact absurd H (by simp)
          rw [if_pos c92] at H
          have c92b0 := decide_eq_true c92
          clear c92
          by_cases c93 : x11_2 < (x10_2.length : Int)
          rotate_left
          ·rw [if_neg c93] at H
           exact absurd H (by simp)
          rw [if_pos c93] at H
          have c93b0 := decide_eq_true c93
          clear c93
          obtain ⟨y384, hy384⟩ : ∃ y_ : List Int, y_ = (x10_2.set (x11_2 : Int).toNat ((x13_32) % 4294967296)) := ⟨_, rfl⟩
          replace H : (e1_long.l1 k4 (l1.length : Int) x7_1 y377 y359 y384 (wrap64 (x11_2 - 1))) = some (r1, r2) := by first | (rw [hy384]; with_reducible exact H) | (have H2_ := (Option.bind_some _ _).symm.trans H; rw [hy384]; with_reducible exact H2_) | (have H2_ := (Option.bind_some _ _).symm.trans H; with_reducible exact H2_) | with_reducible exact H | (rw [hy384]; exact H) | exact H
          have Ny384 := Aside0.mk hy384
          clear hy384
          have H' := Aside0.mk H
          clear H
          have p376 : 0 ≤ ((ji23) : Int) := odt
          have q376 : (ji23) < (x8_4.length : Int) := odt
          obtain ⟨ad376, e376, hx376_0⟩ := Kd.at_int (Kd.R_reads' HO_8.out).2.2 (ji23) p376 q376
          obtain rfl : ad365 = ad376 := (by injection e376)
          replace p376 := eq_true p376
          replace q376 := eq_true q376
          have p67 : 0 ≤ ((ji23) : Int) := odt
          have q67 : ((ji23) : Int) < ((x8_4.length : Int) : Int) := odt
          obtain ⟨go67, co67, eo67, gb67, gl67, cl67, HG67⟩ := Kd.R_form HO_8.out (by omega)
          (first | cases eo67 | (injection eo67 with ea_ en_ ec_; (first | subst ea_ | (injection ea_ with ea_; subst ea_)); subst ec_; clear en_))
          have GB67 := Aside0.mk gb67
          have GG67 := Aside0.mk HG67
          clear gb67 gl67 HG67
          (first | simp only [add_plain] at hx376_0 | skip)
          obtain ⟨hx67_0, hf67_0⟩ := Kd.R_celln 0 HO_8.out ((ji23) : Int) p67 q67
          replace p67 := eq_true p67
          replace q67 := eq_true q67
          have HP95 := Kd.R_putg HO_8.out ((ji23) : Int) ((IntKind.u64.wrap ((IntKind.u64.wrap (rd x8_4 (ji23))) - (IntKind.u64.wrap (x15_4 + x16_4)))) % 4294967296)
          go_wp2_with (first | ((with_reducible refine gate_store (t := 88) (p := 191) rfl ?_); refine store_event (t := 88) (p := 191) (v := ?vo_w96) (w1 := (wr.setCell ⟨go67, ((ji23) : Int).toNat, none⟩ (.int .u32 ((IntKind.u64.wrap ((IntKind.u64.wrap (rd x8_4 (ji23))) - (IntKind.u64.wrap (x15_4 + x16_4)))) % 4294967296)))) ?hg ?ho ?hn ?hr ?_; (case ho => rfl); (case hg => rfl); (case hn => rfl); (case hr => first | (go_simp; done) | (go_simp; rfl)); intro w96 hw; have hg : wr.grownBy w96 (some go67) := (by rw [hw]; exact HP95.2); have hp_ : Kd.R (Kd.int .u32) 88 w96 w.heap.size (fun k_ => (w.heap.size ≤ k_) ∧ some k_ ≠ (.slice (some ad367) y359.length co18 : Value).ownBlock ∧ some k_ ≠ (v363 : Value).ownBlock) (.slice (some ⟨go67, 0, none⟩) x8_4.length co35) y377 := (by rw [hw, Ny377.out]; exact HP95.1); clear HP95; replace HO_8 := am (hp_); replace HO_9 := am (Kd.R_after (v := (.slice (some ⟨go67, 0, none⟩) x8_4.length co35)) (v1 := (.slice (some ⟨go67, 0, none⟩) x8_4.length co35)) (ok := (fun k_ => (w.heap.size ≤ k_) ∧ some k_ ≠ (v363 : Value).ownBlock)) (by (with_reducible repeat (first | apply Kd.R_alloc | apply Kd.R_drewN | apply Kd.R_drew)); exact Kd.R_mono HO_9.out (fun _ hk => ⟨⟨hk.1, hk.2.2⟩, hk.2.1⟩)) hg (.inl rfl)); replace HO_10 := am (Kd.R_after (v := (.slice (some ⟨go67, 0, none⟩) x8_4.length co35)) (v1 := (.slice (some ⟨go67, 0, none⟩) x8_4.length co35)) (ok := (fun k_ => (w.heap.size ≤ k_) ∧ some k_ ≠ (.slice (some ad367) y359.length co18 : Value).ownBlock)) (by (with_reducible repeat (first | apply Kd.R_alloc | apply Kd.R_drewN | apply Kd.R_drew)); exact Kd.R_mono HO_10.out (fun _ hk => ⟨⟨hk.1, hk.2.2⟩, hk.2.1⟩)) hg (.inl rfl)); replace HB := am ((by rw [hw]; exact below_set (HB.out) GB67.out : Below w.heap.size w w96)); clear hg hw hp_; have p94 : 0 ≤ (x11_2 : Int) := odt; have q94 : (x11_2 : Int) < ((x10_2.length : Int) : Int) := odt; obtain ⟨go94, co94, eo94, gb94, gl94, cl94, HG94⟩ := Kd.R_form HO_10.out (by omega); (first | cases eo94 | (injection eo94 with ea_ en_ ec_; (first | subst ea_ | (injection ea_ with ea_; subst ea_)); subst ec_; clear en_)); have GB94 := Aside0.mk gb94; have GG94 := Aside0.mk HG94; clear gb94 gl94 HG94; obtain ⟨hx94_0, hf94_0⟩ := Kd.R_celln 0 HO_10.out (x11_2 : Int) p94 q94; replace p94 := eq_true p94; replace q94 := eq_true q94; have n_ := Aside0.mk (Kd.R_mono (ok' := (fun k_ => (w.heap.size ≤ k_) ∧ some k_ ≠ (.slice (some ⟨go67, 0, none⟩) x8_4.length co35 : Value).ownBlock ∧ some k_ ≠ (.slice (some ad367) y359.length co18 : Value).ownBlock)) HO_10.out (fun k_ hk => ⟨hk.1.1, ⟨hk.2, hk.1.2⟩⟩)); clear HO_10; have HO_10 := n_; clear n_; obtain ⟨hy97_, hz97_⟩ := Kd.R_celln 0 HO_10.out (x11_2 : Int) odt odt; have HP97 := Kd.R_putg HO_10.out (x11_2 : Int) ((x13_32) % 4294967296)) | ((with_reducible refine gate_store (t := 88) (p := 242) rfl ?_); refine store_event (t := 88) (p := 242) (v := ?vo_w98) (w1 := (w96.setCell ⟨go94, (x11_2 : Int).toNat, none⟩ (.int .u32 ((x13_32) % 4294967296)))) ?hg ?ho ?hn ?hr ?_; (case ho => rfl); (case hg => rfl); (case hn => rfl); (case hr => first | (go_simp; done) | (go_simp; rfl)); intro w98 hw; have hg : w96.grownBy w98 (some go94) := (by rw [hw]; exact HP97.2); have hp_ : Kd.R (Kd.int .u32) 88 w98 w.heap.size (fun k_ => (w.heap.size ≤ k_) ∧ some k_ ≠ (.slice (some ⟨go67, 0, none⟩) x8_4.length co35 : Value).ownBlock ∧ some k_ ≠ (.slice (some ad367) y359.length co18 : Value).ownBlock) (.slice (some ⟨go94, 0, none⟩) x10_2.length co94) y384 := (by rw [hw, Ny384.out]; exact HP97.1); clear HP97; replace HO_8 := am (Kd.R_after (v := (.slice (some ⟨go94, 0, none⟩) x10_2.length co94)) (v1 := (.slice (some ⟨go94, 0, none⟩) x10_2.length co94)) (ok := (fun k_ => (w.heap.size ≤ k_) ∧ some k_ ≠ (.slice (some ad367) y359.length co18 : Value).ownBlock)) (by (with_reducible repeat (first | apply Kd.R_alloc | apply Kd.R_drewN | apply Kd.R_drew)); exact Kd.R_mono HO_8.out (fun _ hk => ⟨⟨hk.1, hk.2.1⟩, hk.2.2⟩)) hg (.inl rfl)); replace HO_9 := am (Kd.R_after (v := (.slice (some ⟨go94, 0, none⟩) x10_2.length co94)) (v1 := (.slice (some ⟨go94, 0, none⟩) x10_2.length co94)) (ok := (fun k_ => (w.heap.size ≤ k_) ∧ some k_ ≠ (.slice (some ⟨go67, 0, none⟩) x8_4.length co35 : Value).ownBlock)) (by (with_reducible repeat (first | apply Kd.R_alloc | apply Kd.R_drewN | apply Kd.R_drew)); exact Kd.R_mono HO_9.out (fun _ hk => ⟨⟨hk.1.1, hk.2⟩, hk.1.2⟩)) hg (.inl rfl)); replace HO_10 := am (hp_); replace HB := am ((by rw [hw]; exact below_set (HB.out) GB94.out : Below w.heap.size w w98)); clear hg hw hp_))
          (try simp only [← hl8_4])
          go_roundg k4
          case measure => have := HK1.out; have := HK2.out; have := HJ32.out; have := HK4.out; omega
          case rel => exact ⟨(y377), (y384), (wrap64 (x11_2 - 1)), (by first | rfl | (simp; done) | (simp [*]; done)), H', ⟨by have := HK1.out; have := HK2.out; have := HJ32.out; have := HK4.out; omega⟩, ⟨by (try simp only [hl8_4]); (with_reducible repeat (first | apply Kd.R_alloc | apply Kd.R_drewN | apply Kd.R_drew)); exact Kd.R_mono HO_8.out (fun _ hk => ⟨hk.1.1, ⟨hk.1.2, hk.2⟩⟩)⟩, ⟨by (try simp only [hl8_4]); (with_reducible repeat (first | apply Kd.R_alloc | apply Kd.R_drewN | apply Kd.R_drew)); exact Kd.R_mono HO_9.out (fun _ hk => ⟨hk.1.1, ⟨hk.1.2, hk.2⟩⟩)⟩, ⟨by (try simp only [hl8_4]); (with_reducible repeat (first | apply Kd.R_alloc | apply Kd.R_drewN | apply Kd.R_drew)); exact HO_10.out⟩, ⟨bq HB.out⟩⟩
         rw [if_pos c68] at H
         have c68b0 := decide_eq_true c68
         clear c68
         have H' := Aside0.mk H
         clear H
         have p376 : 0 ≤ ((ji23) : Int) := odt
         have q376 : (ji23) < (x8_4.length : Int) := odt
         obtain ⟨ad376, e376, hx376_0⟩ := Kd.at_int (Kd.R_reads' HO_8.out).2.2 (ji23) p376 q376
         obtain rfl : ad365 = ad376 := (by injection e376)
         replace p376 := eq_true p376
         replace q376 := eq_true q376
         have p67 : 0 ≤ ((ji23) : Int) := odt
         have q67 : ((ji23) : Int) < ((x8_4.length : Int) : Int) := odt
         obtain ⟨go67, co67, eo67, gb67, gl67, cl67, HG67⟩ := Kd.R_form HO_8.out (by omega)
         (first | cases eo67 | (injection eo67 with ea_ en_ ec_; (first | subst ea_ | (injection ea_ with ea_; subst ea_)); subst ec_; clear en_))
         have GB67 := Aside0.mk gb67
         have GG67 := Aside0.mk HG67
         clear gb67 gl67 HG67
         (first | simp only [add_plain] at hx376_0 | skip)
         obtain ⟨hx67_0, hf67_0⟩ := Kd.R_celln 0 HO_8.out ((ji23) : Int) p67 q67
         replace p67 := eq_true p67
         replace q67 := eq_true q67
         have HP69 := Kd.R_putg HO_8.out ((ji23) : Int) ((IntKind.u64.wrap ((IntKind.u64.wrap (rd x8_4 (ji23))) - (IntKind.u64.wrap (x15_4 + x16_4)))) % 4294967296)
         go_wp2_with (first | ((with_reducible refine gate_store (t := 88) (p := 191) rfl ?_); refine store_event (t := 88) (p := 191) (v := ?vo_w70) (w1 := (wr.setCell ⟨go67, ((ji23) : Int).toNat, none⟩ (.int .u32 ((IntKind.u64.wrap ((IntKind.u64.wrap (rd x8_4 (ji23))) - (IntKind.u64.wrap (x15_4 + x16_4)))) % 4294967296)))) ?hg ?ho ?hn ?hr ?_; (case ho => rfl); (case hg => rfl); (case hn => rfl); (case hr => first | (go_simp; done) | (go_simp; rfl)); intro w70 hw; have hg : wr.grownBy w70 (some go67) := (by rw [hw]; exact HP69.2); have hp_ : Kd.R (Kd.int .u32) 88 w70 w.heap.size (fun k_ => (w.heap.size ≤ k_) ∧ some k_ ≠ (.slice (some ad367) y359.length co18 : Value).ownBlock ∧ some k_ ≠ (v363 : Value).ownBlock) (.slice (some ⟨go67, 0, none⟩) x8_4.length co35) y377 := (by rw [hw, Ny377.out]; exact HP69.1); clear HP69; replace HO_8 := am (hp_); replace HO_9 := am (Kd.R_after (v := (.slice (some ⟨go67, 0, none⟩) x8_4.length co35)) (v1 := (.slice (some ⟨go67, 0, none⟩) x8_4.length co35)) (ok := (fun k_ => (w.heap.size ≤ k_) ∧ some k_ ≠ (v363 : Value).ownBlock)) (by (with_reducible repeat (first | apply Kd.R_alloc | apply Kd.R_drewN | apply Kd.R_drew)); exact Kd.R_mono HO_9.out (fun _ hk => ⟨⟨hk.1, hk.2.2⟩, hk.2.1⟩)) hg (.inl rfl)); replace HO_10 := am (Kd.R_after (v := (.slice (some ⟨go67, 0, none⟩) x8_4.length co35)) (v1 := (.slice (some ⟨go67, 0, none⟩) x8_4.length co35)) (ok := (fun k_ => (w.heap.size ≤ k_) ∧ some k_ ≠ (.slice (some ad367) y359.length co18 : Value).ownBlock)) (by (with_reducible repeat (first | apply Kd.R_alloc | apply Kd.R_drewN | apply Kd.R_drew)); exact Kd.R_mono HO_10.out (fun _ hk => ⟨⟨hk.1, hk.2.2⟩, hk.2.1⟩)) hg (.inl rfl)); replace HB := am ((by rw [hw]; exact below_set (HB.out) GB67.out : Below w.heap.size w w70)); clear hg hw hp_))
         (try generalize Value.pointer (some (Addr.add ad365 ji23.toNat)) = dp0_)
         (try generalize Value.pointer (some (Addr.add ad365 ji26.toNat)) = dp1_)
         (try generalize Value.pointer (some (Addr.add ad365 ji42.toNat)) = dp2_)
         (try generalize Value.pointer (some (Addr.add ad376 ji23.toNat)) = dp3_)
         go_loopg [15, 23] k4 (fun kq v15 v23 w' => ∃ (x8_5 : List Int) (x15_5 : Int) (x23_5 : Int), v15 = .int .u64 x15_5 ∧ v23 = .int .i64 x23_5 ∧ Aside0 (e1_long.l4 kq (l1.length : Int) x7_1 x8_5 y359 x10_2 x11_2 (IntKind.u64.wrap (x13_32 - 1)) x15_5 x23_5 = some (r1, r2)) ∧ Aside0 (kq ≤ k4) ∧ Aside0 (Kd.R (Kd.int .u32) 88 w' w.heap.size (fun k_ => (w.heap.size ≤ k_) ∧ some k_ ≠ ((.slice (some ad367) y359.length co18) : Value).ownBlock ∧ some k_ ≠ (v363 : Value).ownBlock) (.slice (some ⟨go67, 0, none⟩) x8_4.length co35) x8_5) ∧ Aside0 (Kd.R (Kd.int .u32) 88 w' w.heap.size (fun k_ => (w.heap.size ≤ k_) ∧ some k_ ≠ ((.slice (some ⟨go67, 0, none⟩) x8_4.length co35) : Value).ownBlock ∧ some k_ ≠ (v363 : Value).ownBlock) (.slice (some ad367) y359.length co18) y359) ∧ Aside0 (Kd.R (Kd.int .u32) 88 w' w.heap.size (fun k_ => (w.heap.size ≤ k_) ∧ some k_ ≠ ((.slice (some ⟨go67, 0, none⟩) x8_4.length co35) : Value).ownBlock ∧ some k_ ≠ ((.slice (some ad367) y359.length co18) : Value).ownBlock) v363 x10_2) ∧ Aside0 (Below w.heap.size w w'))
         case atStart => exact ⟨(y377), (0), (0), (by first | rfl | (simp; done) | (simp [*]; done)), (by first | rfl | (simp; done) | (simp [*]; done)), H', ⟨Nat.le_refl _⟩, ⟨by (try simp only [hl8_4]); (with_reducible repeat (first | apply Kd.R_alloc | apply Kd.R_drewN | apply Kd.R_drew)); exact HO_8.out⟩, ⟨by (try simp only [hl8_4]); (with_reducible repeat (first | apply Kd.R_alloc | apply Kd.R_drewN | apply Kd.R_drew)); exact Kd.R_mono HO_9.out (fun _ hk => ⟨hk.1.1, ⟨hk.2, hk.1.2⟩⟩)⟩, ⟨by (try simp only [hl8_4]); (with_reducible repeat (first | apply Kd.R_alloc | apply Kd.R_drewN | apply Kd.R_drew)); exact Kd.R_mono HO_10.out (fun _ hk => ⟨hk.1.1, ⟨hk.2, hk.1.2⟩⟩)⟩, ⟨bq HB.out⟩⟩
         case round =>
          clear H'
          try clear c1
          try clear q1
          try clear c2
          try clear p2
          try clear c3
          try clear p3
          try clear q3
          try clear hx3
          try clear c4
          try clear c4b0
          try clear c5
          try clear c5b0
          try clear p5
          try clear q5
          try clear hx5
          try clear hf5
          try clear c6
          try clear c6b0
          try clear c6b1
          try clear p6
          try clear q6
          try clear hx6
          try clear hf6
          try clear c8
          try clear c8b0
          try clear c9
          try clear c11
          try clear c11b0
          try clear c11b1
          try clear c12
          try clear c12b0
          try clear c12b1
          try clear c14
          try clear c14b0
          try clear c14b1
          try clear c15
          try clear c15b0
          try clear c15b1
          try clear q19
          try clear c22
          try clear c22b0
          try clear c24
          try clear c24b0
          try clear c25
          try clear c25b0
          try clear c27
          try clear c27b0
          try clear c28
          try clear c28b0
          try clear c30
          try clear c30b0
          try clear c31
          try clear c31b0
          try clear c32
          try clear c32b0
          try clear c32b1
          try clear p35
          try clear q35
          try clear hx35
          try clear p36
          try clear q36
          try clear hx36
          try clear c37
          try clear c37b0
          try clear p37
          try clear q37
          try clear hx37
          try clear c40
          try clear c40b0
          try clear c41
          try clear c41b0
          try clear c43
          try clear c43b0
          try clear c44
          try clear c44b0
          try clear c46
          try clear c48
          try clear c48b0
          try clear c49
          try clear c49b0
          try clear c50
          try clear c50b0
          try clear c51
          try clear c51b0
          try clear c52
          try clear c52b0
          try clear c53
          try clear c53b0
          try clear c55
          try clear c55b0
          try clear c56
          try clear c56b0
          try clear c57
          try clear c57b0
          try clear p58
          try clear q58
          try clear hx58
          try clear hf58
          try clear p61
          try clear q61
          try clear hx61
          try clear hf61
          try clear p64
          try clear c65
          try clear c65b0
          try clear c66
          try clear c66b0
          try clear p67
          try clear q67
          try clear hx67
          try clear hf67
          try clear c68
          try clear c68b0
          try clear hx352_0
          try clear hx365_0
          try clear hx366_0
          try clear hx367_0
          try clear hx368_0
          try clear hx369_0
          try clear hx370_0
          try clear hx371_0
          try clear hx372_0
          try clear hx373_0
          try clear hx376_0
          try clear hx58_0
          try clear hx61_0
          try clear hx67_0
          try clear p2
          try clear p3
          try clear p35
          try clear p352
          try clear p36
          try clear p365
          try clear p366
          try clear p367
          try clear p368
          try clear p369
          try clear p37
          try clear p370
          try clear p371
          try clear p372
          try clear p373
          try clear p376
          try clear p58
          try clear p6
          try clear p61
          try clear p67
          try clear q1
          try clear q19
          try clear q3
          try clear q35
          try clear q352
          try clear q36
          try clear q365
          try clear q366
          try clear q367
          try clear q368
          try clear q369
          try clear q37
          try clear q370
          try clear q371
          try clear q372
          try clear q373
          try clear q376
          try clear q58
          try clear q61
          try clear q67
          obtain ⟨x8_5, x15_5, x23_5, rfl, rfl, HA, HK5, HO_8, HO_9, HO_10, HB⟩ := hrel
          have hl8_5 := (Kd.R_reads' HO_8.out).1
          rw [hl8_5] at HO_8
          (try simp only [hl8_5])
          (try simp only [hl8_5] at HO_9)
          (try simp only [hl8_5] at HO_10)
          cases gk with
          | zero => exact absurd HA.out (by simp [e1_long.l4])
          | succ k5 =>
           have H := HA.out
           clear HA
           simp only [e1_long.l4] at H
           by_cases c71 : x23_5 < (l1.length : Int)
           rotate_left
           ·rw [if_neg c71] at H
            have c71b0 := decide_eq_false c71
            clear c71
            have hji81 := hji23
            replace H : (if 0 ≤ (ji23) then (if (ji23) < (x8_5.length : Int) then (if 0 ≤ x11_2 then (if x11_2 < (x10_2.length : Int) then (e1_long.l1 k5 (l1.length : Int) x7_1 (x8_5.set ((ji23) : Int).toNat (((rd x8_5 (ji23)) + ((x15_5) % 4294967296)) % 4294967296)) y359 (x10_2.set (x11_2 : Int).toNat (((IntKind.u64.wrap (x13_32 - 1))) % 4294967296)) (wrap64 (x11_2 - 1))) else (none)) else (none)) else (none)) else (none)) = some (r1, r2) := by first | (rw [hji81] at H; exact H) | (simp only [hji81] at H ⊢; exact H)
            have hji81w : (IntKind.i64.wrap (x11_2 + (l1.length : Int))) = ji23 := (i64_w _).trans hji81
            by_cases c82 : 0 ≤ (ji23)
            rotate_left
            ·rw [if_neg c82] at H
             exact absurd H (by simp)
            rw [if_pos c82] at H
            have c82b0 := decide_eq_true c82
            clear c82
            by_cases c83 : (ji23) < (x8_5.length : Int)
            rotate_left
            ·rw [if_neg c83] at H
             exact absurd H (by simp)
            rw [if_pos c83] at H
            have c83b0 := decide_eq_true c83
            clear c83
            obtain ⟨y382, hy382⟩ : ∃ y_ : List Int, y_ = (x8_5.set ((ji23) : Int).toNat (((rd x8_5 (ji23)) + ((x15_5) % 4294967296)) % 4294967296)) := ⟨_, rfl⟩
            replace H : (if 0 ≤ x11_2 then (if x11_2 < (x10_2.length : Int) then (e1_long.l1 k5 (l1.length : Int) x7_1 y382 y359 (x10_2.set (x11_2 : Int).toNat (((IntKind.u64.wrap (x13_32 - 1))) % 4294967296)) (wrap64 (x11_2 - 1))) else (none)) else (none)) = some (r1, r2) := by first | (rw [hy382]; with_reducible exact H) | (have H2_ := (Option.bind_some _ _).symm.trans H; rw [hy382]; with_reducible exact H2_) | (have H2_ := (Option.bind_some _ _).symm.trans H; with_reducible exact H2_) | with_reducible exact H | (rw [hy382]; exact H) | exact H
            have Ny382 := Aside0.mk hy382
            clear hy382
            by_cases c85 : 0 ≤ x11_2
            rotate_left
            ·rw [if_neg c85] at H
             exact absurd H (by simp)
            rw [if_pos c85] at H
            have c85b0 := decide_eq_true c85
            clear c85
            by_cases c86 : x11_2 < (x10_2.length : Int)
            rotate_left
            ·rw [if_neg c86] at H
             exact absurd H (by simp)
            rw [if_pos c86] at H
            have c86b0 := decide_eq_true c86
            clear c86
            obtain ⟨y383, hy383⟩ : ∃ y_ : List Int, y_ = (x10_2.set (x11_2 : Int).toNat (((IntKind.u64.wrap (x13_32 - 1))) % 4294967296)) := ⟨_, rfl⟩
            replace H : (e1_long.l1 k5 (l1.length : Int) x7_1 y382 y359 y383 (wrap64 (x11_2 - 1))) = some (r1, r2) := by first | (rw [hy383]; with_reducible exact H) | (have H2_ := (Option.bind_some _ _).symm.trans H; rw [hy383]; with_reducible exact H2_) | (have H2_ := (Option.bind_some _ _).symm.trans H; with_reducible exact H2_) | with_reducible exact H | (rw [hy383]; exact H) | exact H
            have Ny383 := Aside0.mk hy383
            clear hy383
            have H' := Aside0.mk H
            clear H
            have p381 : 0 ≤ ((ji23) : Int) := odt
            have q381 : (ji23) < (x8_5.length : Int) := odt
            obtain ⟨ad381, e381, hx381_0⟩ := Kd.at_int (Kd.R_reads' HO_8.out).2.2 (ji23) p381 q381
            obtain rfl : (⟨go67, 0, none⟩ : Addr) = ad381 := (by injection e381)
            (first | simp only [add_plain] at hx381_0 | simp only [add_at] at hx381_0 | simp only [Addr.add, Nat.zero_add] at hx381_0 | skip)
            replace p381 := eq_true p381
            replace q381 := eq_true q381
            have p84 : 0 ≤ ((ji23) : Int) := odt
            have q84 : ((ji23) : Int) < ((x8_5.length : Int) : Int) := odt
            obtain ⟨hx84_0, hf84_0⟩ := Kd.R_celln 0 HO_8.out ((ji23) : Int) p84 q84
            replace p84 := eq_true p84
            replace q84 := eq_true q84
            have HP88 := Kd.R_putg HO_8.out ((ji23) : Int) (((rd x8_5 (ji23)) + ((x15_5) % 4294967296)) % 4294967296)
            go_wp2_with (first | ((with_reducible refine gate_store (t := 88) (p := 237) rfl ?_); refine store_event (t := 88) (p := 237) (v := ?vo_w89) (w1 := (wr.setCell ⟨go67, ((ji23) : Int).toNat, none⟩ (.int .u32 (((rd x8_5 (ji23)) + ((x15_5) % 4294967296)) % 4294967296)))) ?hg ?ho ?hn ?hr ?_; (case ho => rfl); (case hg => rfl); (case hn => rfl); (case hr => first | (go_simp; done) | (go_simp; rfl)); intro w89 hw; have hg : wr.grownBy w89 (some go67) := (by rw [hw]; exact HP88.2); have hp_ : Kd.R (Kd.int .u32) 88 w89 w.heap.size (fun k_ => (w.heap.size ≤ k_) ∧ some k_ ≠ (.slice (some ad367) y359.length co18 : Value).ownBlock ∧ some k_ ≠ (v363 : Value).ownBlock) (.slice (some ⟨go67, 0, none⟩) x8_5.length co35) y382 := (by rw [hw, Ny382.out]; exact HP88.1); clear HP88; replace HO_8 := am (hp_); replace HO_9 := am (Kd.R_after (v := (.slice (some ⟨go67, 0, none⟩) x8_5.length co35)) (v1 := (.slice (some ⟨go67, 0, none⟩) x8_5.length co35)) (ok := (fun k_ => (w.heap.size ≤ k_) ∧ some k_ ≠ (v363 : Value).ownBlock)) (by (with_reducible repeat (first | apply Kd.R_alloc | apply Kd.R_drewN | apply Kd.R_drew)); exact Kd.R_mono HO_9.out (fun _ hk => ⟨⟨hk.1, hk.2.2⟩, hk.2.1⟩)) hg (.inl rfl)); replace HO_10 := am (Kd.R_after (v := (.slice (some ⟨go67, 0, none⟩) x8_5.length co35)) (v1 := (.slice (some ⟨go67, 0, none⟩) x8_5.length co35)) (ok := (fun k_ => (w.heap.size ≤ k_) ∧ some k_ ≠ (.slice (some ad367) y359.length co18 : Value).ownBlock)) (by (with_reducible repeat (first | apply Kd.R_alloc | apply Kd.R_drewN | apply Kd.R_drew)); exact Kd.R_mono HO_10.out (fun _ hk => ⟨⟨hk.1, hk.2.2⟩, hk.2.1⟩)) hg (.inl rfl)); replace HB := am ((by rw [hw]; exact below_set (HB.out) GB67.out : Below w.heap.size w w89)); clear hg hw hp_; have p87 : 0 ≤ (x11_2 : Int) := odt; have q87 : (x11_2 : Int) < ((x10_2.length : Int) : Int) := odt; obtain ⟨go87, co87, eo87, gb87, gl87, cl87, HG87⟩ := Kd.R_form HO_10.out (by omega); (first | cases eo87 | (injection eo87 with ea_ en_ ec_; (first | subst ea_ | (injection ea_ with ea_; subst ea_)); subst ec_; clear en_)); have GB87 := Aside0.mk gb87; have GG87 := Aside0.mk HG87; clear gb87 gl87 HG87; obtain ⟨hx87_0, hf87_0⟩ := Kd.R_celln 0 HO_10.out (x11_2 : Int) p87 q87; replace p87 := eq_true p87; replace q87 := eq_true q87; have n_ := Aside0.mk (Kd.R_mono (ok' := (fun k_ => (w.heap.size ≤ k_) ∧ some k_ ≠ (.slice (some ⟨go67, 0, none⟩) x8_5.length co35 : Value).ownBlock ∧ some k_ ≠ (.slice (some ad367) y359.length co18 : Value).ownBlock)) HO_10.out (fun k_ hk => ⟨hk.1.1, ⟨hk.2, hk.1.2⟩⟩)); clear HO_10; have HO_10 := n_; clear n_; obtain ⟨hy90_, hz90_⟩ := Kd.R_celln 0 HO_10.out (x11_2 : Int) odt odt; have HP90 := Kd.R_putg HO_10.out (x11_2 : Int) (((IntKind.u64.wrap (x13_32 - 1))) % 4294967296)) | ((with_reducible refine gate_store (t := 88) (p := 242) rfl ?_); refine store_event (t := 88) (p := 242) (v := ?vo_w91) (w1 := (w89.setCell ⟨go87, (x11_2 : Int).toNat, none⟩ (.int .u32 (((IntKind.u64.wrap (x13_32 - 1))) % 4294967296)))) ?hg ?ho ?hn ?hr ?_; (case ho => rfl); (case hg => rfl); (case hn => rfl); (case hr => first | (go_simp; done) | (go_simp; rfl)); intro w91 hw; have hg : w89.grownBy w91 (some go87) := (by rw [hw]; exact HP90.2); have hp_ : Kd.R (Kd.int .u32) 88 w91 w.heap.size (fun k_ => (w.heap.size ≤ k_) ∧ some k_ ≠ (.slice (some ⟨go67, 0, none⟩) x8_5.length co35 : Value).ownBlock ∧ some k_ ≠ (.slice (some ad367) y359.length co18 : Value).ownBlock) (.slice (some ⟨go87, 0, none⟩) x10_2.length co87) y383 := (by rw [hw, Ny383.out]; exact HP90.1); clear HP90; replace HO_8 := am (Kd.R_after (v := (.slice (some ⟨go87, 0, none⟩) x10_2.length co87)) (v1 := (.slice (some ⟨go87, 0, none⟩) x10_2.length co87)) (ok := (fun k_ => (w.heap.size ≤ k_) ∧ some k_ ≠ (.slice (some ad367) y359.length co18 : Value).ownBlock)) (by (with_reducible repeat (first | apply Kd.R_alloc | apply Kd.R_drewN | apply Kd.R_drew)); exact Kd.R_mono HO_8.out (fun _ hk => ⟨⟨hk.1, hk.2.1⟩, hk.2.2⟩)) hg (.inl rfl)); replace HO_9 := am (Kd.R_after (v := (.slice (some ⟨go87, 0, none⟩) x10_2.length co87)) (v1 := (.slice (some ⟨go87, 0, none⟩) x10_2.length co87)) (ok := (fun k_ => (w.heap.size ≤ k_) ∧ some k_ ≠ (.slice (some ⟨go67, 0, none⟩) x8_5.length co35 : Value).ownBlock)) (by (with_reducible repeat (first | apply Kd.R_alloc | apply Kd.R_drewN | apply Kd.R_drew)); exact Kd.R_mono HO_9.out (fun _ hk => ⟨⟨hk.1.1, hk.2⟩, hk.1.2⟩)) hg (.inl rfl)); replace HO_10 := am (hp_); replace HB := am ((by rw [hw]; exact below_set (HB.out) GB87.out : Below w.heap.size w w91)); clear hg hw hp_))
            (try simp only [← hl8_4, ← hl8_5])
            go_roundg k5
            case measure => have := HK1.out; have := HK2.out; have := HJ32.out; have := HK4.out; have := HK5.out; omega
            case rel => exact ⟨(y382), (y383), (wrap64 (x11_2 - 1)), (by first | rfl | (simp; done) | (simp [*]; done)), H', ⟨by have := HK1.out; have := HK2.out; have := HJ32.out; have := HK4.out; have := HK5.out; omega⟩, ⟨by (try simp only [hl8_4]); (try simp only [hl8_5]); (with_reducible repeat (first | apply Kd.R_alloc | apply Kd.R_drewN | apply Kd.R_drew)); exact Kd.R_mono HO_8.out (fun _ hk => ⟨hk.1.1, ⟨hk.1.2, hk.2⟩⟩)⟩, ⟨by (try simp only [hl8_4]); (try simp only [hl8_5]); (with_reducible repeat (first | apply Kd.R_alloc | apply Kd.R_drewN | apply Kd.R_drew)); exact Kd.R_mono HO_9.out (fun _ hk => ⟨hk.1.1, ⟨hk.1.2, hk.2⟩⟩)⟩, ⟨by (try simp only [hl8_4]); (try simp only [hl8_5]); (with_reducible repeat (first | apply Kd.R_alloc | apply Kd.R_drewN | apply Kd.R_drew)); exact HO_10.out⟩, ⟨bq HB.out⟩⟩
           rw [if_pos c71] at H
           have c71b0 := decide_eq_true c71
           clear c71
           obtain ⟨ji72, hji72⟩ : ∃ j_ : Int, (wrap64 (x11_2 + x23_5)) = j_ := ⟨_, rfl⟩
           replace H : (if 0 ≤ (ji72) then (if (ji72) < (x8_5.length : Int) then (if 0 ≤ x23_5 then (if x23_5 < (y359.length : Int) then (e1_long.l4 k5 (l1.length : Int) x7_1 (x8_5.set ((ji72) : Int).toNat ((IntKind.u64.wrap ((IntKind.u64.wrap (x15_5 + (IntKind.u64.wrap (rd x8_5 (ji72))))) + (IntKind.u64.wrap (rd y359 x23_5)))) % 4294967296)) y359 x10_2 x11_2 (IntKind.u64.wrap (x13_32 - 1)) ((IntKind.u64.wrap ((IntKind.u64.wrap (x15_5 + (IntKind.u64.wrap (rd x8_5 (ji72))))) + (IntKind.u64.wrap (rd y359 x23_5)))) / 4294967296) (wrap64 (x23_5 + 1))) else (none)) else (none)) else (none)) else (none)) = some (r1, r2) := by first | (rw [hji72] at H; exact H) | (simp only [hji72] at H ⊢; exact H)
           have hji72w : (IntKind.i64.wrap (x11_2 + x23_5)) = ji72 := (i64_w _).trans hji72
           by_cases c73 : 0 ≤ (ji72)
           rotate_left
           ·rw [if_neg c73] at H
            exact absurd H (by simp)
           rw [if_pos c73] at H
           have c73b0 := decide_eq_true c73
           clear c73
           by_cases c74 : (ji72) < (x8_5.length : Int)
           rotate_left
           ·rw [if_neg c74] at H
            exact absurd H (by simp)
           rw [if_pos c74] at H
           have c74b0 := decide_eq_true c74
           clear c74
           by_cases c75 : 0 ≤ x23_5
           rotate_left
           ·rw [if_neg c75] at H
            exact absurd H (by simp)
           rw [if_pos c75] at H
           have c75b0 := decide_eq_true c75
           clear c75
           by_cases c76 : x23_5 < (y359.length : Int)
           rotate_left
           ·rw [if_neg c76] at H
            exact absurd H (by simp)
           rw [if_pos c76] at H
           have c76b0 : decide (x23_5 < (y359.length : Int)) = true := decide_eq_true c76
           (try (have c76b9_0 := c76b0; rw [hl8_4] at c76b9_0))
           (try (have c76b9_1 := c76b0; rw [hl8_5] at c76b9_1))
           clear c76
           obtain ⟨y380, hy380⟩ : ∃ y_ : List Int, y_ = (x8_5.set ((ji72) : Int).toNat ((IntKind.u64.wrap ((IntKind.u64.wrap (x15_5 + (IntKind.u64.wrap (rd x8_5 (ji72))))) + (IntKind.u64.wrap (rd y359 x23_5)))) % 4294967296)) := ⟨_, rfl⟩
           replace H : (e1_long.l4 k5 (l1.length : Int) x7_1 y380 y359 x10_2 x11_2 (IntKind.u64.wrap (x13_32 - 1)) ((IntKind.u64.wrap ((IntKind.u64.wrap (x15_5 + (IntKind.u64.wrap (rd x8_5 (ji72))))) + (IntKind.u64.wrap (rd y359 x23_5)))) / 4294967296) (wrap64 (x23_5 + 1))) = some (r1, r2) := by first | (rw [hy380]; with_reducible exact H) | (have H2_ := (Option.bind_some _ _).symm.trans H; rw [hy380]; with_reducible exact H2_) | (have H2_ := (Option.bind_some _ _).symm.trans H; with_reducible exact H2_) | with_reducible exact H | (rw [hy380]; exact H) | exact H
           have Ny380 := Aside0.mk hy380
           clear hy380
           have H' := Aside0.mk H
           clear H
           try go_wp2
           have n0_ := Aside0.mk (Kd.R_drew HO_8.out)
           have n1_ := Aside0.mk (Kd.R_drew HO_9.out)
           have n2_ := Aside0.mk (Kd.R_drew HO_10.out)
           have n3_ := Aside0.mk (below_drew1 HB.out)
           clear HO_8
           clear HO_9
           clear HO_10
           clear HB
           have HO_8 := n0_
           have HO_9 := n1_
           have HO_10 := n2_
           have HB := n3_
           clear n0_ n1_ n2_ n3_
           have p378 : 0 ≤ ((ji72) : Int) := odt
           have q378 : (ji72) < (x8_5.length : Int) := odt
           obtain ⟨ad378, e378, hx378_0⟩ := Kd.at_int (Kd.R_reads' HO_8.out).2.2 (ji72) p378 q378
           obtain rfl : (⟨go67, 0, none⟩ : Addr) = ad378 := (by injection e378)
           (first | simp only [add_plain] at hx378_0 | simp only [add_at] at hx378_0 | simp only [Addr.add, Nat.zero_add] at hx378_0 | skip)
           replace p378 := eq_true p378
           replace q378 := eq_true q378
           have p379 : 0 ≤ (x23_5 : Int) := odt
           have q379 : x23_5 < (y359.length : Int) := odt
           obtain ⟨ad379, e379, hx379_0⟩ := Kd.at_int (Kd.R_reads' HO_9.out).2.2 x23_5 p379 q379
           obtain rfl : ad367 = ad379 := (by injection e379)
           replace p379 := eq_true p379
           replace q379 := eq_true q379
           refine start_ (n := 16) (S := fun w' => w'.cell? ⟨go67, ((ji72)).toNat, none⟩ = some (.int .u32 (rd x8_5 (ji72))) ∧ w'.cell? (ad367.add (x23_5).toNat) = some (.int .u32 (rd y359 x23_5))) (ds := []) #[false, false, false, false, false, false, false, false, false, false, false, false, false, false, false, false] (by kernel_rfl) rfl rfl ⟨hx378_0, hx379_0⟩ (fun hHeld => ?_); refine with_tabW e1_long.tab42 e1_long.bits42 (fun HT_ HW_ => ?_)
           generalize wr.drew = w78 at HO_8 HO_9 HO_10 HB hx378_0 hx379_0 hHeld ⊢
           refine pure_ (i := 0) (N := some 200) (v := ?_) (a' := ?_) #[true, false, false, false, false, false, false, false, false, false, false, false, false, false, false, false] rfl rfl (any_of HT_.out (by kernel_rfl)) (fun _ _ _ h => h) (Or.inl ⟨by rfl, ?_⟩) ?_ ?_
           rotate_left
           ·intro w'
            go_simp
            with_reducible rfl
           rotate_left
           ·simp only [Act.put, List.setIfInBounds_toArray, List.set_cons_zero, List.set_cons_succ, i64_w, i32_w]
            rfl
           refine pure_ (i := 1) (N := some 201) (v := ?_) (a' := ?_) #[true, true, false, false, false, false, false, false, false, false, false, false, false, false, false, false] rfl rfl (any_of HT_.out (by kernel_rfl)) (fun _ _ _ h => h) (Or.inl ⟨by rfl, ?_⟩) ?_ ?_
           rotate_left
           ·intro w'
            go_simp
            with_reducible rfl
           rotate_left
           ·simp only [Act.put, List.setIfInBounds_toArray, List.set_cons_zero, List.set_cons_succ, i64_w, i32_w]
            rfl
           refine pure_ (i := 2) (N := some 202) (v := ?_) (a' := ?_) #[true, true, true, false, false, false, false, false, false, false, false, false, false, false, false, false] rfl rfl (any_of HT_.out (by kernel_rfl)) (fun _ _ _ h => h) (Or.inl ⟨by rfl, ?_⟩) ?_ ?_
           rotate_left
           ·intro w'
            go_simp
            with_reducible rfl
           rotate_left
           ·simp only [Act.put, List.setIfInBounds_toArray, List.set_cons_zero, List.set_cons_succ, i64_w, i32_w]
            rfl
           refine pure_ (i := 3) (N := some 203) (v := ?_) (a' := ?_) #[true, true, true, true, false, false, false, false, false, false, false, false, false, false, false, false] rfl rfl (any_of HT_.out (by kernel_rfl)) (fun _ _ _ h => h) (Or.inl ⟨by rfl, ?_⟩) ?_ ?_
           rotate_left
           ·intro w'
            go_simp
            with_reducible rfl
           rotate_left
           ·simp only [Act.put, List.setIfInBounds_toArray, List.set_cons_zero, List.set_cons_succ, i64_w, i32_w]
            rfl
           refine pure_ (i := 4) (N := some 204) (v := ?_) (a' := ?_) #[true, true, true, true, true, false, false, false, false, false, false, false, false, false, false, false] rfl rfl (any_of HT_.out (by kernel_rfl)) (fun _ _ _ h => h) (Or.inl ⟨by rfl, ?_⟩) ?_ ?_
           rotate_left
           ·intro w'
            go_simp
            with_reducible rfl
           rotate_left
           ·simp only [Act.put, List.setIfInBounds_toArray, List.set_cons_zero, List.set_cons_succ, i64_w, i32_w]
            rfl
           refine pure_ (i := 5) (N := some 205) (v := ?_) (a' := ?_) #[true, true, true, true, true, true, false, false, false, false, false, false, false, false, false, false] rfl rfl (any_of HT_.out (by kernel_rfl)) (fun _ _ _ h => h) (Or.inl ⟨by rfl, ?_⟩) ?_ ?_
           rotate_left
           ·intro w'
            go_simp
            with_reducible rfl
           rotate_left
           ·simp only [Act.put, List.setIfInBounds_toArray, List.set_cons_zero, List.set_cons_succ, i64_w, i32_w]
            rfl
           refine pure_ (i := 9) (N := some 209) (v := ?_) (a' := ?_) #[true, true, true, true, true, true, false, false, false, true, false, false, false, false, false, false] rfl rfl (any_of HT_.out (by kernel_rfl)) (fun _ _ _ h => h) (Or.inl ⟨by rfl, ?_⟩) ?_ ?_
           rotate_left
           ·intro w'
            go_simp
            with_reducible rfl
           rotate_left
           ·simp only [Act.put, List.setIfInBounds_toArray, List.set_cons_zero, List.set_cons_succ, i64_w, i32_w]
            rfl
           refine pure_ (i := 10) (N := some 210) (v := ?_) (a' := ?_) #[true, true, true, true, true, true, false, false, false, true, true, false, false, false, false, false] rfl rfl (any_of HT_.out (by kernel_rfl)) (fun _ _ _ h => h) (Or.inl ⟨by rfl, ?_⟩) ?_ ?_
           rotate_left
           ·intro w'
            go_simp
            with_reducible rfl
           rotate_left
           ·simp only [Act.put, List.setIfInBounds_toArray, List.set_cons_zero, List.set_cons_succ, i64_w, i32_w]
            rfl
           refine pure_ (i := 11) (N := some 211) (v := ?_) (a' := ?_) #[true, true, true, true, true, true, false, false, false, true, true, true, false, false, false, false] rfl rfl (any_of HT_.out (by kernel_rfl)) (fun _ _ _ h => h) (Or.inl ⟨by rfl, ?_⟩) ?_ ?_
           rotate_left
           ·intro w'
            go_simp
            with_reducible rfl
           rotate_left
           ·simp only [Act.put, List.setIfInBounds_toArray, List.set_cons_zero, List.set_cons_succ, i64_w, i32_w]
            rfl
           refine take_ (i := 6) (N := some 206) (v := ?_) (a' := ?_) #[true, true, true, true, true, true, true, false, false, true, true, true, false, false, false, false] rfl rfl (take_ofW HT_.out HW_.out (by kernel_rfl)) (fun _ _ _ h => h) (Or.inl ⟨by rfl, ?_⟩) hHeld ?_ ?_
           rotate_left
           ·rintro w' ⟨s0, s1⟩
            go_simp
            with_reducible rfl
           rotate_left
           ·simp only [Act.put, List.setIfInBounds_toArray, List.set_cons_zero, List.set_cons_succ, i64_w, i32_w]
            rfl
           refine pure_ (i := 7) (N := some 207) (v := ?_) (a' := ?_) #[true, true, true, true, true, true, true, true, false, true, true, true, false, false, false, false] rfl rfl (any_of HT_.out (by kernel_rfl)) (fun _ _ _ h => h) (Or.inl ⟨by rfl, ?_⟩) ?_ ?_
           rotate_left
           ·intro w'
            go_simp
            with_reducible rfl
           rotate_left
           ·simp only [Act.put, List.setIfInBounds_toArray, List.set_cons_zero, List.set_cons_succ, i64_w, i32_w]
            rfl
           refine pure_ (i := 8) (N := some 208) (v := ?_) (a' := ?_) #[true, true, true, true, true, true, true, true, true, true, true, true, false, false, false, false] rfl rfl (any_of HT_.out (by kernel_rfl)) (fun _ _ _ h => h) (Or.inl ⟨by rfl, ?_⟩) ?_ ?_
           rotate_left
           ·intro w'
            go_simp
            with_reducible rfl
           rotate_left
           ·simp only [Act.put, List.setIfInBounds_toArray, List.set_cons_zero, List.set_cons_succ, i64_w, i32_w]
            rfl
           refine take_ (i := 12) (N := some 212) (v := ?_) (a' := ?_) #[true, true, true, true, true, true, true, true, true, true, true, true, true, false, false, false] rfl rfl (take_ofW HT_.out HW_.out (by kernel_rfl)) (fun _ _ _ h => h) (Or.inl ⟨by rfl, ?_⟩) hHeld ?_ ?_
           rotate_left
           ·rintro w' ⟨s0, s1⟩
            go_simp
            with_reducible rfl
           rotate_left
           ·simp only [Act.put, List.setIfInBounds_toArray, List.set_cons_zero, List.set_cons_succ, i64_w, i32_w]
            rfl
           refine pure_ (i := 13) (N := some 213) (v := ?_) (a' := ?_) #[true, true, true, true, true, true, true, true, true, true, true, true, true, true, false, false] rfl rfl (any_of HT_.out (by kernel_rfl)) (fun _ _ _ h => h) (Or.inl ⟨by rfl, ?_⟩) ?_ ?_
           rotate_left
           ·intro w'
            go_simp
            with_reducible rfl
           rotate_left
           ·simp only [Act.put, List.setIfInBounds_toArray, List.set_cons_zero, List.set_cons_succ, i64_w, i32_w]
            rfl
           refine pure_ (i := 14) (N := some 214) (v := ?_) (a' := ?_) #[true, true, true, true, true, true, true, true, true, true, true, true, true, true, true, false] rfl rfl (any_of HT_.out (by kernel_rfl)) (fun _ _ _ h => h) (Or.inl ⟨by rfl, ?_⟩) ?_ ?_
           rotate_left
           ·intro w'
            go_simp
            with_reducible rfl
           rotate_left
           ·simp only [Act.put, List.setIfInBounds_toArray, List.set_cons_zero, List.set_cons_succ, i64_w, i32_w]
            rfl
           refine pure_ (i := 15) (N := some 15) (v := ?_) (a' := ?_) #[true, true, true, true, true, true, true, true, true, true, true, true, true, true, true, true] rfl rfl (any_of HT_.out (by kernel_rfl)) (fun _ _ _ h => h) (Or.inl ⟨by rfl, ?_⟩) ?_ ?_
           rotate_left
           ·intro w'
            go_simp
            with_reducible rfl
           rotate_left
           ·simp only [Act.put, List.setIfInBounds_toArray, List.set_cons_zero, List.set_cons_succ, i64_w, i32_w]
            rfl
           refine done_ (done_of HT_.out (by kernel_rfl)) ?_
           have p77 : 0 ≤ ((ji72) : Int) := odt
           have q77 : ((ji72) : Int) < ((x8_5.length : Int) : Int) := odt
           obtain ⟨hx77_0, hf77_0⟩ := Kd.R_celln 0 HO_8.out ((ji72) : Int) p77 q77
           replace p77 := eq_true p77
           replace q77 := eq_true q77
           obtain ⟨hy79_, hz79_⟩ := Kd.R_celln 0 HO_8.out ((ji72) : Int) odt odt
           have HP79 := Kd.R_putg HO_8.out ((ji72) : Int) ((IntKind.u64.wrap ((IntKind.u64.wrap (x15_5 + (IntKind.u64.wrap (rd x8_5 (ji72))))) + (IntKind.u64.wrap (rd y359 x23_5)))) % 4294967296)
           try go_wp2_with (first | ((with_reducible refine gate_store (t := 88) (p := 221) rfl ?_); refine store_event (t := 88) (p := 221) (v := ?vo_w80) (w1 := (w78.setCell ⟨go67, ((ji72) : Int).toNat, none⟩ (.int .u32 ((IntKind.u64.wrap ((IntKind.u64.wrap (x15_5 + (IntKind.u64.wrap (rd x8_5 (ji72))))) + (IntKind.u64.wrap (rd y359 x23_5)))) % 4294967296)))) ?hg ?ho ?hn ?hr ?_; (case ho => rfl); (case hg => rfl); (case hn => rfl); (case hr => first | (go_simp; done) | (go_simp; rfl)); intro w80 hw; have hg : w78.grownBy w80 (some go67) := (by rw [hw]; exact HP79.2); have hp_ : Kd.R (Kd.int .u32) 88 w80 w.heap.size (fun k_ => (w.heap.size ≤ k_) ∧ some k_ ≠ (.slice (some ad367) y359.length co18 : Value).ownBlock ∧ some k_ ≠ (v363 : Value).ownBlock) (.slice (some ⟨go67, 0, none⟩) x8_5.length co35) y380 := (by rw [hw, Ny380.out]; exact HP79.1); clear HP79; replace HO_8 := am (hp_); replace HO_9 := am (Kd.R_after (v := (.slice (some ⟨go67, 0, none⟩) x8_5.length co35)) (v1 := (.slice (some ⟨go67, 0, none⟩) x8_5.length co35)) (ok := (fun k_ => (w.heap.size ≤ k_) ∧ some k_ ≠ (v363 : Value).ownBlock)) (by (with_reducible repeat (first | apply Kd.R_alloc | apply Kd.R_drewN | apply Kd.R_drew)); exact Kd.R_mono HO_9.out (fun _ hk => ⟨⟨hk.1, hk.2.2⟩, hk.2.1⟩)) hg (.inl rfl)); replace HO_10 := am (Kd.R_after (v := (.slice (some ⟨go67, 0, none⟩) x8_5.length co35)) (v1 := (.slice (some ⟨go67, 0, none⟩) x8_5.length co35)) (ok := (fun k_ => (w.heap.size ≤ k_) ∧ some k_ ≠ (.slice (some ad367) y359.length co18 : Value).ownBlock)) (by (with_reducible repeat (first | apply Kd.R_alloc | apply Kd.R_drewN | apply Kd.R_drew)); exact Kd.R_mono HO_10.out (fun _ hk => ⟨⟨hk.1, hk.2.2⟩, hk.2.1⟩)) hg (.inl rfl)); replace HB := am ((by rw [hw]; exact below_set (HB.out) GB67.out : Below w.heap.size w w80)); clear hg hw hp_))
           (try simp only [← hl8_5])
           go_roundg k5
           case measure => have := HK1.out; have := HK2.out; have := HJ32.out; have := HK4.out; have := HK5.out; omega
           case rel => exact ⟨(y380), ((IntKind.u64.wrap ((IntKind.u64.wrap (x15_5 + (IntKind.u64.wrap (rd x8_5 (ji72))))) + (IntKind.u64.wrap (rd y359 x23_5)))) / 4294967296), (wrap64 (x23_5 + 1)), (by first | rfl | (simp; done) | (simp only [← hji72] <;> (first | rfl | simp)) | (simp [*]; done)), (by first | rfl | (simp; done) | (simp [*]; done)), H', ⟨by have := HK1.out; have := HK2.out; have := HJ32.out; have := HK4.out; have := HK5.out; omega⟩, ⟨by (try simp only [hl8_4]); (try simp only [hl8_5]); (with_reducible repeat (first | apply Kd.R_alloc | apply Kd.R_drewN | apply Kd.R_drew)); exact HO_8.out⟩, ⟨by (try simp only [hl8_4]); (try simp only [hl8_5]); (with_reducible repeat (first | apply Kd.R_alloc | apply Kd.R_drewN | apply Kd.R_drew)); exact Kd.R_mono HO_9.out (fun _ hk => ⟨hk.1.1, ⟨hk.2, hk.1.2⟩⟩)⟩, ⟨by (try simp only [hl8_4]); (try simp only [hl8_5]); (with_reducible repeat (first | apply Kd.R_alloc | apply Kd.R_drewN | apply Kd.R_drew)); exact Kd.R_mono HO_10.out (fun _ hk => ⟨hk.1.1, ⟨hk.2, hk.1.2⟩⟩)⟩, ⟨bq HB.out⟩⟩
end Go.Proofs.YtfnfjmeiaamheaaDoor.PA
namespace Go.Proofs.YtfnfjmeiaamheaaDoor.PA
open Go Go.RowKit Go.Proofs.YtfnfjmeiaamheaaDoorW.PrintWords
theorem un_val {x y : Int} {s : Nat} (hx0 : 0 ≤ x) (hx1 : x < 4294967296) (hy0 : 0 ≤ y) (hs : s < 32) :
  ∃ o, (y * 4294967296 + x) / 2 ^ s % 4294967296 = o ∧ 0 ≤ o ∧ o < 4294967296 ∧ 2 ^ s * o = x - x % 2 ^ s + y % 2 ^ s * 4294967296 := by
 have hp := p2_pos s
 have hq := p2_pos (32 - s)
 have e := p2_split hs
 have hx2 := Int.mul_ediv_add_emod x (2 ^ s)
 have hx3 := Int.emod_nonneg x (show (2 : Int) ^ s ≠ 0 by omega)
 have hx4 := Int.emod_lt_of_pos x hp
 have hy2 := Int.mul_ediv_add_emod y (2 ^ s)
 have hy3 := Int.emod_nonneg y (show (2 : Int) ^ s ≠ 0 by omega)
 have hy4 := Int.emod_lt_of_pos y hp
 have hx5 : x / 2 ^ s < 2 ^ (32 - s) := Int.ediv_lt_of_lt_mul hp (by rw [Int.mul_comm, e]; exact hx1)
 have hx6 : 0 ≤ x / 2 ^ s := Int.ediv_nonneg hx0 (Int.le_of_lt hp)
 have h1 : (y * 4294967296 + x) / 2 ^ s = y * 2 ^ (32 - s) + x / 2 ^ s := by
  rw [← e, show y * (2 ^ s * 2 ^ (32 - s)) + x = x + (y * 2 ^ (32 - s)) * 2 ^ s by grind, Int.add_mul_ediv_right _ _ (by omega)]; grind
 have h2 : y * 2 ^ (32 - s) + x / 2 ^ s = (y % 2 ^ s * 2 ^ (32 - s) + x / 2 ^ s) + 4294967296 * (y / 2 ^ s) := by
  rw [← e]
  generalize y / 2 ^ s = yh at *
  generalize y % 2 ^ s = yl at *
  rw [← hy2]; grind
 have h3 : 0 ≤ y % 2 ^ s * 2 ^ (32 - s) := Int.mul_nonneg hy3 (Int.le_of_lt hq)
 have h4 : (y % 2 ^ s + 1) * 2 ^ (32 - s) ≤ 2 ^ s * 2 ^ (32 - s) := Int.mul_le_mul_of_nonneg_right (by omega) (Int.le_of_lt hq)
 rw [e, Int.add_mul, Int.one_mul] at h4
 refine ⟨y % 2 ^ s * 2 ^ (32 - s) + x / 2 ^ s, ?_, by omega, by omega, ?_⟩
 ·rw [h1, h2, Int.add_mul_emod_self_left]
  exact Int.emod_eq_of_lt (by omega) (by omega)
 rw [← e]
 generalize x / 2 ^ s = xh at *
 generalize x % 2 ^ s = xl at *
 generalize y % 2 ^ s = yl at *
 rw [← hx2]; grind
structure UnInv (a out : List Int) (s n i : Nat) : Prop where
 dgs : Dg out
 len : out.length = n
 val : 2 ^ s * Sm out 0 n + dg a 0 % 2 ^ s = Sm a 0 i + 4294967296 ^ i * (dg a i % 2 ^ s)
 rest : ∀ t, i ≤ t → dg out t = 0
theorem UnInv.start (a : List Int) (s n : Nat) : UnInv a (List.replicate n 0) s n 0 :=
 ⟨Dg.rep n, by simp, by rw [Sm.zero n (fun t _ => dg_rep _ _)]; simp [Sm], fun t _ => dg_rep _ _⟩
theorem UnInv.next {a out : List Int} {s n i : Nat} (ha : Dg a) (hs : s < 32) (h : UnInv a out s n i) (hi : i < n) :
  UnInv a (out.set i ((dg a (i + 1) * 4294967296 + dg a i) / 2 ^ s % 4294967296)) s n (i + 1) := by
 obtain ⟨o, e, h0, h1, h2⟩ := un_val (ha i).1 (ha i).2 (ha (i + 1)).1 hs
 rw [e]
 have hlen := h.len
 refine ⟨h.dgs.set h0 h1, by rw [List.length_set]; exact hlen, ?_, fun t ht => ?_⟩
 ·rw [Sm.set_in (by omega) n (Nat.zero_le _) (by omega), h.rest i (Nat.le_refl _), Int.sub_zero, Nat.sub_zero, Sm, Nat.zero_add, pw_succ]
  have hv := h.val
  generalize (4294967296 : Int) ^ i = P at *
  generalize dg a i % 2 ^ s = li at *
  generalize dg a (i + 1) % 2 ^ s = lj at *
  generalize (2 : Int) ^ s = p at *
  generalize Sm out 0 n = S at *
  generalize Sm a 0 i = A at *
  have e3 : p * (S + o * P) = p * S + (p * o) * P := by grind
  rw [e3, h2]
  grind
 rw [dg_set, if_neg (by omega)]; exact h.rest t (by omega)
theorem UnInv.done {a out : List Int} {s n : Nat} (h : UnInv a out s n n) (hz : dg a n = 0) : Sm out 0 n = Sm a 0 n / 2 ^ s := by
 have hp := p2_pos s
 have hv := h.val
 rw [hz, Int.zero_emod, Int.mul_zero, Int.add_zero] at hv
 have h1 := Int.emod_nonneg (dg a 0) (show (2 : Int) ^ s ≠ 0 by omega)
 have h2 := Int.emod_lt_of_pos (dg a 0) hp
 rw [← hv, Int.add_comm, Int.add_mul_ediv_left _ _ (by omega), Int.ediv_eq_zero_of_lt h1 h2, Int.zero_add]
theorem un_loop {a : List Int} (ha : Dg a) (hf : a.length ≤ 100000) {s : Nat} (hs : s < 32) : ∀ m i out, i + m = a.length → UnInv a out s a.length i → ∃ r, Ev (fun k => n_unshift.l0 k a (s : Int) out (a.length : Int) (i : Int)) r ∧ Can r ∧ vl r = vl a / 2 ^ s ∧ r.length ≤ a.length
 | 0, i, out, hi, h => by
  obtain rfl : i = a.length := by omega
  have hlen := h.len
  obtain ⟨q, g1, g2, g3, g4⟩ := trim_ev h.dgs (by omega)
  refine ⟨q, Ev.step (h := fun k => (n_limbs_trim.f k out).bind fun t => some t) (fun k => by rw [n_unshift.l0, if_neg (by omega)]) (Ev.bind g1 Ev.ret), g2, ?_, by omega⟩
  have := h.done (dg_beyond (Nat.le_refl _))
  rw [g3]; unfold vl; rw [hlen]; exact this
 | m + 1, i, out, hi, h => by
  have hlen := h.len
  have hw : wrap64 ((i : Int) + 1) = ((i + 1 : Nat) : Int) := by rw [wrap_s (by omega) (by omega)]; omega
  have c1 : (i : Int) < (a.length : Int) := by omega
  have c2 : (0 : Int) ≤ (i : Int) := by omega
  have c3 : (0 : Int) ≤ (s : Int) := by omega
  have c4 : (i : Int) < (out.length : Int) := by omega
  have c5 : (0 : Int) ≤ ((i + 1 : Nat) : Int) := by omega
  obtain ⟨r, g1, g2⟩ := un_loop ha hf hs m (i + 1) _ (by omega) (h.next ha hs (by omega))
  refine ⟨r, Ev.step (fun k => ?_) g1, g2⟩
  have u1 : IntKind.u64.wrap (dg a (i + 1)) = dg a (i + 1) := u64_s (ha (i + 1)).1 (by have := (ha (i + 1)).2; omega)
  have u2 : IntKind.u64.wrap (dg a i) = dg a i := u64_s (ha i).1 (by have := (ha i).2; omega)
  by_cases hc : ((i + 1 : Nat) : Int) < (a.length : Int)
  ·rw [n_unshift.l0, hw, if_pos c1, if_pos c2, if_pos c1, if_pos hc, if_pos c5, if_pos c3, if_pos c4, rd_dg, rd_dg, u1, or_lo (ha (i + 1)).1 (ha (i + 1)).2 (ha i).1 (ha i).2, shr_u64 hs]
   rfl
  have e : dg a (i + 1) = 0 := dg_beyond (by omega)
  rw [n_unshift.l0, hw, if_pos c1, if_pos c2, if_pos c1, if_neg hc, if_pos c3, if_pos c4, rd_dg, u2, shr_u64 hs, e, Int.zero_mul, Int.zero_add]
  rfl
theorem unshift_ev {a : List Int} (ha : Dg a) (hf : a.length ≤ 100000) {s : Nat} (hs : s < 32) : ∃ r, Ev (fun k => n_unshift.f k a (s : Int)) r ∧ Can r ∧ vl r = vl a / 2 ^ s ∧ r.length ≤ a.length := by
 obtain ⟨r, g1, g2⟩ := un_loop ha hf hs a.length 0 _ (by omega) (UnInv.start a s a.length)
 refine ⟨r, Ev.same (fun k => ?_) g1, g2⟩
 rw [n_unshift.f, if_pos (by omega), if_pos (by omega)]; rfl
theorem long5 {u q : List Int} (hu : Dg u) (hq : Dg q) (hf : u.length ≤ 100000) (hqf : q.length ≤ 100000) {s : Nat} (hs : s < 32) {n : Nat} (hn : n < u.length) (hz : dg u n = 0) : ∀ m i out, i + m = n → UnInv u out s n i →
 ∃ t r, Ev (fun k => e1_long.l5 k (n : Int) (s : Int) u q out (i : Int)) (t, r) ∧ Can t ∧ vl t = vl q ∧ t.length ≤ q.length ∧ Can r ∧ vl r = Sm u 0 n / 2 ^ s ∧ r.length ≤ n
 | 0, i, out, hi, h => by
  obtain rfl : i = n := by omega
  have hlen := h.len
  obtain ⟨r, g1, g2, g3, g4⟩ := strip_ev h.dgs (by omega)
  obtain ⟨t, f1, f2, f3, f4⟩ := strip_ev hq hqf
  refine ⟨t, r, Ev.step (h := fun k => (e1_strip.f k q).bind fun t => (e1_strip.f k out).bind fun r => some (t, r)) (fun k => by rw [e1_long.l5, if_neg (by omega)]) (Ev.bind f1 (Ev.bind g1 Ev.ret)), f2, f3, f4, g2, ?_, by omega⟩
  rw [g3]; unfold vl; rw [hlen]; exact h.done hz
 | m + 1, i, out, hi, h => by
  have hlen := h.len
  have hw : wrap64 ((i : Int) + 1) = ((i + 1 : Nat) : Int) := by rw [wrap_s (by omega) (by omega)]; omega
  have c1 : (i : Int) < (n : Int) := by omega
  have c2 : (0 : Int) ≤ (i : Int) := by omega
  have c3 : (0 : Int) ≤ (s : Int) := by omega
  have c4 : (i : Int) < (out.length : Int) := by omega
  have c5 : (0 : Int) ≤ ((i + 1 : Nat) : Int) := by omega
  have c6 : ((i + 1 : Nat) : Int) < (u.length : Int) := by omega
  have c7 : (i : Int) < (u.length : Int) := by omega
  obtain ⟨t, r, g1, g2⟩ := long5 hu hq hf hqf hs hn hz m (i + 1) _ (by omega) (h.next hu hs (by omega))
  refine ⟨t, r, Ev.step (fun k => ?_) g1, g2⟩
  have u1 : IntKind.u64.wrap (dg u (i + 1)) = dg u (i + 1) := u64_s (hu (i + 1)).1 (by have := (hu (i + 1)).2; omega)
  rw [e1_long.l5, hw, if_pos c1, if_pos c5, if_pos c6, if_pos c2, if_pos c7, if_pos c3, if_pos c4, rd_dg, rd_dg, u1, or_hi (hu (i + 1)).1 (hu (i + 1)).2 (hu i).1 (hu i).2, shr_u64 hs]
  rfl
structure Kn (U V P u2 u1 u0 v1 v0 : Int) : Prop where
 P0 : 0 < P
 a2 : 0 ≤ u2
 b2 : u2 < 4294967296
 a1 : 0 ≤ u1
 b1 : u1 < 4294967296
 a0 : 0 ≤ u0
 b0 : u0 < 4294967296
 c1 : 2147483648 ≤ v1
 d1 : v1 < 4294967296
 c0 : 0 ≤ v0
 d0 : v0 < 4294967296
 U0 : ((u2 * 4294967296 + u1) * 4294967296 + u0) * P ≤ U
 U1 : U < ((u2 * 4294967296 + u1) * 4294967296 + u0 + 1) * P
 V0 : (v1 * 4294967296 + v0) * P ≤ V
 V1 : V < (v1 * 4294967296 + v0 + 1) * P
 fit : U < V * 4294967296
namespace Kn
variable {U V P u2 u1 u0 v1 v0 : Int}
theorem u2_le (h : Kn U V P u2 u1 u0 v1 v0) : u2 ≤ v1 := by
 obtain ⟨P0, a2, b2, a1, b1, a0, b0, c1, d1, c0, d0, U0, U1, V0, V1, fit⟩ := h
 refine Classical.byContradiction fun hc => ?_
 have h1 : (v1 + 1) * (4294967296 * 4294967296 * P) ≤ u2 * (4294967296 * 4294967296 * P) := Int.mul_le_mul_of_nonneg_right (by omega) (by omega)
 have h2 : (v1 * 4294967296 + v0 + 1) * P ≤ (v1 * 4294967296 + 4294967296) * P := Int.mul_le_mul_of_nonneg_right (by omega) (by omega)
 have h3 : (u2 * 4294967296 * 4294967296) * P ≤ ((u2 * 4294967296 + u1) * 4294967296 + u0) * P := Int.mul_le_mul_of_nonneg_right (by omega) (by omega)
 grind
theorem Vpos (h : Kn U V P u2 u1 u0 v1 v0) : 0 < V := by
 obtain ⟨P0, a2, b2, a1, b1, a0, b0, c1, d1, c0, d0, U0, U1, V0, V1, fit⟩ := h
 have : 1 * P ≤ (v1 * 4294967296 + v0) * P := Int.mul_le_mul_of_nonneg_right (by omega) (by omega)
 omega
theorem start (h : Kn U V P u2 u1 u0 v1 v0) {g r : Int} (hg0 : 0 ≤ g) (he : g * v1 + r = u2 * 4294967296 + u1) (hr : r < v1) : U < (g + 1) * V := by
 obtain ⟨P0, a2, b2, a1, b1, a0, b0, c1, d1, c0, d0, U0, U1, V0, V1, fit⟩ := h
 have h1 : (u2 * 4294967296 + u1 + 1) * (4294967296 * P) ≤ ((g + 1) * v1) * (4294967296 * P) := Int.mul_le_mul_of_nonneg_right (by grind) (by omega)
 have h2 : ((u2 * 4294967296 + u1) * 4294967296 + u0 + 1) * P ≤ ((u2 * 4294967296 + u1 + 1) * 4294967296) * P := Int.mul_le_mul_of_nonneg_right (by omega) (by omega)
 have h3 : (g + 1) * ((v1 * 4294967296 + v0) * P) ≤ (g + 1) * V := Int.mul_le_mul_of_nonneg_left V0 (by omega)
 have h4 : 0 ≤ (g + 1) * (v0 * P) := Int.mul_nonneg (by omega) (Int.mul_nonneg c0 (by omega))
 grind
theorem less (h : Kn U V P u2 u1 u0 v1 v0) {g r : Int} (hg0 : 0 ≤ g) (he : g * v1 + r = u2 * 4294967296 + u1) (hc : 4294967296 ≤ g ∨ r * 4294967296 + u0 < g * v0) : U < (g - 1 + 1) * V ∧ 1 ≤ g := by
 have hV := h.Vpos
 obtain ⟨P0, a2, b2, a1, b1, a0, b0, c1, d1, c0, d0, U0, U1, V0, V1, fit⟩ := h
 rw [show g - 1 + 1 = g by omega]
 rcases hc with hc | hc
 ·refine ⟨?_, by omega⟩
  have : 4294967296 * V ≤ g * V := Int.mul_le_mul_of_nonneg_right hc (by omega)
  omega
 constructor
 ·have h1 : (r * 4294967296 + u0 + 1) * P ≤ (g * v0) * P := Int.mul_le_mul_of_nonneg_right (by omega) (by omega)
  have h2 : g * ((v1 * 4294967296 + v0) * P) ≤ g * V := Int.mul_le_mul_of_nonneg_left V0 hg0
  have h3 : (u2 * 4294967296 + u1) * (4294967296 * P) = (g * v1 + r) * (4294967296 * P) := by rw [he]
  grind
 refine Classical.byContradiction fun hn => ?_
 obtain rfl : g = 0 := by omega
 rw [Int.zero_mul] at hc he
 omega
theorem near (h : Kn U V P u2 u1 u0 v1 v0) {g r : Int} (hg0 : 0 ≤ g) (hg1 : g < 4294967296) (he : g * v1 + r = u2 * 4294967296 + u1) (hc : g * v0 ≤ r * 4294967296 + u0) : g * V < U + V := by
 obtain ⟨P0, a2, b2, a1, b1, a0, b0, c1, d1, c0, d0, U0, U1, V0, V1, fit⟩ := h
 have h1 : (g * v0) * P ≤ (r * 4294967296 + u0) * P := Int.mul_le_mul_of_nonneg_right hc (by omega)
 have h2 : g * V ≤ g * ((v1 * 4294967296 + v0 + 1) * P) := Int.mul_le_mul_of_nonneg_left (by omega) hg0
 have h3 : (u2 * 4294967296 + u1) * (4294967296 * P) = (g * v1 + r) * (4294967296 * P) := by rw [he]
 have h4 : g * P ≤ 4294967295 * P := Int.mul_le_mul_of_nonneg_right (by omega) (by omega)
 have h5 : 4294967296 * P ≤ (v1 * 4294967296 + v0) * P := Int.mul_le_mul_of_nonneg_right (by omega) (by omega)
 grind
theorem broke (h : Kn U V P u2 u1 u0 v1 v0) {g r : Int} (hg0 : 0 ≤ g) (he : g * v1 + r = u2 * 4294967296 + u1) (hr : 4294967296 ≤ r) : g < 4294967296 ∧ g * v0 ≤ r * 4294967296 + u0 := by
 have h2 := h.u2_le
 obtain ⟨P0, a2, b2, a1, b1, a0, b0, c1, d1, c0, d0, U0, U1, V0, V1, fit⟩ := h
 have hg1 : g < 4294967296 := by
  refine Int.lt_of_mul_lt_mul_right (a := v1) ?_ (by omega)
  omega
 refine ⟨hg1, ?_⟩
 have h3 : g * v0 ≤ 4294967295 * v0 := Int.mul_le_mul_of_nonneg_right (by omega) c0
 omega
end Kn
structure MS (u0 u d : List Int) (j i : Nat) (g c b : Int) : Prop where
 dgs : Dg u
 len : u.length = u0.length
 out : ∀ t, t < j ∨ j + i ≤ t → dg u t = dg u0 t
 val : Sm u j i + g * Sm d 0 i = Sm u0 j i + (c + b) * 4294967296 ^ i
 c0 : 0 ≤ c
 c1 : c < 4294967296
 b01 : 0 ≤ b ∧ b ≤ 1
theorem MS.start {u d : List Int} (hu : Dg u) (j : Nat) (g : Int) : MS u u d j 0 g 0 0 := ⟨hu, rfl, fun _ _ => rfl, by simp [Sm], by omega, by omega, by omega⟩
theorem MS.t_lt {u0 u d : List Int} {j i : Nat} {g c b : Int} (h : MS u0 u d j i g c b) (hd : Dg d) (hg0 : 0 ≤ g) (hg1 : g < 4294967296) (p : Nat) : 0 ≤ g * dg d p ∧ g * dg d p ≤ 4294967295 * 4294967295 := by
 refine ⟨Int.mul_nonneg hg0 (hd p).1, ?_⟩
 have h1 : g * dg d p ≤ 4294967295 * dg d p := Int.mul_le_mul_of_nonneg_right (by omega) (hd p).1
 have := (hd p).2
 omega
theorem MS.next {u0 u d : List Int} {j i : Nat} {g c b : Int} (h : MS u0 u d j i g c b) (hd : Dg d) (hg0 : 0 ≤ g) (hg1 : g < 4294967296) (hi : j + i < u.length) :
  MS u0 (u.set (j + i) ((dg u (j + i) - (g * dg d i + c) % 4294967296 - b) % 4294967296)) d j (i + 1) g ((g * dg d i + c) / 4294967296) (if dg u (j + i) < (g * dg d i + c) % 4294967296 + b then 1 else 0) := by
 have ht := h.t_lt hd hg0 hg1 i
 obtain ⟨dgs, len, out, val, c0, c1, b0, b1⟩ := h
 have hx := dgs (j + i)
 have hxe := out (j + i) (Or.inr (Nat.le_refl _))
 obtain ⟨t, hte⟩ : ∃ t, t = g * dg d i + c := ⟨_, rfl⟩
 rw [← hte]
 have hy : (dg u (j + i) - t % 4294967296 - b) % 4294967296 = dg u (j + i) - t % 4294967296 - b + (if dg u (j + i) < t % 4294967296 + b then 1 else 0) * 4294967296 := by
  split <;> omega
 have hy0 : 0 ≤ (dg u (j + i) - t % 4294967296 - b) % 4294967296 := by omega
 have hy1 : (dg u (j + i) - t % 4294967296 - b) % 4294967296 < 4294967296 := by omega
 refine ⟨dgs.set hy0 hy1, by rw [List.length_set]; exact len, fun p hp => ?_, ?_, by omega, by omega, by split <;> omega⟩
 ·rw [dg_set, if_neg (by omega)]; exact out p (by omega)
 rw [Sm, Sm, Sm, Sm.set_out (Or.inr (Nat.le_refl _)), dg_set, if_pos ⟨rfl, hi⟩, hy, Nat.zero_add, pw_succ, ← hxe]
 have hdm := Int.mul_ediv_add_emod t 4294967296
 generalize (4294967296 : Int) ^ i = P at *
 generalize t / 4294967296 = th at *
 generalize t % 4294967296 = tl at *
 generalize (if dg u (j + i) < tl + b then (1 : Int) else 0) = b' at *
 generalize dg u (j + i) = x at *
 generalize Sm u j i = S1 at *
 generalize Sm d 0 i = S2 at *
 generalize Sm u0 j i = S3 at *
 have e1 : g * dg d i = 4294967296 * th + tl - c := by omega
 have e2 : g * (S2 + dg d i * P) = g * S2 + (g * dg d i) * P := by grind
 rw [e2, e1]
 grind
structure AD (u0 u d : List Int) (j i : Nat) (c : Int) : Prop where
 dgs : Dg u
 len : u.length = u0.length
 out : ∀ t, t < j ∨ j + i ≤ t → dg u t = dg u0 t
 val : Sm u j i + c * 4294967296 ^ i = Sm u0 j i + Sm d 0 i
 c01 : 0 ≤ c ∧ c ≤ 1
theorem AD.start {u d : List Int} (hu : Dg u) (j : Nat) : AD u u d j 0 0 := ⟨hu, rfl, fun _ _ => rfl, by simp [Sm], by omega⟩
theorem AD.next {u0 u d : List Int} {j i : Nat} {c : Int} (h : AD u0 u d j i c) (hd : Dg d) (hi : j + i < u.length) :
  AD u0 (u.set (j + i) ((dg u (j + i) + dg d i + c) % 4294967296)) d j (i + 1) ((dg u (j + i) + dg d i + c) / 4294967296) := by
 obtain ⟨dgs, len, out, val, c0, c1⟩ := h
 have hx := dgs (j + i)
 have hv := hd i
 have hxe := out (j + i) (Or.inr (Nat.le_refl _))
 refine ⟨dgs.set (by omega) (by omega), by rw [List.length_set]; exact len, fun p hp => ?_, ?_, by omega⟩
 ·rw [dg_set, if_neg (by omega)]; exact out p (by omega)
 rw [Sm, Sm, Sm, Sm.set_out (Or.inr (Nat.le_refl _)), dg_set, if_pos ⟨rfl, hi⟩, Nat.zero_add, pw_succ, ← hxe]
 have hdm := Int.mul_ediv_add_emod (dg u (j + i) + dg d i + c) 4294967296
 generalize (4294967296 : Int) ^ i = P at *
 generalize (dg u (j + i) + dg d i + c) / 4294967296 = th at *
 generalize (dg u (j + i) + dg d i + c) % 4294967296 = tl at *
 have e : tl = dg u (j + i) + dg d i + c - 4294967296 * th := by omega
 rw [e]
 grind
structure St (u u' d : List Int) (j n : Nat) (q : Int) : Prop where
 dgs : Dg u'
 len : u'.length = u.length
 out : ∀ t, t < j ∨ j + n < t → dg u' t = dg u t
 val : Sm u' j (n + 1) + q * Sm d 0 n = Sm u j (n + 1)
 lt : Sm u' j (n + 1) < Sm d 0 n
 q0 : 0 ≤ q
 q1 : q < 4294967296
theorem MS.fin0 {u0 u d : List Int} {j n : Nat} {g c b : Int} (h : MS u0 u d j n g c b) (hi : j + n < u.length) (hg0 : 0 ≤ g) (hg1 : g < 4294967296)
  (hlt : Sm u0 j (n + 1) < (g + 1) * Sm d 0 n) (hb : ¬ dg u (j + n) < c + b) : St u0 (u.set (j + n) ((dg u (j + n) - c - b) % 4294967296)) d j n g := by
 obtain ⟨dgs, len, out, val, c0, c1, b0, b1⟩ := h
 have hx := dgs (j + n)
 have hxe := out (j + n) (Or.inr (Nat.le_refl _))
 have hy : (dg u (j + n) - c - b) % 4294967296 = dg u (j + n) - c - b := Int.emod_eq_of_lt (by omega) (by omega)
 have hv : Sm (u.set (j + n) ((dg u (j + n) - c - b) % 4294967296)) j (n + 1) + g * Sm d 0 n = Sm u0 j (n + 1) := by
  rw [Sm, Sm, Sm.set_out (Or.inr (Nat.le_refl _)), dg_set, if_pos ⟨rfl, hi⟩, hy, ← hxe]
  generalize (4294967296 : Int) ^ n = P at *
  grind
 refine ⟨dgs.set (by omega) (by omega), by rw [List.length_set]; exact len, fun p hp => ?_, hv, ?_, hg0, hg1⟩
 ·rw [dg_set, if_neg (by omega)]; exact out p (by omega)
 rw [Int.add_mul, Int.one_mul] at hlt
 omega
theorem MS.fin1 {u0 u u2 d : List Int} {j n : Nat} {g c b cc : Int} (h : MS u0 u d j n g c b) (hd : Dg d) (hi : j + n < u.length) (hg1 : g < 4294967296) (hU : Dg u0)
  (hnear : g * Sm d 0 n < Sm u0 j (n + 1) + Sm d 0 n) (hb : dg u (j + n) < c + b)
  (ha : AD (u.set (j + n) ((dg u (j + n) - c - b) % 4294967296)) u2 d j n cc) : St u0 (u2.set (j + n) ((dg u2 (j + n) + cc) % 4294967296)) d j n (g - 1) := by
 obtain ⟨dgs, len, out, val, c0, c1, b0, b1⟩ := h
 obtain ⟨dgs2, len2, out2, val2, cc0, cc1⟩ := ha
 rw [List.length_set] at len2
 have hx := dgs (j + n)
 have hxe := out (j + n) (Or.inr (Nat.le_refl _))
 have hy : (dg u (j + n) - c - b) % 4294967296 = dg u (j + n) - c - b + 4294967296 := by omega
 have hx2 : dg u2 (j + n) = dg u (j + n) - c - b + 4294967296 := by rw [out2 _ (Or.inr (Nat.le_refl _)), dg_set, if_pos ⟨rfl, hi⟩, hy]
 rw [Sm.set_out (Or.inr (Nat.le_refl _))] at val2
 have hL0 := Sm.nonneg dgs2 j n
 have hL1 := Sm.lt dgs2 j n
 have hV0 := Sm.nonneg hd 0 n
 have hV1 := Sm.lt hd 0 n
 have hP := pw_pos n
 have hU0 := Sm.nonneg hU j (n + 1)
 have hz0 : 0 ≤ (dg u2 (j + n) + cc) % 4294967296 := by omega
 have hz1 : (dg u2 (j + n) + cc) % 4294967296 < 4294967296 := by omega
 have hzd : (dg u2 (j + n) + cc) / 4294967296 = 0 ∨ (dg u2 (j + n) + cc) / 4294967296 = 1 := by omega
 have hzm := Int.mul_ediv_add_emod (dg u2 (j + n) + cc) 4294967296
 have hS : Sm u0 j (n + 1) = Sm u0 j n + dg u0 (j + n) * 4294967296 ^ n := rfl
 have hQ : Sm (u2.set (j + n) ((dg u2 (j + n) + cc) % 4294967296)) j (n + 1) = Sm u2 j n + (dg u2 (j + n) + cc) % 4294967296 * 4294967296 ^ n := by
  rw [Sm, Sm.set_out (Or.inr (Nat.le_refl _)), dg_set, if_pos ⟨rfl, by omega⟩]
 have hR0 : 0 ≤ Sm u2 j n + (dg u2 (j + n) + cc) % 4294967296 * 4294967296 ^ n := by
  have := Int.mul_nonneg hz0 (Int.le_of_lt hP); omega
 have hR1 : Sm u2 j n + (dg u2 (j + n) + cc) % 4294967296 * 4294967296 ^ n < 4294967296 * 4294967296 ^ n := by
  have : (dg u2 (j + n) + cc) % 4294967296 * 4294967296 ^ n ≤ 4294967295 * 4294967296 ^ n := Int.mul_le_mul_of_nonneg_right (by omega) (Int.le_of_lt hP)
  omega
 have hv : Sm u2 j n + (dg u2 (j + n) + cc) % 4294967296 * 4294967296 ^ n + (g - 1) * Sm d 0 n = Sm u0 j (n + 1) ∧ Sm u2 j n + (dg u2 (j + n) + cc) % 4294967296 * 4294967296 ^ n < Sm d 0 n := by
  have e1 : (dg u2 (j + n) + cc) % 4294967296 = dg u (j + n) - c - b + 4294967296 + cc - 4294967296 * ((dg u2 (j + n) + cc) / 4294967296) := by omega
  have e2 : Sm u2 j n = Sm u j n + Sm d 0 n - cc * 4294967296 ^ n := by omega
  have e3 : Sm u2 j n + (dg u2 (j + n) + cc) % 4294967296 * 4294967296 ^ n = Sm u0 j (n + 1) - g * Sm d 0 n + Sm d 0 n + (1 - (dg u2 (j + n) + cc) / 4294967296) * (4294967296 * 4294967296 ^ n) := by
   rw [e1, e2, hS, ← hxe]
   generalize (4294967296 : Int) ^ n = P at *
   generalize (dg u2 (j + n) + cc) / 4294967296 = z at *
   grind
  have e5 : (dg u2 (j + n) + cc) / 4294967296 = 1 := by
   rcases hzd with h0 | h0
   ·exfalso
    rw [h0] at e3
    have : 0 ≤ Sm u0 j (n + 1) - g * Sm d 0 n + Sm d 0 n := by omega
    omega
   exact h0
  have hneg : Sm u0 j (n + 1) < g * Sm d 0 n := by
   have f1 : Sm u j n < 4294967296 ^ n := Sm.lt dgs j n
   have f2 : (dg u (j + n) - c - b) * 4294967296 ^ n ≤ (-1) * 4294967296 ^ n := Int.mul_le_mul_of_nonneg_right (by omega) (Int.le_of_lt hP)
   rw [hS, ← hxe]
   generalize (4294967296 : Int) ^ n = P at *
   grind
  rw [e5, Int.sub_self, Int.zero_mul, Int.add_zero] at e3
  rw [e3, Int.sub_mul, Int.one_mul]
  omega
 refine ⟨dgs2.set hz0 hz1, by rw [List.length_set, len2]; exact len, fun p hp => ?_, by rw [hQ]; exact hv.1, by rw [hQ]; exact hv.2, ?_, by omega⟩
 ·rw [dg_set, if_neg (by omega), out2 p (by omega), dg_set, if_neg (by omega)]; exact out p (by omega)
 ·
  refine Classical.byContradiction fun hc => ?_
  have h1 := hv.1
  have h2 : (g - 1) * Sm d 0 n ≤ (-1) * Sm d 0 n := Int.mul_le_mul_of_nonneg_right (by omega) hV0
  omega
end Go.Proofs.YtfnfjmeiaamheaaDoor.PA
namespace Go.Proofs.YtfnfjmeiaamheaaDoor.PA
open Go.RowKit Go.Proofs.YtfnfjmeiaamheaaDoorW.PrintWords Go.Proofs.YtfnfjmeiaamheaaDoorW.PrintLast Go.Proofs.YtfnfjmeiaamheaaDoorW.PrintMore
def bits_Sub32.f (a0 : Int) (a1 : Int) (a2 : Int) : Option (Int × Int) :=
 if 0 ≤ a0 ∧ a0 < 4294967296 ∧ 0 ≤ a1 ∧ a1 < 4294967296 ∧ 0 ≤ a2 ∧ a2 ≤ 1 then some ((a0 - a1 - a2) % 4294967296, if a0 < a1 + a2 then 1 else 0) else none
theorem b31 (n : Nat) (h : n < 4294967296) : n.testBit 31 = decide (2147483648 ≤ n) := by
 rw [Nat.testBit_eq_decide_div_mod_eq]
 by_cases h1 : 2147483648 ≤ n
 ·have : n / 2 ^ 31 = 1 := by omega
  simp [this, h1]
 have : n / 2 ^ 31 = 0 := by omega
 simp [this, h1]
theorem top31 (n : Nat) (h : n < 4294967296) : n / 2147483648 = (n.testBit 31).toNat := by
 rw [b31 n h]
 by_cases h1 : 2147483648 ≤ n
 ·simp [h1]; omega
 simp [h1]; omega
theorem u32_in (n : Int) (h0 : 0 ≤ n) (h1 : n < 2 ^ 32) : IntKind.u32.wrap n = n := by rw [IntKind.wrap_u32]; omega
theorem u32_and (a b : Nat) (ha : a < 4294967296) (hb : b < 4294967296) : bits .and .u32 (a : Int) (b : Int) = ((a &&& b : Nat) : Int) := (bits_nat .u32 32 (by decide) u32_in a b ha hb).1
theorem u32_or (a b : Nat) (ha : a < 4294967296) (hb : b < 4294967296) : bits .or .u32 (a : Int) (b : Int) = ((a ||| b : Nat) : Int) := (bits_nat .u32 32 (by decide) u32_in a b ha hb).2
theorem u32_xor (a b : Nat) (ha : a < 4294967296) (hb : b < 4294967296) : bits .xor .u32 (a : Int) (b : Int) = ((a ^^^ b : Nat) : Int) := by
 have ha' : a % 2 ^ 32 = a := Nat.mod_eq_of_lt ha
 have hb' : b % 2 ^ 32 = b := Nat.mod_eq_of_lt hb
 have hlt : a ^^^ b < 2 ^ 32 := Nat.xor_lt_two_pow ha hb
 show IntKind.u32.wrap ((BitVec.ofInt 32 (a : Int) ^^^ BitVec.ofInt 32 (b : Int)).toNat : Int) = _
 rw [BitVec.ofInt_natCast, BitVec.ofInt_natCast, BitVec.toNat_xor, BitVec.toNat_ofNat, BitVec.toNat_ofNat, ha', hb']
 exact u32_in _ (Int.natCast_nonneg _) (by exact_mod_cast hlt)
theorem borrow_nat (x y c d : Nat) (hx : x < 4294967296) (hy : y < 4294967296) (hc : c ≤ 1) (hd : d < 4294967296) (he : (d : Int) = ((x : Int) - y - c) % 4294967296) :
 (((4294967295 ^^^ x) &&& y) ||| ((4294967295 ^^^ (x ^^^ y)) &&& d)) / 2147483648 = if x < y + c then 1 else 0 := by
 have hxy : x ^^^ y < 4294967296 := Nat.xor_lt_two_pow (n := 32) hx hy
 have h1 : 4294967295 ^^^ x < 4294967296 := Nat.xor_lt_two_pow (n := 32) (by decide) hx
 have h2 : 4294967295 ^^^ (x ^^^ y) < 4294967296 := Nat.xor_lt_two_pow (n := 32) (by decide) hxy
 have h3 : (4294967295 ^^^ x) &&& y < 4294967296 := Nat.and_lt_two_pow (n := 32) _ hy
 have h4 : (4294967295 ^^^ (x ^^^ y)) &&& d < 4294967296 := Nat.and_lt_two_pow (n := 32) _ hd
 rw [top31 _ (Nat.or_lt_two_pow (n := 32) h3 h4), Nat.testBit_or, Nat.testBit_and, Nat.testBit_and, Nat.testBit_xor, Nat.testBit_xor, Nat.testBit_xor, b31 x hx, b31 y hy, b31 d hd, b31 4294967295 (by decide)]
 by_cases k1 : 2147483648 ≤ x <;> by_cases k2 : 2147483648 ≤ y <;> by_cases k3 : 2147483648 ≤ d <;> simp [k1, k2, k3] <;> omega
set_option maxRecDepth 100000 in
theorem bits_Sub32.calls (a0 : Int) (a1 : Int) (a2 : Int) (r1 : Int) (r2 : Int) (w : World) (h : bits_Sub32.f a0 a1 a2 = some (r1, r2)) :
  Calls Tryd.prog 91 #[.int .u32 a0, .int .u32 a1, .int .u32 a2] w fun e w' => e = .returned (.tuple #[.int .u32 r1, .int .u32 r2]) ∧ Drawn0 w w' := by
 unfold bits_Sub32.f at h
 split at h
 ·rename_i hc
  obtain ⟨h0, h1, h2, h3, h4, h5⟩ := hc
  have hm := Lib.hid (show bits .or .u32 (bits .and .u32 (bits .xor .u32 IntKind.u32.max a0) a1) (bits .and .u32 (bits .xor .u32 IntKind.u32.max (bits .xor .u32 a0 a1)) ((a0 - a1 - a2) % 4294967296)) / 2147483648 = if a0 < a1 + a2 then 1 else 0 by
   obtain ⟨x, rfl⟩ := Int.eq_ofNat_of_zero_le h0
   obtain ⟨y, rfl⟩ := Int.eq_ofNat_of_zero_le h2
   obtain ⟨c, rfl⟩ := Int.eq_ofNat_of_zero_le h4
   obtain ⟨d, hd⟩ := Int.eq_ofNat_of_zero_le (show 0 ≤ ((x : Int) - y - c) % 4294967296 by omega)
   have hx : x < 4294967296 := by omega
   have hy : y < 4294967296 := by omega
   have hdl : d < 4294967296 := by omega
   have hxy : x ^^^ y < 4294967296 := Nat.xor_lt_two_pow (n := 32) hx hy
   rw [hd, show IntKind.u32.max = ((4294967295 : Nat) : Int) from rfl, u32_xor _ x (by decide) hx, u32_xor x y hx hy, u32_xor _ _ (by decide) hxy]
   rw [u32_and _ y (Nat.xor_lt_two_pow (n := 32) (by decide) hx) hy, u32_and _ d (Nat.xor_lt_two_pow (n := 32) (by decide) hxy) hdl, u32_or _ _ (Nat.and_lt_two_pow (n := 32) _ hy) (Nat.and_lt_two_pow (n := 32) _ hdl)]
   have := borrow_nat x y c d hx hy (by omega) hdl hd.symm
   rw [show (2147483648 : Int) = ((2147483648 : Nat) : Int) from rfl, ← Int.natCast_ediv, this]
   by_cases hlt : x < y + c
   ·rw [if_pos hlt, if_pos (by omega)]; rfl
   rw [if_neg hlt, if_neg (by omega)]; rfl)
  have hr := Lib.hid (Option.some.inj h)
  clear h
  go_enter Tryd.func91, Tryd.ntmps91
  go_wp2
  go_ret2
  refine ⟨?_, Drawn0.refl _⟩
  have e1 := congrArg Prod.fst hr.out
  have e2 := congrArg Prod.snd hr.out
  simp only at e1 e2
  rw [← e1, ← e2, ← hm.out]
  rfl
 cases h
end Go.Proofs.YtfnfjmeiaamheaaDoor.PA
namespace Go.Proofs.YtfnfjmeiaamheaaDoor.PA
open Go.RowKit Go.Proofs.YtfnfjmeiaamheaaDoorW.PrintWords Go.Proofs.YtfnfjmeiaamheaaDoorW.PrintLast Go.Proofs.YtfnfjmeiaamheaaDoorW.PrintMore
attribute [local go_sem] max2_int min2_int max_two min_two max_three min_three max_four min_four
def bits_Add32.f (a0 : Int) (a1 : Int) (a2 : Int) : Option (Int × Int) := some ((IntKind.u64.wrap ((IntKind.u64.wrap ((IntKind.u64.wrap (a0)) + (IntKind.u64.wrap (a1)))) + (IntKind.u64.wrap (a2)))) % 4294967296, ((IntKind.u64.wrap ((IntKind.u64.wrap ((IntKind.u64.wrap (a0)) + (IntKind.u64.wrap (a1)))) + (IntKind.u64.wrap (a2)))) / 4294967296) % 4294967296)
set_option maxHeartbeats 8000000 in
set_option maxRecDepth 100000 in
theorem bits_Add32.calls (a0 : Int) (a1 : Int) (a2 : Int) (r1 : Int) (r2 : Int) (w : World) (h : bits_Add32.f a0 a1 a2 = some (r1, r2)) :
 Calls Tryd.prog 92 #[.int .u32 a0, .int .u32 a1, .int .u32 a2] w fun e w' => e = .returned (.tuple #[.int .u32 r1, .int .u32 r2]) ∧ Drawn0 w w' := by
 have H : (some ((IntKind.u64.wrap ((IntKind.u64.wrap ((IntKind.u64.wrap (a0)) + (IntKind.u64.wrap (a1)))) + (IntKind.u64.wrap (a2)))) % 4294967296, ((IntKind.u64.wrap ((IntKind.u64.wrap ((IntKind.u64.wrap (a0)) + (IntKind.u64.wrap (a1)))) + (IntKind.u64.wrap (a2)))) / 4294967296) % 4294967296)) = some (r1, r2) := h
 clear h
 simp only [Option.some.injEq, Prod.mk.injEq] at H
 obtain ⟨rfl, rfl⟩ := H
 go_enter Tryd.func92, Tryd.ntmps92
 go_wp2
 go_ret2
 exact ⟨by first | rfl | (simp; done) | (simp [*]; done), by repeat (first | exact Drawn0.refl _ | apply Drawn0.step)⟩
mutual
def n_step.j2 : Nat → List Int → List Int → Int → Int → Option (Int × List Int)
 | 0, _, _, _, _ => none
 | k + 1, x0, x1, x5, x7 => n_step.l1 k x0 x1 x5 x7 0 0 x1 (x1.length : Int) 0
def n_step.l1 : Nat → List Int → List Int → Int → Int → Int → Int → List Int → Int → Int → Option (Int × List Int)
 | 0, _, _, _, _, _, _, _, _, _ => none
 | k + 1, x0, x1, x5, x7, x9, x10, x82, x83, x84 => if x84 < x83 then (if 0 ≤ x84 then (if x84 < (x82.length : Int) then (if x84 < (x0.length : Int) then ((bits_Sub32.f (rd x0 x84) ((IntKind.u64.wrap ((IntKind.u64.wrap (x7 * (IntKind.u64.wrap (rd x82 x84)))) + x9)) % 4294967296) x10).bind fun bt156 => (n_step.l1 k (x0.set (x84 : Int).toNat bt156.1) x1 x5 x7 ((IntKind.u64.wrap ((IntKind.u64.wrap (x7 * (IntKind.u64.wrap (rd x82 x84)))) + x9)) / 4294967296) bt156.2 x82 x83 (wrap64 (x84 + 1)))) else (none)) else (none)) else (none)) else (if 0 ≤ x5 then (if x5 < (x0.length : Int) then ((bits_Sub32.f (rd x0 x5) ((x9) % 4294967296) x10).bind fun bt160 => ((some (x0.set (x5 : Int).toNat bt160.1 : List Int)).bind fun y162 => (if bt160.2 = 0 then (some ((x7) % 4294967296, y162)) else (n_step.l2 k y162 x5 x7 0 x1 (x1.length : Int) 0)))) else (none)) else (none))
def n_step.l2 : Nat → List Int → Int → Int → Int → List Int → Int → Int → Option (Int × List Int)
 | 0, _, _, _, _, _, _, _ => none
 | k + 1, x0, x5, x7, x14, x130, x131, x132 => if x132 < x131 then (if 0 ≤ x132 then (if x132 < (x130.length : Int) then (if x132 < (x0.length : Int) then ((bits_Add32.f (rd x0 x132) (rd x130 x132) x14).bind fun bt165 => (n_step.l2 k (x0.set (x132 : Int).toNat bt165.1) x5 x7 bt165.2 x130 x131 (wrap64 (x132 + 1)))) else (none)) else (none)) else (none)) else (if 0 ≤ x5 then (if x5 < (x0.length : Int) then (some ((IntKind.u64.wrap (x7 - 1)) % 4294967296, (x0.set (x5 : Int).toNat (((rd x0 x5) + x14) % 4294967296)))) else (none)) else (none))
def n_step.l0 : Nat → List Int → List Int → Int → Int → Int → Option (Int × List Int)
 | 0, _, _, _, _, _ => none
 | k + 1, x0, x1, x5, x7, x8 => if x7 ≥ 4294967296 then (n_step.j1 k x0 x1 x5 x7 x8 true) else (if 0 ≤ (wrap64 (x5 - 2)) then (if (wrap64 (x5 - 2)) < (x1.length : Int) then (if (wrap64 (x5 - 2)) < (x0.length : Int) then (n_step.j1 k x0 x1 x5 x7 x8 (decide ((IntKind.u64.wrap (x7 * (IntKind.u64.wrap (rd x1 (wrap64 (x5 - 2)))))) > (Go.bits .or .u64 (IntKind.u64.wrap (x8 * 4294967296)) (IntKind.u64.wrap (rd x0 (wrap64 (x5 - 2)))))))) else (none)) else (none)) else (none))
def n_step.j1 : Nat → List Int → List Int → Int → Int → Int → Bool → Option (Int × List Int)
 | 0, _, _, _, _, _, _ => none
 | k + 1, x0, x1, x5, x7, x8, x69 => if x69 = true then (if 0 ≤ (wrap64 (x5 - 1)) then (if (wrap64 (x5 - 1)) < (x1.length : Int) then (if (IntKind.u64.wrap (x8 + (IntKind.u64.wrap (rd x1 (wrap64 (x5 - 1)))))) ≥ 4294967296 then (n_step.j2 k x0 x1 x5 (IntKind.u64.wrap (x7 - 1))) else (n_step.l0 k x0 x1 x5 (IntKind.u64.wrap (x7 - 1)) (IntKind.u64.wrap (x8 + (IntKind.u64.wrap (rd x1 (wrap64 (x5 - 1)))))))) else (none)) else (none)) else (n_step.j2 k x0 x1 x5 x7)
end
def n_step.f (k : Nat) (l0 : List Int) (l1 : List Int) : Option (Int × List Int) := if 0 ≤ (l1.length : Int) then (if (l1.length : Int) < (l0.length : Int) then (if 0 ≤ (wrap64 ((l1.length : Int) - 1)) then (if (wrap64 ((l1.length : Int) - 1)) < (l0.length : Int) then (if (wrap64 ((l1.length : Int) - 1)) < (l1.length : Int) then (if (IntKind.u64.wrap (rd l1 (wrap64 ((l1.length : Int) - 1)))) = 0 then (none) else (n_step.l0 k l0 l1 (l1.length : Int) (IntKind.u64.wrap (Int.tdiv (Go.bits .or .u64 (IntKind.u64.wrap ((IntKind.u64.wrap (rd l0 (l1.length : Int))) * 4294967296)) (IntKind.u64.wrap (rd l0 (wrap64 ((l1.length : Int) - 1))))) (IntKind.u64.wrap (rd l1 (wrap64 ((l1.length : Int) - 1)))))) (Int.tmod (Go.bits .or .u64 (IntKind.u64.wrap ((IntKind.u64.wrap (rd l0 (l1.length : Int))) * 4294967296)) (IntKind.u64.wrap (rd l0 (wrap64 ((l1.length : Int) - 1))))) (IntKind.u64.wrap (rd l1 (wrap64 ((l1.length : Int) - 1))))))) else (none)) else (none)) else (none)) else (none)) else (none)
end Go.Proofs.YtfnfjmeiaamheaaDoor.PA
