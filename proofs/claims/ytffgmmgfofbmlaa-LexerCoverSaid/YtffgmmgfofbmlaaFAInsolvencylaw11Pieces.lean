-- Written by a program of this session (wip/tools/pr.py) that drives the kit's print tool over a turned print.
import Derived.Test.YtffgmmgfofbmlaaTA
namespace Go.Proofs.Ytffgmmgfofbmlaa.PA
open Go.RowKit Go.Proofs.YtffgmmgfofbmlaaW.PrintWords Go.Proofs.YtffgmmgfofbmlaaW.PrintLast Go.Proofs.YtffgmmgfofbmlaaW.PrintMore
attribute [local go_sem] max2_int min2_int max_two min_two max_three min_three max_four min_four   -- for this text's walks alone
set_option linter.unusedVariables false
set_option linter.unusedSimpArgs false

/-! ### insolvencylaw11_pieces: function 15 -/
def insolvencylaw11_pieces.l0 : Nat → List Int → ByteArray → Int → Option (ByteArray)
  | 0, _, _, _ => none
  | k + 1, x0, x3, x4 => if x4 < (x0.length : Int) then (if x4 < 60 then ((some (([(⟨#[99, 108, 97, 115, 115]⟩ : ByteArray), (⟨#[98, 101, 102, 111, 114, 101]⟩ : ByteArray), (⟨#[108, 105, 109, 105, 116]⟩ : ByteArray), (⟨#[115, 117, 98, 111, 114, 100, 105, 110, 97, 116, 101]⟩ : ByteArray), (⟨#[97]⟩ : ByteArray), (⟨#[98, 45, 49]⟩ : ByteArray), (⟨#[99, 95, 50]⟩ : ByteArray), (⟨#[49, 50]⟩ : ByteArray), (⟨#[51, 46, 53]⟩ : ByteArray), (⟨#[55, 47, 50]⟩ : ByteArray), (⟨#[48]⟩ : ByteArray), (⟨#[61]⟩ : ByteArray), (⟨#[44]⟩ : ByteArray), (⟨#[59]⟩ : ByteArray), (⟨#[32]⟩ : ByteArray), (⟨#[32]⟩ : ByteArray), (⟨#[10]⟩ : ByteArray), (⟨#[9]⟩ : ByteArray), (⟨#[35, 120]⟩ : ByteArray), (⟨#[46]⟩ : ByteArray), (⟨#[47]⟩ : ByteArray), (⟨#[45]⟩ : ByteArray), (⟨#[99, 108, 97, 115, 115, 121]⟩ : ByteArray)] : List ByteArray) : List ByteArray)).bind fun y197 => (if 0 ≤ x4 then (if 0 ≤ (Int.tmod (rd x0 x4) 23) then (if (Int.tmod (rd x0 x4) 23) < (y197.length : Int) then (if x3.size + (rdOf ByteArray.empty y197 (Int.tmod (rd x0 x4) 23)).size ≤ 9223372036854775807 then (insolvencylaw11_pieces.l0 k x0 (x3 ++ (rdOf ByteArray.empty y197 (Int.tmod (rd x0 x4) 23))) (wrap64 (x4 + 1))) else (none)) else (none)) else (none)) else (none))) else (some x3)) else (some x3)
def insolvencylaw11_pieces.f (k : Nat) (l0 : List Int) : Option (ByteArray) := insolvencylaw11_pieces.l0 k l0 (⟨#[]⟩ : ByteArray) 0
theorem insolvencylaw11_pieces.mono_l : ∀ k, (∀ y0 y1 y2, LeO (insolvencylaw11_pieces.l0 k y0 y1 y2) (insolvencylaw11_pieces.l0 (k + 1) y0 y1 y2))
  | 0 => fun _ _ _ r h => by simp [insolvencylaw11_pieces.l0] at h
  | k + 1 => by
    have ih0 := insolvencylaw11_pieces.mono_l k
    · intro y0 y1 y2
      unfold insolvencylaw11_pieces.l0
      repeat' first
      | (with_reducible exact ih0 _ _ _)
      | (with_reducible exact LeO.refl _)
      | (with_reducible exact LeO.none _)
      | (with_reducible refine LeO.ite ?_ ?_)
      | (with_reducible refine LeO.bind ?_ (fun _ => ?_))
      | exact ih0 _ _ _
      | exact LeO.none _
      | refine LeO.ite ?_ ?_
      | refine LeO.bind ?_ (fun _ => ?_)
theorem insolvencylaw11_pieces.mono : ∀ a0 k, LeO (insolvencylaw11_pieces.f k a0) (insolvencylaw11_pieces.f (k + 1) a0) := by
  intro a0 k
  have ih0 := insolvencylaw11_pieces.mono_l k
  unfold insolvencylaw11_pieces.f
  repeat' first
      | (with_reducible exact ih0 _ _ _)
      | (with_reducible exact LeO.refl _)
      | (with_reducible exact LeO.none _)
      | (with_reducible refine LeO.ite ?_ ?_)
      | (with_reducible refine LeO.bind ?_ (fun _ => ?_))
      | exact ih0 _ _ _
      | exact LeO.none _
      | refine LeO.ite ?_ ?_
      | refine LeO.bind ?_ (fun _ => ?_)
set_option maxHeartbeats 8000000 in
set_option maxRecDepth 100000 in
theorem insolvencylaw11_pieces.calls (k : Nat) (A0 : Option Addr) (c0 : Nat) (l0 : List Int) (r : ByteArray) (w : World) (hr0 : Kd.C (Kd.int .u8) w A0 l0.length l0) (hc0 : l0.length ≤ c0) (h : insolvencylaw11_pieces.f k l0 = some r) :
    Calls Try.prog 15 #[.slice A0 l0.length c0] w fun e w' => e = .returned (.string r) ∧ Below w.heap.size w w' := by
  have HR0 := Aside0.mk hr0
  have HC0 := Aside0.mk hc0
  clear hr0 hc0
  have HB := Aside0.mk (Below.refl w.heap.size w)
  have H : (insolvencylaw11_pieces.l0 k l0 (⟨#[]⟩ : ByteArray) 0) = some r := h
  clear h
  have H' := Aside0.mk H
  clear H
  go_enter Try.func15, Try.ntmps15
  go_wp2
  go_loopg [3, 4] k (fun kq v3 v4 w' => ∃ (x3_1 : ByteArray) (x4_1 : Int), v3 = .string x3_1 ∧ v4 = .int .i64 x4_1 ∧ Aside0 (insolvencylaw11_pieces.l0 kq l0 x3_1 x4_1 = some r) ∧ Aside0 (kq ≤ k) ∧ Aside0 (Below w.heap.size w w'))
  case atStart => exact ⟨((⟨#[]⟩ : ByteArray)), (0), (by first | rfl | (simp; done) | (simp [*]; done)), (by first | rfl | (simp; done) | (simp [*]; done)), H', ⟨Nat.le_refl _⟩, ⟨by repeat (first | (with_reducible first | exact HB.out | apply below_alloc | apply pw_below_drewN | apply below_drew1) | exact HB.out)⟩⟩
  case round =>
    clear H'
    try clear c1
    obtain ⟨x3_1, x4_1, rfl, rfl, HA, HK1, HB⟩ := hrel
    cases gk with
    | zero => exact absurd HA.out (by simp [insolvencylaw11_pieces.l0])
    | succ k1 =>
      have H := HA.out
      clear HA
      simp only [insolvencylaw11_pieces.l0] at H
      by_cases c2 : x4_1 < (l0.length : Int)
      · rw [if_pos c2] at H
        have c2b0 : decide (x4_1 < (l0.length : Int)) = true := decide_eq_true c2
        clear c2
        by_cases c3 : x4_1 < 60
        · rw [if_pos c3] at H
          have c3b0 : decide (x4_1 < 60) = true := decide_eq_true c3
          clear c3
          obtain ⟨y197, hy197⟩ : ∃ y_ : List ByteArray, y_ = (([(⟨#[99, 108, 97, 115, 115]⟩ : ByteArray), (⟨#[98, 101, 102, 111, 114, 101]⟩ : ByteArray), (⟨#[108, 105, 109, 105, 116]⟩ : ByteArray), (⟨#[115, 117, 98, 111, 114, 100, 105, 110, 97, 116, 101]⟩ : ByteArray), (⟨#[97]⟩ : ByteArray), (⟨#[98, 45, 49]⟩ : ByteArray), (⟨#[99, 95, 50]⟩ : ByteArray), (⟨#[49, 50]⟩ : ByteArray), (⟨#[51, 46, 53]⟩ : ByteArray), (⟨#[55, 47, 50]⟩ : ByteArray), (⟨#[48]⟩ : ByteArray), (⟨#[61]⟩ : ByteArray), (⟨#[44]⟩ : ByteArray), (⟨#[59]⟩ : ByteArray), (⟨#[32]⟩ : ByteArray), (⟨#[32]⟩ : ByteArray), (⟨#[10]⟩ : ByteArray), (⟨#[9]⟩ : ByteArray), (⟨#[35, 120]⟩ : ByteArray), (⟨#[46]⟩ : ByteArray), (⟨#[47]⟩ : ByteArray), (⟨#[45]⟩ : ByteArray), (⟨#[99, 108, 97, 115, 115, 121]⟩ : ByteArray)] : List ByteArray)) := ⟨_, rfl⟩
          replace H : (if 0 ≤ x4_1 then (if 0 ≤ (Int.tmod (rd l0 x4_1) 23) then (if (Int.tmod (rd l0 x4_1) 23) < (y197.length : Int) then (if x3_1.size + (rdOf ByteArray.empty y197 (Int.tmod (rd l0 x4_1) 23)).size ≤ 9223372036854775807 then (insolvencylaw11_pieces.l0 k1 l0 (x3_1 ++ (rdOf ByteArray.empty y197 (Int.tmod (rd l0 x4_1) 23))) (wrap64 (x4_1 + 1))) else (none)) else (none)) else (none)) else (none)) = some r := by first | (rw [hy197]; with_reducible exact H) | (have H2_ := (Option.bind_some _ _).symm.trans H; rw [hy197]; with_reducible exact H2_) | (have H2_ := (Option.bind_some _ _).symm.trans H; with_reducible exact H2_) | with_reducible exact H | (rw [hy197]; exact H) | exact H
          have Ny197 := Aside0.mk hy197
          clear hy197
          by_cases c4 : 0 ≤ x4_1
          · rw [if_pos c4] at H
            have c4b0 : decide (0 ≤ x4_1) = true := decide_eq_true c4
            clear c4
            obtain ⟨ji5, hji5⟩ : ∃ j_ : Int, (Int.tmod (rd l0 x4_1) 23) = j_ := ⟨_, rfl⟩
            replace H : (if 0 ≤ (ji5) then (if (ji5) < (y197.length : Int) then (if x3_1.size + (rdOf ByteArray.empty y197 (ji5)).size ≤ 9223372036854775807 then (insolvencylaw11_pieces.l0 k1 l0 (x3_1 ++ (rdOf ByteArray.empty y197 (ji5))) (wrap64 (x4_1 + 1))) else (none)) else (none)) else (none)) = some r := by first | (rw [hji5] at H; exact H) | (simp only [hji5] at H ⊢; exact H)
            by_cases c6 : 0 ≤ (ji5)
            · rw [if_pos c6] at H
              have c6b0 : decide (0 ≤ (ji5)) = true := decide_eq_true c6
              clear c6
              by_cases c7 : (ji5) < (y197.length : Int)
              · rw [if_pos c7] at H
                have c7b0 : decide ((ji5) < (y197.length : Int)) = true := decide_eq_true c7
                clear c7
                by_cases c8 : x3_1.size + (rdOf ByteArray.empty y197 (ji5)).size ≤ 9223372036854775807
                · rw [if_pos c8] at H
                  have c8b0 := eq_true c8
                  have c8b1 : decide (x3_1.size + (rdOf ByteArray.empty y197 (ji5)).size ≤ 9223372036854775807) = true := decide_eq_true c8
                  try have c8b2 : (9223372036854775807 < x3_1.size + (rdOf ByteArray.empty y197 (ji5)).size) = False := eq_false (Nat.not_lt.2 c8)
                  have H' := Aside0.mk H
                  clear H
                  go_wp2_with (first | ((with_reducible refine gate_dst (N := 16) rfl ?_); refine Kd.R_lit Kd.string _ 9 ?hg (N := 16) ?hd (xs := ([(⟨#[99, 108, 97, 115, 115]⟩ : ByteArray), (⟨#[98, 101, 102, 111, 114, 101]⟩ : ByteArray), (⟨#[108, 105, 109, 105, 116]⟩ : ByteArray), (⟨#[115, 117, 98, 111, 114, 100, 105, 110, 97, 116, 101]⟩ : ByteArray), (⟨#[97]⟩ : ByteArray), (⟨#[98, 45, 49]⟩ : ByteArray), (⟨#[99, 95, 50]⟩ : ByteArray), (⟨#[49, 50]⟩ : ByteArray), (⟨#[51, 46, 53]⟩ : ByteArray), (⟨#[55, 47, 50]⟩ : ByteArray), (⟨#[48]⟩ : ByteArray), (⟨#[61]⟩ : ByteArray), (⟨#[44]⟩ : ByteArray), (⟨#[59]⟩ : ByteArray), (⟨#[32]⟩ : ByteArray), (⟨#[32]⟩ : ByteArray), (⟨#[10]⟩ : ByteArray), (⟨#[9]⟩ : ByteArray), (⟨#[35, 120]⟩ : ByteArray), (⟨#[46]⟩ : ByteArray), (⟨#[47]⟩ : ByteArray), (⟨#[45]⟩ : ByteArray), (⟨#[99, 108, 97, 115, 115, 121]⟩ : ByteArray)] : List ByteArray)) (inner := [.string (⟨#[99, 108, 97, 115, 115]⟩ : ByteArray), .string (⟨#[98, 101, 102, 111, 114, 101]⟩ : ByteArray), .string (⟨#[108, 105, 109, 105, 116]⟩ : ByteArray), .string (⟨#[115, 117, 98, 111, 114, 100, 105, 110, 97, 116, 101]⟩ : ByteArray), .string (⟨#[97]⟩ : ByteArray), .string (⟨#[98, 45, 49]⟩ : ByteArray), .string (⟨#[99, 95, 50]⟩ : ByteArray), .string (⟨#[49, 50]⟩ : ByteArray), .string (⟨#[51, 46, 53]⟩ : ByteArray), .string (⟨#[55, 47, 50]⟩ : ByteArray), .string (⟨#[48]⟩ : ByteArray), .string (⟨#[61]⟩ : ByteArray), .string (⟨#[44]⟩ : ByteArray), .string (⟨#[59]⟩ : ByteArray), .string (⟨#[32]⟩ : ByteArray), .string (⟨#[32]⟩ : ByteArray), .string (⟨#[10]⟩ : ByteArray), .string (⟨#[9]⟩ : ByteArray), .string (⟨#[35, 120]⟩ : ByteArray), .string (⟨#[46]⟩ : ByteArray), .string (⟨#[47]⟩ : ByteArray), .string (⟨#[45]⟩ : ByteArray), .string (⟨#[99, 108, 97, 115, 115, 121]⟩ : ByteArray)]) (ok := fun _ => True) (okp := fun _ => True) ?hr ?hp (fun _ hk => hk) trivial (Below.refl _ _) (Nat.le_refl _) (by simp) ?_; (case hd => rfl); (case hg => rfl); (case hr => first | (go_simp; done) | (go_simp; rfl)); (case hp => exact (Reps.one (show Kd.M Kd.string _ _ _ (⟨#[99, 108, 97, 115, 115]⟩ : ByteArray) [.string (⟨#[99, 108, 97, 115, 115]⟩ : ByteArray)] from rfl) (Reps.one (show Kd.M Kd.string _ _ _ (⟨#[98, 101, 102, 111, 114, 101]⟩ : ByteArray) [.string (⟨#[98, 101, 102, 111, 114, 101]⟩ : ByteArray)] from rfl) (Reps.one (show Kd.M Kd.string _ _ _ (⟨#[108, 105, 109, 105, 116]⟩ : ByteArray) [.string (⟨#[108, 105, 109, 105, 116]⟩ : ByteArray)] from rfl) (Reps.one (show Kd.M Kd.string _ _ _ (⟨#[115, 117, 98, 111, 114, 100, 105, 110, 97, 116, 101]⟩ : ByteArray) [.string (⟨#[115, 117, 98, 111, 114, 100, 105, 110, 97, 116, 101]⟩ : ByteArray)] from rfl) (Reps.one (show Kd.M Kd.string _ _ _ (⟨#[97]⟩ : ByteArray) [.string (⟨#[97]⟩ : ByteArray)] from rfl) (Reps.one (show Kd.M Kd.string _ _ _ (⟨#[98, 45, 49]⟩ : ByteArray) [.string (⟨#[98, 45, 49]⟩ : ByteArray)] from rfl) (Reps.one (show Kd.M Kd.string _ _ _ (⟨#[99, 95, 50]⟩ : ByteArray) [.string (⟨#[99, 95, 50]⟩ : ByteArray)] from rfl) (Reps.one (show Kd.M Kd.string _ _ _ (⟨#[49, 50]⟩ : ByteArray) [.string (⟨#[49, 50]⟩ : ByteArray)] from rfl) (Reps.one (show Kd.M Kd.string _ _ _ (⟨#[51, 46, 53]⟩ : ByteArray) [.string (⟨#[51, 46, 53]⟩ : ByteArray)] from rfl) (Reps.one (show Kd.M Kd.string _ _ _ (⟨#[55, 47, 50]⟩ : ByteArray) [.string (⟨#[55, 47, 50]⟩ : ByteArray)] from rfl) (Reps.one (show Kd.M Kd.string _ _ _ (⟨#[48]⟩ : ByteArray) [.string (⟨#[48]⟩ : ByteArray)] from rfl) (Reps.one (show Kd.M Kd.string _ _ _ (⟨#[61]⟩ : ByteArray) [.string (⟨#[61]⟩ : ByteArray)] from rfl) (Reps.one (show Kd.M Kd.string _ _ _ (⟨#[44]⟩ : ByteArray) [.string (⟨#[44]⟩ : ByteArray)] from rfl) (Reps.one (show Kd.M Kd.string _ _ _ (⟨#[59]⟩ : ByteArray) [.string (⟨#[59]⟩ : ByteArray)] from rfl) (Reps.one (show Kd.M Kd.string _ _ _ (⟨#[32]⟩ : ByteArray) [.string (⟨#[32]⟩ : ByteArray)] from rfl) (Reps.one (show Kd.M Kd.string _ _ _ (⟨#[32]⟩ : ByteArray) [.string (⟨#[32]⟩ : ByteArray)] from rfl) (Reps.one (show Kd.M Kd.string _ _ _ (⟨#[10]⟩ : ByteArray) [.string (⟨#[10]⟩ : ByteArray)] from rfl) (Reps.one (show Kd.M Kd.string _ _ _ (⟨#[9]⟩ : ByteArray) [.string (⟨#[9]⟩ : ByteArray)] from rfl) (Reps.one (show Kd.M Kd.string _ _ _ (⟨#[35, 120]⟩ : ByteArray) [.string (⟨#[35, 120]⟩ : ByteArray)] from rfl) (Reps.one (show Kd.M Kd.string _ _ _ (⟨#[46]⟩ : ByteArray) [.string (⟨#[46]⟩ : ByteArray)] from rfl) (Reps.one (show Kd.M Kd.string _ _ _ (⟨#[47]⟩ : ByteArray) [.string (⟨#[47]⟩ : ByteArray)] from rfl) (Reps.one (show Kd.M Kd.string _ _ _ (⟨#[45]⟩ : ByteArray) [.string (⟨#[45]⟩ : ByteArray)] from rfl) (Reps.one (show Kd.M Kd.string _ _ _ (⟨#[99, 108, 97, 115, 115, 121]⟩ : ByteArray) [.string (⟨#[99, 108, 97, 115, 115, 121]⟩ : ByteArray)] from rfl) (Reps.none _ _))))))))))))))))))))))))); intro v198 w9 ho10 hb hg_ hnew_; clear hg_ hnew_; (first | rw [← Ny197.out] at ho10 | (simp only [Int.reduceToNat] at ho10; rw [← Ny197.out] at ho10)); have n0_ := Aside0.mk (Kd.R_lower ho10 (below_size (by repeat (first | (with_reducible first | exact HB.out | apply below_alloc | apply pw_below_drewN | apply below_drew1) | exact HB.out)))); have n1_ := Aside0.mk (below_step (by repeat (first | (with_reducible first | exact HB.out | apply below_alloc | apply pw_below_drewN | apply below_drew1) | exact HB.out)) hb); clear HB; have HO199 := n0_; have HB := n1_; clear n0_ n1_; clear hb ho10; have p200 : 0 ≤ (x4_1 : Int) := of_decide_eq_true (by first | (with_reducible assumption) | assumption); have q200 : x4_1 < (l0.length : Int) := of_decide_eq_true (by first | (with_reducible assumption) | assumption); obtain ⟨ad200, e200, hx200_0⟩ := Kd.at_int HR0.out x4_1 p200 q200; cases e200; replace hx200_0 := (HB.out.cell (World.block_lt_of_cell? w _ hx200_0)).trans hx200_0; replace p200 := eq_true p200; replace q200 := eq_true q200; obtain ⟨Ao11, co11, eo11⟩ := Kd.R_slice HO199.out; subst eo11; have p201 : 0 ≤ ((ji5) : Int) := of_decide_eq_true (by first | (with_reducible assumption) | assumption); have q201 : (ji5) < (y197.length : Int) := of_decide_eq_true (by first | (with_reducible assumption) | assumption); obtain ⟨ad201, e201, hx201_0⟩ := Kd.at_string (Kd.R_reads' HO199.out).2.2 (ji5) p201 q201; cases e201; replace p201 := eq_true p201; replace q201 := eq_true q201))
                  go_roundg k1
                  case measure => have := HK1.out; omega
                  case rel => exact ⟨(x3_1 ++ (rdOf ByteArray.empty y197 (ji5))), (wrap64 (x4_1 + 1)), (by first | rfl | (simp; done) | (simp only [← hji5] <;> (first | rfl | simp)) | (simp [*]; done)), (by first | rfl | (simp; done) | (simp [*]; done)), H', ⟨by have := HK1.out; omega⟩, ⟨by repeat (first | (with_reducible first | exact HB.out | apply below_alloc | apply pw_below_drewN | apply below_drew1) | exact HB.out)⟩⟩
                · rw [if_neg c8] at H
                  exact absurd H (by simp)
              · rw [if_neg c7] at H
                exact absurd H (by simp)
            · rw [if_neg c6] at H
              exact absurd H (by simp)
          · rw [if_neg c4] at H
            exact absurd H (by simp)
        · rw [if_neg c3] at H
          have c3b0 : decide (x4_1 < 60) = false := decide_eq_false c3
          clear c3
          obtain rfl := Option.some.inj H
          go_wp2
          go_ret
          exact ⟨by first | rfl | (simp [errW_none, errW_some] <;> rfl) | (simp [*, errW_none, errW_some] <;> rfl), by repeat (first | (with_reducible first | exact HB.out | apply below_alloc | apply pw_below_drewN | apply below_drew1) | exact HB.out)⟩
      · rw [if_neg c2] at H
        have c2b0 : decide (x4_1 < (l0.length : Int)) = false := decide_eq_false c2
        clear c2
        obtain rfl := Option.some.inj H
        go_wp2
        go_ret
        exact ⟨by first | rfl | (simp [errW_none, errW_some] <;> rfl) | (simp [*, errW_none, errW_some] <;> rfl), by repeat (first | (with_reducible first | exact HB.out | apply below_alloc | apply pw_below_drewN | apply below_drew1) | exact HB.out)⟩

end Go.Proofs.Ytffgmmgfofbmlaa.PA
