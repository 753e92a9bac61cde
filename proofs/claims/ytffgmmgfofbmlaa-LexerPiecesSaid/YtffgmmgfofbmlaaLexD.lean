import Derived.Test.YtffgmmgfofbmlaaLexC
import Derived.Test.YtffgmmgfofbmlaaFAInsolvencylaw11Awake
import Derived.Test.YtffgmmgfofbmlaaFAInsolvencylaw11Pieces
set_option linter.unusedVariables false
set_option linter.unusedSimpArgs false
namespace Go.Proofs.Ytffgmmgfofbmlaa.Lex
open Go.RowKit Go.Proofs.Ytffgmmgfofbmlaa.PA Go.Proofs.YtffgmmgfofbmlaaW.PrintWords Go.Proofs.YtffgmmgfofbmlaaW.PrintLast

theorem awake_one : splitS [97, 32, 98, 101, 102, 111, 114, 101, 32, 98, 50, 59, 32, 35, 32, 114, 101, 115, 116] = ([⟨1, ⟨#[97]⟩, 0⟩, ⟨3, ⟨#[98, 101, 102, 111, 114, 101]⟩, 2⟩, ⟨1, ⟨#[98, 50]⟩, 9⟩, ⟨4, ⟨#[59]⟩, 11⟩, ⟨5, ⟨#[]⟩, 19⟩], 0, 0) := by rfl
theorem awake_two : splitS [49, 46, 53, 46, 50] = ([], 3, 10) := by rfl
theorem awake_ev : Ev (fun k => insolvencylaw11_awake.f k) true := by
  unfold insolvencylaw11_awake.f
  refine Ev.bind (split_ev _) ?_
  refine Ev.bind (split_ev _) ?_
  simp only [awake_one, awake_two]
  refine ⟨0, fun k _ => ?_⟩
  simp [rd_T35, toList_data]
theorem pieces_ev (l : List Int) (hl : ∀ x ∈ l, (Lit.int .u8 x).wf = true) : ∃ s : ByteArray, s.size ≤ 660 ∧ Ev (fun k => insolvencylaw11_pieces.f k l) s := by
  have step : ∀ (d i : Nat) (s : ByteArray), 60 - i ≤ d → i ≤ 60 → s.size ≤ 11 * i → ∃ r : ByteArray, r.size ≤ 660 ∧ Ev (fun k => insolvencylaw11_pieces.l0 k l s i) r := by
    intro d
    induction d with
    | zero =>
      intro i s hd hi hs
      refine ⟨s, by omega, Ev.step (f := fun _ => some s) (fun n => ?_) (Ev.now _)⟩
      simp only [insolvencylaw11_pieces.l0]
      rw [if_neg (show ¬ (i : Int) < 60 by omega)]
      simp
    | succ d ih =>
      intro i s hd hi hs
      by_cases h1 : i < l.length
      · by_cases h2 : i < 60
        · obtain ⟨p, hp, hps⟩ : ∃ p : ByteArray, p.size ≤ 11 ∧ ∀ n, insolvencylaw11_pieces.l0 (n + 1) l s i = insolvencylaw11_pieces.l0 n l (s ++ p) ((i + 1 : Nat) : Int) := by
            have hx := hl (rd l i) (by unfold rd; simp only [Int.toNat_natCast]; rw [List.getD_eq_getElem?_getD, List.getElem?_eq_getElem h1]; exact List.getElem_mem _)
            have hb : 0 ≤ rd l i ∧ rd l i < 256 := by
              have hx2 : IntKind.u8.min ≤ rd l i ∧ rd l i ≤ IntKind.u8.max := by simpa [Lit.wf] using hx
              have e1 : IntKind.u8.min = 0 := rfl
              have e2 : IntKind.u8.max = 255 := rfl
              omega
            have hm : Int.tmod (rd l i) 23 = rd l i % 23 := Int.tmod_eq_emod_of_nonneg hb.1
            have key : ∀ (ys : List ByteArray), ys.length = 23 → (∀ y ∈ ys, y.size ≤ 11) → (rdOf ByteArray.empty ys (Int.tmod (rd l i) 23)).size ≤ 11 ∧ Int.tmod (rd l i) 23 < (ys.length : Int) ∧ 0 ≤ Int.tmod (rd l i) 23 := by
              intro ys h3 h4
              refine ⟨?_, by rw [hm, h3]; omega, by rw [hm]; omega⟩
              unfold rdOf
              rw [List.getD_eq_getElem?_getD, List.getElem?_eq_getElem (by rw [h3, hm]; omega)]
              exact h4 _ (List.getElem_mem _)
            generalize hY : ([(⟨#[99, 108, 97, 115, 115]⟩ : ByteArray), (⟨#[98, 101, 102, 111, 114, 101]⟩ : ByteArray), (⟨#[108, 105, 109, 105, 116]⟩ : ByteArray), (⟨#[115, 117, 98, 111, 114, 100, 105, 110, 97, 116, 101]⟩ : ByteArray), (⟨#[97]⟩ : ByteArray), (⟨#[98, 45, 49]⟩ : ByteArray), (⟨#[99, 95, 50]⟩ : ByteArray), (⟨#[49, 50]⟩ : ByteArray), (⟨#[51, 46, 53]⟩ : ByteArray), (⟨#[55, 47, 50]⟩ : ByteArray), (⟨#[48]⟩ : ByteArray), (⟨#[61]⟩ : ByteArray), (⟨#[44]⟩ : ByteArray), (⟨#[59]⟩ : ByteArray), (⟨#[32]⟩ : ByteArray), (⟨#[32]⟩ : ByteArray), (⟨#[10]⟩ : ByteArray), (⟨#[9]⟩ : ByteArray), (⟨#[35, 120]⟩ : ByteArray), (⟨#[46]⟩ : ByteArray), (⟨#[47]⟩ : ByteArray), (⟨#[45]⟩ : ByteArray), (⟨#[99, 108, 97, 115, 115, 121]⟩ : ByteArray)] : List ByteArray) = Y
            have hY1 : Y.length = 23 := by rw [← hY]; rfl
            have hY2 : ∀ y ∈ Y, y.size ≤ 11 := by
              rw [← hY]
              intro y hy
              simp only [List.mem_cons, List.not_mem_nil, or_false] at hy
              rcases hy with rfl | rfl | rfl | rfl | rfl | rfl | rfl | rfl | rfl | rfl | rfl | rfl | rfl | rfl | rfl | rfl | rfl | rfl | rfl | rfl | rfl | rfl | rfl <;> decide
            obtain ⟨q1, q2, q3⟩ := key Y hY1 hY2
            refine ⟨_, q1, fun n => ?_⟩
            simp only [insolvencylaw11_pieces.l0]
            rw [hY]
            simp only [Option.bind_some]
            rw [if_pos (by omega), if_pos (by omega), if_pos (by omega), if_pos q3, if_pos q2, if_pos (by omega)]
            rw [show wrap64 ((i : Int) + 1) = ((i + 1 : Nat) : Int) by unfold wrap64; omega]
          obtain ⟨r, hr, he⟩ := ih (i + 1) (s ++ p) (by omega) (by omega) (by rw [ByteArray.size_append]; omega)
          exact ⟨r, hr, Ev.step hps he⟩
        · refine ⟨s, by omega, Ev.step (f := fun _ => some s) (fun n => ?_) (Ev.now _)⟩
          simp only [insolvencylaw11_pieces.l0]
          rw [if_neg (show ¬ (i : Int) < 60 by omega)]
          simp
      · refine ⟨s, by omega, Ev.step (f := fun _ => some s) (fun n => ?_) (Ev.now _)⟩
        simp only [insolvencylaw11_pieces.l0]
        rw [if_neg (by omega)]
  exact step 60 0 ⟨#[]⟩ (by omega) (by omega) (Nat.le_refl 0)
end Go.Proofs.Ytffgmmgfofbmlaa.Lex
