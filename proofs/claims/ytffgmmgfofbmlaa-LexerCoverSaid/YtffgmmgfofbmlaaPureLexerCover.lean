/- Proved: the tokens that lexer.Split returns are in order, do not overlap and stand where they say, for texts made of pieces of clauses (LexerCover); no condition is added. -/
import Derived.Test.YtffgmmgfofbmlaaFAInsolvencylaw11Lexercover
import Derived.Test.YtffgmmgfofbmlaaLex
namespace Go.Proofs.Ytffgmmgfofbmlaa.Pure
open Go.RowKit Go.Proofs.Ytffgmmgfofbmlaa.PA Go.Proofs.YtffgmmgfofbmlaaW.PrintWords Go.Proofs.YtffgmmgfofbmlaaW.PrintLast

theorem cover_loop (s : ByteArray) (hs : s.size ≤ 8192) (L : List S35) (hL : L.length ≤ 2049) (h0 : L ≠ []) (hlast : (rd_T35 L ((L.length - 1 : Nat) : Int)).f2 = (s.size : Int)) (d : Nat) : ∀ (i e : Nat), L.length - i ≤ d → i ≤ L.length → (i < L.length → Lex.Cov s e (L.drop i)) →
    Ev (fun k => insolvencylaw11_LexerCover.l0 k s L e L (L.length : Int) i) true := by
  have hpos : 0 < L.length := List.length_pos_iff.2 h0
  have HW1 : Aside0 (wrap64 ((L.length : Int) - 1) = ((L.length - 1 : Nat) : Int)) := ⟨by unfold wrap64; omega⟩
  have fin : ∀ (i e : Nat), L.length ≤ i → i ≤ L.length → Ev (fun k => insolvencylaw11_LexerCover.l0 k s L e L (L.length : Int) i) true := by
    intro i e h1 h2
    refine Ev.step (f := fun k => (insolvencylaw11_awake.f k).bind fun t => if t = true then some true else some false) (fun k => ?_) ?_
    · simp only [insolvencylaw11_LexerCover.l0]
      rw [if_neg (by omega), HW1.out, if_pos (by omega), if_pos (by omega), if_pos (by omega), hlast]
      simp
    · refine Ev.bind Lex.awake_ev ?_
      exact Ev.now _
  induction d with
  | zero => intro i e h1 h2 _; exact fin i e (by omega) h2
  | succ d ih =>
    intro i e h1 h2 hc
    by_cases hlt : i < L.length
    · have hcov := hc hlt
      have hdrop : L.drop i = rd_T35 L (i : Int) :: L.drop (i + 1) := by
        rw [List.drop_eq_getElem_cons hlt]
        congr 1
        unfold rd_T35
        simp only [Int.toNat_natCast]
        rw [List.getD_eq_getElem?_getD, List.getElem?_eq_getElem hlt]; rfl
      rw [hdrop] at hcov
      obtain ⟨a, b, q1, q2, q3, q4, q5, q6, q7⟩ : ∃ a b : Nat, e ≤ a ∧ a ≤ b ∧ b ≤ s.size ∧ (rd_T35 L (i : Int)).f2 = a ∧ (rd_T35 L (i : Int)).f1 = s.extract a b ∧ (((rd_T35 L (i : Int)).f0 == 5) != ((i : Int) == ((L.length - 1 : Nat) : Int))) = false ∧ (i + 1 < L.length → Lex.Cov s b (L.drop (i + 1))) := by
        cases hr : L.drop (i + 1) with
        | nil =>
          rw [hr] at hcov
          obtain ⟨p1, p2, p3, p4⟩ := hcov
          have hlen : L.length ≤ i + 1 := by simpa using hr
          refine ⟨s.size, s.size, p4, Nat.le_refl _, Nat.le_refl _, p3, ?_, ?_, fun h => by omega⟩
          · rw [p2]
            apply ByteArray.ext
            simp
          · rw [p1, show i = L.length - 1 by omega]
            simp
        | cons u r =>
          rw [hr] at hcov
          obtain ⟨p1, a, b, p2, p3, p4, p5, p6, p7⟩ := hcov
          refine ⟨a, b, p2, p3, p4, p5, p6, ?_, fun _ => p7⟩
          have hlen : i + 1 < L.length := by
            have := congrArg List.length hr
            simp at this
            omega
          have e1 : ((rd_T35 L (i : Int)).f0 == 5) = false := beq_eq_false_iff_ne.2 p1
          have e2 : ((i : Int) == ((L.length - 1 : Nat) : Int)) = false := beq_eq_false_iff_ne.2 (by omega)
          rw [e1, e2]; rfl
      have hsz : ((rd_T35 L (i : Int)).f1).size = b - a := by rw [q5, ByteArray.size_extract]; omega
      have c1 : ¬ ((a : Int) < (e : Int)) := by omega
      have c2 : ¬ ((a : Int) > (s.size : Int)) := by omega
      have c3 : ¬ ((b : Int) > (s.size : Int)) := by omega
      have c4 : (0 : Int) ≤ (a : Int) := by omega
      have c5 : (a : Int) ≤ (b : Int) := by omega
      have c6 : (b : Int) ≤ (s.size : Int) := by omega
      have c7 : (s.extract ((a : Int)).toNat ((b : Int)).toNat).toList = ((rd_T35 L (i : Int)).f1).toList := by rw [q5]; rfl
      have c8 : ¬ ((((rd_T35 L (i : Int)).f0 == 5) != ((i : Int) == ((L.length - 1 : Nat) : Int))) = true) := by rw [q6]; decide
      have c9 : (i : Int) < (L.length : Int) := by omega
      have c10 : (0 : Int) ≤ (i : Int) := by omega
      have step := ih (i + 1) b (by omega) (by omega) q7
      have hw0 : wrap64 ((a : Int) + ((b - a : Nat) : Int)) = (b : Int) := by clear step ih; unfold wrap64; omega
      have hw : wrap64 ((a : Int) + (((rd_T35 L (i : Int)).f1).size : Int)) = (b : Int) := by rw [hsz]; exact hw0
      have hwi : wrap64 ((i : Int) + 1) = ((i + 1 : Nat) : Int) := by clear hw hw0; unfold wrap64; omega
      refine Ev.step (fun k => ?_) step
      simp only [insolvencylaw11_LexerCover.l0, q4, hw, HW1.out, hwi, if_pos c9, if_pos c10, if_neg c1, if_neg c2, if_neg c3, if_pos c4, if_pos c5, if_pos c6, if_pos c7, if_neg c8]
    · exact fin i e (by omega) h2

theorem LexerCover : insolvencylaw11_LexerCover.Pure := by
  intro l h1 h2 h3
  apply Ev.rounds
  unfold insolvencylaw11_LexerCover.f
  obtain ⟨s, hs, he⟩ := Lex.pieces_ev l h3
  refine Ev.bind he ?_
  refine Ev.bind (Lex.split_ev s) ?_
  by_cases h : (Lex.splitS s.data.toList).2.2 = 0
  · simp only [if_pos h]
    have hc := Lex.splitS_cov s h
    have hn := Lex.splitS_count s.data.toList
    exact cover_loop s (by omega) _ hn (Lex.cov_ne hc) (Lex.cov_last _ 0 hc _) _ 0 0 (Nat.le_refl _) (by omega) (fun _ => hc)
  · simp only [if_neg h]
    refine Ev.bind Lex.awake_ev ?_
    exact Ev.now _

end Go.Proofs.Ytffgmmgfofbmlaa.Pure
