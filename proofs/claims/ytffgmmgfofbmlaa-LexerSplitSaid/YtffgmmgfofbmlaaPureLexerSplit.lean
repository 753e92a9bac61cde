/- Proved: lexer.Split answers as the reference's Split does, for every text (LexerSplit); no condition is added. -/
import Derived.Test.YtffgmmgfofbmlaaFAInsolvencylaw11Lexersplit
import Derived.Test.YtffgmmgfofbmlaaLexD
namespace Go.Proofs.Ytffgmmgfofbmlaa.Pure
open Go.RowKit Go.Proofs.Ytffgmmgfofbmlaa.PA Go.Proofs.YtffgmmgfofbmlaaW.PrintWords Go.Proofs.YtffgmmgfofbmlaaW.PrintLast

theorem LexerSplit : insolvencylaw11_LexerSplit.Pure := by
  intro s hs
  apply Ev.rounds
  unfold insolvencylaw11_LexerSplit.f
  by_cases h : (s.size : Int) > 1200
  · simp only [if_pos h]
    refine Ev.bind Lex.awake_ev ?_
    exact Ev.now _
  · simp only [if_neg h]
    refine Ev.bind (Lex.split_ev s) ?_
    refine Ev.bind (Lex.split9_ev s) ?_
    refine Ev.bind Lex.awake_ev ?_
    simp only [if_true]
    refine Ev.bind (Lex.same_ev _ (by have := Lex.splitS_count s.data.toList; omega)) ?_
    simp only [if_true]
    refine ⟨0, fun k _ => ?_⟩
    simp

end Go.Proofs.Ytffgmmgfofbmlaa.Pure
