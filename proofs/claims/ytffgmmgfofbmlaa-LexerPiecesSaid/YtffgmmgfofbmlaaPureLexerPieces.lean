/- Proved: lexer.Split answers as the reference's Split does, for texts made of pieces of clauses (LexerPieces); no condition is added. -/
import Derived.Test.YtffgmmgfofbmlaaFAInsolvencylaw11Lexerpieces
import Derived.Test.YtffgmmgfofbmlaaLexD
namespace Go.Proofs.Ytffgmmgfofbmlaa.Pure
open Go.RowKit Go.Proofs.Ytffgmmgfofbmlaa.PA Go.Proofs.YtffgmmgfofbmlaaW.PrintWords Go.Proofs.YtffgmmgfofbmlaaW.PrintLast

theorem LexerPieces : insolvencylaw11_LexerPieces.Pure := by
  intro l h1 h2 h3
  apply Ev.rounds
  unfold insolvencylaw11_LexerPieces.f
  obtain ⟨s, hs, he⟩ := Lex.pieces_ev l h3
  refine Ev.bind he ?_
  refine Ev.bind (Lex.split_ev s) ?_
  refine Ev.bind (Lex.split9_ev s) ?_
  refine Ev.bind Lex.awake_ev ?_
  simp only [if_true]
  refine Ev.bind (Lex.same_ev _ (by have := Lex.splitS_count s.data.toList; omega)) ?_
  simp only [if_true]
  refine ⟨0, fun k _ => ?_⟩
  simp

end Go.Proofs.Ytffgmmgfofbmlaa.Pure
