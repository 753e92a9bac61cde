/- Proved: lexer.Reserved answers as the reference's Reserved does, for every string (LexerReserved), on the condition that none is added: every input of the row. -/
import Derived.Test.YtffgmmgfofbmlaaFAInsolvencylaw11Lexerreserved
import Derived.Test.YtffgmmgfofbmlaaLexD
namespace Go.Proofs.Ytffgmmgfofbmlaa.Pure
open Go.RowKit Go.Proofs.Ytffgmmgfofbmlaa.PA Go.Proofs.YtffgmmgfofbmlaaW.PrintWords Go.Proofs.YtffgmmgfofbmlaaW.PrintLast

theorem LexerReserved : insolvencylaw11_LexerReserved.Pure := by
  intro s hs
  apply Ev.rounds
  unfold insolvencylaw11_LexerReserved.f
  refine Ev.bind Lex.awake_ev ?_
  simp only [if_true, Lex.reserved_ev, Lex.reserved9_ev, Option.bind_some]
  refine ⟨0, fun k _ => ?_⟩
  simp

end Go.Proofs.Ytffgmmgfofbmlaa.Pure
