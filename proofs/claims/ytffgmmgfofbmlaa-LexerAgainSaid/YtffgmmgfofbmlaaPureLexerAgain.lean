/- Proved: the texts of the tokens, with spaces between them, split into the same tokens again, for texts made of pieces of clauses (LexerAgain); no condition is added. -/
import Derived.Test.YtffgmmgfofbmlaaFAInsolvencylaw11Lexeragain
import Derived.Test.YtffgmmgfofbmlaaLex
namespace Go.Proofs.Ytffgmmgfofbmlaa.Pure
open Go.RowKit Go.Proofs.Ytffgmmgfofbmlaa.PA Go.Proofs.YtffgmmgfofbmlaaW.PrintWords Go.Proofs.YtffgmmgfofbmlaaW.PrintLast

theorem like_snoc : ∀ (a b : List S35) (t u : S35), Lex.Like a b → t.f0 = u.f0 → t.f1 = u.f1 → Lex.Like (a ++ [t]) (b ++ [u])
  | [], [], _, _, _, h1, h2 => ⟨h1, h2, trivial⟩
  | _ :: r, _ :: q, t, u, h, h1, h2 => ⟨h.1, h.2.1, like_snoc r q t u h.2.2 h1 h2⟩
  | [], _ :: _, _, _, h, _, _ => h.elim
  | _ :: _, [], _, _, h, _, _ => h.elim
theorem again_cmp (L M : List S35) (hL : L.length ≤ 2049) (h : Lex.Like L M) (d : Nat) : ∀ i : Nat, L.length - i ≤ d → i ≤ L.length → Ev (fun k => insolvencylaw11_LexerAgain.l1 k L M (L.length : Int) i) true := by
  have fin : ∀ i : Nat, L.length ≤ i → Ev (fun k => insolvencylaw11_LexerAgain.l1 k L M (L.length : Int) i) true := by
    intro i hi
    refine Ev.step (f := fun k => (insolvencylaw11_awake.f k).bind fun t => some t) (fun k => ?_) ?_
    · simp only [insolvencylaw11_LexerAgain.l1]
      rw [if_neg (by omega)]
    · refine Ev.bind Lex.awake_ev ?_
      exact Ev.now _
  induction d with
  | zero => intro i h1 h2; exact fin i (by omega)
  | succ d ih =>
    intro i h1 h2
    by_cases hlt : i < L.length
    · have hlen := Lex.like_len L M h
      obtain ⟨e1, e2⟩ := Lex.like_at L M h i z35 hlt
      refine Ev.step (fun k => ?_) (ih (i + 1) (by omega) (by omega))
      simp only [insolvencylaw11_LexerAgain.l1]
      rw [if_pos (by omega), if_pos (by omega), if_pos (by omega), if_pos (by omega)]
      have e1' : (rd_T35 L (i : Int)).f0 = (rd_T35 M (i : Int)).f0 := e1
      have e2' : (rd_T35 L (i : Int)).f1 = (rd_T35 M (i : Int)).f1 := e2
      rw [if_pos e1', if_pos (congrArg ByteArray.toList e2'), show wrap64 ((i : Int) + 1) = ((i + 1 : Nat) : Int) by unfold wrap64; omega]
    · exact fin i (by omega)
theorem rep_size_le (t : S35) (r : List S35) : (Lex.rep (t :: r)).length = t.f1.size + 1 + (Lex.rep r).length := by
  have : t.f1.data.toList.length = t.f1.size := by simp
  show (Lex.tx t ++ 32 :: Lex.rep r).length = _
  unfold Lex.tx
  rw [List.length_append, List.length_cons, this]; omega
theorem again_loop (L : List S35) (hL : L.length ≤ 2049) (R : Bool) (acc0 : List UInt8)
    (hend : ∀ s : ByteArray, s.data.toList = acc0 → Ev (fun k => (lexer_Split.f k s).bind fun bt224 => (if bt224.2.2 = 0 then (insolvencylaw11_LexerAgain.j1 k L bt224.1 ((bt224.1.length : Int) != (L.length : Int))) else (insolvencylaw11_LexerAgain.j1 k L bt224.1 true))) R) (d : Nat) :
    ∀ (i : Nat) (x : ByteArray), L.length - i ≤ d → i ≤ L.length → x.data.toList ++ Lex.rep (L.drop i) = acc0 → x.size + (Lex.rep (L.drop i)).length ≤ 9223372036854775807 → Ev (fun k => insolvencylaw11_LexerAgain.l0 k L x L (L.length : Int) i) R := by
  have fin : ∀ (i : Nat) (x : ByteArray), L.length ≤ i → x.data.toList ++ Lex.rep (L.drop i) = acc0 → Ev (fun k => insolvencylaw11_LexerAgain.l0 k L x L (L.length : Int) i) R := by
    intro i x h1 h2
    rw [List.drop_eq_nil_of_le h1] at h2
    refine Ev.step (fun k => ?_) (hend x (by simpa [Lex.rep] using h2))
    simp only [insolvencylaw11_LexerAgain.l0]
    rw [if_neg (by omega)]
  induction d with
  | zero => intro i x h1 h2 h3 _; exact fin i x (by omega) h3
  | succ d ih =>
    intro i x h1 h2 h3 h4
    by_cases hlt : i < L.length
    · have hdrop : L.drop i = rd_T35 L (i : Int) :: L.drop (i + 1) := by
        rw [List.drop_eq_getElem_cons hlt]
        congr 1
        unfold rd_T35
        simp only [Int.toNat_natCast]
        rw [List.getD_eq_getElem?_getD, List.getElem?_eq_getElem hlt]; rfl
      rw [hdrop] at h3 h4
      rw [rep_size_le] at h4
      have hsz : (((rd_T35 L (i : Int)).f1) ++ (⟨#[32]⟩ : ByteArray)).size = (rd_T35 L (i : Int)).f1.size + 1 := by rw [ByteArray.size_append]; rfl
      refine Ev.step (fun k => ?_) (ih (i + 1) (x ++ (((rd_T35 L (i : Int)).f1) ++ (⟨#[32]⟩ : ByteArray))) (by omega) (by omega) ?_ ?_)
      · simp only [insolvencylaw11_LexerAgain.l0]
        rw [if_pos (by omega), if_pos (by omega), if_pos (by omega), if_pos (by omega), if_pos (by omega), show wrap64 ((i : Int) + 1) = ((i + 1 : Nat) : Int) by unfold wrap64; omega]
      · rw [← h3]
        simp only [ByteArray.toList_data_append, Lex.rep, Lex.tx]
        simp
      · rw [ByteArray.size_append, hsz]; omega
    · exact fin i x (by omega) h3

theorem LexerAgain : insolvencylaw11_LexerAgain.Pure := by
  intro l h1 h2 h3
  apply Ev.rounds
  unfold insolvencylaw11_LexerAgain.f
  obtain ⟨s, hs, he⟩ := Lex.pieces_ev l h3
  refine Ev.bind he ?_
  refine Ev.bind (Lex.split_ev s) ?_
  by_cases h : (Lex.splitS s.data.toList).2.2 = 0
  · simp only [if_pos h]
    have hn := Lex.splitS_count s.data.toList
    have hl : s.data.toList.length = s.size := by simp
    obtain ⟨ts, g1, g2, g3⟩ : ∃ ts, (Lex.splitS s.data.toList).1 = ts ++ [⟨5, ⟨#[]⟩, (s.size : Int)⟩] ∧ (∀ t ∈ ts, Lex.Good t.f0 (Lex.tx t) ∧ (t.f0 = 1 → (Lex.tx t).length ≤ 32)) ∧ (Lex.rep ts).length ≤ 2 * s.size := by
      unfold Lex.splitS at h ⊢
      rw [hl] at h ⊢
      rw [if_neg (by omega)] at h ⊢
      obtain ⟨ts, a, b, c⟩ := Lex.spl_good _ _ _ _ h
      have := Lex.skb_len false s.data.toList
      exact ⟨ts, by rw [a]; rfl, b, by omega⟩
    generalize (Lex.splitS s.data.toList).1 = L at g1 hn
    have hlen : L.length = ts.length + 1 := by rw [g1]; simp
    have hrep : Lex.rep L = Lex.rep ts ++ [32] := by
      have : ∀ (a : List S35) (x : Int), Lex.rep (a ++ [⟨5, ⟨#[]⟩, x⟩]) = Lex.rep a ++ [32] := by
        intro a x
        induction a with
        | nil => rfl
        | cons t r ih => simp [Lex.rep, ih]
      rw [g1, this]
    refine again_loop L hn true (Lex.rep L) ?_ L.length 0 ⟨#[]⟩ (by omega) (by omega) (by simp) (by have e : (⟨#[]⟩ : ByteArray).size = 0 := rfl; rw [e, List.drop_zero, hrep, List.length_append, List.length_singleton]; omega)
    intro m hm
    refine Ev.bind (Lex.split_ev m) ?_
    have hml : m.data.toList.length = m.size := by simp
    have hsp : ∃ us, Lex.splitS m.data.toList = (us ++ [⟨5, ⟨#[]⟩, (m.size : Int)⟩], 0, 0) ∧ Lex.Like ts us := by
      unfold Lex.splitS
      have hms : m.size = (Lex.rep ts).length + 1 := by rw [← hml, hm, hrep]; simp
      rw [hml, if_neg (by omega)]
      rw [hm, hrep]
      obtain ⟨us, a, b⟩ := Lex.spl_again m.size ts (m.size + 1) [] g2 (by simp; omega) (by omega)
      exact ⟨us, by rw [a]; rfl, b⟩
    obtain ⟨us, e1, e2⟩ := hsp
    have hl2 := Lex.like_len ts us e2
    rw [e1]
    simp only [if_true]
    have hlike : Lex.Like L (us ++ [⟨5, ⟨#[]⟩, (m.size : Int)⟩]) := by rw [g1]; exact like_snoc _ _ _ _ e2 rfl rfl
    have hneq : (((us ++ [(⟨5, ⟨#[]⟩, (m.size : Int)⟩ : S35)]).length : Int) != (L.length : Int)) = false := by
      rw [bne_eq_false_iff_eq, List.length_append, hlen, ← hl2]; simp
    rw [hneq]
    refine Ev.step (fun k => ?_) (again_cmp L _ hn hlike L.length 0 (by omega) (by omega))
    simp only [insolvencylaw11_LexerAgain.j1, Bool.false_eq_true, if_false]
    rfl
  · simp only [if_neg h]
    have h0 : (Lex.splitS s.data.toList).1.length = 0 := by
      have key : ∀ (f n : Nat) (out : List S35) (l : List UInt8), (Lex.spl f n out l).2.2 ≠ 0 → (Lex.spl f n out l).1 = [] := by
        intro f
        induction f with
        | zero => intro n out l _; rfl
        | succ f ih =>
          intro n out l hq
          unfold Lex.spl at hq ⊢
          split
          · rename_i h0; rw [if_pos h0] at hq; simp at hq
          · rename_i h0
            rw [if_neg h0] at hq
            split
            · rfl
            · rename_i h1
              rw [if_neg h1] at hq
              split
              · rfl
              · rename_i h2
                rw [if_neg h2] at hq
                split
                · rfl
                · rename_i h3
                  rw [if_neg h3] at hq
                  exact ih _ _ _ hq
      unfold Lex.splitS at h ⊢
      split
      · rfl
      · rename_i hq
        rw [if_neg hq] at h
        rw [key _ _ _ _ h]; rfl
    refine Ev.bind Lex.awake_ev ?_
    simp only [if_true, h0]
    exact ⟨0, fun k _ => rfl⟩

end Go.Proofs.Ytffgmmgfofbmlaa.Pure
