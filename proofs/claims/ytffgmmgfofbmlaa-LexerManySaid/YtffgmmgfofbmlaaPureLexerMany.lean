/- Proved: which numbers of tokens and bytes, and which lengths of names, lexer.Split accepts (LexerMany); no condition is added. -/
import Derived.Test.YtffgmmgfofbmlaaFAInsolvencylaw11Lexermany
import Derived.Test.YtffgmmgfofbmlaaLex
set_option linter.unusedVariables false
set_option linter.unusedSimpArgs false
namespace Go.Proofs.Ytffgmmgfofbmlaa.Pure
open Go.RowKit Go.Proofs.Ytffgmmgfofbmlaa.PA Go.Proofs.YtffgmmgfofbmlaaW.PrintWords Go.Proofs.YtffgmmgfofbmlaaW.PrintLast

/-! ### texts of one byte -/
theorem bytes_rep (m : Nat) (c : Int) : (strOfNums (List.replicate m c)).data.toList = List.replicate m (UInt8.ofNat c.toNat) := by
  rw [strOfNums_data, List.map_replicate]
theorem semi_spl (n : Nat) : ∀ (m f : Nat) (out : List S35), m < f → out.length + m ≤ 2048 → ∃ r, Lex.spl f n out (List.replicate m 59) = (r, 0, 0) ∧ r.length = out.length + m + 1
  | 0, f, out, hf, ho => by
    obtain ⟨f, rfl⟩ : ∃ q, f = q + 1 := ⟨f - 1, by omega⟩
    exact ⟨_, by simp [Lex.spl]; rfl, by simp⟩
  | m + 1, f, out, hf, ho => by
    obtain ⟨f, rfl⟩ : ∃ q, f = q + 1 := ⟨f - 1, by omega⟩
    have hst : Lex.stp (List.replicate (m + 1) 59) = (4, List.replicate m 59) := by
      rw [List.replicate_succ]; simp [Lex.stp, Lex.isL, Lex.isD, Lex.isS]
    have hsk : Lex.skb false (List.replicate m 59) = List.replicate m 59 := by
      cases m with
      | zero => rfl
      | succ m => rw [List.replicate_succ]; simp [Lex.skb, Lex.isB]
    obtain ⟨r, h1, h2⟩ := semi_spl n m f (out ++ [⟨4, Lex.txt (List.replicate (m + 1) 59) (List.replicate m 59), Lex.at_ n (List.replicate (m + 1) 59)⟩]) (by omega) (by simp; omega)
    refine ⟨r, ?_, by rw [h2]; simp; omega⟩
    unfold Lex.spl
    rw [if_neg (by simp), hst]
    simp only
    rw [if_neg (by decide), if_neg (by omega), if_neg (by omega), hsk, h1]
theorem semi_long (n : Nat) : ∀ (m f : Nat) (out : List S35), m < f → out.length ≤ 2048 → 2048 < out.length + m → Lex.spl f n out (List.replicate m 59) = ([], (n : Int) - ((out.length + m - 2048 : Nat) : Int), 2)
  | 0, f, out, hf, ho, hm => by omega
  | m + 1, f, out, hf, ho, hm => by
    obtain ⟨f, rfl⟩ : ∃ q, f = q + 1 := ⟨f - 1, by omega⟩
    have hst : Lex.stp (List.replicate (m + 1) 59) = (4, List.replicate m 59) := by
      rw [List.replicate_succ]; simp [Lex.stp, Lex.isL, Lex.isD, Lex.isS]
    have hsk : Lex.skb false (List.replicate m 59) = List.replicate m 59 := by
      cases m with
      | zero => rfl
      | succ m => rw [List.replicate_succ]; simp [Lex.skb, Lex.isB]
    unfold Lex.spl
    rw [if_neg (by simp), hst]
    simp only
    rw [if_neg (by decide)]
    by_cases h : 2048 ≤ out.length
    · rw [if_pos (.inl h)]
      unfold Lex.at_
      rw [List.length_replicate, show out.length + (m + 1) - 2048 = m + 1 by omega]
    · rw [if_neg (by omega), if_neg (by omega), hsk, semi_long n m f _ (by omega) (by simp; omega) (by simp; omega)]
      simp only [List.length_append, List.length_singleton]
      rw [show out.length + 1 + m - 2048 = out.length + (m + 1) - 2048 by omega]
theorem semi (k : Nat) (hk : k ≤ 8192) : (k ≤ 2048 → ∃ r, Lex.splitS (List.replicate k 59) = (r, 0, 0) ∧ r.length = k + 1) ∧ (2048 < k → Lex.splitS (List.replicate k 59) = ([], 2048, 2)) := by
  have hsk : Lex.skb false (List.replicate k 59) = List.replicate k 59 := by
    cases k with
    | zero => rfl
    | succ m => rw [List.replicate_succ]; simp [Lex.skb, Lex.isB]
  unfold Lex.splitS
  rw [List.length_replicate, if_neg (by omega), hsk]
  refine ⟨fun h => ?_, fun h => ?_⟩
  · obtain ⟨r, h1, h2⟩ := semi_spl k k (k + 1) [] (by omega) (by simp; omega)
    exact ⟨r, h1, by rw [h2]; simp⟩
  · rw [semi_long k k (k + 1) [] (by omega) (by simp) (by simp; omega)]
    simp only [List.length_nil, Nat.zero_add]
    rw [show (k : Int) - ((k - 2048 : Nat) : Int) = 2048 by omega]
theorem exes (m : Nat) (hm : 1 ≤ m) (hm2 : m ≤ 64) : (m ≤ 32 → ∃ r, Lex.splitS (32 :: List.replicate m 120) = (r, 0, 0)) ∧ (32 < m → Lex.splitS (32 :: List.replicate m 120) = ([], 1, 2)) := by
  obtain ⟨q, rfl⟩ : ∃ q, m = q + 1 := ⟨m - 1, by omega⟩
  have hall : ∀ c ∈ List.replicate (q + 1) (120 : UInt8), Lex.isN c.toNat = true := by
    intro c hc
    rw [List.eq_of_mem_replicate hc]; decide
  have htw : (List.replicate (q + 1) (120 : UInt8)).takeWhile (fun c => Lex.isN c.toNat) = List.replicate (q + 1) 120 := by
    have := List.takeWhile_append_of_pos (l₂ := []) hall
    simpa using this
  have hdw : (List.replicate (q + 1) (120 : UInt8)).dropWhile (fun c => Lex.isN c.toNat) = [] := by
    have := List.dropWhile_append_of_pos (l₂ := []) hall
    simpa using this
  have hres : Lex.reserved (List.replicate (q + 1) 120) = false := by
    rw [List.replicate_succ]; simp [Lex.reserved]
  have hst : Lex.stp (List.replicate (q + 1) 120) = (1, []) := by
    rw [List.replicate_succ] at htw hdw hres ⊢
    have h120 : Lex.isL ((120 : UInt8).toNat) = true := by decide
    simp only [Lex.stp, if_pos h120, htw, hdw, hres]
    simp
  have hsk : Lex.skb false (32 :: List.replicate (q + 1) 120) = List.replicate (q + 1) 120 := by
    rw [List.replicate_succ]; simp [Lex.skb, Lex.isB]
  have hl : (32 :: List.replicate (q + 1) (120 : UInt8)).length = q + 2 := by simp
  unfold Lex.splitS
  rw [hl, if_neg (by omega), hsk]
  refine ⟨fun h => ?_, fun h => ?_⟩
  · unfold Lex.spl
    rw [if_neg (by simp), hst]
    simp only [List.length_replicate, List.length_nil]
    rw [if_neg (by decide), if_neg (by omega), if_neg (by decide)]
    unfold Lex.spl
    rw [if_pos (show Lex.skb false [] = [] from rfl)]
    exact ⟨_, rfl⟩
  · unfold Lex.spl
    rw [if_neg (by simp), hst]
    simp only [List.length_replicate, List.length_nil]
    rw [if_neg (by decide)]
    rw [if_pos (Or.inr ⟨trivial, by omega⟩)]
    unfold Lex.at_
    rw [List.length_replicate, show ((q + 2 : Nat) : Int) - ((q + 1 : Nat) : Int) = 1 by omega]
theorem skb_blanks : ∀ m : Nat, Lex.skb false (List.replicate m 32) = []
  | 0 => rfl
  | m + 1 => by rw [List.replicate_succ]; simp [Lex.skb, Lex.isB]; exact skb_blanks m
theorem blanks : Lex.splitS (List.replicate 8193 32) = ([], 0, 2) ∧ ∃ r, Lex.splitS (List.replicate 8192 32) = (r, 0, 0) := by
  constructor
  · unfold Lex.splitS
    rw [List.length_replicate, if_pos (by omega)]
  · unfold Lex.splitS
    rw [List.length_replicate, if_neg (by omega), skb_blanks]
    unfold Lex.spl
    rw [if_pos rfl]
    exact ⟨_, rfl⟩

/-! ### the loops that fill the bytes -/
theorem set_fill (c : Int) (i k : Nat) (h : i < k) : (List.replicate i c ++ List.replicate (k - i) 0).set i c = List.replicate (i + 1) c ++ List.replicate (k - (i + 1)) 0 := by
  rw [List.set_append_right _ _ (by simp)]
  simp only [List.length_replicate, Nat.sub_self]
  rw [show k - i = (k - (i + 1)) + 1 by omega, List.replicate_succ, List.set_cons_zero, List.replicate_succ' (n := i), List.append_assoc]
  rfl
theorem fill_ev (l0 : Nat → List Int → Int → Option Bool) (e : Nat → List Int → Option Bool) (c : Int) (k : Nat) (hk : k ≤ 100000)
    (h0 : ∀ n x (i : Int), l0 (n + 1) x i = if i < (k : Int) then (if 0 ≤ i then (if i < (x.length : Int) then l0 n (x.set i.toNat c) (wrap64 (i + 1)) else none) else none) else e n x)
    (hend : Ev (fun n => e n (List.replicate k c)) true) : Ev (fun n => l0 n (List.replicate k 0) 0) true := by
  have main : ∀ (d i : Nat), k - i ≤ d → i ≤ k → Ev (fun n => l0 n (List.replicate i c ++ List.replicate (k - i) 0) i) true := by
    intro d
    induction d with
    | zero =>
      intro i h1 h2
      obtain rfl : i = k := by omega
      refine Ev.step (fun n => ?_) hend
      rw [h0, if_neg (by omega), Nat.sub_self]
      simp
    | succ d ih =>
      intro i h1 h2
      by_cases hlt : i < k
      · refine Ev.step (fun n => ?_) (ih (i + 1) (by omega) (by omega))
        rw [h0, if_pos (by omega), if_pos (by omega), if_pos (by simp; omega)]
        simp only [Int.toNat_natCast]
        rw [set_fill c i k hlt, show wrap64 ((i : Int) + 1) = ((i + 1 : Nat) : Int) by unfold wrap64; omega]
      · obtain rfl : i = k := by omega
        refine Ev.step (fun n => ?_) hend
        rw [h0, if_neg (by omega), Nat.sub_self]
        simp
  have := main k 0 (by omega) (by omega)
  simpa using this

theorem LexerMany : insolvencylaw11_LexerMany.Pure := by
  intro a b ha hb
  apply Ev.rounds
  have ha2 : 0 ≤ a ∧ a ≤ 65535 := by
    have h2 : IntKind.u16.min ≤ a ∧ a ≤ IntKind.u16.max := by simpa [Lit.wf] using ha
    have e1 : IntKind.u16.min = 0 := rfl
    have e2 : IntKind.u16.max = 65535 := rfl
    omega
  have hb2 : 0 ≤ b ∧ b ≤ 255 := by
    have h2 : IntKind.u8.min ≤ b ∧ b ≤ IntKind.u8.max := by simpa [Lit.wf] using hb
    have e1 : IntKind.u8.min = 0 := rfl
    have e2 : IntKind.u8.max = 255 := rfl
    omega
  obtain ⟨k, hk1, hk2, hkw⟩ : ∃ k : Nat, 2045 ≤ k ∧ k ≤ 2050 ∧ wrap64 (2045 + (wrap64 (Int.tmod a 6))) = (k : Int) := by
    have hm : Int.tmod a 6 = a % 6 := Int.tmod_eq_emod_of_nonneg ha2.1
    have h6 : 0 ≤ a % 6 ∧ a % 6 < 6 := by omega
    rw [hm]
    generalize a % 6 = x at h6 ⊢
    refine ⟨(2045 + x).toNat, by omega, by omega, ?_⟩
    unfold wrap64; omega
  obtain ⟨m, hm1, hm2, hmw⟩ : ∃ m : Nat, 1 ≤ m ∧ m ≤ 64 ∧ wrap64 (1 + (Int.tmod (wrap64 (b)) 64)) = (m : Int) := by
    have hw : wrap64 b = b := by unfold wrap64; omega
    have hm : Int.tmod b 64 = b % 64 := Int.tmod_eq_emod_of_nonneg hb2.1
    rw [hw, hm]
    have h6 : 0 ≤ b % 64 ∧ b % 64 < 64 := by omega
    generalize b % 64 = x at h6 ⊢
    refine ⟨(1 + x).toNat, by omega, by omega, ?_⟩
    unfold wrap64; omega
  obtain ⟨q, hq, hqw, hq2⟩ : ∃ q : Nat, (q = 8193 ∨ q = 8192) ∧ wrap64 (8193 - (wrap64 (Int.tmod a 2))) = (q : Int) ∧ ((Int.tmod a 2) == 0) = decide (q = 8193) := by
    have hm : Int.tmod a 2 = a % 2 := Int.tmod_eq_emod_of_nonneg ha2.1
    rw [hm]
    have h6 : a % 2 = 0 ∨ a % 2 = 1 := by omega
    rcases h6 with h6 | h6 <;> rw [h6]
    · exact ⟨8193, .inl rfl, by unfold wrap64; omega, by simp⟩
    · exact ⟨8192, .inr rfl, by unfold wrap64; omega, by simp⟩
  -- the last part: blanks
  have l2 : ∀ y : List Int, y = List.replicate q 0 → Ev (fun n => insolvencylaw11_LexerMany.l2 n a 0 y (y.length : Int) 0) true := by
    rintro y rfl
    rw [List.length_replicate]
    refine fill_ev (fun n x i => insolvencylaw11_LexerMany.l2 n a 0 x (q : Int) i) _ 32 q (by omega) (fun n x i => rfl) ?_
    refine Ev.bind (Lex.split_ev _) ?_
    refine Ev.bind Lex.awake_ev ?_
    rw [bytes_rep]
    simp only [if_true, hq2]
    rcases hq with rfl | rfl
    · rw [show (UInt8.ofNat (32 : Int).toNat) = 32 from rfl, blanks.1]
      exact ⟨0, fun _ _ => by simp⟩
    · obtain ⟨r, hr⟩ := blanks.2
      rw [show (UInt8.ofNat (32 : Int).toNat) = 32 from rfl, hr]
      exact ⟨0, fun _ _ => by simp⟩
  -- the name
  have j1 : Ev (fun n => insolvencylaw11_LexerMany.j1 n a b) true := by
    refine Ev.step (f := fun n => insolvencylaw11_LexerMany.l1 n a (List.replicate m 0) ((List.replicate m (0 : Int)).length : Int) 0) (fun n => ?_) ?_
    · simp only [insolvencylaw11_LexerMany.j1, hmw, Int.toNat_natCast]
      rw [if_pos (by omega), if_pos (by omega)]
      rfl
    · rw [List.length_replicate]
      refine fill_ev (fun n x i => insolvencylaw11_LexerMany.l1 n a x (m : Int) i) _ 120 m (by omega) (fun n x i => rfl) ?_
      have hsz : 1 + (strOfNums (List.replicate m 120)).size ≤ 9223372036854775807 := by rw [strOfNums_size, List.length_replicate]; omega
      simp only [if_pos hsz]
      refine Ev.bind (Lex.split_ev _) ?_
      have htext : ((⟨#[32]⟩ : ByteArray) ++ strOfNums (List.replicate m 120)).data.toList = 32 :: List.replicate m 120 := by
        rw [ByteArray.toList_data_append, bytes_rep]; rfl
      rw [htext]
      obtain ⟨x1, x2⟩ := exes m hm1 hm2
      simp only [List.length_replicate]
      by_cases h32 : 32 < m
      · simp only [if_pos (show (m : Int) > 32 by omega), x2 h32]
        refine Ev.bind Lex.awake_ev ?_
        exact ⟨0, fun _ _ => by simp⟩
      · obtain ⟨r, hr⟩ := x1 (by omega)
        simp only [if_neg (show ¬ (m : Int) > 32 by omega), hr, hqw, Int.toNat_natCast]
        simp only [if_pos (show (0 : Int) ≤ (q : Int) by omega), if_pos (show q ≤ 281474976710656 by omega), Option.bind_some]
        exact l2 _ rfl
  -- the signs
  unfold insolvencylaw11_LexerMany.f
  simp only [hkw, Int.toNat_natCast]
  simp only [if_pos (show (0 : Int) ≤ (k : Int) by omega), if_pos (show k ≤ 281474976710656 by omega), Option.bind_some]
  rw [List.length_replicate]
  refine fill_ev (fun n x i => insolvencylaw11_LexerMany.l0 n a b (k : Int) x (k : Int) i) _ 59 k (by omega) (fun n x i => rfl) ?_
  refine Ev.bind (Lex.split_ev _) ?_
  rw [bytes_rep, show (UInt8.ofNat (59 : Int).toNat) = 59 from rfl]
  obtain ⟨s1, s2⟩ := semi k (by omega)
  by_cases h : k ≤ 2048
  · obtain ⟨r, hr, hl⟩ := s1 h
    have hw : wrap64 ((k : Int) + 1) = ((k + 1 : Nat) : Int) := by unfold wrap64; omega
    simp only [if_neg (show ¬ (k : Int) > 2048 by omega), hr, hl, hw, if_true]
    exact j1
  · simp only [if_pos (show (k : Int) > 2048 by omega), s2 (by omega), if_true, List.length_nil, Int.natCast_zero]
    exact j1

end Go.Proofs.Ytffgmmgfofbmlaa.Pure
