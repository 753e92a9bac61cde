import Derived.Test.YtffgmmgfofbmlaaFALexerSplit
import Derived.Test.YtffgmmgfofbmlaaFAInsolvencyref9Split
import Derived.Test.YtffgmmgfofbmlaaFAInsolvencyref9Sametokens
set_option linter.unusedVariables false
set_option linter.unusedSimpArgs false
namespace Go.Proofs.Ytffgmmgfofbmlaa.Lex
open Go.RowKit Go.Proofs.Ytffgmmgfofbmlaa.PA Go.Proofs.YtffgmmgfofbmlaaW.PrintWords Go.Proofs.YtffgmmgfofbmlaaW.PrintLast

/-! ### classes of bytes -/
def isL (c : Int) : Bool := decide (97 ≤ c ∧ c ≤ 122) || decide (65 ≤ c ∧ c ≤ 90)
def isD (c : Int) : Bool := decide (48 ≤ c ∧ c ≤ 57)
def isN (c : Int) : Bool := isL c || isD c || decide (c = 45 ∨ c = 95)
def isB (c : Int) : Bool := decide (c = 32 ∨ c = 9 ∨ c = 10 ∨ c = 13)
def isS (c : Int) : Bool := decide (c = 61 ∨ c = 44 ∨ c = 59)

theorem letter_is (c : Int) : lexer_isLetter.f c = some (isL c) := by
  unfold lexer_isLetter.f isL
  by_cases h1 : 97 ≤ c <;> by_cases h2 : c ≤ 122 <;> by_cases h3 : 65 ≤ c <;> by_cases h4 : c ≤ 90 <;> simp [h1, h2, h3, h4] <;> omega
theorem letter9_is (c : Int) : insolvencyref9_letter.f c = some (isL c) := letter_is c
theorem digit_is (c : Int) : lexer_isDigit.f c = some (isD c) := by
  unfold lexer_isDigit.f isD
  split <;> simp <;> omega
theorem digit9_is (c : Int) : insolvencyref9_digit.f c = some (isD c) := digit_is c
theorem name_is (c : Int) : lexer_inName.f c = some (isN c) := by
  unfold lexer_inName.f isN
  rw [letter_is, digit_is]
  simp only [Option.bind_some]
  cases isL c <;> cases isD c <;> simp
  by_cases h : c = 45 <;> by_cases h2 : c = 95 <;> simp [h, h2]
theorem within_is (c : Int) : insolvencyref9_within.f c = some (isN c) := name_is c
theorem notNl_is (c : Int) : lexer_blank_1.f c = some (c != 10) := rfl
theorem blank9_is (c : Int) : insolvencyref9_blank.f c = some (isB c) := by
  unfold insolvencyref9_blank.f isB
  by_cases h1 : c = 32
  · simp [h1]
  · by_cases h2 : c = 9
    · simp [h2]
    · by_cases h3 : c = 10
      · simp [h3]
      · by_cases h4 : c = 13 <;> simp [h1, h2, h3, h4]

/-! ### the text as a list -/
theorem toList_data (a : ByteArray) : a.toList = a.data.toList := Go.Lib.toList_data a
def sfx (s : ByteArray) (i : Nat) : List UInt8 := s.data.toList.drop i
theorem sfx_len (s : ByteArray) (i : Nat) : (sfx s i).length = s.size - i := by simp [sfx]
theorem sfx_zero (s : ByteArray) : sfx s 0 = s.data.toList := rfl
theorem sfx_cons (s : ByteArray) (i : Nat) (h : i < s.size) : ∃ c : UInt8, sfx s i = c :: sfx s (i + 1) ∧ bt s (i : Int) = (c.toNat : Int) := by
  refine ⟨s[i], ?_, ?_⟩
  · unfold sfx
    rw [List.drop_eq_getElem_cons (by simpa using h)]
    rfl
  · have := bt_at s (i : Int) (by simpa using h)
    rw [← this]
    rfl
theorem sfx_end (s : ByteArray) (i : Nat) (h : s.size ≤ i) : sfx s i = [] := by
  apply List.eq_nil_of_length_eq_zero
  rw [sfx_len]; omega
theorem sfx_add (s : ByteArray) (i j : Nat) : sfx s (i + j) = (sfx s i).drop j := by
  simp [sfx, List.drop_drop]
/-- Where a suffix of a text of n bytes begins. -/
def at_ (n : Nat) (l : List UInt8) : Int := (n : Int) - (l.length : Int)
theorem at_sfx (s : ByteArray) (i : Nat) (h : i ≤ s.size) : at_ s.size (sfx s i) = i := by
  unfold at_; rw [sfx_len]; omega
def run (p : Int → Bool) (l : List UInt8) : Nat := (l.takeWhile fun c => p c.toNat).length
theorem run_le (p : Int → Bool) (l : List UInt8) : run p l ≤ l.length := (List.takeWhile_sublist _).length_le
theorem drop_run (p : Int → Bool) (l : List UInt8) : l.drop (run p l) = l.dropWhile fun c => p c.toNat := by
  unfold run
  induction l with
  | nil => rfl
  | cons c r ih =>
    simp only [List.takeWhile_cons, List.dropWhile_cons]
    cases p c.toNat <;> simp [ih]
theorem take_run (p : Int → Bool) (l : List UInt8) : l.take (run p l) = l.takeWhile fun c => p c.toNat := by
  unfold run
  induction l with
  | nil => rfl
  | cons c r ih =>
    simp only [List.takeWhile_cons]
    cases p c.toNat <;> simp [ih]
theorem wrap_at {i n : Nat} (h : i < n) (hn : n ≤ 140737488351232) : wrap64 ((i : Int) + 1) = ((i + 1 : Nat) : Int) := by
  unfold wrap64; omega

/-- A loop that runs on while p holds. -/
theorem skip_ev (l0 : Nat → ByteArray → Int → Option Int) (g : Int → Option Bool) (p : Int → Bool) (hg : ∀ c, g c = some (p c))
    (h0 : ∀ k s i, l0 (k + 1) s i = if i < (s.size : Int) then (if 0 ≤ i then ((g (bt s i)).bind fun t => (if t = true then (l0 k s (wrap64 (i + 1))) else (some i))) else none) else some i)
    (s : ByteArray) (hs : s.size ≤ 140737488351232) (d : Nat) : ∀ i : Nat, s.size - i = d → i ≤ s.size → Ev (fun k => l0 k s i) ((i + run p (sfx s i) : Nat) : Int) := by
  induction d with
  | zero =>
    intro i hd hi
    refine ⟨1, fun k hk => ?_⟩
    obtain ⟨k, rfl⟩ : ∃ m, k = m + 1 := ⟨k - 1, by omega⟩
    show l0 (k + 1) s i = _
    rw [h0, if_neg (by omega), sfx_end s i (by omega)]
    rfl
  | succ d ih =>
    intro i hd hi
    have hlt : i < s.size := by omega
    obtain ⟨c, hc, hb⟩ := sfx_cons s i hlt
    refine Ev.step (f := fun k => if p c.toNat = true then l0 k s ((i + 1 : Nat) : Int) else some (i : Int)) (fun k => ?_) ?_
    · simp only [h0]
      rw [if_pos (by omega), if_pos (by omega), hb, hg]
      simp only [Option.bind_some]
      rw [wrap_at hlt hs]
    · rw [hc]
      unfold run
      simp only [List.takeWhile_cons]
      cases hp : p c.toNat
      · simp only [Bool.false_eq_true, if_false, List.length_nil, Nat.add_zero]
        exact Ev.now _
      · simp only [if_true, List.length_cons]
        have := ih (i + 1) (by omega) (by omega)
        unfold run at this
        rw [show i + ((List.takeWhile (fun c => p c.toNat) (sfx s (i + 1))).length + 1) = i + 1 + (List.takeWhile (fun c => p c.toNat) (sfx s (i + 1))).length by omega]
        exact this
theorem inName_ev (s : ByteArray) (hs : s.size ≤ 140737488351232) (i : Nat) (hi : i ≤ s.size) : Ev (fun k => lexer_skip_inName.f k s i) ((i + run isN (sfx s i) : Nat) : Int) :=
  skip_ev lexer_skip_inName.l0 _ isN name_is (fun _ _ _ => rfl) s hs _ i rfl hi
theorem isDigit_ev (s : ByteArray) (hs : s.size ≤ 140737488351232) (i : Nat) (hi : i ≤ s.size) : Ev (fun k => lexer_skip_isDigit.f k s i) ((i + run isD (sfx s i) : Nat) : Int) :=
  skip_ev lexer_skip_isDigit.l0 _ isD digit_is (fun _ _ _ => rfl) s hs _ i rfl hi
theorem notNl_ev (s : ByteArray) (hs : s.size ≤ 140737488351232) (i : Nat) (hi : i ≤ s.size) : Ev (fun k => lexer_skip_notNl.f k s i) ((i + run (fun c => c != 10) (sfx s i) : Nat) : Int) :=
  skip_ev lexer_skip_notNl.l0 _ (fun c => c != 10) notNl_is (fun _ _ _ => rfl) s hs _ i rfl hi
theorem digits9_ev (s : ByteArray) (hs : s.size ≤ 140737488351232) (i : Nat) (hi : i ≤ s.size) : Ev (fun k => insolvencyref9_digits.f k s i) ((i + run isD (sfx s i) : Nat) : Int) :=
  skip_ev insolvencyref9_digits.l0 _ isD digit9_is (fun _ _ _ => rfl) s hs _ i rfl hi

/-! ### blanks and comments -/
def skb : Bool → List UInt8 → List UInt8
  | _, [] => []
  | true, c :: r => if c = 10 then skb false r else skb true r
  | false, c :: r => if isB c.toNat = true then skb false r else if c = 35 then skb true r else c :: r
theorem skb_len : ∀ (b : Bool) (l : List UInt8), (skb b l).length ≤ l.length
  | _, [] => by simp [skb]
  | true, c :: r => by
    unfold skb
    split
    · have := skb_len false r; simp; omega
    · have := skb_len true r; simp; omega
  | false, c :: r => by
    unfold skb
    split
    · have := skb_len false r; simp; omega
    · split
      · have := skb_len true r; simp; omega
      · simp
theorem byte_eq {c : UInt8} {n : Nat} (hn : n < 256) : c = UInt8.ofNat n ↔ (c.toNat : Int) = (n : Int) := by
  constructor
  · rintro rfl; simp; omega
  · intro h
    apply UInt8.toNat_inj.1
    simp; omega
theorem skb_true (l : List UInt8) : skb true l = skb false (l.dropWhile fun c => ((c.toNat : Int) != 10)) := by
  induction l with
  | nil => simp [skb]
  | cons c r ih =>
    simp only [List.dropWhile_cons]
    by_cases h : c = 10
    · subst h
      simp [skb, isB]
    · have hc : ((c.toNat : Int) != 10) = true := by
        rw [bne_iff_ne]; exact fun e => h ((byte_eq (n := 10) (by omega)).2 e)
      rw [if_pos hc]
      simp only [skb, if_neg h]
      exact ih
theorem skb_sfx (s : ByteArray) (b : Bool) : ∀ (d i : Nat), s.size - i = d → i ≤ s.size → ∃ j, i ≤ j ∧ j ≤ s.size ∧ skb b (sfx s i) = sfx s j := by
  intro d
  induction d generalizing b with
  | zero =>
    intro i hd hi
    exact ⟨i, by omega, hi, by rw [sfx_end s i (by omega)]; cases b <;> rfl⟩
  | succ d ih =>
    intro i hd hi
    obtain ⟨c, hc, _⟩ := sfx_cons s i (by omega)
    obtain ⟨j1, a1, b1, e1⟩ := ih true (i + 1) (by omega) (by omega)
    obtain ⟨j2, a2, b2, e2⟩ := ih false (i + 1) (by omega) (by omega)
    rw [hc]
    cases b
    · unfold skb
      split
      · exact ⟨j2, by omega, b2, e2⟩
      · split
        · exact ⟨j1, by omega, b1, e1⟩
        · exact ⟨i, by omega, hi, hc.symm⟩
    · unfold skb
      split
      · exact ⟨j2, by omega, b2, e2⟩
      · exact ⟨j1, by omega, b1, e1⟩

theorem blank_step (k : Nat) (s : ByteArray) (i : Nat) (c : UInt8) (hi : i < s.size) (hs : s.size ≤ 140737488351232) (hb : bt s (i : Int) = (c.toNat : Int)) :
    lexer_blank.l0 (k + 2) s i = if isB c.toNat = true then lexer_blank.l0 k s ((i + 1 : Nat) : Int) else if c = 35 then (lexer_skip_notNl.f k s i).bind fun t => lexer_blank.l0 k s t else some (i : Int) := by
  simp only [lexer_blank.l0]
  rw [if_pos (by omega), if_pos (by omega), hb]
  have e35 : (c = 35) ↔ ((c.toNat : Int) = 35) := byte_eq (n := 35) (by omega)
  have hw := wrap_at hi hs
  by_cases h1 : (c.toNat : Int) = 32
  · rw [if_pos h1]; simp [lexer_blank.j1, h1, isB, hw]
  · rw [if_neg h1]
    by_cases h2 : (c.toNat : Int) = 9
    · rw [if_pos h2]; simp [lexer_blank.j1, h2, isB, hw]
    · rw [if_neg h2]
      by_cases h3 : (c.toNat : Int) = 10
      · rw [if_pos h3]; simp [lexer_blank.j1, h3, isB, hw]
      · rw [if_neg h3]
        by_cases h4 : (c.toNat : Int) = 13
        · simp [lexer_blank.j1, h4, isB, hw]
        · by_cases h5 : c = 35
          · have := e35.1 h5
            simp only [lexer_blank.j1]
            simp [isB, h2, h3, h4, h5]
          · have h5' : ¬ (c.toNat : Int) = 35 := fun e => h5 (e35.2 e)
            simp only [lexer_blank.j1]
            simp [isB, h1, h2, h3, h4, h5, h5']
theorem blank_ev (s : ByteArray) (hs : s.size ≤ 140737488351232) (d : Nat) : ∀ i : Nat, s.size - i ≤ d → i ≤ s.size → Ev (fun k => lexer_blank.l0 k s i) (at_ s.size (skb false (sfx s i))) := by
  induction d with
  | zero =>
    intro i hd hi
    refine ⟨1, fun k hk => ?_⟩
    obtain ⟨k, rfl⟩ : ∃ m, k = m + 1 := ⟨k - 1, by omega⟩
    simp only [lexer_blank.l0]
    rw [if_neg (by omega), sfx_end s i (by omega)]
    simp [skb, at_]; omega
  | succ d ih =>
    intro i hd hi
    by_cases hlt : i < s.size
    · obtain ⟨c, hc, hb⟩ := sfx_cons s i hlt
      have step : Ev (fun k => if isB c.toNat = true then lexer_blank.l0 k s ((i + 1 : Nat) : Int) else if c = 35 then (lexer_skip_notNl.f k s i).bind fun t => lexer_blank.l0 k s t else some (i : Int)) (at_ s.size (skb false (sfx s i))) := by
        rw [hc]
        unfold skb
        by_cases h1 : isB c.toNat = true
        · simp only [if_pos h1]
          exact ih (i + 1) (by omega) (by omega)
        · simp only [if_neg h1]
          by_cases h2 : c = 35
          · simp only [if_pos h2]
            have hr := run_le (fun c => c != 10) (sfx s i)
            rw [sfx_len] at hr
            have hpos : 1 ≤ run (fun c => c != 10) (sfx s i) := by rw [hc, h2]; simp [run]
            have h3 := ih (i + run (fun c => c != 10) (sfx s i)) (by omega) (by omega)
            have h4 : skb true (sfx s (i + 1)) = skb false (sfx s (i + run (fun c => c != 10) (sfx s i))) := by
              rw [sfx_add s i (run (fun c => c != 10) (sfx s i)), drop_run, skb_true, hc]
              simp only [List.dropWhile_cons]
              rw [if_pos (by rw [h2]; decide)]
            rw [h4]
            exact Ev.bind (notNl_ev s hs i hi) h3
          · simp only [if_neg h2]
            rw [← hc, at_sfx s i hi]
            exact Ev.now _
      obtain ⟨K, hK⟩ := step
      refine ⟨K + 2, fun k hk => ?_⟩
      obtain ⟨k, rfl⟩ : ∃ m, k = m + 2 := ⟨k - 2, by omega⟩
      show lexer_blank.l0 (k + 2) s i = _
      rw [blank_step k s i c hlt hs hb]
      exact hK k (by omega)
    · refine ⟨1, fun k hk => ?_⟩
      obtain ⟨k, rfl⟩ : ∃ m, k = m + 1 := ⟨k - 1, by omega⟩
      simp only [lexer_blank.l0]
      rw [if_neg (by omega), sfx_end s i (by omega)]
      simp [skb, at_]; omega
end Go.Proofs.Ytffgmmgfofbmlaa.Lex
