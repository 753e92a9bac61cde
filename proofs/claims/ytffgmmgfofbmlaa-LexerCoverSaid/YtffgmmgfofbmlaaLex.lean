import Derived.Test.YtffgmmgfofbmlaaFALexerSplit
import Derived.Test.YtffgmmgfofbmlaaFAInsolvencyref9Split
import Derived.Test.YtffgmmgfofbmlaaFAInsolvencyref9Sametokens
import Derived.Test.YtffgmmgfofbmlaaFAInsolvencylaw11Awake
import Derived.Test.YtffgmmgfofbmlaaFAInsolvencylaw11Pieces
set_option linter.unusedVariables false
set_option linter.unusedSimpArgs false
namespace Go.Proofs.Ytffgmmgfofbmlaa.Lex
open Go.RowKit Go.Proofs.Ytffgmmgfofbmlaa.PA Go.Proofs.YtffgmmgfofbmlaaW.PrintWords Go.Proofs.YtffgmmgfofbmlaaW.PrintLast

/-! ### classes of bytes -/
def isL (c : Int) : Bool := decide (97 ≤ c ∧ c ≤ 122) || decide (65 ≤ c ∧ c ≤ 90)
def isD (c : Int) : Bool := decide (48 ≤ c ∧ c ≤ 57)
def isN (c : Int) : Bool := isL c || isD c || decide (c = 45 ∨ c = 95)
def isB (c : Int) : Bool := decide (c = 32 ∨ c = 9 ∨ c = 10 ∨ c = 13)
def isS (c : Int) : Bool := decide (c = 61 ∨ c = 44 ∨ c = 59)

theorem letter_is (c : Int) : lexer_isLetter.f c = some (isL c) := by
  unfold lexer_isLetter.f isL
  by_cases h1 : 97 ≤ c <;> by_cases h2 : c ≤ 122 <;> by_cases h3 : 65 ≤ c <;> by_cases h4 : c ≤ 90 <;> simp [h1, h2, h3, h4] <;> omega
theorem letter9_is (c : Int) : insolvencyref9_letter.f c = some (isL c) := letter_is c
theorem digit_is (c : Int) : lexer_isDigit.f c = some (isD c) := by
  unfold lexer_isDigit.f isD
  split <;> simp <;> omega
theorem digit9_is (c : Int) : insolvencyref9_digit.f c = some (isD c) := digit_is c
theorem name_is (c : Int) : lexer_inName.f c = some (isN c) := by
  unfold lexer_inName.f isN
  rw [letter_is, digit_is]
  simp only [Option.bind_some]
  cases isL c <;> cases isD c <;> simp
  by_cases h : c = 45 <;> by_cases h2 : c = 95 <;> simp [h, h2]
theorem within_is (c : Int) : insolvencyref9_within.f c = some (isN c) := name_is c
theorem notNl_is (c : Int) : lexer_blank_1.f c = some (c != 10) := rfl
theorem blank9_is (c : Int) : insolvencyref9_blank.f c = some (isB c) := by
  unfold insolvencyref9_blank.f isB
  by_cases h1 : c = 32
  · simp [h1]
  · by_cases h2 : c = 9
    · simp [h2]
    · by_cases h3 : c = 10
      · simp [h3]
      · by_cases h4 : c = 13 <;> simp [h1, h2, h3, h4]

/-! ### the text as a list -/
theorem toList_data (a : ByteArray) : a.toList = a.data.toList := Go.Lib.toList_data a
def sfx (s : ByteArray) (i : Nat) : List UInt8 := s.data.toList.drop i
theorem sfx_len (s : ByteArray) (i : Nat) : (sfx s i).length = s.size - i := by simp [sfx]
theorem sfx_zero (s : ByteArray) : sfx s 0 = s.data.toList := rfl
theorem sfx_cons (s : ByteArray) (i : Nat) (h : i < s.size) : ∃ c : UInt8, sfx s i = c :: sfx s (i + 1) ∧ bt s (i : Int) = (c.toNat : Int) := by
  refine ⟨s[i], ?_, ?_⟩
  · unfold sfx
    rw [List.drop_eq_getElem_cons (by simpa using h)]
    rfl
  · have := bt_at s (i : Int) (by simpa using h)
    rw [← this]
    rfl
theorem sfx_end (s : ByteArray) (i : Nat) (h : s.size ≤ i) : sfx s i = [] := by
  apply List.eq_nil_of_length_eq_zero
  rw [sfx_len]; omega
theorem sfx_add (s : ByteArray) (i j : Nat) : sfx s (i + j) = (sfx s i).drop j := by
  simp [sfx, List.drop_drop]
/-- Where a suffix of a text of n bytes begins. -/
def at_ (n : Nat) (l : List UInt8) : Int := (n : Int) - (l.length : Int)
theorem at_sfx (s : ByteArray) (i : Nat) (h : i ≤ s.size) : at_ s.size (sfx s i) = i := by
  unfold at_; rw [sfx_len]; omega
def run (p : Int → Bool) (l : List UInt8) : Nat := (l.takeWhile fun c => p c.toNat).length
theorem run_le (p : Int → Bool) (l : List UInt8) : run p l ≤ l.length := (List.takeWhile_sublist _).length_le
theorem drop_run (p : Int → Bool) (l : List UInt8) : l.drop (run p l) = l.dropWhile fun c => p c.toNat := by
  unfold run
  induction l with
  | nil => rfl
  | cons c r ih =>
    simp only [List.takeWhile_cons, List.dropWhile_cons]
    cases p c.toNat <;> simp [ih]
theorem take_run (p : Int → Bool) (l : List UInt8) : l.take (run p l) = l.takeWhile fun c => p c.toNat := by
  unfold run
  induction l with
  | nil => rfl
  | cons c r ih =>
    simp only [List.takeWhile_cons]
    cases p c.toNat <;> simp [ih]
theorem wrap_at {i n : Nat} (h : i < n) (hn : n ≤ 140737488351232) : wrap64 ((i : Int) + 1) = ((i + 1 : Nat) : Int) := by
  unfold wrap64; omega

/-- A loop that runs on while p holds. -/
theorem skip_ev (l0 : Nat → ByteArray → Int → Option Int) (g : Int → Option Bool) (p : Int → Bool) (hg : ∀ c, g c = some (p c))
    (h0 : ∀ k s i, l0 (k + 1) s i = if i < (s.size : Int) then (if 0 ≤ i then ((g (bt s i)).bind fun t => (if t = true then (l0 k s (wrap64 (i + 1))) else (some i))) else none) else some i)
    (s : ByteArray) (hs : s.size ≤ 140737488351232) (d : Nat) : ∀ i : Nat, s.size - i = d → i ≤ s.size → Ev (fun k => l0 k s i) ((i + run p (sfx s i) : Nat) : Int) := by
  induction d with
  | zero =>
    intro i hd hi
    refine ⟨1, fun k hk => ?_⟩
    obtain ⟨k, rfl⟩ : ∃ m, k = m + 1 := ⟨k - 1, by omega⟩
    show l0 (k + 1) s i = _
    rw [h0, if_neg (by omega), sfx_end s i (by omega)]
    rfl
  | succ d ih =>
    intro i hd hi
    have hlt : i < s.size := by omega
    obtain ⟨c, hc, hb⟩ := sfx_cons s i hlt
    refine Ev.step (f := fun k => if p c.toNat = true then l0 k s ((i + 1 : Nat) : Int) else some (i : Int)) (fun k => ?_) ?_
    · simp only [h0]
      rw [if_pos (by omega), if_pos (by omega), hb, hg]
      simp only [Option.bind_some]
      rw [wrap_at hlt hs]
    · rw [hc]
      unfold run
      simp only [List.takeWhile_cons]
      cases hp : p c.toNat
      · simp only [Bool.false_eq_true, if_false, List.length_nil, Nat.add_zero]
        exact Ev.now _
      · simp only [if_true, List.length_cons]
        have := ih (i + 1) (by omega) (by omega)
        unfold run at this
        rw [show i + ((List.takeWhile (fun c => p c.toNat) (sfx s (i + 1))).length + 1) = i + 1 + (List.takeWhile (fun c => p c.toNat) (sfx s (i + 1))).length by omega]
        exact this
theorem inName_ev (s : ByteArray) (hs : s.size ≤ 140737488351232) (i : Nat) (hi : i ≤ s.size) : Ev (fun k => lexer_skip_inName.f k s i) ((i + run isN (sfx s i) : Nat) : Int) :=
  skip_ev lexer_skip_inName.l0 _ isN name_is (fun _ _ _ => rfl) s hs _ i rfl hi
theorem isDigit_ev (s : ByteArray) (hs : s.size ≤ 140737488351232) (i : Nat) (hi : i ≤ s.size) : Ev (fun k => lexer_skip_isDigit.f k s i) ((i + run isD (sfx s i) : Nat) : Int) :=
  skip_ev lexer_skip_isDigit.l0 _ isD digit_is (fun _ _ _ => rfl) s hs _ i rfl hi
theorem notNl_ev (s : ByteArray) (hs : s.size ≤ 140737488351232) (i : Nat) (hi : i ≤ s.size) : Ev (fun k => lexer_skip_notNl.f k s i) ((i + run (fun c => c != 10) (sfx s i) : Nat) : Int) :=
  skip_ev lexer_skip_notNl.l0 _ (fun c => c != 10) notNl_is (fun _ _ _ => rfl) s hs _ i rfl hi
theorem digits9_ev (s : ByteArray) (hs : s.size ≤ 140737488351232) (i : Nat) (hi : i ≤ s.size) : Ev (fun k => insolvencyref9_digits.f k s i) ((i + run isD (sfx s i) : Nat) : Int) :=
  skip_ev insolvencyref9_digits.l0 _ isD digit9_is (fun _ _ _ => rfl) s hs _ i rfl hi

/-! ### blanks and comments -/
def skb : Bool → List UInt8 → List UInt8
  | _, [] => []
  | true, c :: r => if c = 10 then skb false r else skb true r
  | false, c :: r => if isB c.toNat = true then skb false r else if c = 35 then skb true r else c :: r
theorem skb_len : ∀ (b : Bool) (l : List UInt8), (skb b l).length ≤ l.length
  | _, [] => by simp [skb]
  | true, c :: r => by
    unfold skb
    split
    · have := skb_len false r; simp; omega
    · have := skb_len true r; simp; omega
  | false, c :: r => by
    unfold skb
    split
    · have := skb_len false r; simp; omega
    · split
      · have := skb_len true r; simp; omega
      · simp
theorem byte_eq {c : UInt8} {n : Nat} (hn : n < 256) : c = UInt8.ofNat n ↔ (c.toNat : Int) = (n : Int) := by
  constructor
  · rintro rfl; simp; omega
  · intro h
    apply UInt8.toNat_inj.1
    simp; omega
theorem skb_true (l : List UInt8) : skb true l = skb false (l.dropWhile fun c => ((c.toNat : Int) != 10)) := by
  induction l with
  | nil => simp [skb]
  | cons c r ih =>
    simp only [List.dropWhile_cons]
    by_cases h : c = 10
    · subst h
      simp [skb, isB]
    · have hc : ((c.toNat : Int) != 10) = true := by
        rw [bne_iff_ne]; exact fun e => h ((byte_eq (n := 10) (by omega)).2 e)
      rw [if_pos hc]
      simp only [skb, if_neg h]
      exact ih
theorem skb_sfx (s : ByteArray) (b : Bool) : ∀ (d i : Nat), s.size - i = d → i ≤ s.size → ∃ j, i ≤ j ∧ j ≤ s.size ∧ skb b (sfx s i) = sfx s j := by
  intro d
  induction d generalizing b with
  | zero =>
    intro i hd hi
    exact ⟨i, by omega, hi, by rw [sfx_end s i (by omega)]; cases b <;> rfl⟩
  | succ d ih =>
    intro i hd hi
    obtain ⟨c, hc, _⟩ := sfx_cons s i (by omega)
    obtain ⟨j1, a1, b1, e1⟩ := ih true (i + 1) (by omega) (by omega)
    obtain ⟨j2, a2, b2, e2⟩ := ih false (i + 1) (by omega) (by omega)
    rw [hc]
    cases b
    · unfold skb
      split
      · exact ⟨j2, by omega, b2, e2⟩
      · split
        · exact ⟨j1, by omega, b1, e1⟩
        · exact ⟨i, by omega, hi, hc.symm⟩
    · unfold skb
      split
      · exact ⟨j2, by omega, b2, e2⟩
      · exact ⟨j1, by omega, b1, e1⟩

theorem blank_step (k : Nat) (s : ByteArray) (i : Nat) (c : UInt8) (hi : i < s.size) (hs : s.size ≤ 140737488351232) (hb : bt s (i : Int) = (c.toNat : Int)) :
    lexer_blank.l0 (k + 2) s i = if isB c.toNat = true then lexer_blank.l0 k s ((i + 1 : Nat) : Int) else if c = 35 then (lexer_skip_notNl.f k s i).bind fun t => lexer_blank.l0 k s t else some (i : Int) := by
  simp only [lexer_blank.l0]
  rw [if_pos (by omega), if_pos (by omega), hb]
  have e35 : (c = 35) ↔ ((c.toNat : Int) = 35) := byte_eq (n := 35) (by omega)
  have hw := wrap_at hi hs
  by_cases h1 : (c.toNat : Int) = 32
  · rw [if_pos h1]; simp [lexer_blank.j1, h1, isB, hw]
  · rw [if_neg h1]
    by_cases h2 : (c.toNat : Int) = 9
    · rw [if_pos h2]; simp [lexer_blank.j1, h2, isB, hw]
    · rw [if_neg h2]
      by_cases h3 : (c.toNat : Int) = 10
      · rw [if_pos h3]; simp [lexer_blank.j1, h3, isB, hw]
      · rw [if_neg h3]
        by_cases h4 : (c.toNat : Int) = 13
        · simp [lexer_blank.j1, h4, isB, hw]
        · by_cases h5 : c = 35
          · have := e35.1 h5
            simp only [lexer_blank.j1]
            simp [isB, h2, h3, h4, h5]
          · have h5' : ¬ (c.toNat : Int) = 35 := fun e => h5 (e35.2 e)
            simp only [lexer_blank.j1]
            simp [isB, h1, h2, h3, h4, h5, h5']
theorem blank_ev (s : ByteArray) (hs : s.size ≤ 140737488351232) (d : Nat) : ∀ i : Nat, s.size - i ≤ d → i ≤ s.size → Ev (fun k => lexer_blank.l0 k s i) (at_ s.size (skb false (sfx s i))) := by
  induction d with
  | zero =>
    intro i hd hi
    refine ⟨1, fun k hk => ?_⟩
    obtain ⟨k, rfl⟩ : ∃ m, k = m + 1 := ⟨k - 1, by omega⟩
    simp only [lexer_blank.l0]
    rw [if_neg (by omega), sfx_end s i (by omega)]
    simp [skb, at_]; omega
  | succ d ih =>
    intro i hd hi
    by_cases hlt : i < s.size
    · obtain ⟨c, hc, hb⟩ := sfx_cons s i hlt
      have step : Ev (fun k => if isB c.toNat = true then lexer_blank.l0 k s ((i + 1 : Nat) : Int) else if c = 35 then (lexer_skip_notNl.f k s i).bind fun t => lexer_blank.l0 k s t else some (i : Int)) (at_ s.size (skb false (sfx s i))) := by
        rw [hc]
        unfold skb
        by_cases h1 : isB c.toNat = true
        · simp only [if_pos h1]
          exact ih (i + 1) (by omega) (by omega)
        · simp only [if_neg h1]
          by_cases h2 : c = 35
          · simp only [if_pos h2]
            have hr := run_le (fun c => c != 10) (sfx s i)
            rw [sfx_len] at hr
            have hpos : 1 ≤ run (fun c => c != 10) (sfx s i) := by rw [hc, h2]; simp [run]
            have h3 := ih (i + run (fun c => c != 10) (sfx s i)) (by omega) (by omega)
            have h4 : skb true (sfx s (i + 1)) = skb false (sfx s (i + run (fun c => c != 10) (sfx s i))) := by
              rw [sfx_add s i (run (fun c => c != 10) (sfx s i)), drop_run, skb_true, hc]
              simp only [List.dropWhile_cons]
              rw [if_pos (by rw [h2]; decide)]
            rw [h4]
            exact Ev.bind (notNl_ev s hs i hi) h3
          · simp only [if_neg h2]
            rw [← hc, at_sfx s i hi]
            exact Ev.now _
      obtain ⟨K, hK⟩ := step
      refine ⟨K + 2, fun k hk => ?_⟩
      obtain ⟨k, rfl⟩ : ∃ m, k = m + 2 := ⟨k - 2, by omega⟩
      show lexer_blank.l0 (k + 2) s i = _
      rw [blank_step k s i c hlt hs hb]
      exact hK k (by omega)
    · refine ⟨1, fun k hk => ?_⟩
      obtain ⟨k, rfl⟩ : ∃ m, k = m + 1 := ⟨k - 1, by omega⟩
      simp only [lexer_blank.l0]
      rw [if_neg (by omega), sfx_end s i (by omega)]
      simp [skb, at_]; omega
end Go.Proofs.Ytffgmmgfofbmlaa.Lex

set_option linter.unusedVariables false
set_option linter.unusedSimpArgs false
namespace Go.Proofs.Ytffgmmgfofbmlaa.Lex
open Go.RowKit Go.Proofs.Ytffgmmgfofbmlaa.PA Go.Proofs.YtffgmmgfofbmlaaW.PrintWords Go.Proofs.YtffgmmgfofbmlaaW.PrintLast

/-! ### what a text comes to -/
def numRest (l : List UInt8) : List UInt8 :=
  match l.dropWhile fun c => isD c.toNat with
  | [] => []
  | [c] => [c]
  | c :: d :: r => if (c = 46 ∨ c = 47) ∧ isD d.toNat = true then (d :: r).dropWhile fun c => isD c.toNat else c :: d :: r
def reserved (t : List UInt8) : Bool := decide (t = [99, 108, 97, 115, 115] ∨ t = [98, 101, 102, 111, 114, 101] ∨ t = [108, 105, 109, 105, 116] ∨ t = [115, 117, 98, 111, 114, 100, 105, 110, 97, 116, 101])
theorem reserved_len {t : List UInt8} (h : reserved t = true) : t.length ≤ 32 := by
  unfold reserved at h
  simp at h
  rcases h with h | h | h | h <;> rw [h] <;> simp
/-- The kind of what begins here (0: nothing does), and what follows it. -/
def stp : List UInt8 → Int × List UInt8
  | [] => (0, [])
  | c :: r =>
    if isL c.toNat = true then (if reserved ((c :: r).takeWhile fun c => isN c.toNat) = true then 3 else 1, (c :: r).dropWhile fun c => isN c.toNat)
    else if isD c.toNat = true then (2, numRest (c :: r))
    else if isS c.toNat = true then (4, r) else (0, c :: r)
def bad : List UInt8 → Bool
  | [] => false
  | c :: _ => isL c.toNat || decide (c = 46 ∨ c = 47)
def txt (l r : List UInt8) : ByteArray := ⟨(l.take (l.length - r.length)).toArray⟩
def spl : Nat → Nat → List S35 → List UInt8 → List S35 × Int × Int
  | 0, _, _, _ => ([], 0, 99)
  | f + 1, n, out, l =>
    if l = [] then (out ++ [⟨5, ⟨#[]⟩, n⟩], 0, 0)
    else if (stp l).1 = 0 then ([], at_ n l, 10)
    else if 2048 ≤ out.length ∨ (stp l).1 = 1 ∧ 32 < l.length - (stp l).2.length then ([], at_ n l, 2)
    else if (stp l).1 = 2 ∧ bad (stp l).2 = true then ([], at_ n (stp l).2, 10)
    else spl f n (out ++ [⟨(stp l).1, txt l (stp l).2, at_ n l⟩]) (skb false (stp l).2)
def splitS (l : List UInt8) : List S35 × Int × Int := if 8192 < l.length then ([], 0, 2) else spl (l.length + 1) l.length [] (skb false l)

theorem isL_isN {c : Int} (h : isL c = true) : isN c = true := by simp [isN, h]
theorem not_both {c : Int} (h : isL c = true) : isD c = false := by
  unfold isL at h; unfold isD; simp at *; omega
theorem sign_not {c : Int} (h : isS c = true) : isL c = false ∧ isD c = false := by
  unfold isS at h; unfold isL isD; simp at *; omega

theorem sfx_dropWhile (s : ByteArray) (p : Int → Bool) (i : Nat) (hi : i ≤ s.size) : ((sfx s i).dropWhile fun c => p c.toNat) = sfx s (i + run p (sfx s i)) := by
  rw [sfx_add s i, drop_run]
theorem run_bound (s : ByteArray) (p : Int → Bool) (i : Nat) (hi : i ≤ s.size) : i + run p (sfx s i) ≤ s.size := by
  have := run_le p (sfx s i); rw [sfx_len] at this; omega
theorem run_pos {p : Int → Bool} {c : UInt8} {r : List UInt8} (h : p c.toNat = true) : 1 ≤ run p (c :: r) := by simp [run, h]
theorem run_zero {p : Int → Bool} {c : UInt8} {r : List UInt8} (h : p c.toNat = false) : run p (c :: r) = 0 := by simp [run, h]

theorem numRest_sfx (s : ByteArray) (i : Nat) (hi : i ≤ s.size) : ∃ j, numRest (sfx s i) = sfx s j ∧ i + run isD (sfx s i) ≤ j ∧ j ≤ s.size ∧
    ((i + run isD (sfx s i) < s.size ∧ (bt s ((i + run isD (sfx s i) : Nat) : Int) = 46 ∨ bt s ((i + run isD (sfx s i) : Nat) : Int) = 47) ∧ 0 < run isD (sfx s (i + run isD (sfx s i) + 1)) ∧ j = i + run isD (sfx s i) + 1 + run isD (sfx s (i + run isD (sfx s i) + 1))) ∨
     (¬ (i + run isD (sfx s i) < s.size ∧ (bt s ((i + run isD (sfx s i) : Nat) : Int) = 46 ∨ bt s ((i + run isD (sfx s i) : Nat) : Int) = 47) ∧ 0 < run isD (sfx s (i + run isD (sfx s i) + 1))) ∧ j = i + run isD (sfx s i))) := by
  have hb := run_bound s isD i hi
  unfold numRest
  rw [sfx_dropWhile s isD i hi]
  generalize i + run isD (sfx s i) = e at hb ⊢
  by_cases h1 : e < s.size
  · obtain ⟨c, hc, hcb⟩ := sfx_cons s e h1
    by_cases h2 : e + 1 < s.size
    · obtain ⟨d, hd, hdb⟩ := sfx_cons s (e + 1) h2
      rw [hc, hd]
      simp only
      have hb2 := run_bound s isD (e + 1) (by omega)
      have e46 : c = 46 ↔ (c.toNat : Int) = 46 := byte_eq (n := 46) (by omega)
      have e47 : c = 47 ↔ (c.toNat : Int) = 47 := byte_eq (n := 47) (by omega)
      by_cases h3 : (c = 46 ∨ c = 47) ∧ isD d.toNat = true
      · rw [if_pos h3, ← hd, sfx_dropWhile s isD (e + 1) (by omega)]
        refine ⟨_, rfl, by omega, hb2, .inl ⟨h1, ?_, ?_, rfl⟩⟩
        · rw [hcb, ← e46, ← e47]; exact h3.1
        · rw [hd]; exact run_pos h3.2
      · rw [if_neg h3, ← hd, ← hc]
        refine ⟨e, rfl, by omega, by omega, .inr ⟨?_, rfl⟩⟩
        rintro ⟨_, h4, h5⟩
        rw [hcb, ← e46, ← e47] at h4
        refine h3 ⟨h4, ?_⟩
        cases h6 : isD d.toNat
        · rw [hd, run_zero h6] at h5; omega
        · rfl
    · rw [hc, sfx_end s (e + 1) (by omega)]
      simp only
      refine ⟨e, by rw [hc, sfx_end s (e + 1) (by omega)], by omega, by omega, .inr ⟨?_, rfl⟩⟩
      rintro ⟨_, _, h5⟩
      simp [run] at h5
  · rw [sfx_end s e (by omega)]
    refine ⟨e, by rw [sfx_end s e (by omega)], by omega, hb, .inr ⟨fun h => h1 h.1, rfl⟩⟩

theorem number_ev (s : ByteArray) (hs : s.size ≤ 140737488351232) (i : Nat) (hi : i ≤ s.size) : ∃ j, numRest (sfx s i) = sfx s j ∧ i + run isD (sfx s i) ≤ j ∧ j ≤ s.size ∧ Ev (fun k => lexer_number.f k s i) (j : Int) := by
  obtain ⟨j, h1, h2, h3, h4⟩ := numRest_sfx s i hi
  refine ⟨j, h1, h2, h3, ?_⟩
  have hb := run_bound s isD i hi
  unfold lexer_number.f
  refine Ev.bind (isDigit_ev s hs i hi) ?_
  generalize i + run isD (sfx s i) = e at hb h2 h4 ⊢
  have j0 : ∀ b : Bool, (e < s.size → Ev (fun k => lexer_number.j0 k s e b) (if b = true ∧ 0 < run isD (sfx s (e + 1)) then ((e + 1 + run isD (sfx s (e + 1)) : Nat) : Int) else (e : Int))) ∧ Ev (fun k => lexer_number.j0 k s e false) (e : Int) := by
    intro b
    refine ⟨fun hlt => ?_, Ev.step (f := fun _ => some (e : Int)) (fun k => by simp [lexer_number.j0]) (Ev.now _)⟩
    cases b
    · refine Ev.step (f := fun _ => some (e : Int)) (fun k => by simp [lexer_number.j0]) ?_
      simpa using Ev.now _
    · refine Ev.step (f := fun k => (lexer_skip_isDigit.f k s ((e + 1 : Nat) : Int)).bind fun t => if t > ((e + 1 : Nat) : Int) then some t else some (e : Int)) (fun k => by simp only [lexer_number.j0, if_true, wrap_at hlt hs]) ?_
      refine Ev.bind (isDigit_ev s hs (e + 1) (by omega)) ?_
      by_cases h : 0 < run isD (sfx s (e + 1))
      · simp only [if_pos (show ((e + 1 + run isD (sfx s (e + 1)) : Nat) : Int) > ((e + 1 : Nat) : Int) by omega), true_and, if_pos h]
        exact Ev.now _
      · simp only [if_neg (show ¬ ((e + 1 + run isD (sfx s (e + 1)) : Nat) : Int) > ((e + 1 : Nat) : Int) by omega), true_and, if_neg h]
        exact Ev.now _
  by_cases hlt : e < s.size
  · simp only [show ((e : Int) < (s.size : Int)) ↔ True from ⟨fun _ => trivial, fun _ => by omega⟩, if_true, show ((0 : Int) ≤ (e : Int)) ↔ True from ⟨fun _ => trivial, fun _ => by omega⟩]
    by_cases h46 : bt s e = 46
    · simp only [if_pos h46]
      refine Eq.mp ?_ ((j0 true).1 hlt)
      congr 1
      rcases h4 with ⟨_, _, h5, h6⟩ | ⟨h5, h6⟩
      · rw [if_pos ⟨rfl, h5⟩, h6]
      · rw [if_neg (fun x => h5 ⟨hlt, .inl h46, x.2⟩), h6]
    · simp only [if_neg h46]
      refine Eq.mp ?_ ((j0 (bt s e == 47)).1 hlt)
      congr 1
      rcases h4 with ⟨_, h7, h5, h6⟩ | ⟨h5, h6⟩
      · rw [if_pos ⟨by rw [beq_iff_eq]; exact h7.resolve_left h46, h5⟩, h6]
      · rw [if_neg (fun x => h5 ⟨hlt, .inr (by simpa using x.1), x.2⟩), h6]
  · simp only [if_neg (show ¬ ((e : Int) < (s.size : Int)) by omega)]
    rcases h4 with ⟨h5, _⟩ | ⟨_, h6⟩
    · exact absurd h5 hlt
    · rw [h6]
      exact (j0 false).2

theorem reserved_ev (t : ByteArray) : lexer_Reserved.f t = some (reserved t.data.toList) := by
  unfold lexer_Reserved.f reserved
  simp only [toList_data]
  by_cases h1 : t.data.toList = [99, 108, 97, 115, 115]
  · simp [h1]
  · by_cases h2 : t.data.toList = [98, 101, 102, 111, 114, 101]
    · simp [h2]
    · by_cases h3 : t.data.toList = [108, 105, 109, 105, 116]
      · simp [h3]
      · by_cases h4 : t.data.toList = [115, 117, 98, 111, 114, 100, 105, 110, 97, 116, 101]
        · simp [h4]
        · simp [h1, h2, h3, h4]
theorem reserved9_ev (t : ByteArray) : insolvencyref9_Reserved.f t = some (reserved t.data.toList) := by
  unfold insolvencyref9_Reserved.f reserved
  simp only [toList_data]
  by_cases h1 : t.data.toList = [99, 108, 97, 115, 115]
  · simp [h1]
  · by_cases h2 : t.data.toList = [98, 101, 102, 111, 114, 101]
    · simp [h2]
    · by_cases h3 : t.data.toList = [108, 105, 109, 105, 116]
      · simp [h3]
      · by_cases h4 : t.data.toList = [115, 117, 98, 111, 114, 100, 105, 110, 97, 116, 101]
        · simp [h4]
        · simp [h1, h2, h3, h4]

theorem extract_is (s : ByteArray) (i j : Nat) (h : i ≤ j) (hj : j ≤ s.size) : s.extract i j = txt (sfx s i) (sfx s j) := by
  have e : (sfx s i).length - (sfx s j).length = j - i := by rw [sfx_len, sfx_len]; omega
  unfold txt
  rw [e]
  apply ByteArray.ext
  apply Array.ext'
  rw [ByteArray.data_extract, Array.toList_extract]
  simp [sfx, List.extract_eq_take_drop]
theorem txt_size (s : ByteArray) (i j : Nat) (h : i ≤ j) (hj : j ≤ s.size) : (txt (sfx s i) (sfx s j)).size = j - i := by
  rw [← extract_is s i j h hj, ByteArray.size_extract]; omega

/-- What stp comes to at a place of a text. -/
theorem stp_sfx (s : ByteArray) (i : Nat) (h : i < s.size) (hk : (stp (sfx s i)).1 ≠ 0) : ∃ j, i < j ∧ j ≤ s.size ∧ (stp (sfx s i)).2 = sfx s j := by
  obtain ⟨c, hc, hb⟩ := sfx_cons s i h
  rw [hc] at hk ⊢
  unfold stp at hk ⊢
  by_cases h1 : isL c.toNat = true
  · simp only [if_pos h1]
    rw [← hc, sfx_dropWhile s isN i (by omega)]
    have := run_pos (p := isN) (c := c) (r := sfx s (i + 1)) (isL_isN h1)
    exact ⟨_, by rw [hc]; omega, run_bound s isN i (by omega), rfl⟩
  · simp only [if_neg h1] at hk ⊢
    by_cases h2 : isD c.toNat = true
    · simp only [if_pos h2]
      obtain ⟨j, e1, e2, e3, _⟩ := numRest_sfx s i (by omega)
      have := run_pos (p := isD) (c := c) (r := sfx s (i + 1)) h2
      rw [← hc] at this ⊢
      exact ⟨j, by omega, e3, e1⟩
    · simp only [if_neg h2] at hk ⊢
      by_cases h3 : isS c.toNat = true
      · simp only [if_pos h3]
        exact ⟨i + 1, by omega, by omega, rfl⟩
      · simp only [if_neg h3] at hk
        exact absurd rfl hk

theorem j2_ev (s : ByteArray) (hs : s.size ≤ 140737488351232) (out : List S35) (ho : out.length < 4398046511104) (i j : Nat) (hj : j ≤ s.size) (b : Bool) (k : Int) (t : ByteArray) (R : List S35 × Int × Int)
    (hR : Ev (fun n => lexer_Split.l0 n s (out ++ [⟨k, t, i⟩]) (at_ s.size (skb false (sfx s j)))) R) :
    Ev (fun n => lexer_Split.j2 n s out i j b k t i) (if b = true then ([], (i : Int), 2) else if k = 2 ∧ bad (sfx s j) = true then ([], (j : Int), 10) else R) := by
  have hbl : Ev (fun n => (lexer_blank.f n s j).bind fun t1 => lexer_Split.l0 n s (out ++ [⟨k, t, i⟩]) t1) R := Ev.bind (blank_ev s hs _ j (Nat.le_refl _) hj) hR
  cases b
  · simp only [Bool.false_eq_true, if_false]
    by_cases hk : k = 2
    · by_cases hlt : j < s.size
      · obtain ⟨c, hc, hb⟩ := sfx_cons s j hlt
        have e46 : c = 46 ↔ (c.toNat : Int) = 46 := byte_eq (n := 46) (by omega)
        have e47 : c = 47 ↔ (c.toNat : Int) = 47 := byte_eq (n := 47) (by omega)
        refine Ev.step (f := fun n => if bad (sfx s j) = true then some (([] : List S35), (j : Int), (10 : Int)) else (lexer_blank.f n s j).bind fun t1 => lexer_Split.l0 n s (out ++ [⟨k, t, i⟩]) t1) (fun n => ?_) ?_
        · simp only [lexer_Split.j2, Bool.false_eq_true, if_false, hk, if_true]
          rw [if_pos (by omega), if_pos (by omega), hb, letter_is, hc]
          simp only [Option.bind_some, bad]
          by_cases hL : isL c.toNat = true
          · simp [hL]
          · have hL' : isL c.toNat = false := by simpa using hL
            simp only [hL', Bool.false_eq_true, if_false, Bool.false_or, decide_eq_true_eq, e46, e47]
            by_cases h1 : (c.toNat : Int) = 46
            · simp [h1]
            · by_cases h2 : (c.toNat : Int) = 47
              · simp [h2]
              · simp only [h1, h2, if_false, or_self]
                rw [if_pos ho]
        · by_cases hbd : bad (sfx s j) = true
          · simp only [hbd, hk, and_self, if_true]; exact Ev.now _
          · simp only [if_neg hbd, if_neg (fun x : k = 2 ∧ bad (sfx s j) = true => hbd x.2)]; exact hbl
      · have hbd : ¬ (k = 2 ∧ bad (sfx s j) = true) := by rw [sfx_end s j (by omega)]; simp [bad]
        rw [if_neg hbd]
        refine Ev.step (fun n => ?_) hbl
        simp only [lexer_Split.j2, Bool.false_eq_true, if_false, hk, if_true]
        rw [if_neg (by omega), if_pos ho]
    · rw [if_neg (fun x => hk x.1)]
      refine Ev.step (fun n => ?_) hbl
      simp only [lexer_Split.j2, Bool.false_eq_true, if_false, hk]
      rw [if_pos ho]
  · simp only [if_true]
    exact Ev.step (f := fun _ => some (([] : List S35), (i : Int), (2 : Int))) (fun n => by simp [lexer_Split.j2]) (Ev.now _)
theorem j1_ev (s : ByteArray) (hs : s.size ≤ 140737488351232) (out : List S35) (ho : out.length ≤ 2048) (i j : Nat) (hj : j ≤ s.size) (k : Int) (t : ByteArray) (R : List S35 × Int × Int)
    (hR : out.length < 2048 → Ev (fun n => lexer_Split.l0 n s (out ++ [⟨k, t, i⟩]) (at_ s.size (skb false (sfx s j)))) R) :
    Ev (fun n => lexer_Split.j1 n s out i j k t i) (if 2048 ≤ out.length ∨ k = 1 ∧ 32 < t.size then ([], (i : Int), 2) else if k = 2 ∧ bad (sfx s j) = true then ([], (j : Int), 10) else R) := by
  by_cases h1 : 2048 ≤ out.length
  · rw [if_pos (.inl h1)]
    refine Ev.step (f := fun n => lexer_Split.j2 n s out i j true k t i) (fun n => ?_) (Ev.step (f := fun _ => some (([] : List S35), (i : Int), (2 : Int))) (fun n => by simp [lexer_Split.j2]) (Ev.now _))
    simp only [lexer_Split.j1]
    rw [if_pos (by omega)]
  · have h2 := j2_ev s hs out (by omega) i j hj
    by_cases hk : k = 1
    · refine Ev.step (f := fun n => lexer_Split.j2 n s out i j (decide ((t.size : Int) > 32)) k t i) (fun n => ?_) ?_
      · simp only [lexer_Split.j1]
        rw [if_neg (by omega), if_pos hk]
      · have := h2 (decide ((t.size : Int) > 32)) k t R (hR (by omega))
        refine Eq.mp ?_ this
        congr 1
        by_cases h3 : 32 < t.size
        · rw [if_pos (by simp; omega), if_pos (.inr ⟨hk, h3⟩)]
        · rw [if_neg (by simp; omega), if_neg (by omega : ¬ (2048 ≤ out.length ∨ k = 1 ∧ 32 < t.size))]
    · refine Ev.step (f := fun n => lexer_Split.j2 n s out i j false k t i) (fun n => ?_) ?_
      · simp only [lexer_Split.j1]
        rw [if_neg (by omega), if_neg hk]
      · have := h2 false k t R (hR (by omega))
        rw [if_neg (by simp [h1, hk])]
        simpa using this

theorem contains_is (c : UInt8) : strings_ContainsRune.f ⟨#[61, 44, 59]⟩ (wrap32 c.toNat) = some (isS c.toNat) := by
  have h := c.toNat_lt
  have hw : wrap32 (c.toNat : Int) = c.toNat := by unfold wrap32; omega
  unfold strings_ContainsRune.f isS
  rw [hw, if_pos ⟨rfl, by omega, by omega⟩]

theorem spl_ev (s : ByteArray) (hs : s.size ≤ 8192) (d : Nat) : ∀ (i f : Nat) (out : List S35), s.size - i ≤ d → i ≤ s.size → d < f → out.length ≤ 2048 →
    Ev (fun k => lexer_Split.l0 k s out i) (spl f s.size out (sfx s i)) := by
  have hs' : s.size ≤ 140737488351232 := by omega
  induction d with
  | zero =>
    intro i f out hd hi hf ho
    obtain ⟨f, rfl⟩ : ∃ m, f = m + 1 := ⟨f - 1, by omega⟩
    unfold spl
    rw [if_pos (sfx_end s i (by omega))]
    refine Ev.step (fun n => ?_) (Ev.now _)
    simp only [lexer_Split.l0]
    rw [if_neg (by omega), if_pos (by omega)]
  | succ d ih =>
    intro i f out hd hi hf ho
    obtain ⟨f, rfl⟩ : ∃ m, f = m + 1 := ⟨f - 1, by omega⟩
    by_cases hlt : i < s.size
    · obtain ⟨c, hc, hb⟩ := sfx_cons s i hlt
      have hne : sfx s i ≠ [] := by rw [hc]; simp
      have hat := at_sfx s i hi
      -- what follows a token
      have next : ∀ j k, i < j → j ≤ s.size → out.length < 2048 → Ev (fun n => lexer_Split.l0 n s (out ++ [⟨k, txt (sfx s i) (sfx s j), i⟩]) (at_ s.size (skb false (sfx s j)))) (spl f s.size (out ++ [⟨k, txt (sfx s i) (sfx s j), i⟩]) (skb false (sfx s j))) := by
        intro j k h1 h2 h3
        obtain ⟨q, q1, q2, q3⟩ := skb_sfx s false _ j rfl h2
        rw [q3, at_sfx s q q2]
        exact ih q f _ (by omega) q2 (by omega) (by simp; omega)
      have hl0 : ∀ n, lexer_Split.l0 (n + 1) s out i = (if isL c.toNat = true then ((lexer_skip_inName.f n s i).bind fun t117 => (if (i : Int) ≤ t117 then (if t117 ≤ (s.size : Int) then ((lexer_word.f (s.extract (i : Int).toNat (t117 : Int).toNat) i).bind fun bt118 => (lexer_Split.j1 n s out i t117 bt118.1 bt118.2.1 bt118.2.2)) else (none)) else (none))) else (if isD c.toNat = true then ((lexer_number.f n s i).bind fun t122 => (if (i : Int) ≤ t122 then (if t122 ≤ (s.size : Int) then (lexer_Split.j1 n s out i t122 2 (s.extract (i : Int).toNat (t122 : Int).toNat) i) else (none)) else (none))) else if isS c.toNat = true then lexer_Split.j1 n s out i ((i + 1 : Nat) : Int) 4 (s.extract i (i + 1)) i else some (([] : List (S35)), (i : Int), 10))) := by
        intro n
        simp only [lexer_Split.l0]
        rw [wrap_at hlt hs', if_pos (by omega), if_pos (by omega), if_pos (by omega), if_pos (by omega), hb, letter_is, digit_is, contains_is]
        simp only [Option.bind_some, Int.toNat_natCast]
      refine Ev.step hl0 ?_
      unfold spl
      rw [if_neg hne, hat]
      by_cases h1 : isL c.toNat = true
      · -- a name or a word
        simp only [if_pos h1]
        have hst : stp (sfx s i) = (if reserved ((sfx s i).takeWhile fun c => isN c.toNat) = true then 3 else 1, sfx s (i + run isN (sfx s i))) := by
          rw [← sfx_dropWhile s isN i hi, hc]; simp only [stp, if_pos h1]
        have hj := run_bound s isN i hi
        have hp := run_pos (p := isN) (c := c) (r := sfx s (i + 1)) (isL_isN h1)
        rw [← hc] at hp
        have htk : (sfx s i).takeWhile (fun c => isN c.toNat) = (txt (sfx s i) (sfx s (i + run isN (sfx s i)))).data.toList := by
          unfold txt; rw [sfx_len, sfx_len, show s.size - i - (s.size - (i + run isN (sfx s i))) = run isN (sfx s i) by omega, take_run]
        rw [hst, htk]
        simp only
        generalize hJ : i + run isN (sfx s i) = j at hj htk
        refine Ev.bind (a := (j : Int)) (hJ ▸ inName_ev s hs' i hi) ?_
        simp only [if_pos (show (i : Int) ≤ (j : Int) by omega), if_pos (show (j : Int) ≤ (s.size : Int) by omega), Int.toNat_natCast, extract_is s i j (by omega) hj]
        simp only [lexer_word.f, reserved_ev, Option.bind_some]
        have hsz := txt_size s i j (by omega) hj
        cases hr : reserved (txt (sfx s i) (sfx s j)).data.toList
        · simp only [Bool.false_eq_true, if_false, Option.bind_some]
          have := j1_ev s hs' out ho i j hj 1 (txt (sfx s i) (sfx s j)) _ (next j 1 (by omega) hj)
          rw [if_neg (by decide)]
          rw [hsz] at this
          rw [sfx_len, sfx_len, show s.size - i - (s.size - j) = j - i by omega]
          rw [at_sfx s j hj]
          simp only [show ((1 : Int) = 1) ↔ True from ⟨fun _ => trivial, fun _ => rfl⟩, true_and] at this ⊢
          exact this
        · simp only [if_true, Option.bind_some]
          have := j1_ev s hs' out ho i j hj 3 (txt (sfx s i) (sfx s j)) _ (next j 3 (by omega) hj)
          rw [if_neg (by decide)]
          simp only [show ((3 : Int) = 1) ↔ False by decide, show ((3 : Int) = 2) ↔ False by decide, false_and, or_false, if_false] at this ⊢
          exact this
      · simp only [if_neg h1]
        by_cases h2 : isD c.toNat = true
        · -- a number
          simp only [if_pos h2]
          obtain ⟨j, e1, e2, e3, e4⟩ := number_ev s hs' i hi
          have hp := run_pos (p := isD) (c := c) (r := sfx s (i + 1)) h2
          rw [← hc] at hp
          have hst : stp (sfx s i) = (2, sfx s j) := by
            rw [← e1, hc]; simp only [stp, if_neg h1, if_pos h2]
          rw [hst]
          simp only
          refine Ev.bind e4 ?_
          simp only [if_pos (show (i : Int) ≤ (j : Int) by omega), if_pos (show (j : Int) ≤ (s.size : Int) by omega), Int.toNat_natCast, extract_is s i j (by omega) e3]
          have := j1_ev s hs' out ho i j e3 2 (txt (sfx s i) (sfx s j)) _ (next j 2 (by omega) e3)
          rw [if_neg (by decide), at_sfx s j e3]
          simp only [show ((2 : Int) = 1) ↔ False by decide, false_and, or_false] at this ⊢
          exact this
        · simp only [if_neg h2]
          by_cases h3 : isS c.toNat = true
          · simp only [if_pos h3]
            have hst : stp (sfx s i) = (4, sfx s (i + 1)) := by
              rw [hc]; simp only [stp, if_neg h1, if_neg h2, if_pos h3]
            rw [hst]
            simp only
            rw [extract_is s i (i + 1) (by omega) (by omega)]
            have := j1_ev s hs' out ho i (i + 1) (by omega) 4 (txt (sfx s i) (sfx s (i + 1))) _ (next (i + 1) 4 (by omega) (by omega))
            rw [if_neg (by decide)]
            simp only [show ((4 : Int) = 1) ↔ False by decide, show ((4 : Int) = 2) ↔ False by decide, false_and, or_false, if_false] at this ⊢
            exact this
          · simp only [if_neg h3]
            have hst : (stp (sfx s i)).1 = 0 := by
              rw [hc]; simp only [stp, if_neg h1, if_neg h2, if_neg h3]
            rw [if_pos hst]
            exact Ev.now _
    · unfold spl
      rw [if_pos (sfx_end s i (by omega))]
      refine Ev.step (fun n => ?_) (Ev.now _)
      simp only [lexer_Split.l0]
      rw [if_neg (by omega), if_pos (by omega)]

theorem split_ev (s : ByteArray) : Ev (fun k => lexer_Split.f k s) (splitS s.data.toList) := by
  unfold lexer_Split.f splitS
  have hl : s.data.toList.length = s.size := by simp
  rw [hl]
  by_cases h : 8192 < s.size
  · simp only [if_pos h, if_pos (show (s.size : Int) > 8192 by omega)]
    exact Ev.now _
  · simp only [if_neg h, if_neg (show ¬ (s.size : Int) > 8192 by omega)]
    refine Ev.bind (blank_ev s (by omega) _ 0 (Nat.le_refl _) (by omega)) ?_
    rw [sfx_zero]
    obtain ⟨q, q1, q2, q3⟩ := skb_sfx s false _ 0 rfl (by omega)
    rw [sfx_zero] at q3
    rw [q3, at_sfx s q q2]
    exact spl_ev s (by omega) s.size q _ [] (by omega) q2 (by omega) (by simp)
end Go.Proofs.Ytffgmmgfofbmlaa.Lex

set_option linter.unusedVariables false
set_option linter.unusedSimpArgs false
namespace Go.Proofs.Ytffgmmgfofbmlaa.Lex
open Go.RowKit Go.Proofs.Ytffgmmgfofbmlaa.PA Go.Proofs.YtffgmmgfofbmlaaW.PrintWords Go.Proofs.YtffgmmgfofbmlaaW.PrintLast

/-! ### the reference's Split comes to the same -/
def tok9 (s : ByteArray) (i : Nat) : Int × ByteArray × Int × Int × Int :=
  if (stp (sfx s i)).1 = 0 then (0, ⟨#[]⟩, 0, i, 10)
  else if (stp (sfx s i)).1 = 1 ∧ 32 < (sfx s i).length - (stp (sfx s i)).2.length then (0, ⟨#[]⟩, 0, i, 2)
  else if (stp (sfx s i)).1 = 2 ∧ bad (stp (sfx s i)).2 = true then (0, ⟨#[]⟩, 0, at_ s.size (stp (sfx s i)).2, 10)
  else ((stp (sfx s i)).1, txt (sfx s i) (stp (sfx s i)).2, i, at_ s.size (stp (sfx s i)).2, 0)

theorem tokL_ev (s : ByteArray) (hs : s.size ≤ 140737488351232) (i0 : Nat) (d : Nat) : ∀ i : Nat, s.size - i ≤ d → i0 ≤ i → i ≤ s.size →
    Ev (fun k => insolvencyref9_token.l0 k s i0 i) (let j := i + run isN (sfx s i); if 32 < j - i0 then (0, ⟨#[]⟩, 0, (i0 : Int), 2) else (if reserved (txt (sfx s i0) (sfx s j)).data.toList = true then 3 else 1, txt (sfx s i0) (sfx s j), (i0 : Int), (j : Int), 0)) := by
  have j3 : ∀ j : Nat, i0 ≤ j → j ≤ s.size → Ev (fun k => insolvencyref9_token.j3 k s i0 j) (if 32 < j - i0 then (0, ⟨#[]⟩, 0, (i0 : Int), 2) else (if reserved (txt (sfx s i0) (sfx s j)).data.toList = true then 3 else 1, txt (sfx s i0) (sfx s j), (i0 : Int), (j : Int), 0)) := by
    intro j h1 h2
    have hw : wrap64 ((j : Int) - (i0 : Int)) = ((j - i0 : Nat) : Int) := by unfold wrap64; omega
    by_cases h3 : 32 < j - i0
    · rw [if_pos h3]
      refine Ev.step (fun n => ?_) (Ev.now _)
      simp only [insolvencyref9_token.j3]
      rw [hw, if_pos (by omega)]
    · rw [if_neg h3]
      refine Ev.step (fun n => ?_) (Ev.now _)
      simp only [insolvencyref9_token.j3]
      rw [hw, if_neg (by omega), if_pos (by omega), if_pos (by omega), if_pos (by omega), reserved9_ev]
      simp only [Option.bind_some, Int.toNat_natCast, extract_is s i0 j h1 h2]
      cases reserved (txt (sfx s i0) (sfx s j)).data.toList <;> simp
  induction d with
  | zero =>
    intro i hd h0 hi
    have hr : run isN (sfx s i) = 0 := by rw [sfx_end s i (by omega)]; rfl
    simp only [hr, Nat.add_zero]
    refine Ev.step (fun n => ?_) (j3 i h0 hi)
    simp only [insolvencyref9_token.l0]
    rw [if_neg (by omega)]
  | succ d ih =>
    intro i hd h0 hi
    by_cases hlt : i < s.size
    · obtain ⟨c, hc, hb⟩ := sfx_cons s i hlt
      refine Ev.step (f := fun n => if isN c.toNat = true then insolvencyref9_token.l0 n s i0 ((i + 1 : Nat) : Int) else insolvencyref9_token.j3 n s i0 i) (fun n => ?_) ?_
      · simp only [insolvencyref9_token.l0]
        rw [if_pos (by omega), if_pos (by omega), hb, within_is, wrap_at hlt hs]
        simp only [Option.bind_some]
      · by_cases h : isN c.toNat = true
        · have hr : i + run isN (sfx s i) = i + 1 + run isN (sfx s (i + 1)) := by
            rw [hc]; simp only [run, List.takeWhile_cons, h, if_true, List.length_cons]; omega
          simp only [hr, if_pos h]
          exact ih (i + 1) (by omega) (by omega) (by omega)
        · have hr : run isN (sfx s i) = 0 := by rw [hc]; exact run_zero (by simpa using h)
          simp only [hr, Nat.add_zero, if_neg h]
          exact j3 i h0 hi
    · have hr : run isN (sfx s i) = 0 := by rw [sfx_end s i (by omega)]; rfl
      simp only [hr, Nat.add_zero]
      refine Ev.step (fun n => ?_) (j3 i h0 hi)
      simp only [insolvencyref9_token.l0]
      rw [if_neg (by omega)]

theorem tokEnd_ev (s : ByteArray) (i j : Nat) (hij : i ≤ j) (hj : j ≤ s.size) (f : Nat → Option (Int × ByteArray × Int × Int × Int))
    (hf : ∀ n, f n = if (j : Int) < (s.size : Int) then (if 0 ≤ (j : Int) then ((insolvencyref9_letter.f (bt s j)).bind fun t163 => (if t163 = true then (some (0, (⟨#[]⟩ : ByteArray), 0, (j : Int), 10)) else (if (bt s j) = 46 then (some (0, (⟨#[]⟩ : ByteArray), 0, (j : Int), 10)) else (if (bt s j) = 47 then (some (0, (⟨#[]⟩ : ByteArray), 0, (j : Int), 10)) else (if 0 ≤ (i : Int) then (if (i : Int) ≤ (j : Int) then (if (j : Int) ≤ (s.size : Int) then (some (2, s.extract (i : Int).toNat (j : Int).toNat, (i : Int), (j : Int), 0)) else (none)) else (none)) else (none)))))) else (none)) else (if 0 ≤ (i : Int) then (if (i : Int) ≤ (j : Int) then (if (j : Int) ≤ (s.size : Int) then (some (2, s.extract (i : Int).toNat (j : Int).toNat, (i : Int), (j : Int), 0)) else (none)) else (none)) else (none))) :
    Ev f (if bad (sfx s j) = true then (0, ⟨#[]⟩, 0, (j : Int), 10) else (2, txt (sfx s i) (sfx s j), (i : Int), (j : Int), 0)) := by
  refine ⟨0, fun n _ => ?_⟩
  rw [hf]
  simp only [if_pos (show (0 : Int) ≤ (i : Int) by omega), if_pos (show (i : Int) ≤ (j : Int) by omega), if_pos (show (j : Int) ≤ (s.size : Int) by omega), Int.toNat_natCast, extract_is s i j hij hj]
  by_cases hlt : j < s.size
  · obtain ⟨c, hc, hb⟩ := sfx_cons s j hlt
    have e46 : c = 46 ↔ (c.toNat : Int) = 46 := byte_eq (n := 46) (by omega)
    have e47 : c = 47 ↔ (c.toNat : Int) = 47 := byte_eq (n := 47) (by omega)
    rw [if_pos (by omega), if_pos (by omega), hb, letter9_is, hc]
    simp only [Option.bind_some, bad]
    by_cases hL : isL c.toNat = true
    · simp [hL]
    · have hL' : isL c.toNat = false := by simpa using hL
      simp only [hL', Bool.false_eq_true, if_false, Bool.false_or, decide_eq_true_eq, e46, e47]
      by_cases h1 : (c.toNat : Int) = 46
      · simp [h1]
      · by_cases h2 : (c.toNat : Int) = 47
        · simp [h2]
        · simp [h1, h2]
  · rw [if_neg (by omega)]
    have : bad (sfx s j) = false := by rw [sfx_end s j (by omega)]; rfl
    simp [this]

theorem run_pos_iff (s : ByteArray) (p : Int → Bool) (i : Nat) (h : i < s.size) : (p (bt s (i : Int)) = true ↔ 0 < run p (sfx s i)) := by
  obtain ⟨c, hc, hb⟩ := sfx_cons s i h
  rw [hb, hc]
  constructor
  · exact fun h => run_pos h
  · intro h2
    cases h3 : p c.toNat
    · rw [run_zero h3] at h2; omega
    · rfl

theorem tokD_ev (s : ByteArray) (hs : s.size ≤ 140737488351232) (i : Nat) (c : UInt8) (hi : i < s.size) (hD : isD c.toNat = true) :
    Ev (fun k => insolvencyref9_token.j0 k s i c.toNat false) (let r := numRest (sfx s i); if bad r = true then (0, ⟨#[]⟩, 0, at_ s.size r, 10) else (2, txt (sfx s i) r, (i : Int), at_ s.size r, 0)) := by
  obtain ⟨j, h1, h2, h3, h4⟩ := numRest_sfx s i (by omega)
  simp only [h1, at_sfx s j h3]
  have hb := run_bound s isD i (by omega)
  have j1f : ∀ e : Nat, i ≤ e → e ≤ s.size → Ev (fun k => insolvencyref9_token.j1 k s i e false) (if bad (sfx s e) = true then (0, ⟨#[]⟩, 0, (e : Int), 10) else (2, txt (sfx s i) (sfx s e), (i : Int), (e : Int), 0)) := by
    intro e a b
    refine Ev.step (f := fun n => insolvencyref9_token.j1 (n + 1) s i e false) (fun n => rfl) ?_
    exact tokEnd_ev s i e a b _ (fun n => by simp only [insolvencyref9_token.j1, Bool.false_eq_true, if_false])
  have j1t : ∀ e : Nat, i ≤ e → e < s.size → Ev (fun k => insolvencyref9_token.j1 k s i e true) (let j := e + 1 + run isD (sfx s (e + 1)); if bad (sfx s j) = true then (0, ⟨#[]⟩, 0, (j : Int), 10) else (2, txt (sfx s i) (sfx s j), (i : Int), (j : Int), 0)) := by
    intro e a b
    refine Ev.step (fun n => by simp only [insolvencyref9_token.j1, if_true, wrap_at b hs]; rfl) ?_
    have hb2 := run_bound s isD (e + 1) (by omega)
    refine Ev.bind (digits9_ev s hs (e + 1) (by omega)) ?_
    exact tokEnd_ev s i _ (by omega) hb2 _ (fun n => rfl)
  refine Ev.step (f := fun n => (insolvencyref9_digits.f n s i).bind fun t159 => (if (wrap64 (t159 + 1)) < (s.size : Int) then (if 0 ≤ t159 then (if t159 < (s.size : Int) then (if (bt s t159) = 46 then (if 0 ≤ (wrap64 (t159 + 1)) then ((insolvencyref9_digit.f (bt s (wrap64 (t159 + 1)))).bind fun t160 => (insolvencyref9_token.j1 n s i t159 t160)) else (none)) else (if (bt s t159) = 47 then (if 0 ≤ (wrap64 (t159 + 1)) then ((insolvencyref9_digit.f (bt s (wrap64 (t159 + 1)))).bind fun t161 => (insolvencyref9_token.j1 n s i t159 t161)) else (none)) else (insolvencyref9_token.j1 n s i t159 false))) else (none)) else (none)) else (insolvencyref9_token.j1 n s i t159 false))) (fun n => ?_) ?_
  · simp only [insolvencyref9_token.j0, Bool.false_eq_true, if_false, digit9_is, hD, Option.bind_some, if_true]
  · refine Ev.bind (digits9_ev s hs i (by omega)) ?_
    have hie : i ≤ i + run isD (sfx s i) := Nat.le_add_right _ _
    generalize i + run isD (sfx s i) = e at hb h2 h4 hie ⊢
    have hw : wrap64 ((e : Int) + 1) = ((e + 1 : Nat) : Int) := by unfold wrap64; omega
    simp only [hw]
    by_cases hlt : e + 1 < s.size
    · simp only [if_pos (show ((e + 1 : Nat) : Int) < (s.size : Int) by omega), if_pos (show (0 : Int) ≤ (e : Int) by omega), if_pos (show (e : Int) < (s.size : Int) by omega), if_pos (show (0 : Int) ≤ ((e + 1 : Nat) : Int) by omega), digit9_is, Option.bind_some]
      have hd := run_pos_iff s isD (e + 1) hlt
      by_cases h5 : bt s e = 46 ∨ bt s e = 47
      · have key : Ev (fun n => insolvencyref9_token.j1 n s i e (isD (bt s ((e + 1 : Nat) : Int)))) (if bad (sfx s j) = true then (0, ⟨#[]⟩, 0, (j : Int), 10) else (2, txt (sfx s i) (sfx s j), (i : Int), (j : Int), 0)) := by
          cases h6 : isD (bt s ((e + 1 : Nat) : Int))
          · have hj : j = e := by
              rcases h4 with ⟨_, _, h7, _⟩ | ⟨_, h7⟩
              · rw [← hd, h6] at h7; cases h7
              · exact h7
            rw [hj]
            exact j1f e hie (by omega)
          · have hj : j = e + 1 + run isD (sfx s (e + 1)) := by
              rcases h4 with ⟨_, _, _, h7⟩ | ⟨h7, _⟩
              · exact h7
              · exact absurd ⟨by omega, h5, hd.1 h6⟩ h7
            rw [hj]
            exact j1t e hie (by omega)
        by_cases h46 : bt s e = 46
        · simp only [if_pos h46]; exact key
        · simp only [if_neg h46, if_pos (h5.resolve_left h46)]; exact key
      · have hj : j = e := by
          rcases h4 with ⟨_, h7, _⟩ | ⟨_, h7⟩
          · exact absurd h7 h5
          · exact h7
        simp only [if_neg (fun x => h5 (.inl x)), if_neg (fun x => h5 (.inr x))]
        rw [hj]
        exact j1f e hie (by omega)
    · simp only [if_neg (show ¬ ((e + 1 : Nat) : Int) < (s.size : Int) by omega)]
      have hj : j = e := by
        rcases h4 with ⟨_, _, h7, _⟩ | ⟨_, h7⟩
        · rw [sfx_end s (e + 1) (by omega)] at h7; simp [run] at h7
        · exact h7
      rw [hj]
      exact j1f e hie hb

theorem tok9_ev (s : ByteArray) (hs : s.size ≤ 140737488351232) (i : Nat) (hi : i < s.size) : Ev (fun k => insolvencyref9_token.f k s i) (tok9 s i) := by
  obtain ⟨c, hc, hb⟩ := sfx_cons s i hi
  have e61 : isS c.toNat = true ↔ ((c.toNat : Int) = 61 ∨ (c.toNat : Int) = 44 ∨ (c.toNat : Int) = 59) := by simp [isS]
  have hF : ∀ n, insolvencyref9_token.f n s i = insolvencyref9_token.j0 n s i c.toNat (isS c.toNat) := by
    intro n
    unfold insolvencyref9_token.f
    rw [if_pos (by omega), if_pos (by omega), hb]
    by_cases h1 : (c.toNat : Int) = 61
    · rw [if_pos h1, e61.2 (.inl h1)]
    · rw [if_neg h1]
      by_cases h2 : (c.toNat : Int) = 44
      · rw [if_pos h2, e61.2 (.inr (.inl h2))]
      · rw [if_neg h2]
        by_cases h3 : (c.toNat : Int) = 59
        · rw [e61.2 (.inr (.inr h3)), h3]; rfl
        · have : isS c.toNat = false := by
            cases h : isS c.toNat
            · rfl
            · exact absurd (e61.1 h) (by omega)
          have h3' : ((c.toNat : Int) == 59) = false := beq_eq_false_iff_ne.2 h3
          rw [this, h3']
  refine Ev.congr hF ?_
  unfold tok9
  cases h3 : isS c.toNat
  · by_cases h2 : isD c.toNat = true
    · have h1 : ¬ isL c.toNat = true := fun h => by rw [not_both h] at h2; cases h2
      have hst : stp (sfx s i) = (2, numRest (sfx s i)) := by rw [hc]; simp only [stp, if_neg h1, if_pos h2]
      rw [hst]
      simp only [show ((2 : Int) = 0) ↔ False by decide, show ((2 : Int) = 1) ↔ False by decide, false_and, if_false, show ((2 : Int) = 2) ↔ True by decide, true_and]
      exact tokD_ev s hs i c hi h2
    · by_cases h1 : isL c.toNat = true
      · have hst : stp (sfx s i) = (if reserved ((sfx s i).takeWhile fun c => isN c.toNat) = true then 3 else 1, sfx s (i + run isN (sfx s i))) := by
          rw [← sfx_dropWhile s isN i (by omega), hc]; simp only [stp, if_pos h1]
        have hj := run_bound s isN i (by omega)
        have htk : (sfx s i).takeWhile (fun c => isN c.toNat) = (txt (sfx s i) (sfx s (i + run isN (sfx s i)))).data.toList := by
          unfold txt; rw [sfx_len, sfx_len, show s.size - i - (s.size - (i + run isN (sfx s i))) = run isN (sfx s i) by omega, take_run]
        have hsz := txt_size s i (i + run isN (sfx s i)) (by omega) hj
        have main := tokL_ev s hs i (s.size - i) i (Nat.le_refl _) (Nat.le_refl _) (by omega)
        refine Ev.step (f := fun n => insolvencyref9_token.l0 n s i i) (fun n => ?_) ?_
        · simp only [insolvencyref9_token.j0, Bool.false_eq_true, if_false, digit9_is, h2, Option.bind_some, letter9_is, h1, if_true]
        · refine Eq.mp ?_ main
          congr 1
          rw [hst, htk]
          simp only
          generalize i + run isN (sfx s i) = j at hj hsz
          rw [at_sfx s j hj, sfx_len, sfx_len, show s.size - i - (s.size - j) = j - i by omega]
          cases hr : reserved (txt (sfx s i) (sfx s j)).data.toList
          · simp
          · have hle := reserved_len hr
            have : (txt (sfx s i) (sfx s j)).data.toList.length = (txt (sfx s i) (sfx s j)).size := by simp
            rw [this, hsz] at hle
            simp [show ¬ 32 < j - i by omega]
      · have hst : (stp (sfx s i)).1 = 0 := by rw [hc]; simp [stp, h1, h2, h3]
        rw [if_pos hst]
        refine Ev.step (fun n => ?_) (Ev.now _)
        simp only [insolvencyref9_token.j0, Bool.false_eq_true, if_false, digit9_is, h2, Option.bind_some, letter9_is, h1]
  · have hn := sign_not h3
    have hst : stp (sfx s i) = (4, sfx s (i + 1)) := by rw [hc]; simp only [stp, hn.1, hn.2, h3, Bool.false_eq_true, if_false, if_true]
    rw [hst]
    simp only [show ((4 : Int) = 0) ↔ False by decide, show ((4 : Int) = 1) ↔ False by decide, show ((4 : Int) = 2) ↔ False by decide, false_and, if_false]
    rw [at_sfx s (i + 1) (by omega)]
    refine Ev.step (fun n => ?_) (Ev.now _)
    simp only [insolvencyref9_token.j0, if_true, wrap_at hi hs]
    rw [if_pos (by omega), if_pos (by omega), if_pos (by omega)]
    simp only [Int.toNat_natCast, extract_is s i (i + 1) (by omega) (by omega)]

theorem spl9_ev (s : ByteArray) (hs : s.size ≤ 8192) (d : Nat) : ∀ (i f : Nat) (out : List S35), s.size - i ≤ d → i ≤ s.size → d < f → out.length ≤ 2048 →
    Ev (fun k => insolvencyref9_Split.l0 k s out i) (spl f s.size out (skb false (sfx s i))) ∧ Ev (fun k => insolvencyref9_Split.l1 k s out i) (spl f s.size out (skb true (sfx s i))) := by
  have hs' : s.size ≤ 140737488351232 := by omega
  have hend : ∀ (i f : Nat) (out : List S35), s.size ≤ i → i ≤ s.size → 0 < f → out.length ≤ 2048 →
      Ev (fun k => insolvencyref9_Split.l0 k s out i) (spl f s.size out (skb false (sfx s i))) ∧ Ev (fun k => insolvencyref9_Split.l1 k s out i) (spl f s.size out (skb true (sfx s i))) := by
    intro i f out h1 h2 hf ho
    obtain ⟨f, rfl⟩ : ∃ m, f = m + 1 := ⟨f - 1, by omega⟩
    rw [sfx_end s i h1]
    have h0 : Ev (fun k => insolvencyref9_Split.l0 k s out i) (out ++ [⟨5, ⟨#[]⟩, (s.size : Int)⟩], 0, 0) := by
      refine Ev.step (fun n => ?_) (Ev.now _)
      simp only [insolvencyref9_Split.l0]
      rw [if_neg (by omega), if_pos (by omega)]
    simp only [skb, spl, if_true]
    refine ⟨h0, Ev.step (fun n => ?_) h0⟩
    simp only [insolvencyref9_Split.l1]
    rw [if_neg (by omega)]
  induction d with
  | zero =>
    intro i f out hd hi hf ho
    exact hend i f out (by omega) hi hf ho
  | succ d ih =>
    intro i f out hd hi hf ho
    by_cases hlt : i < s.size
    · obtain ⟨c, hc, hb⟩ := sfx_cons s i hlt
      have e35 : c = 35 ↔ (c.toNat : Int) = 35 := byte_eq (n := 35) (by omega)
      have e10 : c = 10 ↔ (c.toNat : Int) = 10 := byte_eq (n := 10) (by omega)
      have hn := ih (i + 1) f out (by omega) (by omega) (by omega) ho
      have l1step : ∀ n, insolvencyref9_Split.l1 (n + 1) s out i = if c = 10 then insolvencyref9_Split.l0 n s out i else insolvencyref9_Split.l1 n s out ((i + 1 : Nat) : Int) := by
        intro n
        simp only [insolvencyref9_Split.l1]
        rw [if_pos (by omega), if_pos (by omega), hb, wrap_at hlt hs']
        simp only [e10]
      have h0 : Ev (fun k => insolvencyref9_Split.l0 k s out i) (spl f s.size out (skb false (sfx s i))) := by
        have l0step : ∀ n, insolvencyref9_Split.l0 (n + 1) s out i = (if isB c.toNat = true then insolvencyref9_Split.l0 n s out ((i + 1 : Nat) : Int) else if c = 35 then insolvencyref9_Split.l1 n s out i else ((insolvencyref9_token.f n s i).bind fun bt173 => (if bt173.2.2.2.2 = 0 then (if (out.length : Int) ≥ 2048 then (some (([] : List (S35)), (i : Int), 2)) else (insolvencyref9_Split.l0 n s (out ++ [(⟨bt173.1, bt173.2.1, bt173.2.2.1⟩ : S35)]) bt173.2.2.2.1)) else (if (out.length : Int) ≥ 2048 then (insolvencyref9_Split.j2 n i bt173.2.2.2.1 bt173.2.2.2.2 (decide (bt173.2.2.2.1 > (i : Int)))) else (insolvencyref9_Split.j2 n i bt173.2.2.2.1 bt173.2.2.2.2 false))))) := by
          intro n
          simp only [insolvencyref9_Split.l0]
          rw [if_pos (by omega), if_pos (by omega), hb, blank9_is, wrap_at hlt hs']
          simp only [Option.bind_some, e35, if_pos (show out.length < 4398046511104 by omega)]
        refine Ev.step l0step ?_
        rw [hc]
        unfold skb
        by_cases h1 : isB c.toNat = true
        · simp only [if_pos h1]; exact hn.1
        · simp only [if_neg h1]
          by_cases h2 : c = 35
          · simp only [if_pos h2]
            refine Ev.step l1step ?_
            simp only [if_neg (show ¬ c = 10 from fun e => by rw [e] at h2; cases h2)]
            exact hn.2
          · simp only [if_neg h2]
            rw [← hc]
            refine Ev.bind (tok9_ev s hs' i hlt) ?_
            obtain ⟨f, rfl⟩ : ∃ m, f = m + 1 := ⟨f - 1, by omega⟩
            unfold spl tok9
            have hne : sfx s i ≠ [] := by rw [hc]; simp
            rw [if_neg hne, at_sfx s i hi]
            have j2f : ∀ (x y : Int), Ev (fun n => insolvencyref9_Split.j2 n i x y false) ([], x, y) := fun x y => Ev.step (f := fun _ => some (([] : List S35), x, y)) (fun n => by simp [insolvencyref9_Split.j2]) (Ev.now _)
            have j2t : ∀ (x y : Int), Ev (fun n => insolvencyref9_Split.j2 n i x y true) ([], (i : Int), 2) := fun x y => Ev.step (f := fun _ => some (([] : List S35), (i : Int), (2 : Int))) (fun n => by simp [insolvencyref9_Split.j2]) (Ev.now _)
            by_cases k0 : (stp (sfx s i)).1 = 0
            · simp only [if_pos k0, show ((10 : Int) = 0) ↔ False by decide, if_false, show ((i : Int) > (i : Int)) ↔ False from ⟨fun h => absurd h (by omega), False.elim⟩, decide_false, ite_self]
              exact j2f _ _
            · simp only [if_neg k0]
              obtain ⟨j, g1, g2, g3⟩ := stp_sfx s i hlt k0
              by_cases k1 : (stp (sfx s i)).1 = 1 ∧ 32 < (sfx s i).length - (stp (sfx s i)).2.length
              · simp only [if_pos k1, if_pos (Or.inr k1 : 2048 ≤ out.length ∨ _), show ((2 : Int) = 0) ↔ False by decide, if_false, show ((i : Int) > (i : Int)) ↔ False from ⟨fun h => absurd h (by omega), False.elim⟩, decide_false, ite_self]
                exact j2f _ _
              · simp only [if_neg k1]
                by_cases ko : 2048 ≤ out.length
                · simp only [if_pos (show (out.length : Int) ≥ 2048 by omega), if_pos (Or.inl ko : 2048 ≤ out.length ∨ _)]
                  by_cases k2 : (stp (sfx s i)).1 = 2 ∧ bad (stp (sfx s i)).2 = true
                  · simp only [if_pos k2, show ((10 : Int) = 0) ↔ False by decide, if_false]
                    rw [g3, at_sfx s j g2, show decide ((j : Int) > (i : Int)) = true by simp; omega]
                    exact j2t _ _
                  · simp only [if_neg k2, if_true]
                    exact Ev.now _
                · simp only [if_neg (show ¬ (out.length : Int) ≥ 2048 by omega), if_neg (show ¬ (2048 ≤ out.length ∨ (stp (sfx s i)).1 = 1 ∧ 32 < (sfx s i).length - (stp (sfx s i)).2.length) from fun x => x.elim ko k1)]
                  by_cases k2 : (stp (sfx s i)).1 = 2 ∧ bad (stp (sfx s i)).2 = true
                  · simp only [if_pos k2, show ((10 : Int) = 0) ↔ False by decide, if_false]
                    exact j2f _ _
                  · simp only [if_neg k2, if_true]
                    rw [g3, at_sfx s j g2]
                    exact (ih j f _ (by omega) g2 (by omega) (by simp; omega)).1
      refine ⟨h0, Ev.step l1step ?_⟩
      rw [hc] at h0 ⊢
      by_cases h1 : c = 10
      · simp only [if_pos h1]
        have : skb true (c :: sfx s (i + 1)) = skb false (c :: sfx s (i + 1)) := by subst h1; simp [skb, isB]
        rw [this]
        exact h0
      · simp only [if_neg h1]
        have : skb true (c :: sfx s (i + 1)) = skb true (sfx s (i + 1)) := by simp only [skb, if_neg h1]
        rw [this]
        exact hn.2
    · exact hend i f out (by omega) hi (by omega) ho

theorem split9_ev (s : ByteArray) : Ev (fun k => insolvencyref9_Split.f k s) (splitS s.data.toList) := by
  unfold insolvencyref9_Split.f splitS
  have hl : s.data.toList.length = s.size := by simp
  rw [hl]
  by_cases h : 8192 < s.size
  · simp only [if_pos h, if_pos (show (s.size : Int) > 8192 by omega)]
    exact Ev.now _
  · simp only [if_neg h, if_neg (show ¬ (s.size : Int) > 8192 by omega)]
    have := (spl9_ev s (by omega) s.size 0 (s.size + 1) [] (by omega) (by omega) (by omega) (by simp)).1
    rw [sfx_zero] at this
    exact this

theorem same_refl (l : List S35) (hl : l.length ≤ 4398046511104) (d : Nat) : ∀ i : Nat, l.length - i ≤ d → i ≤ l.length → Ev (fun k => insolvencyref9_SameTokens.l0 k l l i) true := by
  induction d with
  | zero =>
    intro i hd hi
    refine Ev.step (fun n => ?_) (Ev.now _)
    simp only [insolvencyref9_SameTokens.l0]
    rw [if_neg (by omega)]
  | succ d ih =>
    intro i hd hi
    by_cases hlt : i < l.length
    · refine Ev.step (fun n => ?_) (ih (i + 1) (by omega) (by omega))
      simp only [insolvencyref9_SameTokens.l0]
      rw [if_pos (by omega), if_pos (by omega), if_pos (by omega), wrap_at hlt (by omega)]
      simp
    · refine Ev.step (fun n => ?_) (Ev.now _)
      simp only [insolvencyref9_SameTokens.l0]
      rw [if_neg (by omega)]
theorem same_ev (l : List S35) (hl : l.length ≤ 4398046511104) : Ev (fun k => insolvencyref9_SameTokens.f k l l) true := by
  unfold insolvencyref9_SameTokens.f
  simp only [if_true]
  exact same_refl l hl _ 0 (Nat.le_refl _) (by omega)
theorem spl_count : ∀ (f n : Nat) (out : List S35) (l : List UInt8), out.length ≤ 2048 → (spl f n out l).1.length ≤ 2049
  | 0, _, _, _, _ => by simp [spl]
  | f + 1, n, out, l, ho => by
    unfold spl
    split
    · simp; omega
    · split
      · simp
      · split
        · simp
        · rename_i h
          split
          · simp
          · exact spl_count f n _ _ (by simp; omega)
theorem splitS_count (l : List UInt8) : (splitS l).1.length ≤ 2049 := by
  unfold splitS
  split
  · simp
  · exact spl_count _ _ _ _ (by simp)
end Go.Proofs.Ytffgmmgfofbmlaa.Lex

set_option linter.unusedVariables false
set_option linter.unusedSimpArgs false
namespace Go.Proofs.Ytffgmmgfofbmlaa.Lex
open Go.RowKit Go.Proofs.Ytffgmmgfofbmlaa.PA Go.Proofs.YtffgmmgfofbmlaaW.PrintWords Go.Proofs.YtffgmmgfofbmlaaW.PrintLast

theorem awake_one : splitS [97, 32, 98, 101, 102, 111, 114, 101, 32, 98, 50, 59, 32, 35, 32, 114, 101, 115, 116] = ([⟨1, ⟨#[97]⟩, 0⟩, ⟨3, ⟨#[98, 101, 102, 111, 114, 101]⟩, 2⟩, ⟨1, ⟨#[98, 50]⟩, 9⟩, ⟨4, ⟨#[59]⟩, 11⟩, ⟨5, ⟨#[]⟩, 19⟩], 0, 0) := by rfl
theorem awake_two : splitS [49, 46, 53, 46, 50] = ([], 3, 10) := by rfl
theorem awake_ev : Ev (fun k => insolvencylaw11_awake.f k) true := by
  unfold insolvencylaw11_awake.f
  refine Ev.bind (split_ev _) ?_
  refine Ev.bind (split_ev _) ?_
  simp only [awake_one, awake_two]
  refine ⟨0, fun k _ => ?_⟩
  simp [rd_T35, toList_data]
theorem pieces_ev (l : List Int) (hl : ∀ x ∈ l, (Lit.int .u8 x).wf = true) : ∃ s : ByteArray, s.size ≤ 660 ∧ Ev (fun k => insolvencylaw11_pieces.f k l) s := by
  have step : ∀ (d i : Nat) (s : ByteArray), 60 - i ≤ d → i ≤ 60 → s.size ≤ 11 * i → ∃ r : ByteArray, r.size ≤ 660 ∧ Ev (fun k => insolvencylaw11_pieces.l0 k l s i) r := by
    intro d
    induction d with
    | zero =>
      intro i s hd hi hs
      refine ⟨s, by omega, Ev.step (f := fun _ => some s) (fun n => ?_) (Ev.now _)⟩
      simp only [insolvencylaw11_pieces.l0]
      rw [if_neg (show ¬ (i : Int) < 60 by omega)]
      simp
    | succ d ih =>
      intro i s hd hi hs
      by_cases h1 : i < l.length
      · by_cases h2 : i < 60
        · obtain ⟨p, hp, hps⟩ : ∃ p : ByteArray, p.size ≤ 11 ∧ ∀ n, insolvencylaw11_pieces.l0 (n + 1) l s i = insolvencylaw11_pieces.l0 n l (s ++ p) ((i + 1 : Nat) : Int) := by
            have hx := hl (rd l i) (by unfold rd; simp only [Int.toNat_natCast]; rw [List.getD_eq_getElem?_getD, List.getElem?_eq_getElem h1]; exact List.getElem_mem _)
            have hb : 0 ≤ rd l i ∧ rd l i < 256 := by
              have hx2 : IntKind.u8.min ≤ rd l i ∧ rd l i ≤ IntKind.u8.max := by simpa [Lit.wf] using hx
              have e1 : IntKind.u8.min = 0 := rfl
              have e2 : IntKind.u8.max = 255 := rfl
              omega
            have hm : Int.tmod (rd l i) 23 = rd l i % 23 := Int.tmod_eq_emod_of_nonneg hb.1
            have key : ∀ (ys : List ByteArray), ys.length = 23 → (∀ y ∈ ys, y.size ≤ 11) → (rdOf ByteArray.empty ys (Int.tmod (rd l i) 23)).size ≤ 11 ∧ Int.tmod (rd l i) 23 < (ys.length : Int) ∧ 0 ≤ Int.tmod (rd l i) 23 := by
              intro ys h3 h4
              refine ⟨?_, by rw [hm, h3]; omega, by rw [hm]; omega⟩
              unfold rdOf
              rw [List.getD_eq_getElem?_getD, List.getElem?_eq_getElem (by rw [h3, hm]; omega)]
              exact h4 _ (List.getElem_mem _)
            generalize hY : ([(⟨#[99, 108, 97, 115, 115]⟩ : ByteArray), (⟨#[98, 101, 102, 111, 114, 101]⟩ : ByteArray), (⟨#[108, 105, 109, 105, 116]⟩ : ByteArray), (⟨#[115, 117, 98, 111, 114, 100, 105, 110, 97, 116, 101]⟩ : ByteArray), (⟨#[97]⟩ : ByteArray), (⟨#[98, 45, 49]⟩ : ByteArray), (⟨#[99, 95, 50]⟩ : ByteArray), (⟨#[49, 50]⟩ : ByteArray), (⟨#[51, 46, 53]⟩ : ByteArray), (⟨#[55, 47, 50]⟩ : ByteArray), (⟨#[48]⟩ : ByteArray), (⟨#[61]⟩ : ByteArray), (⟨#[44]⟩ : ByteArray), (⟨#[59]⟩ : ByteArray), (⟨#[32]⟩ : ByteArray), (⟨#[32]⟩ : ByteArray), (⟨#[10]⟩ : ByteArray), (⟨#[9]⟩ : ByteArray), (⟨#[35, 120]⟩ : ByteArray), (⟨#[46]⟩ : ByteArray), (⟨#[47]⟩ : ByteArray), (⟨#[45]⟩ : ByteArray), (⟨#[99, 108, 97, 115, 115, 121]⟩ : ByteArray)] : List ByteArray) = Y
            have hY1 : Y.length = 23 := by rw [← hY]; rfl
            have hY2 : ∀ y ∈ Y, y.size ≤ 11 := by
              rw [← hY]
              intro y hy
              simp only [List.mem_cons, List.not_mem_nil, or_false] at hy
              rcases hy with rfl | rfl | rfl | rfl | rfl | rfl | rfl | rfl | rfl | rfl | rfl | rfl | rfl | rfl | rfl | rfl | rfl | rfl | rfl | rfl | rfl | rfl | rfl <;> decide
            obtain ⟨q1, q2, q3⟩ := key Y hY1 hY2
            refine ⟨_, q1, fun n => ?_⟩
            simp only [insolvencylaw11_pieces.l0]
            rw [hY]
            simp only [Option.bind_some]
            rw [if_pos (by omega), if_pos (by omega), if_pos (by omega), if_pos q3, if_pos q2, if_pos (by omega)]
            rw [show wrap64 ((i : Int) + 1) = ((i + 1 : Nat) : Int) by unfold wrap64; omega]
          obtain ⟨r, hr, he⟩ := ih (i + 1) (s ++ p) (by omega) (by omega) (by rw [ByteArray.size_append]; omega)
          exact ⟨r, hr, Ev.step hps he⟩
        · refine ⟨s, by omega, Ev.step (f := fun _ => some s) (fun n => ?_) (Ev.now _)⟩
          simp only [insolvencylaw11_pieces.l0]
          rw [if_neg (show ¬ (i : Int) < 60 by omega)]
          simp
      · refine ⟨s, by omega, Ev.step (f := fun _ => some s) (fun n => ?_) (Ev.now _)⟩
        simp only [insolvencylaw11_pieces.l0]
        rw [if_neg (by omega)]
  exact step 60 0 ⟨#[]⟩ (by omega) (by omega) (Nat.le_refl 0)
end Go.Proofs.Ytffgmmgfofbmlaa.Lex

set_option linter.unusedVariables false
set_option linter.unusedSimpArgs false
namespace Go.Proofs.Ytffgmmgfofbmlaa.Lex
open Go.RowKit Go.Proofs.Ytffgmmgfofbmlaa.PA Go.Proofs.YtffgmmgfofbmlaaW.PrintWords Go.Proofs.YtffgmmgfofbmlaaW.PrintLast

/-! ### tokens cover the text in order -/
def Cov (s : ByteArray) : Nat → List S35 → Prop
  | _, [] => False
  | e, [t] => t.f0 = 5 ∧ t.f1 = ⟨#[]⟩ ∧ t.f2 = s.size ∧ e ≤ s.size
  | e, t :: u :: r => t.f0 ≠ 5 ∧ ∃ a b : Nat, e ≤ a ∧ a ≤ b ∧ b ≤ s.size ∧ t.f2 = a ∧ t.f1 = s.extract a b ∧ Cov s b (u :: r)
theorem cov_ne {s : ByteArray} {e : Nat} {ts : List S35} (h : Cov s e ts) : ts ≠ [] := by
  rintro rfl; exact h
theorem stp_kind (l : List UInt8) : (stp l).1 = 0 ∨ (stp l).1 = 1 ∨ (stp l).1 = 2 ∨ (stp l).1 = 3 ∨ (stp l).1 = 4 := by
  unfold stp
  split
  · simp
  · split
    · simp only; split <;> simp
    · split
      · simp
      · split <;> simp
theorem spl_cov (s : ByteArray) : ∀ (f : Nat) (out : List S35) (i e : Nat), e ≤ i → i ≤ s.size → (spl f s.size out (sfx s i)).2.2 = 0 → ∃ ts, (spl f s.size out (sfx s i)).1 = out ++ ts ∧ Cov s e ts
  | 0, out, i, e, _, _, h => by simp [spl] at h
  | f + 1, out, i, e, he, hi, h => by
    unfold spl at h ⊢
    by_cases h0 : sfx s i = []
    · rw [if_pos h0]
      exact ⟨_, rfl, rfl, rfl, rfl, by omega⟩
    · rw [if_neg h0] at h ⊢
      by_cases h1 : (stp (sfx s i)).1 = 0
      · rw [if_pos h1] at h; simp at h
      · rw [if_neg h1] at h ⊢
        have hlt : i < s.size := by
          rcases Nat.lt_or_ge i s.size with h | h
          · exact h
          · exact absurd (sfx_end s i h) h0
        obtain ⟨j, g1, g2, g3⟩ := stp_sfx s i hlt h1
        split at h
        · simp at h
        · rename_i h2
          rw [if_neg h2]
          split at h
          · simp at h
          · rename_i h3
            rw [if_neg h3]
            rw [g3] at h ⊢
            obtain ⟨q, q1, q2, q3⟩ := skb_sfx s false _ j rfl g2
            rw [q3] at h ⊢
            obtain ⟨ts, e1, e2⟩ := spl_cov s f _ q j q1 q2 h
            refine ⟨_ :: ts, by rw [e1, List.append_assoc]; rfl, ?_⟩
            obtain ⟨u, r, rfl⟩ : ∃ u r, ts = u :: r := by
              cases ts with
              | nil => exact absurd rfl (cov_ne e2)
              | cons u r => exact ⟨u, r, rfl⟩
            refine ⟨?_, i, j, he, by omega, g2, at_sfx s i hi, (extract_is s i j (by omega) g2).symm, e2⟩
            have := stp_kind (sfx s i)
            simp only
            omega
theorem splitS_cov (s : ByteArray) (h : (splitS s.data.toList).2.2 = 0) : Cov s 0 (splitS s.data.toList).1 := by
  unfold splitS at h ⊢
  split at h
  · simp at h
  · rename_i hn
    rw [if_neg hn]
    have hl : s.data.toList.length = s.size := by simp
    rw [hl] at h ⊢
    obtain ⟨q, q1, q2, q3⟩ := skb_sfx s false _ 0 rfl (by omega)
    rw [sfx_zero] at q3
    rw [q3] at h ⊢
    obtain ⟨ts, e1, e2⟩ := spl_cov s _ [] q 0 (by omega) q2 h
    rw [e1]
    exact e2
theorem cov_last {s : ByteArray} : ∀ (ts : List S35) (e : Nat), Cov s e ts → ∀ d, (ts.getD (ts.length - 1) d).f2 = s.size
  | [], _, h, _ => h.elim
  | [t], _, h, _ => h.2.2.1
  | t :: u :: r, e, h, d => by
    obtain ⟨_, a, b, _, _, _, _, _, h2⟩ := h
    have := cov_last (u :: r) b h2 d
    simpa using this

/-! ### tokens written with spaces between them -/
def tx (t : S35) : List UInt8 := t.f1.data.toList
def rep : List S35 → List UInt8
  | [] => []
  | t :: r => tx t ++ 32 :: rep r
structure Good (k : Int) (w : List UInt8) : Prop where
  again : ∀ more, stp (w ++ 32 :: more) = (k, 32 :: more)
  first : ∀ more, skb false (w ++ 32 :: more) = w ++ 32 :: more
  ne : w ≠ []
  kind : k ≠ 0
theorem good_first {c : UInt8} {r : List UInt8} (h : isB c.toNat = false) (h2 : c ≠ 35) (more : List UInt8) : skb false ((c :: r) ++ 32 :: more) = (c :: r) ++ 32 :: more := by
  simp [skb, h, h2]
theorem letter_first {c : UInt8} (h : isL c.toNat = true) : isB c.toNat = false ∧ c ≠ 35 := by
  have e35 : c = 35 ↔ (c.toNat : Int) = 35 := byte_eq (n := 35) (by omega)
  unfold isL at h; unfold isB
  simp at h
  constructor
  · simp; omega
  · rw [ne_eq, e35]; omega
theorem digit_first {c : UInt8} (h : isD c.toNat = true) : isB c.toNat = false ∧ c ≠ 35 := by
  have e35 : c = 35 ↔ (c.toNat : Int) = 35 := byte_eq (n := 35) (by omega)
  unfold isD at h; unfold isB
  simp at h
  constructor
  · simp; omega
  · rw [ne_eq, e35]; omega
theorem sign_first {c : UInt8} (h : isS c.toNat = true) : isB c.toNat = false ∧ c ≠ 35 := by
  have e35 : c = 35 ↔ (c.toNat : Int) = 35 := byte_eq (n := 35) (by omega)
  unfold isS at h; unfold isB
  simp at h
  constructor
  · simp; omega
  · rw [ne_eq, e35]; omega
theorem all_takeWhile (p : UInt8 → Bool) : ∀ l : List UInt8, ∀ c ∈ l.takeWhile p, p c = true
  | [], c, h => by simp at h
  | a :: r, c, h => by
    rw [List.takeWhile_cons] at h
    split at h
    · rename_i ha
      rcases List.mem_cons.1 h with rfl | h
      · exact ha
      · exact all_takeWhile p r c h
    · simp at h
theorem take_sub {w r : List UInt8} : (w ++ r).take ((w ++ r).length - r.length) = w := by
  rw [List.length_append, Nat.add_sub_cancel]; simp
theorem numRest_space (ds : List UInt8) (hds : ∀ c ∈ ds, isD c.toNat = true) (more : List UInt8) : numRest (ds ++ 32 :: more) = 32 :: more := by
  unfold numRest
  rw [List.dropWhile_append_of_pos hds]
  have : (32 :: more).dropWhile (fun c : UInt8 => isD c.toNat) = 32 :: more := by rw [List.dropWhile_cons]; simp [isD]
  rw [this]
  cases more with
  | nil => rfl
  | cons d r => simp
theorem numRest_frac (ds es : List UInt8) (c : UInt8) (hc : c = 46 ∨ c = 47) (hds : ∀ c ∈ ds, isD c.toNat = true) (hes : ∀ c ∈ es, isD c.toNat = true) (hne : es ≠ []) (more : List UInt8) : numRest (ds ++ c :: es ++ 32 :: more) = 32 :: more := by
  unfold numRest
  rw [List.append_assoc, List.dropWhile_append_of_pos hds]
  have hcd : isD c.toNat = false := by rcases hc with rfl | rfl <;> decide
  have e1 : (c :: es ++ 32 :: more).dropWhile (fun c : UInt8 => isD c.toNat) = c :: (es ++ 32 :: more) := by rw [List.cons_append, List.dropWhile_cons]; simp [hcd]
  rw [e1]
  obtain ⟨d, es', rfl⟩ : ∃ d r, es = d :: r := by
    cases es with
    | nil => exact absurd rfl hne
    | cons d r => exact ⟨d, r, rfl⟩
  have hd := hes d (by simp)
  simp only [List.cons_append]
  rw [if_pos ⟨hc, hd⟩, ← List.cons_append, List.dropWhile_append_of_pos hes]
  rw [List.dropWhile_cons]; simp [isD]
theorem numRest_parts (l : List UInt8) (hd : ∃ c r, l = c :: r ∧ isD c.toNat = true) : ∃ w, l = w ++ numRest l ∧ w ≠ [] ∧ (∃ c r, w = c :: r ∧ isD c.toNat = true) ∧ ∀ more, numRest (w ++ 32 :: more) = 32 :: more := by
  obtain ⟨c0, r0, rfl, hc0⟩ := hd
  have hsp := List.takeWhile_append_dropWhile (p := fun c : UInt8 => isD c.toNat) (l := c0 :: r0)
  have hall := all_takeWhile (fun c : UInt8 => isD c.toNat) (c0 :: r0)
  have hfirst : ∃ r, (c0 :: r0).takeWhile (fun c : UInt8 => isD c.toNat) = c0 :: r := by rw [List.takeWhile_cons]; simp [hc0]
  obtain ⟨r1, hr1⟩ := hfirst
  generalize hds : (c0 :: r0).takeWhile (fun c : UInt8 => isD c.toNat) = ds at hsp hall hr1
  have plain : numRest (c0 :: r0) = (c0 :: r0).dropWhile (fun c : UInt8 => isD c.toNat) → ∃ w, c0 :: r0 = w ++ numRest (c0 :: r0) ∧ w ≠ [] ∧ (∃ c r, w = c :: r ∧ isD c.toNat = true) ∧ ∀ more, numRest (w ++ 32 :: more) = 32 :: more := by
    intro e
    refine ⟨ds, by rw [e]; exact hsp.symm, by rw [hr1]; simp, ⟨c0, r1, hr1, hc0⟩, numRest_space ds hall⟩
  unfold numRest
  unfold numRest at plain
  generalize hx : (c0 :: r0).dropWhile (fun c : UInt8 => isD c.toNat) = x at hsp plain ⊢
  match x, hsp, plain with
  | [], _, p => exact p rfl
  | [c], _, p => exact p rfl
  | c :: d :: r, hs, p =>
    simp only at p ⊢
    by_cases h : (c = 46 ∨ c = 47) ∧ isD d.toNat = true
    · rw [if_pos h]
      have hsp2 := List.takeWhile_append_dropWhile (p := fun c : UInt8 => isD c.toNat) (l := d :: r)
      have hall2 := all_takeWhile (fun c : UInt8 => isD c.toNat) (d :: r)
      have hne2 : (d :: r).takeWhile (fun c : UInt8 => isD c.toNat) ≠ [] := by rw [List.takeWhile_cons]; simp [h.2]
      refine ⟨ds ++ c :: (d :: r).takeWhile (fun c : UInt8 => isD c.toNat), ?_, by simp, ⟨c0, r1 ++ c :: (d :: r).takeWhile (fun c : UInt8 => isD c.toNat), by rw [hr1]; rfl, hc0⟩, fun more => ?_⟩
      · rw [List.append_assoc, List.cons_append, hsp2]; exact hs.symm
      · have := numRest_frac ds _ c h.1 hall hall2 hne2 more
        unfold numRest at this
        exact this
    · rw [if_neg h] at p ⊢
      exact p rfl
/-- What stp takes is a token again, a space behind it. -/
theorem stp_good (l : List UInt8) (h : (stp l).1 ≠ 0) : ∃ w, l = w ++ (stp l).2 ∧ Good (stp l).1 w := by
  cases l with
  | nil => exact absurd rfl h
  | cons c r =>
    by_cases h1 : isL c.toNat = true
    · have hst : stp (c :: r) = (if reserved ((c :: r).takeWhile fun c => isN c.toNat) = true then 3 else 1, (c :: r).dropWhile fun c => isN c.toNat) := by simp only [stp, if_pos h1]
      have hall := all_takeWhile (fun c : UInt8 => isN c.toNat) (c :: r)
      obtain ⟨r1, hr1⟩ : ∃ r1, (c :: r).takeWhile (fun c : UInt8 => isN c.toNat) = c :: r1 := by rw [List.takeWhile_cons]; simp [isL_isN h1]
      refine ⟨(c :: r).takeWhile fun c => isN c.toNat, by rw [hst]; exact List.takeWhile_append_dropWhile.symm, ?_⟩
      rw [hst]
      have hf := letter_first h1
      refine ⟨fun more => ?_, fun more => ?_, by rw [hr1]; simp, by simp only; split <;> decide⟩
      · have e1 : ((c :: r).takeWhile (fun c : UInt8 => isN c.toNat) ++ 32 :: more).takeWhile (fun c : UInt8 => isN c.toNat) = (c :: r).takeWhile (fun c : UInt8 => isN c.toNat) := by
          rw [List.takeWhile_append_of_pos hall, List.takeWhile_cons]; simp [isN, isL, isD]
        have e2 : ((c :: r).takeWhile (fun c : UInt8 => isN c.toNat) ++ 32 :: more).dropWhile (fun c : UInt8 => isN c.toNat) = 32 :: more := by
          rw [List.dropWhile_append_of_pos hall, List.dropWhile_cons]; simp [isN, isL, isD]
        rw [hr1] at e1 e2 ⊢
        simp only [List.cons_append] at e1 e2 ⊢
        simp only [stp, if_pos h1, e1, e2]
      · rw [hr1]; exact good_first hf.1 hf.2 more
    · by_cases h2 : isD c.toNat = true
      · have hst : stp (c :: r) = (2, numRest (c :: r)) := by simp only [stp, if_neg h1, if_pos h2]
        obtain ⟨w, e1, e2, ⟨d, q, e3, e4⟩, e5⟩ := numRest_parts (c :: r) ⟨c, r, rfl, h2⟩
        refine ⟨w, by rw [hst]; exact e1, ?_⟩
        rw [hst]
        have hf := digit_first e4
        have hd1 : ¬ isL d.toNat = true := fun h => by rw [not_both h] at e4; cases e4
        refine ⟨fun more => ?_, fun more => by rw [e3]; exact good_first hf.1 hf.2 more, e2, by show (2 : Int) ≠ 0; decide⟩
        have := e5 more
        rw [e3] at this ⊢
        simp only [List.cons_append] at this ⊢
        simp only [stp, if_neg hd1, if_pos e4, this]
      · by_cases h3 : isS c.toNat = true
        · have hst : stp (c :: r) = (4, r) := by simp only [stp, if_neg h1, if_neg h2, if_pos h3]
          refine ⟨[c], by rw [hst]; rfl, ?_⟩
          rw [hst]
          have hf := sign_first h3
          exact ⟨fun more => by simp only [List.singleton_append, stp, if_neg h1, if_neg h2, if_pos h3], fun more => good_first hf.1 hf.2 more, by simp, by show (4 : Int) ≠ 0; decide⟩
        · exact absurd (by simp only [stp, if_neg h1, if_neg h2, if_neg h3]) h
theorem spl_good : ∀ (f n : Nat) (out : List S35) (l : List UInt8), (spl f n out l).2.2 = 0 →
    ∃ ts, (spl f n out l).1 = out ++ (ts ++ [⟨5, ⟨#[]⟩, (n : Int)⟩]) ∧ (∀ t ∈ ts, Good t.f0 (tx t) ∧ (t.f0 = 1 → (tx t).length ≤ 32)) ∧ (rep ts).length ≤ 2 * l.length
  | 0, n, out, l, h => by simp [spl] at h
  | f + 1, n, out, l, h => by
    unfold spl at h ⊢
    by_cases h0 : l = []
    · rw [if_pos h0]
      exact ⟨[], rfl, by simp, by simp [rep]⟩
    · rw [if_neg h0] at h ⊢
      by_cases h1 : (stp l).1 = 0
      · rw [if_pos h1] at h; simp at h
      · rw [if_neg h1] at h ⊢
        obtain ⟨w, e1, e2⟩ := stp_good l h1
        split at h
        · simp at h
        · rename_i h2
          rw [if_neg h2]
          split at h
          · simp at h
          · rename_i h3
            rw [if_neg h3]
            obtain ⟨ts, g1, g2, g3⟩ := spl_good f n _ _ h
            have hw : l.take (l.length - (stp l).2.length) = w := by
              have := take_sub (w := w) (r := (stp l).2)
              rwa [← e1] at this
            have htx : tx ⟨(stp l).1, txt l (stp l).2, at_ n l⟩ = w := by
              show (l.take (l.length - (stp l).2.length)) = w
              exact hw
            have hlen : l.length = w.length + (stp l).2.length := by rw [e1, List.length_append, ← e1]
            refine ⟨⟨(stp l).1, txt l (stp l).2, at_ n l⟩ :: ts, by rw [g1, List.append_assoc]; rfl, ?_, ?_⟩
            · intro t ht
              rcases List.mem_cons.1 ht with rfl | ht
              · rw [htx]
                exact ⟨e2, fun hk => by simp only at hk; omega⟩
              · exact g2 t ht
            · have hsk := skb_len false (stp l).2
              have hne : 0 < w.length := List.length_pos_iff.2 e2.ne
              show (tx _ ++ 32 :: rep ts).length ≤ _
              rw [htx]
              simp only [List.length_append, List.length_cons]
              omega
/-- Tokens match in kind and text. -/
def Like : List S35 → List S35 → Prop
  | [], [] => True
  | t :: r, u :: q => t.f0 = u.f0 ∧ t.f1 = u.f1 ∧ Like r q
  | _, _ => False
theorem like_len : ∀ a b, Like a b → a.length = b.length
  | [], [], _ => rfl
  | t :: r, u :: q, h => by simp [like_len r q h.2.2]
  | [], _ :: _, h => h.elim
  | _ :: _, [], h => h.elim
theorem like_at : ∀ (a b : List S35), Like a b → ∀ (i : Nat) (d : S35), i < a.length → (a.getD i d).f0 = (b.getD i d).f0 ∧ (a.getD i d).f1 = (b.getD i d).f1
  | [], _, _, i, d, hi => by simp at hi
  | t :: r, [], h, _, _, _ => h.elim
  | t :: r, u :: q, h, i, d, hi => by
    cases i with
    | zero => exact ⟨h.1, h.2.1⟩
    | succ i => simpa using like_at r q h.2.2 i d (by simpa using hi)
theorem spl_again (n : Nat) : ∀ (ts : List S35) (f : Nat) (out : List S35), (∀ t ∈ ts, Good t.f0 (tx t) ∧ (t.f0 = 1 → (tx t).length ≤ 32)) → out.length + ts.length ≤ 2048 → (rep ts).length < f →
    ∃ us, spl f n out (skb false (rep ts ++ [32])) = (out ++ (us ++ [⟨5, ⟨#[]⟩, (n : Int)⟩]), 0, 0) ∧ Like ts us
  | [], f, out, _, _, hf => by
    obtain ⟨f, rfl⟩ : ∃ m, f = m + 1 := ⟨f - 1, by omega⟩
    refine ⟨[], ?_, trivial⟩
    have : skb false (rep [] ++ [32]) = [] := by simp [rep, skb, isB]
    rw [this]
    simp [spl]
  | t :: r, f, out, hg, ho, hf => by
    obtain ⟨f, rfl⟩ : ∃ m, f = m + 1 := ⟨f - 1, by omega⟩
    obtain ⟨g, g32⟩ := hg t (by simp)
    have e0 : rep (t :: r) ++ [32] = tx t ++ 32 :: (rep r ++ [32]) := by simp [rep]
    rw [e0, g.first]
    simp only [List.length_cons] at ho
    have hlen : (rep (t :: r)).length = (tx t).length + ((rep r).length + 1) := by simp [rep]
    have hsk : skb false (32 :: (rep r ++ [32])) = skb false (rep r ++ [32]) := by simp [skb, isB]
    have hx : (⟨t.f0, txt (tx t ++ 32 :: (rep r ++ [32])) (32 :: (rep r ++ [32])), at_ n (tx t ++ 32 :: (rep r ++ [32]))⟩ : S35) = ⟨t.f0, t.f1, at_ n (tx t ++ 32 :: (rep r ++ [32]))⟩ := by
      have : txt (tx t ++ 32 :: (rep r ++ [32])) (32 :: (rep r ++ [32])) = t.f1 := by
        unfold txt
        rw [take_sub]
        rfl
      rw [this]
    obtain ⟨us, h1, h2⟩ := spl_again n r f (out ++ [⟨t.f0, t.f1, at_ n (tx t ++ 32 :: (rep r ++ [32]))⟩]) (fun u hu => hg u (by simp [hu])) (by simp; omega) (by omega)
    refine ⟨⟨t.f0, t.f1, at_ n (tx t ++ 32 :: (rep r ++ [32]))⟩ :: us, ?_, rfl, rfl, h2⟩
    unfold spl
    rw [if_neg (by simp [g.ne])]
    simp only [g.again]
    rw [if_neg g.kind, if_neg ?_, if_neg (by simp [bad, isL]), hx, hsk, h1, List.append_assoc]
    · rfl
    · rintro (h | ⟨h, h3⟩)
      · omega
      · have := g32 h
        simp only [List.length_append] at h3
        omega
end Go.Proofs.Ytffgmmgfofbmlaa.Lex
