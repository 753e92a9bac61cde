import Derived.Test.YtffgmmgfofbmlaaLexA
set_option linter.unusedVariables false
set_option linter.unusedSimpArgs false
namespace Go.Proofs.Ytffgmmgfofbmlaa.Lex
open Go.RowKit Go.Proofs.Ytffgmmgfofbmlaa.PA Go.Proofs.YtffgmmgfofbmlaaW.PrintWords Go.Proofs.YtffgmmgfofbmlaaW.PrintLast

/-! ### what a text comes to -/
def numRest (l : List UInt8) : List UInt8 :=
  match l.dropWhile fun c => isD c.toNat with
  | [] => []
  | [c] => [c]
  | c :: d :: r => if (c = 46 ∨ c = 47) ∧ isD d.toNat = true then (d :: r).dropWhile fun c => isD c.toNat else c :: d :: r
def reserved (t : List UInt8) : Bool := decide (t = [99, 108, 97, 115, 115] ∨ t = [98, 101, 102, 111, 114, 101] ∨ t = [108, 105, 109, 105, 116] ∨ t = [115, 117, 98, 111, 114, 100, 105, 110, 97, 116, 101])
theorem reserved_len {t : List UInt8} (h : reserved t = true) : t.length ≤ 32 := by
  unfold reserved at h
  simp at h
  rcases h with h | h | h | h <;> rw [h] <;> simp
/-- The kind of what begins here (0: nothing does), and what follows it. -/
def stp : List UInt8 → Int × List UInt8
  | [] => (0, [])
  | c :: r =>
    if isL c.toNat = true then (if reserved ((c :: r).takeWhile fun c => isN c.toNat) = true then 3 else 1, (c :: r).dropWhile fun c => isN c.toNat)
    else if isD c.toNat = true then (2, numRest (c :: r))
    else if isS c.toNat = true then (4, r) else (0, c :: r)
def bad : List UInt8 → Bool
  | [] => false
  | c :: _ => isL c.toNat || decide (c = 46 ∨ c = 47)
def txt (l r : List UInt8) : ByteArray := ⟨(l.take (l.length - r.length)).toArray⟩
def spl : Nat → Nat → List S35 → List UInt8 → List S35 × Int × Int
  | 0, _, _, _ => ([], 0, 99)
  | f + 1, n, out, l =>
    if l = [] then (out ++ [⟨5, ⟨#[]⟩, n⟩], 0, 0)
    else if (stp l).1 = 0 then ([], at_ n l, 10)
    else if 2048 ≤ out.length ∨ (stp l).1 = 1 ∧ 32 < l.length - (stp l).2.length then ([], at_ n l, 2)
    else if (stp l).1 = 2 ∧ bad (stp l).2 = true then ([], at_ n (stp l).2, 10)
    else spl f n (out ++ [⟨(stp l).1, txt l (stp l).2, at_ n l⟩]) (skb false (stp l).2)
def splitS (l : List UInt8) : List S35 × Int × Int := if 8192 < l.length then ([], 0, 2) else spl (l.length + 1) l.length [] (skb false l)

theorem isL_isN {c : Int} (h : isL c = true) : isN c = true := by simp [isN, h]
theorem not_both {c : Int} (h : isL c = true) : isD c = false := by
  unfold isL at h; unfold isD; simp at *; omega
theorem sign_not {c : Int} (h : isS c = true) : isL c = false ∧ isD c = false := by
  unfold isS at h; unfold isL isD; simp at *; omega

theorem sfx_dropWhile (s : ByteArray) (p : Int → Bool) (i : Nat) (hi : i ≤ s.size) : ((sfx s i).dropWhile fun c => p c.toNat) = sfx s (i + run p (sfx s i)) := by
  rw [sfx_add s i, drop_run]
theorem run_bound (s : ByteArray) (p : Int → Bool) (i : Nat) (hi : i ≤ s.size) : i + run p (sfx s i) ≤ s.size := by
  have := run_le p (sfx s i); rw [sfx_len] at this; omega
theorem run_pos {p : Int → Bool} {c : UInt8} {r : List UInt8} (h : p c.toNat = true) : 1 ≤ run p (c :: r) := by simp [run, h]
theorem run_zero {p : Int → Bool} {c : UInt8} {r : List UInt8} (h : p c.toNat = false) : run p (c :: r) = 0 := by simp [run, h]

theorem numRest_sfx (s : ByteArray) (i : Nat) (hi : i ≤ s.size) : ∃ j, numRest (sfx s i) = sfx s j ∧ i + run isD (sfx s i) ≤ j ∧ j ≤ s.size ∧
    ((i + run isD (sfx s i) < s.size ∧ (bt s ((i + run isD (sfx s i) : Nat) : Int) = 46 ∨ bt s ((i + run isD (sfx s i) : Nat) : Int) = 47) ∧ 0 < run isD (sfx s (i + run isD (sfx s i) + 1)) ∧ j = i + run isD (sfx s i) + 1 + run isD (sfx s (i + run isD (sfx s i) + 1))) ∨
     (¬ (i + run isD (sfx s i) < s.size ∧ (bt s ((i + run isD (sfx s i) : Nat) : Int) = 46 ∨ bt s ((i + run isD (sfx s i) : Nat) : Int) = 47) ∧ 0 < run isD (sfx s (i + run isD (sfx s i) + 1))) ∧ j = i + run isD (sfx s i))) := by
  have hb := run_bound s isD i hi
  unfold numRest
  rw [sfx_dropWhile s isD i hi]
  generalize i + run isD (sfx s i) = e at hb ⊢
  by_cases h1 : e < s.size
  · obtain ⟨c, hc, hcb⟩ := sfx_cons s e h1
    by_cases h2 : e + 1 < s.size
    · obtain ⟨d, hd, hdb⟩ := sfx_cons s (e + 1) h2
      rw [hc, hd]
      simp only
      have hb2 := run_bound s isD (e + 1) (by omega)
      have e46 : c = 46 ↔ (c.toNat : Int) = 46 := byte_eq (n := 46) (by omega)
      have e47 : c = 47 ↔ (c.toNat : Int) = 47 := byte_eq (n := 47) (by omega)
      by_cases h3 : (c = 46 ∨ c = 47) ∧ isD d.toNat = true
      · rw [if_pos h3, ← hd, sfx_dropWhile s isD (e + 1) (by omega)]
        refine ⟨_, rfl, by omega, hb2, .inl ⟨h1, ?_, ?_, rfl⟩⟩
        · rw [hcb, ← e46, ← e47]; exact h3.1
        · rw [hd]; exact run_pos h3.2
      · rw [if_neg h3, ← hd, ← hc]
        refine ⟨e, rfl, by omega, by omega, .inr ⟨?_, rfl⟩⟩
        rintro ⟨_, h4, h5⟩
        rw [hcb, ← e46, ← e47] at h4
        refine h3 ⟨h4, ?_⟩
        cases h6 : isD d.toNat
        · rw [hd, run_zero h6] at h5; omega
        · rfl
    · rw [hc, sfx_end s (e + 1) (by omega)]
      simp only
      refine ⟨e, by rw [hc, sfx_end s (e + 1) (by omega)], by omega, by omega, .inr ⟨?_, rfl⟩⟩
      rintro ⟨_, _, h5⟩
      simp [run] at h5
  · rw [sfx_end s e (by omega)]
    refine ⟨e, by rw [sfx_end s e (by omega)], by omega, hb, .inr ⟨fun h => h1 h.1, rfl⟩⟩

theorem number_ev (s : ByteArray) (hs : s.size ≤ 140737488351232) (i : Nat) (hi : i ≤ s.size) : ∃ j, numRest (sfx s i) = sfx s j ∧ i + run isD (sfx s i) ≤ j ∧ j ≤ s.size ∧ Ev (fun k => lexer_number.f k s i) (j : Int) := by
  obtain ⟨j, h1, h2, h3, h4⟩ := numRest_sfx s i hi
  refine ⟨j, h1, h2, h3, ?_⟩
  have hb := run_bound s isD i hi
  unfold lexer_number.f
  refine Ev.bind (isDigit_ev s hs i hi) ?_
  generalize i + run isD (sfx s i) = e at hb h2 h4 ⊢
  have j0 : ∀ b : Bool, (e < s.size → Ev (fun k => lexer_number.j0 k s e b) (if b = true ∧ 0 < run isD (sfx s (e + 1)) then ((e + 1 + run isD (sfx s (e + 1)) : Nat) : Int) else (e : Int))) ∧ Ev (fun k => lexer_number.j0 k s e false) (e : Int) := by
    intro b
    refine ⟨fun hlt => ?_, Ev.step (f := fun _ => some (e : Int)) (fun k => by simp [lexer_number.j0]) (Ev.now _)⟩
    cases b
    · refine Ev.step (f := fun _ => some (e : Int)) (fun k => by simp [lexer_number.j0]) ?_
      simpa using Ev.now _
    · refine Ev.step (f := fun k => (lexer_skip_isDigit.f k s ((e + 1 : Nat) : Int)).bind fun t => if t > ((e + 1 : Nat) : Int) then some t else some (e : Int)) (fun k => by simp only [lexer_number.j0, if_true, wrap_at hlt hs]) ?_
      refine Ev.bind (isDigit_ev s hs (e + 1) (by omega)) ?_
      by_cases h : 0 < run isD (sfx s (e + 1))
      · simp only [if_pos (show ((e + 1 + run isD (sfx s (e + 1)) : Nat) : Int) > ((e + 1 : Nat) : Int) by omega), true_and, if_pos h]
        exact Ev.now _
      · simp only [if_neg (show ¬ ((e + 1 + run isD (sfx s (e + 1)) : Nat) : Int) > ((e + 1 : Nat) : Int) by omega), true_and, if_neg h]
        exact Ev.now _
  by_cases hlt : e < s.size
  · simp only [show ((e : Int) < (s.size : Int)) ↔ True from ⟨fun _ => trivial, fun _ => by omega⟩, if_true, show ((0 : Int) ≤ (e : Int)) ↔ True from ⟨fun _ => trivial, fun _ => by omega⟩]
    by_cases h46 : bt s e = 46
    · simp only [if_pos h46]
      refine Eq.mp ?_ ((j0 true).1 hlt)
      congr 1
      rcases h4 with ⟨_, _, h5, h6⟩ | ⟨h5, h6⟩
      · rw [if_pos ⟨rfl, h5⟩, h6]
      · rw [if_neg (fun x => h5 ⟨hlt, .inl h46, x.2⟩), h6]
    · simp only [if_neg h46]
      refine Eq.mp ?_ ((j0 (bt s e == 47)).1 hlt)
      congr 1
      rcases h4 with ⟨_, h7, h5, h6⟩ | ⟨h5, h6⟩
      · rw [if_pos ⟨by rw [beq_iff_eq]; exact h7.resolve_left h46, h5⟩, h6]
      · rw [if_neg (fun x => h5 ⟨hlt, .inr (by simpa using x.1), x.2⟩), h6]
  · simp only [if_neg (show ¬ ((e : Int) < (s.size : Int)) by omega)]
    rcases h4 with ⟨h5, _⟩ | ⟨_, h6⟩
    · exact absurd h5 hlt
    · rw [h6]
      exact (j0 false).2

theorem reserved_ev (t : ByteArray) : lexer_Reserved.f t = some (reserved t.data.toList) := by
  unfold lexer_Reserved.f reserved
  simp only [toList_data]
  by_cases h1 : t.data.toList = [99, 108, 97, 115, 115]
  · simp [h1]
  · by_cases h2 : t.data.toList = [98, 101, 102, 111, 114, 101]
    · simp [h2]
    · by_cases h3 : t.data.toList = [108, 105, 109, 105, 116]
      · simp [h3]
      · by_cases h4 : t.data.toList = [115, 117, 98, 111, 114, 100, 105, 110, 97, 116, 101]
        · simp [h4]
        · simp [h1, h2, h3, h4]
theorem reserved9_ev (t : ByteArray) : insolvencyref9_Reserved.f t = some (reserved t.data.toList) := by
  unfold insolvencyref9_Reserved.f reserved
  simp only [toList_data]
  by_cases h1 : t.data.toList = [99, 108, 97, 115, 115]
  · simp [h1]
  · by_cases h2 : t.data.toList = [98, 101, 102, 111, 114, 101]
    · simp [h2]
    · by_cases h3 : t.data.toList = [108, 105, 109, 105, 116]
      · simp [h3]
      · by_cases h4 : t.data.toList = [115, 117, 98, 111, 114, 100, 105, 110, 97, 116, 101]
        · simp [h4]
        · simp [h1, h2, h3, h4]

theorem extract_is (s : ByteArray) (i j : Nat) (h : i ≤ j) (hj : j ≤ s.size) : s.extract i j = txt (sfx s i) (sfx s j) := by
  have e : (sfx s i).length - (sfx s j).length = j - i := by rw [sfx_len, sfx_len]; omega
  unfold txt
  rw [e]
  apply ByteArray.ext
  apply Array.ext'
  rw [ByteArray.data_extract, Array.toList_extract]
  simp [sfx, List.extract_eq_take_drop]
theorem txt_size (s : ByteArray) (i j : Nat) (h : i ≤ j) (hj : j ≤ s.size) : (txt (sfx s i) (sfx s j)).size = j - i := by
  rw [← extract_is s i j h hj, ByteArray.size_extract]; omega

/-- What stp comes to at a place of a text. -/
theorem stp_sfx (s : ByteArray) (i : Nat) (h : i < s.size) (hk : (stp (sfx s i)).1 ≠ 0) : ∃ j, i < j ∧ j ≤ s.size ∧ (stp (sfx s i)).2 = sfx s j := by
  obtain ⟨c, hc, hb⟩ := sfx_cons s i h
  rw [hc] at hk ⊢
  unfold stp at hk ⊢
  by_cases h1 : isL c.toNat = true
  · simp only [if_pos h1]
    rw [← hc, sfx_dropWhile s isN i (by omega)]
    have := run_pos (p := isN) (c := c) (r := sfx s (i + 1)) (isL_isN h1)
    exact ⟨_, by rw [hc]; omega, run_bound s isN i (by omega), rfl⟩
  · simp only [if_neg h1] at hk ⊢
    by_cases h2 : isD c.toNat = true
    · simp only [if_pos h2]
      obtain ⟨j, e1, e2, e3, _⟩ := numRest_sfx s i (by omega)
      have := run_pos (p := isD) (c := c) (r := sfx s (i + 1)) h2
      rw [← hc] at this ⊢
      exact ⟨j, by omega, e3, e1⟩
    · simp only [if_neg h2] at hk ⊢
      by_cases h3 : isS c.toNat = true
      · simp only [if_pos h3]
        exact ⟨i + 1, by omega, by omega, rfl⟩
      · simp only [if_neg h3] at hk
        exact absurd rfl hk

theorem j2_ev (s : ByteArray) (hs : s.size ≤ 140737488351232) (out : List S35) (ho : out.length < 4398046511104) (i j : Nat) (hj : j ≤ s.size) (b : Bool) (k : Int) (t : ByteArray) (R : List S35 × Int × Int)
    (hR : Ev (fun n => lexer_Split.l0 n s (out ++ [⟨k, t, i⟩]) (at_ s.size (skb false (sfx s j)))) R) :
    Ev (fun n => lexer_Split.j2 n s out i j b k t i) (if b = true then ([], (i : Int), 2) else if k = 2 ∧ bad (sfx s j) = true then ([], (j : Int), 10) else R) := by
  have hbl : Ev (fun n => (lexer_blank.f n s j).bind fun t1 => lexer_Split.l0 n s (out ++ [⟨k, t, i⟩]) t1) R := Ev.bind (blank_ev s hs _ j (Nat.le_refl _) hj) hR
  cases b
  · simp only [Bool.false_eq_true, if_false]
    by_cases hk : k = 2
    · by_cases hlt : j < s.size
      · obtain ⟨c, hc, hb⟩ := sfx_cons s j hlt
        have e46 : c = 46 ↔ (c.toNat : Int) = 46 := byte_eq (n := 46) (by omega)
        have e47 : c = 47 ↔ (c.toNat : Int) = 47 := byte_eq (n := 47) (by omega)
        refine Ev.step (f := fun n => if bad (sfx s j) = true then some (([] : List S35), (j : Int), (10 : Int)) else (lexer_blank.f n s j).bind fun t1 => lexer_Split.l0 n s (out ++ [⟨k, t, i⟩]) t1) (fun n => ?_) ?_
        · simp only [lexer_Split.j2, Bool.false_eq_true, if_false, hk, if_true]
          rw [if_pos (by omega), if_pos (by omega), hb, letter_is, hc]
          simp only [Option.bind_some, bad]
          by_cases hL : isL c.toNat = true
          · simp [hL]
          · have hL' : isL c.toNat = false := by simpa using hL
            simp only [hL', Bool.false_eq_true, if_false, Bool.false_or, decide_eq_true_eq, e46, e47]
            by_cases h1 : (c.toNat : Int) = 46
            · simp [h1]
            · by_cases h2 : (c.toNat : Int) = 47
              · simp [h2]
              · simp only [h1, h2, if_false, or_self]
                rw [if_pos ho]
        · by_cases hbd : bad (sfx s j) = true
          · simp only [hbd, hk, and_self, if_true]; exact Ev.now _
          · simp only [if_neg hbd, if_neg (fun x : k = 2 ∧ bad (sfx s j) = true => hbd x.2)]; exact hbl
      · have hbd : ¬ (k = 2 ∧ bad (sfx s j) = true) := by rw [sfx_end s j (by omega)]; simp [bad]
        rw [if_neg hbd]
        refine Ev.step (fun n => ?_) hbl
        simp only [lexer_Split.j2, Bool.false_eq_true, if_false, hk, if_true]
        rw [if_neg (by omega), if_pos ho]
    · rw [if_neg (fun x => hk x.1)]
      refine Ev.step (fun n => ?_) hbl
      simp only [lexer_Split.j2, Bool.false_eq_true, if_false, hk]
      rw [if_pos ho]
  · simp only [if_true]
    exact Ev.step (f := fun _ => some (([] : List S35), (i : Int), (2 : Int))) (fun n => by simp [lexer_Split.j2]) (Ev.now _)
theorem j1_ev (s : ByteArray) (hs : s.size ≤ 140737488351232) (out : List S35) (ho : out.length ≤ 2048) (i j : Nat) (hj : j ≤ s.size) (k : Int) (t : ByteArray) (R : List S35 × Int × Int)
    (hR : out.length < 2048 → Ev (fun n => lexer_Split.l0 n s (out ++ [⟨k, t, i⟩]) (at_ s.size (skb false (sfx s j)))) R) :
    Ev (fun n => lexer_Split.j1 n s out i j k t i) (if 2048 ≤ out.length ∨ k = 1 ∧ 32 < t.size then ([], (i : Int), 2) else if k = 2 ∧ bad (sfx s j) = true then ([], (j : Int), 10) else R) := by
  by_cases h1 : 2048 ≤ out.length
  · rw [if_pos (.inl h1)]
    refine Ev.step (f := fun n => lexer_Split.j2 n s out i j true k t i) (fun n => ?_) (Ev.step (f := fun _ => some (([] : List S35), (i : Int), (2 : Int))) (fun n => by simp [lexer_Split.j2]) (Ev.now _))
    simp only [lexer_Split.j1]
    rw [if_pos (by omega)]
  · have h2 := j2_ev s hs out (by omega) i j hj
    by_cases hk : k = 1
    · refine Ev.step (f := fun n => lexer_Split.j2 n s out i j (decide ((t.size : Int) > 32)) k t i) (fun n => ?_) ?_
      · simp only [lexer_Split.j1]
        rw [if_neg (by omega), if_pos hk]
      · have := h2 (decide ((t.size : Int) > 32)) k t R (hR (by omega))
        refine Eq.mp ?_ this
        congr 1
        by_cases h3 : 32 < t.size
        · rw [if_pos (by simp; omega), if_pos (.inr ⟨hk, h3⟩)]
        · rw [if_neg (by simp; omega), if_neg (by omega : ¬ (2048 ≤ out.length ∨ k = 1 ∧ 32 < t.size))]
    · refine Ev.step (f := fun n => lexer_Split.j2 n s out i j false k t i) (fun n => ?_) ?_
      · simp only [lexer_Split.j1]
        rw [if_neg (by omega), if_neg hk]
      · have := h2 false k t R (hR (by omega))
        rw [if_neg (by simp [h1, hk])]
        simpa using this

theorem contains_is (c : UInt8) : strings_ContainsRune.f ⟨#[61, 44, 59]⟩ (wrap32 c.toNat) = some (isS c.toNat) := by
  have h := c.toNat_lt
  have hw : wrap32 (c.toNat : Int) = c.toNat := by unfold wrap32; omega
  unfold strings_ContainsRune.f isS
  rw [hw, if_pos ⟨rfl, by omega, by omega⟩]

theorem spl_ev (s : ByteArray) (hs : s.size ≤ 8192) (d : Nat) : ∀ (i f : Nat) (out : List S35), s.size - i ≤ d → i ≤ s.size → d < f → out.length ≤ 2048 →
    Ev (fun k => lexer_Split.l0 k s out i) (spl f s.size out (sfx s i)) := by
  have hs' : s.size ≤ 140737488351232 := by omega
  induction d with
  | zero =>
    intro i f out hd hi hf ho
    obtain ⟨f, rfl⟩ : ∃ m, f = m + 1 := ⟨f - 1, by omega⟩
    unfold spl
    rw [if_pos (sfx_end s i (by omega))]
    refine Ev.step (fun n => ?_) (Ev.now _)
    simp only [lexer_Split.l0]
    rw [if_neg (by omega), if_pos (by omega)]
  | succ d ih =>
    intro i f out hd hi hf ho
    obtain ⟨f, rfl⟩ : ∃ m, f = m + 1 := ⟨f - 1, by omega⟩
    by_cases hlt : i < s.size
    · obtain ⟨c, hc, hb⟩ := sfx_cons s i hlt
      have hne : sfx s i ≠ [] := by rw [hc]; simp
      have hat := at_sfx s i hi
      -- what follows a token
      have next : ∀ j k, i < j → j ≤ s.size → out.length < 2048 → Ev (fun n => lexer_Split.l0 n s (out ++ [⟨k, txt (sfx s i) (sfx s j), i⟩]) (at_ s.size (skb false (sfx s j)))) (spl f s.size (out ++ [⟨k, txt (sfx s i) (sfx s j), i⟩]) (skb false (sfx s j))) := by
        intro j k h1 h2 h3
        obtain ⟨q, q1, q2, q3⟩ := skb_sfx s false _ j rfl h2
        rw [q3, at_sfx s q q2]
        exact ih q f _ (by omega) q2 (by omega) (by simp; omega)
      have hl0 : ∀ n, lexer_Split.l0 (n + 1) s out i = (if isL c.toNat = true then ((lexer_skip_inName.f n s i).bind fun t117 => (if (i : Int) ≤ t117 then (if t117 ≤ (s.size : Int) then ((lexer_word.f (s.extract (i : Int).toNat (t117 : Int).toNat) i).bind fun bt118 => (lexer_Split.j1 n s out i t117 bt118.1 bt118.2.1 bt118.2.2)) else (none)) else (none))) else (if isD c.toNat = true then ((lexer_number.f n s i).bind fun t122 => (if (i : Int) ≤ t122 then (if t122 ≤ (s.size : Int) then (lexer_Split.j1 n s out i t122 2 (s.extract (i : Int).toNat (t122 : Int).toNat) i) else (none)) else (none))) else if isS c.toNat = true then lexer_Split.j1 n s out i ((i + 1 : Nat) : Int) 4 (s.extract i (i + 1)) i else some (([] : List (S35)), (i : Int), 10))) := by
        intro n
        simp only [lexer_Split.l0]
        rw [wrap_at hlt hs', if_pos (by omega), if_pos (by omega), if_pos (by omega), if_pos (by omega), hb, letter_is, digit_is, contains_is]
        simp only [Option.bind_some, Int.toNat_natCast]
      refine Ev.step hl0 ?_
      unfold spl
      rw [if_neg hne, hat]
      by_cases h1 : isL c.toNat = true
      · -- a name or a word
        simp only [if_pos h1]
        have hst : stp (sfx s i) = (if reserved ((sfx s i).takeWhile fun c => isN c.toNat) = true then 3 else 1, sfx s (i + run isN (sfx s i))) := by
          rw [← sfx_dropWhile s isN i hi, hc]; simp only [stp, if_pos h1]
        have hj := run_bound s isN i hi
        have hp := run_pos (p := isN) (c := c) (r := sfx s (i + 1)) (isL_isN h1)
        rw [← hc] at hp
        have htk : (sfx s i).takeWhile (fun c => isN c.toNat) = (txt (sfx s i) (sfx s (i + run isN (sfx s i)))).data.toList := by
          unfold txt; rw [sfx_len, sfx_len, show s.size - i - (s.size - (i + run isN (sfx s i))) = run isN (sfx s i) by omega, take_run]
        rw [hst, htk]
        simp only
        generalize hJ : i + run isN (sfx s i) = j at hj htk
        refine Ev.bind (a := (j : Int)) (hJ ▸ inName_ev s hs' i hi) ?_
        simp only [if_pos (show (i : Int) ≤ (j : Int) by omega), if_pos (show (j : Int) ≤ (s.size : Int) by omega), Int.toNat_natCast, extract_is s i j (by omega) hj]
        simp only [lexer_word.f, reserved_ev, Option.bind_some]
        have hsz := txt_size s i j (by omega) hj
        cases hr : reserved (txt (sfx s i) (sfx s j)).data.toList
        · simp only [Bool.false_eq_true, if_false, Option.bind_some]
          have := j1_ev s hs' out ho i j hj 1 (txt (sfx s i) (sfx s j)) _ (next j 1 (by omega) hj)
          rw [if_neg (by decide)]
          rw [hsz] at this
          rw [sfx_len, sfx_len, show s.size - i - (s.size - j) = j - i by omega]
          rw [at_sfx s j hj]
          simp only [show ((1 : Int) = 1) ↔ True from ⟨fun _ => trivial, fun _ => rfl⟩, true_and] at this ⊢
          exact this
        · simp only [if_true, Option.bind_some]
          have := j1_ev s hs' out ho i j hj 3 (txt (sfx s i) (sfx s j)) _ (next j 3 (by omega) hj)
          rw [if_neg (by decide)]
          simp only [show ((3 : Int) = 1) ↔ False by decide, show ((3 : Int) = 2) ↔ False by decide, false_and, or_false, if_false] at this ⊢
          exact this
      · simp only [if_neg h1]
        by_cases h2 : isD c.toNat = true
        · -- a number
          simp only [if_pos h2]
          obtain ⟨j, e1, e2, e3, e4⟩ := number_ev s hs' i hi
          have hp := run_pos (p := isD) (c := c) (r := sfx s (i + 1)) h2
          rw [← hc] at hp
          have hst : stp (sfx s i) = (2, sfx s j) := by
            rw [← e1, hc]; simp only [stp, if_neg h1, if_pos h2]
          rw [hst]
          simp only
          refine Ev.bind e4 ?_
          simp only [if_pos (show (i : Int) ≤ (j : Int) by omega), if_pos (show (j : Int) ≤ (s.size : Int) by omega), Int.toNat_natCast, extract_is s i j (by omega) e3]
          have := j1_ev s hs' out ho i j e3 2 (txt (sfx s i) (sfx s j)) _ (next j 2 (by omega) e3)
          rw [if_neg (by decide), at_sfx s j e3]
          simp only [show ((2 : Int) = 1) ↔ False by decide, false_and, or_false] at this ⊢
          exact this
        · simp only [if_neg h2]
          by_cases h3 : isS c.toNat = true
          · simp only [if_pos h3]
            have hst : stp (sfx s i) = (4, sfx s (i + 1)) := by
              rw [hc]; simp only [stp, if_neg h1, if_neg h2, if_pos h3]
            rw [hst]
            simp only
            rw [extract_is s i (i + 1) (by omega) (by omega)]
            have := j1_ev s hs' out ho i (i + 1) (by omega) 4 (txt (sfx s i) (sfx s (i + 1))) _ (next (i + 1) 4 (by omega) (by omega))
            rw [if_neg (by decide)]
            simp only [show ((4 : Int) = 1) ↔ False by decide, show ((4 : Int) = 2) ↔ False by decide, false_and, or_false, if_false] at this ⊢
            exact this
          · simp only [if_neg h3]
            have hst : (stp (sfx s i)).1 = 0 := by
              rw [hc]; simp only [stp, if_neg h1, if_neg h2, if_neg h3]
            rw [if_pos hst]
            exact Ev.now _
    · unfold spl
      rw [if_pos (sfx_end s i (by omega))]
      refine Ev.step (fun n => ?_) (Ev.now _)
      simp only [lexer_Split.l0]
      rw [if_neg (by omega), if_pos (by omega)]

theorem split_ev (s : ByteArray) : Ev (fun k => lexer_Split.f k s) (splitS s.data.toList) := by
  unfold lexer_Split.f splitS
  have hl : s.data.toList.length = s.size := by simp
  rw [hl]
  by_cases h : 8192 < s.size
  · simp only [if_pos h, if_pos (show (s.size : Int) > 8192 by omega)]
    exact Ev.now _
  · simp only [if_neg h, if_neg (show ¬ (s.size : Int) > 8192 by omega)]
    refine Ev.bind (blank_ev s (by omega) _ 0 (Nat.le_refl _) (by omega)) ?_
    rw [sfx_zero]
    obtain ⟨q, q1, q2, q3⟩ := skb_sfx s false _ 0 rfl (by omega)
    rw [sfx_zero] at q3
    rw [q3, at_sfx s q q2]
    exact spl_ev s (by omega) s.size q _ [] (by omega) q2 (by omega) (by simp)
end Go.Proofs.Ytffgmmgfofbmlaa.Lex
