import Derived.Test.YtffgmmgfofbmlaaLexB
set_option linter.unusedVariables false
set_option linter.unusedSimpArgs false
namespace Go.Proofs.Ytffgmmgfofbmlaa.Lex
open Go.RowKit Go.Proofs.Ytffgmmgfofbmlaa.PA Go.Proofs.YtffgmmgfofbmlaaW.PrintWords Go.Proofs.YtffgmmgfofbmlaaW.PrintLast

/-! ### the reference's Split comes to the same -/
def tok9 (s : ByteArray) (i : Nat) : Int × ByteArray × Int × Int × Int :=
  if (stp (sfx s i)).1 = 0 then (0, ⟨#[]⟩, 0, i, 10)
  else if (stp (sfx s i)).1 = 1 ∧ 32 < (sfx s i).length - (stp (sfx s i)).2.length then (0, ⟨#[]⟩, 0, i, 2)
  else if (stp (sfx s i)).1 = 2 ∧ bad (stp (sfx s i)).2 = true then (0, ⟨#[]⟩, 0, at_ s.size (stp (sfx s i)).2, 10)
  else ((stp (sfx s i)).1, txt (sfx s i) (stp (sfx s i)).2, i, at_ s.size (stp (sfx s i)).2, 0)

theorem tokL_ev (s : ByteArray) (hs : s.size ≤ 140737488351232) (i0 : Nat) (d : Nat) : ∀ i : Nat, s.size - i ≤ d → i0 ≤ i → i ≤ s.size →
    Ev (fun k => insolvencyref9_token.l0 k s i0 i) (let j := i + run isN (sfx s i); if 32 < j - i0 then (0, ⟨#[]⟩, 0, (i0 : Int), 2) else (if reserved (txt (sfx s i0) (sfx s j)).data.toList = true then 3 else 1, txt (sfx s i0) (sfx s j), (i0 : Int), (j : Int), 0)) := by
  have j3 : ∀ j : Nat, i0 ≤ j → j ≤ s.size → Ev (fun k => insolvencyref9_token.j3 k s i0 j) (if 32 < j - i0 then (0, ⟨#[]⟩, 0, (i0 : Int), 2) else (if reserved (txt (sfx s i0) (sfx s j)).data.toList = true then 3 else 1, txt (sfx s i0) (sfx s j), (i0 : Int), (j : Int), 0)) := by
    intro j h1 h2
    have hw : wrap64 ((j : Int) - (i0 : Int)) = ((j - i0 : Nat) : Int) := by unfold wrap64; omega
    by_cases h3 : 32 < j - i0
    · rw [if_pos h3]
      refine Ev.step (fun n => ?_) (Ev.now _)
      simp only [insolvencyref9_token.j3]
      rw [hw, if_pos (by omega)]
    · rw [if_neg h3]
      refine Ev.step (fun n => ?_) (Ev.now _)
      simp only [insolvencyref9_token.j3]
      rw [hw, if_neg (by omega), if_pos (by omega), if_pos (by omega), if_pos (by omega), reserved9_ev]
      simp only [Option.bind_some, Int.toNat_natCast, extract_is s i0 j h1 h2]
      cases reserved (txt (sfx s i0) (sfx s j)).data.toList <;> simp
  induction d with
  | zero =>
    intro i hd h0 hi
    have hr : run isN (sfx s i) = 0 := by rw [sfx_end s i (by omega)]; rfl
    simp only [hr, Nat.add_zero]
    refine Ev.step (fun n => ?_) (j3 i h0 hi)
    simp only [insolvencyref9_token.l0]
    rw [if_neg (by omega)]
  | succ d ih =>
    intro i hd h0 hi
    by_cases hlt : i < s.size
    · obtain ⟨c, hc, hb⟩ := sfx_cons s i hlt
      refine Ev.step (f := fun n => if isN c.toNat = true then insolvencyref9_token.l0 n s i0 ((i + 1 : Nat) : Int) else insolvencyref9_token.j3 n s i0 i) (fun n => ?_) ?_
      · simp only [insolvencyref9_token.l0]
        rw [if_pos (by omega), if_pos (by omega), hb, within_is, wrap_at hlt hs]
        simp only [Option.bind_some]
      · by_cases h : isN c.toNat = true
        · have hr : i + run isN (sfx s i) = i + 1 + run isN (sfx s (i + 1)) := by
            rw [hc]; simp only [run, List.takeWhile_cons, h, if_true, List.length_cons]; omega
          simp only [hr, if_pos h]
          exact ih (i + 1) (by omega) (by omega) (by omega)
        · have hr : run isN (sfx s i) = 0 := by rw [hc]; exact run_zero (by simpa using h)
          simp only [hr, Nat.add_zero, if_neg h]
          exact j3 i h0 hi
    · have hr : run isN (sfx s i) = 0 := by rw [sfx_end s i (by omega)]; rfl
      simp only [hr, Nat.add_zero]
      refine Ev.step (fun n => ?_) (j3 i h0 hi)
      simp only [insolvencyref9_token.l0]
      rw [if_neg (by omega)]

theorem tokEnd_ev (s : ByteArray) (i j : Nat) (hij : i ≤ j) (hj : j ≤ s.size) (f : Nat → Option (Int × ByteArray × Int × Int × Int))
    (hf : ∀ n, f n = if (j : Int) < (s.size : Int) then (if 0 ≤ (j : Int) then ((insolvencyref9_letter.f (bt s j)).bind fun t163 => (if t163 = true then (some (0, (⟨#[]⟩ : ByteArray), 0, (j : Int), 10)) else (if (bt s j) = 46 then (some (0, (⟨#[]⟩ : ByteArray), 0, (j : Int), 10)) else (if (bt s j) = 47 then (some (0, (⟨#[]⟩ : ByteArray), 0, (j : Int), 10)) else (if 0 ≤ (i : Int) then (if (i : Int) ≤ (j : Int) then (if (j : Int) ≤ (s.size : Int) then (some (2, s.extract (i : Int).toNat (j : Int).toNat, (i : Int), (j : Int), 0)) else (none)) else (none)) else (none)))))) else (none)) else (if 0 ≤ (i : Int) then (if (i : Int) ≤ (j : Int) then (if (j : Int) ≤ (s.size : Int) then (some (2, s.extract (i : Int).toNat (j : Int).toNat, (i : Int), (j : Int), 0)) else (none)) else (none)) else (none))) :
    Ev f (if bad (sfx s j) = true then (0, ⟨#[]⟩, 0, (j : Int), 10) else (2, txt (sfx s i) (sfx s j), (i : Int), (j : Int), 0)) := by
  refine ⟨0, fun n _ => ?_⟩
  rw [hf]
  simp only [if_pos (show (0 : Int) ≤ (i : Int) by omega), if_pos (show (i : Int) ≤ (j : Int) by omega), if_pos (show (j : Int) ≤ (s.size : Int) by omega), Int.toNat_natCast, extract_is s i j hij hj]
  by_cases hlt : j < s.size
  · obtain ⟨c, hc, hb⟩ := sfx_cons s j hlt
    have e46 : c = 46 ↔ (c.toNat : Int) = 46 := byte_eq (n := 46) (by omega)
    have e47 : c = 47 ↔ (c.toNat : Int) = 47 := byte_eq (n := 47) (by omega)
    rw [if_pos (by omega), if_pos (by omega), hb, letter9_is, hc]
    simp only [Option.bind_some, bad]
    by_cases hL : isL c.toNat = true
    · simp [hL]
    · have hL' : isL c.toNat = false := by simpa using hL
      simp only [hL', Bool.false_eq_true, if_false, Bool.false_or, decide_eq_true_eq, e46, e47]
      by_cases h1 : (c.toNat : Int) = 46
      · simp [h1]
      · by_cases h2 : (c.toNat : Int) = 47
        · simp [h2]
        · simp [h1, h2]
  · rw [if_neg (by omega)]
    have : bad (sfx s j) = false := by rw [sfx_end s j (by omega)]; rfl
    simp [this]

theorem run_pos_iff (s : ByteArray) (p : Int → Bool) (i : Nat) (h : i < s.size) : (p (bt s (i : Int)) = true ↔ 0 < run p (sfx s i)) := by
  obtain ⟨c, hc, hb⟩ := sfx_cons s i h
  rw [hb, hc]
  constructor
  · exact fun h => run_pos h
  · intro h2
    cases h3 : p c.toNat
    · rw [run_zero h3] at h2; omega
    · rfl

theorem tokD_ev (s : ByteArray) (hs : s.size ≤ 140737488351232) (i : Nat) (c : UInt8) (hi : i < s.size) (hD : isD c.toNat = true) :
    Ev (fun k => insolvencyref9_token.j0 k s i c.toNat false) (let r := numRest (sfx s i); if bad r = true then (0, ⟨#[]⟩, 0, at_ s.size r, 10) else (2, txt (sfx s i) r, (i : Int), at_ s.size r, 0)) := by
  obtain ⟨j, h1, h2, h3, h4⟩ := numRest_sfx s i (by omega)
  simp only [h1, at_sfx s j h3]
  have hb := run_bound s isD i (by omega)
  have j1f : ∀ e : Nat, i ≤ e → e ≤ s.size → Ev (fun k => insolvencyref9_token.j1 k s i e false) (if bad (sfx s e) = true then (0, ⟨#[]⟩, 0, (e : Int), 10) else (2, txt (sfx s i) (sfx s e), (i : Int), (e : Int), 0)) := by
    intro e a b
    refine Ev.step (f := fun n => insolvencyref9_token.j1 (n + 1) s i e false) (fun n => rfl) ?_
    exact tokEnd_ev s i e a b _ (fun n => by simp only [insolvencyref9_token.j1, Bool.false_eq_true, if_false])
  have j1t : ∀ e : Nat, i ≤ e → e < s.size → Ev (fun k => insolvencyref9_token.j1 k s i e true) (let j := e + 1 + run isD (sfx s (e + 1)); if bad (sfx s j) = true then (0, ⟨#[]⟩, 0, (j : Int), 10) else (2, txt (sfx s i) (sfx s j), (i : Int), (j : Int), 0)) := by
    intro e a b
    refine Ev.step (fun n => by simp only [insolvencyref9_token.j1, if_true, wrap_at b hs]; rfl) ?_
    have hb2 := run_bound s isD (e + 1) (by omega)
    refine Ev.bind (digits9_ev s hs (e + 1) (by omega)) ?_
    exact tokEnd_ev s i _ (by omega) hb2 _ (fun n => rfl)
  refine Ev.step (f := fun n => (insolvencyref9_digits.f n s i).bind fun t159 => (if (wrap64 (t159 + 1)) < (s.size : Int) then (if 0 ≤ t159 then (if t159 < (s.size : Int) then (if (bt s t159) = 46 then (if 0 ≤ (wrap64 (t159 + 1)) then ((insolvencyref9_digit.f (bt s (wrap64 (t159 + 1)))).bind fun t160 => (insolvencyref9_token.j1 n s i t159 t160)) else (none)) else (if (bt s t159) = 47 then (if 0 ≤ (wrap64 (t159 + 1)) then ((insolvencyref9_digit.f (bt s (wrap64 (t159 + 1)))).bind fun t161 => (insolvencyref9_token.j1 n s i t159 t161)) else (none)) else (insolvencyref9_token.j1 n s i t159 false))) else (none)) else (none)) else (insolvencyref9_token.j1 n s i t159 false))) (fun n => ?_) ?_
  · simp only [insolvencyref9_token.j0, Bool.false_eq_true, if_false, digit9_is, hD, Option.bind_some, if_true]
  · refine Ev.bind (digits9_ev s hs i (by omega)) ?_
    have hie : i ≤ i + run isD (sfx s i) := Nat.le_add_right _ _
    generalize i + run isD (sfx s i) = e at hb h2 h4 hie ⊢
    have hw : wrap64 ((e : Int) + 1) = ((e + 1 : Nat) : Int) := by unfold wrap64; omega
    simp only [hw]
    by_cases hlt : e + 1 < s.size
    · simp only [if_pos (show ((e + 1 : Nat) : Int) < (s.size : Int) by omega), if_pos (show (0 : Int) ≤ (e : Int) by omega), if_pos (show (e : Int) < (s.size : Int) by omega), if_pos (show (0 : Int) ≤ ((e + 1 : Nat) : Int) by omega), digit9_is, Option.bind_some]
      have hd := run_pos_iff s isD (e + 1) hlt
      by_cases h5 : bt s e = 46 ∨ bt s e = 47
      · have key : Ev (fun n => insolvencyref9_token.j1 n s i e (isD (bt s ((e + 1 : Nat) : Int)))) (if bad (sfx s j) = true then (0, ⟨#[]⟩, 0, (j : Int), 10) else (2, txt (sfx s i) (sfx s j), (i : Int), (j : Int), 0)) := by
          cases h6 : isD (bt s ((e + 1 : Nat) : Int))
          · have hj : j = e := by
              rcases h4 with ⟨_, _, h7, _⟩ | ⟨_, h7⟩
              · rw [← hd, h6] at h7; cases h7
              · exact h7
            rw [hj]
            exact j1f e hie (by omega)
          · have hj : j = e + 1 + run isD (sfx s (e + 1)) := by
              rcases h4 with ⟨_, _, _, h7⟩ | ⟨h7, _⟩
              · exact h7
              · exact absurd ⟨by omega, h5, hd.1 h6⟩ h7
            rw [hj]
            exact j1t e hie (by omega)
        by_cases h46 : bt s e = 46
        · simp only [if_pos h46]; exact key
        · simp only [if_neg h46, if_pos (h5.resolve_left h46)]; exact key
      · have hj : j = e := by
          rcases h4 with ⟨_, h7, _⟩ | ⟨_, h7⟩
          · exact absurd h7 h5
          · exact h7
        simp only [if_neg (fun x => h5 (.inl x)), if_neg (fun x => h5 (.inr x))]
        rw [hj]
        exact j1f e hie (by omega)
    · simp only [if_neg (show ¬ ((e + 1 : Nat) : Int) < (s.size : Int) by omega)]
      have hj : j = e := by
        rcases h4 with ⟨_, _, h7, _⟩ | ⟨_, h7⟩
        · rw [sfx_end s (e + 1) (by omega)] at h7; simp [run] at h7
        · exact h7
      rw [hj]
      exact j1f e hie hb

theorem tok9_ev (s : ByteArray) (hs : s.size ≤ 140737488351232) (i : Nat) (hi : i < s.size) : Ev (fun k => insolvencyref9_token.f k s i) (tok9 s i) := by
  obtain ⟨c, hc, hb⟩ := sfx_cons s i hi
  have e61 : isS c.toNat = true ↔ ((c.toNat : Int) = 61 ∨ (c.toNat : Int) = 44 ∨ (c.toNat : Int) = 59) := by simp [isS]
  have hF : ∀ n, insolvencyref9_token.f n s i = insolvencyref9_token.j0 n s i c.toNat (isS c.toNat) := by
    intro n
    unfold insolvencyref9_token.f
    rw [if_pos (by omega), if_pos (by omega), hb]
    by_cases h1 : (c.toNat : Int) = 61
    · rw [if_pos h1, e61.2 (.inl h1)]
    · rw [if_neg h1]
      by_cases h2 : (c.toNat : Int) = 44
      · rw [if_pos h2, e61.2 (.inr (.inl h2))]
      · rw [if_neg h2]
        by_cases h3 : (c.toNat : Int) = 59
        · rw [e61.2 (.inr (.inr h3)), h3]; rfl
        · have : isS c.toNat = false := by
            cases h : isS c.toNat
            · rfl
            · exact absurd (e61.1 h) (by omega)
          have h3' : ((c.toNat : Int) == 59) = false := beq_eq_false_iff_ne.2 h3
          rw [this, h3']
  refine Ev.congr hF ?_
  unfold tok9
  cases h3 : isS c.toNat
  · by_cases h2 : isD c.toNat = true
    · have h1 : ¬ isL c.toNat = true := fun h => by rw [not_both h] at h2; cases h2
      have hst : stp (sfx s i) = (2, numRest (sfx s i)) := by rw [hc]; simp only [stp, if_neg h1, if_pos h2]
      rw [hst]
      simp only [show ((2 : Int) = 0) ↔ False by decide, show ((2 : Int) = 1) ↔ False by decide, false_and, if_false, show ((2 : Int) = 2) ↔ True by decide, true_and]
      exact tokD_ev s hs i c hi h2
    · by_cases h1 : isL c.toNat = true
      · have hst : stp (sfx s i) = (if reserved ((sfx s i).takeWhile fun c => isN c.toNat) = true then 3 else 1, sfx s (i + run isN (sfx s i))) := by
          rw [← sfx_dropWhile s isN i (by omega), hc]; simp only [stp, if_pos h1]
        have hj := run_bound s isN i (by omega)
        have htk : (sfx s i).takeWhile (fun c => isN c.toNat) = (txt (sfx s i) (sfx s (i + run isN (sfx s i)))).data.toList := by
          unfold txt; rw [sfx_len, sfx_len, show s.size - i - (s.size - (i + run isN (sfx s i))) = run isN (sfx s i) by omega, take_run]
        have hsz := txt_size s i (i + run isN (sfx s i)) (by omega) hj
        have main := tokL_ev s hs i (s.size - i) i (Nat.le_refl _) (Nat.le_refl _) (by omega)
        refine Ev.step (f := fun n => insolvencyref9_token.l0 n s i i) (fun n => ?_) ?_
        · simp only [insolvencyref9_token.j0, Bool.false_eq_true, if_false, digit9_is, h2, Option.bind_some, letter9_is, h1, if_true]
        · refine Eq.mp ?_ main
          congr 1
          rw [hst, htk]
          simp only
          generalize i + run isN (sfx s i) = j at hj hsz
          rw [at_sfx s j hj, sfx_len, sfx_len, show s.size - i - (s.size - j) = j - i by omega]
          cases hr : reserved (txt (sfx s i) (sfx s j)).data.toList
          · simp
          · have hle := reserved_len hr
            have : (txt (sfx s i) (sfx s j)).data.toList.length = (txt (sfx s i) (sfx s j)).size := by simp
            rw [this, hsz] at hle
            simp [show ¬ 32 < j - i by omega]
      · have hst : (stp (sfx s i)).1 = 0 := by rw [hc]; simp [stp, h1, h2, h3]
        rw [if_pos hst]
        refine Ev.step (fun n => ?_) (Ev.now _)
        simp only [insolvencyref9_token.j0, Bool.false_eq_true, if_false, digit9_is, h2, Option.bind_some, letter9_is, h1]
  · have hn := sign_not h3
    have hst : stp (sfx s i) = (4, sfx s (i + 1)) := by rw [hc]; simp only [stp, hn.1, hn.2, h3, Bool.false_eq_true, if_false, if_true]
    rw [hst]
    simp only [show ((4 : Int) = 0) ↔ False by decide, show ((4 : Int) = 1) ↔ False by decide, show ((4 : Int) = 2) ↔ False by decide, false_and, if_false]
    rw [at_sfx s (i + 1) (by omega)]
    refine Ev.step (fun n => ?_) (Ev.now _)
    simp only [insolvencyref9_token.j0, if_true, wrap_at hi hs]
    rw [if_pos (by omega), if_pos (by omega), if_pos (by omega)]
    simp only [Int.toNat_natCast, extract_is s i (i + 1) (by omega) (by omega)]

theorem spl9_ev (s : ByteArray) (hs : s.size ≤ 8192) (d : Nat) : ∀ (i f : Nat) (out : List S35), s.size - i ≤ d → i ≤ s.size → d < f → out.length ≤ 2048 →
    Ev (fun k => insolvencyref9_Split.l0 k s out i) (spl f s.size out (skb false (sfx s i))) ∧ Ev (fun k => insolvencyref9_Split.l1 k s out i) (spl f s.size out (skb true (sfx s i))) := by
  have hs' : s.size ≤ 140737488351232 := by omega
  have hend : ∀ (i f : Nat) (out : List S35), s.size ≤ i → i ≤ s.size → 0 < f → out.length ≤ 2048 →
      Ev (fun k => insolvencyref9_Split.l0 k s out i) (spl f s.size out (skb false (sfx s i))) ∧ Ev (fun k => insolvencyref9_Split.l1 k s out i) (spl f s.size out (skb true (sfx s i))) := by
    intro i f out h1 h2 hf ho
    obtain ⟨f, rfl⟩ : ∃ m, f = m + 1 := ⟨f - 1, by omega⟩
    rw [sfx_end s i h1]
    have h0 : Ev (fun k => insolvencyref9_Split.l0 k s out i) (out ++ [⟨5, ⟨#[]⟩, (s.size : Int)⟩], 0, 0) := by
      refine Ev.step (fun n => ?_) (Ev.now _)
      simp only [insolvencyref9_Split.l0]
      rw [if_neg (by omega), if_pos (by omega)]
    simp only [skb, spl, if_true]
    refine ⟨h0, Ev.step (fun n => ?_) h0⟩
    simp only [insolvencyref9_Split.l1]
    rw [if_neg (by omega)]
  induction d with
  | zero =>
    intro i f out hd hi hf ho
    exact hend i f out (by omega) hi hf ho
  | succ d ih =>
    intro i f out hd hi hf ho
    by_cases hlt : i < s.size
    · obtain ⟨c, hc, hb⟩ := sfx_cons s i hlt
      have e35 : c = 35 ↔ (c.toNat : Int) = 35 := byte_eq (n := 35) (by omega)
      have e10 : c = 10 ↔ (c.toNat : Int) = 10 := byte_eq (n := 10) (by omega)
      have hn := ih (i + 1) f out (by omega) (by omega) (by omega) ho
      have l1step : ∀ n, insolvencyref9_Split.l1 (n + 1) s out i = if c = 10 then insolvencyref9_Split.l0 n s out i else insolvencyref9_Split.l1 n s out ((i + 1 : Nat) : Int) := by
        intro n
        simp only [insolvencyref9_Split.l1]
        rw [if_pos (by omega), if_pos (by omega), hb, wrap_at hlt hs']
        simp only [e10]
      have h0 : Ev (fun k => insolvencyref9_Split.l0 k s out i) (spl f s.size out (skb false (sfx s i))) := by
        have l0step : ∀ n, insolvencyref9_Split.l0 (n + 1) s out i = (if isB c.toNat = true then insolvencyref9_Split.l0 n s out ((i + 1 : Nat) : Int) else if c = 35 then insolvencyref9_Split.l1 n s out i else ((insolvencyref9_token.f n s i).bind fun bt173 => (if bt173.2.2.2.2 = 0 then (if (out.length : Int) ≥ 2048 then (some (([] : List (S35)), (i : Int), 2)) else (insolvencyref9_Split.l0 n s (out ++ [(⟨bt173.1, bt173.2.1, bt173.2.2.1⟩ : S35)]) bt173.2.2.2.1)) else (if (out.length : Int) ≥ 2048 then (insolvencyref9_Split.j2 n i bt173.2.2.2.1 bt173.2.2.2.2 (decide (bt173.2.2.2.1 > (i : Int)))) else (insolvencyref9_Split.j2 n i bt173.2.2.2.1 bt173.2.2.2.2 false))))) := by
          intro n
          simp only [insolvencyref9_Split.l0]
          rw [if_pos (by omega), if_pos (by omega), hb, blank9_is, wrap_at hlt hs']
          simp only [Option.bind_some, e35, if_pos (show out.length < 4398046511104 by omega)]
        refine Ev.step l0step ?_
        rw [hc]
        unfold skb
        by_cases h1 : isB c.toNat = true
        · simp only [if_pos h1]; exact hn.1
        · simp only [if_neg h1]
          by_cases h2 : c = 35
          · simp only [if_pos h2]
            refine Ev.step l1step ?_
            simp only [if_neg (show ¬ c = 10 from fun e => by rw [e] at h2; cases h2)]
            exact hn.2
          · simp only [if_neg h2]
            rw [← hc]
            refine Ev.bind (tok9_ev s hs' i hlt) ?_
            obtain ⟨f, rfl⟩ : ∃ m, f = m + 1 := ⟨f - 1, by omega⟩
            unfold spl tok9
            have hne : sfx s i ≠ [] := by rw [hc]; simp
            rw [if_neg hne, at_sfx s i hi]
            have j2f : ∀ (x y : Int), Ev (fun n => insolvencyref9_Split.j2 n i x y false) ([], x, y) := fun x y => Ev.step (f := fun _ => some (([] : List S35), x, y)) (fun n => by simp [insolvencyref9_Split.j2]) (Ev.now _)
            have j2t : ∀ (x y : Int), Ev (fun n => insolvencyref9_Split.j2 n i x y true) ([], (i : Int), 2) := fun x y => Ev.step (f := fun _ => some (([] : List S35), (i : Int), (2 : Int))) (fun n => by simp [insolvencyref9_Split.j2]) (Ev.now _)
            by_cases k0 : (stp (sfx s i)).1 = 0
            · simp only [if_pos k0, show ((10 : Int) = 0) ↔ False by decide, if_false, show ((i : Int) > (i : Int)) ↔ False from ⟨fun h => absurd h (by omega), False.elim⟩, decide_false, ite_self]
              exact j2f _ _
            · simp only [if_neg k0]
              obtain ⟨j, g1, g2, g3⟩ := stp_sfx s i hlt k0
              by_cases k1 : (stp (sfx s i)).1 = 1 ∧ 32 < (sfx s i).length - (stp (sfx s i)).2.length
              · simp only [if_pos k1, if_pos (Or.inr k1 : 2048 ≤ out.length ∨ _), show ((2 : Int) = 0) ↔ False by decide, if_false, show ((i : Int) > (i : Int)) ↔ False from ⟨fun h => absurd h (by omega), False.elim⟩, decide_false, ite_self]
                exact j2f _ _
              · simp only [if_neg k1]
                by_cases ko : 2048 ≤ out.length
                · simp only [if_pos (show (out.length : Int) ≥ 2048 by omega), if_pos (Or.inl ko : 2048 ≤ out.length ∨ _)]
                  by_cases k2 : (stp (sfx s i)).1 = 2 ∧ bad (stp (sfx s i)).2 = true
                  · simp only [if_pos k2, show ((10 : Int) = 0) ↔ False by decide, if_false]
                    rw [g3, at_sfx s j g2, show decide ((j : Int) > (i : Int)) = true by simp; omega]
                    exact j2t _ _
                  · simp only [if_neg k2, if_true]
                    exact Ev.now _
                · simp only [if_neg (show ¬ (out.length : Int) ≥ 2048 by omega), if_neg (show ¬ (2048 ≤ out.length ∨ (stp (sfx s i)).1 = 1 ∧ 32 < (sfx s i).length - (stp (sfx s i)).2.length) from fun x => x.elim ko k1)]
                  by_cases k2 : (stp (sfx s i)).1 = 2 ∧ bad (stp (sfx s i)).2 = true
                  · simp only [if_pos k2, show ((10 : Int) = 0) ↔ False by decide, if_false]
                    exact j2f _ _
                  · simp only [if_neg k2, if_true]
                    rw [g3, at_sfx s j g2]
                    exact (ih j f _ (by omega) g2 (by omega) (by simp; omega)).1
      refine ⟨h0, Ev.step l1step ?_⟩
      rw [hc] at h0 ⊢
      by_cases h1 : c = 10
      · simp only [if_pos h1]
        have : skb true (c :: sfx s (i + 1)) = skb false (c :: sfx s (i + 1)) := by subst h1; simp [skb, isB]
        rw [this]
        exact h0
      · simp only [if_neg h1]
        have : skb true (c :: sfx s (i + 1)) = skb true (sfx s (i + 1)) := by simp only [skb, if_neg h1]
        rw [this]
        exact hn.2
    · exact hend i f out (by omega) hi (by omega) ho

theorem split9_ev (s : ByteArray) : Ev (fun k => insolvencyref9_Split.f k s) (splitS s.data.toList) := by
  unfold insolvencyref9_Split.f splitS
  have hl : s.data.toList.length = s.size := by simp
  rw [hl]
  by_cases h : 8192 < s.size
  · simp only [if_pos h, if_pos (show (s.size : Int) > 8192 by omega)]
    exact Ev.now _
  · simp only [if_neg h, if_neg (show ¬ (s.size : Int) > 8192 by omega)]
    have := (spl9_ev s (by omega) s.size 0 (s.size + 1) [] (by omega) (by omega) (by omega) (by simp)).1
    rw [sfx_zero] at this
    exact this

theorem same_refl (l : List S35) (hl : l.length ≤ 4398046511104) (d : Nat) : ∀ i : Nat, l.length - i ≤ d → i ≤ l.length → Ev (fun k => insolvencyref9_SameTokens.l0 k l l i) true := by
  induction d with
  | zero =>
    intro i hd hi
    refine Ev.step (fun n => ?_) (Ev.now _)
    simp only [insolvencyref9_SameTokens.l0]
    rw [if_neg (by omega)]
  | succ d ih =>
    intro i hd hi
    by_cases hlt : i < l.length
    · refine Ev.step (fun n => ?_) (ih (i + 1) (by omega) (by omega))
      simp only [insolvencyref9_SameTokens.l0]
      rw [if_pos (by omega), if_pos (by omega), if_pos (by omega), wrap_at hlt (by omega)]
      simp
    · refine Ev.step (fun n => ?_) (Ev.now _)
      simp only [insolvencyref9_SameTokens.l0]
      rw [if_neg (by omega)]
theorem same_ev (l : List S35) (hl : l.length ≤ 4398046511104) : Ev (fun k => insolvencyref9_SameTokens.f k l l) true := by
  unfold insolvencyref9_SameTokens.f
  simp only [if_true]
  exact same_refl l hl _ 0 (Nat.le_refl _) (by omega)
theorem spl_count : ∀ (f n : Nat) (out : List S35) (l : List UInt8), out.length ≤ 2048 → (spl f n out l).1.length ≤ 2049
  | 0, _, _, _, _ => by simp [spl]
  | f + 1, n, out, l, ho => by
    unfold spl
    split
    · simp; omega
    · split
      · simp
      · split
        · simp
        · rename_i h
          split
          · simp
          · exact spl_count f n _ _ (by simp; omega)
theorem splitS_count (l : List UInt8) : (splitS l).1.length ≤ 2049 := by
  unfold splitS
  split
  · simp
  · exact spl_count _ _ _ _ (by simp)
end Go.Proofs.Ytffgmmgfofbmlaa.Lex
