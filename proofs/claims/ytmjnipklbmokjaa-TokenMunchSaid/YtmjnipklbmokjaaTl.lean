/- Laws of the tokens of lists of bytes, for the statements on places, joins, returns and limits; no program in sight; no condition. -/
import Derived.Test.YtmjnipklbmokjaaTk
namespace Go.Proofs.Ytmjnipklbmokjaa

/-! ### An induction over what is scanned -/
theorem take_ne_nil {s : Bs} {n : Nat} (h : s ≠ []) (hn : 1 ≤ n) : s.take n ≠ [] := by
  cases s with
  | nil => exact absurd rfl h
  | cons c t =>
    obtain ⟨m, rfl⟩ : ∃ m, n = m + 1 := ⟨n - 1, by omega⟩
    simp
/-- One step where all is well. -/
theorem scanT_ok_inv {n pos : Nat} {s : Bs} {l : List Tok} (hs : s ≠ []) (h : scanT n pos s = .ok l) :
    ∃ m, badL (nextL s).1 (s.take (nextL s).2) = false ∧ bigL (nextL s).1 (s.take (nextL s).2) = false ∧ n ≠ 6000 ∧
      scanT (n + 1) (pos + (nextL s).2 + skipL false (s.drop (nextL s).2)) ((s.drop (nextL s).2).drop (skipL false (s.drop (nextL s).2))) = .ok m ∧
      l = ⟨(nextL s).1, s.take (nextL s).2, pos⟩ :: m := by
  rw [scanT_step n pos s hs] at h
  cases hb : badL (nextL s).1 (s.take (nextL s).2) with
  | true => simp [hb] at h
  | false =>
    cases hg : bigL (nextL s).1 (s.take (nextL s).2) with
    | true => simp [hb, hg] at h
    | false =>
      by_cases hn : n = 6000
      · subst hn; simp [hb, hg] at h
      · simp only [hb, hg, Bool.false_or, Bool.false_eq_true, if_false] at h
        have hn' : (n == 6000) = false := by simpa using hn
        rw [hn'] at h
        simp only [Bool.false_eq_true, if_false] at h
        split at h
        · rename_i m hm
          injection h with h
          exact ⟨m, rfl, rfl, hn, hm, h.symm⟩
        · cases h
theorem scanT_ok_mk {n pos : Nat} {s : Bs} {m : List Tok} (hs : s ≠ []) (hb : badL (nextL s).1 (s.take (nextL s).2) = false) (hg : bigL (nextL s).1 (s.take (nextL s).2) = false) (hn : n ≠ 6000)
    (h : scanT (n + 1) (pos + (nextL s).2 + skipL false (s.drop (nextL s).2)) ((s.drop (nextL s).2).drop (skipL false (s.drop (nextL s).2))) = .ok m) :
    scanT n pos s = .ok (⟨(nextL s).1, s.take (nextL s).2, pos⟩ :: m) := by
  rw [scanT_step n pos s hs, hb, hg, h]
  have hn' : (n == 6000) = false := by simpa using hn
  simp [hn']

/-! ### Places -/
theorem blank_take (b : Bool) (s : Bs) : blankS b (s.take (skipL b s)) = true := by
  induction s generalizing b with
  | nil => simp [blankS]
  | cons c t ih =>
    have h1 := ih true
    have h2 := ih false
    cases b with
    | false =>
      by_cases hs : spaceB c = true
      · have e : skipL false (c :: t) = skipL false t + 1 := by simp [skipL, hs]
        rw [e, List.take_succ_cons]
        by_cases h10 : c = 10
        · subst h10; simpa [blankS] using h2
        · have h35 : c ≠ 35 := by rintro rfl; simp [spaceB] at hs
          have hs' : (c == 32 || c == 9 || c == 13) = true := by simp [spaceB] at hs ⊢; simp_all
          simp only [blankS]
          rw [if_neg (by simpa using h10), if_neg (by simpa using h35), hs']
          simpa using h2
      · by_cases h35 : c = 35
        · subst h35
          have e : skipL false (35 :: t) = skipL true t + 1 := by simp [skipL, spaceB]
          rw [e, List.take_succ_cons]
          simpa [blankS] using h1
        · have e : skipL false (c :: t) = 0 := by simp [skipL, hs, h35]
          rw [e]; simp [blankS]
    | true =>
      by_cases h10 : c = 10
      · subst h10
        have e : skipL true (10 :: t) = skipL false t + 1 := by simp [skipL]
        rw [e, List.take_succ_cons]
        simpa [blankS] using h2
      · have e : skipL true (c :: t) = skipL true t + 1 := by simp [skipL, h10]
        rw [e, List.take_succ_cons]
        simp only [blankS]
        rw [if_neg (by simpa using h10)]
        split
        · exact h1
        · simpa using h1

/-- The tokens lie in their text, in order, from a place on, and nothing but blanks lies between them. -/
def PlacesOK (x : Bs) : Nat → List Tok → Prop
  | at_, [] => at_ ≤ x.length ∧ blankS false (x.drop at_) = true
  | at_, t :: l => at_ ≤ t.pos ∧ t.pos + t.text.length ≤ x.length ∧ (x.drop t.pos).take t.text.length = t.text ∧ t.text ≠ [] ∧ blankS false ((x.drop at_).take (t.pos - at_)) = true ∧ PlacesOK x (t.pos + t.text.length) l

theorem places_scan (x : Bs) (f : Nat) : ∀ (n at_ : Nat) (l : List Tok), x.length - at_ ≤ f → at_ ≤ x.length →
    scanT n (at_ + skipL false (x.drop at_)) ((x.drop at_).drop (skipL false (x.drop at_))) = .ok l → PlacesOK x at_ l := by
  induction f with
  | zero =>
    intro n at_ l hf hle h
    have e : x.drop at_ = [] := List.drop_of_length_le (by omega)
    rw [e] at h
    rw [show ([] : Bs).drop (skipL false []) = [] by simp] at h
    rw [scanT_nil] at h
    injection h with h
    subst h
    exact ⟨hle, by rw [e]; rfl⟩
  | succ f ih =>
    intro n at_ l hf hle h
    have hk := skipL_le false (x.drop at_)
    have hb := blank_take false (x.drop at_)
    rw [List.length_drop] at hk
    generalize hK : skipL false (x.drop at_) = k at h hk hb
    by_cases hs : (x.drop at_).drop k = []
    · rw [hs, scanT_nil] at h
      injection h with h
      subst h
      have : (x.drop at_).length ≤ k := by
        have := congrArg List.length hs
        simp at this
        rw [List.length_drop]; omega
      rw [List.take_of_length_le this] at hb
      exact ⟨hle, hb⟩
    · obtain ⟨m, h1, h2, h3, h4, rfl⟩ := scanT_ok_inv hs h
      have hp := nextL_pos _ (badL_zero h1)
      have hl := nextL_le ((x.drop at_).drop k)
      have hlen : ((x.drop at_).drop k).length = x.length - at_ - k := by rw [List.length_drop, List.length_drop]
      have hpos : 0 < ((x.drop at_).drop k).length := List.length_pos_iff.2 hs
      rw [List.drop_drop] at h1 h2 h4 hs hp hl hlen hpos ⊢
      generalize hL : (nextL (x.drop (at_ + k))).2 = ln at *
      rw [hlen] at hl hpos
      have htl : ((x.drop (at_ + k)).take ln).length = ln := by rw [List.length_take, hlen]; omega
      refine ⟨by simp, by rw [htl]; simp only []; omega, by rw [htl], take_ne_nil hs hp, ?_, ?_⟩
      · simp only [Nat.add_sub_cancel_left]; exact hb
      · simp only [htl]
        refine ih (n + 1) (at_ + k + ln) m (by omega) (by omega) ?_
        rw [List.drop_drop] at h4
        exact h4
theorem places_all (x : Bs) (l : List Tok) (h : scanA x = .ok l) : PlacesOK x 0 l := by
  unfold scanA at h
  split at h
  · cases h
  · refine places_scan x x.length 0 0 l (by omega) (by omega) ?_
    simpa using h

/-! ### Shifts, and how many tokens there can be -/
/-- Tokens at other places. -/
def shiftR (d : Nat) : Except (Nat × Nat) (List Tok) → Except (Nat × Nat) (List Tok)
  | .ok l => .ok (l.map fun t => { t with pos := t.pos + d })
  | .error e => .error (e.1, e.2 + d)
theorem scanF_shift (f : Nat) : ∀ (n m pos d : Nat) (s : Bs), n + s.length ≤ 6000 → m + s.length ≤ 6000 → scanF f m (pos + d) s = shiftR d (scanF f n pos s) := by
  induction f with
  | zero => intro n m pos d s _ _; rfl
  | succ f ih =>
    intro n m pos d s h1 h2
    cases s with
    | nil => rfl
    | cons c t =>
      unfold scanF
      cases hb : badL (nextL (c :: t)).1 ((c :: t).take (nextL (c :: t)).2) with
      | true => rfl
      | false =>
        have hp := nextL_pos (c :: t) (badL_zero hb)
        simp only [List.length_cons] at h1 h2
        have e1 : (n == 6000) = false := by simp; omega
        have e2 : (m == 6000) = false := by simp; omega
        rw [e1, e2]
        have hlen : (((c :: t).drop (nextL (c :: t)).2).drop (skipL false ((c :: t).drop (nextL (c :: t)).2))).length ≤ t.length := by simp only [List.length_drop, List.length_cons]; omega
        have := ih (n + 1) (m + 1) (pos + (nextL (c :: t)).2 + skipL false ((c :: t).drop (nextL (c :: t)).2)) d (((c :: t).drop (nextL (c :: t)).2).drop (skipL false ((c :: t).drop (nextL (c :: t)).2))) (by omega) (by omega)
        rw [show pos + d + (nextL (c :: t)).2 + skipL false ((c :: t).drop (nextL (c :: t)).2) = pos + (nextL (c :: t)).2 + skipL false ((c :: t).drop (nextL (c :: t)).2) + d by omega, this]
        cases bigL (nextL (c :: t)).1 ((c :: t).take (nextL (c :: t)).2) with
        | true => rfl
        | false =>
          cases scanF f (n + 1) (pos + (nextL (c :: t)).2 + skipL false ((c :: t).drop (nextL (c :: t)).2)) (((c :: t).drop (nextL (c :: t)).2).drop (skipL false ((c :: t).drop (nextL (c :: t)).2))) <;> rfl
theorem scanT_shift (n m pos d : Nat) (s : Bs) (h1 : n + s.length ≤ 6000) (h2 : m + s.length ≤ 6000) : scanT m (pos + d) s = shiftR d (scanT n pos s) := scanF_shift _ n m pos d s h1 h2

/-! ### Joins: a line end cuts -/
theorem runL_cut (p : UInt8 → Bool) (hp : p 10 = false) (s r : Bs) : runL p (s ++ 10 :: r) = runL p s := by
  induction s with
  | nil => simp [runL, hp]
  | cons c t ih => simp [runL, ih]
theorem skipL_cut (b : Bool) (s r : Bs) : skipL b (s ++ 10 :: r) = if skipL b s = s.length then s.length + 1 + skipL false r else skipL b s := by
  induction s generalizing b with
  | nil => cases b <;> simp [skipL, spaceB] <;> omega
  | cons c t ih =>
    have h1 := ih true
    have h2 := ih false
    have key : ∀ b, (if skipL b t = t.length then t.length + 1 + skipL false r else skipL b t) + 1 = if skipL b t + 1 = t.length + 1 then t.length + 1 + 1 + skipL false r else skipL b t + 1 := by
      intro b
      by_cases e : skipL b t = t.length
      · rw [if_pos e, if_pos (by omega)]; omega
      · rw [if_neg e, if_neg (by omega)]
    rw [List.cons_append, List.length_cons]
    cases b with
    | true =>
      by_cases h : (c == 10) = true
      · have e : ∀ u, skipL true (c :: u) = skipL false u + 1 := fun u => by simp only [skipL]; rw [if_pos h]
        rw [e, e, h2]; exact key false
      · have e : ∀ u, skipL true (c :: u) = skipL true u + 1 := fun u => by simp only [skipL]; rw [if_neg h]
        rw [e, e, h1]; exact key true
    | false =>
      by_cases h : spaceB c = true
      · have e : ∀ u, skipL false (c :: u) = skipL false u + 1 := fun u => by simp only [skipL]; rw [if_pos h]
        rw [e, e, h2]; exact key false
      · by_cases h' : (c == 35) = true
        · have e : ∀ u, skipL false (c :: u) = skipL true u + 1 := fun u => by simp only [skipL]; rw [if_neg h, if_pos h']
          rw [e, e, h1]; exact key true
        · have e : ∀ u, skipL false (c :: u) = 0 := fun u => by simp only [skipL]; rw [if_neg h, if_neg h']
          rw [e, e, if_neg (by omega)]
theorem nextL_cut (s r : Bs) (hs : s ≠ []) : nextL (s ++ 10 :: r) = nextL s := by
  cases s with
  | nil => exact absurd rfl hs
  | cons c t =>
    have e1 : runL alnumB (c :: (t ++ 10 :: r)) = runL alnumB (c :: t) := runL_cut alnumB (by decide) (c :: t) r
    have e2 : runL digitB (c :: (t ++ 10 :: r)) = runL digitB (c :: t) := runL_cut digitB (by decide) (c :: t) r
    have e3 : signN c (t ++ 10 :: r).head? = signN c t.head? := by
      cases t with
      | nil => simp [signN, twoB]
      | cons d t => rfl
    rw [List.cons_append]
    simp only [nextL, e1, e2, e3]

/-- What a text joined by a line end gives. -/
def joinR (x y : Except (Nat × Nat) (List Tok)) : Except (Nat × Nat) (List Tok) :=
  match x with
  | .error e => .error e
  | .ok l => ahead l y
theorem scanT_cut (f : Nat) : ∀ (n pos : Nat) (s r : Bs), s.length ≤ f → n + s.length + r.length + 1 ≤ 6000 →
    scanT n (pos + skipL false (s ++ 10 :: r)) ((s ++ 10 :: r).drop (skipL false (s ++ 10 :: r))) =
      joinR (scanT n (pos + skipL false s) (s.drop (skipL false s))) (scanT 0 (pos + s.length + 1 + skipL false r) (r.drop (skipL false r))) := by
  induction f with
  | zero =>
    intro n pos s r hf hn
    obtain rfl : s = [] := List.eq_nil_of_length_eq_zero (by omega)
    have e := skipL_cut false [] r
    simp only [List.nil_append, List.length_nil] at e
    rw [if_pos (by rfl)] at e
    simp only [List.nil_append, e, List.length_nil]
    rw [show 0 + 1 + skipL false r = skipL false r + 1 by omega, List.drop_succ_cons]
    simp only [joinR, skipL, List.drop_nil, scanT_nil, ahead_nil]
    have hsk := skipL_le false r
    rw [show pos + (skipL false r + 1) = pos + 0 + 1 + skipL false r by omega]
    have := scanT_shift 0 n (pos + 0 + 1 + skipL false r) 0 (r.drop (skipL false r)) (by simp at hn ⊢; omega) (by simp at hn ⊢; omega)
    rw [Nat.add_zero] at this
    rw [this]
    cases scanT 0 (pos + 0 + 1 + skipL false r) (r.drop (skipL false r)) <;> simp [shiftR]
  | succ f ih =>
    intro n pos s r hf hn
    rw [skipL_cut]
    have hsk := skipL_le false s
    by_cases hall : skipL false s = s.length
    · rw [if_pos hall, hall, List.drop_length]
      have e1 : (s ++ 10 :: r).drop (s.length + 1 + skipL false r) = r.drop (skipL false r) := by
        rw [List.drop_append, List.drop_of_length_le (by omega), List.nil_append, show s.length + 1 + skipL false r - s.length = skipL false r + 1 by omega, List.drop_succ_cons]
      rw [e1, scanT_nil]
      simp only [joinR, ahead_nil]
      have hskr := skipL_le false r
      have := scanT_shift 0 n (pos + s.length + 1 + skipL false r) 0 (r.drop (skipL false r)) (by simp; omega) (by simp; omega)
      rw [Nat.add_zero] at this
      rw [show pos + (s.length + 1 + skipL false r) = pos + s.length + 1 + skipL false r by omega, this]
      cases scanT 0 (pos + s.length + 1 + skipL false r) (r.drop (skipL false r)) <;> simp [shiftR]
    · rw [if_neg hall]
      have e1 : (s ++ 10 :: r).drop (skipL false s) = s.drop (skipL false s) ++ 10 :: r := by
        rw [List.drop_append, show skipL false s - s.length = 0 by omega, List.drop_zero]
      rw [e1]
      have hne : s.drop (skipL false s) ≠ [] := by
        intro h
        have := congrArg List.length h
        simp at this
        omega
      have hlen : (s.drop (skipL false s)).length = s.length - skipL false s := by simp
      generalize hK : skipL false s = k at *
      generalize hS : s.drop k = u at *
      have hnx := nextL_cut u r hne
      have hnl := nextL_le u
      have hne2 : u ++ 10 :: r ≠ [] := by simp
      rw [scanT_step n _ (u ++ 10 :: r) hne2, scanT_step n _ u hne, hnx]
      have etk : (u ++ 10 :: r).take (nextL u).2 = u.take (nextL u).2 := by
        rw [List.take_append_of_le_length hnl]
      have edr : (u ++ 10 :: r).drop (nextL u).2 = u.drop (nextL u).2 ++ 10 :: r := by
        rw [List.drop_append, show (nextL u).2 - u.length = 0 by omega, List.drop_zero]
      rw [etk, edr]
      cases hb : badL (nextL u).1 (u.take (nextL u).2) with
      | true => simp [joinR]
      | false =>
        have hp := nextL_pos u (badL_zero hb)
        have hn6 : (n == 6000) = false := by simp; omega
        rw [hn6]
        cases hg : bigL (nextL u).1 (u.take (nextL u).2) with
        | true => simp [joinR]
        | false =>
          simp only [Bool.or_false, Bool.false_eq_true, if_false]
          have := ih (n + 1) (pos + k + (nextL u).2) (u.drop (nextL u).2) r (by simp; omega) (by simp; omega)
          rw [this]
          have hl2 : pos + k + (nextL u).2 + (u.drop (nextL u).2).length = pos + s.length := by simp; omega
          rw [hl2]
          cases scanT (n + 1) (pos + k + (nextL u).2 + skipL false (u.drop (nextL u).2)) ((u.drop (nextL u).2).drop (skipL false (u.drop (nextL u).2))) with
          | error e => rfl
          | ok l =>
            simp only [joinR]
            cases scanT 0 (pos + s.length + 1 + skipL false r) (r.drop (skipL false r)) <;> rfl
theorem scanA_join (a b : Bs) (ha : a.length ≤ 1000) (hb : b.length ≤ 1000) : scanA (a ++ 10 :: b) = joinR (scanA a) (shiftR (a.length + 1) (scanA b)) := by
  have hskb := skipL_le false b
  unfold scanA
  rw [if_neg (by simp; omega), if_neg (by omega), if_neg (by omega)]
  have := scanT_cut a.length 0 0 a b (Nat.le_refl _) (by omega)
  simp only [Nat.zero_add] at this
  rw [this, ← scanT_shift 0 0 (skipL false b) (a.length + 1) (b.drop (skipL false b)) (by simp; omega) (by simp; omega)]
  rw [show a.length + 1 + skipL false b = skipL false b + (a.length + 1) by omega]
end Go.Proofs.Ytmjnipklbmokjaa
