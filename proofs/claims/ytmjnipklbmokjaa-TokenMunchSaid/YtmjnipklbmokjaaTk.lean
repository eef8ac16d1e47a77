/- Tokens of lists of bytes: plain laws, no program in sight; no condition. -/
import Derived.Lib.Strings
import Derived.Lib.IndexMore
namespace Go.Proofs.Ytmjnipklbmokjaa

abbrev Bs := List UInt8
def letterB (c : UInt8) : Bool := (decide (97 ≤ c.toNat) && decide (c.toNat ≤ 122)) || (decide (65 ≤ c.toNat) && decide (c.toNat ≤ 90))
def digitB (c : UInt8) : Bool := decide (48 ≤ c.toNat) && decide (c.toNat ≤ 57)
def alnumB (c : UInt8) : Bool := letterB c || digitB c
def lineB (c : UInt8) : Bool := !(c == 10)
def spaceB (c : UInt8) : Bool := c == 32 || c == 9 || c == 10 || c == 13
def signsL : Bs := [123, 125, 91, 93, 40, 41, 59, 58, 44, 46, 61, 60, 43, 45, 42, 47, 37]
def signB (c : UInt8) : Bool := signsL.contains c
/-- How many bytes of a kind a text begins with. -/
def runL (p : UInt8 → Bool) : Bs → Nat
  | [] => 0
  | c :: t => if p c then runL p t + 1 else 0
/-- How many bytes of spaces and comments a text begins with; 'true': within a comment. -/
def skipL : Bool → Bs → Nat
  | _, [] => 0
  | true, c :: t => if c == 10 then skipL false t + 1 else skipL true t + 1
  | false, c :: t => if spaceB c then skipL false t + 1 else if c == 35 then skipL true t + 1 else 0
def blankS : Bool → Bs → Bool
  | _, [] => true
  | cm, c :: t => if c == 10 then blankS false t else if c == 35 then blankS true t else if !cm && !(c == 32 || c == 9 || c == 13) then false else blankS cm t
def twoB (c : UInt8) (h : Option UInt8) : Bool := (c == 61 && h == some 61) || (c == 45 && h == some 62)
def signN (c : UInt8) (h : Option UInt8) : Nat × Nat := bif twoB c h then (3, 2) else bif signB c then (3, 1) else (0, 0)
/-- The kind and the length of the token that a text begins with. -/
def nextL : Bs → Nat × Nat
  | [] => (0, 0)
  | c :: t => bif letterB c then (1, runL alnumB (c :: t)) else bif digitB c then (2, runL digitB (c :: t)) else signN c t.head?
def mostL : Bs := [57, 50, 50, 51, 51, 55, 50, 48, 51, 54, 56, 53, 52, 55, 55, 53, 56, 48, 56]
def greatL (w : Bs) : Bool := decide (19 < w.length) || (decide (w.length = 19) && (!Op.bytesLess w mostL && !(w == mostL)))
def badL (k : Nat) (w : Bs) : Bool := k == 0 || (k == 2 && decide (1 < w.length) && w.head? == some 48)
def bigL (k : Nat) (w : Bs) : Bool := (k == 1 && decide (16 < w.length)) || (k == 2 && greatL w)

structure Tok where
  kind : Nat
  text : Bs
  pos : Nat
deriving DecidableEq

/-- The tokens of a text that begins with no space; n: how many there were before it, pos: its place. -/
def scanF : Nat → Nat → Nat → Bs → Except (Nat × Nat) (List Tok)
  | 0, _, _, _ => .ok []
  | _ + 1, _, _, [] => .ok []
  | f + 1, n, pos, c :: t =>
    if badL (nextL (c :: t)).1 ((c :: t).take (nextL (c :: t)).2) then .error (1, pos)
    else if bigL (nextL (c :: t)).1 ((c :: t).take (nextL (c :: t)).2) || n == 6000 then .error (4, pos)
    else
      match scanF f (n + 1) (pos + (nextL (c :: t)).2 + skipL false ((c :: t).drop (nextL (c :: t)).2)) (((c :: t).drop (nextL (c :: t)).2).drop (skipL false ((c :: t).drop (nextL (c :: t)).2))) with
      | .ok l => .ok (⟨(nextL (c :: t)).1, (c :: t).take (nextL (c :: t)).2, pos⟩ :: l)
      | .error e => .error e
def scanT (n pos : Nat) (s : Bs) : Except (Nat × Nat) (List Tok) := scanF (s.length + 1) n pos s
def scanA (s : Bs) : Except (Nat × Nat) (List Tok) := if 16384 < s.length then .error (4, 0) else scanT 0 (skipL false s) (s.drop (skipL false s))

theorem runL_le (p : UInt8 → Bool) (s : Bs) : runL p s ≤ s.length := by
  induction s with
  | nil => simp [runL]
  | cons c t ih => unfold runL; split <;> simp <;> omega
theorem skipL_le (b : Bool) (s : Bs) : skipL b s ≤ s.length := by
  induction s generalizing b with
  | nil => simp [skipL]
  | cons c t ih =>
    have h1 := ih true
    have h2 := ih false
    cases b <;> unfold skipL
    · split
      · simp; omega
      · split <;> simp <;> omega
    · split <;> simp <;> omega
theorem digit_not_letter {c : UInt8} (h : digitB c = true) : letterB c = false := by
  simp [digitB] at h
  simp [letterB]; omega
theorem signN_pos (c : UInt8) (h : Option UInt8) (hk : (signN c h).1 ≠ 0) : 1 ≤ (signN c h).2 := by
  unfold signN at *
  cases ht : twoB c h with
  | true => simp
  | false =>
    cases hs : signB c with
    | true => simp
    | false => simp [ht, hs] at hk
theorem nextL_letter {c : UInt8} (t : Bs) (h1 : letterB c = true) : nextL (c :: t) = (1, runL alnumB (c :: t)) := by simp only [nextL, h1, cond_true]
theorem nextL_digit {c : UInt8} (t : Bs) (h1 : letterB c = false) (h2 : digitB c = true) : nextL (c :: t) = (2, runL digitB (c :: t)) := by simp only [nextL, h1, h2, cond_true, cond_false]
theorem nextL_sign {c : UInt8} (t : Bs) (h1 : letterB c = false) (h2 : digitB c = false) : nextL (c :: t) = signN c t.head? := by simp only [nextL, h1, h2, cond_false]
theorem nextL_pos (s : Bs) (h : (nextL s).1 ≠ 0) : 1 ≤ (nextL s).2 := by
  cases s with
  | nil => simp [nextL] at h
  | cons c t =>
    cases h1 : letterB c with
    | true => rw [nextL_letter t h1]; simp [runL, alnumB, h1]
    | false =>
      cases h2 : digitB c with
      | true => rw [nextL_digit t h1 h2]; simp [runL, h2]
      | false => rw [nextL_sign t h1 h2] at h ⊢; exact signN_pos _ _ h
theorem nextL_le (s : Bs) : (nextL s).2 ≤ s.length := by
  cases s with
  | nil => simp [nextL]
  | cons c t =>
    cases h1 : letterB c with
    | true => rw [nextL_letter t h1]; exact runL_le _ _
    | false =>
      cases h2 : digitB c with
      | true => rw [nextL_digit t h1 h2]; exact runL_le _ _
      | false =>
        rw [nextL_sign t h1 h2]
        unfold signN
        cases h3 : twoB c t.head? with
        | true =>
          cases t with
          | nil => simp [twoB] at h3
          | cons d t => simp
        | false => cases signB c <;> simp
theorem badL_zero {k : Nat} {w : Bs} (h : badL k w = false) : k ≠ 0 := by
  rintro rfl
  simp [badL] at h

theorem scanF_fuel (f : Nat) : ∀ (g n pos : Nat) (s : Bs), s.length < f → s.length < g → scanF f n pos s = scanF g n pos s := by
  induction f with
  | zero => intro g n pos s h; omega
  | succ f ih =>
    intro g n pos s h1 h2
    cases g with
    | zero => omega
    | succ g =>
      cases s with
      | nil => rfl
      | cons c t =>
        unfold scanF
        cases hb : badL (nextL (c :: t)).1 ((c :: t).take (nextL (c :: t)).2) with
        | true => rfl
        | false =>
          have hp := nextL_pos (c :: t) (badL_zero hb)
          rw [ih g]
          · simp only [List.length_drop]; simp at h1 ⊢; omega
          · simp only [List.length_drop]; simp at h2 ⊢; omega
theorem scanT_nil (n pos : Nat) : scanT n pos [] = .ok [] := rfl
theorem scanT_step (n pos : Nat) (s : Bs) (h : s ≠ []) : scanT n pos s =
    if badL (nextL s).1 (s.take (nextL s).2) then .error (1, pos)
    else if bigL (nextL s).1 (s.take (nextL s).2) || n == 6000 then .error (4, pos)
    else
      match scanT (n + 1) (pos + (nextL s).2 + skipL false (s.drop (nextL s).2)) ((s.drop (nextL s).2).drop (skipL false (s.drop (nextL s).2))) with
      | .ok l => .ok (⟨(nextL s).1, s.take (nextL s).2, pos⟩ :: l)
      | .error e => .error e := by
  cases s with
  | nil => exact absurd rfl h
  | cons c t =>
    unfold scanT
    rw [show (c :: t).length + 1 = (t.length + 1) + 1 from rfl]
    conv => lhs; unfold scanF
    cases hb : badL (nextL (c :: t)).1 ((c :: t).take (nextL (c :: t)).2) with
    | true => rfl
    | false =>
      have hp := nextL_pos (c :: t) (badL_zero hb)
      rw [scanF_fuel (t.length + 1) _ _ _ _ (by simp only [List.length_drop]; simp; omega) (Nat.lt_succ_self _)]

/-- What was found before stands ahead of what is still found. -/
def ahead (l : List Tok) : Except (Nat × Nat) (List Tok) → Except (Nat × Nat) (List Tok)
  | .ok m => .ok (l ++ m)
  | .error e => .error e
theorem ahead_nil (r : Except (Nat × Nat) (List Tok)) : ahead [] r = r := by cases r <;> rfl
theorem ahead_snoc (l : List Tok) (t : Tok) (r : Except (Nat × Nat) (List Tok)) : ahead (l ++ [t]) r = ahead l (match r with | .ok m => .ok (t :: m) | .error e => .error e) := by
  cases r <;> simp [ahead]

/-! The words of the walk: the text from a place on. -/
theorem drop_drop' (s : Bs) (a b : Nat) : (s.drop a).drop b = s.drop (a + b) := by rw [List.drop_drop]
theorem drop_cons (s : Bs) (k : Nat) (h : k < s.length) : s.drop k = s[k] :: s.drop (k + 1) := (List.drop_eq_getElem_cons h)
theorem runL_at (p : UInt8 → Bool) (s : Bs) (k : Nat) (h : k < s.length) : runL p (s.drop k) = if p s[k] then runL p (s.drop (k + 1)) + 1 else 0 := by
  rw [drop_cons s k h]; rfl
theorem runL_end (p : UInt8 → Bool) (s : Bs) (k : Nat) (h : s.length ≤ k) : runL p (s.drop k) = 0 := by
  rw [List.drop_of_length_le h]; rfl
theorem skipL_at (s : Bs) (k : Nat) (h : k < s.length) : skipL false (s.drop k) = if spaceB s[k] then skipL false (s.drop (k + 1)) + 1 else if s[k] == 35 then skipL true (s.drop (k + 1)) + 1 else 0 := by
  rw [drop_cons s k h]; rfl
theorem skipL_end (b : Bool) (s : Bs) (k : Nat) (h : s.length ≤ k) : skipL b (s.drop k) = 0 := by
  rw [List.drop_of_length_le h]; cases b <;> rfl
/-- A comment runs to the end of its line. -/
theorem skipL_comment (s : Bs) : skipL true s = runL lineB s + skipL false (s.drop (runL lineB s)) := by
  induction s with
  | nil => rfl
  | cons c t ih =>
    by_cases h : c = 10
    · subst h
      show skipL false t + 1 = 0 + skipL false ((10 : UInt8) :: t)
      rw [Nat.zero_add]
      rfl
    · have h1 : (c == 10) = false := by simpa using h
      have h2 : runL lineB (c :: t) = runL lineB t + 1 := by simp [runL, lineB, h]
      rw [h2, List.drop_succ_cons]
      have h3 : skipL true (c :: t) = skipL true t + 1 := by simp [skipL, h]
      rw [h3, ih]; omega
theorem skipL_hash (s : Bs) (k : Nat) (h : k < s.length) (h35 : s[k] = 35) : skipL false (s.drop k) = runL lineB (s.drop k) + skipL false (s.drop (k + runL lineB (s.drop k))) := by
  rw [skipL_at s k h, h35, runL_at _ s k h, h35]
  have e : (if spaceB 35 = true then skipL false (s.drop (k + 1)) + 1 else if (35 : UInt8) == 35 then skipL true (s.drop (k + 1)) + 1 else 0) = skipL true (s.drop (k + 1)) + 1 := by simp [spaceB]
  have e2 : (if lineB 35 = true then runL lineB (s.drop (k + 1)) + 1 else 0) = runL lineB (s.drop (k + 1)) + 1 := by simp [lineB]
  rw [e, e2, skipL_comment, List.drop_drop]
  rw [show k + (runL lineB (s.drop (k + 1)) + 1) = k + 1 + runL lineB (s.drop (k + 1)) by omega]
  omega
end Go.Proofs.Ytmjnipklbmokjaa
