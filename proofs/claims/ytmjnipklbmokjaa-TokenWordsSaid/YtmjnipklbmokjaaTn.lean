/- Laws of the reserved words, in plain lists of bytes; no condition. -/
import Derived.Test.YtmjnipklbmokjaaTk
namespace Go.Proofs.Ytmjnipklbmokjaa
set_option linter.unusedVariables false

theorem index_infix (s sub : Bs) : 0 ≤ Lib.index s sub ↔ sub <:+: s := by
  induction s with
  | nil =>
    unfold Lib.index
    cases sub with
    | nil => simp
    | cons c t => simp
  | cons b l ih =>
    have hge := Lib.index_ge l sub
    unfold Lib.index
    rw [List.infix_cons_iff, ← List.isPrefixOf_iff_prefix, ← ih]
    cases h : sub.isPrefixOf (b :: l) with
    | true => simp
    | false =>
      simp only [Bool.false_eq_true, if_false, false_or]
      by_cases h2 : Lib.index l sub = -1
      · simp [h2]
      · have h3 : (Lib.index l sub == -1) = false := by simpa using h2
        rw [h3]
        simp only [Bool.false_eq_true, if_false]
        omega
/-- Words that lie between spaces. -/
def spaced : List Bs → Bs
  | [] => []
  | w :: l => w ++ 32 :: spaced l
theorem cut_eq (a b : Bs) (r q : Bs) (ha : 32 ∉ a) (hb : 32 ∉ b) (h : a ++ 32 :: r = b ++ 32 :: q) : a = b ∧ r = q := by
  induction a generalizing b with
  | nil =>
    cases b with
    | nil => simp at h; exact ⟨rfl, h⟩
    | cons c t => simp at h; exact absurd (by rw [h.1]; simp) hb
  | cons c a ih =>
    cases b with
    | nil => simp at h; exact absurd (by rw [h.1]; simp) ha
    | cons d b =>
      simp only [List.cons_append, List.cons.injEq] at h
      obtain ⟨h1, h2⟩ := ih b (fun h => ha (List.mem_cons_of_mem _ h)) (fun h => hb (List.mem_cons_of_mem _ h)) h.2
      exact ⟨by rw [h.1, h1], h2⟩
theorem behind_word (w : Bs) (hw : 32 ∉ w) : ∀ (a r q : Bs), w ++ 32 :: r = a ++ 32 :: q → a = w ∨ ∃ a', a = w ++ 32 :: a' ∧ r = a' ++ 32 :: q := by
  intro a
  by_cases ha : 32 ∈ a
  · intro r q h
    right
    induction w generalizing a with
    | nil =>
      cases a with
      | nil => simp at ha
      | cons c t => simp at h; exact ⟨t, by rw [h.1]; rfl, h.2⟩
    | cons c w ih =>
      cases a with
      | nil => simp at ha
      | cons d t =>
        simp only [List.cons_append, List.cons.injEq] at h
        have hd : d ≠ 32 := by rintro rfl; exact hw (by rw [h.1]; simp)
        have ht : 32 ∈ t := by
          rcases List.mem_cons.1 ha with e | e
          · exact absurd e.symm hd
          · exact e
        obtain ⟨a', e1, e2⟩ := ih (fun h => hw (List.mem_cons_of_mem _ h)) t ht h.2
        exact ⟨a', by rw [h.1, e1]; rfl, e2⟩
  · intro r q h
    exact .inl (cut_eq w a r q hw ha h).1.symm
theorem infix_words (ws : List Bs) (s : Bs) (hs : 32 ∉ s) (hne : s ≠ []) (hws : ∀ w ∈ ws, 32 ∉ w) : (32 :: (s ++ [32])) <:+: (32 :: spaced ws) ↔ s ∈ ws := by
  induction ws with
  | nil =>
    constructor
    · rintro ⟨a, b, h⟩
      have := congrArg List.length h
      simp [spaced] at this
      omega
    · intro h; simp at h
  | cons w ws ih =>
    have ih' := ih fun v hv => hws v (by simp [hv])
    have hw := hws w (by simp)
    rw [List.mem_cons, ← ih']
    constructor
    · rintro ⟨a, b, h⟩
      simp only [List.append_assoc, List.cons_append, spaced, List.nil_append] at h
      cases a with
      | nil =>
        simp only [List.nil_append, List.cons.injEq, true_and] at h
        exact .inl (cut_eq s w b (spaced ws) hs hw h).1
      | cons c a =>
        simp only [List.cons_append, List.cons.injEq] at h
        obtain ⟨rfl, h⟩ := h
        rcases behind_word w hw a (spaced ws) _ h.symm with e | ⟨a', e1, e2⟩
        · subst e
          right
          have h' : s ++ 32 :: b = spaced ws := by
            have := List.append_cancel_left h
            simpa using this
          exact ⟨[], b, by simp [← h']⟩
        · right
          exact ⟨32 :: a', b, by simp [e2]⟩
    · rintro (rfl | ⟨a, b, h⟩)
      · exact ⟨[], spaced ws, by simp [spaced]⟩
      · refine ⟨32 :: w ++ a, b, ?_⟩
        have : spaced (w :: ws) = w ++ (32 :: spaced ws) := rfl
        rw [this, ← h]
        simp
/-- The reserved words. -/
def wordsL : List Bs := [[108, 105, 98, 114, 97, 114, 121], [99, 108, 105, 101, 110, 116], [105, 110, 116, 101, 114, 102, 97, 99, 101], [114, 101, 108, 101, 97, 115, 101], [105, 109, 112, 111, 114, 116], [115, 105, 110, 99, 101], [112, 117, 98, 108, 105, 99], [102, 114, 111, 122, 101, 110], [115, 101, 97, 108, 101, 100], [105, 110, 108, 105, 110, 101], [105, 110, 100, 105, 114, 101, 99, 116], [115, 116, 114, 117, 99, 116], [117, 110, 105, 111, 110], [116, 114, 97, 105, 116], [99, 111, 110, 102, 111, 114, 109], [102, 111, 114], [102, 117, 110, 99], [100, 101, 102, 97, 117, 108, 116], [108, 101, 116], [105, 110], [105, 102], [116, 104, 101, 110], [101, 108, 115, 101], [112, 114, 105, 110, 116], [116, 114, 117, 101], [102, 97, 108, 115, 101], [99, 97, 115, 101], [111, 102], [99, 97, 108, 108], [109, 97, 116, 99, 104], [97, 114, 114, 97, 121], [99, 111, 117, 110, 116], [97, 116], [97, 112, 112, 101, 110, 100], [97, 118, 97, 105, 108, 97, 98, 108, 101], [102, 97, 105, 108], [98, 121, 116, 101], [111, 114, 100], [119, 105, 116, 104], [73, 110, 116], [66, 121, 116, 101], [66, 111, 111, 108], [65, 114, 114, 97, 121], [83, 101, 108, 102]]
def reservedL (s : Bs) : Bool := wordsL.contains s
/-- The text that holds them all. -/
def wordsT : Bs := 32 :: spaced wordsL
theorem words_plain : ∀ w ∈ wordsL, 32 ∉ w ∧ w ≠ [] := by decide +kernel
theorem reserved_eq (s : Bs) (hs : 32 ∉ s) (hne : s ≠ []) : Lib.contains wordsT (32 :: (s ++ [32])) = reservedL s := by
  unfold Lib.contains reservedL wordsT
  rw [Bool.eq_iff_iff, decide_eq_true_eq, index_infix, infix_words wordsL s hs hne (fun w hw => (words_plain w hw).1), List.contains_iff_mem]
theorem reserved_space (s : Bs) (hs : 32 ∈ s ∨ s = []) : reservedL s = false := by
  unfold reservedL
  rw [Bool.eq_false_iff]
  intro h
  have := words_plain s (by simpa using h)
  rcases hs with h1 | h1
  · exact this.1 h1
  · exact this.2 h1
/-- Is a string a name that is not reserved? -/
def validL (s : Bs) : Bool := !s.isEmpty && decide (s.length ≤ 16) && letterB (s.headD 0) && decide (runL alnumB s = s.length) && !reservedL s
end Go.Proofs.Ytmjnipklbmokjaa
