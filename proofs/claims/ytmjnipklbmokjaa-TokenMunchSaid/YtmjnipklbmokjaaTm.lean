/- Laws of the tokens of lists of bytes, for the statements on returns, munch and limits; no program in sight; no condition. -/
import Derived.Test.YtmjnipklbmokjaaTl
namespace Go.Proofs.Ytmjnipklbmokjaa
set_option linter.unusedVariables false

/-! ### Texts that are put together of words -/
def glue : List (Bs × Bs) → Bs
  | [] => []
  | x :: l => x.1 ++ (x.2 ++ glue l)
def GlueOK : List (Bs × Bs) → Prop
  | [] => True
  | x :: l => x.1 ≠ [] ∧ nextL (x.1 ++ (x.2 ++ glue l)) = ((nextL x.1).1, x.1.length) ∧ badL (nextL x.1).1 x.1 = false ∧ bigL (nextL x.1).1 x.1 = false ∧ skipL false (x.2 ++ glue l) = x.2.length ∧ GlueOK l
def toksOf : Nat → List (Bs × Bs) → List Tok
  | _, [] => []
  | pos, x :: l => ⟨(nextL x.1).1, x.1, pos⟩ :: toksOf (pos + x.1.length + x.2.length) l
theorem scan_glue (l : List (Bs × Bs)) : ∀ (n pos : Nat), GlueOK l → n + l.length ≤ 6000 → scanT n pos (glue l) = .ok (toksOf pos l) := by
  induction l with
  | nil => intro n pos _ _; rfl
  | cons x l ih =>
    rintro n pos ⟨h1, h2, h3, h4, h5, h6⟩ hn
    simp only [List.length_cons] at hn
    have hne : glue (x :: l) ≠ [] := by
      intro h
      have := congrArg List.length h
      simp only [glue, List.length_append, List.length_nil] at this
      exact h1 (List.eq_nil_of_length_eq_zero (by omega))
    have e : glue (x :: l) = x.1 ++ (x.2 ++ glue l) := rfl
    have etk : (x.1 ++ (x.2 ++ glue l)).take x.1.length = x.1 := List.take_left
    have edr : (x.1 ++ (x.2 ++ glue l)).drop x.1.length = x.2 ++ glue l := List.drop_left
    have edr2 : (x.2 ++ glue l).drop x.2.length = glue l := List.drop_left
    have hm := ih (n + 1) (pos + x.1.length + x.2.length) h6 (by omega)
    have hx2 : (nextL (x.1 ++ (x.2 ++ glue l))).2 = x.1.length := by rw [h2]
    have hx1 : (nextL (x.1 ++ (x.2 ++ glue l))).1 = (nextL x.1).1 := by rw [h2]
    rw [e] at hne ⊢
    have := scanT_ok_mk (n := n) (pos := pos) (m := toksOf (pos + x.1.length + x.2.length) l) hne (by rw [hx1, hx2, etk]; exact h3) (by rw [hx1, hx2, etk]; exact h4) (by omega)
      (by rw [hx2, edr, h5, edr2]; exact hm)
    rw [this, hx1, hx2, etk]; rfl

/-! ### Returns -/
theorem runL_all {p : UInt8 → Bool} {w r : Bs} (h : runL p (w ++ r) ≥ w.length) {d : UInt8} (hd : p d = false) (q : Bs) : runL p (w ++ d :: q) = w.length := by
  induction w with
  | nil => simp [runL, hd]
  | cons c t ih =>
    cases hc : p c with
    | false => simp [runL, hc] at h
    | true =>
      simp only [List.cons_append, runL, hc, if_true, List.length_cons] at h ⊢
      rw [ih (by omega)]
theorem nextL_more (c : UInt8) (t r : Bs) (k : Nat) (hr : nextL (c :: (t ++ r)) = (k, t.length + 1)) (hk : k ≠ 0) (d : UInt8) (q : Bs) (h1 : letterB c = true → alnumB d = false) (h2 : digitB c = true → digitB d = false)
    (h3 : t = [] → c = 61 → d ≠ 61) (h4 : t = [] → c = 45 → d ≠ 62) : nextL (c :: (t ++ d :: q)) = (k, t.length + 1) := by
  simp only [nextL] at hr ⊢
  cases hc : letterB c with
  | true =>
    simp only [hc, cond_true, Prod.mk.injEq] at hr ⊢
    refine ⟨hr.1, ?_⟩
    exact runL_all (w := c :: t) (r := r) (by rw [List.cons_append, hr.2]; exact Nat.le_refl _) (h1 hc) q
  | false =>
    cases hdg : digitB c with
    | true =>
      simp only [hc, hdg, cond_true, cond_false, Prod.mk.injEq] at hr ⊢
      refine ⟨hr.1, ?_⟩
      exact runL_all (w := c :: t) (r := r) (by rw [List.cons_append, hr.2]; exact Nat.le_refl _) (h2 hdg) q
    | false =>
      simp only [hc, hdg, cond_false] at hr ⊢
      cases t with
      | nil =>
        simp only [List.nil_append, List.length_nil, List.head?_cons, signN] at hr ⊢
        have hf : twoB c (some d) = false := by
          have h3' := h3 rfl
          have h4' := h4 rfl
          unfold twoB
          by_cases a : c = 61
          · subst a; simp [h3' rfl]
          · by_cases b : c = 45
            · subst b; simp [h4' rfl]
            · simp [a, b]
        rw [hf]
        cases h5 : twoB c r.head? with
        | true => simp [h5] at hr
        | false =>
          rw [h5] at hr
          exact hr
      | cons e t => exact hr
/-- What a token's text begins with. -/
structure TokOK (t : Tok) : Prop where
  ne : t.text ≠ []
  next : ∃ r, nextL (t.text ++ r) = (t.kind, t.text.length)
  bad : badL t.kind t.text = false
  big : bigL t.kind t.text = false
theorem toks_ok (f : Nat) : ∀ (n pos : Nat) (s : Bs) (l : List Tok), s.length ≤ f → scanT n pos s = .ok l → ∀ t ∈ l, TokOK t := by
  induction f with
  | zero =>
    intro n pos s l hf h t ht
    obtain rfl : s = [] := List.eq_nil_of_length_eq_zero (by omega)
    rw [scanT_nil] at h; injection h with h; subst h; simp at ht
  | succ f ih =>
    intro n pos s l hf h t ht
    by_cases hs : s = []
    · subst hs; rw [scanT_nil] at h; injection h with h; subst h; simp at ht
    · obtain ⟨m, h1, h2, h3, h4, rfl⟩ := scanT_ok_inv hs h
      have hp := nextL_pos _ (badL_zero h1)
      have hl := nextL_le s
      have hpos : 0 < s.length := List.length_pos_iff.2 hs
      rcases List.mem_cons.1 ht with rfl | ht
      · refine ⟨take_ne_nil hs hp, ⟨s.drop (nextL s).2, ?_⟩, h1, h2⟩
        show nextL (s.take (nextL s).2 ++ s.drop (nextL s).2) = ((nextL s).1, (s.take (nextL s).2).length)
        rw [List.take_append_drop, List.length_take, Nat.min_eq_left hl]
      · exact ih _ _ _ m (by simp only [List.length_drop]; omega) h4 t ht
theorem tok_sep {t : Tok} (h : TokOK t) (d : UInt8) (q : Bs) (ha : alnumB d = false) (h1 : d ≠ 61) (h2 : d ≠ 62) : nextL (t.text ++ d :: q) = (t.kind, t.text.length) := by
  obtain ⟨ne, ⟨r, hr⟩, hb, _⟩ := h
  have hk := badL_zero hb
  cases t with
  | mk kind text pos =>
    simp only at ne hr hk ⊢
    cases text with
    | nil => exact absurd rfl ne
    | cons c t => exact nextL_more c t r kind hr hk d q (fun _ => ha) (fun _ => by simp [alnumB] at ha; exact ha.2) (fun _ _ => h1) (fun _ _ => h2)
theorem tok_skip {t : Tok} (h : TokOK t) (q : Bs) : skipL false (t.text ++ q) = 0 := by
  obtain ⟨ne, ⟨r, hr⟩, hb, _⟩ := h
  have hk := badL_zero hb
  cases t with
  | mk kind text pos =>
    simp only at ne hr hk ⊢
    cases text with
    | nil => exact absurd rfl ne
    | cons c t =>
      have hc : spaceB c = false ∧ c ≠ 35 := by
        refine ⟨?_, ?_⟩
        · rw [Bool.eq_false_iff]
          intro hs
          have : c = 32 ∨ c = 9 ∨ c = 10 ∨ c = 13 := by simp [spaceB] at hs; rcases hs with ((h | h) | h) | h <;> simp [h]
          rcases this with rfl | rfl | rfl | rfl <;> (simp [nextL, letterB, digitB, signN, twoB, signB, signsL] at hr)
        · rintro rfl
          simp [nextL, letterB, digitB, signN, twoB, signB, signsL] at hr
      simp [skipL, hc.1, hc.2]
theorem tok_kind {t : Tok} (h : TokOK t) : (nextL t.text).1 = t.kind := by
  obtain ⟨ne, ⟨r, hr⟩, hb, hg⟩ := h
  have hk := badL_zero hb
  cases t with
  | mk kind text pos =>
    simp only at ne hr hk ⊢
    cases text with
    | nil => exact absurd rfl ne
    | cons c t =>
      simp only [List.cons_append, nextL] at hr ⊢
      cases hc : letterB c with
      | true => simp only [hc, cond_true, Prod.mk.injEq] at hr ⊢; exact hr.1
      | false =>
        cases hdg : digitB c with
        | true => simp only [hc, hdg, cond_true, cond_false, Prod.mk.injEq] at hr ⊢; exact hr.1
        | false =>
          simp only [hc, hdg, cond_false] at hr ⊢
          cases t with
          | nil =>
            simp only [List.nil_append, List.length_singleton, List.head?_nil, signN] at hr ⊢
            have hf : twoB c none = false := by simp [twoB]
            rw [hf]
            cases h5 : twoB c r.head? with
            | true => simp [h5] at hr
            | false => rw [h5] at hr; simp only [cond_false] at hr ⊢; rw [hr]
          | cons e t =>
            simp only [List.cons_append, List.head?_cons] at hr ⊢
            rw [hr]

def sepsL : List Bs := [[32], [10], [32, 35, 32, 108, 101, 116, 10], [9, 13]]
theorem sep_skip (g : Bs) (hg : g ∈ sepsL) (r : Bs) : skipL false (g ++ r) = g.length + skipL false r := by
  simp [sepsL] at hg
  rcases hg with rfl | rfl | rfl | rfl <;> simp [skipL, spaceB] <;> omega
theorem sep_head (g : Bs) (hg : g ∈ sepsL) : ∃ d q, g = d :: q ∧ alnumB d = false ∧ d ≠ 61 ∧ d ≠ 62 := by
  simp [sepsL] at hg
  rcases hg with rfl | rfl | rfl | rfl <;> exact ⟨_, _, rfl, by decide, by decide, by decide⟩
theorem sep_len (g : Bs) (hg : g ∈ sepsL) : g.length ≤ 7 := by
  simp [sepsL] at hg
  rcases hg with rfl | rfl | rfl | rfl <;> simp
/-- The text of tokens, each with a separator behind it. -/
def ysOf : List Tok → List Bs → List (Bs × Bs)
  | t :: l, g :: gs => (t.text, g) :: ysOf l gs
  | _, _ => []
theorem glue_skip (l : List Tok) (gs : List Bs) (hl : ∀ t ∈ l, TokOK t) : skipL false (glue (ysOf l gs)) = 0 := by
  cases l with
  | nil => simp [ysOf, glue, skipL]
  | cons t l =>
    cases gs with
    | nil => simp [ysOf, glue, skipL]
    | cons g gs => exact tok_skip (hl t (by simp)) _
theorem ys_ok (l : List Tok) : ∀ (gs : List Bs), (∀ t ∈ l, TokOK t) → (∀ g ∈ gs, g ∈ sepsL) → GlueOK (ysOf l gs) := by
  induction l with
  | nil => intro gs _ _; trivial
  | cons t l ih =>
    intro gs hl hg
    cases gs with
    | nil => trivial
    | cons g gs =>
      have ht := hl t (by simp)
      have hgm := hg g (by simp)
      have hl' : ∀ t ∈ l, TokOK t := fun t h => hl t (by simp [h])
      refine ⟨ht.ne, ?_, ?_, ?_, ?_, ih gs hl' (fun g h => hg g (by simp [h]))⟩
      · show nextL (t.text ++ (g ++ glue (ysOf l gs))) = ((nextL t.text).1, t.text.length)
        obtain ⟨d, q, rfl, h1, h2, h3⟩ := sep_head g hgm
        rw [tok_kind ht, List.cons_append]
        exact tok_sep ht d _ h1 h2 h3
      · show badL (nextL t.text).1 t.text = false
        rw [tok_kind ht]; exact ht.bad
      · show bigL (nextL t.text).1 t.text = false
        rw [tok_kind ht]; exact ht.big
      · show skipL false (g ++ glue (ysOf l gs)) = g.length
        rw [sep_skip g hgm, glue_skip l gs hl']; rfl
theorem ys_toks (l : List Tok) : ∀ (gs : List Bs) (pos : Nat), (∀ t ∈ l, TokOK t) → gs.length = l.length → (toksOf pos (ysOf l gs)).map (fun t => (t.kind, t.text)) = l.map (fun t => (t.kind, t.text)) := by
  induction l with
  | nil => intro gs pos _ _; cases gs <;> rfl
  | cons t l ih =>
    intro gs pos hl hg
    cases gs with
    | nil => simp at hg
    | cons g gs =>
      simp only [ysOf, toksOf, List.map_cons]
      rw [ih gs _ (fun t h => hl t (by simp [h])) (by simpa using hg), tok_kind (hl t (by simp))]
theorem ys_length (l : List Tok) : ∀ (gs : List Bs), gs.length = l.length → (ysOf l gs).length = l.length := by
  induction l with
  | nil => intro gs _; cases gs <;> rfl
  | cons t l ih =>
    intro gs hg
    cases gs with
    | nil => simp at hg
    | cons g gs => simp only [ysOf, List.length_cons]; rw [ih gs (by simpa using hg)]
theorem ys_snoc (l : List Tok) (t : Tok) (g : Bs) : ∀ (gs : List Bs), gs.length = l.length → glue (ysOf (l ++ [t]) (gs ++ [g])) = glue (ysOf l gs) ++ (t.text ++ g) := by
  induction l with
  | nil => intro gs hg; obtain rfl : gs = [] := List.eq_nil_of_length_eq_zero (by simpa using hg); simp [ysOf, glue]
  | cons u l ih =>
    intro gs hg
    cases gs with
    | nil => simp at hg
    | cons k gs => simp only [List.cons_append, ysOf, glue]; rw [ih gs (by simpa using hg)]; simp
def sumT (l : List Tok) : Nat := (l.map fun t => t.text.length).sum
theorem places_sum (x : Bs) (l : List Tok) : ∀ at_, PlacesOK x at_ l → at_ + sumT l ≤ x.length ∧ l.length ≤ sumT l := by
  induction l with
  | nil => rintro at_ ⟨h, _⟩; simp [sumT]; exact h
  | cons t l ih =>
    rintro at_ ⟨h1, h2, h3, h4, h5, h6⟩
    have := ih _ h6
    have hp : 0 < t.text.length := List.length_pos_iff.2 h4
    simp only [sumT, List.map_cons, List.sum_cons, List.length_cons] at this ⊢
    omega
theorem ys_size (l : List Tok) : ∀ (gs : List Bs), (∀ g ∈ gs, g ∈ sepsL) → (glue (ysOf l gs)).length ≤ sumT l + 7 * l.length := by
  induction l with
  | nil => intro gs _; cases gs <;> simp [ysOf, glue]
  | cons t l ih =>
    intro gs hg
    cases gs with
    | nil => simp [ysOf, glue]
    | cons g gs =>
      have := ih gs (fun g h => hg g (by simp [h]))
      have h7 := sep_len g (hg g (by simp))
      simp only [ysOf, glue, List.length_append, sumT, List.map_cons, List.sum_cons, List.length_cons] at this ⊢
      omega
/-- A text of tokens has them again. -/
theorem returns_all (x : Bs) (l : List Tok) (gs : List Bs) (hx : x.length ≤ 2000) (h : scanA x = .ok l) (hg : ∀ g ∈ gs, g ∈ sepsL) (hgl : gs.length = l.length) :
    ∃ m, scanA (glue (ysOf l gs)) = .ok m ∧ m.map (fun t => (t.kind, t.text)) = l.map (fun t => (t.kind, t.text)) := by
  have hpl := places_sum x l 0 (places_all x l h)
  have hok : ∀ t ∈ l, TokOK t := by
    unfold scanA at h
    rw [if_neg (by omega)] at h
    exact toks_ok _ 0 _ _ l (Nat.le_refl _) h
  refine ⟨toksOf 0 (ysOf l gs), ?_, ys_toks l gs 0 hok hgl⟩
  unfold scanA
  have hs := ys_size l gs hg
  rw [if_neg (by omega), glue_skip l gs hok, List.drop_zero]
  exact scan_glue _ 0 0 (ys_ok l gs hok hg) (by rw [ys_length l gs hgl]; omega)

/-! ### Munch -/
def piecesL : List Bs := [[97, 98], [120, 49, 121], [55], [52, 53], [61, 61], [61], [45, 62], [45], [60], [46], [108, 101, 116]]
def lowB (c : UInt8) : Bool := decide (97 ≤ c.toNat) && decide (c.toNat ≤ 122)
/-- Must two pieces be kept apart? -/
def needB (p q : Bs) : Bool :=
  (lowB (p.headD 0) && (digitB (q.headD 0) || lowB (q.headD 0))) || (digitB (p.headD 0) && digitB (q.headD 0)) || (p == [61] && q.headD 0 == 61)
def gapL (p : Bs) : List Bs → Bs
  | [] => []
  | q :: _ => if needB p q then [32] else []
def mItems : List Bs → List (Bs × Bs)
  | [] => []
  | p :: l => (p, gapL p l) :: mItems l
theorem piece_facts : ∀ p ∈ piecesL, p ≠ [] ∧ nextL p = ((nextL p).1, p.length) ∧ (nextL p).1 ≠ 0 ∧ badL (nextL p).1 p = false ∧ bigL (nextL p).1 p = false ∧ spaceB (p.headD 0) = false ∧ p.headD 0 ≠ 35 ∧ p.length ≤ 3 := by decide +kernel
theorem pair_facts : ∀ p ∈ piecesL, ∀ q ∈ piecesL, needB p q = false → (letterB (p.headD 0) = true → alnumB (q.headD 0) = false) ∧ (digitB (p.headD 0) = true → digitB (q.headD 0) = false) ∧ (p.tail = [] → p.headD 0 = 61 → q.headD 0 ≠ 61) ∧ (p.tail = [] → p.headD 0 = 45 → q.headD 0 ≠ 62) := by decide +kernel
theorem piece_next (p : Bs) (hp : p ∈ piecesL) (d : UInt8) (r : Bs) (h1 : letterB (p.headD 0) = true → alnumB d = false) (h2 : digitB (p.headD 0) = true → digitB d = false) (h3 : p.tail = [] → p.headD 0 = 61 → d ≠ 61) (h4 : p.tail = [] → p.headD 0 = 45 → d ≠ 62) :
    nextL (p ++ d :: r) = ((nextL p).1, p.length) := by
  obtain ⟨f1, f2, f3, _⟩ := piece_facts p hp
  cases p with
  | nil => exact absurd rfl f1
  | cons c t =>
    rw [List.cons_append]
    exact nextL_more c t [] _ (by rw [List.append_nil]; exact f2) f3 d r h1 h2 h3 h4
theorem piece_skip (p : Bs) (hp : p ∈ piecesL) (r : Bs) : skipL false (p ++ r) = 0 := by
  obtain ⟨f1, _, _, _, _, f6, f7, _⟩ := piece_facts p hp
  cases p with
  | nil => exact absurd rfl f1
  | cons c t =>
    simp only [List.headD_cons] at f6 f7
    simp [skipL, f6, f7]
theorem mItems_skip (l : List Bs) (hl : ∀ p ∈ l, p ∈ piecesL) : skipL false (glue (mItems l)) = 0 := by
  cases l with
  | nil => rfl
  | cons p l => exact piece_skip p (hl p (by simp)) _
theorem mItems_ok (l : List Bs) : (∀ p ∈ l, p ∈ piecesL) → GlueOK (mItems l) := by
  induction l with
  | nil => intro _; trivial
  | cons p l ih =>
    intro hl
    have hp := hl p (by simp)
    have hl' : ∀ q ∈ l, q ∈ piecesL := fun q h => hl q (by simp [h])
    obtain ⟨f1, f2, f3, f4, f5, f6, f7, _⟩ := piece_facts p hp
    have hsk := mItems_skip l hl'
    refine ⟨f1, ?_, f4, f5, ?_, ih hl'⟩
    · show nextL (p ++ (gapL p l ++ glue (mItems l))) = ((nextL p).1, p.length)
      cases l with
      | nil => simp only [gapL, mItems, glue, List.append_nil]; exact f2
      | cons q l =>
        have hq := hl' q (by simp)
        cases hn : needB p q with
        | true =>
          have e : gapL p (q :: l) = [32] := by simp only [gapL]; rw [if_pos hn]
          rw [e, List.cons_append, List.nil_append]
          exact piece_next p hp 32 _ (fun _ => by decide) (fun _ => by decide) (fun _ _ => by decide) (fun _ _ => by decide)
        | false =>
          obtain ⟨g1, g2, g3, g4⟩ := pair_facts p hp q hq hn
          have hqne := (piece_facts q hq).1
          have e : gapL p (q :: l) = [] := by simp only [gapL]; rw [if_neg (by rw [hn]; decide)]
          rw [e, List.nil_append]
          cases q with
          | nil => exact absurd rfl hqne
          | cons d t => exact piece_next p hp d _ g1 g2 g3 g4
    · show skipL false (gapL p l ++ glue (mItems l)) = (gapL p l).length
      unfold gapL
      cases l with
      | nil => rfl
      | cons q l =>
        simp only
        split
        · simp only [List.cons_append, List.nil_append, List.length_singleton]
          show (if spaceB 32 = true then skipL false (glue (mItems (q :: l))) + 1 else _) = 1
          rw [if_pos (by decide), hsk]
        · simpa using hsk
theorem mItems_snoc (l : List Bs) (p : Bs) : glue (mItems (l ++ [p])) = glue (mItems l) ++ ((if needB (l.getLastD []) p then [32] else []) ++ p) := by
  induction l with
  | nil =>
    have : needB [] p = false := by simp [needB, lowB, digitB]
    simp [mItems, glue, gapL, this]
  | cons q l ih =>
    cases l with
    | nil => simp [mItems, glue, gapL]
    | cons r l =>
      have h1 : glue (mItems (q :: r :: l)) = q ++ (gapL q (r :: l) ++ glue (mItems (r :: l))) := rfl
      have h2 : glue (mItems (q :: r :: l ++ [p])) = q ++ (gapL q (r :: l) ++ glue (mItems (r :: l ++ [p]))) := rfl
      rw [h2, ih, h1]
      simp
theorem mItems_length (l : List Bs) : (mItems l).length = l.length := by induction l <;> simp_all [mItems]
theorem mItems_size (l : List Bs) : (∀ p ∈ l, p ∈ piecesL) → (glue (mItems l)).length ≤ 4 * l.length := by
  induction l with
  | nil => intro _; simp [mItems, glue]
  | cons p l ih =>
    intro hl
    have := ih fun q h => hl q (by simp [h])
    have h3 := (piece_facts p (hl p (by simp))).2.2.2.2.2.2.2
    have hg : (gapL p l).length ≤ 1 := by
      unfold gapL; cases l with
      | nil => simp
      | cons q l => simp only; split <;> simp
    simp only [mItems, glue, List.length_append, List.length_cons]
    omega
theorem mItems_toks (l : List Bs) : ∀ pos, (toksOf pos (mItems l)).map Tok.text = l := by
  induction l with
  | nil => intro _; rfl
  | cons p l ih => intro pos; simp [mItems, toksOf, ih]
theorem munch_all (l : List Bs) (hl : ∀ p ∈ l, p ∈ piecesL) (hn : l.length ≤ 200) : ∃ m, scanA (glue (mItems l)) = .ok m ∧ m.map Tok.text = l := by
  refine ⟨toksOf 0 (mItems l), ?_, mItems_toks l 0⟩
  have := mItems_size l hl
  unfold scanA
  rw [if_neg (by omega), mItems_skip l hl, List.drop_zero]
  exact scan_glue _ 0 0 (mItems_ok l hl) (by rw [mItems_length]; omega)

/-! ### Limits -/
def errOf : Except (Nat × Nat) (List Tok) → Nat × Nat
  | .ok _ => (0, 0)
  | .error e => e
theorem lim_name : ∀ k < 40, errOf (scanA (32 :: 32 :: List.replicate (k + 1) 120)) = if 16 < k + 1 then (4, 2) else (0, 0) := by decide +kernel
theorem lim_num : ∀ k < 40, errOf (scanA (32 :: 32 :: List.replicate (k + 1) 57)) = if 18 < k + 1 then (4, 2) else (0, 0) := by decide +kernel
theorem skip_spaces (m : Nat) : skipL false (List.replicate m 32) = m := by
  induction m with
  | zero => rfl
  | succ m ih =>
    rw [List.replicate_succ]
    show (if spaceB 32 = true then skipL false (List.replicate m 32) + 1 else _) = _
    rw [if_pos (by decide), ih]
theorem lim_long (m : Nat) : errOf (scanA (List.replicate m 32)) = if 16384 < m then (4, 0) else (0, 0) := by
  unfold scanA
  rw [List.length_replicate]
  split
  · rfl
  · rw [skip_spaces, List.drop_of_length_le (by simp), scanT_nil]; rfl
theorem skip_semis (m : Nat) : skipL false (List.replicate m 59) = 0 := by
  cases m with
  | zero => rfl
  | succ m => rw [List.replicate_succ]; simp [skipL, spaceB]
theorem next_semi (t : Bs) : nextL (59 :: t) = (3, 1) := by simp [nextL, letterB, digitB, signN, twoB, signB, signsL]
theorem scan_semis (m : Nat) : ∀ n pos, n ≤ 6000 → (n + m ≤ 6000 → ∃ l, scanT n pos (List.replicate m 59) = .ok l ∧ l.length = m) ∧ (6000 < n + m → scanT n pos (List.replicate m 59) = .error (4, pos + (6000 - n))) := by
  induction m with
  | zero => intro n pos hn; exact ⟨fun _ => ⟨[], rfl, rfl⟩, fun h => by omega⟩
  | succ m ih =>
    intro n pos hn
    rw [List.replicate_succ]
    have hs := scanT_step n pos (59 :: List.replicate m 59) (by simp)
    rw [next_semi] at hs
    simp only [List.take_succ_cons, List.take_zero, List.drop_succ_cons, List.drop_zero, skip_semis] at hs
    have hb : badL 3 [59] = false := by decide
    have hg : bigL 3 [59] = false := by decide
    rw [hb, hg] at hs
    by_cases h6 : n = 6000
    · subst h6
      exact ⟨fun h => by omega, fun _ => by rw [hs]; simp⟩
    · have hn6 : (n == 6000) = false := by simpa using h6
      rw [hn6] at hs
      simp only [Bool.or_false, Bool.false_eq_true, if_false] at hs
      obtain ⟨i1, i2⟩ := ih (n + 1) (pos + 1 + 0) (by omega)
      refine ⟨fun h => ?_, fun h => ?_⟩
      · obtain ⟨l, e, hl⟩ := i1 (by omega)
        rw [e] at hs
        exact ⟨_, hs, by simp [hl]⟩
      · rw [i2 (by omega)] at hs
        rw [hs, show pos + 1 + 0 + (6000 - (n + 1)) = pos + (6000 - n) by omega]
theorem lim_many (m : Nat) (h : m ≤ 10000) : (m ≤ 6000 → ∃ l, scanA (List.replicate m 59) = .ok l ∧ l.length = m) ∧ (6000 < m → scanA (List.replicate m 59) = .error (4, 6000)) := by
  have e : scanA (List.replicate m 59) = scanT 0 0 (List.replicate m 59) := by
    unfold scanA
    rw [if_neg (by simp; omega), skip_semis, List.drop_zero]
  rw [e]
  obtain ⟨h1, h2⟩ := scan_semis m 0 0 (by omega)
  exact ⟨fun h => h1 (by omega), fun h => by rw [h2 (by omega)]⟩
end Go.Proofs.Ytmjnipklbmokjaa
