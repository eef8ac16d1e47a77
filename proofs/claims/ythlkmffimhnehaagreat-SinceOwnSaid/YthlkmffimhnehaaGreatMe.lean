/- The single operations behind an append with a late store; no condition. -/
import Derived.Test.YthlkmffimhnehaaGreatMd
import Derived.Test.YthlkmffimhnehaaGreatMc
namespace Go.Ev
open Go.RowKit
set_option linter.unusedVariables false

section
variable {P : Program} {T : Nat → Option TI} {base : Nat}
theorem compR_idx {kd : Bool} {n : Nat} {all : List Oper} : ∀ (l : List Oper) (xs : List XR), compR T kd n all l = some xs → l.length = xs.length ∧ ∀ (i : Nat) (o : Oper), l[i]? = some o →
    ∃ x : XR, xs[i]? = some x ∧ compOp T kd o.op = some x.op ∧ x.dst = o.dst ∧ (∀ d, x.dst = some d → d < n) ∧ ((o.guard = none ∧ x.guard = none) ∨ ∃ j b d, o.guard = some (j, b) ∧ (all[j]?).bind (·.dst) = some d ∧ x.guard = some (d, b)) := by
  intro l
  induction l with
  | nil => intro xs h; simp [compR] at h; subst h; exact ⟨rfl, fun i o h => by simp at h⟩
  | cons o l ih =>
    intro xs h
    obtain ⟨x, rest, rfl, hrest, h1⟩ := compR_cons h
    obtain ⟨h2, h3⟩ := ih rest hrest
    refine ⟨by simp [h2], fun i q hq => ?_⟩
    cases i with
    | zero => simp at hq; subst hq; exact ⟨x, rfl, h1⟩
    | succ i => simpa using h3 i q (by simpa using hq)
/-- A variable that is made ahead. -/
def Made (o : Oper) (x0 x : XR) (hs : List (Nat × List AV)) : Prop := ∃ t d cs, o.op = .alloc t ∧ x0 = ⟨some d, none, .e (.alloc cs)⟩ ∧ x = ⟨some d, none, .p (.move (.t d))⟩ ∧ (d, cs) ∈ hs
theorem hoistL_idx : ∀ (l : List Oper) (xs : List XR), l.length = xs.length → (hoistL l xs).1.length = xs.length ∧
    (∀ (i : Nat) (o : Oper) (x0 : XR), l[i]? = some o → xs[i]? = some x0 → ∃ x, (hoistL l xs).1[i]? = some x ∧ (x = x0 ∨ Made o x0 x (hoistL l xs).2)) ∧
    (∀ d cs, (d, cs) ∈ (hoistL l xs).2 → ∃ (i : Nat) (o : Oper) (t : TypeId), l[i]? = some o ∧ o.op = .alloc t ∧ xs[i]? = some ⟨some d, none, .e (.alloc cs)⟩ ∧ (hoistL l xs).1[i]? = some ⟨some d, none, .p (.move (.t d))⟩) ∧
    ((hoistL l xs).2.map (·.1)).Sublist (xs.filterMap (·.dst)) := by
  intro l
  induction l with
  | nil =>
    intro xs h
    have : xs = [] := List.eq_nil_of_length_eq_zero h.symm
    subst this
    exact ⟨rfl, (fun i o x h => by simp at h), (fun d cs h => by cases h), List.Sublist.slnil⟩
  | cons o l ih =>
    intro xs h
    cases xs with
    | nil => cases h
    | cons x xs =>
      obtain ⟨h1, h2, h3, h4⟩ := ih xs (by simpa using h)
      have plain : ∀ hs', hs' = (hoistL l xs).2 → hoistL (o :: l) (x :: xs) = (x :: (hoistL l xs).1, hs') → _ := fun hs' he hh => by
        subst he
        have goal : (hoistL (o :: l) (x :: xs)).1.length = (x :: xs).length ∧
          (∀ (i : Nat) (q : Oper) (x0 : XR), (o :: l)[i]? = some q → (x :: xs)[i]? = some x0 → ∃ y, (hoistL (o :: l) (x :: xs)).1[i]? = some y ∧ (y = x0 ∨ Made q x0 y (hoistL (o :: l) (x :: xs)).2)) ∧
          (∀ d cs, (d, cs) ∈ (hoistL (o :: l) (x :: xs)).2 → ∃ (i : Nat) (q : Oper) (t : TypeId), (o :: l)[i]? = some q ∧ q.op = .alloc t ∧ (x :: xs)[i]? = some ⟨some d, none, .e (.alloc cs)⟩ ∧ (hoistL (o :: l) (x :: xs)).1[i]? = some ⟨some d, none, .p (.move (.t d))⟩) ∧
          ((hoistL (o :: l) (x :: xs)).2.map (·.1)).Sublist ((x :: xs).filterMap (·.dst)) := by
          rw [hh]
          refine ⟨by simp [h1], fun i q x0 hq hx => ?_, fun d cs hm => ?_, ?_⟩
          · cases i with
            | zero => simp at hq hx; subst hx; exact ⟨x, rfl, .inl rfl⟩
            | succ i => simpa using h2 i q x0 (by simpa using hq) (by simpa using hx)
          · obtain ⟨i, q, t, h5, h6, h7, h8⟩ := h3 d cs hm
            exact ⟨i + 1, q, t, by simpa using h5, h6, by simpa using h7, by simpa using h8⟩
          · rw [List.filterMap_cons]
            split
            · exact h4
            · exact h4.cons _
        exact goal
      by_cases hc : ∃ t d cs, o.op = .alloc t ∧ x = ⟨some d, none, .e (.alloc cs)⟩
      · obtain ⟨t, d, cs, ho, rfl⟩ := hc
        have hh : hoistL (o :: l) (⟨some d, none, .e (.alloc cs)⟩ :: xs) = (⟨some d, none, .p (.move (.t d))⟩ :: (hoistL l xs).1, (d, cs) :: (hoistL l xs).2) := by
          simp only [hoistL, ho]
        rw [hh]
        refine ⟨by simp [h1], fun i q x0 hq hx => ?_, fun d' cs' hm => ?_, ?_⟩
        · cases i with
          | zero =>
            simp at hq hx; subst hq hx
            exact ⟨_, rfl, .inr ⟨t, d, cs, ho, rfl, rfl, by simp⟩⟩
          | succ i =>
            obtain ⟨y, h5, h6⟩ := h2 i q x0 (by simpa using hq) (by simpa using hx)
            refine ⟨y, by simpa using h5, h6.imp id fun ⟨t', d', cs', a, b, c, e⟩ => ⟨t', d', cs', a, b, c, by simp [e]⟩⟩
        · rcases List.mem_cons.1 hm with he | hm
          · injection he with he1 he2
            subst he1 he2
            exact ⟨0, o, t, rfl, ho, rfl, rfl⟩
          · obtain ⟨i, q, t', h5, h6, h7, h8⟩ := h3 d' cs' hm
            exact ⟨i + 1, q, t', by simpa using h5, h6, by simpa using h7, by simpa using h8⟩
        · simpa using h4.cons_cons d
      · have hh : hoistL (o :: l) (x :: xs) = (x :: (hoistL l xs).1, (hoistL l xs).2) := by
          conv => lhs; unfold hoistL
          split
          · rename_i t d cs ho'
            exact absurd ⟨t, d, cs, ho', rfl⟩ hc
          · rfl
        exact plain _ rfl hh
theorem doL_congr {H H' : Tr Ent} {tm : Tr AV} {x : XR} {xl : XL} (hx : x.op = .l xl) (h : ∀ key, keyRead tm x = some key → H.get key = H'.get key) : doL H tm xl = doL H' tm xl := by
  cases xl with
  | load size agg a =>
    show xLoad H size agg (evX tm a) = xLoad H' size agg (evX tm a)
    have hk : ∀ key off, evX tm a = .ptr key off → H.get key = H'.get key := fun key off he => h key (by simp [keyRead, hx, he])
    cases ha : evX tm a with
    | ptr key off => simp only [xLoad, cellsAt, hk key off ha]
    | _ => rfl
  | look k z ok m ix =>
    show xLook H k z ok (evX tm m) (evX tm ix) = xLook H' k z ok (evX tm m) (evX tm ix)
    have hk : ∀ key, evX tm m = .mp key → H.get key = H'.get key := fun key he => h key (by simp [keyRead, hx, he])
    cases ha : evX tm m with
    | mp key => simp only [xLook, hk key ha]
    | _ => rfl
theorem ver_same {st st' : St} (h : VL st st') {key v : Nat} (h1 : verOf (st.heap.get key) = some v) (h2 : verOf (st'.heap.get key) = some v) : st'.heap.get key = st.heap.get key := by
  cases he : st.heap.get key with
  | none => rw [he] at h1; cases h1
  | some e =>
    have hk := h.keep key e he
    rw [he] at h1
    cases e with
    | box v' cs =>
      injection h1 with h1; subst h1
      rcases hk with ⟨v2, cs2, h3, h4, h5⟩ | h3
      · rw [h3] at h2
        injection h2 with h2; subst h2
        rw [h3, h5 rfl]
      · rw [h3] at h2; cases h2
    | map v' cs =>
      injection h1 with h1; subst h1
      rcases hk with ⟨v2, cs2, h3, h4, h5⟩ | h3
      · rw [h3] at h2
        injection h2 with h2; subst h2
        rw [h3, h5 rfl]
      · rw [h3] at h2; cases h2
    | tip => cases h1
    | gone => cases h1
def isEff (x : XR) : Prop := x.op.cl = .eff
theorem cl_eff {x : XR} (h : x.op.cl = .eff) : ∃ e, x.op = .e e := by
  cases hx : x.op with
  | p o => rw [hx] at h; cases h
  | l o => rw [hx] at h; cases h
  | e o => exact ⟨o, rfl⟩
/-- A step that is no effect leaves the memory. -/
theorem trc_same {call : Cal} {xs : List XR} {S : Nat → Tr AV × St} {V : Nat → AV} (h : Trc call xs S V) {i : Nat} {x : XR} (hx : xs[i]? = some x) (hne : x.op.cl ≠ .eff) : (S (i + 1)).2 = (S i).2 := by
  obtain ⟨q, _, _, ⟨_, _, h1⟩ | ⟨_, h1⟩⟩ := h i x hx
  · exact h1
  · cases ho : x.op with
    | p o => rw [ho] at h1; exact (okP_eq (show okP (S i).2 (doP (S i).1 o) = _ from h1)).2
    | l o => rw [ho] at h1; exact (okP_eq (show okP (S i).2 (doL (S i).2.heap (S i).1 o) = _ from h1)).2
    | e o => rw [ho] at hne; exact absurd rfl hne
theorem trc_vl {call : Cal} (hc : CallV call) {xs : List XR} {S : Nat → Tr AV × St} {V : Nat → AV} (h : Trc call xs S V) (h0 : WF (S 0).2) : ∀ i, i ≤ xs.length → WF (S i).2 ∧ ∀ x, xs[i]? = some x → VL (S i).2 (S (i + 1)).2 := by
  have one : ∀ i, WF (S i).2 → ∀ x, xs[i]? = some x → VL (S i).2 (S (i + 1)).2 := by
    intro i hw x hx
    obtain ⟨q, _, _, ⟨_, _, h1⟩ | ⟨_, h1⟩⟩ := h i x hx
    · rw [h1]; exact .refl hw
    · exact doX_v hc h1 hw
  intro i
  induction i with
  | zero => intro _; exact ⟨h0, one 0 h0⟩
  | succ i ih =>
    intro hi
    obtain ⟨h1, h2⟩ := ih (by omega)
    have hw := (h2 xs[i] (List.getElem?_eq_getElem (by omega))).wf
    exact ⟨hw, one _ hw⟩
/-- What lies at a key is the same at two states, if no effect between them has turned it. -/
theorem trc_key {call : Cal} (hc : CallV call) {xs : List XR} {S : Nat → Tr AV × St} {V : Nat → AV} (h : Trc call xs S V) (h0 : WF (S 0).2) {key lo : Nat} : ∀ hi, lo ≤ hi → hi ≤ xs.length →
    (∀ (c : Nat) (x : XR), lo ≤ c → c < hi → xs[c]? = some x → x.op.cl = .eff → ∃ v, verOf ((S c).2.heap.get key) = some v ∧ verOf ((S (c + 1)).2.heap.get key) = some v) → (S hi).2.heap.get key = (S lo).2.heap.get key := by
  intro hi
  induction hi with
  | zero => intro hlo _ _; have : lo = 0 := by omega
            rw [this]
  | succ hi ih =>
    intro hlo hle hv
    by_cases he : lo = hi + 1
    · rw [he]
    · rw [← ih (by omega) (by omega) (fun c x h1 h2 => hv c x h1 (by omega))]
      have hx : xs[hi]? = some xs[hi] := List.getElem?_eq_getElem (by omega)
      by_cases hf : xs[hi].op.cl = .eff
      · obtain ⟨v, h1, h2⟩ := hv hi xs[hi] (by omega) (by omega) hx hf
        exact ver_same ((trc_vl hc h h0 hi (by omega)).2 _ hx) h1 h2
      · rw [trc_same h hx hf]
theorem trc_slot {call : Cal} {xs : List XR} {S : Nat → Tr AV × St} {V : Nat → AV} (h : Trc call xs S V) (hd : ∀ (i j : Nat) (x y : XR) (t : Nat), xs[i]? = some x → xs[j]? = some y → x.dst = some t → y.dst = some t → i = j) : ∀ i, i ≤ xs.length → ∀ t,
    (∀ (j : Nat) (x : XR), j < i → xs[j]? = some x → x.dst = some t → evX (S i).1 (.t t) = V j) ∧ ((∀ (j : Nat) (x : XR), j < i → xs[j]? = some x → x.dst ≠ some t) → evX (S i).1 (.t t) = evX (S 0).1 (.t t)) := by
  intro i
  induction i with
  | zero => intro _ t; exact ⟨fun j x h => by omega, fun _ => rfl⟩
  | succ i ih =>
    intro hi t
    obtain ⟨h1, h2⟩ := ih (by omega) t
    have hx : xs[i]? = some xs[i] := List.getElem?_eq_getElem (by omega)
    obtain ⟨q, _, h3, _⟩ := h i _ hx
    have hset : evX (S (i + 1)).1 (.t t) = if xs[i].dst = some t then V i else evX (S i).1 (.t t) := by
      rw [h3]
      cases hds : xs[i].dst with
      | none => simp [setD]
      | some d =>
        show evX ((S i).1.set d (V i)) (.t t) = _
        rw [evX_t, Tr.get_set]
        by_cases e : t = d
        · subst e; simp
        · have : ¬ (some d = some t) := fun h => e (by injection h with h; exact h.symm)
          rw [if_neg e, if_neg this, evX_t]
    refine ⟨fun j x hj hxj hdj => ?_, fun hno => ?_⟩
    · rw [hset]
      by_cases e : j = i
      · subst e
        rw [hx] at hxj; injection hxj with hxj; subst hxj
        rw [if_pos hdj]
      · have : ¬ xs[i].dst = some t := fun h' => e (hd j i x _ t hxj hx hdj h')
        rw [if_neg this]
        exact h1 j x (by omega) hxj hdj
    · rw [hset, if_neg (hno i _ (by omega) hx)]
      exact h2 fun j x hj => hno j x (by omega)
/-- The next effect. -/
theorem next_eff {call : Cal} {xs : List XR} {S : Nat → Tr AV × St} {V : Nat → AV} (h : Trc call xs S V) : ∀ (k p : Nat), xs.length - p = k → p ≤ xs.length → ∃ p', p ≤ p' ∧ p' ≤ xs.length ∧ (∀ (c : Nat) (x : XR), p ≤ c → c < p' → xs[c]? = some x → x.op.cl ≠ .eff) ∧
    (p' = xs.length ∨ ∃ x : XR, xs[p']? = some x ∧ x.op.cl = .eff) ∧ (S p').2 = (S p).2 := by
  intro k
  induction k with
  | zero => intro p hk hp; exact ⟨p, Nat.le_refl _, hp, fun c x h1 h2 => by omega, .inl (by omega), rfl⟩
  | succ k ih =>
    intro p hk hp
    have hx : xs[p]? = some xs[p] := List.getElem?_eq_getElem (by omega)
    by_cases he : xs[p].op.cl = .eff
    · exact ⟨p, Nat.le_refl _, hp, fun c x h1 h2 => by omega, .inr ⟨_, hx, he⟩, rfl⟩
    · obtain ⟨p', h1, h2, h3, h4, h5⟩ := ih (p + 1) (by omega) (by omega)
      refine ⟨p', by omega, h2, fun c x hc hc' hxc => ?_, h4, h5.trans (trc_same h hx he)⟩
      by_cases hcp : c = p
      · subst hcp; rw [hx] at hxc; injection hxc with hxc; subst hxc; exact he
      · exact h3 c x (by omega) hc' hxc
end
end Go.Ev
namespace Go.Ev
open Go.RowKit
set_option linter.unusedVariables false

/-- What holds behind a set of operations. -/
structure J (base : Nat) (g0 : G) (st : St) (w0 : World) (n : Nat) (tm : Tr AV) (xs : List XR) (S : Nat → Tr AV × St) (V : Nat → AV) (κ : Nat → Option Nat) (hs : List (Nat × List AV)) (D : Nat → Bool) (a : Act) (w : World) (g : G) (p : Nat) : Prop where
  ple : p ≤ xs.length
  lo : ∀ (c : Nat) (x : XR), c < p → xs[c]? = some x → x.op.cl = .eff → D c = true
  hi : ∀ (c : Nat) (x : XR), p ≤ c → xs[c]? = some x → x.op.cl = .eff → D c = false
  pe : p = xs.length ∨ ∃ x : XR, xs[p]? = some x ∧ x.op.cl = .eff
  inv : Inv base g (S p).2 w
  ext : Ext base g0 st w0 g (S p).2 w
  defers : a.defers = []
  size : n ≤ a.tmps.size
  done : ∀ (i : Nat) (x : XR) (d : Nat), xs[i]? = some x → x.dst = some d → D i = true → Rep w g (V i) (a.eval (.tmp d))
  old : ∀ t, (∀ (i : Nat) (x : XR), xs[i]? = some x → x.dst = some t → D i = false) → Rep w g (evX tm (.t t)) (a.eval (.tmp t))
  hoi : ∀ d k cs, κ d = some k → (d, cs) ∈ hs → (∀ (i : Nat) (x : XR), xs[i]? = some x → x.dst = some d → D i = false) → g.key k = none ∧ (S p).2.heap.get k = some (.box 0 cs)
section
variable {base : Nat} {g0 : G} {st : St} {w0 : World} {n : Nat} {tm : Tr AV} {xs : List XR} {S : Nat → Tr AV × St} {V : Nat → AV} {κ : Nat → Option Nat} {hs : List (Nat × List AV)} {D : Nat → Bool} {a : Act} {w : World} {g : G} {p : Nat}
theorem J.next (h : J base g0 st w0 n tm xs S V κ hs D a w g p) (hd : ∀ (i j : Nat) (x y : XR) (t : Nat), xs[i]? = some x → xs[j]? = some y → x.dst = some t → y.dst = some t → i = j) {i : Nat} {x : XR} (hx : xs[i]? = some x) (hD : D i = false)
    (hlt : ∀ d, x.dst = some d → d < n) {v : Value} {w' : World} {g' : G} {p' : Nat} (hr : Rep w' g' (V i) v) (hI : Inv base g' (S p').2 w') (hE : Ext base g0 st w0 g' (S p').2 w') (hl : g.le g') (hsm : Same g w w')
    (hh : ∀ d k cs, κ d = some k → x.dst ≠ some d → g.key k = none → (S p).2.heap.get k = some (.box 0 cs) → g'.key k = none ∧ (S p').2.heap.get k = some (.box 0 cs))
    (h1 : p' ≤ xs.length) (h2 : ∀ (c : Nat) (y : XR), c < p' → xs[c]? = some y → y.op.cl = .eff → c = i ∨ D c = true) (h3 : ∀ (c : Nat) (y : XR), p' ≤ c → xs[c]? = some y → y.op.cl = .eff → c ≠ i ∧ D c = false)
    (h4 : p' = xs.length ∨ ∃ x : XR, xs[p']? = some x ∧ x.op.cl = .eff) :
    J base g0 st w0 n tm xs S V κ hs (fun j => if j = i then true else D j) (a.put x.dst v) w' g' p' := by
  have hev : ∀ t, (a.put x.dst v).eval (.tmp t) = if x.dst = some t then v else a.eval (.tmp t) := by
    intro t
    cases hds : x.dst with
    | none => simp [Act.put]
    | some d =>
      rw [eval_put a d t v (Nat.lt_of_lt_of_le (hlt d hds) h.size)]
      by_cases e : t = d
      · subst e; simp
      · have : ¬ (some d = some t) := fun h => e (by injection h with h; exact h.symm)
        rw [if_neg e, if_neg this]
  refine ⟨h1, fun c y hc hy he => ?_, fun c y hc hy he => ?_, h4, hI, hE, ?_, ?_, fun j y d hy hdy hDj => ?_, fun t ht => ?_, fun d k cs hk hm hno => ?_⟩
  · rcases h2 c y hc hy he with e | e
    · simp [e]
    · simp [e]
  · obtain ⟨e1, e2⟩ := h3 c y hc hy he
    simp [e1, e2]
  · have := h.defers
    cases x.dst <;> simpa [Act.put] using this
  · have := h.size
    cases x.dst <;> simpa [Act.put] using this
  · rw [hev]
    by_cases e : j = i
    · subst e
      rw [hx] at hy; injection hy with hy; subst hy
      rw [if_pos hdy]; exact hr
    · have : ¬ x.dst = some d := fun h' => e (hd j i y x d hy hx hdy h')
      rw [if_neg this]
      exact (h.done j y d hy hdy (by simpa [e] using hDj)).mono hsm hl
  · have hne : ¬ x.dst = some t := fun h' => by have := ht i x hx h'; simp at this
    rw [hev, if_neg hne]
    refine (h.old t fun j y hy hdy => ?_).mono hsm hl
    have := ht j y hy hdy
    by_cases e : j = i
    · simp [e] at this
    · simpa [e] using this
  · have hne : x.dst ≠ some d := fun h' => by have := hno i x hx h'; simp at this
    obtain ⟨h5, h7⟩ := h.hoi d k cs hk hm fun j y hy hdy => by
      have := hno j y hy hdy
      by_cases e : j = i
      · simp [e] at this
      · simpa [e] using this
    exact hh d k cs hk hne h5 h7
end
theorem nodup_dst : ∀ (xs : List XR), (∀ (i j : Nat) (x y : XR) (t : Nat), xs[i]? = some x → xs[j]? = some y → x.dst = some t → y.dst = some t → i = j) → (xs.filterMap (·.dst)).Nodup := by
  intro xs
  induction xs with
  | nil => intro _; exact List.nodup_nil
  | cons x xs ih =>
    intro h
    have ih' := ih fun i j y z t hy hz hdy hdz => by
      have := h (i + 1) (j + 1) y z t (by simpa using hy) (by simpa using hz) hdy hdz
      omega
    rw [List.filterMap_cons]
    split
    · exact ih'
    · rename_i d hd
      refine List.nodup_cons.2 ⟨fun hm => ?_, ih'⟩
      obtain ⟨y, hy, hdy⟩ := List.mem_filterMap.1 hm
      obtain ⟨j, hj⟩ := List.getElem?_of_mem hy
      have := h 0 (j + 1) x y d rfl (by simpa using hj) hd hdy
      omega
section
variable {P : Program} {T : Nat → Option TI} {base : Nat} {g : G} {st : St} {w : World} {tm : Tr AV}
theorem regd_wp (hm : P.follows .mixedOrders = true) (hT : TabOk P T) {call : Cal} (hcall : CallOk P base call) (hV : CallV call) {kd : Bool} {n id : Nat} {ops : Array Oper} {xs0 xs : List XR} {hs : List (Nat × List AV)} {pairs : List (Nat × Nat)}
    (hc : compR T kd n ops.toList ops.toList = some xs0) (hd : compD ops.toList xs0 = some (.regd hs xs pairs)) {tm' : Tr AV} {st' : St} (hr : runD call xs pairs (hoist hs tm st).1 (hoist hs tm st).2 = some (tm', st'))
    {a : Act} (hS : Slots w g n tm a) (hI : Inv base g st w) {Q : Exit → Act → World → Prop} (hQ : ∀ a' w' g', Slots w' g' n tm' a' → Inv base g' st' w' → Ext base g st w g' st' w' → Q .normal a' w') : (Code.region id ops true).wp P Q a w := by
  unfold compD at hd
  cases hlook : (ordOk 0 ops.toList && twosOk (masks [] ops.toList) 0 ops.toList (hoistL ops.toList xs0).1) with
  | false => rw [hlook] at hd; cases hd
  | true =>
  rw [hlook] at hd
  injection hd with hd
  injection hd with hhs hxs hps
  simp only [Bool.and_eq_true] at hlook
  obtain ⟨hord, htwo⟩ := hlook
  obtain ⟨hlen0, hidx0⟩ := compR_idx ops.toList xs0 hc
  obtain ⟨hlen1, hidx1, hmade, hsub⟩ := hoistL_idx ops.toList xs0 hlen0
  rw [hxs] at hlen1 hidx1 hmade htwo hps
  rw [hhs] at hidx1 hmade hsub
  have hlen : ops.toList.length = xs.length := by omega
  obtain ⟨_, htw⟩ := twosOk_spec _ _ _ 0 htwo
  have two : ∀ (i j : Nat) (oi oj : Oper) (xi xj : XR), i < j → ops.toList[i]? = some oi → ops.toList[j]? = some oj → xs[i]? = some xi → xs[j]? = some xj → twoOk (masks [] ops.toList) i j oi oj xi xj = true := by
    intro i j oi oj xi xj hij hoi hoj hxi hxj
    have := htw i j oi oj xi xj hij hoi hoj hxi hxj
    simpa using this
  have getO : ∀ i x, xs[i]? = some x → ∃ o, ops.toList[i]? = some o := fun i x hx => ⟨ops.toList[i]'(by have := (List.getElem?_eq_some_iff.1 hx).1; omega), List.getElem?_eq_getElem _⟩
  -- what is known of an operation
  have idx : ∀ (i : Nat) (o : Oper) (x : XR), ops.toList[i]? = some o → xs[i]? = some x → x.dst = o.dst ∧ (∀ d, x.dst = some d → d < n) ∧
      ((o.guard = none ∧ x.guard = none) ∨ ∃ j b d, o.guard = some (j, b) ∧ (ops[j]?).bind (·.dst) = some d ∧ x.guard = some (d, b)) ∧
      (compOp T kd o.op = some x.op ∨ ∃ t d cs ti, o.op = .alloc t ∧ T t = some ti ∧ ti.zero.cells = cs ∧ cs ≠ [] ∧ x = ⟨some d, none, .p (.move (.t d))⟩ ∧ o.guard = none ∧ (d, cs) ∈ hs) := by
    intro i o x ho hx
    obtain ⟨x0, hx0, h1, h2, h3, h4⟩ := hidx0 i o ho
    obtain ⟨y, hy, h5⟩ := hidx1 i o x0 ho hx0
    rw [hx] at hy; injection hy with hy; subst hy
    have h4' : (o.guard = none ∧ x0.guard = none) ∨ ∃ j b d, o.guard = some (j, b) ∧ (ops[j]?).bind (·.dst) = some d ∧ x0.guard = some (d, b) := by simpa using h4
    rcases h5 with rfl | ⟨t, d, cs, h6, rfl, rfl, h7⟩
    · exact ⟨h2, h3, h4', .inl h1⟩
    · have hg : o.guard = none := by
        rcases h4' with h | ⟨j, b, d', _, _, h⟩
        · exact h.1
        · cases h
      refine ⟨h2, h3, .inl ⟨hg, rfl⟩, .inr ?_⟩
      rw [h6] at h1
      obtain ⟨ti, hti, h1⟩ := opt_eq h1
      cases hz : ti.zero.cells with
      | nil => simp only [hz] at h1; cases h1
      | cons z zs =>
        simp only [hz] at h1
        injection h1 with h1
        injection h1 with h1
        injection h1 with h1
        exact ⟨t, d, cs, ti, h6, hti, by rw [hz]; exact h1, (by rw [← h1]; exact (fun h => by cases h)), rfl, hg, h7⟩
  have hdist : ∀ (i j : Nat) (x y : XR) (t : Nat), xs[i]? = some x → xs[j]? = some y → x.dst = some t → y.dst = some t → i = j := by
    have key : ∀ (i j : Nat) (x y : XR) (t : Nat), i < j → xs[i]? = some x → xs[j]? = some y → x.dst = some t → y.dst = some t → False := by
      intro i j x y t hij hx hy hdx hdy
      obtain ⟨oi, hoi⟩ := getO i x hx
      obtain ⟨oj, hoj⟩ := getO j y hy
      have h := two i j oi oj x y hij hoi hoj hx hy
      unfold twoOk at h
      simp only [Bool.and_eq_true] at h
      have h1 := h.1.1.1.1
      rw [← (idx i oi x hoi hx).1, ← (idx j oj y hoj hy).1, hdx, hdy] at h1
      simp [sameDst] at h1
    intro i j x y t hx hy hdx hdy
    rcases Nat.lt_trichotomy i j with h | h | h
    · exact (key i j x y t h hx hy hdx hdy).elim
    · exact h
    · exact (key j i y x t h hy hx hdy hdx).elim
  have hnd : (hs.map (·.1)).Nodup := by
    have hdist0 : ∀ (i j : Nat) (x y : XR) (t : Nat), xs0[i]? = some x → xs0[j]? = some y → x.dst = some t → y.dst = some t → i = j := by
      intro i j x0 y0 t hx hy hdx hdy
      have e0 : ∀ (i : Nat) (x0 : XR), xs0[i]? = some x0 → ∃ x, xs[i]? = some x ∧ x.dst = x0.dst := by
        intro i x0 hx
        have ho : ops.toList[i]? = some _ := List.getElem?_eq_getElem (by have := (List.getElem?_eq_some_iff.1 hx).1; omega)
        obtain ⟨x, h1, h2⟩ := hidx1 i _ x0 ho hx
        refine ⟨x, h1, ?_⟩
        rcases h2 with rfl | ⟨t, d, cs, _, rfl, rfl, _⟩ <;> rfl
      obtain ⟨x, h1, h2⟩ := e0 i x0 hx
      obtain ⟨y, h3, h4⟩ := e0 j y0 hy
      exact hdist i j x y t h1 h3 (h2.trans hdx) (h4.trans hdy)
    exact (nodup_dst xs0 hdist0).sublist hsub
  have hwf : WF st := hI.entLt
  obtain ⟨κ, hκ1, hκ2, hκ3, hκ4⟩ := hoist_spec hs tm st hwf hnd
  obtain ⟨hI0, hE0⟩ := hoist_inv hs tm st hI
  obtain ⟨S, V, hS0, hSN, htr, hpairs⟩ := trc_of_runD hr
  have hwf0 : WF (S 0).2 := by rw [hS0]; exact (hoist_v hs tm st hwf).wf
  have hslot := trc_slot htr hdist
  -- who writes a slot
  have hκw : ∀ d k, κ d = some k → ∃ (i : Nat) (x : XR), xs[i]? = some x ∧ x = ⟨some d, none, .p (.move (.t d))⟩ := by
    intro d k hk
    obtain ⟨_, _, cs, hm'⟩ := hκ3 d k hk
    obtain ⟨i, o, t, _, _, _, hx⟩ := hmade d cs hm'
    exact ⟨i, _, hx, rfl⟩
  have start : ∀ t, κ t = none → evX (S 0).1 (.t t) = evX tm (.t t) := fun t ht => by
    rw [hS0]
    have := hκ1 t
    rw [ht] at this; exact this
  refine wp_region_inv' (ops := ops) (Q := Q) hm (fun i o ho e he hb => ?_) (fun D a w' => ∃ g' p, J base g st w n tm xs S V κ hs D a w' g' p) ?_ ?_ ?_
  · have := (ordOk_spec ops.toList 0 hord i o (by simpa using ho)).1 e (by simpa using he) (by rw [bindsAny_eq]; exact hb)
    simpa using this
  · -- the start
    obtain ⟨hId, hEd⟩ := hI0.drew
    obtain ⟨p, h1, h2, h3, h4, h5⟩ := next_eff htr xs.length 0 (by omega) (by omega)
    have e0 : (S p).2 = (hoist hs tm st).2 := by rw [h5, hS0]
    have hE := hE0.trans hEd
    refine ⟨g, p, h2, fun c x hc hx he => absurd he (h3 c x (by omega) hc hx), fun c x _ _ _ => rfl, h4, by rw [e0]; exact hId, by rw [e0]; exact hE, hS.defers, hS.size, (fun i x d _ _ h => by cases h), fun t _ => (hS.rep t).ext hEd, fun d k cs hk h8 _ => ?_⟩
    obtain ⟨h6, h7, _⟩ := hκ3 d k hk
    obtain ⟨k', h9, h10⟩ := hκ2 d cs h8
    rw [hk] at h9; injection h9 with h9; subst h9
    refine ⟨?_, by rw [e0]; exact h10⟩
    cases hg : g.key k with
    | none => rfl
    | some b => have := (hI.keyLt k b hg).1; omega
  · -- a step
    rintro D a1 w1 i o ho hDi hpre hcl ⟨g1, p, hJ⟩ K hK
    have ho' : ops.toList[i]? = some o := by simpa using ho
    obtain ⟨x, hx⟩ : ∃ x, xs[i]? = some x := ⟨xs[i]'(by have := (List.getElem?_eq_some_iff.1 ho').1; omega), List.getElem?_eq_getElem _⟩
    obtain ⟨hdst, hlt, hgd, hcase⟩ := idx i o x ho' hx
    have hpre' : ∀ e ∈ o.after.toList, bindsAny e = true → D e.on = true := fun e he hb => hpre e (by simpa using he) (by rw [← bindsAny_eq]; exact hb)
    have hcl' : ∀ j oj, ops.toList[j]? = some oj → D j = true → ∀ e ∈ oj.after.toList, bindsAny e = true → D e.on = true := fun j oj hj hDj e he hb => hcl j oj (by simpa using hj) hDj e (by simpa using he) (by rw [← bindsAny_eq]; exact hb)
    have before : ∀ j, Nat.testBit ((masks [] ops.toList).getD i 0) j = true → D j = true := mask_closed hord hcl' i o ho' hpre'
    have after_ : ∀ j oj, ops.toList[j]? = some oj → Nat.testBit ((masks [] ops.toList).getD j 0) i = true → D j = false := by
      intro j oj hj hb
      cases hDj : D j with
      | false => rfl
      | true =>
        have := mask_closed hord hcl' j oj hj (hcl' j oj hj hDj) i hb
        rw [hDi] at this; cases this
    have hile : i ≤ xs.length := by have := (List.getElem?_eq_some_iff.1 hx).1; omega
    -- the operands
    have hopnd : (∀ d, x = ⟨some d, none, .p (.move (.t d))⟩ → κ d = none ∨ o.op.operands.toList = []) → ∀ y ∈ o.op.operands.toList, Opnd w1 g1 (S i).1 a1.eval y := by
      intro hself y hy z hz
      cases y with
      | const v =>
        simp only [compO] at hz
        split at hz <;> try cases hz
        rename_i a' ha
        exact absC_rep ha w1 g1
      | global g' => cases hz
      | func f => simp only [compO] at hz; injection hz with hz; subst hz; exact .fn f [] [] [] [] .nil .nil
      | tmp t =>
        simp only [compO] at hz; injection hz with hz; subst hz
        have hreads : readsT o t = true := by
          unfold readsT
          exact List.any_eq_true.2 ⟨.tmp t, hy, by simp [isTmp]⟩
        by_cases hw : ∃ (j : Nat) (xj : XR), xs[j]? = some xj ∧ xj.dst = some t
        · obtain ⟨j, xj, hxj, hdj⟩ := hw
          obtain ⟨oj, hoj⟩ := getO j xj hxj
          have hdoj := (idx j oj xj hoj hxj).1
          rcases Nat.lt_trichotomy j i with hji | hji | hji
          · have h := two j i oj o xj x hji hoj ho' hxj hx
            unfold twoOk at h
            simp only [Bool.and_eq_true] at h
            have h1 := h.1.1.1.2
            rw [← hdoj, hdj] at h1
            simp only [hreads, Bool.not_true, Bool.false_or] at h1
            unfold cmp at h1
            have e1 : Nat.max j i = i := by simp [Nat.max_def]; omega
            have e2 : Nat.min j i = j := by simp [Nat.min_def]; omega
            rw [e1, e2] at h1
            have hDj := before j h1
            rw [(hslot i hile t).1 j xj hji hxj hdj]
            exact hJ.done j xj t hxj hdj hDj
          · replace hji := hji.symm; subst hji
            rw [hx] at hxj; injection hxj with hxj; subst hxj
            have hno : ∀ (j : Nat) (y : XR), j < i → xs[j]? = some y → y.dst ≠ some t := fun j' y' hj' hy' hd' => by
              have := hdist j' i y' x t hy' hx hd' hdj; omega
            have hκt : κ t = none := by
              cases hk : κ t with
              | none => rfl
              | some k =>
                obtain ⟨i', x', hx', he'⟩ := hκw t k hk
                have hii : i = i' := (hdist i' i x' x t hx' hx (by rw [he']) hdj).symm
                subst hii
                rw [hx] at hx'; injection hx' with hx'; subst hx'
                rcases hself t he' with h | h
                · rw [hk] at h; cases h
                · rw [h] at hy; cases hy
            rw [(hslot i hile t).2 hno, start t hκt]
            refine hJ.old t fun j' y' hy' hd' => ?_
            have := hdist j' i y' x t hy' hx hd' hdj
            rw [this]; exact hDi
          · have h := two i j o oj x xj hji ho' hoj hx hxj
            unfold twoOk at h
            simp only [Bool.and_eq_true] at h
            have h1 := h.1.1.2
            have h2 := h.2
            rw [← hdoj, hdj] at h1
            simp only [hreads, Bool.not_true, Bool.false_or] at h1
            unfold cmp at h1
            have e1 : Nat.max i j = j := by simp [Nat.max_def]; omega
            have e2 : Nat.min i j = i := by simp [Nat.min_def]; omega
            rw [e1, e2] at h1
            have hDj := after_ j oj hoj h1
            have hno : ∀ (j' : Nat) (y : XR), j' < i → xs[j']? = some y → y.dst ≠ some t := fun j' y' hj' hy' hd' => by
              have := hdist j' j y' xj t hy' hxj hd' hdj; omega
            have hκt : κ t = none := by
              cases hk : κ t with
              | none => rfl
              | some k =>
                obtain ⟨i', x', hx', he'⟩ := hκw t k hk
                have hii : i' = j := hdist i' j x' xj t hx' hxj (by rw [he']) hdj
                subst hii
                rw [hxj] at hx'; injection hx' with hx'; subst hx'
                rw [he'] at h2
                simp [isH, hreads] at h2
            rw [(hslot i hile t).2 hno, start t hκt]
            refine hJ.old t fun j' y' hy' hd' => ?_
            have := hdist j' j y' xj t hy' hxj hd' hdj
            rw [this]; exact hDj
        · have hno : ∀ (j : Nat) (y : XR), xs[j]? = some y → y.dst ≠ some t := fun j y hy' hd' => hw ⟨j, y, hy', hd'⟩
          have hκt : κ t = none := by
            cases hk : κ t with
            | none => rfl
            | some k =>
              obtain ⟨i', x', hx', he'⟩ := hκw t k hk
              exact absurd (by rw [he']) (hno i' x' hx')
          rw [(hslot i hile t).2 fun j y _ => hno j y, start t hκt]
          exact hJ.old t fun j y hy' hd' => absurd hd' (hno j y hy')
    have hilt : i < xs.length := (List.getElem?_eq_some_iff.1 hx).1
    obtain ⟨q, hq1, hq2, hq3⟩ := htr i x hx
    -- the guard
    have hwant : Region.wanted o (yielded ops a1.tmps) = q := want_sound (w := w1) (g := g1) hgd hq1 fun d b hgx => by
      rcases hgd with ⟨_, h⟩ | ⟨j, b', d', hog, hoj, hxg⟩
      · rw [hgx] at h; cases h
      · rw [hgx] at hxg
        injection hxg with hxg
        injection hxg with hxg1 hxg2
        subst hxg1
        obtain ⟨e, he, hb, hej⟩ := (ordOk_spec ops.toList 0 hord i o ho').2 j b' hog
        have hlt' := (ordOk_spec ops.toList 0 hord i o ho').1 e he hb
        have hDj : D j = true := by rw [← hej]; exact hpre' e he hb
        cases hq : ops[j]? with
        | none => rw [hq] at hoj; cases hoj
        | some oj =>
          rw [hq] at hoj
          have hoj' : ops.toList[j]? = some oj := by simpa using hq
          obtain ⟨xj, hxj⟩ : ∃ x, xs[j]? = some x := ⟨xs[j]'(by have := (List.getElem?_eq_some_iff.1 hoj').1; omega), List.getElem?_eq_getElem _⟩
          have hdj : xj.dst = some d := by rw [(idx j oj xj hoj' hxj).1]; exact hoj
          rw [(hslot i hile d).1 j xj (by omega) hxj hdj]
          exact hJ.done j xj d hxj hdj hDj
    -- where the next effect is
    have hip : x.op.cl = .eff → i = p := by
      intro he
      rcases Nat.lt_trichotomy i p with h | h | h
      · have := hJ.lo i x h hx he
        rw [hDi] at this; cases this
      · exact h
      · rcases hJ.pe with h' | ⟨y, hy, hye⟩
        · omega
        · obtain ⟨oy, hoy⟩ := getO p y hy
          have h2 := two p i oy o y x h hoy ho' hy hx
          unfold twoOk at h2
          simp only [Bool.and_eq_true] at h2
          have h3 := h2.1.2
          rw [hye, he] at h3
          simp only at h3
          unfold cmp at h3
          have e1 : Nat.max p i = i := by simp [Nat.max_def]; omega
          have e2 : Nat.min p i = p := by simp [Nat.min_def]; omega
          rw [e1, e2] at h3
          have := before p h3
          rw [hJ.hi p y (Nat.le_refl _) hy hye] at this; cases this
    have fin_ne : x.op.cl ≠ .eff → ∀ v w' g', Rep w' g' (V i) v → Inv base g' (S p).2 w' → Ext base g st w g' (S p).2 w' → g1.le g' → Same g1 w1 w' →
        (∀ d k cs, κ d = some k → x.dst ≠ some d → g1.key k = none → (S p).2.heap.get k = some (.box 0 cs) → g'.key k = none ∧ (S p).2.heap.get k = some (.box 0 cs)) → K (a1.put o.dst v) w' := by
      intro hne v w' g' h1 h2 h3 h4 h5 h6
      rw [← hdst]
      exact hK _ _ ⟨g', p, hJ.next hdist hx hDi hlt h1 h2 h3 h4 h5 h6 hJ.ple (fun c y hc hy he => .inr (hJ.lo c y hc hy he)) (fun c y hc hy he => ⟨fun e => by
        subst e
        rw [hx] at hy; injection hy with hy; subst hy
        exact hne he, hJ.hi c y hc hy he⟩) hJ.pe⟩
    have fin_e : x.op.cl = .eff → ∀ v w' g', Rep w' g' (V i) v → Inv base g' (S (i + 1)).2 w' → Ext base g st w g' (S (i + 1)).2 w' → g1.le g' → Same g1 w1 w' →
        (∀ d k cs, κ d = some k → x.dst ≠ some d → g1.key k = none → (S p).2.heap.get k = some (.box 0 cs) → g'.key k = none ∧ (S (i + 1)).2.heap.get k = some (.box 0 cs)) → K (a1.put o.dst v) w' := by
      intro he v w' g' h1 h2 h3 h4 h5 h6
      have hpi := hip he
      obtain ⟨p', h7, h8, h9, h10, h11⟩ := next_eff htr _ (i + 1) rfl (by omega)
      rw [← h11] at h2 h3 h6
      rw [← hdst]
      exact hK _ _ ⟨g', p', hJ.next hdist hx hDi hlt h1 h2 h3 h4 h5 h6 h8 (fun c y hc hy hye => by
        by_cases e1 : c = i
        · exact .inl e1
        · by_cases e2 : c < p
          · exact .inr (hJ.lo c y e2 hy hye)
          · exact absurd hye (h9 c y (by omega) hc hy)) (fun c y hc hy hye => ⟨by omega, hJ.hi c y (by omega) hy hye⟩) h10⟩
    rw [hwant]
    rcases hq3 with ⟨rfl, hVi, hSi⟩ | ⟨rfl, hdo⟩
    · -- it is not wanted
      simp only [Bool.false_eq_true, if_false]
      by_cases he : x.op.cl = .eff
      · have hpi := hip he
        refine fin_e he undef w1 g1 (by rw [hVi]; exact rep_und) (by rw [hSi, hpi]; exact hJ.inv) (by rw [hSi, hpi]; exact hJ.ext) (.refl _) (fun _ _ _ => rfl) fun d k cs _ _ h1 h2 => ⟨h1, by rw [hSi, hpi]; exact h2⟩
      · exact fin_ne he undef w1 g1 (by rw [hVi]; exact rep_und) hJ.inv hJ.ext (.refl _) (fun _ _ _ => rfl) fun d k cs _ _ h1 h2 => ⟨h1, h2⟩
    · simp only [if_true]
      rcases hcase with hcomp | ⟨t, d, cs, ti, hop, hti, hz, hne, hxe, hog, hmem⟩
      · have hself : ∀ d, x = ⟨some d, none, .p (.move (.t d))⟩ → κ d = none ∨ o.op.operands.toList = [] := by
          intro d hxd
          cases hk : κ d with
          | none => exact .inl rfl
          | some k =>
            obtain ⟨_, _, cs, hmm⟩ := hκ3 d k hk
            obtain ⟨i', o', t', h1, h2, _, h3⟩ := hmade d cs hmm
            have hii : i' = i := hdist i' i _ x d h3 hx rfl (by rw [hxd])
            subst hii
            rw [ho'] at h1; injection h1 with h1; subst h1
            exact .inr (by rw [h2]; rfl)
        have hρ := hopnd hself
        cases hxo : x.op with
        | p xp =>
          rw [hxo] at hcomp hdo
          obtain ⟨h1, _⟩ := okP_eq (show okP (S i).2 (doP (S i).1 xp) = some (V i, (S (i + 1)).2) from hdo)
          have hdo' : doX call (S p).2 (S i).1 (.p xp) = some (V i, (S p).2) := by
            show okP (S p).2 (doP (S i).1 xp) = _
            rw [h1]; rfl
          refine op_sound hT hcall hcomp hJ.inv hρ hdo' fun v w' g' h2 h3 h4 => ?_
          exact fin_ne (by rw [hxo]; exact fun h => by cases h) v w' g' h2 h3 (hJ.ext.trans h4) h4.le h4.same fun d k cs _ _ h5 h6 => (h4.absent k _ h6 rfl h5).symm
        | l xl =>
          rw [hxo] at hcomp hdo
          obtain ⟨h1, _⟩ := okP_eq (show okP (S i).2 (doL (S i).2.heap (S i).1 xl) = some (V i, (S (i + 1)).2) from hdo)
          have hcl2 : x.op.cl = .load := by rw [hxo]; rfl
          have hkey : ∀ key, keyRead (S i).1 x = some key → (S p).2.heap.get key = (S i).2.heap.get key := by
            intro key hk
            have hw' : wants (S i).1 x.guard = some true := hq1
            rcases Nat.le_total p i with hpi | hpi
            · refine (trc_key hV htr hwf0 i hpi hile fun c y hc hc' hy hye => ?_).symm
              obtain ⟨oy, hoy⟩ := getO c y hy
              have hDc := hJ.hi c y hc hy hye
              have hcm : cmp (masks [] ops.toList) c i = false := by
                cases hb : cmp (masks [] ops.toList) c i with
                | false => rfl
                | true =>
                  unfold cmp at hb
                  have e1 : Nat.max c i = i := by simp [Nat.max_def]; omega
                  have e2 : Nat.min c i = c := by simp [Nat.min_def]; omega
                  rw [e1, e2] at hb
                  have := before c hb
                  rw [hDc] at this; cases this
              have hmem : (i, c) ∈ pairs := by
                rw [← hps]
                refine pairsOf_mem _ xs 0 c i y x hc' hy hx (i, c) ?_
                rw [Nat.zero_add, Nat.zero_add]
                unfold pairOf
                rw [hye, hcl2]
                simp [hcm]
              exact hpairs i c x hmem hx (List.getElem?_eq_some_iff.1 hy).1 hw' key hk
            · refine trc_key hV htr hwf0 p hpi hJ.ple fun c y hc hc' hy hye => ?_
              have hci : c ≠ i := fun e => by
                subst e
                rw [hx] at hy; injection hy with hy; subst hy
                rw [hcl2] at hye; cases hye
              obtain ⟨oy, hoy⟩ := getO c y hy
              have hDc := hJ.lo c y hc' hy hye
              have hcm : cmp (masks [] ops.toList) i c = false := by
                cases hb : cmp (masks [] ops.toList) i c with
                | false => rfl
                | true =>
                  unfold cmp at hb
                  have e1 : Nat.max i c = c := by simp [Nat.max_def]; omega
                  have e2 : Nat.min i c = i := by simp [Nat.min_def]; omega
                  rw [e1, e2] at hb
                  have := after_ c oy hoy hb
                  rw [hDc] at this; cases this
              have hmem : (i, c) ∈ pairs := by
                rw [← hps]
                refine pairsOf_mem _ xs 0 i c x y (by omega) hx hy (i, c) ?_
                rw [Nat.zero_add, Nat.zero_add]
                unfold pairOf
                rw [hye, hcl2]
                simp [hcm]
              exact hpairs i c x hmem hx (List.getElem?_eq_some_iff.1 hy).1 hw' key hk
          have hdo' : doX call (S p).2 (S i).1 (.l xl) = some (V i, (S p).2) := by
            show okP (S p).2 (doL (S p).2.heap (S i).1 xl) = _
            rw [doL_congr hxo hkey, h1]; rfl
          refine op_sound hT hcall hcomp hJ.inv hρ hdo' fun v w' g' h2 h3 h4 => ?_
          exact fin_ne (by rw [hcl2]; exact fun h => by cases h) v w' g' h2 h3 (hJ.ext.trans h4) h4.le h4.same fun d k cs _ _ h5 h6 => (h4.absent k _ h6 rfl h5).symm
        | e xe =>
          have hcl2 : x.op.cl = .eff := by rw [hxo]; rfl
          have hpi := hip hcl2
          rw [hxo] at hcomp hdo
          have hinv := hJ.inv
          have hext := hJ.ext
          rw [← hpi] at hinv hext
          refine op_sound hT hcall hcomp hinv hρ hdo fun v w' g' h2 h3 h4 => ?_
          exact fin_e hcl2 v w' g' h2 h3 (hext.trans h4) h4.le h4.same fun d k cs _ _ h5 h6 => by
            rw [← hpi] at h6
            exact (h4.absent k _ h6 rfl h5).symm
      · -- a variable that was made ahead
        obtain ⟨k, hk, _⟩ := hκ2 d cs hmem
        have hdx : x.dst = some d := by rw [hxe]
        have hno : ∀ (j : Nat) (y : XR), j < i → xs[j]? = some y → y.dst ≠ some d := fun j y hj hy hd' => by
          have := hdist j i y x d hy hx hd' hdx; omega
        have hVi : V i = .ptr k 0 := by
          rw [hxe] at hdo
          obtain ⟨h1, _⟩ := okP_eq (show okP (S i).2 (some (evX (S i).1 (.t d))) = some (V i, (S (i + 1)).2) from hdo)
          injection h1 with h1
          rw [← h1, (hslot i hile d).2 hno, hS0]
          have := hκ1 d
          rw [hk] at this; exact this
        obtain ⟨hgk, hget⟩ := hJ.hoi d k cs hk hmem fun j y hy hdy => by
          have := hdist j i y x d hy hx hdy hdx
          rw [this]; exact hDi
        obtain ⟨inf, z, h2, h3, h4, h5, h6, h7, h8⟩ := (hT t ti hti).info
        obtain ⟨us, h9, h10, h11⟩ := (h6 w1 g1).cells (by rw [hz]; exact hne)
        rw [hz] at h10
        obtain ⟨g', h12, h13, h14, h15, h16, h19⟩ := hJ.inv.realize hget hgk h10 h11 t
        have hrun : (execOp a1.eval o).run P w1 = .ok (.value (.pointer (some ⟨w1.heap.size, 0, none⟩))) (w1.alloc (.cells us.toArray t)) := by
          simp [execOp, hop, Instr.alloc, Sem.run_bind, zeroValue, typeInfo, h2, h5, newVar, newRow, h9]
        unfold Oper.wp
        rw [hrun]
        refine fin_ne (by rw [hxe]; exact fun h => by cases h) (.pointer (some ⟨w1.heap.size, 0, none⟩)) _ g' (by rw [hVi]; exact .ptr k 0 _ (by rw [h13]; simp)) h12 ⟨hJ.ext.le.trans h14, hJ.ext.same.trans hJ.ext.le h15, hJ.ext.below.trans h16, hJ.ext.next, fun b i hx => hJ.ext.fnew b i (h19 b i hx), fun k0 e0 hk0 he0 hn0 => ?_⟩ h14 h15
          fun d' k' cs' hk' hne' h17 h18 => ⟨?_, h18⟩
        · obtain ⟨h17, h18⟩ := hJ.ext.absent k0 e0 hk0 he0 hn0
          refine ⟨h17, ?_⟩
          rw [h13]
          have hlt0 := hI.entLt k0 e0 hk0
          have hge := (hκ3 d k hk).1
          have : k0 ≠ k := by omega
          simp [this, h18]
        · rw [h13]
          have : k' ≠ k := fun e => by
            subst e
            exact hne' (by rw [hdx, hκ4 d d' k' hk hk'])
          simp [this, h17]
  · -- the end
    rintro D a1 w1 hall ⟨g1, p, hJ⟩
    have hpN : p = xs.length := by
      rcases hJ.pe with h | ⟨x, hx, he⟩
      · exact h
      · have hlt : p < ops.size := by have := (List.getElem?_eq_some_iff.1 hx).1; have := hlen; simp at this; omega
        have := hJ.hi p x (Nat.le_refl _) hx he
        rw [hall p hlt] at this; cases this
    subst hpN
    have hallx : ∀ (j : Nat) (y : XR), xs[j]? = some y → D j = true := fun j y hy => hall j (by have := (List.getElem?_eq_some_iff.1 hy).1; have := hlen; simp at this; omega)
    refine hQ a1 w1 g1 ⟨hJ.defers, hJ.size, fun t => ?_⟩ (by have := hJ.inv; rw [hSN] at this; exact this) (by have := hJ.ext; rw [hSN] at this; exact this)
    have hs' := hslot xs.length (Nat.le_refl _) t
    rw [hSN] at hs'
    by_cases hw : ∃ (j : Nat) (xj : XR), xs[j]? = some xj ∧ xj.dst = some t
    · obtain ⟨j, xj, hxj, hdj⟩ := hw
      rw [hs'.1 j xj (List.getElem?_eq_some_iff.1 hxj).1 hxj hdj]
      exact hJ.done j xj t hxj hdj (hallx j xj hxj)
    · have hno : ∀ (j : Nat) (y : XR), xs[j]? = some y → y.dst ≠ some t := fun j y hy' hd' => hw ⟨j, y, hy', hd'⟩
      have hκt : κ t = none := by
        cases hk : κ t with
        | none => rfl
        | some k =>
          obtain ⟨i', x', hx', he'⟩ := hκw t k hk
          exact absurd (by rw [he']) (hno i' x' hx')
      rw [hs'.2 fun j y _ => hno j y, start t hκt]
      exact hJ.old t fun j y hy' hd' => absurd hd' (hno j y hy')
end
end Go.Ev
namespace Go.Ev
open Go.RowKit
set_option linter.unusedVariables false

section
variable {P : Program} {T : Nat → Option TI} {base : Nat} {g : G} {st : St} {w : World} {r : AV}
theorem setCell_comm (w : World) (b c i j : Nat) (u v : Value) (h : b ≠ c) : (w.setCell ⟨b, i, none⟩ u).setCell ⟨c, j, none⟩ v = (w.setCell ⟨c, j, none⟩ v).setCell ⟨b, i, none⟩ u := by
  unfold World.setCell
  congr 1
  apply Array.ext
  · simp
  · intro k h1 h2
    simp only [Array.getElem_modify]
    by_cases hb : b = k
    · subst hb
      rw [if_neg (fun e => h e.symm)]
      simp [h.symm]
    · simp [hb]
theorem setCells_setCell_comm (b c j : Nat) (v : Value) (h : b ≠ c) : ∀ (us : List Value) (i : Nat) (w : World), (w.setCells b i us).setCell ⟨c, j, none⟩ v = (w.setCell ⟨c, j, none⟩ v).setCells b i us := by
  intro us
  induction us with
  | nil => intro i w; rfl
  | cons u us ih =>
    intro i w
    rw [World.setCells, World.setCells, ih, setCell_comm w b c i j u v h]
theorem setCells_comm (b c : Nat) (h : b ≠ c) (us : List Value) (i : Nat) : ∀ (vs : List Value) (j : Nat) (w : World), (w.setCells b i us).setCells c j vs = (w.setCells c j vs).setCells b i us := by
  intro vs
  induction vs with
  | nil => intro j w; rfl
  | cons v vs ih =>
    intro j w
    rw [World.setCells, World.setCells, setCells_setCell_comm b c j v h, ih]
/-- What holds where the growing is done and the element is yet to be stored. -/
def Grown (P : Program) (base : Nat) (g : G) (st : St) (w : World) (t u ty : TypeId) (sv y : Value) (n size : Nat) (us : List Value) (r : AV) (st' : St) : Prop :=
  ∃ b off cap w1 g', (Builtin.append_ #[t, u] ty #[sv, y]).run P w = .ok (.slice (some ⟨b, off, none⟩) (n + 1) cap) w1 ∧ w1.there b (off + n * size) us.length ∧
    Rep (w1.setCells b (off + n * size) us) g' r (.slice (some ⟨b, off, none⟩) (n + 1) cap) ∧ Inv base g' st' (w1.setCells b (off + n * size) us) ∧ Ext base g st w g' st' (w1.setCells b (off + n * size) us) ∧ ∀ j, j < us.length → g'.frz b (off + n * size + j)
theorem frz_new {size : Nat} {es : List AV} {x : AV} {t : Tip} {b off n cap m : Nat} (h : Rep w g (.sl size (es ++ [x]) t) (.slice (some ⟨b, off, none⟩) n cap)) (hm : m = size) : ∀ j, j < m → g.frz b (off + es.length * size + j) := by
  obtain ⟨vs, b', o', cap', h1, h2, h3, h4, h5, h6, hv⟩ := rep_sl h
  injection hv with h7 h8 h9
  injection h7 with h7
  injection h7 with h10 h11 h12
  subst h10 h11
  intro j hj
  have hl : vs.length = (es.length + 1) * size := by rw [h1.length, flat_length _ size h4]; simp
  rw [Nat.add_mul, Nat.one_mul] at hl
  have := (h2 (es.length * size + j) _ (List.getElem?_eq_getElem (by omega))).1
  rwa [← Nat.add_assoc] at this
theorem app1_grow (hT : TabOk P T) {t u ty : TypeId} {i : TI} {e : Nat} (hu : P.underlying t = some (.slice e)) (hTe : T e = some i) (hz : i.size ≠ 0) {bs : Option Addr} {cap : Nat} {y : Value} {es : List AV} {x z0 : AV} {vs news us : List Value} (hsrc : SrcAt P w g i.size u y [z0] news)
    (hx : RL w g x.cells us) (hxo : One us) (hxl : x.cells.length = i.size)
    (hI : Inv base g st w) (h1 : RL w g (flat es) vs) (ho1 : One vs) (hs1 : ∀ e ∈ es, e.cells.length = i.size)
    (hold : (Builtin.firstCells i.size es.length (.slice bs es.length cap)).run P w.drew = .ok vs.toArray w.drew) (hg : cap < es.length + 1) (hfew : few (es.length + 1) i.bytes = true) :
    Grown P base g st w t u ty (.slice bs es.length cap) y es.length i.size us (.sl i.size (es ++ [x]) (.at st.next)) (st.new .tip) := by
  obtain ⟨inf, z, h2, h3, h4, h5, h6, h7, h8⟩ := (hT e i hTe).info
  obtain ⟨zs, h9, h10, _⟩ := (h6 w g).cells (h8 hz)
  have hzs : z.cells.size = i.size := by rw [h9]; simpa [h10.length] using h7
  unfold few at hfew
  simp only [Bool.and_eq_true] at hfew
  have hn := Nat.le_of_ble_eq_true hfew.1
  have hby := Nat.le_of_ble_eq_true hfew.2
  have hfit : Builtin.nextslicecap (es.length + 1) cap * inf.bytes ≤ 281474976710656 := by
    have h11 := nextcap_le hg
    rw [h4]
    calc _ ≤ (2 * 1073741824 + 192) * 4096 := Nat.mul_le_mul (by omega) hby
      _ ≤ _ := by decide
  have hrun := run_append_grow_src (P := P) w t u ty e inf z hu h2 h5 bs es.length cap vs (by rw [h3]; exact hold) y 1 news (by rw [h3]; exact hsrc.src) hg (by omega) hfit
  have hge := grownCap_ge w (es.length + 1) cap e
  generalize grownCap w (es.length + 1) cap e = C at hrun hge
  have hl1 : vs.length = es.length * i.size := by rw [h1.length, flat_length es i.size hs1]
  have hl2 : news.length = i.size := by rw [hsrc.rep.length, flat_length [z0] i.size hsrc.len]; simp
  have hl3 : us.length = i.size := by rw [hx.length, hxl]
  obtain ⟨hI1, hE1⟩ := hI.drew
  obtain ⟨hI2, hE2⟩ := hI1.alloc (.cells ((vs ++ news).toArray ++ Builtin.zeroCells z.cells (C - (es.length + 1))) e)
  have hE := hE1.trans hE2
  have hsz : (w.drew.alloc (.cells ((vs ++ news).toArray ++ Builtin.zeroCells z.cells (C - (es.length + 1))) e)).heap.size = w.heap.size + 1 := by simp
  have hb : (w.drew.alloc (.cells ((vs ++ news).toArray ++ Builtin.zeroCells z.cells (C - (es.length + 1))) e)).heap[w.heap.size]? = some (.cells ((vs ++ news).toArray ++ Builtin.zeroCells z.cells (C - (es.length + 1))) e (0, 0)) := heap_alloc_new w.drew _
  generalize hcs : (vs ++ news).toArray ++ Builtin.zeroCells z.cells (C - (es.length + 1)) = cs at *
  have hcsz : cs.size = C * i.size := by
    rw [← hcs, Array.size_append, size_zeroCells, hzs]
    simp only [List.size_toArray, List.length_append, hl1, hl2]
    have : es.length * i.size + i.size = (es.length + 1) * i.size := by rw [Nat.add_mul, Nat.one_mul]
    rw [this, ← Nat.add_mul]
    congr 1; omega
  have hcell : ∀ j, (w.drew.alloc (.cells cs e)).cell? ⟨w.heap.size, j, none⟩ = cs[j]? := fun j => cell_of_row _ w.heap.size j cs e (0, 0) hb
  have hpre : ∀ j v, (vs ++ news)[j]? = some v → cs[j]? = some v := fun j v hv => by
    rw [← hcs, Array.getElem?_append_left (by simpa using (List.getElem?_eq_some_iff.1 hv).1)]
    simpa using hv
  have hnk : ∀ k, g.key k ≠ some w.heap.size := fun k hk => by have := (hI.keyLt k _ hk).2; omega
  have hnt : ∀ k s e, g.tip k ≠ some (w.heap.size, s, e) := fun k s e hk => by have := (hI.tipLt k _ s e hk).2; omega
  have hnf : ∀ j, ¬ g.frz w.heap.size j := fun j hf => by
    obtain ⟨v, hv⟩ := hI.frzIn _ _ hf
    have := cell_lt hv; omega
  have hmul : (es.length + 1) * i.size ≤ C * i.size := Nat.mul_le_mul_right _ hge
  rw [Nat.add_mul, Nat.one_mul] at hmul
  have hthall : (w.drew.alloc (.cells cs e)).there w.heap.size 0 cs.size := fun j hj => by
    refine ⟨?_, frozen_new hb _⟩
    rw [Nat.zero_add, hcell, Array.getElem?_eq_getElem hj]; rfl
  have hth : (w.drew.alloc (.cells cs e)).there w.heap.size (0 + es.length * i.size) us.length := fun j hj => by
    have := hthall (es.length * i.size + j) (by omega)
    rwa [← Nat.add_assoc] at this
  have hbel : Below base (w.drew.alloc (.cells cs e)) ((w.drew.alloc (.cells cs e)).setCells w.heap.size (0 + es.length * i.size) us) := below_setCells hI.base_le
  have hsz3 : w.heap.size < ((w.drew.alloc (.cells cs e)).setCells w.heap.size (0 + es.length * i.size) us).heap.size := by have := hbel.size; omega
  obtain ⟨hI3, hE3⟩ := hI2.other (w' := (w.drew.alloc (.cells cs e)).setCells w.heap.size (0 + es.length * i.size) us)
    (fun c j hf => World.cell?_setCells_out w.heap.size us _ _ ⟨c, j, none⟩ (fun hc _ => by
      have hc : c = w.heap.size := hc
      subst hc
      exact absurd hf (hnf j)))
    hbel.size hbel
    (fun k b hk hg' => World.heap_setCells_other _ w.heap.size _ us (hI2.keyLt k b hg').2 (fun e' => by subst e'; exact hnk k hg'))
    (fun id b s e' hk hg' => World.heap_setCells_other _ w.heap.size _ us (hI2.tipLt id b s e' hg').2 (fun e' => by subst e'; exact hnt id s _ hg'))
  have hEa := hE.trans hE3
  obtain ⟨g', h11, h12, h13⟩ := commit hI3 (cap := C) (b := w.heap.size) (off := 0) (xs := [x]) (h1.ext hEa) (by have := hx.ext hEa; simpa [flat] using this) ho1 hxo hs1 (fun e he => by simp at he; subst he; exact hxl) hI.base_le hsz3 (by simpa using hge)
    (World.rangeAt_setCells_apart (fun j v hv => by rw [Nat.zero_add, hcell]; exact hpre j v (by rw [List.getElem?_append_left (List.getElem?_eq_some_iff.1 hv).1]; exact hv)) _ _ us (.inr (.inl (by omega))))
    (by rw [hl1]; exact World.rangeAt_setCells_same _ _ _ us hth)
    (fun j hj => by
      have := World.there_setCells hthall w.heap.size (0 + es.length * i.size) us (vs.length + us.length + j) (by omega)
      have e' : 0 + vs.length + us.length + j = 0 + (vs.length + us.length + j) := by omega
      rw [e']; exact this)
    (fun k _ => hnk k) (fun k s e _ h => absurd h (hnt k s e)) (fun j _ _ => hnf j)
  exact ⟨w.heap.size, 0, C, _, g', hrun, hth, h13, h11, hEa.trans h12, frz_new h13 hl3⟩
theorem app1_core (hT : TabOk P T) {t u ty : TypeId} {i : TI} (hi : sliceOf T t = some i) {sv y : Value} {a : AV} (hs : Rep w g a sv) {z0 x : AV} {news us : List Value} (hsrc : SrcAt P w g i.size u y [z0] news)
    (hx : RL w g x.cells us) (hxo : One us) (hxl : x.cells.length = i.size) {n : Nat} (hn : lenA a = some n) {st' : St}
    (hr : addOp i.size i.bytes st a [x] = some (r, st')) (hI : Inv base g st w) : Grown P base g st w t u ty sv y n i.size us r st' := by
  obtain ⟨e, hu, hTe, hz⟩ := sliceOf_ok hT hi
  obtain ⟨inf, h2, h3, _⟩ := (hT e i hTe).run_info
  unfold addOp at hr
  simp only at hr
  split at hr
  · split at hr <;> try cases hr
    rename_i hfew
    injection hn with hn
    subst hn
    rw [rep_nils hs]
    exact app1_grow hT hu hTe hz hsrc hx hxo hxl hI (es := []) (bs := none) (cap := 0) .nil One.nil (fun _ h => by cases h) (run_firstCells_none w.drew i.size 0 0 0) (by simp) (by simpa using hfew)
  · rename_i m es tip
    injection hn with hn
    subst hn
    split at hr <;> try cases hr
    rename_i hc
    simp only [Bool.and_eq_true, natBeq, decide_eq_true_eq] at hc
    obtain ⟨hn, hfew⟩ := hc
    subst hn
    obtain ⟨vs, b, o', cap, h4, h5, h6, h7, h8, h9, hv⟩ := rep_sl hs
    have hl : vs.length = es.length * i.size := by rw [h4.length, flat_length es i.size h7]
    have hold : (Builtin.firstCells i.size es.length (.slice (some ⟨b, o', none⟩) es.length cap)).run P w.drew = .ok vs.toArray w.drew :=
      run_firstCells_some w.drew i.size es.length _ es.length cap vs hl (fun j u hu => by rw [Addr.add_mid]; simpa using (h5 j u hu).2)
    rw [hv]
    split at hr
    · injection hr with hr
      injection hr with hr1 hr2
      subst hr1 hr2
      have hcap : cap = es.length := h9
      exact app1_grow hT hu hTe hz hsrc hx hxo hxl hI h4 h6 h7 hold (by omega) hfew
    · rename_i id
      split at hr <;> try cases hr
      rename_i hid
      have htip : g.tip id = some (b, o' + es.length * i.size, o' + cap * i.size) := h9
      obtain ⟨hb0, hse, hth, hnf⟩ := hI.tip id _ _ _ hid htip
      obtain ⟨hI0, hE0⟩ := dropTip hI hid
      by_cases hroom : es.length + 1 ≤ cap
      · have hl2 : news.length = i.size := by rw [hsrc.rep.length, flat_length [z0] i.size hsrc.len]; simp
        have hl3 : us.length = i.size := by rw [hx.length, hxl]
        have hmul : es.length * i.size + i.size ≤ cap * i.size := by
          have := Nat.mul_le_mul_right i.size hroom
          rwa [Nat.add_mul, Nat.one_mul] at this
        have hrun := run_append_room_src (P := P) w t u ty e inf hu h2 b o' es.length cap y 1 news (by rw [h3]; exact hsrc.src) hroom
          (fun j hj => by rw [h3]; exact (hth j (by omega)).1) (fun j hj => by rw [h3]; exact (hth j (by omega)).2)
        rw [h3] at hrun
        have hother : ∀ c, c ≠ b → c < w.heap.size → (w.setCells b (o' + es.length * i.size) news).heap[c]? = w.heap[c]? := fun c hc hlt => World.heap_setCells_other w b _ news hlt hc
        obtain ⟨hIn, hEn⟩ := hI.writeTip hid htip (vs := news) (by omega) (below_setCells hb0) hother
        have hthn := World.there_setCells hth b (o' + es.length * i.size) news
        generalize w.setCells b (o' + es.length * i.size) news = w1 at *
        have hother1 : ∀ c, c ≠ b → c < w1.heap.size → (w1.setCells b (o' + es.length * i.size) us).heap[c]? = w1.heap[c]? := fun c hc hlt => World.heap_setCells_other w1 b _ us hlt hc
        obtain ⟨hI1, hE1⟩ := hIn.writeTip hid htip (vs := us) (by omega) (below_setCells hb0) hother1
        obtain ⟨hI2, hE2⟩ := dropTip hI1 hid
        have hE := hEn.trans (hE1.trans hE2)
        have hblt : b < (w1.setCells b (o' + es.length * i.size) us).heap.size := (hI1.tipLt id _ _ _ htip).2
        have htp : ∀ k, (st.put id .gone).heap.get k = some .tip → k ≠ id ∧ st.heap.get k = some .tip := fun k hk => by
          rw [get_put] at hk
          by_cases e' : k = id
          · rw [if_pos e'] at hk; cases hk
          · rw [if_neg e'] at hk; exact ⟨e', hk⟩
        have hlv : ∀ k, live (st.put id .gone).heap k → live st.heap k := fun k ⟨q, hq, hq2⟩ => by
          rw [get_put] at hq
          by_cases e' : k = id
          · rw [if_pos e'] at hq; injection hq with hq; subst hq; cases hq2
          · rw [if_neg e'] at hq; exact ⟨q, hq, hq2⟩
        obtain ⟨g', h11, h12, h13⟩ := commit hI2 (size := i.size) (cap := cap) (b := b) (off := o' ) (xs := [x]) (h4.ext hE) (by have := hx.ext hE; simpa [flat] using this) h6 hxo h7 (fun e he => by simp at he; subst he; exact hxl) hb0 hblt (by simpa using hroom)
          (h5.mono hE.same hE.le).rangeAt
          (by rw [hl]; exact World.rangeAt_setCells_same w1 b _ us (fun j hj => hthn j (by omega)))
          (fun j hj => by
            have := World.there_setCells hthn b (o' + es.length * i.size) us (us.length + j) (by omega)
            have e' : o' + vs.length + us.length + j = o' + es.length * i.size + (us.length + j) := by omega
            rw [e']; exact this)
          (fun k hk hg' => hI.keyTip k id b _ _ (hlv k hk) hid hg' htip)
          (fun k s' e' hk hg' => by
            obtain ⟨hne, hk'⟩ := htp k hk
            have hd := hI.tipInj k id b s' e' _ _ hk' hid hne hg' htip
            refine ⟨fun j hj hj' hx => ?_, by omega⟩
            have hlt : j < o' + es.length * i.size := by omega
            have hf := (h5 (j - o') _ (List.getElem?_eq_getElem (by omega))).1
            have e2 : o' + (j - o') = j := by omega
            rw [e2] at hf
            exact (hI.tip k b s' e' hk' hg').2.2.2 j hj hj' hf)
          (fun j hj hj' => hnf j (by omega) hj')
        exact ⟨b, o', cap, w1, g', hrun, (fun j hj => hthn j (by omega)), h13, h11, hE.trans h12, frz_new h13 hl3⟩
      · obtain ⟨b1, o1, c1, w', g', h11, h12, h13, h14, h15, h16⟩ := app1_grow (st := st.put id .gone) (ty := ty) hT hu hTe hz hsrc hx hxo hxl hI0 h4 h6 h7 hold (by omega) hfew
        exact ⟨b1, o1, c1, w', g', h11, h12, h13, h14, hE0.trans h15, h16⟩
    · cases hr
  · cases hr
end
end Go.Ev
namespace Go.Ev
open Go.RowKit
set_option linter.unusedVariables false

section
variable {P : Program} {T : Nat → Option TI} {base : Nat} {g : G} {st : St} {w : World} {ρ : Operand → Value} {o : Oper} {tm : Tr AV} {r : AV}
/-- The place of the new element. -/
theorem run_last (hT : TabOk P T) {ti a q : Nat} {i2 : TI} (hi : sliceOf T ti = some i2) (ho : o.op = .indexAddr ti (.tmp a) (.tmp q)) {bk off m cap : Nat} {kk : IntKind} (hva : ρ (.tmp a) = .slice (some ⟨bk, off, none⟩) (m + 1) cap) (hvq : ρ (.tmp q) = .int kk (m : Int)) (w : World) :
    (execOp ρ o).run P w = .ok (.value (.pointer (some ⟨bk, off + m * i2.size, none⟩))) w := by
  obtain ⟨e, hu, hTe, hz⟩ := sliceOf_ok hT hi
  have hlt : m < m + 1 := Nat.lt_succ_self m
  have h0 : (0 : Int) ≤ (m : Int) ∧ (m : Int) < ((m + 1 : Nat) : Int) := by omega
  simp [execOp, ho, hva, hvq, Instr.indexAt, asIntOf, Sem.run_bind, run_underlying hu, hlt, (hT _ i2 hTe).run_size, Addr.add_mid]
/-- The element is stored. -/
theorem run_late (hT : TabOk P T) {et b : Nat} {v : Operand} {ei : TI} (hi : T et = some ei) (ho : o.op = .store et (.tmp b) v) {bk s : Nat} {us : List Value} (hvb : ρ (.tmp b) = .pointer (some ⟨bk, s, none⟩)) (hv : (ρ v).cells = us.toArray) (hl : us.length = ei.size) (hone : One us) {w : World} (hth : w.there bk s us.length) :
    (execOp ρ o).run P w = .ok .skip (w.setCells bk s us) := by
  have hrun := run_store (P := P) (hT et ei hi) hv hl hone hth
  simp [execOp, ho, hvb, hrun]
theorem tail_nilc {x : Operand} {a : XO} (ho : o.op = .nilCheck x) (ha : compO x = some a) (hx : Opnd w g tm ρ x) (hr : xNilc (evX tm a) = some r) : ∃ v, (∀ w', (execOp ρ o).run P w' = .ok (.value v) w') ∧ Rep w g r v := by
  have h1 := hx a ha
  unfold xNilc at hr
  split at hr
  · rename_i k off he
    injection hr with hr; subst hr
    rw [he] at h1
    obtain ⟨b, hb, hv⟩ := rep_ptr h1
    exact ⟨ρ x, fun w' => by simp [execOp, ho, hv], h1⟩
  · rename_i c off he
    injection hr with hr; subst hr
    rw [he] at h1
    obtain ⟨vs, b, o', _, _, _, hv⟩ := rep_ro h1
    exact ⟨ρ x, fun w' => by simp [execOp, ho, hv], h1⟩
  · cases hr
theorem tail_faddr {t : TypeId} {x : Operand} {i : Nat} {f : Nat × Nat × Bool} {a : XO} (hT : TabOk P T) (ho : o.op = .fieldAddr t x i) (hf : fieldOf T t i = some f) (ha : compO x = some a) (hx : Opnd w g tm ρ x)
    (hr : xFaddr f.1 (evX tm a) = some r) : ∃ v, (∀ w', (execOp ρ o).run P w' = .ok (.value v) w') ∧ Rep w g r v := by
  have h1 := hx a ha
  unfold fieldOf at hf
  split at hf <;> try cases hf
  rename_i ti hti
  split at hf <;> try cases hf
  rename_i fs hfs
  split at hf <;> try cases hf
  rename_i off ft hoff
  split at hf <;> try cases hf
  rename_i fi hfi
  split at hf <;> try cases hf
  rename_i hsz
  obtain ⟨d, hd, hk⟩ := (hT t ti hti).kd
  rw [hfs] at hk
  cases d <;> simp only [KdOk] at hk
  rename_i flds
  have hfl : ∃ fd : Field, flds[i]? = some fd ∧ fd.offset = off ∧ fd.type = ft := by
    rw [← hk, List.getElem?_map] at hoff
    cases hq : flds.toList[i]? with
    | none => rw [hq] at hoff; cases hoff
    | some fd =>
      rw [hq] at hoff
      simp at hoff
      exact ⟨fd, by simpa using hq, hoff⟩
  obtain ⟨fd, hfd, rfl, rfl⟩ := hfl
  have hsz' : fi.size ≠ 0 := by
    rw [natBeq] at hsz
    simpa using hsz
  unfold xFaddr at hr
  split at hr
  · rename_i k off he
    injection hr with hr; subst hr
    rw [he] at h1
    obtain ⟨b, hb, hv⟩ := rep_ptr h1
    refine ⟨.pointer (some ⟨b, off + fd.offset, none⟩), fun w' => ?_, .ptr _ _ b hb⟩
    simp [execOp, ho, hv, Instr.fieldAt, Sem.run_bind, run_underlying hd, hfd, Instr.sureAddr, fieldPlace, (hT _ fi hfi).run_size, hsz', Addr.add_mid]
  · rename_i cs off he
    injection hr with hr; subst hr
    rw [he] at h1
    obtain ⟨vs, b, o', h2, h3, h4, hv⟩ := rep_ro h1
    refine ⟨.pointer (some ⟨b, o' + (off + fd.offset), none⟩), fun w' => ?_, .ro _ _ vs b o' h2 h3 h4⟩
    simp [execOp, ho, hv, Instr.fieldAt, Sem.run_bind, run_underlying hd, hfd, Instr.sureAddr, fieldPlace, (hT _ fi hfi).run_size, hsz', Addr.add_mid, Nat.add_assoc]
  · cases hr
/-- A variable is written, whatever the rest of memory. -/
theorem tail_store {t : TypeId} {x y : Operand} {i : TI} {a c : XO} {st' : St} (hT : TabOk P T) (ho : o.op = .store t x y) (hI : Inv base g st w) (hi : T t = some i) (hz : i.size ≠ 0) (ha : compO x = some a) (hc : compO y = some c)
    (hx : Opnd w g tm ρ x) (hy : Opnd w g tm ρ y) (hr : xStore st i.size (evX tm a) (evX tm c) = some (r, st')) :
    r = und ∧ ∃ b off us, (∀ w', w'.there b off us.length → (execOp ρ o).run P w' = .ok .skip (w'.setCells b off us)) ∧ w.there b off us.length ∧ b < w.heap.size ∧ (∀ j, ¬ g.frz b j) ∧ Inv base g st' (w.setCells b off us) ∧ Ext base g st w g st' (w.setCells b off us) := by
  have h1 := hx a ha
  have h2 := hy c hc
  unfold xStore at hr
  split at hr <;> try cases hr
  rename_i key off he
  split at hr <;> try cases hr
  rename_i ver cs hcs
  split at hr <;> try cases hr
  rename_i hb0
  simp only [Bool.and_eq_true, natBeq, decide_eq_true_eq] at hb0
  have hle := Nat.le_of_ble_eq_true hb0.2
  rw [he] at h1
  obtain ⟨b, hb, hv⟩ := rep_ptr h1
  obtain ⟨⟨vs, h3, h4, h5, h6⟩, hbase⟩ := hI.ent key _ b hcs hb
  obtain ⟨us, h7, h8, h9, h10⟩ := cells_of h2 hb0.1 hz
  have hvl := h3.length
  have hthere : w.there b off us.length := fun j hj => by
    have := h6 (off + j) (by omega)
    rwa [Nat.zero_add] at this
  obtain ⟨h11, h12⟩ := setCells_range h5 h6 (off := off) (us := us) (by omega)
  have hlt : b < w.heap.size := (hI.keyLt key b hb).2
  have hbl := below_setCells (w := w) (off := off) (us := us) (hbase rfl)
  have hother : ∀ c, c ≠ b → c < w.heap.size → (w.setCells b off us).heap[c]? = w.heap[c]? := fun c hc hlt => World.heap_setCells_other w b off us hlt hc
  have hnf : ∀ j, ¬ g.frz b j := fun j => hI.keyFrz key b j ⟨_, hcs, rfl⟩ hb
  have hsame : Same g w (w.setCells b off us) := fun c j hf => by
    obtain ⟨v, hv⟩ := hI.frzIn c j hf
    exact World.cell?_of_block (a := ⟨c, j, none⟩) (hother c (fun e => by subst e; exact hnf j hf) (cell_lt hv))
  have hok : EntOk (w.setCells b off us) g b (.box (Nat.succ ver) (splice cs off (evX tm c).cells)) :=
    ⟨_, (splice_rep h3 h8 off (by omega)).mono hsame (.refl g), ((h4.take _).append h9).append (h4.drop _), h11, h12⟩
  obtain ⟨h13, h14⟩ := hI.turn key b _ (.box (Nat.succ ver) (splice cs off (evX tm c).cells)) hcs rfl rfl hb hbl.size (fun _ => hbl) hother hok
  refine ⟨rfl, b, off, us, fun w' hth => ?_, hthere, hlt, hnf, h13, h14⟩
  have hrun := run_store (P := P) (hT t i hi) h7 h10 h9 hth
  simp [execOp, ho, hv, hrun]
end
end Go.Ev
