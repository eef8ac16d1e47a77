/- The tags of a union that are laid in its layout one by one, and its last region in stages; no condition. -/
import Derived.Test.YtamhigknobdloaaUa
import Derived.Test.YtamhigknobdloaaSm
namespace Go.Proofs.Ytamhigknobdloaa
open Go.RowKit
set_option linter.unusedVariables false

theorem sizeP_none (ts : List Part) (h : ts.any (fun t => decide (0 < t.s)) = false) : sizeP ts = 0 := by
  unfold sizeP
  have key : ∀ (ts : List Part) (a : Int), 0 ≤ a → ts.any (fun t => decide (0 < t.s)) = false → ts.foldl (fun a t => max a t.s) a = a := by
    intro ts
    induction ts with
    | nil => intro a _ _; rfl
    | cons u r ih =>
      intro a ha h
      rw [List.any_cons, Bool.or_eq_false_iff] at h
      rw [List.foldl_cons]
      have h1 : ¬ 0 < u.s := by simpa using h.1
      have e : max a u.s = a := by omega
      rw [e]; exact ih a ha h.2
  exact key ts 0 (by omega) h
/-- A slice in a block below b0. -/
def SlB (w : World) (e : TypeId) (b0 : Nat) (A : Option Addr) (xs : List Value) : Prop :=
  xs = [] ∨ ∃ b off cs fz, b < b0 ∧ A = some ⟨b, off, none⟩ ∧ w.heap[b]? = some (.cells cs e fz) ∧ ∀ j (h : j < xs.length), cs[off + j]? = some xs[j]
theorem SlE.bound {w : World} {e : TypeId} {A : Option Addr} {xs : List Value} (h : SlE w e A xs) : SlB w e w.heap.size A xs := by
  rcases h with h | ⟨b, off, cs, fz, h1, h2, h3⟩
  · exact .inl h
  · exact .inr ⟨b, off, cs, fz, (Array.getElem?_eq_some_iff.1 h2).1, h1, h2, h3⟩
theorem SlB.sle {w : World} {e : TypeId} {b0 : Nat} {A : Option Addr} {xs : List Value} (h : SlB w e b0 A xs) : SlE w e A xs := by
  rcases h with h | ⟨b, off, cs, fz, _, h1, h2, h3⟩
  · exact .inl h
  · exact .inr ⟨b, off, cs, fz, h1, h2, h3⟩
theorem SlB.keep {w w' : World} {e : TypeId} {b0 : Nat} {A : Option Addr} {xs : List Value} (h : SlB w e b0 A xs) (hk : ∀ (b : Nat) (cs : Array Value) (fz : Nat × Nat), b < b0 → w.heap[b]? = some (Obj.cells cs e fz) → w'.heap[b]? = w.heap[b]?) : SlB w' e b0 A xs := by
  rcases h with h | ⟨b, off, cs, fz, h0, h1, h2, h3⟩
  · exact .inl h
  · exact .inr ⟨b, off, cs, fz, h0, h1, (hk b cs fz h0 h2).trans h2, h3⟩
/-- What is left of the rows while the tags are laid. -/
structure FinL (w0 : World) (O R : Nat) (Ac : Option Addr) (qs : List CaseV) (oc rc : Array Value) (b0 : Nat) (w : World) : Prop where
  cases : SlE w 73 Ac (qs.flatMap CaseV.cells)
  clb : ∀ q ∈ qs, SlB w 3 b0 q.A (q.ofs.map iv)
  box : Blk w O 31 oc
  rb : Blk w R 31 rc
  below : Below w0.heap.size w0 w
  hO : w0.heap.size ≤ O
  hR : w0.heap.size ≤ R
  ne : O ≠ R
  b0w : w0.heap.size ≤ b0
  bw : b0 ≤ w.heap.size
section
variable {w0 w w' : World} {O R : Nat} {Ac : Option Addr} {qs : List CaseV} {oc rc : Array Value} {b0 : Nat}
theorem FinL.of (h : FinAt w0 O R Ac qs oc rc w) : FinL w0 O R Ac qs oc rc w.heap.size w := ⟨h.cases, fun q hq => (h.cl q hq).bound, h.box, h.rb, h.below, h.hO, h.hR, h.ne, h.below.size, Nat.le_refl _⟩
theorem FinL.fin (h : FinL w0 O R Ac qs oc rc b0 w) : FinAt w0 O R Ac qs oc rc w := ⟨h.cases, fun q hq => (h.clb q hq).sle, h.box, h.rb, h.below, h.hO, h.hR, h.ne⟩
theorem FinL.own3 (h : FinL w0 O R Ac qs oc rc b0 w) {base size n : Nat} {v : Value} {ys : List Value} (ho : w.ownsRow base 3 size v n ys) (hg : w.grownBy w' v.ownBlock) (hb : b0 ≤ base) : FinL w0 O R Ac qs oc rc b0 w' := by
  have hB : ∀ g t cs, Blk w g t cs → t ≠ 3 → Blk w' g t cs := by
    intro g t cs hB hne
    refine hB.grown hg fun e => ?_
    rcases own_blk_ne ho hB (fun e => hne e.symm) with h1 | h1
    · rw [h1] at e; cases e
    · exact h1 e
  refine ⟨h.cases.own_grown ho hg (by decide), fun q hq => (h.clb q hq).keep fun b cs fz hb1 hh => hg.block b (Array.getElem?_eq_some_iff.1 hh).1 (fun e => ?_), hB _ _ _ h.box (by decide), hB _ _ _ h.rb (by decide), h.below.grown hg h.below.size (fun k hk => by have := (ho.lt k hk).1; have := h.b0w; omega), h.hO, h.hR, h.ne, h.b0w, Nat.le_trans h.bw hg.size⟩
  have := (ho.lt b e.symm).1
  omega
theorem FinL.setO (h : FinL w0 O R Ac qs oc rc b0 w) (i : Nat) (u : Value) : FinL w0 O R Ac qs (oc.setIfInBounds i u) rc b0 (w.setCell ⟨O, i, none⟩ u) := by
  have hg := grown_set w O i u
  refine ⟨h.cases.grown hg h.box (by decide), fun q hq => (h.clb q hq).keep fun b cs fz hb1 hh => hg.block b (Array.getElem?_eq_some_iff.1 hh).1 (fun e => ?_), h.box.set_ i u, h.rb.far (p := ⟨O, i, none⟩) (fun e => h.ne e.symm) u, h.below.grown hg h.below.size (fun q hq => by injection hq with hq; have := h.hO; omega), h.hO, h.hR, h.ne, h.b0w, Nat.le_trans h.bw hg.size⟩
  injection e with e
  subst e
  have h1 := h.box
  unfold Blk at h1
  rw [hh] at h1
  injection h1 with h1
  injection h1 with _ h2
  cases h2
end
/-- What holds while the tag bits of the new byte are cleared: in stages. -/
inductive TagSt (w0 : World) (O R : Nat) (Ac : Option Addr) (qs : List CaseV) (bc : Value → Array Value) (rc : Array Value) (vM : Value) (n : Nat) (M : List UInt8) (Az : Option Addr) (ks : List Nat) (D : Nat → Bool) (x : Nat → Value) (w : World) : Prop
  | s0 (d1 : D 1 = false) (d2 : D 2 = false) (d5 : D 5 = false) (d7 : D 7 = false) (F : FinAt w0 O R Ac qs (bc (.slice none 0 0)) rc w) (tz : SlE w 3 Az (ks.map natv)) (own : w.ownsRow w0.heap.size 5 1 vM n (M.map bv))
  | s1 (d1 : D 1 = true) (d2 : D 2 = false) (d5 : D 5 = false) (d7 : D 7 = false) (F : FinAt w0 O R Ac qs (bc (.slice none 0 0)) rc w) (tz : SlE w 3 Az (ks.map natv)) (own : w.ownsRow w0.heap.size 5 1 vM n (M.map bv)) (g : Nat) (hx : x 1 = .slice (some ⟨g, 0, none⟩) 1 1) (hB : Blk w g 5 #[.int .u8 255])
  | s2 (d1 : D 1 = true) (d2 : D 2 = true) (d5 : D 5 = false) (d7 : D 7 = false) (F : FinAt w0 O R Ac qs (bc (.slice none 0 0)) rc w) (tz : SlE w 3 Az (ks.map natv)) (A5 : Option Addr) (c5 : Nat) (hx : x 2 = .slice A5 (n + 1) c5) (hs : SlE w 5 A5 ((M ++ [255]).map bv))
  | s5 (d1 : D 1 = true) (d2 : D 2 = true) (d5 : D 5 = true) (d7 : D 7 = false) (F : FinAt w0 O R Ac qs (bc (.slice none 0 0)) rc w) (tz : SlE w 3 Az (ks.map natv)) (A6 : Option Addr) (c6 : Nat) (hx : x 5 = .slice A6 (n + 1) c6) (hs : SlE w 5 A6 ((clearB (M ++ [255]) (intsN ks)).map bv)) (hc : n + 1 ≤ c6)
  | s7 (d1 : D 1 = true) (d2 : D 2 = true) (d5 : D 5 = true) (d7 : D 7 = true) (A6 : Option Addr) (c6 : Nat) (F : FinAt w0 O R Ac qs (bc (.slice A6 (n + 1) c6)) rc w) (tz : SlE w 3 Az (ks.map natv)) (hs : SlE w 5 A6 ((clearB (M ++ [255]) (intsN ks)).map bv)) (hc : n + 1 ≤ c6)
section
variable {w0 w w' : World} {O R : Nat} {Ac : Option Addr} {qs : List CaseV} {bc : Value → Array Value} {rc : Array Value} {vM : Value} {n : Nat} {M : List UInt8} {Az : Option Addr} {ks : List Nat} {D : Nat → Bool} {x : Nat → Value}
theorem TagSt.ins (h : TagSt w0 O R Ac qs bc rc vM n M Az ks D x w) (i : Nat) (u : Value) (h1 : i ≠ 1) (h2 : i ≠ 2) (h5 : i ≠ 5) (h7 : i ≠ 7) : TagSt w0 O R Ac qs bc rc vM n M Az ks (fun j => if j = i then true else D j) (fun j => if j = i then u else x j) w := by
  have e1 : ∀ {α : Type} (p q : α), (if 1 = i then p else q) = q := fun p q => if_neg (fun e => h1 e.symm)
  have e2 : ∀ {α : Type} (p q : α), (if 2 = i then p else q) = q := fun p q => if_neg (fun e => h2 e.symm)
  have e5 : ∀ {α : Type} (p q : α), (if 5 = i then p else q) = q := fun p q => if_neg (fun e => h5 e.symm)
  have e7 : ∀ {α : Type} (p q : α), (if 7 = i then p else q) = q := fun p q => if_neg (fun e => h7 e.symm)
  cases h with
  | s0 d1 d2 d5 d7 F tz own => exact .s0 ((e1 _ _).trans d1) ((e2 _ _).trans d2) ((e5 _ _).trans d5) ((e7 _ _).trans d7) F tz own
  | s1 d1 d2 d5 d7 F tz own g hx hB => exact .s1 ((e1 _ _).trans d1) ((e2 _ _).trans d2) ((e5 _ _).trans d5) ((e7 _ _).trans d7) F tz own g ((e1 _ _).trans hx) hB
  | s2 d1 d2 d5 d7 F tz A5 c5 hx hs => exact .s2 ((e1 _ _).trans d1) ((e2 _ _).trans d2) ((e5 _ _).trans d5) ((e7 _ _).trans d7) F tz A5 c5 ((e2 _ _).trans hx) hs
  | s5 d1 d2 d5 d7 F tz A6 c6 hx hs hc => exact .s5 ((e1 _ _).trans d1) ((e2 _ _).trans d2) ((e5 _ _).trans d5) ((e7 _ _).trans d7) F tz A6 c6 ((e5 _ _).trans hx) hs hc
  | s7 d1 d2 d5 d7 A6 c6 F tz hs hc => exact .s7 ((e1 _ _).trans d1) ((e2 _ _).trans d2) ((e5 _ _).trans d5) ((e7 _ _).trans d7) A6 c6 F tz hs hc
theorem TagSt.op1 (h : TagSt w0 O R Ac qs bc rc vM n M Az ks D x w) (hD : D 1 = false) : TagSt w0 O R Ac qs bc rc vM n M Az ks (fun j => if j = 1 then true else D j) (fun j => if j = 1 then .slice (some ⟨w.heap.size, 0, none⟩) 1 1 else x j) (w.alloc (.cells #[.int .u8 255] 5)) := by
  cases h with
  | s0 d1 d2 d5 d7 F tz own =>
    have hb : Below w.heap.size w (w.alloc (.cells #[.int .u8 255] 5)) := (Below.refl _ _).alloc (Nat.le_refl _) _
    exact .s1 rfl d2 d5 d7 (F.under hb) (tz.below hb) (below_own own hb) _ rfl (Blk.new _ _ _)
  | s1 d1 | s2 d1 | s5 d1 | s7 d1 => rw [hD] at d1; cases d1
theorem TagSt.op2 (h : TagSt w0 O R Ac qs bc rc vM n M Az ks D x w) (hD : D 2 = false) (h1 : D 1 = true) (hn : n ≤ 100000) {o : Oper} {a : Act} {K : Act → World → Prop} {Q : Exit → Act → World → Prop} (t y : Operand)
    (ho : o.op = .call { callee := .builtin .append, args := #[t, y], argTypes := #[27, 27] }) (hs : a.eval t = vM) (hy : a.eval y = x 1)
    (hk : ∀ v w', TagSt w0 O R Ac qs bc rc vM n M Az ks (fun j => if j = 2 then true else D j) (fun j => if j = 2 then v else x j) w' → K (a.put o.dst v) w') : o.wp Try.prog a w K Q := by
  cases h with
  | s1 d1 d2 d5 d7 F tz own g hx hB =>
    refine wp_append_sl t y 27 ho w0.heap.size 5 _ 1 1 Try.underlying27 el5 vM n _ hs own (some ⟨g, 0, none⟩) 1 1 [.int .u8 255] (hy.trans hx) (Sl.ofBlk hB) rfl (by intro u hu; rw [List.mem_singleton.1 hu]; rfl) (by simp only [maxLen]; omega) (by omega) F.below.size ?_
    intro A' c' w' hown hg _
    have e : M.map bv ++ [Value.int .u8 255] = (M ++ [255]).map bv := by simp [bv]
    rw [e] at hown
    exact hk _ _ (.s2 d1 rfl d5 d7 (F.own5 own hg (Nat.le_refl _)) (tz.own_grown own hg (by decide)) A' c' rfl (SlE.of_own hown))
  | s0 d1 => rw [h1] at d1; cases d1
  | s2 _ d2 | s5 _ d2 | s7 _ d2 => rw [hD] at d2; cases d2
theorem TagSt.op5 (h : TagSt w0 O R Ac qs bc rc vM n M Az ks D x w) (hD : D 5 = false) (h2 : D 2 = true) :
    ∃ A5 c5, x 2 = .slice A5 (n + 1) c5 ∧ SlE w 5 A5 ((M ++ [255]).map bv) ∧ SlE w 3 Az (ks.map natv) ∧ ∀ w' A6 c6, Below w.heap.size w w' → SlE w' 5 A6 ((clearB (M ++ [255]) (intsN ks)).map bv) → n + 1 ≤ c6 → TagSt w0 O R Ac qs bc rc vM n M Az ks (fun j => if j = 5 then true else D j) (fun j => if j = 5 then .slice A6 (n + 1) c6 else x j) w' := by
  cases h with
  | s2 d1 d2 d5 d7 F tz A5 c5 hx hs => exact ⟨A5, c5, hx, hs, tz, fun w' A6 c6 hb h6 hc => .s5 d1 d2 rfl d7 (F.under hb) (tz.below hb) A6 c6 rfl h6 hc⟩
  | s0 _ d2 | s1 _ d2 => rw [h2] at d2; cases d2
  | s5 _ _ d5 | s7 _ _ d5 => rw [hD] at d5; cases d5
theorem TagSt.box (h : TagSt w0 O R Ac qs bc rc vM n M Az ks D x w) (hD : D 7 = false) : Blk w O 31 (bc (.slice none 0 0)) := by
  cases h with
  | s0 _ _ _ _ F => exact F.box
  | s1 _ _ _ _ F => exact F.box
  | s2 _ _ _ _ F => exact F.box
  | s5 _ _ _ _ F => exact F.box
  | s7 _ _ _ d7 => rw [hD] at d7; cases d7
theorem TagSt.op7 (h : TagSt w0 O R Ac qs bc rc vM n M Az ks D x w) (hD : D 7 = false) (h5 : D 5 = true) (hi : ∀ v u, (bc v).setIfInBounds 2 u = bc u) (z : Value) :
    ∃ A6 c6, x 5 = .slice A6 (n + 1) c6 ∧ Blk w O 31 (bc (.slice none 0 0)) ∧ TagSt w0 O R Ac qs bc rc vM n M Az ks (fun j => if j = 7 then true else D j) (fun j => if j = 7 then z else x j) (w.setCell ⟨O, 2, none⟩ (.slice A6 (n + 1) c6)) := by
  cases h with
  | s5 d1 d2 d5 d7 F tz A6 c6 hx hs hc =>
    have hg := grown_set w O 2 (.slice A6 (n + 1) c6)
    refine ⟨A6, c6, hx, F.box, .s7 d1 d2 d5 rfl A6 c6 ?_ (tz.grown hg F.box (by decide)) (hs.grown hg F.box (by decide)) hc⟩
    have := F.setO 2 (.slice A6 (n + 1) c6)
    rwa [hi] at this
  | s0 _ _ d5 | s1 _ _ d5 | s2 _ _ d5 => rw [h5] at d5; cases d5
  | s7 _ _ _ d7 => rw [hD] at d7; cases d7
theorem TagSt.done (h : TagSt w0 O R Ac qs bc rc vM n M Az ks D x w) (hD : D 7 = true) : ∃ A6 c6, FinAt w0 O R Ac qs (bc (.slice A6 (n + 1) c6)) rc w ∧ SlE w 3 Az (ks.map natv) ∧ SlE w 5 A6 ((clearB (M ++ [255]) (intsN ks)).map bv) ∧ n + 1 ≤ c6 := by
  cases h with
  | s7 _ _ _ _ A6 c6 F tz hs hc => exact ⟨A6, c6, F, tz, hs, hc⟩
  | s0 _ _ _ d7 | s1 _ _ _ d7 | s2 _ _ _ d7 | s5 _ _ _ d7 => rw [hD] at d7; cases d7
end
end Go.Proofs.Ytamhigknobdloaa
