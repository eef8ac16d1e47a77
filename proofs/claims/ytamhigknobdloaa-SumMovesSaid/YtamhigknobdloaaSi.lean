/- The append of a case to a union's row, in stages; no condition. -/
import Derived.Test.YtamhigknobdloaaRh
import Derived.Test.YtamhigknobdloaaSf
namespace Go.Proofs.Ytamhigknobdloaa
open Go.RowKit
set_option linter.unusedVariables false

/-- The rows and the boxes around the append of a case. -/
structure CaseBase (w0 : World) (B : Nat) (vT : Value) (ts : List Part) (O P R : Nat) (pc rc : Array Value) (bc : Value → Array Value) (vC : Value) (qs : List CaseV) (vB : Value) (w : World) : Prop where
  sum : SumAt w0 B vC qs vT ts w
  box : Blk w O 31 (bc vB)
  pb : Blk w P 31 pc
  rb : Blk w R 31 rc
  boxT : vT.ownBlock ≠ some O
  boxO : w0.heap.size ≤ O
  neP : O ≠ P
  neR : O ≠ R
section
variable {w0 w w' : World} {B O P R : Nat} {vT vC vB : Value} {ts : List Part} {pc rc : Array Value} {bc : Value → Array Value} {qs : List CaseV}
theorem CaseBase.under (h : CaseBase w0 B vT ts O P R pc rc bc vC qs vB w) (hb : Below w.heap.size w w') : CaseBase w0 B vT ts O P R pc rc bc vC qs vB w' :=
  ⟨h.sum.under hb, h.box.below hb, h.pb.below hb, h.rb.below hb, h.boxT, h.boxO, h.neP, h.neR⟩
theorem CaseBase.store (h : CaseBase w0 B vT ts O P R pc rc bc vC qs vB w) (i : Nat) (v : Value) (hi : (bc vB).setIfInBounds i v = bc v) : CaseBase w0 B vT ts O P R pc rc bc vC qs v (w.setCell ⟨O, i, none⟩ v) :=
  ⟨h.sum.set_ i v h.box h.boxO h.boxT, by rw [← hi]; exact h.box.set_ i v, h.pb.far (p := ⟨O, i, none⟩) (fun e => h.neP e.symm) v, h.rb.far (p := ⟨O, i, none⟩) (fun e => h.neR e.symm) v, h.boxT, h.boxO, h.neP, h.neR⟩
end
theorem SumAt.wp_appC {w0 w : World} {B : Nat} {vT : Value} {qs : List CaseV} {ts : List Part} {o : Oper} {a : Act} {K : Act → World → Prop} {Q : Exit → Act → World → Prop} (s x : Operand)
    (ho : o.op = .call { callee := .builtin .append, args := #[s, x], argTypes := #[29, 29] }) {A : Option Addr} {c g : Nat} {q : CaseV} (h : SumAt w0 B (.slice A qs.length c) qs vT ts w) (hs : a.eval s = .slice A qs.length c) (hx : a.eval x = .slice (some ⟨g, 0, none⟩) 1 1)
    (hg : Blk w g 73 q.arr) (hl : qs.length ≤ 6000) (hq : q.x3.oneCell' = true) (hsl : SlE w 3 q.A (q.ofs.map iv))
    (hk : ∀ A' c' w', SumAt w0 B (.slice A' (qs ++ [q]).length c') (qs ++ [q]) vT ts w' → (∀ b t cs, Blk w b t cs → t ≠ 73 → Blk w' b t cs) → K (a.put o.dst (.slice A' (qs.length + 1) c')) w') : o.wp Try.prog a w K Q := by
  refine wp_append_sl s x 29 ho B 73 _ 5 80 Try.underlying29 el73 _ qs.length _ hs h.ownC (some ⟨g, 0, none⟩) 1 1 q.cells hx (by have := Sl.ofBlk hg; simpa [CaseV.arr, CaseV.cells] using this) rfl (case_one q hq) (by simp only [maxLen]; omega) (by omega) h.bw ?_
  intro A' c' w' h2 h3' h4
  refine hk A' c' w' ⟨?_, ?_, ?_, ?_, ?_, h.one, h.base, Nat.le_trans h.bw h3'.size⟩ ?_
  · rw [List.flatMap_append, List.length_append, List.length_singleton]; simpa using h2
  · exact h.ownT.kept h3' (own_own_far h.ownT h.ownC (by decide))
  · exact h.below.grown h3' h.below.size (fun k hk => by have := h.ownC.lt k hk; have := h.base; omega)
  · intro r hr
    rcases List.mem_append.1 hr with h1 | h1
    · exact (h.cl r h1).own_grown h.ownC h3' (by decide)
    · rw [List.mem_singleton.1 h1]; exact hsl.own_grown h.ownC h3' (by decide)
  · exact fun t ht => (h.tl t ht).imp id (fun s => s.own_grown h.ownC h3' (by decide))
  · intro b t cs hb hne
    refine hb.grown h3' fun e => ?_
    rcases own_blk_ne h.ownC hb (fun e => hne e.symm) with h1 | h1
    · rw [h1] at e; cases e
    · exact h1 e
/-- The case that is appended. -/
def newCase (nm : ByteArray) (b : Bool) (f : List Int) (s : Int) (Aq : Option Addr) (cq : Nat) : CaseV := ⟨nm, b, Aq, f, cq, .slice none 0 0, s⟩
/-- What holds while a case is appended: in stages. -/
inductive CaseSt (w0 : World) (B : Nat) (vT : Value) (ts : List Part) (O P R : Nat) (pc rc : Array Value) (bc : Value → Array Value) (Ac : Option Addr) (cc : Nat) (qs : List CaseV) (nm : ByteArray) (b : Bool) (f : List Int) (s : Int) (D : Nat → Bool) (x : Nat → Value) (w : World) : Prop
  | s0 (d12 : D 12 = false) (d15 : D 15 = false) (d16 : D 16 = false) (d17 : D 17 = false) (d19 : D 19 = false) (h : CaseBase w0 B vT ts O P R pc rc bc (.slice Ac qs.length cc) qs (.slice Ac qs.length cc) w)
  | s1 (d12 : D 12 = true) (d15 : D 15 = false) (d16 : D 16 = false) (d17 : D 17 = false) (d19 : D 19 = false) (h : CaseBase w0 B vT ts O P R pc rc bc (.slice Ac qs.length cc) qs (.slice Ac qs.length cc) w)
      (Aq : Option Addr) (cq : Nat) (hx : x 12 = .slice Aq f.length cq) (hq : SlE w 3 Aq (f.map iv))
  | s2 (d12 : D 12 = true) (d15 : D 15 = true) (d16 : D 16 = false) (d17 : D 17 = false) (d19 : D 19 = false) (h : CaseBase w0 B vT ts O P R pc rc bc (.slice Ac qs.length cc) qs (.slice Ac qs.length cc) w)
      (Aq : Option Addr) (cq : Nat) (hx : x 15 = .agg (newCase nm b f s Aq cq).arr) (hq : SlE w 3 Aq (f.map iv))
  | s3 (d12 : D 12 = true) (d15 : D 15 = true) (d16 : D 16 = true) (d17 : D 17 = false) (d19 : D 19 = false) (h : CaseBase w0 B vT ts O P R pc rc bc (.slice Ac qs.length cc) qs (.slice Ac qs.length cc) w)
      (Aq : Option Addr) (cq g : Nat) (hx : x 16 = .slice (some ⟨g, 0, none⟩) 1 1) (hg : Blk w g 73 (newCase nm b f s Aq cq).arr) (hq : SlE w 3 Aq (f.map iv))
  | s4 (d12 : D 12 = true) (d15 : D 15 = true) (d16 : D 16 = true) (d17 : D 17 = true) (d19 : D 19 = false) (Aq : Option Addr) (cq : Nat) (A' : Option Addr) (c' : Nat) (hx : x 17 = .slice A' (qs.length + 1) c')
      (h : CaseBase w0 B vT ts O P R pc rc bc (.slice A' (qs ++ [newCase nm b f s Aq cq]).length c') (qs ++ [newCase nm b f s Aq cq]) (.slice Ac qs.length cc) w)
  | s5 (d12 : D 12 = true) (d15 : D 15 = true) (d16 : D 16 = true) (d17 : D 17 = true) (d19 : D 19 = true) (Aq : Option Addr) (cq : Nat) (A' : Option Addr) (c' : Nat) (hx : x 17 = .slice A' (qs.length + 1) c')
      (h : CaseBase w0 B vT ts O P R pc rc bc (.slice A' (qs ++ [newCase nm b f s Aq cq]).length c') (qs ++ [newCase nm b f s Aq cq]) (.slice A' (qs.length + 1) c') w)
section
variable {w0 w w' : World} {B O P R : Nat} {vT : Value} {ts : List Part} {pc rc : Array Value} {bc : Value → Array Value} {Ac : Option Addr} {cc : Nat} {qs : List CaseV} {nm : ByteArray} {b : Bool} {f : List Int} {s : Int} {D : Nat → Bool} {x : Nat → Value}
theorem CaseSt.ins (h : CaseSt w0 B vT ts O P R pc rc bc Ac cc qs nm b f s D x w) (i : Nat) (u : Value) (h12 : i ≠ 12) (h15 : i ≠ 15) (h16 : i ≠ 16) (h17 : i ≠ 17) (h19 : i ≠ 19) :
    CaseSt w0 B vT ts O P R pc rc bc Ac cc qs nm b f s (fun j => if j = i then true else D j) (fun j => if j = i then u else x j) w := by
  have e12 : ∀ {α : Type} (p q : α), (if 12 = i then p else q) = q := fun p q => if_neg (fun e => h12 e.symm)
  have e15 : ∀ {α : Type} (p q : α), (if 15 = i then p else q) = q := fun p q => if_neg (fun e => h15 e.symm)
  have e16 : ∀ {α : Type} (p q : α), (if 16 = i then p else q) = q := fun p q => if_neg (fun e => h16 e.symm)
  have e17 : ∀ {α : Type} (p q : α), (if 17 = i then p else q) = q := fun p q => if_neg (fun e => h17 e.symm)
  have e19 : ∀ {α : Type} (p q : α), (if 19 = i then p else q) = q := fun p q => if_neg (fun e => h19 e.symm)
  cases h with
  | s0 d12 d15 d16 d17 d19 h => exact .s0 ((e12 _ _).trans d12) ((e15 _ _).trans d15) ((e16 _ _).trans d16) ((e17 _ _).trans d17) ((e19 _ _).trans d19) h
  | s1 d12 d15 d16 d17 d19 h Aq cq hx hq => exact .s1 ((e12 _ _).trans d12) ((e15 _ _).trans d15) ((e16 _ _).trans d16) ((e17 _ _).trans d17) ((e19 _ _).trans d19) h Aq cq ((e12 _ _).trans hx) hq
  | s2 d12 d15 d16 d17 d19 h Aq cq hx hq => exact .s2 ((e12 _ _).trans d12) ((e15 _ _).trans d15) ((e16 _ _).trans d16) ((e17 _ _).trans d17) ((e19 _ _).trans d19) h Aq cq ((e15 _ _).trans hx) hq
  | s3 d12 d15 d16 d17 d19 h Aq cq g hx hg hq => exact .s3 ((e12 _ _).trans d12) ((e15 _ _).trans d15) ((e16 _ _).trans d16) ((e17 _ _).trans d17) ((e19 _ _).trans d19) h Aq cq g ((e16 _ _).trans hx) hg hq
  | s4 d12 d15 d16 d17 d19 Aq cq A' c' hx h => exact .s4 ((e12 _ _).trans d12) ((e15 _ _).trans d15) ((e16 _ _).trans d16) ((e17 _ _).trans d17) ((e19 _ _).trans d19) Aq cq A' c' ((e17 _ _).trans hx) h
  | s5 d12 d15 d16 d17 d19 Aq cq A' c' hx h => exact .s5 ((e12 _ _).trans d12) ((e15 _ _).trans d15) ((e16 _ _).trans d16) ((e17 _ _).trans d17) ((e19 _ _).trans d19) Aq cq A' c' ((e17 _ _).trans hx) h
/-- The offsets are copied. -/
theorem CaseSt.op12 (h : CaseSt w0 B vT ts O P R pc rc bc Ac cc qs nm b f s D x w) (hD : D 12 = false) {Aq : Option Addr} {cq : Nat} (hb : Below w.heap.size w w') (hq : SlE w' 3 Aq (f.map iv)) :
    CaseSt w0 B vT ts O P R pc rc bc Ac cc qs nm b f s (fun j => if j = 12 then true else D j) (fun j => if j = 12 then .slice Aq f.length cq else x j) w' := by
  cases h with
  | s0 d12 d15 d16 d17 d19 h => exact .s1 rfl d15 d16 d17 d19 (h.under hb) Aq cq rfl hq
  | s1 d12 | s2 d12 | s3 d12 | s4 d12 | s5 d12 => rw [hD] at d12; cases d12
theorem CaseSt.op15 (h : CaseSt w0 B vT ts O P R pc rc bc Ac cc qs nm b f s D x w) (hD : D 15 = false) (h12 : D 12 = true) :
    ∃ Aq cq, x 12 = .slice Aq f.length cq ∧ CaseSt w0 B vT ts O P R pc rc bc Ac cc qs nm b f s (fun j => if j = 15 then true else D j) (fun j => if j = 15 then .agg (newCase nm b f s Aq cq).arr else x j) w := by
  cases h with
  | s1 d12 d15 d16 d17 d19 h Aq cq hx hq => exact ⟨Aq, cq, hx, .s2 d12 rfl d16 d17 d19 h Aq cq rfl hq⟩
  | s0 d12 => rw [h12] at d12; cases d12
  | s2 _ d15 | s3 _ d15 | s4 _ d15 | s5 _ d15 => rw [hD] at d15; cases d15
theorem CaseSt.op16 (h : CaseSt w0 B vT ts O P R pc rc bc Ac cc qs nm b f s D x w) (hD : D 16 = false) (h15 : D 15 = true) :
    ∃ Aq cq, x 15 = .agg (newCase nm b f s Aq cq).arr ∧ CaseSt w0 B vT ts O P R pc rc bc Ac cc qs nm b f s (fun j => if j = 16 then true else D j) (fun j => if j = 16 then .slice (some ⟨w.heap.size, 0, none⟩) 1 1 else x j) (w.alloc (.cells (newCase nm b f s Aq cq).arr 73)) := by
  cases h with
  | s2 d12 d15 d16 d17 d19 h Aq cq hx hq =>
    have hb : Below w.heap.size w (w.alloc (.cells (newCase nm b f s Aq cq).arr 73)) := (Below.refl _ _).alloc (Nat.le_refl _) _
    exact ⟨Aq, cq, hx, .s3 d12 d15 rfl d17 d19 (h.under hb) Aq cq _ rfl (Blk.new _ _ _) (hq.below hb)⟩
  | s0 _ d15 | s1 _ d15 => rw [h15] at d15; cases d15
  | s3 _ _ d16 | s4 _ _ d16 | s5 _ _ d16 => rw [hD] at d16; cases d16
theorem CaseSt.op17 (h : CaseSt w0 B vT ts O P R pc rc bc Ac cc qs nm b f s D x w) (hD : D 17 = false) (h16 : D 16 = true) (hl : qs.length ≤ 6000) {o : Oper} {a : Act} {K : Act → World → Prop} {Q : Exit → Act → World → Prop} (t y : Operand)
    (ho : o.op = .call { callee := .builtin .append, args := #[t, y], argTypes := #[29, 29] }) (hs : a.eval t = .slice Ac qs.length cc) (hy : a.eval y = x 16)
    (hk : ∀ v w', CaseSt w0 B vT ts O P R pc rc bc Ac cc qs nm b f s (fun j => if j = 17 then true else D j) (fun j => if j = 17 then v else x j) w' → K (a.put o.dst v) w') : o.wp Try.prog a w K Q := by
  cases h with
  | s3 d12 d15 d16 d17 d19 h Aq cq g hx hg hq =>
    refine h.sum.wp_appC t y ho hs (hy.trans hx) hg hl rfl hq ?_
    intro A' c' w' hS hB
    exact hk _ _ (.s4 d12 d15 d16 rfl d19 Aq cq A' c' rfl ⟨hS, hB _ _ _ h.box (by decide), hB _ _ _ h.pb (by decide), hB _ _ _ h.rb (by decide), h.boxT, h.boxO, h.neP, h.neR⟩)
  | s0 _ _ d16 | s1 _ _ d16 | s2 _ _ d16 => rw [h16] at d16; cases d16
  | s4 _ _ _ d17 | s5 _ _ _ d17 => rw [hD] at d17; cases d17
theorem CaseSt.op19 (h : CaseSt w0 B vT ts O P R pc rc bc Ac cc qs nm b f s D x w) (hD : D 19 = false) (h17 : D 17 = true) (i : Nat) (hi : ∀ v u, (bc v).setIfInBounds i u = bc u) (z : Value) :
    ∃ A' c', x 17 = .slice A' (qs.length + 1) c' ∧ Blk w O 31 (bc (.slice Ac qs.length cc)) ∧ CaseSt w0 B vT ts O P R pc rc bc Ac cc qs nm b f s (fun j => if j = 19 then true else D j) (fun j => if j = 19 then z else x j) (w.setCell ⟨O, i, none⟩ (.slice A' (qs.length + 1) c')) := by
  cases h with
  | s4 d12 d15 d16 d17 d19 Aq cq A' c' hx h => exact ⟨A', c', hx, h.box, .s5 d12 d15 d16 d17 rfl Aq cq A' c' hx (h.store i _ (hi _ _))⟩
  | s0 _ _ _ d17 | s1 _ _ _ d17 | s2 _ _ _ d17 | s3 _ _ _ d17 => rw [h17] at d17; cases d17
  | s5 _ _ _ _ d19 => rw [hD] at d19; cases d19
theorem CaseSt.boxes (h : CaseSt w0 B vT ts O P R pc rc bc Ac cc qs nm b f s D x w) : Below w0.heap.size w0 w ∧ Blk w P 31 pc := by
  cases h with
  | s0 _ _ _ _ _ h | s1 _ _ _ _ _ h | s2 _ _ _ _ _ h | s3 _ _ _ _ _ h => exact ⟨h.sum.below, h.pb⟩
  | s4 _ _ _ _ _ _ _ _ _ _ h | s5 _ _ _ _ _ _ _ _ _ _ h => exact ⟨h.sum.below, h.pb⟩
theorem CaseSt.old (h : CaseSt w0 B vT ts O P R pc rc bc Ac cc qs nm b f s D x w) (hD : D 19 = false) : Blk w O 31 (bc (.slice Ac qs.length cc)) := by
  cases h with
  | s0 _ _ _ _ _ h | s1 _ _ _ _ _ h | s2 _ _ _ _ _ h | s3 _ _ _ _ _ h => exact h.box
  | s4 _ _ _ _ _ _ _ _ _ _ h => exact h.box
  | s5 _ _ _ _ d19 => rw [hD] at d19; cases d19
theorem CaseSt.done (h : CaseSt w0 B vT ts O P R pc rc bc Ac cc qs nm b f s D x w) (hD : D 19 = true) :
    ∃ Aq cq A' c', x 17 = .slice A' (qs.length + 1) c' ∧ CaseBase w0 B vT ts O P R pc rc bc (.slice A' (qs ++ [newCase nm b f s Aq cq]).length c') (qs ++ [newCase nm b f s Aq cq]) (.slice A' (qs.length + 1) c') w := by
  cases h with
  | s5 _ _ _ _ _ Aq cq A' c' hx h => exact ⟨Aq, cq, A', c', hx, h⟩
  | s0 _ _ _ _ d19 | s1 _ _ _ _ d19 | s2 _ _ _ _ d19 | s3 _ _ _ _ d19 | s4 _ _ _ _ d19 => rw [hD] at d19; cases d19
end
/-- What is left of the rows when the cases are laid. -/
structure FinAt (w0 : World) (O R : Nat) (Ac : Option Addr) (qs : List CaseV) (oc rc : Array Value) (w : World) : Prop where
  cases : SlE w 73 Ac (qs.flatMap CaseV.cells)
  cl : ∀ q ∈ qs, SlE w 3 q.A (q.ofs.map iv)
  box : Blk w O 31 oc
  rb : Blk w R 31 rc
  below : Below w0.heap.size w0 w
  hO : w0.heap.size ≤ O
  hR : w0.heap.size ≤ R
  ne : O ≠ R
section
variable {w0 w w' : World} {O R : Nat} {Ac : Option Addr} {qs : List CaseV} {oc rc : Array Value}
theorem FinAt.under (h : FinAt w0 O R Ac qs oc rc w) (hb : Below w.heap.size w w') : FinAt w0 O R Ac qs oc rc w' :=
  ⟨h.cases.below hb, fun q hq => (h.cl q hq).below hb, h.box.below hb, h.rb.below hb, below_next h.below hb, h.hO, h.hR, h.ne⟩
theorem FinAt.own5 (h : FinAt w0 O R Ac qs oc rc w) {base size n : Nat} {v : Value} {ys : List Value} (ho : w.ownsRow base 5 size v n ys) (hg : w.grownBy w' v.ownBlock) (hb : w0.heap.size ≤ base) : FinAt w0 O R Ac qs oc rc w' := by
  have hB : ∀ g t cs, Blk w g t cs → t ≠ 5 → Blk w' g t cs := by
    intro g t cs hB hne
    refine hB.grown hg fun e => ?_
    rcases own_blk_ne ho hB (fun e => hne e.symm) with h1 | h1
    · rw [h1] at e; cases e
    · exact h1 e
  exact ⟨h.cases.own_grown ho hg (by decide), fun q hq => (h.cl q hq).own_grown ho hg (by decide), hB _ _ _ h.box (by decide), hB _ _ _ h.rb (by decide), h.below.grown hg h.below.size (fun k hk => by have := (ho.lt k hk).1; omega), h.hO, h.hR, h.ne⟩
theorem FinAt.setO (h : FinAt w0 O R Ac qs oc rc w) (i : Nat) (u : Value) : FinAt w0 O R Ac qs (oc.setIfInBounds i u) rc (w.setCell ⟨O, i, none⟩ u) := by
  have hg : w.grownBy (w.setCell ⟨O, i, none⟩ u) (some O) := ⟨rfl, rfl, rfl, by simp, fun k _ hn => Below.heap_setCell w ⟨O, i, none⟩ u k (fun e => hn (by rw [e]))⟩
  exact ⟨h.cases.grown hg h.box (by decide), fun q hq => (h.cl q hq).grown hg h.box (by decide), h.box.set_ i u, h.rb.far (p := ⟨O, i, none⟩) (fun e => h.ne e.symm) u, h.below.grown hg h.below.size (fun q hq => by injection hq with hq; have := h.hO; omega), h.hO, h.hR, h.ne⟩
theorem FinAt.set8 (h : FinAt w0 O R Ac qs oc rc w) {a0 a1 a2 a3 a4 a5 a6 a7 : Value} (hrc : rc = #[a0, a1, a2, a3, a4, a5, a6, a7]) (b0 b1 b2 b3 b4 b5 b6 b7 : Value) :
    FinAt w0 O R Ac qs oc #[b0, b1, b2, b3, b4, b5, b6, b7] ((((((((w.setCell ⟨R, 0, none⟩ b0).setCell ⟨R, 1, none⟩ b1).setCell ⟨R, 2, none⟩ b2).setCell ⟨R, 3, none⟩ b3).setCell ⟨R, 4, none⟩ b4).setCell ⟨R, 5, none⟩ b5).setCell ⟨R, 6, none⟩ b6).setCell ⟨R, 7, none⟩ b7) := by
  subst hrc
  have hg := only8 w R b0 b1 b2 b3 b4 b5 b6 b7
  exact ⟨h.cases.grown hg h.rb (by decide), fun q hq => (h.cl q hq).grown hg h.rb (by decide), h.box.grown hg (fun e => by injection e with e; exact h.ne e.symm), h.rb.set8 b0 b1 b2 b3 b4 b5 b6 b7, below8 h.below h.hR b0 b1 b2 b3 b4 b5 b6 b7, h.hO, h.hR, h.ne⟩
end
/-- What is left at the end. -/
structure FinEnd (w0 : World) (O R : Nat) (Ac : Option Addr) (qs : List CaseV) (oc rc : Array Value) (As : Option Addr) (xs : List Value) (Az : Option Addr) (ys : List Value) (W : World) : Prop where
  fin : FinAt w0 O R Ac qs oc rc W
  h5 : SlE W 5 As xs
  h3 : SlE W 3 Az ys
theorem FinAt.finish {w0 w : World} {O R : Nat} {Ac : Option Addr} {qs : List CaseV} {s al z2 z3 z4 cA z6 bF r0 r1 r2 r3 r4 r5 r6 r7 : Value} (h : FinAt w0 O R Ac qs #[s, al, z2, z3, z4, cA, z6, bF] #[r0, r1, r2, r3, r4, r5, r6, r7] w) {As Az : Option Addr} {xs ys : List Value} (h5 : SlE w 5 As xs) (h3 : SlE w 3 Az ys) (u6 u2 : Value) :
    FinEnd w0 O R Ac qs #[s, al, u2, z3, z4, cA, u6, bF] #[s, al, u2, z3, z4, cA, u6, bF] As xs Az ys
      (((((((((((w.setCell ⟨O, 6, none⟩ u6).setCell ⟨O, 2, none⟩ u2).setCell ⟨R, 0, none⟩ s).setCell ⟨R, 1, none⟩ al).setCell ⟨R, 2, none⟩ u2).setCell ⟨R, 3, none⟩ z3).setCell ⟨R, 4, none⟩ z4).setCell ⟨R, 5, none⟩ cA).setCell ⟨R, 6, none⟩ u6).setCell ⟨R, 7, none⟩ bF)) := by
  have g1 : ∀ (v : World) (g i : Nat) (u : Value), v.grownBy (v.setCell ⟨g, i, none⟩ u) (some g) := fun v g i u => ⟨rfl, rfl, rfl, by simp, fun k _ hn => Below.heap_setCell v ⟨g, i, none⟩ u k (fun e => hn (by rw [e]))⟩
  have F1 := h.setO 6 u6
  have F2 := F1.setO 2 u2
  have F3 := F2.set8 rfl s al u2 z3 z4 cA u6 bF
  have e : ((#[s, al, z2, z3, z4, cA, z6, bF] : Array Value).setIfInBounds 6 u6).setIfInBounds 2 u2 = #[s, al, u2, z3, z4, cA, u6, bF] := rfl
  rw [e] at F3
  refine ⟨F3, ?_, ?_⟩
  · exact ((h5.grown (g1 _ _ _ _) h.box (by decide)).grown (g1 _ _ _ _) F1.box (by decide)).grown (only8 _ R s al u2 z3 z4 cA u6 bF) F2.rb (by decide)
  · exact ((h3.grown (g1 _ _ _ _) h.box (by decide)).grown (g1 _ _ _ _) F1.box (by decide)).grown (only8 _ R s al u2 z3 z4 cA u6 bF) F2.rb (by decide)
theorem bodyPost_genF {P : Program} {fn : Func} {R : Ending → World → Prop} {x : Exit} {a : Act} {w : World} {F : World → Prop} (h1 : F w) (h : ∀ W, F W → bodyPost P fn R x a W) : bodyPost P fn R x a w := h w h1
theorem SumAt.fin {w0 w : World} {B : Nat} {vT : Value} {Ac : Option Addr} {cc : Nat} {qs : List CaseV} {ts : List Part} {O R : Nat} {oc rc : Array Value} (h : SumAt w0 B (.slice Ac qs.length cc) qs vT ts w) (hO : Blk w O 31 oc) (hR : Blk w R 31 rc) (h1 : w0.heap.size ≤ O) (h2 : w0.heap.size ≤ R) (h3 : O ≠ R) : FinAt w0 O R Ac qs oc rc w :=
  ⟨SlE.of_owns h.ownC, h.cl, hO, hR, h.below, h1, h2, h3⟩
end Go.Proofs.Ytamhigknobdloaa
