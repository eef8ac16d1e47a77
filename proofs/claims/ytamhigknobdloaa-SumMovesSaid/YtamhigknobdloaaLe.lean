/- The walk of the law ProductSingle; no condition but that the numbers are readable. -/
import Derived.Test.YtamhigknobdloaaLz
import Derived.Test.YtamhigknobdloaaLc
import Derived.Test.YtamhigknobdloaaLq
namespace Go.Proofs.Ytamhigknobdloaa
open Go.RowKit
set_option linter.unusedVariables false

/-- append at a step of a region that draws; the source is whatever slice holds 'news'. -/
theorem step_append_sl {P : Program} {w : World} {ops : Array Oper} {o : Oper} {a : Act} {K : Act → World → Prop} {Q : Exit → Act → World → Prop} {E : Prop} (hgd : o.guard = none) (s x : Operand) (t : TypeId)
    (ho : o.op = .call { callee := .builtin .append, args := #[s, x], argTypes := #[t, t] })
    (base : Nat) (e : TypeId) (z : Value) (size bytes : Nat) (ht : P.underlying t = some (.slice e)) (he : El P e z size bytes)
    (v : Value) (n : Nat) (xs : List Value) (hs : a.eval s = v) (hown : w.ownsRow base e size v n xs) (A : Option Addr) (m c : Nat) (news : List Value) (hx : a.eval x = .slice A m c) (hsl : Sl w A news) (hl : news.length = m * size)
    (h1 : ∀ u ∈ news, u.oneCell' = true) (h63 : n + m ≤ maxLen) (hbytes : (n + m) * bytes ≤ 140737488355328) (hbase : base ≤ w.heap.size)
    (h : ∀ A' c' w', w'.ownsRow base e size (.slice A' (n + m) c') (n + m) (xs ++ news) → w.grownBy w' v.ownBlock → ((Value.slice A' (n + m) c').ownBlock = v.ownBlock ∨ (Value.slice A' (n + m) c').ownBlock = some w.heap.size) → K (a.put o.dst (.slice A' (n + m) c')) w') :
    if Region.wanted o (yielded ops a.tmps) = true then Oper.wp P o a w K Q else E := by
  have hw : Region.wanted o (yielded ops a.tmps) = true := by simp [Region.wanted, hgd]
  rw [if_pos hw]
  exact wp_append_sl s x t ho base e z size bytes ht he v n xs hs hown A m c news hx hsl hl h1 h63 hbytes hbase h

/-- A small part of the call's own: bytes without alignment. -/
structure Small (w : World) (p : Part) : Prop where
  sp : SlE w 5 p.A (p.sp.map bv)
  one : p.one
  al : p.al = 1
  s : p.s = p.sp.length
  len : p.sp.length ≤ 9
theorem Small.below {w w' : World} {p : Part} (h : Small w p) (hb : Below w.heap.size w w') : Small w' p := ⟨h.sp.below hb, h.one, h.al, h.s, h.len⟩
theorem Small.keep {w w' : World} {p : Part} (h : Small w p) (hk : ∀ (b : Nat) (cs : Array Value) (fz : Nat × Nat), w.heap[b]? = some (Obj.cells cs 5 fz) → w'.heap[b]? = w.heap[b]?) : Small w' p := ⟨h.sp.keep hk, h.one, h.al, h.s, h.len⟩
theorem Small.grown {w w' : World} {p : Part} (h : Small w p) {g : Nat} (hg : w.grownBy w' (some g)) {t : TypeId} {ds : Array Value} {fz : Nat × Nat} (ht : w.heap[g]? = some (.cells ds t fz)) (h5 : (5 : TypeId) ≠ t) : Small w' p := ⟨h.sp.grown hg ht h5, h.one, h.al, h.s, h.len⟩
theorem Small.own_grown {w w' : World} {p : Part} {base size n : Nat} {v : Value} {ys : List Value} (h : Small w p) (ho : w.ownsRow base 31 size v n ys) (hg : w.grownBy w' v.ownBlock) : Small w' p := ⟨h.sp.own_grown ho hg (by decide), h.one, h.al, h.s, h.len⟩

theorem Small.drew {w : World} {p : Part} (h : Small w p) : Small w.drew p := h.keep (fun _ _ _ _ => rfl)
theorem Small.alloc {w : World} {p : Part} (h : Small w p) (o : Obj) : Small (w.alloc o) p := h.below ((Below.refl _ _).alloc (Nat.le_refl _) o)
/-- The two rows of parts as they stand in the loop: v7 owns ps, v8 holds qs in another block. -/
structure Rows2 (W : World) (gd : Nat) (ls : List Int) (k : Nat) (v7 : Value) (m : Nat) (ps : List Part) (A8 : Option Addr) (qs : List Part) (w : World) : Prop where
  own : w.ownsRow W.heap.size 31 8 v7 m (ps.flatMap Part.cells)
  sl : Parts w A8 qs
  far : ∀ b off, A8 = some ⟨b, off, none⟩ → b < w.heap.size ∧ W.heap.size ≤ b ∧ v7.ownBlock ≠ some b
  dice : Dice w gd ls k
  gdl : gd < W.heap.size
  grown : W.grownBy w (some gd)
  small : ∀ p ∈ ps, Small w p
section
variable {W w w' : World} {gd : Nat} {ls : List Int} {k : Nat} {v7 : Value} {m : Nat} {ps : List Part} {A8 : Option Addr} {qs : List Part}
theorem Rows2.drew (h : Rows2 W gd ls k v7 m ps A8 qs w) : Rows2 W gd ls k v7 m ps A8 qs w.drew := ⟨h.own, h.sl, h.far, h.dice, h.gdl, drew_grown h.grown, fun p hp => (h.small p hp).keep (fun _ _ _ _ => rfl)⟩
theorem Rows2.below (h : Rows2 W gd ls k v7 m ps A8 qs w) (hb : Below w.heap.size w w') : Rows2 W gd ls k v7 m ps A8 qs w' :=
  ⟨below_own h.own hb, h.sl.below hb, fun b off e => ⟨Nat.lt_of_lt_of_le (h.far b off e).1 hb.size, (h.far b off e).2⟩, h.dice.below hb, h.gdl, grown_trans h.grown (only_of_below hb _), fun p hp => (h.small p hp).below hb⟩
theorem Rows2.alloc (h : Rows2 W gd ls k v7 m ps A8 qs w) (o : Obj) : Rows2 W gd ls k v7 m ps A8 qs (w.alloc o) := h.below ((Below.refl _ _).alloc (Nat.le_refl _) o)
end

theorem one_own {w : World} {base b : Nat} {cs : Array Value} (h : Blk w b 31 cs) (hc : cs.size = 8) (hb : base ≤ b) : w.ownsRow base 31 8 (.slice (some ⟨b, 0, none⟩) 1 1) 1 cs.toList :=
  ⟨by simp [hc], .inr ⟨b, 1, cs, rfl, hb, h, Nat.le_refl _, by simp [maxLen], by simp [hc], by rw [List.take_of_length_le (by simp [hc])]⟩⟩
def Part.arr (p : Part) : Array Value := #[.int .i64 p.s, .int .i64 p.al, .slice p.A p.sp.length p.c, p.x3, p.x4, p.x5, p.x6, p.x7]
/-- Blocks apart from a row stay. -/
structure Kept (w w' : World) (row : Option Nat) : Prop where
  blk : ∀ (b : Nat) (t : TypeId) (cs : Array Value), Blk w b t cs → row ≠ some b → Blk w' b t cs
  size : w.heap.size ≤ w'.heap.size
theorem Kept.of {w w' : World} {row : Option Nat} (h : w.grownBy w' row) : Kept w w' row := ⟨fun b t cs hB hr => hB.grown h hr, h.size⟩

section
variable {W w : World} {gd : Nat} {ls : List Int} {k : Nat} {v7 : Value} {m : Nat} {ps : List Part} {A8 : Option Addr} {qs : List Part}
theorem step7 {ops : Array Oper} {o : Oper} {a : Act} {K : Act → World → Prop} {Q : Exit → Act → World → Prop} {E : Prop} (hgd : o.guard = none) (s x : Operand)
    (ho : o.op = .call { callee := .builtin .append, args := #[s, x], argTypes := #[22, 22] }) (hs : a.eval s = v7) (b1 : Nat) (hx : a.eval x = .slice (some ⟨b1, 0, none⟩) 1 1)
    (H : Rows2 W gd ls k v7 m ps A8 qs w) (p : Part) (hB : Blk w b1 31 p.arr) (hsm : Small w p) (hm : m ≤ 6000)
    (h : ∀ A' c' w', Rows2 W gd ls k (.slice A' (m + 1) c') (m + 1) (ps ++ [p]) A8 qs w' → Small w' p → Kept w w' v7.ownBlock → (∀ b, v7.ownBlock ≠ some b → b < w.heap.size → (Value.slice A' (m + 1) c').ownBlock ≠ some b) → K (a.put o.dst (.slice A' (m + 1) c')) w') :
    if Region.wanted o (yielded ops a.tmps) = true then Oper.wp Try.prog o a w K Q else E := by
  have hsl : Sl w (some ⟨b1, 0, none⟩) (([p] : List Part).flatMap Part.cells) := by
    refine .inr ⟨b1, 0, rfl, fun j hj => ?_⟩
    have e : ([p] : List Part).flatMap Part.cells = p.arr.toList := by simp [Part.cells, Part.arr]
    rw [hB.cell, Nat.zero_add, ← Array.getElem?_toList, ← e, List.getElem?_eq_getElem hj]
  refine step_append_sl hgd s x 22 ho W.heap.size 31 _ 8 144 Try.underlying22 el31 v7 m _ hs H.own (some ⟨b1, 0, none⟩) 1 1 _ hx hsl (by rw [flat_length]; rfl) (parts_one (by intro q hq; rw [List.mem_singleton.1 hq]; exact hsm.one)) (by simp only [maxLen]; omega) (by omega) H.grown.size ?_
  intro A' c' w' hown hg hblk
  refine h A' c' w' ⟨?_, ?_, ?_, ?_, H.gdl, ?_, ?_⟩ (hsm.own_grown H.own hg) (Kept.of hg) (fun b h1 h2 => by
    rcases hblk with hb | hb
    · rw [hb]; exact h1
    · rw [hb]; intro hh; injection hh with hh; omega)
  · rw [List.flatMap_append]; exact hown
  · exact Sl.grown H.sl hg (fun b off e => fun hh => (H.far b off e).2.2 hh.symm)
  · intro b off e
    obtain ⟨h1, h2, h3⟩ := H.far b off e
    refine ⟨Nat.lt_of_lt_of_le h1 hg.size, h2, ?_⟩
    rcases hblk with hb | hb
    · rw [hb]; exact h3
    · rw [hb]; intro hh; injection hh with hh; omega
  · exact H.dice.own H.own hg H.gdl
  · exact grown_new H.grown hg (fun q hq => (H.own.lt q hq).1)
  · intro q hq
    rcases List.mem_append.1 hq with h1 | h1
    · exact (H.small q h1).own_grown H.own hg
    · rw [List.mem_singleton.1 h1]; exact hsm.own_grown H.own hg
theorem step8 {ops : Array Oper} {o : Oper} {a : Act} {K : Act → World → Prop} {Q : Exit → Act → World → Prop} {E : Prop} (hgd : o.guard = none) (s x : Operand)
    (ho : o.op = .call { callee := .builtin .append, args := #[s, x], argTypes := #[22, 22] }) (b2 : Nat) (hs : a.eval s = .slice (some ⟨b2, 0, none⟩) 1 1) (n c8 : Nat) (hx : a.eval x = .slice A8 n c8)
    (H : Rows2 W gd ls k v7 m ps A8 qs w) (hn : qs.length = n) (p : Part) (hB : Blk w b2 31 p.arr) (hW : W.heap.size ≤ b2) (h7 : v7.ownBlock ≠ some b2) (hqs : ∀ q ∈ qs, q.one) (hsm : Small w p) (hm : n ≤ 6000)
    (h : ∀ A' c' w', Rows2 W gd ls k v7 m ps A' (p :: qs) w' → Small w' p → Kept w w' (some b2) → K (a.put o.dst (.slice A' (1 + n) c')) w') :
    if Region.wanted o (yielded ops a.tmps) = true then Oper.wp Try.prog o a w K Q else E := by
  have hown2 := one_own (base := W.heap.size) hB rfl hW
  have e : p.arr.toList = p.cells := rfl
  rw [e] at hown2
  refine step_append_sl hgd s x 22 ho W.heap.size 31 _ 8 144 Try.underlying22 el31 _ 1 _ hs hown2 A8 n c8 _ hx H.sl (by rw [flat_length, hn]; omega) (parts_one hqs) (by simp only [maxLen]; omega) (by omega) H.grown.size ?_
  intro A' c' w' hown hg hblk
  have hg' : w.grownBy w' (some b2) := hg
  have hne : ∀ (v : Value) (row : Option Nat), v.ownBlock ≠ some b2 → (v.ownBlock = none ∨ v.ownBlock ≠ some b2) := fun v _ h => .inr h
  have hsm' : ∀ q, Small w q → Small w' q := fun q hq => hq.own_grown hown2 hg
  obtain ⟨g, hA', hg1, hg2⟩ := own_addr hown (by omega)
  refine h A' c' w' ⟨H.own.kept hg' (.inr h7), ?_, ?_, ?_, H.gdl, ?_, fun q hq => hsm' q (H.small q hq)⟩ (hsm' p hsm) (Kept.of hg')
  · have hsl := Sl.of_own8 hown
    exact hsl
  · intro b off e
    rw [hA'] at e
    injection e with e
    injection e with e1 e2
    subst e1
    refine ⟨hg2, hg1, ?_⟩
    rcases hblk with hb | hb
    · rw [hA'] at hb
      have : g = b2 := by simpa [Value.ownBlock] using hb
      rw [this]; exact h7
    · rw [hA'] at hb
      have : g = w.heap.size := by simpa [Value.ownBlock] using hb
      rw [this]; exact far_lt H.own (Nat.le_refl _)
  · exact H.dice.own hown2 hg H.gdl
  · exact grown_new H.grown hg' (fun q hq => by injection hq with hq; rw [← hq]; exact hW)
end
end Go.Proofs.Ytamhigknobdloaa
