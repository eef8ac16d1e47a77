/- Parts and what was put into them, in three rows side by side; no condition. -/
import Derived.Test.YtamhigknobdloaaJp
import Derived.Test.YtamhigknobdloaaRg
namespace Go.Proofs.Ytamhigknobdloaa
open Go.RowKit
set_option linter.unusedVariables false

/-- Bytes q for the layout p. -/
structure Pay (w : World) (p q : Part) : Prop where
  odd : Odd w p
  pv : p.valid = true
  s : q.s = p.s
  al : q.al = p.al
  sp : SlE w 5 q.A (q.sp.map bv)
  len : (q.sp.length : Int) = q.s
  nz : ∀ b ∈ q.sp, b ≠ 0
  cap : q.sp.length ≤ q.c
section
variable {w w' : World} {p q : Part}
theorem Pay.below (h : Pay w p q) (hb : Below w.heap.size w w') : Pay w' p q := ⟨h.odd.below hb, h.pv, h.s, h.al, h.sp.below hb, h.len, h.nz, h.cap⟩
theorem Pay.alloc (h : Pay w p q) (o : Obj) : Pay (w.alloc o) p q := h.below ((Below.refl _ _).alloc (Nat.le_refl _) o)
theorem Pay.drew (h : Pay w p q) : Pay w.drew p q := ⟨h.odd.keep (fun _ _ _ _ => rfl), h.pv, h.s, h.al, h.sp.keep (fun _ _ _ _ => rfl), h.len, h.nz, h.cap⟩
theorem Pay.grown (h : Pay w p q) {g : Nat} (hg : w.grownBy w' (some g)) {t : TypeId} {ds : Array Value} {fz : Nat × Nat} (ht : w.heap[g]? = some (.cells ds t fz)) (h5 : (5 : TypeId) ≠ t) : Pay w' p q :=
  ⟨h.odd.grown hg ht h5, h.pv, h.s, h.al, h.sp.grown hg ht h5, h.len, h.nz, h.cap⟩
theorem Pay.own_grown {base size n : Nat} {e : TypeId} {v : Value} {ys : List Value} (h : Pay w p q) (ho : w.ownsRow base e size v n ys) (hg : w.grownBy w' v.ownBlock) (hne : (5 : TypeId) ≠ e) : Pay w' p q := by
  have hk : ∀ (b : Nat) (cs : Array Value) (fz : Nat × Nat), w.heap[b]? = some (Obj.cells cs 5 fz) → w'.heap[b]? = w.heap[b]? := by
    intro b cs fz hh
    refine hg.block b (Array.getElem?_eq_some_iff.1 hh).1 ?_
    intro hbe
    rcases own_blk_ne ho hh (fun e => hne e.symm) with h1 | h1
    · rw [h1] at hbe; cases hbe
    · exact h1 hbe.symm
  exact ⟨h.odd.keep hk, h.pv, h.s, h.al, h.sp.keep hk, h.len, h.nz, h.cap⟩
theorem Pay.valid (h : Pay w p q) : q.valid = true := by
  obtain ⟨h1, h2, h3, h4⟩ := (valid_iff p).1 h.pv
  have := h.s
  have := h.al
  exact (valid_iff q).2 ⟨by omega, by omega, by omega, h.len⟩
end
/-- The three rows of the law. -/
structure RowsR (W : World) (gd : Nat) (ls : List Int) (k : Nat) (v4 : Value) (ps : List Part) (v5 : Value) (qs : List Part) (v6 : Value) (w : World) : Prop where
  own4 : w.ownsRow W.heap.size 31 8 v4 ps.length (ps.flatMap Part.cells)
  own5 : w.ownsRow W.heap.size 27 1 v5 ps.length (qs.map rowV)
  own6 : w.ownsRow W.heap.size 3 1 v6 ps.length ((ps.map Part.s).map iv)
  dice : Dice w gd ls k
  gdl : gd < W.heap.size
  grown : W.grownBy w (some gd)
  len : qs.length = ps.length
  pay : ∀ (i : Nat) (h1 : i < ps.length) (h2 : i < qs.length), Pay w ps[i] qs[i]
theorem RowsR.dices {W w w' : World} {gd : Nat} {ls : List Int} {k k' : Nat} {v4 v5 v6 : Value} {ps qs : List Part} (h : RowsR W gd ls k v4 ps v5 qs v6 w) (hd : Dice w' gd ls k') (hg : w.grownBy w' (some gd)) : RowsR W gd ls k' v4 ps v5 qs v6 w' := by
  obtain ⟨ds, hds⟩ := h.dice.cells
  exact ⟨h.own4.kept hg (own_blk_ne h.own4 hds (by decide)), h.own5.kept hg (own_blk_ne h.own5 hds (by decide)), h.own6.kept hg (own_blk_ne h.own6 hds (by decide)), hd, h.gdl, grown_trans h.grown hg, h.len, fun i h1 h2 => (h.pay i h1 h2).grown hg hds (by decide)⟩
theorem RowsR.below {W w w' : World} {gd : Nat} {ls : List Int} {k : Nat} {v4 v5 v6 : Value} {ps qs : List Part} (h : RowsR W gd ls k v4 ps v5 qs v6 w) (hb : Below w.heap.size w w') : RowsR W gd ls k v4 ps v5 qs v6 w' :=
  ⟨below_own h.own4 hb, below_own h.own5 hb, below_own h.own6 hb, h.dice.below hb, h.gdl, grown_trans h.grown (only_of_below hb _), h.len, fun i h1 h2 => (h.pay i h1 h2).below hb⟩
theorem Sl.ofBlk {w : World} {b : Nat} {t : TypeId} {cs : Array Value} (h : Blk w b t cs) : Sl w (some ⟨b, 0, none⟩) cs.toList := by
  refine .inr ⟨b, 0, rfl, fun j hj => ?_⟩
  rw [h.cell, Nat.zero_add, ← Array.getElem?_toList, List.getElem?_eq_getElem hj]
theorem lay_shape (ps : List Part) : ∀ (qs : List Part) (L M X : Laid), qs.length = ps.length → (∀ (i : Nat) (h1 : i < ps.length) (h2 : i < qs.length), qs[i].s = ps[i].s ∧ qs[i].al = ps[i].al) → M.s = L.s → M.al = L.al → M.of = L.of → layGo L ps = some X →
    ∃ Y, layGo M qs = some Y ∧ Y.s = X.s ∧ Y.al = X.al ∧ Y.of = X.of := by
  induction ps with
  | nil =>
    intro qs L M X hl _ h1 h2 h3 hX
    obtain rfl : qs = [] := List.eq_nil_of_length_eq_zero hl
    simp only [layGo, Option.some.injEq] at hX
    subst hX
    exact ⟨M, rfl, h1, h2, h3⟩
  | cons p t ih =>
    intro qs L M X hl hp h1 h2 h3 hX
    match qs, hl with
    | q :: r, hl =>
      obtain ⟨e1, e2⟩ := hp 0 (by simp) (by simp)
      simp only [List.getElem_cons_zero] at e1 e2
      simp only [layGo] at hX ⊢
      have hf : M.fits q = L.fits p := by unfold Laid.fits; rw [h1, e1, e2]
      split at hX
      · rename_i hfit
        rw [hf, if_pos hfit]
        refine ih r (L.add p) (M.add q) X (by simpa using hl) (fun i h1 h2 => ?_) ?_ ?_ ?_ hX
        · have := hp (i + 1) (by simpa using h1) (by simpa using h2)
          simpa using this
        · show alignI M.s q.al + q.s = alignI L.s p.al + p.s; rw [h1, e1, e2]
        · show max M.al q.al = max L.al p.al; rw [h2, e2]
        · show M.of ++ [alignI M.s q.al] = L.of ++ [alignI L.s p.al]; rw [h3, h1, e2]
      · cases hX
theorem el27 : El Try.prog 27 (.slice none 0 0) 1 24 := El.mk (by kernel_rfl) rfl (by decide)

/-- What holds while the three appends run in whatever order: of the operations that have run (D) the values (x) and the world. -/
structure App3 (W : World) (gd : Nat) (ls : List Int) (k : Nat) (v4 : Value) (ps : List Part) (v5 : Value) (qs : List Part) (v6 : Value) (p q : Part) (b8 : Nat) (D : Nat → Bool) (x : Nat → Value) (w : World) : Prop where
  own4n : D 3 = false → w.ownsRow W.heap.size 31 8 v4 ps.length (ps.flatMap Part.cells)
  own4 : D 3 = true → ∃ A c, x 3 = .slice A (ps.length + 1) c ∧ w.ownsRow W.heap.size 31 8 (.slice A (ps.length + 1) c) (ps.length + 1) ((ps ++ [p]).flatMap Part.cells)
  own5n : D 7 = false → w.ownsRow W.heap.size 27 1 v5 ps.length (qs.map rowV)
  own5 : D 7 = true → ∃ A c, x 7 = .slice A (ps.length + 1) c ∧ w.ownsRow W.heap.size 27 1 (.slice A (ps.length + 1) c) (ps.length + 1) ((qs ++ [q]).map rowV)
  own6n : D 12 = false → w.ownsRow W.heap.size 3 1 v6 ps.length ((ps.map Part.s).map iv)
  own6 : D 12 = true → ∃ A c, x 12 = .slice A (ps.length + 1) c ∧ w.ownsRow W.heap.size 3 1 (.slice A (ps.length + 1) c) (ps.length + 1) (((ps ++ [p]).map Part.s).map iv)
  n2 : D 2 = true → D 3 = false → ∃ b, x 2 = .slice (some ⟨b, 0, none⟩) 1 1 ∧ Blk w b 31 p.arr ∧ v4.ownBlock ≠ some b
  n6 : D 6 = true → D 7 = false → ∃ b, x 6 = .slice (some ⟨b, 0, none⟩) 1 1 ∧ Blk w b 27 #[rowV q] ∧ v5.ownBlock ≠ some b
  n11 : D 11 = true → D 12 = false → ∃ b, x 11 = .slice (some ⟨b, 0, none⟩) 1 1 ∧ Blk w b 3 #[.int .i64 p.s] ∧ v6.ownBlock ≠ some b
  m0 : D 0 = true → x 0 = v4
  m1 : D 1 = true → x 1 = .agg p.arr
  m4 : D 4 = true → x 4 = v5
  m5 : D 5 = true → x 5 = rowV q
  m8 : D 8 = true → x 8 = v6
  m9 : D 9 = true → x 9 = .pointer (some ⟨b8, 0, none⟩)
  m10 : D 10 = true → x 10 = .int .i64 p.s
  f13 : D 13 = true → x 13 = x 3
  f14 : D 14 = true → x 14 = x 7
  f15 : D 15 = true → x 15 = x 12
  box : Blk w b8 31 p.arr
  far : v4.ownBlock ≠ some b8
  dice : Dice w gd ls k
  grown : W.grownBy w (some gd)
  pay : ∀ (i : Nat) (h1 : i < ps.length) (h2 : i < qs.length), Pay w ps[i] qs[i]
  payp : Pay w p q
section
variable {W w w' : World} {gd : Nat} {ls : List Int} {k : Nat} {v4 v5 v6 : Value} {ps qs : List Part} {p q : Part} {b8 : Nat} {D : Nat → Bool} {x : Nat → Value}
/-- A block that is made leaves all as it was. -/
theorem App3.alloc (h : App3 W gd ls k v4 ps v5 qs v6 p q b8 D x w) (o : Obj) : App3 W gd ls k v4 ps v5 qs v6 p q b8 D x (w.alloc o) where
  own4n hd := (h.own4n hd).alloc o
  own4 hd := by obtain ⟨A, c, h1, h2⟩ := h.own4 hd; exact ⟨A, c, h1, h2.alloc o⟩
  own5n hd := (h.own5n hd).alloc o
  own5 hd := by obtain ⟨A, c, h1, h2⟩ := h.own5 hd; exact ⟨A, c, h1, h2.alloc o⟩
  own6n hd := (h.own6n hd).alloc o
  own6 hd := by obtain ⟨A, c, h1, h2⟩ := h.own6 hd; exact ⟨A, c, h1, h2.alloc o⟩
  n2 a b := by obtain ⟨g, h1, h2, h3⟩ := h.n2 a b; exact ⟨g, h1, h2.alloc o, h3⟩
  n6 a b := by obtain ⟨g, h1, h2, h3⟩ := h.n6 a b; exact ⟨g, h1, h2.alloc o, h3⟩
  n11 a b := by obtain ⟨g, h1, h2, h3⟩ := h.n11 a b; exact ⟨g, h1, h2.alloc o, h3⟩
  m0 := h.m0
  m1 := h.m1
  m4 := h.m4
  m5 := h.m5
  m8 := h.m8
  m9 := h.m9
  m10 := h.m10
  f13 := h.f13
  f14 := h.f14
  f15 := h.f15
  box := h.box.alloc o
  far := h.far
  dice := h.dice.alloc o
  grown := grown_alloc h.grown o
  pay i h1 h2 := (h.pay i h1 h2).alloc o
  payp := h.payp.alloc o
end
end Go.Proofs.Ytamhigknobdloaa
