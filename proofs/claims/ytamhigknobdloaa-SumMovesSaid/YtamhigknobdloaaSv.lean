/- The rows of made cases, and the three appends of a round, operation by operation; no condition. -/
import Derived.Test.YtamhigknobdloaaSn
import Derived.Test.YtamhigknobdloaaRk
namespace Go.Proofs.Ytamhigknobdloaa
open Go.RowKit
set_option linter.unusedVariables false

/-- The blocks of elements of type e are as they were. -/
def Keep (e : TypeId) (w w' : World) : Prop := ∀ (b : Nat) (cs : Array Value) (fz : Nat × Nat), w.heap[b]? = some (Obj.cells cs e fz) → w'.heap[b]? = w.heap[b]?
section
variable {w w' : World} {e : TypeId}
theorem Keep.below (hb : Below w.heap.size w w') : Keep e w w' := fun b cs fz h => hb.block b (Array.getElem?_eq_some_iff.1 h).1
theorem Keep.alloc (o : Obj) : Keep e w (w.alloc o) := Keep.below ((Below.refl _ _).alloc (Nat.le_refl _) o)
theorem Keep.grown {g t : Nat} {cs : Array Value} {fz : Nat × Nat} (hg : w.grownBy w' (some g)) (ht : w.heap[g]? = some (.cells cs t fz)) (hne : e ≠ t) : Keep e w w' := fun b cs' fz' h => hg.block b (Array.getElem?_eq_some_iff.1 h).1 (by
  intro hbg
  injection hbg with hbg
  subst hbg
  rw [ht] at h
  injection h with h
  injection h with _ h2
  exact hne h2.symm)
theorem Keep.own {base size n : Nat} {t : TypeId} {v : Value} {ys : List Value} (ho : w.ownsRow base t size v n ys) (hg : w.grownBy w' v.ownBlock) (hne : e ≠ t) : Keep e w w' := fun b cs fz h => hg.block b (Array.getElem?_eq_some_iff.1 h).1 (by
  intro hbe
  rcases own_blk_ne ho h (fun e => hne e.symm) with h1 | h1
  · rw [h1] at hbe; cases hbe
  · exact h1 hbe.symm)
theorem Keep.drew : Keep e w w.drew := fun _ _ _ _ => rfl
theorem Blk.keeps {g : Nat} {cs : Array Value} (h : Blk w g e cs) (hk : Keep e w w') : Blk w' g e cs := (hk g cs (0, 0) h).trans h
theorem own_keeps {base size n : Nat} {v : Value} {ys : List Value} (h : w.ownsRow base e size v n ys) (hk : Keep e w w') : w'.ownsRow base e size v n ys := by
  rcases h with ⟨hl, h1 | ⟨g, cap, cur, h1, h2, h3, h4⟩⟩
  · exact ⟨hl, .inl h1⟩
  · exact ⟨hl, .inr ⟨g, cap, cur, h1, h2, (hk g cur (0, 0) h3).trans h3, h4⟩⟩
end
/-- A layout that was laid: it is valid, its slices are the call's own. -/
structure LaidAt (w : World) (p : Part) : Prop where
  sp : SlE w 5 p.A (p.sp.map bv)
  cap : p.sp.length ≤ p.c
  valid : p.valid = true
  of : ∃ Ao ofs co, p.x3 = .slice Ao (ofs : List Int).length co ∧ SlE w 3 Ao (ofs.map iv) ∧ ofs.length ≤ co ∧ ofs.length ≤ 100
  one : p.one
theorem LaidAt.keeps {w w' : World} {p : Part} (h : LaidAt w p) (h5 : Keep 5 w w') (h3 : Keep 3 w w') : LaidAt w' p := by
  obtain ⟨Ao, ofs, co, e, s, l1, l2⟩ := h.of
  exact ⟨h.sp.keep h5, h.cap, h.valid, ⟨Ao, ofs, co, e, s.keep h3, l1, l2⟩, h.one⟩
/-- The three rows of cases. -/
structure RowsC (W : World) (gd : Nat) (ls : List Int) (v7 : Value) (ps : List Part) (v8 : Value) (nms : List ByteArray) (v9 : Value) (bs : List Bool) (w : World) : Prop where
  own7 : w.ownsRow W.heap.size 31 8 v7 ps.length (ps.flatMap Part.cells)
  own8 : w.ownsRow W.heap.size 9 1 v8 ps.length (nms.map Value.string)
  own9 : w.ownsRow W.heap.size 4 1 v9 ps.length (bs.map Value.bool)
  ln : nms.length = ps.length
  lb : bs.length = ps.length
  dice : ∃ k, Dice w gd ls k
  gdl : gd < W.heap.size
  grown : W.grownBy w (some gd)
  laid : ∀ p ∈ ps, LaidAt w p
theorem RowsC.dices {W w w' : World} {gd : Nat} {ls : List Int} {v7 v8 v9 : Value} {ps : List Part} {nms : List ByteArray} {bs : List Bool} {k' : Nat} (h : RowsC W gd ls v7 ps v8 nms v9 bs w) (hd : Dice w' gd ls k') (hg : w.grownBy w' (some gd)) : RowsC W gd ls v7 ps v8 nms v9 bs w' := by
  obtain ⟨k, hk⟩ := h.dice
  obtain ⟨ds, hds⟩ := hk.cells
  have K : ∀ e : TypeId, e ≠ 84 → Keep e w w' := fun e he => Keep.grown hg hds he
  exact ⟨own_keeps h.own7 (K _ (by decide)), own_keeps h.own8 (K _ (by decide)), own_keeps h.own9 (K _ (by decide)), h.ln, h.lb, ⟨k', hd⟩, h.gdl, grown_trans h.grown hg, fun p hp => (h.laid p hp).keeps (K _ (by decide)) (K _ (by decide))⟩
theorem RowsC.below {W w w' : World} {gd : Nat} {ls : List Int} {v7 v8 v9 : Value} {ps : List Part} {nms : List ByteArray} {bs : List Bool} (h : RowsC W gd ls v7 ps v8 nms v9 bs w) (hb : Below w.heap.size w w') : RowsC W gd ls v7 ps v8 nms v9 bs w' := by
  obtain ⟨k, hk⟩ := h.dice
  exact ⟨below_own h.own7 hb, below_own h.own8 hb, below_own h.own9 hb, h.ln, h.lb, ⟨k, hk.below hb⟩, h.gdl, grown_trans h.grown (only_of_below hb _), fun p hp => (h.laid p hp).keeps (Keep.below hb) (Keep.below hb)⟩
abbrev pArr (p : Part) : Array Value := #[.int .i64 p.s, .int .i64 p.al, .slice p.A p.sp.length p.c, p.x3, p.x4, p.x5, p.x6, p.x7]
theorem sle_set1 {w : World} {e t : TypeId} {g : Nat} {cs : Array Value} {A : Option Addr} {xs : List Value} (h : SlE w e A xs) (hb : Blk w g t cs) (hne : e ≠ t) (i : Nat) (u : Value) : SlE (w.setCell ⟨g, i, none⟩ u) e A xs := h.grown (grown_set w g i u) hb hne
theorem rows_alloc1 {W w : World} {gd g : Nat} {ls : List Int} {A7 : Option Addr} {n7 c7 : Nat} {v8 v9 : Value} {ps : List Part} {nms : List ByteArray} {bs : List Bool} {cs : Array Value} (h : RowsC W gd ls (.slice A7 n7 c7) ps v8 nms v9 bs w) (hb : Blk w g 31 cs) (hf : (Value.slice A7 n7 c7).ownBlock ≠ some g) (h1 : W.heap.size ≤ g) (h2 : gd < g) (i : Nat) (u : Value) :
    RowsC W gd ls (.slice A7 n7 c7) ps v8 nms v9 bs (w.setCell ⟨g, i, none⟩ u) := by
  have hg := grown_set w g i u
  have K : ∀ e : TypeId, e ≠ 31 → Keep e w (w.setCell ⟨g, i, none⟩ u) := fun e he => Keep.grown hg hb he
  obtain ⟨k, hk⟩ := h.dice
  exact ⟨h.own7.kept hg (.inr hf), own_keeps h.own8 (K _ (by decide)), own_keeps h.own9 (K _ (by decide)), h.ln, h.lb, ⟨k, hk.far hg (fun q hq => by injection hq with hq; omega)⟩, h.gdl, grown_new h.grown hg (fun q hq => by injection hq with hq; omega), fun p hp => (h.laid p hp).keeps (K _ (by decide)) (K _ (by decide))⟩
theorem el9 : El Try.prog 9 (.string "".toUTF8) 1 16 := El.mk (by kernel_rfl) rfl (by decide)
theorem el4 : El Try.prog 4 (.bool false) 1 1 := El.mk (by kernel_rfl) rfl (by decide)

/-- What holds while the three appends run in whatever order. -/
structure CApp (W : World) (gd : Nat) (ls : List Int) (v7 : Value) (ps : List Part) (v8 : Value) (nms : List ByteArray) (v9 : Value) (bs : List Bool) (p : Part) (nm : ByteArray) (c8 : Value) (b13 : Nat) (D : Nat → Bool) (x : Nat → Value) (w : World) : Prop where
  own7n : D 3 = false → w.ownsRow W.heap.size 31 8 v7 ps.length (ps.flatMap Part.cells)
  own7 : D 3 = true → ∃ A c, x 3 = .slice A (ps.length + 1) c ∧ w.ownsRow W.heap.size 31 8 (.slice A (ps.length + 1) c) (ps.length + 1) ((ps ++ [p]).flatMap Part.cells)
  own8n : D 13 = false → w.ownsRow W.heap.size 9 1 v8 ps.length (nms.map Value.string)
  own8 : D 13 = true → ∃ A c, x 13 = .slice A (ps.length + 1) c ∧ w.ownsRow W.heap.size 9 1 (.slice A (ps.length + 1) c) (ps.length + 1) ((nms ++ [nm]).map Value.string)
  own9n : D 18 = false → w.ownsRow W.heap.size 4 1 v9 ps.length (bs.map Value.bool)
  own9 : D 18 = true → ∃ A c b, x 18 = .slice A (ps.length + 1) c ∧ w.ownsRow W.heap.size 4 1 (.slice A (ps.length + 1) c) (ps.length + 1) ((bs ++ [b]).map Value.bool)
  n2 : D 2 = true → D 3 = false → ∃ g, x 2 = .slice (some ⟨g, 0, none⟩) 1 1 ∧ Blk w g 31 (pArr p)
  n9 : D 9 = true → ∃ g, x 9 = .slice (some ⟨g, 0, none⟩) 1 1 ∧ Blk w g 5 #[c8]
  n12 : D 12 = true → D 13 = false → ∃ g, x 12 = .slice (some ⟨g, 0, none⟩) 1 1 ∧ Blk w g 9 #[.string nm]
  m16 : D 16 = true → ∃ b, x 16 = .bool b
  n17 : D 17 = true → D 18 = false → ∃ g b, x 17 = .slice (some ⟨g, 0, none⟩) 1 1 ∧ Blk w g 4 #[.bool b]
  f19 : D 19 = true → x 19 = x 3
  f20 : D 20 = true → x 20 = x 13
  f21 : D 21 = true → x 21 = x 18
  box : Blk w b13 31 (pArr p)
  far : v7.ownBlock ≠ some b13
  dice : ∃ k, Dice w gd ls k
  gdl : gd < W.heap.size
  grown : W.grownBy w (some gd)
  ln : nms.length = ps.length
  lb : bs.length = ps.length
  laid : ∀ q ∈ ps, LaidAt w q
  laidp : LaidAt w p
abbrev dD (D : Nat → Bool) (i : Nat) : Nat → Bool := fun j => if j = i then true else D j
abbrev xX (x : Nat → Value) (i : Nat) (v : Value) : Nat → Value := fun j => if j = i then v else x j
section
variable {W : World} {gd : Nat} {ls : List Int} {v7 v8 v9 : Value} {ps : List Part} {nms : List ByteArray} {bs : List Bool} {p : Part} {nm : ByteArray} {c8 : Value} {b13 : Nat} {D : Nat → Bool} {x : Nat → Value} {w w' : World}
theorem CApp.ins (h : CApp W gd ls v7 ps v8 nms v9 bs p nm c8 b13 D x w) (i : Nat) (u : Value) (hn : i ≠ 2 ∧ i ≠ 3 ∧ i ≠ 9 ∧ i ≠ 12 ∧ i ≠ 13 ∧ i ≠ 16 ∧ i ≠ 17 ∧ i ≠ 18 ∧ i ≠ 19 ∧ i ≠ 20 ∧ i ≠ 21) : CApp W gd ls v7 ps v8 nms v9 bs p nm c8 b13 (dD D i) (xX x i u) w := by
  obtain ⟨e2, e3, e9, e12, e13, e16, e17, e18, e19, e20, e21⟩ := hn
  have d : ∀ j, i ≠ j → dD D i j = D j := fun j hj => if_neg (fun e => hj e.symm)
  have y : ∀ j, i ≠ j → xX x i u j = x j := fun j hj => if_neg (fun e => hj e.symm)
  constructor
  · rw [d 3 e3]; exact h.own7n
  · rw [d 3 e3, y 3 e3]; exact h.own7
  · rw [d 13 e13]; exact h.own8n
  · rw [d 13 e13, y 13 e13]; exact h.own8
  · rw [d 18 e18]; exact h.own9n
  · rw [d 18 e18, y 18 e18]; exact h.own9
  · rw [d 2 e2, d 3 e3, y 2 e2]; exact h.n2
  · rw [d 9 e9, y 9 e9]; exact h.n9
  · rw [d 12 e12, d 13 e13, y 12 e12]; exact h.n12
  · rw [d 16 e16, y 16 e16]; exact h.m16
  · rw [d 17 e17, d 18 e18, y 17 e17]; exact h.n17
  · rw [d 19 e19, y 3 e3, y 19 e19]; exact h.f19
  · rw [d 20 e20, y 13 e13, y 20 e20]; exact h.f20
  · rw [d 21 e21, y 18 e18, y 21 e21]; exact h.f21
  · exact h.box
  · exact h.far
  · exact h.dice
  · exact h.gdl
  · exact h.grown
  · exact h.ln
  · exact h.lb
  · exact h.laid
  · exact h.laidp
theorem CApp.op2 (h : CApp W gd ls v7 ps v8 nms v9 bs p nm c8 b13 D x w) (hD : D 2 = false)  : CApp W gd ls v7 ps v8 nms v9 bs p nm c8 b13 (dD D 2) (xX x 2 (.slice (some ⟨w.heap.size, 0, none⟩) 1 1)) (w.alloc (.cells (pArr p) 31)) := by
  have d : ∀ j, j ≠ 2 → dD D 2 j = D j := fun j hj => if_neg hj
  have y : ∀ j, j ≠ 2 → xX x 2 (.slice (some ⟨w.heap.size, 0, none⟩) 1 1) j = x j := fun j hj => if_neg hj
  have K : ∀ e : TypeId, Keep e w (w.alloc (.cells (pArr p) 31)) := fun e => Keep.alloc _
  constructor
  · rw [d 3 (by decide)]; exact fun hd => own_keeps (h.own7n hd) (K 31)
  · rw [d 3 (by decide), y 3 (by decide)]; exact fun hd => by obtain ⟨A, c, h1, h2⟩ := h.own7 hd; exact ⟨A, c, h1, own_keeps h2 (K 31)⟩
  · rw [d 13 (by decide)]; exact fun hd => own_keeps (h.own8n hd) (K 9)
  · rw [d 13 (by decide), y 13 (by decide)]; exact fun hd => by obtain ⟨A, c, h1, h2⟩ := h.own8 hd; exact ⟨A, c, h1, own_keeps h2 (K 9)⟩
  · rw [d 18 (by decide)]; exact fun hd => own_keeps (h.own9n hd) (K 4)
  · rw [d 18 (by decide), y 18 (by decide)]; exact fun hd => by obtain ⟨A, c, b, h1, h2⟩ := h.own9 hd; exact ⟨A, c, b, h1, own_keeps h2 (K 4)⟩
  · intro _ _; exact ⟨w.heap.size, rfl, Blk.new _ _ _⟩
  · rw [d 9 (by decide), y 9 (by decide)]; exact fun a => by obtain ⟨g, h1, h2⟩ := h.n9 a; exact ⟨g, h1, h2.keeps (K 5)⟩
  · rw [d 12 (by decide), d 13 (by decide), y 12 (by decide)]; exact fun a b => by obtain ⟨g, h1, h2⟩ := h.n12 a b; exact ⟨g, h1, h2.keeps (K 9)⟩
  · rw [d 16 (by decide), y 16 (by decide)]; exact h.m16
  · rw [d 17 (by decide), d 18 (by decide), y 17 (by decide)]; exact fun a b => by obtain ⟨g, b, h1, h2⟩ := h.n17 a b; exact ⟨g, b, h1, h2.keeps (K 4)⟩
  · rw [d 19 (by decide), y 3 (by decide), y 19 (by decide)]; exact h.f19
  · rw [d 20 (by decide), y 13 (by decide), y 20 (by decide)]; exact h.f20
  · rw [d 21 (by decide), y 18 (by decide), y 21 (by decide)]; exact h.f21
  · exact h.box.keeps (K 31)
  · exact h.far
  · exact (by obtain ⟨k, hk⟩ := h.dice; exact ⟨k, hk.alloc _⟩)
  · exact h.gdl
  · exact grown_alloc h.grown _
  · exact h.ln
  · exact h.lb
  · exact fun q hq => (h.laid q hq).keeps (K 5) (K 3)
  · exact h.laidp.keeps (K 5) (K 3)
theorem CApp.op9 (h : CApp W gd ls v7 ps v8 nms v9 bs p nm c8 b13 D x w) (hD : D 9 = false)  : CApp W gd ls v7 ps v8 nms v9 bs p nm c8 b13 (dD D 9) (xX x 9 (.slice (some ⟨w.heap.size, 0, none⟩) 1 1)) (w.alloc (.cells #[c8] 5)) := by
  have d : ∀ j, j ≠ 9 → dD D 9 j = D j := fun j hj => if_neg hj
  have y : ∀ j, j ≠ 9 → xX x 9 (.slice (some ⟨w.heap.size, 0, none⟩) 1 1) j = x j := fun j hj => if_neg hj
  have K : ∀ e : TypeId, Keep e w (w.alloc (.cells #[c8] 5)) := fun e => Keep.alloc _
  constructor
  · rw [d 3 (by decide)]; exact fun hd => own_keeps (h.own7n hd) (K 31)
  · rw [d 3 (by decide), y 3 (by decide)]; exact fun hd => by obtain ⟨A, c, h1, h2⟩ := h.own7 hd; exact ⟨A, c, h1, own_keeps h2 (K 31)⟩
  · rw [d 13 (by decide)]; exact fun hd => own_keeps (h.own8n hd) (K 9)
  · rw [d 13 (by decide), y 13 (by decide)]; exact fun hd => by obtain ⟨A, c, h1, h2⟩ := h.own8 hd; exact ⟨A, c, h1, own_keeps h2 (K 9)⟩
  · rw [d 18 (by decide)]; exact fun hd => own_keeps (h.own9n hd) (K 4)
  · rw [d 18 (by decide), y 18 (by decide)]; exact fun hd => by obtain ⟨A, c, b, h1, h2⟩ := h.own9 hd; exact ⟨A, c, b, h1, own_keeps h2 (K 4)⟩
  · rw [d 2 (by decide), d 3 (by decide), y 2 (by decide)]; exact fun a b => by obtain ⟨g, h1, h2⟩ := h.n2 a b; exact ⟨g, h1, h2.keeps (K 31)⟩
  · intro _; exact ⟨w.heap.size, rfl, Blk.new _ _ _⟩
  · rw [d 12 (by decide), d 13 (by decide), y 12 (by decide)]; exact fun a b => by obtain ⟨g, h1, h2⟩ := h.n12 a b; exact ⟨g, h1, h2.keeps (K 9)⟩
  · rw [d 16 (by decide), y 16 (by decide)]; exact h.m16
  · rw [d 17 (by decide), d 18 (by decide), y 17 (by decide)]; exact fun a b => by obtain ⟨g, b, h1, h2⟩ := h.n17 a b; exact ⟨g, b, h1, h2.keeps (K 4)⟩
  · rw [d 19 (by decide), y 3 (by decide), y 19 (by decide)]; exact h.f19
  · rw [d 20 (by decide), y 13 (by decide), y 20 (by decide)]; exact h.f20
  · rw [d 21 (by decide), y 18 (by decide), y 21 (by decide)]; exact h.f21
  · exact h.box.keeps (K 31)
  · exact h.far
  · exact (by obtain ⟨k, hk⟩ := h.dice; exact ⟨k, hk.alloc _⟩)
  · exact h.gdl
  · exact grown_alloc h.grown _
  · exact h.ln
  · exact h.lb
  · exact fun q hq => (h.laid q hq).keeps (K 5) (K 3)
  · exact h.laidp.keeps (K 5) (K 3)
theorem CApp.op12 (h : CApp W gd ls v7 ps v8 nms v9 bs p nm c8 b13 D x w) (hD : D 12 = false)  : CApp W gd ls v7 ps v8 nms v9 bs p nm c8 b13 (dD D 12) (xX x 12 (.slice (some ⟨w.heap.size, 0, none⟩) 1 1)) (w.alloc (.cells #[.string nm] 9)) := by
  have d : ∀ j, j ≠ 12 → dD D 12 j = D j := fun j hj => if_neg hj
  have y : ∀ j, j ≠ 12 → xX x 12 (.slice (some ⟨w.heap.size, 0, none⟩) 1 1) j = x j := fun j hj => if_neg hj
  have K : ∀ e : TypeId, Keep e w (w.alloc (.cells #[.string nm] 9)) := fun e => Keep.alloc _
  constructor
  · rw [d 3 (by decide)]; exact fun hd => own_keeps (h.own7n hd) (K 31)
  · rw [d 3 (by decide), y 3 (by decide)]; exact fun hd => by obtain ⟨A, c, h1, h2⟩ := h.own7 hd; exact ⟨A, c, h1, own_keeps h2 (K 31)⟩
  · rw [d 13 (by decide)]; exact fun hd => own_keeps (h.own8n hd) (K 9)
  · rw [d 13 (by decide), y 13 (by decide)]; exact fun hd => by obtain ⟨A, c, h1, h2⟩ := h.own8 hd; exact ⟨A, c, h1, own_keeps h2 (K 9)⟩
  · rw [d 18 (by decide)]; exact fun hd => own_keeps (h.own9n hd) (K 4)
  · rw [d 18 (by decide), y 18 (by decide)]; exact fun hd => by obtain ⟨A, c, b, h1, h2⟩ := h.own9 hd; exact ⟨A, c, b, h1, own_keeps h2 (K 4)⟩
  · rw [d 2 (by decide), d 3 (by decide), y 2 (by decide)]; exact fun a b => by obtain ⟨g, h1, h2⟩ := h.n2 a b; exact ⟨g, h1, h2.keeps (K 31)⟩
  · rw [d 9 (by decide), y 9 (by decide)]; exact fun a => by obtain ⟨g, h1, h2⟩ := h.n9 a; exact ⟨g, h1, h2.keeps (K 5)⟩
  · intro _ _; exact ⟨w.heap.size, rfl, Blk.new _ _ _⟩
  · rw [d 16 (by decide), y 16 (by decide)]; exact h.m16
  · rw [d 17 (by decide), d 18 (by decide), y 17 (by decide)]; exact fun a b => by obtain ⟨g, b, h1, h2⟩ := h.n17 a b; exact ⟨g, b, h1, h2.keeps (K 4)⟩
  · rw [d 19 (by decide), y 3 (by decide), y 19 (by decide)]; exact h.f19
  · rw [d 20 (by decide), y 13 (by decide), y 20 (by decide)]; exact h.f20
  · rw [d 21 (by decide), y 18 (by decide), y 21 (by decide)]; exact h.f21
  · exact h.box.keeps (K 31)
  · exact h.far
  · exact (by obtain ⟨k, hk⟩ := h.dice; exact ⟨k, hk.alloc _⟩)
  · exact h.gdl
  · exact grown_alloc h.grown _
  · exact h.ln
  · exact h.lb
  · exact fun q hq => (h.laid q hq).keeps (K 5) (K 3)
  · exact h.laidp.keeps (K 5) (K 3)
theorem CApp.op17 (h : CApp W gd ls v7 ps v8 nms v9 bs p nm c8 b13 D x w) (hD : D 17 = false) {b : Bool} : CApp W gd ls v7 ps v8 nms v9 bs p nm c8 b13 (dD D 17) (xX x 17 (.slice (some ⟨w.heap.size, 0, none⟩) 1 1)) (w.alloc (.cells #[.bool b] 4)) := by
  have d : ∀ j, j ≠ 17 → dD D 17 j = D j := fun j hj => if_neg hj
  have y : ∀ j, j ≠ 17 → xX x 17 (.slice (some ⟨w.heap.size, 0, none⟩) 1 1) j = x j := fun j hj => if_neg hj
  have K : ∀ e : TypeId, Keep e w (w.alloc (.cells #[.bool b] 4)) := fun e => Keep.alloc _
  constructor
  · rw [d 3 (by decide)]; exact fun hd => own_keeps (h.own7n hd) (K 31)
  · rw [d 3 (by decide), y 3 (by decide)]; exact fun hd => by obtain ⟨A, c, h1, h2⟩ := h.own7 hd; exact ⟨A, c, h1, own_keeps h2 (K 31)⟩
  · rw [d 13 (by decide)]; exact fun hd => own_keeps (h.own8n hd) (K 9)
  · rw [d 13 (by decide), y 13 (by decide)]; exact fun hd => by obtain ⟨A, c, h1, h2⟩ := h.own8 hd; exact ⟨A, c, h1, own_keeps h2 (K 9)⟩
  · rw [d 18 (by decide)]; exact fun hd => own_keeps (h.own9n hd) (K 4)
  · rw [d 18 (by decide), y 18 (by decide)]; exact fun hd => by obtain ⟨A, c, b, h1, h2⟩ := h.own9 hd; exact ⟨A, c, b, h1, own_keeps h2 (K 4)⟩
  · rw [d 2 (by decide), d 3 (by decide), y 2 (by decide)]; exact fun a b => by obtain ⟨g, h1, h2⟩ := h.n2 a b; exact ⟨g, h1, h2.keeps (K 31)⟩
  · rw [d 9 (by decide), y 9 (by decide)]; exact fun a => by obtain ⟨g, h1, h2⟩ := h.n9 a; exact ⟨g, h1, h2.keeps (K 5)⟩
  · rw [d 12 (by decide), d 13 (by decide), y 12 (by decide)]; exact fun a b => by obtain ⟨g, h1, h2⟩ := h.n12 a b; exact ⟨g, h1, h2.keeps (K 9)⟩
  · rw [d 16 (by decide), y 16 (by decide)]; exact h.m16
  · intro _ _; exact ⟨w.heap.size, b, rfl, Blk.new _ _ _⟩
  · rw [d 19 (by decide), y 3 (by decide), y 19 (by decide)]; exact h.f19
  · rw [d 20 (by decide), y 13 (by decide), y 20 (by decide)]; exact h.f20
  · rw [d 21 (by decide), y 18 (by decide), y 21 (by decide)]; exact h.f21
  · exact h.box.keeps (K 31)
  · exact h.far
  · exact (by obtain ⟨k, hk⟩ := h.dice; exact ⟨k, hk.alloc _⟩)
  · exact h.gdl
  · exact grown_alloc h.grown _
  · exact h.ln
  · exact h.lb
  · exact fun q hq => (h.laid q hq).keeps (K 5) (K 3)
  · exact h.laidp.keeps (K 5) (K 3)
theorem CApp.op19 (h : CApp W gd ls v7 ps v8 nms v9 bs p nm c8 b13 D x w) (hD : D 19 = false)  : CApp W gd ls v7 ps v8 nms v9 bs p nm c8 b13 (dD D 19) (xX x 19 (x 3)) w := by
  have d : ∀ j, j ≠ 19 → dD D 19 j = D j := fun j hj => if_neg hj
  have y : ∀ j, j ≠ 19 → xX x 19 (x 3) j = x j := fun j hj => if_neg hj
  have K : ∀ e : TypeId, Keep e w w := fun e _ _ _ _ => rfl
  constructor
  · rw [d 3 (by decide)]; exact fun hd => own_keeps (h.own7n hd) (K 31)
  · rw [d 3 (by decide), y 3 (by decide)]; exact fun hd => by obtain ⟨A, c, h1, h2⟩ := h.own7 hd; exact ⟨A, c, h1, own_keeps h2 (K 31)⟩
  · rw [d 13 (by decide)]; exact fun hd => own_keeps (h.own8n hd) (K 9)
  · rw [d 13 (by decide), y 13 (by decide)]; exact fun hd => by obtain ⟨A, c, h1, h2⟩ := h.own8 hd; exact ⟨A, c, h1, own_keeps h2 (K 9)⟩
  · rw [d 18 (by decide)]; exact fun hd => own_keeps (h.own9n hd) (K 4)
  · rw [d 18 (by decide), y 18 (by decide)]; exact fun hd => by obtain ⟨A, c, b, h1, h2⟩ := h.own9 hd; exact ⟨A, c, b, h1, own_keeps h2 (K 4)⟩
  · rw [d 2 (by decide), d 3 (by decide), y 2 (by decide)]; exact fun a b => by obtain ⟨g, h1, h2⟩ := h.n2 a b; exact ⟨g, h1, h2.keeps (K 31)⟩
  · rw [d 9 (by decide), y 9 (by decide)]; exact fun a => by obtain ⟨g, h1, h2⟩ := h.n9 a; exact ⟨g, h1, h2.keeps (K 5)⟩
  · rw [d 12 (by decide), d 13 (by decide), y 12 (by decide)]; exact fun a b => by obtain ⟨g, h1, h2⟩ := h.n12 a b; exact ⟨g, h1, h2.keeps (K 9)⟩
  · rw [d 16 (by decide), y 16 (by decide)]; exact h.m16
  · rw [d 17 (by decide), d 18 (by decide), y 17 (by decide)]; exact fun a b => by obtain ⟨g, b, h1, h2⟩ := h.n17 a b; exact ⟨g, b, h1, h2.keeps (K 4)⟩
  · intro _; rw [y 3 (by decide)]; exact if_pos rfl
  · rw [d 20 (by decide), y 13 (by decide), y 20 (by decide)]; exact h.f20
  · rw [d 21 (by decide), y 18 (by decide), y 21 (by decide)]; exact h.f21
  · exact h.box.keeps (K 31)
  · exact h.far
  · exact h.dice
  · exact h.gdl
  · exact h.grown
  · exact h.ln
  · exact h.lb
  · exact fun q hq => (h.laid q hq).keeps (K 5) (K 3)
  · exact h.laidp.keeps (K 5) (K 3)
theorem CApp.op20 (h : CApp W gd ls v7 ps v8 nms v9 bs p nm c8 b13 D x w) (hD : D 20 = false)  : CApp W gd ls v7 ps v8 nms v9 bs p nm c8 b13 (dD D 20) (xX x 20 (x 13)) w := by
  have d : ∀ j, j ≠ 20 → dD D 20 j = D j := fun j hj => if_neg hj
  have y : ∀ j, j ≠ 20 → xX x 20 (x 13) j = x j := fun j hj => if_neg hj
  have K : ∀ e : TypeId, Keep e w w := fun e _ _ _ _ => rfl
  constructor
  · rw [d 3 (by decide)]; exact fun hd => own_keeps (h.own7n hd) (K 31)
  · rw [d 3 (by decide), y 3 (by decide)]; exact fun hd => by obtain ⟨A, c, h1, h2⟩ := h.own7 hd; exact ⟨A, c, h1, own_keeps h2 (K 31)⟩
  · rw [d 13 (by decide)]; exact fun hd => own_keeps (h.own8n hd) (K 9)
  · rw [d 13 (by decide), y 13 (by decide)]; exact fun hd => by obtain ⟨A, c, h1, h2⟩ := h.own8 hd; exact ⟨A, c, h1, own_keeps h2 (K 9)⟩
  · rw [d 18 (by decide)]; exact fun hd => own_keeps (h.own9n hd) (K 4)
  · rw [d 18 (by decide), y 18 (by decide)]; exact fun hd => by obtain ⟨A, c, b, h1, h2⟩ := h.own9 hd; exact ⟨A, c, b, h1, own_keeps h2 (K 4)⟩
  · rw [d 2 (by decide), d 3 (by decide), y 2 (by decide)]; exact fun a b => by obtain ⟨g, h1, h2⟩ := h.n2 a b; exact ⟨g, h1, h2.keeps (K 31)⟩
  · rw [d 9 (by decide), y 9 (by decide)]; exact fun a => by obtain ⟨g, h1, h2⟩ := h.n9 a; exact ⟨g, h1, h2.keeps (K 5)⟩
  · rw [d 12 (by decide), d 13 (by decide), y 12 (by decide)]; exact fun a b => by obtain ⟨g, h1, h2⟩ := h.n12 a b; exact ⟨g, h1, h2.keeps (K 9)⟩
  · rw [d 16 (by decide), y 16 (by decide)]; exact h.m16
  · rw [d 17 (by decide), d 18 (by decide), y 17 (by decide)]; exact fun a b => by obtain ⟨g, b, h1, h2⟩ := h.n17 a b; exact ⟨g, b, h1, h2.keeps (K 4)⟩
  · rw [d 19 (by decide), y 3 (by decide), y 19 (by decide)]; exact h.f19
  · intro _; rw [y 13 (by decide)]; exact if_pos rfl
  · rw [d 21 (by decide), y 18 (by decide), y 21 (by decide)]; exact h.f21
  · exact h.box.keeps (K 31)
  · exact h.far
  · exact h.dice
  · exact h.gdl
  · exact h.grown
  · exact h.ln
  · exact h.lb
  · exact fun q hq => (h.laid q hq).keeps (K 5) (K 3)
  · exact h.laidp.keeps (K 5) (K 3)
theorem CApp.op21 (h : CApp W gd ls v7 ps v8 nms v9 bs p nm c8 b13 D x w) (hD : D 21 = false)  : CApp W gd ls v7 ps v8 nms v9 bs p nm c8 b13 (dD D 21) (xX x 21 (x 18)) w := by
  have d : ∀ j, j ≠ 21 → dD D 21 j = D j := fun j hj => if_neg hj
  have y : ∀ j, j ≠ 21 → xX x 21 (x 18) j = x j := fun j hj => if_neg hj
  have K : ∀ e : TypeId, Keep e w w := fun e _ _ _ _ => rfl
  constructor
  · rw [d 3 (by decide)]; exact fun hd => own_keeps (h.own7n hd) (K 31)
  · rw [d 3 (by decide), y 3 (by decide)]; exact fun hd => by obtain ⟨A, c, h1, h2⟩ := h.own7 hd; exact ⟨A, c, h1, own_keeps h2 (K 31)⟩
  · rw [d 13 (by decide)]; exact fun hd => own_keeps (h.own8n hd) (K 9)
  · rw [d 13 (by decide), y 13 (by decide)]; exact fun hd => by obtain ⟨A, c, h1, h2⟩ := h.own8 hd; exact ⟨A, c, h1, own_keeps h2 (K 9)⟩
  · rw [d 18 (by decide)]; exact fun hd => own_keeps (h.own9n hd) (K 4)
  · rw [d 18 (by decide), y 18 (by decide)]; exact fun hd => by obtain ⟨A, c, b, h1, h2⟩ := h.own9 hd; exact ⟨A, c, b, h1, own_keeps h2 (K 4)⟩
  · rw [d 2 (by decide), d 3 (by decide), y 2 (by decide)]; exact fun a b => by obtain ⟨g, h1, h2⟩ := h.n2 a b; exact ⟨g, h1, h2.keeps (K 31)⟩
  · rw [d 9 (by decide), y 9 (by decide)]; exact fun a => by obtain ⟨g, h1, h2⟩ := h.n9 a; exact ⟨g, h1, h2.keeps (K 5)⟩
  · rw [d 12 (by decide), d 13 (by decide), y 12 (by decide)]; exact fun a b => by obtain ⟨g, h1, h2⟩ := h.n12 a b; exact ⟨g, h1, h2.keeps (K 9)⟩
  · rw [d 16 (by decide), y 16 (by decide)]; exact h.m16
  · rw [d 17 (by decide), d 18 (by decide), y 17 (by decide)]; exact fun a b => by obtain ⟨g, b, h1, h2⟩ := h.n17 a b; exact ⟨g, b, h1, h2.keeps (K 4)⟩
  · rw [d 19 (by decide), y 3 (by decide), y 19 (by decide)]; exact h.f19
  · rw [d 20 (by decide), y 13 (by decide), y 20 (by decide)]; exact h.f20
  · intro _; rw [y 18 (by decide)]; exact if_pos rfl
  · exact h.box.keeps (K 31)
  · exact h.far
  · exact h.dice
  · exact h.gdl
  · exact h.grown
  · exact h.ln
  · exact h.lb
  · exact fun q hq => (h.laid q hq).keeps (K 5) (K 3)
  · exact h.laidp.keeps (K 5) (K 3)
theorem CApp.op3 (h : CApp W gd ls v7 ps v8 nms v9 bs p nm c8 b13 D x w) (hD : D 3 = false) (h19 : D 19 = false) {A : Option Addr} {c : Nat} (hown : w'.ownsRow W.heap.size 31 8 (.slice A (ps.length + 1) c) (ps.length + 1) ((ps ++ [p]).flatMap Part.cells)) (hg : w.grownBy w' v7.ownBlock) : CApp W gd ls v7 ps v8 nms v9 bs p nm c8 b13 (dD D 3) (xX x 3 (.slice A (ps.length + 1) c)) w' := by
  have d : ∀ j, j ≠ 3 → dD D 3 j = D j := fun j hj => if_neg hj
  have y : ∀ j, j ≠ 3 → xX x 3 (.slice A (ps.length + 1) c) j = x j := fun j hj => if_neg hj
  have K : ∀ e : TypeId, e ≠ 31 → Keep e w w' := fun e he => Keep.own (h.own7n hD) hg he
  constructor
  · intro hd; exact absurd hd (by simp)
  · intro _; exact ⟨A, c, if_pos rfl, hown⟩
  · rw [d 13 (by decide)]; exact fun hd => own_keeps (h.own8n hd) (K 9 (by decide))
  · rw [d 13 (by decide), y 13 (by decide)]; exact fun hd => by obtain ⟨A, c, h1, h2⟩ := h.own8 hd; exact ⟨A, c, h1, own_keeps h2 (K 9 (by decide))⟩
  · rw [d 18 (by decide)]; exact fun hd => own_keeps (h.own9n hd) (K 4 (by decide))
  · rw [d 18 (by decide), y 18 (by decide)]; exact fun hd => by obtain ⟨A, c, b, h1, h2⟩ := h.own9 hd; exact ⟨A, c, b, h1, own_keeps h2 (K 4 (by decide))⟩
  · intro _ hd; exact absurd hd (by simp)
  · rw [d 9 (by decide), y 9 (by decide)]; exact fun a => by obtain ⟨g, h1, h2⟩ := h.n9 a; exact ⟨g, h1, h2.keeps (K 5 (by decide))⟩
  · rw [d 12 (by decide), d 13 (by decide), y 12 (by decide)]; exact fun a b => by obtain ⟨g, h1, h2⟩ := h.n12 a b; exact ⟨g, h1, h2.keeps (K 9 (by decide))⟩
  · rw [d 16 (by decide), y 16 (by decide)]; exact h.m16
  · rw [d 17 (by decide), d 18 (by decide), y 17 (by decide)]; exact fun a b => by obtain ⟨g, b, h1, h2⟩ := h.n17 a b; exact ⟨g, b, h1, h2.keeps (K 4 (by decide))⟩
  · intro hd; rw [d 19 (by decide)] at hd; rw [h19] at hd; cases hd
  · rw [d 20 (by decide), y 13 (by decide), y 20 (by decide)]; exact h.f20
  · rw [d 21 (by decide), y 18 (by decide), y 21 (by decide)]; exact h.f21
  · exact h.box.grown hg h.far
  · exact h.far
  · exact (by obtain ⟨k, hk⟩ := h.dice; exact ⟨k, hk.own (h.own7n hD) hg h.gdl⟩)
  · exact h.gdl
  · exact (grown_new h.grown hg (fun q hq => ((h.own7n hD).lt q hq).1))
  · exact h.ln
  · exact h.lb
  · exact fun q hq => (h.laid q hq).keeps (K 5 (by decide)) (K 3 (by decide))
  · exact h.laidp.keeps (K 5 (by decide)) (K 3 (by decide))
theorem CApp.op13 (h : CApp W gd ls v7 ps v8 nms v9 bs p nm c8 b13 D x w) (hD : D 13 = false) (h20 : D 20 = false) {A : Option Addr} {c : Nat} (hown : w'.ownsRow W.heap.size 9 1 (.slice A (ps.length + 1) c) (ps.length + 1) ((nms ++ [nm]).map Value.string)) (hg : w.grownBy w' v8.ownBlock) : CApp W gd ls v7 ps v8 nms v9 bs p nm c8 b13 (dD D 13) (xX x 13 (.slice A (ps.length + 1) c)) w' := by
  have d : ∀ j, j ≠ 13 → dD D 13 j = D j := fun j hj => if_neg hj
  have y : ∀ j, j ≠ 13 → xX x 13 (.slice A (ps.length + 1) c) j = x j := fun j hj => if_neg hj
  have K : ∀ e : TypeId, e ≠ 9 → Keep e w w' := fun e he => Keep.own (h.own8n hD) hg he
  constructor
  · rw [d 3 (by decide)]; exact fun hd => own_keeps (h.own7n hd) (K 31 (by decide))
  · rw [d 3 (by decide), y 3 (by decide)]; exact fun hd => by obtain ⟨A, c, h1, h2⟩ := h.own7 hd; exact ⟨A, c, h1, own_keeps h2 (K 31 (by decide))⟩
  · intro hd; exact absurd hd (by simp)
  · intro _; exact ⟨A, c, if_pos rfl, hown⟩
  · rw [d 18 (by decide)]; exact fun hd => own_keeps (h.own9n hd) (K 4 (by decide))
  · rw [d 18 (by decide), y 18 (by decide)]; exact fun hd => by obtain ⟨A, c, b, h1, h2⟩ := h.own9 hd; exact ⟨A, c, b, h1, own_keeps h2 (K 4 (by decide))⟩
  · rw [d 2 (by decide), d 3 (by decide), y 2 (by decide)]; exact fun a b => by obtain ⟨g, h1, h2⟩ := h.n2 a b; exact ⟨g, h1, h2.keeps (K 31 (by decide))⟩
  · rw [d 9 (by decide), y 9 (by decide)]; exact fun a => by obtain ⟨g, h1, h2⟩ := h.n9 a; exact ⟨g, h1, h2.keeps (K 5 (by decide))⟩
  · intro _ hd; exact absurd hd (by simp)
  · rw [d 16 (by decide), y 16 (by decide)]; exact h.m16
  · rw [d 17 (by decide), d 18 (by decide), y 17 (by decide)]; exact fun a b => by obtain ⟨g, b, h1, h2⟩ := h.n17 a b; exact ⟨g, b, h1, h2.keeps (K 4 (by decide))⟩
  · rw [d 19 (by decide), y 3 (by decide), y 19 (by decide)]; exact h.f19
  · intro hd; rw [d 20 (by decide)] at hd; rw [h20] at hd; cases hd
  · rw [d 21 (by decide), y 18 (by decide), y 21 (by decide)]; exact h.f21
  · exact h.box.keeps (K 31 (by decide))
  · exact h.far
  · exact (by obtain ⟨k, hk⟩ := h.dice; exact ⟨k, hk.own (h.own8n hD) hg h.gdl⟩)
  · exact h.gdl
  · exact (grown_new h.grown hg (fun q hq => ((h.own8n hD).lt q hq).1))
  · exact h.ln
  · exact h.lb
  · exact fun q hq => (h.laid q hq).keeps (K 5 (by decide)) (K 3 (by decide))
  · exact h.laidp.keeps (K 5 (by decide)) (K 3 (by decide))
theorem CApp.op18 (h : CApp W gd ls v7 ps v8 nms v9 bs p nm c8 b13 D x w) (hD : D 18 = false) (h21 : D 21 = false) {b : Bool} {A : Option Addr} {c : Nat} (hown : w'.ownsRow W.heap.size 4 1 (.slice A (ps.length + 1) c) (ps.length + 1) ((bs ++ [b]).map Value.bool)) (hg : w.grownBy w' v9.ownBlock) : CApp W gd ls v7 ps v8 nms v9 bs p nm c8 b13 (dD D 18) (xX x 18 (.slice A (ps.length + 1) c)) w' := by
  have d : ∀ j, j ≠ 18 → dD D 18 j = D j := fun j hj => if_neg hj
  have y : ∀ j, j ≠ 18 → xX x 18 (.slice A (ps.length + 1) c) j = x j := fun j hj => if_neg hj
  have K : ∀ e : TypeId, e ≠ 4 → Keep e w w' := fun e he => Keep.own (h.own9n hD) hg he
  constructor
  · rw [d 3 (by decide)]; exact fun hd => own_keeps (h.own7n hd) (K 31 (by decide))
  · rw [d 3 (by decide), y 3 (by decide)]; exact fun hd => by obtain ⟨A, c, h1, h2⟩ := h.own7 hd; exact ⟨A, c, h1, own_keeps h2 (K 31 (by decide))⟩
  · rw [d 13 (by decide)]; exact fun hd => own_keeps (h.own8n hd) (K 9 (by decide))
  · rw [d 13 (by decide), y 13 (by decide)]; exact fun hd => by obtain ⟨A, c, h1, h2⟩ := h.own8 hd; exact ⟨A, c, h1, own_keeps h2 (K 9 (by decide))⟩
  · intro hd; exact absurd hd (by simp)
  · intro _; exact ⟨A, c, b, if_pos rfl, hown⟩
  · rw [d 2 (by decide), d 3 (by decide), y 2 (by decide)]; exact fun a b => by obtain ⟨g, h1, h2⟩ := h.n2 a b; exact ⟨g, h1, h2.keeps (K 31 (by decide))⟩
  · rw [d 9 (by decide), y 9 (by decide)]; exact fun a => by obtain ⟨g, h1, h2⟩ := h.n9 a; exact ⟨g, h1, h2.keeps (K 5 (by decide))⟩
  · rw [d 12 (by decide), d 13 (by decide), y 12 (by decide)]; exact fun a b => by obtain ⟨g, h1, h2⟩ := h.n12 a b; exact ⟨g, h1, h2.keeps (K 9 (by decide))⟩
  · rw [d 16 (by decide), y 16 (by decide)]; exact h.m16
  · intro _ hd; exact absurd hd (by simp)
  · rw [d 19 (by decide), y 3 (by decide), y 19 (by decide)]; exact h.f19
  · rw [d 20 (by decide), y 13 (by decide), y 20 (by decide)]; exact h.f20
  · intro hd; rw [d 21 (by decide)] at hd; rw [h21] at hd; cases hd
  · exact h.box.keeps (K 31 (by decide))
  · exact h.far
  · exact (by obtain ⟨k, hk⟩ := h.dice; exact ⟨k, hk.own (h.own9n hD) hg h.gdl⟩)
  · exact h.gdl
  · exact (grown_new h.grown hg (fun q hq => ((h.own9n hD).lt q hq).1))
  · exact h.ln
  · exact h.lb
  · exact fun q hq => (h.laid q hq).keeps (K 5 (by decide)) (K 3 (by decide))
  · exact h.laidp.keeps (K 5 (by decide)) (K 3 (by decide))
theorem CApp.op16 (h : CApp W gd ls v7 ps v8 nms v9 bs p nm c8 b13 D x w) (hD : D 16 = false) {b : Bool} {k' : Nat} (hd : Dice w' gd ls k') (hg : w.grownBy w' (some gd)) : CApp W gd ls v7 ps v8 nms v9 bs p nm c8 b13 (dD D 16) (xX x 16 (.bool b)) w' := by
  have d : ∀ j, j ≠ 16 → dD D 16 j = D j := fun j hj => if_neg hj
  have y : ∀ j, j ≠ 16 → xX x 16 (.bool b) j = x j := fun j hj => if_neg hj
  have K0 : ∀ e : TypeId, e ≠ 84 → Keep e w w' := fun e he => by obtain ⟨k, hk⟩ := h.dice; obtain ⟨ds, hds⟩ := hk.cells; exact Keep.grown hg hds he
  constructor
  · rw [d 3 (by decide)]; exact fun hd => own_keeps (h.own7n hd) (K0 31 (by decide))
  · rw [d 3 (by decide), y 3 (by decide)]; exact fun hd => by obtain ⟨A, c, h1, h2⟩ := h.own7 hd; exact ⟨A, c, h1, own_keeps h2 (K0 31 (by decide))⟩
  · rw [d 13 (by decide)]; exact fun hd => own_keeps (h.own8n hd) (K0 9 (by decide))
  · rw [d 13 (by decide), y 13 (by decide)]; exact fun hd => by obtain ⟨A, c, h1, h2⟩ := h.own8 hd; exact ⟨A, c, h1, own_keeps h2 (K0 9 (by decide))⟩
  · rw [d 18 (by decide)]; exact fun hd => own_keeps (h.own9n hd) (K0 4 (by decide))
  · rw [d 18 (by decide), y 18 (by decide)]; exact fun hd => by obtain ⟨A, c, b, h1, h2⟩ := h.own9 hd; exact ⟨A, c, b, h1, own_keeps h2 (K0 4 (by decide))⟩
  · rw [d 2 (by decide), d 3 (by decide), y 2 (by decide)]; exact fun a b => by obtain ⟨g, h1, h2⟩ := h.n2 a b; exact ⟨g, h1, h2.keeps (K0 31 (by decide))⟩
  · rw [d 9 (by decide), y 9 (by decide)]; exact fun a => by obtain ⟨g, h1, h2⟩ := h.n9 a; exact ⟨g, h1, h2.keeps (K0 5 (by decide))⟩
  · rw [d 12 (by decide), d 13 (by decide), y 12 (by decide)]; exact fun a b => by obtain ⟨g, h1, h2⟩ := h.n12 a b; exact ⟨g, h1, h2.keeps (K0 9 (by decide))⟩
  · intro _; exact ⟨b, if_pos rfl⟩
  · rw [d 17 (by decide), d 18 (by decide), y 17 (by decide)]; exact fun a b => by obtain ⟨g, b, h1, h2⟩ := h.n17 a b; exact ⟨g, b, h1, h2.keeps (K0 4 (by decide))⟩
  · rw [d 19 (by decide), y 3 (by decide), y 19 (by decide)]; exact h.f19
  · rw [d 20 (by decide), y 13 (by decide), y 20 (by decide)]; exact h.f20
  · rw [d 21 (by decide), y 18 (by decide), y 21 (by decide)]; exact h.f21
  · exact h.box.keeps (K0 31 (by decide))
  · exact h.far
  · exact ⟨k', hd⟩
  · exact h.gdl
  · exact grown_trans h.grown hg
  · exact h.ln
  · exact h.lb
  · exact fun q hq => (h.laid q hq).keeps (K0 5 (by decide)) (K0 3 (by decide))
  · exact h.laidp.keeps (K0 5 (by decide)) (K0 3 (by decide))
/-- All have run. -/
theorem CApp.done (h : CApp W gd ls v7 ps v8 nms v9 bs p nm c8 b13 D x w) (hD : ∀ i, i < 22 → D i = true) : ∃ (A7 A8 A9 : Option Addr) (c7 c8' c9 : Nat) (b : Bool), x 19 = .slice A7 (ps.length + 1) c7 ∧ x 20 = .slice A8 (ps.length + 1) c8' ∧ x 21 = .slice A9 (ps.length + 1) c9 ∧
    RowsC W gd ls (.slice A7 (ps.length + 1) c7) (ps ++ [p]) (.slice A8 (ps.length + 1) c8') (nms ++ [nm]) (.slice A9 (ps.length + 1) c9) (bs ++ [b]) w := by
  obtain ⟨A7, c7, e7, o7⟩ := h.own7 (hD 3 (by decide))
  obtain ⟨A8, c8', e8, o8⟩ := h.own8 (hD 13 (by decide))
  obtain ⟨A9, c9, b, e9, o9⟩ := h.own9 (hD 18 (by decide))
  have hl : (ps ++ [p]).length = ps.length + 1 := by simp
  refine ⟨A7, A8, A9, c7, c8', c9, b, (h.f19 (hD 19 (by decide))).trans e7, (h.f20 (hD 20 (by decide))).trans e8, (h.f21 (hD 21 (by decide))).trans e9, ⟨by rw [hl]; exact o7, by rw [hl]; exact o8, by rw [hl]; exact o9, by rw [List.length_append, h.ln, hl]; rfl, by rw [List.length_append, h.lb, hl]; rfl, h.dice, h.gdl, h.grown, ?_⟩⟩
  intro q hq
  rcases List.mem_append.1 hq with h1 | h1
  · exact h.laid q h1
  · rw [List.mem_singleton.1 h1]; exact h.laidp
theorem CApp.start (h : RowsC W gd ls v7 ps v8 nms v9 bs w) (hp : LaidAt w p) (hb : Blk w b13 31 (pArr p)) (hf : v7.ownBlock ≠ some b13) : CApp W gd ls v7 ps v8 nms v9 bs p nm c8 b13 (fun _ => false) (fun _ => undef) w.drew where
  own7n := fun _ => h.own7
  own7 := fun h => by cases h
  own8n := fun _ => h.own8
  own8 := fun h => by cases h
  own9n := fun _ => h.own9
  own9 := fun h => by cases h
  n2 := fun h _ => by cases h
  n9 := fun h => by cases h
  n12 := fun h _ => by cases h
  m16 := fun h => by cases h
  n17 := fun h _ => by cases h
  f19 := fun h => by cases h
  f20 := fun h => by cases h
  f21 := fun h => by cases h
  box := hb
  far := hf
  dice := by obtain ⟨k, hk⟩ := h.dice; exact ⟨k, hk⟩
  gdl := h.gdl
  grown := drew_grown h.grown
  ln := h.ln
  lb := h.lb
  laid := fun q hq => (h.laid q hq).keeps Keep.drew Keep.drew
  laidp := hp.keeps Keep.drew Keep.drew
end
end Go.Proofs.Ytamhigknobdloaa
