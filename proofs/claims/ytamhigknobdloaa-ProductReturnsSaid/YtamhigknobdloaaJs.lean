/- The steps of the three appends: each operation keeps what holds; no condition. -/
import Derived.Test.YtamhigknobdloaaJq
namespace Go.Proofs.Ytamhigknobdloaa
open Go.RowKit
set_option linter.unusedVariables false

/-- The operation i has run and gave v. -/
abbrev dn (D : Nat → Bool) (i : Nat) : Nat → Bool := fun j => if j = i then true else D j
abbrev vl (x : Nat → Value) (i : Nat) (v : Value) : Nat → Value := fun j => if j = i then v else x j
section
variable {W w w' : World} {gd : Nat} {ls : List Int} {k : Nat} {v4 v5 v6 : Value} {ps qs : List Part} {p q : Part} {b8 : Nat} {D : Nat → Bool} {x : Nat → Value}
theorem blk_of_own {base e size n : Nat} {v : Value} {ys : List Value} (ho : w.ownsRow base e size v n ys) (hg : w.grownBy w' v.ownBlock) {b t : Nat} {cs : Array Value} (hB : Blk w b t cs) (hne : e ≠ t) : Blk w' b t cs := by
  refine hB.grown hg fun hbe => ?_
  rcases own_blk_ne ho hB hne with h1 | h1
  · rw [h1] at hbe; cases hbe
  · exact h1 hbe
theorem App3.op0 (h : App3 W gd ls k v4 ps v5 qs v6 p q b8 D x w) {v : Value} (hv : v = v4) : App3 W gd ls k v4 ps v5 qs v6 p q b8 (dn D 0) (vl x 0 v) w where
  own4n := h.own4n
  own4 := h.own4
  own5n := h.own5n
  own5 := h.own5
  own6n := h.own6n
  own6 := h.own6
  n2 := h.n2
  n6 := h.n6
  n11 := h.n11
  m0 := fun _ => hv
  m1 := h.m1
  m4 := h.m4
  m5 := h.m5
  m8 := h.m8
  m9 := h.m9
  m10 := h.m10
  f13 := h.f13
  f14 := h.f14
  f15 := h.f15
  box := h.box
  far := h.far
  dice := h.dice
  grown := h.grown
  pay := h.pay
  payp := h.payp
theorem App3.op1 (h : App3 W gd ls k v4 ps v5 qs v6 p q b8 D x w) {v : Value} (hv : v = .agg p.arr) : App3 W gd ls k v4 ps v5 qs v6 p q b8 (dn D 1) (vl x 1 v) w where
  own4n := h.own4n
  own4 := h.own4
  own5n := h.own5n
  own5 := h.own5
  own6n := h.own6n
  own6 := h.own6
  n2 := h.n2
  n6 := h.n6
  n11 := h.n11
  m0 := h.m0
  m1 := fun _ => hv
  m4 := h.m4
  m5 := h.m5
  m8 := h.m8
  m9 := h.m9
  m10 := h.m10
  f13 := h.f13
  f14 := h.f14
  f15 := h.f15
  box := h.box
  far := h.far
  dice := h.dice
  grown := h.grown
  pay := h.pay
  payp := h.payp
theorem App3.op4 (h : App3 W gd ls k v4 ps v5 qs v6 p q b8 D x w) {v : Value} (hv : v = v5) : App3 W gd ls k v4 ps v5 qs v6 p q b8 (dn D 4) (vl x 4 v) w where
  own4n := h.own4n
  own4 := h.own4
  own5n := h.own5n
  own5 := h.own5
  own6n := h.own6n
  own6 := h.own6
  n2 := h.n2
  n6 := h.n6
  n11 := h.n11
  m0 := h.m0
  m1 := h.m1
  m4 := fun _ => hv
  m5 := h.m5
  m8 := h.m8
  m9 := h.m9
  m10 := h.m10
  f13 := h.f13
  f14 := h.f14
  f15 := h.f15
  box := h.box
  far := h.far
  dice := h.dice
  grown := h.grown
  pay := h.pay
  payp := h.payp
theorem App3.op5 (h : App3 W gd ls k v4 ps v5 qs v6 p q b8 D x w) {v : Value} (hv : v = rowV q) : App3 W gd ls k v4 ps v5 qs v6 p q b8 (dn D 5) (vl x 5 v) w where
  own4n := h.own4n
  own4 := h.own4
  own5n := h.own5n
  own5 := h.own5
  own6n := h.own6n
  own6 := h.own6
  n2 := h.n2
  n6 := h.n6
  n11 := h.n11
  m0 := h.m0
  m1 := h.m1
  m4 := h.m4
  m5 := fun _ => hv
  m8 := h.m8
  m9 := h.m9
  m10 := h.m10
  f13 := h.f13
  f14 := h.f14
  f15 := h.f15
  box := h.box
  far := h.far
  dice := h.dice
  grown := h.grown
  pay := h.pay
  payp := h.payp
theorem App3.op8 (h : App3 W gd ls k v4 ps v5 qs v6 p q b8 D x w) {v : Value} (hv : v = v6) : App3 W gd ls k v4 ps v5 qs v6 p q b8 (dn D 8) (vl x 8 v) w where
  own4n := h.own4n
  own4 := h.own4
  own5n := h.own5n
  own5 := h.own5
  own6n := h.own6n
  own6 := h.own6
  n2 := h.n2
  n6 := h.n6
  n11 := h.n11
  m0 := h.m0
  m1 := h.m1
  m4 := h.m4
  m5 := h.m5
  m8 := fun _ => hv
  m9 := h.m9
  m10 := h.m10
  f13 := h.f13
  f14 := h.f14
  f15 := h.f15
  box := h.box
  far := h.far
  dice := h.dice
  grown := h.grown
  pay := h.pay
  payp := h.payp
theorem App3.op9 (h : App3 W gd ls k v4 ps v5 qs v6 p q b8 D x w) {v : Value} (hv : v = .pointer (some ⟨b8, 0, none⟩)) : App3 W gd ls k v4 ps v5 qs v6 p q b8 (dn D 9) (vl x 9 v) w where
  own4n := h.own4n
  own4 := h.own4
  own5n := h.own5n
  own5 := h.own5
  own6n := h.own6n
  own6 := h.own6
  n2 := h.n2
  n6 := h.n6
  n11 := h.n11
  m0 := h.m0
  m1 := h.m1
  m4 := h.m4
  m5 := h.m5
  m8 := h.m8
  m9 := fun _ => hv
  m10 := h.m10
  f13 := h.f13
  f14 := h.f14
  f15 := h.f15
  box := h.box
  far := h.far
  dice := h.dice
  grown := h.grown
  pay := h.pay
  payp := h.payp
theorem App3.op10 (h : App3 W gd ls k v4 ps v5 qs v6 p q b8 D x w) {v : Value} (hv : v = .int .i64 p.s) : App3 W gd ls k v4 ps v5 qs v6 p q b8 (dn D 10) (vl x 10 v) w where
  own4n := h.own4n
  own4 := h.own4
  own5n := h.own5n
  own5 := h.own5
  own6n := h.own6n
  own6 := h.own6
  n2 := h.n2
  n6 := h.n6
  n11 := h.n11
  m0 := h.m0
  m1 := h.m1
  m4 := h.m4
  m5 := h.m5
  m8 := h.m8
  m9 := h.m9
  m10 := fun _ => hv
  f13 := h.f13
  f14 := h.f14
  f15 := h.f15
  box := h.box
  far := h.far
  dice := h.dice
  grown := h.grown
  pay := h.pay
  payp := h.payp
theorem App3.op13 (h : App3 W gd ls k v4 ps v5 qs v6 p q b8 D x w) {v : Value} (hv : v = x 3) : App3 W gd ls k v4 ps v5 qs v6 p q b8 (dn D 13) (vl x 13 v) w where
  own4n := h.own4n
  own4 := h.own4
  own5n := h.own5n
  own5 := h.own5
  own6n := h.own6n
  own6 := h.own6
  n2 := h.n2
  n6 := h.n6
  n11 := h.n11
  m0 := h.m0
  m1 := h.m1
  m4 := h.m4
  m5 := h.m5
  m8 := h.m8
  m9 := h.m9
  m10 := h.m10
  f13 := fun _ => hv
  f14 := h.f14
  f15 := h.f15
  box := h.box
  far := h.far
  dice := h.dice
  grown := h.grown
  pay := h.pay
  payp := h.payp
theorem App3.op14 (h : App3 W gd ls k v4 ps v5 qs v6 p q b8 D x w) {v : Value} (hv : v = x 7) : App3 W gd ls k v4 ps v5 qs v6 p q b8 (dn D 14) (vl x 14 v) w where
  own4n := h.own4n
  own4 := h.own4
  own5n := h.own5n
  own5 := h.own5
  own6n := h.own6n
  own6 := h.own6
  n2 := h.n2
  n6 := h.n6
  n11 := h.n11
  m0 := h.m0
  m1 := h.m1
  m4 := h.m4
  m5 := h.m5
  m8 := h.m8
  m9 := h.m9
  m10 := h.m10
  f13 := h.f13
  f14 := fun _ => hv
  f15 := h.f15
  box := h.box
  far := h.far
  dice := h.dice
  grown := h.grown
  pay := h.pay
  payp := h.payp
theorem App3.op15 (h : App3 W gd ls k v4 ps v5 qs v6 p q b8 D x w) {v : Value} (hv : v = x 12) : App3 W gd ls k v4 ps v5 qs v6 p q b8 (dn D 15) (vl x 15 v) w where
  own4n := h.own4n
  own4 := h.own4
  own5n := h.own5n
  own5 := h.own5
  own6n := h.own6n
  own6 := h.own6
  n2 := h.n2
  n6 := h.n6
  n11 := h.n11
  m0 := h.m0
  m1 := h.m1
  m4 := h.m4
  m5 := h.m5
  m8 := h.m8
  m9 := h.m9
  m10 := h.m10
  f13 := h.f13
  f14 := h.f14
  f15 := fun _ => hv
  box := h.box
  far := h.far
  dice := h.dice
  grown := h.grown
  pay := h.pay
  payp := h.payp
theorem App3.op2 (h : App3 W gd ls k v4 ps v5 qs v6 p q b8 D x w) (h3 : D 3 = false) : App3 W gd ls k v4 ps v5 qs v6 p q b8 (dn D 2) (vl x 2 (.slice (some ⟨w.heap.size, 0, none⟩) 1 1)) (w.alloc (.cells p.arr 31)) where
  own4n := (h.alloc (.cells p.arr 31)).own4n
  own4 := (h.alloc (.cells p.arr 31)).own4
  own5n := (h.alloc (.cells p.arr 31)).own5n
  own5 := (h.alloc (.cells p.arr 31)).own5
  own6n := (h.alloc (.cells p.arr 31)).own6n
  own6 := (h.alloc (.cells p.arr 31)).own6
  n2 := fun _ hd => ⟨w.heap.size, rfl, Blk.new w 31 _, far_lt (h.own4n h3) (Nat.le_refl _)⟩
  n6 := (h.alloc (.cells p.arr 31)).n6
  n11 := (h.alloc (.cells p.arr 31)).n11
  m0 := h.m0
  m1 := h.m1
  m4 := h.m4
  m5 := h.m5
  m8 := h.m8
  m9 := h.m9
  m10 := h.m10
  f13 := h.f13
  f14 := h.f14
  f15 := h.f15
  box := (h.alloc (.cells p.arr 31)).box
  far := h.far
  dice := (h.alloc (.cells p.arr 31)).dice
  grown := (h.alloc (.cells p.arr 31)).grown
  pay := (h.alloc (.cells p.arr 31)).pay
  payp := (h.alloc (.cells p.arr 31)).payp
theorem App3.op6 (h : App3 W gd ls k v4 ps v5 qs v6 p q b8 D x w) (h3 : D 7 = false) : App3 W gd ls k v4 ps v5 qs v6 p q b8 (dn D 6) (vl x 6 (.slice (some ⟨w.heap.size, 0, none⟩) 1 1)) (w.alloc (.cells #[rowV q] 27)) where
  own4n := (h.alloc (.cells #[rowV q] 27)).own4n
  own4 := (h.alloc (.cells #[rowV q] 27)).own4
  own5n := (h.alloc (.cells #[rowV q] 27)).own5n
  own5 := (h.alloc (.cells #[rowV q] 27)).own5
  own6n := (h.alloc (.cells #[rowV q] 27)).own6n
  own6 := (h.alloc (.cells #[rowV q] 27)).own6
  n2 := (h.alloc (.cells #[rowV q] 27)).n2
  n6 := fun _ hd => ⟨w.heap.size, rfl, Blk.new w 27 _, far_lt (h.own5n h3) (Nat.le_refl _)⟩
  n11 := (h.alloc (.cells #[rowV q] 27)).n11
  m0 := h.m0
  m1 := h.m1
  m4 := h.m4
  m5 := h.m5
  m8 := h.m8
  m9 := h.m9
  m10 := h.m10
  f13 := h.f13
  f14 := h.f14
  f15 := h.f15
  box := (h.alloc (.cells #[rowV q] 27)).box
  far := h.far
  dice := (h.alloc (.cells #[rowV q] 27)).dice
  grown := (h.alloc (.cells #[rowV q] 27)).grown
  pay := (h.alloc (.cells #[rowV q] 27)).pay
  payp := (h.alloc (.cells #[rowV q] 27)).payp
theorem App3.op11 (h : App3 W gd ls k v4 ps v5 qs v6 p q b8 D x w) (h3 : D 12 = false) : App3 W gd ls k v4 ps v5 qs v6 p q b8 (dn D 11) (vl x 11 (.slice (some ⟨w.heap.size, 0, none⟩) 1 1)) (w.alloc (.cells #[.int .i64 p.s] 3)) where
  own4n := (h.alloc (.cells #[.int .i64 p.s] 3)).own4n
  own4 := (h.alloc (.cells #[.int .i64 p.s] 3)).own4
  own5n := (h.alloc (.cells #[.int .i64 p.s] 3)).own5n
  own5 := (h.alloc (.cells #[.int .i64 p.s] 3)).own5
  own6n := (h.alloc (.cells #[.int .i64 p.s] 3)).own6n
  own6 := (h.alloc (.cells #[.int .i64 p.s] 3)).own6
  n2 := (h.alloc (.cells #[.int .i64 p.s] 3)).n2
  n6 := (h.alloc (.cells #[.int .i64 p.s] 3)).n6
  n11 := fun _ hd => ⟨w.heap.size, rfl, Blk.new w 3 _, far_lt (h.own6n h3) (Nat.le_refl _)⟩
  m0 := h.m0
  m1 := h.m1
  m4 := h.m4
  m5 := h.m5
  m8 := h.m8
  m9 := h.m9
  m10 := h.m10
  f13 := h.f13
  f14 := h.f14
  f15 := h.f15
  box := (h.alloc (.cells #[.int .i64 p.s] 3)).box
  far := h.far
  dice := (h.alloc (.cells #[.int .i64 p.s] 3)).dice
  grown := (h.alloc (.cells #[.int .i64 p.s] 3)).grown
  pay := (h.alloc (.cells #[.int .i64 p.s] 3)).pay
  payp := (h.alloc (.cells #[.int .i64 p.s] 3)).payp
theorem App3.op3 (h : App3 W gd ls k v4 ps v5 qs v6 p q b8 D x w) (h3 : D 3 = false) (hf : D 13 = false) (hgl : gd < W.heap.size) {A : Option Addr} {c : Nat} (ho : w'.ownsRow W.heap.size 31 8 (.slice A (ps.length + 1) c) (ps.length + 1) ((ps ++ [p]).flatMap Part.cells)) (hg : w.grownBy w' v4.ownBlock) :
    App3 W gd ls k v4 ps v5 qs v6 p q b8 (dn D 3) (vl x 3 (.slice A (ps.length + 1) c)) w' where
  own4n := fun hd => by cases hd
  own4 := fun _ => ⟨A, c, rfl, ho⟩
  own5n := fun hd => (h.own5n hd).kept hg (own_own_ne (h.own5n hd) (h.own4n h3) (by decide))
  own5 := fun hd => by obtain ⟨A, c, h1, h2⟩ := h.own5 hd; exact ⟨A, c, h1, h2.kept hg (own_own_ne h2 (h.own4n h3) (by decide))⟩
  own6n := fun hd => (h.own6n hd).kept hg (own_own_ne (h.own6n hd) (h.own4n h3) (by decide))
  own6 := fun hd => by obtain ⟨A, c, h1, h2⟩ := h.own6 hd; exact ⟨A, c, h1, h2.kept hg (own_own_ne h2 (h.own4n h3) (by decide))⟩
  n2 := fun _ hd => by cases hd
  n6 := fun a b => by obtain ⟨g, h1, h2, h3'⟩ := h.n6 a b; exact ⟨g, h1, blk_of_own (h.own4n h3) hg h2 (by decide), h3'⟩
  n11 := fun a b => by obtain ⟨g, h1, h2, h3'⟩ := h.n11 a b; exact ⟨g, h1, blk_of_own (h.own4n h3) hg h2 (by decide), h3'⟩
  m0 := h.m0
  m1 := h.m1
  m4 := h.m4
  m5 := h.m5
  m8 := h.m8
  m9 := h.m9
  m10 := h.m10
  f13 := fun hd => by rw [show dn D 3 13 = D 13 from rfl, hf] at hd; cases hd
  f14 := h.f14
  f15 := h.f15
  box := h.box.grown hg h.far
  far := h.far
  dice := h.dice.own (h.own4n h3) hg hgl
  grown := grown_new h.grown hg (fun q hq => ((h.own4n h3).lt q hq).1)
  pay := fun i h1 h2 => (h.pay i h1 h2).own_grown (h.own4n h3) hg (by decide)
  payp := h.payp.own_grown (h.own4n h3) hg (by decide)
theorem App3.op7 (h : App3 W gd ls k v4 ps v5 qs v6 p q b8 D x w) (h3 : D 7 = false) (hf : D 14 = false) (hgl : gd < W.heap.size) {A : Option Addr} {c : Nat} (ho : w'.ownsRow W.heap.size 27 1 (.slice A (ps.length + 1) c) (ps.length + 1) ((qs ++ [q]).map rowV)) (hg : w.grownBy w' v5.ownBlock) :
    App3 W gd ls k v4 ps v5 qs v6 p q b8 (dn D 7) (vl x 7 (.slice A (ps.length + 1) c)) w' where
  own4n := fun hd => (h.own4n hd).kept hg (own_own_ne (h.own4n hd) (h.own5n h3) (by decide))
  own4 := fun hd => by obtain ⟨A, c, h1, h2⟩ := h.own4 hd; exact ⟨A, c, h1, h2.kept hg (own_own_ne h2 (h.own5n h3) (by decide))⟩
  own5n := fun hd => by cases hd
  own5 := fun _ => ⟨A, c, rfl, ho⟩
  own6n := fun hd => (h.own6n hd).kept hg (own_own_ne (h.own6n hd) (h.own5n h3) (by decide))
  own6 := fun hd => by obtain ⟨A, c, h1, h2⟩ := h.own6 hd; exact ⟨A, c, h1, h2.kept hg (own_own_ne h2 (h.own5n h3) (by decide))⟩
  n2 := fun a b => by obtain ⟨g, h1, h2, h3'⟩ := h.n2 a b; exact ⟨g, h1, blk_of_own (h.own5n h3) hg h2 (by decide), h3'⟩
  n6 := fun _ hd => by cases hd
  n11 := fun a b => by obtain ⟨g, h1, h2, h3'⟩ := h.n11 a b; exact ⟨g, h1, blk_of_own (h.own5n h3) hg h2 (by decide), h3'⟩
  m0 := h.m0
  m1 := h.m1
  m4 := h.m4
  m5 := h.m5
  m8 := h.m8
  m9 := h.m9
  m10 := h.m10
  f13 := h.f13
  f14 := fun hd => by rw [show dn D 7 14 = D 14 from rfl, hf] at hd; cases hd
  f15 := h.f15
  box := blk_of_own (h.own5n h3) hg h.box (by decide)
  far := h.far
  dice := h.dice.own (h.own5n h3) hg hgl
  grown := grown_new h.grown hg (fun q hq => ((h.own5n h3).lt q hq).1)
  pay := fun i h1 h2 => (h.pay i h1 h2).own_grown (h.own5n h3) hg (by decide)
  payp := h.payp.own_grown (h.own5n h3) hg (by decide)
theorem App3.op12 (h : App3 W gd ls k v4 ps v5 qs v6 p q b8 D x w) (h3 : D 12 = false) (hf : D 15 = false) (hgl : gd < W.heap.size) {A : Option Addr} {c : Nat} (ho : w'.ownsRow W.heap.size 3 1 (.slice A (ps.length + 1) c) (ps.length + 1) (((ps ++ [p]).map Part.s).map iv)) (hg : w.grownBy w' v6.ownBlock) :
    App3 W gd ls k v4 ps v5 qs v6 p q b8 (dn D 12) (vl x 12 (.slice A (ps.length + 1) c)) w' where
  own4n := fun hd => (h.own4n hd).kept hg (own_own_ne (h.own4n hd) (h.own6n h3) (by decide))
  own4 := fun hd => by obtain ⟨A, c, h1, h2⟩ := h.own4 hd; exact ⟨A, c, h1, h2.kept hg (own_own_ne h2 (h.own6n h3) (by decide))⟩
  own5n := fun hd => (h.own5n hd).kept hg (own_own_ne (h.own5n hd) (h.own6n h3) (by decide))
  own5 := fun hd => by obtain ⟨A, c, h1, h2⟩ := h.own5 hd; exact ⟨A, c, h1, h2.kept hg (own_own_ne h2 (h.own6n h3) (by decide))⟩
  own6n := fun hd => by cases hd
  own6 := fun _ => ⟨A, c, rfl, ho⟩
  n2 := fun a b => by obtain ⟨g, h1, h2, h3'⟩ := h.n2 a b; exact ⟨g, h1, blk_of_own (h.own6n h3) hg h2 (by decide), h3'⟩
  n6 := fun a b => by obtain ⟨g, h1, h2, h3'⟩ := h.n6 a b; exact ⟨g, h1, blk_of_own (h.own6n h3) hg h2 (by decide), h3'⟩
  n11 := fun _ hd => by cases hd
  m0 := h.m0
  m1 := h.m1
  m4 := h.m4
  m5 := h.m5
  m8 := h.m8
  m9 := h.m9
  m10 := h.m10
  f13 := h.f13
  f14 := h.f14
  f15 := fun hd => by rw [show dn D 12 15 = D 15 from rfl, hf] at hd; cases hd
  box := blk_of_own (h.own6n h3) hg h.box (by decide)
  far := h.far
  dice := h.dice.own (h.own6n h3) hg hgl
  grown := grown_new h.grown hg (fun q hq => ((h.own6n h3).lt q hq).1)
  pay := fun i h1 h2 => (h.pay i h1 h2).own_grown (h.own6n h3) hg (by decide)
  payp := h.payp.own_grown (h.own6n h3) hg (by decide)
theorem App3.start (h : RowsR W gd ls k v4 ps v5 qs v6 w) (hp : Pay w p q) (hb : Blk w b8 31 p.arr) (hf : v4.ownBlock ≠ some b8) : App3 W gd ls k v4 ps v5 qs v6 p q b8 (fun _ => false) (fun _ => undef) w.drew where
  own4n := fun _ => h.own4
  own4 := fun hd => by cases hd
  own5n := fun _ => h.own5
  own5 := fun hd => by cases hd
  own6n := fun _ => h.own6
  own6 := fun hd => by cases hd
  n2 := fun hd => by cases hd
  n6 := fun hd => by cases hd
  n11 := fun hd => by cases hd
  m0 := fun hd => by cases hd
  m1 := fun hd => by cases hd
  m4 := fun hd => by cases hd
  m5 := fun hd => by cases hd
  m8 := fun hd => by cases hd
  m9 := fun hd => by cases hd
  m10 := fun hd => by cases hd
  f13 := fun hd => by cases hd
  f14 := fun hd => by cases hd
  f15 := fun hd => by cases hd
  box := hb
  far := hf
  dice := h.dice
  grown := drew_grown h.grown
  pay := fun i h1 h2 => (h.pay i h1 h2).drew
  payp := hp.drew
theorem App3.done (h : App3 W gd ls k v4 ps v5 qs v6 p q b8 D x w) (hD : ∀ i, i < 16 → D i = true) (hl : qs.length = ps.length) (hgl : gd < W.heap.size) :
    ∃ A4 c4 A5 c5 A6 c6, x 13 = .slice A4 (ps.length + 1) c4 ∧ x 14 = .slice A5 (ps.length + 1) c5 ∧ x 15 = .slice A6 (ps.length + 1) c6 ∧ RowsR W gd ls k (.slice A4 (ps.length + 1) c4) (ps ++ [p]) (.slice A5 (ps.length + 1) c5) (qs ++ [q]) (.slice A6 (ps.length + 1) c6) w := by
  obtain ⟨A4, c4, e4, o4⟩ := h.own4 (hD 3 (by omega))
  obtain ⟨A5, c5, e5, o5⟩ := h.own5 (hD 7 (by omega))
  obtain ⟨A6, c6, e6, o6⟩ := h.own6 (hD 12 (by omega))
  refine ⟨A4, c4, A5, c5, A6, c6, (h.f13 (hD 13 (by omega))).trans e4, (h.f14 (hD 14 (by omega))).trans e5, (h.f15 (hD 15 (by omega))).trans e6, ⟨?_, ?_, ?_, h.dice, hgl, h.grown, by simp [hl], ?_⟩⟩
  · rw [List.length_append, List.length_singleton]; exact o4
  · rw [List.length_append, List.length_singleton]; exact o5
  · rw [List.length_append, List.length_singleton]; exact o6
  · intro i h1 h2
    rcases Nat.lt_or_ge i ps.length with h3 | h3
    · rw [List.getElem_append_left h3, List.getElem_append_left (by omega)]; exact h.pay i h3 (by omega)
    · have : i = ps.length := by simp at h1; omega
      subst this
      rw [List.getElem_append_right (by omega), List.getElem_append_right (by omega)]
      simpa using h.payp
end
end Go.Proofs.Ytamhigknobdloaa
