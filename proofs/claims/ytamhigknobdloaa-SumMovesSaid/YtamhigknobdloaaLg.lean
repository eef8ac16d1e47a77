/- The walks of ints and types of layer 16's reference at equal lists, of its Stride, and of OddLayout; conditions: the lists are short, the numbers are readable. -/
import Derived.Test.YtamhigknobdloaaLz
import Derived.Test.YtamhigknobdloaaLe
namespace Go.Proofs.Ytamhigknobdloaa
open Go.RowKit
set_option linter.unusedVariables false

set_option maxHeartbeats 800000 in
theorem rints_same (A : Option Addr) (n c : Nat) (Z : Option Addr) (cz : Nat) (l : List Int) (w : World) (hn : l.length = n) (hs : Sl w A (l.map iv)) (hlen : n ≤ 1000000) (hz : Sl w Z (l.map iv)) :
    Calls Try.prog 74 #[.slice A n c, .slice Z n cz] w fun e w' => e = .returned (.bool true) ∧ ∃ k, w' = w.drewN k := by
  subst hn
  have hd : ((l.length : Int) != l.length) = false := by simp
  go_enter Try.func74, Try.ntmps74
  go_wp2
  go_loopw [5] (fun v5 wr => ∃ k j : Nat, k ≤ l.length ∧ v5 = .int .i64 k ∧ wr = w.drewN j) (fun v5 _ => l.length - (intOf v5).toNat)
  case atStart => exact ⟨0, 0, by omega, rfl, rfl⟩
  case round =>
    obtain ⟨k, j, hk, rfl, rfl⟩ := hrel
    by_cases hlt : k < l.length
    · obtain ⟨ab, ao, rfl, hca⟩ := hs.at_ (k := k) (by simpa using hlt)
      obtain ⟨zb, zo, rfl, hcz⟩ := hz.at_ (k := k) (by simpa using hlt)
      rw [List.getElem_map] at hcz hca
      have hself : (l[k] != l[k]) = false := by simp
      go_wp2
      go_quiet (fail)
      go_wp2
      go_roundw
      case rel => exact ⟨k + 1, _, by omega, by go_num, rfl⟩
      case measure => simp [intOf]; omega
    · obtain rfl : k = l.length := by omega
      go_wp2
      go_ret
      exact ⟨rfl, _, rfl⟩
set_option maxHeartbeats 800000 in
theorem types_nil (w : World) : Calls Try.prog 75 #[.slice none 0 0, .slice none 0 0] w fun e w' => e = .returned (.bool true) ∧ w = w' := by
  go_enter Try.func75, Try.ntmps75
  go_wp2
  go_loopw [5] (fun v5 wr => v5 = .int .i64 0 ∧ wr = w) (fun _ _ => 0)
  case atStart => exact ⟨rfl, rfl⟩
  case round =>
    obtain ⟨rfl, rfl⟩ := hrel
    go_wp2
    go_ret
    exact ⟨rfl, rfl⟩
set_option maxHeartbeats 400000 in
theorem rstride_any (p : Part) (w : World) (h0 : 0 ≤ p.s) (h1 : p.s ≤ 100000000) (h2 : -100000000 ≤ p.al) (h3 : p.al ≤ 100000000) : Calls Try.prog 29 #[p.val] w fun e w' => e = .returned (.int .i64 (alignI p.s p.al)) ∧ Below w.heap.size w w' := by
  have hb0 := (Below.refl w.heap.size w).alloc (Nat.le_refl _) (.cells #[.int .i64 p.s, .int .i64 p.al, .slice p.A p.sp.length p.c, p.x3, p.x4, p.x5, p.x6, p.x7] 31)
  unfold Part.val
  go_enter Try.func29, Try.ntmps29
  go_wp2_with fail
  refine (ralign_any _ _ _ h0 h1 h2 h3).mono ?_
  rintro e w1 ⟨rfl, rfl⟩
  go_wp2
  go_ret
  exact ⟨rfl, hb0⟩

/-- A layout that may be none: what the walks need of it. -/
structure Odd (w : World) (p : Part) : Prop where
  sp : SlE w 5 p.A (p.sp.map bv)
  cap : p.sp.length ≤ p.c
  one : p.one
  s0 : 0 ≤ p.s
  s1 : p.s ≤ 2000
  al0 : -100 ≤ p.al
  al1 : p.al ≤ 100
  len : p.sp.length ≤ 2000
section
variable {w w' : World} {p : Part}
theorem Odd.keep (h : Odd w p) (hk : ∀ (b : Nat) (cs : Array Value) (fz : Nat × Nat), w.heap[b]? = some (Obj.cells cs 5 fz) → w'.heap[b]? = w.heap[b]?) : Odd w' p := ⟨h.sp.keep hk, h.cap, h.one, h.s0, h.s1, h.al0, h.al1, h.len⟩
theorem Odd.below (h : Odd w p) (hb : Below w.heap.size w w') : Odd w' p := ⟨h.sp.below hb, h.cap, h.one, h.s0, h.s1, h.al0, h.al1, h.len⟩
theorem Odd.alloc (h : Odd w p) (o : Obj) : Odd (w.alloc o) p := h.below ((Below.refl _ _).alloc (Nat.le_refl _) o)
theorem Odd.grown (h : Odd w p) {g : Nat} (hg : w.grownBy w' (some g)) {t : TypeId} {ds : Array Value} {fz : Nat × Nat} (ht : w.heap[g]? = some (.cells ds t fz)) (h5 : (5 : TypeId) ≠ t) : Odd w' p := ⟨h.sp.grown hg ht h5, h.cap, h.one, h.s0, h.s1, h.al0, h.al1, h.len⟩
theorem Odd.own_grown {base size n : Nat} {v : Value} {ys : List Value} (h : Odd w p) (ho : w.ownsRow base 31 size v n ys) (hg : w.grownBy w' v.ownBlock) : Odd w' p := ⟨h.sp.own_grown ho hg (by decide), h.cap, h.one, h.s0, h.s1, h.al0, h.al1, h.len⟩
theorem Made.odd (h : Made w p) : Odd w p := by
  have h1 := h.len
  have h2 := h.s1
  have h3 := h.al
  exact ⟨h.sp, h.cap, h.one, by omega, by omega, by omega, by omega, by omega⟩
end
def OddPost (g : Nat) (ls : List Int) (k : Nat) (w : World) (e : Ending) (w' : World) : Prop :=
  ∃ (p : Part) (k' : Nat), e = .returned p.val ∧ Odd w' p ∧ Dice w' g ls k' ∧ k ≤ k' ∧ w.grownBy w' (some g)

/-- What stands while OddLayout turns its layout: blocks b3 (the layout) and rb (the result). -/
structure OddAt (g : Nat) (ls : List Int) (k : Nat) (w : World) (b3 rb : Nat) (k' : Nat) (p : Part) (W : World) : Prop where
  b3 : Blk W b3 31 p.arr
  rb : Blk W rb 31 #[.int .i64 0, .int .i64 0, .slice none 0 0, .slice none 0 0, .slice none 0 0, .slice none 0 0, .slice none 0 0, .bool false]
  odd : Odd W p
  dice : Dice W g ls k'
  k : k ≤ k'
  grown : w.grownBy W (some g)
section
variable {g : Nat} {ls : List Int} {k : Nat} {w : World} {b3 rb k' : Nat} {p : Part} {W W' : World}
theorem OddAt.below (h : OddAt g ls k w b3 rb k' p W) (hb : Below W.heap.size W W') : OddAt g ls k w b3 rb k' p W' :=
  ⟨h.b3.below hb, h.rb.below hb, h.odd.below hb, h.dice.below hb, h.k, grown_trans h.grown (only_of_below hb _)⟩
theorem OddAt.alloc (h : OddAt g ls k w b3 rb k' p W) (o : Obj) : OddAt g ls k w b3 rb k' p (W.alloc o) := h.below ((Below.refl _ _).alloc (Nat.le_refl _) o)
theorem OddAt.dices (h : OddAt g ls k w b3 rb k' p W) {k2 : Nat} (hd : Dice W' g ls k2) (hk : k' ≤ k2) (hg : W.grownBy W' (some g)) (h3 : g ≠ b3) (h4 : g ≠ rb) : OddAt g ls k w b3 rb k2 p W' := by
  obtain ⟨ds, hds⟩ := h.dice.cells
  exact ⟨h.b3.grown hg (fun e => h3 (by injection e)), h.rb.grown hg (fun e => h4 (by injection e)), h.odd.grown hg hds (by decide), hd, by have := h.k; omega, grown_trans h.grown hg⟩
/-- A store into the layout. -/
theorem OddAt.set_ (h : OddAt g ls k w b3 rb k' p W) (i : Nat) (u : Value) (q : Part) (hq : p.arr.setIfInBounds i u = q.arr) (ho : Odd W q) (h3 : w.heap.size ≤ b3) (h4 : rb ≠ b3) (h5 : g < b3) : OddAt g ls k w b3 rb k' q (W.setCell ⟨b3, i, none⟩ u) := by
  have hg := grown_set W b3 i u
  refine ⟨by rw [← hq]; exact h.b3.set_ i u, h.rb.far (p := ⟨b3, i, none⟩) h4 u, ho.grown hg h.b3 (by decide), h.dice.far hg (fun q hq => by injection hq with hq; omega), h.k, grown_new h.grown hg (fun q hq => by injection hq with hq; omega)⟩
end
end Go.Proofs.Ytamhigknobdloaa
