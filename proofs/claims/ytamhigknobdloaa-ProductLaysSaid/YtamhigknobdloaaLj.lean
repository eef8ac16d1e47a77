/- Two rows of made layouts that grow side by side; conditions: the rows are short. -/
import Derived.Test.YtamhigknobdloaaLi
namespace Go.Proofs.Ytamhigknobdloaa
open Go.RowKit
set_option linter.unusedVariables false

/-- append of a layout, as a run, and where the new row lies. -/
theorem run_part2 {w : World} (base : Nat) (A : Option Addr) (c : Nat) (ps : List Part) (n : Nat) (hn : ps.length = n) (hown : w.ownsRow base 31 8 (.slice A n c) n (ps.flatMap Part.cells)) (hl : n ≤ 6000) (hbase : base ≤ w.heap.size)
    (p : Part) (hone : p.one) :
    ∃ A' c' w', (heldAppend #[22, 22] 22 #[.slice A n c, .slice (some ⟨w.heap.size, 0, none⟩) 1 1]).run Try.prog (w.alloc (.cells #[.int .i64 p.s, .int .i64 p.al, .slice p.A p.sp.length p.c, p.x3, p.x4, p.x5, p.x6, p.x7] 31)) = .ok (.value (.slice A' (n + 1) c')) w' ∧
      w'.ownsRow base 31 8 (.slice A' (n + 1) c') (n + 1) ((ps ++ [p]).flatMap Part.cells) ∧ w.grownBy w' (Value.slice A n c).ownBlock ∧ ((Value.slice A' (n + 1) c').ownBlock = (Value.slice A n c).ownBlock ∨ (Value.slice A' (n + 1) c').ownBlock = some (w.heap.size + 1)) := by
  obtain ⟨A', c', w', hr, h2, h3, h4⟩ := run_append_sl (P := Try.prog) base 22 22 31 _ 8 144 Try.underlying22 el31 _ _ _ (hown.alloc (.cells #[.int .i64 p.s, .int .i64 p.al, .slice p.A p.sp.length p.c, p.x3, p.x4, p.x5, p.x6, p.x7] 31)) _ 1 1
    p.cells (Sl.new w #[.int .i64 p.s, .int .i64 p.al, .slice p.A p.sp.length p.c, p.x3, p.x4, p.x5, p.x6, p.x7] 31) rfl (by
      have := parts_one (ps := [p]) (by intro q hq; rw [List.mem_singleton.1 hq]; exact hone)
      simpa using this) (by simp only [maxLen]; omega) (by omega) (by simp; omega)
  refine ⟨A', c', w', run_held hr, ?_, grownBy_of_alloc h3, ?_⟩
  · rw [List.flatMap_append]
    simpa using h2
  · simpa using h4

/-- Two rows of layouts: v and u own ps and qs, in different blocks. -/
structure RowsL (W : World) (gd : Nat) (ls : List Int) (k : Nat) (v : Value) (ps : List Part) (u : Value) (qs : List Part) (w : World) : Prop where
  own : w.ownsRow W.heap.size 31 8 v ps.length (ps.flatMap Part.cells)
  own' : w.ownsRow W.heap.size 31 8 u qs.length (qs.flatMap Part.cells)
  far : ∀ b, v.ownBlock = some b → u.ownBlock ≠ some b
  dice : Dice w gd ls k
  gdl : gd < W.heap.size
  grown : W.grownBy w (some gd)
  odd : ∀ p ∈ ps, Odd w p
  odd' : ∀ p ∈ qs, Odd w p
section
variable {W w w' : World} {gd : Nat} {ls : List Int} {k k' : Nat} {v u : Value} {ps qs : List Part}
theorem RowsL.swap (h : RowsL W gd ls k v ps u qs w) : RowsL W gd ls k u qs v ps w := ⟨h.own', h.own, fun b h1 h2 => h.far b h2 h1, h.dice, h.gdl, h.grown, h.odd', h.odd⟩
theorem RowsL.dices (h : RowsL W gd ls k v ps u qs w) (hd : Dice w' gd ls k') (hg : w.grownBy w' (some gd)) : RowsL W gd ls k' v ps u qs w' := by
  obtain ⟨ds, hds⟩ := h.dice.cells
  exact ⟨h.own.kept hg (own_blk_ne h.own hds (by decide)), h.own'.kept hg (own_blk_ne h.own' hds (by decide)), h.far, hd, h.gdl, grown_trans h.grown hg, fun p hp => (h.odd p hp).grown hg hds (by decide), fun p hp => (h.odd' p hp).grown hg hds (by decide)⟩
/-- What an append onto the first row leaves. -/
theorem RowsL.app {A : Option Addr} {c : Nat} (h : RowsL W gd ls k (.slice A ps.length c) ps u qs w) (hl : ps.length ≤ 6000) (p : Part) (hp : Odd w p) :
    ∃ A' c' w', (heldAppend #[22, 22] 22 #[.slice A ps.length c, .slice (some ⟨w.heap.size, 0, none⟩) 1 1]).run Try.prog (w.alloc (.cells #[.int .i64 p.s, .int .i64 p.al, .slice p.A p.sp.length p.c, p.x3, p.x4, p.x5, p.x6, p.x7] 31)) = .ok (.value (.slice A' (ps.length + 1) c')) w' ∧
      RowsL W gd ls k (.slice A' (ps ++ [p]).length c') (ps ++ [p]) u qs w' ∧ w.heap.size ≤ w'.heap.size := by
  obtain ⟨A', c', w', hr, h2, h3, h4⟩ := run_part2 W.heap.size A c ps ps.length rfl h.own hl h.grown.size p hp.one
  refine ⟨A', c', w', hr, ⟨?_, ?_, ?_, ?_, h.gdl, ?_, ?_, ?_⟩, h3.size⟩
  · rw [List.length_append, List.length_singleton]; exact h2
  · refine h.own'.kept h3 ?_
    cases hb : (Value.slice A ps.length c).ownBlock with
    | none => cases hu : u.ownBlock with
      | none => exact .inl rfl
      | some b => exact .inr (by simp)
    | some b => exact .inr (h.far b hb)
  · intro b hb hu
    rw [List.length_append, List.length_singleton] at hb
    rcases h4 with h4 | h4
    · rw [h4] at hb; exact h.far b hb hu
    · rw [h4] at hb
      injection hb with hb
      have := (h.own'.lt b hu).2
      omega
  · exact h.dice.own h.own h3 h.gdl
  · exact grown_new h.grown h3 (fun q hq => (h.own.lt q hq).1)
  · intro q hq
    rcases List.mem_append.1 hq with h1 | h1
    · exact (h.odd q h1).own_grown h.own h3
    · rw [List.mem_singleton.1 h1]; exact hp.own_grown h.own h3
  · exact fun q hq => (h.odd' q hq).own_grown h.own h3
end
end Go.Proofs.Ytamhigknobdloaa
