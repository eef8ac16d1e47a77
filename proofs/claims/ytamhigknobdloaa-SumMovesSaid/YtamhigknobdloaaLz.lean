/- Words of rows and blocks that several walks share; no condition. -/
import Derived.Test.YtamhigknobdloaaLb
import Derived.Deep.DeepCutAuto
import Derived.Deep.CutBlock
namespace Go.Proofs.Ytamhigknobdloaa
open Go.RowKit
set_option linter.unusedVariables false

theorem drew_grown {a w : World} {row : Option Nat} (h : a.grownBy w row) : a.grownBy w.drew row := ⟨h.os, h.tape, h.output, h.size, h.block⟩
/-- Parts of the call's own lie apart from block g of another type. -/
theorem made_all_grown {w w' : World} {ps : List Part} {g : Nat} {ds : Array Value} {fz : Nat × Nat} (h : ∀ p ∈ ps, Made w p ∧ p.valid = true) (hg : w.grownBy w' (some g)) (ht : w.heap[g]? = some (.cells ds 84 fz)) : ∀ p ∈ ps, Made w' p ∧ p.valid = true :=
  fun p hp => ⟨(h p hp).1.grown hg ht (by decide) (by decide), (h p hp).2⟩
theorem made_all_below {w w' : World} {ps : List Part} (h : ∀ p ∈ ps, Made w p ∧ p.valid = true) (hb : Below w.heap.size w w') : ∀ p ∈ ps, Made w' p ∧ p.valid = true := fun p hp => ⟨(h p hp).1.below hb, (h p hp).2⟩
/-- What an append onto an own row of layouts turns is no made layout. -/
theorem SlE.own_grown {w w' : World} {e e' : TypeId} {A : Option Addr} {xs : List Value} {base size n : Nat} {v : Value} {ys : List Value} (h : SlE w e A xs) (ho : w.ownsRow base e' size v n ys) (hg : w.grownBy w' v.ownBlock) (hne : e ≠ e') : SlE w' e A xs := by
  refine h.keep fun b cs fz hh => hg.block b (Array.getElem?_eq_some_iff.1 hh).1 ?_
  intro hbe
  rcases own_blk_ne ho hh (fun e => hne e.symm) with h1 | h1
  · rw [h1] at hbe; cases hbe
  · exact h1 hbe.symm
theorem Made.own_grown {w w' : World} {p : Part} {base size n : Nat} {v : Value} {ys : List Value} (h : Made w p) (ho : w.ownsRow base 31 size v n ys) (hg : w.grownBy w' v.ownBlock) : Made w' p := by
  obtain ⟨Ao, ofs, co, e3, s3, c3⟩ := h.of
  exact ⟨h.sp.own_grown ho hg (by decide), h.cap, h.len, h.s1, h.al, ⟨Ao, ofs, co, e3, s3.own_grown ho hg (by decide), c3⟩, h.x4, h.x5, h.x6, h.x7⟩
theorem Dice.own {w w' : World} {g : Nat} {ls : List Int} {k base size n : Nat} {e : TypeId} {v : Value} {ys : List Value} (h : Dice w g ls k) (ho : w.ownsRow base e size v n ys) (hg : w.grownBy w' v.ownBlock) (hb : g < base) : Dice w' g ls k :=
  h.far hg (fun q hq => Nat.lt_of_lt_of_le hb (ho.lt q hq).1)

theorem far_lt {w : World} {base : Nat} {e : TypeId} {size n : Nat} {v : Value} {xs : List Value} (h : w.ownsRow base e size v n xs) {b : Nat} (hb : w.heap.size ≤ b) : v.ownBlock ≠ some b := by
  intro he
  have := (h.lt b he).2
  omega
theorem Sl.of_own8 {w : World} {A : Option Addr} {base n c : Nat} {xs : List Value} (h : w.ownsRow base 31 8 (.slice A n c) n xs) : Sl w A xs := by
  rcases h with ⟨hl, ⟨h1, h2⟩ | ⟨g, cap, cur, h1, hb, hg, hn, hc, hsz, ht⟩⟩
  · subst h2; exact .inl (List.eq_nil_of_length_eq_zero (by simpa using hl))
  · injection h1 with hA
    subst hA
    refine .inr ⟨g, 0, rfl, fun j hj => ?_⟩
    have hcell := World.ownsRow.cellAt (j := j) (g := g) (cap := cap) ⟨hl, .inr ⟨g, cap, cur, rfl, hb, hg, hn, hc, hsz, ht⟩⟩ (by omega)
    rw [Nat.zero_add, hcell, List.getElem?_eq_getElem hj]
theorem parts_one {ps : List Part} (h : ∀ p ∈ ps, p.one) : ∀ u ∈ ps.flatMap Part.cells, u.oneCell' = true := by
  intro u hu
  obtain ⟨p, hp, hu⟩ := List.mem_flatMap.1 hu
  have hone := h p hp
  simp only [Part.cells, List.mem_cons, List.not_mem_nil, or_false] at hu
  rcases hu with rfl | rfl | rfl | rfl | rfl | rfl | rfl | rfl
  · rfl
  · rfl
  · rfl
  · exact hone.h3
  · exact hone.h4
  · exact hone.h5
  · exact hone.h6
  · exact hone.h7
theorem grown_set (w : World) (g i : Nat) (u : Value) : w.grownBy (w.setCell ⟨g, i, none⟩ u) (some g) :=
  ⟨rfl, rfl, rfl, by simp [World.setCell], fun k _ hn => Below.heap_setCell w ⟨g, i, none⟩ u k (fun e => hn (by rw [e]))⟩

theorem Sl.ofBlk {w : World} {b : Nat} {t : TypeId} {cs : Array Value} (h : Blk w b t cs) : Sl w (some ⟨b, 0, none⟩) cs.toList := by
  refine .inr ⟨b, 0, rfl, fun j hj => ?_⟩
  rw [h.cell, Nat.zero_add, ← Array.getElem?_toList, List.getElem?_eq_getElem hj]
theorem el27 : El Try.prog 27 (.slice none 0 0) 1 24 := El.mk (by kernel_rfl) rfl (by decide)

end Go.Proofs.Ytamhigknobdloaa
