/- What stands while the law SumReturns makes a payload and goes over the cases of a union; no condition. -/
import Derived.Test.YtamhigknobdloaaSy
import Derived.Test.YtamhigknobdloaaPo
namespace Go.Proofs.Ytamhigknobdloaa
open Go.RowKit
set_option linter.unusedVariables false

/-- Bytes off a mask. -/
def offB (y sp : List UInt8) (i : Nat) : Prop := ∀ j, j < i → j < y.length → (y.getD j 0) &&& (sp.getD j 0) = 0
theorem offB_bits {y sp : List UInt8} (h : offB y sp y.length) (i : Nat) (hi : bitN y i = true) : bitN sp i = false := by
  have hl := bitN_lt hi
  have h0 := h (i / 8) (by omega) (by omega)
  unfold bitN at hi ⊢
  have h1 : ((y.getD (i / 8) 0) &&& (sp.getD (i / 8) 0)).toNat.testBit (i % 8) = false := by rw [h0]; simp
  rw [UInt8.toNat_and, Nat.testBit_and, hi, Bool.true_and] at h1
  exact h1
theorem and_not8 (r x : UInt8) : bits .andNot .u8 (r.toNat : Int) (x.toNat : Int) = ((r &&& ~~~x).toNat : Int) ∧ (r &&& ~~~x) &&& x = 0 := by
  refine ⟨?_, ?_⟩
  · rw [u8_andNot_nat _ _ r.toNat_lt x.toNat_lt]; simp
  · rw [UInt8.and_assoc]; simp
/-- What stands while the payload is made. -/
structure FillS (Wi : World) (gd : Nat) (ls : List Int) (k : Nat) (g N i : Nat) (sp : List UInt8) (W : World) : Prop where
  dice : Dice W gd ls k
  grown : Wi.grownBy W (some gd)
  bytes : ∃ X : List UInt8, X.length = N ∧ offB X sp i ∧ Blk W g 5 (X.map bv).toArray
theorem FillS.dices {Wi W W' : World} {gd : Nat} {ls : List Int} {k k' g N i : Nat} {sp : List UInt8} (h : FillS Wi gd ls k g N i sp W) (hd : Dice W' gd ls k') (hg : W.grownBy W' (some gd)) (hne : gd ≠ g) : FillS Wi gd ls k' g N i sp W' := by
  obtain ⟨X, x1, x2, x3⟩ := h.bytes
  exact ⟨hd, grown_trans h.grown hg, ⟨X, x1, x2, x3.grown hg (fun e => hne (by injection e))⟩⟩
theorem FillS.put {Wi W : World} {gd : Nat} {ls : List Int} {k g N i : Nat} {sp : List UInt8} (h : FillS Wi gd ls k g N i sp W) (hi : i < N) (b : UInt8) (hb : b &&& (sp.getD i 0) = 0) (hne : gd < g) (hw : Wi.heap.size ≤ g) : FillS Wi gd ls k g N (i + 1) sp (W.setCell ⟨g, i, none⟩ (bv b)) := by
  obtain ⟨X, x1, x2, x3⟩ := h.bytes
  refine ⟨h.dice.far (grown_set W g i (bv b)) (fun q hq => by injection hq with hq; omega), grown_new h.grown (grown_set W g i (bv b)) (fun q hq => by injection hq with hq; omega), ⟨X.set i b, by simpa using x1, fun j hji hj => ?_, ?_⟩⟩
  · rw [List.length_set] at hj
    rw [List.getD_eq_getElem?_getD]
    by_cases e : j = i
    · subst e; rw [List.getElem?_set_self (by omega)]; exact hb
    · rw [List.getElem?_set_ne (by omega), ← List.getD_eq_getElem?_getD]; exact x2 j (by omega) hj
  · have := x3.set_ i (bv b)
    rw [List.map_set]
    simpa using this
abbrev unA (u : Un) (n : Nat) (As : Option Addr) (cs : Nat) (Ac : Option Addr) (cc : Nat) (Az : Option Addr) (cz : Nat) : Array Value :=
  #[.int .i64 u.s, .int .i64 u.al, .slice As u.sp.length cs, .slice none 0 0, .slice none 0 0, .slice Ac n cc, .slice Az u.tags.length cz, .bool false]
theorem UnAt.keeps {w w' : World} {u : Un} {nms : List ByteArray} {bs : List Bool} {fs : List (List Int)} {ps : List Part} {n : Nat} {As : Option Addr} {cs : Nat} {Ac : Option Addr} {cc : Nat} {Az : Option Addr} {cz : Nat} {qs : List CaseV} (h : UnAt w u nms bs fs ps n As cs Ac cc Az cz qs) (hk : ∀ e, e ≠ 84 → e ≠ 9 → Keep e w w') : UnAt w' u nms bs fs ps n As cs Ac cc Az cz qs :=
  ⟨h.sp.keep (hk 5 (by decide) (by decide)), h.tags.keep (hk 3 (by decide) (by decide)), h.cases.keep (hk 73 (by decide) (by decide)), h.len, h.each, fun q hq => (h.cl q hq).keep (hk 3 (by decide) (by decide)), h.caps⟩
/-- The union and its parts, as they lie while the cases are gone over. -/
structure RetC (u : Un) (nms : List ByteArray) (bs : List Bool) (fs : List (List Int)) (ps : List Part) (n : Nat) (A7 A9 As : Option Addr) (cs : Nat) (Ac : Option Addr) (cc : Nat) (Az : Option Addr) (cz : Nat) (qs : List CaseV) (bx : Nat) (w : World) : Prop where
  parts : SlE w 31 A7 (ps.flatMap Part.cells)
  inds : SlE w 4 A9 (bs.map Value.bool)
  laid : ∀ p ∈ ps, LaidAt w p
  un : UnAt w u nms bs fs ps n As cs Ac cc Az cz qs
  box : Blk w bx 31 (unA u n As cs Ac cc Az cz)
section
variable {u : Un} {nms : List ByteArray} {bs : List Bool} {fs : List (List Int)} {ps : List Part} {n : Nat} {A7 A9 As : Option Addr} {cs : Nat} {Ac : Option Addr} {cc : Nat} {Az : Option Addr} {cz : Nat} {qs : List CaseV} {bx : Nat} {w w' : World}
theorem RetC.keeps (h : RetC u nms bs fs ps n A7 A9 As cs Ac cc Az cz qs bx w) (hk : ∀ e, e ≠ 84 → e ≠ 9 → Keep e w w') : RetC u nms bs fs ps n A7 A9 As cs Ac cc Az cz qs bx w' :=
  ⟨h.parts.keep (hk 31 (by decide) (by decide)), h.inds.keep (hk 4 (by decide) (by decide)), fun p hp => (h.laid p hp).keeps (hk 5 (by decide) (by decide)) (hk 3 (by decide) (by decide)), h.un.keeps hk, h.box.keeps (hk 31 (by decide) (by decide))⟩
theorem RetC.below (h : RetC u nms bs fs ps n A7 A9 As cs Ac cc Az cz qs bx w) (hb : Below w.heap.size w w') : RetC u nms bs fs ps n A7 A9 As cs Ac cc Az cz qs bx w' :=
  h.keeps fun e _ _ => Keep.below hb
end
abbrev sv (m : List UInt8) : Value := .string ⟨m.toArray⟩
/-- The union, the dice and the bytes that were seen. -/
structure RetAt (RC : World → Prop) (w0 : World) (gd : Nat) (ls : List Int) (sb : Nat) (ts : List Part) (u : Un) (k : Nat) (v : Value) (seen : List (List UInt8)) (w : World) : Prop where
  core : RC w
  dice : ∃ d, Dice w gd ls d
  own : w.ownsRow sb 9 1 v k (seen.map sv)
  below : Below w0.heap.size w0 w
  len : seen.length = k
  each : ∀ j (hj : j < seen.length) (ht : j < ts.length), ∃ y : List UInt8, (y.length : Int) = ts[j].s ∧ (∀ i, bitN y i = true → bitN ts[j].sp i = false) ∧ seen[j] = packB u j y
  base : w0.heap.size ≤ gd
  gdl : gd < sb
  sbw : sb ≤ w.heap.size
section
variable {RC : World → Prop} {w0 w w' : World} {gd : Nat} {ls : List Int} {sb : Nat} {ts : List Part} {u : Un} {k : Nat} {v : Value} {seen : List (List UInt8)}
theorem RetAt.below_ (h : RetAt RC w0 gd ls sb ts u k v seen w) (hc : RC w') (hb : Below w.heap.size w w') : RetAt RC w0 gd ls sb ts u k v seen w' := by
  obtain ⟨d, hd⟩ := h.dice
  exact ⟨hc, ⟨d, hd.below hb⟩, below_own h.own hb, below_next h.below hb, h.len, h.each, h.base, h.gdl, Nat.le_trans h.sbw hb.size⟩
theorem RetAt.dices {d' : Nat} (h : RetAt RC w0 gd ls sb ts u k v seen w) (hc : RC w') (hd : Dice w' gd ls d') (hg : w.grownBy w' (some gd)) : RetAt RC w0 gd ls sb ts u k v seen w' := by
  obtain ⟨d, hd0⟩ := h.dice
  obtain ⟨ds, hds⟩ := hd0.cells
  exact ⟨hc, ⟨d', hd⟩, own_keeps h.own (Keep.grown hg hds (by decide)), h.below.grown hg h.below.size (fun q hq => by injection hq with hq; have := h.base; omega), h.len, h.each, h.base, h.gdl, Nat.le_trans h.sbw hg.size⟩
theorem RetAt.app {A A' : Option Addr} {c c' : Nat} (h : RetAt RC w0 gd ls sb ts u k (.slice A k c) seen w) (hc : RC w') (m y : List UInt8) (ho : w'.ownsRow sb 9 1 (.slice A' (k + 1) c') (k + 1) ((seen ++ [m]).map sv)) (hg : w.grownBy w' (Value.slice A k c).ownBlock)
    (hm : ∀ (hk : k < ts.length), (y.length : Int) = ts[k].s ∧ (∀ i, bitN y i = true → bitN ts[k].sp i = false) ∧ m = packB u k y) : RetAt RC w0 gd ls sb ts u (k + 1) (.slice A' (k + 1) c') (seen ++ [m]) w' := by
  obtain ⟨d, hd⟩ := h.dice
  have hl := h.len
  refine ⟨hc, ⟨d, hd.far hg (fun q hq => ?_)⟩, ho, h.below.grown hg h.below.size (fun q hq => ?_), by simp [hl], ?_, h.base, h.gdl, Nat.le_trans h.sbw hg.size⟩
  · have := (h.own.lt q hq).1; have := h.gdl; omega
  · have := (h.own.lt q hq).1; have := h.gdl; have := h.base; omega
  · intro j hj ht
    rw [List.length_append, List.length_singleton] at hj
    by_cases e : j < seen.length
    · obtain ⟨y', h1, h2, h3⟩ := h.each j e ht
      exact ⟨y', h1, h2, by rw [List.getElem_append_left e]; exact h3⟩
    · obtain rfl : j = k := by omega
      obtain ⟨h1, h2, h3⟩ := hm ht
      refine ⟨y, h1, h2, ?_⟩
      rw [List.getElem_append_right (by omega)]
      simp [hl, h3]
end
theorem RetC.own {u : Un} {nms : List ByteArray} {bs : List Bool} {fs : List (List Int)} {ps : List Part} {n : Nat} {A7 A9 As : Option Addr} {cs : Nat} {Ac : Option Addr} {cc : Nat} {Az : Option Addr} {cz : Nat} {qs : List CaseV} {bx : Nat} {w w' : World} {sb m : Nat} {v : Value} {xs : List Value}
    (h : RetC u nms bs fs ps n A7 A9 As cs Ac cc Az cz qs bx w) (ho : w.ownsRow sb 9 1 v m xs) (hg : w.grownBy w' v.ownBlock) : RetC u nms bs fs ps n A7 A9 As cs Ac cc Az cz qs bx w' :=
  h.keeps fun e _ h9 => Keep.own ho hg h9
theorem RetC.dices {u : Un} {nms : List ByteArray} {bs : List Bool} {fs : List (List Int)} {ps : List Part} {n : Nat} {A7 A9 As : Option Addr} {cs : Nat} {Ac : Option Addr} {cc : Nat} {Az : Option Addr} {cz : Nat} {qs : List CaseV} {bx : Nat} {w w' : World} {gd d : Nat} {ls : List Int}
    (h : RetC u nms bs fs ps n A7 A9 As cs Ac cc Az cz qs bx w) (hd : Dice w gd ls d) (hg : w.grownBy w' (some gd)) : RetC u nms bs fs ps n A7 A9 As cs Ac cc Az cz qs bx w' := by
  obtain ⟨ds, hds⟩ := hd.cells
  exact h.keeps fun e h84 _ => Keep.grown hg hds h84
end Go.Proofs.Ytamhigknobdloaa
