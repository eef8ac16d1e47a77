/- What a union of cases is, in plain words, and its rows in memory; no condition. -/
import Derived.Test.YtamhigknobdloaaSd
import Derived.Test.YtamhigknobdloaaLz
import Derived.Test.YtamhigknobdloaaPm
namespace Go.Proofs.Ytamhigknobdloaa
open Go.RowKit
set_option linter.unusedVariables false

/-- What lies in a union for a part: the part, or a pointer. -/
def insideP (p : Part) (b : Bool) : Part := if b then ptrP none else p
def inside (ps : List Part) (bs : List Bool) : List Part := List.zipWith insideP ps bs
def Part.key (p : Part) : Int × Int × List UInt8 := (p.s, p.al, p.sp)
def sizeP (ts : List Part) : Int := ts.foldl (fun a t => max a t.s) 0
def alP (ts : List Part) : Int := ts.foldl (fun a t => max a t.al) 1
/-- A union that is laid. -/
structure Un where
  s : Int
  al : Int
  sp : List UInt8
  tags : List Nat
def Un.zero : Un := ⟨0, 0, [], []⟩
def tagsOut (S k : Nat) : List Nat := (List.range k).map (8 * S + ·)
/-- The union of n cases, if there is one. -/
def unionR (ts : List Part) (n : Nat) : Option Un :=
  let S := (sizeP ts).toNat
  let sp := commonB ts S
  let k := tagS n
  if k ≤ countB sp then some ⟨sizeP ts, alP ts, clearB sp (intsN (bitsN sp k)), bitsN sp k⟩
  else if sizeP ts = 1024 then none
  else some ⟨sizeP ts + 1, alP ts, clearB (sp ++ [255]) (intsN (tagsOut S k)), tagsOut S k⟩
/-- The error of a union, and its layout. -/
def sumBad (ps : List Part) (nn nb : Nat) : Bool := decide (ps.length ≠ nn) || decide (nn ≠ nb) || ps.any (fun p => !p.valid)
def sumE (ps : List Part) (nn : Nat) (bs : List Bool) : Int :=
  if sumBad ps nn bs.length then 19 else if 12 < nn then 4 else match unionR (inside ps bs) nn with | none => 4 | some _ => 0
def sumU (ps : List Part) (nn : Nat) (bs : List Bool) : Un :=
  if sumBad ps nn bs.length then .zero else if 12 < nn then .zero else match unionR (inside ps bs) nn with | none => .zero | some u => u

theorem foldl_key {β : Type} (f g : β → Part → β) (h : ∀ b p q, p.key = q.key → f b p = g b q) : ∀ (ts us : List Part) (b : β), ts.map Part.key = us.map Part.key → ts.foldl f b = us.foldl g b := by
  intro ts
  induction ts with
  | nil => intro us b e; cases us with
    | nil => rfl
    | cons _ _ => simp at e
  | cons t r ih => intro us b e; cases us with
    | nil => simp at e
    | cons u s =>
      simp only [List.map_cons, List.cons.injEq] at e
      rw [List.foldl_cons, List.foldl_cons, h b t u e.1]
      exact ih s _ e.2
theorem key_inj {p q : Part} (h : p.key = q.key) : p.s = q.s ∧ p.al = q.al ∧ p.sp = q.sp := by
  unfold Part.key at h
  injection h with h1 h2
  injection h2 with h2 h3
  exact ⟨h1, h2, h3⟩
theorem sizeP_key {ts us : List Part} (h : ts.map Part.key = us.map Part.key) : sizeP ts = sizeP us := foldl_key _ _ (fun b p q e => by rw [(key_inj e).1]) ts us 0 h
theorem alP_key {ts us : List Part} (h : ts.map Part.key = us.map Part.key) : alP ts = alP us := foldl_key _ _ (fun b p q e => by rw [(key_inj e).2.1]) ts us 1 h
theorem any_key {f : Part → Bool} (hf : ∀ p q : Part, p.key = q.key → f p = f q) : ∀ {ts us : List Part}, ts.map Part.key = us.map Part.key → ts.any f = us.any f := by
  intro ts
  induction ts with
  | nil => intro us e; cases us with
    | nil => rfl
    | cons _ _ => simp at e
  | cons t r ih => intro us e; cases us with
    | nil => simp at e
    | cons u s =>
      simp only [List.map_cons, List.cons.injEq] at e
      rw [List.any_cons, List.any_cons, hf t u e.1, ih e.2]
theorem commonB_key {ts us : List Part} (n : Nat) (h : ts.map Part.key = us.map Part.key) : commonB ts n = commonB us n := by
  unfold commonB
  rw [any_key (fun p q e => by rw [(key_inj e).1]) h]
  split
  · exact foldl_key _ _ (fun b p q e => by unfold meet; rw [(key_inj e).1, (key_inj e).2.2]) ts us _ h
  · rfl
theorem unionR_key {ts us : List Part} (n : Nat) (h : ts.map Part.key = us.map Part.key) : unionR ts n = unionR us n := by
  unfold unionR; simp only [sizeP_key h, alP_key h, commonB_key _ h]
theorem inside_length (ps : List Part) (bs : List Bool) (h : ps.length = bs.length) : (inside ps bs).length = ps.length := by unfold inside; rw [List.length_zipWith]; omega
theorem inside_get (ps : List Part) (bs : List Bool) (k : Nat) (h1 : k < ps.length) (h2 : k < bs.length) : (inside ps bs)[k]? = some (insideP ps[k] bs[k]) := by
  unfold inside; rw [List.getElem?_zipWith]; simp [h1, h2]
theorem sizeP_snoc (ts : List Part) (t : Part) : sizeP (ts ++ [t]) = max (sizeP ts) t.s := by unfold sizeP; rw [List.foldl_append]; rfl
theorem alP_snoc (ts : List Part) (t : Part) : alP (ts ++ [t]) = max (alP ts) t.al := by unfold alP; rw [List.foldl_append]; rfl
theorem foldl_max_le (f : Part → Int) (ts : List Part) : ∀ (a b : Int), a ≤ b → (∀ t ∈ ts, f t ≤ b) → ts.foldl (fun a t => max a (f t)) a ≤ b ∧ a ≤ ts.foldl (fun a t => max a (f t)) a := by
  induction ts with
  | nil => intro a b h _; exact ⟨h, Int.le_refl _⟩
  | cons t r ih =>
    intro a b h ht
    have h1 := ht t (List.mem_cons_self ..)
    have := ih (max a (f t)) b (by omega) (fun t h => ht t (List.mem_cons_of_mem _ h))
    rw [List.foldl_cons]
    exact ⟨this.1, by omega⟩
theorem sizeP_bd (ts : List Part) (h : ∀ t ∈ ts, t.s ≤ 1024) : 0 ≤ sizeP ts ∧ sizeP ts ≤ 1024 := by
  have := foldl_max_le Part.s ts 0 1024 (by omega) h
  exact ⟨this.2, this.1⟩
theorem alP_bd (ts : List Part) (h : ∀ t ∈ ts, t.al ≤ 8) : 1 ≤ alP ts ∧ alP ts ≤ 8 := by
  have := foldl_max_le Part.al ts 1 8 (by omega) h
  exact ⟨this.2, this.1⟩

theorem tagsOut_succ (S k : Nat) : tagsOut S (k + 1) = tagsOut S k ++ [8 * S + k] := by unfold tagsOut; rw [List.range_succ, List.map_append]; rfl
theorem tagsOut_length (S k : Nat) : (tagsOut S k).length = k := by unfold tagsOut; simp
theorem tagsOut_ib (S k : Nat) (h : 8 * S + k ≤ 1000000) : IB (intsN (tagsOut S k)) := by
  intro i hi
  unfold intsN tagsOut at hi
  obtain ⟨n, hn, rfl⟩ := List.mem_map.1 hi
  obtain ⟨m, hm, rfl⟩ := List.mem_map.1 hn
  have := List.mem_range.1 hm
  omega
theorem inside_valid {ps : List Part} {bs : List Bool} (hv : ∀ p ∈ ps, p.valid = true) : ∀ t ∈ inside ps bs, t.valid = true := by
  intro t ht
  obtain ⟨i, hi, rfl⟩ := List.getElem_of_mem ht
  unfold inside at hi ⊢
  rw [List.length_zipWith] at hi
  rw [List.getElem_zipWith]
  unfold insideP
  split
  · exact (valid_iff _).2 ⟨by show (0 : Int) ≤ 8; omega, by show (8 : Int) ≤ 1024; omega, .inr rfl, rfl⟩
  · exact hv _ (List.getElem_mem _)
theorem inside_bd {ps : List Part} {bs : List Bool} (hv : ∀ p ∈ ps, p.valid = true) : 0 ≤ sizeP (inside ps bs) ∧ sizeP (inside ps bs) ≤ 1024 ∧ 1 ≤ alP (inside ps bs) ∧ alP (inside ps bs) ≤ 8 := by
  have h1 := sizeP_bd (inside ps bs) (fun t ht => ((valid_iff t).1 (inside_valid hv t ht)).2.1)
  have h2 := alP_bd (inside ps bs) (fun t ht => by have := ((valid_iff t).1 (inside_valid hv t ht)).2.2.1; omega)
  exact ⟨h1.1, h1.2, h2.1, h2.2⟩

/-- A row of the call's own lies in blocks of its elements' type. -/
theorem SlE.of_owns {w : World} {base n c size : Nat} {e : TypeId} {A : Option Addr} {xs : List Value} (h : w.ownsRow base e size (.slice A n c) n xs) : SlE w e A xs := by
  rcases h with ⟨hl, ⟨h1, h2⟩ | ⟨g, cap, cur, h1, hb, hg, hn, hc, hsz, ht⟩⟩
  · subst h2; exact .inl (List.eq_nil_of_length_eq_zero (by simpa using hl))
  · injection h1 with hA _ _
    refine .inr ⟨g, 0, cur, _, hA, hg, fun j hj => ?_⟩
    have h2 : xs[j]? = cur.toList[j]? := by
      rw [← ht, List.getElem?_take, if_pos (by omega)]
    rw [List.getElem?_eq_getElem hj] at h2
    rw [h2, Nat.zero_add]; simp
theorem el73 : El Try.prog 73 (.agg #[.string "".toUTF8, .bool false, .slice none 0 0, .slice none 0 0, .int .i64 0]) 5 80 := El.mk (by kernel_rfl) rfl (by decide)
def CaseV.arr (q : CaseV) : Array Value := #[.string q.name, .bool q.ind, .slice q.A q.ofs.length q.c, q.x3, .int .i64 q.s]
theorem case_one (q : CaseV) (h : q.x3.oneCell' = true) : ∀ u ∈ q.cells, u.oneCell' = true := by
  intro v hv
  simp only [CaseV.cells, List.mem_cons, List.not_mem_nil, or_false] at hv
  rcases hv with rfl | rfl | rfl | rfl | rfl
  · rfl
  · rfl
  · rfl
  · exact h
  · rfl

/-- The rows of sum.Lay: the cases qs and what lies inside, ts. -/
structure SumAt (w0 : World) (B : Nat) (vC : Value) (qs : List CaseV) (vT : Value) (ts : List Part) (w : World) : Prop where
  ownC : w.ownsRow B 73 5 vC qs.length (qs.flatMap CaseV.cells)
  ownT : w.ownsRow B 31 8 vT ts.length (ts.flatMap Part.cells)
  below : Below w0.heap.size w0 w
  cl : ∀ q ∈ qs, SlE w 3 q.A (q.ofs.map iv)
  tl : ∀ t ∈ ts, Sl w0 t.A (t.sp.map bv) ∨ SlE w 5 t.A (t.sp.map bv)
  one : ∀ t ∈ ts, t.one ∧ t.sp.length ≤ 9223372036854775807
  base : w0.heap.size ≤ B
  bw : B ≤ w.heap.size
section
variable {w0 w w' : World} {B : Nat} {vC vT : Value} {qs : List CaseV} {ts : List Part}
theorem SumAt.under (h : SumAt w0 B vC qs vT ts w) (hb : Below w.heap.size w w') : SumAt w0 B vC qs vT ts w' :=
  ⟨below_own h.ownC hb, below_own h.ownT hb, below_next h.below hb, fun q hq => (h.cl q hq).below hb, fun t ht => (h.tl t ht).imp id (fun s => s.below hb), h.one, h.base, Nat.le_trans h.bw hb.size⟩
theorem SumAt.alloc (h : SumAt w0 B vC qs vT ts w) (o : Obj) : SumAt w0 B vC qs vT ts (w.alloc o) := h.under ((Below.refl _ _).alloc (Nat.le_refl _) o)
theorem SumAt.drew (h : SumAt w0 B vC qs vT ts w) : SumAt w0 B vC qs vT ts w.drew := h.under ⟨rfl, rfl, rfl, Nat.le_refl _, fun _ _ => rfl⟩
/-- Writes to a box leave the rows. -/
theorem SumAt.grown (h : SumAt w0 B vC qs vT ts w) {g : Nat} {cs : Array Value} (hg : w.grownBy w' (some g)) (hb : Blk w g 31 cs) (h0 : w0.heap.size ≤ g) (hT : vT.ownBlock ≠ some g) : SumAt w0 B vC qs vT ts w' :=
  ⟨h.ownC.kept hg (own_blk_ne h.ownC hb (by decide)), h.ownT.kept hg (.inr hT), h.below.grown hg h.below.size (fun q hq => by injection hq with hq; omega), fun q hq => (h.cl q hq).grown hg hb (by decide), fun t ht => (h.tl t ht).imp id (fun s => s.grown hg hb (by decide)), h.one, h.base, Nat.le_trans h.bw hg.size⟩
theorem SumAt.set_ (h : SumAt w0 B vC qs vT ts w) {g : Nat} {cs : Array Value} (i : Nat) (u : Value) (hb : Blk w g 31 cs) (h0 : w0.heap.size ≤ g) (hT : vT.ownBlock ≠ some g) : SumAt w0 B vC qs vT ts (w.setCell ⟨g, i, none⟩ u) :=
  h.grown ⟨rfl, rfl, rfl, by simp, fun k _ hn => Below.heap_setCell w ⟨g, i, none⟩ u k (fun e => hn (by rw [e]))⟩ hb h0 hT
theorem own_own_far {w : World} {b1 b2 : Nat} {e1 e2 : TypeId} {s1 s2 n1 n2 : Nat} {v1 v2 : Value} {x1 x2 : List Value} (h1 : w.ownsRow b1 e1 s1 v1 n1 x1) (h2 : w.ownsRow b2 e2 s2 v2 n2 x2) (hne : e1 ≠ e2) : v1.ownBlock = none ∨ v1.ownBlock ≠ v2.ownBlock := own_own_ne h1 h2 hne
theorem Blk.drew {w : World} {g : Nat} {t : TypeId} {cs : Array Value} (h : Blk w g t cs) : Blk w.drew g t cs := h
theorem cell_in {w w' : World} {b i : Nat} {u : Value} (h : w.cell? ⟨b, i, none⟩ = some u) (hb : Below w.heap.size w w') : w'.cell? ⟨b, i, none⟩ = some u :=
  (hb.cell (p := ⟨b, i, none⟩) (World.block_lt_of_cell? w _ h)).trans h
/-- append of a case. -/
theorem SumAt.appC {A : Option Addr} {c : Nat} (h : SumAt w0 B (.slice A qs.length c) qs vT ts w) (hl : qs.length ≤ 6000) (q : CaseV) (hq : q.x3.oneCell' = true) (hs : SlE w 3 q.A (q.ofs.map iv)) :
    ∃ A' c' w', (heldAppend #[29, 29] 29 #[.slice A qs.length c, .slice (some ⟨w.heap.size, 0, none⟩) 1 1]).run Try.prog (w.alloc (.cells #[.string q.name, .bool q.ind, .slice q.A q.ofs.length q.c, q.x3, .int .i64 q.s] 73)) = .ok (.value (.slice A' (qs.length + 1) c')) w' ∧
      SumAt w0 B (.slice A' (qs ++ [q]).length c') (qs ++ [q]) vT ts w' ∧ (∀ b t cs, Blk w b t cs → t ≠ 73 → Blk w' b t cs) ∧ w.heap.size < w'.heap.size := by
  obtain ⟨A', c', w', hr, h2, h3, h4⟩ := run_append_sl (P := Try.prog) B 29 29 73 _ 5 80 Try.underlying29 el73 _ _ _ (h.ownC.alloc (.cells #[.string q.name, .bool q.ind, .slice q.A q.ofs.length q.c, q.x3, .int .i64 q.s] 73)) _ 1 1
    q.cells (Sl.new w #[.string q.name, .bool q.ind, .slice q.A q.ofs.length q.c, q.x3, .int .i64 q.s] 73) rfl (case_one q hq) (by simp only [maxLen]; omega) (by omega) (by have := h.bw; simp; omega)
  have h3' := grownBy_of_alloc h3
  refine ⟨A', c', w', run_held hr, ⟨?_, ?_, ?_, ?_, ?_, h.one, h.base, Nat.le_trans h.bw h3'.size⟩, ?_, by have := h3.size; simp at this; omega⟩
  · rw [List.flatMap_append, List.length_append, List.length_singleton]; simpa using h2
  · exact h.ownT.kept h3' (own_own_far h.ownT h.ownC (by decide))
  · exact h.below.grown h3' h.below.size (fun k hk => by have := h.ownC.lt k hk; have := h.base; omega)
  · intro r hr
    rcases List.mem_append.1 hr with h1 | h1
    · exact (h.cl r h1).own_grown h.ownC h3' (by decide)
    · rw [List.mem_singleton.1 h1]; exact hs.own_grown h.ownC h3' (by decide)
  · exact fun t ht => (h.tl t ht).imp id (fun s => s.own_grown h.ownC h3' (by decide))
  · intro b t cs hb hne
    refine hb.grown h3' fun e => ?_
    rcases own_blk_ne h.ownC hb (fun e => hne e.symm) with h1 | h1
    · rw [h1] at e; cases e
    · exact h1 e
/-- append of what lies inside. -/
theorem SumAt.appT {A : Option Addr} {c : Nat} (h : SumAt w0 B vC qs (.slice A ts.length c) ts w) (hl : ts.length ≤ 6000) (p : Part) (hp : p.one) (hp2 : p.sp.length ≤ 9223372036854775807) (hs : Sl w0 p.A (p.sp.map bv) ∨ SlE w 5 p.A (p.sp.map bv)) :
    ∃ A' c' w', (heldAppend #[22, 22] 22 #[.slice A ts.length c, .slice (some ⟨w.heap.size, 0, none⟩) 1 1]).run Try.prog (w.alloc (.cells #[.int .i64 p.s, .int .i64 p.al, .slice p.A p.sp.length p.c, p.x3, p.x4, p.x5, p.x6, p.x7] 31)) = .ok (.value (.slice A' (ts.length + 1) c')) w' ∧
      SumAt w0 B vC qs (.slice A' (ts ++ [p]).length c') (ts ++ [p]) w' ∧ (∀ b t cs, Blk w b t cs → (Value.slice A ts.length c).ownBlock ≠ some b → Blk w' b t cs ∧ (Value.slice A' (ts ++ [p]).length c').ownBlock ≠ some b) ∧ w.heap.size < w'.heap.size := by
  obtain ⟨A', c', w', hr, h2, h3, h4⟩ := run_append_sl (P := Try.prog) B 22 22 31 _ 8 144 Try.underlying22 el31 _ _ _ (h.ownT.alloc (.cells #[.int .i64 p.s, .int .i64 p.al, .slice p.A p.sp.length p.c, p.x3, p.x4, p.x5, p.x6, p.x7] 31)) _ 1 1
    p.cells (Sl.new w #[.int .i64 p.s, .int .i64 p.al, .slice p.A p.sp.length p.c, p.x3, p.x4, p.x5, p.x6, p.x7] 31) rfl (by
      have := parts_one (ps := [p]) (by intro q hq; rw [List.mem_singleton.1 hq]; exact hp)
      simpa using this) (by simp only [maxLen]; omega) (by omega) (by have := h.bw; simp; omega)
  have h3' := grownBy_of_alloc h3
  refine ⟨A', c', w', run_held hr, ⟨?_, ?_, ?_, ?_, ?_, ?_, h.base, Nat.le_trans h.bw h3'.size⟩, ?_, by have := h3.size; simp at this; omega⟩
  · exact h.ownC.kept h3' (own_own_far h.ownC h.ownT (by decide))
  · rw [List.flatMap_append, List.length_append, List.length_singleton]; simpa using h2
  · exact h.below.grown h3' h.below.size (fun k hk => by have := h.ownT.lt k hk; have := h.base; omega)
  · exact fun q hq => (h.cl q hq).own_grown h.ownT h3' (by decide)
  · intro r hr
    rcases List.mem_append.1 hr with h1 | h1
    · exact (h.tl r h1).imp id (fun s => s.own_grown h.ownT h3' (by decide))
    · rw [List.mem_singleton.1 h1]; exact hs.imp id (fun s => s.own_grown h.ownT h3' (by decide))
  · intro r hr
    rcases List.mem_append.1 hr with h1 | h1
    · exact h.one r h1
    · rw [List.mem_singleton.1 h1]; exact ⟨hp, hp2⟩
  · intro b t cs hb hne
    refine ⟨hb.grown h3' hne, ?_⟩
    rw [List.length_append, List.length_singleton]
    rcases h4 with h4 | h4
    · rw [h4]; exact hne
    · rw [h4]; intro e; injection e with e; have := hb.lt; simp at e; omega
end
end Go.Proofs.Ytamhigknobdloaa
