/- Words for memory and plain lemmas that the walks of this seat share; no condition. -/
import Derived.Test.YtamhigknobdloaaRows
import Derived.WalkKit
import Derived.WalkSpells
import Derived.WalkLawsBesides
import Derived.Lib.BitFns
import Derived.Lib.Hide
import Derived.Laws.BitsAllLaws
import Derived.Deep.QuietTactic
import Derived.BigQuiet
import Derived.Deep.AppendLies
import Derived.Deep.Draws
import Derived.Maps.AppendAt
import Derived.RegionTactic
import Derived.ChangeAlike
import Derived.StillTailTactics
import Derived.Deep.RegionHeld3
import Derived.Deep.RegionLaw
import Derived.Deep.LoopGhost
import Derived.Deep.DeepMust
import Derived.Laws.CopyOwn
namespace Go.Proofs.Ytamhigknobdloaa
open Go.RowKit

/-- A byte as a value. -/
abbrev bv (b : UInt8) : Value := .int .u8 (b.toNat : Int)
/-- An int as a value. -/
abbrev iv (n : Int) : Value := .int .i64 n

/-- A slice whose address is A holds the values xs, one a cell. -/
def Sl (w : World) (A : Option Addr) (xs : List Value) : Prop :=
  xs = [] ∨ ∃ b off, A = some ⟨b, off, none⟩ ∧ ∀ j (h : j < xs.length), w.cell? ⟨b, off + j, none⟩ = some xs[j]

section
variable {w w' : World} {A : Option Addr} {xs : List Value}
theorem Sl.nil : Sl w A [] := .inl rfl
theorem Sl.at_ (h : Sl w A xs) {k : Nat} (hk : k < xs.length) : ∃ b off, A = some ⟨b, off, none⟩ ∧ w.cell? ⟨b, off + k, none⟩ = some xs[k] := by
  rcases h with rfl | ⟨b, off, rfl, hc⟩
  · simp at hk
  · exact ⟨b, off, rfl, hc k hk⟩
theorem Sl.keep (h : Sl w A xs) (hk : ∀ p : Addr, p.block < w.heap.size → w'.cell? p = w.cell? p) : Sl w' A xs := by
  rcases h with rfl | ⟨b, off, rfl, hc⟩
  · exact .inl rfl
  · exact .inr ⟨b, off, rfl, fun j hj => (hk ⟨b, off + j, none⟩ (World.block_lt_of_cell? w ⟨b, off + j, none⟩ (hc j hj))).trans (hc j hj)⟩
theorem Sl.below (h : Sl w A xs) (hb : Below w.heap.size w w') : Sl w' A xs := h.keep fun _ hp => hb.cell hp
theorem Sl.alloc (h : Sl w A xs) (o : Obj) : Sl (w.alloc o) A xs := h.keep fun p hp => World.cell?_alloc_lt w o p hp
theorem Sl.drew (h : Sl w A xs) : Sl w.drew A xs := h
theorem Sl.drewN (h : Sl w A xs) (n : Nat) : Sl (w.drewN n) A xs := h
theorem Sl.setCell (h : Sl w A xs) {p : Addr} (hp : ∀ b off, A = some ⟨b, off, none⟩ → b ≠ p.block) (u : Value) : Sl (w.setCell p u) A xs := by
  rcases h with rfl | ⟨b, off, rfl, hc⟩
  · exact .inl rfl
  · exact .inr ⟨b, off, rfl, fun j hj => (World.cell?_setCell_other w p ⟨b, off + j, none⟩ u (fun e => hp b off rfl (by rw [e]))).trans (hc j hj)⟩
theorem Sl.grown (h : Sl w A xs) {row : Option Nat} (hg : w.grownBy w' row) (hr : ∀ b off, A = some ⟨b, off, none⟩ → some b ≠ row) : Sl w' A xs := by
  rcases h with rfl | ⟨b, off, rfl, hc⟩
  · exact .inl rfl
  · exact .inr ⟨b, off, rfl, fun j hj => hg.cell (hc j hj) (hr b off rfl)⟩
theorem Sl.of_own {base : Nat} {e : TypeId} {n c : Nat} (h : w.ownsRow base e 1 (.slice A n c) n xs) : Sl w A xs := by
  rcases h with ⟨hl, ⟨h1, h2⟩ | ⟨g, cap, cur, h1, hb, hg, hn, hc, hsz, ht⟩⟩
  · subst h2; exact .inl (List.eq_nil_of_length_eq_zero (by simpa using hl))
  · injection h1 with hA
    subst hA
    refine .inr ⟨g, 0, rfl, fun j hj => ?_⟩
    have hcell := World.ownsRow.cellAt (j := j) (g := g) (cap := cap) ⟨hl, .inr ⟨g, cap, cur, rfl, hb, hg, hn, hc, hsz, ht⟩⟩ (by omega)
    rw [Nat.zero_add, hcell, List.getElem?_eq_getElem hj]
end

theorem below_own {w w' : World} {base : Nat} {e : TypeId} {size n : Nat} {v : Value} {xs : List Value} (h : w.ownsRow base e size v n xs) (hb : Below w.heap.size w w') : w'.ownsRow base e size v n xs :=
  h.kept (row := none) ⟨hb.os, hb.tape, hb.output, hb.size, fun k hk _ => hb.block k hk⟩ (by cases v.ownBlock <;> simp)
theorem below_drewN' {B : Nat} {a w : World} (h : Below B a w) (n : Nat) : Below B a (w.drewN n) := ⟨h.os, h.tape, h.output, h.size, h.block⟩
theorem below_next {w0 w w' : World} (h : Below w0.heap.size w0 w) (h' : Below w.heap.size w w') : Below w0.heap.size w0 w' := h.trans (h'.mono h.size)
theorem bcell {W w1 : World} (hb : Below W.heap.size W w1) : (∀ b o, b < W.heap.size → w1.cell? ⟨b, o, none⟩ = W.cell? ⟨b, o, none⟩) ∧ (∀ b o, b < W.heap.size → w1.frozen? ⟨b, o, none⟩ = W.frozen? ⟨b, o, none⟩) :=
  ⟨fun b o h => hb.cell (p := ⟨b, o, none⟩) h, fun b o h => hb.frozen (p := ⟨b, o, none⟩) h⟩
theorem only_of_below {a w : World} (h : Below a.heap.size a w) (row : Option Nat) : a.grownBy w row := ⟨h.os, h.tape, h.output, h.size, fun i hi _ => h.block i hi⟩
theorem own_form {w : World} {base : Nat} {e : TypeId} {size : Nat} {v : Value} {n : Nat} {xs : List Value} (h : w.ownsRow base e size v n xs) : ∃ A c, v = .slice A n c ∧ n ≤ c ∧ c ≤ maxLen ∧ (0 < n → ∃ g, A = some ⟨g, 0, none⟩ ∧ base ≤ g ∧ g < w.heap.size) := by
  rcases h with ⟨hl, ⟨rfl, rfl⟩ | ⟨g, cap, cur, rfl, hb, hg, hn, hc, hsz, ht⟩⟩
  · exact ⟨none, 0, rfl, Nat.le_refl _, by simp [maxLen], fun h => by omega⟩
  · exact ⟨_, cap, rfl, hn, hc, fun _ => ⟨g, rfl, hb, (Array.getElem?_eq_some_iff.1 hg).1⟩⟩

theorem own_addr {w : World} {base : Nat} {e : TypeId} {size : Nat} {A : Option Addr} {n c : Nat} {xs : List Value} (h : w.ownsRow base e size (.slice A n c) n xs) (hn : 0 < n) : ∃ g, A = some ⟨g, 0, none⟩ ∧ base ≤ g ∧ g < w.heap.size := by
  obtain ⟨A', c', hv, _, _, hg⟩ := own_form h
  injection hv with h1 _ _
  subst h1
  exact hg hn
theorem own_cap {w : World} {base : Nat} {e : TypeId} {size : Nat} {A : Option Addr} {n c : Nat} {xs : List Value} (h : w.ownsRow base e size (.slice A n c) n xs) : n ≤ c := by
  obtain ⟨A', c', hv, h2, _, _⟩ := own_form h
  injection hv with _ _ h3
  omega

/-- What the table of types says of an element type: its zero value, its cells, its bytes. -/
def El (P : Program) (e : TypeId) (z : Value) (size bytes : Nat) : Prop :=
  ∃ i, P.info? e = some i ∧ i.zero = some z ∧ i.size = size ∧ i.bytes = bytes ∧ z.cells.size = size ∧ 0 < size
theorem El.mk {P : Program} {e : TypeId} {z : Value} {size bytes : Nat} (h : (P.info? e).map (fun i => (i.zero, i.size, i.bytes)) = some (some z, size, bytes)) (hz : z.cells.size = size) (hp : 0 < size) : El P e z size bytes := by
  unfold El
  cases hi : P.info? e with
  | none => rw [hi] at h; simp at h
  | some i =>
    rw [hi] at h
    simp at h
    exact ⟨i, rfl, h.1, h.2.1, h.2.2, hz, hp⟩

section
variable {P : Program} {w : World}
theorem run_append_nilsrc (base : Nat) (t ty e : TypeId) (z : Value) (size bytes : Nat) (ht : P.underlying t = some (.slice e)) (he : El P e z size bytes)
    (v : Value) (n : Nat) (xs : List Value) (hown : w.ownsRow base e size v n xs) (c : Nat) :
    (Builtin.append_ #[t, t] ty #[v, .slice none 0 c]).run P w = .ok v w := by
  obtain ⟨i, hi, hz, hsz, hby, hzs, hp⟩ := he
  rcases hown.2 with ⟨rfl, rfl⟩ | ⟨g, cap, cur, rfl, _, _, hnc, _⟩
  · simp [Builtin.append_, run_underlying ht, sizeOf, typeInfo, hi, Builtin.lenOf, Builtin.firstCells]
  · simp [Builtin.append_, run_underlying ht, sizeOf, typeInfo, hi, Builtin.lenOf, Builtin.firstCells, hnc, storeCells]

theorem add_lit (b off j : Nat) : (⟨b, off, none⟩ : Addr).add j = ⟨b, off + j, none⟩ := by unfold Addr.add; split <;> simp_all

/-- append onto a row of the call's own: the source is whatever slice holds 'news'. -/
theorem run_append_sl (base : Nat) (t ty e : TypeId) (z : Value) (size bytes : Nat) (ht : P.underlying t = some (.slice e)) (he : El P e z size bytes)
    (v : Value) (n : Nat) (xs : List Value) (hown : w.ownsRow base e size v n xs) (A : Option Addr) (m c : Nat) (news : List Value) (hs : Sl w A news) (hl : news.length = m * size)
    (h1 : ∀ u ∈ news, u.oneCell' = true) (h63 : n + m ≤ maxLen) (hbytes : (n + m) * bytes ≤ 140737488355328) (hbase : base ≤ w.heap.size) :
    ∃ A' c' w', (Builtin.append_ #[t, t] ty #[v, .slice A m c]).run P w = .ok (.slice A' (n + m) c') w' ∧ w'.ownsRow base e size (.slice A' (n + m) c') (n + m) (xs ++ news) ∧ w.grownBy w' v.ownBlock ∧
      ((Value.slice A' (n + m) c').ownBlock = v.ownBlock ∨ (Value.slice A' (n + m) c').ownBlock = some w.heap.size) := by
  have key : ∃ v' w', (Builtin.append_ #[t, t] ty #[v, .slice A m c]).run P w = .ok v' w' ∧ w'.ownsRow base e size v' (n + m) (xs ++ news) ∧ w.grownBy w' v.ownBlock ∧ (v'.ownBlock = v.ownBlock ∨ v'.ownBlock = some w.heap.size) := by
    cases A with
    | none =>
      have hn : news = [] := by rcases hs with h | ⟨b, off, h, _⟩; exact h; cases h
      subst hn
      obtain ⟨i, hi, hz, hsz, hby, hzs, hp⟩ := he
      have hm : m = 0 := by
        rcases Nat.eq_zero_or_pos m with h | h
        · exact h
        · have := Nat.mul_pos h hp
          rw [← hl] at this
          simp at this
      subst hm
      exact ⟨v, w, run_append_nilsrc base t ty e z size bytes ht ⟨i, hi, hz, hsz, hby, hzs, hp⟩ v n xs hown c, by simpa using hown, World.grownBy.refl w _, .inl rfl⟩
    | some a =>
      obtain ⟨i, hi, hz, hsz, hby, hzs, hp⟩ := he
      obtain ⟨v', w', hr, h2, h3, _, h5⟩ := run_append_own_at (P := P) w base t ty e i z size bytes ht hi hz hsz hby hzs hp v n xs hown a m c news hl (by
        intro j u hu
        rcases hs with rfl | ⟨b, off, h, hc⟩
        · simp at hu
        · injection h with h
          subst h
          have hj := (List.getElem?_eq_some_iff.1 hu).1
          rw [add_lit, hc j hj]
          rw [← hu, List.getElem?_eq_getElem hj]) h1 h63 hbytes hbase
      exact ⟨v', w', hr, h2, h3, h5⟩
  obtain ⟨v', w', hr, h2, h3, h4⟩ := key
  obtain ⟨A', c', rfl, _⟩ := own_form h2
  exact ⟨A', c', w', hr, h2, h3, h4⟩

theorem wp_append_sl {o : Oper} {a : Act} {K : Act → World → Prop} {Q : Exit → Act → World → Prop} (s x : Operand) (t : TypeId)
    (ho : o.op = .call { callee := .builtin .append, args := #[s, x], argTypes := #[t, t] })
    (base : Nat) (e : TypeId) (z : Value) (size bytes : Nat) (ht : P.underlying t = some (.slice e)) (he : El P e z size bytes)
    (v : Value) (n : Nat) (xs : List Value) (hs : a.eval s = v) (hown : w.ownsRow base e size v n xs) (A : Option Addr) (m c : Nat) (news : List Value) (hx : a.eval x = .slice A m c) (hsl : Sl w A news) (hl : news.length = m * size)
    (h1 : ∀ u ∈ news, u.oneCell' = true) (h63 : n + m ≤ maxLen) (hbytes : (n + m) * bytes ≤ 140737488355328) (hbase : base ≤ w.heap.size)
    (h : ∀ A' c' w', w'.ownsRow base e size (.slice A' (n + m) c') (n + m) (xs ++ news) → w.grownBy w' v.ownBlock → ((Value.slice A' (n + m) c').ownBlock = v.ownBlock ∨ (Value.slice A' (n + m) c').ownBlock = some w.heap.size) → K (a.put o.dst (.slice A' (n + m) c')) w') : o.wp P a w K Q := by
  obtain ⟨A', c', w', hrun, h2, h3, h4⟩ := run_append_sl (P := P) base t o.type e z size bytes ht he v n xs hown A m c news hsl hl h1 h63 hbytes hbase
  unfold Oper.wp execOp
  simp only [ho, resolve, invoke, builtin, Sem.run_bind, Sem.run_pure, Result.andThen_ok, List.map_toArray, List.map_cons, List.map_nil, hs, hx, hrun]
  exact h A' c' w' h2 h3 h4

theorem wpList_append_sl {ops : Array Oper} {rest : List Oper} {o : Oper} {a : Act} {Q : Exit → Act → World → Prop} (hgd : o.guard = none) (s x : Operand) (t : TypeId)
    (ho : o.op = .call { callee := .builtin .append, args := #[s, x], argTypes := #[t, t] })
    (base : Nat) (e : TypeId) (z : Value) (size bytes : Nat) (ht : P.underlying t = some (.slice e)) (he : El P e z size bytes)
    (v : Value) (n : Nat) (xs : List Value) (hs : a.eval s = v) (hown : w.ownsRow base e size v n xs) (A : Option Addr) (m c : Nat) (news : List Value) (hx : a.eval x = .slice A m c) (hsl : Sl w A news) (hl : news.length = m * size)
    (h1 : ∀ u ∈ news, u.oneCell' = true) (h63 : n + m ≤ maxLen) (hbytes : (n + m) * bytes ≤ 140737488355328) (hbase : base ≤ w.heap.size)
    (h : ∀ A' c' w', w'.ownsRow base e size (.slice A' (n + m) c') (n + m) (xs ++ news) → w.grownBy w' v.ownBlock → ((Value.slice A' (n + m) c').ownBlock = v.ownBlock ∨ (Value.slice A' (n + m) c').ownBlock = some w.heap.size) → wpList P ops Q rest (a.put o.dst (.slice A' (n + m) c')) w') : wpList P ops Q (o :: rest) a w :=
  wpList_plain hgd fun _ hK => wp_append_sl s x t ho base e z size bytes ht he v n xs hs hown A m c news hx hsl hl h1 h63 hbytes hbase fun A' c' w' h2 h3 h4 => hK _ _ (h A' c' w' h2 h3 h4)
end

theorem Sl.new1 (w : World) (u : Value) (e : TypeId) : Sl (w.alloc (.cells #[u] e)) (some ⟨w.heap.size, 0, none⟩) [u] := by
  refine .inr ⟨w.heap.size, 0, rfl, fun j hj => ?_⟩
  have : j = 0 := by simpa using hj
  subst this
  rw [cell_of_row _ _ _ _ _ _ (heap_alloc_new w _)]
  rfl
theorem Sl.new (w : World) (cs : Array Value) (e : TypeId) : Sl (w.alloc (.cells cs e)) (some ⟨w.heap.size, 0, none⟩) cs.toList := by
  refine .inr ⟨w.heap.size, 0, rfl, fun j hj => ?_⟩
  rw [cell_of_row _ _ _ _ _ _ (heap_alloc_new w _)]
  simp at hj
  simp [hj]
theorem grownBy_of_alloc {w w' : World} {o : Obj} {row : Option Nat} (h : (w.alloc o).grownBy w' row) : w.grownBy w' row :=
  ⟨h.os, h.tape, h.output, by have := h.size; simp at this; omega, fun k hk hne => (h.block k (by simp; omega) hne).trans (Below.heap_alloc w o k hk)⟩

/-- append of one value, as the walk has it: the value lies in a new block of its own. -/
theorem wpList_append1 {P : Program} {w : World} {ops : Array Oper} {rest : List Oper} {o : Oper} {a : Act} {Q : Exit → Act → World → Prop} (hgd : o.guard = none) (s x : Operand) (t : TypeId)
    (ho : o.op = .call { callee := .builtin .append, args := #[s, x], argTypes := #[t, t] })
    (base : Nat) (e : TypeId) (z : Value) (bytes : Nat) (ht : P.underlying t = some (.slice e)) (he : El P e z 1 bytes) (hby : bytes ≤ 1000)
    (A : Option Addr) (n c : Nat) (xs : List Value) (hs : a.eval s = .slice A n c) (hown : w.ownsRow base e 1 (.slice A n c) n xs) (u : Value) (hx : a.eval x = .slice (some ⟨w.heap.size, 0, none⟩) 1 1)
    (h1 : u.oneCell' = true) (hsmall : n + 1 ≤ 1000000000) (hbase : base ≤ w.heap.size)
    (h : ∀ A' c' w', w'.ownsRow base e 1 (.slice A' (n + 1) c') (n + 1) (xs ++ [u]) → w.grownBy w' (Value.slice A n c).ownBlock → ((Value.slice A' (n + 1) c').ownBlock = (Value.slice A n c).ownBlock ∨ w.heap.size ≤ ((Value.slice A' (n + 1) c').ownBlock).getD 0) → wpList P ops Q rest (a.put o.dst (.slice A' (n + 1) c')) w') : wpList P ops Q (o :: rest) a (w.alloc (.cells #[u] e)) :=
  wpList_append_sl hgd s x t ho base e z 1 bytes ht he _ n xs hs (hown.alloc _) _ 1 1 [u] hx (Sl.new1 w u e) rfl (by intro v hv; simp at hv; subst hv; exact h1) (by simp only [maxLen]; omega)
    (Nat.le_trans (Nat.mul_le_mul hsmall hby) (by decide)) (by simp; omega) fun A' c' w' h2 h3 h4 => h A' c' w' h2 (grownBy_of_alloc h3) (h4.imp id fun e => by rw [e]; simp)

theorem oneCell_bv (l : List UInt8) : ∀ u ∈ l.map bv, u.oneCell' = true := by
  intro u hu
  obtain ⟨b, _, rfl⟩ := List.mem_map.1 hu
  rfl
theorem oneCell_iv (l : List Int) : ∀ u ∈ l.map iv, u.oneCell' = true := by
  intro u hu
  obtain ⟨b, _, rfl⟩ := List.mem_map.1 hu
  rfl

section
variable {P : Program} {w : World} {ops : Array Oper} {o : Oper} {a : Act} {Q : Exit → Act → World → Prop}
/-- copy into a block of the call's own; the source is whatever slice holds xs (its first sl values). -/
theorem wpList_copy_sl {rest : List Oper} (hgd : o.guard = none) (d s : Operand) (dT sT : TypeId)
    (ho : o.op = .call { callee := .builtin .copy, args := #[d, s], argTypes := #[dT, sT] }) (elem : TypeId) (hu : P.underlying dT = some (.slice elem)) (hsz : (P.info? elem).map (·.size) = some 1)
    (g off dl dc : Nat) (A : Option Addr) (sl sc : Nat) (hd : a.eval d = .slice (some ⟨g, off, none⟩) dl dc) (hs : a.eval s = .slice A sl sc)
    (cur : List Value) (t : TypeId) (hg : Hid (w.heap[g]? = some (.cells cur.toArray t (0, 0)))) (xs : List Value) (hsl : Sl w A xs) (hxs : xs.length = sl) (hfit : off + dl ≤ cur.length)
    (h1 : ∀ v ∈ xs, v.oneCell' = true) (B : Nat) (w0 : World) (hb : Below B w0 w) (hBg : B ≤ g)
    (h : ∀ w', Hid (w'.heap[g]? = some (.cells (splice cur off (xs.take (min sl dl))).toArray t (0, 0))) → Below B w0 w' → wpList P ops Q rest (a.put o.dst (goInt (min sl dl : Nat))) w') :
    wpList P ops Q (o :: rest) a w := by
  have hl : (xs.take (min sl dl)).length = min sl dl := by rw [List.length_take]; omega
  refine wpList_copy_splice hgd d s dT sT ho elem hu hsz _ _ _ _ _ _ hd hs g off cur t hg.out (xs.take (min sl dl)) hl ?_ (by omega) (fun v hv => h1 v (List.mem_of_mem_take hv)) B w0 hb hBg ?_
  · intro hpos
    refine ⟨rfl, ?_⟩
    rcases hsl with rfl | ⟨b, o', rfl, hc⟩
    · simp at hpos
    · refine ⟨_, rfl, fun j v hv => ?_⟩
      rw [add_lit]
      have hj := (List.getElem?_eq_some_iff.1 hv).1
      simp at hj
      rw [hc j (by omega)]
      rw [List.getElem?_take, if_pos (by omega), List.getElem?_eq_getElem (by omega)] at hv
      exact hv
  · rw [hl] ; exact h
theorem step_copy_sl {K : Act → World → Prop} {E : Prop} (hgd : o.guard = none) (d s : Operand) (dT sT : TypeId)
    (ho : o.op = .call { callee := .builtin .copy, args := #[d, s], argTypes := #[dT, sT] }) (elem : TypeId) (hu : P.underlying dT = some (.slice elem)) (hsz : (P.info? elem).map (·.size) = some 1)
    (g off dl dc : Nat) (A : Option Addr) (sl sc : Nat) (hd : a.eval d = .slice (some ⟨g, off, none⟩) dl dc) (hs : a.eval s = .slice A sl sc)
    (cur : List Value) (t : TypeId) (hg : Hid (w.heap[g]? = some (.cells cur.toArray t (0, 0)))) (xs : List Value) (hsl : Sl w A xs) (hxs : xs.length = sl) (hfit : off + dl ≤ cur.length)
    (h1 : ∀ v ∈ xs, v.oneCell' = true) (B : Nat) (w0 : World) (hb : Below B w0 w) (hBg : B ≤ g)
    (h : ∀ w', Hid (w'.heap[g]? = some (.cells (splice cur off (xs.take (min sl dl))).toArray t (0, 0))) → Below B w0 w' → K (a.put o.dst (goInt (min sl dl : Nat))) w') :
    if Region.wanted o (yielded ops a.tmps) = true then Oper.wp P o a w K Q else E := by
  have hl : (xs.take (min sl dl)).length = min sl dl := by rw [List.length_take]; omega
  refine step_copy_splice hgd d s dT sT ho elem hu hsz _ _ _ _ _ _ hd hs g off cur t hg.out (xs.take (min sl dl)) hl ?_ (by omega) (fun v hv => h1 v (List.mem_of_mem_take hv)) B w0 hb hBg ?_
  · intro hpos
    refine ⟨rfl, ?_⟩
    rcases hsl with rfl | ⟨b, o', rfl, hc⟩
    · simp at hpos
    · refine ⟨_, rfl, fun j v hv => ?_⟩
      rw [add_lit]
      have hj := (List.getElem?_eq_some_iff.1 hv).1
      simp at hj
      rw [hc j (by omega)]
      rw [List.getElem?_take, if_pos (by omega), List.getElem?_eq_getElem (by omega)] at hv
      exact hv
  · rw [hl] ; exact h
end
end Go.Proofs.Ytamhigknobdloaa
