/- Parts, and the walks of Align, Stride, ContainsFunc over parts, and product.Lay; conditions: the parts are few and readable. -/
import Derived.Test.YtamhigknobdloaaDc
namespace Go.Proofs.Ytamhigknobdloaa
open Go.RowKit
set_option linter.unusedVariables false

/-- A layout as it lies in a slice or is handed on: what its eight cells hold. -/
structure Part where
  s : Int
  al : Int
  A : Option Addr
  sp : List UInt8
  c : Nat
  x3 : Value
  x4 : Value
  x5 : Value
  x6 : Value
  x7 : Value
def Part.cells (p : Part) : List Value := [.int .i64 p.s, .int .i64 p.al, .slice p.A p.sp.length p.c, p.x3, p.x4, p.x5, p.x6, p.x7]
def Part.val (p : Part) : Value := .agg #[.int .i64 p.s, .int .i64 p.al, .slice p.A p.sp.length p.c, p.x3, p.x4, p.x5, p.x6, p.x7]
def Part.valid (p : Part) : Bool := validB p.s p.al p.sp.length
/-- Parts that lie one after the other. -/
def Parts (w : World) (A : Option Addr) (ps : List Part) : Prop := Sl w A (ps.flatMap Part.cells)
theorem flat_length (ps : List Part) : (ps.flatMap Part.cells).length = 8 * ps.length := by
  induction ps with
  | nil => rfl
  | cons p t ih => rw [List.flatMap_cons, List.length_append, ih]; simp [Part.cells]; omega
theorem flat_get (ps : List Part) (k j : Nat) (hk : k < ps.length) (hj : j < 8) : (ps.flatMap Part.cells)[8 * k + j]? = ps[k].cells[j]? := by
  induction ps generalizing k with
  | nil => simp at hk
  | cons p t ih =>
    rw [List.flatMap_cons]
    cases k with
    | zero => rw [List.getElem?_append_left (by simp [Part.cells]; omega)]; simp
    | succ k =>
      rw [List.getElem?_append_right (by simp [Part.cells]; omega)]
      have : 8 * (k + 1) + j - p.cells.length = 8 * k + j := by simp [Part.cells]; omega
      rw [this, ih k (by simpa using hk)]
      simp
theorem Parts.at_ {w : World} {A : Option Addr} {ps : List Part} (h : Parts w A ps) {k : Nat} (hk : k < ps.length) :
    ∃ b off, A = some ⟨b, off, none⟩ ∧ ∀ j, j < 8 → w.cell? ⟨b, off + 8 * k + j, none⟩ = ps[k].cells[j]? := by
  obtain ⟨b, off, hA, _⟩ := Sl.at_ h (k := 8 * k) (by rw [flat_length]; omega)
  refine ⟨b, off, hA, fun j hj => ?_⟩
  rcases h with h | ⟨b', off', hA', hc⟩
  · have := congrArg List.length h
    rw [flat_length] at this
    simp at this
    omega
  · rw [hA] at hA'
    injection hA' with e
    injection e with e1 e2
    subst e1 e2
    have := hc (8 * k + j) (by rw [flat_length]; omega)
    rw [← flat_get ps k j hk hj, Nat.add_assoc, this, List.getElem?_eq_getElem]

/-- The eight cells of the k-th part, as the walk spells their places. -/
theorem Parts.get {w : World} {A : Option Addr} {ps : List Part} (h : Parts w A ps) {k : Nat} (hk : k < ps.length) :
    ∃ b off, A = some ⟨b, off, none⟩ ∧ w.cell? ⟨b, off + k * 8, none⟩ = some (.int .i64 ps[k].s) ∧ w.cell? ⟨b, off + k * 8 + 1, none⟩ = some (.int .i64 ps[k].al) ∧
      w.cell? ⟨b, off + k * 8 + 2, none⟩ = some (.slice ps[k].A ps[k].sp.length ps[k].c) ∧ w.cell? ⟨b, off + k * 8 + 3, none⟩ = some ps[k].x3 ∧ w.cell? ⟨b, off + k * 8 + 4, none⟩ = some ps[k].x4 ∧
      w.cell? ⟨b, off + k * 8 + 5, none⟩ = some ps[k].x5 ∧ w.cell? ⟨b, off + k * 8 + 6, none⟩ = some ps[k].x6 ∧ w.cell? ⟨b, off + k * 8 + 7, none⟩ = some ps[k].x7 := by
  obtain ⟨b, off, hA, hc⟩ := h.at_ hk
  rw [Nat.mul_comm 8 k] at hc
  exact ⟨b, off, hA, hc 0 (by omega), hc 1 (by omega), hc 2 (by omega), hc 3 (by omega), hc 4 (by omega), hc 5 (by omega), hc 6 (by omega), hc 7 (by omega)⟩
theorem Parts.below {w w' : World} {A : Option Addr} {ps : List Part} (h : Parts w A ps) (hb : Below w.heap.size w w') : Parts w' A ps := Sl.below h hb

set_option maxHeartbeats 800000 in
theorem clos_any (p : Part) (w : World) : Calls Try.prog 73 #[p.val] w fun e w' => e = .returned (.bool (!p.valid)) ∧ Below w.heap.size w w' := by
  have hb0 := (Below.refl w.heap.size w).alloc (Nat.le_refl _) (.cells #[.int .i64 p.s, .int .i64 p.al, .slice p.A p.sp.length p.c, p.x3, p.x4, p.x5, p.x6, p.x7] 31)
  unfold Part.val Part.valid
  go_enter Try.func73, Try.ntmps73
  go_wp2_with fail
  refine (valid_any _ _ _ _ _ _ _ _ _ _ _).mono ?_
  rintro e w1 ⟨rfl, hb⟩
  go_wp2
  go_ret
  exact ⟨rfl, below_next hb0 hb⟩

theorem take_any {α : Type} (l : List α) (f : α → Bool) (k : Nat) (h : k < l.length) : (l.take (k + 1)).any f = ((l.take k).any f || f l[k]) := by
  rw [List.take_succ_eq_append_getElem h, List.any_append]; simp
theorem Part.valid_def (p : Part) : p.valid = validB p.s p.al p.sp.length := rfl

set_option maxHeartbeats 1600000 in
theorem idx_any (A : Option Addr) (n c : Nat) (ps : List Part) (w : World) (hn : ps.length = n) (hs : Parts w A ps) (hlen : n ≤ 1000) :
    Calls Try.prog 92 #[.slice A n c, .func (.func 73) #[] #[]] w fun e w' => (∃ i : Int, e = .returned (.int .i64 i) ∧ decide (0 ≤ i) = ps.any (fun p => !p.valid)) ∧ Below w.heap.size w w' := by
  subst hn
  have hb0 := Below.refl w.heap.size w
  go_enter Try.func92, Try.ntmps92
  go_wp2
  go_loopw [5, 8] (fun _ v8 wr => ∃ k : Nat, k ≤ ps.length ∧ v8 = .int .i64 k ∧ Hid ((ps.take k).any (fun p => !p.valid) = false) ∧ Below w.heap.size w wr) (fun _ v8 _ => ps.length - (intOf v8).toNat)
  case atStart => exact ⟨0, by omega, rfl, (by show _ = _; simp), hb0⟩
  case round =>
    obtain ⟨k, hk, rfl, hp, hb⟩ := hrel
    by_cases hlt : k < ps.length
    · obtain ⟨b, off, rfl, c0, c1, c2, c3, c4, c5, c6, c7⟩ := (hs.below hb).get hlt
      have TK := Lib.hid (take_any ps (fun p => !p.valid) k hlt)
      cases hv : ps[k].valid with
      | true =>
        rw [hv] at TK
        have V := Lib.hid (Part.valid_def ps[k])
        go_wp2_with fail
        refine (clos_any ps[k] _).mono ?_
        rw [hv]
        rintro e w1 ⟨rfl, hb1⟩
        go_wp2
        go_roundw
        case rel => exact ⟨k + 1, by omega, by go_num, (by show _ = _; rw [TK.out, hp.out]; rfl), below_next hb hb1⟩
        case measure => simp [intOf]; omega
      | false =>
        rw [hv] at TK
        go_wp2_with fail
        refine (clos_any ps[k] _).mono ?_
        rw [hv]
        rintro e w1 ⟨rfl, hb1⟩
        go_wp2
        go_ret
        refine ⟨⟨k, rfl, ?_⟩, below_next hb hb1⟩
        rw [List.any_eq_true.2 ⟨ps[k], List.getElem_mem hlt, by rw [hv]; rfl⟩]
        simp
    · obtain rfl : k = ps.length := by omega
      go_wp2
      go_ret
      refine ⟨⟨-1, rfl, ?_⟩, hb⟩
      have := hp.out
      rw [List.take_length] at this
      rw [this]; rfl

set_option maxHeartbeats 800000 in
theorem cont_any (A : Option Addr) (n c : Nat) (ps : List Part) (w : World) (hn : ps.length = n) (hs : Parts w A ps) (hlen : n ≤ 1000) :
    Calls Try.prog 72 #[.slice A n c, .func (.func 73) #[] #[]] w fun e w' => e = .returned (.bool (ps.any (fun p => !p.valid))) ∧ Below w.heap.size w w' := by
  go_enter Try.func72, Try.ntmps72
  go_wp2_with fail
  refine (idx_any _ _ _ ps _ hn hs hlen).mono ?_
  rintro e w1 ⟨⟨i, rfl, hi⟩, hb⟩
  have HI := Lib.hid hi
  clear hi
  go_wp2
  go_ret
  exact ⟨by rw [← HI.out]; rfl, hb⟩

/-- The least number from 'a' on that is divisible by 'b'. -/
def alignI (a b : Int) : Int := if b < 1 then a else if a % b = 0 then a else a + (b - a % b)
set_option maxHeartbeats 400000 in
theorem align_any (a b : Int) (w : World) (h0 : 0 ≤ a) (h1 : a ≤ 100000000) (h2 : -100000000 ≤ b) (h3 : b ≤ 100000000) :
    Calls Try.prog 30 #[.int .i64 a, .int .i64 b] w fun e w' => e = .returned (.int .i64 (alignI a b)) ∧ w = w' := by
  by_cases hb : b < 1
  · have e : alignI a b = a := by unfold alignI; rw [if_pos hb]
    rw [e]; clear e
    go_enter Try.func30, Try.ntmps30
    go_wp2
    go_ret
    exact ⟨rfl, rfl⟩
  · have hb' : 1 ≤ b := by omega
    have hm := Int.emod_nonneg a (show b ≠ 0 by omega)
    have hm2 := Int.emod_lt_of_pos a (show 0 < b by omega)
    by_cases he : a % b = 0
    · have e : alignI a b = a := by unfold alignI; rw [if_neg hb, if_pos he]
      rw [e]; clear e
      have he' : (a % b == 0) = true := by simpa using he
      clear hm hm2
      go_enter Try.func30, Try.ntmps30
      go_wp2
      go_ret
      exact ⟨rfl, rfl⟩
    · have e : alignI a b = a + (b - a % b) := by unfold alignI; rw [if_neg hb, if_neg he]
      rw [e]; clear e
      have he' : (a % b == 0) = false := by simpa using he
      go_enter Try.func30, Try.ntmps30
      go_wp2
      go_ret
      exact ⟨rfl, rfl⟩
set_option maxHeartbeats 400000 in
theorem ralign_any (a b : Int) (w : World) (h0 : 0 ≤ a) (h1 : a ≤ 100000000) (h2 : -100000000 ≤ b) (h3 : b ≤ 100000000) :
    Calls Try.prog 31 #[.int .i64 a, .int .i64 b] w fun e w' => e = .returned (.int .i64 (alignI a b)) ∧ w = w' := by
  by_cases hb : b < 1
  · have e : alignI a b = a := by unfold alignI; rw [if_pos hb]
    rw [e]; clear e
    go_enter Try.func31, Try.ntmps31
    go_wp2
    go_ret
    exact ⟨rfl, rfl⟩
  · have hb' : 1 ≤ b := by omega
    have hm := Int.emod_nonneg a (show b ≠ 0 by omega)
    have hm2 := Int.emod_lt_of_pos a (show 0 < b by omega)
    by_cases he : a % b = 0
    · have e : alignI a b = a := by unfold alignI; rw [if_neg hb, if_pos he]
      rw [e]; clear e
      have he' : (a % b == 0) = true := by simpa using he
      clear hm hm2
      go_enter Try.func31, Try.ntmps31
      go_wp2
      go_ret
      exact ⟨rfl, rfl⟩
    · have e : alignI a b = a + b - a % b := by unfold alignI; rw [if_neg hb, if_neg he]; omega
      rw [e]; clear e
      have he' : (a % b == 0) = false := by simpa using he
      go_enter Try.func31, Try.ntmps31
      go_wp2
      go_ret
      exact ⟨rfl, rfl⟩
end Go.Proofs.Ytamhigknobdloaa
