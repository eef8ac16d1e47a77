/- Dice: what lies in memory, and the walks of Mod, Left, Next, Rare, Bytes; conditions: the numbers are few. -/
import Derived.Test.YtamhigknobdloaaMv
namespace Go.Proofs.Ytamhigknobdloaa
open Go.RowKit
set_option linter.unusedVariables false

/-- A slice of the call's own making: it lies in a block of elements of type e. -/
def SlE (w : World) (e : TypeId) (A : Option Addr) (xs : List Value) : Prop :=
  xs = [] ∨ ∃ b off cs fz, A = some ⟨b, off, none⟩ ∧ w.heap[b]? = some (.cells cs e fz) ∧ ∀ j (h : j < xs.length), cs[off + j]? = some xs[j]
section
variable {w w' : World} {e : TypeId} {A : Option Addr} {xs : List Value}
theorem SlE.nil : SlE w e A [] := .inl rfl
theorem SlE.sl (h : SlE w e A xs) : Sl w A xs := by
  rcases h with rfl | ⟨b, off, cs, fz, rfl, hb, hc⟩
  · exact .inl rfl
  · refine .inr ⟨b, off, rfl, fun j hj => ?_⟩
    rw [← hc j hj]
    simp [World.cell?, hb]
theorem SlE.keep (h : SlE w e A xs) (hk : ∀ (b : Nat) (cs : Array Value) (fz : Nat × Nat), w.heap[b]? = some (Obj.cells cs e fz) → w'.heap[b]? = w.heap[b]?) : SlE w' e A xs := by
  rcases h with rfl | ⟨b, off, cs, fz, rfl, hb, hc⟩
  · exact .inl rfl
  · exact .inr ⟨b, off, cs, fz, rfl, (hk b cs fz hb).trans hb, hc⟩
theorem SlE.below (h : SlE w e A xs) (hb : Below w.heap.size w w') : SlE w' e A xs :=
  h.keep fun b cs fz hh => hb.block b (Array.getElem?_eq_some_iff.1 hh).1
theorem SlE.grown (h : SlE w e A xs) {g : Nat} (hg : w.grownBy w' (some g)) {t : TypeId} {ds : Array Value} {fz : Nat × Nat} (ht : w.heap[g]? = some (.cells ds t fz)) (hne : e ≠ t) : SlE w' e A xs :=
  h.keep fun b cs fz' hh => hg.block b (Array.getElem?_eq_some_iff.1 hh).1 (by
    intro hbg
    injection hbg with hbg
    subst hbg
    rw [ht] at hh
    injection hh with hh
    injection hh with _ h2
    exact hne h2.symm)
theorem SlE.of_own {base n c : Nat} (h : w.ownsRow base e 1 (.slice A n c) n xs) : SlE w e A xs := by
  rcases h with ⟨hl, ⟨h1, h2⟩ | ⟨g, cap, cur, h1, hb, hg, hn, hc, hsz, ht⟩⟩
  · subst h2; exact .inl (List.eq_nil_of_length_eq_zero (by simpa using hl))
  · injection h1 with hA _ _
    refine .inr ⟨g, 0, cur, _, hA, hg, fun j hj => ?_⟩
    rw [Nat.mul_one] at ht hl
    have h2 : xs[j]? = cur.toList[j]? := by
      rw [← ht, List.getElem?_take, if_pos (by omega)]
    rw [List.getElem?_eq_getElem hj] at h2
    rw [h2, Nat.zero_add]; simp
theorem SlE.new (w : World) (cs : Array Value) (e : TypeId) : SlE (w.alloc (.cells cs e)) e (some ⟨w.heap.size, 0, none⟩) cs.toList :=
  .inr ⟨w.heap.size, 0, cs, _, rfl, heap_alloc_new w _, fun j hj => by simp at hj; simp [hj]⟩
end
theorem grown_trans {a b c : World} {row : Option Nat} (h : a.grownBy b row) (k : b.grownBy c row) : a.grownBy c row :=
  ⟨k.os.trans h.os, k.tape.trans h.tape, k.output.trans h.output, Nat.le_trans h.size k.size, fun i hi hn => (k.block i (Nat.lt_of_lt_of_le hi h.size) hn).trans (h.block i hi hn)⟩
theorem grown_drewN {a b : World} {row : Option Nat} (h : a.grownBy b row) (n : Nat) : a.grownBy (b.drewN n) row := ⟨h.os, h.tape, h.output, h.size, h.block⟩

/-- Dice at block g: they show the numbers ls, of which 'k' have been used. -/
def Dice (w : World) (g : Nat) (ls : List Int) (k : Nat) : Prop :=
  ∃ A c, w.heap[g]? = some (.cells #[.slice A ls.length c, .int .i64 k] 84 (0, 0)) ∧ Sl w A (ls.map iv) ∧ (∀ b off, A = some ⟨b, off, none⟩ → 0 < ls.length → b < g) ∧ k ≤ ls.length ∧ ls.length ≤ 700 ∧ IB ls
theorem Dice.below {w w' : World} {g : Nat} {ls : List Int} {k : Nat} (h : Dice w g ls k) (hb : Below w.heap.size w w') : Dice w' g ls k := by
  obtain ⟨A, c, h1, h2, h3⟩ := h
  exact ⟨A, c, (hb.block g (Array.getElem?_eq_some_iff.1 h1).1).trans h1, h2.below hb, h3⟩
theorem Dice.lt {w : World} {g : Nat} {ls : List Int} {k : Nat} (h : Dice w g ls k) : g < w.heap.size := by
  obtain ⟨A, c, h1, _⟩ := h
  exact (Array.getElem?_eq_some_iff.1 h1).1
theorem Dice.cells {w : World} {g : Nat} {ls : List Int} {k : Nat} (h : Dice w g ls k) : ∃ ds, w.heap[g]? = some (.cells ds 84 (0, 0)) := by
  obtain ⟨A, c, h1, _⟩ := h
  exact ⟨_, h1⟩

theorem tmod_emod (x m : Int) : x.tmod m % m = x % m := by
  have h := Int.mul_tdiv_add_tmod x m
  conv => rhs; rw [← h]
  rw [Int.mul_add_emod_self_left]

set_option maxHeartbeats 800000 in
theorem mod_any (x : Int) (m : Nat) (w : World) (hm : 0 < m) (hm2 : m ≤ 1000000000000) (h0 : -9223372036854775808 ≤ x) (h1 : x ≤ 9223372036854775807) :
    Calls Try.prog 71 #[.int .i64 x, .int .i64 m] w fun e w' => e = .returned (.int .i64 (x % (m : Int))) ∧ w = w' := by
  have hm0 : (0 : Int) < m := by omega
  have hmz : ((m : Int) == 0) = false := by simp; omega
  have t1 := Int.lt_tmod_of_pos x hm0
  have t2 := Int.tmod_lt_of_pos x hm0
  have te := tmod_emod x m
  have e1 := Int.emod_nonneg x (show (m : Int) ≠ 0 by omega)
  have e2 := Int.emod_lt_of_pos x hm0
  by_cases hx : 0 ≤ x
  · have TE := Lib.hid te
    clear te t1 t2
    go_enter Try.func71, Try.ntmps71
    go_wp2
    go_ret
    exact ⟨rfl, rfl⟩
  · have hmi : -(m : Int) < x.tmod m := by omega
    by_cases hneg : x.tmod m < 0
    · have hr : x.tmod m + m = x % m := by
        rw [← te]
        have h3 : (x.tmod m + m) % m = x.tmod m % m := by simp
        rw [← h3]
        exact (Int.emod_eq_of_lt (by omega) (by omega)).symm
      have HR := Lib.hid hr
      have TE := Lib.hid te
      clear hr te
      go_enter Try.func71, Try.ntmps71
      go_wp2
      go_ret
      exact ⟨by rw [← HR.out]; rfl, rfl⟩
    · have hr : x.tmod m = x % m := by
        rw [← te]
        exact (Int.emod_eq_of_lt (by omega) (by omega)).symm
      have HR := Lib.hid hr
      have TE := Lib.hid te
      clear hr te
      go_enter Try.func71, Try.ntmps71
      go_wp2
      go_ret
      exact ⟨by rw [← HR.out]; rfl, rfl⟩

set_option maxHeartbeats 800000 in
theorem left_any (g : Nat) (ls : List Int) (k : Nat) (w : World) (hd : Dice w g ls k) :
    Calls Try.prog 70 #[.pointer (some ⟨g, 0, none⟩)] w fun e w' => e = .returned (.bool (decide (k < ls.length))) ∧ ∃ n, w' = w.drewN n := by
  obtain ⟨A, c, hg, hs, hA, hk, hl, hb⟩ := hd
  have h0 : w.cell? ⟨g, 0, none⟩ = some (.slice A ls.length c) := by rw [cell_of_row _ _ _ _ _ _ hg]; rfl
  have h1 : w.cell? ⟨g, 1, none⟩ = some (.int .i64 k) := by rw [cell_of_row _ _ _ _ _ _ hg]; rfl
  clear hg hs hA hb
  go_enter Try.func70, Try.ntmps70
  go_wp2
  go_quiet (fail)
  go_wp2
  go_ret
  exact ⟨rfl, _, rfl⟩

set_option maxHeartbeats 1600000 in
theorem next_any (g : Nat) (ls : List Int) (k m : Nat) (w : World) (hd : Dice w g ls k) (hm : 0 < m) (hm2 : m ≤ 1000000000000) :
    Calls Try.prog 21 #[.pointer (some ⟨g, 0, none⟩), .int .i64 m] w fun e w' => ∃ r k' : Nat, e = .returned (.int .i64 r) ∧ r < m ∧ Dice w' g ls k' ∧ k ≤ k' ∧ (k = ls.length → r = 0) ∧ (k < ls.length → k' = k + 1) ∧ w.grownBy w' (some g) := by
  have hd0 := hd
  obtain ⟨A, c, hg, hs, hA, hk, hl, hb⟩ := hd
  have h0 : w.cell? ⟨g, 0, none⟩ = some (.slice A ls.length c) := by rw [cell_of_row _ _ _ _ _ _ hg]; rfl
  have h1 : w.cell? ⟨g, 1, none⟩ = some (.int .i64 k) := by rw [cell_of_row _ _ _ _ _ _ hg]; rfl
  have hf : w.frozen? ⟨g, 1, none⟩ = false := frozen_of_row _ _ _ _ _ hg
  by_cases hlt : k < ls.length
  · obtain ⟨b, off, rfl, hc⟩ := hs.at_ (k := k) (by simpa using hlt)
    rw [List.getElem_map] at hc
    have hbg := hA b off rfl
    have hx := hb ls[k] (List.getElem_mem hlt)
    have e1 := Int.emod_nonneg ls[k] (show (m : Int) ≠ 0 by omega)
    have e2 := Int.emod_lt_of_pos ls[k] (show (0 : Int) < m by omega)
    obtain ⟨r, hr⟩ := Int.eq_ofNat_of_zero_le e1
    have hrm : r < m := by omega
    have HR := Lib.hid hr
    clear hr
    have hx0 := hx.1
    have hx1 := hx.2
    have HB := Lib.hid hb
    have HA := Lib.hid hA
    have HG := Lib.hid hg
    have HS := Lib.hid hs
    clear hx hb hA hg hs
    generalize ls[k] = x at *
    have hne : ¬ b = g := by omega
    go_enter Try.func21, Try.ntmps21
    go_wp2_with fail
    refine (left_any g ls k _ hd0).mono ?_
    rintro e w1 ⟨rfl, n, rfl⟩
    have hdl : decide (k < ls.length) = true := by simp; omega
    have hdi : k + 1 - 1 = k := by omega
    go_wp2
    go_quiet ((go_at_call 71; exact Calls.quiet_of_same ((mod_any x m _ hm hm2 hx0 hx1).mono fun _ _ h => ⟨h.1, h.2.symm⟩)))
    go_wp2
    go_ret
    refine ⟨r, k + 1, ?_, hrm, ?_, by omega, by omega, fun _ => rfl, ?_⟩
    · rw [← HR.out]; rfl
    · refine ⟨_, c, heap_setCell_same w g 1 _ _ (.int .i64 ((k : Int) + 1)) HG.out, ?_, HA.out, by omega, hl, HB.out⟩
      exact HS.out.setCell (p := ⟨g, 1, none⟩) (fun b' off' he => by injection he with he; injection he with he; subst he; exact hne) _
    · exact ⟨rfl, rfl, rfl, by simp [World.setCell], fun i hi hn => Below.heap_setCell w ⟨g, 1, none⟩ _ i (fun e => hn (by rw [e]))⟩
  · have hdl : decide (k < ls.length) = false := by simp; omega
    clear hg hs hA hb h0 h1 hf
    go_enter Try.func21, Try.ntmps21
    go_wp2_with fail
    refine (left_any g ls k _ hd0).mono ?_
    rintro e w1 ⟨rfl, n, rfl⟩
    go_wp2
    go_ret
    exact ⟨0, k, rfl, hm, hd0, by omega, by omega, by omega, grown_drewN (World.grownBy.refl _ _) _⟩

theorem own_blk_ne {w : World} {base : Nat} {e t : TypeId} {size n : Nat} {v : Value} {xs : List Value} {g : Nat} {ds : Array Value} {fz : Nat × Nat} (h : w.ownsRow base e size v n xs) (hg : w.heap[g]? = some (.cells ds t fz)) (hne : e ≠ t) : v.ownBlock = none ∨ v.ownBlock ≠ some g := by
  rcases h.2 with ⟨rfl, _⟩ | ⟨g', cap, cur, rfl, _, hh, _⟩
  · exact .inl rfl
  · refine .inr fun he => ?_
    have : g' = g := by simpa [Value.ownBlock] using he
    subst this
    rw [hg] at hh
    injection hh with hh
    injection hh with _ h2
    exact hne h2.symm

/-- What an append onto an own row turns is no dice. -/
theorem Dice.far {w w' : World} {g : Nat} {ls : List Int} {k : Nat} {row : Option Nat} (h : Dice w g ls k) (hg : w.grownBy w' row) (hr : ∀ q, row = some q → g < q) : Dice w' g ls k := by
  obtain ⟨A, c, h1, h2, h3, h4⟩ := h
  refine ⟨A, c, (hg.block g (Array.getElem?_eq_some_iff.1 h1).1 (fun e => by have := hr g e.symm; omega)).trans h1, ?_, h3, h4⟩
  rcases h2 with h2 | ⟨b, off, hA, hc⟩
  · exact .inl h2
  · rcases Nat.eq_zero_or_pos ls.length with hz | hz
    · exact .inl (by rw [List.eq_nil_of_length_eq_zero hz]; rfl)
    have hb := h3 b off hA hz
    exact .inr ⟨b, off, hA, fun j hj => (World.cell?_of_block (hg.block b (World.block_lt_of_cell? w ⟨b, off + j, none⟩ (hc j hj)) (fun e => by have := hr b e.symm; omega))).trans (hc j hj)⟩
/-- A step that turns only what is new since w. -/
theorem grown_new {w w2 w3 : World} {row row' : Option Nat} (h : w.grownBy w2 row) (hg : w2.grownBy w3 row') (hr : ∀ q, row' = some q → w.heap.size ≤ q) : w.grownBy w3 row :=
  ⟨hg.os.trans h.os, hg.tape.trans h.tape, hg.output.trans h.output, Nat.le_trans h.size hg.size, fun i hi hn => (hg.block i (Nat.lt_of_lt_of_le hi h.size) (fun e => by have := hr i e.symm; omega)).trans (h.block i hi hn)⟩

/-- Next, where only the bound of the number is wanted. -/
theorem next_lt (g : Nat) (ls : List Int) (k : Nat) (m : Int) (w : World) (hd : Dice w g ls k) (hm : 0 < m) (hm2 : m ≤ 1000000000000) :
    Calls Try.prog 21 #[.pointer (some ⟨g, 0, none⟩), .int .i64 m] w fun e w' => ∃ r k' : Nat, e = .returned (.int .i64 r) ∧ (r : Int) < m ∧ Dice w' g ls k' ∧ k ≤ k' ∧ (k' = k → r = 0) ∧ w.grownBy w' (some g) := by
  obtain ⟨m, rfl⟩ := Int.eq_ofNat_of_zero_le (show 0 ≤ m by omega)
  exact (next_any g ls k m w hd (by omega) (by omega)).mono fun e w' ⟨r, k', he, hr, hd', hk, h0, h1, hg⟩ => ⟨r, k', he, by omega, hd', hk, fun h => by
    have hk' : k ≤ ls.length := by obtain ⟨_, _, _, _, _, h, _⟩ := hd; exact h
    rcases Nat.lt_or_ge k ls.length with h2 | h2
    · have := h1 h2; omega
    · exact h0 (by omega), hg⟩

set_option maxHeartbeats 800000 in
theorem rare_any (g : Nat) (ls : List Int) (k m : Nat) (w : World) (hd : Dice w g ls k) (hm : 0 < m) (hm2 : m ≤ 1000000000000) :
    Calls Try.prog 65 #[.pointer (some ⟨g, 0, none⟩), .int .i64 m] w fun e w' => ∃ (b : Bool) (k' : Nat), e = .returned (.bool b) ∧ Dice w' g ls k' ∧ k ≤ k' ∧ w.grownBy w' (some g) := by
  go_enter Try.func65, Try.ntmps65
  go_wp2_with fail
  refine (next_lt g ls k m _ hd (by omega) (by omega)).mono ?_
  rintro e w1 ⟨r, k', rfl, hr, hd1, hk1, hx1, hg1⟩
  clear hx1
  go_wp2
  go_ret
  exact ⟨_, k', rfl, hd1, hk1, hg1⟩

set_option maxHeartbeats 1600000 in
theorem bytes_any (g : Nat) (ls : List Int) (k m : Nat) (w : World) (hd : Dice w g ls k) (hm2 : m ≤ 1000000) :
    Calls Try.prog 33 #[.pointer (some ⟨g, 0, none⟩), .int .i64 m] w fun e w' => ∃ (l : List UInt8) (A : Option Addr) (c k' : Nat), e = .returned (.slice A l.length c) ∧ l.length ≤ m ∧ w'.ownsRow w.heap.size 5 1 (.slice A l.length c) l.length (l.map bv) ∧ Dice w' g ls k' ∧ k ≤ k' ∧ w.grownBy w' (some g) := by
  have HD := Lib.hid hd
  go_enter Try.func33, Try.ntmps33
  go_wp2_with fail
  refine (next_lt g ls k _ _ hd (by omega) (by omega)).mono ?_
  rintro e w1 ⟨r, k1, rfl, hr, hd1, hk1, hx1, hg1⟩
  clear hx1
  go_wp2_with fail
  go_loopw [5, 6] (fun v5 v6 wr => ∃ (q : Nat) (l : List UInt8) (A : Option Addr) (c k' : Nat), v6 = .int .i64 q ∧ q + l.length = r ∧ v5 = .slice A l.length c ∧ wr.ownsRow w.heap.size 5 1 (.slice A l.length c) l.length (l.map bv) ∧ Dice wr g ls k' ∧ k ≤ k' ∧ w.grownBy wr (some g)) (fun _ v6 _ => (intOf v6).toNat)
  case atStart => exact ⟨r, [], none, 0, k1, rfl, by simp, rfl, World.ownsRow_nil _ _ _ _, hd1, hk1, hg1⟩
  case round =>
    obtain ⟨q, l, A, c, k', rfl, hq, rfl, own, hd, hkk, hg⟩ := hrel
    have hsz := hg.size
    by_cases h0 : 0 < q
    · obtain ⟨q, rfl⟩ : ∃ p, q = p + 1 := ⟨q - 1, by omega⟩
      have hqm : q ≤ 1000000 := by omega
      go_wp2_with fail
      refine (next_lt g ls k' 256 _ hd (by omega) (by omega)).mono ?_
      rintro e w2 ⟨x, k2, rfl, hx, hd2, hk2, hx2, hg2⟩
      clear hx2
      obtain ⟨ds, hds⟩ := hd.cells
      have own2 := own.kept hg2 (own_blk_ne own hds (by decide))
      have hxb : ((x : Nat) : Int) = ((UInt8.ofNat x).toNat : Int) := by rw [UInt8.toNat_ofNat']; omega
      obtain ⟨A3, c3, w3, hr3, own3, hg3⟩ := run_append1 (P := Try.prog) w.heap.size 27 27 5 _ 1 Try.underlying27 el5 (by omega) A l.length c _ own2 (.int .u8 x) rfl (by omega) (by have := hg2.size; omega)
      have hQ := Lib.hid hq
      clear hq
      have HXB := Lib.hid hxb
      clear hxb
      go_wp2
      go_roundw
      case rel => exact ⟨q, l ++ [UInt8.ofNat x], A3, c3, k2, by go_num, by have := hQ.out; rw [List.length_append, List.length_singleton]; omega, by rw [List.length_append]; rfl, by rw [List.length_append, List.map_append]; rw [HXB.out] at own3; exact own3, hd2.far hg3 (fun p hp => Nat.lt_of_lt_of_le HD.out.lt (own2.lt p hp).1), by omega, grown_new (grown_trans hg hg2) hg3 (fun p hp => (own2.lt p hp).1)⟩
      case measure => simp [intOf]
    · obtain rfl : q = 0 := by omega
      go_wp2
      go_ret
      exact ⟨l, A, c, k', rfl, by omega, own, hd, hkk, hg⟩
end Go.Proofs.Ytamhigknobdloaa
