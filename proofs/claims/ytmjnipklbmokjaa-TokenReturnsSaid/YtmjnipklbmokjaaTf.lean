/- Dice in memory, and the walks of Mod, Left, Next, Light, Roll and Text of the made texts; conditions: the numbers are few. -/
import Derived.Test.YtmjnipklbmokjaaTj
namespace Go.Proofs.Ytmjnipklbmokjaa
open Go.RowKit
set_option linter.unusedVariables false

/-- Numbers that are Go's ints. -/
def IB (l : List Int) : Prop := ∀ i ∈ l, -9223372036854775808 ≤ i ∧ i ≤ 9223372036854775807
theorem grown_trans {a b c : World} {row : Option Nat} (h : a.grownBy b row) (k : b.grownBy c row) : a.grownBy c row :=
  ⟨k.os.trans h.os, k.tape.trans h.tape, k.output.trans h.output, Nat.le_trans h.size k.size, fun i hi hn => (k.block i (Nat.lt_of_lt_of_le hi h.size) hn).trans (h.block i hi hn)⟩
theorem grown_drewN {a b : World} {row : Option Nat} (h : a.grownBy b row) (n : Nat) : a.grownBy (b.drewN n) row := ⟨h.os, h.tape, h.output, h.size, h.block⟩

/-- Dice at block g: they show the numbers ls, of which 'k' have been used. -/
def Dice (w : World) (g : Nat) (ls : List Int) (k : Nat) : Prop :=
  ∃ A c, w.heap[g]? = some (.cells #[.slice A ls.length c, .int .i64 k] 46 (0, 0)) ∧ Sl w A (ls.map iv) ∧ (∀ b off, A = some ⟨b, off, none⟩ → 0 < ls.length → b < g) ∧ k ≤ ls.length ∧ ls.length ≤ 700 ∧ IB ls
theorem Dice.below {w w' : World} {g : Nat} {ls : List Int} {k : Nat} (h : Dice w g ls k) (hb : Below w.heap.size w w') : Dice w' g ls k := by
  obtain ⟨A, c, h1, h2, h3⟩ := h
  exact ⟨A, c, (hb.block g (Array.getElem?_eq_some_iff.1 h1).1).trans h1, h2.below hb, h3⟩
theorem Dice.lt {w : World} {g : Nat} {ls : List Int} {k : Nat} (h : Dice w g ls k) : g < w.heap.size := by
  obtain ⟨A, c, h1, _⟩ := h
  exact (Array.getElem?_eq_some_iff.1 h1).1
theorem Dice.cells {w : World} {g : Nat} {ls : List Int} {k : Nat} (h : Dice w g ls k) : ∃ ds, w.heap[g]? = some (.cells ds 46 (0, 0)) := by
  obtain ⟨A, c, h1, _⟩ := h
  exact ⟨_, h1⟩

theorem tmod_emod (x m : Int) : x.tmod m % m = x % m := by
  have h := Int.mul_tdiv_add_tmod x m
  conv => rhs; rw [← h]
  rw [Int.mul_add_emod_self_left]

set_option maxHeartbeats 800000 in
theorem mod_any (x : Int) (m : Nat) (w : World) (hm : 0 < m) (hm2 : m ≤ 1000000000000) (h0 : -9223372036854775808 ≤ x) (h1 : x ≤ 9223372036854775807) :
    Calls Try.prog 16 #[.int .i64 x, .int .i64 m] w fun e w' => e = .returned (.int .i64 (x % (m : Int))) ∧ w = w' := by
  have hm0 : (0 : Int) < m := by omega
  have hmz : ((m : Int) == 0) = false := by simp; omega
  have t1 := Int.lt_tmod_of_pos x hm0
  have t2 := Int.tmod_lt_of_pos x hm0
  have te := tmod_emod x m
  have e1 := Int.emod_nonneg x (show (m : Int) ≠ 0 by omega)
  have e2 := Int.emod_lt_of_pos x hm0
  by_cases hx : 0 ≤ x
  · have TE := Lib.hid te
    clear te t1 t2
    go_enter Try.func16, Try.ntmps16
    go_wp2
    go_ret
    exact ⟨rfl, rfl⟩
  · have hmi : -(m : Int) < x.tmod m := by omega
    by_cases hneg : x.tmod m < 0
    · have hr : x.tmod m + m = x % m := by
        rw [← te]
        have h3 : (x.tmod m + m) % m = x.tmod m % m := by simp
        rw [← h3]
        exact (Int.emod_eq_of_lt (by omega) (by omega)).symm
      have HR := Lib.hid hr
      have TE := Lib.hid te
      clear hr te
      go_enter Try.func16, Try.ntmps16
      go_wp2
      go_ret
      exact ⟨by rw [← HR.out]; rfl, rfl⟩
    · have hr : x.tmod m = x % m := by
        rw [← te]
        exact (Int.emod_eq_of_lt (by omega) (by omega)).symm
      have HR := Lib.hid hr
      have TE := Lib.hid te
      clear hr te
      go_enter Try.func16, Try.ntmps16
      go_wp2
      go_ret
      exact ⟨by rw [← HR.out]; rfl, rfl⟩

set_option maxHeartbeats 800000 in
theorem left_any (g : Nat) (ls : List Int) (k : Nat) (w : World) (hd : Dice w g ls k) :
    Calls Try.prog 24 #[.pointer (some ⟨g, 0, none⟩)] w fun e w' => e = .returned (.bool (decide (k < ls.length))) ∧ ∃ n, w' = w.drewN n := by
  obtain ⟨A, c, hg, hs, hA, hk, hl, hb⟩ := hd
  have h0 : w.cell? ⟨g, 0, none⟩ = some (.slice A ls.length c) := by rw [cell_of_row _ _ _ _ _ _ hg]; rfl
  have h1 : w.cell? ⟨g, 1, none⟩ = some (.int .i64 k) := by rw [cell_of_row _ _ _ _ _ _ hg]; rfl
  clear hg hs hA hb
  go_enter Try.func24, Try.ntmps24
  go_wp2
  go_quiet (fail)
  go_wp2
  go_ret
  exact ⟨rfl, _, rfl⟩

set_option maxHeartbeats 1600000 in
theorem next_any (g : Nat) (ls : List Int) (k m : Nat) (w : World) (hd : Dice w g ls k) (hm : 0 < m) (hm2 : m ≤ 1000000000000) :
    Calls Try.prog 14 #[.pointer (some ⟨g, 0, none⟩), .int .i64 m] w fun e w' => ∃ r k' : Nat, e = .returned (.int .i64 r) ∧ r < m ∧ Dice w' g ls k' ∧ k ≤ k' ∧ (k = ls.length → r = 0) ∧ (k < ls.length → k' = k + 1) ∧ w.grownBy w' (some g) ∧ (k < ls.length → ls.getD k 0 % (m : Int) = r) := by
  have hd0 := hd
  obtain ⟨A, c, hg, hs, hA, hk, hl, hb⟩ := hd
  have h0 : w.cell? ⟨g, 0, none⟩ = some (.slice A ls.length c) := by rw [cell_of_row _ _ _ _ _ _ hg]; rfl
  have h1 : w.cell? ⟨g, 1, none⟩ = some (.int .i64 k) := by rw [cell_of_row _ _ _ _ _ _ hg]; rfl
  have hf : w.frozen? ⟨g, 1, none⟩ = false := frozen_of_row _ _ _ _ _ hg
  by_cases hlt : k < ls.length
  · obtain ⟨b, off, rfl, hc⟩ := hs.at_ (k := k) (by simpa using hlt)
    rw [List.getElem_map] at hc
    have hbg := hA b off rfl (by omega)
    have hx := hb ls[k] (List.getElem_mem hlt)
    have e1 := Int.emod_nonneg ls[k] (show (m : Int) ≠ 0 by omega)
    have e2 := Int.emod_lt_of_pos ls[k] (show (0 : Int) < m by omega)
    obtain ⟨r, hr⟩ := Int.eq_ofNat_of_zero_le e1
    have hrm : r < m := by omega
    have HR := Lib.hid hr
    have HGD : Hid (ls.getD k 0 = ls[k]) := by show _ = _; rw [List.getD_eq_getElem?_getD, List.getElem?_eq_getElem hlt]; rfl
    clear hr
    have hx0 := hx.1
    have hx1 := hx.2
    have HB := Lib.hid hb
    have HA := Lib.hid hA
    have HG := Lib.hid hg
    have HS := Lib.hid hs
    clear hx hb hA hg hs
    generalize ls[k] = x at *
    have hne : ¬ b = g := by omega
    go_enter Try.func14, Try.ntmps14
    go_wp2_with fail
    refine (left_any g ls k _ hd0).mono ?_
    rintro e w1 ⟨rfl, n, rfl⟩
    have hdl : decide (k < ls.length) = true := by simp; omega
    have hdi : k + 1 - 1 = k := by omega
    go_wp2
    go_quiet ((go_at_call 16; exact Calls.quiet_of_same ((mod_any x m _ hm hm2 hx0 hx1).mono fun _ _ h => ⟨h.1, h.2.symm⟩)))
    go_wp2
    go_ret
    refine ⟨r, k + 1, ?_, hrm, ?_, by omega, by omega, fun _ => rfl, ?_, fun _ => by rw [HGD.out]; exact HR.out⟩
    · rw [← HR.out]; rfl
    · refine ⟨_, c, heap_setCell_same w g 1 _ _ (.int .i64 ((k : Int) + 1)) HG.out, ?_, HA.out, by omega, hl, HB.out⟩
      exact HS.out.setCell (p := ⟨g, 1, none⟩) (fun b' off' he => by injection he with he; injection he with he; subst he; exact hne) _
    · exact ⟨rfl, rfl, rfl, by simp [World.setCell], fun i hi hn => Below.heap_setCell w ⟨g, 1, none⟩ _ i (fun e => hn (by rw [e]))⟩
  · have hdl : decide (k < ls.length) = false := by simp; omega
    clear hg hs hA hb h0 h1 hf
    go_enter Try.func14, Try.ntmps14
    go_wp2_with fail
    refine (left_any g ls k _ hd0).mono ?_
    rintro e w1 ⟨rfl, n, rfl⟩
    go_wp2
    go_ret
    exact ⟨0, k, rfl, hm, hd0, by omega, by omega, by omega, grown_drewN (World.grownBy.refl _ _) _, fun h => absurd h hlt⟩

theorem own_blk_ne {w : World} {base : Nat} {e t : TypeId} {size n : Nat} {v : Value} {xs : List Value} {g : Nat} {ds : Array Value} {fz : Nat × Nat} (h : w.ownsRow base e size v n xs) (hg : w.heap[g]? = some (.cells ds t fz)) (hne : e ≠ t) : v.ownBlock = none ∨ v.ownBlock ≠ some g := by
  rcases h.2 with ⟨rfl, _⟩ | ⟨g', cap, cur, rfl, _, hh, _⟩
  · exact .inl rfl
  · refine .inr fun he => ?_
    have : g' = g := by simpa [Value.ownBlock] using he
    subst this
    rw [hg] at hh
    injection hh with hh
    injection hh with _ h2
    exact hne h2.symm

/-- What an append onto an own row turns is no dice. -/
theorem Dice.far {w w' : World} {g : Nat} {ls : List Int} {k : Nat} {row : Option Nat} (h : Dice w g ls k) (hg : w.grownBy w' row) (hr : ∀ q, row = some q → g < q) : Dice w' g ls k := by
  obtain ⟨A, c, h1, h2, h3, h4⟩ := h
  refine ⟨A, c, (hg.block g (Array.getElem?_eq_some_iff.1 h1).1 (fun e => by have := hr g e.symm; omega)).trans h1, ?_, h3, h4⟩
  rcases h2 with h2 | ⟨b, off, hA, hc⟩
  · exact .inl h2
  · rcases Nat.eq_zero_or_pos ls.length with hz | hz
    · exact .inl (by rw [List.eq_nil_of_length_eq_zero hz]; rfl)
    · have hb := h3 b off hA hz
      exact .inr ⟨b, off, hA, fun j hj => (World.cell?_of_block (hg.block b (World.block_lt_of_cell? w ⟨b, off + j, none⟩ (hc j hj)) (fun e => by have := hr b e.symm; omega))).trans (hc j hj)⟩
/-- A step that turns only what is new since w. -/
theorem grown_new {w w2 w3 : World} {row row' : Option Nat} (h : w.grownBy w2 row) (hg : w2.grownBy w3 row') (hr : ∀ q, row' = some q → w.heap.size ≤ q) : w.grownBy w3 row :=
  ⟨hg.os.trans h.os, hg.tape.trans h.tape, hg.output.trans h.output, Nat.le_trans h.size hg.size, fun i hi hn => (hg.block i (Nat.lt_of_lt_of_le hi h.size) (fun e => by have := hr i e.symm; omega)).trans (h.block i hi hn)⟩

/-- Next, where only the bound of the number is wanted. -/
theorem next_lt (g : Nat) (ls : List Int) (k : Nat) (m : Int) (w : World) (hd : Dice w g ls k) (hm : 0 < m) (hm2 : m ≤ 1000000000000) :
    Calls Try.prog 14 #[.pointer (some ⟨g, 0, none⟩), .int .i64 m] w fun e w' => ∃ r k' : Nat, e = .returned (.int .i64 r) ∧ (r : Int) < m ∧ Dice w' g ls k' ∧ k ≤ k' ∧ (k' = k → r = 0) ∧ w.grownBy w' (some g) := by
  obtain ⟨m, rfl⟩ := Int.eq_ofNat_of_zero_le (show 0 ≤ m by omega)
  exact (next_any g ls k m w hd (by omega) (by omega)).mono fun e w' ⟨r, k', he, hr, hd', hk, h0, h1, hg, _⟩ => ⟨r, k', he, by omega, hd', hk, fun h => by
    have hk' : k ≤ ls.length := by obtain ⟨_, _, _, _, _, h, _⟩ := hd; exact h
    rcases Nat.lt_or_ge k ls.length with h2 | h2
    · have := h1 h2; omega
    · exact h0 (by omega), hg⟩


/-- What Next answers, and how many numbers have been used behind it. -/
def nR (ls : List Int) (k m : Nat) : Int := if k < ls.length then ls.getD k 0 % (m : Int) else 0
def nK (ls : List Int) (k : Nat) : Nat := if k < ls.length then k + 1 else k
theorem nR_nat (ls : List Int) (k m : Nat) (hm : 0 < m) : ∃ r : Nat, nR ls k m = r ∧ r < m := by
  unfold nR
  split
  · have e1 := Int.emod_nonneg (ls.getD k 0) (show (m : Int) ≠ 0 by omega)
    have e2 := Int.emod_lt_of_pos (ls.getD k 0) (show (0 : Int) < m by omega)
    exact ⟨(ls.getD k 0 % (m : Int)).toNat, by omega, by omega⟩
  · exact ⟨0, rfl, hm⟩
theorem next_is (g : Nat) (ls : List Int) (k m : Nat) (rI mI : Int) (w : World) (hd : Dice w g ls k) (hm : 0 < m) (hm2 : m ≤ 1000000000000) (hmI : mI = m) (hr : nR ls k m = rI) :
    Calls Try.prog 14 #[.pointer (some ⟨g, 0, none⟩), .int .i64 mI] w fun e w' => e = .returned (.int .i64 rI) ∧ Dice w' g ls (nK ls k) ∧ w.grownBy w' (some g) := by
  subst hmI
  refine (next_any g ls k m w hd hm hm2).mono ?_
  rintro e w' ⟨r, k', rfl, h1, h2, h3, h4, h5, h6, h7⟩
  have hk : k ≤ ls.length := by obtain ⟨_, _, _, _, _, h, _⟩ := hd; exact h
  have hk' : k' ≤ ls.length := by obtain ⟨_, _, _, _, _, h, _⟩ := h2; exact h
  unfold nR at hr
  have hnk : nK ls k = k' := by
    unfold nK
    split
    · rename_i h; rw [h5 h]
    · omega
  refine ⟨?_, by rw [hnk]; exact h2, h6⟩
  split at hr
  · rename_i h; rw [← hr, h7 h]
  · rw [← hr, h4 (by omega)]; rfl
theorem Dice.alloc {w : World} {g : Nat} {ls : List Int} {k : Nat} (h : Dice w g ls k) (o : Obj) : Dice (w.alloc o) g ls k := h.below ((Below.refl _ _).alloc (Nat.le_refl _) o)
theorem Dice.drew {w : World} {g : Nat} {ls : List Int} {k : Nat} (h : Dice w g ls k) : Dice w.drew g ls k := h
theorem Dice.drewN {w : World} {g : Nat} {ls : List Int} {k : Nat} (h : Dice w g ls k) (n : Nat) : Dice (w.drewN n) g ls k := h
theorem grown_alloc {a w : World} {row : Option Nat} (h : a.grownBy w row) (o : Obj) : a.grownBy (w.alloc o) row := grown_trans h (only_of_below ((Below.refl _ _).alloc (Nat.le_refl _) o) row)
theorem grown_drew {a w : World} {row : Option Nat} (h : a.grownBy w row) : a.grownBy w.drew row := ⟨h.os, h.tape, h.output, h.size, h.block⟩
/-- The words of made texts. -/
def textsL : List Bs := [[108, 105, 98, 114, 97, 114, 121], [99, 108, 105, 101, 110, 116], [105, 110, 116, 101, 114, 102, 97, 99, 101], [114, 101, 108, 101, 97, 115, 101], [105, 109, 112, 111, 114, 116], [115, 105, 110, 99, 101], [112, 117, 98, 108, 105, 99], [102, 114, 111, 122, 101, 110], [115, 116, 114, 117, 99, 116], [117, 110, 105, 111, 110], [116, 114, 97, 105, 116], [99, 111, 110, 102, 111, 114, 109], [102, 117, 110, 99], [102, 111, 114], [111, 102], [108, 101, 116], [105, 110], [105, 102], [116, 104, 101, 110], [101, 108, 115, 101], [112, 114, 105, 110, 116], [99, 97, 115, 101], [99, 97, 108, 108], [109, 97, 116, 99, 104], [97, 114, 114, 97, 121], [97, 116], [119, 105, 116, 104], [123], [125], [91], [93], [40], [41], [59], [58], [44], [46], [61], [61, 61], [60], [43], [45], [42], [47], [37], [45, 62], [97], [98, 49], [84, 114, 101, 101], [73, 110, 116], [66, 111, 111, 108], [83, 101, 108, 102], [48], [49], [48, 55], [57, 50, 50, 51, 51, 55, 50, 48, 51, 54, 56, 53, 52, 55, 55, 53, 56, 48, 56], [35, 32, 120, 10], [10], [36], [97, 98, 99, 100, 101, 102, 103, 104, 105, 106, 107, 108, 109, 110, 111, 112, 113]]
theorem textsL_len : textsL.length = 60 := rfl
theorem textsL_size : ∀ p ∈ textsL, p.length ≤ 20 := by decide +kernel
theorem el9 : El Try.prog 9 (.string ⟨#[]⟩) 1 16 := El.mk (by kernel_rfl) rfl (by decide)
/-- A list of bytes as a string value. -/
def bsB (p : Bs) : ByteArray := ⟨p.toArray⟩
abbrev sv (p : Bs) : Value := .string (bsB p)
theorem bsB_data (p : Bs) : (bsB p).data.toList = p := by simp [bsB]
theorem bsB_size (p : Bs) : (bsB p).size = p.length := by rw [← size_list, bsB_data]

set_option maxHeartbeats 400000 in
theorem light_any (A : Option Addr) (n c : Nat) (w : World) : Calls Try.prog 9 #[.slice A n c] w fun e w' => e = .returned (.bool (decide (n ≤ 700))) ∧ w = w' := by
  go_enter Try.func9, Try.ntmps9
  go_wp2
  go_ret
  refine ⟨?_, rfl⟩
  by_cases h : n ≤ 700
  · have h2 : (n : Int) ≤ 700 := by omega
    simp [h, h2]
  · have h2 : ¬ (n : Int) ≤ 700 := by omega
    simp [h, h2]

set_option maxHeartbeats 400000 in
theorem roll_any (A : Option Addr) (n c : Nat) (ls : List Int) (w : World) (hn : ls.length = n) (hs : Sl w A (ls.map iv)) (hl : n ≤ 700) (hib : IB ls) :
    Calls Try.prog 11 #[.slice A n c] w fun e w' => e = .returned (.pointer (some ⟨w.heap.size, 0, none⟩)) ∧ Dice w' w.heap.size ls 0 ∧ Below w.heap.size w w' := by
  subst hn
  have hA : ∀ b off, A = some ⟨b, off, none⟩ → 0 < ls.length → b < w.heap.size := by
    intro b off h hz
    obtain ⟨b', off', h', hc⟩ := hs.at_ (k := 0) (by simpa using hz)
    rw [h] at h'
    injection h' with h'
    injection h' with e1 e2
    subst e1 e2
    exact World.block_lt_of_cell? w ⟨b, off + 0, none⟩ hc
  have hd : Dice (w.alloc (.cells #[.slice A ls.length c, .int .i64 0] 46)) w.heap.size ls 0 := ⟨A, c, heap_alloc_new w _, hs.alloc _, hA, by omega, hl, hib⟩
  have HD := Lib.hid hd
  clear hd hA
  have hb := (Below.refl w.heap.size w).alloc (Nat.le_refl _) (.cells #[.slice A ls.length c, .int .i64 0] 46)
  go_enter Try.func11, Try.ntmps11
  go_wp2
  go_ret
  exact ⟨rfl, HD.out, hb⟩

theorem grown_below {w w1 w2 : World} {row : Option Nat} (h : Below w.heap.size w w1) (h' : w1.grownBy w2 row) : w.grownBy w2 row :=
  grown_trans (only_of_below h row) h'

set_option maxHeartbeats 1600000 in
set_option maxRecDepth 100000 in
theorem text_any (g : Nat) (ls : List Int) (k0 : Nat) (w : World) (hd : Dice w g ls k0) :
    Calls Try.prog 12 #[.pointer (some ⟨g, 0, none⟩), .int .i64 60] w fun e w' => ∃ (T : ByteArray) (k' : Nat), e = .returned (.string T) ∧ T.size ≤ 2000 ∧ Dice w' g ls k' ∧ w.grownBy w' (some g) := by
  have hb1 := (Below.refl w.heap.size w).alloc (Nat.le_refl _) (.cells (textsL.map sv).toArray 9)
  have hd1 := hd.below hb1
  have hgw := hd.lt
  have hP0 : Sl (w.alloc (.cells (textsL.map sv).toArray 9)) (some ⟨w.heap.size, 0, none⟩) (textsL.map sv) := Sl.new w _ 9
  have hW1 : (w.alloc (.cells #[.string ⟨#[108, 105, 98, 114, 97, 114, 121]⟩, .string ⟨#[99, 108, 105, 101, 110, 116]⟩, .string ⟨#[105, 110, 116, 101, 114, 102, 97, 99, 101]⟩, .string ⟨#[114, 101, 108, 101, 97, 115, 101]⟩, .string ⟨#[105, 109, 112, 111, 114, 116]⟩, .string ⟨#[115, 105, 110, 99, 101]⟩, .string ⟨#[112, 117, 98, 108, 105, 99]⟩, .string ⟨#[102, 114, 111, 122, 101, 110]⟩, .string ⟨#[115, 116, 114, 117, 99, 116]⟩, .string ⟨#[117, 110, 105, 111, 110]⟩, .string ⟨#[116, 114, 97, 105, 116]⟩, .string ⟨#[99, 111, 110, 102, 111, 114, 109]⟩, .string ⟨#[102, 117, 110, 99]⟩, .string ⟨#[102, 111, 114]⟩, .string ⟨#[111, 102]⟩, .string ⟨#[108, 101, 116]⟩, .string ⟨#[105, 110]⟩, .string ⟨#[105, 102]⟩, .string ⟨#[116, 104, 101, 110]⟩, .string ⟨#[101, 108, 115, 101]⟩, .string ⟨#[112, 114, 105, 110, 116]⟩, .string ⟨#[99, 97, 115, 101]⟩, .string ⟨#[99, 97, 108, 108]⟩, .string ⟨#[109, 97, 116, 99, 104]⟩, .string ⟨#[97, 114, 114, 97, 121]⟩, .string ⟨#[97, 116]⟩, .string ⟨#[119, 105, 116, 104]⟩, .string ⟨#[123]⟩, .string ⟨#[125]⟩, .string ⟨#[91]⟩, .string ⟨#[93]⟩, .string ⟨#[40]⟩, .string ⟨#[41]⟩, .string ⟨#[59]⟩, .string ⟨#[58]⟩, .string ⟨#[44]⟩, .string ⟨#[46]⟩, .string ⟨#[61]⟩, .string ⟨#[61, 61]⟩, .string ⟨#[60]⟩, .string ⟨#[43]⟩, .string ⟨#[45]⟩, .string ⟨#[42]⟩, .string ⟨#[47]⟩, .string ⟨#[37]⟩, .string ⟨#[45, 62]⟩, .string ⟨#[97]⟩, .string ⟨#[98, 49]⟩, .string ⟨#[84, 114, 101, 101]⟩, .string ⟨#[73, 110, 116]⟩, .string ⟨#[66, 111, 111, 108]⟩, .string ⟨#[83, 101, 108, 102]⟩, .string ⟨#[48]⟩, .string ⟨#[49]⟩, .string ⟨#[48, 55]⟩, .string ⟨#[57, 50, 50, 51, 51, 55, 50, 48, 51, 54, 56, 53, 52, 55, 55, 53, 56, 48, 56]⟩, .string ⟨#[35, 32, 120, 10]⟩, .string ⟨#[10]⟩, .string ⟨#[36]⟩, .string ⟨#[97, 98, 99, 100, 101, 102, 103, 104, 105, 106, 107, 108, 109, 110, 111, 112, 113]⟩] 9)) = w.alloc (.cells (textsL.map sv).toArray 9) := rfl
  have HW := Lib.hid hW1
  clear hW1
  go_enter Try.func12, Try.ntmps12
  go_wp2_with fail
  rw [HW.out]
  have HB1 := Lib.hid hb1
  clear hb1
  generalize w.alloc (.cells (textsL.map sv).toArray 9) = W1 at *
  refine (next_lt g ls k0 _ _ hd1 (by omega) (by omega)).mono ?_
  rintro e w1 ⟨r, k1, rfl, hr, hd2, hk1, hx1, hg1⟩
  clear hx1
  have hne : ∀ b off, (some (⟨w.heap.size, 0, none⟩ : Addr)) = some ⟨b, off, none⟩ → some b ≠ some g := by
    intro b off h e
    injection h with h
    injection h with h1 h2
    injection e with e
    omega
  have HNE := Lib.hid hne
  clear hne
  have hr60 : r ≤ 60 := by omega
  go_wp2_with fail
  go_loopw [6, 7] (fun v6 v7 wr => ∃ (q : Nat) (S : ByteArray) (k' : Nat), v7 = .int .i64 q ∧ v6 = .string S ∧ S.size + 21 * q ≤ 1260 ∧ Dice wr g ls k' ∧ W1.grownBy wr (some g)) (fun _ v7 _ => (intOf v7).toNat)
  case atStart => exact ⟨r, ⟨#[]⟩, k1, rfl, rfl, by have : (⟨#[]⟩ : ByteArray).size = 0 := rfl; omega, hd2, hg1⟩
  case round =>
    obtain ⟨q, S, k', rfl, rfl, hS, hd3, hg3⟩ := hrel
    by_cases h0 : 0 < q
    · obtain ⟨q, rfl⟩ : ∃ p, q = p + 1 := ⟨q - 1, by omega⟩
      have hqm : q ≤ 1000 := by omega
      go_wp2_with fail
      refine (next_lt g ls k' 60 _ hd3 (by omega) (by omega)).mono ?_
      rintro e w2 ⟨j, k2, rfl, hj, hd4, hk2, hx2, hg4⟩
      clear hx2
      have hg5 := grown_trans hg3 hg4
      have hj60 : j < 60 := by omega
      obtain ⟨pb, po, hpe, hcp⟩ := (hP0.grown hg5 HNE.out).at_ (k := j) (by rw [List.length_map, textsL_len]; exact hj60)
      injection hpe with hpe
      injection hpe with e1 e2
      subst e1 e2
      rw [List.getElem_map, Nat.zero_add] at hcp
      have hPs : (bsB (textsL[j]'(by rw [textsL_len]; exact hj60))).size ≤ 20 := by rw [bsB_size]; exact textsL_size _ (List.getElem_mem _)
      have hcp' : w2.cell? ⟨w.heap.size, j, none⟩ = some (.string (bsB (textsL[j]'(by rw [textsL_len]; exact hj60)))) := hcp
      clear hcp
      generalize bsB (textsL[j]'(by rw [textsL_len]; exact hj60)) = P at *
      go_wp2_with fail
      refine (next_lt g ls k2 6 _ hd4 (by omega) (by omega)).mono ?_
      rintro e w3 ⟨y, k3, rfl, hy, hd6, hk3, hx3, hg6⟩
      clear hx3
      have hg7 := grown_trans hg5 hg6
      have HG := Lib.hid hg7
      have HD := Lib.hid hd6
      clear hg3 hg4 hg5 hg6 hg7 hd3 hd4 hd6 hcp'
      by_cases hy0 : 0 < y
      · have GS : Hid ((S ++ P ++ ⟨#[32]⟩).size = S.size + P.size + 1) := by
          show _ = _
          rw [app_size, app_size]; rfl
        go_wp2
        go_roundw
        case rel => exact ⟨q, _, k3, by go_num, rfl, by have := GS.out; omega, HD.out, HG.out⟩
        case measure => simp [intOf]
      · have GS : Hid ((S ++ P).size = S.size + P.size) := by
          show _ = _
          rw [app_size]
        go_wp2
        go_roundw
        case rel => exact ⟨q, _, k3, by go_num, rfl, by have := GS.out; omega, HD.out, HG.out⟩
        case measure => simp [intOf]
    · obtain rfl : q = 0 := by omega
      go_wp2
      go_ret
      exact ⟨S, k', rfl, by omega, hd3, grown_below HB1.out hg3⟩
end Go.Proofs.Ytmjnipklbmokjaa
