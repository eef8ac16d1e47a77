/- The walks of Light, Roll, Stride and of awake of layer 16; conditions: the numbers are few. -/
import Derived.Test.YtamhigknobdloaaLd
import Derived.Deep.DeepCutAuto
namespace Go.Proofs.Ytamhigknobdloaa
open Go.RowKit
set_option linter.unusedVariables false

set_option maxHeartbeats 400000 in
theorem light_any (A : Option Addr) (n c : Nat) (w : World) : Calls Try.prog 18 #[.slice A n c] w fun e w' => e = .returned (.bool (decide (n ≤ 700))) ∧ w = w' := by
  go_enter Try.func18, Try.ntmps18
  go_wp2
  go_ret
  refine ⟨?_, rfl⟩
  by_cases h : n ≤ 700
  · have h2 : (n : Int) ≤ 700 := by omega
    simp [h, h2]
  · have h2 : ¬ (n : Int) ≤ 700 := by omega
    simp [h, h2]

set_option maxHeartbeats 400000 in
theorem roll_any (A : Option Addr) (n c : Nat) (ls : List Int) (w : World) (hn : ls.length = n) (hs : Sl w A (ls.map iv)) (hl : n ≤ 700) (hib : IB ls) :
    Calls Try.prog 20 #[.slice A n c] w fun e w' => e = .returned (.pointer (some ⟨w.heap.size, 0, none⟩)) ∧ Dice w' w.heap.size ls 0 ∧ Below w.heap.size w w' := by
  subst hn
  have hA : ∀ b off, A = some ⟨b, off, none⟩ → 0 < ls.length → b < w.heap.size := by
    intro b off h hz
    obtain ⟨b', off', h', hc⟩ := hs.at_ (k := 0) (by simpa using hz)
    rw [h] at h'
    injection h' with h'
    injection h' with e1 e2
    subst e1 e2
    exact World.block_lt_of_cell? w ⟨b, off + 0, none⟩ hc
  have hd : Dice (w.alloc (.cells #[.slice A ls.length c, .int .i64 0] 84)) w.heap.size ls 0 := ⟨A, c, heap_alloc_new w _, hs.alloc _, hA, by omega, hl, hib⟩
  have HD := Lib.hid hd
  clear hd hA
  have hb := (Below.refl w.heap.size w).alloc (Nat.le_refl _) (.cells #[.slice A ls.length c, .int .i64 0] 84)
  go_enter Try.func20, Try.ntmps20
  go_wp2
  go_ret
  exact ⟨rfl, HD.out, hb⟩

set_option maxHeartbeats 400000 in
theorem stride_any (p : Part) (w : World) (h0 : 0 ≤ p.s) (h1 : p.s ≤ 100000000) (h2 : -100000000 ≤ p.al) (h3 : p.al ≤ 100000000) : Calls Try.prog 28 #[p.val] w fun e w' => e = .returned (.int .i64 (alignI p.s p.al)) ∧ Below w.heap.size w w' := by
  have hb0 := (Below.refl w.heap.size w).alloc (Nat.le_refl _) (.cells #[.int .i64 p.s, .int .i64 p.al, .slice p.A p.sp.length p.c, p.x3, p.x4, p.x5, p.x6, p.x7] 31)
  unfold Part.val
  go_enter Try.func28, Try.ntmps28
  go_wp2_with fail
  refine (align_any _ _ _ h0 h1 h2 h3).mono ?_
  rintro e w1 ⟨rfl, rfl⟩
  go_wp2
  go_ret
  exact ⟨rfl, hb0⟩

theorem Blk.new' {w : World} {g : Nat} {t : TypeId} {cs : Array Value} (h : g = w.heap.size) : Blk (w.alloc (.cells cs t)) g t cs := by subst h; exact Blk.new w t cs
theorem blk_drew {w : World} {g : Nat} {t : TypeId} {cs : Array Value} (h : Blk w g t cs) : Blk w.drew g t cs := h
def p1 (A : Option Addr) : Part := ⟨1, 1, A, [254], 1, .slice none 0 0, .slice none 0 0, .slice none 0 0, .slice none 0 0, .bool false⟩
def p8 (A : Option Addr) : Part := ⟨8, 8, A, [0, 0, 0, 0, 0, 0, 0, 0], 8, .slice none 0 0, .slice none 0 0, .slice none 0 0, .slice none 0 0, .bool false⟩

theorem aw16R (a b : Option Addr) : layR [p1 a, p8 b, p1 a] = ⟨17, 8, [254, 0, 0, 0, 0, 0, 0, 0, 0, 0, 0, 0, 0, 0, 0, 0, 254], [0, 8, 16]⟩ := by kernel_rfl
theorem aw16S : alignI 17 8 = 24 := by decide
theorem aw16E (a b : Option Addr) : layE [p1 a, p8 b, p1 a] = 0 := by kernel_rfl
theorem blk_sl {w : World} {b : Nat} {cs : Array Value} {l : List UInt8} (h : Blk w b 5 cs) (hl : cs.toList = l.map bv) : Sl w (some ⟨b, 0, none⟩) (l.map bv) := by
  refine .inr ⟨b, 0, rfl, fun j hj => ?_⟩
  rw [h.cell, Nat.zero_add, ← Array.getElem?_toList, hl, List.getElem?_eq_getElem hj]

set_option maxHeartbeats 3200000 in
theorem awake16 (w : World) : Calls Try.prog 19 #[] w fun e w' => e = .returned (.bool true) ∧ Below w.heap.size w w' := by
  have hmk := mk8
  go_enter Try.func19, Try.ntmps19
  go_upto_region 1 with fail
  go_cut [1, 2] (fun v1 v2 wx => ∃ g1 g2 b1 b2 : Nat, v1 = .pointer (some ⟨g1, 0, none⟩) ∧ v2 = .pointer (some ⟨g2, 0, none⟩) ∧ Blk wx g1 31 #[.int .i64 1, .int .i64 1, .slice (some ⟨b1, 0, none⟩) 1 1, .slice none 0 0, .slice none 0 0, .slice none 0 0, .slice none 0 0, .bool false] ∧ Blk wx g2 31 #[.int .i64 8, .int .i64 8, .slice (some ⟨b2, 0, none⟩) 8 8, .slice none 0 0, .slice none 0 0, .slice none 0 0, .slice none 0 0, .bool false] ∧ Blk wx b1 5 #[.int .u8 254] ∧ Blk wx b2 5 #[.int .u8 0, .int .u8 0, .int .u8 0, .int .u8 0, .int .u8 0, .int .u8 0, .int .u8 0, .int .u8 0] ∧ Below w.heap.size w wx)
  case first =>
    go_region
    all_goals
      go_wp2_with fail
      go_meet
      exact ⟨_, _, _, _, rfl, rfl, by repeat (first | exact Blk.new' (by simp) | refine blk_drew ?_ | refine Blk.alloc ?_ _), by repeat (first | exact Blk.new' (by simp) | refine blk_drew ?_ | refine Blk.alloc ?_ _), by repeat (first | exact Blk.new' (by simp) | refine blk_drew ?_ | refine Blk.alloc ?_ _), by repeat (first | exact Blk.new' (by simp) | refine blk_drew ?_ | refine Blk.alloc ?_ _), by repeat (first | exact Below.refl _ _ | refine Below.drew ?_ | refine Below.alloc ?_ (by simp <;> omega) _)⟩
  case rest =>
    obtain ⟨g1, g2, b1, b2, rfl, rfl, B1, B2, C1, C2, hb⟩ := hcut
    clear hmk
    have hlt1 := B1.lt
    have hlt2 := B2.lt
    obtain ⟨⟨a0, a1, a2, a3, a4, a5, a6, a7⟩, af⟩ := B1.eight
    obtain ⟨⟨d0, d1, d2, d3, d4, d5, d6, d7⟩, df⟩ := B2.eight
    obtain ⟨wx, rfl⟩ : ∃ wx : World, wx = wc := ⟨_, rfl⟩
    have hps : Parts (wx.alloc (.cells #[.int .i64 1, .int .i64 1, .slice (some ⟨b1, 0, none⟩) 1 1, .slice none 0 0, .slice none 0 0, .slice none 0 0, .slice none 0 0, .bool false, .int .i64 8, .int .i64 8, .slice (some ⟨b2, 0, none⟩) 8 8, .slice none 0 0, .slice none 0 0, .slice none 0 0, .slice none 0 0, .bool false, .int .i64 1, .int .i64 1, .slice (some ⟨b1, 0, none⟩) 1 1, .slice none 0 0, .slice none 0 0, .slice none 0 0, .slice none 0 0, .bool false] 31)) (some ⟨wx.heap.size, 0, none⟩) [p1 (some ⟨b1, 0, none⟩), p8 (some ⟨b2, 0, none⟩), p1 (some ⟨b1, 0, none⟩)] := Sl.new wx _ 31
    have b3 := (Below.refl wx.heap.size wx).alloc (Nat.le_refl _) (.cells #[.int .i64 1, .int .i64 1, .slice (some ⟨b1, 0, none⟩) 1 1, .slice none 0 0, .slice none 0 0, .slice none 0 0, .slice none 0 0, .bool false, .int .i64 8, .int .i64 8, .slice (some ⟨b2, 0, none⟩) 8 8, .slice none 0 0, .slice none 0 0, .slice none 0 0, .slice none 0 0, .bool false, .int .i64 1, .int .i64 1, .slice (some ⟨b1, 0, none⟩) 1 1, .slice none 0 0, .slice none 0 0, .slice none 0 0, .slice none 0 0, .bool false] 31)
    have s1 : Sl wx (some ⟨b1, 0, none⟩) (([254] : List UInt8).map bv) := blk_sl C1 rfl
    have s2 : Sl wx (some ⟨b2, 0, none⟩) (([0, 0, 0, 0, 0, 0, 0, 0] : List UInt8).map bv) := blk_sl C2 rfl
    have hsp := fun (p : Part) (hp : p ∈ [p1 (some ⟨b1, 0, none⟩), p8 (some ⟨b2, 0, none⟩), p1 (some ⟨b1, 0, none⟩)]) => (show Sl (wx.alloc (.cells #[.int .i64 1, .int .i64 1, .slice (some ⟨b1, 0, none⟩) 1 1, .slice none 0 0, .slice none 0 0, .slice none 0 0, .slice none 0 0, .bool false, .int .i64 8, .int .i64 8, .slice (some ⟨b2, 0, none⟩) 8 8, .slice none 0 0, .slice none 0 0, .slice none 0 0, .slice none 0 0, .bool false, .int .i64 1, .int .i64 1, .slice (some ⟨b1, 0, none⟩) 1 1, .slice none 0 0, .slice none 0 0, .slice none 0 0, .slice none 0 0, .bool false] 31)) p.A (p.sp.map bv) from by
      simp only [List.mem_cons, List.not_mem_nil, or_false] at hp
      rcases hp with rfl | rfl | rfl
      · exact s1.below b3
      · exact s2.below b3
      · exact s1.below b3)
    have hone : ∀ p ∈ [p1 (some ⟨b1, 0, none⟩), p8 (some ⟨b2, 0, none⟩), p1 (some ⟨b1, 0, none⟩)], p.one := by
      intro p hp
      simp only [List.mem_cons, List.not_mem_nil, or_false] at hp
      rcases hp with rfl | rfl | rfl <;> exact ⟨rfl, rfl, rfl, rfl, rfl⟩
    have hb4 := below_next hb b3
    have HPS := Lib.hid hps
    have HSP := Lib.hid hsp
    have HONE := Lib.hid hone
    have HB4 := Lib.hid hb4
    clear hps hsp hone s1 s2 b3 hb hb4 B1 B2 C1 C2 hlt1 hlt2
    go_wp2_with fail
    refine (lay_any (some ⟨wx.heap.size, 0, none⟩) 3 3 [p1 (some ⟨b1, 0, none⟩), p8 (some ⟨b2, 0, none⟩), p1 (some ⟨b1, 0, none⟩)] _ rfl HPS.out (by omega) HSP.out HONE.out).mono ?_
    rintro e w5 ⟨As, cs, Ao, co, he, hSS, hSO, capS, capO, hb5⟩
    rw [aw16R, aw16E] at he
    rw [aw16R] at hSO capO
    subst he
    obtain ⟨ob, oo, rfl, o1⟩ := hSO.sl.at_ (k := 1) (by simp)
    obtain ⟨ob', oo', hoe, o2⟩ := hSO.sl.at_ (k := 2) (by simp)
    injection hoe with hoe
    injection hoe with e1 e2
    subst e1 e2
    have o1' : w5.cell? ⟨ob, oo + 1, none⟩ = some (.int .i64 8) := o1
    have o2' : w5.cell? ⟨ob, oo + 2, none⟩ = some (.int .i64 16) := o2
    have hlo := World.block_lt_of_cell? w5 ⟨ob, oo + 1, none⟩ o1'
    have hneo : ¬ w5.heap.size = ob := by
      intro h
      have hlo' : ob < w5.heap.size := hlo
      omega
    have capO' : 3 ≤ co := capO
    have hb6 := below_next HB4.out hb5
    have HB6 := Lib.hid hb6
    unfold laidV
    clear hSS hSO capS capO hb5 hb6 o1 o2 a0 a1 a2 a3 a4 a5 a6 a7 af d0 d1 d2 d3 d4 d5 d6 d7 df
    go_wp2_with fail
    refine (stride_any ⟨17, 8, As, [254, 0, 0, 0, 0, 0, 0, 0, 0, 0, 0, 0, 0, 0, 0, 0, 254], cs, .slice (some ⟨ob, oo, none⟩) 3 co, .slice none 0 0, .slice none 0 0, .slice none 0 0, .bool false⟩ _ (by show (0 : Int) ≤ 17; omega) (by show (17 : Int) ≤ 100000000; omega) (by show (-100000000 : Int) ≤ 8; omega) (by show (8 : Int) ≤ 100000000; omega)).mono ?_
    rw [show alignI (⟨17, 8, As, [254, 0, 0, 0, 0, 0, 0, 0, 0, 0, 0, 0, 0, 0, 0, 0, 254], cs, .slice (some ⟨ob, oo, none⟩) 3 co, .slice none 0 0, .slice none 0 0, .slice none 0 0, .bool false⟩ : Part).s (⟨17, 8, As, [254, 0, 0, 0, 0, 0, 0, 0, 0, 0, 0, 0, 0, 0, 0, 0, 254], cs, .slice (some ⟨ob, oo, none⟩) 3 co, .slice none 0 0, .slice none 0 0, .slice none 0 0, .bool false⟩ : Part).al = 24 from aw16S]
    rintro e w6 ⟨rfl, hb7⟩
    go_wp2
    go_ret
    exact ⟨rfl, below_next (HB6.out.alloc HB6.out.size _) hb7⟩
end Go.Proofs.Ytamhigknobdloaa
