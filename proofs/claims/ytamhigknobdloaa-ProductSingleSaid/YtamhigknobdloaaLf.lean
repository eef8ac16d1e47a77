/- The walk of the law ProductSingle; no condition but that the numbers are readable. -/
import Derived.Test.YtamhigknobdloaaLe
namespace Go.Proofs.Ytamhigknobdloaa
open Go.RowKit
set_option linter.unusedVariables false

theorem Rows2.dices {W w w' : World} {gd : Nat} {ls : List Int} {k k' : Nat} {v7 : Value} {m : Nat} {ps : List Part} {A8 : Option Addr} {qs : List Part} (h : Rows2 W gd ls k v7 m ps A8 qs w) (hd : Dice w' gd ls k') (hg : w.grownBy w' (some gd)) : Rows2 W gd ls k' v7 m ps A8 qs w' := by
  obtain ⟨ds, hds⟩ := h.dice.cells
  refine ⟨h.own.kept hg (own_blk_ne h.own hds (by decide)), Sl.grown h.sl hg (fun b off e hh => ?_), fun b off e => ⟨Nat.lt_of_lt_of_le (h.far b off e).1 hg.size, (h.far b off e).2⟩, hd, h.gdl, grown_trans h.grown hg, fun p hp => (h.small p hp).grown hg hds (by decide)⟩
  have := (h.far b off e).2.1
  have := h.gdl
  injection hh with hh
  omega
theorem sumS_le (ps : List Part) (h : ∀ p ∈ ps, 0 ≤ p.s ∧ p.s ≤ 9) : sumS ps ≤ 9 * ps.length := by
  induction ps with
  | nil => simp [sumS]
  | cons p t ih =>
    have h1 := h p (List.mem_cons_self ..)
    have h2 := ih (fun q hq => h q (List.mem_cons_of_mem _ hq))
    simp only [sumS, List.length_cons]
    push_cast
    omega
theorem small_s {w : World} {p : Part} (h : Small w p) : 0 ≤ p.s ∧ p.s ≤ 9 := by
  have h1 := h.s
  have h2 := h.len
  omega
theorem small_valid {w : World} {p : Part} (h : Small w p) : p.valid = true := by
  have h1 := h.s
  have h2 := h.len
  exact (valid_iff p).2 ⟨by omega, by omega, .inl h.al, h1.symm⟩
def smallP (A : Option Addr) (l : List UInt8) (c : Nat) : Part := ⟨l.length, 1, A, l, c, .slice none 0 0, .slice none 0 0, .slice none 0 0, .slice none 0 0, .bool false⟩

set_option maxHeartbeats 6400000 in
set_option maxRecDepth 100000 in
theorem single_walk (A : Option Addr) (n c : Nat) (ls : List Int) (w : World) (hn : ls.length = n) (hs : Sl w A (ls.map iv)) (hn63 : n ≤ 9223372036854775807) (hib : IB ls) :
    Calls Try.prog 5 #[.slice A n c] w fun e w' => e = .returned (.bool true) ∧ Below w.heap.size w w' := by
  have HIB := Lib.hid hib
  have HN := Lib.hid hn
  clear hib hn
  by_cases hl : n ≤ 700
  · have hl' : decide (n ≤ 700) = true := by simpa using hl
    go_enter Try.func5, Try.ntmps5
    go_wp2_with fail
    refine (light_any _ _ _ _).mono ?_
    rw [hl']
    rintro e w1 ⟨rfl, rfl⟩
    go_wp2_with fail
    refine (roll_any _ _ _ ls _ HN.out hs hl HIB.out).mono ?_
    rintro e W0 ⟨rfl, hd1, hbW⟩
    have hgdW : w.heap.size < W0.heap.size := hd1.lt
    obtain ⟨gd, hgd⟩ : ∃ gd, gd = w.heap.size := ⟨_, rfl⟩
    rw [← hgd] at hd1 hgdW ⊢
    have HGD := Lib.hid hgd
    have HBW := Lib.hid hbW
    clear hgd hbW hs hl'
    go_wp2_with fail
    refine (layout_any _ gd ls 0 _ hd1 (Nat.le_refl _)).mono ?_
    rintro e W2 ⟨⟨s1, al1, A1, sp1, c1, x31, x41, x51, x61, x71⟩, k1, he, m1, hd2, hk1, hg2⟩
    have he' : e = .returned (.agg #[.int .i64 s1, .int .i64 al1, .slice A1 sp1.length c1, x31, x41, x51, x61, x71]) := he
    subst he'
    have hszW := hg2.size
    have hone := m1.one
    have sx3 := store_var (P := Try.prog) hone.h3
    have sx4 := store_var (P := Try.prog) hone.h4
    have sx5 := store_var (P := Try.prog) hone.h5
    have sx6 := store_var (P := Try.prog) hone.h6
    have sx7 := store_var (P := Try.prog) hone.h7
    have hbn := (Below.refl W2.heap.size W2).alloc (Nat.le_refl _) (.cells #[.int .i64 s1, .int .i64 al1, .slice A1 sp1.length c1, x31, x41, x51, x61, x71] 31)
    have hP := Blk.new W2 31 #[.int .i64 s1, .int .i64 al1, .slice A1 sp1.length c1, x31, x41, x51, x61, x71]
    have HONE := Lib.hid hone
    have M1 := Lib.hid m1
    have HG2 := Lib.hid hg2
    clear hone m1 he hd1 hg2
    go_upto_if 26 with ((go_at_call 27; refine (rvalid_any _ _ _ _ _ _ _ _ _ _ _).mono ?_; rintro e W3 ⟨rfl, hb3⟩))
    have hb23 := below_next hbn hb3
    have hP3 := hP.below hb3
    have hd3 := hd2.below hb23
    have m3 := M1.out.below hb23
    have hlt2 : W2.heap.size < W3.heap.size := hP3.lt
    have hgW := grown_trans HG2.out (only_of_below hb23 (some gd))
    have HGW := Lib.hid hgW
    clear hd2 hb3 hbn hP sx3 sx4 sx5 sx6 sx7 hgW hb23
    go_cut [4] (fun v4 wx => Below W3.heap.size W3 wx)
    case first =>
      cases hv : validB s1 al1 sp1.length with
      | false =>
        go_wp2_with fail
        go_meet
        exact Below.refl _ _
      | true =>
        have hval : (⟨s1, al1, A1, sp1, c1, x31, x41, x51, x61, x71⟩ : Part).valid = true := hv
        obtain ⟨⟨b0, b1, b2, b3, b4, b5, b6, b7⟩, bf⟩ := hP3.eight
        have hbs := (Below.refl W3.heap.size W3).alloc (Nat.le_refl _) (.cells #[.int .i64 s1, .int .i64 al1, .slice A1 sp1.length c1, x31, x41, x51, x61, x71] 31)
        have hps : Parts (W3.alloc (.cells #[.int .i64 s1, .int .i64 al1, .slice A1 sp1.length c1, x31, x41, x51, x61, x71] 31)) (some ⟨W3.heap.size, 0, none⟩) [⟨s1, al1, A1, sp1, c1, x31, x41, x51, x61, x71⟩] := Sl.new W3 _ 31
        have hsp : ∀ p ∈ [(⟨s1, al1, A1, sp1, c1, x31, x41, x51, x61, x71⟩ : Part)], Sl (W3.alloc (.cells #[.int .i64 s1, .int .i64 al1, .slice A1 sp1.length c1, x31, x41, x51, x61, x71] 31)) p.A (p.sp.map bv) := by
          intro p hp
          rw [List.mem_singleton.1 hp]
          exact m3.sp.sl.below hbs
        have hon : ∀ p ∈ [(⟨s1, al1, A1, sp1, c1, x31, x41, x51, x61, x71⟩ : Part)], p.one := by
          intro p hp
          rw [List.mem_singleton.1 hp]
          exact m3.one
        have hlay := lay_single _ hval
        obtain ⟨hE, hR⟩ := layE_some (by intro p hp; rw [List.mem_singleton.1 hp]; exact hval) hlay
        have HPS := Lib.hid hps
        have HSP := Lib.hid hsp
        have HON := Lib.hid hon
        have HE := Lib.hid hE
        have HR := Lib.hid hR
        have HBS := Lib.hid hbs
        have HP3 := Lib.hid hP3
        have M3 := Lib.hid m3
        clear hps hsp hon hE hR hlay hval hv hbs hP3 m3
        go_wp2_with fail
        refine (lay_any _ 1 1 [⟨s1, al1, A1, sp1, c1, x31, x41, x51, x61, x71⟩] _ rfl HPS.out (by omega) HSP.out HON.out).mono ?_
        rintro e W4 ⟨As, cs, Ao, co, he, hSS, hSO, capS, capO, hb4⟩
        rw [HR.out, HE.out] at he
        rw [HR.out] at hSS hSO capO
        have he' : e = .returned (.tuple #[.agg #[.int .i64 s1, .int .i64 al1, .slice As sp1.length cs, .slice Ao 1 co, .slice none 0 0, .slice none 0 0, .slice none 0 0, .bool false], .int .i64 0]) := he
        subst he'
        obtain ⟨ob, oo, rfl, o1⟩ := hSO.sl.at_ (k := 0) (by simp)
        have o1' : W4.cell? ⟨ob, oo, none⟩ = some (.int .i64 0) := o1
        have hlo : ob < W4.heap.size := World.block_lt_of_cell? W4 ⟨ob, oo, none⟩ o1'
        have hneo : ¬ W4.heap.size = ob := by omega
        have capO' : 1 ≤ co := capO
        have hb34 := below_next HBS.out hb4
        have hP4 := HP3.out.below hb34
        have hlt4 : W2.heap.size < W4.heap.size := hP4.lt
        have hne4 : ¬ W4.heap.size = W2.heap.size := by omega
        have hne5 : ¬ W2.heap.size = W4.heap.size := by omega
        obtain ⟨⟨d0, d1, d2, d3, d4, d5, d6, d7⟩, df⟩ := hP4.eight
        have m4 := M3.out.below hb34
        have cw1 := run_convb (P := Try.prog) (W4.alloc (.cells #[.int .i64 s1, .int .i64 al1, .slice As sp1.length cs, .slice (some ⟨ob, oo, none⟩) 1 co, .slice none 0 0, .slice none 0 0, .slice none 0 0, .bool false] 31)) 27 9 5 As sp1.length cs sp1 Try.underlying27 Try.underlying5 Try.underlying9 (hSS.sl.alloc _) rfl
        have cw2 := run_convb (P := Try.prog) (W4.alloc (.cells #[.int .i64 s1, .int .i64 al1, .slice As sp1.length cs, .slice (some ⟨ob, oo, none⟩) 1 co, .slice none 0 0, .slice none 0 0, .slice none 0 0, .bool false] 31)) 27 9 5 A1 sp1.length c1 sp1 Try.underlying27 Try.underlying5 Try.underlying9 (m4.sp.sl.alloc _) rfl
        have hs1 : (s1 != s1) = false := by simp
        have ha1 : (al1 != al1) = false := by simp
        have hbl := (Below.refl W4.heap.size W4).alloc (Nat.le_refl _) (.cells #[.int .i64 s1, .int .i64 al1, .slice As sp1.length cs, .slice (some ⟨ob, oo, none⟩) 1 co, .slice none 0 0, .slice none 0 0, .slice none 0 0, .bool false] 31)
        have HBL := Lib.hid (below_next hb34 hbl)
        clear he hSS hSO capS capO o1 b0 b1 b2 b3 b4 b5 b6 b7 bf hb4 hb34 hP4 d3 d4 d5 d6 d7 df m4 hbl
        go_wp2_with fail
        go_meet
        exact HBL.out
    case rest =>
      have hbw3 := hcut
      have hgWc := grown_trans HGW.out (only_of_below hbw3 (some gd))
      have hd4 := hd3.below hbw3
      have hbwc : Below w.heap.size w wc := HBW.out.grown hgWc HBW.out.size (fun q hq => by injection hq with hq; rw [← hq, HGD.out]; exact Nat.le_refl _)
      have hgdc : gd < wc.heap.size := hd4.lt
      have HBWC := Lib.hid hbwc
      clear hcut hbw3 hgWc hd3 hlt2 hszW hP3 m3 HG2 M1 HONE hbwc HBW
      obtain ⟨W, rfl⟩ : ∃ W : World, W = wc := ⟨_, rfl⟩
      go_wp2_with fail
      refine (next_lt gd ls _ 9 _ hd4 (by omega) (by omega)).mono ?_
      rintro e W5 ⟨r, k5, rfl, hr, hd5, hk5, hx5, hg5⟩
      clear hx5
      have hr8 : r ≤ 8 := by omega
      have hrows : Rows2 W gd ls k5 (.slice none 0 0) 0 [] none [] W5 := ⟨World.ownsRow_nil _ _ _ _, Sl.nil, (by intro b off e; cases e), hd5, hgdc, hg5, (by intro p hp; simp at hp)⟩
      clear hd4 hd5 hg5
      go_wp2_with fail
      go_loopw [7, 8, 9, 10] (fun v7 v8 v9 v10 wr => ∃ (q k m : Nat) (A7 A8 : Option Addr) (c7 c8 : Nat) (ps : List Part), v10 = .int .i64 q ∧ ps.length = m ∧ m + q ≤ 8 ∧ v7 = .slice A7 m c7 ∧ v8 = .slice A8 m c8 ∧ v9 = .int .i64 (sumS ps) ∧ Rows2 W gd ls k (.slice A7 m c7) m ps A8 ps.reverse wr) (fun _ _ _ v10 _ => (intOf v10).toNat)
      case atStart => exact ⟨r, k5, 0, none, none, 0, 0, [], rfl, rfl, by omega, rfl, rfl, rfl, hrows⟩
      case round =>
        obtain ⟨q, k, m, A7, A8, c7, c8, ps, rfl, hm, hmq, rfl, rfl, rfl, H⟩ := hrel
        clear hrows
        by_cases h0 : 0 < q
        · obtain ⟨q, rfl⟩ : ∃ p, q = p + 1 := ⟨q - 1, by omega⟩
          have HM := Lib.hid hm
          have HROWS := Lib.hid H
          have hss := sumS_le ps (fun p hp => small_s (H.small p hp))
          have hs0 := sumS_nonneg ps (fun p hp => (small_s (H.small p hp)).1)
          rw [hm] at hss
          clear hm H
          go_wp2_with fail
          refine (bytes_any gd ls k 9 _ HROWS.out.dice (by omega)).mono ?_
          rintro e W6 ⟨l, A6, c6, k6, rfl, hll, own6, hd6, hk6, hg6⟩
          have H6 := HROWS.out.dices hd6 hg6
          have hse := SlE.of_own own6
          have H7 := H6.alloc (.cells #[.int .i64 l.length, .int .i64 1, .slice A6 l.length c6, .slice none 0 0, .slice none 0 0, .slice none 0 0, .slice none 0 0, .bool false] 31)
          have hf0 := far_lt H6.own (Nat.le_refl W6.heap.size)
          have hB0 := Blk.new W6 31 #[.int .i64 l.length, .int .i64 1, .slice A6 l.length c6, .slice none 0 0, .slice none 0 0, .slice none 0 0, .slice none 0 0, .bool false]
          have hsm : Small (W6.alloc (.cells #[.int .i64 l.length, .int .i64 1, .slice A6 l.length c6, .slice none 0 0, .slice none 0 0, .slice none 0 0, .slice none 0 0, .bool false] 31)) (smallP A6 l c6) := ⟨hse.below ((Below.refl _ _).alloc (Nat.le_refl _) _), ⟨rfl, rfl, rfl, rfl, rfl⟩, rfl, rfl, hll⟩
          obtain ⟨W7, hW7⟩ : ∃ W7, W7 = W6.alloc (.cells #[.int .i64 l.length, .int .i64 1, .slice A6 l.length c6, .slice none 0 0, .slice none 0 0, .slice none 0 0, .slice none 0 0, .bool false] 31) := ⟨_, rfl⟩
          have hB0' : Blk W7 W6.heap.size 31 #[.int .i64 l.length, .int .i64 1, .slice A6 l.length c6, .slice none 0 0, .slice none 0 0, .slice none 0 0, .slice none 0 0, .bool false] := by rw [hW7]; exact hB0
          rw [← hW7] at H7 hsm
          have hlt0 : W6.heap.size < W7.heap.size := hB0'.lt
          have HW7 := Lib.hid hW7
          have hf1 := far_lt H7.own (Nat.le_refl W7.heap.size)
          have hf2 : (Value.slice A7 m c7).ownBlock ≠ some (W7.heap.size + 1) := far_lt H7.own (by omega)
          have hszW7 := H7.grown.size
          obtain ⟨g0, hg0⟩ : ∃ g0, g0 = W6.heap.size := ⟨_, rfl⟩
          rw [← hg0] at hf0 hlt0 hB0'
          have HG0 := Lib.hid hg0
          have HB0 := Lib.hid hB0'
          have HR := Lib.hid H7
          have HS := Lib.hid hsm
          have HF1 := Lib.hid hf1
          have HF2 := Lib.hid hf2
          have HF0 := Lib.hid hf0
          have hqs : ∀ q ∈ ps.reverse, q.one := fun q hq => (H7.small q (List.mem_reverse.1 hq)).one
          have HQS := Lib.hid hqs
          clear hW7 hg0 hB0' hB0 H6 H7 hsm hf1 hf2 hf0 hqs hse own6 hd6 hg6 HROWS
          go_wp2_with fail
          rw [← HW7.out, ← HG0.out]
          obtain ⟨⟨a0, a1, a2, a3, a4, a5, a6, a7⟩, af⟩ := HB0.out.eight
          have hwr : IntKind.i64.wrap (sumS ps + (l.length : Int)) = sumS ps + (l.length : Int) := by rw [IntKind.wrap_i64]; omega
          go_region_law (first | (refine step7 (W := W) (gd := gd) (ls := ls) (k := k6) (v7 := .slice A7 m c7) (m := m) (ps := ps) (A8 := A'') (qs := smallP A6 l c6 :: ps.reverse) rfl (.tmp 83) (.tmp 85) rfl rfl _ rfl ?_ (smallP A6 l c6) ?_ ?_ ?_ ?_; (focus (repeat (first | with_reducible exact hR8 | with_reducible exact hR7 | with_reducible exact HR.out | with_reducible refine Rows2.drew ?_ | with_reducible refine Rows2.alloc ?_ _))); (focus (change Blk _ _ 31 #[.int .i64 l.length, .int .i64 1, .slice A6 l.length c6, .slice none 0 0, .slice none 0 0, .slice none 0 0, .slice none 0 0, .bool false]; (repeat (first | (with_reducible refine Blk.new' ?_; (focus (first | (simp; done) | rfl))) | with_reducible refine blk_drew ?_ | with_reducible refine Blk.alloc ?_ _ | (with_reducible refine hK8.blk _ _ _ ?_ ?_; rotate_left; (focus (first | (simp; done) | rfl))) | (with_reducible refine hK7.blk _ _ _ ?_ ?_; rotate_left; (first | with_reducible exact HF1.out | with_reducible exact HF2.out)))))); (focus (repeat (first | with_reducible exact hS8 | with_reducible exact hS7 | with_reducible exact HS.out | with_reducible refine Small.drew ?_ | with_reducible refine Small.alloc ?_ _))); omega; intro A' c' w' hR7 hS7 hK7 hN7; have hB7 := hK7.blk g0 31 #[.int .i64 l.length, .int .i64 1, .slice A6 l.length c6, .slice none 0 0, .slice none 0 0, .slice none 0 0, .slice none 0 0, .bool false] ?_ HF0.out; rotate_left; (focus (repeat (first | with_reducible exact HB0.out | with_reducible exact hB7 | with_reducible exact hB8 | with_reducible refine blk_drew ?_ | with_reducible refine Blk.alloc ?_ _))); have hz7 := hK7.size; (try simp at hz7); obtain ⟨⟨e0, e1, e2, e3, e4, e5, e6, e7⟩, ef⟩ := hB7.eight; have hz7' : g0 < w'.heap.size := hB7.lt; have hz7'' : W7.heap.size < w'.heap.size := ?_; rotate_left; omega) | (refine step7 (W := W) (gd := gd) (ls := ls) (k := k6) (v7 := .slice A7 m c7) (m := m) (ps := ps) (A8 := A8) (qs := ps.reverse) rfl (.tmp 83) (.tmp 85) rfl rfl _ rfl ?_ (smallP A6 l c6) ?_ ?_ ?_ ?_; (focus (repeat (first | with_reducible exact hR8 | with_reducible exact hR7 | with_reducible exact HR.out | with_reducible refine Rows2.drew ?_ | with_reducible refine Rows2.alloc ?_ _))); (focus (change Blk _ _ 31 #[.int .i64 l.length, .int .i64 1, .slice A6 l.length c6, .slice none 0 0, .slice none 0 0, .slice none 0 0, .slice none 0 0, .bool false]; (repeat (first | (with_reducible refine Blk.new' ?_; (focus (first | (simp; done) | rfl))) | with_reducible refine blk_drew ?_ | with_reducible refine Blk.alloc ?_ _ | (with_reducible refine hK8.blk _ _ _ ?_ ?_; rotate_left; (focus (first | (simp; done) | rfl))) | (with_reducible refine hK7.blk _ _ _ ?_ ?_; rotate_left; (first | with_reducible exact HF1.out | with_reducible exact HF2.out)))))); (focus (repeat (first | with_reducible exact hS8 | with_reducible exact hS7 | with_reducible exact HS.out | with_reducible refine Small.drew ?_ | with_reducible refine Small.alloc ?_ _))); omega; intro A' c' w' hR7 hS7 hK7 hN7; have hB7 := hK7.blk g0 31 #[.int .i64 l.length, .int .i64 1, .slice A6 l.length c6, .slice none 0 0, .slice none 0 0, .slice none 0 0, .slice none 0 0, .bool false] ?_ HF0.out; rotate_left; (focus (repeat (first | with_reducible exact HB0.out | with_reducible exact hB7 | with_reducible exact hB8 | with_reducible refine blk_drew ?_ | with_reducible refine Blk.alloc ?_ _))); have hz7 := hK7.size; (try simp at hz7); obtain ⟨⟨e0, e1, e2, e3, e4, e5, e6, e7⟩, ef⟩ := hB7.eight; have hz7' : g0 < w'.heap.size := hB7.lt; have hz7'' : W7.heap.size < w'.heap.size := ?_; rotate_left; omega) | (refine step8 (W := W) (gd := gd) (ls := ls) (k := k6) (v7 := .slice A7 m c7) (m := m) (ps := ps) (A8 := A8) (qs := ps.reverse) rfl (.tmp 88) (.tmp 89) rfl _ rfl m _ rfl ?_ ?_ (smallP A6 l c6) ?_ ?_ ?_ HQS.out ?_ ?_ ?_; (focus (repeat (first | with_reducible exact hR8 | with_reducible exact hR7 | with_reducible exact HR.out | with_reducible refine Rows2.drew ?_ | with_reducible refine Rows2.alloc ?_ _))); (rw [List.length_reverse]; exact HM.out); (focus (change Blk _ _ 31 #[.int .i64 l.length, .int .i64 1, .slice A6 l.length c6, .slice none 0 0, .slice none 0 0, .slice none 0 0, .slice none 0 0, .bool false]; (repeat (first | (with_reducible refine Blk.new' ?_; (focus (first | (simp; done) | rfl))) | with_reducible refine blk_drew ?_ | with_reducible refine Blk.alloc ?_ _ | (with_reducible refine hK8.blk _ _ _ ?_ ?_; rotate_left; (focus (first | (simp; done) | rfl))) | (with_reducible refine hK7.blk _ _ _ ?_ ?_; rotate_left; (first | with_reducible exact HF1.out | with_reducible exact HF2.out)))))); (focus (first | omega | (simp; done) | (simp; omega))); (first | with_reducible exact HF1.out | with_reducible exact HF2.out); (focus (repeat (first | with_reducible exact hS8 | with_reducible exact hS7 | with_reducible exact HS.out | with_reducible refine Small.drew ?_ | with_reducible refine Small.alloc ?_ _))); omega; intro A'' c'' w'' hR8 hS8 hK8; have hB8 := hK8.blk g0 31 #[.int .i64 l.length, .int .i64 1, .slice A6 l.length c6, .slice none 0 0, .slice none 0 0, .slice none 0 0, .slice none 0 0, .bool false] ?_ ?_; rotate_left; (focus (repeat (first | with_reducible exact HB0.out | with_reducible exact hB7 | with_reducible exact hB8 | with_reducible refine blk_drew ?_ | with_reducible refine Blk.alloc ?_ _))); (focus (first | omega | (simp; done) | (simp; omega))); have hz8 := hK8.size; (try simp at hz8); obtain ⟨⟨f0, f1, f2, f3, f4, f5, f6, f7⟩, ff⟩ := hB8.eight; have hz8' : g0 < w''.heap.size := hB8.lt; have hz8'' : W7.heap.size < w''.heap.size := ?_; rotate_left; omega) | (refine step8 (W := W) (gd := gd) (ls := ls) (k := k6) (v7 := .slice A' (m + 1) c') (m := (m + 1)) (ps := (ps ++ [smallP A6 l c6])) (A8 := A8) (qs := ps.reverse) rfl (.tmp 88) (.tmp 89) rfl _ rfl m _ rfl ?_ ?_ (smallP A6 l c6) ?_ ?_ ?_ HQS.out ?_ ?_ ?_; (focus (repeat (first | with_reducible exact hR8 | with_reducible exact hR7 | with_reducible exact HR.out | with_reducible refine Rows2.drew ?_ | with_reducible refine Rows2.alloc ?_ _))); (rw [List.length_reverse]; exact HM.out); (focus (change Blk _ _ 31 #[.int .i64 l.length, .int .i64 1, .slice A6 l.length c6, .slice none 0 0, .slice none 0 0, .slice none 0 0, .slice none 0 0, .bool false]; (repeat (first | (with_reducible refine Blk.new' ?_; (focus (first | (simp; done) | rfl))) | with_reducible refine blk_drew ?_ | with_reducible refine Blk.alloc ?_ _ | (with_reducible refine hK8.blk _ _ _ ?_ ?_; rotate_left; (focus (first | (simp; done) | rfl))) | (with_reducible refine hK7.blk _ _ _ ?_ ?_; rotate_left; (first | with_reducible exact HF1.out | with_reducible exact HF2.out)))))); (focus (first | omega | (simp; done) | (simp; omega))); (first | (refine far_lt hR7.own ?_; (focus (first | (simp; done) | rfl))) | (refine hN7 _ ?_ ?_; (first | with_reducible exact HF1.out | with_reducible exact HF2.out); (focus (first | omega | (simp; done) | (simp; omega))))); (focus (repeat (first | with_reducible exact hS8 | with_reducible exact hS7 | with_reducible exact HS.out | with_reducible refine Small.drew ?_ | with_reducible refine Small.alloc ?_ _))); omega; intro A'' c'' w'' hR8 hS8 hK8; have hB8 := hK8.blk g0 31 #[.int .i64 l.length, .int .i64 1, .slice A6 l.length c6, .slice none 0 0, .slice none 0 0, .slice none 0 0, .slice none 0 0, .bool false] ?_ ?_; rotate_left; (focus (repeat (first | with_reducible exact HB0.out | with_reducible exact hB7 | with_reducible exact hB8 | with_reducible refine blk_drew ?_ | with_reducible refine Blk.alloc ?_ _))); (focus (first | omega | (simp; done) | (simp; omega))); have hz8 := hK8.size; (try simp at hz8); obtain ⟨⟨f0, f1, f2, f3, f4, f5, f6, f7⟩, ff⟩ := hB8.eight; have hz8' : g0 < w''.heap.size := hB8.lt; have hz8'' : W7.heap.size < w''.heap.size := ?_; rotate_left; omega))
          all_goals
            clear hN7 hK7 hK8 e0 e1 e2 e3 e4 e5 e6 e7 ef f0 f1 f2 f3 f4 f5 f6 f7 ff hwr a0 a1 a2 a3 a4 a5 a6 a7 af hB7 hB8
            go_wp2
            go_roundw
            case rel => exact ⟨q, k6, m + 1, A', A'', c', c'', ps ++ [smallP A6 l c6], by go_num, by rw [List.length_append, HM.out]; rfl, by omega, rfl, by rw [Nat.add_comm 1 m], by rw [sumS_append]; simp [sumS, smallP], by rw [List.reverse_concat]; first | exact hR8 | exact hR7⟩
            case measure => simp [intOf]
        · obtain rfl : q = 0 := by omega
          have hv : ∀ p ∈ ps, p.valid = true := fun p hp => small_valid (H.small p hp)
          have hv' : ∀ p ∈ ps.reverse, p.valid = true := fun p hp => hv p (List.mem_reverse.1 hp)
          have hss := sumS_le ps (fun p hp => small_s (H.small p hp))
          have hs0 := sumS_nonneg ps (fun p hp => (small_s (H.small p hp)).1)
          rw [hm] at hss
          obtain ⟨L, l1, l2, l3⟩ := lay_ones ps Laid.start rfl (fun p hp => ⟨(small_s (H.small p hp)).1, (H.small p hp).al⟩) (by show (0 : Int) + sumS ps ≤ 1024; omega)
          obtain ⟨M, m1, m2, m3⟩ := lay_ones ps.reverse Laid.start rfl (fun p hp => ⟨(small_s (H.small p (List.mem_reverse.1 hp))).1, (H.small p (List.mem_reverse.1 hp)).al⟩) (by rw [sumS_reverse]; show (0 : Int) + sumS ps ≤ 1024; omega)
          rw [sumS_reverse] at m2
          have l2' : L.s = sumS ps := by rw [l2]; show (0 : Int) + sumS ps = _; omega
          have m2' : M.s = sumS ps := by rw [m2]; show (0 : Int) + sumS ps = _; omega
          obtain ⟨hE, hR⟩ := layE_some hv l1
          obtain ⟨hE', hR'⟩ := layE_some hv' m1
          have HM := Lib.hid hm
          have HH := Lib.hid H
          have HL := Lib.hid l2'
          have HL3 := Lib.hid l3
          have HMS := Lib.hid m2'
          have HE := Lib.hid hE
          have HR := Lib.hid hR
          have HE' := Lib.hid hE'
          have HR' := Lib.hid hR'
          have hbr : Below w.heap.size w wr := HBWC.out.grown H.grown HBWC.out.size (fun q hq => by injection hq with hq; rw [← hq, HGD.out]; exact Nat.le_refl _)
          have HBR := Lib.hid hbr
          clear hv hv' hss l1 l2 l3 m1 m2 m3 l2' m2' hE hR hE' hR' hm H hbr
          go_wp2_with fail
          refine (lay_any A7 m c7 ps _ HM.out (parts_own HH.out.own) (by omega) (fun p hp => (HH.out.small p hp).sp.sl) (fun p hp => (HH.out.small p hp).one)).mono ?_
          rintro e W8 ⟨As, cs, Ao, co, he, hSS, hSO, capS, capO, hb8⟩
          rw [HR.out, HE.out] at he
          have he' : e = .returned (.tuple #[.agg #[.int .i64 L.s, .int .i64 L.al, .slice As L.sp.length cs, .slice Ao L.of.length co, .slice none 0 0, .slice none 0 0, .slice none 0 0, .bool false], .int .i64 0]) := he
          rw [HL.out, HL3.out] at he'
          subst he'
          have hb9 := hb8.alloc hb8.size (.cells #[.int .i64 (sumS ps), .int .i64 1, .slice As L.sp.length cs, .slice Ao L.of.length co, .slice none 0 0, .slice none 0 0, .slice none 0 0, .bool false] 31)
          have hX := Blk.new W8 31 #[.int .i64 (sumS ps), .int .i64 1, .slice As L.sp.length cs, .slice Ao L.of.length co, .slice none 0 0, .slice none 0 0, .slice none 0 0, .bool false]
          have HB9 := Lib.hid hb9
          have HX := Lib.hid hX
          clear he hSS hSO capS capO hb8 hb9 hX
          go_wp2_with fail
          refine (lay_any A8 m c8 ps.reverse _ (by rw [List.length_reverse]; exact HM.out) (HH.out.sl.below HB9.out) (by omega) (fun p hp => (HH.out.small p (List.mem_reverse.1 hp)).sp.sl.below HB9.out) (fun p hp => (HH.out.small p (List.mem_reverse.1 hp)).one)).mono ?_
          rintro e W10 ⟨As', cs', Ao', co', he, hSS, hSO, capS, capO, hb10⟩
          rw [HR'.out, HE'.out] at he
          have he' : e = .returned (.tuple #[.agg #[.int .i64 M.s, .int .i64 M.al, .slice As' M.sp.length cs', .slice Ao' M.of.length co', .slice none 0 0, .slice none 0 0, .slice none 0 0, .bool false], .int .i64 0]) := he
          rw [HMS.out] at he'
          subst he'
          have hX' := HX.out.below hb10
          have hlX : W8.heap.size < W10.heap.size := hX'.lt
          obtain ⟨⟨x0, x1, x2, x3, x4, x5, x6, x7⟩, xf⟩ := hX'.eight
          have hself : (sumS ps == sumS ps) = true := by simp
          have hb11 := below_next (below_next HBR.out HB9.out) hb10
          have HB11 := Lib.hid hb11
          clear he hSS hSO capS capO hb10 hX' x2 x3 x4 x5 x6 x7 hb11
          go_wp2_with fail
          refine (awake16 _).mono ?_
          rintro e w11 ⟨rfl, hb12⟩
          go_wp2
          go_ret
          exact ⟨rfl, below_next (HB11.out.alloc HB11.out.size _) hb12⟩
  · have hl' : decide (n ≤ 700) = false := by simpa using hl
    go_enter Try.func5, Try.ntmps5
    go_wp2_with fail
    refine (light_any _ _ _ _).mono ?_
    rw [hl']
    rintro e w1 ⟨rfl, rfl⟩
    go_wp2_with fail
    refine (awake16 _).mono ?_
    rintro e w1 ⟨rfl, hb⟩
    go_wp2
    go_ret
    exact ⟨rfl, hb⟩
end Go.Proofs.Ytamhigknobdloaa
