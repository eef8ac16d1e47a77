/- The walk of the law SumLays; no condition but that the arguments are readable. -/
import Derived.Test.YtamhigknobdloaaLh
import Derived.Test.YtamhigknobdloaaSv
import Derived.Test.YtamhigknobdloaaSw
import Derived.Test.YtamhigknobdloaaUc
import Derived.Test.YtamhigknobdloaaRl
import Derived.Test.YtamhigknobdloaaSn
import Derived.Outline
namespace Go.Proofs.Ytamhigknobdloaa
open Go.RowKit
set_option linter.unusedVariables false

/-- A layout that may be none, with its offsets. -/
structure OddQ (w : World) (p : Part) : Prop where
  sp : SlE w 5 p.A (p.sp.map bv)
  cap : p.sp.length ≤ p.c
  one : p.one
  s0 : 0 ≤ p.s
  s1 : p.s ≤ 2000
  al0 : -100 ≤ p.al
  al1 : p.al ≤ 100
  len : p.sp.length ≤ 2000
  of : ∃ Ao ofs co, p.x3 = .slice Ao (ofs : List Int).length co ∧ SlE w 3 Ao (ofs.map iv) ∧ ofs.length ≤ co ∧ ofs.length ≤ 100
section
variable {w w' : World} {p : Part}
theorem OddQ.keeps (h : OddQ w p) (h5 : Keep 5 w w') (h3 : Keep 3 w w') : OddQ w' p := by
  obtain ⟨Ao, ofs, co, e, s, l1, l2⟩ := h.of
  exact ⟨h.sp.keep h5, h.cap, h.one, h.s0, h.s1, h.al0, h.al1, h.len, ⟨Ao, ofs, co, e, s.keep h3, l1, l2⟩⟩
theorem OddQ.below (h : OddQ w p) (hb : Below w.heap.size w w') : OddQ w' p := h.keeps (Keep.below hb) (Keep.below hb)
theorem OddQ.alloc (h : OddQ w p) (o : Obj) : OddQ (w.alloc o) p := h.below ((Below.refl _ _).alloc (Nat.le_refl _) o)
theorem OddQ.grown (h : OddQ w p) {g : Nat} (hg : w.grownBy w' (some g)) {t : TypeId} {ds : Array Value} {fz : Nat × Nat} (ht : w.heap[g]? = some (.cells ds t fz)) (h5 : (5 : TypeId) ≠ t ∧ (3 : TypeId) ≠ t) : OddQ w' p := h.keeps (Keep.grown hg ht h5.1) (Keep.grown hg ht h5.2)
theorem Made.oddq (h : Made w p) : OddQ w p := by
  have h1 := h.len
  have h2 := h.s1
  have h3 := h.al
  obtain ⟨Ao, ofs, co, e, s, l1, l2⟩ := h.of
  exact ⟨h.sp, h.cap, h.one, by omega, by omega, by omega, by omega, by omega, ⟨Ao, ofs, co, e, s, l1, by omega⟩⟩
end
def OddPq (g : Nat) (ls : List Int) (k : Nat) (w : World) (e : Ending) (w' : World) : Prop :=
  ∃ (p : Part) (k' : Nat), e = .returned p.val ∧ OddQ w' p ∧ Dice w' g ls k' ∧ k ≤ k' ∧ w.grownBy w' (some g)

/-- What stands while OddLayout turns its layout: blocks b3 (the layout) and rb (the result). -/
structure OddAq (g : Nat) (ls : List Int) (k : Nat) (w : World) (b3 rb : Nat) (k' : Nat) (p : Part) (W : World) : Prop where
  b3 : Blk W b3 31 p.arr
  rb : Blk W rb 31 #[.int .i64 0, .int .i64 0, .slice none 0 0, .slice none 0 0, .slice none 0 0, .slice none 0 0, .slice none 0 0, .bool false]
  odd : OddQ W p
  dice : Dice W g ls k'
  k : k ≤ k'
  grown : w.grownBy W (some g)
section
variable {g : Nat} {ls : List Int} {k : Nat} {w : World} {b3 rb k' : Nat} {p : Part} {W W' : World}
theorem OddAq.below (h : OddAq g ls k w b3 rb k' p W) (hb : Below W.heap.size W W') : OddAq g ls k w b3 rb k' p W' :=
  ⟨h.b3.below hb, h.rb.below hb, h.odd.below hb, h.dice.below hb, h.k, grown_trans h.grown (only_of_below hb _)⟩
theorem OddAq.alloc (h : OddAq g ls k w b3 rb k' p W) (o : Obj) : OddAq g ls k w b3 rb k' p (W.alloc o) := h.below ((Below.refl _ _).alloc (Nat.le_refl _) o)
theorem OddAq.dices (h : OddAq g ls k w b3 rb k' p W) {k2 : Nat} (hd : Dice W' g ls k2) (hk : k' ≤ k2) (hg : W.grownBy W' (some g)) (h3 : g ≠ b3) (h4 : g ≠ rb) : OddAq g ls k w b3 rb k2 p W' := by
  obtain ⟨ds, hds⟩ := h.dice.cells
  exact ⟨h.b3.grown hg (fun e => h3 (by injection e)), h.rb.grown hg (fun e => h4 (by injection e)), h.odd.grown hg hds (by decide), hd, by have := h.k; omega, grown_trans h.grown hg⟩
/-- A store into the layout. -/
theorem OddAq.set_ (h : OddAq g ls k w b3 rb k' p W) (i : Nat) (u : Value) (q : Part) (hq : p.arr.setIfInBounds i u = q.arr) (ho : OddQ W q) (h3 : w.heap.size ≤ b3) (h4 : rb ≠ b3) (h5 : g < b3) : OddAq g ls k w b3 rb k' q (W.setCell ⟨b3, i, none⟩ u) := by
  have hg := grown_set W b3 i u
  refine ⟨by rw [← hq]; exact h.b3.set_ i u, h.rb.far (p := ⟨b3, i, none⟩) h4 u, ho.grown hg h.b3 (by decide), h.dice.far hg (fun q hq => by injection hq with hq; omega), h.k, grown_new h.grown hg (fun q hq => by injection hq with hq; omega)⟩
end
set_option maxHeartbeats 6400000 in
set_option maxRecDepth 100000 in
theorem oddq_any (g : Nat) (ls : List Int) (k : Nat) (w : World) (hd : Dice w g ls k) : Calls Try.prog 23 #[.pointer (some ⟨g, 0, none⟩)] w (OddPq g ls k w) := by
  have hgl := hd.lt
  have hd0 := hd.alloc (.cells #[.int .i64 0, .int .i64 0, .slice none 0 0, .slice none 0 0, .slice none 0 0, .slice none 0 0, .slice none 0 0, .bool false] 31)
  have hblk0 := Blk.new w 31 #[.int .i64 0, .int .i64 0, .slice none 0 0, .slice none 0 0, .slice none 0 0, .slice none 0 0, .slice none 0 0, .bool false]
  have hg0 := grown_alloc (World.grownBy.refl w (some g)) (.cells #[.int .i64 0, .int .i64 0, .slice none 0 0, .slice none 0 0, .slice none 0 0, .slice none 0 0, .slice none 0 0, .bool false] 31)
  clear hd
  go_enter Try.func23, Try.ntmps23
  go_wp2_with fail
  refine (layout_any _ g ls k _ hd0 (Nat.le_refl _)).mono ?_
  rintro e W2 ⟨⟨s1, al1, A1, sp1, c1, x31, x41, x51, x61, x71⟩, k1, he, m1, hd2, hk1, hg2⟩
  have he' : e = .returned (.agg #[.int .i64 s1, .int .i64 al1, .slice A1 sp1.length c1, x31, x41, x51, x61, x71]) := he
  subst he'
  have hrb2 := hblk0.grown hg2 (fun e => by injection e with e; omega)
  have hs1 := m1.s1
  have hs0 := m1.oddq.s0
  have hal0 := m1.oddq.al0
  have hal1 := m1.oddq.al1
  have hlen := m1.len
  have hcap := m1.cap
  simp only at hs1 hs0 hal0 hal1 hlen hcap
  have HLEN := Lib.hid hlen
  clear hlen
  have hone := m1.one
  have sx3 := store_var (P := Try.prog) hone.h3
  have sx4 := store_var (P := Try.prog) hone.h4
  have sx5 := store_var (P := Try.prog) hone.h5
  have sx6 := store_var (P := Try.prog) hone.h6
  have sx7 := store_var (P := Try.prog) hone.h7
  have hrl := hrb2.lt
  have hP := Blk.new W2 31 #[.int .i64 s1, .int .i64 al1, .slice A1 sp1.length c1, x31, x41, x51, x61, x71]
  have hat : OddAq g ls k w W2.heap.size w.heap.size k1 ⟨s1, al1, A1, sp1, c1, x31, x41, x51, x61, x71⟩ (W2.alloc (.cells #[.int .i64 s1, .int .i64 al1, .slice A1 sp1.length c1, x31, x41, x51, x61, x71] 31)) :=
    ⟨hP, hrb2.alloc _, m1.oddq.alloc _, hd2.alloc _, by omega, grown_alloc (grown_trans hg0 hg2) _⟩
  have HAT := Lib.hid hat
  have HONE := Lib.hid hone
  have hne3 : g ≠ W2.heap.size := by omega
  have hne4 : g ≠ w.heap.size := by omega
  clear he hd0 hblk0 hg0 m1 hd2 hg2 hrb2 hP hat hone
  go_upto_if 8 with ((go_at_call 65; refine (rare_any g ls k1 4 _ HAT.out.dice (by omega) (by omega)).mono ?_; rintro e W3 ⟨b, k3, rfl, hd3, hk3, hg3⟩))
  have hat3 := HAT.out.dices hd3 hk3 hg3 hne3 hne4
  have hlt3 := hat3.b3.lt
  obtain ⟨b3, hb3⟩ : ∃ b3, b3 = W2.heap.size := ⟨_, rfl⟩
  obtain ⟨rb, hrb⟩ : ∃ rb, rb = w.heap.size := ⟨_, rfl⟩
  rw [← hb3, ← hrb] at hat3 ⊢
  have hwb : w.heap.size ≤ b3 := by omega
  have hgb : g < b3 := by omega
  have hrbn : rb ≠ b3 := by omega
  have hgr : g ≠ rb := by omega
  have hgrl : g < rb := by omega
  have hwrb : w.heap.size ≤ rb := by omega
  rw [← hb3] at hlt3
  clear hd3 hk3 hg3 HAT hne3 hne4 hrl hb3 hrb sx3 sx4 sx5 sx6 sx7
  have H3 := Lib.hid hat3
  clear hat3
  go_cut [4] (fun v4 wx => ∃ (k' : Nat) (p : Part), OddAq g ls k w b3 rb k' p wx)
  case first =>
    cases b with
    | false =>
      go_wp2_with fail
      go_meet
      exact ⟨_, _, H3.out⟩
    | true =>
      go_wp2_with fail
      refine (next_lt g ls _ 4 _ H3.out.dice (by omega) (by omega)).mono ?_
      rintro e W4 ⟨r, k4, rfl, hr, hd4, hk4, hx4, hg4⟩
      clear hx4
      have hat4 := H3.out.dices hd4 hk4 hg4 (by omega) hgr
      have hlt4 := hat4.b3.lt
      have HA := Lib.hid hat4
      obtain ⟨⟨c0, c1', c2, c3, c4, c5, c6, c7⟩, cf⟩ := hat4.b3.eight
      clear hd4 hk4 hg4 H3 hlt3 hat4
      rcases (show r = 0 ∨ r = 1 ∨ r = 2 ∨ r = 3 by omega) with rfl | rfl | rfl | rfl
      · go_wp2_with fail
        go_meet
        exact ⟨_, ⟨s1 + 1, al1, A1, sp1, c1, x31, x41, x51, x61, x71⟩, HA.out.set_ 0 _ _ rfl ⟨HA.out.odd.sp, HA.out.odd.cap, ⟨HONE.out.h3, HONE.out.h4, HONE.out.h5, HONE.out.h6, HONE.out.h7⟩, by show 0 ≤ s1 + 1; omega, by show s1 + 1 ≤ 2000; omega, hal0, hal1, HA.out.odd.len, HA.out.odd.of⟩ hwb hrbn hgb⟩
      · have hA1 := HA.out.alloc (.cells #[.int .i64 0, .int .i64 2, .int .i64 16, .int .i64 (-8)] 3)
        have hB1 := Blk.new W4 3 #[.int .i64 0, .int .i64 2, .int .i64 16, .int .i64 (-8)]
        have HA1 := Lib.hid hA1
        have HB1 := Lib.hid hB1
        clear hA1 hB1
        go_wp2_with fail
        refine (next_lt g ls _ 4 _ HA1.out.dice (by omega) (by omega)).mono ?_
        rintro e W5 ⟨r2, k5, rfl, hr2, hd5, hk5, hx5, hg5⟩
        clear hx5
        have hA5 := HA1.out.dices hd5 hk5 hg5 (by omega) hgr
        have hB5 := HB1.out.grown hg5 (fun e => by injection e with e; omega)
        have hl5 := hB5.lt
        obtain ⟨⟨d0, d1, d2, d3, d4, d5, d6, d7⟩, df⟩ := hA5.b3.eight
        have hv : ∃ v : Int, W5.cell? ⟨W4.heap.size, r2, none⟩ = some (.int .i64 v) ∧ -100 ≤ v ∧ v ≤ 100 := by
          rw [hB5.cell]
          rcases (show r2 = 0 ∨ r2 = 1 ∨ r2 = 2 ∨ r2 = 3 by omega) with rfl | rfl | rfl | rfl
          · exact ⟨0, rfl, by omega, by omega⟩
          · exact ⟨2, rfl, by omega, by omega⟩
          · exact ⟨16, rfl, by omega, by omega⟩
          · exact ⟨-8, rfl, by omega, by omega⟩
        obtain ⟨v, hv0, hv1, hv2⟩ := hv
        have HA5 := Lib.hid hA5
        have hltb := hA5.b3.lt
        clear hA5 hB5 hd5 hk5 hg5 HA1 HB1
        go_wp2_with fail
        go_meet
        exact ⟨_, ⟨s1, v, A1, sp1, c1, x31, x41, x51, x61, x71⟩, HA5.out.set_ 1 _ _ rfl ⟨HA5.out.odd.sp, HA5.out.odd.cap, ⟨HONE.out.h3, HONE.out.h4, HONE.out.h5, HONE.out.h6, HONE.out.h7⟩, hs0, by show s1 ≤ 2000; omega, hv1, hv2, HA5.out.odd.len, HA5.out.odd.of⟩ hwb hrbn hgb⟩
      · have hlen2 := HLEN.out
        obtain ⟨A5, c5, W5, hr5, own5, hg5⟩ := run_appendS (P := Try.prog) (w := W4) W4.heap.size 27 27 5 _ 1 1 Try.underlying27 el5 none 0 0 [] (World.ownsRow_nil _ _ _ _) A1 sp1.length c1 (sp1.map bv) HA.out.odd.sp.sl (by simp) (oneCell_bv _) (by simp only [maxLen]; omega) (by omega) (Nat.le_refl _)
        rw [Nat.zero_add, List.nil_append] at own5
        rw [Nat.zero_add] at hr5
        obtain ⟨A6, c6, W6, hr6, own6, hg6⟩ := run_append1 (P := Try.prog) (w := W5) W4.heap.size 27 27 5 _ 1 Try.underlying27 el5 (by omega) A5 sp1.length c5 _ own5 (.int .u8 0) rfl (by omega) hg5.size
        have hb5 : Below W4.heap.size W4 W5 := (Below.refl _ _).grown hg5 (Nat.le_refl _) (fun k hk => by cases hk)
        have hb6 : Below W4.heap.size W4 W6 := hb5.grown hg6 hb5.size (fun q hq => (own5.lt q hq).1)
        have hA6 := HA.out.below hb6
        have hse := SlE.of_own own6
        have hcap6 := own_cap own6
        obtain ⟨⟨d0, d1, d2, d3, d4, d5, d6, d7⟩, df⟩ := hA6.b3.eight
        have HA6 := Lib.hid hA6
        have hltb := hA6.b3.lt
        have hsz5 := hb5.size
        have HSE := Lib.hid hse
        clear hA6 own5 own6 hg5 hg6 hb5 hb6 hse hlen2
        go_wp2_with fail
        go_meet
        have hse7 : SlE W6 5 A6 ((sp1 ++ [0]).map bv) := by rw [List.map_append]; exact HSE.out
        have hl2 := HLEN.out
        exact ⟨_, ⟨s1, al1, A6, sp1 ++ [0], c6, x31, x41, x51, x61, x71⟩, HA6.out.set_ 2 _ _ (by simp [Part.arr]) ⟨hse7, by show (sp1 ++ [0]).length ≤ c6; simpa using hcap6, ⟨HONE.out.h3, HONE.out.h4, HONE.out.h5, HONE.out.h6, HONE.out.h7⟩, hs0, by show s1 ≤ 2000; omega, hal0, hal1, by show (sp1 ++ [0]).length ≤ 2000; simp; omega, HA6.out.odd.of⟩ hwb hrbn hgb⟩
      · have hA1 := HA.out.alloc (.cells #[.int .i64 1021, .int .i64 1024, .int .i64 1025] 3)
        have hB1 := Blk.new W4 3 #[.int .i64 1021, .int .i64 1024, .int .i64 1025]
        have HA1 := Lib.hid hA1
        have HB1 := Lib.hid hB1
        clear hA1 hB1
        go_wp2_with fail
        refine (next_lt g ls _ 3 _ HA1.out.dice (by omega) (by omega)).mono ?_
        rintro e W5 ⟨r2, k5, rfl, hr2, hd5, hk5, hx5, hg5⟩
        clear hx5
        have hA5 := HA1.out.dices hd5 hk5 hg5 (by omega) hgr
        have hB5 := HB1.out.grown hg5 (fun e => by injection e with e; omega)
        have hl5 := hB5.lt
        obtain ⟨⟨d0, d1, d2, d3, d4, d5, d6, d7⟩, df⟩ := hA5.b3.eight
        have hv : ∃ v : Nat, W5.cell? ⟨W4.heap.size, r2, none⟩ = some (.int .i64 (v : Int)) ∧ v ≤ 1025 := by
          rw [hB5.cell]
          rcases (show r2 = 0 ∨ r2 = 1 ∨ r2 = 2 by omega) with rfl | rfl | rfl
          · exact ⟨1021, rfl, by omega⟩
          · exact ⟨1024, rfl, by omega⟩
          · exact ⟨1025, rfl, by omega⟩
        obtain ⟨v, hv0, hv1⟩ := hv
        have hmk := mk27 v (by omega) W5
        have hltb := hA5.b3.lt
        obtain ⟨S, hS⟩ : ∃ S, S = (((((((W5.setCell ⟨b3, 0, none⟩ (.int .i64 (v : Int))).setCell ⟨b3, 1, none⟩ (.int .i64 1)).setCell ⟨b3, 2, none⟩ (.slice (some ⟨W5.heap.size, 0, none⟩) v v)).setCell ⟨b3, 3, none⟩ (.slice none 0 0)).setCell ⟨b3, 4, none⟩ (.slice none 0 0)).setCell ⟨b3, 5, none⟩ (.slice none 0 0)).setCell ⟨b3, 6, none⟩ (.slice none 0 0)).setCell ⟨b3, 7, none⟩ (.bool false) := ⟨_, rfl⟩
        have HA5 := Lib.hid hA5
        have HS := Lib.hid hS
        clear hA5 hB5 hd5 hk5 hg5 HA1 HB1 hS
        go_wp2_with fail
        rw [← HS.out]
        go_meet
        have h8 : W5.grownBy S (some b3) := by rw [HS.out]; exact only8 W5 b3 (.int .i64 (v : Int)) (.int .i64 1) (.slice (some ⟨W5.heap.size, 0, none⟩) v v) (.slice none 0 0) (.slice none 0 0) (.slice none 0 0) (.slice none 0 0) (.bool false)
        have hsz : S.heap.size = W5.heap.size := by rw [HS.out]; exact size8 _ _ (.int .i64 (v : Int)) (.int .i64 1) (.slice (some ⟨W5.heap.size, 0, none⟩) v v) (.slice none 0 0) (.slice none 0 0) (.slice none 0 0) (.slice none 0 0) (.bool false)
        have hBS : Blk S b3 31 #[.int .i64 (v : Int), .int .i64 1, .slice (some ⟨W5.heap.size, 0, none⟩) v v, .slice none 0 0, .slice none 0 0, .slice none 0 0, .slice none 0 0, .bool false] := by rw [HS.out]; exact HA5.out.b3.set8 (.int .i64 (v : Int)) (.int .i64 1) (.slice (some ⟨W5.heap.size, 0, none⟩) v v) (.slice none 0 0) (.slice none 0 0) (.slice none 0 0) (.slice none 0 0) (.bool false)
        have hse : SlE (S.alloc (.cells (madeCells #[.int .u8 0] v) 5)) 5 (some ⟨W5.heap.size, 0, none⟩) ((List.replicate v (0 : UInt8)).map bv) := new_bytes hsz _ _ (by rw [toList_madeCells_one, List.map_replicate]; rfl)
        have hoa : OddAq g ls k w b3 rb k5 ⟨v, 1, some ⟨W5.heap.size, 0, none⟩, List.replicate v (0 : UInt8), v, .slice none 0 0, .slice none 0 0, .slice none 0 0, .slice none 0 0, .bool false⟩ (S.alloc (.cells (madeCells #[.int .u8 0] v) 5)) :=
          ⟨by rw [part_one_eta, List.length_replicate]; exact hBS.alloc _, (HA5.out.rb.grown h8 (fun e => by injection e with e; omega)).alloc _, ⟨hse, by simp, ⟨rfl, rfl, rfl, rfl, rfl⟩, by show (0 : Int) ≤ v; omega, by show (v : Int) ≤ 2000; omega, by show (-100 : Int) ≤ 1; omega, by show (1 : Int) ≤ 100; omega, by simp; omega, ⟨none, [], 0, rfl, .inl rfl, Nat.zero_le _, Nat.zero_le _⟩⟩, (HA5.out.dice.far h8 (fun q hq => by injection hq with hq; omega)).alloc _, HA5.out.k, grown_alloc (grown_new HA5.out.grown h8 (fun q hq => by injection hq with hq; omega)) _⟩
        exact ⟨_, _, hoa⟩
  case rest =>
    obtain ⟨k9, ⟨s, al, A, sp, c, x3, x4, x5, x6, x7⟩, H⟩ := hcut
    obtain ⟨W, rfl⟩ : ∃ W : World, W = wc := ⟨_, rfl⟩
    obtain ⟨⟨c0, c1', c2, c3, c4, c5, c6, c7⟩, cf⟩ := H.b3.eight
    obtain ⟨⟨r0, r1, r2, r3, r4, r5, r6, r7⟩, rf⟩ := H.rb.eight
    have hone := H.odd.one
    have sx3 := store_var (P := Try.prog) hone.h3
    have sx4 := store_var (P := Try.prog) hone.h4
    have sx5 := store_var (P := Try.prog) hone.h5
    have sx6 := store_var (P := Try.prog) hone.h6
    have sx7 := store_var (P := Try.prog) hone.h7
    have hl3 := H.b3.lt
    have hlr := H.rb.lt
    obtain ⟨S, hS⟩ : ∃ S, S = (((((((W.setCell ⟨rb, 0, none⟩ (.int .i64 s)).setCell ⟨rb, 1, none⟩ (.int .i64 al)).setCell ⟨rb, 2, none⟩ (.slice A sp.length c)).setCell ⟨rb, 3, none⟩ x3).setCell ⟨rb, 4, none⟩ x4).setCell ⟨rb, 5, none⟩ x5).setCell ⟨rb, 6, none⟩ x6).setCell ⟨rb, 7, none⟩ x7 := ⟨_, rfl⟩
    have h8 : W.grownBy S (some rb) := by rw [hS]; exact only8 W rb _ _ _ _ _ _ _ _
    have hBS : Blk S rb 31 #[.int .i64 s, .int .i64 al, .slice A sp.length c, x3, x4, x5, x6, x7] := by rw [hS]; exact H.rb.set8 _ _ _ _ _ _ _ _
    have hX : OddPq g ls k w (.returned (⟨s, al, A, sp, c, x3, x4, x5, x6, x7⟩ : Part).val) S := ⟨_, k9, rfl, H.odd.grown h8 H.rb (by decide), H.dice.far h8 (fun q hq => by injection hq with hq; omega), H.k, grown_new H.grown h8 (fun q hq => by injection hq with hq; omega)⟩
    have HX := Lib.hid hX
    have HBS := Lib.hid hBS
    have HS := Lib.hid hS
    clear hS h8 hBS hX H hone H3
    go_wp2
    rw [← HS.out]
    refine bodyPost_odd HBS.out HX.out ?_
    intro W9 hblkW hX
    obtain ⟨⟨c0, c1, c2, c3, c4, c5, c6, c7⟩, _⟩ := hblkW.eight
    exact bodyPost_ret (v := (⟨s, al, A, sp, c, x3, x4, x5, x6, x7⟩ : Part).val) (by simp [results, Try.results23, go_sem, Part.val, c0, c1, c2, c3, c4, c5, c6, c7]) rfl hX
end Go.Proofs.Ytamhigknobdloaa
namespace Go.Proofs.Ytamhigknobdloaa
open Go.RowKit
set_option linter.unusedVariables false

/-- The three rows of cases. -/
structure RowsO (W : World) (gd : Nat) (ls : List Int) (v7 : Value) (ps : List Part) (v8 : Value) (nms : List ByteArray) (v9 : Value) (bs : List Bool) (w : World) : Prop where
  own7 : w.ownsRow W.heap.size 31 8 v7 ps.length (ps.flatMap Part.cells)
  own8 : w.ownsRow W.heap.size 9 1 v8 ps.length (nms.map Value.string)
  own9 : w.ownsRow W.heap.size 4 1 v9 ps.length (bs.map Value.bool)
  ln : nms.length = ps.length
  lb : bs.length = ps.length
  dice : ∃ k, Dice w gd ls k
  gdl : gd < W.heap.size
  grown : W.grownBy w (some gd)
  laid : ∀ p ∈ ps, OddQ w p
theorem RowsO.dices {W w w' : World} {gd : Nat} {ls : List Int} {v7 v8 v9 : Value} {ps : List Part} {nms : List ByteArray} {bs : List Bool} {k' : Nat} (h : RowsO W gd ls v7 ps v8 nms v9 bs w) (hd : Dice w' gd ls k') (hg : w.grownBy w' (some gd)) : RowsO W gd ls v7 ps v8 nms v9 bs w' := by
  obtain ⟨k, hk⟩ := h.dice
  obtain ⟨ds, hds⟩ := hk.cells
  have K : ∀ e : TypeId, e ≠ 84 → Keep e w w' := fun e he => Keep.grown hg hds he
  exact ⟨own_keeps h.own7 (K _ (by decide)), own_keeps h.own8 (K _ (by decide)), own_keeps h.own9 (K _ (by decide)), h.ln, h.lb, ⟨k', hd⟩, h.gdl, grown_trans h.grown hg, fun p hp => (h.laid p hp).keeps (K _ (by decide)) (K _ (by decide))⟩
theorem RowsO.below {W w w' : World} {gd : Nat} {ls : List Int} {v7 v8 v9 : Value} {ps : List Part} {nms : List ByteArray} {bs : List Bool} (h : RowsO W gd ls v7 ps v8 nms v9 bs w) (hb : Below w.heap.size w w') : RowsO W gd ls v7 ps v8 nms v9 bs w' := by
  obtain ⟨k, hk⟩ := h.dice
  exact ⟨below_own h.own7 hb, below_own h.own8 hb, below_own h.own9 hb, h.ln, h.lb, ⟨k, hk.below hb⟩, h.gdl, grown_trans h.grown (only_of_below hb _), fun p hp => (h.laid p hp).keeps (Keep.below hb) (Keep.below hb)⟩
theorem rows_alloc1O {W w : World} {gd g : Nat} {ls : List Int} {A7 : Option Addr} {n7 c7 : Nat} {v8 v9 : Value} {ps : List Part} {nms : List ByteArray} {bs : List Bool} {cs : Array Value} (h : RowsO W gd ls (.slice A7 n7 c7) ps v8 nms v9 bs w) (hb : Blk w g 31 cs) (hf : (Value.slice A7 n7 c7).ownBlock ≠ some g) (h1 : W.heap.size ≤ g) (h2 : gd < g) (i : Nat) (u : Value) :
    RowsO W gd ls (.slice A7 n7 c7) ps v8 nms v9 bs (w.setCell ⟨g, i, none⟩ u) := by
  have hg := grown_set w g i u
  have K : ∀ e : TypeId, e ≠ 31 → Keep e w (w.setCell ⟨g, i, none⟩ u) := fun e he => Keep.grown hg hb he
  obtain ⟨k, hk⟩ := h.dice
  exact ⟨h.own7.kept hg (.inr hf), own_keeps h.own8 (K _ (by decide)), own_keeps h.own9 (K _ (by decide)), h.ln, h.lb, ⟨k, hk.far hg (fun q hq => by injection hq with hq; omega)⟩, h.gdl, grown_new h.grown hg (fun q hq => by injection hq with hq; omega), fun p hp => (h.laid p hp).keeps (K _ (by decide)) (K _ (by decide))⟩
/-- What holds while the three appends run in whatever order. -/
structure CApO (W : World) (gd : Nat) (ls : List Int) (v7 : Value) (ps : List Part) (v8 : Value) (nms : List ByteArray) (v9 : Value) (bs : List Bool) (p : Part) (nm : ByteArray) (c8 : Value) (b13 : Nat) (D : Nat → Bool) (x : Nat → Value) (w : World) : Prop where
  own7n : D 3 = false → w.ownsRow W.heap.size 31 8 v7 ps.length (ps.flatMap Part.cells)
  own7 : D 3 = true → ∃ A c, x 3 = .slice A (ps.length + 1) c ∧ w.ownsRow W.heap.size 31 8 (.slice A (ps.length + 1) c) (ps.length + 1) ((ps ++ [p]).flatMap Part.cells)
  own8n : D 13 = false → w.ownsRow W.heap.size 9 1 v8 ps.length (nms.map Value.string)
  own8 : D 13 = true → ∃ A c, x 13 = .slice A (ps.length + 1) c ∧ w.ownsRow W.heap.size 9 1 (.slice A (ps.length + 1) c) (ps.length + 1) ((nms ++ [nm]).map Value.string)
  own9n : D 18 = false → w.ownsRow W.heap.size 4 1 v9 ps.length (bs.map Value.bool)
  own9 : D 18 = true → ∃ A c b, x 18 = .slice A (ps.length + 1) c ∧ w.ownsRow W.heap.size 4 1 (.slice A (ps.length + 1) c) (ps.length + 1) ((bs ++ [b]).map Value.bool)
  n2 : D 2 = true → D 3 = false → ∃ g, x 2 = .slice (some ⟨g, 0, none⟩) 1 1 ∧ Blk w g 31 (pArr p)
  n9 : D 9 = true → ∃ g, x 9 = .slice (some ⟨g, 0, none⟩) 1 1 ∧ Blk w g 5 #[c8]
  n12 : D 12 = true → D 13 = false → ∃ g, x 12 = .slice (some ⟨g, 0, none⟩) 1 1 ∧ Blk w g 9 #[.string nm]
  m16 : D 16 = true → ∃ b, x 16 = .bool b
  n17 : D 17 = true → D 18 = false → ∃ g b, x 17 = .slice (some ⟨g, 0, none⟩) 1 1 ∧ Blk w g 4 #[.bool b]
  f19 : D 19 = true → x 19 = x 3
  f20 : D 20 = true → x 20 = x 13
  f21 : D 21 = true → x 21 = x 18
  box : Blk w b13 31 (pArr p)
  far : v7.ownBlock ≠ some b13
  dice : ∃ k, Dice w gd ls k
  gdl : gd < W.heap.size
  grown : W.grownBy w (some gd)
  ln : nms.length = ps.length
  lb : bs.length = ps.length
  laid : ∀ q ∈ ps, OddQ w q
  laidp : OddQ w p
section
variable {W : World} {gd : Nat} {ls : List Int} {v7 v8 v9 : Value} {ps : List Part} {nms : List ByteArray} {bs : List Bool} {p : Part} {nm : ByteArray} {c8 : Value} {b13 : Nat} {D : Nat → Bool} {x : Nat → Value} {w w' : World}
theorem CApO.ins (h : CApO W gd ls v7 ps v8 nms v9 bs p nm c8 b13 D x w) (i : Nat) (u : Value) (hn : i ≠ 2 ∧ i ≠ 3 ∧ i ≠ 9 ∧ i ≠ 12 ∧ i ≠ 13 ∧ i ≠ 16 ∧ i ≠ 17 ∧ i ≠ 18 ∧ i ≠ 19 ∧ i ≠ 20 ∧ i ≠ 21) : CApO W gd ls v7 ps v8 nms v9 bs p nm c8 b13 (dD D i) (xX x i u) w := by
  obtain ⟨e2, e3, e9, e12, e13, e16, e17, e18, e19, e20, e21⟩ := hn
  have d : ∀ j, i ≠ j → dD D i j = D j := fun j hj => if_neg (fun e => hj e.symm)
  have y : ∀ j, i ≠ j → xX x i u j = x j := fun j hj => if_neg (fun e => hj e.symm)
  constructor
  · rw [d 3 e3]; exact h.own7n
  · rw [d 3 e3, y 3 e3]; exact h.own7
  · rw [d 13 e13]; exact h.own8n
  · rw [d 13 e13, y 13 e13]; exact h.own8
  · rw [d 18 e18]; exact h.own9n
  · rw [d 18 e18, y 18 e18]; exact h.own9
  · rw [d 2 e2, d 3 e3, y 2 e2]; exact h.n2
  · rw [d 9 e9, y 9 e9]; exact h.n9
  · rw [d 12 e12, d 13 e13, y 12 e12]; exact h.n12
  · rw [d 16 e16, y 16 e16]; exact h.m16
  · rw [d 17 e17, d 18 e18, y 17 e17]; exact h.n17
  · rw [d 19 e19, y 3 e3, y 19 e19]; exact h.f19
  · rw [d 20 e20, y 13 e13, y 20 e20]; exact h.f20
  · rw [d 21 e21, y 18 e18, y 21 e21]; exact h.f21
  · exact h.box
  · exact h.far
  · exact h.dice
  · exact h.gdl
  · exact h.grown
  · exact h.ln
  · exact h.lb
  · exact h.laid
  · exact h.laidp
theorem CApO.op2 (h : CApO W gd ls v7 ps v8 nms v9 bs p nm c8 b13 D x w) (hD : D 2 = false)  : CApO W gd ls v7 ps v8 nms v9 bs p nm c8 b13 (dD D 2) (xX x 2 (.slice (some ⟨w.heap.size, 0, none⟩) 1 1)) (w.alloc (.cells (pArr p) 31)) := by
  have d : ∀ j, j ≠ 2 → dD D 2 j = D j := fun j hj => if_neg hj
  have y : ∀ j, j ≠ 2 → xX x 2 (.slice (some ⟨w.heap.size, 0, none⟩) 1 1) j = x j := fun j hj => if_neg hj
  have K : ∀ e : TypeId, Keep e w (w.alloc (.cells (pArr p) 31)) := fun e => Keep.alloc _
  constructor
  · rw [d 3 (by decide)]; exact fun hd => own_keeps (h.own7n hd) (K 31)
  · rw [d 3 (by decide), y 3 (by decide)]; exact fun hd => by obtain ⟨A, c, h1, h2⟩ := h.own7 hd; exact ⟨A, c, h1, own_keeps h2 (K 31)⟩
  · rw [d 13 (by decide)]; exact fun hd => own_keeps (h.own8n hd) (K 9)
  · rw [d 13 (by decide), y 13 (by decide)]; exact fun hd => by obtain ⟨A, c, h1, h2⟩ := h.own8 hd; exact ⟨A, c, h1, own_keeps h2 (K 9)⟩
  · rw [d 18 (by decide)]; exact fun hd => own_keeps (h.own9n hd) (K 4)
  · rw [d 18 (by decide), y 18 (by decide)]; exact fun hd => by obtain ⟨A, c, b, h1, h2⟩ := h.own9 hd; exact ⟨A, c, b, h1, own_keeps h2 (K 4)⟩
  · intro _ _; exact ⟨w.heap.size, rfl, Blk.new _ _ _⟩
  · rw [d 9 (by decide), y 9 (by decide)]; exact fun a => by obtain ⟨g, h1, h2⟩ := h.n9 a; exact ⟨g, h1, h2.keeps (K 5)⟩
  · rw [d 12 (by decide), d 13 (by decide), y 12 (by decide)]; exact fun a b => by obtain ⟨g, h1, h2⟩ := h.n12 a b; exact ⟨g, h1, h2.keeps (K 9)⟩
  · rw [d 16 (by decide), y 16 (by decide)]; exact h.m16
  · rw [d 17 (by decide), d 18 (by decide), y 17 (by decide)]; exact fun a b => by obtain ⟨g, b, h1, h2⟩ := h.n17 a b; exact ⟨g, b, h1, h2.keeps (K 4)⟩
  · rw [d 19 (by decide), y 3 (by decide), y 19 (by decide)]; exact h.f19
  · rw [d 20 (by decide), y 13 (by decide), y 20 (by decide)]; exact h.f20
  · rw [d 21 (by decide), y 18 (by decide), y 21 (by decide)]; exact h.f21
  · exact h.box.keeps (K 31)
  · exact h.far
  · exact (by obtain ⟨k, hk⟩ := h.dice; exact ⟨k, hk.alloc _⟩)
  · exact h.gdl
  · exact grown_alloc h.grown _
  · exact h.ln
  · exact h.lb
  · exact fun q hq => (h.laid q hq).keeps (K 5) (K 3)
  · exact h.laidp.keeps (K 5) (K 3)
theorem CApO.op9 (h : CApO W gd ls v7 ps v8 nms v9 bs p nm c8 b13 D x w) (hD : D 9 = false)  : CApO W gd ls v7 ps v8 nms v9 bs p nm c8 b13 (dD D 9) (xX x 9 (.slice (some ⟨w.heap.size, 0, none⟩) 1 1)) (w.alloc (.cells #[c8] 5)) := by
  have d : ∀ j, j ≠ 9 → dD D 9 j = D j := fun j hj => if_neg hj
  have y : ∀ j, j ≠ 9 → xX x 9 (.slice (some ⟨w.heap.size, 0, none⟩) 1 1) j = x j := fun j hj => if_neg hj
  have K : ∀ e : TypeId, Keep e w (w.alloc (.cells #[c8] 5)) := fun e => Keep.alloc _
  constructor
  · rw [d 3 (by decide)]; exact fun hd => own_keeps (h.own7n hd) (K 31)
  · rw [d 3 (by decide), y 3 (by decide)]; exact fun hd => by obtain ⟨A, c, h1, h2⟩ := h.own7 hd; exact ⟨A, c, h1, own_keeps h2 (K 31)⟩
  · rw [d 13 (by decide)]; exact fun hd => own_keeps (h.own8n hd) (K 9)
  · rw [d 13 (by decide), y 13 (by decide)]; exact fun hd => by obtain ⟨A, c, h1, h2⟩ := h.own8 hd; exact ⟨A, c, h1, own_keeps h2 (K 9)⟩
  · rw [d 18 (by decide)]; exact fun hd => own_keeps (h.own9n hd) (K 4)
  · rw [d 18 (by decide), y 18 (by decide)]; exact fun hd => by obtain ⟨A, c, b, h1, h2⟩ := h.own9 hd; exact ⟨A, c, b, h1, own_keeps h2 (K 4)⟩
  · rw [d 2 (by decide), d 3 (by decide), y 2 (by decide)]; exact fun a b => by obtain ⟨g, h1, h2⟩ := h.n2 a b; exact ⟨g, h1, h2.keeps (K 31)⟩
  · intro _; exact ⟨w.heap.size, rfl, Blk.new _ _ _⟩
  · rw [d 12 (by decide), d 13 (by decide), y 12 (by decide)]; exact fun a b => by obtain ⟨g, h1, h2⟩ := h.n12 a b; exact ⟨g, h1, h2.keeps (K 9)⟩
  · rw [d 16 (by decide), y 16 (by decide)]; exact h.m16
  · rw [d 17 (by decide), d 18 (by decide), y 17 (by decide)]; exact fun a b => by obtain ⟨g, b, h1, h2⟩ := h.n17 a b; exact ⟨g, b, h1, h2.keeps (K 4)⟩
  · rw [d 19 (by decide), y 3 (by decide), y 19 (by decide)]; exact h.f19
  · rw [d 20 (by decide), y 13 (by decide), y 20 (by decide)]; exact h.f20
  · rw [d 21 (by decide), y 18 (by decide), y 21 (by decide)]; exact h.f21
  · exact h.box.keeps (K 31)
  · exact h.far
  · exact (by obtain ⟨k, hk⟩ := h.dice; exact ⟨k, hk.alloc _⟩)
  · exact h.gdl
  · exact grown_alloc h.grown _
  · exact h.ln
  · exact h.lb
  · exact fun q hq => (h.laid q hq).keeps (K 5) (K 3)
  · exact h.laidp.keeps (K 5) (K 3)
theorem CApO.op12 (h : CApO W gd ls v7 ps v8 nms v9 bs p nm c8 b13 D x w) (hD : D 12 = false)  : CApO W gd ls v7 ps v8 nms v9 bs p nm c8 b13 (dD D 12) (xX x 12 (.slice (some ⟨w.heap.size, 0, none⟩) 1 1)) (w.alloc (.cells #[.string nm] 9)) := by
  have d : ∀ j, j ≠ 12 → dD D 12 j = D j := fun j hj => if_neg hj
  have y : ∀ j, j ≠ 12 → xX x 12 (.slice (some ⟨w.heap.size, 0, none⟩) 1 1) j = x j := fun j hj => if_neg hj
  have K : ∀ e : TypeId, Keep e w (w.alloc (.cells #[.string nm] 9)) := fun e => Keep.alloc _
  constructor
  · rw [d 3 (by decide)]; exact fun hd => own_keeps (h.own7n hd) (K 31)
  · rw [d 3 (by decide), y 3 (by decide)]; exact fun hd => by obtain ⟨A, c, h1, h2⟩ := h.own7 hd; exact ⟨A, c, h1, own_keeps h2 (K 31)⟩
  · rw [d 13 (by decide)]; exact fun hd => own_keeps (h.own8n hd) (K 9)
  · rw [d 13 (by decide), y 13 (by decide)]; exact fun hd => by obtain ⟨A, c, h1, h2⟩ := h.own8 hd; exact ⟨A, c, h1, own_keeps h2 (K 9)⟩
  · rw [d 18 (by decide)]; exact fun hd => own_keeps (h.own9n hd) (K 4)
  · rw [d 18 (by decide), y 18 (by decide)]; exact fun hd => by obtain ⟨A, c, b, h1, h2⟩ := h.own9 hd; exact ⟨A, c, b, h1, own_keeps h2 (K 4)⟩
  · rw [d 2 (by decide), d 3 (by decide), y 2 (by decide)]; exact fun a b => by obtain ⟨g, h1, h2⟩ := h.n2 a b; exact ⟨g, h1, h2.keeps (K 31)⟩
  · rw [d 9 (by decide), y 9 (by decide)]; exact fun a => by obtain ⟨g, h1, h2⟩ := h.n9 a; exact ⟨g, h1, h2.keeps (K 5)⟩
  · intro _ _; exact ⟨w.heap.size, rfl, Blk.new _ _ _⟩
  · rw [d 16 (by decide), y 16 (by decide)]; exact h.m16
  · rw [d 17 (by decide), d 18 (by decide), y 17 (by decide)]; exact fun a b => by obtain ⟨g, b, h1, h2⟩ := h.n17 a b; exact ⟨g, b, h1, h2.keeps (K 4)⟩
  · rw [d 19 (by decide), y 3 (by decide), y 19 (by decide)]; exact h.f19
  · rw [d 20 (by decide), y 13 (by decide), y 20 (by decide)]; exact h.f20
  · rw [d 21 (by decide), y 18 (by decide), y 21 (by decide)]; exact h.f21
  · exact h.box.keeps (K 31)
  · exact h.far
  · exact (by obtain ⟨k, hk⟩ := h.dice; exact ⟨k, hk.alloc _⟩)
  · exact h.gdl
  · exact grown_alloc h.grown _
  · exact h.ln
  · exact h.lb
  · exact fun q hq => (h.laid q hq).keeps (K 5) (K 3)
  · exact h.laidp.keeps (K 5) (K 3)
theorem CApO.op17 (h : CApO W gd ls v7 ps v8 nms v9 bs p nm c8 b13 D x w) (hD : D 17 = false) {b : Bool} : CApO W gd ls v7 ps v8 nms v9 bs p nm c8 b13 (dD D 17) (xX x 17 (.slice (some ⟨w.heap.size, 0, none⟩) 1 1)) (w.alloc (.cells #[.bool b] 4)) := by
  have d : ∀ j, j ≠ 17 → dD D 17 j = D j := fun j hj => if_neg hj
  have y : ∀ j, j ≠ 17 → xX x 17 (.slice (some ⟨w.heap.size, 0, none⟩) 1 1) j = x j := fun j hj => if_neg hj
  have K : ∀ e : TypeId, Keep e w (w.alloc (.cells #[.bool b] 4)) := fun e => Keep.alloc _
  constructor
  · rw [d 3 (by decide)]; exact fun hd => own_keeps (h.own7n hd) (K 31)
  · rw [d 3 (by decide), y 3 (by decide)]; exact fun hd => by obtain ⟨A, c, h1, h2⟩ := h.own7 hd; exact ⟨A, c, h1, own_keeps h2 (K 31)⟩
  · rw [d 13 (by decide)]; exact fun hd => own_keeps (h.own8n hd) (K 9)
  · rw [d 13 (by decide), y 13 (by decide)]; exact fun hd => by obtain ⟨A, c, h1, h2⟩ := h.own8 hd; exact ⟨A, c, h1, own_keeps h2 (K 9)⟩
  · rw [d 18 (by decide)]; exact fun hd => own_keeps (h.own9n hd) (K 4)
  · rw [d 18 (by decide), y 18 (by decide)]; exact fun hd => by obtain ⟨A, c, b, h1, h2⟩ := h.own9 hd; exact ⟨A, c, b, h1, own_keeps h2 (K 4)⟩
  · rw [d 2 (by decide), d 3 (by decide), y 2 (by decide)]; exact fun a b => by obtain ⟨g, h1, h2⟩ := h.n2 a b; exact ⟨g, h1, h2.keeps (K 31)⟩
  · rw [d 9 (by decide), y 9 (by decide)]; exact fun a => by obtain ⟨g, h1, h2⟩ := h.n9 a; exact ⟨g, h1, h2.keeps (K 5)⟩
  · rw [d 12 (by decide), d 13 (by decide), y 12 (by decide)]; exact fun a b => by obtain ⟨g, h1, h2⟩ := h.n12 a b; exact ⟨g, h1, h2.keeps (K 9)⟩
  · rw [d 16 (by decide), y 16 (by decide)]; exact h.m16
  · intro _ _; exact ⟨w.heap.size, b, rfl, Blk.new _ _ _⟩
  · rw [d 19 (by decide), y 3 (by decide), y 19 (by decide)]; exact h.f19
  · rw [d 20 (by decide), y 13 (by decide), y 20 (by decide)]; exact h.f20
  · rw [d 21 (by decide), y 18 (by decide), y 21 (by decide)]; exact h.f21
  · exact h.box.keeps (K 31)
  · exact h.far
  · exact (by obtain ⟨k, hk⟩ := h.dice; exact ⟨k, hk.alloc _⟩)
  · exact h.gdl
  · exact grown_alloc h.grown _
  · exact h.ln
  · exact h.lb
  · exact fun q hq => (h.laid q hq).keeps (K 5) (K 3)
  · exact h.laidp.keeps (K 5) (K 3)
theorem CApO.op19 (h : CApO W gd ls v7 ps v8 nms v9 bs p nm c8 b13 D x w) (hD : D 19 = false)  : CApO W gd ls v7 ps v8 nms v9 bs p nm c8 b13 (dD D 19) (xX x 19 (x 3)) w := by
  have d : ∀ j, j ≠ 19 → dD D 19 j = D j := fun j hj => if_neg hj
  have y : ∀ j, j ≠ 19 → xX x 19 (x 3) j = x j := fun j hj => if_neg hj
  have K : ∀ e : TypeId, Keep e w w := fun e _ _ _ _ => rfl
  constructor
  · rw [d 3 (by decide)]; exact fun hd => own_keeps (h.own7n hd) (K 31)
  · rw [d 3 (by decide), y 3 (by decide)]; exact fun hd => by obtain ⟨A, c, h1, h2⟩ := h.own7 hd; exact ⟨A, c, h1, own_keeps h2 (K 31)⟩
  · rw [d 13 (by decide)]; exact fun hd => own_keeps (h.own8n hd) (K 9)
  · rw [d 13 (by decide), y 13 (by decide)]; exact fun hd => by obtain ⟨A, c, h1, h2⟩ := h.own8 hd; exact ⟨A, c, h1, own_keeps h2 (K 9)⟩
  · rw [d 18 (by decide)]; exact fun hd => own_keeps (h.own9n hd) (K 4)
  · rw [d 18 (by decide), y 18 (by decide)]; exact fun hd => by obtain ⟨A, c, b, h1, h2⟩ := h.own9 hd; exact ⟨A, c, b, h1, own_keeps h2 (K 4)⟩
  · rw [d 2 (by decide), d 3 (by decide), y 2 (by decide)]; exact fun a b => by obtain ⟨g, h1, h2⟩ := h.n2 a b; exact ⟨g, h1, h2.keeps (K 31)⟩
  · rw [d 9 (by decide), y 9 (by decide)]; exact fun a => by obtain ⟨g, h1, h2⟩ := h.n9 a; exact ⟨g, h1, h2.keeps (K 5)⟩
  · rw [d 12 (by decide), d 13 (by decide), y 12 (by decide)]; exact fun a b => by obtain ⟨g, h1, h2⟩ := h.n12 a b; exact ⟨g, h1, h2.keeps (K 9)⟩
  · rw [d 16 (by decide), y 16 (by decide)]; exact h.m16
  · rw [d 17 (by decide), d 18 (by decide), y 17 (by decide)]; exact fun a b => by obtain ⟨g, b, h1, h2⟩ := h.n17 a b; exact ⟨g, b, h1, h2.keeps (K 4)⟩
  · intro _; rw [y 3 (by decide)]; exact if_pos rfl
  · rw [d 20 (by decide), y 13 (by decide), y 20 (by decide)]; exact h.f20
  · rw [d 21 (by decide), y 18 (by decide), y 21 (by decide)]; exact h.f21
  · exact h.box.keeps (K 31)
  · exact h.far
  · exact h.dice
  · exact h.gdl
  · exact h.grown
  · exact h.ln
  · exact h.lb
  · exact fun q hq => (h.laid q hq).keeps (K 5) (K 3)
  · exact h.laidp.keeps (K 5) (K 3)
theorem CApO.op20 (h : CApO W gd ls v7 ps v8 nms v9 bs p nm c8 b13 D x w) (hD : D 20 = false)  : CApO W gd ls v7 ps v8 nms v9 bs p nm c8 b13 (dD D 20) (xX x 20 (x 13)) w := by
  have d : ∀ j, j ≠ 20 → dD D 20 j = D j := fun j hj => if_neg hj
  have y : ∀ j, j ≠ 20 → xX x 20 (x 13) j = x j := fun j hj => if_neg hj
  have K : ∀ e : TypeId, Keep e w w := fun e _ _ _ _ => rfl
  constructor
  · rw [d 3 (by decide)]; exact fun hd => own_keeps (h.own7n hd) (K 31)
  · rw [d 3 (by decide), y 3 (by decide)]; exact fun hd => by obtain ⟨A, c, h1, h2⟩ := h.own7 hd; exact ⟨A, c, h1, own_keeps h2 (K 31)⟩
  · rw [d 13 (by decide)]; exact fun hd => own_keeps (h.own8n hd) (K 9)
  · rw [d 13 (by decide), y 13 (by decide)]; exact fun hd => by obtain ⟨A, c, h1, h2⟩ := h.own8 hd; exact ⟨A, c, h1, own_keeps h2 (K 9)⟩
  · rw [d 18 (by decide)]; exact fun hd => own_keeps (h.own9n hd) (K 4)
  · rw [d 18 (by decide), y 18 (by decide)]; exact fun hd => by obtain ⟨A, c, b, h1, h2⟩ := h.own9 hd; exact ⟨A, c, b, h1, own_keeps h2 (K 4)⟩
  · rw [d 2 (by decide), d 3 (by decide), y 2 (by decide)]; exact fun a b => by obtain ⟨g, h1, h2⟩ := h.n2 a b; exact ⟨g, h1, h2.keeps (K 31)⟩
  · rw [d 9 (by decide), y 9 (by decide)]; exact fun a => by obtain ⟨g, h1, h2⟩ := h.n9 a; exact ⟨g, h1, h2.keeps (K 5)⟩
  · rw [d 12 (by decide), d 13 (by decide), y 12 (by decide)]; exact fun a b => by obtain ⟨g, h1, h2⟩ := h.n12 a b; exact ⟨g, h1, h2.keeps (K 9)⟩
  · rw [d 16 (by decide), y 16 (by decide)]; exact h.m16
  · rw [d 17 (by decide), d 18 (by decide), y 17 (by decide)]; exact fun a b => by obtain ⟨g, b, h1, h2⟩ := h.n17 a b; exact ⟨g, b, h1, h2.keeps (K 4)⟩
  · rw [d 19 (by decide), y 3 (by decide), y 19 (by decide)]; exact h.f19
  · intro _; rw [y 13 (by decide)]; exact if_pos rfl
  · rw [d 21 (by decide), y 18 (by decide), y 21 (by decide)]; exact h.f21
  · exact h.box.keeps (K 31)
  · exact h.far
  · exact h.dice
  · exact h.gdl
  · exact h.grown
  · exact h.ln
  · exact h.lb
  · exact fun q hq => (h.laid q hq).keeps (K 5) (K 3)
  · exact h.laidp.keeps (K 5) (K 3)
theorem CApO.op21 (h : CApO W gd ls v7 ps v8 nms v9 bs p nm c8 b13 D x w) (hD : D 21 = false)  : CApO W gd ls v7 ps v8 nms v9 bs p nm c8 b13 (dD D 21) (xX x 21 (x 18)) w := by
  have d : ∀ j, j ≠ 21 → dD D 21 j = D j := fun j hj => if_neg hj
  have y : ∀ j, j ≠ 21 → xX x 21 (x 18) j = x j := fun j hj => if_neg hj
  have K : ∀ e : TypeId, Keep e w w := fun e _ _ _ _ => rfl
  constructor
  · rw [d 3 (by decide)]; exact fun hd => own_keeps (h.own7n hd) (K 31)
  · rw [d 3 (by decide), y 3 (by decide)]; exact fun hd => by obtain ⟨A, c, h1, h2⟩ := h.own7 hd; exact ⟨A, c, h1, own_keeps h2 (K 31)⟩
  · rw [d 13 (by decide)]; exact fun hd => own_keeps (h.own8n hd) (K 9)
  · rw [d 13 (by decide), y 13 (by decide)]; exact fun hd => by obtain ⟨A, c, h1, h2⟩ := h.own8 hd; exact ⟨A, c, h1, own_keeps h2 (K 9)⟩
  · rw [d 18 (by decide)]; exact fun hd => own_keeps (h.own9n hd) (K 4)
  · rw [d 18 (by decide), y 18 (by decide)]; exact fun hd => by obtain ⟨A, c, b, h1, h2⟩ := h.own9 hd; exact ⟨A, c, b, h1, own_keeps h2 (K 4)⟩
  · rw [d 2 (by decide), d 3 (by decide), y 2 (by decide)]; exact fun a b => by obtain ⟨g, h1, h2⟩ := h.n2 a b; exact ⟨g, h1, h2.keeps (K 31)⟩
  · rw [d 9 (by decide), y 9 (by decide)]; exact fun a => by obtain ⟨g, h1, h2⟩ := h.n9 a; exact ⟨g, h1, h2.keeps (K 5)⟩
  · rw [d 12 (by decide), d 13 (by decide), y 12 (by decide)]; exact fun a b => by obtain ⟨g, h1, h2⟩ := h.n12 a b; exact ⟨g, h1, h2.keeps (K 9)⟩
  · rw [d 16 (by decide), y 16 (by decide)]; exact h.m16
  · rw [d 17 (by decide), d 18 (by decide), y 17 (by decide)]; exact fun a b => by obtain ⟨g, b, h1, h2⟩ := h.n17 a b; exact ⟨g, b, h1, h2.keeps (K 4)⟩
  · rw [d 19 (by decide), y 3 (by decide), y 19 (by decide)]; exact h.f19
  · rw [d 20 (by decide), y 13 (by decide), y 20 (by decide)]; exact h.f20
  · intro _; rw [y 18 (by decide)]; exact if_pos rfl
  · exact h.box.keeps (K 31)
  · exact h.far
  · exact h.dice
  · exact h.gdl
  · exact h.grown
  · exact h.ln
  · exact h.lb
  · exact fun q hq => (h.laid q hq).keeps (K 5) (K 3)
  · exact h.laidp.keeps (K 5) (K 3)
theorem CApO.op3 (h : CApO W gd ls v7 ps v8 nms v9 bs p nm c8 b13 D x w) (hD : D 3 = false) (h19 : D 19 = false) {A : Option Addr} {c : Nat} (hown : w'.ownsRow W.heap.size 31 8 (.slice A (ps.length + 1) c) (ps.length + 1) ((ps ++ [p]).flatMap Part.cells)) (hg : w.grownBy w' v7.ownBlock) : CApO W gd ls v7 ps v8 nms v9 bs p nm c8 b13 (dD D 3) (xX x 3 (.slice A (ps.length + 1) c)) w' := by
  have d : ∀ j, j ≠ 3 → dD D 3 j = D j := fun j hj => if_neg hj
  have y : ∀ j, j ≠ 3 → xX x 3 (.slice A (ps.length + 1) c) j = x j := fun j hj => if_neg hj
  have K : ∀ e : TypeId, e ≠ 31 → Keep e w w' := fun e he => Keep.own (h.own7n hD) hg he
  constructor
  · intro hd; exact absurd hd (by simp)
  · intro _; exact ⟨A, c, if_pos rfl, hown⟩
  · rw [d 13 (by decide)]; exact fun hd => own_keeps (h.own8n hd) (K 9 (by decide))
  · rw [d 13 (by decide), y 13 (by decide)]; exact fun hd => by obtain ⟨A, c, h1, h2⟩ := h.own8 hd; exact ⟨A, c, h1, own_keeps h2 (K 9 (by decide))⟩
  · rw [d 18 (by decide)]; exact fun hd => own_keeps (h.own9n hd) (K 4 (by decide))
  · rw [d 18 (by decide), y 18 (by decide)]; exact fun hd => by obtain ⟨A, c, b, h1, h2⟩ := h.own9 hd; exact ⟨A, c, b, h1, own_keeps h2 (K 4 (by decide))⟩
  · intro _ hd; exact absurd hd (by simp)
  · rw [d 9 (by decide), y 9 (by decide)]; exact fun a => by obtain ⟨g, h1, h2⟩ := h.n9 a; exact ⟨g, h1, h2.keeps (K 5 (by decide))⟩
  · rw [d 12 (by decide), d 13 (by decide), y 12 (by decide)]; exact fun a b => by obtain ⟨g, h1, h2⟩ := h.n12 a b; exact ⟨g, h1, h2.keeps (K 9 (by decide))⟩
  · rw [d 16 (by decide), y 16 (by decide)]; exact h.m16
  · rw [d 17 (by decide), d 18 (by decide), y 17 (by decide)]; exact fun a b => by obtain ⟨g, b, h1, h2⟩ := h.n17 a b; exact ⟨g, b, h1, h2.keeps (K 4 (by decide))⟩
  · intro hd; rw [d 19 (by decide)] at hd; rw [h19] at hd; cases hd
  · rw [d 20 (by decide), y 13 (by decide), y 20 (by decide)]; exact h.f20
  · rw [d 21 (by decide), y 18 (by decide), y 21 (by decide)]; exact h.f21
  · exact h.box.grown hg h.far
  · exact h.far
  · exact (by obtain ⟨k, hk⟩ := h.dice; exact ⟨k, hk.own (h.own7n hD) hg h.gdl⟩)
  · exact h.gdl
  · exact (grown_new h.grown hg (fun q hq => ((h.own7n hD).lt q hq).1))
  · exact h.ln
  · exact h.lb
  · exact fun q hq => (h.laid q hq).keeps (K 5 (by decide)) (K 3 (by decide))
  · exact h.laidp.keeps (K 5 (by decide)) (K 3 (by decide))
theorem CApO.op13 (h : CApO W gd ls v7 ps v8 nms v9 bs p nm c8 b13 D x w) (hD : D 13 = false) (h20 : D 20 = false) {A : Option Addr} {c : Nat} (hown : w'.ownsRow W.heap.size 9 1 (.slice A (ps.length + 1) c) (ps.length + 1) ((nms ++ [nm]).map Value.string)) (hg : w.grownBy w' v8.ownBlock) : CApO W gd ls v7 ps v8 nms v9 bs p nm c8 b13 (dD D 13) (xX x 13 (.slice A (ps.length + 1) c)) w' := by
  have d : ∀ j, j ≠ 13 → dD D 13 j = D j := fun j hj => if_neg hj
  have y : ∀ j, j ≠ 13 → xX x 13 (.slice A (ps.length + 1) c) j = x j := fun j hj => if_neg hj
  have K : ∀ e : TypeId, e ≠ 9 → Keep e w w' := fun e he => Keep.own (h.own8n hD) hg he
  constructor
  · rw [d 3 (by decide)]; exact fun hd => own_keeps (h.own7n hd) (K 31 (by decide))
  · rw [d 3 (by decide), y 3 (by decide)]; exact fun hd => by obtain ⟨A, c, h1, h2⟩ := h.own7 hd; exact ⟨A, c, h1, own_keeps h2 (K 31 (by decide))⟩
  · intro hd; exact absurd hd (by simp)
  · intro _; exact ⟨A, c, if_pos rfl, hown⟩
  · rw [d 18 (by decide)]; exact fun hd => own_keeps (h.own9n hd) (K 4 (by decide))
  · rw [d 18 (by decide), y 18 (by decide)]; exact fun hd => by obtain ⟨A, c, b, h1, h2⟩ := h.own9 hd; exact ⟨A, c, b, h1, own_keeps h2 (K 4 (by decide))⟩
  · rw [d 2 (by decide), d 3 (by decide), y 2 (by decide)]; exact fun a b => by obtain ⟨g, h1, h2⟩ := h.n2 a b; exact ⟨g, h1, h2.keeps (K 31 (by decide))⟩
  · rw [d 9 (by decide), y 9 (by decide)]; exact fun a => by obtain ⟨g, h1, h2⟩ := h.n9 a; exact ⟨g, h1, h2.keeps (K 5 (by decide))⟩
  · intro _ hd; exact absurd hd (by simp)
  · rw [d 16 (by decide), y 16 (by decide)]; exact h.m16
  · rw [d 17 (by decide), d 18 (by decide), y 17 (by decide)]; exact fun a b => by obtain ⟨g, b, h1, h2⟩ := h.n17 a b; exact ⟨g, b, h1, h2.keeps (K 4 (by decide))⟩
  · rw [d 19 (by decide), y 3 (by decide), y 19 (by decide)]; exact h.f19
  · intro hd; rw [d 20 (by decide)] at hd; rw [h20] at hd; cases hd
  · rw [d 21 (by decide), y 18 (by decide), y 21 (by decide)]; exact h.f21
  · exact h.box.keeps (K 31 (by decide))
  · exact h.far
  · exact (by obtain ⟨k, hk⟩ := h.dice; exact ⟨k, hk.own (h.own8n hD) hg h.gdl⟩)
  · exact h.gdl
  · exact (grown_new h.grown hg (fun q hq => ((h.own8n hD).lt q hq).1))
  · exact h.ln
  · exact h.lb
  · exact fun q hq => (h.laid q hq).keeps (K 5 (by decide)) (K 3 (by decide))
  · exact h.laidp.keeps (K 5 (by decide)) (K 3 (by decide))
theorem CApO.op18 (h : CApO W gd ls v7 ps v8 nms v9 bs p nm c8 b13 D x w) (hD : D 18 = false) (h21 : D 21 = false) {b : Bool} {A : Option Addr} {c : Nat} (hown : w'.ownsRow W.heap.size 4 1 (.slice A (ps.length + 1) c) (ps.length + 1) ((bs ++ [b]).map Value.bool)) (hg : w.grownBy w' v9.ownBlock) : CApO W gd ls v7 ps v8 nms v9 bs p nm c8 b13 (dD D 18) (xX x 18 (.slice A (ps.length + 1) c)) w' := by
  have d : ∀ j, j ≠ 18 → dD D 18 j = D j := fun j hj => if_neg hj
  have y : ∀ j, j ≠ 18 → xX x 18 (.slice A (ps.length + 1) c) j = x j := fun j hj => if_neg hj
  have K : ∀ e : TypeId, e ≠ 4 → Keep e w w' := fun e he => Keep.own (h.own9n hD) hg he
  constructor
  · rw [d 3 (by decide)]; exact fun hd => own_keeps (h.own7n hd) (K 31 (by decide))
  · rw [d 3 (by decide), y 3 (by decide)]; exact fun hd => by obtain ⟨A, c, h1, h2⟩ := h.own7 hd; exact ⟨A, c, h1, own_keeps h2 (K 31 (by decide))⟩
  · rw [d 13 (by decide)]; exact fun hd => own_keeps (h.own8n hd) (K 9 (by decide))
  · rw [d 13 (by decide), y 13 (by decide)]; exact fun hd => by obtain ⟨A, c, h1, h2⟩ := h.own8 hd; exact ⟨A, c, h1, own_keeps h2 (K 9 (by decide))⟩
  · intro hd; exact absurd hd (by simp)
  · intro _; exact ⟨A, c, b, if_pos rfl, hown⟩
  · rw [d 2 (by decide), d 3 (by decide), y 2 (by decide)]; exact fun a b => by obtain ⟨g, h1, h2⟩ := h.n2 a b; exact ⟨g, h1, h2.keeps (K 31 (by decide))⟩
  · rw [d 9 (by decide), y 9 (by decide)]; exact fun a => by obtain ⟨g, h1, h2⟩ := h.n9 a; exact ⟨g, h1, h2.keeps (K 5 (by decide))⟩
  · rw [d 12 (by decide), d 13 (by decide), y 12 (by decide)]; exact fun a b => by obtain ⟨g, h1, h2⟩ := h.n12 a b; exact ⟨g, h1, h2.keeps (K 9 (by decide))⟩
  · rw [d 16 (by decide), y 16 (by decide)]; exact h.m16
  · intro _ hd; exact absurd hd (by simp)
  · rw [d 19 (by decide), y 3 (by decide), y 19 (by decide)]; exact h.f19
  · rw [d 20 (by decide), y 13 (by decide), y 20 (by decide)]; exact h.f20
  · intro hd; rw [d 21 (by decide)] at hd; rw [h21] at hd; cases hd
  · exact h.box.keeps (K 31 (by decide))
  · exact h.far
  · exact (by obtain ⟨k, hk⟩ := h.dice; exact ⟨k, hk.own (h.own9n hD) hg h.gdl⟩)
  · exact h.gdl
  · exact (grown_new h.grown hg (fun q hq => ((h.own9n hD).lt q hq).1))
  · exact h.ln
  · exact h.lb
  · exact fun q hq => (h.laid q hq).keeps (K 5 (by decide)) (K 3 (by decide))
  · exact h.laidp.keeps (K 5 (by decide)) (K 3 (by decide))
theorem CApO.op16 (h : CApO W gd ls v7 ps v8 nms v9 bs p nm c8 b13 D x w) (hD : D 16 = false) {b : Bool} {k' : Nat} (hd : Dice w' gd ls k') (hg : w.grownBy w' (some gd)) : CApO W gd ls v7 ps v8 nms v9 bs p nm c8 b13 (dD D 16) (xX x 16 (.bool b)) w' := by
  have d : ∀ j, j ≠ 16 → dD D 16 j = D j := fun j hj => if_neg hj
  have y : ∀ j, j ≠ 16 → xX x 16 (.bool b) j = x j := fun j hj => if_neg hj
  have K0 : ∀ e : TypeId, e ≠ 84 → Keep e w w' := fun e he => by obtain ⟨k, hk⟩ := h.dice; obtain ⟨ds, hds⟩ := hk.cells; exact Keep.grown hg hds he
  constructor
  · rw [d 3 (by decide)]; exact fun hd => own_keeps (h.own7n hd) (K0 31 (by decide))
  · rw [d 3 (by decide), y 3 (by decide)]; exact fun hd => by obtain ⟨A, c, h1, h2⟩ := h.own7 hd; exact ⟨A, c, h1, own_keeps h2 (K0 31 (by decide))⟩
  · rw [d 13 (by decide)]; exact fun hd => own_keeps (h.own8n hd) (K0 9 (by decide))
  · rw [d 13 (by decide), y 13 (by decide)]; exact fun hd => by obtain ⟨A, c, h1, h2⟩ := h.own8 hd; exact ⟨A, c, h1, own_keeps h2 (K0 9 (by decide))⟩
  · rw [d 18 (by decide)]; exact fun hd => own_keeps (h.own9n hd) (K0 4 (by decide))
  · rw [d 18 (by decide), y 18 (by decide)]; exact fun hd => by obtain ⟨A, c, b, h1, h2⟩ := h.own9 hd; exact ⟨A, c, b, h1, own_keeps h2 (K0 4 (by decide))⟩
  · rw [d 2 (by decide), d 3 (by decide), y 2 (by decide)]; exact fun a b => by obtain ⟨g, h1, h2⟩ := h.n2 a b; exact ⟨g, h1, h2.keeps (K0 31 (by decide))⟩
  · rw [d 9 (by decide), y 9 (by decide)]; exact fun a => by obtain ⟨g, h1, h2⟩ := h.n9 a; exact ⟨g, h1, h2.keeps (K0 5 (by decide))⟩
  · rw [d 12 (by decide), d 13 (by decide), y 12 (by decide)]; exact fun a b => by obtain ⟨g, h1, h2⟩ := h.n12 a b; exact ⟨g, h1, h2.keeps (K0 9 (by decide))⟩
  · intro _; exact ⟨b, if_pos rfl⟩
  · rw [d 17 (by decide), d 18 (by decide), y 17 (by decide)]; exact fun a b => by obtain ⟨g, b, h1, h2⟩ := h.n17 a b; exact ⟨g, b, h1, h2.keeps (K0 4 (by decide))⟩
  · rw [d 19 (by decide), y 3 (by decide), y 19 (by decide)]; exact h.f19
  · rw [d 20 (by decide), y 13 (by decide), y 20 (by decide)]; exact h.f20
  · rw [d 21 (by decide), y 18 (by decide), y 21 (by decide)]; exact h.f21
  · exact h.box.keeps (K0 31 (by decide))
  · exact h.far
  · exact ⟨k', hd⟩
  · exact h.gdl
  · exact grown_trans h.grown hg
  · exact h.ln
  · exact h.lb
  · exact fun q hq => (h.laid q hq).keeps (K0 5 (by decide)) (K0 3 (by decide))
  · exact h.laidp.keeps (K0 5 (by decide)) (K0 3 (by decide))
/-- All have run. -/
theorem CApO.done (h : CApO W gd ls v7 ps v8 nms v9 bs p nm c8 b13 D x w) (hD : ∀ i, i < 22 → D i = true) : ∃ (A7 A8 A9 : Option Addr) (c7 c8' c9 : Nat) (b : Bool), x 19 = .slice A7 (ps.length + 1) c7 ∧ x 20 = .slice A8 (ps.length + 1) c8' ∧ x 21 = .slice A9 (ps.length + 1) c9 ∧
    RowsO W gd ls (.slice A7 (ps.length + 1) c7) (ps ++ [p]) (.slice A8 (ps.length + 1) c8') (nms ++ [nm]) (.slice A9 (ps.length + 1) c9) (bs ++ [b]) w := by
  obtain ⟨A7, c7, e7, o7⟩ := h.own7 (hD 3 (by decide))
  obtain ⟨A8, c8', e8, o8⟩ := h.own8 (hD 13 (by decide))
  obtain ⟨A9, c9, b, e9, o9⟩ := h.own9 (hD 18 (by decide))
  have hl : (ps ++ [p]).length = ps.length + 1 := by simp
  refine ⟨A7, A8, A9, c7, c8', c9, b, (h.f19 (hD 19 (by decide))).trans e7, (h.f20 (hD 20 (by decide))).trans e8, (h.f21 (hD 21 (by decide))).trans e9, ⟨by rw [hl]; exact o7, by rw [hl]; exact o8, by rw [hl]; exact o9, by rw [List.length_append, h.ln, hl]; rfl, by rw [List.length_append, h.lb, hl]; rfl, h.dice, h.gdl, h.grown, ?_⟩⟩
  intro q hq
  rcases List.mem_append.1 hq with h1 | h1
  · exact h.laid q h1
  · rw [List.mem_singleton.1 h1]; exact h.laidp
theorem CApO.start (h : RowsO W gd ls v7 ps v8 nms v9 bs w) (hp : OddQ w p) (hb : Blk w b13 31 (pArr p)) (hf : v7.ownBlock ≠ some b13) : CApO W gd ls v7 ps v8 nms v9 bs p nm c8 b13 (fun _ => false) (fun _ => undef) w.drew where
  own7n := fun _ => h.own7
  own7 := fun h => by cases h
  own8n := fun _ => h.own8
  own8 := fun h => by cases h
  own9n := fun _ => h.own9
  own9 := fun h => by cases h
  n2 := fun h _ => by cases h
  n9 := fun h => by cases h
  n12 := fun h _ => by cases h
  m16 := fun h => by cases h
  n17 := fun h _ => by cases h
  f19 := fun h => by cases h
  f20 := fun h => by cases h
  f21 := fun h => by cases h
  box := hb
  far := hf
  dice := by obtain ⟨k, hk⟩ := h.dice; exact ⟨k, hk⟩
  gdl := h.gdl
  grown := drew_grown h.grown
  ln := h.ln
  lb := h.lb
  laid := fun q hq => (h.laid q hq).keeps Keep.drew Keep.drew
  laidp := hp.keeps Keep.drew Keep.drew
end
end Go.Proofs.Ytamhigknobdloaa
namespace Go.Proofs.Ytamhigknobdloaa
open Go.RowKit
set_option linter.unusedVariables false

theorem RowsO.box {W w w' : World} {gd g : Nat} {ls : List Int} {A7 : Option Addr} {n7 c7 : Nat} {v8 v9 : Value} {ps : List Part} {nms : List ByteArray} {bs : List Bool} {cs : Array Value} (h : RowsO W gd ls (.slice A7 n7 c7) ps v8 nms v9 bs w) (hb : Blk w g 31 cs) (hg : w.grownBy w' (some g)) (hf : (Value.slice A7 n7 c7).ownBlock ≠ some g) (h1 : W.heap.size ≤ g) (h2 : gd < g) :
    RowsO W gd ls (.slice A7 n7 c7) ps v8 nms v9 bs w' := by
  have K : ∀ e : TypeId, e ≠ 31 → Keep e w w' := fun e he => Keep.grown hg hb he
  obtain ⟨k, hk⟩ := h.dice
  exact ⟨h.own7.kept hg (.inr hf), own_keeps h.own8 (K _ (by decide)), own_keeps h.own9 (K _ (by decide)), h.ln, h.lb, ⟨k, hk.far hg (fun q hq => by injection hq with hq; omega)⟩, h.gdl, grown_new h.grown hg (fun q hq => by injection hq with hq; omega), fun p hp => (h.laid p hp).keeps (K _ (by decide)) (K _ (by decide))⟩
/-- A slice of strings, from its second element on. -/
theorem run_tail66 (w : World) (A : Option Addr) (n c : Nat) (xs : List ByteArray) (hs : Sl w A (xs.map Value.string)) (hn : xs.length = n) (h1 : 1 ≤ n) (hc : n ≤ c) :
    ∃ A' c', (∀ W : World, (Instr.slice 66 (.slice A n c) (some (.int .i64 (1 : Int))) none none).run Try.prog W = .ok (.slice A' (n - 1) c') W) ∧ Sl w A' ((xs.drop 1).map Value.string) := by
  refine ⟨(if c = 1 then A else Option.map (fun x => x.add 1) A), c - 1, fun W => ?_, ?_⟩
  · have he : Try.prog.elem 66 = 9 := by unfold Program.elem; rw [Try.underlying66]
    have hr := run_slice_l (P := Try.prog) (w := W) 66 A n c (by rw [he]; exact Try.underlying66) .i64 (1 : Int) (by omega) (by omega)
    rw [he] at hr
    have hsz : (sizeOf 9).run Try.prog W = .ok 1 W := by kernel_rfl
    rw [hsz] at hr
    simpa [sliced] using hr
  · by_cases h : c = 1
    · rw [if_pos h]
      have : xs.drop 1 = [] := List.drop_eq_nil_of_le (by omega)
      rw [this]; exact .inl rfl
    · rw [if_neg h]
      rcases hs with hs | ⟨b, off, rfl, hcell⟩
      · have : xs = [] := by simpa using hs
        subst this; exact .inl rfl
      · refine .inr ⟨b, off + 1, by show some ((⟨b, off, none⟩ : Addr).add 1) = _; rw [add_lit], fun j hj => ?_⟩
        have hj' : j + 1 < (xs.map Value.string).length := by simp at hj ⊢; omega
        have := hcell (j + 1) hj'
        rw [show off + 1 + j = off + (j + 1) by omega, this]
        simp
def CasesPostO (gd : Nat) (ls : List Int) (w : World) (e : Ending) (w' : World) : Prop :=
  ∃ (ps : List Part) (nms : List ByteArray) (bs : List Bool) (A7 A8 A9 : Option Addr) (c7 c8 c9 : Nat), e = .returned (.tuple #[.slice A7 ps.length c7, .slice A8 nms.length c8, .slice A9 bs.length c9]) ∧ ps.length ≤ 5 ∧ nms.length ≤ 5 ∧ bs.length ≤ 5 ∧
    Parts w' A7 ps ∧ Sl w' A8 (nms.map Value.string) ∧ Sl w' A9 (bs.map Value.bool) ∧ (∀ p ∈ ps, OddQ w' p) ∧ (∃ k, Dice w' gd ls k) ∧ w.grownBy w' (some gd)

set_option maxHeartbeats 6400000 in
set_option maxRecDepth 100000 in
theorem cases_odd (gd : Nat) (ls : List Int) (k : Nat) (w : World) (hd : Dice w gd ls k) : Calls Try.prog 56 #[.pointer (some ⟨gd, 0, none⟩), .bool true] w (CasesPostO gd ls w) := by
  have hgdl := hd.lt
  obtain ⟨W, rfl⟩ : ∃ W : World, W = w := ⟨_, rfl⟩
  go_enter Try.func56, Try.ntmps56
  go_wp2_with fail
  refine (next_lt gd ls k 6 _ hd (by omega) (by omega)).mono ?_
  rintro e w1 ⟨r, k1, rfl, hr, hd1, hk1, hx1, hg1⟩
  clear hx1
  have hr5 : r ≤ 5 := by omega
  have hrows : RowsO W gd ls (.slice none ([] : List Part).length 0) [] (.slice none ([] : List Part).length 0) [] (.slice none ([] : List Part).length 0) [] w1 :=
    ⟨World.ownsRow_nil _ _ _ _, World.ownsRow_nil _ _ _ _, World.ownsRow_nil _ _ _ _, rfl, rfl, ⟨k1, hd1⟩, hgdl, hg1, by simp⟩
  have HROWS := Lib.hid hrows
  clear hd hd1 hg1 hrows hr hk1
  go_wp2_with fail
  go_loopw [7, 8, 9, 10] (fun v7 v8 v9 v10 wr => ∃ (q : Nat) (ps : List Part) (nms : List ByteArray) (bs : List Bool) (A7 A8 A9 : Option Addr) (c7 c8 c9 : Nat), v10 = .int .i64 q ∧ ps.length + q ≤ 5 ∧ v7 = .slice A7 ps.length c7 ∧ v8 = .slice A8 ps.length c8 ∧ v9 = .slice A9 ps.length c9 ∧ RowsO W gd ls (.slice A7 ps.length c7) ps (.slice A8 ps.length c8) nms (.slice A9 ps.length c9) bs wr) (fun _ _ _ v10 _ => (intOf v10).toNat)
  case atStart => exact ⟨r, [], [], [], none, none, none, 0, 0, 0, rfl, by simpa using hr5, rfl, rfl, rfl, HROWS.out⟩
  case round =>
    obtain ⟨q, ps, nms, bs, A7, A8, A9, c7, c8, c9, rfl, hpq, rfl, rfl, rfl, H⟩ := hrel
    clear HROWS hr5
    by_cases h0 : 0 < q
    · obtain ⟨q, rfl⟩ : ∃ p, q = p + 1 := ⟨q - 1, by omega⟩
      obtain ⟨kk, hdd⟩ := H.dice
      have HH := Lib.hid H
      clear H
      go_wp2_with fail
      refine (next_lt gd ls kk 4 _ hdd (by omega) (by omega)).mono ?_
      rintro e w2 ⟨r2, k2, rfl, hr2, hd2, hk2, hx2, hg2⟩
      clear hx2
      have hr3 : r2 ≤ 3 := by omega
      have H2 := HH.out.dices hd2 hg2
      have hps0 : PartsAt w2 gd ls (.slice none ([] : List Part).length 0) [] w2 := ⟨World.ownsRow_nil _ _ _ _, ⟨k2, hd2⟩, World.grownBy.refl _ _, by simp⟩
      have HPS0 := Lib.hid hps0
      have HH2 := Lib.hid H2
      have hgd2 : gd < w2.heap.size := hd2.lt
      clear hdd hd2 hg2 H2 hps0 HH hr2 hk2
      obtain ⟨wo, rfl⟩ : ∃ wo : World, wo = wr := ⟨_, rfl⟩
      go_wp2_with fail
      go_loopw [11, 12] (fun v11 v12 wq => ∃ (j : Nat) (qs : List Part) (A' : Option Addr) (c' : Nat), v12 = .int .i64 j ∧ qs.length + j ≤ 3 ∧ v11 = .slice A' qs.length c' ∧ PartsAt w2 gd ls (.slice A' qs.length c') qs wq) (fun _ v12 _ => (intOf v12).toNat)
      case atStart => exact ⟨r2, [], none, 0, rfl, by simpa using hr3, rfl, HPS0.out⟩
      case round =>
        obtain ⟨j, qs, A', c', rfl, hqj, rfl, I⟩ := hrel
        clear HPS0 hr3
        by_cases hj0 : 0 < j
        · obtain ⟨j, rfl⟩ : ∃ p, j = p + 1 := ⟨j - 1, by omega⟩
          obtain ⟨kj, hdj⟩ := I.dice
          have II := Lib.hid I
          clear I
          go_wp2_with fail
          refine (layout_any _ gd ls kj _ hdj (Nat.le_refl _)).mono ?_
          rintro e w3 ⟨⟨s1, al1, A1, sp1, c1, x31, x41, x51, x61, x71⟩, k3, he, m1, hd3, hk3, hg3⟩
          have he' : e = .returned (.agg #[.int .i64 s1, .int .i64 al1, .slice A1 sp1.length c1, x31, x41, x51, x61, x71]) := he
          subst he'
          have hone := m1.one
          have sx3 := store_var (P := Try.prog) hone.h3
          have sx4 := store_var (P := Try.prog) hone.h4
          have sx5 := store_var (P := Try.prog) hone.h5
          have sx6 := store_var (P := Try.prog) hone.h6
          have sx7 := store_var (P := Try.prog) hone.h7
          obtain ⟨ds, hds⟩ := hdj.cells
          have own3 := II.out.own.kept hg3 (own_blk_ne II.out.own hds (by decide))
          have hg33 := grown_trans II.out.grown hg3
          have hm3 : ∀ q ∈ qs, Made w3 q := fun q hq => (II.out.made q hq).grown hg3 hds (by decide) (by decide)
          obtain ⟨A4, c4, w4, hrun, own4, hg4⟩ := run_part w2.heap.size A' c' qs qs.length rfl own3 (by omega) hg33.size ⟨s1, al1, A1, sp1, c1, x31, x41, x51, x61, x71⟩ hone
          have hps : PartsAt w2 gd ls (.slice A4 (qs ++ [(⟨s1, al1, A1, sp1, c1, x31, x41, x51, x61, x71⟩ : Part)]).length c4) (qs ++ [⟨s1, al1, A1, sp1, c1, x31, x41, x51, x61, x71⟩]) w4 := by
            refine ⟨by rw [List.length_append, List.length_singleton]; exact own4, ⟨k3, hd3.own own3 hg4 hgd2⟩, grown_new hg33 hg4 (fun q hq => (own3.lt q hq).1), ?_⟩
            intro q hq
            rcases List.mem_append.1 hq with h | h
            · exact (hm3 q h).own_grown own3 hg4
            · rw [List.mem_singleton.1 h]; exact m1.own_grown own3 hg4
          have HPS := Lib.hid hps
          clear he m1 hd3 hk3 hg3 hone hds own3 hg33 hm3 own4 hg4 hps II hdj
          go_wp2_with fail
          go_roundw
          case rel => exact ⟨j, qs ++ [⟨s1, al1, A1, sp1, c1, x31, x41, x51, x61, x71⟩], A4, c4, by go_num, by rw [List.length_append, List.length_singleton]; omega, by rw [List.length_append, List.length_singleton], HPS.out⟩
          case measure => simp [intOf]
        · obtain rfl : j = 0 := by omega
          obtain ⟨kj, hdj⟩ := I.dice
          have hHr := HH2.out.dices hdj I.grown
          have hlay := rlay_any A' qs.length c' qs wr rfl (parts_own I.own) (by omega) (fun q hq => (I.made q hq).sp.sl) (fun q hq => (I.made q hq).one)
          have HLAY := Lib.hid hlay
          have HHR := Lib.hid hHr
          have hszr := I.grown.size
          clear hlay hHr I hdj HH2
          go_wp2_with fail
          refine HLAY.out.mono ?_
          intro e w4 h4
          obtain ⟨L, hL⟩ : ∃ L, L = layR qs := ⟨_, rfl⟩
          have hgl := layR_good qs
          have hol := (layR_of qs).1
          unfold LayPost at h4
          rw [← hL] at h4 hgl hol
          obtain ⟨As, cs, Ao, co, he, hS, hO, capS, capO, hb4⟩ := h4
          have he' : e = .returned (.tuple #[.agg #[.int .i64 L.s, .int .i64 L.al, .slice As L.sp.length cs, .slice Ao L.of.length co, .slice none 0 0, .slice none 0 0, .slice none 0 0, .bool false], .int .i64 (layE qs)]) := he
          subst he'
          have hb5 := fun al : Int => (Below.refl w4.heap.size w4).alloc (Nat.le_refl _) (.cells #[.int .i64 L.s, .int .i64 al, .slice As L.sp.length cs, .slice Ao L.of.length co, .slice none 0 0, .slice none 0 0, .slice none 0 0, .bool false] 31)
          have hR5 := fun al : Int => HHR.out.below (below_next hb4 (hb5 al))
          have hBx := fun al : Int => Blk.new w4 31 #[.int .i64 L.s, .int .i64 al, .slice As L.sp.length cs, .slice Ao L.of.length co, .slice none 0 0, .slice none 0 0, .slice none 0 0, .bool false]
          have hfar : (Value.slice A7 ps.length c7).ownBlock ≠ some w4.heap.size := fun e => by have h1 := (HHR.out.own7.lt _ e).2; have h2 := hb4.size; omega
          have hS5 := fun al : Int => hS.below (hb5 al)
          have hO5 := fun al : Int => hO.below (hb5 al)
          have HR5 := Lib.hid hR5
          have HBX := Lib.hid hBx
          have HFAR := Lib.hid hfar
          have HS5 := Lib.hid hS5
          have HO5 := Lib.hid hO5
          obtain ⟨⟨b0, b1, b2, b3, b4, b5, b6, b7⟩, bf⟩ := (hBx L.al).eight
          have hW4 : W.heap.size ≤ w4.heap.size := Nat.le_trans HHR.out.grown.size hb4.size
          have hgd4 : gd < w4.heap.size := by omega
          clear he hS hO hb4 hb5 hR5 hBx hfar hS5 hO5 hL HHR HLAY
          have hpl5 : ps.length ≤ 5 := by omega
          rcases (show L.al = 0 ∨ ¬ L.al = 0 by omega) with hal | hal
          case' inl =>
            have hd0 : (L.al == 0) = true := by simpa using hal
            have HAL := Lib.hid hal
            clear hal
            go_upto_region 15 with fail
            refine gen_world (fun S => ∃ p : Part, RowsO W gd ls (.slice A7 ps.length c7) ps (.slice A8 ps.length c8) nms (.slice A9 ps.length c9) bs S ∧ Blk S w4.heap.size 31 (pArr p) ∧ OddQ S p) ⟨⟨L.s, 1, As, L.sp, cs, .slice Ao L.of.length co, .slice none 0 0, .slice none 0 0, .slice none 0 0, .bool false⟩, ?_, ?_, ?_⟩ ?_
            · exact HR5.out 1
            · exact HBX.out 1
            · exact ⟨HS5.out 1, capS, ⟨rfl, rfl, rfl, rfl, rfl⟩, by show (0 : Int) ≤ L.s; omega, by show L.s ≤ 2000; omega, by show (-100 : Int) ≤ 1; omega, by show (1 : Int) ≤ 100; omega, by show L.sp.length ≤ 2000; omega, ⟨Ao, L.of, co, rfl, HO5.out 1, capO, by omega⟩⟩
          case' inr =>
            have hd0 : (L.al == 0) = false := by simpa using hal
            have HAL := Lib.hid hal
            clear hal
            go_upto_region 15 with fail
            refine gen_world (fun S => ∃ p : Part, RowsO W gd ls (.slice A7 ps.length c7) ps (.slice A8 ps.length c8) nms (.slice A9 ps.length c9) bs S ∧ Blk S w4.heap.size 31 (pArr p) ∧ OddQ S p) ⟨⟨L.s, L.al, As, L.sp, cs, .slice Ao L.of.length co, .slice none 0 0, .slice none 0 0, .slice none 0 0, .bool false⟩, HR5.out L.al, HBX.out L.al, ⟨HS5.out L.al, capS, ⟨rfl, rfl, rfl, rfl, rfl⟩, by show (0 : Int) ≤ L.s; omega, by show L.s ≤ 2000; omega, by show (-100 : Int) ≤ L.al; omega, by show L.al ≤ 100; omega, by show L.sp.length ≤ 2000; omega, ⟨Ao, L.of, co, rfl, HO5.out L.al, capO, by omega⟩⟩⟩ ?_
          all_goals
            intro S ⟨p, hR, hB, hLp⟩
            clear b0 b1 b2 b3 b4 b5 b6 b7 bf hd0 HAL HR5 HBX HS5 HO5
            obtain ⟨k7, hk7⟩ := hR.dice
            obtain ⟨gb4, hgb4⟩ : ∃ gb4, gb4 = w4.heap.size := ⟨_, rfl⟩
            rw [← hgb4] at hB HFAR hW4 hgd4 ⊢
            have HRR := Lib.hid hR
            have HBB := Lib.hid hB
            have HLP := Lib.hid hLp
            clear hR hB hLp hgb4
            go_upto_if 45 with ((go_at_call 65; refine (rare_any gd ls k7 5 _ hk7 (by omega) (by omega)).mono ?_; rintro e w5 ⟨b5, k5, rfl, hd5, hk5, hg5⟩))
            obtain ⟨ds5, hds5⟩ := hk7.cells
            have hR5 := HRR.out.dices hd5 hg5
            have hB5 := HBB.out.grown hg5 (fun e => by injection e with e; omega)
            have hL5 := HLP.out.grown hg5 hds5 (by decide)
            have HR5 := Lib.hid hR5
            have HB5 := Lib.hid hB5
            have HL5 := Lib.hid hL5
            have HD5 := Lib.hid hd5
            clear hds5 hR5 hB5 hL5 hk7 hd5 hk5 hg5 HRR HBB HLP
            go_cut [45] (fun v45 wx => ∃ p : Part, RowsO W gd ls (.slice A7 ps.length c7) ps (.slice A8 ps.length c8) nms (.slice A9 ps.length c9) bs wx ∧ Blk wx gb4 31 (pArr p) ∧ OddQ wx p)
            case first =>
              cases b5 with
              | false =>
                go_wp2_with fail
                go_meet
                exact ⟨p, HR5.out, HB5.out, HL5.out⟩
              | true =>
                go_wp2_with fail
                refine (oddq_any gd ls k5 _ HD5.out).mono ?_
                rintro e w6 ⟨⟨s1, al1, A1, sp1, c1, x31, x41, x51, x61, x71⟩, k6, he, hq, hd6, hk6, hg6⟩
                have he' : e = .returned (.agg #[.int .i64 s1, .int .i64 al1, .slice A1 sp1.length c1, x31, x41, x51, x61, x71]) := he
                subst he'
                have hR6 := HR5.out.dices hd6 hg6
                have hB6 := HB5.out.grown hg6 (fun e => by injection e with e; omega)
                have hone := hq.one
                have sx3 := store_var (P := Try.prog) hone.h3
                have sx4 := store_var (P := Try.prog) hone.h4
                have sx5 := store_var (P := Try.prog) hone.h5
                have sx6 := store_var (P := Try.prog) hone.h6
                have sx7 := store_var (P := Try.prog) hone.h7
                obtain ⟨⟨b0, b1, b2, b3, b4, b5, b6, b7⟩, bf⟩ := Blk.eight hB6
                have hbl := hB6.lt
                obtain ⟨S7, hS7⟩ : ∃ S7, S7 = (((((((w6.setCell ⟨gb4, 0, none⟩ (.int .i64 s1)).setCell ⟨gb4, 1, none⟩ (.int .i64 al1)).setCell ⟨gb4, 2, none⟩ (.slice A1 sp1.length c1)).setCell ⟨gb4, 3, none⟩ x31).setCell ⟨gb4, 4, none⟩ x41).setCell ⟨gb4, 5, none⟩ x51).setCell ⟨gb4, 6, none⟩ x61).setCell ⟨gb4, 7, none⟩ x71 := ⟨_, rfl⟩
                have h8 : w6.grownBy S7 (some gb4) := by rw [hS7]; exact only8 w6 gb4 _ _ _ _ _ _ _ _
                have hB7 : Blk S7 gb4 31 (pArr ⟨s1, al1, A1, sp1, c1, x31, x41, x51, x61, x71⟩) := by rw [hS7]; exact Blk.set8 hB6 _ _ _ _ _ _ _ _
                have HR7 := Lib.hid (hR6.box hB6 h8 HFAR.out hW4 hgd4)
                have HQ7 := Lib.hid (hq.grown h8 hB6 (by decide))
                have HB7 := Lib.hid hB7
                have HS7 := Lib.hid hS7
                clear hR6 hB6 hone hq hS7 h8 hB7 he hd6 hk6 hg6 HR5 HB5 HL5 HD5
                go_wp2_with fail
                rw [← HS7.out]
                go_meet
                exact ⟨⟨s1, al1, A1, sp1, c1, x31, x41, x51, x61, x71⟩, HR7.out, HB7.out, HQ7.out⟩
            case rest =>
            obtain ⟨p, hR, hB, hLp⟩ := hcut
            have hone := hLp.one
            have sx3 := store_var (P := Try.prog) hone.h3
            have sx4 := store_var (P := Try.prog) hone.h4
            have sx5 := store_var (P := Try.prog) hone.h5
            have sx6 := store_var (P := Try.prog) hone.h6
            have sx7 := store_var (P := Try.prog) hone.h7
            have hst := CApO.start hR (nm := cname ps.length) (c8 := .int .u8 (97 + (ps.length : Int))) hLp hB HFAR.out
            have HST := Lib.hid hst
            clear hR hB hLp hst hone HR5 HB5 HL5 HD5
            go_wp2_with fail
            refine gen_act fun a0 ha0 => ?_
            have z0 : a0.eval (.tmp 0) = .pointer (some ⟨gd, 0, none⟩) := by rw [ha0]; rfl
            have z7 : a0.eval (.tmp 7) = .slice A7 ps.length c7 := by rw [ha0]; rfl
            have z8 : a0.eval (.tmp 8) = .slice A8 ps.length c8 := by rw [ha0]; rfl
            have z9 : a0.eval (.tmp 9) = .slice A9 ps.length c9 := by rw [ha0]; rfl
            have z13 : a0.eval (.tmp 13) = .pointer (some ⟨gb4, 0, none⟩) := by rw [ha0]; rfl
            have zs : a0.tmps.size = 82 := by rw [ha0]; rfl
            have HA0 := Lib.hid ha0
            clear ha0
            refine wp_region_kn (by kernel_rfl) (ord_of' (by kernel_rfl)) (dst_of (by kernel_rfl)) (size_of' (n := 82) (by kernel_rfl) zs) [some (.slice A7 ps.length c7), some (.agg (pArr p)), none, none, some (.slice A8 ps.length c8), some (.slice A8 ps.length c8), some (.int .i64 ps.length), some (.int .i64 (97 + (ps.length : Int))), some (.int .u8 (97 + (ps.length : Int))), none, some (.string ⟨([97 + UInt8.ofNat ps.length] : List UInt8).toArray⟩), some (.string (cname ps.length)), none, none, some (.slice A9 ps.length c9), some (.pointer (some ⟨gd, 0, none⟩)), none, none, none, none, none, none] ?_ (CApO W gd ls (.slice A7 ps.length c7) ps (.slice A8 ps.length c8) nms (.slice A9 ps.length c9) bs p (cname ps.length) (.int .u8 (97 + (ps.length : Int))) gb4) HST.out ?_ ?_ ?_ ?_
            · intro i o g bl ho hg
              rw [guard_of (by kernel_rfl) i o ho] at hg
              cases hg
            · intro i u D x wv hl hD hI
              have hi : i < 22 := by have h := (List.getElem?_eq_some_iff.1 hl).1; simpa using h
              have hnh : i ≠ 2 ∧ i ≠ 3 ∧ i ≠ 9 ∧ i ≠ 12 ∧ i ≠ 13 ∧ i ≠ 16 ∧ i ≠ 17 ∧ i ≠ 18 ∧ i ≠ 19 ∧ i ≠ 20 ∧ i ≠ 21 := by
                refine ⟨?_, ?_, ?_, ?_, ?_, ?_, ?_, ?_, ?_, ?_, ?_⟩ <;> (rintro rfl; simp at hl)
              exact hI.ins i u hnh
            · intro D x a wv i o u ho hl hD hdep hcl hF hKn hI hwant K hk
              have hi : i < 22 := (Array.getElem?_eq_some_iff.1 ho).1
              rcases (show i = 0 ∨ i = 1 ∨ i = 2 ∨ i = 3 ∨ i = 4 ∨ i = 5 ∨ i = 6 ∨ i = 7 ∨ i = 8 ∨ i = 9 ∨ i = 10 ∨ i = 11 ∨ i = 12 ∨ i = 13 ∨ i = 14 ∨ i = 15 ∨ i = 16 ∨ i = 17 ∨ i = 18 ∨ i = 19 ∨ i = 20 ∨ i = 21 by omega) with rfl | rfl | rfl | rfl | rfl | rfl | rfl | rfl | rfl | rfl | rfl | rfl | rfl | rfl | rfl | rfl | rfl | rfl | rfl | rfl | rfl | rfl
              · simp only [List.getElem?_toArray, List.getElem?_cons_zero, Option.some.injEq] at ho
                subst ho
                obtain rfl : .slice A7 ps.length c7 = u := by simpa using hl
                have c19 : D 19 = false := by
                  cases hx : D 19 with
                  | false => rfl
                  | true =>
                    have hy := hcl 19 _ rfl hx
                    simp [Region.binds] at hy
                    simp [hy] at hD
                have e7 := ev_tmp ((hF.same (fun j oj hj hd => by rw [dst_only (by kernel_rfl) hj hd (k := 19) rfl]; exact c19)).trans z7)
                clear hF hcl hKn hl hwant
                go_simp
                exact hk
              · simp only [List.getElem?_toArray, List.getElem?_cons_zero, List.getElem?_cons_succ, Option.some.injEq] at ho
                subst ho
                obtain rfl : .agg (pArr p) = u := by simpa using hl
                have e13 := hF.ev0 (by kernel_rfl) z13
                obtain ⟨⟨b0, b1, b2, b3, b4, b5, b6, b7⟩, bf⟩ := Blk.eight hI.box
                clear hF hcl hKn hl hwant
                go_simp
                exact hk
              · simp at hl
              · simp at hl
              · simp only [List.getElem?_toArray, List.getElem?_cons_zero, List.getElem?_cons_succ, Option.some.injEq] at ho
                subst ho
                obtain rfl : .slice A8 ps.length c8 = u := by simpa using hl
                have c20 : D 20 = false := by
                  cases hx : D 20 with
                  | false => rfl
                  | true =>
                    have hy := hcl 20 _ rfl hx
                    simp [Region.binds] at hy
                    simp [hy] at hD
                have e8 := ev_tmp ((hF.same (fun j oj hj hd => by rw [dst_only (by kernel_rfl) hj hd (k := 20) rfl]; exact c20)).trans z8)
                clear hF hcl hKn hl hwant
                go_simp
                exact hk
              · simp only [List.getElem?_toArray, List.getElem?_cons_zero, List.getElem?_cons_succ, Option.some.injEq] at ho
                subst ho
                obtain rfl : .slice A8 ps.length c8 = u := by simpa using hl
                have c20 : D 20 = false := by
                  cases hx : D 20 with
                  | false => rfl
                  | true =>
                    have hy := hcl 20 _ rfl hx
                    simp [Region.binds] at hy
                    simp [hy] at hD
                have e8 := ev_tmp ((hF.same (fun j oj hj hd => by rw [dst_only (by kernel_rfl) hj hd (k := 20) rfl]; exact c20)).trans z8)
                clear hF hcl hKn hl hwant
                go_simp
                exact hk
              · simp only [List.getElem?_toArray, List.getElem?_cons_zero, List.getElem?_cons_succ, Option.some.injEq] at ho
                subst ho
                simp [Region.binds] at hdep
                obtain rfl : .int .i64 ps.length = u := by simpa using hl
                have e53 := hKn.ev hF 5 rfl rfl rfl (by simp [hdep])
                clear hF hcl hKn hl hwant
                go_simp
                exact hk
              · simp only [List.getElem?_toArray, List.getElem?_cons_zero, List.getElem?_cons_succ, Option.some.injEq] at ho
                subst ho
                simp [Region.binds] at hdep
                obtain rfl : .int .i64 (97 + (ps.length : Int)) = u := by simpa using hl
                have e54 := hKn.ev hF 6 rfl rfl rfl (by simp [hdep])
                have hw : IntKind.i64.wrap (97 + (ps.length : Int)) = 97 + (ps.length : Int) := by rw [IntKind.wrap_i64]; omega
                clear hF hcl hKn hl hwant
                go_simp
                exact hk
              · simp only [List.getElem?_toArray, List.getElem?_cons_zero, List.getElem?_cons_succ, Option.some.injEq] at ho
                subst ho
                simp [Region.binds] at hdep
                obtain rfl : .int .u8 (97 + (ps.length : Int)) = u := by simpa using hl
                have e55 := hKn.ev hF 7 rfl rfl rfl (by simp [hdep])
                have hw : IntKind.u8.wrap (97 + (ps.length : Int)) = 97 + (ps.length : Int) := by unfold IntKind.wrap; simp [IntKind.signed, IntKind.bits]; omega
                clear hF hcl hKn hl hwant
                go_simp
                exact hk
              · simp at hl
              · simp only [List.getElem?_toArray, List.getElem?_cons_zero, List.getElem?_cons_succ, Option.some.injEq] at ho
                subst ho
                simp [Region.binds] at hdep
                obtain rfl : .string ⟨([97 + UInt8.ofNat ps.length] : List UInt8).toArray⟩ = u := by simpa using hl
                obtain ⟨g, hx, hB9⟩ := hI.n9 (by simp [hdep])
                have e57 := hF.ev 9 rfl rfl (by simp [hdep]) hx
                have hsl : Sl wv (some ⟨g, 0, none⟩) (([97 + UInt8.ofNat ps.length] : List UInt8).map bv) := by have h := Sl.ofBlk hB9; rw [u97 ps.length (by omega)] at h; exact h
                have cv := run_convb (P := Try.prog) wv 27 9 5 (some ⟨g, 0, none⟩) 1 1 [97 + UInt8.ofNat ps.length] Try.underlying27 Try.underlying5 Try.underlying9 hsl rfl
                clear hF hcl hKn hl hwant
                go_simp
                exact hk
              · simp only [List.getElem?_toArray, List.getElem?_cons_zero, List.getElem?_cons_succ, Option.some.injEq] at ho
                subst ho
                simp [Region.binds] at hdep
                obtain rfl : .string (cname ps.length) = u := by simpa using hl
                have e58 := hKn.ev hF 10 rfl rfl rfl (by simp [hdep])
                have hte := cname_eq ps.length
                clear hF hcl hKn hl hwant
                go_simp
                exact hk
              · simp at hl
              · simp at hl
              · simp only [List.getElem?_toArray, List.getElem?_cons_zero, List.getElem?_cons_succ, Option.some.injEq] at ho
                subst ho
                obtain rfl : .slice A9 ps.length c9 = u := by simpa using hl
                have c21 : D 21 = false := by
                  cases hx : D 21 with
                  | false => rfl
                  | true =>
                    have hy := hcl 21 _ rfl hx
                    simp [Region.binds] at hy
                    simp [hy] at hD
                have e9 := ev_tmp ((hF.same (fun j oj hj hd => by rw [dst_only (by kernel_rfl) hj hd (k := 21) rfl]; exact c21)).trans z9)
                clear hF hcl hKn hl hwant
                go_simp
                exact hk
              · simp only [List.getElem?_toArray, List.getElem?_cons_zero, List.getElem?_cons_succ, Option.some.injEq] at ho
                subst ho
                obtain rfl : .pointer (some ⟨gd, 0, none⟩) = u := by simpa using hl
                have e0 := hF.ev0 (by kernel_rfl) z0
                clear hF hcl hKn hl hwant
                go_simp
                exact hk
              · simp at hl
              · simp at hl
              · simp at hl
              · simp at hl
              · simp at hl
              · simp at hl
            · intro D x a wv i o ho hl hD hdep hcl hF hKn hI K hk
              have hi : i < 22 := (Array.getElem?_eq_some_iff.1 ho).1
              rcases (show i = 0 ∨ i = 1 ∨ i = 2 ∨ i = 3 ∨ i = 4 ∨ i = 5 ∨ i = 6 ∨ i = 7 ∨ i = 8 ∨ i = 9 ∨ i = 10 ∨ i = 11 ∨ i = 12 ∨ i = 13 ∨ i = 14 ∨ i = 15 ∨ i = 16 ∨ i = 17 ∨ i = 18 ∨ i = 19 ∨ i = 20 ∨ i = 21 by omega) with rfl | rfl | rfl | rfl | rfl | rfl | rfl | rfl | rfl | rfl | rfl | rfl | rfl | rfl | rfl | rfl | rfl | rfl | rfl | rfl | rfl | rfl
              · exact absurd rfl (hl _)
              · exact absurd rfl (hl _)
              · simp only [List.getElem?_toArray, List.getElem?_cons_zero, List.getElem?_cons_succ, Option.some.injEq] at ho
                subst ho
                simp [Region.binds] at hdep
                have e49 := hKn.ev hF 1 rfl rfl rfl (by simp [hdep])
                clear hF hcl hKn hl
                go_simp
                exact hk _ _ (hI.op2 hD)
              · simp only [List.getElem?_toArray, List.getElem?_cons_zero, List.getElem?_cons_succ, Option.some.injEq] at ho
                subst ho
                simp [Region.binds] at hdep
                have e48 := hKn.ev hF 0 rfl rfl rfl (by simp [hdep])
                have c19 : D 19 = false := by
                  cases hx : D 19 with
                  | false => rfl
                  | true =>
                    have hy := hcl 19 _ rfl hx
                    simp [Region.binds] at hy
                    simp [hy] at hD
                have E0 := (hF.eval (i := 0) rfl rfl (by simp [hdep])).trans (hKn 0 _ rfl (by simp [hdep]))
                obtain ⟨g, hx, hB2⟩ := hI.n2 (by simp [hdep]) hD
                have Es := (hF.eval (i := 2) rfl rfl (by simp [hdep])).trans hx
                have hsl : Sl wv (some ⟨g, 0, none⟩) (Part.cells p) := Sl.ofBlk hB2
                refine wp_append_sl _ _ 22 rfl W.heap.size 31 _ 8 144 Try.underlying22 el31 _ ps.length _ E0 (hI.own7n hD) (some ⟨g, 0, none⟩) 1 1 _ Es hsl rfl (by have h1 := parts_one (ps := [p]) (by intro q hq; rw [List.mem_singleton.1 hq]; exact hI.laidp.one); simpa using h1) (by simp only [maxLen]; omega) (by omega) hI.grown.size ?_
                intro A' c' w6 hown hg _
                refine hk _ w6 (hI.op3 hD c19 (A := A') (c := c') ?_ hg)
                first | exact hown | (simp only [List.flatMap_append, List.map_append, List.flatMap_cons, List.flatMap_nil, List.append_nil, List.map_cons, List.map_nil]; exact hown)
              · exact absurd rfl (hl _)
              · exact absurd rfl (hl _)
              · exact absurd rfl (hl _)
              · exact absurd rfl (hl _)
              · exact absurd rfl (hl _)
              · simp only [List.getElem?_toArray, List.getElem?_cons_zero, List.getElem?_cons_succ, Option.some.injEq] at ho
                subst ho
                simp [Region.binds] at hdep
                have e56 := hKn.ev hF 8 rfl rfl rfl (by simp [hdep])
                clear hF hcl hKn hl
                go_simp
                exact hk _ _ (hI.op9 hD)
              · exact absurd rfl (hl _)
              · exact absurd rfl (hl _)
              · simp only [List.getElem?_toArray, List.getElem?_cons_zero, List.getElem?_cons_succ, Option.some.injEq] at ho
                subst ho
                simp [Region.binds] at hdep
                have e59 := hKn.ev hF 11 rfl rfl rfl (by simp [hdep])
                clear hF hcl hKn hl
                go_simp
                exact hk _ _ (hI.op12 hD)
              · simp only [List.getElem?_toArray, List.getElem?_cons_zero, List.getElem?_cons_succ, Option.some.injEq] at ho
                subst ho
                simp [Region.binds] at hdep
                have e52 := hKn.ev hF 4 rfl rfl rfl (by simp [hdep])
                have c20 : D 20 = false := by
                  cases hx : D 20 with
                  | false => rfl
                  | true =>
                    have hy := hcl 20 _ rfl hx
                    simp [Region.binds] at hy
                    simp [hy] at hD
                have E4 := (hF.eval (i := 4) rfl rfl (by simp [hdep])).trans (hKn 4 _ rfl (by simp [hdep]))
                obtain ⟨g, hx, hB2⟩ := hI.n12 (by simp [hdep]) hD
                have Es := (hF.eval (i := 12) rfl rfl (by simp [hdep])).trans hx
                have hsl : Sl wv (some ⟨g, 0, none⟩) [.string (cname ps.length)] := Sl.ofBlk hB2
                refine wp_append_sl _ _ 66 rfl W.heap.size 9 _ 1 16 Try.underlying66 el9 _ ps.length _ E4 (hI.own8n hD) (some ⟨g, 0, none⟩) 1 1 _ Es hsl rfl (by intro u hu; rw [List.mem_singleton.1 hu]; rfl) (by simp only [maxLen]; omega) (by omega) hI.grown.size ?_
                intro A' c' w6 hown hg _
                refine hk _ w6 (hI.op13 hD c20 (A := A') (c := c') ?_ hg)
                first | exact hown | (simp only [List.flatMap_append, List.map_append, List.flatMap_cons, List.flatMap_nil, List.append_nil, List.map_cons, List.map_nil]; exact hown)
              · exact absurd rfl (hl _)
              · exact absurd rfl (hl _)
              · simp only [List.getElem?_toArray, List.getElem?_cons_zero, List.getElem?_cons_succ, Option.some.injEq] at ho
                subst ho
                simp [Region.binds] at hdep
                have e63 := hKn.ev hF 15 rfl rfl rfl (by simp [hdep])
                obtain ⟨k7, hk7⟩ := hI.dice
                clear hF hcl hKn hl
                go_simp
                refine (rare_any gd ls k7 4 _ hk7 (by omega) (by omega)).mono ?_
                rintro e w6 ⟨b, k8, rfl, hd8, _, hg8⟩
                exact hk _ _ (hI.op16 hD hd8 hg8)
              · simp only [List.getElem?_toArray, List.getElem?_cons_zero, List.getElem?_cons_succ, Option.some.injEq] at ho
                subst ho
                simp [Region.binds] at hdep
                obtain ⟨b, hx⟩ := hI.m16 (by simp [hdep])
                have e64 := hF.ev 16 rfl rfl (by simp [hdep]) hx
                clear hF hcl hKn hl
                go_simp
                exact hk _ _ (hI.op17 hD)
              · simp only [List.getElem?_toArray, List.getElem?_cons_zero, List.getElem?_cons_succ, Option.some.injEq] at ho
                subst ho
                simp [Region.binds] at hdep
                have e62 := hKn.ev hF 14 rfl rfl rfl (by simp [hdep])
                have c21 : D 21 = false := by
                  cases hx : D 21 with
                  | false => rfl
                  | true =>
                    have hy := hcl 21 _ rfl hx
                    simp [Region.binds] at hy
                    simp [hy] at hD
                have E14 := (hF.eval (i := 14) rfl rfl (by simp [hdep])).trans (hKn 14 _ rfl (by simp [hdep]))
                obtain ⟨g, b, hx, hB2⟩ := hI.n17 (by simp [hdep]) hD
                have Es := (hF.eval (i := 17) rfl rfl (by simp [hdep])).trans hx
                have hsl : Sl wv (some ⟨g, 0, none⟩) [.bool b] := Sl.ofBlk hB2
                refine wp_append_sl _ _ 67 rfl W.heap.size 4 _ 1 1 Try.underlying67 el4 _ ps.length _ E14 (hI.own9n hD) (some ⟨g, 0, none⟩) 1 1 _ Es hsl rfl (by intro u hu; rw [List.mem_singleton.1 hu]; rfl) (by simp only [maxLen]; omega) (by omega) hI.grown.size ?_
                intro A' c' w6 hown hg _
                refine hk _ w6 (hI.op18 hD c21 (b := b) (A := A') (c := c') ?_ hg)
                first | exact hown | (simp only [List.flatMap_append, List.map_append, List.flatMap_cons, List.flatMap_nil, List.append_nil, List.map_cons, List.map_nil]; exact hown)
              · simp only [List.getElem?_toArray, List.getElem?_cons_zero, List.getElem?_cons_succ, Option.some.injEq] at ho
                subst ho
                simp [Region.binds] at hdep
                have e51 := hF.ev 3 rfl rfl (by simp [hdep]) rfl
                clear hF hcl hKn hl
                go_simp
                exact hk _ _ (hI.op19 hD)
              · simp only [List.getElem?_toArray, List.getElem?_cons_zero, List.getElem?_cons_succ, Option.some.injEq] at ho
                subst ho
                simp [Region.binds] at hdep
                have e61 := hF.ev 13 rfl rfl (by simp [hdep]) rfl
                clear hF hcl hKn hl
                go_simp
                exact hk _ _ (hI.op20 hD)
              · simp only [List.getElem?_toArray, List.getElem?_cons_zero, List.getElem?_cons_succ, Option.some.injEq] at ho
                subst ho
                simp [Region.binds] at hdep
                have e66 := hF.ev 18 rfl rfl (by simp [hdep]) rfl
                clear hF hcl hKn hl
                go_simp
                exact hk _ _ (hI.op21 hD)
            · intro D x w9 hD hKn hI
              obtain ⟨A7n, A8n, A9n, c7n, c8n, c9n, b, x19, x20, x21, HR⟩ := hI.done hD
              have HRH := Lib.hid HR
              clear hI HR HST hD hKn
              rw [HA0.out]
              simp [putsAll, List.range, List.range.loop, Act.put, x19, x20, x21]
              go_wp2
              go_roundw
              case rel => first | exact ⟨q, ps ++ [p], nms ++ [cname ps.length], bs ++ [b], A7n, A8n, A9n, c7n, c8n, c9n, by go_num, by rw [List.length_append, List.length_singleton]; omega, by rw [List.length_append, List.length_singleton], by rw [List.length_append, List.length_singleton], by rw [List.length_append, List.length_singleton], by rw [List.length_append, List.length_singleton]; exact HRH.out⟩ | ((repeat apply Exists.intro); exact ⟨⟨q, ps ++ [p], nms ++ [cname ps.length], bs ++ [b], A7n, A8n, A9n, c7n, c8n, c9n, by go_num, by rw [List.length_append, List.length_singleton]; omega, by rw [List.length_append, List.length_singleton], by rw [List.length_append, List.length_singleton], by rw [List.length_append, List.length_singleton], by rw [List.length_append, List.length_singleton]; exact HRH.out⟩, rfl⟩)
              case measure => simp [intOf]
    · obtain rfl : q = 0 := by omega
      obtain ⟨k7, hk7⟩ := H.dice
      have HH := Lib.hid H
      clear H
      go_wp2_with fail
      refine (rare_any gd ls k7 6 _ hk7 (by omega) (by omega)).mono ?_
      rintro e w5 ⟨b, k5, rfl, hd5, hk5, hg5⟩
      have H5 := HH.out.dices hd5 hg5
      have hl8 := H5.ln
      have hl9 := H5.lb
      have fin : ∀ (nm2 : List ByteArray) (A8' : Option Addr) (c8' : Nat), Sl w5 A8' (nm2.map Value.string) → nm2.length ≤ 5 → CasesPostO gd ls W (.returned (.tuple #[.slice A7 ps.length c7, .slice A8' nm2.length c8', .slice A9 ps.length c9])) w5 := fun nm2 A8' c8' hs h5 =>
        ⟨ps, nm2, bs, A7, A8', A9, c7, c8', c9, by rw [hl9], by omega, h5, by omega, parts_own H5.own7, hs, Sl.of_own H5.own9, H5.laid, H5.dice, H5.grown⟩
      have f0 := fin nms A8 c8 (Sl.of_own H5.own8) (by omega)
      rw [hl8] at f0
      have F0 := Lib.hid f0
      clear hd5 hk5 hg5 hk7 HH f0
      cases b with
      | false =>
        clear H5 fin
        go_wp2
        go_ret3
        exact F0.out
      | true =>
        by_cases hl0 : ps.length = 0
        · have hd : decide (0 < (ps.length : Int)) = false := by rw [hl0]; rfl
          have hd2 : decide (0 < ps.length) = false := by rw [hl0]; rfl
          have hd3 : ¬ 0 < ps.length := by omega
          have hd4 : ¬ (0 : Int) < (ps.length : Int) := by omega
          clear H5 fin hl0
          go_wp2
          go_ret3
          exact F0.out
        · have hd : decide (0 < (ps.length : Int)) = true := by simp; omega
          obtain ⟨A8', c8', hrun, hS8⟩ := run_tail66 w5 A8 ps.length c8 nms (Sl.of_own H5.own8) hl8 (by omega) (own_cap H5.own8)
          have f1 := fin (nms.drop 1) A8' c8' hS8 (by simp; omega)
          rw [List.length_drop, hl8] at f1
          have F1 := Lib.hid f1
          clear H5 fin hS8 f1
          go_wp2
          go_ret3
          exact F1.out
end Go.Proofs.Ytamhigknobdloaa
namespace Go.Proofs.Ytamhigknobdloaa
open Go.RowKit
set_option linter.unusedVariables false

theorem Blk.five {w : World} {g : Nat} {t : TypeId} {a0 a1 a2 a3 a4 : Value} (h : Blk w g t #[a0, a1, a2, a3, a4]) :
    (w.cell? ⟨g, 0, none⟩ = some a0 ∧ w.cell? ⟨g, 1, none⟩ = some a1 ∧ w.cell? ⟨g, 2, none⟩ = some a2 ∧ w.cell? ⟨g, 3, none⟩ = some a3 ∧ w.cell? ⟨g, 4, none⟩ = some a4) ∧ ∀ i, w.frozen? ⟨g, i, none⟩ = false :=
  ⟨⟨h.cell 0, h.cell 1, h.cell 2, h.cell 3, h.cell 4⟩, h.frozen⟩
theorem Blk.set5 {w : World} {g : Nat} {t : TypeId} {a0 a1 a2 a3 a4 : Value} (h : Blk w g t #[a0, a1, a2, a3, a4]) (b0 b1 b2 b3 b4 : Value) :
    Blk (((((w.setCell ⟨g, 0, none⟩ b0).setCell ⟨g, 1, none⟩ b1).setCell ⟨g, 2, none⟩ b2).setCell ⟨g, 3, none⟩ b3).setCell ⟨g, 4, none⟩ b4) g t #[b0, b1, b2, b3, b4] := by
  simpa using ((((h.set_ 0 b0).set_ 1 b1).set_ 2 b2).set_ 3 b3).set_ 4 b4
theorem only5 (w : World) (g : Nat) (b0 b1 b2 b3 b4 : Value) :
    w.grownBy (((((w.setCell ⟨g, 0, none⟩ b0).setCell ⟨g, 1, none⟩ b1).setCell ⟨g, 2, none⟩ b2).setCell ⟨g, 3, none⟩ b3).setCell ⟨g, 4, none⟩ b4) (some g) :=
  grown_trans (grown_trans (grown_trans (grown_trans (grown_set _ _ _ _) (grown_set _ _ _ _)) (grown_set _ _ _ _)) (grown_set _ _ _ _)) (grown_set _ _ _ _)
abbrev zero73 : Array Value := #[.string "".toUTF8, .bool false, .slice none 0 0, .slice none 0 0, .int .i64 0]
/-- What holds while two cases are laid into boxes. -/
structure BxSt (W0 : World) (q r : Array Value) (D : Nat → Bool) (x : Nat → Value) (w : World) : Prop where
  below : Below W0.heap.size W0 w
  a10 : D 10 = true → ∃ g, x 10 = .pointer (some ⟨g, 0, none⟩) ∧ W0.heap.size ≤ g ∧ Blk w g 73 (if D 12 = true then q else zero73)
  a11 : D 11 = true → ∃ g, x 11 = .pointer (some ⟨g, 0, none⟩) ∧ W0.heap.size ≤ g ∧ Blk w g 73 (if D 13 = true then r else zero73)
  ne : D 10 = true → D 11 = true → x 10 ≠ x 11
section
variable {W0 w : World} {q r : Array Value} {D : Nat → Bool} {x : Nat → Value}
theorem BxSt.ins (h : BxSt W0 q r D x w) (i : Nat) (u : Value) (h10 : i ≠ 10) (h11 : i ≠ 11) (h12 : i ≠ 12) (h13 : i ≠ 13) : BxSt W0 q r (fun j => if j = i then true else D j) (fun j => if j = i then u else x j) w := by
  have e10 : ∀ {α : Type} (p q : α), (if 10 = i then p else q) = q := fun p q => if_neg (fun e => h10 e.symm)
  have e11 : ∀ {α : Type} (p q : α), (if 11 = i then p else q) = q := fun p q => if_neg (fun e => h11 e.symm)
  have e12 : ∀ {α : Type} (p q : α), (if 12 = i then p else q) = q := fun p q => if_neg (fun e => h12 e.symm)
  have e13 : ∀ {α : Type} (p q : α), (if 13 = i then p else q) = q := fun p q => if_neg (fun e => h13 e.symm)
  constructor
  · exact h.below
  · rw [e10, e10, e12]; exact h.a10
  · rw [e11, e11, e13]; exact h.a11
  · rw [e10, e11, e10, e11]; exact h.ne
theorem BxSt.op10 (h : BxSt W0 q r D x w) (hD : D 10 = false) (h12 : D 12 = false) : BxSt W0 q r (fun j => if j = 10 then true else D j) (fun j => if j = 10 then .pointer (some ⟨w.heap.size, 0, none⟩) else x j) (w.alloc (.cells zero73 73)) := by
  refine ⟨h.below.alloc h.below.size _, fun _ => ⟨w.heap.size, rfl, h.below.size, ?_⟩, fun hd => ?_, fun _ hd => ?_⟩
  · show Blk _ _ _ (if D 12 = true then q else zero73)
    rw [if_neg (by rw [h12]; decide)]; exact Blk.new _ _ _
  · obtain ⟨g, h1, h2, h3⟩ := h.a11 hd
    exact ⟨g, h1, h2, h3.alloc _⟩
  · obtain ⟨g, h1, h2, h3⟩ := h.a11 hd
    show Value.pointer (some ⟨w.heap.size, 0, none⟩) ≠ x 11
    rw [h1]
    intro e
    injection e with e
    injection e with e
    injection e with e
    have := h3.lt
    omega
theorem BxSt.op11 (h : BxSt W0 q r D x w) (hD : D 11 = false) (h13 : D 13 = false) : BxSt W0 q r (fun j => if j = 11 then true else D j) (fun j => if j = 11 then .pointer (some ⟨w.heap.size, 0, none⟩) else x j) (w.alloc (.cells zero73 73)) := by
  refine ⟨h.below.alloc h.below.size _, fun hd => ?_, fun _ => ⟨w.heap.size, rfl, h.below.size, ?_⟩, fun hd _ => ?_⟩
  · obtain ⟨g, h1, h2, h3⟩ := h.a10 hd
    exact ⟨g, h1, h2, h3.alloc _⟩
  · show Blk _ _ _ (if D 13 = true then r else zero73)
    rw [if_neg (by rw [h13]; decide)]; exact Blk.new _ _ _
  · obtain ⟨g, h1, h2, h3⟩ := h.a10 hd
    show x 10 ≠ Value.pointer (some ⟨w.heap.size, 0, none⟩)
    rw [h1]
    intro e
    injection e with e
    injection e with e
    injection e with e
    have := h3.lt
    omega
theorem BxSt.op12 {b0 b1 b2 b3 b4 : Value} (h : BxSt W0 #[b0, b1, b2, b3, b4] r D x w) (hD : D 12 = false) (h10 : D 10 = true) (z : Value) : ∃ g, x 10 = .pointer (some ⟨g, 0, none⟩) ∧ Blk w g 73 zero73 ∧
    BxSt W0 #[b0, b1, b2, b3, b4] r (fun j => if j = 12 then true else D j) (fun j => if j = 12 then z else x j) (((((w.setCell ⟨g, 0, none⟩ b0).setCell ⟨g, 1, none⟩ b1).setCell ⟨g, 2, none⟩ b2).setCell ⟨g, 3, none⟩ b3).setCell ⟨g, 4, none⟩ b4) := by
  obtain ⟨g, h1, h2, h3⟩ := h.a10 h10
  rw [if_neg (by rw [hD]; decide)] at h3
  refine ⟨g, h1, h3, h.below.grown (only5 w g b0 b1 b2 b3 b4) h.below.size (fun q hq => by injection hq with hq; omega), fun _ => ⟨g, h1, h2, ?_⟩, fun hd => ?_, fun a b => h.ne a b⟩
  · rw [if_pos rfl]; exact h3.set5 b0 b1 b2 b3 b4
  · obtain ⟨g', k1, k2, k3⟩ := h.a11 hd
    refine ⟨g', k1, k2, k3.grown (only5 w g b0 b1 b2 b3 b4) (fun e => ?_)⟩
    injection e with e
    subst e
    exact h.ne h10 hd (h1.trans k1.symm)
theorem BxSt.op13 {b0 b1 b2 b3 b4 : Value} (h : BxSt W0 q #[b0, b1, b2, b3, b4] D x w) (hD : D 13 = false) (h11 : D 11 = true) (z : Value) : ∃ g, x 11 = .pointer (some ⟨g, 0, none⟩) ∧ Blk w g 73 zero73 ∧
    BxSt W0 q #[b0, b1, b2, b3, b4] (fun j => if j = 13 then true else D j) (fun j => if j = 13 then z else x j) (((((w.setCell ⟨g, 0, none⟩ b0).setCell ⟨g, 1, none⟩ b1).setCell ⟨g, 2, none⟩ b2).setCell ⟨g, 3, none⟩ b3).setCell ⟨g, 4, none⟩ b4) := by
  obtain ⟨g, h1, h2, h3⟩ := h.a11 h11
  rw [if_neg (by rw [hD]; decide)] at h3
  refine ⟨g, h1, h3, h.below.grown (only5 w g b0 b1 b2 b3 b4) h.below.size (fun q hq => by injection hq with hq; omega), fun hd => ?_, fun _ => ⟨g, h1, h2, ?_⟩, fun a b => h.ne a b⟩
  · obtain ⟨g', k1, k2, k3⟩ := h.a10 hd
    refine ⟨g', k1, k2, k3.grown (only5 w g b0 b1 b2 b3 b4) (fun e => ?_)⟩
    injection e with e
    subst e
    exact h.ne hd h11 (k1.trans h1.symm)
  · rw [if_pos rfl]; exact h3.set5 b0 b1 b2 b3 b4
end
/-- Two cases that hold the same. -/
structure CaseEq (W : World) (q r : CaseV) : Prop where
  name : r.name = q.name
  ind : r.ind = q.ind
  ofs : r.ofs = q.ofs
  s : r.s = q.s
  x3 : q.x3 = .slice none 0 0
  y3 : r.x3 = .slice none 0 0
  a : Sl W q.A (q.ofs.map iv)
  b : Sl W r.A (q.ofs.map iv)
  len : q.ofs.length ≤ 1000000
set_option maxHeartbeats 6400000 in
set_option maxRecDepth 100000 in
theorem same_union (s al : Int) (sp : List UInt8) (of tags : List Int) (n : Nat) (qs rs : List CaseV) (As : Option Addr) (cs : Nat) (Ao : Option Addr) (co : Nat) (Ac : Option Addr) (cc : Nat) (Az : Option Addr) (cz : Nat) (Bs : Option Addr) (ds : Nat) (Bo : Option Addr) (eo : Nat) (Bc : Option Addr) (dc : Nat) (Bz : Option Addr) (dz : Nat) (pt : Bool) (w : World)
    (h1 : Sl w As (sp.map bv)) (h2 : Sl w Bs (sp.map bv)) (h3 : Sl w Ao (of.map iv)) (h4 : Sl w Bo (of.map iv)) (h5 : CasesAt w Ac qs) (h6 : CasesAt w Bc rs) (h7 : Sl w Az (tags.map iv)) (h8 : Sl w Bz (tags.map iv)) (hq : qs.length = n) (hr : rs.length = n)
    (heq : ∀ (ii : Nat) (h : ii < qs.length) (h' : ii < rs.length), CaseEq w qs[ii] rs[ii]) (hl1 : sp.length ≤ 1000000) (hl2 : of.length ≤ 1000000) (hl3 : tags.length ≤ 1000000) (hn : n ≤ 1000000) :
    Calls Try.prog 26 #[.agg #[.int .i64 s, .int .i64 al, .slice As sp.length cs, .slice Ao of.length co, .slice none 0 0, .slice Ac n cc, .slice Az tags.length cz, .bool pt], .agg #[.int .i64 s, .int .i64 al, .slice Bs sp.length ds, .slice Bo of.length eo, .slice none 0 0, .slice Bc n dc, .slice Bz tags.length dz, .bool pt]] w fun e w' => e = .returned (.bool true) ∧ Below w.heap.size w w' := by
  obtain ⟨W0, hW0⟩ : ∃ W0, W0 = (w.alloc (.cells #[.int .i64 s, .int .i64 al, .slice As sp.length cs, .slice Ao of.length co, .slice none 0 0, .slice Ac n cc, .slice Az tags.length cz, .bool pt] 31)).alloc (.cells #[.int .i64 s, .int .i64 al, .slice Bs sp.length ds, .slice Bo of.length eo, .slice none 0 0, .slice Bc n dc, .slice Bz tags.length dz, .bool pt] 31) := ⟨_, rfl⟩
  have hb0 : Below w.heap.size w W0 := by rw [hW0]; exact ((Below.refl _ _).alloc (Nat.le_refl _) _).alloc (by simp) _
  have hX : Blk W0 w.heap.size 31 #[.int .i64 s, .int .i64 al, .slice As sp.length cs, .slice Ao of.length co, .slice none 0 0, .slice Ac n cc, .slice Az tags.length cz, .bool pt] := by rw [hW0]; exact (Blk.new _ _ _).alloc _
  have hY : Blk W0 (w.heap.size + 1) 31 #[.int .i64 s, .int .i64 al, .slice Bs sp.length ds, .slice Bo of.length eo, .slice none 0 0, .slice Bc n dc, .slice Bz tags.length dz, .bool pt] := by rw [hW0]; exact Blk.new' (by simp)
  have c1 := run_convb (P := Try.prog) W0 27 9 5 As sp.length cs sp Try.underlying27 Try.underlying5 Try.underlying9 (h1.below hb0) rfl
  have c2 := run_convb (P := Try.prog) W0 27 9 5 Bs sp.length ds sp Try.underlying27 Try.underlying5 Try.underlying9 (h2.below hb0) rfl
  have hs1 : (s != s) = false := by simp
  have hs2 : (al != al) = false := by simp
  have hs3 : (pt != pt) = false := by simp
  have hs4 : ((n : Int) != n) = false := by simp
  obtain ⟨⟨x0, x1, x2, x3, x4, x5, x6, x7⟩, xf⟩ := hX.eight
  obtain ⟨⟨y0, y1, y2, y3, y4, y5, y6, y7⟩, yf⟩ := hY.eight
  have HB0 := Lib.hid hb0
  have HX := Lib.hid hX
  have HY := Lib.hid hY
  have O1 := Lib.hid (h3.below hb0)
  have O2 := Lib.hid (h4.below hb0)
  have T1 := Lib.hid (h7.below hb0)
  have T2 := Lib.hid (h8.below hb0)
  have HQ := Lib.hid hq
  have HR := Lib.hid hr
  have C1 := Lib.hid (show CasesAt W0 Ac qs from Sl.below h5 hb0)
  have C2 := Lib.hid (show CasesAt W0 Bc rs from Sl.below h6 hb0)
  have HEQ := Lib.hid heq
  have HW0 := Lib.hid hW0
  clear h1 h2 h3 h4 h5 h6 h7 h8 hq hr heq hb0 hX hY hW0
  go_enter Try.func26, Try.ntmps26
  go_upto_region 1 with (fail)
  rw [← HW0.out]
  go_wp2_with fail
  refine (rints_same _ _ _ _ _ of _ rfl O1.out (by omega) O2.out).mono ?_
  rintro e w3 ⟨rfl, k3, rfl⟩
  go_wp2_with fail
  refine (rints_same _ _ _ _ _ tags _ rfl (T1.out.drewN k3) (by omega) (T2.out.drewN k3)).mono ?_
  rintro e w4 ⟨rfl, k4, rfl⟩
  go_wp2_with fail
  refine (types_nil _).mono ?_
  rintro e w5 ⟨rfl, rfl⟩
  go_wp2_with fail
  clear x0 x1 x2 x3 x4 x5 x6 x7 xf y0 y1 y2 y3 y4 y5 y6 y7 yf c1 c2 hs1 hs2 hs3 hs4
  have hbr : Below W0.heap.size W0 W0 := Below.refl _ _
  go_loopw [5] (fun v5 wr => ∃ ii : Nat, ii ≤ n ∧ v5 = .int .i64 ii ∧ Below W0.heap.size W0 wr) (fun v5 _ => n - (intOf v5).toNat)
  case atStart => exact ⟨0, by omega, rfl, by first | exact hbr | exact below_drewN' hbr _ | exact below_drewN' (below_drewN' hbr _) _⟩
  case round =>
    obtain ⟨ii, hi, rfl, hb⟩ := hrel
    clear hbr
    obtain ⟨⟨x0, x1, x2, x3, x4, x5, x6, x7⟩, xf⟩ := (HX.out.below hb).eight
    by_cases hlt : ii < n
    · have hiq : ii < qs.length := by rw [HQ.out]; exact hlt
      have hir : ii < rs.length := by rw [HR.out]; exact hlt
      obtain ⟨ga, oa, hA, g0, g1, g2, g3, g4⟩ := CasesAt.get (show CasesAt wr Ac qs from Sl.below C1.out hb) hiq
      obtain ⟨gb, ob, hB, k0, k1, k2, k3', k4'⟩ := CasesAt.get (show CasesAt wr Bc rs from Sl.below C2.out hb) hir
      subst hA hB
      have hE := HEQ.out ii hiq hir
      rw [hE.x3] at g3
      rw [hE.y3] at k3'
      rw [hE.name] at k0
      rw [hE.ind] at k1
      rw [hE.ofs] at k2
      rw [hE.s] at k4'
      have hsa := (hE.a.below HB0.out).below hb
      have hsb := (hE.b.below HB0.out).below hb
      have hol := hE.len
      generalize qs[ii] = q at *
      generalize rs[ii] = r at *
      have hs6 : (q.ind != q.ind) = false := by simp
      have hs7 : (q.s != q.s) = false := by simp
      have G0 := Lib.hid g0
      have G1 := Lib.hid g1
      have G2 := Lib.hid g2
      have G3 := Lib.hid g3
      have G4 := Lib.hid g4
      have K0 := Lib.hid k0
      have K1 := Lib.hid k1
      have K2 := Lib.hid k2
      have K3 := Lib.hid k3'
      have K4 := Lib.hid k4'
      have HSA := Lib.hid hsa
      have HSB := Lib.hid hsb
      have HBB := Lib.hid hb
      have hi0 : (0 : Int) ≤ (ii : Int) := Int.natCast_nonneg _
      have hi1 : (ii : Int) < (n : Int) := by omega
      clear g0 g1 g2 g3 g4 k0 k1 k2 k3' k4' hsa hsb hE hb
      go_wp2_with fail
      clear x0 x1 x2 x3 x4 x5 x6 x7 xf
      refine gen_act fun a0 ha0 => ?_
      have z2 : a0.eval (.tmp 2) = .pointer (some ⟨w.heap.size, 0, none⟩) := by rw [ha0]; rfl
      have z3 : a0.eval (.tmp 3) = .pointer (some ⟨w.heap.size + 1, 0, none⟩) := by rw [ha0]; rfl
      have z5 : a0.eval (.tmp 5) = .int .i64 ii := by rw [ha0]; rfl
      have zs : a0.tmps.size = 121 := by rw [ha0]; rfl
      have HA0 := Lib.hid ha0
      clear ha0
      refine wp_region_kn (by kernel_rfl) (ord_of' (by kernel_rfl)) (dst_of (by kernel_rfl)) (size_of' (n := 121) (by kernel_rfl) zs) [some (.pointer (some ⟨w.heap.size, 5, none⟩)), some (.slice (some ⟨ga, oa, none⟩) n cc), some (.int .i64 ii), some (.pointer (some ⟨ga, oa + ii * 5, none⟩)), some (.agg #[.string q.name, .bool q.ind, .slice q.A q.ofs.length q.c, .slice none 0 0, .int .i64 q.s]), some (.pointer (some ⟨w.heap.size + 1, 5, none⟩)), some (.slice (some ⟨gb, ob, none⟩) n dc), some (.int .i64 ii), some (.pointer (some ⟨gb, ob + ii * 5, none⟩)), some (.agg #[.string q.name, .bool q.ind, .slice r.A q.ofs.length r.c, .slice none 0 0, .int .i64 q.s]), none, none, none, none] ?_ (BxSt wr #[.string q.name, .bool q.ind, .slice q.A q.ofs.length q.c, .slice none 0 0, .int .i64 q.s] #[.string q.name, .bool q.ind, .slice r.A q.ofs.length r.c, .slice none 0 0, .int .i64 q.s]) ⟨Below.drew (Below.refl _ _), (fun h => by cases h), (fun h => by cases h), (fun h => by cases h)⟩ ?_ ?_ ?_ ?_
      · intro i o g bl ho hg
        rw [guard_of (by kernel_rfl) i o ho] at hg
        cases hg
      · intro i u D x wv hl hD hI
        have hi : i < 14 := by have h := (List.getElem?_eq_some_iff.1 hl).1; simpa using h
        have hnh : i ≠ 10 ∧ i ≠ 11 ∧ i ≠ 12 ∧ i ≠ 13 := by
          refine ⟨?_, ?_, ?_, ?_⟩ <;> (rintro rfl; simp at hl)
        exact hI.ins i u hnh.1 hnh.2.1 hnh.2.2.1 hnh.2.2.2
      · intro D x a wv i o u ho hl hD hdep hcl hF hKn hI hwant K hk
        have hi : i < 14 := (Array.getElem?_eq_some_iff.1 ho).1
        rcases (show i = 0 ∨ i = 1 ∨ i = 2 ∨ i = 3 ∨ i = 4 ∨ i = 5 ∨ i = 6 ∨ i = 7 ∨ i = 8 ∨ i = 9 ∨ i = 10 ∨ i = 11 ∨ i = 12 ∨ i = 13 by omega) with rfl | rfl | rfl | rfl | rfl | rfl | rfl | rfl | rfl | rfl | rfl | rfl | rfl | rfl
        · simp only [List.getElem?_toArray, List.getElem?_cons_zero, Option.some.injEq] at ho
          subst ho
          obtain rfl : .pointer (some ⟨w.heap.size, 5, none⟩) = u := by simpa using hl
          have e2 := hF.ev0 (by kernel_rfl) z2
          clear hF hcl hKn hl hwant
          go_simp
          exact hk
        · simp only [List.getElem?_toArray, List.getElem?_cons_zero, List.getElem?_cons_succ, Option.some.injEq] at ho
          subst ho
          simp [Region.binds] at hdep
          obtain rfl : .slice (some ⟨ga, oa, none⟩) n cc = u := by simpa using hl
          have e76 := hKn.ev hF 0 rfl rfl rfl (by simp [hdep])
          obtain ⟨⟨b0, b1, b2, b3, b4, b5, b6, b7⟩, bf⟩ := (HX.out.below (below_next HBB.out hI.below)).eight
          clear hF hcl hKn hl hwant
          go_simp
          exact hk
        · simp only [List.getElem?_toArray, List.getElem?_cons_zero, List.getElem?_cons_succ, Option.some.injEq] at ho
          subst ho
          obtain rfl : .int .i64 ii = u := by simpa using hl
          have e5 := hF.ev0 (by kernel_rfl) z5
          clear hF hcl hKn hl hwant
          go_simp
          exact hk
        · simp only [List.getElem?_toArray, List.getElem?_cons_zero, List.getElem?_cons_succ, Option.some.injEq] at ho
          subst ho
          simp [Region.binds] at hdep
          obtain rfl : .pointer (some ⟨ga, oa + ii * 5, none⟩) = u := by simpa using hl
          have e77 := hKn.ev hF 1 rfl rfl rfl (by simp [hdep])
          have e78 := hKn.ev hF 2 rfl rfl rfl (by simp [hdep])
          clear hF hcl hKn hl hwant
          go_simp
          exact hk
        · simp only [List.getElem?_toArray, List.getElem?_cons_zero, List.getElem?_cons_succ, Option.some.injEq] at ho
          subst ho
          simp [Region.binds] at hdep
          obtain rfl : .agg #[.string q.name, .bool q.ind, .slice q.A q.ofs.length q.c, .slice none 0 0, .int .i64 q.s] = u := by simpa using hl
          have e79 := hKn.ev hF 3 rfl rfl rfl (by simp [hdep])
          have d0 := cell_in G0.out hI.below
          have d1 := cell_in G1.out hI.below
          have d2 := cell_in G2.out hI.below
          have d3 := cell_in G3.out hI.below
          have d4 := cell_in G4.out hI.below
          clear hF hcl hKn hl hwant
          go_simp
          exact hk
        · simp only [List.getElem?_toArray, List.getElem?_cons_zero, List.getElem?_cons_succ, Option.some.injEq] at ho
          subst ho
          obtain rfl : .pointer (some ⟨w.heap.size + 1, 5, none⟩) = u := by simpa using hl
          have e3 := hF.ev0 (by kernel_rfl) z3
          clear hF hcl hKn hl hwant
          go_simp
          exact hk
        · simp only [List.getElem?_toArray, List.getElem?_cons_zero, List.getElem?_cons_succ, Option.some.injEq] at ho
          subst ho
          simp [Region.binds] at hdep
          obtain rfl : .slice (some ⟨gb, ob, none⟩) n dc = u := by simpa using hl
          have e81 := hKn.ev hF 5 rfl rfl rfl (by simp [hdep])
          obtain ⟨⟨b0, b1, b2, b3, b4, b5, b6, b7⟩, bf⟩ := (HY.out.below (below_next HBB.out hI.below)).eight
          clear hF hcl hKn hl hwant
          go_simp
          exact hk
        · simp only [List.getElem?_toArray, List.getElem?_cons_zero, List.getElem?_cons_succ, Option.some.injEq] at ho
          subst ho
          obtain rfl : .int .i64 ii = u := by simpa using hl
          have e5 := hF.ev0 (by kernel_rfl) z5
          clear hF hcl hKn hl hwant
          go_simp
          exact hk
        · simp only [List.getElem?_toArray, List.getElem?_cons_zero, List.getElem?_cons_succ, Option.some.injEq] at ho
          subst ho
          simp [Region.binds] at hdep
          obtain rfl : .pointer (some ⟨gb, ob + ii * 5, none⟩) = u := by simpa using hl
          have e82 := hKn.ev hF 6 rfl rfl rfl (by simp [hdep])
          have e83 := hKn.ev hF 7 rfl rfl rfl (by simp [hdep])
          clear hF hcl hKn hl hwant
          go_simp
          exact hk
        · simp only [List.getElem?_toArray, List.getElem?_cons_zero, List.getElem?_cons_succ, Option.some.injEq] at ho
          subst ho
          simp [Region.binds] at hdep
          obtain rfl : .agg #[.string q.name, .bool q.ind, .slice r.A q.ofs.length r.c, .slice none 0 0, .int .i64 q.s] = u := by simpa using hl
          have e84 := hKn.ev hF 8 rfl rfl rfl (by simp [hdep])
          have d0 := cell_in K0.out hI.below
          have d1 := cell_in K1.out hI.below
          have d2 := cell_in K2.out hI.below
          have d3 := cell_in K3.out hI.below
          have d4 := cell_in K4.out hI.below
          clear hF hcl hKn hl hwant
          go_simp
          exact hk
        · simp at hl
        · simp at hl
        · simp at hl
        · simp at hl
      · intro D x a wv i o ho hl hD hdep hcl hF hKn hI K hk
        have hi : i < 14 := (Array.getElem?_eq_some_iff.1 ho).1
        rcases (show i = 0 ∨ i = 1 ∨ i = 2 ∨ i = 3 ∨ i = 4 ∨ i = 5 ∨ i = 6 ∨ i = 7 ∨ i = 8 ∨ i = 9 ∨ i = 10 ∨ i = 11 ∨ i = 12 ∨ i = 13 by omega) with rfl | rfl | rfl | rfl | rfl | rfl | rfl | rfl | rfl | rfl | rfl | rfl | rfl | rfl
        · exact absurd rfl (hl _)
        · exact absurd rfl (hl _)
        · exact absurd rfl (hl _)
        · exact absurd rfl (hl _)
        · exact absurd rfl (hl _)
        · exact absurd rfl (hl _)
        · exact absurd rfl (hl _)
        · exact absurd rfl (hl _)
        · exact absurd rfl (hl _)
        · exact absurd rfl (hl _)
        · simp only [List.getElem?_toArray, List.getElem?_cons_zero, List.getElem?_cons_succ, Option.some.injEq] at ho
          subst ho
          have c12 : D 12 = false := by
            cases hx : D 12 with
            | false => rfl
            | true =>
              have hy := hcl 12 _ rfl hx
              simp [Region.binds] at hy
              simp [hy] at hD
          clear hF hcl hKn hl
          go_simp
          exact hk _ _ (hI.op10 hD c12)
        · simp only [List.getElem?_toArray, List.getElem?_cons_zero, List.getElem?_cons_succ, Option.some.injEq] at ho
          subst ho
          have c13 : D 13 = false := by
            cases hx : D 13 with
            | false => rfl
            | true =>
              have hy := hcl 13 _ rfl hx
              simp [Region.binds] at hy
              simp [hy] at hD
          clear hF hcl hKn hl
          go_simp
          exact hk _ _ (hI.op11 hD c13)
        · simp only [List.getElem?_toArray, List.getElem?_cons_zero, List.getElem?_cons_succ, Option.some.injEq] at ho
          subst ho
          simp [Region.binds] at hdep
          have e80 := hKn.ev hF 4 rfl rfl rfl (by simp [hdep])
          obtain ⟨g, hx, hB, hI2⟩ := hI.op12 hD (by simp [hdep]) undef
          have e6 := hF.ev 10 rfl rfl (by simp [hdep]) hx
          obtain ⟨⟨b0, b1, b2, b3, b4⟩, bf⟩ := hB.five
          clear hF hcl hKn hl
          go_simp
          exact hk _ _ hI2
        · simp only [List.getElem?_toArray, List.getElem?_cons_zero, List.getElem?_cons_succ, Option.some.injEq] at ho
          subst ho
          simp [Region.binds] at hdep
          have e85 := hKn.ev hF 9 rfl rfl rfl (by simp [hdep])
          obtain ⟨g, hx, hB, hI2⟩ := hI.op13 hD (by simp [hdep]) undef
          have e7 := hF.ev 11 rfl rfl (by simp [hdep]) hx
          obtain ⟨⟨b0, b1, b2, b3, b4⟩, bf⟩ := hB.five
          clear hF hcl hKn hl
          go_simp
          exact hk _ _ hI2
      · intro D x w9 hD hKn hI
        obtain ⟨g6, x10, hg6, hB6⟩ := hI.a10 (hD 10 (by decide))
        obtain ⟨g7, x11, hg7, hB7⟩ := hI.a11 (hD 11 (by decide))
        rw [if_pos (hD 12 (by decide))] at hB6
        rw [if_pos (hD 13 (by decide))] at hB7
        have HBI := Lib.hid hI.below
        have HSA2 := Lib.hid (HSA.out.below hI.below)
        have HSB2 := Lib.hid (HSB.out.below hI.below)
        obtain ⟨⟨b0, b1, b2, b3, b4⟩, bf⟩ := hB6.five
        obtain ⟨⟨d0, d1, d2, d3, d4⟩, df⟩ := hB7.five
        clear hI hD hKn hB6 hB7 hg6 hg7
        rw [HA0.out]
        simp [putsAll, List.range, List.range.loop, Act.put, x10, x11]
        clear x10 x11
        go_wp2_with fail
        refine (rints_same _ _ _ _ _ q.ofs _ rfl HSA2.out (by omega) HSB2.out).mono ?_
        rintro e w3 ⟨rfl, k3, rfl⟩
        go_wp2_with fail
        refine (types_nil _).mono ?_
        rintro e w5 ⟨rfl, rfl⟩
        go_wp2_with fail
        go_roundw
        case rel => exact ⟨ii + 1, by omega, by go_num, by first | exact below_drewN' (below_next HBB.out HBI.out) _ | exact below_next HBB.out HBI.out⟩
        case measure => simp [intOf]; omega
    · obtain rfl : n = ii := by omega
      go_wp2
      go_ret
      exact ⟨rfl, below_next HB0.out hb⟩
end Go.Proofs.Ytamhigknobdloaa
namespace Go.Proofs.Ytamhigknobdloaa
open Go.RowKit Go.ChangeShapes Go.WideShapes
set_option linter.unusedVariables false

/-- The lists of a union, as they lie. -/
def LayOK (W : World) (A : Option Addr) (n : Nat) (An : Option Addr) (nn : Nat) (Ai : Option Addr) (nb : Nat) (ps : List Part) (nms : List ByteArray) (bs : List Bool) (fs : List (List Int)) : Prop :=
  ps.length = n ∧ nms.length = nn ∧ bs.length = nb ∧ fs.length = n ∧ n ≤ 1000 ∧ nn ≤ 1000 ∧ nb ≤ 1000 ∧ Parts W A ps ∧ Sl W An (nms.map Value.string) ∧ Sl W Ai (bs.map Value.bool) ∧ (∀ p ∈ ps, Sl W p.A (p.sp.map bv)) ∧ (∀ p ∈ ps, p.one) ∧
    (∀ (i : Nat) (h1 : i < ps.length) (h2 : i < fs.length), ∃ Ao co, ps[i].x3 = .slice Ao fs[i].length co ∧ Sl W Ao (fs[i].map iv) ∧ fs[i].length ≤ 1000000)
theorem LayOK.below {W W' : World} {A : Option Addr} {n : Nat} {An : Option Addr} {nn : Nat} {Ai : Option Addr} {nb : Nat} {ps : List Part} {nms : List ByteArray} {bs : List Bool} {fs : List (List Int)} (h : LayOK W A n An nn Ai nb ps nms bs fs) (hb : Below W.heap.size W W') : LayOK W' A n An nn Ai nb ps nms bs fs := by
  obtain ⟨a1, a2, a3, a4, a5, a6, a7, a8, a9, a10, a11, a12, a13⟩ := h
  exact ⟨a1, a2, a3, a4, a5, a6, a7, a8.below hb, a9.below hb, a10.below hb, fun p hp => (a11 p hp).below hb, a12, fun i h1 h2 => by
    obtain ⟨Ao, co, e1, e2, e3⟩ := a13 i h1 h2
    exact ⟨Ao, co, e1, e2.below hb, e3⟩⟩
theorem LayOK.lay {W : World} {A : Option Addr} {n : Nat} {An : Option Addr} {nn : Nat} {Ai : Option Addr} {nb : Nat} {ps : List Part} {nms : List ByteArray} {bs : List Bool} {fs : List (List Int)} (h : LayOK W A n An nn Ai nb ps nms bs fs) (c cn cb : Nat) : Calls Try.prog 57 #[.slice A n c, .slice An nn cn, .slice Ai nb cb] W (SumOut ps nms bs fs W) := by
  obtain ⟨a1, a2, a3, a4, a5, a6, a7, a8, a9, a10, a11, a12, a13⟩ := h
  exact sumlay_any A n c ps An nn cn nms Ai nb cb bs fs W a1 a2 a3 a4 a8 a9 a10 a5 a11 a12 a13
theorem LayOK.rlay {W : World} {A : Option Addr} {n : Nat} {An : Option Addr} {nn : Nat} {Ai : Option Addr} {nb : Nat} {ps : List Part} {nms : List ByteArray} {bs : List Bool} {fs : List (List Int)} (h : LayOK W A n An nn Ai nb ps nms bs fs) (c cn cb : Nat) : Calls Try.prog 58 #[.slice A n c, .slice An nn cn, .slice Ai nb cb] W (SumOut ps nms bs fs W) := by
  obtain ⟨a1, a2, a3, a4, a5, a6, a7, a8, a9, a10, a11, a12, a13⟩ := h
  exact rsumlay_any A n c ps An nn cn nms Ai nb cb bs fs W a1 a2 a3 a4 a8 a9 a10 a5 a6 a7 a11 a12 a13
/-- A layout of a union, in one form. -/
def uV (s al : Int) (As : Option Addr) (ns cs : Nat) (Ac : Option Addr) (nc cc : Nat) (Az : Option Addr) (nt cz : Nat) : Value :=
  .agg #[.int .i64 s, .int .i64 al, .slice As ns cs, .slice none 0 0, .slice none 0 0, .slice Ac nc cc, .slice Az nt cz, .bool false]
theorem SumOut.form {ps : List Part} {nms : List ByteArray} {bs : List Bool} {fs : List (List Int)} {W1 W2 : World} {e1 : Ending} (h1 : SumOut ps nms bs fs W1 e1 W2) (hfl : fs.length = ps.length) (hf : ∀ f ∈ fs, f.length ≤ 1000000) :
    Below W1.heap.size W1 W2 ∧ ∃ (s al E : Int) (ns nc nt : Nat) (As : Option Addr) (cs : Nat) (Ac : Option Addr) (cc : Nat) (Az : Option Addr) (cz : Nat), e1 = .returned (.tuple #[uV s al As ns cs Ac nc cc Az nt cz, .int .i64 E]) ∧
      ∀ V1 V2 e2, SumOut ps nms bs fs V1 e2 V2 → Below W2.heap.size W2 V1 → ∃ (Bs : Option Addr) (ds : Nat) (Bc : Option Addr) (dc : Nat) (Bz : Option Addr) (dz : Nat), e2 = .returned (.tuple #[uV s al Bs ns ds Bc nc dc Bz nt dz, .int .i64 E]) ∧ Below V1.heap.size V1 V2 ∧
        ∀ W, Below V2.heap.size V2 W → Calls Try.prog 26 #[uV s al As ns cs Ac nc cc Az nt cz, uV s al Bs ns ds Bc nc dc Bz nt dz] W fun e w' => e = .returned (.bool true) ∧ Below W.heap.size W w' := by
  obtain ⟨b1, ⟨n1, rfl⟩ | ⟨z1, l1, l2, l3, hv, u, As, cs, Ac, cc, Az, cz, qs, hu, rfl, hat⟩⟩ := h1
  · refine ⟨b1, 0, 0, _, 0, 0, 0, none, 0, none, 0, none, 0, rfl, fun V1 V2 e2 h2 hb => ?_⟩
    obtain ⟨b2, ⟨n2, rfl⟩ | ⟨z2, _⟩⟩ := h2
    · refine ⟨none, 0, none, 0, none, 0, rfl, b2, fun W _ => ?_⟩
      exact same_union 0 0 [] [] [] 0 [] [] none 0 none 0 none 0 none 0 none 0 none 0 none 0 none 0 false W .nil .nil .nil .nil (.inl rfl) (.inl rfl) .nil .nil rfl rfl (by intro i h; simp at h) (by simp) (by simp) (by simp) (by omega)
    · exact absurd z2 n1
  · refine ⟨b1, u.s, u.al, 0, u.sp.length, ps.length, u.tags.length, As, cs, Ac, cc, Az, cz, rfl, fun V1 V2 e2 h2 hb => ?_⟩
    obtain ⟨b2, ⟨n2, _⟩ | ⟨z2, _, _, _, _, u', Bs, ds, Bc, dc, Bz, dz, rs, hu', rfl, hbt⟩⟩ := h2
    · exact absurd z1 n2
    · rw [hu] at hu'
      injection hu' with hu'
      subst hu'
      refine ⟨Bs, ds, Bc, dc, Bz, dz, rfl, b2, fun W hW => ?_⟩
      have hVW : Below W2.heap.size W2 W := below_next (below_next hb b2) hW
      have hiv := inside_valid (bs := bs) hv
      have hgood := unionR_good hiv hu (by have := tagS_le ps.length l3; omega)
      have hg1 := hgood.s1
      have hg2 := hgood.sp
      have hg3 := hgood.tags
      have hg4 := tagS_le ps.length l3
      have hql := hat.len
      have hrl := hbt.len
      have h := same_union u.s u.al u.sp [] (intsN u.tags) ps.length qs rs As cs none 0 Ac cc Az cz Bs ds none 0 Bc dc Bz dz false W (hat.sp.sl.below hVW) (hbt.sp.sl.below hW) .nil .nil (show CasesAt W Ac qs from Sl.below hat.cases.sl hVW) (show CasesAt W Bc rs from Sl.below hbt.cases.sl hW) (by rw [← natv_ints]; exact hat.tags.sl.below hVW) (by rw [← natv_ints]; exact hbt.tags.sl.below hW) hql hrl ?_ (by omega) (by simp) (by rw [intsN_length]; omega) (by omega)
      · rw [intsN_length] at h
        exact h
      · intro i hi hi'
        obtain ⟨a1, a2, a3, a4, a5⟩ := hat.each i hi (by omega) (by omega) (by omega) (by omega)
        obtain ⟨c1, c2, c3, c4, c5⟩ := hbt.each i hi' (by omega) (by omega) (by omega) (by omega)
        have hqa := (hat.cl qs[i] (List.getElem_mem hi)).sl.below hVW
        have hra := (hbt.cl rs[i] (List.getElem_mem hi')).sl.below hW
        exact ⟨c1.trans a1.symm, c2.trans a2.symm, c3.trans a3.symm, c4.trans a4.symm, a5, c5, hqa, by rw [a3, ← c3]; exact hra, by rw [a3]; exact hf _ (List.getElem_mem (by omega))⟩
theorem RowsC.layok {W w : World} {gd : Nat} {ls : List Int} {A7 A8 A9 : Option Addr} {c7 c8 c9 : Nat} {ps : List Part} {nms : List ByteArray} {bs : List Bool} (h : RowsC W gd ls (.slice A7 ps.length c7) ps (.slice A8 ps.length c8) nms (.slice A9 ps.length c9) bs w) (hl : ps.length ≤ 5) :
    ∃ fs, LayOK w A7 ps.length A8 ps.length A9 ps.length ps nms bs fs ∧ ∀ f ∈ fs, f.length ≤ 1000000 := by
  obtain ⟨fs, hfl, hfs⟩ := list_of (P := fun i f => ∀ (h1 : i < ps.length), ∃ Ao co, ps[i].x3 = .slice Ao (f : List Int).length co ∧ Sl w Ao (f.map iv) ∧ f.length ≤ 1000000) ps.length (fun i hi => by
    obtain ⟨Ao, ofs, co, e, s, l1, l2⟩ := (h.laid ps[i] (List.getElem_mem (by omega))).of
    exact ⟨ofs, fun _ => ⟨Ao, co, e, s.sl, by omega⟩⟩)
  refine ⟨fs, ⟨rfl, h.ln, h.lb, hfl, by omega, by omega, by omega, parts_own h.own7, Sl.of_own h.own8, Sl.of_own h.own9, fun p hp => (h.laid p hp).sp.sl, fun p hp => (h.laid p hp).one, fun i h1 h2 => hfs i h2 h1⟩, fun f hf => ?_⟩
  obtain ⟨i, hi, rfl⟩ := List.getElem_of_mem hf
  obtain ⟨_, _, _, _, l⟩ := hfs i hi (by omega)
  exact l
theorem CasesPostO.layok {w w' : World} {gd : Nat} {ls : List Int} {e : Ending} (h : CasesPostO gd ls w e w') :
    ∃ (ps : List Part) (nms : List ByteArray) (bs : List Bool) (fs : List (List Int)) (A7 A8 A9 : Option Addr) (c7 c8 c9 : Nat), e = .returned (.tuple #[.slice A7 ps.length c7, .slice A8 nms.length c8, .slice A9 bs.length c9]) ∧ LayOK w' A7 ps.length A8 nms.length A9 bs.length ps nms bs fs ∧ (∀ f ∈ fs, f.length ≤ 1000000) ∧ (∃ k, Dice w' gd ls k) ∧ w.grownBy w' (some gd) := by
  obtain ⟨ps, nms, bs, A7, A8, A9, c7, c8, c9, he, l1, l2, l3, hp, h8, h9, ho, hd, hg⟩ := h
  obtain ⟨fs, hfl, hfs⟩ := list_of (P := fun i f => ∀ (h1 : i < ps.length), ∃ Ao co, ps[i].x3 = .slice Ao (f : List Int).length co ∧ Sl w' Ao (f.map iv) ∧ f.length ≤ 1000000) ps.length (fun i hi => by
    obtain ⟨Ao, ofs, co, e, s, l1, l2⟩ := (ho ps[i] (List.getElem_mem (by omega))).of
    exact ⟨ofs, fun _ => ⟨Ao, co, e, s.sl, by omega⟩⟩)
  refine ⟨ps, nms, bs, fs, A7, A8, A9, c7, c8, c9, he, ⟨rfl, rfl, rfl, hfl, by omega, by omega, by omega, hp, h8, h9, fun p hp => (ho p hp).sp.sl, fun p hp => (ho p hp).one, fun i h1 h2 => hfs i h2 h1⟩, fun f hf => ?_, hd, hg⟩
  obtain ⟨i, hi, rfl⟩ := List.getElem_of_mem hf
  obtain ⟨_, _, _, _, l⟩ := hfs i hi (by omega)
  exact l
end Go.Proofs.Ytamhigknobdloaa
namespace Go.Proofs.Ytamhigknobdloaa
open Go.RowKit Go.ChangeShapes Go.WideShapes
set_option linter.unusedVariables false
section
variable {H : Type} {enc : TypeId × Value → H} {w : World} {base : Nat} {spare : Nat → Bool} {held : Bool}
def StrsIn (w : World) (v : Value) : Prop := ∃ (A : Option Addr) (l : List ByteArray) (c : Nat), v = .slice A l.length c ∧ Sl w A (l.map Value.string) ∧ l.length ≤ c ∧ c ≤ 9223372036854775807
def BoolsIn (w : World) (v : Value) : Prop := ∃ (A : Option Addr) (l : List Bool) (c : Nat), v = .slice A l.length c ∧ Sl w A (l.map Value.bool) ∧ l.length ≤ c ∧ c ≤ 9223372036854775807
theorem strs_in {fuel : Nat} {v : Value} {x : DataW H × List MemPlace} (h : DataW.trod enc Try.prog w base spare held fuel 66 [v] = some x) : StrsIn w v := by
  rcases Go.Deep.open_slice1 Try.underlying66 (by kernel_rfl) h with ⟨hcs, _⟩ | ⟨a, len, cap, m, n, V, D, Pl, hcs, _, hl, hm, hmm, _, hi⟩
  · injection hcs with hv; exact ⟨none, [], 0, hv, .inl rfl, by simp, by omega⟩
  · injection hcs with hv
    have hlm : len ≤ m := by rw [hmm]; split <;> omega
    obtain ⟨l, hll, hc⟩ := list_of (P := fun i (s : ByteArray) => V i = .string s) len (fun i hil => by
      obtain ⟨_, ht⟩ := hi i (by omega)
      obtain ⟨s', h1, _, _⟩ := DataW.trod_string Try.underlying9 ht
      injection h1 with h1
      exact ⟨s', h1⟩)
    have hm' : cap ≤ 9223372036854775807 := hm
    refine ⟨some a, l, cap, by rw [hll]; exact hv, sl_of_add fun i hi' => ?_, by rw [hll]; exact hl, hm'⟩
    rw [List.length_map] at hi'
    rw [(hi i (by omega)).1, hc i hi', List.getElem_map]
theorem bools_in {fuel : Nat} {v : Value} {x : DataW H × List MemPlace} (h : DataW.trod enc Try.prog w base spare held fuel 67 [v] = some x) : BoolsIn w v := by
  rcases Go.Deep.open_slice1 Try.underlying67 (by kernel_rfl) h with ⟨hcs, _⟩ | ⟨a, len, cap, m, n, V, D, Pl, hcs, _, hl, hm, hmm, _, hi⟩
  · injection hcs with hv; exact ⟨none, [], 0, hv, .inl rfl, by simp, by omega⟩
  · injection hcs with hv
    have hlm : len ≤ m := by rw [hmm]; split <;> omega
    obtain ⟨l, hll, hc⟩ := list_of (P := fun i (s : Bool) => V i = .bool s) len (fun i hil => by
      obtain ⟨_, ht⟩ := hi i (by omega)
      obtain ⟨s', h1, _⟩ := DataW.trod_bool Try.underlying4 ht
      injection h1 with h1
      exact ⟨s', h1⟩)
    have hm' : cap ≤ 9223372036854775807 := hm
    refine ⟨some a, l, cap, by rw [hll]; exact hv, sl_of_add fun i hi' => ?_, by rw [hll]; exact hl, hm'⟩
    rw [List.length_map] at hi'
    rw [(hi i (by omega)).1, hc i hi', List.getElem_map]
end
end Go.Proofs.Ytamhigknobdloaa
namespace Go.Proofs.Ytamhigknobdloaa
open Go.RowKit
set_option linter.unusedVariables false

set_option maxHeartbeats 3200000 in
set_option maxRecDepth 100000 in
theorem sumlays_big (A : Option Addr) (n c : Nat) (An : Option Addr) (nn cn : Nat) (Ai : Option Addr) (nb cb : Nat) (Al : Option Addr) (nl cl : Nat) (k : Int) (w : World) (b1 : n ≤ 9223372036854775807) (b2 : nn ≤ 9223372036854775807) (b3 : nb ≤ 9223372036854775807) (hbig : 40 < n ∨ 40 < nn ∨ 40 < nb ∨ 700 < nl) :
    Calls Try.prog 11 #[.slice A n c, .slice An nn cn, .slice Ai nb cb, .slice Al nl cl, .int .i64 k] w fun e w' => e = .returned (.bool true) ∧ Below w.heap.size w w' := by
  by_cases g1 : 40 < n
  · have d1 : decide ((40 : Int) < n) = true := by simp; omega
    clear hbig
    go_enter Try.func11, Try.ntmps11
    go_wp2_with fail
    refine (awake17 _).mono ?_
    rintro e w1 ⟨rfl, hb⟩
    go_wp2
    go_ret
    exact ⟨rfl, hb⟩
  have d1 : decide ((40 : Int) < n) = false := by simp; omega
  by_cases g2 : 40 < nn
  · have d2 : decide ((40 : Int) < nn) = true := by simp; omega
    clear hbig
    go_enter Try.func11, Try.ntmps11
    go_wp2_with fail
    refine (awake17 _).mono ?_
    rintro e w1 ⟨rfl, hb⟩
    go_wp2
    go_ret
    exact ⟨rfl, hb⟩
  have d2 : decide ((40 : Int) < nn) = false := by simp; omega
  by_cases g3 : 40 < nb
  · have d3 : decide ((40 : Int) < nb) = true := by simp; omega
    clear hbig
    go_enter Try.func11, Try.ntmps11
    go_wp2_with fail
    refine (awake17 _).mono ?_
    rintro e w1 ⟨rfl, hb⟩
    go_wp2
    go_ret
    exact ⟨rfl, hb⟩
  have d3 : decide ((40 : Int) < nb) = false := by simp; omega
  have hl' : decide (nl ≤ 700) = false := by simp; omega
  clear hbig
  go_enter Try.func11, Try.ntmps11
  go_wp2_with fail
  refine (light_any _ _ _ _).mono ?_
  rw [hl']
  rintro e w1 ⟨rfl, rfl⟩
  go_wp2_with fail
  refine (awake17 _).mono ?_
  rintro e w1 ⟨rfl, hb⟩
  go_wp2
  go_ret
  exact ⟨rfl, hb⟩

set_option maxHeartbeats 6400000 in
set_option maxRecDepth 100000 in
theorem sumlays_walk (A : Option Addr) (n c : Nat) (ps : List Part) (An : Option Addr) (nn cn : Nat) (nms : List ByteArray) (Ai : Option Addr) (nb cb : Nat) (bs : List Bool) (fs : List (List Int)) (Al : Option Addr) (nl cl : Nat) (ls : List Int) (kk : Int) (w : World)
    (hn : ps.length = n) (hnn : nms.length = nn) (hnb : bs.length = nb) (hfn : fs.length = n) (hP : Parts w A ps) (hN : Sl w An (nms.map Value.string)) (hB : Sl w Ai (bs.map Value.bool)) (hsp : ∀ p ∈ ps, Sl w p.A (p.sp.map bv)) (hspl : ∀ p ∈ ps, p.sp.length ≤ 9223372036854775807) (hone : ∀ p ∈ ps, p.one)
    (hof : ∀ (i : Nat) (h1 : i < ps.length) (h2 : i < fs.length), ∃ Ao co, ps[i].x3 = .slice Ao fs[i].length co ∧ Sl w Ao (fs[i].map iv) ∧ fs[i].length ≤ 9223372036854775807)
    (hls : ls.length = nl) (hs : Sl w Al (ls.map iv)) (hl : nl ≤ 700) (hib : IB ls) (h40 : n ≤ 40) (hnn40 : nn ≤ 40) (hnb40 : nb ≤ 40) (hk0 : -9223372036854775808 ≤ kk) (hk1 : kk ≤ 9223372036854775807) :
    Calls Try.prog 11 #[.slice A n c, .slice An nn cn, .slice Ai nb cb, .slice Al nl cl, .int .i64 kk] w fun e w' => e = .returned (.bool true) ∧ Below w.heap.size w w' := by
  have d1 : decide ((40 : Int) < n) = false := by simp; omega
  have d2 : decide ((40 : Int) < nn) = false := by simp; omega
  have d3 : decide ((40 : Int) < nb) = false := by simp; omega
  have hl' : decide (nl ≤ 700) = true := by simpa using hl
  have HN := Lib.hid hn
  have HNN := Lib.hid hnn
  have HNB := Lib.hid hnb
  have HFN := Lib.hid hfn
  have HP := Lib.hid hP
  have HNS := Lib.hid hN
  have HBS := Lib.hid hB
  have HSP := Lib.hid hsp
  have HSPL := Lib.hid hspl
  have HONE := Lib.hid hone
  have HOF := Lib.hid hof
  have HLS := Lib.hid hls
  have HS := Lib.hid hs
  have HIB := Lib.hid hib
  have hbr := Below.refl w.heap.size w
  clear hn hnn hnb hfn hP hN hB hsp hspl hone hof hls hs hib
  go_enter Try.func11, Try.ntmps11
  go_wp2_with fail
  refine (light_any _ _ _ _).mono ?_
  rw [hl']
  rintro e w1 ⟨rfl, rfl⟩
  go_wp2_with fail
  clear d1 d2 d3 hl'
  go_loopw [43] (fun v43 wr => ∃ i : Nat, i ≤ n ∧ v43 = .int .i64 i ∧ Hid (∀ (j : Nat) (h : j < fs.length), j < i → fs[j].length ≤ 100) ∧ Below w.heap.size w wr) (fun v43 _ => n - (intOf v43).toNat)
  case atStart => exact ⟨0, by omega, rfl, (by intro j h hj; omega : Hid _), hbr⟩
  case round =>
    obtain ⟨i, hi, rfl, hsm, hb⟩ := hrel
    clear hbr
    by_cases hlt : i < n
    · have hip : i < ps.length := by rw [HN.out]; exact hlt
      have hif : i < fs.length := by rw [HFN.out]; exact hlt
      obtain ⟨gb, off, rfl, c0, c1, c2, c3, c4, c5, c6, c7⟩ := (HP.out.below hb).get hip
      obtain ⟨Ao, co, ex3, _, hfl63⟩ := HOF.out i hip hif
      have hpo := HONE.out ps[i] (List.getElem_mem hip)
      have hp63 := HSPL.out ps[i] (List.getElem_mem hip)
      rw [ex3] at c3
      generalize hfi : fs[i] = f at *
      generalize ps[i] = p at *
      have HFI := Lib.hid hfi
      have sx4 := store_var (P := Try.prog) hpo.h4
      have sx5 := store_var (P := Try.prog) hpo.h5
      have sx6 := store_var (P := Try.prog) hpo.h6
      have sx7 := store_var (P := Try.prog) hpo.h7
      have hbn := (Below.refl wr.heap.size wr).alloc (Nat.le_refl _) (.cells #[.int .i64 p.s, .int .i64 p.al, .slice p.A p.sp.length p.c, .slice Ao f.length co, p.x4, p.x5, p.x6, p.x7] 31)
      have HBN := Lib.hid (below_next hb hbn)
      clear hb hbn hpo ex3 hfi
      by_cases hbad : 2000 < p.sp.length ∨ 100 < f.length
      · by_cases hb1 : 2000 < p.sp.length
        · have e1 : decide ((2000 : Int) < p.sp.length) = true := by simp; omega
          clear hbad
          go_wp2_with fail
          refine (awake17 _).mono ?_
          rintro e w6 ⟨rfl, hb6⟩
          go_wp2
          go_ret
          exact ⟨rfl, below_next HBN.out hb6⟩
        · have e1 : decide ((2000 : Int) < p.sp.length) = false := by simp; omega
          have e2 : decide ((100 : Int) < f.length) = true := by simp; omega
          clear hbad
          go_wp2_with fail
          refine (awake17 _).mono ?_
          rintro e w6 ⟨rfl, hb6⟩
          go_wp2
          go_ret
          exact ⟨rfl, below_next HBN.out hb6⟩
      · have e1 : decide ((2000 : Int) < p.sp.length) = false := by simp; omega
        have e2 : decide ((100 : Int) < f.length) = false := by simp; omega
        have hsm2 : Hid (∀ (j : Nat) (h : j < fs.length), j < i + 1 → fs[j].length ≤ 100) := by
          intro j h hj
          by_cases hji : j < i
          · exact hsm.out j h hji
          · obtain rfl : j = i := by omega
            have := HFI.out
            rw [this]; omega
        clear hbad
        go_wp2_with fail
        go_roundw
        case rel => exact ⟨i + 1, by omega, by go_num, hsm2, HBN.out⟩
        case measure => simp [intOf]; omega
    · obtain rfl : n = i := by omega
      have hok : LayOK w A n An nn Ai nb ps nms bs fs := ⟨HN.out, HNN.out, HNB.out, HFN.out, by omega, by omega, by omega, HP.out, HNS.out, HBS.out, HSP.out, HONE.out, fun i h1 h2 => by
        obtain ⟨Ao, co, e1, e2, _⟩ := HOF.out i h1 h2
        have := hsm.out i h2 (by have := HFN.out; omega)
        exact ⟨Ao, co, e1, e2, by omega⟩⟩
      have hfl : ∀ f ∈ fs, f.length ≤ 1000000 := fun f hf => by
        obtain ⟨i, hi, rfl⟩ := List.getElem_of_mem hf
        have := hsm.out i hi (by have := HFN.out; omega)
        omega
      have HOK := Lib.hid hok
      have HFL := Lib.hid hfl
      have HBW := Lib.hid hb
      clear hok hfl hsm hlt
      have hs1 := HS.out.below hb
      clear hb
      go_wp2_with fail
      refine (roll_any _ _ _ ls _ HLS.out hs1 hl HIB.out).mono ?_
      rintro e W ⟨rfl, hd1, hbW⟩
      obtain ⟨gd, hgd⟩ : ∃ gd, gd = wr.heap.size := ⟨_, rfl⟩
      rw [← hgd] at hd1 ⊢
      have hgw : w.heap.size ≤ gd := by rw [hgd]; exact HBW.out.size
      have HB1 := Lib.hid (below_next HBW.out hbW)
      have HD1 := Lib.hid hd1
      clear hgd hbW hs1 hd1
      go_wp2_with fail
      go_loopw [14] (fun v14 wr => ∃ j : Nat, j ≤ 3 ∧ v14 = .int .i64 j ∧ (∃ d, Dice wr gd ls d) ∧ Below w.heap.size w wr) (fun v14 _ => 3 - (intOf v14).toNat)
      case atStart => exact ⟨0, by omega, rfl, ⟨0, HD1.out⟩, HB1.out⟩
      case round =>
        obtain ⟨j, hj, rfl, ⟨d, hd⟩, hb⟩ := hrel
        clear HB1 HD1
        by_cases hj3 : j < 3
        · have HD := Lib.hid hd
          have HB := Lib.hid hb
          clear hd hb
          go_upto_if 69 with (fail)
          go_cut [15, 16, 17] (fun v15 v16 v17 wx => ∃ (A : Option Addr) (n' : Nat) (An : Option Addr) (nn' : Nat) (Ai : Option Addr) (nb' : Nat) (c cn cb : Nat) (ps : List Part) (nms : List ByteArray) (bs : List Bool) (fs : List (List Int)), v15 = .slice A n' c ∧ v16 = .slice An nn' cn ∧ v17 = .slice Ai nb' cb ∧ LayOK wx A n' An nn' Ai nb' ps nms bs fs ∧ (∀ f ∈ fs, f.length ≤ 1000000) ∧ (∃ d, Dice wx gd ls d) ∧ Below w.heap.size w wx)
          case first =>
            rcases (show j = 0 ∨ j = 1 ∨ j = 2 by omega) with rfl | rfl | rfl
            · go_wp2_with fail
              go_meet
              exact ⟨_, _, _, _, _, _, _, _, _, _, _, _, _, rfl, rfl, rfl, HOK.out.below HB.out, HFL.out, ⟨_, HD.out⟩, HB.out⟩
            · go_wp2_with fail
              refine (cases_even gd ls d _ HD.out).mono ?_
              rintro e w2 ⟨ps2, nms2, bs2, A7, A8, A9, c7, c8, c9, rfl, hp5, HR⟩
              obtain ⟨fs2, hok2, hf2⟩ := HR.layok hp5
              have hd2 := HR.dice
              have hb2 : Below w.heap.size w w2 := HB.out.grown HR.grown HB.out.size (fun q hq => by injection hq with hq; omega)
              have HOK2 := Lib.hid hok2
              have HF2 := Lib.hid hf2
              have HD2 := Lib.hid hd2
              have HB2 := Lib.hid hb2
              clear HR hok2 hf2 hd2 hb2
              go_wp2_with fail
              go_meet
              exact ⟨_, _, _, _, _, _, _, _, _, _, _, _, _, rfl, rfl, rfl, HOK2.out, HF2.out, HD2.out, HB2.out⟩
            · go_wp2_with fail
              refine (cases_odd gd ls d _ HD.out).mono ?_
              intro e w2 h2
              obtain ⟨ps2, nms2, bs2, fs2, A7, A8, A9, c7, c8, c9, rfl, hok2, hf2, hd2, hg2⟩ := h2.layok
              have hb2 : Below w.heap.size w w2 := HB.out.grown hg2 HB.out.size (fun q hq => by injection hq with hq; omega)
              have HOK2 := Lib.hid hok2
              have HF2 := Lib.hid hf2
              have HD2 := Lib.hid hd2
              have HB2 := Lib.hid hb2
              clear h2 hok2 hf2 hd2 hb2 hg2
              go_wp2_with fail
              go_meet
              exact ⟨_, _, _, _, _, _, _, _, _, _, _, _, _, rfl, rfl, rfl, HOK2.out, HF2.out, HD2.out, HB2.out⟩
          case rest =>
            obtain ⟨B7, m7, B8, m8, B9, m9, d7, d8, d9, ps2, nms2, bs2, fs2, rfl, rfl, rfl, hok2, hf2, ⟨d2, hd2⟩, hb2⟩ := hcut
            have hlay := hok2.lay d7 d8 d9
            have hfl2 : fs2.length = ps2.length := by have h1 := hok2.1; have h2 := hok2.2.2.2.1; omega
            have HOK2 := Lib.hid hok2
            have HLAY := Lib.hid hlay
            have HD2 := Lib.hid hd2
            have HB2 := Lib.hid hb2
            clear hok2 hlay hd2 hb2 HD HB
            go_wp2_with fail
            refine HLAY.out.mono ?_
            intro e w3 h3
            obtain ⟨hb3, s, al, E, ns, nc, nt, As, cs, Ac, cc, Az, cz, he, hnx⟩ := h3.form hfl2 hf2
            unfold uV at he
            subst he
            obtain ⟨V1, hV1⟩ : ∃ V1, V1 = w3.alloc (.cells #[.int .i64 s, .int .i64 al, .slice As ns cs, .slice none 0 0, .slice none 0 0, .slice Ac nc cc, .slice Az nt cz, .bool false] 31) := ⟨_, rfl⟩
            have b31 : Below w3.heap.size w3 V1 := by rw [hV1]; exact (Below.refl _ _).alloc (Nat.le_refl _) _
            have hX : Blk V1 w3.heap.size 31 #[.int .i64 s, .int .i64 al, .slice As ns cs, .slice none 0 0, .slice none 0 0, .slice Ac nc cc, .slice Az nt cz, .bool false] := by rw [hV1]; exact Blk.new _ _ _
            have hrl := (HOK2.out.below (below_next hb3 b31)).rlay d7 d8 d9
            have HRL := Lib.hid hrl
            have HNX := Lib.hid hnx
            have HB31 := Lib.hid b31
            have HB3 := Lib.hid (below_next hb3 b31)
            have HX := Lib.hid hX
            have HV1 := Lib.hid hV1
            obtain ⟨gx, hgx⟩ : ∃ gx, gx = w3.heap.size := ⟨_, rfl⟩
            have HGX := Lib.hid hgx
            clear hV1 b31 hX hrl hnx hb3 h3 hgx
            go_wp2_with fail
            rw [← HV1.out, ← HGX.out]
            refine HRL.out.mono ?_
            intro e2 V2 h4
            obtain ⟨Bs, ds, Bc, dc, Bz, dz, he, hb4, hsame⟩ := HNX.out _ _ _ h4 HB31.out
            unfold uV at he
            subst he
            have hX2 := HX.out.below hb4
            rw [← HGX.out] at hX2
            obtain ⟨⟨x0, x1, x2, x3, x4, x5, x6, x7⟩, xf⟩ := hX2.eight
            have hxl := hX2.lt
            have b45 := (Below.refl V2.heap.size V2).alloc (Nat.le_refl _) (.cells #[.int .i64 s, .int .i64 al, .slice Bs ns ds, .slice none 0 0, .slice none 0 0, .slice Bc nc dc, .slice Bz nt dz, .bool false] 31)
            have hsm2 := hsame _ b45
            unfold uV at hsm2
            have hE : (E != E) = false := by simp
            have HSAME := Lib.hid hsm2
            have HD5 := Lib.hid (HD2.out.below (below_next HB3.out (below_next hb4 b45)))
            have HB5 := Lib.hid (below_next HB2.out (below_next HB3.out (below_next hb4 b45)))
            clear hX2 b45 hsm2 hsame h4 hb4
            go_wp2_with fail
            refine HSAME.out.mono ?_
            rintro e w6 ⟨rfl, hb6⟩
            have HD6 := Lib.hid (HD5.out.below hb6)
            have HB6 := Lib.hid (below_next HB5.out hb6)
            clear hb6 x0 x1 x2 x3 x4 x5 x6 x7 xf hE
            go_wp2_with fail
            go_roundw
            case rel => exact ⟨j + 1, by omega, by go_num, ⟨_, HD6.out⟩, HB6.out⟩
            case measure => simp [intOf]; omega
        · obtain rfl : j = 3 := by omega
          have HB := Lib.hid hb
          clear hb hd
          have t1 := Int.lt_tmod_of_pos kk (show (0 : Int) < 300 by omega)
          have t2 := Int.tmod_lt_of_pos kk (show (0 : Int) < 300 by omega)
          go_wp2_with fail
          refine (pointer_any _).mono ?_
          rintro e w2 ⟨A2, rfl, h2, hb2⟩
          have HB2 := Lib.hid hb2
          have H2 := Lib.hid h2
          clear hb2 h2
          go_wp2_with fail
          refine (rpointer_any _).mono ?_
          rintro e w3 ⟨A3, rfl, h3, hb3⟩
          have hsm := same_union 8 8 [7, 0, 0, 0, 0, 0, 255, 255] [] [] 0 [] [] A2 8 none 0 none 0 none 0 A3 8 none 0 none 0 none 0 true w3 (H2.out.sl.below hb3) h3.sl .nil .nil (.inl rfl) (.inl rfl) .nil .nil rfl rfl (by intro i h; simp at h) (by simp) (by simp) (by simp) (by omega)
          have HSM := Lib.hid hsm
          have HB3 := Lib.hid (below_next HB.out (below_next HB2.out hb3))
          clear hsm h3 hb3
          go_wp2_with fail
          refine HSM.out.mono ?_
          rintro e w4 ⟨rfl, hb4⟩
          have HB4 := Lib.hid (below_next HB3.out hb4)
          clear hb4
          go_wp2_with fail
          refine (tagsize_any kk _ hk0 hk1).mono ?_
          rintro e w5 ⟨rfl, rfl⟩
          go_wp2_with fail
          refine (rtagsize_any kk _ hk0 hk1).mono ?_
          rintro e w5 ⟨rfl, rfl⟩
          have hse : (((tagS kk : Nat) : Int) == tagS kk) = true := by simp
          go_wp2_with fail
          refine (tagsize_any (kk.tmod 300) _ (by omega) (by omega)).mono ?_
          rintro e w5 ⟨rfl, rfl⟩
          go_wp2_with fail
          refine (rtagsize_any (kk.tmod 300) _ (by omega) (by omega)).mono ?_
          rintro e w5 ⟨rfl, rfl⟩
          have hse2 : (((tagS (kk.tmod 300) : Nat) : Int) == tagS (kk.tmod 300)) = true := by simp
          go_wp2_with fail
          refine (awake17 _).mono ?_
          rintro e w6 ⟨rfl, hb6⟩
          go_wp2
          go_ret
          exact ⟨rfl, below_next HB4.out hb6⟩
end Go.Proofs.Ytamhigknobdloaa
