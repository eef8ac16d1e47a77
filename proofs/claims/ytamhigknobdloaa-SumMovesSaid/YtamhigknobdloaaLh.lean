/- The walk of OddLayout; conditions: the numbers are readable. -/
import Derived.Test.YtamhigknobdloaaLg
import Derived.Deep.OwnRows
namespace Go.Proofs.Ytamhigknobdloaa
open Go.RowKit
set_option linter.unusedVariables false

theorem part_one_eta (s al : Int) (A : Option Addr) (sp : List UInt8) (c : Nat) (x3 x4 x5 x6 x7 : Value) : (⟨s, al, A, sp, c, x3, x4, x5, x6, x7⟩ : Part).arr = #[.int .i64 s, .int .i64 al, .slice A sp.length c, x3, x4, x5, x6, x7] := rfl
theorem mk27 (n : Nat) (h : n ≤ 2000) (w : World) : (Instr.makeSlice 27 (.int .i64 (n : Int)) (.int .i64 (n : Int))).run Try.prog w = .ok (.slice (some ⟨w.heap.size, 0, none⟩) n n) (w.alloc (.cells (madeCells #[.int .u8 0] n) 5)) :=
  Go.run_make_row' (P := Try.prog) 27 5 (.int .u8 0) 1 Try.underlying27 (by kernel_rfl) rfl .i64 .i64 n (by omega) (by omega) w
theorem bodyPost_odd {P : Program} {fn : Func} {R : Ending → World → Prop} {x : Exit} {a : Act} {w : World} {g : Nat} {t : TypeId} {cs : Array Value} (h1 : Blk w g t cs) {e : Ending} (hx : R e w)
    (h : ∀ W, Blk W g t cs → R e W → bodyPost P fn R x a W) : bodyPost P fn R x a w := h w h1 hx

set_option maxHeartbeats 6400000 in
set_option maxRecDepth 100000 in
theorem odd_any (g : Nat) (ls : List Int) (k : Nat) (w : World) (hd : Dice w g ls k) : Calls Try.prog 23 #[.pointer (some ⟨g, 0, none⟩)] w (OddPost g ls k w) := by
  have hgl := hd.lt
  have hd0 := hd.alloc (.cells #[.int .i64 0, .int .i64 0, .slice none 0 0, .slice none 0 0, .slice none 0 0, .slice none 0 0, .slice none 0 0, .bool false] 31)
  have hblk0 := Blk.new w 31 #[.int .i64 0, .int .i64 0, .slice none 0 0, .slice none 0 0, .slice none 0 0, .slice none 0 0, .slice none 0 0, .bool false]
  have hg0 := grown_alloc (World.grownBy.refl w (some g)) (.cells #[.int .i64 0, .int .i64 0, .slice none 0 0, .slice none 0 0, .slice none 0 0, .slice none 0 0, .slice none 0 0, .bool false] 31)
  clear hd
  go_enter Try.func23, Try.ntmps23
  go_wp2_with fail
  refine (layout_any _ g ls k _ hd0 (Nat.le_refl _)).mono ?_
  rintro e W2 ⟨⟨s1, al1, A1, sp1, c1, x31, x41, x51, x61, x71⟩, k1, he, m1, hd2, hk1, hg2⟩
  have he' : e = .returned (.agg #[.int .i64 s1, .int .i64 al1, .slice A1 sp1.length c1, x31, x41, x51, x61, x71]) := he
  subst he'
  have hrb2 := hblk0.grown hg2 (fun e => by injection e with e; omega)
  have hs1 := m1.s1
  have hs0 := m1.odd.s0
  have hal0 := m1.odd.al0
  have hal1 := m1.odd.al1
  have hlen := m1.len
  have hcap := m1.cap
  simp only at hs1 hs0 hal0 hal1 hlen hcap
  have HLEN := Lib.hid hlen
  clear hlen
  have hone := m1.one
  have sx3 := store_var (P := Try.prog) hone.h3
  have sx4 := store_var (P := Try.prog) hone.h4
  have sx5 := store_var (P := Try.prog) hone.h5
  have sx6 := store_var (P := Try.prog) hone.h6
  have sx7 := store_var (P := Try.prog) hone.h7
  have hrl := hrb2.lt
  have hP := Blk.new W2 31 #[.int .i64 s1, .int .i64 al1, .slice A1 sp1.length c1, x31, x41, x51, x61, x71]
  have hat : OddAt g ls k w W2.heap.size w.heap.size k1 ⟨s1, al1, A1, sp1, c1, x31, x41, x51, x61, x71⟩ (W2.alloc (.cells #[.int .i64 s1, .int .i64 al1, .slice A1 sp1.length c1, x31, x41, x51, x61, x71] 31)) :=
    ⟨hP, hrb2.alloc _, m1.odd.alloc _, hd2.alloc _, by omega, grown_alloc (grown_trans hg0 hg2) _⟩
  have HAT := Lib.hid hat
  have HONE := Lib.hid hone
  have hne3 : g ≠ W2.heap.size := by omega
  have hne4 : g ≠ w.heap.size := by omega
  clear he hd0 hblk0 hg0 m1 hd2 hg2 hrb2 hP hat hone
  go_upto_if 8 with ((go_at_call 65; refine (rare_any g ls k1 4 _ HAT.out.dice (by omega) (by omega)).mono ?_; rintro e W3 ⟨b, k3, rfl, hd3, hk3, hg3⟩))
  have hat3 := HAT.out.dices hd3 hk3 hg3 hne3 hne4
  have hlt3 := hat3.b3.lt
  obtain ⟨b3, hb3⟩ : ∃ b3, b3 = W2.heap.size := ⟨_, rfl⟩
  obtain ⟨rb, hrb⟩ : ∃ rb, rb = w.heap.size := ⟨_, rfl⟩
  rw [← hb3, ← hrb] at hat3 ⊢
  have hwb : w.heap.size ≤ b3 := by omega
  have hgb : g < b3 := by omega
  have hrbn : rb ≠ b3 := by omega
  have hgr : g ≠ rb := by omega
  have hgrl : g < rb := by omega
  have hwrb : w.heap.size ≤ rb := by omega
  rw [← hb3] at hlt3
  clear hd3 hk3 hg3 HAT hne3 hne4 hrl hb3 hrb sx3 sx4 sx5 sx6 sx7
  have H3 := Lib.hid hat3
  clear hat3
  go_cut [4] (fun v4 wx => ∃ (k' : Nat) (p : Part), OddAt g ls k w b3 rb k' p wx)
  case first =>
    cases b with
    | false =>
      go_wp2_with fail
      go_meet
      exact ⟨_, _, H3.out⟩
    | true =>
      go_wp2_with fail
      refine (next_lt g ls _ 4 _ H3.out.dice (by omega) (by omega)).mono ?_
      rintro e W4 ⟨r, k4, rfl, hr, hd4, hk4, hx4, hg4⟩
      clear hx4
      have hat4 := H3.out.dices hd4 hk4 hg4 (by omega) hgr
      have hlt4 := hat4.b3.lt
      have HA := Lib.hid hat4
      obtain ⟨⟨c0, c1', c2, c3, c4, c5, c6, c7⟩, cf⟩ := hat4.b3.eight
      clear hd4 hk4 hg4 H3 hlt3 hat4
      rcases (show r = 0 ∨ r = 1 ∨ r = 2 ∨ r = 3 by omega) with rfl | rfl | rfl | rfl
      · go_wp2_with fail
        go_meet
        exact ⟨_, ⟨s1 + 1, al1, A1, sp1, c1, x31, x41, x51, x61, x71⟩, HA.out.set_ 0 _ _ rfl ⟨HA.out.odd.sp, HA.out.odd.cap, ⟨HONE.out.h3, HONE.out.h4, HONE.out.h5, HONE.out.h6, HONE.out.h7⟩, by show 0 ≤ s1 + 1; omega, by show s1 + 1 ≤ 2000; omega, hal0, hal1, HA.out.odd.len⟩ hwb hrbn hgb⟩
      · have hA1 := HA.out.alloc (.cells #[.int .i64 0, .int .i64 2, .int .i64 16, .int .i64 (-8)] 3)
        have hB1 := Blk.new W4 3 #[.int .i64 0, .int .i64 2, .int .i64 16, .int .i64 (-8)]
        have HA1 := Lib.hid hA1
        have HB1 := Lib.hid hB1
        clear hA1 hB1
        go_wp2_with fail
        refine (next_lt g ls _ 4 _ HA1.out.dice (by omega) (by omega)).mono ?_
        rintro e W5 ⟨r2, k5, rfl, hr2, hd5, hk5, hx5, hg5⟩
        clear hx5
        have hA5 := HA1.out.dices hd5 hk5 hg5 (by omega) hgr
        have hB5 := HB1.out.grown hg5 (fun e => by injection e with e; omega)
        have hl5 := hB5.lt
        obtain ⟨⟨d0, d1, d2, d3, d4, d5, d6, d7⟩, df⟩ := hA5.b3.eight
        have hv : ∃ v : Int, W5.cell? ⟨W4.heap.size, r2, none⟩ = some (.int .i64 v) ∧ -100 ≤ v ∧ v ≤ 100 := by
          rw [hB5.cell]
          rcases (show r2 = 0 ∨ r2 = 1 ∨ r2 = 2 ∨ r2 = 3 by omega) with rfl | rfl | rfl | rfl
          · exact ⟨0, rfl, by omega, by omega⟩
          · exact ⟨2, rfl, by omega, by omega⟩
          · exact ⟨16, rfl, by omega, by omega⟩
          · exact ⟨-8, rfl, by omega, by omega⟩
        obtain ⟨v, hv0, hv1, hv2⟩ := hv
        have HA5 := Lib.hid hA5
        have hltb := hA5.b3.lt
        clear hA5 hB5 hd5 hk5 hg5 HA1 HB1
        go_wp2_with fail
        go_meet
        exact ⟨_, ⟨s1, v, A1, sp1, c1, x31, x41, x51, x61, x71⟩, HA5.out.set_ 1 _ _ rfl ⟨HA5.out.odd.sp, HA5.out.odd.cap, ⟨HONE.out.h3, HONE.out.h4, HONE.out.h5, HONE.out.h6, HONE.out.h7⟩, hs0, by show s1 ≤ 2000; omega, hv1, hv2, HA5.out.odd.len⟩ hwb hrbn hgb⟩
      · have hlen2 := HLEN.out
        obtain ⟨A5, c5, W5, hr5, own5, hg5⟩ := run_appendS (P := Try.prog) (w := W4) W4.heap.size 27 27 5 _ 1 1 Try.underlying27 el5 none 0 0 [] (World.ownsRow_nil _ _ _ _) A1 sp1.length c1 (sp1.map bv) HA.out.odd.sp.sl (by simp) (oneCell_bv _) (by simp only [maxLen]; omega) (by omega) (Nat.le_refl _)
        rw [Nat.zero_add, List.nil_append] at own5
        rw [Nat.zero_add] at hr5
        obtain ⟨A6, c6, W6, hr6, own6, hg6⟩ := run_append1 (P := Try.prog) (w := W5) W4.heap.size 27 27 5 _ 1 Try.underlying27 el5 (by omega) A5 sp1.length c5 _ own5 (.int .u8 0) rfl (by omega) hg5.size
        have hb5 : Below W4.heap.size W4 W5 := (Below.refl _ _).grown hg5 (Nat.le_refl _) (fun k hk => by cases hk)
        have hb6 : Below W4.heap.size W4 W6 := hb5.grown hg6 hb5.size (fun q hq => (own5.lt q hq).1)
        have hA6 := HA.out.below hb6
        have hse := SlE.of_own own6
        have hcap6 := own_cap own6
        obtain ⟨⟨d0, d1, d2, d3, d4, d5, d6, d7⟩, df⟩ := hA6.b3.eight
        have HA6 := Lib.hid hA6
        have hltb := hA6.b3.lt
        have hsz5 := hb5.size
        have HSE := Lib.hid hse
        clear hA6 own5 own6 hg5 hg6 hb5 hb6 hse hlen2
        go_wp2_with fail
        go_meet
        have hse7 : SlE W6 5 A6 ((sp1 ++ [0]).map bv) := by rw [List.map_append]; exact HSE.out
        have hl2 := HLEN.out
        exact ⟨_, ⟨s1, al1, A6, sp1 ++ [0], c6, x31, x41, x51, x61, x71⟩, HA6.out.set_ 2 _ _ (by simp [Part.arr]) ⟨hse7, by show (sp1 ++ [0]).length ≤ c6; simpa using hcap6, ⟨HONE.out.h3, HONE.out.h4, HONE.out.h5, HONE.out.h6, HONE.out.h7⟩, hs0, by show s1 ≤ 2000; omega, hal0, hal1, by show (sp1 ++ [0]).length ≤ 2000; simp; omega⟩ hwb hrbn hgb⟩
      · have hA1 := HA.out.alloc (.cells #[.int .i64 1021, .int .i64 1024, .int .i64 1025] 3)
        have hB1 := Blk.new W4 3 #[.int .i64 1021, .int .i64 1024, .int .i64 1025]
        have HA1 := Lib.hid hA1
        have HB1 := Lib.hid hB1
        clear hA1 hB1
        go_wp2_with fail
        refine (next_lt g ls _ 3 _ HA1.out.dice (by omega) (by omega)).mono ?_
        rintro e W5 ⟨r2, k5, rfl, hr2, hd5, hk5, hx5, hg5⟩
        clear hx5
        have hA5 := HA1.out.dices hd5 hk5 hg5 (by omega) hgr
        have hB5 := HB1.out.grown hg5 (fun e => by injection e with e; omega)
        have hl5 := hB5.lt
        obtain ⟨⟨d0, d1, d2, d3, d4, d5, d6, d7⟩, df⟩ := hA5.b3.eight
        have hv : ∃ v : Nat, W5.cell? ⟨W4.heap.size, r2, none⟩ = some (.int .i64 (v : Int)) ∧ v ≤ 1025 := by
          rw [hB5.cell]
          rcases (show r2 = 0 ∨ r2 = 1 ∨ r2 = 2 by omega) with rfl | rfl | rfl
          · exact ⟨1021, rfl, by omega⟩
          · exact ⟨1024, rfl, by omega⟩
          · exact ⟨1025, rfl, by omega⟩
        obtain ⟨v, hv0, hv1⟩ := hv
        have hmk := mk27 v (by omega) W5
        have hltb := hA5.b3.lt
        obtain ⟨S, hS⟩ : ∃ S, S = (((((((W5.setCell ⟨b3, 0, none⟩ (.int .i64 (v : Int))).setCell ⟨b3, 1, none⟩ (.int .i64 1)).setCell ⟨b3, 2, none⟩ (.slice (some ⟨W5.heap.size, 0, none⟩) v v)).setCell ⟨b3, 3, none⟩ (.slice none 0 0)).setCell ⟨b3, 4, none⟩ (.slice none 0 0)).setCell ⟨b3, 5, none⟩ (.slice none 0 0)).setCell ⟨b3, 6, none⟩ (.slice none 0 0)).setCell ⟨b3, 7, none⟩ (.bool false) := ⟨_, rfl⟩
        have HA5 := Lib.hid hA5
        have HS := Lib.hid hS
        clear hA5 hB5 hd5 hk5 hg5 HA1 HB1 hS
        go_wp2_with fail
        rw [← HS.out]
        go_meet
        have h8 : W5.grownBy S (some b3) := by rw [HS.out]; exact only8 W5 b3 (.int .i64 (v : Int)) (.int .i64 1) (.slice (some ⟨W5.heap.size, 0, none⟩) v v) (.slice none 0 0) (.slice none 0 0) (.slice none 0 0) (.slice none 0 0) (.bool false)
        have hsz : S.heap.size = W5.heap.size := by rw [HS.out]; exact size8 _ _ (.int .i64 (v : Int)) (.int .i64 1) (.slice (some ⟨W5.heap.size, 0, none⟩) v v) (.slice none 0 0) (.slice none 0 0) (.slice none 0 0) (.slice none 0 0) (.bool false)
        have hBS : Blk S b3 31 #[.int .i64 (v : Int), .int .i64 1, .slice (some ⟨W5.heap.size, 0, none⟩) v v, .slice none 0 0, .slice none 0 0, .slice none 0 0, .slice none 0 0, .bool false] := by rw [HS.out]; exact HA5.out.b3.set8 (.int .i64 (v : Int)) (.int .i64 1) (.slice (some ⟨W5.heap.size, 0, none⟩) v v) (.slice none 0 0) (.slice none 0 0) (.slice none 0 0) (.slice none 0 0) (.bool false)
        have hse : SlE (S.alloc (.cells (madeCells #[.int .u8 0] v) 5)) 5 (some ⟨W5.heap.size, 0, none⟩) ((List.replicate v (0 : UInt8)).map bv) := new_bytes hsz _ _ (by rw [toList_madeCells_one, List.map_replicate]; rfl)
        have hoa : OddAt g ls k w b3 rb k5 ⟨v, 1, some ⟨W5.heap.size, 0, none⟩, List.replicate v (0 : UInt8), v, .slice none 0 0, .slice none 0 0, .slice none 0 0, .slice none 0 0, .bool false⟩ (S.alloc (.cells (madeCells #[.int .u8 0] v) 5)) :=
          ⟨by rw [part_one_eta, List.length_replicate]; exact hBS.alloc _, (HA5.out.rb.grown h8 (fun e => by injection e with e; omega)).alloc _, ⟨hse, by simp, ⟨rfl, rfl, rfl, rfl, rfl⟩, by show (0 : Int) ≤ v; omega, by show (v : Int) ≤ 2000; omega, by show (-100 : Int) ≤ 1; omega, by show (1 : Int) ≤ 100; omega, by simp; omega⟩, (HA5.out.dice.far h8 (fun q hq => by injection hq with hq; omega)).alloc _, HA5.out.k, grown_alloc (grown_new HA5.out.grown h8 (fun q hq => by injection hq with hq; omega)) _⟩
        exact ⟨_, _, hoa⟩
  case rest =>
    obtain ⟨k9, ⟨s, al, A, sp, c, x3, x4, x5, x6, x7⟩, H⟩ := hcut
    obtain ⟨W, rfl⟩ : ∃ W : World, W = wc := ⟨_, rfl⟩
    obtain ⟨⟨c0, c1', c2, c3, c4, c5, c6, c7⟩, cf⟩ := H.b3.eight
    obtain ⟨⟨r0, r1, r2, r3, r4, r5, r6, r7⟩, rf⟩ := H.rb.eight
    have hone := H.odd.one
    have sx3 := store_var (P := Try.prog) hone.h3
    have sx4 := store_var (P := Try.prog) hone.h4
    have sx5 := store_var (P := Try.prog) hone.h5
    have sx6 := store_var (P := Try.prog) hone.h6
    have sx7 := store_var (P := Try.prog) hone.h7
    have hl3 := H.b3.lt
    have hlr := H.rb.lt
    obtain ⟨S, hS⟩ : ∃ S, S = (((((((W.setCell ⟨rb, 0, none⟩ (.int .i64 s)).setCell ⟨rb, 1, none⟩ (.int .i64 al)).setCell ⟨rb, 2, none⟩ (.slice A sp.length c)).setCell ⟨rb, 3, none⟩ x3).setCell ⟨rb, 4, none⟩ x4).setCell ⟨rb, 5, none⟩ x5).setCell ⟨rb, 6, none⟩ x6).setCell ⟨rb, 7, none⟩ x7 := ⟨_, rfl⟩
    have h8 : W.grownBy S (some rb) := by rw [hS]; exact only8 W rb _ _ _ _ _ _ _ _
    have hBS : Blk S rb 31 #[.int .i64 s, .int .i64 al, .slice A sp.length c, x3, x4, x5, x6, x7] := by rw [hS]; exact H.rb.set8 _ _ _ _ _ _ _ _
    have hX : OddPost g ls k w (.returned (⟨s, al, A, sp, c, x3, x4, x5, x6, x7⟩ : Part).val) S := ⟨_, k9, rfl, H.odd.grown h8 H.rb (by decide), H.dice.far h8 (fun q hq => by injection hq with hq; omega), H.k, grown_new H.grown h8 (fun q hq => by injection hq with hq; omega)⟩
    have HX := Lib.hid hX
    have HBS := Lib.hid hBS
    have HS := Lib.hid hS
    clear hS h8 hBS hX H hone H3
    go_wp2
    rw [← HS.out]
    refine bodyPost_odd HBS.out HX.out ?_
    intro W9 hblkW hX
    obtain ⟨⟨c0, c1, c2, c3, c4, c5, c6, c7⟩, _⟩ := hblkW.eight
    exact bodyPost_ret (v := (⟨s, al, A, sp, c, x3, x4, x5, x6, x7⟩ : Part).val) (by simp [results, Try.results23, go_sem, Part.val, c0, c1, c2, c3, c4, c5, c6, c7]) rfl hX
end Go.Proofs.Ytamhigknobdloaa
