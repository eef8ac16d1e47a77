/- The walk of the sanity check of layer 17; no condition. -/
import Derived.Test.YtamhigknobdloaaSo
namespace Go.Proofs.Ytamhigknobdloaa
open Go.RowKit
set_option linter.unusedVariables false

def pe : Part := ⟨0, 1, none, [], 0, .slice none 0 0, .slice none 0 0, .slice none 0 0, .slice none 0 0, .bool false⟩
theorem aw17a (a : Option Addr) : unionR (inside [p1 a, pe] [false, false]) 2 = some ⟨1, 1, [252], [1]⟩ := by kernel_rfl
theorem aw17b (a : Option Addr) : unionR (inside [p8 a, pe] [false, false]) 2 = some ⟨9, 8, [0, 0, 0, 0, 0, 0, 0, 0, 254], [64]⟩ := by kernel_rfl
theorem aw17c (a : Option Addr) : sumE [p1 a, pe] 2 [false, false] = 0 := by kernel_rfl
theorem aw17d (a : Option Addr) : sumE [p8 a, pe] 2 [false, false] = 0 := by kernel_rfl
theorem aw17i (a : Option Addr) : unInj (inside [p1 a, pe] [false, false]) ⟨1, 1, [252], [1]⟩ 1 [] = (0, [2]) := by kernel_rfl
theorem noOffs (w : World) : ∃ Ao co, (Value.slice none 0 0) = .slice Ao ([] : List Int).length co ∧ Sl w Ao (([] : List Int).map iv) ∧ ([] : List Int).length ≤ 1000000 := ⟨none, 0, rfl, .inl rfl, by decide⟩
theorem SlE.head {w : World} {e : TypeId} {A : Option Addr} {x : Value} {xs : List Value} (h : SlE w e A (x :: xs)) : ∃ b off, A = some ⟨b, off, none⟩ ∧ w.cell? ⟨b, off, none⟩ = some x := by
  obtain ⟨b, off, hA, hc⟩ := h.sl.at_ (k := 0) (by simp)
  exact ⟨b, off, hA, by simpa using hc⟩
theorem gen_world {P : Program} {c : Code} {Q : Exit → Act → World → Prop} {a : Act} {w : World} (F : World → Prop) (h : F w) (k : ∀ W, F W → c.wp P Q a W) : c.wp P Q a w := k w h
set_option maxHeartbeats 3200000 in
set_option maxRecDepth 100000 in
theorem awake17 (w : World) : Calls Try.prog 55 #[] w fun e w' => e = .returned (.bool true) ∧ Below w.heap.size w w' := by
  have hmk := mk8
  go_enter Try.func55, Try.ntmps55
  go_upto_region 4 with fail
  refine gen_world (fun W => Blk W (w.heap.size + 1) 31 #[.int .i64 1, .int .i64 1, .slice (some ⟨w.heap.size, 0, none⟩) 1 1, .slice none 0 0, .slice none 0 0, .slice none 0 0, .slice none 0 0, .bool false] ∧ Blk W (w.heap.size + 1 + 1 + 1) 31 #[.int .i64 8, .int .i64 8, .slice (some ⟨w.heap.size + 1 + 1, 0, none⟩) 8 8, .slice none 0 0, .slice none 0 0, .slice none 0 0, .slice none 0 0, .bool false] ∧ Blk W (w.heap.size + 1 + 1 + 1 + 1) 31 #[.int .i64 0, .int .i64 1, .slice none 0 0, .slice none 0 0, .slice none 0 0, .slice none 0 0, .slice none 0 0, .bool false] ∧ Blk W w.heap.size 5 #[.int .u8 254] ∧ Blk W (w.heap.size + 1 + 1) 5 #[.int .u8 0, .int .u8 0, .int .u8 0, .int .u8 0, .int .u8 0, .int .u8 0, .int .u8 0, .int .u8 0] ∧ Below w.heap.size w W) ⟨by repeat (first | exact Blk.new' (by simp) | refine Blk.alloc ?_ _), by repeat (first | exact Blk.new' (by simp) | refine Blk.alloc ?_ _), by repeat (first | exact Blk.new' (by simp) | refine Blk.alloc ?_ _), by repeat (first | exact Blk.new' (by simp) | refine Blk.alloc ?_ _), by repeat (first | exact Blk.new' (by simp) | refine Blk.alloc ?_ _), by repeat (first | exact Below.refl _ _ | refine Below.alloc ?_ (by simp <;> omega) _)⟩ ?_
  intro wx ⟨B1, B2, B3, C1, C2, hb⟩
  clear hmk
  generalize w.heap.size + 1 + 1 + 1 + 1 = g3 at *
  generalize w.heap.size + 1 + 1 + 1 = g2 at *
  generalize w.heap.size + 1 + 1 = b2 at *
  generalize w.heap.size + 1 = g1 at *
  obtain ⟨b1, hb1⟩ : ∃ b1, b1 = w.heap.size := ⟨_, rfl⟩
  rw [← hb1] at B1 C1
  have hu2 := fun (wx : World) (p : Part) (h : Sl wx p.A (p.sp.map bv)) (ho : p.one) (h3 : p.x3 = .slice none 0 0) => union2 p pe [] [] ⟨#[115, 111, 109, 101]⟩ ⟨#[110, 111, 110, 101]⟩ false false wx h (.inl rfl) ho ⟨rfl, rfl, rfl, rfl, rfl⟩ (by rw [h3]; exact noOffs _) (noOffs _)
  have X1 := hu2 wx (p1 (some ⟨b1, 0, none⟩)) (blk_sl C1 rfl) ⟨rfl, rfl, rfl, rfl, rfl⟩ rfl
  obtain ⟨⟨a0, a1, a2, a3, a4, a5, a6, a7⟩, af⟩ := B1.eight
  obtain ⟨⟨d0, d1, d2, d3, d4, d5, d6, d7⟩, df⟩ := B3.eight
  have hbw := w57_below wx (p1 (some ⟨b1, 0, none⟩)) pe ⟨#[115, 111, 109, 101]⟩ ⟨#[110, 111, 110, 101]⟩ false false
  have HX1 := Lib.hid X1
  have HU2 := Lib.hid hu2
  have HB1 := Lib.hid hb1
  have HB := Lib.hid hb
  have HBW := Lib.hid hbw
  have HBB := Lib.hid (And.intro B2 (And.intro B3 C2))
  clear X1 hu2 hb1 hb hbw B1 B2 B3 C1 C2
  go_wp2_with fail
  rw [← HB1.out]
  refine HX1.out.mono ?_
  intro e w5 h5
  obtain ⟨As, cs, Ac, cc, Az, cz, qs, he, hat, hb5⟩ := h5.yes (aw17c _) (aw17a _)
  have he' : e = .returned (.tuple #[.agg #[.int .i64 1, .int .i64 1, .slice As 1 cs, .slice none 0 0, .slice none 0 0, .slice Ac 2 cc, .slice Az 1 cz, .bool false], .int .i64 0]) := he
  subst he'
  have b5 := below_next HBW.out hb5
  have b6 : Below wx.heap.size wx (w5.alloc (.cells #[.int .i64 1, .int .i64 1, .slice As 1 cs, .slice none 0 0, .slice none 0 0, .slice Ac 2 cc, .slice Az 1 cz, .bool false] 31)) := b5.alloc b5.size _
  have hX := Blk.new w5 31 #[.int .i64 1, .int .i64 1, .slice As 1 cs, .slice none 0 0, .slice none 0 0, .slice Ac 2 cc, .slice Az 1 cz, .bool false]
  obtain ⟨B2, B3, C2⟩ := HBB.out
  obtain ⟨⟨p0, p1', p2, p3, p4, p5, p6, p7⟩, pf⟩ := (B2.below b6).eight
  obtain ⟨⟨r0, r1, r2, r3, r4, r5, r6, r7⟩, rf_⟩ := (B3.below b6).eight
  have X2 := HU2.out _ (p8 (some ⟨b2, 0, none⟩)) (blk_sl (C2.below b6) rfl) ⟨rfl, rfl, rfl, rfl, rfl⟩ rfl
  rw [show (w5.alloc (.cells #[.int .i64 1, .int .i64 1, .slice As 1 cs, .slice none 0 0, .slice none 0 0, .slice Ac 2 cc, .slice Az 1 cz, .bool false] 31)).heap.size = w5.heap.size + 1 by simp] at X2
  have hbw2 := w57_below (w5.alloc (.cells #[.int .i64 1, .int .i64 1, .slice As 1 cs, .slice none 0 0, .slice none 0 0, .slice Ac 2 cc, .slice Az 1 cz, .bool false] 31)) (p8 (some ⟨b2, 0, none⟩)) pe ⟨#[115, 111, 109, 101]⟩ ⟨#[110, 111, 110, 101]⟩ false false
  have HX2 := Lib.hid X2
  have HB6 := Lib.hid (below_next HB.out b6)
  have HBW2 := Lib.hid hbw2
  have HAT := Lib.hid hat
  have HX := Lib.hid hX
  clear he h5 hat hb5 b5 b6 hX B2 B3 C2 X2 hbw2 HX1 HU2 HBW HBB a0 a1 a2 a3 a4 a5 a6 a7 af d0 d1 d2 d3 d4 d5 d6 d7 df
  go_wp2_with fail
  refine HX2.out.mono ?_
  intro e w7 h7
  obtain ⟨Bs, ds, Bc, dc, Bz, dz, rs, he, hat2, hb7⟩ := h7.yes (aw17d _) (aw17b _)
  have he' : e = .returned (.tuple #[.agg #[.int .i64 9, .int .i64 8, .slice Bs 9 ds, .slice none 0 0, .slice none 0 0, .slice Bc 2 dc, .slice Bz 1 dz, .bool false], .int .i64 0]) := he
  subst he'
  have b7 := below_next HBW2.out hb7
  have b8 := b7.alloc b7.size (.cells #[.int .i64 9, .int .i64 8, .slice Bs 9 ds, .slice none 0 0, .slice none 0 0, .slice Bc 2 dc, .slice Bz 1 dz, .bool false] 31)
  have b9 := below_next ((Below.refl w5.heap.size w5).alloc (Nat.le_refl _) (.cells #[.int .i64 1, .int .i64 1, .slice As 1 cs, .slice none 0 0, .slice none 0 0, .slice Ac 2 cc, .slice Az 1 cz, .bool false] 31)) b8
  have hX8 := HX.out.below b8
  have hY8 := Blk.new w7 31 #[.int .i64 9, .int .i64 8, .slice Bs 9 ds, .slice none 0 0, .slice none 0 0, .slice Bc 2 dc, .slice Bz 1 dz, .bool false]
  have hL : LayOf w5 (unP ⟨1, 1, [252], [1]⟩ 2 As cs Ac cc Az cz) qs [1] := HAT.out.layOf (k := 1) ⟨by decide, by decide, .inl rfl, rfl, rfl, by decide⟩ (by decide) (HAT.out.cases_s rfl rfl rfl rfl (by
    intro p hp
    simp only [List.mem_cons, List.not_mem_nil, or_false] at hp
    rcases hp with rfl | rfl <;> rfl))
  have hinj := inj_any (unP ⟨1, 1, [252], [1]⟩ 2 As cs Ac cc Az cz) qs [1] 1 none 0 0 [] _ (hL.below b9) rfl Sl.nil (by decide) (by decide) (by show 1 ≤ 1000000; omega) (by decide) (by decide) (by decide)
  have hir := (HAT.out.injR rfl rfl rfl rfl 1 []).trans (aw17i _)
  have hir' : injR (unP ⟨1, 1, [252], [1]⟩ 2 As cs Ac cc Az cz) qs [1] 1 [] = (0, [2]) := hir
  rw [hir'] at hinj
  obtain ⟨⟨p0', p1'', p2', p3', p4', p5', p6', p7'⟩, pf'⟩ := hX8.eight
  have HINJ := Lib.hid hinj
  have HB8 := Lib.hid (below_next HB6.out b8)
  have HB9 := Lib.hid b9
  have HAT2 := Lib.hid hat2
  have HX8 := Lib.hid hX8
  have HY8 := Lib.hid hY8
  clear he h7 hat2 hb7 b7 b8 b9 hL hinj hir hir' hX8 hY8 HX2 HX HBW2 HB6 p0 p1' p2 p3 p4 p5 p6 p7 pf r0 r1 r2 r3 r4 r5 r6 r7 rf_
  go_wp2_with fail
  refine HINJ.out.mono ?_
  rintro e w9 ⟨hb9, A9, c9, he, hz9, hcap9⟩
  have he' : e = .returned (.tuple #[.slice A9 1 c9, .int .i64 0]) := he
  subst he'
  obtain ⟨zb, zo, rfl, hz⟩ := SlE.head hz9
  have ht := (HAT.out.tags.below HB9.out).below hb9
  obtain ⟨tb, to_, rfl, ht'⟩ := SlE.head ht
  have ht2 := (HAT2.out.tags.below ((Below.refl _ _).alloc (Nat.le_refl _) _)).below hb9
  obtain ⟨ub, uo, rfl, ht2'⟩ := SlE.head ht2
  have hs9 := ((HAT.out.sp.below HB9.out).below hb9).sl
  have hX9 := HX8.out.below hb9
  have hY9 := HY8.out.below hb9
  have cv1 := run_convb (P := Try.prog) w9 27 9 5 As 1 cs [252] Try.underlying27 Try.underlying5 Try.underlying9 hs9 rfl
  have cv2 := run_convb (P := Try.prog) (w9.alloc (.cells #[.int .u8 252] 5)) 27 9 5 (some ⟨w9.heap.size, 0, none⟩) 1 1 [252] Try.underlying27 Try.underlying5 Try.underlying9 (Sl.new w9 #[.int .u8 252] 5) rfl
  clear p0' p1'' p2' p3' p4' p5' p6' p7' pf'
  obtain ⟨⟨x0, x1, x2, x3, x4, x5, x6, x7⟩, xf⟩ := hX9.eight
  obtain ⟨⟨y0, y1, y2, y3, y4, y5, y6, y7⟩, yf⟩ := hY9.eight
  have hlz : zb < w9.heap.size := World.block_lt_of_cell? w9 _ hz
  have hlt : tb < w9.heap.size := World.block_lt_of_cell? w9 _ ht'
  have hlu : ub < w9.heap.size := World.block_lt_of_cell? w9 _ ht2'
  have hlY : w7.heap.size < w9.heap.size := hY9.lt
  have hnz : ¬ w9.heap.size = zb := by omega
  have hnu : ¬ w9.heap.size = ub := by omega
  have hnY : ¬ w9.heap.size = w7.heap.size := by omega
  have HB10 := Lib.hid (below_next HB8.out hb9)
  clear he hz9 ht ht2 hs9 hX9 hY9 hb9 HINJ HB8 HB9 HAT2 HX8 HY8 HAT
  have ht3 : w9.cell? ⟨tb, to_, none⟩ = some (.int .i64 1) := ht'
  have ht4 : w9.cell? ⟨ub, uo, none⟩ = some (.int .i64 64) := ht2'
  have hz3 : w9.cell? ⟨zb, zo, none⟩ = some (.int .u8 2) := hz
  clear ht' ht2' hz
  go_wp2
  go_ret
  exact ⟨rfl, HB10.out.alloc HB10.out.size _⟩
end Go.Proofs.Ytamhigknobdloaa
