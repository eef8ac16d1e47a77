/- The walk of the law SumSizes; no condition but that the numbers are readable. -/
import Derived.Test.YtamhigknobdloaaSw
import Derived.Test.YtamhigknobdloaaPn
import Derived.Outline
namespace Go.Proofs.Ytamhigknobdloaa
open Go.RowKit
set_option linter.unusedVariables false

theorem RowsC.lay {W w : World} {gd : Nat} {ls : List Int} {A7 A8 A9 : Option Addr} {n c7 c8 c9 : Nat} {ps : List Part} {nms : List ByteArray} {bs : List Bool} (h : RowsC W gd ls (.slice A7 n c7) ps (.slice A8 n c8) nms (.slice A9 n c9) bs w) (hn : ps.length = n) (hl : n ≤ 1000) :
    ∃ fs : List (List Int), fs.length = n ∧ Calls Try.prog 57 #[.slice A7 n c7, .slice A8 n c8, .slice A9 n c9] w (SumOut ps nms bs fs w) := by
  obtain ⟨fs, hfl, hfs⟩ := list_of (P := fun i f => ∀ (h1 : i < ps.length), ∃ Ao co, ps[i].x3 = .slice Ao (f : List Int).length co ∧ Sl w Ao (f.map iv) ∧ f.length ≤ 1000000) n (fun i hi => by
    obtain ⟨Ao, ofs, co, e, s, l1, l2⟩ := (h.laid ps[i] (List.getElem_mem (by omega))).of
    exact ⟨ofs, fun _ => ⟨Ao, co, e, s.sl, by omega⟩⟩)
  have o7 := h.own7
  have o8 := h.own8
  have o9 := h.own9
  rw [hn] at o7 o8 o9
  exact ⟨fs, hfl, sumlay_any A7 n c7 ps A8 n c8 nms A9 n c9 bs fs w hn (by rw [h.ln, hn]) (by rw [h.lb, hn]) hfl (parts_own o7) (Sl.of_own o8) (Sl.of_own o9) hl (fun p hp => (h.laid p hp).sp.sl) (fun p hp => (h.laid p hp).one) (fun i h1 h2 => hfs i h2 h1)⟩
theorem sumE_vals (ps : List Part) (nn : Nat) (bs : List Bool) : sumE ps nn bs = 0 ∨ sumE ps nn bs = 4 ∨ sumE ps nn bs = 19 := by
  unfold sumE
  split
  · exact .inr (.inr rfl)
  · split
    · exact .inr (.inl rfl)
    · split
      · exact .inr (.inl rfl)
      · exact .inl rfl
theorem inside_take (ps : List Part) (bs : List Bool) (k : Nat) (h1 : k < ps.length) (h2 : k < bs.length) : (inside ps bs).take (k + 1) = (inside ps bs).take k ++ [insideP ps[k] bs[k]] := by
  rw [List.take_add_one, inside_get ps bs k h1 h2]; rfl

theorem inside_len (ps : List Part) (bs : List Bool) (h : bs.length = ps.length) : (inside ps bs).length = ps.length := by
  unfold inside; rw [List.length_zipWith, h, Nat.min_self]
theorem sizeP_bounds (ts : List Part) (hv : ∀ t ∈ ts, t.valid = true) : 0 ≤ sizeP ts ∧ sizeP ts ≤ 1024 := by
  have := foldl_max_le Part.s ts 0 1024 (by omega) (fun t ht => ((valid_iff t).1 (hv t ht)).2.1)
  exact ⟨this.2, this.1⟩
/-- The bit i of what lies inside does not spoil it. -/
def spareAt (i : Nat) (t : Part) : Bool := !(decide (0 < t.s) && decide ((i : Int) / 8 < t.s) && !bitN t.sp i)
theorem allSpare_def (ts : List Part) (i : Nat) : allSpare ts i = ts.all (spareAt i) := rfl
theorem spareAt_key {p q : Part} (h : p.key = q.key) (i : Nat) : spareAt i p = spareAt i q := by
  obtain ⟨h1, _, h3⟩ := key_inj h
  unfold spareAt; rw [h1, h3]
theorem filter_range (f : Nat → Bool) (i : Nat) : ((List.range (i + 1)).filter f).length = ((List.range i).filter f).length + if f i then 1 else 0 := by
  rw [List.range_succ, List.filter_append, List.length_append]
  cases h : f i <;> simp [h]
theorem bit_no (b : UInt8) (k : Nat) : (bits .and .u8 ((b.toNat : Int) / 2 ^ k) 1 == 0) = !b.toNat.testBit k := by
  rw [bit_val]; cases b.toNat.testBit k <;> rfl

set_option maxHeartbeats 3200000 in
set_option maxRecDepth 100000 in
theorem sumsizes_walk (A : Option Addr) (n c : Nat) (ls : List Int) (w : World) (hn : ls.length = n) (hs : Sl w A (ls.map iv)) (hn63 : n ≤ 9223372036854775807) (hib : IB ls) :
    Calls Try.prog 12 #[.slice A n c] w fun e w' => e = .returned (.bool true) ∧ Below w.heap.size w w' := by
  have HIB := Lib.hid hib
  have HN := Lib.hid hn
  clear hib hn
  by_cases hl : n ≤ 700
  · have hl' : decide (n ≤ 700) = true := by simpa using hl
    go_enter Try.func12, Try.ntmps12
    go_wp2_with fail
    refine (light_any _ _ _ _).mono ?_
    rw [hl']
    rintro e w1 ⟨rfl, rfl⟩
    go_wp2_with fail
    refine (roll_any _ _ _ ls _ HN.out hs hl HIB.out).mono ?_
    rintro e W ⟨rfl, hd1, hbW⟩
    obtain ⟨gd, hgd⟩ : ∃ gd, gd = w.heap.size := ⟨_, rfl⟩
    rw [← hgd] at hd1 ⊢
    have HGD := Lib.hid hgd
    have HBW := Lib.hid hbW
    clear hgd hbW hl' hs
    go_wp2_with fail
    refine (cases_even gd ls 0 _ hd1).mono ?_
    rintro e w2 ⟨ps, nms, bs, A7, A8, A9, c7, c8, c9, rfl, hp5, HR⟩
    have hb2 : Below w.heap.size w w2 := HBW.out.grown HR.grown HBW.out.size (fun q hq => by injection hq with hq; rw [← hq, HGD.out]; exact Nat.le_refl _)
    obtain ⟨fs, hfl, hlay⟩ := HR.lay rfl (by omega)
    obtain ⟨m, hm⟩ : ∃ m, m = ps.length := ⟨_, rfl⟩
    rw [← hm] at hlay HR hfl hp5 ⊢
    have HM := Lib.hid hm
    have HLAY := Lib.hid hlay
    have HFL := Lib.hid hfl
    have HRR := Lib.hid HR
    have HB2 := Lib.hid hb2
    clear hm hlay hfl HR hb2 hd1
    go_wp2_with fail
    refine HLAY.out.mono ?_
    intro e w3 h3
    have hb3 := h3.1
    rcases sumE_vals ps nms.length bs with hE | hE | hE
    case' inl =>
      obtain ⟨_, ⟨hne, _⟩ | ⟨_, _, _, h12, hval, u, As, cs, Ac, cc, Az, cz, qs, hu, he, hat⟩⟩ := h3
      · exact absurd hE hne
      have he' : e = .returned (.tuple #[.agg #[.int .i64 u.s, .int .i64 u.al, .slice As u.sp.length cs, .slice none 0 0, .slice none 0 0, .slice Ac ps.length cc, .slice Az u.tags.length cz, .bool false], .int .i64 0]) := he
      subst he'
      obtain ⟨W4, hW4⟩ : ∃ W4, W4 = w3.alloc (.cells #[.int .i64 u.s, .int .i64 u.al, .slice As u.sp.length cs, .slice none 0 0, .slice none 0 0, .slice Ac ps.length cc, .slice Az u.tags.length cz, .bool false] 31) := ⟨_, rfl⟩
      have b34 : Below w3.heap.size w3 W4 := by rw [hW4]; exact (Below.refl _ _).alloc (Nat.le_refl _) _
      have hX : Blk W4 w3.heap.size 31 #[.int .i64 u.s, .int .i64 u.al, .slice As u.sp.length cs, .slice none 0 0, .slice none 0 0, .slice Ac ps.length cc, .slice Az u.tags.length cz, .bool false] := by rw [hW4]; exact Blk.new _ _ _
      have hPa : Parts W4 A7 ps := by have h := HRR.out.own7; rw [← HM.out] at h; exact (parts_own h).below (below_next hb3 b34)
      have hBo : Sl W4 A9 (bs.map Value.bool) := by have h := HRR.out.own9; rw [← HM.out] at h; exact (Sl.of_own h).below (below_next hb3 b34)
      have hLa : ∀ p ∈ ps, LaidAt W4 p := fun p hp => (HRR.out.laid p hp).keeps (Keep.below (below_next hb3 b34)) (Keep.below (below_next hb3 b34))
      have hSpu : SlE W4 5 As (u.sp.map bv) := hat.sp.below b34
      have hbl : bs.length = m := by rw [HRR.out.lb, HM.out]
      have hbr := Below.refl W4.heap.size W4
      have HW4 := Lib.hid hW4
      have HX := Lib.hid hX
      have HPA := Lib.hid hPa
      have HBO := Lib.hid hBo
      have HLA := Lib.hid hLa
      have HSPU := Lib.hid hSpu
      have HBL := Lib.hid hbl
      have HU := Lib.hid hu
      have HVAL := Lib.hid hval
      have HB4 := Lib.hid (below_next (below_next HB2.out hb3) b34)
      have hXlt : w3.heap.size < W4.heap.size := hX.lt
      have H12 := Lib.hid h12
      clear h12 hW4 b34 hX hPa hBo hLa hSpu hbl hu hval he hat hb3 hE HRR HLAY
      go_wp2_with fail
      rw [← HW4.out]
      go_loopw [9, 10, 54] (fun v9 v10 v54 wr => ∃ (k : Nat) (b : Bool), k ≤ m ∧ v54 = .int .i64 k ∧ v9 = .int .i64 (sizeP ((inside ps bs).take k)) ∧ v10 = .bool b ∧ Hid (b = ((inside ps bs).take k).any (fun t => decide (0 < t.s))) ∧ Below W4.heap.size W4 wr) (fun _ _ v54 _ => m - (intOf v54).toNat)
      case atStart => exact ⟨0, false, by omega, rfl, rfl, rfl, (rfl : _ = _), hbr⟩
      case round =>
        obtain ⟨k, b, hk, rfl, rfl, rfl, hb, hbel⟩ := hrel
        clear hbr
        by_cases hlt : k < m
        · have hkp : k < ps.length := by rw [← HM.out]; exact hlt
          have hkb : k < bs.length := by rw [HBL.out]; exact hlt
          obtain ⟨gb, off, rfl, q0, q1, q2, q3, q4, q5, q6, q7⟩ := (HPA.out.below hbel).get hkp
          obtain ⟨gi, offi, rfl, ci⟩ := Sl.at_ (HBO.out.below hbel) (k := k) (by simpa using hkb)
          rw [List.getElem_map] at ci
          have hgi : gi < wr.heap.size := World.block_lt_of_cell? wr _ ci
          have hgi2 : ¬ wr.heap.size = gi := by omega
          have htk := inside_take ps bs k hkp hkb
          have hone := (HLA.out ps[k] (List.getElem_mem hkp)).one
          have sx3 := store_var (P := Try.prog) hone.h3
          have sx4 := store_var (P := Try.prog) hone.h4
          have sx5 := store_var (P := Try.prog) hone.h5
          have sx6 := store_var (P := Try.prog) hone.h6
          have sx7 := store_var (P := Try.prog) hone.h7
          have hsn := sizeP_snoc ((inside ps bs).take k) (insideP ps[k] bs[k])
          rw [← htk] at hsn
          have han : ((inside ps bs).take (k + 1)).any (fun t => decide (0 < t.s)) = (((inside ps bs).take k).any (fun t => decide (0 < t.s)) || decide (0 < (insideP ps[k] bs[k]).s)) := by rw [htk, List.any_append]; simp
          rw [← hb.out] at han
          have hk0 : (0 : Int) ≤ (k : Int) := Int.natCast_nonneg _
          have hk1 : (k : Int) < (m : Int) := by omega
          have hbe := hbel.alloc hbel.size (.cells #[.int .i64 ps[k].s, .int .i64 ps[k].al, .slice ps[k].A ps[k].sp.length ps[k].c, ps[k].x3, ps[k].x4, ps[k].x5, ps[k].x6, ps[k].x7] 31)
          generalize ps[k] = p at *
          generalize bs[k] = bb at *
          generalize sizeP ((inside ps bs).take k) = sz at *
          have HSN := Lib.hid hsn
          have HAN := Lib.hid han
          have HBE := Lib.hid hbe
          clear hsn han hbe htk hbel hone hb
          cases bb with
          | true =>
            have e8 : (insideP p true).s = 8 := rfl
            have HE8 := Lib.hid e8
            clear e8
            cases b
            all_goals
              go_wp2_with fail
              go_roundw
              case rel => exact ⟨k + 1, true, by omega, by go_num, by rw [HSN.out, HE8.out]; first | rfl | go_num | (congr 1; split <;> omega), rfl, by show _ = _; rw [HAN.out, HE8.out]; rfl, HBE.out⟩
              case measure => simp [intOf]; omega
          | false =>
            have e8 : (insideP p false).s = p.s := rfl
            have HE8 := Lib.hid e8
            clear e8
            by_cases hps : 0 < p.s
            · have hd : decide (0 < p.s) = true := by simpa using hps
              cases b
              all_goals
                go_wp2_with fail
                go_roundw
                case rel => exact ⟨k + 1, true, by omega, by go_num, by rw [HSN.out, HE8.out]; first | rfl | go_num | (congr 1; split <;> omega), rfl, by show _ = _; rw [HAN.out, HE8.out, hd]; rfl, HBE.out⟩
                case measure => simp [intOf]; omega
            · have hd : decide (0 < p.s) = false := by simpa using hps
              cases b
              all_goals
                go_wp2_with fail
                go_roundw
                case rel => exact ⟨k + 1, _, by omega, by go_num, by rw [HSN.out, HE8.out]; first | rfl | go_num | (congr 1; split <;> omega), rfl, by show _ = _; rw [HAN.out, HE8.out, hd]; rfl, HBE.out⟩
                case measure => simp [intOf]; omega
        · obtain rfl : m = k := by omega
          have hil := inside_len ps bs (by rw [HBL.out, HM.out])
          have htk : (inside ps bs).take m = inside ps bs := List.take_of_length_le (by rw [hil, ← HM.out]; exact Nat.le_refl _)
          rw [htk] at hb
          rw [htk]
          have hiv := inside_valid (bs := bs) HVAL.out
          obtain ⟨hz0, hz1⟩ := sizeP_bounds _ hiv
          obtain ⟨S, hS⟩ : ∃ S : Nat, sizeP (inside ps bs) = S := ⟨(sizeP (inside ps bs)).toNat, by omega⟩
          have hS1 : S ≤ 1024 := by omega
          rw [hS]
          have HS := Lib.hid hS
          have HIL := Lib.hid hil
          have HB := Lib.hid hb
          have HBE := Lib.hid hbel
          obtain ⟨V, hV⟩ : ∃ V, V = wr := ⟨_, rfl⟩
          rw [← hV]
          have HBV := Lib.hid (show Below W4.heap.size W4 V by rw [hV]; exact hbel)
          clear hS hil htk hb hbel hz0 hz1 hV HBE
          go_wp2_with fail
          go_loopw [14, 15] (fun v14 v15 wq => ∃ i : Nat, i ≤ 8 * S ∧ v15 = .int .i64 i ∧ v14 = .int .i64 (((List.range i).filter (allSpare (inside ps bs))).length : Nat) ∧ Below W4.heap.size W4 wq) (fun _ v15 _ => 8 * S - (intOf v15).toNat)
          case atStart => exact ⟨0, by omega, rfl, rfl, HBV.out⟩
          case round =>
            obtain ⟨i, hi, rfl, rfl, hbo⟩ := hrel
            have hcl : ((List.range i).filter (allSpare (inside ps bs))).length ≤ i := by
              have := List.length_filter_le (allSpare (inside ps bs)) (List.range i)
              rwa [List.length_range] at this
            have hfr := filter_range (allSpare (inside ps bs)) i
            generalize hcnt : ((List.range i).filter (allSpare (inside ps bs))).length = cnt at *
            have HCNT := Lib.hid hcnt
            clear hcnt
            by_cases hlt2 : i < 8 * S
            · have HBO2 := Lib.hid hbo
              have HFR := Lib.hid hfr
              clear hbo hfr
              have hltI : decide ((i : Int) < 8 * (S : Int)) = true := by simp; omega
              go_wp2_with fail
              have HCL := Lib.hid hcl
              go_loopw [16, 82] (fun v16 v82 wr => ∃ (k : Nat) (b : Bool), k ≤ m ∧ v82 = .int .i64 k ∧ v16 = .bool b ∧ Hid (b = ((inside ps bs).take k).all (spareAt i)) ∧ Below W4.heap.size W4 wr) (fun _ v82 _ => m - (intOf v82).toNat)
              case atStart => exact ⟨0, true, by omega, rfl, rfl, (rfl : _ = _), HBO2.out⟩
              case round =>
                clear hcl
                obtain ⟨k, b16, hk, rfl, rfl, hb16, hbel⟩ := hrel
                by_cases hlt : k < m
                · have hkp : k < ps.length := by rw [← HM.out]; exact hlt
                  have hkb : k < bs.length := by rw [HBL.out]; exact hlt
                  obtain ⟨gb, off, rfl, q0, q1, q2, q3, q4, q5, q6, q7⟩ := (HPA.out.below hbel).get hkp
                  obtain ⟨gi, offi, rfl, ci⟩ := Sl.at_ (HBO.out.below hbel) (k := k) (by simpa using hkb)
                  rw [List.getElem_map] at ci
                  have hgi : gi < wr.heap.size := World.block_lt_of_cell? wr _ ci
                  have hgi2 : ¬ wr.heap.size = gi := by omega
                  have htk := inside_take ps bs k hkp hkb
                  have hld := HLA.out ps[k] (List.getElem_mem hkp)
                  have hone := hld.one
                  have sx3 := store_var (P := Try.prog) hone.h3
                  have sx4 := store_var (P := Try.prog) hone.h4
                  have sx5 := store_var (P := Try.prog) hone.h5
                  have sx6 := store_var (P := Try.prog) hone.h6
                  have sx7 := store_var (P := Try.prog) hone.h7
                  have han : ((inside ps bs).take (k + 1)).all (spareAt i) = (((inside ps bs).take k).all (spareAt i) && spareAt i (insideP ps[k] bs[k])) := by rw [htk, List.all_append]; simp
                  rw [← hb16.out] at han
                  have hk0 : (0 : Int) ≤ (k : Int) := Int.natCast_nonneg _
                  have hk1 : (k : Int) < (m : Int) := by omega
                  have hbe := hbel.alloc hbel.size (.cells #[.int .i64 ps[k].s, .int .i64 ps[k].al, .slice ps[k].A ps[k].sp.length ps[k].c, ps[k].x3, ps[k].x4, ps[k].x5, ps[k].x6, ps[k].x7] 31)
                  have hbx := Blk.new wr 31 #[.int .i64 ps[k].s, .int .i64 ps[k].al, .slice ps[k].A ps[k].sp.length ps[k].c, ps[k].x3, ps[k].x4, ps[k].x5, ps[k].x6, ps[k].x7]
                  have hsp : SlE (wr.alloc (.cells #[.int .i64 ps[k].s, .int .i64 ps[k].al, .slice ps[k].A ps[k].sp.length ps[k].c, ps[k].x3, ps[k].x4, ps[k].x5, ps[k].x6, ps[k].x7] 31)) 5 ps[k].A (ps[k].sp.map bv) := (hld.sp.below hbel).below (Below.alloc (Below.refl _ _) (Nat.le_refl _) _)
                  have hval := hld.valid
                  generalize ps[k] = p at *
                  generalize bs[k] = bb at *
                  have HAN := Lib.hid han
                  have hwl := hbel.size
                  clear htk hbel hb16 hld han
                  cases bb
                  case' false =>
                    obtain ⟨T, hT⟩ : ∃ T : Part, T = p := ⟨_, rfl⟩
                    obtain ⟨S9, hS9⟩ : ∃ S9, S9 = wr.alloc (.cells #[.int .i64 p.s, .int .i64 p.al, .slice p.A p.sp.length p.c, p.x3, p.x4, p.x5, p.x6, p.x7] 31) := ⟨_, rfl⟩
                    have HTK := Lib.hid (show T.key = (insideP p false).key by rw [hT]; rfl)
                    have HTV := Lib.hid (show T.valid = true by rw [hT]; exact hval)
                    have HPT := Lib.hid (show Blk S9 wr.heap.size 31 #[.int .i64 T.s, .int .i64 T.al, .slice T.A T.sp.length T.c, T.x3, T.x4, T.x5, T.x6, T.x7] by rw [hT, hS9]; exact hbx)
                    have HTS := Lib.hid (show Sl S9 T.A (T.sp.map bv) by rw [hT, hS9]; exact hsp.sl)
                    have HBE9 := Lib.hid (show Below W4.heap.size W4 S9 by rw [hS9]; exact hbe)
                    have HSS := Lib.hid hS9
                    clear hT hS9 hbx hsp hbe hval
                    go_upto_region 27 with (fail)
                    rw [← HSS.out]
                    clear HSS
                  case' true =>
                    go_wp2_with fail
                    refine (pointer_any _).mono ?_
                    rintro e w10 ⟨Ap, he, hsp10, hb10⟩
                    have he' : e = .returned (.agg #[.int .i64 8, .int .i64 8, .slice Ap 8 8, .slice none 0 0, .slice none 0 0, .slice none 0 0, .slice none 0 0, .bool true]) := he
                    subst he'
                    obtain ⟨T, hT⟩ : ∃ T : Part, T = ptrP Ap := ⟨_, rfl⟩
                    have hPb := hbx.below hb10
                    obtain ⟨⟨b0, b1, b2, b3, b4, b5, b6, b7⟩, bf⟩ := hPb.eight
                    obtain ⟨S9, hS9⟩ : ∃ S9, S9 = (((((((w10.setCell ⟨wr.heap.size, 0, none⟩ (.int .i64 8)).setCell ⟨wr.heap.size, 1, none⟩ (.int .i64 8)).setCell ⟨wr.heap.size, 2, none⟩ (.slice Ap 8 8)).setCell ⟨wr.heap.size, 3, none⟩ (.slice none 0 0)).setCell ⟨wr.heap.size, 4, none⟩ (.slice none 0 0)).setCell ⟨wr.heap.size, 5, none⟩ (.slice none 0 0)).setCell ⟨wr.heap.size, 6, none⟩ (.slice none 0 0)).setCell ⟨wr.heap.size, 7, none⟩ (.bool true) := ⟨_, rfl⟩
                    have h8 : w10.grownBy S9 (some wr.heap.size) := by rw [hS9]; exact only8 w10 wr.heap.size (.int .i64 8) (.int .i64 8) (.slice Ap 8 8) (.slice none 0 0) (.slice none 0 0) (.slice none 0 0) (.slice none 0 0) (.bool true)
                    have HTK := Lib.hid (show T.key = (insideP p true).key by rw [hT]; rfl)
                    have HTV := Lib.hid (show T.valid = true by rw [hT]; rfl)
                    have HPT := Lib.hid (show Blk S9 wr.heap.size 31 #[.int .i64 T.s, .int .i64 T.al, .slice T.A T.sp.length T.c, T.x3, T.x4, T.x5, T.x6, T.x7] by rw [hS9, hT]; exact hPb.set8 (.int .i64 8) (.int .i64 8) (.slice Ap 8 8) (.slice none 0 0) (.slice none 0 0) (.slice none 0 0) (.slice none 0 0) (.bool true))
                    have HTS := Lib.hid (show Sl S9 T.A (T.sp.map bv) by rw [hT]; exact (hsp10.grown h8 hPb (by decide)).sl)
                    have HBE9 := Lib.hid (show Below W4.heap.size W4 S9 by rw [hS9]; exact below8 (below_next hbe hb10) (by omega) (.int .i64 8) (.int .i64 8) (.slice Ap 8 8) (.slice none 0 0) (.slice none 0 0) (.slice none 0 0) (.slice none 0 0) (.bool true))
                    have HSS := Lib.hid hS9
                    clear hT hS9 hbx hsp hbe hval hPb h8 hsp10 hb10
                    go_upto_region 27 with (fail)
                    rw [← HSS.out]
                    clear b0 b1 b2 b3 b4 b5 b6 b7 bf HSS
                  all_goals
                    obtain ⟨v1, v2, v3, v4⟩ := (valid_iff T).1 HTV.out
                    obtain ⟨⟨t0, t1, t2, t3, t4, t5, t6, t7⟩, tf⟩ := HPT.out.eight
                    have hwi9 : wr.heap.size < S9.heap.size := HPT.out.lt
                    clear t1 t3 t4 t5 t6 t7
                    rw [← spareAt_key HTK.out] at HAN
                    by_cases hs0 : 0 < T.s
                    · by_cases hsi : (i : Int) / 8 < T.s
                      · have hi8 : i / 8 < T.sp.length := by omega
                        obtain ⟨mb, mo, hma, hcm⟩ := HTS.out.at_ (k := i / 8) (by simpa using hi8)
                        rw [List.getElem_map] at hcm
                        rw [hma] at t2
                        have hbn := bit_no T.sp[i / 8] (i % 8)
                        have hbi : bitN T.sp i = T.sp[i / 8].toNat.testBit (i % 8) := by rw [bitN, List.getD_eq_getElem?_getD, List.getElem?_eq_getElem hi8, Option.getD_some]
                        have hq : spareAt i T = bitN T.sp i := by unfold spareAt; simp [hs0, hsi]
                        rw [hq, hbi] at HAN
                        clear hma hbi hq
                        cases hbt : T.sp[i / 8].toNat.testBit (i % 8) with
                        | true =>
                          rw [hbt] at hbn HAN
                          clear hbt
                          go_wp2_with fail
                          go_roundw
                          case rel => exact ⟨k + 1, b16, by omega, by go_num, rfl, by show _ = _; rw [HAN.out, Bool.and_true], HBE9.out⟩
                          case measure => simp [intOf]; omega
                        | false =>
                          rw [hbt] at hbn HAN
                          clear hbt
                          go_wp2_with fail
                          go_roundw
                          case rel => exact ⟨k + 1, false, by omega, by go_num, rfl, by show _ = _; rw [HAN.out, Bool.and_false], HBE9.out⟩
                          case measure => simp [intOf]; omega
                      · have hq : spareAt i T = true := by unfold spareAt; simp [hsi]
                        rw [hq] at HAN
                        clear hq
                        go_wp2_with fail
                        go_roundw
                        case rel => exact ⟨k + 1, b16, by omega, by go_num, rfl, by show _ = _; rw [HAN.out, Bool.and_true], HBE9.out⟩
                        case measure => simp [intOf]; omega
                    · have hq : spareAt i T = true := by unfold spareAt; simp [hs0]
                      rw [hq] at HAN
                      clear hq
                      go_wp2_with fail
                      go_roundw
                      case rel => exact ⟨k + 1, b16, by omega, by go_num, rfl, by show _ = _; rw [HAN.out, Bool.and_true], HBE9.out⟩
                      case measure => simp [intOf]; omega
                · obtain rfl : m = k := by omega
                  have htk : (inside ps bs).take m = inside ps bs := List.take_of_length_le (by rw [HIL.out, ← HM.out]; exact Nat.le_refl _)
                  rw [htk] at hb16
                  have hfr : _ = _ := HFR.out
                  rw [allSpare_def, ← hb16.out] at hfr
                  clear htk hb16 HFR
                  have hcl := HCL.out
                  cases b16 with
                  | true =>
                    rw [if_pos rfl] at hfr
                    have HFR2 := Lib.hid hfr
                    clear hfr
                    go_wp2_with fail
                    go_roundw
                    case rel => exact ⟨i + 1, by omega, by go_num, by rw [HFR2.out]; go_num, hbel⟩
                    case measure => simp [intOf]; omega
                  | false =>
                    rw [if_neg (by decide)] at hfr
                    have HFR2 := Lib.hid hfr
                    clear hfr
                    go_wp2_with fail
                    go_roundw
                    case rel => exact ⟨i + 1, by omega, by go_num, by rw [HFR2.out]; go_num, hbel⟩
                    case measure => simp [intOf]; omega
            · obtain rfl : i = 8 * S := by omega
              have hus := union_sizes (inside ps bs) hiv ps.length u HU.out (by have := tagS_le ps.length H12.out; omega)
              have htg4 := tagS_le ps.length H12.out
              have hm12 := H12.out
              rw [← HM.out] at hus htg4 hm12
              rw [HS.out, Int.toNat_natCast, HCNT.out] at hus
              obtain ⟨tg, htg⟩ : ∃ tg, tagS (m : Int) = tg := ⟨_, rfl⟩
              obtain ⟨cb, hcb⟩ : ∃ cb, countB u.sp = cb := ⟨_, rfl⟩
              rw [htg, hcb] at hus
              rw [htg] at htg4
              obtain ⟨ht, hs⟩ := hus
              obtain ⟨⟨x0, x1, x2, x3, x4, x5, x6, x7⟩, xf⟩ := (HX.out.below hbo).eight
              have hsu := (HSPU.out.below hbo).sl
              have hspl : u.sp.length ≤ 1000000 := by have := unionR_good hiv HU.out (by have := tagS_le ps.length H12.out; omega); have h1 := this.sp; have h2 := this.s1; omega
              have hany := HB.out
              have hszero := sizeP_zero (inside ps bs)
              rw [← hany, HS.out] at hszero
              have hf3 : ¬ ((8 * S : Nat) : Int) < 8 * (S : Int) := by omega
              have HTG := Lib.hid htg
              have HCB := Lib.hid hcb
              have HBO3 := Lib.hid hbo
              rw [ht] at x6
              have HSU := Lib.hid hsu
              clear htg hcb hbo ht hfr hsu x1 x3 x4 x5 x7 hany
              have hm63 : (m : Int) ≤ 4611686018427387904 := by omega
              have hm0 : -9223372036854775808 ≤ (m : Int) := by omega
              by_cases hk : tg ≤ cnt
              case' pos =>
                rw [if_pos hk] at hs
                obtain ⟨hs1, hs2⟩ := hs
                have hkI : ¬ (cnt : Int) < (tg : Int) := by omega
                have heq : (cb : Int) = (cnt : Int) - (tg : Int) := by omega
                rw [hs1] at x0
                cases b
                case' false =>
                  obtain rfl : S = 0 := by have := hszero rfl; omega
                  obtain rfl : cnt = 0 := by omega
                  obtain rfl : tg = 0 := by omega
              case' neg =>
                rw [if_neg hk] at hs
                obtain ⟨hs1, hs2⟩ := hs
                have hkI : (cnt : Int) < (tg : Int) := by omega
                have hkJ : (0 : Int) < (tg : Int) := by omega
                have heq : (cb : Int) = (cnt : Int) + 8 - (tg : Int) := by omega
                rw [hs1] at x0
                cases b
                case' false =>
                  obtain rfl : S = 0 := by have := hszero rfl; omega
                  obtain rfl : cnt = 0 := by omega
              all_goals
                clear hszero hs1 hs2
                go_wp2_with fail
                refine (tagsize_small (m : Int) _ hm63 hm0).mono ?_
                rw [HTG.out]
                rintro e w5 ⟨rfl, rfl⟩
                go_wp2_with fail
                refine (rcount_any _ _ _ u.sp _ rfl HSU.out hspl).mono ?_
                rw [HCB.out]
                rintro e w6 ⟨rfl, rfl⟩
                go_wp2_with fail
                refine (awake17 _).mono ?_
                rintro e w7 ⟨rfl, hb7⟩
                go_wp2
                go_ret
                exact ⟨rfl, below_next (below_next HB4.out HBO3.out) hb7⟩
    all_goals
      obtain ⟨_, ⟨_, he⟩ | ⟨h0, _⟩⟩ := h3
      case' inr => rw [hE] at h0; cases h0
      rw [hE] at he
      have he' : e = .returned (.tuple #[.agg #[.int .i64 0, .int .i64 0, .slice none 0 0, .slice none 0 0, .slice none 0 0, .slice none 0 0, .slice none 0 0, .bool false], .int .i64 _]) := he
      subst he'
      have HB3 := Lib.hid (below_next HB2.out hb3)
      clear he hE hb3
      go_wp2_with fail
      refine (awake17 _).mono ?_
      rintro e w6 ⟨rfl, hb6⟩
      go_wp2
      go_ret
      exact ⟨rfl, below_next (HB3.out.alloc HB3.out.size _) hb6⟩
  · have hl' : decide (n ≤ 700) = false := by simpa using hl
    go_enter Try.func12, Try.ntmps12
    go_wp2_with fail
    refine (light_any _ _ _ _).mono ?_
    rw [hl']
    rintro e w1 ⟨rfl, rfl⟩
    go_wp2_with fail
    refine (awake17 _).mono ?_
    rintro e w6 ⟨rfl, hb6⟩
    go_wp2
    go_ret
    exact ⟨rfl, hb6⟩
end Go.Proofs.Ytamhigknobdloaa
