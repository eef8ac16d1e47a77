/- The walk of the law SumReturns; no condition but that the numbers are readable. -/
import Derived.Test.YtamhigknobdloaaSr
import Derived.Test.YtamhigknobdloaaLh
import Derived.Outline
namespace Go.Proofs.Ytamhigknobdloaa
open Go.RowKit
set_option linter.unusedVariables false

theorem Dice.drew_ {w : World} {g : Nat} {ls : List Int} {k : Nat} (h : Dice w g ls k) : Dice w.drew g ls k := h.below ⟨rfl, rfl, rfl, Nat.le_refl _, fun _ _ => rfl⟩
theorem SlE.cellAt {w : World} {e : TypeId} {A : Option Addr} {xs : List Value} (h : SlE w e A xs) {b off : Nat} (hA : A = some ⟨b, off, none⟩) (k : Nat) (hk : k < xs.length) : w.cell? ⟨b, off + k, none⟩ = some xs[k] := by
  obtain ⟨b', off', h1, h2⟩ := h.sl.at_ hk
  rw [hA] at h1
  injection h1 with h1
  injection h1 with h1 h3
  subst h1 h3
  exact h2
theorem grown_undrew {w w' : World} {row : Option Nat} (h : w.drew.grownBy w' row) : w.grownBy w' row := ⟨h.os, h.tape, h.output, h.size, h.block⟩
theorem fill_facts {w5 wq Wi : World} {gy gd g N i d' k5 mb mo : Nat} {ls : List Int} {T : Part} (hy : Blk wq gy 31 #[.int .i64 T.s, .int .i64 T.al, .slice T.A T.sp.length T.c, T.x3, T.x4, T.x5, T.x6, T.x7]) (hS : SlE wq 5 T.A (T.sp.map bv)) (hA : T.A = some ⟨mb, mo, none⟩)
    (F : FillS Wi gd ls d' g N i T.sp wq) (hd5 : Dice w5 gd ls k5) (hg : wq.grownBy w5 (some gd)) (hin : i < N) (hi8 : i < T.sp.length) (h1 : gd < gy) (h2 : gd < Wi.heap.size) (h3 : Wi.heap.size ≤ g) :
    w5.cell? ⟨gy, 2, none⟩ = some (.slice (some ⟨mb, mo, none⟩) T.sp.length T.c) ∧ w5.cell? ⟨mb, mo + i, none⟩ = some (.int .u8 (T.sp[i].toNat : Int)) ∧ (∃ b0, w5.cell? ⟨g, i, none⟩ = some (.int .u8 b0)) ∧ w5.frozen? ⟨g, i, none⟩ = false ∧ (∀ b, b &&& T.sp[i] = 0 → FillS Wi gd ls k5 g N (i + 1) T.sp (w5.setCell ⟨g, i, none⟩ (bv b))) ∧ gy < w5.heap.size ∧ mb < w5.heap.size ∧ g < w5.heap.size := by
  obtain ⟨ds, hds⟩ := F.dice.cells
  have hy5 := hy.grown hg (fun e => by injection e with e; omega)
  have hS5 := hS.grown hg hds (by decide)
  have F5 := F.dices hd5 hg (by omega)
  obtain ⟨X, z1, z2, z3⟩ := F5.bytes
  have hc : w5.cell? ⟨mb, mo + i, none⟩ = some (.int .u8 (T.sp[i].toNat : Int)) := by
    have h := hS5.cellAt hA i (by simpa using hi8)
    rw [List.getElem_map] at h
    exact h
  refine ⟨by rw [← hA]; exact hy5.cell 2, hc, ⟨((X[i]'(by omega)).toNat : Int), ?_⟩, z3.frozen i, fun b hb => F5.put hin b ?_ (by omega) h3, hy5.lt, World.block_lt_of_cell? w5 _ hc, z3.lt⟩
  · rw [z3.cell, List.getElem?_toArray, List.getElem?_map, List.getElem?_eq_getElem (by omega)]; rfl
  · rw [List.getD_eq_getElem?_getD, List.getElem?_eq_getElem hi8]; exact hb
theorem union_ge {ts : List Part} {n : Nat} {u : Un} (hv : ∀ t ∈ ts, t.valid = true) (h : unionR ts n = some u) : sizeP ts ≤ u.s := by
  unfold unionR at h
  simp only at h
  split at h
  · injection h with h; subst h; exact Int.le_refl _
  · split at h
    · cases h
    · injection h with h; subst h; show sizeP ts ≤ sizeP ts + 1; omega
theorem insideP_key (p T : Part) (b : Bool) (h : T.key = (insideP p b).key) : T.s = (insideP p b).s ∧ T.sp = (insideP p b).sp := ⟨(key_inj h).1, (key_inj h).2.2⟩

set_option maxHeartbeats 3200000 in
set_option maxRecDepth 100000 in
theorem sumreturns_walk (A : Option Addr) (n c : Nat) (ls : List Int) (w : World) (hn : ls.length = n) (hs : Sl w A (ls.map iv)) (hn63 : n ≤ 9223372036854775807) (hib : IB ls) :
    Calls Try.prog 16 #[.slice A n c] w fun e w' => e = .returned (.bool true) ∧ Below w.heap.size w w' := by
  have HIB := Lib.hid hib
  have HN := Lib.hid hn
  clear hib hn
  by_cases hl : n ≤ 700
  · have hl' : decide (n ≤ 700) = true := by simpa using hl
    go_enter Try.func16, Try.ntmps16
    go_wp2_with fail
    refine (light_any _ _ _ _).mono ?_
    rw [hl']
    rintro e w1 ⟨rfl, rfl⟩
    go_wp2_with fail
    refine (roll_any _ _ _ ls _ HN.out hs hl HIB.out).mono ?_
    rintro e W ⟨rfl, hd1, hbW⟩
    obtain ⟨gd, hgd⟩ : ∃ gd, gd = w.heap.size := ⟨_, rfl⟩
    rw [← hgd] at hd1 ⊢
    have HGD := Lib.hid hgd
    have HBW := Lib.hid hbW
    clear hgd hbW hl' hs
    go_wp2_with fail
    refine (cases_even gd ls 0 _ hd1).mono ?_
    rintro e w2 ⟨ps, nms, bs, A7, A8, A9, c7, c8, c9, rfl, hp5, HR⟩
    have hb2 : Below w.heap.size w w2 := HBW.out.grown HR.grown HBW.out.size (fun q hq => by injection hq with hq; rw [← hq, HGD.out]; exact Nat.le_refl _)
    obtain ⟨fs, hfl, hlay⟩ := HR.lay rfl (by omega)
    obtain ⟨m, hm⟩ : ∃ m, m = ps.length := ⟨_, rfl⟩
    rw [← hm] at hlay HR hfl hp5 ⊢
    have HM := Lib.hid hm
    have HLAY := Lib.hid hlay
    have HFL := Lib.hid hfl
    have HRR := Lib.hid HR
    have HB2 := Lib.hid hb2
    clear hm hlay hfl HR hb2 hd1
    go_wp2_with fail
    refine HLAY.out.mono ?_
    intro e w3 h3
    have hb3 := h3.1
    rcases sumE_vals ps nms.length bs with hE | hE | hE
    case' inl =>
      obtain ⟨_, ⟨hne, _⟩ | ⟨_, hnl, _, h12, hval, u, As, cs, Ac, cc, Az, cz, qs, hu, he, hat⟩⟩ := h3
      · exact absurd hE hne
      have he' : e = .returned (.tuple #[.agg #[.int .i64 u.s, .int .i64 u.al, .slice As u.sp.length cs, .slice none 0 0, .slice none 0 0, .slice Ac ps.length cc, .slice Az u.tags.length cz, .bool false], .int .i64 0]) := he
      subst he'
      rw [← HM.out] at hat h12 hu hnl ⊢
      obtain ⟨W4, hW4⟩ : ∃ W4, W4 = w3.alloc (.cells #[.int .i64 u.s, .int .i64 u.al, .slice As u.sp.length cs, .slice none 0 0, .slice none 0 0, .slice Ac m cc, .slice Az u.tags.length cz, .bool false] 31) := ⟨_, rfl⟩
      have b34 : Below w3.heap.size w3 W4 := by rw [hW4]; exact (Below.refl _ _).alloc (Nat.le_refl _) _
      have hbl : bs.length = m := by rw [HRR.out.lb, HM.out]
      obtain ⟨g7, hg7⟩ : ∃ g7, g7 = w3.heap.size := ⟨_, rfl⟩
      have hcore : RetC u nms bs fs ps m A7 A9 As cs Ac cc Az cz qs g7 W4 := by
        refine ⟨?_, ?_, ?_, hat.keeps (fun e _ _ => Keep.below b34), by rw [hW4, hg7]; exact Blk.new _ _ _⟩
        · have h := HRR.out.own7; rw [← HM.out] at h; exact (SlE.of_owns h).below (below_next hb3 b34)
        · have h := HRR.out.own9; rw [← HM.out] at h; exact (SlE.of_owns h).below (below_next hb3 b34)
        · exact fun p hp => (HRR.out.laid p hp).keeps (Keep.below (below_next hb3 b34)) (Keep.below (below_next hb3 b34))
      have hst : RetAt (RetC u nms bs fs ps m A7 A9 As cs Ac cc Az cz qs g7) w gd ls W4.heap.size (inside ps bs) u 0 (.slice none 0 0) [] W4 := by
        obtain ⟨d, hd⟩ := HRR.out.dice
        have hd4 := hd.below (below_next hb3 b34)
        exact ⟨hcore, ⟨d, hd4⟩, World.ownsRow_nil _ _ _ _, below_next (below_next HB2.out hb3) b34, rfl, fun j hj => by simp at hj, by rw [HGD.out]; exact Nat.le_refl _, hd4.lt, Nat.le_refl _⟩
      have HW4 := Lib.hid hW4
      have HBL := Lib.hid hbl
      have HU := Lib.hid hu
      have HVAL := Lib.hid hval
      have H12 := Lib.hid h12
      have HNL := Lib.hid hnl
      have HST := Lib.hid hst
      have HG7 := Lib.hid hg7
      clear h12 hW4 b34 hbl hu hval he hat hb3 hE HRR HLAY hcore hst hnl hg7
      go_wp2_with fail
      rw [← HW4.out, ← HG7.out]
      go_loopw [9, 55] (fun v9 v55 wr => ∃ (k : Nat) (B : Option Addr) (d : Nat) (seen : List (List UInt8)), k ≤ m ∧ v55 = .int .i64 k ∧ v9 = .slice B k d ∧ RetAt (RetC u nms bs fs ps m A7 A9 As cs Ac cc Az cz qs g7) w gd ls W4.heap.size (inside ps bs) u k (.slice B k d) seen wr) (fun _ v55 _ => m - (intOf v55).toNat)
      case atStart => exact ⟨0, none, 0, [], by omega, rfl, rfl, HST.out⟩
      case round =>
        obtain ⟨k, B, d, seen, hk, rfl, rfl, H⟩ := hrel
        clear HST
        by_cases hlt : k < m
        · have hkp : k < ps.length := by rw [← HM.out]; exact hlt
          have hkb : k < bs.length := by rw [HBL.out]; exact hlt
          have hPa : Parts wr A7 ps := H.core.parts.sl
          have hIn := H.core.inds.sl
          have hld := H.core.laid ps[k] (List.getElem_mem hkp)
          have hbe := (Below.refl wr.heap.size wr).alloc (Nat.le_refl _) (.cells #[.int .i64 ps[k].s, .int .i64 ps[k].al, .slice ps[k].A ps[k].sp.length ps[k].c, ps[k].x3, ps[k].x4, ps[k].x5, ps[k].x6, ps[k].x7] 31)
          have HH := Lib.hid H
          clear H
          obtain ⟨gb, off, hA7, q0, q1, q2, q3, q4, q5, q6, q7⟩ := hPa.get hkp
          obtain ⟨gi, offi, hA9, ci⟩ := hIn.at_ (k := k) (by simpa using hkb)
          subst hA7 hA9
          rw [List.getElem_map] at ci
          have hgi : gi < wr.heap.size := World.block_lt_of_cell? wr _ ci
          have hgi2 : ¬ wr.heap.size = gi := by omega
          have hone := hld.one
          have sx3 := store_var (P := Try.prog) hone.h3
          have sx4 := store_var (P := Try.prog) hone.h4
          have sx5 := store_var (P := Try.prog) hone.h5
          have sx6 := store_var (P := Try.prog) hone.h6
          have sx7 := store_var (P := Try.prog) hone.h7
          have hk0 : (0 : Int) ≤ (k : Int) := Int.natCast_nonneg _
          have hk1 : (k : Int) < (m : Int) := by omega
          have hbx := Blk.new wr 31 #[.int .i64 ps[k].s, .int .i64 ps[k].al, .slice ps[k].A ps[k].sp.length ps[k].c, ps[k].x3, ps[k].x4, ps[k].x5, ps[k].x6, ps[k].x7]
          have hsp : SlE (wr.alloc (.cells #[.int .i64 ps[k].s, .int .i64 ps[k].al, .slice ps[k].A ps[k].sp.length ps[k].c, ps[k].x3, ps[k].x4, ps[k].x5, ps[k].x6, ps[k].x7] 31)) 5 ps[k].A (ps[k].sp.map bv) := hld.sp.below hbe
          have hval := hld.valid
          have hig := inside_get ps bs k hkp hkb
          generalize ps[k] = p at *
          generalize bs[k] = bb at *
          have HIG := Lib.hid hig
          clear hld hPa hIn hig
          cases bb
          case' false =>
            obtain ⟨T, hT⟩ : ∃ T : Part, T = p := ⟨_, rfl⟩
            obtain ⟨S9, hS9⟩ : ∃ S9, S9 = wr.alloc (.cells #[.int .i64 p.s, .int .i64 p.al, .slice p.A p.sp.length p.c, p.x3, p.x4, p.x5, p.x6, p.x7] 31) := ⟨_, rfl⟩
            have HTK := Lib.hid (show T.key = (insideP p false).key by rw [hT]; rfl)
            have HTV := Lib.hid (show T.valid = true by rw [hT]; exact hval)
            have HPT := Lib.hid (show Blk S9 wr.heap.size 31 #[.int .i64 T.s, .int .i64 T.al, .slice T.A T.sp.length T.c, T.x3, T.x4, T.x5, T.x6, T.x7] by rw [hT, hS9]; exact hbx)
            have HTS := Lib.hid (show SlE S9 5 T.A (T.sp.map bv) by rw [hT, hS9]; exact hsp)
            have HBE9 := Lib.hid (show Below wr.heap.size wr S9 by rw [hS9]; exact hbe)
            have HSS := Lib.hid hS9
            clear hT hS9 hbx hsp hbe hval
            go_upto_region 15 with (fail)
            rw [← HSS.out]
            clear HSS
          case' true =>
            go_wp2_with fail
            refine (pointer_any _).mono ?_
            rintro e w10 ⟨Ap, he, hsp10, hb10⟩
            have he' : e = .returned (.agg #[.int .i64 8, .int .i64 8, .slice Ap 8 8, .slice none 0 0, .slice none 0 0, .slice none 0 0, .slice none 0 0, .bool true]) := he
            subst he'
            obtain ⟨T, hT⟩ : ∃ T : Part, T = ptrP Ap := ⟨_, rfl⟩
            have hPb := hbx.below hb10
            obtain ⟨⟨b0, b1, b2, b3, b4, b5, b6, b7⟩, bf⟩ := hPb.eight
            obtain ⟨S9, hS9⟩ : ∃ S9, S9 = (((((((w10.setCell ⟨wr.heap.size, 0, none⟩ (.int .i64 8)).setCell ⟨wr.heap.size, 1, none⟩ (.int .i64 8)).setCell ⟨wr.heap.size, 2, none⟩ (.slice Ap 8 8)).setCell ⟨wr.heap.size, 3, none⟩ (.slice none 0 0)).setCell ⟨wr.heap.size, 4, none⟩ (.slice none 0 0)).setCell ⟨wr.heap.size, 5, none⟩ (.slice none 0 0)).setCell ⟨wr.heap.size, 6, none⟩ (.slice none 0 0)).setCell ⟨wr.heap.size, 7, none⟩ (.bool true) := ⟨_, rfl⟩
            have h8 : w10.grownBy S9 (some wr.heap.size) := by rw [hS9]; exact only8 w10 wr.heap.size (.int .i64 8) (.int .i64 8) (.slice Ap 8 8) (.slice none 0 0) (.slice none 0 0) (.slice none 0 0) (.slice none 0 0) (.bool true)
            have HTK := Lib.hid (show T.key = (insideP p true).key by rw [hT]; rfl)
            have HTV := Lib.hid (show T.valid = true by rw [hT]; rfl)
            have HPT := Lib.hid (show Blk S9 wr.heap.size 31 #[.int .i64 T.s, .int .i64 T.al, .slice T.A T.sp.length T.c, T.x3, T.x4, T.x5, T.x6, T.x7] by rw [hS9, hT]; exact hPb.set8 (.int .i64 8) (.int .i64 8) (.slice Ap 8 8) (.slice none 0 0) (.slice none 0 0) (.slice none 0 0) (.slice none 0 0) (.bool true))
            have HTS := Lib.hid (show SlE S9 5 T.A (T.sp.map bv) by rw [hT]; exact hsp10.grown h8 hPb (by decide))
            have HBE9 := Lib.hid (show Below wr.heap.size wr S9 by rw [hS9]; exact below8 (below_next hbe hb10) (Nat.le_refl _) (.int .i64 8) (.int .i64 8) (.slice Ap 8 8) (.slice none 0 0) (.slice none 0 0) (.slice none 0 0) (.slice none 0 0) (.bool true))
            have HSS := Lib.hid hS9
            clear hT hS9 hbx hsp hbe hval hPb h8 hsp10 hb10
            go_upto_region 15 with (fail)
            rw [← HSS.out]
            clear b0 b1 b2 b3 b4 b5 b6 b7 bf HSS
          all_goals
            clear q0 q1 q2 q3 q4 q5 q6 q7 ci hgi hgi2 hone sx3 sx4 sx5 sx6 sx7
            obtain ⟨v1, v2, v3, v4⟩ := (valid_iff T).1 HTV.out
            obtain ⟨N, hN⟩ := Int.eq_ofNat_of_zero_le v1
            obtain ⟨⟨t0, t1, t2, t3, t4, t5, t6, t7⟩, tf⟩ := HPT.out.eight
            have hyl : wr.heap.size < S9.heap.size := HPT.out.lt
            obtain ⟨gy, hgy⟩ : ∃ gy, gy = wr.heap.size := ⟨_, rfl⟩
            rw [← hgy] at HPT t0 t1 t2 t3 t4 t5 t6 t7 tf hyl ⊢
            rw [hN] at t0
            have hmk := mk27 N (by omega)
            have H9 := HH.out.below_ (HH.out.core.below HBE9.out) HBE9.out
            have hgdy : gd < gy := by rw [hgy]; exact Nat.lt_of_lt_of_le HH.out.gdl HH.out.sbw
            have hgdl : gd < S9.heap.size := Nat.lt_of_lt_of_le H9.gdl H9.sbw
            obtain ⟨d0, hd0⟩ := H9.dice
            have hfill : FillS S9 gd ls d0 S9.heap.size N 0 T.sp (S9.alloc (.cells (madeCells #[.int .u8 0] N) 5)) := ⟨hd0.alloc _, grown_alloc (World.grownBy.refl _ _) _, ⟨List.replicate N 0, by simp, by intro j h _; omega, by
              have e : ((List.replicate N (0 : UInt8)).map bv).toArray = madeCells #[.int .u8 0] N := by
                apply Array.toList_inj.1
                rw [toList_madeCells_one]
                simp [bv]
              rw [e]; exact Blk.new _ _ _⟩⟩
            have HFILL := Lib.hid hfill
            have HH9 := Lib.hid H9
            have HGY := Lib.hid hgy
            have HD0 := Lib.hid hd0
            have hspl : T.sp.length = N := by omega
            have HNN := Lib.hid hN
            have hN1 : N ≤ 1024 := by omega
            clear hfill H9 hd0 hgy t1 t3 t4 t5 t6 t7 HH hN v1 v2 v3
            go_wp2_with fail
            have hgn : (Value.slice none 0 0).ownBlock = none := rfl
            go_loopw [72] (fun v72 wq => ∃ (i d' : Nat), i ≤ N ∧ v72 = .int .i64 i ∧ FillS S9 gd ls d' S9.heap.size N i T.sp wq) (fun v72 _ => N - (intOf v72).toNat)
            case atStart => exact ⟨0, d0, by omega, rfl, HFILL.out⟩
            case round =>
              obtain ⟨i, d', hi, rfl, F⟩ := hrel
              clear HFILL hmk t0 t2 tf
              by_cases hin : i < N
              · have hgr := F.grown
                obtain ⟨ds, hds⟩ := HD0.out.cells
                have hyq := HPT.out.grown hgr (fun e => by injection e with e; omega)
                have hSq := HTS.out.grown hgr hds (by decide)
                have hgS : S9.heap.size < wr.heap.size := by obtain ⟨X, y1, y2, y3⟩ := F.bytes; exact y3.lt
                have hi8 : i < T.sp.length := by omega
                obtain ⟨mb, mo, hma, hcm⟩ := hSq.sl.at_ (k := i) (by simpa using hi8)
                rw [List.getElem_map] at hcm
                obtain ⟨⟨t0, t1, t2, t3, t4, t5, t6, t7⟩, tf⟩ := hyq.eight
                rw [hma] at t2
                have hgY := hyq.lt
                have hmb := World.block_lt_of_cell? wr _ hcm
                have HYQ := Lib.hid hyq
                have HSQ := Lib.hid hSq
                have HMA := Lib.hid hma
                have FF := Lib.hid F
                clear F hgr hds hyq hSq hma t0 t1 t3 t4 t5 t6 t7
                go_wp2_with fail
                go_region_with (first
                  | (go_at_call 21; refine (next_lt gd ls d' 256 _ (by first | exact FF.out.dice.drew_ | exact FF.out.dice) (by omega) (by omega)).mono ?_; rintro e w5 ⟨r5, k5, rfl, hr5, hd5, hk5, hx5, hg5⟩; clear hx5 hcm t2 tf; have hg6 := grown_undrew hg5; obtain ⟨b5, rfl⟩ : ∃ b5 : UInt8, r5 = b5.toNat := ⟨UInt8.ofNat r5, by rw [UInt8.toNat_ofNat']; omega⟩; obtain ⟨t25, hcm5, ⟨b0, hcX⟩, hfX, hfi, hl1, hl2, hl3⟩ := fill_facts HYQ.out HSQ.out HMA.out FF.out hd5 hg6 hin hi8 hgdy hgdl (Nat.le_refl _); have hand := (and_not8 b5 T.sp[i]).1; have hb5 := b5.toNat_lt; have hnw : ((b5.toNat : Nat) : Int) % 256 = b5.toNat := by omega))
                all_goals
                  go_wp2
                  go_roundw
                  case rel => exact ⟨i + 1, k5, by omega, by go_num, by first | exact hfi _ (and_not8 b5 T.sp[i]).2 | (rw [hand]; exact hfi _ (and_not8 b5 T.sp[i]).2)⟩
                  case measure => simp [intOf]; omega
              · obtain rfl : i = N := by omega
                obtain ⟨X, x1, x2, x3⟩ := F.bytes
                have hig := HIG.out
                have hT1 := (key_inj HTK.out).1
                have hT2 := (key_inj HTK.out).2.2
                have hil : k < (inside ps bs).length := (List.getElem?_eq_some_iff.1 hig).1
                have hie : (inside ps bs)[k] = insideP p _ := (List.getElem?_eq_some_iff.1 hig).2
                have hXs : (X.length : Int) = (inside ps bs)[k].s := by rw [hie, ← hT1, HNN.out, x1]
                have hXo : ∀ q, bitN X q = true → bitN (inside ps bs)[k].sp q = false := by
                  rw [hie, ← hT2]
                  exact offB_bits (by rw [x1]; exact x2)
                have hiv := inside_valid (bs := bs) HVAL.out
                have hlen := inside_len ps bs (by rw [HBL.out, HM.out])
                have hu : unionR (inside ps bs) m = some u := HU.out
                obtain ⟨hinj, hprj, hfit⟩ := pack_all (inside ps bs) hiv m (by rw [hlen, ← HM.out]) H12.out u hu k hil X hXs hXo
                have hgood := unionR_good hiv hu (by have := tagS_le m H12.out; omega)
                have htg4 := tagS_le m H12.out
                have hpl : (packB u k X).length = u.sp.length := by
                  have h1 := hgood.sp
                  have h2 := sizeP_ge (inside ps bs) _ (List.getElem_mem hil)
                  have h4 := (union_ge hiv hu)
                  unfold packB
                  rw [putB_length', padB_length]
                  omega
                have H4 := HH9.out.dices (HH9.out.core.dices HD0.out F.grown) F.dice F.grown
                have hfl := HFL.out
                have hL := H4.core.un.layOf hgood H12.out (H4.core.un.cases_s HNL.out HBL.out HFL.out HM.out.symm HVAL.out)
                have htl : (intsN u.tags).length ≤ 1000000 := by rw [intsN_length, hgood.tags]; omega
                have hul : u.sp.length ≤ 1000000 := by have := hgood.sp; have := hgood.s1; omega
                have hIJ := inj_any (unP u m As cs Ac cc Az cz) qs (intsN u.tags) (k : Int) (some ⟨S9.heap.size, 0, none⟩) i i X wr hL x1 (blk_sl x3 rfl) (by omega) (Nat.le_refl _) hul htl (by omega) (by omega)
                rw [H4.core.un.injR HNL.out HBL.out HFL.out HM.out.symm, hinj] at hIJ
                have hPJ := fun (A : Option Addr) (cap : Nat) (Q : List UInt8) (W : World) (hL : LayOf W (unP u m As cs Ac cc Az cz) qs (intsN u.tags)) (hs : Sl W A (Q.map bv)) (h1 : Q.length ≤ 1000000) (h2 : Q.length ≤ cap) => proj_any (unP u m As cs Ac cc Az cz) qs (intsN u.tags) A Q.length cap Q W hL rfl hs h1 h2 hul htl
                have hTJ := fun (A : Option Addr) (cap : Nat) (Q : List UInt8) (W : World) (hL : LayOf W (unP u m As cs Ac cc Az cz) qs (intsN u.tags)) (hs : Sl W A (Q.map bv)) (h1 : Q.length ≤ 1000000) (h2 : Q.length ≤ cap) => tag_any (unP u m As cs Ac cc Az cz) qs (intsN u.tags) A Q.length cap Q W hL rfl hs h1 h2 hul htl
                simp only [H4.core.un.projR HNL.out HBL.out HFL.out HM.out.symm] at hPJ hTJ
                have hPJ1 := fun A cap W hL hs h1 h2 => hPJ A cap (packB u k X) W hL hs h1 h2
                have hTJ1 := fun A cap W hL hs h1 h2 => hTJ A cap (packB u k X) W hL hs h1 h2
                rw [hprj] at hPJ1 hTJ1
                have hne : ∀ j (hj : j < seen.length), j < k → (seen[j] == packB u k X) = false := by
                  intro j hj hjk
                  rw [beq_eq_false_iff_ne]
                  intro e
                  obtain ⟨y, e1, e2, e3⟩ := H4.each j hj (by omega)
                  rw [e3] at e
                  have := pack_inj (inside ps bs) hiv m (by rw [hlen, ← HM.out]) H12.out u hu j k (by omega) hil y X e1 e2 hXs hXo e
                  omega
                have hpush : ∀ (hk : k < (inside ps bs).length), (X.length : Int) = (inside ps bs)[k].s ∧ (∀ q, bitN X q = true → bitN (inside ps bs)[k].sp q = false) ∧ packB u k X = packB u k X := fun _ => ⟨hXs, hXo, rfl⟩
                obtain ⟨Q, hQ⟩ : ∃ Q, Q = packB u k X := ⟨_, rfl⟩
                rw [← hQ] at hIJ hPJ1 hTJ1 hne hfit hpl
                have hpu2 : ∀ (hk : k < (inside ps bs).length), (X.length : Int) = (inside ps bs)[k].s ∧ (∀ q, bitN X q = true → bitN (inside ps bs)[k].sp q = false) ∧ Q = packB u k X := fun _ => ⟨hXs, hXo, hQ⟩
                have HX3 := Lib.hid (show SlE wr 5 (some ⟨S9.heap.size, 0, none⟩) (X.map bv) from .inr ⟨_, 0, _, _, rfl, x3, fun j hj => by rw [Nat.zero_add, List.getElem?_toArray, List.getElem?_eq_getElem hj]⟩)
                have HXL := Lib.hid x1
                have HPJ := Lib.hid hPJ1
                have HTJ := Lib.hid hTJ1
                have HNE := Lib.hid hne
                have HFIT := Lib.hid hfit
                have HPU := Lib.hid hpu2
                have HPL := Lib.hid hpl
                have HIJ := Lib.hid hIJ
                have HH4 := Lib.hid H4
                have HLL := Lib.hid hL
                obtain ⟨⟨b0, b1, b2, b3, b4, b5, b6, b7⟩, bf⟩ := H4.core.box.eight
                clear x1 x2 x3 hig hT1 hT2 hil hie hXs hXo hiv hlen hu hinj hprj hfit hgood htg4 hpl H4 hfl hL htl hIJ hPJ hTJ hPJ1 hTJ1 hne hpush hQ hpu2 F HPT HTS HTK HTV HIG HD0 HH9 HBE9
                go_wp2_with fail
                refine HIJ.out.mono ?_
                rintro e W5 ⟨hb5, Aq, cq, he, hsq, hcq⟩
                have he' : e = .returned (.tuple #[.slice Aq Q.length cq, .int .i64 0]) := he
                subst he'
                have hcore5 := HH4.out.core.below hb5
                have hL5 := HLL.out.below hb5
                have hP := HPJ.out Aq cq W5 hL5 hsq.sl (by rw [HPL.out]; omega) hcq
                have HP := Lib.hid hP
                have HSQ := Lib.hid (show SlE W5 5 Aq (Q.map bv) from hsq)
                have HB5 := Lib.hid hb5
                have HL5 := Lib.hid hL5
                have HCQ := Lib.hid (show Q.length ≤ cq from hcq)
                clear b0 b1 b2 b3 b4 b5 b6 b7 bf
                obtain ⟨⟨b0, b1, b2, b3, b4, b5, b6, b7⟩, bf⟩ := hcore5.box.eight
                clear he hb5 hsq hcq hcore5 hL5 hP
                go_wp2_with fail
                refine HP.out.mono ?_
                rintro e W6 ⟨hb6, ⟨h0, _⟩ | ⟨k', u', Ay, cy, hr, he, hsy, hcy⟩⟩
                · cases h0
                injection hr with hr
                injection hr with hr1 hr2
                subst hr1 hr2
                have he' : e = .returned (.tuple #[.int .i64 k, .slice Ay X.length cy, .int .i64 0]) := he
                rw [HXL.out] at he'
                subst he'
                have hcore6 := HH4.out.core.below (below_next HB5.out hb6)
                have hT := HTJ.out Aq cq W6 (HL5.out.below hb6) (HSQ.out.sl.below hb6) (by rw [HPL.out]; omega) HCQ.out
                have HT := Lib.hid hT
                have HB6 := Lib.hid (below_next HB5.out hb6)
                have HSQ6 := Lib.hid (HSQ.out.below hb6)
                have HSY := Lib.hid hsy
                clear b0 b1 b2 b3 b4 b5 b6 b7 bf
                obtain ⟨⟨b0, b1, b2, b3, b4, b5, b6, b7⟩, bf⟩ := hcore6.box.eight
                clear he hb6 hsy hcy hcore6 hT HP HL5
                go_wp2_with fail
                refine HT.out.mono ?_
                rintro e W7 ⟨hb7, ⟨h0, _⟩ | ⟨k', u', hr, he⟩⟩
                · cases h0
                injection hr with hr
                injection hr with hr1 hr2
                subst hr1 hr2
                subst he
                have HB7 := Lib.hid (below_next HB6.out hb7)
                have hcore7 := HH4.out.core.below HB7.out
                have cv1 := run_convb (P := Try.prog) W7 27 9 5 Ay i cy X Try.underlying27 Try.underlying5 Try.underlying9 (HSY.out.sl.below hb7) HXL.out
                have cv2 := run_convb (P := Try.prog) W7 27 9 5 (some ⟨S9.heap.size, 0, none⟩) i i X Try.underlying27 Try.underlying5 Try.underlying9 (HX3.out.sl.below HB7.out) HXL.out
                have HSQ7 := Lib.hid (HSQ6.out.below hb7)
                have HSU := Lib.hid (hcore7.un.sp.sl)
                have hself : ((k : Int) != k) = false := by simp
                clear b0 b1 b2 b3 b4 b5 b6 b7 bf
                obtain ⟨⟨b0, b1, b2, b3, b4, b5, b6, b7⟩, bf⟩ := hcore7.box.eight
                clear hb7 hcore7 HT HSQ6
                go_wp2_with fail
                refine (rfits_any _ _ _ Q _ _ _ u.sp _ rfl HSQ7.out.sl (by rw [HPL.out]; omega) rfl HSU.out (by omega)).mono ?_
                rw [HFIT.out]
                rintro e W8 ⟨rfl, hb8⟩
                have H8 := HH4.out.below_ (HH4.out.core.below (below_next HB7.out hb8)) (below_next HB7.out hb8)
                have HSQ8 := Lib.hid (HSQ7.out.below hb8)
                have HH8 := Lib.hid H8
                have hown := H8.own
                have hsl := Sl.of_own hown
                have hbr := Below.refl W8.heap.size W8
                clear b0 b1 b2 b3 b4 b5 b6 b7 bf cv1 cv2 hb8 H8
                have HSL := Lib.hid hsl
                have HLEN := Lib.hid HH8.out.len
                clear hsl hown
                go_wp2_with fail
                go_loopw [144] (fun v144 wq => ∃ j : Nat, j ≤ k ∧ v144 = .int .i64 j ∧ Below W8.heap.size W8 wq) (fun v144 _ => k - (intOf v144).toNat)
                case atStart => exact ⟨0, by omega, rfl, hbr⟩
                case round =>
                  obtain ⟨j, hj, rfl, hb⟩ := hrel
                  clear hbr
                  by_cases hjk : j < k
                  · have hjs : j < seen.length := by rw [HLEN.out]; exact hjk
                    obtain ⟨mb, mo, rfl, hcm⟩ := (HSL.out.below hb).at_ (k := j) (by simpa using hjs)
                    rw [List.getElem_map] at hcm
                    have hnq := HNE.out j hjs hjk
                    have cv := run_convb (P := Try.prog) wr 27 9 5 Aq Q.length cq Q Try.underlying27 Try.underlying5 Try.underlying9 (HSQ8.out.sl.below hb) rfl
                    generalize seen[j] = sj at *
                    have HBB := Lib.hid hb
                    clear hb
                    go_wp2_with fail
                    go_roundw
                    case rel => exact ⟨j + 1, by omega, by go_num, HBB.out⟩
                    case measure => simp [intOf]; omega
                  · obtain rfl : k = j := by omega
                    have H9 := HH8.out.below_ (HH8.out.core.below hb) hb
                    have cv := run_convb (P := Try.prog) wr 27 9 5 Aq Q.length cq Q Try.underlying27 Try.underlying5 Try.underlying9 (HSQ8.out.sl.below hb) rfl
                    obtain ⟨A', c', w', hr, ho, hg⟩ := run_append1 (P := Try.prog) W4.heap.size 66 66 9 _ 16 Try.underlying66 el9 (by decide) B k d (seen.map sv) H9.own (sv Q) rfl (by omega) H9.sbw
                    have H10 := H9.app (H9.core.own H9.own hg) Q X (by rw [List.map_append]; exact ho) hg HPU.out
                    have HH10 := Lib.hid H10
                    clear hb H9 ho hg H10
                    go_wp2_with fail
                    go_roundw
                    case rel => exact ⟨k + 1, A', c', seen ++ [Q], by omega, by go_num, by go_num, HH10.out⟩
                    case measure => simp [intOf]; omega
        · obtain rfl : k = m := by omega
          have HH := Lib.hid H.below
          clear H
          go_wp2_with fail
          refine (awake17 _).mono ?_
          rintro e w6 ⟨rfl, hb6⟩
          go_wp2
          go_ret
          exact ⟨rfl, below_next HH.out hb6⟩
    all_goals
      obtain ⟨_, ⟨_, he⟩ | ⟨h0, _⟩⟩ := h3
      case' inr => rw [hE] at h0; cases h0
      rw [hE] at he
      have he' : e = .returned (.tuple #[.agg #[.int .i64 0, .int .i64 0, .slice none 0 0, .slice none 0 0, .slice none 0 0, .slice none 0 0, .slice none 0 0, .bool false], .int .i64 _]) := he
      subst he'
      have HB3 := Lib.hid (below_next HB2.out hb3)
      clear he hE hb3
      go_wp2_with fail
      refine (awake17 _).mono ?_
      rintro e w6 ⟨rfl, hb6⟩
      go_wp2
      go_ret
      exact ⟨rfl, below_next (HB3.out.alloc HB3.out.size _) hb6⟩
  · have hl' : decide (n ≤ 700) = false := by simpa using hl
    go_enter Try.func16, Try.ntmps16
    go_wp2_with fail
    refine (light_any _ _ _ _).mono ?_
    rw [hl']
    rintro e w1 ⟨rfl, rfl⟩
    go_wp2_with fail
    refine (awake17 _).mono ?_
    rintro e w6 ⟨rfl, hb6⟩
    go_wp2
    go_ret
    exact ⟨rfl, hb6⟩
end Go.Proofs.Ytamhigknobdloaa
