/- The walk of the law ProductSpares; no condition but that the numbers are readable. -/
import Derived.Test.YtamhigknobdloaaLz
import Derived.Test.YtamhigknobdloaaLa
import Derived.Test.YtamhigknobdloaaLb
namespace Go.Proofs.Ytamhigknobdloaa
open Go.RowKit
set_option linter.unusedVariables false

set_option maxHeartbeats 6400000 in
set_option maxRecDepth 100000 in
theorem spares_walk (A : Option Addr) (n c : Nat) (ls : List Int) (w : World) (hn : ls.length = n) (hs : Sl w A (ls.map iv)) (hn63 : n ≤ 9223372036854775807) (hib : IB ls) :
    Calls Try.prog 4 #[.slice A n c] w fun e w' => e = .returned (.bool true) ∧ Below w.heap.size w w' := by
  have HIB := Lib.hid hib
  have HN := Lib.hid hn
  clear hib hn
  by_cases hl : n ≤ 700
  · have hl' : decide (n ≤ 700) = true := by simpa using hl
    go_enter Try.func4, Try.ntmps4
    go_wp2_with fail
    refine (light_any _ _ _ _).mono ?_
    rw [hl']
    rintro e w1 ⟨rfl, rfl⟩
    go_wp2_with fail
    refine (roll_any _ _ _ ls _ HN.out hs hl HIB.out).mono ?_
    rintro e W ⟨rfl, hd1, hbW⟩
    have hgdW : w.heap.size < W.heap.size := hd1.lt
    obtain ⟨gd, hgd⟩ : ∃ gd, gd = w.heap.size := ⟨_, rfl⟩
    rw [← hgd] at hd1 hgdW ⊢
    have HGD := Lib.hid hgd
    have HBW := Lib.hid hbW
    clear hgd hbW
    go_wp2_with fail
    refine (next_lt gd ls 0 7 _ hd1 (by omega) (by omega)).mono ?_
    rintro e W1 ⟨r, k1, rfl, hr, hd2, hk1, hx1, hg1⟩
    clear hx1 hd1
    have hr6 : r ≤ 6 := by omega
    go_wp2_with fail
    go_loopw [4, 5] (fun v4 v5 wr => ∃ (q k m : Nat) (A' : Option Addr) (c' : Nat) (ps : List Part), v5 = .int .i64 q ∧ ps.length = m ∧ m + q ≤ 6 ∧ v4 = .slice A' m c' ∧ Dice wr gd ls k ∧ W.grownBy wr (some gd) ∧ wr.ownsRow W.heap.size 31 8 (.slice A' m c') m (ps.flatMap Part.cells) ∧ Hid (∀ p ∈ ps, Made wr p ∧ p.valid = true)) (fun _ v5 _ => (intOf v5).toNat)
    case atStart => exact ⟨r, k1, 0, none, 0, [], rfl, rfl, by omega, rfl, hd2, hg1, World.ownsRow_nil _ _ _ _, (by intro p hp; simp at hp : Hid _)⟩
    case round =>
      obtain ⟨q, k, m, A', c', ps, rfl, hm, hmq, rfl, hd, hg, own, hmade⟩ := hrel
      clear hd2 hg1
      have hszr := hg.size
      by_cases h0 : 0 < q
      · obtain ⟨q, rfl⟩ : ∃ p, q = p + 1 := ⟨q - 1, by omega⟩
        have HM := Lib.hid hm
        clear hm
        go_wp2_with fail
        refine (layout_any _ gd ls k _ hd (Nat.le_refl _)).mono ?_
        rintro e W2 ⟨⟨s1, al1, A1, sp1, c1, x31, x41, x51, x61, x71⟩, k2, he, m1, hd2, hk2, hg2⟩
        have he' : e = .returned (.agg #[.int .i64 s1, .int .i64 al1, .slice A1 sp1.length c1, x31, x41, x51, x61, x71]) := he
        subst he'
        clear he
        obtain ⟨ds, hds⟩ := hd.cells
        have own2 := own.kept hg2 (own_blk_ne own hds (by decide))
        have HMADE2 := Lib.hid (made_all_grown hmade.out hg2 hds)
        have hg3 := grown_trans hg hg2
        clear hd hds own hg hg2 hmade
        have hone := m1.one
        have sx3 := store_var (P := Try.prog) hone.h3
        have sx4 := store_var (P := Try.prog) hone.h4
        have sx5 := store_var (P := Try.prog) hone.h5
        have sx6 := store_var (P := Try.prog) hone.h6
        have sx7 := store_var (P := Try.prog) hone.h7
        have hbn := (Below.refl W2.heap.size W2).alloc (Nat.le_refl _) (.cells #[.int .i64 s1, .int .i64 al1, .slice A1 sp1.length c1, x31, x41, x51, x61, x71] 31)
        have hP := Blk.new W2 31 #[.int .i64 s1, .int .i64 al1, .slice A1 sp1.length c1, x31, x41, x51, x61, x71]
        have HONE := Lib.hid hone
        have M1 := Lib.hid m1
        clear hone m1
        go_wp2_with fail
        refine (rvalid_any _ _ _ _ _ _ _ _ _ _ _).mono ?_
        intro e W3 h3
        obtain ⟨he, hb3⟩ := h3
        have hb23 := below_next hbn hb3
        have hP3 := hP.below hb3
        have own3 := below_own own2 hb23
        have hd3 := hd2.below hb23
        have hg4 := grown_trans hg3 (only_of_below hb23 (some gd))
        have m3 := M1.out.below hb23
        have HM3 := Lib.hid (made_all_below HMADE2.out hb23)
        have hlt2 : W2.heap.size < W3.heap.size := hP3.lt
        clear own2 hd2 hg3 hb3 hbn hP sx3 sx4 sx5 sx6 sx7
        cases hv : validB s1 al1 sp1.length with
        | true =>
          rw [hv] at he
          subst he
          obtain ⟨A4, c4, W4, hrun, own4, hg5⟩ := run_part W.heap.size A' c' ps m HM.out own3 (by omega) (by have := hg4.size; omega) ⟨s1, al1, A1, sp1, c1, x31, x41, x51, x61, x71⟩ HONE.out
          have hd5 := hd3.own own3 hg5 hgdW
          have hgw : W.grownBy W4 (some gd) := grown_new hg4 hg5 (fun q hq => (own3.lt q hq).1)
          have HALL : Hid (∀ p ∈ ps ++ [(⟨s1, al1, A1, sp1, c1, x31, x41, x51, x61, x71⟩ : Part)], Made W4 p ∧ p.valid = true) := by
            intro p hp
            rcases List.mem_append.1 hp with h | h
            · exact ⟨(HM3.out p h).1.own_grown own3 hg5, (HM3.out p h).2⟩
            · rw [List.mem_singleton.1 h]
              exact ⟨m3.own_grown own3 hg5, hv⟩
          have HOWN4 := Lib.hid own4
          have HD5 := Lib.hid hd5
          have HGW := Lib.hid hgw
          obtain ⟨⟨b0, b1, b2, b3, b4, b5, b6, b7⟩, bf⟩ := hP3.eight
          clear hv own4 hd5 hgw hg5 hd3 hg4 own3 m3 hP3 bf hb23
          go_wp2
          go_roundw
          case rel => exact ⟨q, k2, m + 1, A4, c4, _, by go_num, by rw [List.length_append, HM.out]; rfl, by omega, rfl, HD5.out, HGW.out, HOWN4.out, HALL⟩
          case measure => simp [intOf]
        | false =>
          rw [hv] at he
          subst he
          have HOWN3 := Lib.hid own3
          have HD3 := Lib.hid hd3
          have HG4 := Lib.hid hg4
          clear hv own3 hd3 hg4 m3 hP3 hb23
          go_wp2
          go_roundw
          case rel => exact ⟨q, k2, m, A', c', ps, by go_num, HM.out, by omega, rfl, HD3.out, HG4.out, HOWN3.out, HM3⟩
          case measure => simp [intOf]
      · obtain rfl : q = 0 := by omega
        -- THE END OF THE FIRST LOOP
        have hvall : ∀ p ∈ ps, p.valid = true := fun p hp => (hmade.out p hp).2
        have hsp : ∀ p ∈ ps, Sl wr p.A (p.sp.map bv) := fun p hp => (hmade.out p hp).1.sp.sl
        have hone : ∀ p ∈ ps, p.one := fun p hp => (hmade.out p hp).1.one
        have hps := parts_own own
        have hbw : Below w.heap.size w wr := HBW.out.grown hg HBW.out.size (fun q hq => by injection hq with hq; rw [← hq, HGD.out]; exact Nat.le_refl _)
        have HVALL := Lib.hid hvall
        have HSP := Lib.hid hsp
        have HONE := Lib.hid hone
        have HPS := Lib.hid hps
        have HM := Lib.hid hm
        have capP := own_cap own
        have HBR := Lib.hid hbw
        clear hvall hsp hone hps own hd hg hbw
        go_wp2_with fail
        refine (lay_any A' m c' ps _ HM.out HPS.out (by omega) HSP.out HONE.out).mono ?_
        rintro e W4 ⟨As, cs, Ao, co, he, hSS, hSO, capS, capO, hb4⟩
        cases hgo : layGo Laid.start ps with
        | none =>
          obtain ⟨hE, hR⟩ := layE_none HVALL.out hgo
          rw [hR, hE] at he
          have he' : e = .returned (.tuple #[.agg #[.int .i64 0, .int .i64 0, .slice As 0 cs, .slice Ao 0 co, .slice none 0 0, .slice none 0 0, .slice none 0 0, .bool false], .int .i64 4]) := he
          subst he'
          have hb5 := below_next HBR.out hb4
          clear he hSS hSO capS capO hgo hE hR hb4 hm
          go_wp2_with fail
          refine (awake16 _).mono ?_
          rintro e w6 ⟨rfl, hb6⟩
          go_wp2
          go_ret
          exact ⟨rfl, below_next (hb5.alloc hb5.size _) hb6⟩
        | some L =>
          obtain ⟨hE, hR⟩ := layE_some HVALL.out hgo
          have hgood := layGo_good ps HVALL.out _ _ _ Laid.good_start hgo
          rw [hR, hE] at he
          rw [hR] at hSS hSO capS capO
          have hof : L.of.length = m := by rw [hgood.of, HM.out, Nat.zero_add]
          have he' : e = .returned (.tuple #[.agg #[.int .i64 L.s, .int .i64 L.al, .slice As L.sp.length cs, .slice Ao L.of.length co, .slice none 0 0, .slice none 0 0, .slice none 0 0, .bool false], .int .i64 0]) := he
          rw [hof] at he' capO
          subst he'
          have hss : (((L.sp.length : Nat) : Int) != L.s) = false := by rw [hgood.sp]; simp
          have g1 := hgood.s0
          have g2 := hgood.s1
          have g4 := hgood.sp
          have hal1 : 1 ≤ L.al := by have := hgood.al; omega
          have hal2 : L.al ≤ 8 := by have := hgood.al; omega
          have b45 := (Below.refl W4.heap.size W4).alloc (Nat.le_refl _) (.cells #[.int .i64 L.s, .int .i64 L.al, .slice As L.sp.length cs, .slice Ao m co, .slice none 0 0, .slice none 0 0, .slice none 0 0, .bool false] 31)
          have hX := Blk.new W4 31 #[.int .i64 L.s, .int .i64 L.al, .slice As L.sp.length cs, .slice Ao m co, .slice none 0 0, .slice none 0 0, .slice none 0 0, .bool false]
          obtain ⟨W5, hW5⟩ : ∃ W5, W5 = W4.alloc (.cells #[.int .i64 L.s, .int .i64 L.al, .slice As L.sp.length cs, .slice Ao m co, .slice none 0 0, .slice none 0 0, .slice none 0 0, .bool false] 31) := ⟨_, rfl⟩
          rw [← hW5] at b45 hX
          have hr5 := below_next hb4 b45
          have ps5 := HPS.out.below hr5
          have sp5 : ∀ p ∈ ps, Sl W5 p.A (p.sp.map bv) := fun p hp => (HSP.out p hp).below hr5
          have ss5 := hSS.below b45
          have so5 := hSO.below b45
          have hb5 := below_next HBR.out hr5
          have HGO := Lib.hid hgo
          have HGOOD := Lib.hid hgood
          have HX := Lib.hid hX
          have HSP5 := Lib.hid sp5
          have HSS5 := Lib.hid ss5.sl
          have HSO5 := Lib.hid so5.sl
          have HB5 := Lib.hid hb5
          have HW5 := Lib.hid hW5
          have HG4 := Lib.hid g4
          have HOF := Lib.hid hof
          have hspl : L.sp.length ≤ 1024 := by omega
          clear he hSS hSO hgo hE hR hgood hof b45 hX hW5 hr5 hb5 sp5 ss5 so5 hb4 g4 hm
          go_wp2_with fail
          rw [← HW5.out]
          have hxl : W4.heap.size < W5.heap.size := HX.out.lt
          have hb0 := Below.refl W5.heap.size W5
          go_loopw [9, 10, 11, 63] (fun v9 v10 v11 v63 wq => ∃ (i : Nat) (M : Laid), i ≤ m ∧ v63 = .int .i64 i ∧ v9 = .int .i64 M.s ∧ v10 = .int .i64 M.al ∧ v11 = .int .i64 (countB M.sp : Nat) ∧ Hid (layGo Laid.start (ps.take i) = some M) ∧ Below W5.heap.size W5 wq) (fun _ _ _ v63 _ => m - (intOf v63).toNat)
          case atStart => exact ⟨0, Laid.start, by omega, rfl, rfl, rfl, rfl, (rfl : _ = _), hb0⟩
          case round =>
            obtain ⟨i, M, hi, rfl, rfl, rfl, rfl, hM, hb⟩ := hrel
            clear hb0
            have hszq := hb.size
            obtain ⟨⟨x0, x1, x2, x3, x4, x5, x6, x7⟩, xf⟩ := (HX.out.below hb).eight
            clear x4 x5 x6 x7 xf
            by_cases hlt : i < m
            · have hip : i < ps.length := by rw [HM.out]; exact hlt
              obtain ⟨pa, po, rfl, q0, q1, q2, q3, q4, q5, q6, q7⟩ := (ps5.below hb).get hip
              have hpv := HVALL.out ps[i] (List.getElem_mem hip)
              have hpo := HONE.out ps[i] (List.getElem_mem hip)
              have hps5 := (HSP5.out ps[i] (List.getElem_mem hip)).below hb
              obtain ⟨l1, l2, l3, l4, l5, l6, l7, l8⟩ := lay_part ps L HGO.out HVALL.out i hip M hM.out
              obtain ⟨v1, v2, v3, v4⟩ := (valid_iff ps[i]).1 hpv
              generalize ps[i] = p at *
              have sx3 := store_var (P := Try.prog) hpo.h3
              have sx4 := store_var (P := Try.prog) hpo.h4
              have sx5 := store_var (P := Try.prog) hpo.h5
              have sx6 := store_var (P := Try.prog) hpo.h6
              have sx7 := store_var (P := Try.prog) hpo.h7
              have hio : i < L.of.length := by rw [HOF.out]; exact hlt
              obtain ⟨ob, oo, rfl, hco⟩ := (HSO5.out.below hb).at_ (k := i) (by simpa using hio)
              rw [List.getElem_map] at hco
              rw [List.getElem?_eq_getElem hio] at l3
              rw [Option.some.inj l3] at hco
              obtain ⟨at_, hat⟩ : ∃ a, a = alignI M.s p.al := ⟨_, rfl⟩
              rw [← hat] at l4 l5 l6 l7 hco
              have hco' : wr.cell? ⟨ob, oo + i, none⟩ = some (.int .i64 at_) := hco
              have m1 := l1.s0
              have m2 := l1.s1
              have m3 := l1.al
              have g4 := HG4.out
              have hLs : at_.toNat + p.sp.length ≤ L.sp.length := by omega
              clear g4
              have hx9 : W4.heap.size < wr.heap.size := by omega
              have hob9 : ob < wr.heap.size := World.block_lt_of_cell? wr _ hco'
              have HAT := Lib.hid hat
              clear hat hco
              have hbv := (Below.refl wr.heap.size wr).alloc (Nat.le_refl _) (.cells #[.int .i64 p.s, .int .i64 p.al, .slice p.A p.sp.length p.c, p.x3, p.x4, p.x5, p.x6, p.x7] 31)
              have hy := Blk.new wr 31 #[.int .i64 p.s, .int .i64 p.al, .slice p.A p.sp.length p.c, p.x3, p.x4, p.x5, p.x6, p.x7]
              obtain ⟨Wv, hWv⟩ : ∃ Wv, Wv = wr.alloc (.cells #[.int .i64 p.s, .int .i64 p.al, .slice p.A p.sp.length p.c, p.x3, p.x4, p.x5, p.x6, p.x7] 31) := ⟨_, rfl⟩
              rw [← hWv] at hbv hy
              have HWv := Lib.hid hWv
              have HBV := Lib.hid (below_next hb hbv)
              have HY := Lib.hid hy
              have HPS5 := Lib.hid (hps5.below hbv)
              have HPW := Lib.hid (HSS5.out.below HBV.out)
              clear hWv hbv hy hb
              go_wp2_with fail
              rw [← HWv.out]
              obtain ⟨⟨x0', x1', x2', x3', x4', x5', x6', x7'⟩, xf⟩ := (HX.out.below HBV.out).eight
              obtain ⟨⟨y0', y1', y2', y3', y4', y5', y6', y7'⟩, yf⟩ := HY.out.eight
              clear x0 x1 x2 x3 x4' x5' x6' x7' y4' y5' y6' y7' xf yf q0 q1 q2 q3 q4 q5 q6 q7 hco' hps5
              have eL : ((at_.toNat : Nat) : Int) = at_ := by omega
              have eH : ((at_.toNat + p.sp.length : Nat) : Int) = at_ + p.s := by omega
              have hcs := cut_sl Wv As L.sp.length cs L.sp HPW.out rfl at_.toNat (at_.toNat + p.sp.length) (by omega) hLs capS
              have eD : at_.toNat + p.sp.length - at_.toNat = p.sp.length := by omega
              have eS : (at_ + p.s).toNat - at_.toNat = p.sp.length := by omega
              rw [eD, l7] at hcs
              have cv1 := fun k => run_convb (P := Try.prog) (Wv.drewN k) 27 9 5 _ p.sp.length (cs - at_.toNat) p.sp Try.underlying27 b5 b9 (hcs.drewN k) rfl
              have cv2 := fun k => run_convb (P := Try.prog) (Wv.drewN k) 27 9 5 p.A p.sp.length p.c p.sp Try.underlying27 b5 b9 (HPS5.out.drewN k) rfl
              have d1 : decide (at_ < M.s) = false := by simpa using l4
              have d2 : decide (p.al ≤ at_ - M.s) = false := by simp; omega
              have d3 : decide (L.s < at_ + p.s) = false := by simpa using l6
              go_quiet (fail)
              clear d1 d2 d3 cv1 cv2 hcs x0' x1' x2' x3'
              generalize (if cs = at_.toNat then As else Option.map (fun x => x.add at_.toNat) As) = Ac
              generalize cs - at_.toNat = cc
              go_wp2_with fail
              go_region
              have hmax : (if M.al < p.al then p.al else M.al) = max M.al p.al := by split <;> omega
              rw [hmax]
              have hcM := countB_le M.sp
              have hcp := countB_le p.sp
              have g5 := l1.sp
              clear hmax
              go_wp2_with fail
              refine (rcount_any _ _ _ p.sp _ rfl (HPS5.out.drewN _) (by omega)).mono ?_
              rintro e wc ⟨rfl, rfl⟩
              go_wp2
              go_roundw
              case rel =>
                have hs1 : (M.add p).s = at_ + p.s := by rw [HAT.out]; rfl
                exact ⟨i + 1, M.add p, by omega, by go_num, by rw [hs1], rfl, by rw [l8]; push_cast; rfl, l2, below_drewN' HBV.out _⟩
              case measure => simp [intOf]; omega
            · obtain rfl : i = m := by omega
              have hML : M = L := by
                have h1 := hM.out
                rw [List.take_of_length_le (by rw [HM.out]; exact Nat.le_refl _), HGO.out] at h1
                exact (Option.some.inj h1).symm
              subst hML
              obtain ⟨⟨z0, z1, z2, z3, z4, z5, z6, z7⟩, xf⟩ := (HX.out.below hb).eight
              have hss := HSS5.out.below hb
              have hab := alignI_bounds M.s M.al g1 HGOOD.out.al
              have hrem : (alignI M.s M.al).tmod M.al = 0 := alignI_mod _ _ g1 HGOOD.out.al
              have hst := fun W => stride_any ⟨M.s, M.al, As, M.sp, cs, .slice Ao i co, .slice none 0 0, .slice none 0 0, .slice none 0 0, .bool false⟩ W g1 (by show M.s ≤ 100000000; omega) (by show -100000000 ≤ M.al; omega) (by show M.al ≤ 100000000; omega)
              simp only [Part.val] at hst
              generalize alignI M.s M.al = S at *
              have HSSD : Hid (Sl wr.drew As (M.sp.map bv)) := Lib.hid hss
              have hsl2 : M.sp.length ≤ 1000000 := by omega
              clear hss ps5
              have hge : decide (M.s ≤ S) = true := by simpa using hab.1
              have d0 : (M.al == 0) = false := by simp; omega
              go_wp2_with fail
              go_region_with (first
                | (go_at_call 32; refine (rcount_any _ _ _ M.sp _ rfl HSSD.out hsl2).mono ?_; rintro e w6 ⟨rfl, rfl⟩)
                | (go_at_call 28; refine (hst _).mono ?_; rintro e w7 ⟨rfl, hb7⟩; have hb8 := below_next (by first | exact hb | exact Below.drew hb | exact Below.drew (Below.drew hb) | exact below_drewN' hb _) hb7; clear hb hb7; obtain ⟨⟨x0, x1, x2, x3, x4, x5, x6, x7⟩, xf⟩ := (HX.out.below hb8).eight)
                | (go_at_call 28; refine (hst _).mono ?_; rintro e w9 ⟨rfl, hb9⟩; have hb10 := below_next (by first | exact hb8 | exact Below.drew hb8 | exact Below.drew (Below.drew hb8) | exact below_drewN' hb8 _) hb9; clear hb8 hb9; obtain ⟨⟨x0, x1, x2, x3, x4, x5, x6, x7⟩, xf⟩ := (HX.out.below hb10).eight)
                | (go_at_call 19; refine (awake16 _).mono ?_; rintro e w11 ⟨rfl, hb11⟩; have hb12 := below_next (by first | exact hb10 | exact Below.drew hb10 | exact Below.drew (Below.drew hb10) | exact below_drewN' hb10 _) hb11; clear hb10 hb11))
              all_goals
                go_wp2
                go_ret
                exact ⟨rfl, below_next HB5.out hb12⟩
  · have hl' : decide (n ≤ 700) = false := by simpa using hl
    go_enter Try.func4, Try.ntmps4
    go_wp2_with fail
    refine (light_any _ _ _ _).mono ?_
    rw [hl']
    rintro e w1 ⟨rfl, rfl⟩
    go_wp2_with fail
    refine (awake16 _).mono ?_
    rintro e w1 ⟨rfl, hb⟩
    go_wp2
    go_ret
    exact ⟨rfl, hb⟩
end Go.Proofs.Ytamhigknobdloaa
