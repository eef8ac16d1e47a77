/- The walk of the law ProductLays; conditions: the arguments are readable. -/
import Derived.Test.YtamhigknobdloaaLj
namespace Go.Proofs.Ytamhigknobdloaa
open Go.RowKit
set_option linter.unusedVariables false

theorem layR_of (ps : List Part) : (layR ps).of.length ≤ ps.length ∧ (layR ps).sp.length ≤ 1024 := by
  have hg := layR_good ps
  refine ⟨?_, by omega⟩
  by_cases hb : ps.any (fun p => !p.valid) = true
  · unfold layR; rw [if_pos hb]; simp
  · have hv : ∀ p ∈ ps, p.valid = true := by
      intro p hp
      cases h : p.valid with
      | true => rfl
      | false => exact absurd (List.any_eq_true.2 ⟨p, hp, by rw [h]; rfl⟩) hb
    cases hgo : layGo Laid.start ps with
    | none => rw [(layE_none hv hgo).2]; simp
    | some L =>
      rw [(layE_some hv hgo).2, (layGo_good ps hv _ _ _ Laid.good_start hgo).of]
      omega
/-- One of the rows that the law goes over. -/
structure Row3 (W : World) (A : Option Addr) (n : Nat) (xs : List Part) : Prop where
  len : xs.length = n
  le : n ≤ 1000
  at_ : Parts W A xs
  sp : ∀ p ∈ xs, Sl W p.A (p.sp.map bv)
  one : ∀ p ∈ xs, p.one
  sm : ∀ p ∈ xs, p.sp.length ≤ 2000
theorem Row3.below {W W' : World} {A : Option Addr} {n : Nat} {xs : List Part} (h : Row3 W A n xs) (hb : Below W.heap.size W W') : Row3 W' A n xs :=
  ⟨h.len, h.le, h.at_.below hb, fun p hp => (h.sp p hp).below hb, h.one, h.sm⟩
theorem valid_val (p : Part) : p.valid = validB p.s p.al p.sp.length := rfl

set_option maxHeartbeats 12800000 in
set_option maxRecDepth 100000 in
theorem lays_walk (A : Option Addr) (n c : Nat) (ps : List Part) (Z : Option Addr) (nz cz : Nat) (ls : List Int) (at_ al : Int) (w : World) (hn : ps.length = n) (hs : Parts w A ps) (hsp : ∀ p ∈ ps, Sl w p.A (p.sp.map bv)) (hone : ∀ p ∈ ps, p.one) (hn63 : n ≤ 9223372036854775807)
    (hlen63 : ∀ p ∈ ps, p.sp.length ≤ 9223372036854775807)
    (hnz : ls.length = nz) (hz : Sl w Z (ls.map iv)) (hnz63 : nz ≤ 9223372036854775807) (hib : IB ls) (h0 : 0 ≤ at_) (h1 : at_ ≤ 65535) (h2 : 0 ≤ al) (h3 : al ≤ 65535) :
    Calls Try.prog 3 #[.slice A n c, .slice Z nz cz, .int .u16 at_, .int .u16 al] w fun e w' => e = .returned (.bool true) ∧ Below w.heap.size w w' := by
  have HIB := Lib.hid hib
  have HN := Lib.hid hn
  have HNZ := Lib.hid hnz
  have HSP := Lib.hid hsp
  have HONE := Lib.hid hone
  have HS := Lib.hid hs
  have HZ := Lib.hid hz
  have H63 := Lib.hid hlen63
  clear hib hn hnz hsp hone hs hz hlen63
  by_cases hbig : 40 < n
  · have hd : decide ((40 : Int) < n) = true := by simp; omega
    go_enter Try.func3, Try.ntmps3
    go_wp2_with fail
    refine (awake16 _).mono ?_
    rintro e w1 ⟨rfl, hb⟩
    go_wp2
    go_ret
    exact ⟨rfl, hb⟩
  have hd : decide ((40 : Int) < n) = false := by simp; omega
  by_cases hl : nz ≤ 700
  · have hl' : decide (nz ≤ 700) = true := by simpa using hl
    have hb0 := Below.refl w.heap.size w
    go_enter Try.func3, Try.ntmps3
    go_wp2_with fail
    refine (light_any _ _ _ _).mono ?_
    rw [hl']
    rintro e w1 ⟨rfl, rfl⟩
    go_wp2_with fail
    clear hl' hd
    go_loopw [34] (fun v34 wr => ∃ k : Nat, k ≤ n ∧ v34 = .int .i64 k ∧ Hid (∀ p ∈ ps.take k, p.sp.length ≤ 2000) ∧ Below w.heap.size w wr) (fun v34 _ => n - (intOf v34).toNat)
    case atStart => exact ⟨0, by omega, rfl, (by intro p hp; simp at hp), hb0⟩
    case round =>
      obtain ⟨k, hk, rfl, hsm, hb⟩ := hrel
      clear hb0
      by_cases hlt : k < n
      · have hkp : k < ps.length := by rw [HN.out]; exact hlt
        obtain ⟨b, off, rfl, c0, c1, c2, c3, c4, c5, c6, c7⟩ := (HS.out.below hb).get hkp
        have hpo := HONE.out ps[k] (List.getElem_mem hkp)
        have hp63 := H63.out ps[k] (List.getElem_mem hkp)
        have htk : ps.take (k + 1) = ps.take k ++ [ps[k]] := List.take_succ_eq_append_getElem hkp
        have HTK := Lib.hid htk
        clear htk
        generalize hpk : ps[k] = p at *
        have HPK := Lib.hid hpk
        clear hpk
        have sx3 := store_var (P := Try.prog) hpo.h3
        have sx4 := store_var (P := Try.prog) hpo.h4
        have sx5 := store_var (P := Try.prog) hpo.h5
        have sx6 := store_var (P := Try.prog) hpo.h6
        have sx7 := store_var (P := Try.prog) hpo.h7
        have hbn := hb.alloc hb.size (.cells #[.int .i64 p.s, .int .i64 p.al, .slice p.A p.sp.length p.c, p.x3, p.x4, p.x5, p.x6, p.x7] 31)
        have HBN := Lib.hid hbn
        clear hpo hbn
        by_cases hbig2 : 2000 < p.sp.length
        · have hd2 : decide ((2000 : Int) < p.sp.length) = true := by simp; omega
          go_wp2_with fail
          refine (awake16 _).mono ?_
          rintro e w1 ⟨rfl, hb1⟩
          go_wp2
          go_ret
          exact ⟨rfl, below_next HBN.out hb1⟩
        · have hd2 : decide ((2000 : Int) < p.sp.length) = false := by simp; omega
          go_wp2_with fail
          go_roundw
          case rel => exact ⟨k + 1, by omega, by go_num, (by
            show ∀ q ∈ ps.take (k + 1), _
            rw [HTK.out]
            intro q hq
            rcases List.mem_append.1 hq with h | h
            · exact hsm.out q h
            · rw [List.mem_singleton.1 h]; omega), HBN.out⟩
          case measure => simp [intOf]; omega
      · obtain rfl : k = n := by omega
        have hsm' : ∀ p ∈ ps, p.sp.length ≤ 2000 := by
          have := hsm.out
          rwa [List.take_of_length_le (by rw [HN.out]; exact Nat.le_refl _)] at this
        have HSM := Lib.hid hsm'
        have HB := Lib.hid hb
        clear hsm hsm' hk hlt hb
        go_wp2_with fail
        refine (roll_any _ _ _ ls _ HNZ.out (HZ.out.below HB.out) hl HIB.out).mono ?_
        rintro e W ⟨rfl, hd1, hbW⟩
        have hgdW : wr.heap.size < W.heap.size := hd1.lt
        obtain ⟨gd, hgd⟩ : ∃ gd, gd = wr.heap.size := ⟨_, rfl⟩
        rw [← hgd] at hd1 hgdW
        have HGD := Lib.hid hgd
        have hbw := below_next HB.out hbW
        have HBW := Lib.hid hbw
        have hwgd : w.heap.size ≤ gd := by rw [hgd]; exact HB.out.size
        clear hgd hbW hbw
        go_wp2_with fail
        rw [← HGD.out]
        refine (next_lt gd ls 0 7 _ hd1 (by omega) (by omega)).mono ?_
        rintro e W1 ⟨r, k1, rfl, hr, hd2, hk1, hx1, hg1⟩
        clear hx1
        have hr6 : r ≤ 6 := by omega
        have hrows : RowsL W gd ls k1 (.slice none 0 0) [] (.slice none 0 0) [] W1 := ⟨World.ownsRow_nil _ _ _ _, World.ownsRow_nil _ _ _ _, (by intro b h; cases h), hd2, hgdW, hg1, (by intro p hp; simp at hp), (by intro p hp; simp at hp)⟩
        clear hd1 hd2 hg1
        go_wp2_with fail
        go_loopw [12, 13, 14] (fun v12 v13 v14 wq => ∃ (q k' : Nat) (A1 A2 : Option Addr) (c1 c2 : Nat) (ps1 qs1 : List Part), v14 = .int .i64 q ∧ v12 = .slice A1 ps1.length c1 ∧ v13 = .slice A2 qs1.length c2 ∧ ps1.length + q ≤ 6 ∧ qs1.length + q ≤ 6 ∧ RowsL W gd ls k' (.slice A1 ps1.length c1) ps1 (.slice A2 qs1.length c2) qs1 wq) (fun _ _ v14 _ => (intOf v14).toNat)
        case atStart => exact ⟨r, k1, none, none, 0, 0, [], [], rfl, rfl, rfl, by simp; omega, by simp; omega, hrows⟩
        case round =>
          obtain ⟨q, k', A1, A2, c1, c2, ps1, qs1, rfl, rfl, rfl, hq1, hq2, H⟩ := hrel
          clear hrows
          by_cases hq0 : 0 < q
          · obtain ⟨q, rfl⟩ : ∃ p, q = p + 1 := ⟨q - 1, by omega⟩
            have HH := Lib.hid H
            clear H
            go_wp2_with fail
            refine (layout_any _ gd ls k' _ HH.out.dice (Nat.le_refl _)).mono ?_
            rintro e W2 ⟨p, k2, he, m1, hd2, hk2, hg2⟩
            have H2 := HH.out.dices hd2 hg2
            obtain ⟨A3, c3, W3, hr3, H3, hs3⟩ := H2.app (by omega) p m1.odd
            have H3' := Lib.hid H3
            clear H2 HH hd2 hg2 m1
            have he' : e = .returned (.agg #[.int .i64 p.s, .int .i64 p.al, .slice p.A p.sp.length p.c, p.x3, p.x4, p.x5, p.x6, p.x7]) := he
            subst he'
            clear he H3
            go_wp2_with fail
            refine (odd_any gd ls k2 _ H3'.out.dice).mono ?_
            rintro e W4 ⟨p', k4, he, o4, hd4, hk4, hg4⟩
            have H4 := H3'.out.dices hd4 hg4
            obtain ⟨A5, c5, W5, hr5, H5, hs5⟩ := H4.swap.app (by omega) p' o4
            have H5' := Lib.hid H5
            have he' : e = .returned (.agg #[.int .i64 p'.s, .int .i64 p'.al, .slice p'.A p'.sp.length p'.c, p'.x3, p'.x4, p'.x5, p'.x6, p'.x7]) := he
            subst he'
            clear H3' H4 H5 hd4 hg4 o4 he hr3
            go_wp2_with fail
            go_roundw
            case rel => exact ⟨q, k4, A3, A5, c3, c5, ps1 ++ [p], qs1 ++ [p'], by go_num, by rw [List.length_append, List.length_singleton], by rw [List.length_append, List.length_singleton], by rw [List.length_append, List.length_singleton]; omega, by rw [List.length_append, List.length_singleton]; omega, H5'.out.swap⟩
            case measure => simp [intOf]
          · obtain rfl : q = 0 := by omega
            obtain ⟨wo, rfl⟩ : ∃ wo : World, wo = wr := ⟨_, rfl⟩
            have hbwo : Below w.heap.size w wo := HBW.out.grown H.grown HBW.out.size (fun q hq => by injection hq with hq; rw [← hq]; exact hwgd)
            have r1 : Row3 wo A k ps := ⟨HN.out, by omega, HS.out.below hbwo, fun p hp => (HSP.out p hp).below hbwo, HONE.out, HSM.out⟩
            have r2 : Row3 wo A1 ps1.length ps1 := ⟨rfl, by omega, Sl.of_own8 H.own, fun p hp => (H.odd p hp).sp.sl, fun p hp => (H.odd p hp).one, fun p hp => (H.odd p hp).len⟩
            have r3 : Row3 wo A2 qs1.length qs1 := ⟨rfl, by omega, Sl.of_own8 H.own', fun p hp => (H.odd' p hp).sp.sl, fun p hp => (H.odd' p hp).one, fun p hp => (H.odd' p hp).len⟩
            obtain ⟨WL, hWL⟩ : ∃ WL, WL = wo.alloc (.cells #[.slice A k c, .slice A1 ps1.length c1, .slice A2 qs1.length c2] 22) := ⟨_, rfl⟩
            have hbL : Below wo.heap.size wo WL := by rw [hWL]; exact (Below.refl _ _).alloc (Nat.le_refl _) _
            have hB3 : Blk WL wo.heap.size 22 #[.slice A k c, .slice A1 ps1.length c1, .slice A2 qs1.length c2] := by rw [hWL]; exact Blk.new _ _ _
            have gen : ∀ j, j < 3 → ∃ A' n' c' xs, WL.cell? ⟨wo.heap.size, j, none⟩ = some (.slice A' n' c') ∧ Row3 WL A' n' xs := by
              intro j hj
              rw [hB3.cell]
              rcases (show j = 0 ∨ j = 1 ∨ j = 2 by omega) with rfl | rfl | rfl
              · exact ⟨_, _, _, _, rfl, r1.below hbL⟩
              · exact ⟨_, _, _, _, rfl, r2.below hbL⟩
              · exact ⟨_, _, _, _, rfl, r3.below hbL⟩
            have GEN := Lib.hid gen
            have HWL := Lib.hid hWL
            have HBL := Lib.hid (below_next hbwo hbL)
            have hlwo : wo.heap.size < WL.heap.size := hB3.lt
            have hb00 := Below.refl WL.heap.size WL
            clear gen hWL hbL hB3 r1 r2 r3 hbwo H
            go_wp2_with fail
            rw [← HWL.out]
            go_loopw [67] (fun v67 wq => ∃ j : Nat, j ≤ 3 ∧ v67 = .int .i64 j ∧ Below WL.heap.size WL wq) (fun v67 _ => 3 - (intOf v67).toNat)
            case atStart => exact ⟨0, by omega, rfl, hb00⟩
            case round =>
              obtain ⟨j, hj, rfl, hb⟩ := hrel
              clear hb00
              obtain ⟨wp, rfl⟩ : ∃ wp : World, wp = wr := ⟨_, rfl⟩
              by_cases hj3 : j < 3
              · obtain ⟨A', n', c', xs, hcj, R⟩ := GEN.out j hj3
                have hcj' : wp.cell? ⟨wo.heap.size, j, none⟩ = some (.slice A' n' c') := (hb.cell (p := ⟨wo.heap.size, j, none⟩) hlwo).trans hcj
                have Rp := Lib.hid (R.below hb)
                have HBp := Lib.hid hb
                have hn' := R.le
                clear hcj R hb
                go_wp2_with fail
                refine (lay_any A' n' c' xs _ Rp.out.len Rp.out.at_ hn' Rp.out.sp Rp.out.one).mono ?_
                rintro e W8 ⟨As, cs, Ao, co, he, hSS, hSO, capS, capO, hb8⟩
                have hlen := layR_of xs
                obtain ⟨L, hL⟩ : ∃ L, L = layR xs := ⟨_, rfl⟩
                obtain ⟨E, hE⟩ : ∃ E, E = layE xs := ⟨_, rfl⟩
                rw [← hL, ← hE] at he
                rw [← hL] at hSS hSO hlen
                have hle1 := hlen.1
                have hle2 := hlen.2
                rw [Rp.out.len] at hle1
                have he' : e = .returned (.tuple #[.agg #[.int .i64 L.s, .int .i64 L.al, .slice As L.sp.length cs, .slice Ao L.of.length co, .slice none 0 0, .slice none 0 0, .slice none 0 0, .bool false], .int .i64 E]) := he
                subst he'
                have hb9 := hb8.alloc hb8.size (.cells #[.int .i64 L.s, .int .i64 L.al, .slice As L.sp.length cs, .slice Ao L.of.length co, .slice none 0 0, .slice none 0 0, .slice none 0 0, .bool false] 31)
                have hX := Blk.new W8 31 #[.int .i64 L.s, .int .i64 L.al, .slice As L.sp.length cs, .slice Ao L.of.length co, .slice none 0 0, .slice none 0 0, .slice none 0 0, .bool false]
                have hS9 := hSS.sl.alloc (.cells #[.int .i64 L.s, .int .i64 L.al, .slice As L.sp.length cs, .slice Ao L.of.length co, .slice none 0 0, .slice none 0 0, .slice none 0 0, .bool false] 31)
                have hO9 := hSO.sl.alloc (.cells #[.int .i64 L.s, .int .i64 L.al, .slice As L.sp.length cs, .slice Ao L.of.length co, .slice none 0 0, .slice none 0 0, .slice none 0 0, .bool false] 31)
                have HB9 := Lib.hid hb9
                have HX := Lib.hid hX
                have HS9 := Lib.hid hS9
                have HO9 := Lib.hid hO9
                have HL := Lib.hid hL
                have HE := Lib.hid hE
                clear he hSS hSO capS capO hb8 hb9 hX hS9 hO9 hL hE hlen hcj'
                go_wp2_with fail
                refine (rlay_any A' n' c' xs _ Rp.out.len (Rp.out.at_.below HB9.out) hn' (fun p hp => (Rp.out.sp p hp).below HB9.out) Rp.out.one).mono ?_
                rintro e W10 ⟨Bs, ds, Bo, do_, he, hSS, hSO, capS, capO, hb10⟩
                rw [← HL.out, ← HE.out] at he
                rw [← HL.out] at hSS hSO
                have he' : e = .returned (.tuple #[.agg #[.int .i64 L.s, .int .i64 L.al, .slice Bs L.sp.length ds, .slice Bo L.of.length do_, .slice none 0 0, .slice none 0 0, .slice none 0 0, .bool false], .int .i64 E]) := he
                subst he'
                have hX' := HX.out.below hb10
                have hlX : W8.heap.size < W10.heap.size := hX'.lt
                obtain ⟨⟨x0, x1, x2, x3, x4, x5, x6, x7⟩, xf⟩ := hX'.eight
                have hself : (E != E) = false := by simp
                have hb11 := below_next HB9.out hb10
                have HS10 := Lib.hid ((HS9.out.below hb10).alloc (.cells #[.int .i64 L.s, .int .i64 L.al, .slice Bs L.sp.length ds, .slice Bo L.of.length do_, .slice none 0 0, .slice none 0 0, .slice none 0 0, .bool false] 31))
                have HO10 := Lib.hid ((HO9.out.below hb10).alloc (.cells #[.int .i64 L.s, .int .i64 L.al, .slice Bs L.sp.length ds, .slice Bo L.of.length do_, .slice none 0 0, .slice none 0 0, .slice none 0 0, .bool false] 31))
                have HS11 := Lib.hid (hSS.sl.alloc (.cells #[.int .i64 L.s, .int .i64 L.al, .slice Bs L.sp.length ds, .slice Bo L.of.length do_, .slice none 0 0, .slice none 0 0, .slice none 0 0, .bool false] 31))
                have HO11 := Lib.hid (hSO.sl.alloc (.cells #[.int .i64 L.s, .int .i64 L.al, .slice Bs L.sp.length ds, .slice Bo L.of.length do_, .slice none 0 0, .slice none 0 0, .slice none 0 0, .bool false] 31))
                have HB11 := Lib.hid (hb11.alloc hb11.size (.cells #[.int .i64 L.s, .int .i64 L.al, .slice Bs L.sp.length ds, .slice Bo L.of.length do_, .slice none 0 0, .slice none 0 0, .slice none 0 0, .bool false] 31))
                clear he hSS hSO capS capO hb10 hX' hb11 HS9 HO9
                go_wp2_with fail
                refine (same0 L As cs Ao co Bs ds Bo do_ _ HS10.out HS11.out HO10.out HO11.out (by omega) (by omega)).mono ?_
                rintro e W12 ⟨rfl, hb12⟩
                have hb13 := below_next HB11.out hb12
                have HB13 := Lib.hid hb13
                clear x0 x1 x2 x3 x4 x5 x6 x7 xf hself hb12 HS10 HS11 HO10 HO11 HB11 HB9 HX hlX
                go_wp2_with fail
                have hb14 := HB13.out
                go_loopw [92] (fun v92 wq => ∃ i : Nat, i ≤ n' ∧ v92 = .int .i64 i ∧ Below wp.heap.size wp wq) (fun v92 _ => n' - (intOf v92).toNat)
                case atStart => exact ⟨0, by omega, rfl, hb14⟩
                case round =>
                  obtain ⟨i, hi, rfl, hb⟩ := hrel
                  clear hb14
                  by_cases hin : i < n'
                  · have hix : i < xs.length := by rw [Rp.out.len]; exact hin
                    obtain ⟨b, off, rfl, c0, c1', c2', c3, c4, c5, c6, c7⟩ := (Rp.out.at_.below hb).get hix
                    have hpo := Rp.out.one xs[i] (List.getElem_mem hix)
                    generalize xs[i] = p at *
                    have sx3 := store_var (P := Try.prog) hpo.h3
                    have sx4 := store_var (P := Try.prog) hpo.h4
                    have sx5 := store_var (P := Try.prog) hpo.h5
                    have sx6 := store_var (P := Try.prog) hpo.h6
                    have sx7 := store_var (P := Try.prog) hpo.h7
                    have hbn := hb.alloc hb.size (.cells #[.int .i64 p.s, .int .i64 p.al, .slice p.A p.sp.length p.c, p.x3, p.x4, p.x5, p.x6, p.x7] 31)
                    have hP := Blk.new wr 31 #[.int .i64 p.s, .int .i64 p.al, .slice p.A p.sp.length p.c, p.x3, p.x4, p.x5, p.x6, p.x7]
                    obtain ⟨Wv, hWv⟩ : ∃ Wv, Wv = wr.alloc (.cells #[.int .i64 p.s, .int .i64 p.al, .slice p.A p.sp.length p.c, p.x3, p.x4, p.x5, p.x6, p.x7] 31) := ⟨_, rfl⟩
                    rw [← hWv] at hbn hP
                    obtain ⟨g, hg⟩ : ∃ g, g = wr.heap.size := ⟨_, rfl⟩
                    rw [← hg] at hP
                    have hgl : g < Wv.heap.size := hP.lt
                    have HWv := Lib.hid hWv
                    have HG := Lib.hid hg
                    have HP := Lib.hid hP
                    have HBN := Lib.hid hbn
                    clear hpo hWv hg hP hbn
                    go_wp2_with fail
                    rw [← HWv.out, ← HG.out]
                    obtain ⟨⟨x0, x1, x2, x3, x4, x5, x6, x7⟩, xf⟩ := HP.out.eight
                    have hbw0 := Below.refl Wv.heap.size Wv
                    have hva := fun W => rvalid_any p.s p.al p.A p.sp.length p.c p.x3 p.x4 p.x5 p.x6 p.x7 W
                    cases hv : validB p.s p.al p.sp.length with
                    | true =>
                      rw [hv] at hva
                      obtain ⟨v1, v2, v3, v4⟩ := (valid_iff p).1 hv
                      have hst := fun W => stride_any p W v1 (by omega) (by omega) (by omega)
                      have hrst := fun W => rstride_any p W v1 (by omega) (by omega) (by omega)
                      simp only [Part.val] at hst hrst
                      generalize alignI p.s p.al = S at *
                      have hself : (S != S) = false := by simp
                      clear v1 v2 v3 v4 hv c0 c1' c2' c3 c4 c5 c6 c7
                      go_region_with (first
                        | (go_at_call 27; refine (hva _).mono ?_; rintro e w6 ⟨rfl, hb6⟩; have hb7 := below_next (by first | exact hbw0 | exact Below.drew hbw0 | exact Below.drew (Below.drew hbw0) | exact below_drewN' hbw0 _) hb6; clear hb6 hbw0; obtain ⟨⟨x0, x1, x2, x3, x4, x5, x6, x7⟩, xf⟩ := (HP.out.below hb7).eight)
                        | (go_at_call 28; refine (hst _).mono ?_; rintro e w7 ⟨rfl, hb8⟩; have hb9 := below_next (by first | exact hb7 | exact Below.drew hb7 | exact Below.drew (Below.drew hb7) | exact below_drewN' hb7 _) hb8; clear hb7 hb8; obtain ⟨⟨x0, x1, x2, x3, x4, x5, x6, x7⟩, xf⟩ := (HP.out.below hb9).eight)
                        | (go_at_call 29; refine (hrst _).mono ?_; rintro e w8 ⟨rfl, hb10⟩; have hb11 := below_next (by first | exact hb9 | exact Below.drew hb9 | exact Below.drew (Below.drew hb9) | exact below_drewN' hb9 _) hb10; clear hb9 hb10))
                      all_goals
                        go_wp2
                        go_roundw
                        case rel => exact ⟨i + 1, by omega, by go_num, below_next HBN.out hb11⟩
                        case measure => simp [intOf]; omega
                    | false =>
                      rw [hv] at hva
                      clear hv c0 c1' c2' c3 c4 c5 c6 c7
                      go_region_with (first
                        | (go_at_call 27; refine (hva _).mono ?_; rintro e w6 ⟨rfl, hb6⟩; have hb7 := below_next (by first | exact hbw0 | exact Below.drew hbw0 | exact Below.drew (Below.drew hbw0) | exact below_drewN' hbw0 _) hb6; clear hb6 hbw0))
                      all_goals
                        go_wp2
                        go_roundw
                        case rel => exact ⟨i + 1, by omega, by go_num, below_next HBN.out hb7⟩
                        case measure => simp [intOf]; omega
                  · obtain rfl : i = n' := by omega
                    go_wp2
                    go_roundw
                    case rel => (repeat apply Exists.intro); exact ⟨⟨j + 1, by omega, by go_num, below_next HBp.out hb⟩, rfl⟩
                    case measure => simp [intOf]; omega
              · obtain rfl : j = 3 := by omega
                have hbf := below_next HBL.out hb
                have e1 := Int.emod_nonneg al (show (20 : Int) ≠ 0 by omega)
                have e2 := Int.emod_lt_of_pos al (show (0 : Int) < 20 by omega)
                have ha := fun W => align_any at_ (al % 20) W h0 (by omega) (by omega) (by omega)
                have hra := fun W => ralign_any at_ (al % 20) W h0 (by omega) (by omega) (by omega)
                generalize alignI at_ (al % 20) = S at *
                have hself : (S == S) = true := by simp
                have HBF := Lib.hid hbf
                clear hb hbf
                go_wp2_with fail
                refine (ha _).mono ?_
                rintro e w5 ⟨rfl, rfl⟩
                go_wp2_with fail
                refine (hra _).mono ?_
                rintro e w6 ⟨rfl, rfl⟩
                go_wp2_with fail
                refine (awake16 _).mono ?_
                rintro e w7 ⟨rfl, hb7⟩
                go_wp2
                go_ret
                exact ⟨rfl, below_next HBF.out hb7⟩
  · have hl' : decide (nz ≤ 700) = false := by simpa using hl
    go_enter Try.func3, Try.ntmps3
    go_wp2_with fail
    refine (light_any _ _ _ _).mono ?_
    rw [hl']
    rintro e w1 ⟨rfl, rfl⟩
    go_wp2_with fail
    refine (awake16 _).mono ?_
    rintro e w1 ⟨rfl, hb⟩
    go_wp2
    go_ret
    exact ⟨rfl, hb⟩
end Go.Proofs.Ytamhigknobdloaa
