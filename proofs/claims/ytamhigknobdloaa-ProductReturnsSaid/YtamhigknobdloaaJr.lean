/- The walk of the law ProductReturns; no condition but that the numbers are readable. -/
import Derived.Test.YtamhigknobdloaaJs
namespace Go.Proofs.Ytamhigknobdloaa
open Go.RowKit
set_option linter.unusedVariables false

/-- What stands while the bytes of a part are made. -/
structure FillAt (Wi : World) (gd : Nat) (ls : List Int) (k : Nat) (g9 N i : Nat) (W : World) : Prop where
  dice : Dice W gd ls k
  grown : Wi.grownBy W (some gd)
  bytes : ∃ X : List UInt8, X.length = N ∧ (∀ j (h : j < X.length), j < i → X[j] ≠ 0) ∧ Blk W g9 5 (X.map bv).toArray
theorem FillAt.dices {Wi W W' : World} {gd : Nat} {ls : List Int} {k k' g9 N i : Nat} (h : FillAt Wi gd ls k g9 N i W) (hd : Dice W' gd ls k') (hg : W.grownBy W' (some gd)) (hne : gd ≠ g9) : FillAt Wi gd ls k' g9 N i W' := by
  obtain ⟨X, x1, x2, x3⟩ := h.bytes
  exact ⟨hd, grown_trans h.grown hg, ⟨X, x1, x2, x3.grown hg (fun e => hne (by injection e))⟩⟩
theorem FillAt.put {Wi W : World} {gd : Nat} {ls : List Int} {k g9 N i : Nat} (h : FillAt Wi gd ls k g9 N i W) (hi : i < N) (b : UInt8) (hb : b ≠ 0) (hne : gd < g9) (hw : Wi.heap.size ≤ g9) : FillAt Wi gd ls k g9 N (i + 1) (W.setCell ⟨g9, i, none⟩ (bv b)) := by
  obtain ⟨X, x1, x2, x3⟩ := h.bytes
  refine ⟨h.dice.far (grown_set W g9 i (bv b)) (fun q hq => by injection hq with hq; omega), grown_new h.grown (grown_set W g9 i (bv b)) (fun q hq => by injection hq with hq; omega), ⟨X.set i b, by simpa using x1, fun j hj hji => ?_, ?_⟩⟩
  · by_cases e : j = i
    · subst e; rw [List.getElem_set_self]; exact hb
    · rw [List.getElem_set_ne (by omega)]; exact x2 j (by simpa using hj) (by omega)
  · have := x3.set_ i (bv b)
    rw [List.map_set]
    simpa using this
theorem nz_byte (r : Nat) (h : r < 255) : (1 + (r : Int)) = ((UInt8.ofNat (1 + r)).toNat : Int) ∧ UInt8.ofNat (1 + r) ≠ 0 := by
  have e : (UInt8.ofNat (1 + r)).toNat = 1 + r := by rw [UInt8.toNat_ofNat']; omega
  refine ⟨by rw [e]; omega, fun h0 => ?_⟩
  rw [h0] at e
  simp at e
  omega

set_option maxHeartbeats 3000000 in
set_option maxRecDepth 100000 in
theorem returns_walk (A : Option Addr) (n c : Nat) (ls : List Int) (w : World) (hn : ls.length = n) (hs : Sl w A (ls.map iv)) (hn63 : n ≤ 9223372036854775807) (hib : IB ls) :
    Calls Try.prog 10 #[.slice A n c] w fun e w' => e = .returned (.bool true) ∧ Below w.heap.size w w' := by
  have HIB := Lib.hid hib
  have HN := Lib.hid hn
  clear hib hn
  by_cases hl : n ≤ 700
  · have hl' : decide (n ≤ 700) = true := by simpa using hl
    go_enter Try.func10, Try.ntmps10
    go_wp2_with fail
    refine (light_any _ _ _ _).mono ?_
    rw [hl']
    rintro e w1 ⟨rfl, rfl⟩
    go_wp2_with fail
    refine (roll_any _ _ _ ls _ HN.out hs hl HIB.out).mono ?_
    rintro e W ⟨rfl, hd1, hbW⟩
    have hgdW : w.heap.size < W.heap.size := hd1.lt
    obtain ⟨gd, hgd⟩ : ∃ gd, gd = w.heap.size := ⟨_, rfl⟩
    rw [← hgd] at hd1 hgdW ⊢
    have HGD := Lib.hid hgd
    have HBW := Lib.hid hbW
    clear hgd hbW hs hl'
    go_wp2_with fail
    refine (next_lt gd ls 0 7 _ hd1 (by omega) (by omega)).mono ?_
    rintro e W1 ⟨r, k1, rfl, hr, hd2, hk1, hx1, hg1⟩
    clear hx1 hd1
    have hr6 : r ≤ 6 := by omega
    have hrows : RowsR W gd ls k1 (.slice none 0 0) [] (.slice none 0 0) [] (.slice none 0 0) W1 := ⟨World.ownsRow_nil _ _ _ _, World.ownsRow_nil _ _ _ _, World.ownsRow_nil _ _ _ _, hd2, hgdW, hg1, rfl, (by intro i h1; simp at h1)⟩
    clear hd2 hg1
    go_wp2_with fail
    go_loopw [4, 5, 6, 7] (fun v4 v5 v6 v7 wr => ∃ (q k m : Nat) (A4 A5 A6 : Option Addr) (c4 c5 c6 : Nat) (ps qs : List Part), v7 = .int .i64 q ∧ ps.length = m ∧ m + q ≤ 6 ∧ v4 = .slice A4 m c4 ∧ v5 = .slice A5 m c5 ∧ v6 = .slice A6 m c6 ∧ RowsR W gd ls k (.slice A4 m c4) ps (.slice A5 m c5) qs (.slice A6 m c6) wr) (fun _ _ _ v7 _ => (intOf v7).toNat)
    case atStart => exact ⟨r, k1, 0, none, none, none, 0, 0, 0, [], [], rfl, rfl, by omega, rfl, rfl, rfl, hrows⟩
    case round =>
      obtain ⟨q, k, m, A4, A5, A6, c4, c5, c6, ps, qs, rfl, hm, hmq, rfl, rfl, rfl, H⟩ := hrel
      clear hrows
      obtain ⟨wo, rfl⟩ : ∃ wo : World, wo = wr := ⟨_, rfl⟩
      by_cases h0 : 0 < q
      · obtain ⟨q, rfl⟩ : ∃ p, q = p + 1 := ⟨q - 1, by omega⟩
        have HM := Lib.hid hm
        have HH := Lib.hid H
        clear hm H
        go_wp2_with fail
        refine (layout_any _ gd ls k _ HH.out.dice (Nat.le_refl _)).mono ?_
        rintro e W2 ⟨⟨s1, al1, A1, sp1, c1, x31, x41, x51, x61, x71⟩, k2, he, m1, hd2, hk2, hg2⟩
        have he' : e = .returned (.agg #[.int .i64 s1, .int .i64 al1, .slice A1 sp1.length c1, x31, x41, x51, x61, x71]) := he
        subst he'
        have H2 := HH.out.dices hd2 hg2
        have hszW2 := H2.grown.size
        have hone := m1.one
        have sx3 := store_var (P := Try.prog) hone.h3
        have sx4 := store_var (P := Try.prog) hone.h4
        have sx5 := store_var (P := Try.prog) hone.h5
        have sx6 := store_var (P := Try.prog) hone.h6
        have sx7 := store_var (P := Try.prog) hone.h7
        have hbn := (Below.refl W2.heap.size W2).alloc (Nat.le_refl _) (.cells #[.int .i64 s1, .int .i64 al1, .slice A1 sp1.length c1, x31, x41, x51, x61, x71] 31)
        have hP := Blk.new W2 31 #[.int .i64 s1, .int .i64 al1, .slice A1 sp1.length c1, x31, x41, x51, x61, x71]
        have HH2 := Lib.hid H2
        have M1 := Lib.hid m1
        clear he m1 hd2 hg2 H2 hone
        go_wp2_with fail
        refine (rvalid_any _ _ _ _ _ _ _ _ _ _ _).mono ?_
        intro e W3 h3
        obtain ⟨he, hb3⟩ := h3
        have hb23 := below_next hbn hb3
        have hP3 := hP.below hb3
        have H3 := HH2.out.below hb23
        have m3 := M1.out.below hb23
        have hlt2 : W2.heap.size < W3.heap.size := hP3.lt
        have hf4 := far_lt HH2.out.own4 (Nat.le_refl W2.heap.size)
        clear HH2 M1 hb3 hbn hP sx3 sx4 sx5 sx6 sx7 hb23
        cases hv : validB s1 al1 sp1.length with
        | false =>
          rw [hv] at he
          subst he
          have HH3 := Lib.hid H3
          clear hv H3 m3 hP3 hf4
          go_wp2
          go_roundw
          case rel => exact ⟨q, k2, m, A4, A5, A6, c4, c5, c6, ps, qs, by go_num, HM.out, by omega, rfl, rfl, rfl, HH3.out⟩
          case measure => simp [intOf]
        | true =>
          rw [hv] at he
          subst he
          have hpv : (⟨s1, al1, A1, sp1, c1, x31, x41, x51, x61, x71⟩ : Part).valid = true := hv
          obtain ⟨v1, v2, v3, v4⟩ := (valid_iff _).1 hpv
          simp only at v1 v2 v3 v4
          obtain ⟨N, hN⟩ := Int.eq_ofNat_of_zero_le v1
          subst hN
          obtain ⟨⟨b0, b1, b2, b3, b4, b5, b6, b7⟩, bf⟩ := hP3.eight
          obtain ⟨g8, hg8⟩ : ∃ g8, g8 = W2.heap.size := ⟨_, rfl⟩
          have hg8W : W.heap.size ≤ g8 := by rw [hg8]; exact hszW2
          rw [← hg8] at hP3 hf4 hlt2
          have HG8 := Lib.hid hg8
          have HPV := Lib.hid hpv
          have HM3 := Lib.hid m3
          have HH3 := Lib.hid H3
          have HP3 := Lib.hid hP3
          have HF4 := Lib.hid hf4
          have hmk := mk27 N (by omega)
          have hgd3 := H3.gdl
          have hW3 := H3.grown.size
          have hfill : FillAt W3 gd ls k2 W3.heap.size N 0 (W3.alloc (.cells (madeCells #[.int .u8 0] N) 5)) := ⟨H3.dice.alloc _, grown_alloc (World.grownBy.refl _ _) _, ⟨List.replicate N 0, by simp, by intro j _ h; omega, by
            have e : ((List.replicate N (0 : UInt8)).map bv).toArray = madeCells #[.int .u8 0] N := by
              apply Array.toList_inj.1
              rw [toList_madeCells_one]
              simp [bv]
            rw [e]; exact Blk.new _ _ _⟩⟩
          have HFILL := Lib.hid hfill
          clear hv hpv m3 H3 hP3 hf4 hg8 hfill v3 b1 b2 b3 b4 b5 b6 b7
          go_wp2_with fail
          rw [← HG8.out]
          clear hmk b0 bf
          have hb44 := HFILL.out
          go_loopw [10, 43] (fun _ v43 wq => ∃ (i k' : Nat), i ≤ N ∧ v43 = .int .i64 i ∧ FillAt W3 gd ls k' W3.heap.size N i wq) (fun _ v43 _ => N - (intOf v43).toNat)
          case atStart => exact ⟨0, k2, by omega, rfl, hb44⟩
          case round =>
            obtain ⟨i, k', hi, rfl, F⟩ := hrel
            clear hb44 HFILL
            by_cases hin : i < N
            · have FF := Lib.hid F
              clear F
              go_wp2_with fail
              refine (next_lt gd ls k' 255 _ FF.out.dice (by omega) (by omega)).mono ?_
              rintro e W5 ⟨r5, k5, rfl, hr5, hd5, hk5, hx5, hg5⟩
              clear hx5
              have F5 := FF.out.dices hd5 hg5 (by omega)
              obtain ⟨hby, hbz⟩ := nz_byte r5 (by omega)
              obtain ⟨X, y1, y2, y3⟩ := F5.bytes
              have hcell : W5.cell? ⟨W3.heap.size, i, none⟩ = some (bv (X[i]'(by omega))) := by rw [y3.cell]; simp [show i < X.length by omega]
              have hfz := y3.frozen i
              have hl5 : W3.heap.size < W5.heap.size := y3.lt
              have F6 := Lib.hid (F5.put hin _ hbz (by omega) (Nat.le_refl _))
              have HBY := Lib.hid hby
              clear FF hd5 hg5 F5 y2 y3 hby hbz
              go_wp2_with fail
              go_roundw
              case rel => exact ⟨i + 1, k5, by omega, by go_num, by first | exact F6.out | (rw [HBY.out]; exact F6.out)⟩
              case measure => simp [intOf]; omega
            · obtain rfl : N = i := by omega
              obtain ⟨ds, hds⟩ := HH3.out.dice.cells
              have H4 := HH3.out.dices F.dice F.grown
              have hgdl := H4.gdl
              have hB8 := HP3.out.grown F.grown (fun e => by injection e with e; omega)
              obtain ⟨X, y1, y2, y3⟩ := F.bytes
              have hX : SlE wr 5 (some ⟨W3.heap.size, 0, none⟩) (X.map bv) := .inr ⟨W3.heap.size, 0, _, _, rfl, y3, fun j hj => by rw [Nat.zero_add, List.getElem?_toArray, List.getElem?_eq_getElem hj]⟩
              have hpay : Pay wr (⟨(N : Int), al1, A1, sp1, c1, x31, x41, x51, x61, x71⟩ : Part) ⟨(N : Int), al1, some ⟨W3.heap.size, 0, none⟩, X, N, .slice none 0 0, .slice none 0 0, .slice none 0 0, .slice none 0 0, .bool false⟩ :=
                ⟨HM3.out.odd.grown F.grown hds (by decide), HPV.out, rfl, rfl, hX, by show (X.length : Int) = N; omega, by
                  intro b hb
                  obtain ⟨j, hj, rfl⟩ := List.getElem_of_mem hb
                  have hj' : j < X.length := hj
                  exact y2 j hj' (by omega), by show X.length ≤ N; omega⟩
              have hrow : Value.slice (some ⟨W3.heap.size, 0, none⟩) N N = rowV ⟨(N : Int), al1, some ⟨W3.heap.size, 0, none⟩, X, N, .slice none 0 0, .slice none 0 0, .slice none 0 0, .slice none 0 0, .bool false⟩ := by unfold rowV; rw [y1]
              have hst := App3.start H4 hpay hB8 HF4.out
              have HST := Lib.hid hst
              have HROW := Lib.hid hrow
              have HLEN := Lib.hid H4.len
              clear hds H4 hB8 y1 y2 y3 hX hpay hrow hst F
              go_wp2_with fail
              have hm' := HM.out
              subst hm'
              refine gen_act fun a0 ha0 => ?_
              have z4 : a0.eval (.tmp 4) = .slice A4 ps.length c4 := by rw [ha0]; rfl
              have z5 : a0.eval (.tmp 5) = .slice A5 ps.length c5 := by rw [ha0]; rfl
              have z6 : a0.eval (.tmp 6) = .slice A6 ps.length c6 := by rw [ha0]; rfl
              have z8 : a0.eval (.tmp 8) = .pointer (some ⟨g8, 0, none⟩) := by rw [ha0]; rfl
              have z9 : a0.eval (.tmp 9) = .slice (some ⟨W3.heap.size, 0, none⟩) N N := by rw [ha0]; rfl
              have zs : a0.tmps.size = 194 := by rw [ha0]; rfl
              have HA0 := Lib.hid ha0
              clear ha0
              refine wp_region_vals (by kernel_rfl) (ord_of (by kernel_rfl)) (dst_of (by kernel_rfl)) (size_of' (n := 194) (by kernel_rfl) zs) (guard_of (by kernel_rfl)) (App3 W gd ls k' (.slice A4 ps.length c4) ps (.slice A5 ps.length c5) qs (.slice A6 ps.length c6) (⟨(N : Int), al1, A1, sp1, c1, x31, x41, x51, x61, x71⟩ : Part) ⟨(N : Int), al1, some ⟨W3.heap.size, 0, none⟩, X, N, .slice none 0 0, .slice none 0 0, .slice none 0 0, .slice none 0 0, .bool false⟩ g8) HST.out ?_ ?_
              · clear HST
                intro D x a w5 i o ho hD hdep hcl hF h K hK
                have hi : i < 16 := (Array.getElem?_eq_some_iff.1 ho).1
                have e8 : a.eval (.tmp 8) = .pointer (some ⟨g8, 0, none⟩) := (hF.same (fun j oj hj hd => absurd hd (dst_none (by kernel_rfl) hj))).trans z8
                have e9 : a.eval (.tmp 9) = .slice (some ⟨W3.heap.size, 0, none⟩) N N := (hF.same (fun j oj hj hd => absurd hd (dst_none (by kernel_rfl) hj))).trans z9
                have e4 : D 13 = false → a.eval (.tmp 4) = .slice A4 ps.length c4 := fun h13 => (hF.same (fun j oj hj hd => by rw [dst_only (by kernel_rfl) hj hd (k := 13) rfl]; exact h13)).trans z4
                have e5 : D 14 = false → a.eval (.tmp 5) = .slice A5 ps.length c5 := fun h13 => (hF.same (fun j oj hj hd => by rw [dst_only (by kernel_rfl) hj hd (k := 14) rfl]; exact h13)).trans z5
                have e6 : D 15 = false → a.eval (.tmp 6) = .slice A6 ps.length c6 := fun h13 => (hF.same (fun j oj hj hd => by rw [dst_only (by kernel_rfl) hj hd (k := 15) rfl]; exact h13)).trans z6
                rcases (show i = 0 ∨ i = 1 ∨ i = 2 ∨ i = 3 ∨ i = 4 ∨ i = 5 ∨ i = 6 ∨ i = 7 ∨ i = 8 ∨ i = 9 ∨ i = 10 ∨ i = 11 ∨ i = 12 ∨ i = 13 ∨ i = 14 ∨ i = 15 by omega) with rfl | rfl | rfl | rfl | rfl | rfl | rfl | rfl | rfl | rfl | rfl | rfl | rfl | rfl | rfl | rfl
                · simp only [List.getElem?_toArray, List.getElem?_cons_zero, List.getElem?_cons_succ, Option.some.injEq] at ho
                  subst ho
                  have c13 : D 13 = false := by
                    cases hx : D 13 with
                    | false => rfl
                    | true =>
                      have hy := hcl 13 _ rfl hx
                      simp [Region.binds] at hy
                      simp [hy] at hD
                  have E := e4 c13
                  have e := ev_tmp E
                  clear hF hcl e4 e5 e6 e8 e9
                  go_simp
                  exact hK _ _ (h.op0 rfl)
                · simp only [List.getElem?_toArray, List.getElem?_cons_zero, List.getElem?_cons_succ, Option.some.injEq] at ho
                  subst ho
                  have e := ev_tmp e8
                  obtain ⟨⟨b0, b1, b2, b3, b4, b5, b6, b7⟩, bf⟩ := h.box.eight
                  clear hF hcl e4 e5 e6 e8 e9
                  go_simp
                  exact hK _ _ (h.op1 rfl)
                · simp only [List.getElem?_toArray, List.getElem?_cons_zero, List.getElem?_cons_succ, Option.some.injEq] at ho
                  subst ho
                  simp [Region.binds] at hdep
                  have c3 : D 3 = false := by
                    cases hx : D 3 with
                    | false => rfl
                    | true =>
                      have hy := hcl 3 _ rfl hx
                      simp [Region.binds] at hy
                      simp [hy] at hD
                  have E1 := (hF.eval (i := 1) rfl rfl (by simp [hdep])).trans (h.m1 (by simp [hdep]))
                  have e1 := ev_tmp E1
                  clear E1
                  clear hF hcl e4 e5 e6 e8 e9
                  have h2 := h.op2 c3
                  simp only [Part.arr] at h2 e1
                  go_simp
                  exact hK _ _ h2
                · simp only [List.getElem?_toArray, List.getElem?_cons_zero, List.getElem?_cons_succ, Option.some.injEq] at ho
                  subst ho
                  simp [Region.binds] at hdep
                  have c13 : D 13 = false := by
                    cases hx : D 13 with
                    | false => rfl
                    | true =>
                      have hy := hcl 13 _ rfl hx
                      simp [Region.binds] at hy
                      simp [hy] at hD
                  have E0 := (hF.eval (i := 0) rfl rfl (by simp [hdep])).trans (h.m0 (by simp [hdep]))
                  have hd2 : D 2 = true := by simp [hdep]
                  obtain ⟨b, hx, hB, hne⟩ := h.n2 hd2 hD
                  have Es := (hF.eval (i := 2) rfl rfl hd2).trans hx
                  have hsl : Sl w5 (some ⟨b, 0, none⟩) (Part.cells (⟨(N : Int), al1, A1, sp1, c1, x31, x41, x51, x61, x71⟩ : Part)) := by have h1 := Sl.ofBlk hB; simpa [Part.arr, Part.cells] using h1
                  clear hF hcl e4 e5 e6 e8 e9 hx
                  refine wp_append_sl _ _ 22 rfl W.heap.size 31 _ 8 144 Try.underlying22 el31 (.slice A4 ps.length c4) ps.length _ E0 (h.own4n hD) (some ⟨b, 0, none⟩) 1 1 _ Es hsl rfl (by have h1 := parts_one (ps := [(⟨(N : Int), al1, A1, sp1, c1, x31, x41, x51, x61, x71⟩ : Part)]) (by intro q hq; rw [List.mem_singleton.1 hq]; exact h.payp.odd.one); simpa using h1) (by simp only [maxLen]; omega) (by omega) (by have := h.grown.size; omega) ?_
                  intro A' c' w6 hown hg _
                  refine hK _ w6 (h.op3 hD c13 hgdl (A := A') (c := c') ?_ hg)
                  first | exact hown | (simp only [List.flatMap_append, List.map_append, List.flatMap_cons, List.flatMap_nil, List.append_nil, List.map_cons, List.map_nil]; exact hown)
                · simp only [List.getElem?_toArray, List.getElem?_cons_zero, List.getElem?_cons_succ, Option.some.injEq] at ho
                  subst ho
                  have c14 : D 14 = false := by
                    cases hx : D 14 with
                    | false => rfl
                    | true =>
                      have hy := hcl 14 _ rfl hx
                      simp [Region.binds] at hy
                      simp [hy] at hD
                  have E := e5 c14
                  have e := ev_tmp E
                  clear hF hcl e4 e5 e6 e8 e9
                  go_simp
                  exact hK _ _ (h.op4 rfl)
                · simp only [List.getElem?_toArray, List.getElem?_cons_zero, List.getElem?_cons_succ, Option.some.injEq] at ho
                  subst ho
                  have e := ev_tmp e9
                  clear hF hcl e4 e5 e6 e8 e9
                  go_simp
                  exact hK _ _ (h.op5 HROW.out)
                · simp only [List.getElem?_toArray, List.getElem?_cons_zero, List.getElem?_cons_succ, Option.some.injEq] at ho
                  subst ho
                  simp [Region.binds] at hdep
                  have c7 : D 7 = false := by
                    cases hx : D 7 with
                    | false => rfl
                    | true =>
                      have hy := hcl 7 _ rfl hx
                      simp [Region.binds] at hy
                      simp [hy] at hD
                  have E5 := (hF.eval (i := 5) rfl rfl (by simp [hdep])).trans (h.m5 (by simp [hdep]))
                  have e5' := ev_tmp E5
                  clear E5
                  clear hF hcl e4 e5 e6 e8 e9
                  go_simp
                  exact hK _ _ (h.op6 c7)
                · simp only [List.getElem?_toArray, List.getElem?_cons_zero, List.getElem?_cons_succ, Option.some.injEq] at ho
                  subst ho
                  simp [Region.binds] at hdep
                  have c14 : D 14 = false := by
                    cases hx : D 14 with
                    | false => rfl
                    | true =>
                      have hy := hcl 14 _ rfl hx
                      simp [Region.binds] at hy
                      simp [hy] at hD
                  have E4 := (hF.eval (i := 4) rfl rfl (by simp [hdep])).trans (h.m4 (by simp [hdep]))
                  have hd6 : D 6 = true := by simp [hdep]
                  obtain ⟨b, hx, hB, hne⟩ := h.n6 hd6 hD
                  have Es := (hF.eval (i := 6) rfl rfl hd6).trans hx
                  have hsl : Sl w5 (some ⟨b, 0, none⟩) [rowV ⟨(N : Int), al1, some ⟨W3.heap.size, 0, none⟩, X, N, .slice none 0 0, .slice none 0 0, .slice none 0 0, .slice none 0 0, .bool false⟩] := by have h1 := Sl.ofBlk hB; simpa [Part.arr, Part.cells] using h1
                  clear hF hcl e4 e5 e6 e8 e9 hx
                  refine wp_append_sl _ _ 61 rfl W.heap.size 27 _ 1 24 Try.underlying61 el27 (.slice A5 ps.length c5) ps.length _ E4 (h.own5n hD) (some ⟨b, 0, none⟩) 1 1 _ Es hsl rfl (by intro u hu; rw [List.mem_singleton.1 hu]; rfl) (by simp only [maxLen]; omega) (by omega) (by have := h.grown.size; omega) ?_
                  intro A' c' w6 hown hg _
                  refine hK _ w6 (h.op7 hD c14 hgdl (A := A') (c := c') ?_ hg)
                  first | exact hown | (simp only [List.flatMap_append, List.map_append, List.flatMap_cons, List.flatMap_nil, List.append_nil, List.map_cons, List.map_nil]; exact hown)
                · simp only [List.getElem?_toArray, List.getElem?_cons_zero, List.getElem?_cons_succ, Option.some.injEq] at ho
                  subst ho
                  have c15 : D 15 = false := by
                    cases hx : D 15 with
                    | false => rfl
                    | true =>
                      have hy := hcl 15 _ rfl hx
                      simp [Region.binds] at hy
                      simp [hy] at hD
                  have E := e6 c15
                  have e := ev_tmp E
                  clear hF hcl e4 e5 e6 e8 e9
                  go_simp
                  exact hK _ _ (h.op8 rfl)
                · simp only [List.getElem?_toArray, List.getElem?_cons_zero, List.getElem?_cons_succ, Option.some.injEq] at ho
                  subst ho
                  have e := ev_tmp e8
                  clear hF hcl e4 e5 e6 e8 e9
                  go_simp
                  exact hK _ _ (h.op9 rfl)
                · simp only [List.getElem?_toArray, List.getElem?_cons_zero, List.getElem?_cons_succ, Option.some.injEq] at ho
                  subst ho
                  simp [Region.binds] at hdep
                  have E9 := (hF.eval (i := 9) rfl rfl (by simp [hdep])).trans (h.m9 (by simp [hdep]))
                  have e9' := ev_tmp E9
                  obtain ⟨⟨b0, b1, b2, b3, b4, b5, b6, b7⟩, bf⟩ := h.box.eight
                  clear E9
                  clear hF hcl e4 e5 e6 e8 e9
                  go_simp
                  exact hK _ _ (h.op10 rfl)
                · simp only [List.getElem?_toArray, List.getElem?_cons_zero, List.getElem?_cons_succ, Option.some.injEq] at ho
                  subst ho
                  simp [Region.binds] at hdep
                  have c12 : D 12 = false := by
                    cases hx : D 12 with
                    | false => rfl
                    | true =>
                      have hy := hcl 12 _ rfl hx
                      simp [Region.binds] at hy
                      simp [hy] at hD
                  have E10 := (hF.eval (i := 10) rfl rfl (by simp [hdep])).trans (h.m10 (by simp [hdep]))
                  have e10 := ev_tmp E10
                  clear E10
                  clear hF hcl e4 e5 e6 e8 e9
                  go_simp
                  exact hK _ _ (h.op11 c12)
                · simp only [List.getElem?_toArray, List.getElem?_cons_zero, List.getElem?_cons_succ, Option.some.injEq] at ho
                  subst ho
                  simp [Region.binds] at hdep
                  have c15 : D 15 = false := by
                    cases hx : D 15 with
                    | false => rfl
                    | true =>
                      have hy := hcl 15 _ rfl hx
                      simp [Region.binds] at hy
                      simp [hy] at hD
                  have E8 := (hF.eval (i := 8) rfl rfl (by simp [hdep])).trans (h.m8 (by simp [hdep]))
                  have hd11 : D 11 = true := by simp [hdep]
                  obtain ⟨b, hx, hB, hne⟩ := h.n11 hd11 hD
                  have Es := (hF.eval (i := 11) rfl rfl hd11).trans hx
                  have hsl : Sl w5 (some ⟨b, 0, none⟩) [.int .i64 (N : Int)] := by have h1 := Sl.ofBlk hB; simpa [Part.arr, Part.cells] using h1
                  clear hF hcl e4 e5 e6 e8 e9 hx
                  refine wp_append_sl _ _ 23 rfl W.heap.size 3 _ 1 8 Try.underlying23 el3 (.slice A6 ps.length c6) ps.length _ E8 (h.own6n hD) (some ⟨b, 0, none⟩) 1 1 _ Es hsl rfl (by intro u hu; rw [List.mem_singleton.1 hu]; rfl) (by simp only [maxLen]; omega) (by omega) (by have := h.grown.size; omega) ?_
                  intro A' c' w6 hown hg _
                  refine hK _ w6 (h.op12 hD c15 hgdl (A := A') (c := c') ?_ hg)
                  first | exact hown | (simp only [List.flatMap_append, List.map_append, List.flatMap_cons, List.flatMap_nil, List.append_nil, List.map_cons, List.map_nil]; exact hown)
                · simp only [List.getElem?_toArray, List.getElem?_cons_zero, List.getElem?_cons_succ, Option.some.injEq] at ho
                  subst ho
                  simp [Region.binds] at hdep
                  have hds : D 3 = true := by simp [hdep]
                  have E := hF.eval (i := 3) rfl rfl hds
                  have e := ev_tmp E
                  clear E hF hcl e4 e5 e6 e8 e9
                  go_simp
                  exact hK _ _ (h.op13 rfl)
                · simp only [List.getElem?_toArray, List.getElem?_cons_zero, List.getElem?_cons_succ, Option.some.injEq] at ho
                  subst ho
                  simp [Region.binds] at hdep
                  have hds : D 7 = true := by simp [hdep]
                  have E := hF.eval (i := 7) rfl rfl hds
                  have e := ev_tmp E
                  clear E hF hcl e4 e5 e6 e8 e9
                  go_simp
                  exact hK _ _ (h.op14 rfl)
                · simp only [List.getElem?_toArray, List.getElem?_cons_zero, List.getElem?_cons_succ, Option.some.injEq] at ho
                  subst ho
                  simp [Region.binds] at hdep
                  have hds : D 12 = true := by simp [hdep]
                  have E := hF.eval (i := 12) rfl rfl hds
                  have e := ev_tmp E
                  clear E hF hcl e4 e5 e6 e8 e9
                  go_simp
                  exact hK _ _ (h.op15 rfl)
              · intro D x w9 hD h
                obtain ⟨A4', c4', A5', c5', A6', c6', x13, x14, x15, HR⟩ := h.done hD HLEN.out hgdl
                have HRH := Lib.hid HR
                clear h HR HST hD
                rw [HA0.out]
                simp [putsAll, List.range, List.range.loop, Act.put, x13, x14, x15]
                go_wp2
                go_roundw
                case rel => first | exact ⟨q, k', ps.length + 1, A4', A5', A6', c4', c5', c6', ps ++ [⟨(N : Int), al1, A1, sp1, c1, x31, x41, x51, x61, x71⟩], qs ++ [⟨(N : Int), al1, some ⟨W3.heap.size, 0, none⟩, X, N, .slice none 0 0, .slice none 0 0, .slice none 0 0, .slice none 0 0, .bool false⟩], by go_num, by rw [List.length_append, List.length_singleton], by omega, rfl, rfl, rfl, HRH.out⟩ | ((repeat apply Exists.intro); exact ⟨⟨q, k', ps.length + 1, A4', A5', A6', c4', c5', c6', ps ++ [⟨(N : Int), al1, A1, sp1, c1, x31, x41, x51, x61, x71⟩], qs ++ [⟨(N : Int), al1, some ⟨W3.heap.size, 0, none⟩, X, N, .slice none 0 0, .slice none 0 0, .slice none 0 0, .slice none 0 0, .bool false⟩], by go_num, by rw [List.length_append, List.length_singleton], by omega, rfl, rfl, rfl, HRH.out⟩, rfl⟩)
                case measure => simp [intOf]
      · obtain rfl : q = 0 := by omega
        have hv : ∀ p ∈ ps, p.valid = true := by
          intro p hp
          obtain ⟨i, hi, rfl⟩ := List.getElem_of_mem hp
          exact (H.pay i hi (by rw [H.len]; exact hi)).pv
        have hone : ∀ p ∈ ps, p.one := by
          intro p hp
          obtain ⟨i, hi, rfl⟩ := List.getElem_of_mem hp
          exact (H.pay i hi (by rw [H.len]; exact hi)).odd.one
        have hsp : ∀ p ∈ ps, Sl wo p.A (p.sp.map bv) := by
          intro p hp
          obtain ⟨i, hi, rfl⟩ := List.getElem_of_mem hp
          exact (H.pay i hi (by rw [H.len]; exact hi)).odd.sp.sl
        have hbw : Below w.heap.size w wo := HBW.out.grown H.grown HBW.out.size (fun q hq => by injection hq with hq; rw [← hq, HGD.out]; exact Nat.le_refl _)
        have HV := Lib.hid hv
        have HM := Lib.hid hm
        have HH := Lib.hid H
        have HBR := Lib.hid hbw
        have hps : Parts wo A4 ps := by have := H.own4; rw [hm] at this; exact Sl.of_own8 this
        have HPS := Lib.hid hps
        have HONE := Lib.hid hone
        have HSP := Lib.hid hsp
        clear hv hm hbw H hps hone hsp
        go_wp2_with fail
        refine (lay_any A4 m c4 ps _ HM.out HPS.out (by omega) HSP.out HONE.out).mono ?_
        rintro e W4 ⟨As, cs, Ao, co, he, hSS, hSO, capS, capO, hb4⟩
        cases hgo : layGo Laid.start ps with
        | none =>
          obtain ⟨hE, hR⟩ := layE_none HV.out hgo
          rw [hR, hE] at he
          have he' : e = .returned (.tuple #[.agg #[.int .i64 0, .int .i64 0, .slice As 0 cs, .slice Ao 0 co, .slice none 0 0, .slice none 0 0, .slice none 0 0, .bool false], .int .i64 4]) := he
          subst he'
          have hb5 := below_next HBR.out hb4
          clear he hSS hSO capS capO hgo hE hR hb4
          go_wp2_with fail
          refine (awake16 _).mono ?_
          rintro e w6 ⟨rfl, hb6⟩
          go_wp2
          go_ret
          exact ⟨rfl, below_next (hb5.alloc hb5.size _) hb6⟩
        | some L =>
          obtain ⟨hE, hR⟩ := layE_some HV.out hgo
          have hgood := layGo_good ps HV.out _ _ _ Laid.good_start hgo
          rw [hR, hE] at he
          rw [hR] at hSS hSO capO
          have hof : L.of.length = m := by rw [hgood.of, HM.out, Nat.zero_add]
          obtain ⟨Y, hY, y1, y2, y3⟩ := lay_shape ps qs Laid.start Laid.start L HH.out.len (fun i h1 h2 => ⟨(HH.out.pay i h1 h2).s, (HH.out.pay i h1 h2).al⟩) rfl rfl rfl hgo
          obtain ⟨⟨s, al, sp, of⟩, hLe⟩ : ∃ X, X = L := ⟨_, rfl⟩
          subst hLe
          have g0 := hgood.s0
          have g1 := hgood.s1
          have ga := hgood.al
          have gs := hgood.sp
          simp only at g0 g1 ga gs hof y1 y2 y3 capO
          obtain ⟨N, hN⟩ := Int.eq_ofNat_of_zero_le g0
          subst hN
          obtain ⟨np, hnp⟩ : ∃ np, np = sp.length := ⟨_, rfl⟩
          have he' : e = .returned (.tuple #[.agg #[.int .i64 (N : Int), .int .i64 al, .slice As sp.length cs, .slice Ao of.length co, .slice none 0 0, .slice none 0 0, .slice none 0 0, .bool false], .int .i64 0]) := he
          rw [hof, ← hnp] at he'
          subst he'
          have hvb : validB (N : Int) al np = true := by unfold validB; simp; omega
          have hX := Blk.new W4 31 #[.int .i64 (N : Int), .int .i64 al, .slice As np cs, .slice Ao m co, .slice none 0 0, .slice none 0 0, .slice none 0 0, .bool false]
          have b45 := (Below.refl W4.heap.size W4).alloc (Nat.le_refl _) (.cells #[.int .i64 (N : Int), .int .i64 al, .slice As np cs, .slice Ao m co, .slice none 0 0, .slice none 0 0, .slice none 0 0, .bool false] 31)
          have hr5 := below_next hb4 b45
          have hSO5 : Sl (W4.alloc (.cells #[.int .i64 (N : Int), .int .i64 al, .slice As np cs, .slice Ao m co, .slice none 0 0, .slice none 0 0, .slice none 0 0, .bool false] 31)) Ao (Y.of.map iv) := by rw [y3]; exact hSO.sl.alloc _
          have hqv : ∀ q ∈ qs, q.valid = true := by
            intro q hq
            obtain ⟨i, hi, rfl⟩ := List.getElem_of_mem hq
            exact (HH.out.pay i (by rw [← HH.out.len]; exact hi) hi).valid
          have hqnz : ∀ q ∈ qs, ∀ b ∈ q.sp, b ≠ 0 := by
            intro q hq
            obtain ⟨i, hi, rfl⟩ := List.getElem_of_mem hq
            exact (HH.out.pay i (by rw [← HH.out.len]; exact hi) hi).nz
          have hqsp : ∀ q ∈ qs, Sl wo q.A (q.sp.map bv) := by
            intro q hq
            obtain ⟨i, hi, rfl⟩ := List.getElem_of_mem hq
            exact (HH.out.pay i (by rw [← HH.out.len]; exact hi) hi).sp.sl
          have hqm : qs.length = m := by rw [HH.out.len]; exact HM.out
          have hrw : Sl wo A5 (qs.map rowV) := by have := HH.out.own5; rw [HM.out] at this; exact Sl.of_own this
          have hsz6 : Sl wo A6 ((qs.map Part.s).map iv) := by
            have := HH.out.own6
            rw [HM.out] at this
            have e : qs.map Part.s = ps.map Part.s := by
              apply List.ext_getElem
              · simp [HH.out.len]
              · intro i h1 h2
                simp only [List.getElem_map]
                exact (HH.out.pay i (by simpa using h2) (by simpa using h1)).s
            rw [e]; exact Sl.of_own this
          have HGO := Lib.hid hgo
          have HY := Lib.hid hY
          have Y1 := Lib.hid y1
          have Y3 := Lib.hid y3
          have HX := Lib.hid hX
          have HB5 := Lib.hid (below_next HBR.out hr5)
          have HR5 := Lib.hid hr5
          have HSO5 := Lib.hid hSO5
          have HQV := Lib.hid hqv
          have HQNZ := Lib.hid hqnz
          have HQSP := Lib.hid hqsp
          have HQM := Lib.hid hqm
          have HRW := Lib.hid hrw
          have HSZ6 := Lib.hid hsz6
          have HVB := Lib.hid hvb
          have HOF := Lib.hid hof
          clear he hSS hSO capS hgo hE hR hgood hY y1 y3 hX b45 hr5 hSO5 hqv hqnz hqsp hqm hrw hsz6 hvb hof hb4 gs hnp
          go_wp2_with fail
          refine (join_any N al As np cs Ao co m (.slice none 0 0) (.slice none 0 0) (.slice none 0 0) (.bool false) qs Y A5 c5 _ HVB.out HSO5.out HY.out Y1.out HQV.out HQM.out (HRW.out.below HR5.out) (fun q hq => (HQSP.out q hq).below HR5.out) (by omega)).mono ?_
          rintro e W6 ⟨Ab, rfl, hAb, hb6⟩
          have hX6 := HX.out.below hb6
          have hl6 : W4.heap.size < W6.heap.size := hX6.lt
          obtain ⟨⟨x0, x1, x2, x3, x4, x5, x6, x7⟩, xf⟩ := hX6.eight
          have hselfN : ((N : Int) != N) = false := by simp
          have hselfm : ((m : Int) != m) = false := by simp
          have HX6 := Lib.hid hX6
          have HAB := Lib.hid hAb
          have HB6 := Lib.hid (below_next HB5.out hb6)
          have HR6 := Lib.hid (below_next HR5.out hb6)
          have hb66 := Below.refl W6.heap.size W6
          have HSO6 := Lib.hid (HSO5.out.below hb6)
          clear hX6 hAb hb6 HX HB5 HR5 HSO5
          go_wp2_with fail
          clear x0 x1 x2 x3 x4 x5 x6 x7 xf hselfN hselfm
          go_loopw [104] (fun v104 wr => ∃ (i : Nat) (M : Laid), i ≤ m ∧ v104 = .int .i64 i ∧ Hid (layGo Laid.start (qs.take i) = some M) ∧ Below W6.heap.size W6 wr) (fun v104 _ => m - (intOf v104).toNat)
          case atStart => exact ⟨0, Laid.start, by omega, rfl, (rfl : _ = _), hb66⟩
          case round =>
            obtain ⟨i, M, hi, rfl, hM, hb⟩ := hrel
            clear hb66
            by_cases hlt : i < m
            · have hiq : i < qs.length := by rw [HQM.out]; exact hlt
              have hip : i < ps.length := by rw [HM.out]; exact hlt
              obtain ⟨l1, l2, l3, l4, l5, l6, l7, l8⟩ := lay_part qs Y HY.out HQV.out i hiq M hM.out
              obtain ⟨v1, v2, v3, v4⟩ := (valid_iff qs[i]).1 (HQV.out qs[i] (List.getElem_mem hiq))
              have hwr := below_next HR6.out hb
              have hqi := (HQSP.out qs[i] (List.getElem_mem hiq)).below hwr
              obtain ⟨rb, ro, rfl, hrc⟩ := (HRW.out.below hwr).at_ (k := i) (by simpa using hiq)
              rw [List.getElem_map] at hrc
              have hpal := (HH.out.pay i hip hiq).al
              have hM2 : Hid (layGo Laid.start (qs.take (i + 1)) = some (M.add qs[i])) := l2
              have hio : i < Y.of.length := by rw [Y3.out, HOF.out]; exact hlt
              obtain ⟨ob, oo, rfl, hoc⟩ := (HSO6.out.below hb).at_ (k := i) (by simpa using hio)
              rw [List.getElem_map] at hoc
              rw [List.getElem?_eq_getElem hio] at l3
              rw [Option.some.inj l3] at hoc
              have hmod := alignI_mod M.s qs[i].al l1.s0 v3
              obtain ⟨pb, po, rfl, p0, p1, p2, p3, p4, p5, p6, p7⟩ := (HPS.out.below hwr).get hip
              rw [← hpal] at p1
              generalize qs[i] = q at *
              have l6' := l6
              rw [Y1.out] at l6'
              have m0 := l1.s0
              obtain ⟨a, ha⟩ := Int.eq_ofNat_of_zero_le (show 0 ≤ alignI M.s q.al by omega)
              rw [ha] at hoc l4 l6' l7 hmod
              have hoc' : wr.cell? ⟨ob, oo + i, none⟩ = some (.int .i64 (a : Int)) := hoc
              have hrc' : wr.cell? ⟨rb, ro + i, none⟩ = some (.slice q.A q.sp.length q.c) := hrc
              have hsA := HAB.out.sl.below hb
              have hlY : Y.sp.length = N := by have := (layGo_good qs HQV.out _ _ _ Laid.good_start HY.out).sp; have := Y1.out; omega
              have hfit : a + q.sp.length ≤ N := by omega
              have hpt := fun W (hs : Sl W Ab (Y.sp.map bv)) => part_raw al As np cs (.slice (some ⟨ob, oo, none⟩) m co) (.slice none 0 0) (.slice none 0 0) (.slice none 0 0) (.bool false) Ab N N Y.sp a q.sp.length W hlY hs (Nat.le_refl _) (by omega) hfit
              have hal0 : (q.al == 0) = false := by simp; omega
              have hal1 : ¬ q.al = 0 := by omega
              have l7' : (Y.sp.drop a).take q.sp.length = q.sp := by simpa using l7
              rw [l7'] at hpt
              obtain ⟨⟨x0, x1, x2, x3, x4, x5, x6, x7⟩, xf⟩ := (HX6.out.below hb).eight
              have hobl := World.block_lt_of_cell? wr _ hoc'
              have hpbl := World.block_lt_of_cell? wr _ p1
              have hl4 : W4.heap.size < wr.heap.size := by have := hb.size; omega
              have HPT := Lib.hid hpt
              have HSA := Lib.hid hsA
              have HQI := Lib.hid hqi
              have HB := Lib.hid hb
              have HP1 := Lib.hid p1
              have HOC := Lib.hid hoc'
              have hmod2 : (a : Int) % q.al = 0 := by rw [← Int.tmod_eq_emod_of_nonneg (by omega)]; exact hmod
              clear hpt hsA hqi l1 l2 l3 l4 l5 l6 l7 l8 v1 v2 v3 v4 hrc hoc hpal p0 p2 p3 p4 p5 p6 p7 l6' m0 ha hwr hb l7' p1 hM hlY
              go_wp2_with fail
              go_region_with (first
                | (go_at_call 53; refine (HPT.out _ (by first | exact HSA.out | exact HSA.out.drew | exact HSA.out.drewN _)).mono ?_; rintro e w7 ⟨A7, c7, rfl, hse7, hb7⟩))
              all_goals
                have hb8 : Below wr.heap.size wr w7 := below_next (Below.drew (Below.refl wr.heap.size wr)) hb7
                have hb9 := below_next HB.out hb8
                have hc1 : w7.cell? ⟨pb, po + i * 8 + 1, none⟩ = some (.int .i64 q.al) := (hb8.cell (p := ⟨pb, po + i * 8 + 1, none⟩) hpbl).trans HP1.out
                have hc2 : w7.cell? ⟨ob, oo + i, none⟩ = some (.int .i64 (a : Int)) := (hb8.cell (p := ⟨ob, oo + i, none⟩) hobl).trans HOC.out
                clear x0 x1 x2 x3 x4 x5 x6 x7 xf
                obtain ⟨⟨x0, x1, x2, x3, x4, x5, x6, x7⟩, xf⟩ := (HX6.out.below hb9).eight
                have cv1 := fun k => run_convb (P := Try.prog) (w7.drewN k) 27 9 5 A7 q.sp.length c7 q.sp Try.underlying27 Try.underlying5 Try.underlying9 (hse7.sl.drewN k) rfl
                have cv2 := fun k => run_convb (P := Try.prog) (w7.drewN k) 27 9 5 q.A q.sp.length q.c q.sp Try.underlying27 Try.underlying5 Try.underlying9 ((HQI.out.below hb8).drewN k) rfl
                have HB9 := Lib.hid hb9
                clear hb8 hb7 hb9 hse7
                go_wp2_with fail
                go_quiet (fail)
                go_wp2
                go_roundw
                case rel => exact ⟨i + 1, M.add q, by omega, by go_num, hM2, below_drewN' HB9.out _⟩
                case measure => simp [intOf]; omega
            · obtain rfl : i = m := by omega
              have HBX := Lib.hid hb
              have hlY : Y.sp.length = N := by have := (layGo_good qs HQV.out _ _ _ Laid.good_start HY.out).sp; have := Y1.out; omega
              have HLY := Lib.hid hlY
              obtain ⟨⟨x0, x1, x2, x3, x4, x5, x6, x7⟩, xf⟩ := (HX6.out.below hb).eight
              have hSOr := HSO6.out.below hb
              have hSZr := HSZ6.out.below (below_next HR6.out hb)
              have HSOR := Lib.hid hSOr
              have HSZR := Lib.hid hSZr
              have hl4 : W4.heap.size < wr.heap.size := by have := hb.size; omega
              clear hb hlY hSOr hSZr
              go_wp2_with fail
              refine (padding_any N al As np cs Ao co i (.slice none 0 0) (.slice none 0 0) (.slice none 0 0) (.bool false) qs Y A6 c6 _ HVB.out HSOR.out HY.out Y1.out HQV.out HQM.out HSZR.out HQNZ.out (by omega)).mono ?_
              rintro e W8 ⟨Ap8, rfl, hpad, hb8⟩
              have hb9 := below_next HBX.out hb8
              have hAb8 := HAB.out.sl.below hb9
              clear x0 x1 x2 x3 x4 x5 x6 x7 xf
              have hb88 := Below.refl W8.heap.size W8
              have HPAD := Lib.hid hpad
              have HAB8 := Lib.hid hAb8
              have HB9 := Lib.hid (below_next HB6.out hb9)
              have HX8 := Lib.hid (HX6.out.below hb9)
              clear hpad hAb8 hb8 hb9
              go_wp2_with fail
              go_loopw [151] (fun v151 wq => ∃ j : Nat, j ≤ N ∧ v151 = .int .i64 j ∧ Below W8.heap.size W8 wq) (fun v151 _ => N - (intOf v151).toNat)
              case atStart => exact ⟨0, by omega, rfl, hb88⟩
              case round =>
                obtain ⟨j, hj, rfl, hb⟩ := hrel
                clear hb88
                by_cases hjN : j < N
                · have hjY : j < Y.sp.length := by rw [HLY.out]; exact hjN
                  obtain ⟨gb, gbo, rfl, hcb⟩ := (HAB8.out.below hb).at_ (k := j) (by simpa using hjY)
                  rw [List.getElem_map] at hcb
                  obtain ⟨gp, gpo, rfl, hcp⟩ := (HPAD.out.below hb).at_ (k := j) (by simpa using hjY)
                  rw [List.getElem_map, List.getElem_map] at hcp
                  generalize Y.sp[j] = xb at *
                  have d1 : decide (N ≤ j) = false := by simp; omega
                  have d2 : decide ((N : Int) ≤ (j : Int)) = false := by simp; omega
                  have HBQ := Lib.hid hb
                  clear hb
                  by_cases hx0 : xb = 0
                  · subst hx0
                    have hcb' : wr.cell? ⟨gb, gbo + j, none⟩ = some (.int .u8 0) := hcb
                    have hcp' : wr.cell? ⟨gp, gpo + j, none⟩ = some (.int .u8 255) := hcp
                    clear hcb hcp
                    go_wp2_with fail
                    go_quiet (fail)
                    go_wp2
                    go_roundw
                    case rel => exact ⟨j + 1, by omega, by go_num, below_drewN' HBQ.out _⟩
                    case measure => simp [intOf]; omega
                  · have hxn : ((xb.toNat : Int) == 0) = false := by
                      have : xb.toNat ≠ 0 := fun h => hx0 (UInt8.toNat_inj.1 h)
                      simp; omega
                    have hcb' : wr.cell? ⟨gb, gbo + j, none⟩ = some (.int .u8 (xb.toNat : Int)) := hcb
                    have hcp' : wr.cell? ⟨gp, gpo + j, none⟩ = some (.int .u8 0) := by
                      have e : inv xb = 0 := by simp [inv, hx0]
                      rw [e] at hcp; exact hcp
                    clear hcb hcp hx0
                    go_wp2_with fail
                    go_quiet (fail)
                    go_wp2
                    go_roundw
                    case rel => exact ⟨j + 1, by omega, by go_num, below_drewN' HBQ.out _⟩
                    case measure => simp [intOf]; omega
                · obtain rfl : j = N := by omega
                  have hbf := below_next HB9.out hb
                  obtain ⟨⟨x0, x1, x2, x3, x4, x5, x6, x7⟩, xf⟩ := (HX8.out.below hb).eight
                  have hself : ((j : Int) == j) = true := by simp
                  have HBF := Lib.hid hbf
                  clear hb hbf
                  go_wp2_with fail
                  refine (awake16 _).mono ?_
                  rintro e w7 ⟨rfl, hb7⟩
                  go_wp2
                  go_ret
                  exact ⟨rfl, below_next HBF.out hb7⟩
  · have hl' : decide (n ≤ 700) = false := by simpa using hl
    go_enter Try.func10, Try.ntmps10
    go_wp2_with fail
    refine (light_any _ _ _ _).mono ?_
    rw [hl']
    rintro e w1 ⟨rfl, rfl⟩
    go_wp2_with fail
    refine (awake16 _).mono ?_
    rintro e w1 ⟨rfl, hb⟩
    go_wp2
    go_ret
    exact ⟨rfl, hb⟩
end Go.Proofs.Ytamhigknobdloaa
