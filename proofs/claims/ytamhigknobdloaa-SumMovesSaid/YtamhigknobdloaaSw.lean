/- The walk of the law's maker of cases, where all are valid; conditions: the numbers are few. -/
import Derived.Test.YtamhigknobdloaaSv
namespace Go.Proofs.Ytamhigknobdloaa
open Go.RowKit
set_option linter.unusedVariables false
set_option linter.unusedSimpArgs false

def cname (i : Nat) : ByteArray := ⟨#[99, 97 + UInt8.ofNat i]⟩
theorem cname_eq (i : Nat) : ({ data := #[99] } : ByteArray) ++ ({ data := #[97 + UInt8.ofNat i] } : ByteArray) = cname i := by
  apply ByteArray.ext
  rw [ByteArray.data_append]; rfl
theorem u97 (i : Nat) (h : i ≤ 100) : (97 : Int) + (i : Int) = ((97 + UInt8.ofNat i).toNat : Int) := by
  have h97 : (97 : UInt8).toNat = 97 := rfl
  rw [UInt8.toNat_add, UInt8.toNat_ofNat', h97]; omega
def CasesPost (gd : Nat) (ls : List Int) (w : World) (e : Ending) (w' : World) : Prop :=
  ∃ (ps : List Part) (nms : List ByteArray) (bs : List Bool) (A7 A8 A9 : Option Addr) (c7 c8 c9 : Nat), e = .returned (.tuple #[.slice A7 ps.length c7, .slice A8 ps.length c8, .slice A9 ps.length c9]) ∧ ps.length ≤ 5 ∧ RowsC w gd ls (.slice A7 ps.length c7) ps (.slice A8 ps.length c8) nms (.slice A9 ps.length c9) bs w'
/-- The parts of a case while they are made. -/
structure PartsAt (wo : World) (gd : Nat) (ls : List Int) (v : Value) (qs : List Part) (w : World) : Prop where
  own : w.ownsRow wo.heap.size 31 8 v qs.length (qs.flatMap Part.cells)
  dice : ∃ k, Dice w gd ls k
  grown : wo.grownBy w (some gd)
  made : ∀ q ∈ qs, Made w q

set_option maxHeartbeats 6400000 in
set_option maxRecDepth 100000 in
theorem cases_even (gd : Nat) (ls : List Int) (k : Nat) (w : World) (hd : Dice w gd ls k) : Calls Try.prog 56 #[.pointer (some ⟨gd, 0, none⟩), .bool false] w (CasesPost gd ls w) := by
  have hgdl := hd.lt
  obtain ⟨W, rfl⟩ : ∃ W : World, W = w := ⟨_, rfl⟩
  go_enter Try.func56, Try.ntmps56
  go_wp2_with fail
  refine (next_lt gd ls k 6 _ hd (by omega) (by omega)).mono ?_
  rintro e w1 ⟨r, k1, rfl, hr, hd1, hk1, hx1, hg1⟩
  clear hx1
  have hr5 : r ≤ 5 := by omega
  have hrows : RowsC W gd ls (.slice none ([] : List Part).length 0) [] (.slice none ([] : List Part).length 0) [] (.slice none ([] : List Part).length 0) [] w1 :=
    ⟨World.ownsRow_nil _ _ _ _, World.ownsRow_nil _ _ _ _, World.ownsRow_nil _ _ _ _, rfl, rfl, ⟨k1, hd1⟩, hgdl, hg1, by simp⟩
  have HROWS := Lib.hid hrows
  clear hd hd1 hg1 hrows hr hk1
  go_wp2_with fail
  go_loopw [7, 8, 9, 10] (fun v7 v8 v9 v10 wr => ∃ (q : Nat) (ps : List Part) (nms : List ByteArray) (bs : List Bool) (A7 A8 A9 : Option Addr) (c7 c8 c9 : Nat), v10 = .int .i64 q ∧ ps.length + q ≤ 5 ∧ v7 = .slice A7 ps.length c7 ∧ v8 = .slice A8 ps.length c8 ∧ v9 = .slice A9 ps.length c9 ∧ RowsC W gd ls (.slice A7 ps.length c7) ps (.slice A8 ps.length c8) nms (.slice A9 ps.length c9) bs wr) (fun _ _ _ v10 _ => (intOf v10).toNat)
  case atStart => exact ⟨r, [], [], [], none, none, none, 0, 0, 0, rfl, by simpa using hr5, rfl, rfl, rfl, HROWS.out⟩
  case round =>
    obtain ⟨q, ps, nms, bs, A7, A8, A9, c7, c8, c9, rfl, hpq, rfl, rfl, rfl, H⟩ := hrel
    clear HROWS hr5
    by_cases h0 : 0 < q
    · obtain ⟨q, rfl⟩ : ∃ p, q = p + 1 := ⟨q - 1, by omega⟩
      obtain ⟨kk, hdd⟩ := H.dice
      have HH := Lib.hid H
      clear H
      go_wp2_with fail
      refine (next_lt gd ls kk 4 _ hdd (by omega) (by omega)).mono ?_
      rintro e w2 ⟨r2, k2, rfl, hr2, hd2, hk2, hx2, hg2⟩
      clear hx2
      have hr3 : r2 ≤ 3 := by omega
      have H2 := HH.out.dices hd2 hg2
      have hps0 : PartsAt w2 gd ls (.slice none ([] : List Part).length 0) [] w2 := ⟨World.ownsRow_nil _ _ _ _, ⟨k2, hd2⟩, World.grownBy.refl _ _, by simp⟩
      have HPS0 := Lib.hid hps0
      have HH2 := Lib.hid H2
      have hgd2 : gd < w2.heap.size := hd2.lt
      clear hdd hd2 hg2 H2 hps0 HH hr2 hk2
      obtain ⟨wo, rfl⟩ : ∃ wo : World, wo = wr := ⟨_, rfl⟩
      go_wp2_with fail
      go_loopw [11, 12] (fun v11 v12 wq => ∃ (j : Nat) (qs : List Part) (A' : Option Addr) (c' : Nat), v12 = .int .i64 j ∧ qs.length + j ≤ 3 ∧ v11 = .slice A' qs.length c' ∧ PartsAt w2 gd ls (.slice A' qs.length c') qs wq) (fun _ v12 _ => (intOf v12).toNat)
      case atStart => exact ⟨r2, [], none, 0, rfl, by simpa using hr3, rfl, HPS0.out⟩
      case round =>
        obtain ⟨j, qs, A', c', rfl, hqj, rfl, I⟩ := hrel
        clear HPS0 hr3
        by_cases hj0 : 0 < j
        · obtain ⟨j, rfl⟩ : ∃ p, j = p + 1 := ⟨j - 1, by omega⟩
          obtain ⟨kj, hdj⟩ := I.dice
          have II := Lib.hid I
          clear I
          go_wp2_with fail
          refine (layout_any _ gd ls kj _ hdj (Nat.le_refl _)).mono ?_
          rintro e w3 ⟨⟨s1, al1, A1, sp1, c1, x31, x41, x51, x61, x71⟩, k3, he, m1, hd3, hk3, hg3⟩
          have he' : e = .returned (.agg #[.int .i64 s1, .int .i64 al1, .slice A1 sp1.length c1, x31, x41, x51, x61, x71]) := he
          subst he'
          have hone := m1.one
          have sx3 := store_var (P := Try.prog) hone.h3
          have sx4 := store_var (P := Try.prog) hone.h4
          have sx5 := store_var (P := Try.prog) hone.h5
          have sx6 := store_var (P := Try.prog) hone.h6
          have sx7 := store_var (P := Try.prog) hone.h7
          obtain ⟨ds, hds⟩ := hdj.cells
          have own3 := II.out.own.kept hg3 (own_blk_ne II.out.own hds (by decide))
          have hg33 := grown_trans II.out.grown hg3
          have hm3 : ∀ q ∈ qs, Made w3 q := fun q hq => (II.out.made q hq).grown hg3 hds (by decide) (by decide)
          obtain ⟨A4, c4, w4, hrun, own4, hg4⟩ := run_part w2.heap.size A' c' qs qs.length rfl own3 (by omega) hg33.size ⟨s1, al1, A1, sp1, c1, x31, x41, x51, x61, x71⟩ hone
          have hps : PartsAt w2 gd ls (.slice A4 (qs ++ [(⟨s1, al1, A1, sp1, c1, x31, x41, x51, x61, x71⟩ : Part)]).length c4) (qs ++ [⟨s1, al1, A1, sp1, c1, x31, x41, x51, x61, x71⟩]) w4 := by
            refine ⟨by rw [List.length_append, List.length_singleton]; exact own4, ⟨k3, hd3.own own3 hg4 hgd2⟩, grown_new hg33 hg4 (fun q hq => (own3.lt q hq).1), ?_⟩
            intro q hq
            rcases List.mem_append.1 hq with h | h
            · exact (hm3 q h).own_grown own3 hg4
            · rw [List.mem_singleton.1 h]; exact m1.own_grown own3 hg4
          have HPS := Lib.hid hps
          clear he m1 hd3 hk3 hg3 hone hds own3 hg33 hm3 own4 hg4 hps II hdj
          go_wp2_with fail
          go_roundw
          case rel => exact ⟨j, qs ++ [⟨s1, al1, A1, sp1, c1, x31, x41, x51, x61, x71⟩], A4, c4, by go_num, by rw [List.length_append, List.length_singleton]; omega, by rw [List.length_append, List.length_singleton], HPS.out⟩
          case measure => simp [intOf]
        · obtain rfl : j = 0 := by omega
          obtain ⟨kj, hdj⟩ := I.dice
          have hHr := HH2.out.dices hdj I.grown
          have hlay := rlay_any A' qs.length c' qs wr rfl (parts_own I.own) (by omega) (fun q hq => (I.made q hq).sp.sl) (fun q hq => (I.made q hq).one)
          have HLAY := Lib.hid hlay
          have HHR := Lib.hid hHr
          have hszr := I.grown.size
          clear hlay hHr I hdj HH2
          go_wp2_with fail
          refine HLAY.out.mono ?_
          intro e w4 h4
          obtain ⟨L, hL⟩ : ∃ L, L = layR qs := ⟨_, rfl⟩
          have hgl := layR_good qs
          have hol := (layR_of qs).1
          unfold LayPost at h4
          rw [← hL] at h4 hgl hol
          obtain ⟨As, cs, Ao, co, he, hS, hO, capS, capO, hb4⟩ := h4
          have he' : e = .returned (.tuple #[.agg #[.int .i64 L.s, .int .i64 L.al, .slice As L.sp.length cs, .slice Ao L.of.length co, .slice none 0 0, .slice none 0 0, .slice none 0 0, .bool false], .int .i64 (layE qs)]) := he
          subst he'
          have hb5 := fun al : Int => (Below.refl w4.heap.size w4).alloc (Nat.le_refl _) (.cells #[.int .i64 L.s, .int .i64 al, .slice As L.sp.length cs, .slice Ao L.of.length co, .slice none 0 0, .slice none 0 0, .slice none 0 0, .bool false] 31)
          have hR5 := fun al : Int => HHR.out.below (below_next hb4 (hb5 al))
          have hBx := fun al : Int => Blk.new w4 31 #[.int .i64 L.s, .int .i64 al, .slice As L.sp.length cs, .slice Ao L.of.length co, .slice none 0 0, .slice none 0 0, .slice none 0 0, .bool false]
          have hfar : (Value.slice A7 ps.length c7).ownBlock ≠ some w4.heap.size := fun e => by have h1 := (HHR.out.own7.lt _ e).2; have h2 := hb4.size; omega
          have hS5 := fun al : Int => hS.below (hb5 al)
          have hO5 := fun al : Int => hO.below (hb5 al)
          have HR5 := Lib.hid hR5
          have HBX := Lib.hid hBx
          have HFAR := Lib.hid hfar
          have HS5 := Lib.hid hS5
          have HO5 := Lib.hid hO5
          obtain ⟨⟨b0, b1, b2, b3, b4, b5, b6, b7⟩, bf⟩ := (hBx L.al).eight
          have hW4 : W.heap.size ≤ w4.heap.size := Nat.le_trans HHR.out.grown.size hb4.size
          have hgd4 : gd < w4.heap.size := by omega
          clear he hS hO hb4 hb5 hR5 hBx hfar hS5 hO5 hL HHR HLAY
          have hpl5 : ps.length ≤ 5 := by omega
          rcases (show L.al = 0 ∨ ¬ L.al = 0 by omega) with hal | hal
          case' inl =>
            have hd0 : (L.al == 0) = true := by simpa using hal
            have HAL := Lib.hid hal
            clear hal
            go_upto_region 15 with fail
            refine gen_world (fun S => ∃ p : Part, RowsC W gd ls (.slice A7 ps.length c7) ps (.slice A8 ps.length c8) nms (.slice A9 ps.length c9) bs S ∧ Blk S w4.heap.size 31 (pArr p) ∧ LaidAt S p) ⟨⟨L.s, 1, As, L.sp, cs, .slice Ao L.of.length co, .slice none 0 0, .slice none 0 0, .slice none 0 0, .bool false⟩, ?_, ?_, ?_⟩ ?_
            · exact HR5.out 1
            · exact HBX.out 1
            · exact ⟨HS5.out 1, capS, (valid_iff _).2 ⟨by show (0 : Int) ≤ L.s; omega, by show L.s ≤ 1024; omega, .inl rfl, by show (L.sp.length : Int) = L.s; omega⟩, ⟨Ao, L.of, co, rfl, HO5.out 1, capO, by omega⟩, ⟨rfl, rfl, rfl, rfl, rfl⟩⟩
          case' inr =>
            have hd0 : (L.al == 0) = false := by simpa using hal
            have HAL := Lib.hid hal
            clear hal
            go_upto_region 15 with fail
            refine gen_world (fun S => ∃ p : Part, RowsC W gd ls (.slice A7 ps.length c7) ps (.slice A8 ps.length c8) nms (.slice A9 ps.length c9) bs S ∧ Blk S w4.heap.size 31 (pArr p) ∧ LaidAt S p) ⟨⟨L.s, L.al, As, L.sp, cs, .slice Ao L.of.length co, .slice none 0 0, .slice none 0 0, .slice none 0 0, .bool false⟩, HR5.out L.al, HBX.out L.al, ⟨HS5.out L.al, capS, (valid_iff _).2 ⟨by show (0 : Int) ≤ L.s; omega, by show L.s ≤ 1024; omega, by show L.al = 1 ∨ L.al = 8; have := HAL.out; omega, by show (L.sp.length : Int) = L.s; omega⟩, ⟨Ao, L.of, co, rfl, HO5.out L.al, capO, by omega⟩, ⟨rfl, rfl, rfl, rfl, rfl⟩⟩⟩ ?_
          all_goals
            intro S ⟨p, hR, hB, hLp⟩
            have hone := hLp.one
            have sx3 := store_var (P := Try.prog) hone.h3
            have sx4 := store_var (P := Try.prog) hone.h4
            have sx5 := store_var (P := Try.prog) hone.h5
            have sx6 := store_var (P := Try.prog) hone.h6
            have sx7 := store_var (P := Try.prog) hone.h7
            have hst := CApp.start hR (nm := cname ps.length) (c8 := .int .u8 (97 + (ps.length : Int))) hLp hB HFAR.out
            have HST := Lib.hid hst
            clear b0 b1 b2 b3 b4 b5 b6 b7 bf hd0 HAL HR5 HBX HS5 HO5 hR hB hLp hst hone
            go_wp2_with fail
            refine gen_act fun a0 ha0 => ?_
            have z0 : a0.eval (.tmp 0) = .pointer (some ⟨gd, 0, none⟩) := by rw [ha0]; rfl
            have z7 : a0.eval (.tmp 7) = .slice A7 ps.length c7 := by rw [ha0]; rfl
            have z8 : a0.eval (.tmp 8) = .slice A8 ps.length c8 := by rw [ha0]; rfl
            have z9 : a0.eval (.tmp 9) = .slice A9 ps.length c9 := by rw [ha0]; rfl
            have z13 : a0.eval (.tmp 13) = .pointer (some ⟨w4.heap.size, 0, none⟩) := by rw [ha0]; rfl
            have zs : a0.tmps.size = 82 := by rw [ha0]; rfl
            have HA0 := Lib.hid ha0
            clear ha0
            refine wp_region_kn (by kernel_rfl) (ord_of' (by kernel_rfl)) (dst_of (by kernel_rfl)) (size_of' (n := 82) (by kernel_rfl) zs) [some (.slice A7 ps.length c7), some (.agg (pArr p)), none, none, some (.slice A8 ps.length c8), some (.slice A8 ps.length c8), some (.int .i64 ps.length), some (.int .i64 (97 + (ps.length : Int))), some (.int .u8 (97 + (ps.length : Int))), none, some (.string ⟨([97 + UInt8.ofNat ps.length] : List UInt8).toArray⟩), some (.string (cname ps.length)), none, none, some (.slice A9 ps.length c9), some (.pointer (some ⟨gd, 0, none⟩)), none, none, none, none, none, none] ?_ (CApp W gd ls (.slice A7 ps.length c7) ps (.slice A8 ps.length c8) nms (.slice A9 ps.length c9) bs p (cname ps.length) (.int .u8 (97 + (ps.length : Int))) w4.heap.size) HST.out ?_ ?_ ?_ ?_
            · intro i o g bl ho hg
              rw [guard_of (by kernel_rfl) i o ho] at hg
              cases hg
            · intro i u D x wv hl hD hI
              have hi : i < 22 := by have h := (List.getElem?_eq_some_iff.1 hl).1; simpa using h
              have hnh : i ≠ 2 ∧ i ≠ 3 ∧ i ≠ 9 ∧ i ≠ 12 ∧ i ≠ 13 ∧ i ≠ 16 ∧ i ≠ 17 ∧ i ≠ 18 ∧ i ≠ 19 ∧ i ≠ 20 ∧ i ≠ 21 := by
                refine ⟨?_, ?_, ?_, ?_, ?_, ?_, ?_, ?_, ?_, ?_, ?_⟩ <;> (rintro rfl; simp at hl)
              exact hI.ins i u hnh
            · intro D x a wv i o u ho hl hD hdep hcl hF hKn hI hwant K hk
              have hi : i < 22 := (Array.getElem?_eq_some_iff.1 ho).1
              rcases (show i = 0 ∨ i = 1 ∨ i = 2 ∨ i = 3 ∨ i = 4 ∨ i = 5 ∨ i = 6 ∨ i = 7 ∨ i = 8 ∨ i = 9 ∨ i = 10 ∨ i = 11 ∨ i = 12 ∨ i = 13 ∨ i = 14 ∨ i = 15 ∨ i = 16 ∨ i = 17 ∨ i = 18 ∨ i = 19 ∨ i = 20 ∨ i = 21 by omega) with rfl | rfl | rfl | rfl | rfl | rfl | rfl | rfl | rfl | rfl | rfl | rfl | rfl | rfl | rfl | rfl | rfl | rfl | rfl | rfl | rfl | rfl
              · simp only [List.getElem?_toArray, List.getElem?_cons_zero, Option.some.injEq] at ho
                subst ho
                obtain rfl : .slice A7 ps.length c7 = u := by simpa using hl
                have c19 : D 19 = false := by
                  cases hx : D 19 with
                  | false => rfl
                  | true =>
                    have hy := hcl 19 _ rfl hx
                    simp [Region.binds] at hy
                    simp [hy] at hD
                have e7 := ev_tmp ((hF.same (fun j oj hj hd => by rw [dst_only (by kernel_rfl) hj hd (k := 19) rfl]; exact c19)).trans z7)
                clear hF hcl hKn hl hwant
                go_simp
                exact hk
              · simp only [List.getElem?_toArray, List.getElem?_cons_zero, List.getElem?_cons_succ, Option.some.injEq] at ho
                subst ho
                obtain rfl : .agg (pArr p) = u := by simpa using hl
                have e13 := hF.ev0 (by kernel_rfl) z13
                obtain ⟨⟨b0, b1, b2, b3, b4, b5, b6, b7⟩, bf⟩ := Blk.eight hI.box
                clear hF hcl hKn hl hwant
                go_simp
                exact hk
              · simp at hl
              · simp at hl
              · simp only [List.getElem?_toArray, List.getElem?_cons_zero, List.getElem?_cons_succ, Option.some.injEq] at ho
                subst ho
                obtain rfl : .slice A8 ps.length c8 = u := by simpa using hl
                have c20 : D 20 = false := by
                  cases hx : D 20 with
                  | false => rfl
                  | true =>
                    have hy := hcl 20 _ rfl hx
                    simp [Region.binds] at hy
                    simp [hy] at hD
                have e8 := ev_tmp ((hF.same (fun j oj hj hd => by rw [dst_only (by kernel_rfl) hj hd (k := 20) rfl]; exact c20)).trans z8)
                clear hF hcl hKn hl hwant
                go_simp
                exact hk
              · simp only [List.getElem?_toArray, List.getElem?_cons_zero, List.getElem?_cons_succ, Option.some.injEq] at ho
                subst ho
                obtain rfl : .slice A8 ps.length c8 = u := by simpa using hl
                have c20 : D 20 = false := by
                  cases hx : D 20 with
                  | false => rfl
                  | true =>
                    have hy := hcl 20 _ rfl hx
                    simp [Region.binds] at hy
                    simp [hy] at hD
                have e8 := ev_tmp ((hF.same (fun j oj hj hd => by rw [dst_only (by kernel_rfl) hj hd (k := 20) rfl]; exact c20)).trans z8)
                clear hF hcl hKn hl hwant
                go_simp
                exact hk
              · simp only [List.getElem?_toArray, List.getElem?_cons_zero, List.getElem?_cons_succ, Option.some.injEq] at ho
                subst ho
                simp [Region.binds] at hdep
                obtain rfl : .int .i64 ps.length = u := by simpa using hl
                have e53 := hKn.ev hF 5 rfl rfl rfl (by simp [hdep])
                clear hF hcl hKn hl hwant
                go_simp
                exact hk
              · simp only [List.getElem?_toArray, List.getElem?_cons_zero, List.getElem?_cons_succ, Option.some.injEq] at ho
                subst ho
                simp [Region.binds] at hdep
                obtain rfl : .int .i64 (97 + (ps.length : Int)) = u := by simpa using hl
                have e54 := hKn.ev hF 6 rfl rfl rfl (by simp [hdep])
                have hw : IntKind.i64.wrap (97 + (ps.length : Int)) = 97 + (ps.length : Int) := by rw [IntKind.wrap_i64]; omega
                clear hF hcl hKn hl hwant
                go_simp
                exact hk
              · simp only [List.getElem?_toArray, List.getElem?_cons_zero, List.getElem?_cons_succ, Option.some.injEq] at ho
                subst ho
                simp [Region.binds] at hdep
                obtain rfl : .int .u8 (97 + (ps.length : Int)) = u := by simpa using hl
                have e55 := hKn.ev hF 7 rfl rfl rfl (by simp [hdep])
                have hw : IntKind.u8.wrap (97 + (ps.length : Int)) = 97 + (ps.length : Int) := by unfold IntKind.wrap; simp [IntKind.signed, IntKind.bits]; omega
                clear hF hcl hKn hl hwant
                go_simp
                exact hk
              · simp at hl
              · simp only [List.getElem?_toArray, List.getElem?_cons_zero, List.getElem?_cons_succ, Option.some.injEq] at ho
                subst ho
                simp [Region.binds] at hdep
                obtain rfl : .string ⟨([97 + UInt8.ofNat ps.length] : List UInt8).toArray⟩ = u := by simpa using hl
                obtain ⟨g, hx, hB9⟩ := hI.n9 (by simp [hdep])
                have e57 := hF.ev 9 rfl rfl (by simp [hdep]) hx
                have hsl : Sl wv (some ⟨g, 0, none⟩) (([97 + UInt8.ofNat ps.length] : List UInt8).map bv) := by have h := Sl.ofBlk hB9; rw [u97 ps.length (by omega)] at h; exact h
                have cv := run_convb (P := Try.prog) wv 27 9 5 (some ⟨g, 0, none⟩) 1 1 [97 + UInt8.ofNat ps.length] Try.underlying27 Try.underlying5 Try.underlying9 hsl rfl
                clear hF hcl hKn hl hwant
                go_simp
                exact hk
              · simp only [List.getElem?_toArray, List.getElem?_cons_zero, List.getElem?_cons_succ, Option.some.injEq] at ho
                subst ho
                simp [Region.binds] at hdep
                obtain rfl : .string (cname ps.length) = u := by simpa using hl
                have e58 := hKn.ev hF 10 rfl rfl rfl (by simp [hdep])
                have hte := cname_eq ps.length
                clear hF hcl hKn hl hwant
                go_simp
                exact hk
              · simp at hl
              · simp at hl
              · simp only [List.getElem?_toArray, List.getElem?_cons_zero, List.getElem?_cons_succ, Option.some.injEq] at ho
                subst ho
                obtain rfl : .slice A9 ps.length c9 = u := by simpa using hl
                have c21 : D 21 = false := by
                  cases hx : D 21 with
                  | false => rfl
                  | true =>
                    have hy := hcl 21 _ rfl hx
                    simp [Region.binds] at hy
                    simp [hy] at hD
                have e9 := ev_tmp ((hF.same (fun j oj hj hd => by rw [dst_only (by kernel_rfl) hj hd (k := 21) rfl]; exact c21)).trans z9)
                clear hF hcl hKn hl hwant
                go_simp
                exact hk
              · simp only [List.getElem?_toArray, List.getElem?_cons_zero, List.getElem?_cons_succ, Option.some.injEq] at ho
                subst ho
                obtain rfl : .pointer (some ⟨gd, 0, none⟩) = u := by simpa using hl
                have e0 := hF.ev0 (by kernel_rfl) z0
                clear hF hcl hKn hl hwant
                go_simp
                exact hk
              · simp at hl
              · simp at hl
              · simp at hl
              · simp at hl
              · simp at hl
              · simp at hl
            · intro D x a wv i o ho hl hD hdep hcl hF hKn hI K hk
              have hi : i < 22 := (Array.getElem?_eq_some_iff.1 ho).1
              rcases (show i = 0 ∨ i = 1 ∨ i = 2 ∨ i = 3 ∨ i = 4 ∨ i = 5 ∨ i = 6 ∨ i = 7 ∨ i = 8 ∨ i = 9 ∨ i = 10 ∨ i = 11 ∨ i = 12 ∨ i = 13 ∨ i = 14 ∨ i = 15 ∨ i = 16 ∨ i = 17 ∨ i = 18 ∨ i = 19 ∨ i = 20 ∨ i = 21 by omega) with rfl | rfl | rfl | rfl | rfl | rfl | rfl | rfl | rfl | rfl | rfl | rfl | rfl | rfl | rfl | rfl | rfl | rfl | rfl | rfl | rfl | rfl
              · exact absurd rfl (hl _)
              · exact absurd rfl (hl _)
              · simp only [List.getElem?_toArray, List.getElem?_cons_zero, List.getElem?_cons_succ, Option.some.injEq] at ho
                subst ho
                simp [Region.binds] at hdep
                have e49 := hKn.ev hF 1 rfl rfl rfl (by simp [hdep])
                clear hF hcl hKn hl
                go_simp
                exact hk _ _ (hI.op2 hD)
              · simp only [List.getElem?_toArray, List.getElem?_cons_zero, List.getElem?_cons_succ, Option.some.injEq] at ho
                subst ho
                simp [Region.binds] at hdep
                have e48 := hKn.ev hF 0 rfl rfl rfl (by simp [hdep])
                have c19 : D 19 = false := by
                  cases hx : D 19 with
                  | false => rfl
                  | true =>
                    have hy := hcl 19 _ rfl hx
                    simp [Region.binds] at hy
                    simp [hy] at hD
                have E0 := (hF.eval (i := 0) rfl rfl (by simp [hdep])).trans (hKn 0 _ rfl (by simp [hdep]))
                obtain ⟨g, hx, hB2⟩ := hI.n2 (by simp [hdep]) hD
                have Es := (hF.eval (i := 2) rfl rfl (by simp [hdep])).trans hx
                have hsl : Sl wv (some ⟨g, 0, none⟩) (Part.cells p) := Sl.ofBlk hB2
                refine wp_append_sl _ _ 22 rfl W.heap.size 31 _ 8 144 Try.underlying22 el31 _ ps.length _ E0 (hI.own7n hD) (some ⟨g, 0, none⟩) 1 1 _ Es hsl rfl (by have h1 := parts_one (ps := [p]) (by intro q hq; rw [List.mem_singleton.1 hq]; exact hI.laidp.one); simpa using h1) (by simp only [maxLen]; omega) (by omega) hI.grown.size ?_
                intro A' c' w6 hown hg _
                refine hk _ w6 (hI.op3 hD c19 (A := A') (c := c') ?_ hg)
                first | exact hown | (simp only [List.flatMap_append, List.map_append, List.flatMap_cons, List.flatMap_nil, List.append_nil, List.map_cons, List.map_nil]; exact hown)
              · exact absurd rfl (hl _)
              · exact absurd rfl (hl _)
              · exact absurd rfl (hl _)
              · exact absurd rfl (hl _)
              · exact absurd rfl (hl _)
              · simp only [List.getElem?_toArray, List.getElem?_cons_zero, List.getElem?_cons_succ, Option.some.injEq] at ho
                subst ho
                simp [Region.binds] at hdep
                have e56 := hKn.ev hF 8 rfl rfl rfl (by simp [hdep])
                clear hF hcl hKn hl
                go_simp
                exact hk _ _ (hI.op9 hD)
              · exact absurd rfl (hl _)
              · exact absurd rfl (hl _)
              · simp only [List.getElem?_toArray, List.getElem?_cons_zero, List.getElem?_cons_succ, Option.some.injEq] at ho
                subst ho
                simp [Region.binds] at hdep
                have e59 := hKn.ev hF 11 rfl rfl rfl (by simp [hdep])
                clear hF hcl hKn hl
                go_simp
                exact hk _ _ (hI.op12 hD)
              · simp only [List.getElem?_toArray, List.getElem?_cons_zero, List.getElem?_cons_succ, Option.some.injEq] at ho
                subst ho
                simp [Region.binds] at hdep
                have e52 := hKn.ev hF 4 rfl rfl rfl (by simp [hdep])
                have c20 : D 20 = false := by
                  cases hx : D 20 with
                  | false => rfl
                  | true =>
                    have hy := hcl 20 _ rfl hx
                    simp [Region.binds] at hy
                    simp [hy] at hD
                have E4 := (hF.eval (i := 4) rfl rfl (by simp [hdep])).trans (hKn 4 _ rfl (by simp [hdep]))
                obtain ⟨g, hx, hB2⟩ := hI.n12 (by simp [hdep]) hD
                have Es := (hF.eval (i := 12) rfl rfl (by simp [hdep])).trans hx
                have hsl : Sl wv (some ⟨g, 0, none⟩) [.string (cname ps.length)] := Sl.ofBlk hB2
                refine wp_append_sl _ _ 66 rfl W.heap.size 9 _ 1 16 Try.underlying66 el9 _ ps.length _ E4 (hI.own8n hD) (some ⟨g, 0, none⟩) 1 1 _ Es hsl rfl (by intro u hu; rw [List.mem_singleton.1 hu]; rfl) (by simp only [maxLen]; omega) (by omega) hI.grown.size ?_
                intro A' c' w6 hown hg _
                refine hk _ w6 (hI.op13 hD c20 (A := A') (c := c') ?_ hg)
                first | exact hown | (simp only [List.flatMap_append, List.map_append, List.flatMap_cons, List.flatMap_nil, List.append_nil, List.map_cons, List.map_nil]; exact hown)
              · exact absurd rfl (hl _)
              · exact absurd rfl (hl _)
              · simp only [List.getElem?_toArray, List.getElem?_cons_zero, List.getElem?_cons_succ, Option.some.injEq] at ho
                subst ho
                simp [Region.binds] at hdep
                have e63 := hKn.ev hF 15 rfl rfl rfl (by simp [hdep])
                obtain ⟨k7, hk7⟩ := hI.dice
                clear hF hcl hKn hl
                go_simp
                refine (rare_any gd ls k7 4 _ hk7 (by omega) (by omega)).mono ?_
                rintro e w6 ⟨b, k8, rfl, hd8, _, hg8⟩
                exact hk _ _ (hI.op16 hD hd8 hg8)
              · simp only [List.getElem?_toArray, List.getElem?_cons_zero, List.getElem?_cons_succ, Option.some.injEq] at ho
                subst ho
                simp [Region.binds] at hdep
                obtain ⟨b, hx⟩ := hI.m16 (by simp [hdep])
                have e64 := hF.ev 16 rfl rfl (by simp [hdep]) hx
                clear hF hcl hKn hl
                go_simp
                exact hk _ _ (hI.op17 hD)
              · simp only [List.getElem?_toArray, List.getElem?_cons_zero, List.getElem?_cons_succ, Option.some.injEq] at ho
                subst ho
                simp [Region.binds] at hdep
                have e62 := hKn.ev hF 14 rfl rfl rfl (by simp [hdep])
                have c21 : D 21 = false := by
                  cases hx : D 21 with
                  | false => rfl
                  | true =>
                    have hy := hcl 21 _ rfl hx
                    simp [Region.binds] at hy
                    simp [hy] at hD
                have E14 := (hF.eval (i := 14) rfl rfl (by simp [hdep])).trans (hKn 14 _ rfl (by simp [hdep]))
                obtain ⟨g, b, hx, hB2⟩ := hI.n17 (by simp [hdep]) hD
                have Es := (hF.eval (i := 17) rfl rfl (by simp [hdep])).trans hx
                have hsl : Sl wv (some ⟨g, 0, none⟩) [.bool b] := Sl.ofBlk hB2
                refine wp_append_sl _ _ 67 rfl W.heap.size 4 _ 1 1 Try.underlying67 el4 _ ps.length _ E14 (hI.own9n hD) (some ⟨g, 0, none⟩) 1 1 _ Es hsl rfl (by intro u hu; rw [List.mem_singleton.1 hu]; rfl) (by simp only [maxLen]; omega) (by omega) hI.grown.size ?_
                intro A' c' w6 hown hg _
                refine hk _ w6 (hI.op18 hD c21 (b := b) (A := A') (c := c') ?_ hg)
                first | exact hown | (simp only [List.flatMap_append, List.map_append, List.flatMap_cons, List.flatMap_nil, List.append_nil, List.map_cons, List.map_nil]; exact hown)
              · simp only [List.getElem?_toArray, List.getElem?_cons_zero, List.getElem?_cons_succ, Option.some.injEq] at ho
                subst ho
                simp [Region.binds] at hdep
                have e51 := hF.ev 3 rfl rfl (by simp [hdep]) rfl
                clear hF hcl hKn hl
                go_simp
                exact hk _ _ (hI.op19 hD)
              · simp only [List.getElem?_toArray, List.getElem?_cons_zero, List.getElem?_cons_succ, Option.some.injEq] at ho
                subst ho
                simp [Region.binds] at hdep
                have e61 := hF.ev 13 rfl rfl (by simp [hdep]) rfl
                clear hF hcl hKn hl
                go_simp
                exact hk _ _ (hI.op20 hD)
              · simp only [List.getElem?_toArray, List.getElem?_cons_zero, List.getElem?_cons_succ, Option.some.injEq] at ho
                subst ho
                simp [Region.binds] at hdep
                have e66 := hF.ev 18 rfl rfl (by simp [hdep]) rfl
                clear hF hcl hKn hl
                go_simp
                exact hk _ _ (hI.op21 hD)
            · intro D x w9 hD hKn hI
              obtain ⟨A7n, A8n, A9n, c7n, c8n, c9n, b, x19, x20, x21, HR⟩ := hI.done hD
              have HRH := Lib.hid HR
              clear hI HR HST hD hKn
              rw [HA0.out]
              simp [putsAll, List.range, List.range.loop, Act.put, x19, x20, x21]
              go_wp2
              go_roundw
              case rel => first | exact ⟨q, ps ++ [p], nms ++ [cname ps.length], bs ++ [b], A7n, A8n, A9n, c7n, c8n, c9n, by go_num, by rw [List.length_append, List.length_singleton]; omega, by rw [List.length_append, List.length_singleton], by rw [List.length_append, List.length_singleton], by rw [List.length_append, List.length_singleton], by rw [List.length_append, List.length_singleton]; exact HRH.out⟩ | ((repeat apply Exists.intro); exact ⟨⟨q, ps ++ [p], nms ++ [cname ps.length], bs ++ [b], A7n, A8n, A9n, c7n, c8n, c9n, by go_num, by rw [List.length_append, List.length_singleton]; omega, by rw [List.length_append, List.length_singleton], by rw [List.length_append, List.length_singleton], by rw [List.length_append, List.length_singleton], by rw [List.length_append, List.length_singleton]; exact HRH.out⟩, rfl⟩)
              case measure => simp [intOf]
    · obtain rfl : q = 0 := by omega
      have HH := Lib.hid H
      clear H
      go_wp2
      go_ret3
      exact ⟨ps, nms, bs, A7, A8, A9, c7, c8, c9, rfl, by omega, HH.out⟩
end Go.Proofs.Ytamhigknobdloaa
