/- The walk of the law MaskNumbers; no condition but that the slices are readable. -/
import Derived.Test.YtamhigknobdloaaMw
namespace Go.Proofs.Ytamhigknobdloaa
open Go.RowKit
set_option linter.unusedVariables false

theorem wrap64_pow (k : Nat) (h : k < 62) : wrap64 (2 ^ k) = ((2 ^ k : Nat) : Int) := by
  have hp : 2 ^ k < 2 ^ 62 := Nat.pow_lt_pow_right (by omega) h
  have e : (2 : Int) ^ k = ((2 ^ k : Nat) : Int) := by simp
  rw [e]
  generalize (2 ^ k : Nat) = z at hp
  exact IntWalk.wrap64_in _ ⟨by omega, by omega⟩

theorem take_contains (L : List Nat) (i j : Nat) (h : j < L.length) : (L.take (j + 1)).contains i = ((L.take j).contains i || i == L[j]) := by
  rw [List.take_succ_eq_append_getElem h, Bool.eq_iff_iff]
  simp only [List.contains_iff_mem, List.mem_append, List.mem_singleton, Bool.or_eq_true, beq_iff_eq]

theorem bit_val (b : UInt8) (k : Nat) : bits .and .u8 ((b.toNat : Int) / 2 ^ k) 1 = if b.toNat.testBit k then 1 else 0 := by
  have hb := b.toNat_lt
  have e : (b.toNat : Int) / 2 ^ k = ((b.toNat / 2 ^ k : Nat) : Int) := by simp
  have hlt : b.toNat / 2 ^ k < 256 := Nat.lt_of_le_of_lt (Nat.div_le_self _ _) (by omega)
  rw [e]
  have := u8_and_nat (b.toNat / 2 ^ k) 1 hlt (by omega)
  simp only [Int.natCast_one] at this
  rw [this, Nat.and_one_is_mod, Nat.testBit_eq_decide_div_mod_eq]
  by_cases h : b.toNat / 2 ^ k % 2 = 1
  · simp [h]
  · have : b.toNat / 2 ^ k % 2 = 0 := by omega
    simp [this]

set_option maxHeartbeats 3200000 in
set_option maxRecDepth 100000 in
theorem maskNumbers_walk (A : Option Addr) (n c : Nat) (b : List UInt8) (Z : Option Addr) (nz cz : Nat) (m : List UInt8) (vn k : Nat) (w : World) (hn : b.length = n) (hs : Sl w A (b.map bv)) (hn63 : n ≤ 9223372036854775807)
    (hnz : m.length = nz) (hz : Sl w Z (m.map bv)) (hz63 : nz ≤ 9223372036854775807) (hvn : vn ≤ 65535) (hk : k ≤ 255) :
    Calls Try.prog 7 #[.slice A n c, .slice Z nz cz, .int .u16 vn, .int .u8 k] w fun e w' => e = .returned (.bool true) ∧ Below w.heap.size w w' := by
  by_cases h0 : n = 0
  · subst h0
    go_enter Try.func7, Try.ntmps7
    go_wp2_with fail
    refine (awake15 _).mono ?_
    rintro e w1 ⟨rfl, hb⟩
    go_wp2
    go_ret
    exact ⟨rfl, hb⟩
  by_cases hbig : 100 < n
  · have hd : decide ((100 : Int) < n) = true := by simp; omega
    have hd0 : ((n : Int) == 0) = false := by simp; omega
    go_enter Try.func7, Try.ntmps7
    go_wp2_with fail
    refine (awake15 _).mono ?_
    rintro e w1 ⟨rfl, hb⟩
    go_wp2
    go_ret
    exact ⟨rfl, hb⟩
  have hd : decide ((100 : Int) < n) = false := by simp; omega
  have hd0 : ((n : Int) == 0) = false := by simp; omega
  obtain ⟨kk, hkk⟩ : ∃ kk, kk = k % 17 := ⟨_, rfl⟩
  have hkI : (k : Int) % 17 = (kk : Int) := by omega
  have hk17 : kk < 17 := by omega
  clear hkk
  obtain ⟨X, hXe⟩ : ∃ X, X = extB m n := ⟨_, rfl⟩
  have hX : X.length = n := by rw [hXe]; exact extB_length m n
  have hcX := countB_le X
  rw [hX] at hcX
  have HXE := Lib.hid hXe
  have HX := Lib.hid hX
  have HN := Lib.hid hn
  have HNZ := Lib.hid hnz
  clear hXe hX hn hnz
  by_cases hok : kk ≤ countB X
  · have hpow : 2 ^ kk < 2 ^ 17 := Nat.pow_lt_pow_right (by omega) hk17
    have hpow0 : 0 < 2 ^ kk := Nat.pow_pos (by omega)
    obtain ⟨pw, hpw⟩ : ∃ pw, pw = 2 ^ kk := ⟨_, rfl⟩
    rw [← hpw] at hpow hpow0
    have hw : wrap64 (2 ^ kk) = (pw : Int) := by rw [wrap64_pow kk (by omega), hpw]
    have HPW := Lib.hid hpw
    clear hpw
    go_enter Try.func7, Try.ntmps7
    go_wp2_with fail
    refine (extend_any _ _ _ m n _ HNZ.out hz (by omega)).mono ?_
    rw [clampN_nat n (by omega), ← HXE.out]
    rintro e w1 ⟨A1, rfl, own1, hb1⟩
    have hx1 := own1.sl
    go_wp2_with fail
    refine (bits_yes _ _ _ X kk _ HX.out hx1 (by omega) hok).mono ?_
    rw [natv_ints]
    rintro e w2 ⟨A2, c2, rfl, own2, hb2⟩
    have hL2 := Sl.of_own own2
    have cap2 := own_cap own2
    have hx2 := hx1.below hb2
    obtain ⟨v, hv⟩ : ∃ v, v = vn % pw := ⟨_, rfl⟩
    have hvI : (vn : Int) % pw = (v : Int) := by rw [hv]; simp
    have hvl : v < pw := by rw [hv]; exact Nat.mod_lt _ hpow0
    clear hv
    have hLl : (intsN (bitsN X kk)).length = kk := by rw [intsN_length, bitsN_length X kk hok]
    have G1 := numbers_get b X kk v (by rw [HX.out, HN.out]) hok (by omega) (by rw [← HPW.out]; exact hvl)
    have G2 := numbers_clear (putB b (intsN (bitsN X kk)) v 0) X kk
    have G3 := fun i => numbers_other b X kk v i
    have hib := ib_bits X kk (by rw [HX.out]; omega)
    have hyl : (putB b (intsN (bitsN X kk)) v 0).length = n := by rw [putB_length, HN.out]
    obtain ⟨Y, hY⟩ : ∃ Y, Y = putB b (intsN (bitsN X kk)) v 0 := ⟨_, rfl⟩
    rw [← hY] at G1 G2 hyl
    have G3' : ∀ i, i ∉ bitsN X kk → bitN Y i = bitN b i := by rw [hY]; exact G3
    have HY := Lib.hid hY
    have HLL := Lib.hid hLl
    have HG1 := Lib.hid G1
    have HG2 := Lib.hid G2
    have HG3 := Lib.hid G3'
    have HIB := Lib.hid hib
    have HYL := Lib.hid hyl
    clear hY hLl G1 G2 G3 G3' hib hyl
    have hself : ((n : Int) != n) = false := by simp
    have hselfv : ((v : Int) != v) = false := by simp
    go_wp2_with fail
    refine (put_any _ _ _ b _ _ _ (intsN (bitsN X kk)) v _ HN.out ((hs.below hb1).below hb2) (by omega) HLL.out hL2 (by omega) HIB.out (by omega) (by omega)).mono ?_
    rw [← HY.out]
    rintro e w3 ⟨A3, c3, rfl, own3, hb3⟩
    have hy3 := Sl.of_own own3
    have hL3 := hL2.below hb3
    go_wp2_with fail
    refine (getbits_any _ _ _ Y _ _ _ (intsN (bitsN X kk)) _ HYL.out hy3 (by omega) HLL.out hL3 (by omega) cap2 HIB.out).mono ?_
    rw [HG1.out]
    rintro e w4 ⟨rfl, rfl⟩
    go_wp2_with fail
    refine (clear_any _ _ _ Y _ _ _ (intsN (bitsN X kk)) _ HYL.out hy3 (by omega) HLL.out hL3 (by omega) HIB.out).mono ?_
    rintro e w4 ⟨A4, c4, rfl, own4, hb4⟩
    have hL4 := hL3.below hb4
    go_wp2_with fail
    refine (getbits_any _ _ _ (clearB Y (intsN (bitsN X kk))) _ _ _ (intsN (bitsN X kk)) _ (by rw [clearB_length, HYL.out]) (Sl.of_own own4) (by omega) HLL.out hL4 (by omega) cap2 HIB.out).mono ?_
    rw [HG2.out]
    rintro e w5 ⟨rfl, rfl⟩
    have hy4 := hy3.below hb4
    have hb14 := below_next (below_next (below_next hb1 hb2) hb3) hb4
    have hs4 := hs.below hb14
    have HB14 := Lib.hid hb14
    rw [← natv_ints] at hL4
    have LN := Lib.hid (bitsN_length X kk hok)
    clear own1 hx1 own2 hL2 hx2 hL3 hy3 own3 own4 hb1 hb2 hb3 hb4 hb14
    obtain ⟨L, hLe⟩ : ∃ L, L = bitsN X kk := ⟨_, rfl⟩
    rw [← hLe] at hL4 LN HG3
    clear hLe
    have hb0 := Below.refl w4.heap.size w4
    go_wp2_with fail
    go_loopw [8, 14, 15, 17, 90] (fun _ v14 _ _ _ wr => ∃ i : Nat, i ≤ 8 * n ∧ v14 = .int .i64 i ∧ Below w4.heap.size w4 wr) (fun _ v14 _ _ _ _ => 8 * n - (intOf v14).toNat)
    case atStart => exact ⟨0, by omega, rfl, hb0⟩
    case round =>
      obtain ⟨i, hi, rfl, hb⟩ := hrel
      have hLr := hL4.below hb
      have hyr := hy4.below hb
      have hsr := hs4.below hb
      by_cases hlt : i < 8 * n
      · go_wp2_with fail
        go_loop [15, 17, 90] (fun v15 _ v90 => ∃ j : Nat, j ≤ kk ∧ v90 = .int .i64 j ∧ v15 = .bool ((L.take j).contains i)) (fun _ _ v90 => kk - (intOf v90).toNat)
        case atStart => exact ⟨0, by omega, rfl, by simp⟩
        case round =>
          obtain ⟨j, hj, rfl, rfl⟩ := hrel
          by_cases hjl : j < kk
          · have hjL : j < L.length := by rw [LN.out]; exact hjl
            have TC := Lib.hid (take_contains L i j hjL)
            obtain ⟨lb, lo, rfl, hcl⟩ := hLr.at_ (k := j) (by simpa using hjL)
            rw [List.getElem_map] at hcl
            have hcl' : wr.cell? ⟨lb, lo + j, none⟩ = some (.int .i64 ((L[j] : Nat) : Int)) := hcl
            clear hcl
            cases h1 : (L.take j).contains i with
            | true =>
              rw [h1, Bool.true_or] at TC
              go_wp2
              go_round
              case rel => exact ⟨j + 1, by omega, by go_num, by rw [TC.out]⟩
              case measure => simp [intOf]; omega
            | false =>
              rw [h1, Bool.false_or] at TC
              cases h2 : (i == L[j]) with
              | true =>
                rw [h2] at TC
                have h2' : ((i : Int) == (L[j] : Nat)) = true := by simp at h2; simp; omega
                clear h2
                go_wp2
                go_round
                case rel => exact ⟨j + 1, by omega, by go_num, by rw [TC.out]⟩
                case measure => simp [intOf]; omega
              | false =>
                rw [h2] at TC
                have h2' : ((i : Int) == (L[j] : Nat)) = false := by simp at h2; simp; omega
                clear h2
                go_wp2
                go_round
                case rel => exact ⟨j + 1, by omega, by go_num, by rw [TC.out]⟩
                case measure => simp [intOf]; omega
          · obtain rfl : j = kk := by omega
            have TK : Hid (L.take j = L) := List.take_of_length_le (by rw [LN.out]; exact Nat.le_refl _)
            rw [TK.out]
            cases hc : L.contains i with
            | true =>
              go_wp2
              go_quiet (fail)
              go_wp2
              go_roundw
              case rel => exact ⟨i + 1, by omega, by go_num, below_drewN' hb _⟩
              case measure => simp [intOf]; omega
            | false =>
              have hi8 : i / 8 < n := by omega
              have hib8 : i / 8 < b.length := by rw [HN.out]; exact hi8
              have hiy8 : i / 8 < Y.length := by rw [HYL.out]; exact hi8
              obtain ⟨mb, mo, rfl, hcm⟩ := hsr.at_ (k := i / 8) (by simpa using hib8)
              obtain ⟨yb, yo, rfl, hcy⟩ := hyr.at_ (k := i / 8) (by simpa using hiy8)
              rw [List.getElem_map] at hcm hcy
              have hz := HG3.out i (by simpa using hc)
              have hne : (bits .and .u8 ((b[i / 8].toNat : Int) / 2 ^ (i % 8)) 1 != bits .and .u8 ((Y[i / 8].toNat : Int) / 2 ^ (i % 8)) 1) = false := by
                rw [bit_val, bit_val]
                simp only [bitN, List.getD_eq_getElem?_getD, List.getElem?_eq_getElem hib8, List.getElem?_eq_getElem hiy8, Option.getD_some] at hz
                rw [hz]; simp
              clear hz
              go_wp2
              go_quiet (fail)
              go_wp2
              go_roundw
              case rel => exact ⟨i + 1, by omega, by go_num, below_drewN' hb _⟩
              case measure => simp [intOf]; omega
      · obtain rfl : i = 8 * n := by omega
        have hd8 : ¬ ((8 * n : Nat) : Int) < 8 * (n : Int) := by omega
        go_wp2_with fail
        refine (awake15 _).mono ?_
        rintro e w6 ⟨rfl, hb6⟩
        go_wp2
        go_ret
        exact ⟨rfl, below_next (below_next HB14.out hb) hb6⟩
  · have hlt : countB X < kk := by omega
    have hlt2 : decide (countB X < kk) = true := by simp; omega
    go_enter Try.func7, Try.ntmps7
    go_wp2_with fail
    refine (extend_any _ _ _ m n _ HNZ.out hz (by omega)).mono ?_
    rw [clampN_nat n (by omega), ← HXE.out]
    rintro e w1 ⟨A1, rfl, own1, hb1⟩
    have hx1 := own1.sl
    go_wp2_with fail
    refine (bits_no _ _ _ X kk _ HX.out hx1 (by omega) (.inr (by omega))).mono ?_
    rintro e w2 ⟨rfl, rfl⟩
    go_wp2_with fail
    refine (count_any _ _ _ X _ HX.out hx1 (by omega)).mono ?_
    rintro e w3 ⟨rfl, rfl⟩
    go_wp2_with fail
    refine (awake15 _).mono ?_
    rintro e w4 ⟨rfl, hb4⟩
    go_wp2
    go_ret
    exact ⟨rfl, below_next hb1 hb4⟩
end Go.Proofs.Ytamhigknobdloaa
