/- The walk of the law MaskBits; condition: the slice's bytes are readable. -/
import Derived.Test.YtamhigknobdloaaMe
namespace Go.Proofs.Ytamhigknobdloaa
open Go.RowKit
set_option linter.unusedVariables false

theorem bit_test0 (b : UInt8) (k : Nat) : (bits .and .u8 ((b.toNat : Int) / 2 ^ k) 1 == 0) = !b.toNat.testBit k := by
  have hb := b.toNat_lt
  have e : (b.toNat : Int) / 2 ^ k = ((b.toNat / 2 ^ k : Nat) : Int) := by simp
  have hlt : b.toNat / 2 ^ k < 256 := Nat.lt_of_le_of_lt (Nat.div_le_self _ _) (by omega)
  rw [e]
  have := u8_and_nat (b.toNat / 2 ^ k) 1 hlt (by omega)
  simp only [Int.natCast_one] at this
  rw [this, Nat.and_one_is_mod, Nat.testBit_eq_decide_div_mod_eq, Bool.eq_iff_iff]
  simp
  omega

set_option maxHeartbeats 1600000 in
theorem maskBits_walk (A : Option Addr) (n c : Nat) (m : List UInt8) (k : Nat) (w : World) (hn : m.length = n) (hs : Sl w A (m.map bv)) (hn63 : n ≤ 9223372036854775807) (hk : k ≤ 255) :
    Calls Try.prog 6 #[.slice A n c, .int .u8 k] w fun e w' => e = .returned (.bool true) ∧ Below w.heap.size w w' := by
  by_cases hbig : 100 < n
  · go_enter Try.func6, Try.ntmps6
    go_wp2_with fail
    refine (awake15 _).mono ?_
    rintro e w1 ⟨rfl, hb⟩
    go_wp2
    go_ret
    exact ⟨rfl, hb⟩
  · by_cases hkc : k ≤ countB m
    · subst hn
      have g0 : decide (100 < (m.length : Int)) = false := by simp; omega
      have g1 : decide (countB m < k) = false := by simp; omega
      have g2 : decide (k ≤ countB m) = true := by simp; omega
      have hcl := countB_le m
      go_enter Try.func6, Try.ntmps6
      go_wp2_with fail
      refine (bits_yes _ _ _ m k _ rfl hs (by omega) hkc).mono ?_
      rintro e w1 ⟨A1, c1, rfl, own1, hb1⟩
      have hs1 := hs.below hb1
      have hso := Sl.of_own own1
      clear own1
      go_wp2_with fail
      refine (count_any _ _ _ m _ rfl hs1 (by omega)).mono ?_
      rintro e w2 ⟨rfl, rfl⟩
      go_wp2_with fail
      have LN := Lib.hid (bitsN_length m k hkc)
      go_loop [4, 8, 10, 11, 50] (fun _ v8 _ _ v50 => ∃ j : Nat, j ≤ k ∧ v50 = .int .i64 j ∧ v8 = .int .i64 ((starts (bitsN m k) j : Int) - 1)) (fun _ _ _ _ v50 => k - (intOf v50).toNat)
      case atStart => exact ⟨0, by omega, rfl, rfl⟩
      case round =>
        obtain ⟨j, hj, rfl, rfl⟩ := hrel
        by_cases hlt : j < k
        · have hjl : j < (bitsN m k).length := by rw [LN.out]; exact hlt
          have hget := bitsN_get m k j hjl
          have hgap := bitsN_gap m k j hjl
          obtain ⟨b, off, rfl, hc⟩ := hso.at_ (k := j) (by simpa using hjl)
          rw [List.getElem_map] at hc
          have hnx : starts (bitsN m k) (j + 1) = (bitsN m k)[j] + 1 := by simp [starts, hjl]
          generalize hbeq : (bitsN m k)[j] = bb at *
          have HB := Lib.hid hbeq
          clear hbeq
          generalize starts (bitsN m k) j = st at *
          have NX := Lib.hid hnx
          clear hnx
          have GAP := Lib.hid hgap.2
          have hgap1 := hgap.1
          clear hgap
          have hbit := hget.1
          have hb8 := hget.2
          clear hget
          have hcv : w1.cell? ⟨b, off + j, none⟩ = some (.int .i64 bb) := hc
          clear hc
          go_wp2_with fail
          go_loop [11] (fun v11 => ∃ i : Nat, st ≤ i ∧ i ≤ bb ∧ v11 = .int .i64 i) (fun v11 => bb - (intOf v11).toNat)
          case atStart => exact ⟨st, by omega, hgap1, rfl⟩
          case round =>
            obtain ⟨i, hi1, hi2, rfl⟩ := hrel
            by_cases hib : i < bb
            · have hi8 : i / 8 < m.length := by omega
              obtain ⟨mb, mo, rfl, hcm⟩ := hs1.at_ (k := i / 8) (by simpa using hi8)
              rw [List.getElem_map] at hcm
              have ht := bit_test m[i / 8] (i % 8)
              have hz := GAP.out i hi1 hib
              rw [bitN, List.getD_eq_getElem?_getD, List.getElem?_eq_getElem hi8, Option.getD_some] at hz
              rw [hz] at ht
              clear hz
              go_wp2
              go_round
              case rel => exact ⟨i + 1, by omega, by omega, by go_num⟩
              case measure => simp [intOf]; omega
            · obtain rfl : i = bb := by omega
              have hi8 : i / 8 < m.length := by omega
              obtain ⟨mb, mo, rfl, hcm⟩ := hs1.at_ (k := i / 8) (by simpa using hi8)
              rw [List.getElem_map] at hcm
              have ht := bit_test0 m[i / 8] (i % 8)
              have hz := hbit
              rw [bitN, List.getD_eq_getElem?_getD, List.getElem?_eq_getElem hi8, Option.getD_some] at hz
              rw [hz] at ht
              clear hz
              have hst : ¬ (i : Int) ≤ (st : Int) - 1 := by omega
              go_wp2
              go_round
              case rel => exact ⟨j + 1, by omega, by go_num, by rw [NX.out]; go_num⟩
              case measure => simp [intOf]; omega
        · obtain rfl : j = k := by omega
          go_wp2_with fail
          refine (awake15 _).mono ?_
          rintro e w3 ⟨rfl, hb3⟩
          go_wp2
          go_ret
          exact ⟨rfl, below_next hb1 hb3⟩
    · subst hn
      have g0 : decide (100 < (m.length : Int)) = false := by simp; omega
      have g1 : decide (countB m < k) = true := by simp; omega
      have g2 : decide (k ≤ countB m) = false := by simp; omega
      have hcl := countB_le m
      go_enter Try.func6, Try.ntmps6
      go_wp2_with fail
      refine (bits_no _ _ _ m k _ rfl hs (by omega) (.inr (by omega))).mono ?_
      rintro e w1 ⟨rfl, rfl⟩
      go_wp2_with fail
      refine (count_any _ _ _ m _ rfl hs (by omega)).mono ?_
      rintro e w2 ⟨rfl, rfl⟩
      go_wp2_with fail
      go_loop [4, 8, 10, 11, 50] (fun _ _ _ _ v50 => v50 = .int .i64 0) (fun _ _ _ _ v50 => 0)
      case atStart => rfl
      case round =>
        subst hrel
        go_wp2_with fail
        refine (awake15 _).mono ?_
        rintro e w3 ⟨rfl, hb3⟩
        go_wp2
        go_ret
        exact ⟨rfl, hb3⟩
end Go.Proofs.Ytamhigknobdloaa
