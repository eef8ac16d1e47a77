/- The walks of TagSize, of the program and of the reference, for any number; no condition but that it is one of 64 bits. -/
import Derived.Test.YtamhigknobdloaaSb
namespace Go.Proofs.Ytamhigknobdloaa
open Go.RowKit
set_option linter.unusedVariables false

theorem pow_le62 (k : Nat) (h : k ≤ 62) : (2 : Int) ^ k ≤ 4611686018427387904 := by
  have h1 : (2 : Nat) ^ k ≤ 2 ^ 62 := Nat.pow_le_pow_right (by omega) h
  have h2 : (2 : Nat) ^ 62 = 4611686018427387904 := by decide
  have h3 : ((2 ^ k : Nat) : Int) = (2 : Int) ^ k := by push_cast; rfl
  omega
theorem wrap_pow62 (k : Nat) (h : k ≤ 62) : IntKind.i64.wrap ((2 : Int) ^ k) = (2 : Int) ^ k := by
  have h1 := pow_le62 k h
  have h2 : (0 : Int) ≤ 2 ^ k := Int.pow_nonneg (by omega)
  rw [IntKind.wrap_i64]; omega
set_option maxHeartbeats 800000 in
theorem tagsize_big (n : Int) (w : World) (h : 4611686018427387904 < n) (h1 : n ≤ 9223372036854775807) : Calls Try.prog 61 #[.int .i64 n] w fun e w' => e = .returned (.int .i64 63) ∧ w = w' := by
  go_enter Try.func61, Try.ntmps61
  go_wp2
  go_loop [3] (fun v3 => ∃ k : Nat, k ≤ 62 ∧ v3 = .int .i64 k) (fun v3 => 62 - (intOf v3).toNat)
  case atStart => exact ⟨0, by omega, rfl⟩
  case round =>
    obtain ⟨k, hk, rfl⟩ := hrel
    by_cases hlt : k < 62
    · have hw := wrap64_pow k hlt
      rw [pow62 k hlt] at hw
      have hp := pow_le62 k hk
      have hd : decide ((2 : Int) ^ k < n) = true := by simp; omega
      go_wp2
      go_round
      case rel => exact ⟨k + 1, by omega, by go_num⟩
      case measure => simp [intOf]; omega
    · obtain rfl : k = 62 := by omega
      go_wp2
      go_ret
      exact ⟨rfl, rfl⟩
theorem tagsize_any (n : Int) (w : World) (h0 : -9223372036854775808 ≤ n) (h1 : n ≤ 9223372036854775807) : Calls Try.prog 61 #[.int .i64 n] w fun e w' => e = .returned (.int .i64 (tagS n)) ∧ w = w' := by
  by_cases h : n ≤ 4611686018427387904
  · exact tagsize_small n w h h0
  · have e : tagS n = 63 := by unfold tagS; rw [if_pos (by omega)]
    rw [e]
    exact tagsize_big n w (by omega) h1
set_option maxHeartbeats 800000 in
theorem rtagsize_big (n : Int) (w : World) (h : 4611686018427387904 < n) (h1 : n ≤ 9223372036854775807) : Calls Try.prog 62 #[.int .i64 n] w fun e w' => e = .returned (.int .i64 63) ∧ w = w' := by
  go_enter Try.func62, Try.ntmps62
  go_wp2
  go_loop [3] (fun v3 => ∃ k : Nat, k ≤ 63 ∧ v3 = .int .i64 k) (fun v3 => 63 - (intOf v3).toNat)
  case atStart => exact ⟨0, by omega, rfl⟩
  case round =>
    obtain ⟨k, hk, rfl⟩ := hrel
    by_cases hlt : k < 63
    · have hp := pow_le62 k (by omega)
      have hwp := wrap_pow62 k (by omega)
      have hd : decide ((2 : Int) ^ k < n) = true := by simp; omega
      go_wp2
      go_round
      case rel => exact ⟨k + 1, by omega, by go_num⟩
      case measure => simp [intOf]; omega
    · obtain rfl : k = 63 := by omega
      go_wp2
      go_ret
      exact ⟨rfl, rfl⟩
set_option maxHeartbeats 800000 in
theorem rtagsize_small (n : Int) (w : World) (h : n ≤ 4611686018427387904) (h0 : -9223372036854775808 ≤ n) : Calls Try.prog 62 #[.int .i64 n] w fun e w' => e = .returned (.int .i64 (tagS n)) ∧ w = w' := by
  have ht : tagS n = tagGo n 62 0 := by unfold tagS; rw [if_neg (by omega)]
  have HT := Lib.hid ht
  clear ht
  go_enter Try.func62, Try.ntmps62
  go_wp2
  go_loop [3] (fun v3 => ∃ k : Nat, k ≤ 62 ∧ v3 = .int .i64 k ∧ Hid (tagGo n 62 0 = tagGo n (62 - k) k)) (fun v3 => 62 - (intOf v3).toNat)
  case atStart => exact ⟨0, by omega, rfl, (rfl : _ = _)⟩
  case round =>
    obtain ⟨k, hk, rfl, hg⟩ := hrel
    have hwp := wrap_pow62 k (by omega)
    by_cases hlt : k < 62
    · have hs : tagGo n (62 - k) k = if (2 : Int) ^ k < n then tagGo n (62 - (k + 1)) (k + 1) else k := by
        rw [show 62 - k = (62 - (k + 1)) + 1 by omega]
        rfl
      have HS := Lib.hid hs
      clear hs
      by_cases hc : (2 : Int) ^ k < n
      · have hd : decide ((2 : Int) ^ k < n) = true := by simpa using hc
        have HC := Lib.hid hc
        clear hc
        go_wp2
        go_round
        case rel => exact ⟨k + 1, by omega, by go_num, by show _ = _; rw [hg.out, HS.out, if_pos HC.out]⟩
        case measure => simp [intOf]; omega
      · have hd : decide ((2 : Int) ^ k < n) = false := by simpa using hc
        have HC := Lib.hid hc
        clear hc
        go_wp2
        go_ret
        exact ⟨by rw [HT.out, hg.out, HS.out, if_neg (Int.not_lt.2 HC.out)]; rfl, rfl⟩
    · obtain rfl : k = 62 := by omega
      have hd : decide ((2 : Int) ^ 62 < n) = false := by simp; omega
      go_wp2
      go_ret
      exact ⟨by rw [HT.out, hg.out]; rfl, rfl⟩
theorem rtagsize_any (n : Int) (w : World) (h0 : -9223372036854775808 ≤ n) (h1 : n ≤ 9223372036854775807) : Calls Try.prog 62 #[.int .i64 n] w fun e w' => e = .returned (.int .i64 (tagS n)) ∧ w = w' := by
  by_cases h : n ≤ 4611686018427387904
  · exact rtagsize_small n w h h0
  · have e : tagS n = 63 := by unfold tagS; rw [if_pos (by omega)]
    rw [e]
    exact rtagsize_big n w (by omega) h1
end Go.Proofs.Ytamhigknobdloaa
