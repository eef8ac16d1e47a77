/- The walks of TagSize, of the program and of the reference; no condition. -/
import Derived.Test.YtamhigknobdloaaSa
import Derived.Test.YtamhigknobdloaaMx
namespace Go.Proofs.Ytamhigknobdloaa
open Go.RowKit
set_option linter.unusedVariables false

/-- The least number from k on, at most 62, whose power of two is not below n. -/
def tagGo (n : Int) : Nat → Nat → Nat
  | 0, k => k
  | f + 1, k => if (2 : Int) ^ k < n then tagGo n f (k + 1) else k
def tagS (n : Int) : Nat := if 4611686018427387904 < n then 63 else tagGo n 62 0
theorem tagGo_le (n : Int) : ∀ f k, tagGo n f k ≤ k + f := by
  intro f
  induction f with
  | zero => intro k; exact Nat.le_refl _
  | succ f ih => intro k; simp only [tagGo]; split
                 · have := ih (k + 1); omega
                 · omega
theorem pow62 (k : Nat) (h : k < 62) : ((2 ^ k : Nat) : Int) = (2 : Int) ^ k := by push_cast; rfl
set_option maxHeartbeats 800000 in
theorem tagsize_small (n : Int) (w : World) (h : n ≤ 4611686018427387904) (h0 : -9223372036854775808 ≤ n) : Calls Try.prog 61 #[.int .i64 n] w fun e w' => e = .returned (.int .i64 (tagS n)) ∧ w = w' := by
  have ht : tagS n = tagGo n 62 0 := by unfold tagS; rw [if_neg (by omega)]
  have HT := Lib.hid ht
  clear ht
  go_enter Try.func61, Try.ntmps61
  go_wp2
  go_loop [3] (fun v3 => ∃ k : Nat, k ≤ 62 ∧ v3 = .int .i64 k ∧ Hid (tagGo n 62 0 = tagGo n (62 - k) k)) (fun v3 => 62 - (intOf v3).toNat)
  case atStart => exact ⟨0, by omega, rfl, (rfl : _ = _)⟩
  case round =>
    obtain ⟨k, hk, rfl, hg⟩ := hrel
    by_cases hlt : k < 62
    · have hw := wrap64_pow k hlt
      rw [pow62 k hlt] at hw
      have hs : tagGo n (62 - k) k = if (2 : Int) ^ k < n then tagGo n (62 - (k + 1)) (k + 1) else k := by
        rw [show 62 - k = (62 - (k + 1)) + 1 by omega]
        rfl
      have HS := Lib.hid hs
      clear hs
      by_cases hc : (2 : Int) ^ k < n
      · have hd : decide ((2 : Int) ^ k < n) = true := by simpa using hc
        have HC := Lib.hid hc
        clear hc
        go_wp2
        go_round
        case rel => exact ⟨k + 1, by omega, by go_num, by show _ = _; rw [hg.out, HS.out, if_pos HC.out]⟩
        case measure => simp [intOf]; omega
      · have hd : decide ((2 : Int) ^ k < n) = false := by simpa using hc
        have HC := Lib.hid hc
        clear hc
        go_wp2
        go_ret
        exact ⟨by rw [HT.out, hg.out, HS.out, if_neg (Int.not_lt.2 HC.out)]; rfl, rfl⟩
    · obtain rfl : k = 62 := by omega
      go_wp2
      go_ret
      exact ⟨by rw [HT.out, hg.out]; rfl, rfl⟩
end Go.Proofs.Ytamhigknobdloaa
