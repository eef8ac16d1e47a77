/- The walks of slices.Index over bools, of product.Part, and of product.Join where the parts fit; conditions: the lists are short. -/
import Derived.Test.YtamhigknobdloaaLh
namespace Go.Proofs.Ytamhigknobdloaa
open Go.RowKit
set_option linter.unusedVariables false

set_option maxHeartbeats 800000 in
theorem bidx_false (A : Option Addr) (n c : Nat) (w : World) (hs : Sl w A (List.replicate n (.bool false))) (hlen : n ≤ 1000000) :
    Calls Try.prog 95 #[.slice A n c, .bool true] w fun e w' => e = .returned (.int .i64 (-1)) ∧ w = w' := by
  go_enter Try.func95, Try.ntmps95
  go_wp2
  go_loop [8] (fun v8 => ∃ k : Nat, k ≤ n ∧ v8 = .int .i64 k) (fun v8 => n - (intOf v8).toNat)
  case atStart => exact ⟨0, by omega, rfl⟩
  case round =>
    obtain ⟨k, hk, rfl⟩ := hrel
    by_cases hlt : k < n
    · obtain ⟨ab, ao, rfl, hca⟩ := hs.at_ (k := k) (by simpa using hlt)
      rw [List.getElem_replicate] at hca
      go_wp2
      go_round
      case rel => exact ⟨k + 1, by omega, by go_num⟩
      case measure => simp [intOf]; omega
    · obtain rfl : k = n := by omega
      go_wp2
      go_ret
      exact ⟨rfl, rfl⟩
theorem bcont_false (A : Option Addr) (n c : Nat) (w : World) (hs : Sl w A (List.replicate n (.bool false))) (hlen : n ≤ 1000000) :
    Calls Try.prog 83 #[.slice A n c, .bool true] w fun e w' => e = .returned (.bool false) ∧ w = w' := by
  go_enter Try.func83, Try.ntmps83
  go_wp2_with fail
  refine (bidx_false _ _ _ _ hs hlen).mono ?_
  rintro e w' ⟨rfl, rfl⟩
  go_wp2
  go_ret
  exact ⟨rfl, rfl⟩

set_option maxHeartbeats 1600000 in
theorem part_at (p : Part) (A : Option Addr) (n c : Nat) (b : List UInt8) (at_ size : Nat) (w : World) (hp : p.s = n) (hb : b.length = n) (hs : Sl w A (b.map bv)) (hc : n ≤ c) (hn : n ≤ 2000) (h1 : at_ + size ≤ n) :
    Calls Try.prog 53 #[p.val, .slice A n c, .int .i64 at_, .int .i64 size] w fun e w' => ∃ A' c', e = .returned (.tuple #[.slice A' size c', .int .i64 0]) ∧ SlE w' 5 A' (((b.drop at_).take size).map bv) ∧ Below w.heap.size w w' := by
  have hb0 := (Below.refl w.heap.size w).alloc (Nat.le_refl _) (.cells #[.int .i64 p.s, .int .i64 p.al, .slice p.A p.sp.length p.c, p.x3, p.x4, p.x5, p.x6, p.x7] 31)
  have hcs := cut_sl (w.alloc (.cells #[.int .i64 p.s, .int .i64 p.al, .slice p.A p.sp.length p.c, p.x3, p.x4, p.x5, p.x6, p.x7] 31)) A n c b (hs.alloc _) hb at_ (at_ + size) (by omega) (by omega) hc
  have e1 : at_ + size - at_ = size := by omega
  rw [e1] at hcs
  have d0 : ((n : Int) != p.s) = false := by rw [hp]; simp
  have hcl : ((b.drop at_).take size).length = size := by rw [List.length_take, List.length_drop]; omega
  have HCL := Lib.hid hcl
  have HB0 := Lib.hid hb0
  have HP := Lib.hid hp
  unfold Part.val
  by_cases hca : c = at_
  · rw [if_pos hca] at hcs
    have HCS := Lib.hid hcs
    obtain rfl : size = 0 := by omega
    subst hca
    clear hcs hcl hb0 hp hb e1 hs
    go_enter Try.func53, Try.ntmps53
    go_wp2_with fail
    refine (clone_any _ _ _ ((b.drop c).take 0) _ HCL.out HCS.out (by omega)).mono ?_
    rintro e w1 ⟨A', c', rfl, own, hb1⟩
    go_wp2
    go_ret2
    exact ⟨A', c', rfl, SlE.of_own own, below_next HB0.out hb1⟩
  · rw [if_neg hca] at hcs
    have HCS := Lib.hid hcs
    clear hcs hcl hb0 hp hb e1 hs
    go_enter Try.func53, Try.ntmps53
    go_wp2_with fail
    refine (clone_any _ _ _ ((b.drop at_).take size) _ HCL.out HCS.out (by omega)).mono ?_
    rintro e w1 ⟨A', c', rfl, own, hb1⟩
    go_wp2
    go_ret2
    exact ⟨A', c', rfl, SlE.of_own own, below_next HB0.out hb1⟩
theorem part_raw (al : Int) (Ap : Option Addr) (np cp : Nat) (x3 x4 x5 x6 x7 : Value) (A : Option Addr) (n c : Nat) (b : List UInt8) (at_ size : Nat) (w : World) (hb : b.length = n) (hs : Sl w A (b.map bv)) (hc : n ≤ c) (hn : n ≤ 2000) (h1 : at_ + size ≤ n) :
    Calls Try.prog 53 #[.agg #[.int .i64 (n : Int), .int .i64 al, .slice Ap np cp, x3, x4, x5, x6, x7], .slice A n c, .int .i64 at_, .int .i64 size] w fun e w' => ∃ A' c', e = .returned (.tuple #[.slice A' size c', .int .i64 0]) ∧ SlE w' 5 A' (((b.drop at_).take size).map bv) ∧ Below w.heap.size w w' := by
  have h := part_at ⟨n, al, Ap, List.replicate np 0, cp, x3, x4, x5, x6, x7⟩ A n c b at_ size w rfl hb hs hc hn h1
  simpa [Part.val] using h
end Go.Proofs.Ytamhigknobdloaa
