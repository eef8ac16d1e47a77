/- Pieces of the walk of the law MaskLooks: Bits for any number, strings of bytes, ints; conditions: lengths are small. -/
import Derived.Test.YtamhigknobdloaaMx
namespace Go.Proofs.Ytamhigknobdloaa
open Go.RowKit
set_option linter.unusedVariables false

theorem run_conv_sl {P : Program} (w : World) (src dst e : TypeId) (A : Option Addr) (n c : Nat) (l : List UInt8) (hs : P.underlying src = some (.slice e)) (he : P.underlying e = some (.int .u8)) (hd : P.underlying dst = some .string)
    (hsl : Sl w A (l.map bv)) (hn : l.length = n) : (convert src dst (.slice A n c)).run P w = .ok (.string ⟨l.toArray⟩) w := by
  subst hn
  cases A with
  | none =>
    have : l = [] := by rcases hsl with h | ⟨b, off, h, _⟩; simpa using h; cases h
    subst this
    exact (run_convert_bytes_nil (P := P) w src e hs he 0 c dst hd)
  | some a =>
    by_cases h0 : l = []
    · subst h0
      exact run_convert_bytes_back w src dst e a c [] hs he hd (by simp)
    · rcases hsl with h | ⟨b, off, h, hc⟩
      · exact absurd (by simpa using h) h0
      · injection h with h
        subst h
        exact run_convert_bytes_back w src dst e _ c l hs he hd (fun j hj => by rw [add_lit, hc j (by simpa using hj)]; simp)

/-- What Bits returns for any number. -/
def bitsI (m : List UInt8) (k : Int) : List Nat := if 0 ≤ k ∧ k ≤ countB m then bitsN m k.toNat else []
def bitsOk (m : List UInt8) (k : Int) : Bool := decide (0 ≤ k ∧ k ≤ countB m)
theorem bits_any (A : Option Addr) (n c : Nat) (m : List UInt8) (k : Int) (w : World) (hn : m.length = n) (hs : Sl w A (m.map bv)) (hlen : n ≤ 1000000) :
    Calls Try.prog 35 #[.slice A n c, .int .i64 k] w fun e w' => ∃ A' c', e = .returned (.tuple #[.slice A' (bitsI m k).length c', .bool (bitsOk m k)]) ∧ w'.ownsRow w.heap.size 3 1 (.slice A' (bitsI m k).length c') (bitsI m k).length ((bitsI m k).map natv) ∧ Below w.heap.size w w' := by
  by_cases h : 0 ≤ k ∧ k ≤ countB m
  · obtain ⟨j, rfl⟩ := Int.eq_ofNat_of_zero_le h.1
    have hj : j ≤ countB m := by omega
    have e1 : bitsI m j = bitsN m j := by unfold bitsI; rw [if_pos h]; rfl
    have e2 : bitsOk m j = true := by unfold bitsOk; simp; omega
    rw [e1, e2, bitsN_length m j hj]
    exact bits_yes A n c m j w hn hs hlen hj
  · have e1 : bitsI m k = [] := by unfold bitsI; rw [if_neg h]
    have e2 : bitsOk m k = false := by unfold bitsOk; simp; omega
    rw [e1, e2]
    exact (bits_no A n c m k w hn hs hlen (by omega)).mono fun e w' ⟨he, hw⟩ => ⟨none, 0, he, by subst hw; exact World.ownsRow_nil _ _ _ _, by subst hw; exact Below.refl _ _⟩
theorem rbits_any (A : Option Addr) (n c : Nat) (m : List UInt8) (k : Int) (w : World) (hn : m.length = n) (hs : Sl w A (m.map bv)) (hlen : n ≤ 1000000) :
    Calls Try.prog 43 #[.slice A n c, .int .i64 k] w fun e w' => ∃ A' c', e = .returned (.tuple #[.slice A' (bitsI m k).length c', .bool (bitsOk m k)]) ∧ w'.ownsRow w.heap.size 3 1 (.slice A' (bitsI m k).length c') (bitsI m k).length ((bitsI m k).map natv) ∧ Below w.heap.size w w' := by
  by_cases h : 0 ≤ k ∧ k ≤ countB m
  · obtain ⟨j, rfl⟩ := Int.eq_ofNat_of_zero_le h.1
    have hj : j ≤ countB m := by omega
    have e1 : bitsI m j = bitsN m j := by unfold bitsI; rw [if_pos h]; rfl
    have e2 : bitsOk m j = true := by unfold bitsOk; simp; omega
    rw [e1, e2, bitsN_length m j hj]
    exact rbits_yes A n c m j w hn hs hlen hj
  · have e1 : bitsI m k = [] := by unfold bitsI; rw [if_neg h]
    have e2 : bitsOk m k = false := by unfold bitsOk; simp; omega
    rw [e1, e2]
    exact (rbits_no A n c m k w hn hs hlen (by omega)).mono fun e w' ⟨he, hw⟩ => ⟨none, 0, he, by subst hw; exact World.ownsRow_nil _ _ _ _, by subst hw; exact Below.refl _ _⟩

theorem bitsI_le (m : List UInt8) (q : Int) : (bitsI m q).length ≤ countB m := by
  unfold bitsI
  split
  · rename_i h
    rw [bitsN_length m _ (by omega)]
    omega
  · simp

set_option maxHeartbeats 800000 in
theorem ints_same (A : Option Addr) (n c : Nat) (Z : Option Addr) (cz : Nat) (l : List Int) (w : World) (hn : l.length = n) (hs : Sl w A (l.map iv)) (hlen : n ≤ 1000000) (hz : Sl w Z (l.map iv)) :
    Calls Try.prog 50 #[.slice A n c, .slice Z n cz] w fun e w' => e = .returned (.bool true) ∧ Below w.heap.size w w' := by
  subst hn
  have hd : ((l.length : Int) != l.length) = false := by simp
  have hb0 := Below.refl w.heap.size w
  go_enter Try.func50, Try.ntmps50
  go_wp2
  go_loopw [4, 5, 13] (fun _ _ v13 wr => ∃ k : Nat, k ≤ l.length ∧ v13 = .int .i64 k ∧ Below w.heap.size w wr) (fun _ _ v13 _ => l.length - (intOf v13).toNat)
  case atStart => exact ⟨0, by omega, rfl, hb0⟩
  case round =>
    obtain ⟨k, hk, rfl, hb⟩ := hrel
    by_cases hlt : k < l.length
    · obtain ⟨ab, ao, rfl, hca⟩ := (hs.below hb).at_ (k := k) (by simpa using hlt)
      obtain ⟨zb, zo, rfl, hcz⟩ := (hz.below hb).at_ (k := k) (by simpa using hlt)
      rw [List.getElem_map] at hcz hca
      have hself : (l[k] != l[k]) = false := by simp
      go_wp2
      go_quiet (fail)
      go_wp2
      go_roundw
      case rel => exact ⟨k + 1, by omega, by go_num, below_drewN' hb _⟩
      case measure => simp [intOf]; omega
    · obtain rfl : k = l.length := by omega
      go_wp2
      go_ret
      exact ⟨rfl, hb⟩
end Go.Proofs.Ytamhigknobdloaa
