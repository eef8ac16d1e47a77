/- The walks of the functions of package mask and of its reference: each returns what its plain function says; conditions: lengths are small. -/
import Derived.Test.YtamhigknobdloaaBase
import Derived.Test.YtamhigknobdloaaPl
namespace Go.Proofs.Ytamhigknobdloaa
open Go.RowKit

set_option maxHeartbeats 400000 in
theorem ones_any (b : UInt8) (w : World) :
    Calls Try.prog 78 #[bv b] w fun e w' => e = .returned (.int .i64 (popc b)) ∧ w = w' := by
  have hb := b.toNat_lt
  have h1 : (b.toNat : Int) ≤ 255 := by omega
  rw [← pop8_popc]
  have h2 : 0 ≤ Lib.pop8 b.toNat := by rw [pop8_popc]; omega
  have h3 : Lib.pop8 b.toNat ≤ 8 := by rw [pop8_popc]; have := popc_le b; omega
  go_enter Try.func78, Try.ntmps78
  go_wp2
  go_ret
  exact ⟨rfl, rfl⟩

set_option maxHeartbeats 400000 in
theorem count_any (A : Option Addr) (n c : Nat) (m : List UInt8) (w : World) (hn : m.length = n) (hs : Sl w A (m.map bv)) (hlen : n ≤ 1000000) :
    Calls Try.prog 36 #[.slice A n c] w fun e w' => e = .returned (.int .i64 (countB m)) ∧ w = w' := by
  subst hn
  go_enter Try.func36, Try.ntmps36
  go_wp2
  go_loop [3, 5, 8] (fun v3 _ v8 => ∃ k : Nat, k ≤ m.length ∧ v8 = .int .i64 k ∧ v3 = .int .i64 (countB (m.take k))) (fun _ _ v8 => m.length - (intOf v8).toNat)
  case atStart => exact ⟨0, Nat.zero_le _, rfl, rfl⟩
  case round =>
    obtain ⟨k, hk, rfl, rfl⟩ := hrel
    have hl := countB_le (m.take k)
    have hl2 : (m.take k).length ≤ k := List.length_take_le _ _
    by_cases hlt : k < m.length
    · obtain ⟨b, off, rfl, hc⟩ := hs.at_ (k := k) (by simpa using hlt)
      rw [List.getElem_map] at hc
      have hp := popc_le m[k]
      have hsn := Lib.hid (countB_snoc m k hlt)
      go_wp2_with (go_at_call 78; refine (ones_any _ _).mono ?_; rintro e w' ⟨rfl, rfl⟩)
      go_round
      case rel => exact ⟨k + 1, by omega, by go_num, by rw [hsn.out]; go_num⟩
      case measure => simp [intOf]; omega
    · obtain rfl : k = m.length := by omega
      rw [List.take_length] at *
      go_wp2
      go_ret
      exact ⟨rfl, rfl⟩

theorem bit_test (b : UInt8) (k : Nat) : (bits .and .u8 ((b.toNat : Int) / 2 ^ k) 1 == 1) = b.toNat.testBit k := by
  have hb := b.toNat_lt
  have e : (b.toNat : Int) / 2 ^ k = ((b.toNat / 2 ^ k : Nat) : Int) := by simp
  have hlt : b.toNat / 2 ^ k < 256 := Nat.lt_of_le_of_lt (Nat.div_le_self _ _) (by omega)
  rw [e]
  have := u8_and_nat (b.toNat / 2 ^ k) 1 hlt (by omega)
  simp only [Int.natCast_one] at this
  rw [this, Nat.and_one_is_mod, Nat.testBit_eq_decide_div_mod_eq, Bool.eq_iff_iff]
  simp
  omega

set_option maxHeartbeats 400000 in
theorem get_any (A : Option Addr) (n c : Nat) (m : List UInt8) (w : World) (i : Int) (hn : m.length = n) (hs : Sl w A (m.map bv)) (hlen : n ≤ 1000000)
    (h0 : -9223372036854775808 ≤ i) (h1 : i ≤ 9223372036854775807) :
    Calls Try.prog 77 #[.slice A n c, .int .i64 i] w fun e w' => e = .returned (.bool (bitI m i)) ∧ w = w' := by
  subst hn
  by_cases hneg : i < 0
  · have hd : ¬ 0 ≤ i := by omega
    go_enter Try.func77, Try.ntmps77
    go_wp2
    go_ret
    exact ⟨by simp [bitI]; omega, rfl⟩
  · obtain ⟨i, rfl⟩ := Int.eq_ofNat_of_zero_le (show 0 ≤ i by omega)
    by_cases hi : i / 8 < m.length
    · obtain ⟨b, off, rfl, hc⟩ := hs.at_ (k := i / 8) (by simpa using hi)
      rw [List.getElem_map] at hc
      go_enter Try.func77, Try.ntmps77
      go_wp2
      go_ret
      refine ⟨?_, rfl⟩
      show Ending.returned (.bool (bits .and .u8 ((m[i / 8].toNat : Int) / 2 ^ (i % 8)) 1 == 1)) = _
      rw [bit_test]
      simp [bitI, bitN, hi]
    · have hi2 : decide ((i : Int) / 8 < m.length) = false := by simp; omega
      go_enter Try.func77, Try.ntmps77
      go_wp2
      go_ret
      refine ⟨?_, rfl⟩
      have := bitN_out m i (by omega)
      simp [bitI, this]

theorem bits_clear (x : UInt8) (k : Nat) (hk : k < 8) : bits .andNot .u8 (x.toNat : Int) (2 ^ k % 256) = ((putBit x k false).toNat : Int) := by
  have hx := x.toNat_lt
  have h1 : 2 ^ k < 256 := Nat.pow_lt_pow_right (n := 8) (by omega) hk
  have e : (2 ^ k % 256 : Int) = ((2 ^ k : Nat) : Int) := by
    have : ((2 ^ k : Nat) : Int) = 2 ^ k := by simp
    rw [← this]
    clear this
    generalize (2 ^ k : Nat) = z at h1 ⊢
    omega
  rw [e, u8_andNot_nat _ _ (by omega) h1, putBit_toNat x k hk]
  rfl
theorem bits_or (x : UInt8) (k : Nat) (hk : k < 8) : bits .or .u8 ((putBit x k false).toNat : Int) (2 ^ k % 256) = ((putBit x k true).toNat : Int) := by
  have hx := (putBit x k false).toNat_lt
  have h1 : 2 ^ k < 256 := Nat.pow_lt_pow_right (n := 8) (by omega) hk
  have e : (2 ^ k % 256 : Int) = ((2 ^ k : Nat) : Int) := by
    have : ((2 ^ k : Nat) : Int) = 2 ^ k := by simp
    rw [← this]
    clear this
    generalize (2 ^ k : Nat) = z at h1 ⊢
    omega
  rw [e, u8_or_nat _ _ (by omega) h1, putBit_toNat x k hk, putBit_toNat x k hk]
  rfl

set_option maxHeartbeats 800000 in
theorem set_own (base : Nat) (A : Option Addr) (n c : Nat) (m : List UInt8) (w : World) (i : Int) (on : Bool) (hown : w.ownsRow base 5 1 (.slice A n c) n (m.map bv)) (hlen : n ≤ 1000000)
    (h0 : -9223372036854775808 ≤ i) (h1 : i ≤ 9223372036854775807) :
    Calls Try.prog 81 #[.slice A n c, .int .i64 i, .bool on] w fun e w' => e = .returned (.tuple #[]) ∧ w'.ownsRow base 5 1 (.slice A n c) n ((setI m i on).map bv) ∧ w.grownBy w' (Value.slice A n c).ownBlock := by
  obtain rfl : m.length = n := by simpa using hown.1
  by_cases hout : i < 0 ∨ m.length ≤ i.toNat / 8
  · rw [setI_out m i on hout]
    have H := Lib.hid hown
    clear hown
    by_cases hneg : i < 0
    · clear hout
      go_enter Try.func81, Try.ntmps81
      go_wp2
      exact bodyPost_ret (results_none rfl _ _ _) rfl ⟨rfl, H.out, World.grownBy.refl _ _⟩
    · obtain ⟨i, rfl⟩ := Int.eq_ofNat_of_zero_le (show 0 ≤ i by omega)
      have hi : ¬ i / 8 < m.length := by simp at hout; omega
      clear hout
      have hi2 : decide ((m.length : Int) ≤ (i : Int) / 8) = true := by simp; omega
      go_enter Try.func81, Try.ntmps81
      go_wp2
      exact bodyPost_ret (results_none rfl _ _ _) rfl ⟨rfl, H.out, World.grownBy.refl _ _⟩
  · obtain ⟨i, rfl⟩ := Int.eq_ofNat_of_zero_le (show 0 ≤ i by omega)
    rw [Int.toNat_natCast] at hout
    have hi : i / 8 < m.length := by omega
    clear hout
    obtain ⟨A', c', hv, _, _, hg⟩ := own_form hown
    obtain ⟨g, rfl, hbg, hgl⟩ := hg (by omega)
    injection hv with hv1 _ hv3
    subst hv1 hv3
    have hcell : w.cell? ⟨g, i / 8, none⟩ = some (bv m[i / 8]) := by
      rw [hown.cellAt (i / 8) (by omega)]; simp [hi]
    have hfz := hown.frozenAt (i / 8)
    have H := Lib.hid hown
    clear hown
    have h8 : i % 8 < 8 := Nat.mod_lt _ (by omega)
    generalize hx : m[i / 8] = x at hcell
    have X := Lib.hid hx
    clear hx
    have E1 := Lib.hid (bits_clear x (i % 8) h8)
    have E2 := Lib.hid (bits_or x (i % 8) h8)
    have e0 : ((i : Int) < 0) = False := by simp
    have fin : ∀ on, (m.map bv).set (i / 8) (bv (putBit x (i % 8) on)) = (setI m i on).map bv := by
      intro on
      unfold setI
      rw [if_pos (by omega), List.map_set, Int.toNat_natCast, List.getD_eq_getElem?_getD, List.getElem?_eq_getElem hi, Option.getD_some, X.out]
    have F := Lib.hid fin
    clear fin
    have ob : (Value.slice (some ⟨g, 0, none⟩) m.length c).ownBlock = some g := rfl
    cases on with
    | false =>
      go_enter Try.func81, Try.ntmps81
      go_wp2
      go_region
      go_wp2
      go_end0
      have S := H.out.stored (i / 8) (bv (putBit x (i % 8) false))
      rw [E1.out, ← F.out, ob]
      exact ⟨rfl, S.1, ⟨S.2.os, S.2.tape, S.2.output, S.2.size, S.2.block⟩⟩
    | true =>
      go_enter Try.func81, Try.ntmps81
      go_wp2
      go_region
      go_wp2
      go_region
      go_wp2
      go_end0
      have S := H.out.stored (i / 8) (bv (putBit x (i % 8) false))
      have S2 := S.1.stored (i / 8) (bv (putBit x (i % 8) true))
      rw [List.set_set] at S2
      rw [E1.out, E2.out, ← F.out, ob]
      exact ⟨rfl, S2.1, ⟨S2.2.os.trans S.2.os, S2.2.tape.trans S.2.tape, S2.2.output.trans S.2.output, Nat.le_trans S.2.size S2.2.size, fun k hk hne => (S2.2.block k (Nat.lt_of_lt_of_le hk S.2.size) hne).trans (S.2.block k hk hne)⟩⟩
end Go.Proofs.Ytamhigknobdloaa
