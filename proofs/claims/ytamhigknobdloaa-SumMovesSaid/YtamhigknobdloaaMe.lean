/- The walks of awake of layer 15 and of the law MaskBits; no condition. -/
import Derived.Test.YtamhigknobdloaaMd
namespace Go.Proofs.Ytamhigknobdloaa
open Go.RowKit
set_option linter.unusedVariables false

theorem natv_map (l : List Nat) : l.map natv = (l.map fun n : Nat => (n : Int)).map iv := by simp [natv, Function.comp_def]
theorem aw1 : bitsN [1, 6] 2 = [0, 9] := by decide +kernel
theorem aw2 : countB [1, 6] = 3 := by decide +kernel
theorem aw3 : putB [0, 0] [0, 9] 2 0 = [0, 2] := by decide +kernel
theorem aw4 : getB [0, 2] [0, 9] 0 = 2 := by decide +kernel
theorem ib09 : IB [0, 9] := by intro i hi; simp at hi; omega

set_option maxHeartbeats 800000 in
theorem awake15 (w : World) : Calls Try.prog 34 #[] w fun e w' => e = .returned (.bool true) ∧ Below w.heap.size w w' := by
  have n1 := Sl.new w #[.int .u8 1, .int .u8 6] 5
  go_enter Try.func34, Try.ntmps34
  go_wp2_with fail
  refine (bits_yes _ _ _ [1, 6] 2 _ rfl n1 (by decide) (by rw [aw2]; omega)).mono ?_
  rw [aw1]
  rintro e w1 ⟨A1, c1, rfl, own1, hb1⟩
  obtain ⟨g, rfl, hg1, hg2⟩ := own_addr own1 (by omega)
  have e0 : w1.cell? ⟨g, 0, none⟩ = some (.int .i64 0) := own1.cellAt 0 (by omega)
  have e1 : w1.cell? ⟨g, 1, none⟩ = some (.int .i64 9) := own1.cellAt 1 (by omega)
  have cap1 := own_cap own1
  have OWN1 := Lib.hid own1
  clear own1
  go_wp2_with fail
  refine (count_any _ _ _ [1, 6] _ rfl (Sl.new w1 #[.int .u8 1, .int .u8 6] 5) (by decide)).mono ?_
  rw [aw2]
  rintro e w2 ⟨rfl, rfl⟩
  have hz : Sl ((w1.alloc (Obj.cells #[.int .u8 1, .int .u8 6] 5)).alloc (Obj.cells #[.int .u8 0, .int .u8 0] 5)) (some ⟨g, 0, none⟩) (List.map iv [0, 9]) := ((Sl.of_own OWN1.out).alloc _).alloc _
  have n2 : Sl ((w1.alloc (Obj.cells #[.int .u8 1, .int .u8 6] 5)).alloc (Obj.cells #[.int .u8 0, .int .u8 0] 5)) (some ⟨w1.heap.size + 1, 0, none⟩) [.int .u8 0, .int .u8 0] := by
    have := Sl.new (w1.alloc (Obj.cells #[.int .u8 1, .int .u8 6] 5)) #[.int .u8 0, .int .u8 0] 5
    rwa [World.size_alloc] at this
  go_wp2_with fail
  refine (put_any _ _ _ [0, 0] _ _ _ [0, 9] 2 _ rfl n2 (by decide) rfl hz (by decide) ib09 (by omega) (by omega)).mono ?_
  rw [aw3]
  rintro e w3 ⟨A3, c3, rfl, own3, hb3⟩
  go_wp2_with fail
  refine (getbits_any _ _ _ [0, 2] _ _ _ [0, 9] _ rfl (Sl.of_own own3) (by decide) rfl (hz.below hb3) (by decide) cap1 ib09).mono ?_
  rw [aw4]
  rintro e w4 ⟨rfl, rfl⟩
  go_wp2
  go_ret
  refine ⟨rfl, ?_⟩
  exact below_next (((below_next ((Below.refl _ _).alloc (Nat.le_refl _) _) hb1).alloc (by have := hb1.size; simp at this; omega) _).alloc (by have := hb1.size; simp at this; simp; omega) _) hb3

/-- Where the search for the j-th bit begins. -/
def starts (L : List Nat) : Nat → Nat
  | 0 => 0
  | j + 1 => L.getD j 0 + 1
theorem setBits_mem (m : List UInt8) (i : Nat) : i ∈ setBits m ↔ bitN m i = true := by
  unfold setBits
  rw [List.mem_filter, List.mem_range]
  exact ⟨fun h => h.2, fun h => ⟨bitN_lt h, h⟩⟩
theorem setBits_sorted (m : List UInt8) : (setBits m).Pairwise (· < ·) := List.Pairwise.filter _ List.pairwise_lt_range
theorem bitsN_length (m : List UInt8) (k : Nat) (h : k ≤ countB m) : (bitsN m k).length = k := by
  unfold bitsN; rw [List.length_take_of_le (by rw [← countB_eq]; exact h)]
theorem bitsN_get (m : List UInt8) (k j : Nat) (h : j < (bitsN m k).length) : bitN m (bitsN m k)[j] = true ∧ (bitsN m k)[j] < 8 * m.length := by
  have hm : (bitsN m k)[j] ∈ setBits m := List.mem_of_mem_take (List.getElem_mem h)
  have := (setBits_mem m _).1 hm
  exact ⟨this, bitN_lt this⟩
theorem bitsN_gap (m : List UInt8) (k j : Nat) (h : j < (bitsN m k).length) : starts (bitsN m k) j ≤ (bitsN m k)[j] ∧ ∀ i, starts (bitsN m k) j ≤ i → i < (bitsN m k)[j] → bitN m i = false := by
  have hs := setBits_sorted m
  have hl : (bitsN m k).length ≤ (setBits m).length := by unfold bitsN; rw [List.length_take]; omega
  have hget : ∀ q (hq : q < (bitsN m k).length), (bitsN m k)[q] = (setBits m)[q] := fun q hq => by simp [bitsN]
  have mono : ∀ a b (hb : b < (setBits m).length) (hab : a < b), (setBits m)[a] < (setBits m)[b] := fun a b hb hab => List.pairwise_iff_getElem.1 hs a b (by omega) hb hab
  rw [hget j h]
  have hst : ∀ q (hq : q + 1 = j), starts (bitsN m k) j = (setBits m)[q]'(by omega) + 1 := by
    intro q hq
    subst hq
    simp only [starts, List.getD_eq_getElem?_getD, List.getElem?_eq_getElem (show q < (bitsN m k).length by omega), Option.getD_some]
    rw [hget]
  constructor
  · cases j with
    | zero => simp [starts]
    | succ q => rw [hst q rfl]; exact mono q (q + 1) (by omega) (by omega)
  · intro i h1 h2
    cases hb : bitN m i with
    | false => rfl
    | true =>
      obtain ⟨t, ht, he⟩ := List.getElem_of_mem ((setBits_mem m i).2 hb)
      have htj : t < j := by
        rcases Nat.lt_or_ge t j with h3 | h3
        · exact h3
        · have h4 : (setBits m)[j]'(by omega) ≤ (setBits m)[t] := by
            rcases Nat.lt_or_ge j t with h5 | h5
            · exact Nat.le_of_lt (mono j t ht h5)
            · have : t = j := by omega
              subst this; exact Nat.le_refl _
          omega
      cases j with
      | zero => omega
      | succ q =>
        rw [hst q rfl] at h1
        have : (setBits m)[t] ≤ (setBits m)[q]'(by omega) := by
          rcases Nat.lt_or_ge t q with h5 | h5
          · exact Nat.le_of_lt (mono t q (by omega) h5)
          · have : t = q := by omega
            subst this; exact Nat.le_refl _
        omega
end Go.Proofs.Ytamhigknobdloaa
