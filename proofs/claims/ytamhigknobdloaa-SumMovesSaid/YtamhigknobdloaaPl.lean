/- Plain laws of bits in lists of bytes: no program in sight. -/
import Derived.Lib.BitFns
import Derived.Laws.BitsAllLaws
namespace Go.Proofs.Ytamhigknobdloaa

/-- How many bits of a byte are set. -/
def popc (b : UInt8) : Nat := Lib.onesCount b.toNat
def countB (m : List UInt8) : Nat := (m.map popc).sum
/-- Bit i of some bytes. -/
def bitN (m : List UInt8) (i : Nat) : Bool := (m.getD (i / 8) 0).toNat.testBit (i % 8)
def bitI (m : List UInt8) (i : Int) : Bool := decide (0 ≤ i) && bitN m i.toNat
def putBit (x : UInt8) (k : Nat) (on : Bool) : UInt8 := UInt8.ofNat (if on then (x.toNat &&& (255 - 2 ^ k)) ||| 2 ^ k else x.toNat &&& (255 - 2 ^ k))
def setI (m : List UInt8) (i : Int) (on : Bool) : List UInt8 := if 0 ≤ i then m.set (i.toNat / 8) (putBit (m.getD (i.toNat / 8) 0) (i.toNat % 8) on) else m
def clearB (m : List UInt8) (l : List Int) : List UInt8 := l.foldl (fun o i => setI o i false) m
/-- The bits of a number, put in order at places; from the j-th on. -/
def putB (m : List UInt8) (l : List Int) (n : Int) (j : Nat) : List UInt8 := match l with
  | [] => m
  | i :: t => putB (setI m i (decide (j < 63) && (n / 2 ^ j % 2 == 1))) t n (j + 1)
/-- The number of the bits at places, from the j-th on. -/
def getB (m : List UInt8) (l : List Int) (j : Nat) : Nat := match l with
  | [] => 0
  | i :: t => (if decide (j < 62) && bitI m i then 2 ^ j else 0) + getB m t (j + 1)
def setBits (m : List UInt8) : List Nat := (List.range (8 * m.length)).filter (bitN m)
def bitsN (m : List UInt8) (k : Nat) : List Nat := (setBits m).take k
def andB (a b : List UInt8) : List UInt8 := List.zipWith (· &&& ·) a b
def extB (m : List UInt8) (n : Nat) : List UInt8 := m.take n ++ List.replicate (n - m.length) 255
def fitsB (a m : List UInt8) : Bool := a.length == m.length && countB (andB a m) == 0

theorem popc_le (b : UInt8) : popc b ≤ 8 := Lib.onesCount_le8 ⟨b.toNat, b.toNat_lt⟩
theorem pop8_popc (b : UInt8) : Lib.pop8 (b.toNat : Int) = popc b := Lib.pop8_eq ⟨b.toNat, b.toNat_lt⟩
theorem countB_nil : countB [] = 0 := rfl
theorem countB_append (a b : List UInt8) : countB (a ++ b) = countB a + countB b := by
  unfold countB; rw [List.map_append, List.sum_append_nat]
theorem countB_snoc (m : List UInt8) (k : Nat) (h : k < m.length) : countB (m.take (k + 1)) = countB (m.take k) + popc m[k] := by
  rw [List.take_succ_eq_append_getElem h, countB_append]; simp [countB]
theorem countB_le (m : List UInt8) : countB m ≤ 8 * m.length := by
  induction m with
  | nil => simp [countB]
  | cons a t ih => have := popc_le a; simp [countB] at *; omega

theorem popc_bits_fin : ∀ x : Fin 256, Lib.onesCount x.val = ((List.range 8).filter fun k => x.val.testBit k).length := by decide +kernel
theorem popc_bits (b : UInt8) : popc b = ((List.range 8).filter fun k => b.toNat.testBit k).length := popc_bits_fin ⟨b.toNat, b.toNat_lt⟩

theorem bitN_append_lt (a b : List UInt8) (i : Nat) (h : i < 8 * a.length) : bitN (a ++ b) i = bitN a i := by
  unfold bitN
  have : i / 8 < a.length := by omega
  simp [List.getD_eq_getElem?_getD, List.getElem?_append_left this]
theorem bitN_append_ge (a b : List UInt8) (i : Nat) : bitN (a ++ b) (8 * a.length + i) = bitN b i := by
  unfold bitN
  have h1 : (8 * a.length + i) / 8 = a.length + i / 8 := by omega
  have h2 : (8 * a.length + i) % 8 = i % 8 := by omega
  rw [h1, h2]
  simp [List.getD_eq_getElem?_getD, List.getElem?_append_right]
theorem bitN_out (m : List UInt8) (i : Nat) (h : 8 * m.length ≤ i) : bitN m i = false := by
  unfold bitN
  have : m.length ≤ i / 8 := by omega
  simp [List.getD_eq_getElem?_getD, List.getElem?_eq_none this]
theorem bitN_lt {m : List UInt8} {i : Nat} (h : bitN m i = true) : i < 8 * m.length := by
  rcases Nat.lt_or_ge i (8 * m.length) with h1 | h1
  · exact h1
  · rw [bitN_out m i h1] at h; cases h

theorem setBits_append (a b : List UInt8) : setBits (a ++ b) = setBits a ++ (setBits b).map (8 * a.length + ·) := by
  unfold setBits
  rw [List.length_append, Nat.mul_add, List.range_add, List.filter_append]
  congr 1
  · apply List.filter_congr
    intro i hi
    exact bitN_append_lt a b i (by simpa using hi)
  · rw [List.filter_map]
    congr 1
    apply List.filter_congr
    intro i _
    exact bitN_append_ge a b i
theorem setBits_one (x : UInt8) : setBits [x] = (List.range 8).filter fun k => x.toNat.testBit k := by
  unfold setBits
  apply List.filter_congr
  intro i hi
  have : i < 8 := by simpa using hi
  unfold bitN
  rw [show i / 8 = 0 by omega, show i % 8 = i by omega]; rfl
theorem countB_eq (m : List UInt8) : countB m = (setBits m).length := by
  induction m with
  | nil => rfl
  | cons x t ih =>
    rw [show x :: t = [x] ++ t from rfl, setBits_append, countB_append, ih, setBits_one]
    simp [countB, popc_bits]

theorem testBit_put_fin : ∀ x : Fin 256, ∀ k : Fin 8, ∀ j : Fin 8, ∀ on : Bool, ((if on then (x.val &&& (255 - 2 ^ k.val)) ||| 2 ^ k.val else x.val &&& (255 - 2 ^ k.val)).testBit j.val) = (if j = k then on else x.val.testBit j.val) := by decide +kernel
theorem put_lt_fin : ∀ x : Fin 256, ∀ k : Fin 8, ∀ on : Bool, (if on then (x.val &&& (255 - 2 ^ k.val)) ||| 2 ^ k.val else x.val &&& (255 - 2 ^ k.val)) < 256 := by decide +kernel
theorem putBit_toNat (x : UInt8) (k : Nat) (hk : k < 8) (on : Bool) : (putBit x k on).toNat = if on then (x.toNat &&& (255 - 2 ^ k)) ||| 2 ^ k else x.toNat &&& (255 - 2 ^ k) := by
  unfold putBit
  rw [UInt8.toNat_ofNat']
  exact Nat.mod_eq_of_lt (put_lt_fin ⟨x.toNat, x.toNat_lt⟩ ⟨k, hk⟩ on)
theorem testBit_putBit (x : UInt8) (k j : Nat) (hk : k < 8) (hj : j < 8) (on : Bool) : (putBit x k on).toNat.testBit j = if j = k then on else x.toNat.testBit j := by
  rw [putBit_toNat x k hk on]
  have := testBit_put_fin ⟨x.toNat, x.toNat_lt⟩ ⟨k, hk⟩ ⟨j, hj⟩ on
  simpa using this
theorem putBit_of_false (x : UInt8) (k : Nat) (hk : k < 8) : putBit (putBit x k false) k true = putBit x k true := by
  apply UInt8.toNat_inj.1
  rw [putBit_toNat _ k hk, putBit_toNat _ k hk, putBit_toNat _ k hk]
  have : ∀ x : Fin 256, ∀ k : Fin 8, ((x.val &&& (255 - 2 ^ k.val)) &&& (255 - 2 ^ k.val)) = (x.val &&& (255 - 2 ^ k.val)) := by decide +kernel
  have := this ⟨x.toNat, x.toNat_lt⟩ ⟨k, hk⟩
  simp at this ⊢
  rw [this]

theorem setI_length (m : List UInt8) (i : Int) (on : Bool) : (setI m i on).length = m.length := by unfold setI; split <;> simp
theorem clearB_length (m : List UInt8) (l : List Int) : (clearB m l).length = m.length := by
  unfold clearB
  induction l generalizing m with
  | nil => rfl
  | cons i t ih => rw [List.foldl_cons, ih, setI_length]
theorem putB_length (m : List UInt8) (l : List Int) (n : Int) (j : Nat) : (putB m l n j).length = m.length := by
  induction l generalizing m j with
  | nil => rfl
  | cons i t ih => rw [putB, ih, setI_length]
theorem setI_out (m : List UInt8) (i : Int) (on : Bool) (h : i < 0 ∨ m.length ≤ i.toNat / 8) : setI m i on = m := by
  unfold setI
  split
  · rw [List.set_eq_of_length_le (by omega)]
  · rfl
theorem bitN_setI (m : List UInt8) (i : Int) (on : Bool) (j : Nat) : bitN (setI m i on) j = if (j : Int) = i ∧ j < 8 * m.length then on else bitN m j := by
  unfold setI
  by_cases h0 : 0 ≤ i
  · rw [if_pos h0]
    obtain ⟨n, rfl⟩ := Int.eq_ofNat_of_zero_le h0
    simp only [Int.toNat_natCast, Int.natCast_inj]
    by_cases hl : n / 8 < m.length
    · by_cases hq : j / 8 = n / 8
      · have hjl : j < 8 * m.length := by omega
        unfold bitN
        rw [hq, List.getD_eq_getElem?_getD, List.getElem?_set_self hl, Option.getD_some, testBit_putBit _ _ _ (by omega) (by omega)]
        by_cases hr : j % 8 = n % 8
        · rw [if_pos hr, if_pos ⟨by omega, hjl⟩]
        · rw [if_neg hr, if_neg (fun h => hr (by rw [h.1]))]
      · rw [if_neg (fun h => hq (by rw [h.1]))]
        unfold bitN
        rw [List.getD_eq_getElem?_getD, List.getElem?_set_ne (by omega), ← List.getD_eq_getElem?_getD]
    · rw [List.set_eq_of_length_le (by omega), if_neg (by omega)]
  · rw [if_neg h0, if_neg (by omega)]
theorem ext_bits (a b : List UInt8) (hl : a.length = b.length) (h : ∀ i, i < 8 * a.length → bitN a i = bitN b i) : a = b := by
  apply List.ext_getElem hl
  intro i h1 h2
  have hd : ∀ x y : Fin 256, (∀ k : Fin 8, x.val.testBit k.val = y.val.testBit k.val) → x = y := by
    intro x y hk
    apply Fin.ext
    apply Nat.eq_of_testBit_eq
    intro k
    by_cases hk8 : k < 8
    · exact hk ⟨k, hk8⟩
    · have e1 : x.val.testBit k = false := Nat.testBit_lt_two_pow (Nat.lt_of_lt_of_le x.isLt (Nat.pow_le_pow_right (n := 2) (by omega) (show 8 ≤ k by omega)))
      have e2 : y.val.testBit k = false := Nat.testBit_lt_two_pow (Nat.lt_of_lt_of_le y.isLt (Nat.pow_le_pow_right (n := 2) (by omega) (show 8 ≤ k by omega)))
      rw [e1, e2]
  have := hd ⟨a[i].toNat, a[i].toNat_lt⟩ ⟨b[i].toNat, b[i].toNat_lt⟩ (fun k => by
    have hb := h (8 * i + k.val) (by omega)
    unfold bitN at hb
    rw [show (8 * i + k.val) / 8 = i by omega, show (8 * i + k.val) % 8 = k.val by omega] at hb
    simpa [List.getD_eq_getElem?_getD, h1, h2] using hb)
  exact UInt8.toNat_inj.1 (by simpa using congrArg Fin.val this)
theorem bitN_clearB (m : List UInt8) (l : List Int) (j : Nat) : bitN (clearB m l) j = (bitN m j && !l.contains (j : Int)) := by
  unfold clearB
  induction l generalizing m with
  | nil => simp
  | cons i t ih =>
    rw [List.foldl_cons, ih, bitN_setI]
    by_cases h : (j : Int) = i
    · subst h
      by_cases hl : j < 8 * m.length
      · simp [hl]
      · simp [hl, bitN_out m j (by omega)]
    · have : (j : Int) ≠ i := h
      simp [this]
theorem countB_zero (m : List UInt8) : countB m = 0 ↔ ∀ i, bitN m i = false := by
  rw [countB_eq, List.length_eq_zero_iff, setBits, List.filter_eq_nil_iff]
  constructor
  · intro h i
    rcases Nat.lt_or_ge i (8 * m.length) with h1 | h1
    · simpa using h i (by simpa using h1)
    · exact bitN_out m i h1
  · intro h i _; simp [h i]
theorem andB_length (a b : List UInt8) : (andB a b).length = min a.length b.length := by simp [andB]
theorem bitN_andB (a b : List UInt8) (i : Nat) : bitN (andB a b) i = (bitN a i && bitN b i) := by
  unfold bitN andB
  simp only [List.getD_eq_getElem?_getD, List.getElem?_zipWith]
  cases ha : a[i / 8]? <;> cases hb : b[i / 8]? <;> simp
theorem extB_length (m : List UInt8) (n : Nat) : (extB m n).length = n := by simp [extB]; omega
theorem fitsB_iff (a m : List UInt8) : fitsB a m = true ↔ a.length = m.length ∧ ∀ i, (bitN a i && bitN m i) = false := by
  unfold fitsB
  rw [Bool.and_eq_true, beq_iff_eq, beq_iff_eq, countB_zero]
  simp only [bitN_andB]
end Go.Proofs.Ytamhigknobdloaa
