/- Plain laws behind MaskNumbers and MaskFits: numbers put into bits are there again; what is left of a mask. -/
import Derived.Test.YtamhigknobdloaaMe
namespace Go.Proofs.Ytamhigknobdloaa

theorem bitN_putB_out (m : List UInt8) (l : List Int) (v : Int) (j i : Nat) (h : (i : Int) ∉ l) : bitN (putB m l v j) i = bitN m i := by
  induction l generalizing m j with
  | nil => rfl
  | cons a t ih =>
    rw [putB, ih _ _ (fun h' => h (List.mem_cons_of_mem _ h')), bitN_setI, if_neg]
    rintro ⟨rfl, _⟩
    exact h (List.mem_cons_self ..)
theorem bitN_putB_in (m : List UInt8) (l : List Int) (v : Int) (j i t : Nat) (hn : l.Nodup) (ht : t < l.length) (hi : l[t] = (i : Int)) (hm : i < 8 * m.length) :
    bitN (putB m l v j) i = (decide (t + j < 63) && (v / 2 ^ (t + j) % 2 == 1)) := by
  induction l generalizing m j t with
  | nil => simp at ht
  | cons a l ih =>
    rw [List.nodup_cons] at hn
    cases t with
    | zero =>
      simp only [List.getElem_cons_zero] at hi
      subst hi
      rw [putB, bitN_putB_out _ _ _ _ _ hn.1, bitN_setI, if_pos ⟨rfl, hm⟩, Nat.zero_add]
    | succ t =>
      simp only [List.getElem_cons_succ] at hi
      rw [putB, ih _ _ t hn.2 (by simpa using ht) hi (by rw [setI_length]; exact hm), show t + 1 + j = t + (j + 1) by omega]
theorem bit_split (x n : Nat) : x % 2 ^ (n + 1) = x % 2 + 2 * (x / 2 % 2 ^ n) := by
  rw [Nat.pow_succ, Nat.mul_comm (2 ^ n) 2, Nat.mod_mul]
theorem getB_of_bits (y : List UInt8) (l : List Int) (v j : Nat) (hj : j + l.length ≤ 62) (h : ∀ t (ht : t < l.length), bitI y l[t] = (v / 2 ^ (t + j) % 2 == 1)) :
    getB y l j = 2 ^ j * (v / 2 ^ j % 2 ^ l.length) := by
  induction l generalizing j with
  | nil => simp [getB, Nat.mod_one]
  | cons a l ih =>
    rw [getB, ih (j + 1) (by simp at hj; omega) (fun t ht => by
      have := h (t + 1) (by simpa using ht)
      rw [show t + 1 + j = t + (j + 1) by omega] at this
      exact this)]
    have h0 := h 0 (by simp)
    simp only [List.getElem_cons_zero, Nat.zero_add] at h0
    have hd : decide (j < 62) = true := by simp at hj; simp; omega
    have hdv : v / 2 ^ (j + 1) = v / 2 ^ j / 2 := by rw [Nat.pow_succ, Nat.div_div_eq_div_mul]
    rw [h0, hd, List.length_cons, bit_split, Bool.true_and, hdv, Nat.pow_succ 2 j]
    have h2 := Nat.mod_two_eq_zero_or_one (v / 2 ^ j)
    rcases h2 with e | e
    · rw [e]; simp [Nat.mul_assoc]
    · rw [e]; simp [Nat.mul_add, Nat.mul_assoc]

def intsN (l : List Nat) : List Int := l.map fun n : Nat => (n : Int)
theorem natv_ints (l : List Nat) : l.map natv = (intsN l).map iv := natv_map l
theorem intsN_length (l : List Nat) : (intsN l).length = l.length := by simp [intsN]
theorem bitsN_nodup (m : List UInt8) (k : Nat) : (intsN (bitsN m k)).Nodup := by
  have h1 : (bitsN m k).Nodup := by
    have := (setBits_sorted m).imp (S := fun a b => a ≠ b) (fun h => by omega)
    exact List.Sublist.nodup (List.take_sublist _ _) this
  unfold intsN
  exact List.Pairwise.map _ (fun a b h => by intro e; exact h (by have e' : (a : Int) = (b : Int) := e; omega)) h1
theorem ib_bits (m : List UInt8) (k : Nat) (h : m.length ≤ 1000000) : IB (intsN (bitsN m k)) := by
  intro i hi
  unfold intsN at hi
  obtain ⟨n, hn, rfl⟩ := List.mem_map.1 hi
  have hb := bitN_lt ((setBits_mem m n).1 (List.mem_of_mem_take hn))
  omega

/-- MaskNumbers: the number is there again. -/
theorem numbers_get (b x : List UInt8) (k v : Nat) (hl : x.length = b.length) (hk : k ≤ countB x) (h16 : k ≤ 60) (hv : v < 2 ^ k) :
    getB (putB b (intsN (bitsN x k)) v 0) (intsN (bitsN x k)) 0 = v := by
  have hlen := bitsN_length x k hk
  rw [getB_of_bits _ _ v 0 (by rw [intsN_length, hlen]; omega)]
  · rw [intsN_length, hlen]; simp; exact Nat.mod_eq_of_lt hv
  · intro t ht
    rw [intsN_length] at ht
    obtain ⟨_, hlt⟩ := bitsN_get x k t ht
    have hg : (intsN (bitsN x k))[t]'(by rw [intsN_length]; exact ht) = (((bitsN x k)[t] : Nat) : Int) := by simp [intsN]
    rw [hg]
    unfold bitI
    rw [Int.toNat_natCast, bitN_putB_in b _ v 0 _ t (bitsN_nodup x k) (by rw [intsN_length]; exact ht) hg (by rw [← hl]; exact hlt)]
    have hd : decide (t + 0 < 63) = true := by simp; omega
    have e : ((v : Int) / 2 ^ (t + 0) % 2) = ((v / 2 ^ (t + 0) % 2 : Nat) : Int) := by simp
    rw [hd, Bool.true_and, e]
    generalize v / 2 ^ (t + 0) % 2 = z
    clear hd hg hlt hv hlen e
    rw [Bool.eq_iff_iff]
    simp only [beq_iff_eq, Bool.and_eq_true, decide_eq_true_eq]
    omega
theorem numbers_clear (y x : List UInt8) (k : Nat) : getB (clearB y (intsN (bitsN x k))) (intsN (bitsN x k)) 0 = 0 := by
  have : ∀ (l' : List Int) (j : Nat), (∀ i ∈ l', i ∈ intsN (bitsN x k)) → getB (clearB y (intsN (bitsN x k))) l' j = 0 := by
    intro l'
    induction l' with
    | nil => intro j _; rfl
    | cons a t ih =>
      intro j h
      rw [getB, ih (j + 1) (fun i hi => h i (List.mem_cons_of_mem _ hi))]
      have ha := h a (List.mem_cons_self ..)
      have : bitI (clearB y (intsN (bitsN x k))) a = false := by
        unfold bitI
        by_cases h0 : 0 ≤ a
        · rw [bitN_clearB]
          have : ((a.toNat : Nat) : Int) = a := by omega
          rw [this]
          simp [ha]
        · simp [h0]
      rw [this]; simp
  exact this _ _ (fun i h => h)

theorem numbers_other (b x : List UInt8) (k v i : Nat) (h : i ∉ bitsN x k) : bitN (putB b (intsN (bitsN x k)) v 0) i = bitN b i := by
  apply bitN_putB_out
  intro h'
  unfold intsN at h'
  obtain ⟨n, hn, he⟩ := List.mem_map.1 h'
  exact h (by have e : (n : Int) = i := he; have : n = i := by omega
              exact this ▸ hn)

/-! MaskFits -/
theorem setBits_andB (a x : List UInt8) (h : a.length = x.length) : setBits (andB a x) = (List.range (8 * x.length)).filter (fun i => bitN a i && bitN x i) := by
  unfold setBits
  rw [andB_length, h, Nat.min_self]
  exact List.filter_congr fun i _ => bitN_andB a x i
theorem bitsN_all (m : List UInt8) : bitsN m (countB m) = setBits m := by
  unfold bitsN; rw [countB_eq, List.take_length]
theorem left_bit (a x : List UInt8) (_h : a.length = x.length) (i : Nat) : bitN (clearB x (intsN (setBits (andB a x)))) i = (bitN x i && !bitN a i) := by
  rw [bitN_clearB]
  have : (intsN (setBits (andB a x))).contains (i : Int) = (bitN a i && bitN x i) := by
    rw [Bool.eq_iff_iff, List.contains_iff_mem]
    unfold intsN
    rw [List.mem_map]
    constructor
    · rintro ⟨n, hn, he⟩
      have e : (n : Int) = i := he
      have : n = i := by omega
      subst this
      have := (setBits_mem _ _).1 hn
      rwa [bitN_andB] at this
    · intro hb
      exact ⟨i, (setBits_mem _ _).2 (by rw [bitN_andB]; exact hb), rfl⟩
  rw [this]
  cases bitN x i <;> simp
theorem fits_left (a x : List UInt8) (h : a.length = x.length) : fitsB a (clearB x (intsN (setBits (andB a x)))) = true := by
  rw [fitsB_iff]
  refine ⟨by rw [clearB_length]; exact h, fun i => ?_⟩
  rw [left_bit a x h]
  cases bitN a i <;> simp
theorem filter_split {α : Type} (l : List α) (p q : α → Bool) : (l.filter fun i => p i && !q i).length + (l.filter fun i => q i && p i).length = (l.filter p).length := by
  induction l with
  | nil => rfl
  | cons a t ih => cases hp : p a <;> cases hq : q a <;> simp [hp, hq] <;> omega
theorem count_left (a x : List UInt8) (h : a.length = x.length) : countB (clearB x (intsN (setBits (andB a x)))) + countB (andB a x) = countB x := by
  rw [countB_eq, countB_eq, countB_eq, setBits_andB a x h]
  have : setBits (clearB x (intsN ((List.range (8 * x.length)).filter (fun i => bitN a i && bitN x i)))) = (List.range (8 * x.length)).filter (fun i => bitN x i && !bitN a i) := by
    rw [← setBits_andB a x h]
    unfold setBits
    rw [clearB_length]
    exact List.filter_congr fun i _ => left_bit a x h i
  rw [this]
  exact filter_split _ _ _
theorem count_ext_nil (n : Nat) : countB (extB [] n) = 8 * n := by
  unfold extB countB
  rw [List.take_nil, List.nil_append, List.length_nil, Nat.sub_zero, List.map_replicate, List.sum_replicate_nat]
  have : popc 255 = 8 := by decide +kernel
  rw [this]; omega
theorem fits_eq (a x : List UInt8) (h : a.length = x.length) : fitsB a x = (countB (andB a x) == 0) := by unfold fitsB; simp [h]
theorem fits_ne (a x : List UInt8) (h : a.length = x.length) (y : UInt8) : fitsB a (x ++ [y]) = false := by unfold fitsB; simp [h]
end Go.Proofs.Ytamhigknobdloaa
