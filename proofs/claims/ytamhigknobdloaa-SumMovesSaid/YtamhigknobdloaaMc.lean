/- The walks of Clone, Clear, Put, Get, And, Fits, Extend; conditions: lengths are small. -/
import Derived.Test.YtamhigknobdloaaMb
import Derived.Lib.SliceRun
namespace Go.Proofs.Ytamhigknobdloaa
open Go.RowKit
set_option linter.unusedVariables false

set_option maxHeartbeats 400000 in
theorem clone_nil (c : Nat) (w : World) :
    Calls Try.prog 80 #[.slice none 0 c] w fun e w' => e = .returned (.slice none 0 0) ∧ w = w' := by
  have hnil := fun w => Lib.run_eql_slice_nil (P := Try.prog) w 27 5 none 0 c 0 0 Try.underlying27
  go_enter Try.func80, Try.ntmps80
  go_wp2
  go_ret
  exact ⟨rfl, rfl⟩
set_option maxHeartbeats 400000 in
theorem clone_some (a : Addr) (n c : Nat) (xs : List Value) (w : World) (hn : xs.length = n * 1) (hs : Sl w (some a) xs) (h1 : ∀ u ∈ xs, u.oneCell' = true) (hlen : n ≤ 1000000) :
    Calls Try.prog 80 #[.slice (some a) n c] w fun e w' => ∃ A' c', e = .returned (.slice A' n c') ∧ w'.ownsRow w.heap.size 5 1 (.slice A' n c') n xs ∧ Below w.heap.size w w' := by
  have hnil := fun w => Lib.run_eql_slice_nil (P := Try.prog) w 27 5 (some a) n c 0 0 Try.underlying27
  have HN := Lib.hid hn
  clear hn
  have hs1 := hs.alloc (.cells #[] 5)
  have h63 : 0 + n ≤ maxLen := by simp only [maxLen]; omega
  have own0 : (w.alloc (.cells #[] 5)).ownsRow w.heap.size 5 1 (.slice (some ⟨w.heap.size, 0, none⟩) 0 0) 0 [] := World.ownsRow_made w #[] 0 (Nat.le_refl _) (by simp [maxLen]) rfl
  go_enter Try.func80, Try.ntmps80
  go_wp2_with (at_builtin; refine wpList_append_sl rfl _ _ 27 rfl w.heap.size 5 _ 1 1 Try.underlying27 el5 _ _ _ rfl own0 (some a) n c xs rfl hs1 HN.out h1 h63 (by omega) (by simp) ?_; intro A2 c2 w2 hown2 hg2 hob)
  go_ret
  exact ⟨A2, c2, rfl, by simpa using hown2, (Below.refl _ _).alloc (Nat.le_refl _) _ |>.grown hg2 (by simp) (fun k hk => by have h : some w.heap.size = some k := hk; injection h; omega)⟩
theorem clone_any (A : Option Addr) (n c : Nat) (m : List UInt8) (w : World) (hn : m.length = n) (hs : Sl w A (m.map bv)) (hlen : n ≤ 1000000) :
    Calls Try.prog 80 #[.slice A n c] w fun e w' => ∃ A' c', e = .returned (.slice A' n c') ∧ w'.ownsRow w.heap.size 5 1 (.slice A' n c') n (m.map bv) ∧ Below w.heap.size w w' := by
  cases A with
  | none =>
    have hm : m = [] := by rcases hs with h | ⟨b, off, h, _⟩; simpa using h; cases h
    subst hm
    simp at hn
    subst hn
    exact (clone_nil c w).mono fun e w' ⟨he, hw⟩ => ⟨none, 0, he, by subst hw; exact World.ownsRow_nil _ _ _ _, by subst hw; exact Below.refl _ _⟩
  | some a => exact clone_some a n c (m.map bv) w (by simpa using hn) hs (oneCell_bv m) hlen

/-- All the numbers of a list are ints. -/
def IB (l : List Int) : Prop := ∀ i ∈ l, -9223372036854775808 ≤ i ∧ i ≤ 9223372036854775807
theorem clearB_snoc (m : List UInt8) (l : List Int) (k : Nat) (h : k < l.length) : clearB m (l.take (k + 1)) = setI (clearB m (l.take k)) l[k] false := by
  unfold clearB; rw [List.take_succ_eq_append_getElem h, List.foldl_append]; rfl

set_option maxHeartbeats 800000 in
theorem clear_any (A : Option Addr) (n c : Nat) (m : List UInt8) (Z : Option Addr) (nz cz : Nat) (l : List Int) (w : World) (hn : m.length = n) (hs : Sl w A (m.map bv)) (hlen : n ≤ 1000000)
    (hnz : l.length = nz) (hz : Sl w Z (l.map iv)) (hlz : nz ≤ 1000000) (hib : IB l) :
    Calls Try.prog 40 #[.slice A n c, .slice Z nz cz] w fun e w' => ∃ A' c', e = .returned (.slice A' n c') ∧ w'.ownsRow w.heap.size 5 1 (.slice A' n c') n ((clearB m l).map bv) ∧ Below w.heap.size w w' := by
  have HN := Lib.hid hn
  subst hnz
  go_enter Try.func40, Try.ntmps40
  go_wp2_with (go_at_call 80; refine (clone_any _ _ _ m _ hn hs hlen).mono ?_; rintro e w1 ⟨A1, c1, rfl, own1, hb1⟩)
  clear hn
  go_loopw [7, 12] (fun _ v12 wr => ∃ k : Nat, k ≤ l.length ∧ v12 = .int .i64 k ∧ wr.ownsRow w.heap.size 5 1 (.slice A1 n c1) n ((clearB m (l.take k)).map bv) ∧ Below w.heap.size w wr) (fun _ v12 _ => l.length - (intOf v12).toNat)
  case atStart => exact ⟨0, by omega, rfl, own1, hb1⟩
  case round =>
    obtain ⟨k, hk, rfl, own, hb⟩ := hrel
    have hsz := hb.size
    by_cases hlt : k < l.length
    · obtain ⟨b, off, rfl, hc⟩ := (hz.below hb).at_ (k := k) (by simpa using hlt)
      rw [List.getElem_map] at hc
      have hi := hib l[k] (List.getElem_mem hlt)
      have SN := Lib.hid (clearB_snoc m l k hlt)
      go_wp2_with (go_at_call 81; refine (set_own _ _ _ _ _ _ _ _ own hlen hi.1 hi.2).mono ?_; rintro e w2 ⟨rfl, own2, hg⟩)
      go_roundw
      case rel => exact ⟨k + 1, by omega, by go_num, by rw [SN.out]; exact own2, hb.grown hg hsz (fun q hq => (own.lt q hq).1)⟩
      case measure => simp [intOf]; omega
    · obtain rfl : k = l.length := by omega
      rw [List.take_length] at own
      go_wp2
      go_ret
      exact ⟨A1, c1, rfl, own, hb⟩

theorem putB_snoc (m : List UInt8) (l : List Int) (n : Int) (i : Int) (j : Nat) : putB m (l ++ [i]) n j = setI (putB m l n j) i (decide (j + l.length < 63) && (n / 2 ^ (j + l.length) % 2 == 1)) := by
  induction l generalizing m j with
  | nil => simp [putB]
  | cons a t ih =>
    simp only [List.cons_append, putB, List.length_cons]
    rw [ih, show j + 1 + t.length = j + (t.length + 1) by omega]
theorem getB_snoc (m : List UInt8) (l : List Int) (i : Int) (j : Nat) : getB m (l ++ [i]) j = getB m l j + if decide (j + l.length < 62) && bitI m i then 2 ^ (j + l.length) else 0 := by
  induction l generalizing j with
  | nil => simp [getB]
  | cons a t ih =>
    simp only [List.cons_append, getB, List.length_cons]
    rw [ih, show j + 1 + t.length = j + (t.length + 1) by omega]
    omega
theorem getB_lt' (m : List UInt8) (l : List Int) (j : Nat) : getB m l j + 2 ^ j ≤ 2 ^ (j + l.length) := by
  induction l generalizing j with
  | nil => simp [getB]
  | cons a t ih =>
    have h := ih (j + 1)
    rw [show j + (a :: t).length = j + 1 + t.length by simp; omega]
    simp only [getB]
    have e : 2 ^ (j + 1) = 2 ^ j + 2 ^ j := by rw [Nat.pow_succ]; omega
    have hp := Nat.pow_pos (n := j) (show 0 < 2 by omega)
    split <;> omega
theorem getB_lt (m : List UInt8) (l : List Int) (j : Nat) : getB m l j < 2 ^ (j + l.length) := by
  have := getB_lt' m l j
  have := Nat.pow_pos (n := j) (show 0 < 2 by omega)
  omega
theorem getB_far (m : List UInt8) (l : List Int) (j : Nat) (h : 62 ≤ j) : getB m l j = 0 := by
  induction l generalizing j with
  | nil => rfl
  | cons a t ih => simp only [getB]; rw [ih _ (by omega), if_neg (by simp; omega)]
theorem getB_take (m : List UInt8) (l : List Int) (j k : Nat) (h : 62 ≤ j + k) : getB m (l.take k) j = getB m l j := by
  induction l generalizing j k with
  | nil => simp
  | cons a t ih =>
    cases k with
    | zero => rw [getB_far m (a :: t) j (by omega)]; rfl
    | succ k => simp only [List.take_succ_cons, getB]; rw [ih (j + 1) k (by omega)]

theorem ofInt64 (x : Int) : ((BitVec.ofInt 64 x).toNat : Int) = x % 18446744073709551616 := by
  rw [BitVec.toNat_ofInt]
  have : (0 : Int) ≤ x % 18446744073709551616 := Int.emod_nonneg _ (by omega)
  simp
  omega
theorem bits_and1 (x : Int) : bits .and .i64 x 1 = x % 2 := by
  show IntKind.i64.wrap ((BitVec.ofInt 64 x &&& BitVec.ofInt 64 1).toNat : Int) = _
  rw [BitVec.toNat_and, show (BitVec.ofInt 64 1).toNat = 1 from rfl, Nat.and_one_is_mod, IntKind.wrap_i64]
  have := ofInt64 x
  omega
theorem i64_nat (a : Nat) (ha : a < 9223372036854775808) : (BitVec.ofInt 64 (a : Int)).toNat = a := by
  have := ofInt64 a
  omega
theorem or_add (a i : Nat) (h : a < 2 ^ i) : a ||| 2 ^ i = a + 2 ^ i := by
  have := Nat.two_pow_add_eq_or_of_lt h 1
  rw [Nat.mul_one] at this
  rw [Nat.or_comm, ← this, Nat.add_comm]
theorem bits_or_pow (a i : Nat) (h : a < 2 ^ i) (hi : i < 62) : bits .or .i64 (a : Int) (wrap64 (2 ^ i)) = ((a + 2 ^ i : Nat) : Int) := by
  have hp : 2 ^ i < 2 ^ 62 := Nat.pow_lt_pow_right (by omega) hi
  have e : (2 : Int) ^ i = ((2 ^ i : Nat) : Int) := by simp
  rw [e, IntWalk.wrap64_in _ ⟨by omega, by omega⟩]
  show IntKind.i64.wrap ((BitVec.ofInt 64 (a : Int) ||| BitVec.ofInt 64 ((2 ^ i : Nat) : Int)).toNat : Int) = _
  rw [BitVec.toNat_or, i64_nat a (by omega), i64_nat _ (by omega), or_add a i h, IntKind.wrap_i64]
  omega

set_option maxHeartbeats 800000 in
theorem put_any (A : Option Addr) (n c : Nat) (m : List UInt8) (Z : Option Addr) (nz cz : Nat) (l : List Int) (v : Int) (w : World) (hn : m.length = n) (hs : Sl w A (m.map bv)) (hlen : n ≤ 1000000)
    (hnz : l.length = nz) (hz : Sl w Z (l.map iv)) (hlz : nz ≤ 1000000) (hib : IB l) (hv0 : -9223372036854775808 ≤ v) (hv1 : v ≤ 9223372036854775807) :
    Calls Try.prog 38 #[.slice A n c, .slice Z nz cz, .int .i64 v] w fun e w' => ∃ A' c', e = .returned (.slice A' n c') ∧ w'.ownsRow w.heap.size 5 1 (.slice A' n c') n ((putB m l v 0).map bv) ∧ Below w.heap.size w w' := by
  have HN := Lib.hid hn
  subst hnz
  go_enter Try.func38, Try.ntmps38
  go_wp2_with (go_at_call 80; refine (clone_any _ _ _ m _ hn hs hlen).mono ?_; rintro e w1 ⟨A1, c1, rfl, own1, hb1⟩)
  clear hn
  go_loopw [8, 9, 14] (fun _ _ v14 wr => ∃ k : Nat, k ≤ l.length ∧ v14 = .int .i64 k ∧ wr.ownsRow w.heap.size 5 1 (.slice A1 n c1) n ((putB m (l.take k) v 0).map bv) ∧ Below w.heap.size w wr) (fun _ _ v14 _ => l.length - (intOf v14).toNat)
  case atStart => exact ⟨0, by omega, rfl, own1, hb1⟩
  case round =>
    obtain ⟨k, hk, rfl, own, hb⟩ := hrel
    have hsz := hb.size
    by_cases hlt : k < l.length
    · obtain ⟨b, off, rfl, hc⟩ := (hz.below hb).at_ (k := k) (by simpa using hlt)
      rw [List.getElem_map] at hc
      have hi := hib l[k] (List.getElem_mem hlt)
      have sn := putB_snoc m (l.take k) v l[k] 0
      rw [← List.take_succ_eq_append_getElem hlt, List.length_take_of_le hk, Nat.zero_add] at sn
      have SN := Lib.hid sn
      clear sn
      by_cases h63 : k < 63
      · have hd : decide ((k : Int) < 63) = true := by simp; omega
        have E := Lib.hid (bits_and1 (v / 2 ^ k))
        go_wp2_with (go_at_call 81; refine (set_own _ _ _ _ _ _ _ _ own hlen hi.1 hi.2).mono ?_; rintro e w2 ⟨rfl, own2, hg⟩)
        go_roundw
        case rel => exact ⟨k + 1, by omega, by go_num, by rw [SN.out]; rw [E.out] at own2; simpa [h63] using own2, hb.grown hg hsz (fun q hq => (own.lt q hq).1)⟩
        case measure => simp [intOf]; omega
      · have hd : decide ((k : Int) < 63) = false := by simp; omega
        go_wp2_with (go_at_call 81; refine (set_own _ _ _ _ _ _ _ _ own hlen hi.1 hi.2).mono ?_; rintro e w2 ⟨rfl, own2, hg⟩)
        go_roundw
        case rel => exact ⟨k + 1, by omega, by go_num, by rw [SN.out]; simpa [h63] using own2, hb.grown hg hsz (fun q hq => (own.lt q hq).1)⟩
        case measure => simp [intOf]; omega
    · obtain rfl : k = l.length := by omega
      rw [List.take_length] at own
      go_wp2
      go_ret
      exact ⟨A1, c1, rfl, own, hb⟩

set_option maxHeartbeats 800000 in
theorem getbits_any (A : Option Addr) (n c : Nat) (m : List UInt8) (Z : Option Addr) (nz cz : Nat) (l : List Int) (w : World) (hn : m.length = n) (hs : Sl w A (m.map bv)) (hlen : n ≤ 1000000)
    (hnz : l.length = nz) (hz : Sl w Z (l.map iv)) (hlz : nz ≤ 1000000) (hcap : nz ≤ cz) (hib : IB l) :
    Calls Try.prog 39 #[.slice A n c, .slice Z nz cz] w fun e w' => e = .returned (.int .i64 (getB m l 0)) ∧ w = w' := by
  subst hnz
  have key : ∀ q, q ≤ l.length → q ≤ 62 → (62 ≤ q ∨ q = l.length) → getB m (l.take q) 0 = getB m l 0 := by
    intro q h1 h2 h3
    rcases h3 with h3 | h3
    · exact getB_take m l 0 q (by omega)
    · rw [h3, List.take_length]
  by_cases h62 : l.length ≤ 62
  · have KEY := Lib.hid (key l.length (by omega) h62 (.inr rfl))
    clear key
    go_enter Try.func39, Try.ntmps39
    go_wp2
    go_loop [5, 6, 7, 14] (fun v5 _ _ v14 => ∃ k : Nat, k ≤ l.length ∧ v14 = .int .i64 k ∧ v5 = .int .i64 (getB m (l.take k) 0)) (fun _ _ _ v14 => l.length - (intOf v14).toNat)
    case atStart => exact ⟨0, by omega, rfl, rfl⟩
    case round =>
      obtain ⟨k, hk, rfl, rfl⟩ := hrel
      have hl2 : (l.take k).length = k := List.length_take_of_le (by omega)
      have hgl := getB_lt m (l.take k) 0
      rw [hl2, Nat.zero_add] at hgl
      have HL2 := Lib.hid hl2
      clear hl2
      by_cases hlt : k < l.length
      · have hkl : k < l.length := by omega
        have hp : 2 ^ k < 2 ^ 62 := Nat.pow_lt_pow_right (by omega) (by omega)
        obtain ⟨b, off, rfl, hc⟩ := hz.at_ (k := k) (by simpa using hkl)
        rw [List.getElem_map] at hc
        have hi := hib l[k] (List.getElem_mem hkl)
        have sn := getB_snoc m (l.take k) l[k] 0
        rw [← List.take_succ_eq_append_getElem hkl, HL2.out, Nat.zero_add] at sn
        have E := Lib.hid (bits_or_pow (getB m (l.take k) 0) k hgl (by omega))
        have HP := Lib.hid hp
        have HGL := Lib.hid hgl
        clear hp hgl
        cases hb : bitI m l[k] with
        | true =>
          rw [hb] at sn
          have hk62 : k < 62 := by omega
          simp [hk62] at sn
          have SN := Lib.hid sn
          clear sn
          go_wp2_with (go_at_call 77; refine (get_any _ _ _ m _ _ hn hs hlen hi.1 hi.2).mono ?_; rintro e w1 ⟨rfl, rfl⟩)
          go_round
          case rel => exact ⟨k + 1, by omega, by go_num, by rw [E.out, SN.out]⟩
          case measure => simp [intOf]; omega
        | false =>
          rw [hb, Bool.and_false] at sn
          simp at sn
          have SN := Lib.hid sn
          clear sn
          go_wp2_with (go_at_call 77; refine (get_any _ _ _ m _ _ hn hs hlen hi.1 hi.2).mono ?_; rintro e w1 ⟨rfl, rfl⟩)
          go_round
          case rel => exact ⟨k + 1, by omega, by go_num, by rw [SN.out]⟩
          case measure => simp [intOf]; omega
      · obtain rfl : k = l.length := by omega
        go_wp2
        go_ret
        exact ⟨by rw [← KEY.out]; rfl, rfl⟩
  · have KEY := Lib.hid (key 62 (by omega) (by omega) (.inl (by omega)))
    clear key
    go_enter Try.func39, Try.ntmps39
    go_wp2
    go_loop [5, 6, 7, 14] (fun v5 _ _ v14 => ∃ k : Nat, k ≤ 62 ∧ v14 = .int .i64 k ∧ v5 = .int .i64 (getB m (l.take k) 0)) (fun _ _ _ v14 => 62 - (intOf v14).toNat)
    case atStart => exact ⟨0, by omega, rfl, rfl⟩
    case round =>
      obtain ⟨k, hk, rfl, rfl⟩ := hrel
      have hl2 : (l.take k).length = k := List.length_take_of_le (by omega)
      have hgl := getB_lt m (l.take k) 0
      rw [hl2, Nat.zero_add] at hgl
      have HL2 := Lib.hid hl2
      clear hl2
      by_cases hlt : k < 62
      · have hkl : k < l.length := by omega
        have hp : 2 ^ k < 2 ^ 62 := Nat.pow_lt_pow_right (by omega) (by omega)
        obtain ⟨b, off, rfl, hc⟩ := hz.at_ (k := k) (by simpa using hkl)
        rw [List.getElem_map] at hc
        have hi := hib l[k] (List.getElem_mem hkl)
        have sn := getB_snoc m (l.take k) l[k] 0
        rw [← List.take_succ_eq_append_getElem hkl, HL2.out, Nat.zero_add] at sn
        have E := Lib.hid (bits_or_pow (getB m (l.take k) 0) k hgl (by omega))
        have HP := Lib.hid hp
        have HGL := Lib.hid hgl
        clear hp hgl
        cases hb : bitI m l[k] with
        | true =>
          rw [hb] at sn
          have hk62 : k < 62 := by omega
          simp [hk62] at sn
          have SN := Lib.hid sn
          clear sn
          go_wp2_with (go_at_call 77; refine (get_any _ _ _ m _ _ hn hs hlen hi.1 hi.2).mono ?_; rintro e w1 ⟨rfl, rfl⟩)
          go_round
          case rel => exact ⟨k + 1, by omega, by go_num, by rw [E.out, SN.out]⟩
          case measure => simp [intOf]; omega
        | false =>
          rw [hb, Bool.and_false] at sn
          simp at sn
          have SN := Lib.hid sn
          clear sn
          go_wp2_with (go_at_call 77; refine (get_any _ _ _ m _ _ hn hs hlen hi.1 hi.2).mono ?_; rintro e w1 ⟨rfl, rfl⟩)
          go_round
          case rel => exact ⟨k + 1, by omega, by go_num, by rw [SN.out]⟩
          case measure => simp [intOf]; omega
      · obtain rfl : k = 62 := by omega
        go_wp2
        go_ret
        exact ⟨by rw [← KEY.out]; rfl, rfl⟩
end Go.Proofs.Ytamhigknobdloaa
