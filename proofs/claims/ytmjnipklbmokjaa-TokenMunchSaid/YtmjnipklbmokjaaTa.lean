/- The walks of letter, digit, alphanumeric, run and great of package token; conditions: a text is not too long. -/
import Derived.Test.YtmjnipklbmokjaaBase
import Derived.Test.YtmjnipklbmokjaaTk
namespace Go.Proofs.Ytmjnipklbmokjaa
open Go.RowKit
set_option linter.unusedVariables false

set_option maxHeartbeats 400000 in
theorem letter_any (c : UInt8) (w : World) : Calls Try.prog 27 #[bv c] w fun e w' => e = .returned (.bool (letterB c)) ∧ w = w' := by
  have hc := c.toNat_lt
  unfold letterB bv
  generalize c.toNat = n at *
  by_cases h1 : 97 ≤ n <;> by_cases h2 : n ≤ 122 <;> by_cases h3 : 65 ≤ n <;> by_cases h4 : n ≤ 90 <;> first
    | (exfalso; omega)
    | (go_enter Try.func27, Try.ntmps27
       go_wp2
       go_ret
       refine ⟨?_, rfl⟩
       simp [h1, h2, h3, h4] <;> omega)

set_option maxHeartbeats 400000 in
theorem digit_any (c : UInt8) (w : World) : Calls Try.prog 34 #[bv c] w fun e w' => e = .returned (.bool (digitB c)) ∧ w = w' := by
  have hc := c.toNat_lt
  unfold digitB bv
  generalize c.toNat = n at *
  by_cases h1 : 48 ≤ n <;> by_cases h2 : n ≤ 57 <;> first
    | (exfalso; omega)
    | (go_enter Try.func34, Try.ntmps34
       go_wp2
       go_ret
       refine ⟨?_, rfl⟩
       simp [h1, h2] <;> omega)

set_option maxHeartbeats 400000 in
theorem alnum_any (c : UInt8) (w : World) : Calls Try.prog 29 #[bv c] w fun e w' => e = .returned (.bool (alnumB c)) ∧ w = w' := by
  unfold alnumB
  cases h : letterB c with
  | true =>
    go_enter Try.func29, Try.ntmps29
    go_wp2_with fail
    refine (letter_any c _).mono ?_
    rw [h]
    rintro e w1 ⟨rfl, rfl⟩
    go_wp2
    go_ret
    exact ⟨rfl, rfl⟩
  | false =>
    go_enter Try.func29, Try.ntmps29
    go_wp2_with fail
    refine (letter_any c _).mono ?_
    rw [h]
    rintro e w1 ⟨rfl, rfl⟩
    go_wp2_with fail
    refine (digit_any c _).mono ?_
    rintro e w1 ⟨rfl, rfl⟩
    go_wp2
    go_ret
    exact ⟨rfl, rfl⟩

set_option maxHeartbeats 400000 in
theorem line_any (c : UInt8) (w : World) : Calls Try.prog 33 #[bv c] w fun e w' => e = .returned (.bool (lineB c)) ∧ w = w' := by
  have e : lineB c = ((c.toNat : Int) != 10) := by
    unfold lineB
    by_cases h : c = 10
    · subst h; rfl
    · have : (c.toNat : Int) ≠ 10 := fun h' => h (UInt8.toNat_inj.1 (by have : c.toNat = 10 := by omega
                                                                        rw [this]; rfl))
      have e1 : (c == 10) = false := by simpa using h
      have e2 : ((c.toNat : Int) != 10) = true := by simpa using this
      rw [e1, e2]; rfl
  rw [e]
  clear e
  unfold bv
  generalize c.toNat = n at *
  go_enter Try.func33, Try.ntmps33
  go_wp2
  go_ret
  exact ⟨rfl, rfl⟩

theorem ret_int {k : IntKind} {a b : Int} (h : a = b) : Ending.returned (.int k a) = .returned (.int k b) := by rw [h]
theorem size_list (s : ByteArray) : s.data.toList.length = s.size := (Lib.size_eq s).symm
theorem data_get (s : ByteArray) (k : Nat) (h : k < s.size) : s.data.toList[k]'(by rw [size_list]; exact h) = s[k] := by
  have := Lib.data_getElem? s k h
  rw [List.getElem?_eq_getElem (by rw [size_list]; exact h)] at this
  exact Option.some.inj this
theorem runL_in (p : UInt8 → Bool) (s : ByteArray) (k : Nat) (h : k < s.size) : runL p (s.data.toList.drop k) = if p s[k] then runL p (s.data.toList.drop (k + 1)) + 1 else 0 := by
  rw [runL_at p _ k (by rw [size_list]; exact h), data_get s k h]
theorem runL_out (p : UInt8 → Bool) (s : ByteArray) (k : Nat) (h : s.size ≤ k) : runL p (s.data.toList.drop k) = 0 := runL_end p _ k (by rw [size_list]; exact h)
theorem runL_bound (p : UInt8 → Bool) (s : ByteArray) (k : Nat) (h : k ≤ s.size) : k + runL p (s.data.toList.drop k) ≤ s.size := by
  have := runL_le p (s.data.toList.drop k)
  rw [List.length_drop, size_list] at this
  omega

set_option maxHeartbeats 400000 in
theorem run_alnum (s : ByteArray) (a : Nat) (w : World) (hs : s.size ≤ 1000000000) (ha : a ≤ s.size) :
    Calls Try.prog 28 #[.string s, .int .i64 a, .func (.func 29) #[] #[]] w fun e w' => e = .returned (.int .i64 (a + runL alnumB (s.data.toList.drop a) : Nat)) ∧ w = w' := by
  go_enter Try.func28, Try.ntmps28
  go_wp2
  go_loop [1] (fun v => ∃ k : Nat, k ≤ s.size ∧ v = .int .i64 k ∧ Hid (k + runL alnumB (s.data.toList.drop k) = a + runL alnumB (s.data.toList.drop a))) (fun v => s.size - (intOf v).toNat)
  case atStart => exact ⟨a, ha, rfl, (rfl : _ = _)⟩
  case round =>
    obtain ⟨k, hk, rfl, hinv⟩ := hrel
    by_cases hlt : k < s.size
    · have hr := runL_in alnumB s k hlt
      cases hp : alnumB s[k] with
      | true =>
        rw [hp, if_pos rfl] at hr
        have HR := Lib.hid hr
        clear hr
        go_wp2_with fail
        refine (alnum_any s[k] _).mono ?_
        rw [hp]
        rintro e w1 ⟨rfl, rfl⟩
        go_wp2
        go_round
        case rel => exact ⟨k + 1, by omega, by go_num, (by have := hinv.out; have := HR.out; show _ = _; omega)⟩
        case measure => simp [intOf]; omega
      | false =>
        rw [hp, if_neg (by decide)] at hr
        have HR := Lib.hid hr
        clear hr
        go_wp2_with fail
        refine (alnum_any s[k] _).mono ?_
        rw [hp]
        rintro e w1 ⟨rfl, rfl⟩
        go_wp2
        go_ret
        exact ⟨ret_int (by have := hinv.out; have := HR.out; omega), rfl⟩
    · have HR := Lib.hid (runL_out alnumB s k (by omega))
      go_wp2
      go_ret
      exact ⟨ret_int (by have := hinv.out; have := HR.out; omega), rfl⟩
set_option maxHeartbeats 400000 in
theorem run_digit (s : ByteArray) (a : Nat) (w : World) (hs : s.size ≤ 1000000000) (ha : a ≤ s.size) :
    Calls Try.prog 28 #[.string s, .int .i64 a, .func (.func 34) #[] #[]] w fun e w' => e = .returned (.int .i64 (a + runL digitB (s.data.toList.drop a) : Nat)) ∧ w = w' := by
  go_enter Try.func28, Try.ntmps28
  go_wp2
  go_loop [1] (fun v => ∃ k : Nat, k ≤ s.size ∧ v = .int .i64 k ∧ Hid (k + runL digitB (s.data.toList.drop k) = a + runL digitB (s.data.toList.drop a))) (fun v => s.size - (intOf v).toNat)
  case atStart => exact ⟨a, ha, rfl, (rfl : _ = _)⟩
  case round =>
    obtain ⟨k, hk, rfl, hinv⟩ := hrel
    by_cases hlt : k < s.size
    · have hr := runL_in digitB s k hlt
      cases hp : digitB s[k] with
      | true =>
        rw [hp, if_pos rfl] at hr
        have HR := Lib.hid hr
        clear hr
        go_wp2_with fail
        refine (digit_any s[k] _).mono ?_
        rw [hp]
        rintro e w1 ⟨rfl, rfl⟩
        go_wp2
        go_round
        case rel => exact ⟨k + 1, by omega, by go_num, (by have := hinv.out; have := HR.out; show _ = _; omega)⟩
        case measure => simp [intOf]; omega
      | false =>
        rw [hp, if_neg (by decide)] at hr
        have HR := Lib.hid hr
        clear hr
        go_wp2_with fail
        refine (digit_any s[k] _).mono ?_
        rw [hp]
        rintro e w1 ⟨rfl, rfl⟩
        go_wp2
        go_ret
        exact ⟨ret_int (by have := hinv.out; have := HR.out; omega), rfl⟩
    · have HR := Lib.hid (runL_out digitB s k (by omega))
      go_wp2
      go_ret
      exact ⟨ret_int (by have := hinv.out; have := HR.out; omega), rfl⟩
set_option maxHeartbeats 400000 in
theorem run_line (s : ByteArray) (a : Nat) (w : World) (hs : s.size ≤ 1000000000) (ha : a ≤ s.size) :
    Calls Try.prog 28 #[.string s, .int .i64 a, .func (.func 33) #[] #[]] w fun e w' => e = .returned (.int .i64 (a + runL lineB (s.data.toList.drop a) : Nat)) ∧ w = w' := by
  go_enter Try.func28, Try.ntmps28
  go_wp2
  go_loop [1] (fun v => ∃ k : Nat, k ≤ s.size ∧ v = .int .i64 k ∧ Hid (k + runL lineB (s.data.toList.drop k) = a + runL lineB (s.data.toList.drop a))) (fun v => s.size - (intOf v).toNat)
  case atStart => exact ⟨a, ha, rfl, (rfl : _ = _)⟩
  case round =>
    obtain ⟨k, hk, rfl, hinv⟩ := hrel
    by_cases hlt : k < s.size
    · have hr := runL_in lineB s k hlt
      cases hp : lineB s[k] with
      | true =>
        rw [hp, if_pos rfl] at hr
        have HR := Lib.hid hr
        clear hr
        go_wp2_with fail
        refine (line_any s[k] _).mono ?_
        rw [hp]
        rintro e w1 ⟨rfl, rfl⟩
        go_wp2
        go_round
        case rel => exact ⟨k + 1, by omega, by go_num, (by have := hinv.out; have := HR.out; show _ = _; omega)⟩
        case measure => simp [intOf]; omega
      | false =>
        rw [hp, if_neg (by decide)] at hr
        have HR := Lib.hid hr
        clear hr
        go_wp2_with fail
        refine (line_any s[k] _).mono ?_
        rw [hp]
        rintro e w1 ⟨rfl, rfl⟩
        go_wp2
        go_ret
        exact ⟨ret_int (by have := hinv.out; have := HR.out; omega), rfl⟩
    · have HR := Lib.hid (runL_out lineB s k (by omega))
      go_wp2
      go_ret
      exact ⟨ret_int (by have := hinv.out; have := HR.out; omega), rfl⟩
end Go.Proofs.Ytmjnipklbmokjaa
