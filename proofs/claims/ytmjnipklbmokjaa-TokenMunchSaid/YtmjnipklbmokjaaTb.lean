/- The walks of skip, next, great of package token; conditions: a text is not too long. -/
import Derived.Test.YtmjnipklbmokjaaTa
import Derived.Test.YtmjnipklbmokjaaSh
namespace Go.Proofs.Ytmjnipklbmokjaa
open Go.RowKit
set_option linter.unusedVariables false

theorem indexByte_nonneg (l : List UInt8) (c : UInt8) : decide (0 ≤ Lib.indexByte l c) = l.contains c := by
  induction l with
  | nil => simp [Lib.indexByte]
  | cons b l ih =>
    have hge := Lib.indexByte_ge l c
    unfold Lib.indexByte
    rw [List.contains_cons]
    by_cases h : b = c
    · subst h; simp
    · have h1 : (b == c) = false := by simpa using h
      have h2 : (c == b) = false := by simpa using fun e => h e.symm
      rw [h1, h2, Bool.false_or, ← ih]
      simp only [Bool.false_eq_true, if_false]
      by_cases h3 : Lib.indexByte l c = -1
      · simp [h3]
      · have h4 : (Lib.indexByte l c == -1) = false := by simpa using h3
        rw [h4]
        simp only [Bool.false_eq_true, if_false, decide_eq_decide]
        omega
theorem space_idx (c : UInt8) : decide (0 ≤ Lib.indexByte [32, 9, 10, 13] c) = spaceB c := by
  rw [indexByte_nonneg]
  unfold spaceB
  simp only [List.contains_cons, List.contains_nil, Bool.or_false, Bool.or_assoc]
theorem sign_idx (c : UInt8) : decide (0 ≤ Lib.indexByte [123, 125, 91, 93, 40, 41, 59, 58, 44, 46, 61, 60, 43, 45, 42, 47, 37] c) = signB c := by
  rw [indexByte_nonneg]; rfl
theorem byte_back (c : UInt8) : ((c.toNat : Int)).toNat.toUInt8 = c := by simp
/-- IndexByte at a byte of the text. -/
theorem idx_yes (s : ByteArray) (c : UInt8) (w : World) (h : decide (0 ≤ Lib.indexByte s.data.toList c) = true) :
    Calls Try.prog 32 #[.string s, bv c] w fun e w' => ∃ i : Int, 0 ≤ i ∧ e = .returned (.int .i64 i) ∧ w = w' :=
  (Try.strings_IndexByte s _ w).mono fun e w' ⟨he, hw⟩ => ⟨_, by rw [byte_back]; simpa using h, he, hw.symm⟩
theorem idx_no (s : ByteArray) (c : UInt8) (w : World) (h : decide (0 ≤ Lib.indexByte s.data.toList c) = false) :
    Calls Try.prog 32 #[.string s, bv c] w fun e w' => ∃ i : Int, i < 0 ∧ e = .returned (.int .i64 i) ∧ w = w' :=
  (Try.strings_IndexByte s _ w).mono fun e w' ⟨he, hw⟩ => ⟨_, by rw [byte_back]; simpa using h, he, hw.symm⟩

theorem skipL_in (s : ByteArray) (k : Nat) (h : k < s.size) : skipL false (s.data.toList.drop k) = if spaceB s[k] then skipL false (s.data.toList.drop (k + 1)) + 1 else if s[k] == 35 then skipL true (s.data.toList.drop (k + 1)) + 1 else 0 := by
  rw [skipL_at _ k (by rw [size_list]; exact h), data_get s k h]
theorem skipL_out (s : ByteArray) (k : Nat) (h : s.size ≤ k) : skipL false (s.data.toList.drop k) = 0 := skipL_end false _ k (by rw [size_list]; exact h)
theorem skipL_hash' (s : ByteArray) (k : Nat) (h : k < s.size) (h35 : s[k] = 35) : skipL false (s.data.toList.drop k) = runL lineB (s.data.toList.drop k) + skipL false (s.data.toList.drop (k + runL lineB (s.data.toList.drop k))) :=
  skipL_hash _ k (by rw [size_list]; exact h) (by rw [data_get s k h]; exact h35)
theorem runL_hash (s : ByteArray) (k : Nat) (h : k < s.size) (h35 : s[k] = 35) : 1 ≤ runL lineB (s.data.toList.drop k) := by
  rw [runL_in lineB s k h, h35, if_pos (by decide)]; omega

set_option maxHeartbeats 400000 in
theorem skip_any (s : ByteArray) (a : Nat) (w : World) (hs : s.size ≤ 1000000000) (ha : a ≤ s.size) :
    Calls Try.prog 21 #[.string s, .int .i64 a] w fun e w' => e = .returned (.int .i64 (a + skipL false (s.data.toList.drop a) : Nat)) ∧ w = w' := by
  go_enter Try.func21, Try.ntmps21
  go_wp2
  go_loop [1] (fun v => ∃ k : Nat, k ≤ s.size ∧ v = .int .i64 k ∧ Hid (k + skipL false (s.data.toList.drop k) = a + skipL false (s.data.toList.drop a))) (fun v => s.size - (intOf v).toNat)
  case atStart => exact ⟨a, ha, rfl, (rfl : _ = _)⟩
  case round =>
    obtain ⟨k, hk, rfl, hinv⟩ := hrel
    by_cases hlt : k < s.size
    · have hr := skipL_in s k hlt
      cases hp : spaceB s[k] with
      | true =>
        rw [hp, if_pos rfl] at hr
        have HR := Lib.hid hr
        clear hr
        have hi : decide (0 ≤ Lib.indexByte (⟨#[32, 9, 10, 13]⟩ : ByteArray).data.toList s[k]) = true := (space_idx s[k]).trans hp
        have HI := Lib.hid hi
        clear hi
        go_wp2_with fail
        refine (idx_yes ⟨#[32, 9, 10, 13]⟩ s[k] _ HI.out).mono ?_
        rintro e w1 ⟨i, hi, rfl, rfl⟩
        go_wp2
        go_round
        case rel => exact ⟨k + 1, by omega, by go_num, (by have := hinv.out; have := HR.out; show _ = _; omega)⟩
        case measure => simp [intOf]; omega
      | false =>
        have HI : Hid (decide (0 ≤ Lib.indexByte (⟨#[32, 9, 10, 13]⟩ : ByteArray).data.toList s[k]) = false) := (space_idx s[k]).trans hp
        by_cases h35 : s[k] = 35
        · have HH := Lib.hid (skipL_hash' s k hlt h35)
          have hb := runL_bound lineB s k (by omega)
          have hp1 := runL_hash s k hlt h35
          have ht : ((s[k].toNat : Int) == 35) = true := by rw [h35]; rfl
          clear hr hp h35
          go_wp2_with fail
          refine (idx_no ⟨#[32, 9, 10, 13]⟩ s[k] _ HI.out).mono ?_
          rintro e w1 ⟨i, hi, rfl, rfl⟩
          go_wp2_with fail
          refine (run_line s k _ hs (by omega)).mono ?_
          rintro e w1 ⟨rfl, rfl⟩
          go_wp2
          go_round
          case rel => exact ⟨k + runL lineB (s.data.toList.drop k), by omega, rfl, (by have := hinv.out; have := HH.out; show _ = _; omega)⟩
          case measure => simp [intOf]; omega
        · have ht : ((s[k].toNat : Int) == 35) = false := by
            have : (s[k].toNat : Int) ≠ 35 := fun h' => h35 (UInt8.toNat_inj.1 (by
              have : s[k].toNat = 35 := by omega
              rw [this]; rfl))
            simpa using this
          have h35' : (s[k] == 35) = false := by simpa using h35
          rw [hp, h35', if_neg (by decide), if_neg (by decide)] at hr
          have HR := Lib.hid hr
          clear hr hp h35 h35'
          go_wp2_with fail
          refine (idx_no ⟨#[32, 9, 10, 13]⟩ s[k] _ HI.out).mono ?_
          rintro e w1 ⟨i, hi, rfl, rfl⟩
          go_wp2
          go_ret
          exact ⟨ret_int (by have := hinv.out; have := HR.out; omega), rfl⟩
    · have HR := Lib.hid (skipL_out s k (by omega))
      go_wp2
      go_ret
      exact ⟨ret_int (by have := hinv.out; have := HR.out; omega), rfl⟩

theorem pre_two (c a b : UInt8) (t : Bs) : Lib.hasPrefix (c :: t) [a, b] = (c == a && t.head? == some b) := by
  unfold Lib.hasPrefix
  cases t with
  | nil => simp [List.isPrefixOf]
  | cons d t =>
    simp only [List.isPrefixOf, List.head?_cons, Bool.and_true]
    have e1 : (a == c) = (c == a) := Bool.beq_comm
    have e2 : (b == d) = (some d == some b) := by rw [Option.some_beq_some]; exact Bool.beq_comm
    rw [e1, e2]
theorem drop_in (s : ByteArray) (a : Nat) (h : a < s.size) : s.data.toList.drop a = s[a] :: s.data.toList.drop (a + 1) := by
  rw [drop_cons _ a (by rw [size_list]; exact h), data_get s a h]
theorem ret_two {a b c d : Int} (h : a = c) (h' : b = d) : Ending.returned (.tuple #[.int .i64 a, .int .i64 b]) = .returned (.tuple #[.int .i64 c, .int .i64 d]) := by rw [h, h']

set_option maxHeartbeats 400000 in
theorem next_tok (s : ByteArray) (a : Nat) (w : World) (hs : s.size ≤ 1000000000) (ha : a < s.size) :
    Calls Try.prog 22 #[.string s, .int .i64 a] w fun e w' => e = .returned (.tuple #[.int .i64 ((nextL (s.data.toList.drop a)).1 : Nat), .int .i64 ((a + (nextL (s.data.toList.drop a)).2 : Nat) : Int)]) ∧ w = w' := by
  have hL := drop_in s a ha
  have hb1 := runL_bound alnumB s a (by omega)
  have hb2 := runL_bound digitB s a (by omega)
  cases h1 : letterB s[a] with
  | true =>
    have hn := nextL_letter (s.data.toList.drop (a + 1)) h1
    rw [← hL] at hn
    rw [hn]
    have H1 := Lib.hid h1
    clear hn hL h1
    go_enter Try.func22, Try.ntmps22
    go_wp2_with fail
    refine (letter_any s[a] _).mono ?_
    rw [H1.out]
    rintro e w1 ⟨rfl, rfl⟩
    go_wp2_with fail
    refine (run_alnum s a _ hs (by omega)).mono ?_
    rintro e w1 ⟨rfl, rfl⟩
    go_wp2
    go_ret2
    exact ⟨rfl, rfl⟩
  | false =>
    cases h2 : digitB s[a] with
    | true =>
      have hn := nextL_digit (s.data.toList.drop (a + 1)) h1 h2
      rw [← hL] at hn
      rw [hn]
      have H1 := Lib.hid h1
      have H2 := Lib.hid h2
      clear hn hL h1 h2
      go_enter Try.func22, Try.ntmps22
      go_wp2_with fail
      refine (letter_any s[a] _).mono ?_
      rw [H1.out]
      rintro e w1 ⟨rfl, rfl⟩
      go_wp2_with fail
      refine (digit_any s[a] _).mono ?_
      rw [H2.out]
      rintro e w1 ⟨rfl, rfl⟩
      go_wp2_with fail
      refine (run_digit s a _ hs (by omega)).mono ?_
      rintro e w1 ⟨rfl, rfl⟩
      go_wp2
      go_ret2
      exact ⟨rfl, rfl⟩
    | false =>
      have hn := nextL_sign (s.data.toList.drop (a + 1)) h1 h2
      rw [← hL] at hn
      rw [hn]
      have p1 := pre_two s[a] 61 61 (s.data.toList.drop (a + 1))
      have p2 := pre_two s[a] 45 62 (s.data.toList.drop (a + 1))
      rw [← hL, ← Lib.extract_to_end] at p1 p2
      have htw : twoB s[a] (s.data.toList.drop (a + 1)).head? = (Lib.hasPrefix (s.extract a s.size).data.toList [61, 61] || Lib.hasPrefix (s.extract a s.size).data.toList [45, 62]) := by rw [p1, p2]; rfl
      unfold signN
      rw [htw]
      have H1 := Lib.hid h1
      have H2 := Lib.hid h2
      clear hn hL h1 h2 p1 p2 htw
      cases h3 : Lib.hasPrefix (s.extract a s.size).data.toList [61, 61] with
      | true =>
        have H3 := Lib.hid h3
        clear h3
        go_enter Try.func22, Try.ntmps22
        go_wp2_with fail
        refine (letter_any s[a] _).mono ?_
        rw [H1.out]
        rintro e w1 ⟨rfl, rfl⟩
        go_wp2_with fail
        refine (digit_any s[a] _).mono ?_
        rw [H2.out]
        rintro e w1 ⟨rfl, rfl⟩
        go_wp2_with fail
        refine (Try.strings_HasPrefix _ ⟨#[61, 61]⟩ _).mono ?_
        rw [H3.out]
        rintro e w1 ⟨rfl, rfl⟩
        go_wp2
        go_ret2
        exact ⟨rfl, rfl⟩
      | false =>
        cases h4 : Lib.hasPrefix (s.extract a s.size).data.toList [45, 62] with
        | true =>
          have H3 := Lib.hid h3
          have H4 := Lib.hid h4
          clear h3 h4
          go_enter Try.func22, Try.ntmps22
          go_wp2_with fail
          refine (letter_any s[a] _).mono ?_
          rw [H1.out]
          rintro e w1 ⟨rfl, rfl⟩
          go_wp2_with fail
          refine (digit_any s[a] _).mono ?_
          rw [H2.out]
          rintro e w1 ⟨rfl, rfl⟩
          go_wp2_with fail
          refine (Try.strings_HasPrefix _ ⟨#[61, 61]⟩ _).mono ?_
          rw [H3.out]
          rintro e w1 ⟨rfl, rfl⟩
          go_wp2_with fail
          refine (Try.strings_HasPrefix _ ⟨#[45, 62]⟩ _).mono ?_
          rw [H4.out]
          rintro e w1 ⟨rfl, rfl⟩
          go_wp2
          go_ret2
          exact ⟨rfl, rfl⟩
        | false =>
          have H3 := Lib.hid h3
          have H4 := Lib.hid h4
          clear h3 h4
          cases h5 : signB s[a] with
          | true =>
            have H5 : Hid (decide (0 ≤ Lib.indexByte (⟨#[123, 125, 91, 93, 40, 41, 59, 58, 44, 46, 61, 60, 43, 45, 42, 47, 37]⟩ : ByteArray).data.toList s[a]) = true) := (sign_idx s[a]).trans h5
            clear h5
            go_enter Try.func22, Try.ntmps22
            go_wp2_with fail
            refine (letter_any s[a] _).mono ?_
            rw [H1.out]
            rintro e w1 ⟨rfl, rfl⟩
            go_wp2_with fail
            refine (digit_any s[a] _).mono ?_
            rw [H2.out]
            rintro e w1 ⟨rfl, rfl⟩
            go_wp2_with fail
            refine (Try.strings_HasPrefix _ ⟨#[61, 61]⟩ _).mono ?_
            rw [H3.out]
            rintro e w1 ⟨rfl, rfl⟩
            go_wp2_with fail
            refine (Try.strings_HasPrefix _ ⟨#[45, 62]⟩ _).mono ?_
            rw [H4.out]
            rintro e w1 ⟨rfl, rfl⟩
            go_wp2_with fail
            refine (idx_yes ⟨#[123, 125, 91, 93, 40, 41, 59, 58, 44, 46, 61, 60, 43, 45, 42, 47, 37]⟩ s[a] _ H5.out).mono ?_
            rintro e w1 ⟨i, hi, rfl, rfl⟩
            go_wp2
            go_ret2
            exact ⟨rfl, rfl⟩
          | false =>
            have H5 : Hid (decide (0 ≤ Lib.indexByte (⟨#[123, 125, 91, 93, 40, 41, 59, 58, 44, 46, 61, 60, 43, 45, 42, 47, 37]⟩ : ByteArray).data.toList s[a]) = false) := (sign_idx s[a]).trans h5
            clear h5
            go_enter Try.func22, Try.ntmps22
            go_wp2_with fail
            refine (letter_any s[a] _).mono ?_
            rw [H1.out]
            rintro e w1 ⟨rfl, rfl⟩
            go_wp2_with fail
            refine (digit_any s[a] _).mono ?_
            rw [H2.out]
            rintro e w1 ⟨rfl, rfl⟩
            go_wp2_with fail
            refine (Try.strings_HasPrefix _ ⟨#[61, 61]⟩ _).mono ?_
            rw [H3.out]
            rintro e w1 ⟨rfl, rfl⟩
            go_wp2_with fail
            refine (Try.strings_HasPrefix _ ⟨#[45, 62]⟩ _).mono ?_
            rw [H4.out]
            rintro e w1 ⟨rfl, rfl⟩
            go_wp2_with fail
            refine (idx_no ⟨#[123, 125, 91, 93, 40, 41, 59, 58, 44, 46, 61, 60, 43, 45, 42, 47, 37]⟩ s[a] _ H5.out).mono ?_
            rintro e w1 ⟨i, hi, rfl, rfl⟩
            go_wp2
            go_ret2
            exact ⟨rfl, rfl⟩

/-- Is a number too great, as the walk asks it? -/
theorem great_def (s : ByteArray) : greatL s.data.toList = (decide (19 < s.size) || (decide (s.size = 19) && (!Op.bytesLess s.toList [57, 50, 50, 51, 51, 55, 50, 48, 51, 54, 56, 53, 52, 55, 55, 53, 56, 48, 56] && !(s.toList == [57, 50, 50, 51, 51, 55, 50, 48, 51, 54, 56, 53, 52, 55, 55, 53, 56, 48, 56])))) := by
  unfold greatL mostL
  rw [size_list, Lib.toList_data]
set_option maxHeartbeats 400000 in
theorem great_any (s : ByteArray) (w : World) (hs : s.size ≤ 1000000000) :
    Calls Try.prog 23 #[.string s] w fun e w' => e = .returned (.bool (greatL s.data.toList)) ∧ w = w' := by
  have hd := great_def s
  by_cases h1 : 19 < s.size
  · have hg : greatL s.data.toList = true := by rw [hd]; simp [h1]
    rw [hg]
    clear hg hd
    go_enter Try.func23, Try.ntmps23
    go_wp2
    go_ret
    exact ⟨rfl, rfl⟩
  · by_cases h2 : s.size = 19
    · rw [hd]
      have e1 : decide (19 < s.size) = false := by simpa using h1
      have e2 : decide (s.size = 19) = true := by simpa using h2
      rw [e1, e2, Bool.false_or, Bool.true_and]
      have e4 : decide ((19 : Int) < (s.size : Int)) = false := by simp; omega
      have e3 : ((s.size : Int) == 19) = true := by simp; omega
      clear hd e1 e2 h2
      go_enter Try.func23, Try.ntmps23
      go_wp2
      go_ret
      exact ⟨rfl, rfl⟩
    · have hg : greatL s.data.toList = false := by rw [hd]; simp [h1, h2]
      rw [hg]
      have e4 : decide ((19 : Int) < (s.size : Int)) = false := by simp; omega
      have e3 : ((s.size : Int) == 19) = false := by simp; omega
      clear hg hd
      go_enter Try.func23, Try.ntmps23
      go_wp2
      go_ret
      exact ⟨rfl, rfl⟩
end Go.Proofs.Ytmjnipklbmokjaa
