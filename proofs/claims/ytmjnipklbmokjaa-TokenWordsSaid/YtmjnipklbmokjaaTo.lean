/- The walks of Reserved and ValidName of package token and of its reference, and of the law TokenWords; conditions: what package bytealg's own variable holds is some number. -/
import Derived.Test.YtmjnipklbmokjaaTn
import Derived.Test.YtmjnipklbmokjaaTf
namespace Go.Proofs.Ytmjnipklbmokjaa
open Go.RowKit
set_option linter.unusedVariables false

theorem words_call (T Z s : ByteArray) (m : Int) (w : World) (hT : T.data.toList = wordsT) (hZ : (⟨#[32]⟩ ++ s) ++ ⟨#[32]⟩ = Z) (hs : 32 ∉ s.data.toList) (hne : s.data.toList ≠ []) (hm : w.cell? ⟨0, 0, none⟩ = some (.int .i64 m)) :
    Calls Try.prog 25 #[.string T, .string Z] w fun e w' => e = .returned (.bool (reservedL s.data.toList)) ∧ w = w' := by
  have hTs : T.size < 4294967281 := by
    rw [← size_list, hT]
    decide +kernel
  refine (Try.strings_Contains T Z m w hTs hm).mono ?_
  rintro e w' ⟨rfl, rfl⟩
  refine ⟨?_, rfl⟩
  have e1 : Z.data.toList = 32 :: (s.data.toList ++ [32]) := by
    rw [← hZ, app_data, app_data]; rfl
  rw [hT, e1, reserved_eq _ hs hne]
theorem space_call (s : ByteArray) (w : World) : Calls Try.prog 25 #[.string s, .string ⟨#[32]⟩] w fun e w' => e = .returned (.bool (s.data.toList.contains 32)) ∧ w = w' :=
  (Try.strings_Contains_one s 32 w).mono fun e w' ⟨he, hw⟩ => ⟨by rw [he, indexByte_nonneg], hw.symm⟩
theorem empty_iff (s : ByteArray) : s.toList.isEmpty = true ↔ s.size = 0 := by
  rw [Lib.toList_data, List.isEmpty_iff, ← size_list]
  exact ⟨fun h => by rw [h]; rfl, fun h => List.eq_nil_of_length_eq_zero h⟩

set_option maxHeartbeats 800000 in
set_option maxRecDepth 100000 in
theorem reserved_any (s : ByteArray) (m : Int) (w : World) (hs : s.size ≤ 1000) (hm : w.cell? ⟨0, 0, none⟩ = some (.int .i64 m)) :
    Calls Try.prog 17 #[.string s] w fun e w' => e = .returned (.bool (reservedL s.data.toList)) ∧ w = w' := by
  cases he : s.toList.isEmpty with
  | true =>
    have hz := (empty_iff s).1 he
    have hl : s.data.toList = [] := List.eq_nil_of_length_eq_zero (by rw [size_list]; exact hz)
    rw [hl, show reservedL [] = false from by decide]
    clear hz hl
    go_enter Try.func17, Try.ntmps17
    go_wp2
    go_ret
    exact ⟨rfl, rfl⟩
  | false =>
    have hne : s.data.toList ≠ [] := by
      intro h
      rw [Lib.toList_data, h] at he
      simp at he
    have HNE := Lib.hid hne
    clear hne
    cases hc : s.data.toList.contains 32 with
    | true =>
      have hr := reserved_space s.data.toList (.inl (by simpa using hc))
      rw [hr]
      have HC := Lib.hid hc
      clear hr hc
      go_enter Try.func17, Try.ntmps17
      go_wp2_with fail
      refine (space_call s _).mono ?_
      rw [HC.out]
      rintro e w1 ⟨rfl, rfl⟩
      go_wp2
      go_ret
      exact ⟨rfl, rfl⟩
    | false =>
      have HN32 : Hid (32 ∉ s.data.toList) := by
        intro h
        have h2 : s.data.toList.contains 32 = true := by simpa using h
        rw [hc] at h2
        exact absurd h2 (by decide)
      have HC := Lib.hid hc
      clear hc
      obtain ⟨Z, hZ⟩ : ∃ Z, ((⟨#[32]⟩ : ByteArray) ++ s) ++ ⟨#[32]⟩ = Z := ⟨_, rfl⟩
      have HZ := Lib.hid hZ
      go_enter Try.func17, Try.ntmps17
      go_wp2_with fail
      refine (space_call s _).mono ?_
      rw [HC.out]
      rintro e w1 ⟨rfl, rfl⟩
      go_wp2_with fail
      refine (words_call _ Z s m _ (by decide +kernel) HZ.out HN32.out HNE.out hm).mono ?_
      rintro e w1 ⟨rfl, rfl⟩
      go_wp2
      go_ret
      exact ⟨rfl, rfl⟩

theorem rwords_any (w : World) : Calls Try.prog 26 #[] w fun e w' => e = .returned (.slice (some ⟨w.heap.size, 0, none⟩) 44 44) ∧ w' = w.alloc (.cells (wordsL.map sv).toArray 9) := by
  have hW1 : (w.alloc (.cells #[.string ⟨#[108, 105, 98, 114, 97, 114, 121]⟩, .string ⟨#[99, 108, 105, 101, 110, 116]⟩, .string ⟨#[105, 110, 116, 101, 114, 102, 97, 99, 101]⟩, .string ⟨#[114, 101, 108, 101, 97, 115, 101]⟩, .string ⟨#[105, 109, 112, 111, 114, 116]⟩, .string ⟨#[115, 105, 110, 99, 101]⟩, .string ⟨#[112, 117, 98, 108, 105, 99]⟩, .string ⟨#[102, 114, 111, 122, 101, 110]⟩, .string ⟨#[115, 101, 97, 108, 101, 100]⟩, .string ⟨#[105, 110, 108, 105, 110, 101]⟩, .string ⟨#[105, 110, 100, 105, 114, 101, 99, 116]⟩, .string ⟨#[115, 116, 114, 117, 99, 116]⟩, .string ⟨#[117, 110, 105, 111, 110]⟩, .string ⟨#[116, 114, 97, 105, 116]⟩, .string ⟨#[99, 111, 110, 102, 111, 114, 109]⟩, .string ⟨#[102, 111, 114]⟩, .string ⟨#[102, 117, 110, 99]⟩, .string ⟨#[100, 101, 102, 97, 117, 108, 116]⟩, .string ⟨#[108, 101, 116]⟩, .string ⟨#[105, 110]⟩, .string ⟨#[105, 102]⟩, .string ⟨#[116, 104, 101, 110]⟩, .string ⟨#[101, 108, 115, 101]⟩, .string ⟨#[112, 114, 105, 110, 116]⟩, .string ⟨#[116, 114, 117, 101]⟩, .string ⟨#[102, 97, 108, 115, 101]⟩, .string ⟨#[99, 97, 115, 101]⟩, .string ⟨#[111, 102]⟩, .string ⟨#[99, 97, 108, 108]⟩, .string ⟨#[109, 97, 116, 99, 104]⟩, .string ⟨#[97, 114, 114, 97, 121]⟩, .string ⟨#[99, 111, 117, 110, 116]⟩, .string ⟨#[97, 116]⟩, .string ⟨#[97, 112, 112, 101, 110, 100]⟩, .string ⟨#[97, 118, 97, 105, 108, 97, 98, 108, 101]⟩, .string ⟨#[102, 97, 105, 108]⟩, .string ⟨#[98, 121, 116, 101]⟩, .string ⟨#[111, 114, 100]⟩, .string ⟨#[119, 105, 116, 104]⟩, .string ⟨#[73, 110, 116]⟩, .string ⟨#[66, 121, 116, 101]⟩, .string ⟨#[66, 111, 111, 108]⟩, .string ⟨#[65, 114, 114, 97, 121]⟩, .string ⟨#[83, 101, 108, 102]⟩] 9)) = w.alloc (.cells (wordsL.map sv).toArray 9) := rfl
  have HW := Lib.hid hW1
  clear hW1
  go_enter Try.func26, Try.ntmps26
  go_wp2
  go_ret
  exact ⟨rfl, HW.out⟩
theorem take_contains (L : List Bs) (s : Bs) (k : Nat) (h : k < L.length) : (L.take (k + 1)).contains s = ((L.take k).contains s || s == L[k]) := by
  rw [List.take_succ_eq_append_getElem h, Bool.eq_iff_iff]
  simp only [List.contains_iff_mem, List.mem_append, List.mem_singleton, Bool.or_eq_true, beq_iff_eq]
theorem words_len : wordsL.length = 44 := rfl

set_option maxHeartbeats 800000 in
theorem rreserved_any (s : ByteArray) (w : World) (hs : s.size ≤ 1000) :
    Calls Try.prog 18 #[.string s] w fun e w' => e = .returned (.bool (reservedL s.data.toList)) ∧ Below w.heap.size w w' := by
  have hb1 := (Below.refl w.heap.size w).alloc (Nat.le_refl _) (.cells (wordsL.map sv).toArray 9)
  have hsl : Sl (w.alloc (.cells (wordsL.map sv).toArray 9)) (some ⟨w.heap.size, 0, none⟩) (wordsL.map sv) := Sl.new w _ 9
  go_enter Try.func18, Try.ntmps18
  go_wp2_with fail
  refine (rwords_any _).mono ?_
  rintro e w1 ⟨rfl, rfl⟩
  have HB1 := Lib.hid hb1
  clear hb1
  go_wp2_with fail
  generalize w.alloc (.cells (wordsL.map sv).toArray 9) = W at *
  go_loop [4, 7] (fun _ v7 => ∃ k : Nat, k ≤ 44 ∧ v7 = .int .i64 k ∧ Hid ((wordsL.take k).contains s.data.toList = false)) (fun _ v7 => 44 - (intOf v7).toNat)
  case atStart => exact ⟨0, by omega, rfl, (rfl : _ = _)⟩
  case round =>
    obtain ⟨k, hk, rfl, hinv⟩ := hrel
    by_cases hlt : k < 44
    · obtain ⟨pb, po, hpe, hcp⟩ := hsl.at_ (k := k) (by rw [List.length_map, words_len]; exact hlt)
      injection hpe with hpe
      injection hpe with e1 e2
      subst e1 e2
      rw [List.getElem_map, Nat.zero_add] at hcp
      have TC := Lib.hid (take_contains wordsL s.data.toList k (by rw [words_len]; exact hlt))
      have hbe : ((bsB (wordsL[k]'(by rw [words_len]; exact hlt))).toList == s.toList) = (s.data.toList == wordsL[k]'(by rw [words_len]; exact hlt)) := by
        rw [Lib.toList_data, Lib.toList_data, bsB_data]
        exact Bool.beq_comm
      have hcp' : W.cell? ⟨w.heap.size, k, none⟩ = some (.string (bsB (wordsL[k]'(by rw [words_len]; exact hlt)))) := hcp
      clear hcp
      cases hq : (s.data.toList == wordsL[k]'(by rw [words_len]; exact hlt)) with
      | true =>
        rw [hq] at hbe TC
        have HR : Hid (reservedL s.data.toList = true) := by
          show wordsL.contains _ = true
          have h1 : s.data.toList = wordsL[k]'(by rw [words_len]; exact hlt) := by simpa using hq
          rw [h1]
          exact List.contains_iff_mem.2 (List.getElem_mem _)
        clear hq
        generalize bsB (wordsL[k]'(by rw [words_len]; exact hlt)) = P at *
        go_wp2
        go_ret
        exact ⟨by rw [HR.out]; rfl, HB1.out⟩
      | false =>
        rw [hq] at hbe TC
        clear hq
        generalize bsB (wordsL[k]'(by rw [words_len]; exact hlt)) = P at *
        go_wp2
        go_round
        case rel => exact ⟨k + 1, by omega, by go_num, (by show _ = _; rw [TC.out, hinv.out]; rfl)⟩
        case measure => simp [intOf]; omega
    · obtain rfl : k = 44 := by omega
      have HR : Hid (reservedL s.data.toList = false) := hinv.out
      go_wp2
      go_ret
      exact ⟨by rw [HR.out]; rfl, HB1.out⟩

set_option maxHeartbeats 400000 in
theorem rletter_any (c : UInt8) (w : World) : Calls Try.prog 30 #[bv c] w fun e w' => e = .returned (.bool (letterB c)) ∧ w = w' := by
  have hc := c.toNat_lt
  unfold letterB bv
  generalize c.toNat = n at *
  by_cases h1 : 97 ≤ n <;> by_cases h2 : n ≤ 122 <;> by_cases h3 : 65 ≤ n <;> by_cases h4 : n ≤ 90 <;> first
    | (exfalso; omega)
    | (go_enter Try.func30, Try.ntmps30
       go_wp2
       go_ret
       refine ⟨?_, rfl⟩
       simp [h1, h2, h3, h4] <;> omega)
set_option maxHeartbeats 400000 in
theorem rdigit_any (c : UInt8) (w : World) : Calls Try.prog 31 #[bv c] w fun e w' => e = .returned (.bool (digitB c)) ∧ w = w' := by
  have hc := c.toNat_lt
  unfold digitB bv
  generalize c.toNat = n at *
  by_cases h1 : 48 ≤ n <;> by_cases h2 : n ≤ 57 <;> first
    | (exfalso; omega)
    | (go_enter Try.func31, Try.ntmps31
       go_wp2
       go_ret
       refine ⟨?_, rfl⟩
       simp [h1, h2] <;> omega)

theorem head_get (s : ByteArray) (h : 0 < s.size) : s.data.toList.headD 0 = s[0] := by
  rw [List.headD_eq_head?_getD, List.head?_eq_getElem?, Lib.data_getElem? s 0 h]; rfl
theorem valid_def (s : ByteArray) (h : 0 < s.size) : validL s.data.toList = (decide (s.size ≤ 16) && letterB s[0] && decide (runL alnumB s.data.toList = s.size) && !reservedL s.data.toList) := by
  unfold validL
  have : s.data.toList.isEmpty = false := by
    cases hl : s.data.toList with
    | nil => have := size_list s; rw [hl] at this; simp at this; omega
    | cons c t => rfl
  rw [this, size_list, head_get s h]; rfl

set_option maxHeartbeats 800000 in
theorem valid_any (s : ByteArray) (m : Int) (w : World) (hs : s.size ≤ 1000) (hm : w.cell? ⟨0, 0, none⟩ = some (.int .i64 m)) :
    Calls Try.prog 19 #[.string s] w fun e w' => e = .returned (.bool (validL s.data.toList)) ∧ w = w' := by
  cases he : s.toList.isEmpty with
  | true =>
    have hz := (empty_iff s).1 he
    have hl : s.data.toList = [] := List.eq_nil_of_length_eq_zero (by rw [size_list]; exact hz)
    rw [hl, show validL [] = false from by decide]
    clear hz hl
    go_enter Try.func19, Try.ntmps19
    go_wp2
    go_ret
    exact ⟨rfl, rfl⟩
  | false =>
    have hz : 0 < s.size := by
      have : ¬ s.size = 0 := fun h => by rw [(empty_iff s).2 h] at he; exact absurd he (by decide)
      omega
    have hv := valid_def s hz
    by_cases h16 : 16 < s.size
    · have hv2 : validL s.data.toList = false := by rw [hv, show decide (s.size ≤ 16) = false from by simp; omega]; rfl
      rw [hv2]
      have hd : decide ((s.size : Int) ≤ 16) = false := by simp; omega
      clear hv hv2
      go_enter Try.func19, Try.ntmps19
      go_wp2
      go_ret
      exact ⟨rfl, rfl⟩
    · have hd : decide ((s.size : Int) ≤ 16) = true := by simp; omega
      rw [show decide (s.size ≤ 16) = true from by simp; omega, Bool.true_and] at hv
      cases hl : letterB s[0] with
      | false =>
        have hv2 : validL s.data.toList = false := by rw [hv, hl]; rfl
        rw [hv2]
        have HL := Lib.hid hl
        clear hv hv2 hl
        go_enter Try.func19, Try.ntmps19
        go_wp2_with fail
        refine (letter_any s[0] _).mono ?_
        rw [HL.out]
        rintro e w1 ⟨rfl, rfl⟩
        go_wp2
        go_ret
        exact ⟨rfl, rfl⟩
      | true =>
        rw [hl, Bool.true_and] at hv
        have HL := Lib.hid hl
        have hrb := runL_bound alnumB s 0 (by omega)
        rw [List.drop_zero, Nat.zero_add] at hrb
        clear hl
        obtain ⟨q, hq⟩ : ∃ q, runL alnumB s.data.toList = q := ⟨_, rfl⟩
        rw [hq] at hv hrb
        have HQ := Lib.hid hq
        clear hq
        by_cases hqs : q = s.size
        · rw [show decide (q = s.size) = true from by simpa using hqs, Bool.true_and] at hv
          have he2 : ((q : Int) == s.size) = true := by rw [hqs]; simp
          have HV := Lib.hid hv
          clear hv hqs
          rw [HV.out]
          cases hr : reservedL s.data.toList with
          | true =>
            have HR := Lib.hid hr
            clear hr
            go_enter Try.func19, Try.ntmps19
            go_wp2_with fail
            refine (letter_any s[0] _).mono ?_
            rw [HL.out]
            rintro e w1 ⟨rfl, rfl⟩
            go_wp2_with fail
            refine (run_alnum s 0 _ (by omega) (by omega)).mono ?_
            rw [List.drop_zero, Nat.zero_add, HQ.out]
            rintro e w1 ⟨rfl, rfl⟩
            go_wp2_with fail
            refine (reserved_any s m _ hs hm).mono ?_
            rw [HR.out]
            rintro e w1 ⟨rfl, rfl⟩
            go_wp2
            go_ret
            exact ⟨rfl, rfl⟩
          | false =>
            have HR := Lib.hid hr
            clear hr
            go_enter Try.func19, Try.ntmps19
            go_wp2_with fail
            refine (letter_any s[0] _).mono ?_
            rw [HL.out]
            rintro e w1 ⟨rfl, rfl⟩
            go_wp2_with fail
            refine (run_alnum s 0 _ (by omega) (by omega)).mono ?_
            rw [List.drop_zero, Nat.zero_add, HQ.out]
            rintro e w1 ⟨rfl, rfl⟩
            go_wp2_with fail
            refine (reserved_any s m _ hs hm).mono ?_
            rw [HR.out]
            rintro e w1 ⟨rfl, rfl⟩
            go_wp2
            go_ret
            exact ⟨rfl, rfl⟩
        · rw [show decide (q = s.size) = false from by simpa using hqs, Bool.false_and] at hv
          have he2 : ((q : Int) == s.size) = false := by simp; omega
          have HV := Lib.hid hv
          clear hv hqs
          rw [HV.out]
          go_enter Try.func19, Try.ntmps19
          go_wp2_with fail
          refine (letter_any s[0] _).mono ?_
          rw [HL.out]
          rintro e w1 ⟨rfl, rfl⟩
          go_wp2_with fail
          refine (run_alnum s 0 _ (by omega) (by omega)).mono ?_
          rw [List.drop_zero, Nat.zero_add, HQ.out]
          rintro e w1 ⟨rfl, rfl⟩
          go_wp2
          go_ret
          exact ⟨rfl, rfl⟩

set_option maxHeartbeats 800000 in
theorem rvalid_any (s : ByteArray) (w : World) (hs : s.size ≤ 1000) :
    Calls Try.prog 20 #[.string s] w fun e w' => e = .returned (.bool (validL s.data.toList)) ∧ Below w.heap.size w w' := by
  have hb0 := Below.refl w.heap.size w
  cases he : s.toList.isEmpty with
  | true =>
    have hz := (empty_iff s).1 he
    have hl : s.data.toList = [] := List.eq_nil_of_length_eq_zero (by rw [size_list]; exact hz)
    rw [hl, show validL [] = false from by decide]
    clear hz hl
    go_enter Try.func20, Try.ntmps20
    go_wp2
    go_ret
    exact ⟨rfl, hb0⟩
  | false =>
    have hz : 0 < s.size := by
      have : ¬ s.size = 0 := fun h => by rw [(empty_iff s).2 h] at he; exact absurd he (by decide)
      omega
    have hv := valid_def s hz
    by_cases h16 : 16 < s.size
    · have hv2 : validL s.data.toList = false := by rw [hv, show decide (s.size ≤ 16) = false from by simp; omega]; rfl
      rw [hv2]
      have hd : decide ((16 : Int) < (s.size : Int)) = true := by simp; omega
      clear hv hv2
      go_enter Try.func20, Try.ntmps20
      go_wp2
      go_ret
      exact ⟨rfl, hb0⟩
    · have hd : decide ((16 : Int) < (s.size : Int)) = false := by simp; omega
      rw [show decide (s.size ≤ 16) = true from by simp; omega, Bool.true_and] at hv
      cases hl : letterB s[0] with
      | false =>
        have hv2 : validL s.data.toList = false := by rw [hv, hl]; rfl
        rw [hv2]
        have HL := Lib.hid hl
        clear hv hv2 hl
        go_enter Try.func20, Try.ntmps20
        go_wp2_with fail
        refine (rletter_any s[0] _).mono ?_
        rw [HL.out]
        rintro e w1 ⟨rfl, rfl⟩
        go_wp2
        go_ret
        exact ⟨rfl, hb0⟩
      | true =>
        rw [hl, Bool.true_and] at hv
        have HL := Lib.hid hl
        clear hl
        cases hr : reservedL s.data.toList with
        | true =>
          have hv2 : validL s.data.toList = false := by rw [hv, hr]; simp
          rw [hv2]
          have HR := Lib.hid hr
          clear hr hv hv2
          go_enter Try.func20, Try.ntmps20
          go_wp2_with fail
          refine (rletter_any s[0] _).mono ?_
          rw [HL.out]
          rintro e w1 ⟨rfl, rfl⟩
          go_wp2_with fail
          refine (rreserved_any s _ hs).mono ?_
          rw [HR.out]
          rintro e w2 ⟨rfl, hb2⟩
          go_wp2
          go_ret
          exact ⟨rfl, hb2⟩
        | false =>
          rw [hr, Bool.not_false, Bool.and_true] at hv
          have HR := Lib.hid hr
          have HV := Lib.hid hv
          clear hr hv
          go_enter Try.func20, Try.ntmps20
          go_wp2_with fail
          refine (rletter_any s[0] _).mono ?_
          rw [HL.out]
          rintro e w1 ⟨rfl, rfl⟩
          go_wp2_with fail
          refine (rreserved_any s _ hs).mono ?_
          rw [HR.out]
          rintro e w2 ⟨rfl, hb2⟩
          go_wp2_with fail
          go_loop [3] (fun v3 => ∃ k : Nat, k ≤ s.size ∧ v3 = .int .i64 k ∧ Hid (runL alnumB s.data.toList = k + runL alnumB (s.data.toList.drop k))) (fun v3 => s.size - (intOf v3).toNat)
          case atStart => exact ⟨0, by omega, rfl, (by show _ = _; rw [List.drop_zero, Nat.zero_add])⟩
          case round =>
            obtain ⟨k, hk, rfl, hinv⟩ := hrel
            by_cases hlt : k < s.size
            · have hru := runL_in alnumB s k hlt
              cases h1 : letterB s[k] with
              | true =>
                rw [show alnumB s[k] = true from by unfold alnumB; rw [h1]; rfl, if_pos rfl] at hru
                have HRU := Lib.hid hru
                have H1 := Lib.hid h1
                clear hru h1
                go_wp2_with fail
                refine (rletter_any s[k] _).mono ?_
                rw [H1.out]
                rintro e w3 ⟨rfl, rfl⟩
                go_wp2
                go_round
                case rel => exact ⟨k + 1, by omega, by go_num, (by show _ = _; rw [hinv.out, HRU.out]; omega)⟩
                case measure => simp [intOf]; omega
              | false =>
                cases h2 : digitB s[k] with
                | true =>
                  rw [show alnumB s[k] = true from by unfold alnumB; rw [h1, h2]; rfl, if_pos rfl] at hru
                  have HRU := Lib.hid hru
                  have H1 := Lib.hid h1
                  have H2 := Lib.hid h2
                  clear hru h1 h2
                  go_wp2_with fail
                  refine (rletter_any s[k] _).mono ?_
                  rw [H1.out]
                  rintro e w3 ⟨rfl, rfl⟩
                  go_wp2_with fail
                  refine (rdigit_any s[k] _).mono ?_
                  rw [H2.out]
                  rintro e w3 ⟨rfl, rfl⟩
                  go_wp2
                  go_round
                  case rel => exact ⟨k + 1, by omega, by go_num, (by show _ = _; rw [hinv.out, HRU.out]; omega)⟩
                  case measure => simp [intOf]; omega
                | false =>
                  rw [show alnumB s[k] = false from by unfold alnumB; rw [h1, h2]; rfl, if_neg (by decide)] at hru
                  have HF : Hid (validL s.data.toList = false) := by
                    show _ = _
                    rw [HV.out, hinv.out, hru]
                    simp; omega
                  have H1 := Lib.hid h1
                  have H2 := Lib.hid h2
                  clear hru h1 h2
                  go_wp2_with fail
                  refine (rletter_any s[k] _).mono ?_
                  rw [H1.out]
                  rintro e w3 ⟨rfl, rfl⟩
                  go_wp2_with fail
                  refine (rdigit_any s[k] _).mono ?_
                  rw [H2.out]
                  rintro e w3 ⟨rfl, rfl⟩
                  go_wp2
                  go_ret
                  exact ⟨by rw [HF.out]; rfl, hb2⟩
            · obtain rfl : k = s.size := by omega
              have HF : Hid (validL s.data.toList = true) := by
                show _ = _
                rw [HV.out, hinv.out, runL_out alnumB s s.size (Nat.le_refl _)]
                simp
              go_wp2
              go_ret
              exact ⟨by rw [HF.out]; rfl, hb2⟩
end Go.Proofs.Ytmjnipklbmokjaa
