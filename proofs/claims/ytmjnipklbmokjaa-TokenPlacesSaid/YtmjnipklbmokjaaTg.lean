/- The walks of blank and of the law TokenPlaces; no condition but that the text and the numbers are readable. -/
import Derived.Test.YtmjnipklbmokjaaTf
namespace Go.Proofs.Ytmjnipklbmokjaa
open Go.RowKit
set_option linter.unusedVariables false

theorem blank_at (cm : Bool) (s : Bs) (k : Nat) (h : k < s.length) : blankS cm (s.drop k) = if s[k] == 10 then blankS false (s.drop (k + 1)) else if s[k] == 35 then blankS true (s.drop (k + 1)) else if !cm && !(s[k] == 32 || s[k] == 9 || s[k] == 13) then false else blankS cm (s.drop (k + 1)) := by
  rw [drop_cons s k h]; rfl
theorem blank_in (cm : Bool) (s : ByteArray) (k : Nat) (h : k < s.size) : blankS cm (s.data.toList.drop k) = if s[k] == 10 then blankS false (s.data.toList.drop (k + 1)) else if s[k] == 35 then blankS true (s.data.toList.drop (k + 1)) else if !cm && !(s[k] == 32 || s[k] == 9 || s[k] == 13) then false else blankS cm (s.data.toList.drop (k + 1)) := by
  rw [blank_at cm _ k (by rw [size_list]; exact h), data_get s k h]
theorem b8 (c n : UInt8) : (c == n) = decide (c.toNat = n.toNat) := by
  by_cases h : c = n
  · subst h; simp
  · have h1 : (c == n) = false := by simpa using h
    have h2 : decide (c.toNat = n.toNat) = false := by
      rw [decide_eq_false_iff_not]; exact fun h' => h (UInt8.toNat_inj.1 h')
    rw [h1, h2]
theorem blank_nat (cm : Bool) (s : ByteArray) (k x : Nat) (h : k < s.size) (hx : s[k].toNat = x) : blankS cm (s.data.toList.drop k) =
    if x = 10 then blankS false (s.data.toList.drop (k + 1)) else if x = 35 then blankS true (s.data.toList.drop (k + 1)) else if cm = false ∧ x ≠ 32 ∧ x ≠ 9 ∧ x ≠ 13 then false else blankS cm (s.data.toList.drop (k + 1)) := by
  subst hx
  rw [blank_in cm s k h, b8, b8, b8, b8, b8]
  have e1 : (10 : UInt8).toNat = 10 := rfl
  have e2 : (35 : UInt8).toNat = 35 := rfl
  have e3 : (32 : UInt8).toNat = 32 := rfl
  have e4 : (9 : UInt8).toNat = 9 := rfl
  have e5 : (13 : UInt8).toNat = 13 := rfl
  rw [e1, e2, e3, e4, e5]
  generalize s[k].toNat = x
  by_cases h10 : x = 10
  · simp [h10]
  · by_cases h35 : x = 35
    · simp [h35]
    · cases cm with
      | true => simp [h10, h35]
      | false =>
        by_cases h32 : x = 32
        · simp [h32]
        · by_cases h9 : x = 9
          · simp [h9]
          · by_cases h13 : x = 13
            · simp [h13]
            · simp [h10, h35, h32, h9, h13]

set_option maxHeartbeats 800000 in
theorem blank_any (s : ByteArray) (w : World) (hs : s.size ≤ 1000000000) :
    Calls Try.prog 15 #[.string s] w fun e w' => e = .returned (.bool (blankS false s.data.toList)) ∧ w = w' := by
  go_enter Try.func15, Try.ntmps15
  go_wp2
  go_loop [3, 4] (fun v3 v4 => ∃ (k : Nat) (cm : Bool), k ≤ s.size ∧ v4 = .int .i64 k ∧ v3 = .bool cm ∧ Hid (blankS cm (s.data.toList.drop k) = blankS false s.data.toList)) (fun _ v4 => s.size - (intOf v4).toNat)
  case atStart => exact ⟨0, false, by omega, rfl, rfl, (by rw [List.drop_zero] : _ = _)⟩
  case round =>
    obtain ⟨k, cm, hk, rfl, rfl, hinv⟩ := hrel
    by_cases hlt : k < s.size
    · obtain ⟨x, hx⟩ : ∃ x, s[k].toNat = x := ⟨_, rfl⟩
      have hr := blank_nat cm s k x hlt hx
      by_cases h10 : x = 10
      · rw [if_pos h10] at hr
        have HR := Lib.hid hr
        have q1 : ((x : Int) == 10) = true := by simp; omega
        clear hr h10
        go_wp2
        go_round
        case rel => exact ⟨k + 1, false, by omega, by go_num, rfl, (by show _ = _; rw [← hinv.out, HR.out])⟩
        case measure => simp [intOf]; omega
      · have q1 : ((x : Int) == 10) = false := by simp; omega
        rw [if_neg h10] at hr
        by_cases h35 : x = 35
        · rw [if_pos h35] at hr
          have HR := Lib.hid hr
          have q2 : ((x : Int) == 35) = true := by simp; omega
          clear hr h10 h35
          go_wp2
          go_round
          case rel => exact ⟨k + 1, true, by omega, by go_num, rfl, (by show _ = _; rw [← hinv.out, HR.out])⟩
          case measure => simp [intOf]; omega
        · have q2 : ((x : Int) == 35) = false := by simp; omega
          rw [if_neg h35] at hr
          cases cm with
          | true =>
            rw [if_neg (by simp)] at hr
            have HR := Lib.hid hr
            clear hr h10 h35
            go_wp2
            go_round
            case rel => exact ⟨k + 1, true, by omega, by go_num, rfl, (by show _ = _; rw [← hinv.out, HR.out])⟩
            case measure => simp [intOf]; omega
          | false =>
            by_cases h32 : x = 32
            · rw [if_neg (by omega)] at hr
              have HR := Lib.hid hr
              have q3 : ((x : Int) != 32) = false := by simp; omega
              clear hr h10 h35 h32
              go_wp2
              go_round
              case rel => exact ⟨k + 1, false, by omega, by go_num, rfl, (by show _ = _; rw [← hinv.out, HR.out])⟩
              case measure => simp [intOf]; omega
            · have q3 : ((x : Int) != 32) = true := by rw [bne_iff_ne]; omega
              by_cases h9 : x = 9
              · rw [if_neg (by omega)] at hr
                have HR := Lib.hid hr
                have q4 : ((x : Int) != 9) = false := by simp; omega
                clear hr h10 h35 h32 h9
                go_wp2
                go_round
                case rel => exact ⟨k + 1, false, by omega, by go_num, rfl, (by show _ = _; rw [← hinv.out, HR.out])⟩
                case measure => simp [intOf]; omega
              · have q4 : ((x : Int) != 9) = true := by rw [bne_iff_ne]; omega
                by_cases h13 : x = 13
                · rw [if_neg (by omega)] at hr
                  have HR := Lib.hid hr
                  have q5 : ((x : Int) != 13) = false := by simp; omega
                  clear hr h10 h35 h32 h9 h13
                  go_wp2
                  go_round
                  case rel => exact ⟨k + 1, false, by omega, by go_num, rfl, (by show _ = _; rw [← hinv.out, HR.out])⟩
                  case measure => simp [intOf]; omega
                · rw [if_pos ⟨rfl, h32, h9, h13⟩] at hr
                  have HR := Lib.hid hr
                  have q5 : ((x : Int) != 13) = true := by rw [bne_iff_ne]; omega
                  clear hr h10 h35 h32 h9 h13
                  go_wp2
                  go_ret
                  exact ⟨by rw [← hinv.out, HR.out]; rfl, rfl⟩
    · have HE : Hid (blankS false s.data.toList = true) := by
        have := hinv.out
        rw [List.drop_of_length_le (by rw [size_list]; omega)] at this
        rw [← this]; cases cm <;> rfl
      go_wp2
      go_ret
      exact ⟨by rw [HE.out]; rfl, rfl⟩

theorem blank_yes (s : ByteArray) (w : World) (hs : s.size ≤ 1000000000) (h : blankS false s.data.toList = true) :
    Calls Try.prog 15 #[.string s] w fun e w' => e = .returned (.bool true) ∧ w' = w :=
  (blank_any s w hs).mono fun e w' ⟨he, hw⟩ => ⟨by rw [he, h], hw.symm⟩

theorem placesOK_step (X : ByteArray) (a : Nat) (l : List Tok) (j : Nat) (hj : j < l.length) (h : PlacesOK X.data.toList a (l.drop j)) :
    a ≤ l[j].pos ∧ l[j].pos + l[j].bytes.size ≤ X.size ∧ X.extract l[j].pos (l[j].pos + l[j].bytes.size) = l[j].bytes ∧ l[j].text ≠ [] ∧ blankS false (X.extract a l[j].pos).data.toList = true ∧ PlacesOK X.data.toList (l[j].pos + l[j].bytes.size) (l.drop (j + 1)) := by
  rw [List.drop_eq_getElem_cons hj] at h
  obtain ⟨h1, h2, h3, h4, h5, h6⟩ := h
  rw [size_list] at h2
  refine ⟨h1, by rw [Tok.bytes_size]; exact h2, ?_, h4, ?_, by rw [Tok.bytes_size]; exact h6⟩
  · rw [Lib.extract_eq, Tok.bytes_size, Nat.add_sub_cancel_left, h3]; rfl
  · rw [Lib.extract_data]; exact h5
theorem places_end (X : ByteArray) (a : Nat) (l : List Tok) (h : PlacesOK X.data.toList a (l.drop l.length)) : blankS false (X.extract a X.size).data.toList = true := by
  rw [List.drop_length] at h
  rw [Lib.extract_to_end]
  exact h.2

set_option maxHeartbeats 3200000 in
set_option maxRecDepth 100000 in
theorem places_walk (s : ByteArray) (A : Option Addr) (n c : Nat) (ls : List Int) (w : World) (hs63 : s.size ≤ 9223372036854775807) (hn : ls.length = n) (hs : Sl w A (ls.map iv)) (hn63 : n ≤ 9223372036854775807) (hib : IB ls) :
    Calls Try.prog 4 #[.string s, .slice A n c] w fun e w' => e = .returned (.bool true) ∧ Below w.heap.size w w' := by
  by_cases hbig : 2000 < s.size
  · have hd : decide ((2000 : Int) < s.size) = true := by simp; omega
    clear hib
    go_enter Try.func4, Try.ntmps4
    go_wp2_with fail
    refine (awake_any _).mono ?_
    rintro e w1 ⟨rfl, hb⟩
    go_wp2
    go_ret
    exact ⟨rfl, hb⟩
  have hd : decide ((2000 : Int) < s.size) = false := by simp; omega
  have HIB := Lib.hid hib
  have HN := Lib.hid hn
  clear hib hn
  by_cases hl : n ≤ 700
  · have hl' : decide (n ≤ 700) = true := by simpa using hl
    go_enter Try.func4, Try.ntmps4
    go_wp2_with fail
    refine (light_any _ _ _ _).mono ?_
    rw [hl']
    rintro e w1 ⟨rfl, rfl⟩
    go_wp2_with fail
    refine (roll_any _ _ _ ls _ HN.out hs hl HIB.out).mono ?_
    rintro e w1 ⟨rfl, hd1, hb1⟩
    go_wp2_with fail
    refine (text_any _ ls _ _ hd1).mono ?_
    rintro e w2 ⟨T, k2, rfl, hT, hd2, hg2⟩
    have hb2 : Below w.heap.size w w2 := hb1.grown hg2 hb1.size (fun q hq => by injection hq with hq; omega)
    have hb3 := hb2.alloc hb2.size (.cells #[.string s, .string T] 9)
    have hX0 := Sl.new w2 #[.string s, .string T] 9
    clear hd1 hd2 hg2 hb1 hb2
    go_wp2_with fail
    have HB3 := Lib.hid hb3
    clear hb3
    generalize w2.alloc (.cells #[.string s, .string T] 9) = W at *
    generalize w2.heap.size = gx at *
    have hb0 := Below.refl W.heap.size W
    go_loopw [28] (fun v28 wr => ∃ i : Nat, i ≤ 2 ∧ v28 = .int .i64 i ∧ Below W.heap.size W wr) (fun v28 _ => 2 - (intOf v28).toNat)
    case atStart => exact ⟨0, by omega, rfl, hb0⟩
    case round =>
      obtain ⟨i, hi, rfl, hb⟩ := hrel
      by_cases hlt : i < 2
      · obtain ⟨X, hcx, hX⟩ : ∃ X : ByteArray, wr.cell? ⟨gx, i, none⟩ = some (.string X) ∧ X.size ≤ 2000 := by
          obtain ⟨xb, xo, hxe, hcx⟩ := (hX0.below hb).at_ (k := i) (by simpa using hlt)
          injection hxe with hxe
          injection hxe with e1 e2
          subst e1 e2
          rw [Nat.zero_add] at hcx
          rcases (show i = 0 ∨ i = 1 by omega) with rfl | rfl
          · exact ⟨s, hcx, by omega⟩
          · exact ⟨T, hcx, hT⟩
        have hX0' := Lib.hid hX0
        clear hX0
        cases hr : scanA X.data.toList with
        | error x =>
          obtain ⟨er, pe⟩ := x
          have her := scanA_err hr
          have hne : ((er : Int) == 0) = false := by simp only at her; simp; omega
          have HR := Lib.hid hr
          clear hr her
          go_wp2_with fail
          refine (scan_is X _ (by omega) _ HR.out).mono ?_
          rintro e w3 ⟨rfl, hb3⟩
          go_wp2_with fail
          have hb4 := below_next hb hb3
          have hb5 := Below.refl w3.heap.size w3
          obtain ⟨wo, rfl⟩ : ∃ wo : World, wo = wr := ⟨_, rfl⟩
          go_loopw [10, 40] (fun v10 v40 wq => v10 = .int .i64 0 ∧ v40 = .int .i64 0 ∧ Below w3.heap.size w3 wq) (fun _ _ _ => 0)
          case atStart => exact ⟨rfl, rfl, hb5⟩
          case round =>
            obtain ⟨rfl, rfl, hb6⟩ := hrel
            go_wp2
            go_roundw
            case rel => exact ⟨i + 1, by omega, by go_num, below_next hb4 hb6⟩
            case measure => simp [intOf]; omega
        | ok l =>
          have HR := Lib.hid hr
          have HPL := Lib.hid (places_all _ l hr)
          have hlX := toks_len X l hr
          clear hr
          go_wp2_with fail
          refine (scan_is X _ (by omega) _ HR.out).mono ?_
          rintro e w3 ⟨A3, c3, rfl, own3, hb3⟩
          have tz := toks_own own3
          have hb4 := below_next hb hb3
          clear own3
          go_wp2_with fail
          have hb5 := Below.refl w3.heap.size w3
          obtain ⟨wo, rfl⟩ : ∃ wo : World, wo = wr := ⟨_, rfl⟩
          go_loopw [10, 40] (fun v10 v40 wq => ∃ (j a : Nat), j ≤ l.length ∧ a ≤ X.size ∧ v40 = .int .i64 j ∧ v10 = .int .i64 a ∧ Hid (PlacesOK X.data.toList a (l.drop j)) ∧ Below w3.heap.size w3 wq) (fun _ v40 _ => l.length - (intOf v40).toNat)
          case atStart => exact ⟨0, 0, by omega, by omega, rfl, rfl, HPL, hb5⟩
          case round =>
            obtain ⟨j, a, hj, ha, rfl, rfl, hpl, hb6⟩ := hrel
            by_cases hjl : j < l.length
            · obtain ⟨zb, zo, rfl, z0, z1, z2⟩ := (tz.below hb6).get hjl
              obtain ⟨p1, p2, p3, p4, p5, p6⟩ := placesOK_step X a l j hjl hpl.out
              have P6 := Lib.hid p6
              have hB1 : l[j].bytes.toList.isEmpty = false := by rw [Tok.bytes_toList]; cases h : l[j].text with | nil => exact absurd h p4 | cons _ _ => rfl
              clear p4 p6
              generalize l[j].kind = kd at *
              generalize l[j].bytes = B at *
              generalize l[j].pos = ps at *
              have q1 : decide (ps < a) = false := by simp; omega
              have q2 : decide ((X.size : Int) < (ps : Int) + (B.size : Int)) = false := by simp; omega
              have s2 : IntKind.i64.wrap ((ps : Int) + (B.size : Int)) = (ps : Int) + (B.size : Int) := IntWalk.i64_in _ (by omega)
              have HP5 := Lib.hid p5
              have HXS : Hid ((X.extract a ps).size ≤ 1000000000) := by
                show _ ≤ _
                rw [ByteArray.size_extract]; omega
              clear p5
              go_wp2_with fail
              go_quiet ((go_at_call 15; exact Calls.quiet_of_same (blank_yes (X.extract a ps) _ HXS.out HP5.out)))
              clear s2
              go_wp2
              go_roundw
              case rel => exact ⟨j + 1, ps + B.size, by omega, by omega, by go_num, by go_num, P6, below_drewN' (hb6.alloc hb6.size _) _⟩
              case measure => simp [intOf]; omega
            · obtain rfl : j = l.length := by omega
              have HPE := Lib.hid (places_end X a l hpl.out)
              have HXS : Hid ((X.extract a X.size).size ≤ 1000000000) := by
                show _ ≤ _
                rw [ByteArray.size_extract]; omega
              go_wp2_with fail
              refine (blank_yes (X.extract a X.size) _ HXS.out HPE.out).mono ?_
              rintro e w5 ⟨rfl, rfl⟩
              go_wp2
              go_roundw
              case rel => exact ⟨i + 1, by omega, by go_num, below_next hb4 hb6⟩
              case measure => simp [intOf]; omega
      · obtain rfl : i = 2 := by omega
        go_wp2_with fail
        refine (awake_any _).mono ?_
        rintro e w4 ⟨rfl, hb4⟩
        go_wp2
        go_ret
        exact ⟨rfl, below_next (below_next HB3.out hb) hb4⟩
  · have hl' : decide (n ≤ 700) = false := by simpa using hl
    go_enter Try.func4, Try.ntmps4
    go_wp2_with fail
    refine (light_any _ _ _ _).mono ?_
    rw [hl']
    rintro e w1 ⟨rfl, rfl⟩
    go_wp2_with fail
    refine (awake_any _).mono ?_
    rintro e w1 ⟨rfl, hb⟩
    go_wp2
    go_ret
    exact ⟨rfl, hb⟩
end Go.Proofs.Ytmjnipklbmokjaa
