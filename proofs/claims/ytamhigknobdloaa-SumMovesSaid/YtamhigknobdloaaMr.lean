/- The walks of the reference of layer 15: they return what the plain functions say; conditions: lengths are small. -/
import Derived.Test.YtamhigknobdloaaMg
namespace Go.Proofs.Ytamhigknobdloaa
open Go.RowKit
set_option linter.unusedVariables false

set_option maxHeartbeats 400000 in
theorem rget_any (A : Option Addr) (n c : Nat) (m : List UInt8) (w : World) (i : Int) (hn : m.length = n) (hs : Sl w A (m.map bv)) (hlen : n ≤ 1000000)
    (h0 : -9223372036854775808 ≤ i) (h1 : i ≤ 9223372036854775807) :
    Calls Try.prog 76 #[.slice A n c, .int .i64 i] w fun e w' => e = .returned (.bool (bitI m i)) ∧ w = w' := by
  subst hn
  by_cases hneg : i < 0
  · have hd : ¬ 0 ≤ i := by omega
    go_enter Try.func76, Try.ntmps76
    go_wp2
    go_ret
    exact ⟨by simp [bitI]; omega, rfl⟩
  · obtain ⟨i, rfl⟩ := Int.eq_ofNat_of_zero_le (show 0 ≤ i by omega)
    by_cases hi : i / 8 < m.length
    · obtain ⟨b, off, rfl, hc⟩ := hs.at_ (k := i / 8) (by simpa using hi)
      rw [List.getElem_map] at hc
      go_enter Try.func76, Try.ntmps76
      go_wp2
      go_ret
      refine ⟨?_, rfl⟩
      show Ending.returned (.bool (bits .and .u8 ((m[i / 8].toNat : Int) / 2 ^ (i % 8)) 1 == 1)) = _
      rw [bit_test]
      simp [bitI, bitN, hi]
    · have hi2 : decide ((i : Int) / 8 < m.length) = false := by simp; omega
      go_enter Try.func76, Try.ntmps76
      go_wp2
      go_ret
      refine ⟨?_, rfl⟩
      have := bitN_out m i (by omega)
      simp [bitI, this]

set_option maxHeartbeats 800000 in
theorem rchange_own (base : Nat) (A : Option Addr) (n c : Nat) (m : List UInt8) (w : World) (i : Int) (on : Bool) (hown : w.ownsRow base 5 1 (.slice A n c) n (m.map bv)) (hlen : n ≤ 1000000)
    (h0 : -9223372036854775808 ≤ i) (h1 : i ≤ 9223372036854775807) :
    Calls Try.prog 82 #[.slice A n c, .int .i64 i, .bool on] w fun e w' => e = .returned (.slice A n c) ∧ w'.ownsRow base 5 1 (.slice A n c) n ((setI m i on).map bv) ∧ w.grownBy w' (Value.slice A n c).ownBlock := by
  obtain rfl : m.length = n := by simpa using hown.1
  by_cases hout : i < 0 ∨ m.length ≤ i.toNat / 8
  · rw [setI_out m i on hout]
    have H := Lib.hid hown
    clear hown
    by_cases hneg : i < 0
    · clear hout
      go_enter Try.func82, Try.ntmps82
      go_wp2
      go_ret
      exact ⟨rfl, H.out, World.grownBy.refl _ _⟩
    · obtain ⟨i, rfl⟩ := Int.eq_ofNat_of_zero_le (show 0 ≤ i by omega)
      have hi : ¬ i / 8 < m.length := by simp at hout; omega
      clear hout
      have hi2 : decide ((i : Int) / 8 < (m.length : Int)) = false := by simp; omega
      go_enter Try.func82, Try.ntmps82
      go_wp2
      go_ret
      exact ⟨rfl, H.out, World.grownBy.refl _ _⟩
  · obtain ⟨i, rfl⟩ := Int.eq_ofNat_of_zero_le (show 0 ≤ i by omega)
    rw [Int.toNat_natCast] at hout
    have hi : i / 8 < m.length := by omega
    clear hout
    obtain ⟨A', c', hv, _, _, hg⟩ := own_form hown
    obtain ⟨g, rfl, hbg, hgl⟩ := hg (by omega)
    injection hv with hv1 _ hv3
    subst hv1 hv3
    have hcell : w.cell? ⟨g, i / 8, none⟩ = some (bv m[i / 8]) := by
      rw [hown.cellAt (i / 8) (by omega)]; simp [hi]
    have hfz := hown.frozenAt (i / 8)
    have H := Lib.hid hown
    clear hown
    have h8 : i % 8 < 8 := Nat.mod_lt _ (by omega)
    generalize hx : m[i / 8] = x at hcell
    have X := Lib.hid hx
    clear hx
    have E1 := Lib.hid (bits_clear x (i % 8) h8)
    have E2 := Lib.hid (bits_or x (i % 8) h8)
    have e0 : ((i : Int) < 0) = False := by simp
    have fin : ∀ on, (m.map bv).set (i / 8) (bv (putBit x (i % 8) on)) = (setI m i on).map bv := by
      intro on
      unfold setI
      rw [if_pos (by omega), List.map_set, Int.toNat_natCast, List.getD_eq_getElem?_getD, List.getElem?_eq_getElem hi, Option.getD_some, X.out]
    have F := Lib.hid fin
    clear fin
    have ob : (Value.slice (some ⟨g, 0, none⟩) m.length c).ownBlock = some g := rfl
    cases on with
    | false =>
      go_enter Try.func82, Try.ntmps82
      go_wp2
      go_ret
      have S := H.out.stored (i / 8) (bv (putBit x (i % 8) false))
      rw [E1.out, ← F.out]
      exact ⟨rfl, S.1, ⟨S.2.os, S.2.tape, S.2.output, S.2.size, S.2.block⟩⟩
    | true =>
      go_enter Try.func82, Try.ntmps82
      go_wp2
      go_ret
      have S := H.out.stored (i / 8) (bv (putBit x (i % 8) false))
      have S2 := S.1.stored (i / 8) (bv (putBit x (i % 8) true))
      rw [List.set_set] at S2
      rw [E1.out, E2.out, ← F.out]
      exact ⟨rfl, S2.1, ⟨S2.2.os.trans S.2.os, S2.2.tape.trans S.2.tape, S2.2.output.trans S.2.output, Nat.le_trans S.2.size S2.2.size, fun k hk hne => (S2.2.block k (Nat.lt_of_lt_of_le hk S.2.size) hne).trans (S.2.block k hk hne)⟩⟩
set_option maxHeartbeats 800000 in
theorem rcount_any (A : Option Addr) (n c : Nat) (m : List UInt8) (w : World) (hn : m.length = n) (hs : Sl w A (m.map bv)) (hlen : n ≤ 1000000) :
    Calls Try.prog 32 #[.slice A n c] w fun e w' => e = .returned (.int .i64 (countB m)) ∧ w = w' := by
  subst hn
  go_enter Try.func32, Try.ntmps32
  go_wp2
  go_loop [3, 4] (fun v3 v4 => ∃ i : Nat, i ≤ 8 * m.length ∧ v4 = .int .i64 i ∧ v3 = .int .i64 (found m i).length) (fun _ v4 => 8 * m.length - (intOf v4).toNat)
  case atStart => exact ⟨0, by omega, rfl, rfl⟩
  case round =>
    obtain ⟨i, hi, rfl, rfl⟩ := hrel
    have hfl : (found m i).length ≤ i := by
      unfold found
      exact Nat.le_trans (List.length_filter_le _ _) (by simp)
    by_cases hlt : i < 8 * m.length
    · cases hbit : bitN m i with
      | true =>
        have FS : Hid (found m (i + 1) = found m i ++ [i]) := by show _ = _; rw [found_succ, hbit]; rfl
        have hbI : bitI m i = true := by simp [bitI, hbit]
        clear hbit
        go_wp2_with (go_at_call 76; refine (rget_any _ _ _ m _ _ rfl hs hlen (by omega) (by omega)).mono ?_; rintro e w' ⟨rfl, rfl⟩)
        go_round
        case rel => exact ⟨i + 1, by omega, by go_num, by rw [FS.out, List.length_append]; go_num⟩
        case measure => simp [intOf]; omega
      | false =>
        have FS : Hid (found m (i + 1) = found m i) := by show _ = _; rw [found_succ, hbit]; rfl
        have hbI : bitI m i = false := by simp [bitI, hbit]
        clear hbit
        go_wp2_with (go_at_call 76; refine (rget_any _ _ _ m _ _ rfl hs hlen (by omega) (by omega)).mono ?_; rintro e w' ⟨rfl, rfl⟩)
        go_round
        case rel => exact ⟨i + 1, by omega, by go_num, by rw [FS.out]⟩
        case measure => simp [intOf]; omega
    · obtain rfl : i = 8 * m.length := by omega
      have F := Lib.hid (found_all m _ (Nat.le_refl _))
      go_wp2
      go_ret
      exact ⟨by rw [← F.out]; rfl, rfl⟩

set_option maxHeartbeats 800000 in
theorem rbits_yes (A : Option Addr) (n c : Nat) (m : List UInt8) (k : Nat) (w : World) (hn : m.length = n) (hs : Sl w A (m.map bv)) (hlen : n ≤ 1000000) (hk : k ≤ countB m) :
    Calls Try.prog 43 #[.slice A n c, .int .i64 k] w fun e w' => ∃ A' c', e = .returned (.tuple #[.slice A' k c', .bool true]) ∧ w'.ownsRow w.heap.size 3 1 (.slice A' k c') k ((bitsN m k).map natv) ∧ Below w.heap.size w w' := by
  subst hn
  have hcl := countB_le m
  have hk1 : decide ((k : Int) < 0) = false := by simp
  have hk2 : decide (countB m < k) = false := by simp; omega
  have hb0 := Below.refl w.heap.size w
  go_enter Try.func43, Try.ntmps43
  go_wp2_with (go_at_call 32; refine (rcount_any _ _ _ m _ rfl hs hlen).mono ?_; rintro e w' ⟨rfl, rfl⟩)
  go_loopw [6, 7] (fun v6 v7 wr => ∃ (i : Nat) (A' : Option Addr) (c' : Nat), i ≤ 8 * m.length ∧ v7 = .int .i64 i ∧ v6 = .slice A' (found m i).length c' ∧ (found m i).length ≤ k ∧ wr.ownsRow w.heap.size 3 1 v6 (found m i).length ((found m i).map natv) ∧ Below w.heap.size w wr) (fun _ v7 _ => 8 * m.length - (intOf v7).toNat)
  case atStart => exact ⟨0, none, 0, by omega, rfl, rfl, by simp [found], World.ownsRow_nil _ _ _ _, hb0⟩
  case round =>
    obtain ⟨i, A', c', hi, rfl, rfl, hfk, hown, hb⟩ := hrel
    have hsr := hs.below hb
    have hz := hb.size
    by_cases hlt : (found m i).length < k
    · have hi8 : i < 8 * m.length := by
        rcases Nat.lt_or_ge i (8 * m.length) with h | h
        · exact h
        · have := found_all m i h; omega
      cases hbit : bitN m i with
      | true =>
        have hfs : found m (i + 1) = found m i ++ [i] := by rw [found_succ, hbit]; rfl
        have FS := Lib.hid hfs
        clear hfs
        have HB := Lib.hid hbit
        have hbI : bitI m i = true := by simp [bitI, hbit]
        clear hbit
        go_wp2_with fail
        refine (rget_any _ _ _ m _ _ rfl hsr hlen (by omega) (by omega)).mono ?_; rintro e w' ⟨rfl, rfl⟩
        go_wp2_with (at_builtin; refine wpList_append1 rfl _ _ 23 rfl w.heap.size 3 _ 8 Try.underlying23 el3 (by decide) _ _ _ _ rfl hown _ rfl rfl (by omega) hz ?_; intro A2 c2 w2 hown2 hg2 hob)
        go_roundw
        case rel => exact ⟨i + 1, A2, c2, by omega, by go_num, by rw [FS.out, List.length_append]; rfl, by rw [FS.out, List.length_append]; exact hlt, by rw [FS.out, List.length_append, List.map_append]; exact hown2, hb.grown hg2 hz (fun k hk => (hown.lt k hk).1)⟩
        case measure => simp [intOf]; omega
      | false =>
        have hfs : found m (i + 1) = found m i := by rw [found_succ, hbit]; rfl
        have FS := Lib.hid hfs
        clear hfs
        have hbI : bitI m i = false := by simp [bitI, hbit]
        clear hbit
        go_wp2_with (go_at_call 76; refine (rget_any _ _ _ m _ _ rfl hsr hlen (by omega) (by omega)).mono ?_; rintro e w' ⟨rfl, rfl⟩)
        go_roundw
        case rel => exact ⟨i + 1, A', c', by omega, by go_num, by rw [FS.out], by rw [FS.out]; omega, by rw [FS.out]; exact hown, hb⟩
        case measure => simp [intOf]; omega
    · obtain rfl : (found m i).length = k := by omega
      have P := Lib.hid (found_prefix m i hi)
      go_wp2
      go_ret2
      exact ⟨A', c', rfl, by rw [P.out]; exact hown, hb⟩

set_option maxHeartbeats 800000 in
theorem rbits_no (A : Option Addr) (n c : Nat) (m : List UInt8) (k : Int) (w : World) (hn : m.length = n) (hs : Sl w A (m.map bv)) (hlen : n ≤ 1000000) (hk : k < 0 ∨ (countB m : Int) < k) :
    Calls Try.prog 43 #[.slice A n c, .int .i64 k] w fun e w' => e = .returned (.tuple #[.slice none 0 0, .bool false]) ∧ w = w' := by
  subst hn
  by_cases h0 : k < 0
  · clear hk
    go_enter Try.func43, Try.ntmps43
    go_wp2
    go_ret2
    exact ⟨rfl, rfl⟩
  · have hk2 : (countB m : Int) < k := by omega
    clear hk
    go_enter Try.func43, Try.ntmps43
    go_wp2_with (go_at_call 32; refine (rcount_any _ _ _ m _ rfl hs hlen).mono ?_; rintro e w' ⟨rfl, rfl⟩)
    go_ret2
    exact ⟨rfl, rfl⟩
set_option maxHeartbeats 800000 in
theorem rclear_any (A : Option Addr) (n c : Nat) (m : List UInt8) (Z : Option Addr) (nz cz : Nat) (l : List Int) (w : World) (hn : m.length = n) (hs : Sl w A (m.map bv)) (hlen : n ≤ 1000000)
    (hnz : l.length = nz) (hz : Sl w Z (l.map iv)) (hlz : nz ≤ 1000000) (hib : IB l) :
    Calls Try.prog 44 #[.slice A n c, .slice Z nz cz] w fun e w' => ∃ A' c', e = .returned (.slice A' n c') ∧ w'.ownsRow w.heap.size 5 1 (.slice A' n c') n ((clearB m l).map bv) ∧ Below w.heap.size w w' := by
  have HN := Lib.hid hn
  subst hnz
  have own0 := World.ownsRow_nil w w.heap.size 5 1
  have hl1 : (m.map bv).length = n * 1 := by simpa using hn
  have h1c := oneCell_bv m
  have h63 : 0 + n ≤ maxLen := by simp only [maxLen]; omega
  have hby : (0 + n) * 1 ≤ 140737488355328 := by omega
  have HL1 := Lib.hid hl1
  clear hl1
  go_enter Try.func44, Try.ntmps44
  go_wp2_with (at_builtin; refine wpList_append_sl rfl _ _ 27 rfl w.heap.size 5 _ 1 1 Try.underlying27 el5 _ _ _ rfl own0 A n c (m.map bv) rfl hs HL1.out h1c h63 hby (Nat.le_refl _) ?_; intro A1 c1 w1 own1 hg1 hob1)
  rw [Nat.zero_add, List.nil_append] at own1
  have hb1 : Below w.heap.size w w1 := (Below.refl _ _).grown hg1 (Nat.le_refl _) (fun k hk => by cases hk)
  clear hob1
  clear hn
  go_loopw [5, 7, 12] (fun v5 _ v12 wr => ∃ k : Nat, k ≤ l.length ∧ v12 = .int .i64 k ∧ v5 = .slice A1 n c1 ∧ wr.ownsRow w.heap.size 5 1 (.slice A1 n c1) n ((clearB m (l.take k)).map bv) ∧ Below w.heap.size w wr) (fun _ _ v12 _ => l.length - (intOf v12).toNat)
  case atStart => exact ⟨0, by omega, rfl, rfl, own1, hb1⟩
  case round =>
    obtain ⟨k, hk, rfl, rfl, own, hb⟩ := hrel
    have hsz := hb.size
    by_cases hlt : k < l.length
    · obtain ⟨b, off, rfl, hc⟩ := (hz.below hb).at_ (k := k) (by simpa using hlt)
      rw [List.getElem_map] at hc
      have hi := hib l[k] (List.getElem_mem hlt)
      have SN := Lib.hid (clearB_snoc m l k hlt)
      go_wp2_with (go_at_call 82; refine (rchange_own _ _ _ _ _ _ _ _ own hlen hi.1 hi.2).mono ?_; rintro e w2 ⟨rfl, own2, hg⟩)
      go_roundw
      case rel => exact ⟨k + 1, by omega, by go_num, rfl, by rw [SN.out]; exact own2, hb.grown hg hsz (fun q hq => (own.lt q hq).1)⟩
      case measure => simp [intOf]; omega
    · obtain rfl : k = l.length := by omega
      rw [List.take_length] at own
      go_wp2
      go_ret
      exact ⟨A1, c1, rfl, own, hb⟩

set_option maxHeartbeats 800000 in
theorem rput_any (A : Option Addr) (n c : Nat) (m : List UInt8) (Z : Option Addr) (nz cz : Nat) (l : List Int) (v : Int) (w : World) (hn : m.length = n) (hs : Sl w A (m.map bv)) (hlen : n ≤ 1000000)
    (hnz : l.length = nz) (hz : Sl w Z (l.map iv)) (hlz : nz ≤ 1000000) (hib : IB l) (hv0 : -9223372036854775808 ≤ v) (hv1 : v ≤ 9223372036854775807) :
    Calls Try.prog 45 #[.slice A n c, .slice Z nz cz, .int .i64 v] w fun e w' => ∃ A' c', e = .returned (.slice A' n c') ∧ w'.ownsRow w.heap.size 5 1 (.slice A' n c') n ((putB m l v 0).map bv) ∧ Below w.heap.size w w' := by
  have HN := Lib.hid hn
  subst hnz
  have own0 := World.ownsRow_nil w w.heap.size 5 1
  have hl1 : (m.map bv).length = n * 1 := by simpa using hn
  have h1c := oneCell_bv m
  have h63 : 0 + n ≤ maxLen := by simp only [maxLen]; omega
  have hby : (0 + n) * 1 ≤ 140737488355328 := by omega
  have HL1 := Lib.hid hl1
  clear hl1
  go_enter Try.func45, Try.ntmps45
  go_wp2_with (at_builtin; refine wpList_append_sl rfl _ _ 27 rfl w.heap.size 5 _ 1 1 Try.underlying27 el5 _ _ _ rfl own0 A n c (m.map bv) rfl hs HL1.out h1c h63 hby (Nat.le_refl _) ?_; intro A1 c1 w1 own1 hg1 hob1)
  rw [Nat.zero_add, List.nil_append] at own1
  have hb1 : Below w.heap.size w w1 := (Below.refl _ _).grown hg1 (Nat.le_refl _) (fun k hk => by cases hk)
  clear hob1
  clear hn
  go_loopw [7, 8, 9, 14] (fun v7 _ _ v14 wr => ∃ k : Nat, k ≤ l.length ∧ v14 = .int .i64 k ∧ v7 = .slice A1 n c1 ∧ wr.ownsRow w.heap.size 5 1 (.slice A1 n c1) n ((putB m (l.take k) v 0).map bv) ∧ Below w.heap.size w wr) (fun _ _ _ v14 _ => l.length - (intOf v14).toNat)
  case atStart => exact ⟨0, by omega, rfl, rfl, own1, hb1⟩
  case round =>
    obtain ⟨k, hk, rfl, rfl, own, hb⟩ := hrel
    have hsz := hb.size
    by_cases hlt : k < l.length
    · obtain ⟨b, off, rfl, hc⟩ := (hz.below hb).at_ (k := k) (by simpa using hlt)
      rw [List.getElem_map] at hc
      have hi := hib l[k] (List.getElem_mem hlt)
      have sn := putB_snoc m (l.take k) v l[k] 0
      rw [← List.take_succ_eq_append_getElem hlt, List.length_take_of_le hk, Nat.zero_add] at sn
      have SN := Lib.hid sn
      clear sn
      by_cases h63 : k < 63
      · have hd : decide ((k : Int) < 63) = true := by simp; omega
        have E := Lib.hid (bits_and1 (v / 2 ^ k))
        go_wp2_with (go_at_call 82; refine (rchange_own _ _ _ _ _ _ _ _ own hlen hi.1 hi.2).mono ?_; rintro e w2 ⟨rfl, own2, hg⟩)
        go_roundw
        case rel => exact ⟨k + 1, by omega, by go_num, rfl, by rw [SN.out]; rw [E.out] at own2; simpa [h63] using own2, hb.grown hg hsz (fun q hq => (own.lt q hq).1)⟩
        case measure => simp [intOf]; omega
      · have hd : decide ((k : Int) < 63) = false := by simp; omega
        go_wp2_with (go_at_call 82; refine (rchange_own _ _ _ _ _ _ _ _ own hlen hi.1 hi.2).mono ?_; rintro e w2 ⟨rfl, own2, hg⟩)
        go_roundw
        case rel => exact ⟨k + 1, by omega, by go_num, rfl, by rw [SN.out]; simpa [h63] using own2, hb.grown hg hsz (fun q hq => (own.lt q hq).1)⟩
        case measure => simp [intOf]; omega
    · obtain rfl : k = l.length := by omega
      rw [List.take_length] at own
      go_wp2
      go_ret
      exact ⟨A1, c1, rfl, own, hb⟩

set_option maxHeartbeats 800000 in
theorem rgetbits_any (A : Option Addr) (n c : Nat) (m : List UInt8) (Z : Option Addr) (nz cz : Nat) (l : List Int) (w : World) (hn : m.length = n) (hs : Sl w A (m.map bv)) (hlen : n ≤ 1000000)
    (hnz : l.length = nz) (hz : Sl w Z (l.map iv)) (hlz : nz ≤ 1000000) (hib : IB l) :
    Calls Try.prog 46 #[.slice A n c, .slice Z nz cz] w fun e w' => e = .returned (.int .i64 (getB m l 0)) ∧ w = w' := by
  subst hnz
  go_enter Try.func46, Try.ntmps46
  go_wp2
  go_loop [5, 6, 7, 10] (fun v5 _ _ v10 => ∃ k : Nat, k ≤ l.length ∧ v10 = .int .i64 k ∧ v5 = .int .i64 (getB m (l.take k) 0)) (fun _ _ _ v10 => l.length - (intOf v10).toNat)
  case atStart => exact ⟨0, by omega, rfl, rfl⟩
  case round =>
    obtain ⟨k, hk, rfl, rfl⟩ := hrel
    have hl2 : (l.take k).length = k := List.length_take_of_le (by omega)
    have hgl := getB_lt m (l.take k) 0
    rw [hl2, Nat.zero_add] at hgl
    have HL2 := Lib.hid hl2
    clear hl2
    have HGL := Lib.hid hgl
    clear hgl
    by_cases hkl : k < l.length
    · obtain ⟨b, off, rfl, hc⟩ := hz.at_ (k := k) (by simpa using hkl)
      rw [List.getElem_map] at hc
      have hi := hib l[k] (List.getElem_mem hkl)
      have sn := getB_snoc m (l.take k) l[k] 0
      rw [← List.take_succ_eq_append_getElem hkl, HL2.out, Nat.zero_add] at sn
      by_cases hk62 : k < 62
      · have hd : decide ((k : Int) < 62) = true := by simp; omega
        have E := Lib.hid (bits_or_pow (getB m (l.take k) 0) k HGL.out (by omega))
        cases hb : bitI m l[k] with
        | true =>
          rw [hb] at sn
          simp [hk62] at sn
          have SN := Lib.hid sn
          clear sn
          go_wp2_with (go_at_call 76; refine (rget_any _ _ _ m _ _ hn hs hlen hi.1 hi.2).mono ?_; rintro e w1 ⟨rfl, rfl⟩)
          go_round
          case rel => exact ⟨k + 1, by omega, by go_num, by rw [E.out, SN.out]⟩
          case measure => simp [intOf]; omega
        | false =>
          rw [hb, Bool.and_false] at sn
          simp at sn
          have SN := Lib.hid sn
          clear sn
          go_wp2_with (go_at_call 76; refine (rget_any _ _ _ m _ _ hn hs hlen hi.1 hi.2).mono ?_; rintro e w1 ⟨rfl, rfl⟩)
          go_round
          case rel => exact ⟨k + 1, by omega, by go_num, by rw [SN.out]⟩
          case measure => simp [intOf]; omega
      · have hd : decide ((k : Int) < 62) = false := by simp; omega
        simp [hk62] at sn
        have SN := Lib.hid sn
        clear sn
        go_wp2
        go_round
        case rel => exact ⟨k + 1, by omega, by go_num, by rw [SN.out]⟩
        case measure => simp [intOf]; omega
    · obtain rfl : k = l.length := by omega
      rw [List.take_length] at *
      go_wp2
      go_ret
      exact ⟨rfl, rfl⟩

end Go.Proofs.Ytamhigknobdloaa
