import Derived.Test.YtamhigknobdloaaMk
namespace Go.Proofs.Ytamhigknobdloaa
open Go.RowKit

theorem el3 : El Try.prog 3 (.int .i64 0) 1 8 := El.mk (by kernel_rfl) rfl (by decide)
theorem el5 : El Try.prog 5 (.int .u8 0) 1 1 := El.mk (by kernel_rfl) rfl (by decide)

/-- What the loop of Bits has found when it comes to place i. -/
def found (m : List UInt8) (i : Nat) : List Nat := (List.range i).filter (bitN m)
theorem found_succ (m : List UInt8) (i : Nat) : found m (i + 1) = if bitN m i then found m i ++ [i] else found m i := by
  unfold found; rw [List.range_succ, List.filter_append]; by_cases h : bitN m i <;> simp [h]
theorem found_all (m : List UInt8) (i : Nat) (h : 8 * m.length ≤ i) : (found m i).length = countB m := by
  rw [countB_eq]
  unfold found setBits
  rw [show i = 8 * m.length + (i - 8 * m.length) by omega, List.range_add, List.filter_append]
  have : ((List.range (i - 8 * m.length)).map (8 * m.length + ·)).filter (bitN m) = [] := by
    apply List.filter_eq_nil_iff.2
    intro x hx
    obtain ⟨y, _, rfl⟩ := List.mem_map.1 hx
    simp [bitN_out m (8 * m.length + y) (by omega)]
  rw [this]
  simp
theorem found_prefix (m : List UInt8) (i : Nat) (h : i ≤ 8 * m.length) : bitsN m (found m i).length = found m i := by
  unfold bitsN setBits found
  rw [show 8 * m.length = i + (8 * m.length - i) by omega, List.range_add, List.filter_append, List.take_left]
def natv (n : Nat) : Value := .int .i64 n
theorem oneCell_natv (l : List Nat) : ∀ u ∈ l.map natv, u.oneCell' = true := by
  intro u hu
  obtain ⟨b, _, rfl⟩ := List.mem_map.1 hu
  rfl

set_option maxHeartbeats 800000 in
theorem bits_yes (A : Option Addr) (n c : Nat) (m : List UInt8) (k : Nat) (w : World) (hn : m.length = n) (hs : Sl w A (m.map bv)) (hlen : n ≤ 1000000) (hk : k ≤ countB m) :
    Calls Try.prog 35 #[.slice A n c, .int .i64 k] w fun e w' => ∃ A' c', e = .returned (.tuple #[.slice A' k c', .bool true]) ∧ w'.ownsRow w.heap.size 3 1 (.slice A' k c') k ((bitsN m k).map natv) ∧ Below w.heap.size w w' := by
  subst hn
  have hcl := countB_le m
  have hk1 : decide ((k : Int) < 0) = false := by simp
  have hk2 : decide (countB m < k) = false := by simp; omega
  have hb0 := Below.refl w.heap.size w
  go_enter Try.func35, Try.ntmps35
  go_wp2_with (go_at_call 36; refine (count_any _ _ _ m _ rfl hs hlen).mono ?_; rintro e w' ⟨rfl, rfl⟩)
  go_loopw [6, 7] (fun v6 v7 wr => ∃ (i : Nat) (A' : Option Addr) (c' : Nat), i ≤ 8 * m.length ∧ v7 = .int .i64 i ∧ v6 = .slice A' (found m i).length c' ∧ (found m i).length ≤ k ∧ wr.ownsRow w.heap.size 3 1 v6 (found m i).length ((found m i).map natv) ∧ Below w.heap.size w wr) (fun _ v7 _ => 8 * m.length - (intOf v7).toNat)
  case atStart => exact ⟨0, none, 0, by omega, rfl, rfl, by simp [found], World.ownsRow_nil _ _ _ _, hb0⟩
  case round =>
    obtain ⟨i, A', c', hi, rfl, rfl, hfk, hown, hb⟩ := hrel
    have hsr := hs.below hb
    have hz := hb.size
    by_cases hlt : (found m i).length < k
    · have hi8 : i < 8 * m.length := by
        rcases Nat.lt_or_ge i (8 * m.length) with h | h
        · exact h
        · have := found_all m i h; omega
      cases hbit : bitN m i with
      | true =>
        have hfs : found m (i + 1) = found m i ++ [i] := by rw [found_succ, hbit]; rfl
        have FS := Lib.hid hfs
        clear hfs
        have HB := Lib.hid hbit
        have hbI : bitI m i = true := by simp [bitI, hbit]
        clear hbit
        go_wp2_with fail
        refine (get_any _ _ _ m _ _ rfl hsr hlen (by omega) (by omega)).mono ?_; rintro e w' ⟨rfl, rfl⟩
        go_wp2_with (at_builtin; refine wpList_append1 rfl _ _ 23 rfl w.heap.size 3 _ 8 Try.underlying23 el3 (by decide) _ _ _ _ rfl hown _ rfl rfl (by omega) hz ?_; intro A2 c2 w2 hown2 hg2 hob)
        go_roundw
        case rel => exact ⟨i + 1, A2, c2, by omega, by go_num, by rw [FS.out, List.length_append]; rfl, by rw [FS.out, List.length_append]; exact hlt, by rw [FS.out, List.length_append, List.map_append]; exact hown2, hb.grown hg2 hz (fun k hk => (hown.lt k hk).1)⟩
        case measure => simp [intOf]; omega
      | false =>
        have hfs : found m (i + 1) = found m i := by rw [found_succ, hbit]; rfl
        have FS := Lib.hid hfs
        clear hfs
        have hbI : bitI m i = false := by simp [bitI, hbit]
        clear hbit
        go_wp2_with (go_at_call 77; refine (get_any _ _ _ m _ _ rfl hsr hlen (by omega) (by omega)).mono ?_; rintro e w' ⟨rfl, rfl⟩)
        go_roundw
        case rel => exact ⟨i + 1, A', c', by omega, by go_num, by rw [FS.out], by rw [FS.out]; omega, by rw [FS.out]; exact hown, hb⟩
        case measure => simp [intOf]; omega
    · obtain rfl : (found m i).length = k := by omega
      have P := Lib.hid (found_prefix m i hi)
      go_wp2
      go_ret2
      exact ⟨A', c', rfl, by rw [P.out]; exact hown, hb⟩

set_option maxHeartbeats 800000 in
theorem bits_no (A : Option Addr) (n c : Nat) (m : List UInt8) (k : Int) (w : World) (hn : m.length = n) (hs : Sl w A (m.map bv)) (hlen : n ≤ 1000000) (hk : k < 0 ∨ (countB m : Int) < k) :
    Calls Try.prog 35 #[.slice A n c, .int .i64 k] w fun e w' => e = .returned (.tuple #[.slice none 0 0, .bool false]) ∧ w = w' := by
  subst hn
  by_cases h0 : k < 0
  · clear hk
    go_enter Try.func35, Try.ntmps35
    go_wp2
    go_ret2
    exact ⟨rfl, rfl⟩
  · have hk2 : (countB m : Int) < k := by omega
    clear hk
    go_enter Try.func35, Try.ntmps35
    go_wp2_with (go_at_call 36; refine (count_any _ _ _ m _ rfl hs hlen).mono ?_; rintro e w' ⟨rfl, rfl⟩)
    go_ret2
    exact ⟨rfl, rfl⟩
end Go.Proofs.Ytamhigknobdloaa
