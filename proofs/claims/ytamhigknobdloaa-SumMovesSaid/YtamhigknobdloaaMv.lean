/- The walks of Valid, of the program and of the reference; no condition. -/
import Derived.Test.YtamhigknobdloaaMs
namespace Go.Proofs.Ytamhigknobdloaa
open Go.RowKit
set_option linter.unusedVariables false

/-- Whether a layout could be one: its size, its alignment, the length of its mask. -/
def validB (s al : Int) (n : Nat) : Bool := decide (0 ≤ s ∧ s ≤ 1024 ∧ (al = 1 ∨ al = 8) ∧ (n : Int) = s)

set_option maxHeartbeats 800000 in
theorem valid_any (s al : Int) (A : Option Addr) (n c : Nat) (x3 x4 x5 x6 x7 : Value) (w : World) :
    Calls Try.prog 47 #[.agg #[.int .i64 s, .int .i64 al, .slice A n c, x3, x4, x5, x6, x7]] w fun e w' => e = .returned (.bool (validB s al n)) ∧ Below w.heap.size w w' := by
  have hb0 := (Below.refl w.heap.size w).alloc (Nat.le_refl _) (.cells #[.int .i64 s, .int .i64 al, .slice A n c, x3, x4, x5, x6, x7] 31)
  by_cases h1 : 0 ≤ s
  · by_cases h2 : s ≤ 1024
    · by_cases h3 : al = 1
      · subst h3
        cases hd : ((n : Int) == s) with
        | true =>
          have V : validB s 1 n = true := by unfold validB; simp at hd; simp [h1, h2, hd]
          rw [V]; clear V
          go_enter Try.func47, Try.ntmps47
          go_wp2
          go_ret
          exact ⟨rfl, hb0⟩
        | false =>
          have V : validB s 1 n = false := by unfold validB; simp at hd; simp [hd]
          rw [V]; clear V
          go_enter Try.func47, Try.ntmps47
          go_wp2
          go_ret
          exact ⟨rfl, hb0⟩
      · have h3' : (al == 1) = false := by simpa using h3
        by_cases h4 : al = 8
        · subst h4
          cases hd : ((n : Int) == s) with
          | true =>
            have V : validB s 8 n = true := by unfold validB; simp at hd; simp [h1, h2, hd]
            rw [V]; clear V
            go_enter Try.func47, Try.ntmps47
            go_wp2
            go_ret
            exact ⟨rfl, hb0⟩
          | false =>
            have V : validB s 8 n = false := by unfold validB; simp at hd; simp [hd]
            rw [V]; clear V
            go_enter Try.func47, Try.ntmps47
            go_wp2
            go_ret
            exact ⟨rfl, hb0⟩
        · have h4' : (al == 8) = false := by simpa using h4
          have V : validB s al n = false := by unfold validB; simp [h3, h4]
          rw [V]; clear V h3 h4
          go_enter Try.func47, Try.ntmps47
          go_wp2
          go_ret
          exact ⟨rfl, hb0⟩
    · have V : validB s al n = false := by unfold validB; simp [h2]
      rw [V]; clear V
      go_enter Try.func47, Try.ntmps47
      go_wp2
      go_ret
      exact ⟨rfl, hb0⟩
  · have V : validB s al n = false := by unfold validB; simp [h1]
    rw [V]; clear V
    go_enter Try.func47, Try.ntmps47
    go_wp2
    go_ret
    exact ⟨rfl, hb0⟩

set_option maxHeartbeats 800000 in
theorem rvalid_any (s al : Int) (A : Option Addr) (n c : Nat) (x3 x4 x5 x6 x7 : Value) (w : World) :
    Calls Try.prog 27 #[.agg #[.int .i64 s, .int .i64 al, .slice A n c, x3, x4, x5, x6, x7]] w fun e w' => e = .returned (.bool (validB s al n)) ∧ Below w.heap.size w w' := by
  have hb0 := (Below.refl w.heap.size w).alloc (Nat.le_refl _) (.cells #[.int .i64 s, .int .i64 al, .slice A n c, x3, x4, x5, x6, x7] 31)
  by_cases h1 : 0 ≤ s
  · by_cases h2 : s ≤ 1024
    · by_cases h3 : al = 1
      · subst h3
        cases hd : ((n : Int) == s) with
        | true =>
          have V : validB s 1 n = true := by unfold validB; simp at hd; simp [h1, h2, hd]
          rw [V]; clear V
          go_enter Try.func27, Try.ntmps27
          go_wp2
          go_ret
          exact ⟨rfl, hb0⟩
        | false =>
          have V : validB s 1 n = false := by unfold validB; simp at hd; simp [hd]
          rw [V]; clear V
          go_enter Try.func27, Try.ntmps27
          go_wp2
          go_ret
          exact ⟨rfl, hb0⟩
      · have h3' : (al == 1) = false := by simpa using h3
        by_cases h4 : al = 8
        · subst h4
          cases hd : ((n : Int) == s) with
          | true =>
            have V : validB s 8 n = true := by unfold validB; simp at hd; simp [h1, h2, hd]
            rw [V]; clear V
            go_enter Try.func27, Try.ntmps27
            go_wp2
            go_ret
            exact ⟨rfl, hb0⟩
          | false =>
            have V : validB s 8 n = false := by unfold validB; simp at hd; simp [hd]
            rw [V]; clear V
            go_enter Try.func27, Try.ntmps27
            go_wp2
            go_ret
            exact ⟨rfl, hb0⟩
        · have h4' : (al == 8) = false := by simpa using h4
          have V : validB s al n = false := by unfold validB; simp [h3, h4]
          rw [V]; clear V h3 h4
          go_enter Try.func27, Try.ntmps27
          go_wp2
          go_ret
          exact ⟨rfl, hb0⟩
    · have V : validB s al n = false := by unfold validB; simp [h2]
      rw [V]; clear V
      go_enter Try.func27, Try.ntmps27
      go_wp2
      go_ret
      exact ⟨rfl, hb0⟩
  · have V : validB s al n = false := by unfold validB; simp [h1]
    rw [V]; clear V
    go_enter Try.func27, Try.ntmps27
    go_wp2
    go_ret
    exact ⟨rfl, hb0⟩
end Go.Proofs.Ytamhigknobdloaa
