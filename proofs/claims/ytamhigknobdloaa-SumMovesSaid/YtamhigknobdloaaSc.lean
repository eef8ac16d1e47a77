/- The walk of Pointer; no condition. -/
import Derived.Test.YtamhigknobdloaaSb
namespace Go.Proofs.Ytamhigknobdloaa
open Go.RowKit
set_option linter.unusedVariables false

/-- The layout of a pointer. -/
def ptrP (A : Option Addr) : Part := ⟨8, 8, A, [7, 0, 0, 0, 0, 0, 255, 255], 8, .slice none 0 0, .slice none 0 0, .slice none 0 0, .slice none 0 0, .bool true⟩
set_option maxHeartbeats 1600000 in
theorem pointer_any (w : World) : Calls Try.prog 59 #[] w fun e w' => ∃ A, e = .returned (ptrP A).val ∧ SlE w' 5 A ((ptrP A).sp.map bv) ∧ Below w.heap.size w w' := by
  go_enter Try.func59, Try.ntmps59
  go_wp2
  refine bodyPost_ret (v := (ptrP (some ⟨w.heap.size + 1, 0, none⟩)).val) (by simp [results, Try.results59, go_sem, Part.val, ptrP]) rfl ⟨some ⟨w.heap.size + 1, 0, none⟩, rfl, ?_, ?_⟩
  · have h := SlE.new (w.alloc (.cells #[.int .i64 8, .int .i64 8, .slice (some ⟨w.heap.size + 1, 0, none⟩) 8 8, .slice none 0 0, .slice none 0 0, .slice none 0 0, .slice none 0 0, .bool true] 31)) #[.int .u8 7, .int .u8 0, .int .u8 0, .int .u8 0, .int .u8 0, .int .u8 0, .int .u8 255, .int .u8 255] 5
    rwa [show (w.alloc (.cells #[.int .i64 8, .int .i64 8, .slice (some ⟨w.heap.size + 1, 0, none⟩) 8 8, .slice none 0 0, .slice none 0 0, .slice none 0 0, .slice none 0 0, .bool true] 31)).heap.size = w.heap.size + 1 by simp] at h
  · exact ((Below.refl _ _).alloc (Nat.le_refl _) _).alloc (by simp) _
set_option maxHeartbeats 1600000 in
theorem rpointer_any (w : World) : Calls Try.prog 60 #[] w fun e w' => ∃ A, e = .returned (ptrP A).val ∧ SlE w' 5 A ((ptrP A).sp.map bv) ∧ Below w.heap.size w w' := by
  go_enter Try.func60, Try.ntmps60
  go_wp2
  refine bodyPost_ret (v := (ptrP (some ⟨w.heap.size + 1, 0, none⟩)).val) (by simp [results, Try.results60, go_sem, Part.val, ptrP]) rfl ⟨some ⟨w.heap.size + 1, 0, none⟩, rfl, ?_, ?_⟩
  · have h := SlE.new (w.alloc (.cells #[.int .i64 8, .int .i64 8, .slice (some ⟨w.heap.size + 1, 0, none⟩) 8 8, .slice none 0 0, .slice none 0 0, .slice none 0 0, .slice none 0 0, .bool true] 31)) #[.int .u8 7, .int .u8 0, .int .u8 0, .int .u8 0, .int .u8 0, .int .u8 0, .int .u8 255, .int .u8 255] 5
    rwa [show (w.alloc (.cells #[.int .i64 8, .int .i64 8, .slice (some ⟨w.heap.size + 1, 0, none⟩) 8 8, .slice none 0 0, .slice none 0 0, .slice none 0 0, .slice none 0 0, .bool true] 31)).heap.size = w.heap.size + 1 by simp] at h
  · exact ((Below.refl _ _).alloc (Nat.le_refl _) _).alloc (by simp) _
end Go.Proofs.Ytamhigknobdloaa
