/- The walk of sum.Lay where it refuses: wrong lengths, a part that is none, too many cases; conditions: the lists are short. -/
import Derived.Test.YtamhigknobdloaaSe
namespace Go.Proofs.Ytamhigknobdloaa
open Go.RowKit
set_option linter.unusedVariables false

def zero31 : Value := .agg #[.int .i64 0, .int .i64 0, .slice none 0 0, .slice none 0 0, .slice none 0 0, .slice none 0 0, .slice none 0 0, .bool false]
set_option maxHeartbeats 3200000 in
set_option maxRecDepth 100000 in
theorem sum_bad (A : Option Addr) (n c : Nat) (ps : List Part) (An : Option Addr) (nn cn : Nat) (Ai : Option Addr) (nb cb : Nat) (w : World) (hn : ps.length = n) (hs : Parts w A ps) (hlen : n ≤ 1000) (hbad : sumBad ps nn nb = true) :
    Calls Try.prog 57 #[.slice A n c, .slice An nn cn, .slice Ai nb cb] w fun e w' => e = .returned (.tuple #[zero31, .int .i64 19]) ∧ Below w.heap.size w w' := by
  have hb0 := (Below.refl w.heap.size w).alloc (Nat.le_refl _) (.cells #[.int .i64 0, .int .i64 0, .slice none 0 0, .slice none 0 0, .slice none 0 0, .slice none 0 0, .slice none 0 0, .bool false] 31)
  have HBAD := Lib.hid hbad
  clear hbad
  have key : n ≠ nn ∨ (n = nn ∧ nn ≠ nb) ∨ (n = nn ∧ nn = nb ∧ ps.any (fun p => !p.valid) = true) := by
    have := HBAD.out
    unfold sumBad at this
    rw [hn] at this
    by_cases h1 : n = nn
    · by_cases h2 : nn = nb
      · right; right; exact ⟨h1, h2, by simpa [h1, h2] using this⟩
      · right; left; exact ⟨h1, h2⟩
    · left; exact h1
  have fin : ∀ {w1 : World}, Below (w.heap.size + 1) (w.alloc (.cells #[.int .i64 0, .int .i64 0, .slice none 0 0, .slice none 0 0, .slice none 0 0, .slice none 0 0, .slice none 0 0, .bool false] 31)) w1 → True := fun _ => trivial
  clear fin
  go_enter Try.func57, Try.ntmps57
  go_wp2_with fail
  refine (cont84_any _ _ _ ps _ hn (hs.below hb0) hlen).mono ?_
  rintro e w1 ⟨rfl, hb1⟩
  have hblk := (Blk.new w 31 #[.int .i64 0, .int .i64 0, .slice none 0 0, .slice none 0 0, .slice none 0 0, .slice none 0 0, .slice none 0 0, .bool false]).below hb1
  obtain ⟨⟨c0, c1, c2, c3, c4, c5, c6, c7⟩, hf⟩ := hblk.eight
  have hbb := below_next hb0 hb1
  have HB8 := Lib.hid (hblk.set8 (.int .i64 0) (.int .i64 0) (.slice none 0 0) (.slice none 0 0) (.slice none 0 0) (.slice none 0 0) (.slice none 0 0) (.bool false))
  have HL8 := Lib.hid (below8 hbb (Nat.le_refl _) (.int .i64 0) (.int .i64 0) (.slice none 0 0) (.slice none 0 0) (.slice none 0 0) (.slice none 0 0) (.slice none 0 0) (.bool false))
  clear hblk hb0 hb1 hs hbb
  rcases key with h1 | ⟨h1, h2⟩ | ⟨h1, h2, h3⟩
  · have hd : ((n : Int) != (nn : Int)) = true := by simp; omega
    go_wp2
    refine bodyPost_gen HB8.out HL8.out ?_
    clear HB8 HL8 c0 c1 c2 c3 c4 c5 c6 c7 hf
    intro W hblk hbel
    obtain ⟨⟨c0, c1, c2, c3, c4, c5, c6, c7⟩, _⟩ := hblk.eight
    clear hblk
    exact bodyPost_ret (v := .tuple #[zero31, .int .i64 19]) (by simp [results, Try.results57, go_sem, c0, c1, c2, c3, c4, c5, c6, c7, zero31]) rfl ⟨rfl, hbel⟩
  · subst h1
    have hd : ((n : Int) != (nb : Int)) = true := by simp; omega
    go_wp2
    refine bodyPost_gen HB8.out HL8.out ?_
    clear HB8 HL8 c0 c1 c2 c3 c4 c5 c6 c7 hf
    intro W hblk hbel
    obtain ⟨⟨c0, c1, c2, c3, c4, c5, c6, c7⟩, _⟩ := hblk.eight
    clear hblk
    exact bodyPost_ret (v := .tuple #[zero31, .int .i64 19]) (by simp [results, Try.results57, go_sem, c0, c1, c2, c3, c4, c5, c6, c7, zero31]) rfl ⟨rfl, hbel⟩
  · subst h1 h2
    rw [h3]
    clear h3
    go_wp2
    refine bodyPost_gen HB8.out HL8.out ?_
    clear HB8 HL8 c0 c1 c2 c3 c4 c5 c6 c7 hf
    intro W hblk hbel
    obtain ⟨⟨c0, c1, c2, c3, c4, c5, c6, c7⟩, _⟩ := hblk.eight
    clear hblk
    exact bodyPost_ret (v := .tuple #[zero31, .int .i64 19]) (by simp [results, Try.results57, go_sem, c0, c1, c2, c3, c4, c5, c6, c7, zero31]) rfl ⟨rfl, hbel⟩

set_option maxHeartbeats 3200000 in
set_option maxRecDepth 100000 in
theorem sum_many (A : Option Addr) (n c : Nat) (ps : List Part) (An : Option Addr) (cn : Nat) (Ai : Option Addr) (cb : Nat) (w : World) (hn : ps.length = n) (hs : Parts w A ps) (hlen : n ≤ 1000) (hok : ps.any (fun p => !p.valid) = false) (h12 : 12 < n) :
    Calls Try.prog 57 #[.slice A n c, .slice An n cn, .slice Ai n cb] w fun e w' => e = .returned (.tuple #[zero31, .int .i64 4]) ∧ Below w.heap.size w w' := by
  have hb0 := (Below.refl w.heap.size w).alloc (Nat.le_refl _) (.cells #[.int .i64 0, .int .i64 0, .slice none 0 0, .slice none 0 0, .slice none 0 0, .slice none 0 0, .slice none 0 0, .bool false] 31)
  have HOK := Lib.hid hok
  clear hok
  go_enter Try.func57, Try.ntmps57
  go_wp2_with fail
  refine (cont84_any _ _ _ ps _ hn (hs.below hb0) hlen).mono ?_
  rw [HOK.out]
  rintro e w1 ⟨rfl, hb1⟩
  have hblk := (Blk.new w 31 #[.int .i64 0, .int .i64 0, .slice none 0 0, .slice none 0 0, .slice none 0 0, .slice none 0 0, .slice none 0 0, .bool false]).below hb1
  obtain ⟨⟨c0, c1, c2, c3, c4, c5, c6, c7⟩, hf⟩ := hblk.eight
  have hbb := below_next hb0 hb1
  have HB8 := Lib.hid (hblk.set8 (.int .i64 0) (.int .i64 0) (.slice none 0 0) (.slice none 0 0) (.slice none 0 0) (.slice none 0 0) (.slice none 0 0) (.bool false))
  have HL8 := Lib.hid (below8 hbb (Nat.le_refl _) (.int .i64 0) (.int .i64 0) (.slice none 0 0) (.slice none 0 0) (.slice none 0 0) (.slice none 0 0) (.slice none 0 0) (.bool false))
  clear hblk hb0 hb1 hs hbb
  have h12' : (12 : Int) < n := by omega
  go_wp2
  refine bodyPost_gen HB8.out HL8.out ?_
  clear HB8 HL8 c0 c1 c2 c3 c4 c5 c6 c7 hf
  intro W hblk hbel
  obtain ⟨⟨c0, c1, c2, c3, c4, c5, c6, c7⟩, _⟩ := hblk.eight
  clear hblk
  exact bodyPost_ret (v := .tuple #[zero31, .int .i64 4]) (by simp [results, Try.results57, go_sem, c0, c1, c2, c3, c4, c5, c6, c7, zero31]) rfl ⟨rfl, hbel⟩
end Go.Proofs.Ytamhigknobdloaa
