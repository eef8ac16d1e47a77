/- The walks of Clone over ints and of ContainsFunc with the closure of sum.Lay; conditions: the lists are short. -/
import Derived.Test.YtamhigknobdloaaLz
import Derived.Test.YtamhigknobdloaaRl
namespace Go.Proofs.Ytamhigknobdloaa
open Go.RowKit
set_option linter.unusedVariables false

set_option maxHeartbeats 800000 in
theorem clos84_any (p : Part) (w : World) : Calls Try.prog 84 #[p.val] w fun e w' => e = .returned (.bool (!p.valid)) ∧ Below w.heap.size w w' := by
  have hb0 := (Below.refl w.heap.size w).alloc (Nat.le_refl _) (.cells #[.int .i64 p.s, .int .i64 p.al, .slice p.A p.sp.length p.c, p.x3, p.x4, p.x5, p.x6, p.x7] 31)
  unfold Part.val Part.valid
  go_enter Try.func84, Try.ntmps84
  go_wp2_with fail
  refine (valid_any _ _ _ _ _ _ _ _ _ _ _).mono ?_
  rintro e w1 ⟨rfl, hb⟩
  go_wp2
  go_ret
  exact ⟨rfl, below_next hb0 hb⟩

set_option maxHeartbeats 1600000 in
theorem idx84_any (A : Option Addr) (n c : Nat) (ps : List Part) (w : World) (hn : ps.length = n) (hs : Parts w A ps) (hlen : n ≤ 1000) :
    Calls Try.prog 92 #[.slice A n c, .func (.func 84) #[] #[]] w fun e w' => (∃ i : Int, e = .returned (.int .i64 i) ∧ decide (0 ≤ i) = ps.any (fun p => !p.valid)) ∧ Below w.heap.size w w' := by
  subst hn
  have hb0 := Below.refl w.heap.size w
  go_enter Try.func92, Try.ntmps92
  go_wp2
  go_loopw [5, 8] (fun _ v8 wr => ∃ k : Nat, k ≤ ps.length ∧ v8 = .int .i64 k ∧ Hid ((ps.take k).any (fun p => !p.valid) = false) ∧ Below w.heap.size w wr) (fun _ v8 _ => ps.length - (intOf v8).toNat)
  case atStart => exact ⟨0, by omega, rfl, (by show _ = _; simp), hb0⟩
  case round =>
    obtain ⟨k, hk, rfl, hp, hb⟩ := hrel
    by_cases hlt : k < ps.length
    · obtain ⟨b, off, rfl, c0, c1, c2, c3, c4, c5, c6, c7⟩ := (hs.below hb).get hlt
      have TK := Lib.hid (take_any ps (fun p => !p.valid) k hlt)
      cases hv : ps[k].valid with
      | true =>
        rw [hv] at TK
        have V := Lib.hid (Part.valid_def ps[k])
        go_wp2_with fail
        refine (clos84_any ps[k] _).mono ?_
        rw [hv]
        rintro e w1 ⟨rfl, hb1⟩
        go_wp2
        go_roundw
        case rel => exact ⟨k + 1, by omega, by go_num, (by show _ = _; rw [TK.out, hp.out]; rfl), below_next hb hb1⟩
        case measure => simp [intOf]; omega
      | false =>
        rw [hv] at TK
        go_wp2_with fail
        refine (clos84_any ps[k] _).mono ?_
        rw [hv]
        rintro e w1 ⟨rfl, hb1⟩
        go_wp2
        go_ret
        refine ⟨⟨k, rfl, ?_⟩, below_next hb hb1⟩
        rw [List.any_eq_true.2 ⟨ps[k], List.getElem_mem hlt, by rw [hv]; rfl⟩]
        simp
    · obtain rfl : k = ps.length := by omega
      go_wp2
      go_ret
      refine ⟨⟨-1, rfl, ?_⟩, hb⟩
      have := hp.out
      rw [List.take_length] at this
      rw [this]; rfl

set_option maxHeartbeats 800000 in
theorem cont84_any (A : Option Addr) (n c : Nat) (ps : List Part) (w : World) (hn : ps.length = n) (hs : Parts w A ps) (hlen : n ≤ 1000) :
    Calls Try.prog 72 #[.slice A n c, .func (.func 84) #[] #[]] w fun e w' => e = .returned (.bool (ps.any (fun p => !p.valid))) ∧ Below w.heap.size w w' := by
  go_enter Try.func72, Try.ntmps72
  go_wp2_with fail
  refine (idx84_any _ _ _ ps _ hn hs hlen).mono ?_
  rintro e w1 ⟨⟨i, rfl, hi⟩, hb⟩
  have HI := Lib.hid hi
  clear hi
  go_wp2
  go_ret
  exact ⟨by rw [← HI.out]; rfl, hb⟩

set_option maxHeartbeats 400000 in
theorem iclone_nil (c : Nat) (w : World) :
    Calls Try.prog 85 #[.slice none 0 c] w fun e w' => e = .returned (.slice none 0 0) ∧ w = w' := by
  have hnil := fun w => Lib.run_eql_slice_nil (P := Try.prog) w 23 3 none 0 c 0 0 Try.underlying23
  go_enter Try.func85, Try.ntmps85
  go_wp2
  go_ret
  exact ⟨rfl, rfl⟩
set_option maxHeartbeats 400000 in
theorem iclone_some (a : Addr) (n c : Nat) (xs : List Value) (w : World) (hn : xs.length = n * 1) (hs : Sl w (some a) xs) (h1 : ∀ u ∈ xs, u.oneCell' = true) (hlen : n ≤ 1000000) :
    Calls Try.prog 85 #[.slice (some a) n c] w fun e w' => ∃ A' c', e = .returned (.slice A' n c') ∧ w'.ownsRow w.heap.size 3 1 (.slice A' n c') n xs ∧ Below w.heap.size w w' := by
  have hnil := fun w => Lib.run_eql_slice_nil (P := Try.prog) w 23 3 (some a) n c 0 0 Try.underlying23
  have HN := Lib.hid hn
  clear hn
  have hs1 := hs.alloc (.cells #[] 3)
  have h63 : 0 + n ≤ maxLen := by simp only [maxLen]; omega
  have own0 : (w.alloc (.cells #[] 3)).ownsRow w.heap.size 3 1 (.slice (some ⟨w.heap.size, 0, none⟩) 0 0) 0 [] := World.ownsRow_made w #[] 0 (Nat.le_refl _) (by simp [maxLen]) rfl
  go_enter Try.func85, Try.ntmps85
  go_wp2_with (at_builtin; refine wpList_append_sl rfl _ _ 23 rfl w.heap.size 3 _ 1 8 Try.underlying23 el3 _ _ _ rfl own0 (some a) n c xs rfl hs1 HN.out h1 h63 (by omega) (by simp) ?_; intro A2 c2 w2 hown2 hg2 hob)
  go_ret
  exact ⟨A2, c2, rfl, by simpa using hown2, (Below.refl _ _).alloc (Nat.le_refl _) _ |>.grown hg2 (by simp) (fun k hk => by have h : some w.heap.size = some k := hk; injection h; omega)⟩
theorem iclone_any (A : Option Addr) (n c : Nat) (m : List Int) (w : World) (hn : m.length = n) (hs : Sl w A (m.map iv)) (hlen : n ≤ 1000000) :
    Calls Try.prog 85 #[.slice A n c] w fun e w' => ∃ A' c', e = .returned (.slice A' n c') ∧ w'.ownsRow w.heap.size 3 1 (.slice A' n c') n (m.map iv) ∧ Below w.heap.size w w' := by
  cases A with
  | none =>
    have hm : m = [] := by rcases hs with h | ⟨b, off, h, _⟩; simpa using h; cases h
    subst hm
    simp at hn
    subst hn
    exact (iclone_nil c w).mono fun e w' ⟨he, hw⟩ => ⟨none, 0, he, by subst hw; exact World.ownsRow_nil _ _ _ _, by subst hw; exact Below.refl _ _⟩
  | some a => exact iclone_some a n c (m.map iv) w (by simpa using hn) hs (oneCell_iv m) hlen
end Go.Proofs.Ytamhigknobdloaa
