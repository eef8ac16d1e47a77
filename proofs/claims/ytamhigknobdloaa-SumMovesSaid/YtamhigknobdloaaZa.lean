/- append of made zeros onto a row of the call's own ('append(x, make([]T, n)...)'); conditions: the lengths are small. -/
import Derived.Test.YtamhigknobdloaaMs
namespace Go.Proofs.Ytamhigknobdloaa
open Go.RowKit
set_option linter.unusedVariables false

theorem zeroCells_toList (z : Value) (n : Nat) : (Builtin.zeroCells #[z] n).toList = List.replicate n z := by
  have h : ∀ i, [z][i % 1]?.getD default = z := by intro i; rw [Nat.mod_one]; rfl
  simp [Builtin.zeroCells, h]
  exact List.ext_getElem (by simp) (by intros; simp)
section
variable {P : Program} (w : World)
theorem run_append_zeros (base : Nat) (t u ty e : TypeId) (z : Value) (bytes : Nat) (ht : P.underlying t = some (.slice e)) (hu : P.underlying u = some (.int .i64)) (he : El P e z 1 bytes) (hzc : z.cells = #[z]) (h1 : z.oneCell' = true) (hby : bytes ≤ 1000)
    (A : Option Addr) (n c : Nat) (xs : List Value) (hown : w.ownsRow base e 1 (.slice A n c) n xs) (m : Nat) (h63 : n + m ≤ 1000000000) (hbase : base ≤ w.heap.size) :
    ∃ A' c' w', (heldAppend #[t, u] ty #[.slice A n c, .int .i64 m]).run P w = .ok (.value (.slice A' (n + m) c')) w' ∧ w'.ownsRow base e 1 (.slice A' (n + m) c') (n + m) (xs ++ List.replicate m z) ∧ w.grownBy w' (Value.slice A n c).ownBlock := by
  obtain ⟨i, hi, hz, hsz, hbi, hzs, hp⟩ := he
  have hmb : (m : Int) * i.bytes ≤ 281474976710656 := by
    rw [hbi]
    have : m * bytes ≤ 1000000000 * 1000 := Nat.mul_le_mul (by omega) hby
    have e1 : ((m * bytes : Nat) : Int) = (m : Int) * bytes := by simp
    omega
  have hmb' : ¬ (281474976710656 : Int) < (m : Int) * i.bytes := by omega
  have hm0 : ¬ (m : Int) < 0 := by omega
  have hwrap : IntKind.i64.wrap (m : Int) = m := by rw [IntKind.wrap_i64]; omega
  have hn63 : ¬ ((9223372036854775807 : Int) < (n : Int) + (m : Int)) := by omega
  have hlx := hown.1
  rw [Nat.mul_one] at hlx
  have hlen : (xs ++ List.replicate m z).length = (n + m) * 1 := by simp; omega
  have grown : ∀ (old : Nat), old < n + m → ∀ (row : Option Nat),
      (w.drew.alloc (.cells (xs.toArray ++ (Builtin.zeroCells z.cells m) ++ Builtin.zeroCells z.cells (grownCap w (n + m) old e - (n + m))) e)).ownsRow base e 1
        (.slice (some ⟨w.heap.size, 0, none⟩) (n + m) (grownCap w (n + m) old e)) (n + m) (xs ++ List.replicate m z) ∧
      w.grownBy (w.drew.alloc (.cells (xs.toArray ++ (Builtin.zeroCells z.cells m) ++ Builtin.zeroCells z.cells (grownCap w (n + m) old e - (n + m))) e)) row := by
    intro old ho row
    have hge := grownCap_ge w (n + m) old e
    have hcm : grownCap w (n + m) old e ≤ maxLen := grownCap_le_maxLen w (n + m) old e (by simp only [maxLen]; omega)
    refine ⟨⟨hlen, .inr ⟨w.heap.size, _, _, rfl, hbase, heap_alloc_new w.drew _, hge, hcm, ?_, ?_⟩⟩, ⟨rfl, rfl, rfl, by simp, fun k hk _ => Below.heap_alloc w.drew _ k hk⟩⟩
    · simp only [Array.size_append, List.size_toArray, size_zeroCells, hzs, hlx]; omega
    · simp only [Array.toList_append, hzc, zeroCells_toList]
      rw [← hlen]
      exact List.take_left
  have fits : ∀ old, old < n + m → ¬ (281474976710656 < Builtin.nextslicecap (n + m) old * i.bytes) := by
    intro old ho
    have := growslice_fits (bytes := i.bytes) ho (by rw [hbi]; exact Nat.le_trans (Nat.mul_le_mul h63 hby) (by decide))
    omega
  rcases hown.2 with ⟨hv, hn0⟩ | ⟨g, cap, cur, hv, hbg, hg, hnc, hcm, hcs, htake⟩
  · injection hv with e1 e2 e3
    subst e1 e3 hn0
    have hx : xs = [] := List.eq_nil_of_length_eq_zero hlx
    subst hx
    by_cases hm : m = 0
    · subst hm
      refine ⟨none, 0, w, ?_, by simpa using World.ownsRow_nil w base e 1, World.grownBy.refl w _⟩
      apply run_held
      have hw0 : IntKind.i64.wrap 0 = 0 := by rw [IntKind.wrap_i64]; omega
      simp [Builtin.append_, run_underlying ht, run_underlying hu, sizeOf, typeInfo, hi, asInt, asIntOf, hw0, Builtin.zeroCells, zeroValue, hz]
    · have hgr := grown 0 (by omega) (Value.ownBlock (.slice none 0 0))
      refine ⟨_, _, _, ?_, hgr.1, hgr.2⟩
      apply run_held
      have f0 := fits 0 (by omega)
      have hn63' : ¬ ((9223372036854775807 : Int) < (m : Int)) := by omega
      simp [Builtin.append_, run_underlying ht, run_underlying hu, sizeOf, typeInfo, zeroValue, hi, hz, hsz, asInt, asIntOf, hwrap, hm0, hmb', hm, hn63', Question.forced, run_firstCells_none, newRow, grownCap]
      intro h
      rw [Nat.zero_add] at f0
      exact absurd h f0
  · injection hv with e1 e2 e3
    subst e1 e3
    rw [Nat.mul_one] at hcs htake
    by_cases hroom : n + m ≤ c
    · have hst := run_storeCells_at P g n e (List.replicate m z) 0 cur w hg (by simp; omega) (by intro v hv; rw [(List.mem_replicate.1 hv).2]; exact h1)
      simp only [Nat.add_zero] at hst
      refine ⟨some ⟨g, 0, none⟩, c, w.setRow g (cur.toList.take n ++ List.replicate m z ++ cur.toList.drop (n + (List.replicate m z).length)).toArray, ?_, ⟨hlen, .inr ⟨g, c, _, rfl, hbg, setRow_heap w g cur _ e _ hg, hroom, hcm, ?_, ?_⟩⟩, ⟨rfl, rfl, rfl, by simp, fun k _ hk => setRow_other w g k _ (fun e => hk (by simp [Value.ownBlock, e]))⟩⟩
      · apply run_held
        by_cases hm : m = 0
        · subst hm
          have hw0 : IntKind.i64.wrap 0 = 0 := by rw [IntKind.wrap_i64]; omega
          have hnc' : n ≤ c := by omega
          simp [Builtin.append_, run_underlying ht, run_underlying hu, sizeOf, typeInfo, zeroValue, hi, hz, asInt, asIntOf, hw0, hnc', storeCells, setRow_self w g cur e (0, 0) hg]
        · have hzl : (Builtin.zeroCells z.cells m).toList = List.replicate m z := by rw [hzc, zeroCells_toList]
          simp [Builtin.append_, run_underlying ht, run_underlying hu, sizeOf, typeInfo, zeroValue, hi, hz, hsz, asInt, asIntOf, hwrap, hm0, hmb', hm, hroom, add_lit, hzl, hst]
      · simp only [List.size_toArray, List.length_append, List.length_take, List.length_drop, Array.length_toList, List.length_replicate]
        omega
      · rw [htake, ← hlen]
        exact List.take_left
    · have hgr := grown c (by omega) (Value.ownBlock (.slice (some ⟨g, 0, none⟩) n c))
      refine ⟨_, _, _, ?_, hgr.1, hgr.2⟩
      apply run_held
      have hm : m ≠ 0 := by omega
      have f0 := fits c (by omega)
      have holds : ∀ j v, xs[j]? = some v → w.cell? ((⟨g, 0, none⟩ : Addr).add j) = some v := hown.cells (g := g) rfl
      have hfo := run_firstCells_some (P := P) w.drew 1 n ⟨g, 0, none⟩ n c xs (by omega) (by simpa using holds)
      simp [Builtin.append_, run_underlying ht, run_underlying hu, sizeOf, typeInfo, zeroValue, hi, hz, hsz, asInt, asIntOf, hwrap, hm0, hmb', hm, hroom, hn63, f0, Question.forced, hfo, newRow, grownCap]
end
end Go.Proofs.Ytamhigknobdloaa
