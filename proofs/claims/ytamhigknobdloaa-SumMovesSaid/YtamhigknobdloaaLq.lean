/- Plain laws of one laid part and of parts without alignment; no condition. -/
import Derived.Test.YtamhigknobdloaaLb
namespace Go.Proofs.Ytamhigknobdloaa
open Go.RowKit

theorem alignI_zero (b : Int) : alignI 0 b = 0 := by
  unfold alignI; simp
theorem alignI_one (a : Int) : alignI a 1 = a := by
  unfold alignI; simp [Int.emod_one]
theorem lay_single (p : Part) (h : p.valid = true) : layGo Laid.start [p] = some ⟨p.s, p.al, p.sp, [0]⟩ := by
  obtain ⟨h1, h2, h3, h4⟩ := (valid_iff p).1 h
  have hf : Laid.start.fits p = true := by
    unfold Laid.fits Laid.start; rw [alignI_zero]; simpa using h2
  have ha : Laid.start.add p = ⟨p.s, p.al, p.sp, [0]⟩ := by
    unfold Laid.add Laid.start
    simp only [alignI_zero, Int.zero_add, Int.sub_zero, Int.toNat_zero, List.replicate_zero, List.nil_append, Laid.mk.injEq, and_true, true_and]
    rcases h3 with e | e <;> rw [e] <;> decide
  show (if Laid.start.fits p then layGo (Laid.start.add p) [] else none) = _
  rw [if_pos hf, ha]
  rfl
/-- The sum of the sizes. -/
def sumS : List Part → Int
  | [] => 0
  | p :: t => p.s + sumS t
theorem sumS_append (a b : List Part) : sumS (a ++ b) = sumS a + sumS b := by
  induction a with
  | nil => simp [sumS]
  | cons c a ih => simp only [List.cons_append, sumS, ih]; omega
theorem sumS_reverse (a : List Part) : sumS a.reverse = sumS a := by
  induction a with
  | nil => rfl
  | cons c a ih => rw [List.reverse_cons, sumS_append, ih]; simp only [sumS]; omega
theorem sumS_nonneg (a : List Part) (h : ∀ p ∈ a, 0 ≤ p.s) : 0 ≤ sumS a := by
  induction a with
  | nil => exact Int.le_refl _
  | cons c a ih =>
    have h1 := h c (List.mem_cons_self ..)
    have h2 := ih (fun p hp => h p (List.mem_cons_of_mem _ hp))
    simp only [sumS]; omega
theorem lay_ones (ps : List Part) : ∀ (M : Laid), M.al = 1 → (∀ p ∈ ps, 0 ≤ p.s ∧ p.al = 1) → M.s + sumS ps ≤ 1024 → ∃ L, layGo M ps = some L ∧ L.s = M.s + sumS ps ∧ L.al = 1 := by
  induction ps with
  | nil => intro M h _ _; exact ⟨M, rfl, by simp [sumS], h⟩
  | cons p t ih =>
    intro M hM hp hs
    obtain ⟨h1, h2⟩ := hp p (List.mem_cons_self ..)
    have hn := sumS_nonneg t (fun q hq => (hp q (List.mem_cons_of_mem _ hq)).1)
    simp only [sumS] at hs
    have hf : M.fits p = true := by
      unfold Laid.fits; rw [h2, alignI_one]; simp; omega
    have e1 : (M.add p).s = M.s + p.s := by unfold Laid.add; simp only [h2, alignI_one]
    have e2 : (M.add p).al = 1 := by unfold Laid.add; simp only [h2, hM]; decide
    obtain ⟨L, l1, l2, l3⟩ := ih (M.add p) e2 (fun q hq => hp q (List.mem_cons_of_mem _ hq)) (by rw [e1]; omega)
    refine ⟨L, ?_, ?_, l3⟩
    · show (if M.fits p then layGo (M.add p) t else none) = _
      rw [if_pos hf, l1]
    · rw [l2, e1]; simp only [sumS]; omega
end Go.Proofs.Ytamhigknobdloaa
