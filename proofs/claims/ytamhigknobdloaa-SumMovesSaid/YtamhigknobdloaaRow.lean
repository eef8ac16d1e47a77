/- What a row's frame says of its arguments, in the words of the walks; no condition. -/
import Derived.Test.YtamhigknobdloaaBase
import Derived.OpenShut
namespace Go.Proofs.Ytamhigknobdloaa
open Go.RowKit

/-- What the row's frame says of a slice of integers that came in, in this file's words. -/
def RowIn (k : IntKind) (w : World) (a : Option Addr) (len cap : Nat) (zs : List Int) : Prop :=
  (a = none ∧ len = 0 ∧ cap = 0 ∧ zs = []) ∨
  ∃ x, a = some x ∧ len ≤ cap ∧ cap ≤ maxLen ∧ zs.length = cap ∧ (∀ i, i < zs.length → w.cell? (x.add i) = some (.int k (zs.getD i 0))) ∧ ∀ n ∈ zs, (Lit.int k n).wf = true
theorem RowIn.sl {k : IntKind} {w : World} {a : Option Addr} {len cap : Nat} {zs : List Int} (h : RowIn k w a len cap zs) :
    (zs.take len).length = len ∧ Sl w a ((zs.take len).map (Value.int k)) ∧ len ≤ cap ∧ cap ≤ 9223372036854775807 ∧ (∀ n ∈ zs.take len, (Lit.int k n).wf = true) := by
  rcases h with ⟨rfl, rfl, rfl, rfl⟩ | ⟨x, rfl, hl, hm, hz, hc, hw⟩
  · exact ⟨rfl, .inl rfl, Nat.le_refl _, by omega, by simp⟩
  · refine ⟨by rw [List.length_take]; omega, ?_, hl, hm, fun n hn => hw n (List.mem_of_mem_take hn)⟩
    by_cases h0 : len = 0
    · subst h0; exact .inl (by simp)
    · obtain ⟨b, off, spot⟩ := x
      have hc0 := hc 0 (by omega)
      have hspot : spot = none := by simpa [Addr.add] using World.cell?_spot hc0
      subst hspot
      refine .inr ⟨b, off, rfl, fun j hj => ?_⟩
      have hj' : j < zs.length := by simp at hj; omega
      have := hc j hj'
      rw [add_lit] at this
      rw [this]
      simp [hj']
theorem RowIn.bytes {w : World} {a : Option Addr} {len cap : Nat} {zs : List Int} (h : RowIn .u8 w a len cap zs) :
    ∃ m : List UInt8, m.length = len ∧ Sl w a (m.map bv) ∧ len ≤ cap ∧ cap ≤ 9223372036854775807 := by
  obtain ⟨h1, h2, h3, h4, h5⟩ := h.sl
  refine ⟨(zs.take len).map fun n => UInt8.ofNat n.toNat, by simpa using h1, ?_, h3, h4⟩
  rw [List.map_map]
  rw [List.map_congr_left (g := Value.int .u8)]
  · exact h2
  · intro n hn
    have hb := bounds_u8 (h5 n hn)
    simp [bv]
    omega
end Go.Proofs.Ytamhigknobdloaa
