/- Tokens in memory, and the walk of awake of layer 1; no condition. -/
import Derived.Test.YtmjnipklbmokjaaTc
namespace Go.Proofs.Ytmjnipklbmokjaa
open Go.RowKit
set_option linter.unusedVariables false

theorem flat_length (l : List Tok) : (l.flatMap tcells).length = 3 * l.length := by rw [tcells_length]; omega
theorem flat_get (l : List Tok) (k j : Nat) (hk : k < l.length) (hj : j < 3) : (l.flatMap tcells)[3 * k + j]? = (tcells l[k])[j]? := by
  induction l generalizing k with
  | nil => simp at hk
  | cons p t ih =>
    rw [List.flatMap_cons]
    cases k with
    | zero => rw [List.getElem?_append_left (by simp [tcells]; omega)]; simp
    | succ k =>
      rw [List.getElem?_append_right (by simp [tcells]; omega)]
      have : 3 * (k + 1) + j - (tcells p).length = 3 * k + j := by simp [tcells]; omega
      rw [this, ih k (by simpa using hk)]
      simp
/-- Tokens that lie one after the other. -/
def Toks (w : World) (A : Option Addr) (l : List Tok) : Prop := Sl w A (l.flatMap tcells)
theorem Toks.below {w w' : World} {A : Option Addr} {l : List Tok} (h : Toks w A l) (hb : Below w.heap.size w w') : Toks w' A l := Sl.below h hb
/-- A token's text as a value. -/
def Tok.bytes (t : Tok) : ByteArray := ⟨t.text.toArray⟩
theorem Tok.bytes_size (t : Tok) : t.bytes.size = t.text.length := by simp [Tok.bytes, ByteArray.size]
theorem Tok.bytes_data (t : Tok) : t.bytes.data.toList = t.text := by simp [Tok.bytes]
theorem Tok.bytes_toList (t : Tok) : t.bytes.toList = t.text := by rw [Lib.toList_data, Tok.bytes_data]
/-- The three cells of the k-th token, as the walk spells their places. -/
theorem Toks.get {w : World} {A : Option Addr} {l : List Tok} (h : Toks w A l) {k : Nat} (hk : k < l.length) :
    ∃ b off, A = some ⟨b, off, none⟩ ∧ w.cell? ⟨b, off + k * 3, none⟩ = some (.int .i64 l[k].kind) ∧ w.cell? ⟨b, off + k * 3 + 1, none⟩ = some (.string l[k].bytes) ∧ w.cell? ⟨b, off + k * 3 + 2, none⟩ = some (.int .i64 l[k].pos) := by
  have key : ∃ b off, A = some ⟨b, off, none⟩ ∧ ∀ j, j < 3 → w.cell? ⟨b, off + 3 * k + j, none⟩ = (tcells l[k])[j]? := by
    obtain ⟨b, off, hA, _⟩ := Sl.at_ h (k := 3 * k) (by rw [flat_length]; omega)
    refine ⟨b, off, hA, fun j hj => ?_⟩
    rcases h with h | ⟨b', off', hA', hc⟩
    · have := congrArg List.length h
      rw [flat_length] at this
      simp at this
      omega
    · rw [hA] at hA'
      injection hA' with e
      injection e with e1 e2
      subst e1 e2
      have := hc (3 * k + j) (by rw [flat_length]; omega)
      rw [← flat_get l k j hk hj, Nat.add_assoc, this, List.getElem?_eq_getElem]
  obtain ⟨b, off, hA, hc⟩ := key
  rw [Nat.mul_comm 3 k] at hc
  exact ⟨b, off, hA, hc 0 (by omega), hc 1 (by omega), hc 2 (by omega)⟩

theorem aw1 : scanA [97, 45, 62, 98, 49, 32, 35, 32, 99] = .ok [⟨1, [97], 0⟩, ⟨3, [45, 62], 1⟩, ⟨1, [98, 49], 3⟩] := by rfl
theorem aw2 : scanA [97, 32, 36] = .error (1, 2) := by rfl

set_option maxHeartbeats 800000 in
theorem awake_any (w : World) : Calls Try.prog 10 #[] w fun e w' => e = .returned (.bool true) ∧ Below w.heap.size w w' := by
  go_enter Try.func10, Try.ntmps10
  go_wp2_with fail
  refine (scan_any ⟨#[97, 45, 62, 98, 49, 32, 35, 32, 99]⟩ _ (by decide)).mono ?_
  rw [show (⟨#[97, 45, 62, 98, 49, 32, 35, 32, 99]⟩ : ByteArray).data.toList = [97, 45, 62, 98, 49, 32, 35, 32, 99] from rfl, aw1]
  rintro e w1 ⟨A1, c1, rfl, own1, hb1⟩
  obtain ⟨g, rfl, hg1, hg2⟩ := own_addr own1 (by simp)
  have hc1 := own_cap own1
  have e3 : w1.cell? ⟨g, 3, none⟩ = some (.int .i64 3) := World.ownsRow.cellAt (j := 3) own1 (by simp)
  have e4 : w1.cell? ⟨g, 4, none⟩ = some (.string ⟨#[45, 62]⟩) := World.ownsRow.cellAt (j := 4) own1 (by simp)
  have e5 : w1.cell? ⟨g, 5, none⟩ = some (.int .i64 1) := World.ownsRow.cellAt (j := 5) own1 (by simp)
  have e7 : w1.cell? ⟨g, 7, none⟩ = some (.string ⟨#[98, 49]⟩) := World.ownsRow.cellAt (j := 7) own1 (by simp)
  clear own1
  go_wp2_with fail
  refine (scan_any ⟨#[97, 32, 36]⟩ _ (by decide)).mono ?_
  rw [show (⟨#[97, 32, 36]⟩ : ByteArray).data.toList = [97, 32, 36] from rfl, aw2]
  rintro e w2 ⟨rfl, hb2⟩
  obtain ⟨hcell, _⟩ := bcell hb2
  go_wp2
  go_ret
  exact ⟨rfl, below_next hb1 hb2⟩
end Go.Proofs.Ytmjnipklbmokjaa
