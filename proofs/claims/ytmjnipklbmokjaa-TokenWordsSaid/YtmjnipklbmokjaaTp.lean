/- The walk of the law TokenWords; condition: what package bytealg's own variable holds is some number. -/
import Derived.Test.YtmjnipklbmokjaaTo
namespace Go.Proofs.Ytmjnipklbmokjaa
open Go.RowKit
set_option linter.unusedVariables false

/-- The words that are looked at. -/
def looksL : List Bs := [[108, 105, 98, 114, 97, 114, 121], [83, 101, 108, 102], [73, 110, 116], [111, 102], [111, 114, 100], [97], [102, 111, 114, 114], [97, 98, 99, 100, 101, 102, 103, 104, 105, 106, 107, 108, 109, 110, 111, 112], [97, 98, 99, 100, 101, 102, 103, 104, 105, 106, 107, 108, 109, 110, 111, 112, 113], [49, 97], [97, 95, 98], [], [65, 114, 114, 97, 121], [116, 104, 101, 110]]
theorem looks_len : looksL.length = 14 := rfl
theorem looks_size : ∀ p ∈ looksL, p.length ≤ 20 := by decide +kernel

set_option maxHeartbeats 1600000 in
set_option maxRecDepth 100000 in
theorem words_walk (s : ByteArray) (k m : Int) (w : World) (hs63 : s.size ≤ 9223372036854775807) (hk0 : -9223372036854775808 ≤ k) (hk1 : k ≤ 9223372036854775807) (hm : w.cell? ⟨0, 0, none⟩ = some (.int .i64 m)) :
    Calls Try.prog 8 #[.string s, .int .i64 k] w fun e w' => e = .returned (.bool true) ∧ Below w.heap.size w w' := by
  have hlow := World.block_lt_of_cell? w ⟨0, 0, none⟩ hm
  by_cases hbig : 100 < s.size
  · have hd : decide ((100 : Int) < s.size) = true := by simp; omega
    go_enter Try.func8, Try.ntmps8
    go_wp2_with fail
    refine (awake_any _).mono ?_
    rintro e w1 ⟨rfl, hb⟩
    go_wp2
    go_ret
    exact ⟨rfl, hb⟩
  have hd : decide ((100 : Int) < s.size) = false := by simp; omega
  have e1 := Int.emod_nonneg k (show (14 : Int) ≠ 0 by omega)
  have e2 := Int.emod_lt_of_pos k (show (0 : Int) < 14 by omega)
  obtain ⟨j, hj⟩ := Int.eq_ofNat_of_zero_le e1
  have hj14 : j < 14 := by omega
  have HJ := Lib.hid hj
  clear hj e1 e2
  have hW1 : (w.alloc (.cells #[.string ⟨#[108, 105, 98, 114, 97, 114, 121]⟩, .string ⟨#[83, 101, 108, 102]⟩, .string ⟨#[73, 110, 116]⟩, .string ⟨#[111, 102]⟩, .string ⟨#[111, 114, 100]⟩, .string ⟨#[97]⟩, .string ⟨#[102, 111, 114, 114]⟩, .string ⟨#[97, 98, 99, 100, 101, 102, 103, 104, 105, 106, 107, 108, 109, 110, 111, 112]⟩, .string ⟨#[97, 98, 99, 100, 101, 102, 103, 104, 105, 106, 107, 108, 109, 110, 111, 112, 113]⟩, .string ⟨#[49, 97]⟩, .string ⟨#[97, 95, 98]⟩, .string ⟨#[]⟩, .string ⟨#[65, 114, 114, 97, 121]⟩, .string ⟨#[116, 104, 101, 110]⟩] 9)) = w.alloc (.cells (looksL.map sv).toArray 9) := rfl
  have hb1 := (Below.refl w.heap.size w).alloc (Nat.le_refl _) (.cells (looksL.map sv).toArray 9)
  have hsl : Sl (w.alloc (.cells (looksL.map sv).toArray 9)) (some ⟨w.heap.size, 0, none⟩) (looksL.map sv) := Sl.new w _ 9
  have HW := Lib.hid hW1
  clear hW1
  go_enter Try.func8, Try.ntmps8
  go_wp2_with fail
  refine (mod_any k 14 _ (by omega) (by omega) hk0 hk1).mono ?_
  rw [HW.out]
  rintro e w1 ⟨rfl, rfl⟩
  rw [show k % ((14 : Nat) : Int) = (j : Int) from HJ.out]
  have hm1 := hb1.cell (p := ⟨0, 0, none⟩) hlow
  rw [hm] at hm1
  have HB1 := Lib.hid hb1
  clear hb1
  generalize hWe : w.alloc (.cells (looksL.map sv).toArray 9) = W at *
  clear hWe
  obtain ⟨pb, po, hpe, hcp⟩ := hsl.at_ (k := j) (by rw [List.length_map, looks_len]; exact hj14)
  injection hpe with hpe
  injection hpe with e1 e2
  subst e1 e2
  rw [List.getElem_map, Nat.zero_add] at hcp
  have hcp' : W.cell? ⟨w.heap.size, j, none⟩ = some (.string (bsB (looksL[j]'(by rw [looks_len]; exact hj14)))) := hcp
  have hPs : (bsB (looksL[j]'(by rw [looks_len]; exact hj14))).size ≤ 20 := by rw [bsB_size]; exact looks_size _ (List.getElem_mem _)
  clear hcp hsl
  generalize bsB (looksL[j]'(by rw [looks_len]; exact hj14)) = P at *
  have hX0 := Sl.new W #[.string s, .string P] 9
  have hb2 := (Below.refl W.heap.size W).alloc (Nat.le_refl _) (.cells #[.string s, .string P] 9)
  have hm2 := (Below.heap_alloc W (.cells #[.string s, .string P] 9) 0 (World.block_lt_of_cell? W ⟨0, 0, none⟩ hm1))
  have hlow1 := World.block_lt_of_cell? W ⟨0, 0, none⟩ hm1
  have hm3 := hb2.cell (p := ⟨0, 0, none⟩) hlow1
  rw [hm1] at hm3
  have hb3 := below_next HB1.out hb2
  clear hm2 hb2 hm1 hm HW
  have hj0 : (0 : Int) ≤ (j : Int) := by omega
  have hjI : (j : Int) < 14 := by omega
  go_wp2_with fail
  have HB3 := Lib.hid hb3
  clear hb3 hcp' HB1
  generalize W.alloc (.cells #[.string s, .string P] 9) = V at *
  generalize W.heap.size = gx at *
  have hlow2 := World.block_lt_of_cell? V ⟨0, 0, none⟩ hm3
  have hb0 := Below.refl V.heap.size V
  go_loopw [23] (fun v23 wr => ∃ i : Nat, i ≤ 2 ∧ v23 = .int .i64 i ∧ Below V.heap.size V wr) (fun v23 _ => 2 - (intOf v23).toNat)
  case atStart => exact ⟨0, by omega, rfl, hb0⟩
  case round =>
    obtain ⟨i, hi, rfl, hb⟩ := hrel
    by_cases hlt : i < 2
    · obtain ⟨X, hcx, hX⟩ : ∃ X : ByteArray, wr.cell? ⟨gx, i, none⟩ = some (.string X) ∧ X.size ≤ 100 := by
        obtain ⟨xb, xo, hxe, hcx⟩ := (hX0.below hb).at_ (k := i) (by simpa using hlt)
        injection hxe with hxe
        injection hxe with e1 e2
        subst e1 e2
        rw [Nat.zero_add] at hcx
        rcases (show i = 0 ∨ i = 1 by omega) with rfl | rfl
        · exact ⟨s, hcx, by omega⟩
        · exact ⟨P, hcx, by omega⟩
      have hX0' := Lib.hid hX0
      have hmr := hb.cell (p := ⟨0, 0, none⟩) hlow2
      rw [hm3] at hmr
      have HMR := Lib.hid hmr
      clear hX0 hmr
      go_wp2_with fail
      refine (reserved_any X m _ (by omega) HMR.out).mono ?_
      rintro e w2 ⟨rfl, rfl⟩
      go_wp2_with fail
      refine (rreserved_any X _ (by omega)).mono ?_
      rintro e w2 ⟨rfl, hb2⟩
      have hm2 := hb2.cell (p := ⟨0, 0, none⟩) (World.block_lt_of_cell? wr ⟨0, 0, none⟩ HMR.out)
      rw [HMR.out] at hm2
      have HM2 := Lib.hid hm2
      clear hm2
      go_wp2_with fail
      refine (valid_any X m _ (by omega) HM2.out).mono ?_
      rintro e w3 ⟨rfl, rfl⟩
      go_wp2_with fail
      refine (rvalid_any X _ (by omega)).mono ?_
      rintro e w3 ⟨rfl, hb3⟩
      go_wp2
      go_roundw
      case rel => exact ⟨i + 1, by omega, by go_num, below_next (below_next hb hb2) hb3⟩
      case measure => simp [intOf]; omega
    · obtain rfl : i = 2 := by omega
      go_wp2_with fail
      refine (awake_any _).mono ?_
      rintro e w4 ⟨rfl, hb4⟩
      go_wp2
      go_ret
      exact ⟨rfl, below_next (below_next HB3.out hb) hb4⟩
end Go.Proofs.Ytmjnipklbmokjaa
