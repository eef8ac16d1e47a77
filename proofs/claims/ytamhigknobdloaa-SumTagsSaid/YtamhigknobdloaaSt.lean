/- The walk of the law SumTags; no condition but that the numbers are bytes. -/
import Derived.Test.YtamhigknobdloaaSn
namespace Go.Proofs.Ytamhigknobdloaa
open Go.RowKit
set_option linter.unusedVariables false

def zp : Part := ⟨0, 0, none, [], 0, .slice none 0 0, .slice none 0 0, .slice none 0 0, .slice none 0 0, .bool false⟩
/-- The layouts when i of them have their alignment. -/
def tparts (i k : Nat) : List Part := List.replicate i pe ++ List.replicate (k - i) zp
def tname (i : Nat) : ByteArray := ⟨#[99, 97 + UInt8.ofNat i]⟩
theorem tname_eq (i : Nat) : ({ data := #[99] } : ByteArray) ++ ({ data := #[97 + UInt8.ofNat i] } : ByteArray) = tname i := by
  apply ByteArray.ext
  rw [ByteArray.data_append]; rfl
def tnames (i k : Nat) : List ByteArray := (List.range i).map tname ++ List.replicate (k - i) ⟨#[]⟩
theorem tparts_length (i k : Nat) (h : i ≤ k) : (tparts i k).length = k := by unfold tparts; simp; omega
theorem tnames_length (i k : Nat) (h : i ≤ k) : (tnames i k).length = k := by unfold tnames; simp; omega
theorem tparts_get (i k j : Nat) (h : j < k) : (tparts i k)[j]? = some (if j < i then pe else zp) := by
  unfold tparts
  by_cases hj : j < i
  · rw [List.getElem?_append_left (by simp; omega), if_pos hj, List.getElem?_replicate, if_pos hj]
  · rw [List.getElem?_append_right (by simp; omega), if_neg hj, List.length_replicate, List.getElem?_replicate, if_pos (by omega)]
theorem tnames_get (i k j : Nat) (h : j < k) : (tnames i k)[j]? = some (if j < i then tname j else ⟨#[]⟩) := by
  unfold tnames
  by_cases hj : j < i
  · rw [List.getElem?_append_left (by simp; omega), if_pos hj, List.getElem?_map, List.getElem?_range hj]; rfl
  · rw [List.getElem?_append_right (by simp; omega), if_neg hj, List.length_map, List.length_range, List.getElem?_replicate, if_pos (by omega)]
theorem tparts_set (i k : Nat) (h : i < k) : ((tparts i k).flatMap Part.cells).toArray.setIfInBounds (i * 8 + 1) (.int .i64 1) = ((tparts (i + 1) k).flatMap Part.cells).toArray := by
  rw [List.setIfInBounds_toArray]
  congr 1
  apply List.ext_getElem?
  intro t
  have hl1 := flat_length (tparts i k)
  have hl2 := flat_length (tparts (i + 1) k)
  rw [tparts_length i k (by omega)] at hl1
  rw [tparts_length (i + 1) k (by omega)] at hl2
  rw [List.getElem?_set]
  by_cases ht : t < 8 * k
  · have hd : t / 8 < k := by omega
    have hm : t % 8 < 8 := Nat.mod_lt _ (by omega)
    have e : t = 8 * (t / 8) + t % 8 := by omega
    have g1 := tparts_get i k (t / 8) hd
    have g2 := tparts_get (i + 1) k (t / 8) hd
    have k1 : t / 8 < (tparts i k).length := by rw [tparts_length _ _ (by omega)]; exact hd
    have k2 : t / 8 < (tparts (i + 1) k).length := by rw [tparts_length _ _ (by omega)]; exact hd
    rw [List.getElem?_eq_getElem k1] at g1
    rw [List.getElem?_eq_getElem k2] at g2
    injection g1 with g1
    injection g2 with g2
    have f1 := flat_get (tparts i k) (t / 8) (t % 8) k1 hm
    have f2 := flat_get (tparts (i + 1) k) (t / 8) (t % 8) k2 hm
    rw [← e] at f1 f2
    rw [f1, f2, g1, g2]
    by_cases hti : t = i * 8 + 1
    · rw [if_pos hti.symm, if_pos (by rw [hl1]; omega)]
      have e1 : t / 8 = i := by omega
      have e2 : t % 8 = 1 := by omega
      rw [e1, e2, if_pos (by omega)]
      rfl
    · rw [if_neg (fun e => hti e.symm)]
      by_cases h1 : t / 8 < i
      · rw [if_pos h1, if_pos (by omega)]
      · by_cases h2 : t / 8 = i
        · rw [if_neg h1, if_pos (by omega)]
          have h3 : t % 8 ≠ 1 := by omega
          rcases (show t % 8 = 0 ∨ t % 8 = 2 ∨ t % 8 = 3 ∨ t % 8 = 4 ∨ t % 8 = 5 ∨ t % 8 = 6 ∨ t % 8 = 7 by omega) with h | h | h | h | h | h | h <;> rw [h] <;> rfl
        · rw [if_neg h1, if_neg (by omega)]
  · rw [if_neg (by omega), List.getElem?_eq_none (by omega), List.getElem?_eq_none (by omega)]
theorem tnames_set (i k : Nat) (h : i < k) : ((tnames i k).map Value.string).toArray.setIfInBounds i (.string (tname i)) = ((tnames (i + 1) k).map Value.string).toArray := by
  rw [List.setIfInBounds_toArray]
  congr 1
  apply List.ext_getElem?
  intro t
  rw [List.getElem?_set, List.getElem?_map, List.getElem?_map, List.length_map, tnames_length i k (by omega)]
  by_cases ht : t < k
  · rw [tnames_get i k t ht, tnames_get (i + 1) k t ht]
    by_cases hti : t = i
    · rw [if_pos hti.symm, if_pos (by omega), if_pos (by omega), hti]; rfl
    · rw [if_neg (fun e => hti e.symm)]
      by_cases h1 : t < i
      · rw [if_pos h1, if_pos (by omega)]
      · rw [if_neg h1, if_neg (by omega)]
  · rw [if_neg (by omega), List.getElem?_eq_none (by rw [tnames_length _ _ (by omega)]; omega), List.getElem?_eq_none (by rw [tnames_length _ _ (by omega)]; omega)]
/-- The union of k cases without payload. -/
def tagUn (k : Nat) : Un := (unionR (inside (List.replicate k pe) (List.replicate k false)) k).getD Un.zero
theorem tag_sum : ∀ k : Fin 11, sumE (List.replicate (k.val + 2) pe) (k.val + 2) (List.replicate (k.val + 2) false) = 0 := by decide +kernel
theorem tag_some : ∀ k : Fin 11, (unionR (inside (List.replicate (k.val + 2) pe) (List.replicate (k.val + 2) false)) (k.val + 2)).isSome = true := by decide +kernel
theorem tag_un : ∀ k : Fin 11, (tagUn (k.val + 2)).s = 1 ∧ (tagUn (k.val + 2)).al = 1 := by decide +kernel
theorem tag_proj : ∀ k : Fin 11, ∀ b : Fin 256, unProj (inside (List.replicate (k.val + 2) pe) (List.replicate (k.val + 2) false)) (tagUn (k.val + 2)) [UInt8.ofNat b.val] = if b.val < k.val + 2 then some (b.val, []) else none := by decide +kernel
theorem tag_nil : ∀ k : Fin 11, unProj (inside (List.replicate (k.val + 2) pe) (List.replicate (k.val + 2) false)) (tagUn (k.val + 2)) [] = none := by decide +kernel
theorem tag_size : ∀ k : Fin 11, k.val + 2 ≤ 2 ^ tagS ((k.val + 2 : Nat) : Int) ∧ 1 ≤ tagS ((k.val + 2 : Nat) : Int) ∧ tagS ((k.val + 2 : Nat) : Int) ≤ 4 ∧ 2 ^ (tagS ((k.val + 2 : Nat) : Int) - 1) < k.val + 2 := by decide +kernel
theorem mkL (k : Nat) (h2 : 2 ≤ k) (h : k ≤ 12) (w : World) : (Instr.makeSlice 22 (.int .i64 (k : Int)) (.int .i64 (k : Int))).run Try.prog w = .ok (.slice (some ⟨w.heap.size, 0, none⟩) k k) (w.alloc (.cells ((tparts 0 k).flatMap Part.cells).toArray 31)) := by
  rcases (show k = 2 ∨ k = 3 ∨ k = 4 ∨ k = 5 ∨ k = 6 ∨ k = 7 ∨ k = 8 ∨ k = 9 ∨ k = 10 ∨ k = 11 ∨ k = 12 by omega) with rfl | rfl | rfl | rfl | rfl | rfl | rfl | rfl | rfl | rfl | rfl <;> kernel_rfl
theorem mkN (k : Nat) (h2 : 2 ≤ k) (h : k ≤ 12) (w : World) : (Instr.makeSlice 66 (.int .i64 (k : Int)) (.int .i64 (k : Int))).run Try.prog w = .ok (.slice (some ⟨w.heap.size, 0, none⟩) k k) (w.alloc (.cells ((tnames 0 k).map Value.string).toArray 9)) := by
  rcases (show k = 2 ∨ k = 3 ∨ k = 4 ∨ k = 5 ∨ k = 6 ∨ k = 7 ∨ k = 8 ∨ k = 9 ∨ k = 10 ∨ k = 11 ∨ k = 12 by omega) with rfl | rfl | rfl | rfl | rfl | rfl | rfl | rfl | rfl | rfl | rfl <;> kernel_rfl
theorem mkB (k : Nat) (h2 : 2 ≤ k) (h : k ≤ 12) (w : World) : (Instr.makeSlice 67 (.int .i64 (k : Int)) (.int .i64 (k : Int))).run Try.prog w = .ok (.slice (some ⟨w.heap.size, 0, none⟩) k k) (w.alloc (.cells (Array.replicate k (.bool false)) 4)) := by
  rcases (show k = 2 ∨ k = 3 ∨ k = 4 ∨ k = 5 ∨ k = 6 ∨ k = 7 ∨ k = 8 ∨ k = 9 ∨ k = 10 ∨ k = 11 ∨ k = 12 by omega) with rfl | rfl | rfl | rfl | rfl | rfl | rfl | rfl | rfl | rfl | rfl <;> kernel_rfl
set_option maxHeartbeats 3200000 in
set_option maxRecDepth 100000 in
theorem sumtags_walk (n b : UInt8) (w : World) :
    Calls Try.prog 17 #[bv n, bv b] w fun e w' => e = .returned (.bool true) ∧ Below w.heap.size w w' := by
  have hn := n.toNat_lt
  obtain ⟨r, hr⟩ : ∃ r : Nat, r = n.toNat % 11 := ⟨_, rfl⟩
  have hr11 : r < 11 := by rw [hr]; exact Nat.mod_lt _ (by omega)
  have hrm : (n.toNat : Int) % 11 = (r : Int) := by rw [hr]; omega
  obtain ⟨k, hk⟩ : ∃ k, k = r + 2 := ⟨_, rfl⟩
  have hk12 : k ≤ 12 := by omega
  have hk2 : 2 ≤ k := by omega
  have hkr : 2 + (r : Int) = (k : Int) := by omega
  have m1 := mkL k hk2 hk12
  have m2 := mkN k hk2 hk12
  have m3 := mkB k hk2 hk12
  have HR := Lib.hid hr
  have HK := Lib.hid hk
  have b0 : (n.toNat : Int) ≤ 255 := by omega
  have hb1 : (b.toNat : Int) ≤ 255 := by have := b.toNat_lt; omega
  clear hr hk hn
  obtain ⟨L, hL⟩ : ∃ L, L = w.heap.size := ⟨_, rfl⟩
  have hl0 : Blk ((w.alloc (.cells ((tparts 0 k).flatMap Part.cells).toArray 31)).alloc (.cells ((tnames 0 k).map Value.string).toArray 9)) L 31 ((tparts 0 k).flatMap Part.cells).toArray := by rw [hL]; exact (Blk.new _ _ _).alloc _
  have hn0 : Blk ((w.alloc (.cells ((tparts 0 k).flatMap Part.cells).toArray 31)).alloc (.cells ((tnames 0 k).map Value.string).toArray 9)) (L + 1) 9 ((tnames 0 k).map Value.string).toArray := by rw [hL]; exact Blk.new' (by simp)
  have hbb := ((Below.refl w.heap.size w).alloc (Nat.le_refl _) (.cells ((tparts 0 k).flatMap Part.cells).toArray 31)).alloc (by simp) (.cells ((tnames 0 k).map Value.string).toArray 9)
  have HL := Lib.hid hL
  have HL0 := Lib.hid hl0
  have HN0 := Lib.hid hn0
  have HBB := Lib.hid hbb
  clear hL hl0 hn0 hbb
  go_enter Try.func17, Try.ntmps17
  go_wp2_with fail
  rw [← HL.out]
  go_loopw [25] (fun v25 wr => ∃ i : Nat, i ≤ k ∧ v25 = .int .i64 i ∧ Blk wr L 31 ((tparts i k).flatMap Part.cells).toArray ∧ Blk wr (L + 1) 9 ((tnames i k).map Value.string).toArray ∧ Below w.heap.size w wr) (fun v25 _ => k - (intOf v25).toNat)
  case atStart => exact ⟨0, by omega, rfl, HL0.out, HN0.out, HBB.out⟩
  case round =>
    obtain ⟨i, hi, rfl, hBl, hBn, hb⟩ := hrel
    clear HL0 HN0 HBB m1 m2
    by_cases hlt : i < k
    · obtain ⟨u1, hc1⟩ : ∃ u, wr.cell? ⟨L, i * 8 + 1, none⟩ = some u := by
        rw [hBl.cell]
        exact ⟨_, Array.getElem?_eq_getElem (by rw [List.size_toArray, flat_length, tparts_length i k (by omega)]; omega)⟩
      obtain ⟨u2, hc2⟩ : ∃ u, wr.cell? ⟨L + 1, i, none⟩ = some u := by
        rw [hBn.cell]
        exact ⟨_, Array.getElem?_eq_getElem (by rw [List.size_toArray, List.length_map, tnames_length i k (by omega)]; omega)⟩
      have hf1 := hBl.frozen (i * 8 + 1)
      have hf2 := hBn.frozen i
      have hltn : L + 1 < wr.heap.size := hBn.lt
      have e97 : (97 : Int) + (i : Int) = ((97 + UInt8.ofNat i).toNat : Int) := by
        have h : (97 : UInt8).toNat = 97 := rfl
        rw [UInt8.toNat_add, UInt8.toNat_ofNat', h]; omega
      have hB1 := hBl.set_ (i * 8 + 1) (.int .i64 1)
      rw [tparts_set i k hlt] at hB1
      have hN1 := hBn.far (p := ⟨L, i * 8 + 1, none⟩) (by show L + 1 ≠ L; omega) (.int .i64 1)
      have hB2 := (hB1.far (p := ⟨L + 1, i, none⟩) (by show L ≠ L + 1; omega) (.string (tname i))).alloc (.cells #[.int .u8 (97 + (i : Int))] 5)
      have hN2 := (hN1.set_ i (.string (tname i))).alloc (.cells #[.int .u8 (97 + (i : Int))] 5)
      rw [tnames_set i k hlt] at hN2
      have hbd := ((hb.setCell (p := ⟨L, i * 8 + 1, none⟩) (by show w.heap.size ≤ L; rw [HL.out]; exact Nat.le_refl _) (.int .i64 1)).setCell (p := ⟨L + 1, i, none⟩) (by show w.heap.size ≤ L + 1; rw [HL.out]; omega) (.string (tname i)))
      have hbd2 := hbd.alloc hbd.size (.cells #[.int .u8 (97 + (i : Int))] 5)
      have hsl : Sl ((wr.setCell ⟨L, i * 8 + 1, none⟩ (.int .i64 1)).alloc (.cells #[.int .u8 (97 + (i : Int))] 5)) (some ⟨wr.heap.size, 0, none⟩) (([97 + UInt8.ofNat i] : List UInt8).map bv) := by
        have h := Sl.new (wr.setCell ⟨L, i * 8 + 1, none⟩ (.int .i64 1)) #[.int .u8 (97 + (i : Int))] 5
        have e : (#[.int .u8 (97 + (i : Int))] : Array Value).toList = ([97 + UInt8.ofNat i] : List UInt8).map bv := by
          show [Value.int .u8 (97 + (i : Int))] = [bv (97 + UInt8.ofNat i)]
          rw [e97]
        rw [e] at h
        simpa using h
      have cv := run_convb (P := Try.prog) ((wr.setCell ⟨L, i * 8 + 1, none⟩ (.int .i64 1)).alloc (.cells #[.int .u8 (97 + (i : Int))] 5)) 27 9 5 (some ⟨wr.heap.size, 0, none⟩) 1 1 [97 + UInt8.ofNat i] Try.underlying27 Try.underlying5 Try.underlying9 hsl rfl
      have hk0 : (0 : Int) ≤ (i : Int) := Int.natCast_nonneg _
      have hk1 : (i : Int) < (k : Int) := by omega
      have HB2 := Lib.hid hB2
      have HN2 := Lib.hid hN2
      have HB := Lib.hid hbd2
      have hte := tname_eq i
      have htn := Lib.hid (rfl : tname i = tname i)
      clear hB1 hN1 hB2 hN2 hbd hbd2 hb hBl hBn e97 hsl
      go_wp2_with fail
      go_roundw
      case rel => exact ⟨i + 1, by omega, by go_num, HB2.out, HN2.out, HB.out⟩
      case measure => simp [intOf]; omega
    · have hik : k = i := by omega
      subst hik
      have hkr2 : k = r + 2 := HK.out
      have hE : sumE (List.replicate k pe) k (List.replicate k false) = 0 := by have h := tag_sum ⟨r, hr11⟩; rw [hkr2]; exact h
      have hS : (unionR (inside (List.replicate k pe) (List.replicate k false)) k).isSome = true := by have h := tag_some ⟨r, hr11⟩; rw [hkr2]; exact h
      have hu : unionR (inside (List.replicate k pe) (List.replicate k false)) k = some (tagUn k) := by
        unfold tagUn
        cases h : unionR (inside (List.replicate k pe) (List.replicate k false)) k with
        | none => rw [h] at hS; cases hS
        | some u => rfl
      have hsz : (tagUn k).s = 1 ∧ (tagUn k).al = 1 := by have h := tag_un ⟨r, hr11⟩; rw [hkr2]; exact h
      have hts := tag_size ⟨r, hr11⟩
      simp only at hts
      rw [← hkr2] at hts
      have hpv : ∀ p ∈ List.replicate k pe, p.valid = true := by intro p hp; rw [(List.mem_replicate.1 hp).2]; rfl
      have hgood := unionR_good (inside_valid (bs := List.replicate k false) hpv) hu (by omega)
      have hpr : unProj (inside (List.replicate k pe) (List.replicate k false)) (tagUn k) [b] = if b.toNat < k then some (b.toNat, []) else none := by
        have h := tag_proj ⟨r, hr11⟩ ⟨b.toNat, b.toNat_lt⟩
        simp only at h
        rw [← hkr2] at h
        rw [show UInt8.ofNat b.toNat = b from UInt8.ofNat_toNat] at h
        exact h
      have hpn : unProj (inside (List.replicate k pe) (List.replicate k false)) (tagUn k) [] = none := by have h := tag_nil ⟨r, hr11⟩; rw [hkr2]; exact h
      have htp : tparts k k = List.replicate k pe := by unfold tparts; simp
      rw [htp] at hBl
      generalize tagUn k = u at *
      obtain ⟨t, ht⟩ : ∃ t, tagS (k : Int) = t + 1 := ⟨tagS (k : Int) - 1, by omega⟩
      have ht3 : t ≤ 3 := by omega
      have ht1 : k ≤ 2 ^ (t + 1) := by have h := hts.1; rw [ht] at h; exact h
      have ht2 : 2 ^ t < k := by have h := hts.2.2.2; rw [ht, Nat.add_sub_cancel] at h; exact h
      have hlay := sumlay_any (some ⟨L, 0, none⟩) k k (List.replicate k pe) (some ⟨L + 1, 0, none⟩) k k (tnames k k) (some ⟨wr.heap.size, 0, none⟩) k k (List.replicate k false) (List.replicate k []) (wr.alloc (.cells (Array.replicate k (.bool false)) 4)) (by simp) (tnames_length k k (Nat.le_refl _)) (by simp) (by simp)
        (by have h := Sl.ofBlk (hBl.alloc (.cells (Array.replicate k (.bool false)) 4)); show Sl _ _ ((List.replicate k pe).flatMap Part.cells); simpa using h)
        (by have h := Sl.ofBlk (hBn.alloc (.cells (Array.replicate k (.bool false)) 4)); simpa using h)
        (by have h := Sl.new wr (Array.replicate k (.bool false)) 4; simpa using h) (by omega)
        (by intro p hp; rw [(List.mem_replicate.1 hp).2]; exact .inl rfl) (by intro p hp; rw [(List.mem_replicate.1 hp).2]; exact ⟨rfl, rfl, rfl, rfl, rfl⟩)
        (by
          intro j h1 h2
          have e1 : (List.replicate k pe)[j] = pe := by simp
          have e2 : (List.replicate k ([] : List Int))[j] = [] := by simp
          rw [e1, e2]; exact noOffs _)
      have HLAY := Lib.hid hlay
      have HU := Lib.hid hu
      have HE := Lib.hid hE
      have HG := Lib.hid hgood
      have HSZ := Lib.hid hsz
      have HPR := Lib.hid hpr
      have HPN := Lib.hid hpn
      have HT := Lib.hid ht
      have HT1 := Lib.hid ht1
      have HT2 := Lib.hid ht2
      have HPV := Lib.hid hpv
      have HB := Lib.hid (hb.alloc hb.size (.cells (Array.replicate k (.bool false)) 4))
      clear hlay hE hS hu hsz hts hpv hgood hpr hpn htp hBl hBn hb ht ht1 ht2 hkr2
      go_wp2_with fail
      refine HLAY.out.mono ?_
      intro e w3 h3
      obtain ⟨As, cs, Ac, cc, Az, cz, qs, he, hat, hb3⟩ := h3.yes (by rw [tnames_length k k (Nat.le_refl _)]; exact HE.out) (u := u) (by rw [List.length_replicate]; exact HU.out)
      rw [List.length_replicate] at he hat
      have hvl : unV u k As cs Ac cc Az cz = .agg #[.int .i64 1, .int .i64 1, .slice As 1 cs, .slice none 0 0, .slice none 0 0, .slice Ac k cc, .slice Az (t + 1) cz, .bool false] := by
        have e1 : u.sp.length = 1 := by have h1 := HG.out.sp; have h2 := HSZ.out.1; omega
        have e2 : u.tags.length = t + 1 := by rw [HG.out.tags, HT.out]
        unfold unV
        rw [HSZ.out.1, HSZ.out.2, e1, e2]
      rw [hvl] at he
      subst he
      have hLay : LayOf w3 (unP u k As cs Ac cc Az cz) qs (intsN u.tags) := hat.layOf HG.out hk12 (hat.cases_s (tnames_length k k (Nat.le_refl _)) (by simp) (by simp) (by simp) HPV.out)
      have hpj := fun m => hat.projR (tnames_length k k (Nat.le_refl _)) (by simp) (by simp) (by simp) m
      have hb4 := (Below.refl w3.heap.size w3).alloc (Nat.le_refl _) (.cells #[.int .i64 1, .int .i64 1, .slice As 1 cs, .slice none 0 0, .slice none 0 0, .slice Ac k cc, .slice Az (t + 1) cz, .bool false] 31)
      have hX := Blk.new w3 31 #[.int .i64 1, .int .i64 1, .slice As 1 cs, .slice none 0 0, .slice none 0 0, .slice Ac k cc, .slice Az (t + 1) cz, .bool false]
      have HX := Lib.hid hX
      have HLay := Lib.hid (hLay.below hb4)
      have HPJ := Lib.hid hpj
      have HVL := Lib.hid hvl
      have HB4 := Lib.hid (below_next (below_next HB.out hb3) hb4)
      have hu1 : u.sp.length ≤ 1000000 := by have h1 := HG.out.sp; have h2 := HSZ.out.1; omega
      have hu2 : (intsN u.tags).length ≤ 1000000 := by rw [intsN_length, HG.out.tags, HT.out]; omega
      clear hX hLay hpj hvl hb4 h3 hat hb3
      have hsb : Sl ((w3.alloc (.cells #[.int .i64 1, .int .i64 1, .slice As 1 cs, .slice none 0 0, .slice none 0 0, .slice Ac k cc, .slice Az (t + 1) cz, .bool false] 31)).alloc (.cells #[.int .u8 b.toNat] 5)) (some ⟨w3.heap.size + 1, 0, none⟩) (([b] : List UInt8).map bv) := by
        have h := Sl.new (w3.alloc (.cells #[.int .i64 1, .int .i64 1, .slice As 1 cs, .slice none 0 0, .slice none 0 0, .slice Ac k cc, .slice Az (t + 1) cz, .bool false] 31)) #[.int .u8 b.toNat] 5
        simpa using h
      have hb5 := (Below.refl (w3.alloc (.cells #[.int .i64 1, .int .i64 1, .slice As 1 cs, .slice none 0 0, .slice none 0 0, .slice Ac k cc, .slice Az (t + 1) cz, .bool false] 31)).heap.size (w3.alloc (.cells #[.int .i64 1, .int .i64 1, .slice As 1 cs, .slice none 0 0, .slice none 0 0, .slice Ac k cc, .slice Az (t + 1) cz, .bool false] 31))).alloc (Nat.le_refl _) (.cells #[.int .u8 b.toNat] 5)
      have tg := tag_any (unP u k As cs Ac cc Az cz) qs (intsN u.tags) (some ⟨w3.heap.size + 1, 0, none⟩) 1 1 [b] _ (HLay.out.below hb5) rfl hsb (by omega) (Nat.le_refl _) hu1 hu2
      have tn := fun (W : World) (hL : LayOf W (unP u k As cs Ac cc Az cz) qs (intsN u.tags)) => tag_any (unP u k As cs Ac cc Az cz) qs (intsN u.tags) none 0 0 [] W hL rfl Sl.nil (by omega) (Nat.le_refl _) hu1 hu2
      rw [← unV_val, HVL.out, HPJ.out, HPR.out] at tg
      rw [← unV_val, HVL.out, HPJ.out, HPN.out] at tn
      have HTG := Lib.hid tg
      have HTN := Lib.hid tn
      have HB5 := Lib.hid hb5
      have hpow : (2 : Nat) ^ (t + 1) ≤ 16 := by rcases (show t = 0 ∨ t = 1 ∨ t = 2 ∨ t = 3 by omega) with rfl | rfl | rfl | rfl <;> decide
      have hg1 : (k : Int) ≤ ((2 ^ (t + 1) : Nat) : Int) := by have := HT1.out; omega
      have hg2 : ((2 ^ t : Nat) : Int) < (k : Int) := by have := HT2.out; omega
      have hp1 := pow62 (t + 1) (by omega)
      have hp2 := pow62 t (by omega)
      have ht62 : t + 1 < 62 := by omega
      have ht61 : t < 62 := by omega
      rw [hp1] at hg1
      rw [hp2] at hg2
      have hd1 : decide ((k : Int) ≤ (2 : Int) ^ (t + 1)) = true := by simpa using hg1
      have hd2 : decide ((2 : Int) ^ t < (k : Int)) = true := by simpa using hg2
      have hk64 : (k : Int) ≤ 4611686018427387904 := by omega
      have hk63 : (-9223372036854775808 : Int) ≤ (k : Int) := by omega
      have hw1 := wrap64_pow (t + 1) ht62
      have hw2 := wrap64_pow t ht61
      rw [hp1] at hw1
      rw [hp2] at hw2
      clear hg1 hg2 hp1 hp2
      clear hsb hb5 tg tn
      go_wp2_with fail
      refine HTG.out.mono ?_
      rintro e w6 ⟨hb6, h6⟩
      have hL6 := (HLay.out.below HB5.out).below hb6
      have hX6 := (HX.out.below HB5.out).below hb6
      obtain ⟨⟨x0, x1, x2, x3, x4, x5, x6, x7⟩, xf⟩ := hX6.eight
      have HB6 := Lib.hid (below_next (below_next HB4.out HB5.out) hb6)
      have HTN6 := Lib.hid (HTN.out _ hL6)
      clear hL6 hX6 hb6 HTG HTN HB5
      by_cases hbk : b.toNat < k
      · rw [if_pos hbk] at h6
        have he : e = .returned (.tuple #[.int .i64 b.toNat, .int .i64 0]) := by
          rcases h6 with ⟨h, _⟩ | ⟨k', u', h, he⟩
          · cases h
          · injection h with h
            injection h with h1 h2
            subst h1
            exact he
        subst he
        clear h6
        go_wp2_with fail
        refine HTN6.out.mono ?_
        rintro e w7 ⟨hb7, h7⟩
        have he : e = .returned (.tuple #[.int .i64 0, .int .i64 21]) := by
          rcases h7 with ⟨_, he⟩ | ⟨k', u', h, he⟩
          · exact he
          · cases h
        subst he
        have HB7 := Lib.hid (below_next HB6.out hb7)
        have hbi : decide ((b.toNat : Int) < (k : Int)) = true := by simpa using hbk
        clear h7 hb7 x0 x1 x2 x3 x4 x5 x6 x7 xf
        go_wp2_with fail
        refine (tagsize_small k _ hk64 hk63).mono ?_
        rw [HT.out]
        rintro e w8 ⟨rfl, rfl⟩
        go_wp2_with fail
        refine (tagsize_small k _ hk64 hk63).mono ?_
        rw [HT.out]
        rintro e w9 ⟨rfl, rfl⟩
        go_wp2_with fail
        refine (awake17 _).mono ?_
        rintro e w10 ⟨rfl, hb10⟩
        go_wp2
        go_ret
        exact ⟨rfl, below_next HB7.out hb10⟩
      · rw [if_neg hbk] at h6
        have he : e = .returned (.tuple #[.int .i64 0, .int .i64 21]) := by
          rcases h6 with ⟨_, he⟩ | ⟨k', u', h, he⟩
          · exact he
          · cases h
        subst he
        clear h6
        go_wp2_with fail
        refine HTN6.out.mono ?_
        rintro e w7 ⟨hb7, h7⟩
        have he : e = .returned (.tuple #[.int .i64 0, .int .i64 21]) := by
          rcases h7 with ⟨_, he⟩ | ⟨k', u', h, he⟩
          · exact he
          · cases h
        subst he
        have HB7 := Lib.hid (below_next HB6.out hb7)
        have hbi : decide ((b.toNat : Int) < (k : Int)) = false := by simpa using hbk
        clear h7 hb7 x0 x1 x2 x3 x4 x5 x6 x7 xf
        go_wp2_with fail
        refine (tagsize_small k _ hk64 hk63).mono ?_
        rw [HT.out]
        rintro e w8 ⟨rfl, rfl⟩
        go_wp2_with fail
        refine (tagsize_small k _ hk64 hk63).mono ?_
        rw [HT.out]
        rintro e w9 ⟨rfl, rfl⟩
        go_wp2_with fail
        refine (awake17 _).mono ?_
        rintro e w10 ⟨rfl, hb10⟩
        go_wp2
        go_ret
        exact ⟨rfl, below_next HB7.out hb10⟩
end Go.Proofs.Ytamhigknobdloaa
