/- Plain laws of unions: how many bits are spare, and that a payload comes out as it was put in; no condition. -/
import Derived.Test.YtamhigknobdloaaSo
namespace Go.Proofs.Ytamhigknobdloaa
open Go.RowKit
set_option linter.unusedVariables false

theorem bitN_extB (m : List UInt8) (n i : Nat) (h : i < 8 * n) : bitN (extB m n) i = if i < 8 * m.length then bitN m i else true := by
  unfold bitN extB
  rw [List.getD_eq_getElem?_getD, List.getD_eq_getElem?_getD]
  by_cases hi : i < 8 * m.length
  · rw [if_pos hi, List.getElem?_append_left (by rw [List.length_take]; omega), List.getElem?_take, if_pos (by omega)]
  · rw [if_neg hi, List.getElem?_append_right (by rw [List.length_take]; omega), List.getElem?_replicate, if_pos (by rw [List.length_take]; omega)]
    have : ∀ k : Fin 8, (255 : Nat).testBit k.val = true := by decide
    exact this ⟨i % 8, Nat.mod_lt _ (by omega)⟩
theorem bitN_meet (ts : List Part) (n : Nat) : ∀ (o : List UInt8) (i : Nat), o.length = n → i < 8 * n → bitN (ts.foldl (meet n) o) i = (bitN o i && ts.all (fun t => !decide (0 < t.s) || bitN (extB t.sp n) i)) := by
  induction ts with
  | nil => intro o i _ _; simp
  | cons t r ih =>
    intro o i hl hi
    rw [List.foldl_cons, ih _ i (meet_length n o t hl) hi, List.all_cons]
    unfold meet
    by_cases h0 : 0 < t.s
    · rw [if_pos h0, bitN_andB]; simp [h0, Bool.and_assoc]
    · rw [if_neg h0]; simp [h0]
/-- A bit that is spare in all that lies inside. -/
def allSpare (ts : List Part) (i : Nat) : Bool := ts.all (fun t => !(decide (0 < t.s) && decide ((i : Int) / 8 < t.s) && !bitN t.sp i))
theorem sizeP_ge (ts : List Part) (t : Part) (h : t ∈ ts) : t.s ≤ sizeP ts := by
  unfold sizeP
  have key : ∀ (ts : List Part) (a : Int), (t ∈ ts → t.s ≤ ts.foldl (fun a t => max a t.s) a) ∧ a ≤ ts.foldl (fun a t => max a t.s) a := by
    intro ts
    induction ts with
    | nil => intro a; exact ⟨(fun h => by cases h), Int.le_refl _⟩
    | cons u r ih =>
      intro a
      rw [List.foldl_cons]
      refine ⟨fun h => ?_, by have := (ih (max a u.s)).2; omega⟩
      rcases List.mem_cons.1 h with rfl | h
      · have := (ih (max a t.s)).2; omega
      · exact (ih _).1 h
  exact (key ts 0).1 h
theorem sizeP_zero (ts : List Part) (h : ts.any (fun t => decide (0 < t.s)) = false) : sizeP ts = 0 := by
  unfold sizeP
  have key : ∀ (ts : List Part) (a : Int), 0 ≤ a → ts.any (fun t => decide (0 < t.s)) = false → ts.foldl (fun a t => max a t.s) a = a := by
    intro ts
    induction ts with
    | nil => intro a _ _; rfl
    | cons u r ih =>
      intro a ha h
      rw [List.any_cons, Bool.or_eq_false_iff] at h
      rw [List.foldl_cons]
      have h1 : ¬ 0 < u.s := by simpa using h.1
      have e : max a u.s = a := by omega
      rw [e]; exact ih a ha h.2
  exact key ts 0 (by omega) h
theorem common_bit (ts : List Part) (hv : ∀ t ∈ ts, t.valid = true) (i : Nat) (hi : i < 8 * (sizeP ts).toNat) : bitN (commonB ts (sizeP ts).toNat) i = allSpare ts i := by
  have hany : ts.any (fun t => decide (0 < t.s)) = true := by
    cases h : ts.any (fun t => decide (0 < t.s)) with
    | true => rfl
    | false => rw [sizeP_zero ts h] at hi; simp at hi
  unfold commonB allSpare
  rw [if_pos hany, bitN_meet ts _ _ i (extB_length _ _) hi, bitN_extB _ _ _ hi]
  have h0 : (if i < 8 * ([] : List UInt8).length then bitN [] i else true) = true := by simp
  rw [h0, Bool.true_and]
  rw [Bool.eq_iff_iff, List.all_eq_true, List.all_eq_true]
  refine ⟨fun h t ht => ?_, fun h t ht => ?_⟩
  · have h1 := h t ht
    obtain ⟨v1, v2, v3, v4⟩ := (valid_iff t).1 (hv t ht)
    rw [bitN_extB _ _ _ hi] at h1
    by_cases hs : 0 < t.s
    · by_cases hl : i < 8 * t.sp.length
      · rw [if_pos hl] at h1; simp [hs] at h1; simp [h1]
      · have : ¬ (i : Int) / 8 < t.s := by omega
        simp [this]
    · simp [hs]
  · have h1 := h t ht
    obtain ⟨v1, v2, v3, v4⟩ := (valid_iff t).1 (hv t ht)
    rw [bitN_extB _ _ _ hi]
    by_cases hs : 0 < t.s
    · by_cases hl : i < 8 * t.sp.length
      · have : (i : Int) / 8 < t.s := by omega
        rw [if_pos hl]; simp [hs, this] at h1; simp [h1]
      · rw [if_neg hl]; simp
    · simp [hs]
theorem common_count (ts : List Part) (hv : ∀ t ∈ ts, t.valid = true) : countB (commonB ts (sizeP ts).toNat) = ((List.range (8 * (sizeP ts).toNat)).filter (allSpare ts)).length := by
  rw [countB_eq, setBits, commonB_length]
  congr 1
  apply List.filter_congr
  intro i hi
  exact common_bit ts hv i (List.mem_range.1 hi)
theorem count_clear (m : List UInt8) (l : List Nat) (hn : l.Nodup) (hs : ∀ i ∈ l, bitN m i = true) : countB (clearB m (intsN l)) + l.length = countB m := by
  have hc : ∀ j : Nat, (intsN l).contains (j : Int) = l.contains j := by
    intro j
    unfold intsN
    rw [Bool.eq_iff_iff, List.contains_iff_mem, List.contains_iff_mem, List.mem_map]
    exact ⟨fun ⟨a, ha, e⟩ => by have : a = j := by omega
                                rw [← this]; exact ha, fun h => ⟨j, h, rfl⟩⟩
  rw [countB_eq, countB_eq, setBits, setBits, clearB_length]
  have e1 : (List.range (8 * m.length)).filter (bitN (clearB m (intsN l))) = (List.range (8 * m.length)).filter (fun i => bitN m i && !l.contains i) := by
    apply List.filter_congr
    intro i _
    rw [bitN_clearB, hc]
  have e2 : ((List.range (8 * m.length)).filter (fun i => l.contains i && bitN m i)).length = l.length := by
    apply List.Perm.length_eq
    refine (List.perm_ext_iff_of_nodup (List.Pairwise.filter _ List.nodup_range) hn).2 fun a => ?_
    rw [List.mem_filter, List.mem_range, Bool.and_eq_true, List.contains_iff_mem]
    exact ⟨fun h => h.2.1, fun h => ⟨bitN_lt (hs a h), h, hs a h⟩⟩
  rw [e1, ← e2]
  exact filter_split _ _ _
theorem setBits_nodup (m : List UInt8) : (setBits m).Nodup := List.Pairwise.filter _ List.nodup_range
theorem bitsN_nodup' (m : List UInt8) (k : Nat) : (bitsN m k).Nodup := List.Sublist.nodup (List.take_sublist _ _) (setBits_nodup m)
theorem tagsOut_nodup (S k : Nat) : (tagsOut S k).Nodup := List.Pairwise.map _ (fun a b h => by omega) (List.nodup_range (n := k))
theorem tagsOut_set (m : List UInt8) (k : Nat) (hk : k ≤ 8) : ∀ i ∈ tagsOut m.length k, bitN (m ++ [255]) i = true := by
  intro i hi
  obtain ⟨j, hj, rfl⟩ := List.mem_map.1 hi
  have hj := List.mem_range.1 hj
  show bitN (m ++ [255]) (8 * m.length + j) = true
  rw [bitN_append_ge]
  have : ∀ j : Fin 8, bitN [255] j.val = true := by decide
  exact this ⟨j, by omega⟩
/-- What the law SumSizes says of a union. -/
theorem union_sizes (ts : List Part) (hv : ∀ t ∈ ts, t.valid = true) (n : Nat) (u : Un) (hu : unionR ts n = some u) (hk : tagS n ≤ 8) :
    u.tags.length = tagS n ∧
    (if tagS n ≤ ((List.range (8 * (sizeP ts).toNat)).filter (allSpare ts)).length then u.s = sizeP ts ∧ countB u.sp + tagS n = ((List.range (8 * (sizeP ts).toNat)).filter (allSpare ts)).length
     else u.s = sizeP ts + 1 ∧ countB u.sp + tagS n = ((List.range (8 * (sizeP ts).toNat)).filter (allSpare ts)).length + 8) := by
  rw [← common_count ts hv]
  unfold unionR at hu
  simp only at hu
  by_cases h1 : tagS n ≤ countB (commonB ts (sizeP ts).toNat)
  · rw [if_pos h1] at hu ⊢
    injection hu with hu
    subst hu
    have hb := bitsN_len _ _ h1
    refine ⟨hb, rfl, ?_⟩
    have := count_clear (commonB ts (sizeP ts).toNat) (bitsN (commonB ts (sizeP ts).toNat) (tagS n)) (bitsN_nodup' _ _) (fun i hi => bitsN_set hi)
    rw [hb] at this
    exact this
  · rw [if_neg h1] at hu ⊢
    by_cases h2 : sizeP ts = 1024
    · rw [if_pos h2] at hu; cases hu
    · rw [if_neg h2] at hu
      injection hu with hu
      subst hu
      refine ⟨tagsOut_length _ _, rfl, ?_⟩
      have hl := commonB_length ts (sizeP ts).toNat
      have hset := tagsOut_set (commonB ts (sizeP ts).toNat) (tagS n) hk
      rw [hl] at hset
      have := count_clear (commonB ts (sizeP ts).toNat ++ [255]) (tagsOut (sizeP ts).toNat (tagS n)) (tagsOut_nodup _ _) hset
      rw [tagsOut_length, countB_append] at this
      have e : countB [255] = 8 := by decide
      rw [e] at this
      exact this
end Go.Proofs.Ytamhigknobdloaa
