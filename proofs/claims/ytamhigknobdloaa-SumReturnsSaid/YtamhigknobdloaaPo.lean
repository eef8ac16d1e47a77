/- Plain law of SumReturns: a payload of a case comes out of the union as it was put in, and its bytes fit; no condition but that the case is one of the union's. -/
import Derived.Test.YtamhigknobdloaaPn
namespace Go.Proofs.Ytamhigknobdloaa
open Go.RowKit
set_option linter.unusedVariables false

theorem count_none (m : List UInt8) (h : ∀ i, bitN m i = false) : countB m = 0 := by
  rw [countB_eq, setBits, List.length_eq_zero_iff, List.filter_eq_nil_iff]
  intro i _; rw [h i]; decide
theorem fits_off (a m : List UInt8) (hl : a.length = m.length) (h : ∀ i, bitN a i = true → bitN m i = false) : fitsB a m = true := by
  unfold fitsB
  rw [count_none (andB a m) (fun i => by
    rw [bitN_andB]
    cases ha : bitN a i with
    | false => rfl
    | true => rw [h i ha]; rfl)]
  simp [hl]
theorem bitN_beyond (m : List UInt8) (i : Nat) (h : 8 * m.length ≤ i) : bitN m i = false := by
  cases hb : bitN m i with
  | false => rfl
  | true => have := bitN_lt hb; omega
theorem bitN_left (a b : List UInt8) (i : Nat) (h : i < 8 * a.length) : bitN (a ++ b) i = bitN a i := by
  unfold bitN
  rw [List.getD_eq_getElem?_getD, List.getD_eq_getElem?_getD, List.getElem?_append_left (by omega)]
theorem bitN_pad (y : List UInt8) (k i : Nat) : bitN (padB y k) i = bitN y i := by
  unfold padB
  by_cases h : i < 8 * y.length
  · exact bitN_left _ _ _ h
  · rw [bitN_beyond y i (by omega)]
    obtain ⟨j, rfl⟩ : ∃ j, i = 8 * y.length + j := ⟨i - 8 * y.length, by omega⟩
    rw [bitN_append_ge]
    unfold bitN
    rw [List.getD_eq_getElem?_getD, List.getElem?_replicate]
    split <;> simp
theorem mem_intsN (l : List Nat) (i : Nat) : (intsN l).contains (i : Int) = l.contains i := by
  unfold intsN
  rw [Bool.eq_iff_iff, List.contains_iff_mem, List.contains_iff_mem, List.mem_map]
  exact ⟨fun ⟨a, ha, e⟩ => by have : a = i := by omega
                              rw [← this]; exact ha, fun h => ⟨i, h, rfl⟩⟩
theorem intsN_nodup (l : List Nat) (h : l.Nodup) : (intsN l).Nodup := by
  unfold intsN
  exact List.Pairwise.map _ (fun a b h => by intro e; exact h (by have e' : (a : Int) = (b : Int) := e; omega)) h
theorem intsN_get (l : List Nat) (t : Nat) (h : t < (intsN l).length) : (intsN l)[t] = ((l[t]'(by rwa [intsN_length] at h) : Nat) : Int) := by
  simp [intsN]
/-- The mask of which a union's tags are taken. -/
structure Un.from (u : Un) (ts : List Part) (n : Nat) (M : List UInt8) : Prop where
  len : (M.length : Int) = u.s
  sp : u.sp = clearB M (intsN u.tags)
  nodup : u.tags.Nodup
  set : ∀ t ∈ u.tags, bitN M t = true
  tags : u.tags.length = tagS n
  ge : sizeP ts ≤ u.s
  off : ∀ t ∈ ts, ∀ i : Nat, (i : Int) < 8 * t.s → bitN M i = true → bitN t.sp i = true
theorem common_off (ts : List Part) (hv : ∀ t ∈ ts, t.valid = true) (t : Part) (ht : t ∈ ts) (i : Nat) (hi : (i : Int) < 8 * t.s) (hb : bitN (commonB ts (sizeP ts).toNat) i = true) : bitN t.sp i = true := by
  have hge := sizeP_ge ts t ht
  rw [common_bit ts hv i (by omega)] at hb
  unfold allSpare at hb
  have h1 := List.all_eq_true.1 hb t ht
  have h2 : 0 < t.s := by omega
  have h3 : (i : Int) / 8 < t.s := by omega
  simpa [h2, h3] using h1
theorem union_from (ts : List Part) (hv : ∀ t ∈ ts, t.valid = true) (n : Nat) (u : Un) (hu : unionR ts n = some u) (hk : tagS n ≤ 8) : ∃ M, u.from ts n M := by
  have hb := sizeP_bd ts (fun t ht => ((valid_iff t).1 (hv t ht)).2.1)
  have hl := commonB_length ts (sizeP ts).toNat
  unfold unionR at hu
  simp only at hu
  by_cases h1 : tagS n ≤ countB (commonB ts (sizeP ts).toNat)
  · rw [if_pos h1] at hu
    injection hu with hu
    subst hu
    refine ⟨commonB ts (sizeP ts).toNat, ?_, rfl, bitsN_nodup' _ _, fun t ht => bitsN_set ht, bitsN_len _ _ h1, Int.le_refl _, fun t ht i hi h => common_off ts hv t ht i hi h⟩
    show ((commonB ts (sizeP ts).toNat).length : Int) = sizeP ts
    rw [hl]; omega
  · rw [if_neg h1] at hu
    by_cases h2 : sizeP ts = 1024
    · rw [if_pos h2] at hu; cases hu
    · rw [if_neg h2] at hu
      injection hu with hu
      subst hu
      have hset := tagsOut_set (commonB ts (sizeP ts).toNat) (tagS n) hk
      rw [hl] at hset
      refine ⟨commonB ts (sizeP ts).toNat ++ [255], ?_, rfl, tagsOut_nodup _ _, hset, tagsOut_length _ _, ?_, fun t ht i hi h => ?_⟩
      · show ((commonB ts (sizeP ts).toNat ++ [255]).length : Int) = sizeP ts + 1
        rw [List.length_append, hl]; simp; omega
      · show sizeP ts ≤ sizeP ts + 1; omega
      · have hge := sizeP_ge ts t ht
        rw [bitN_left _ _ _ (by rw [hl]; omega)] at h
        exact common_off ts hv t ht i hi h
theorem two_tags : ∀ (n k : Nat), n ≤ 12 → k < n → k < 2 ^ tagS n := by
  intro n k hn hk
  have : ∀ n : Fin 13, n.val ≤ 2 ^ tagS (n.val : Int) := by decide
  have := this ⟨n, by omega⟩
  simp only at this
  omega
/-- What becomes of a payload of the case k. -/
def packB (u : Un) (k : Nat) (y : List UInt8) : List UInt8 := putB (padB y (u.s - y.length).toNat) (intsN u.tags) k 0
theorem padB_length (y : List UInt8) (k : Nat) : (padB y k).length = y.length + k := by unfold padB; simp
theorem putB_length' (m : List UInt8) (l : List Int) (v : Int) (j : Nat) : (putB m l v j).length = m.length := by
  induction l generalizing m j with
  | nil => rfl
  | cons a t ih => rw [putB, ih, setI_length]
theorem pack_all (ts : List Part) (hv : ∀ t ∈ ts, t.valid = true) (n : Nat) (hn : ts.length = n) (h12 : n ≤ 12) (u : Un) (hu : unionR ts n = some u) (k : Nat) (hk : k < ts.length) (y : List UInt8) (hy : (y.length : Int) = ts[k].s) (hoff : ∀ i, bitN y i = true → bitN ts[k].sp i = false) :
    unInj ts u k y = (0, packB u k y) ∧ unProj ts u (packB u k y) = some (k, y) ∧ fitsB (packB u k y) u.sp = true := by
  have ht8 : tagS n ≤ 8 := by have := tagS_le n h12; omega
  have hg := unionR_good hv hu ht8
  obtain ⟨M, hM⟩ := union_from ts hv n u hu ht8
  have hmem := List.getElem_mem hk
  have hge := sizeP_ge ts ts[k] hmem
  have hge2 := hM.ge
  obtain ⟨P, hP⟩ : ∃ P, P = padB y (u.s - y.length).toNat := ⟨_, rfl⟩
  have hPl : P.length = M.length := by have := hM.len; rw [hP, padB_length]; omega
  have hspl : u.sp.length = M.length := by rw [hM.sp, clearB_length]
  have hPb : ∀ i, bitN P i = bitN y i := fun i => by rw [hP, bitN_pad]
  have hPM : ∀ i, bitN P i = true → bitN M i = false := by
    intro i hi
    rw [hPb] at hi
    cases hm : bitN M i with
    | false => rfl
    | true =>
      have h1 := hM.off ts[k] hmem i (by have := bitN_lt hi; omega) hm
      rw [hoff i hi] at h1; cases h1
  have hsp : ∀ i, bitN u.sp i = (bitN M i && !u.tags.contains i) := fun i => by rw [hM.sp, bitN_clearB, mem_intsN]
  have hin : ∀ i, i ∈ u.tags → i < 8 * P.length := fun i hi => by rw [hPl]; exact bitN_lt (hM.set i hi)
  have hnd := intsN_nodup u.tags hM.nodup
  have hPc : clearB P (intsN u.tags) = P := by
    refine ext_bits _ _ (clearB_length _ _) fun i _ => ?_
    rw [bitN_clearB, mem_intsN]
    cases hi : bitN P i with
    | false => rfl
    | true =>
      cases hc : u.tags.contains i with
      | false => rfl
      | true =>
        have h1 := hM.set i (List.contains_iff_mem.1 hc)
        rw [hPM i hi] at h1; cases h1
  have hB : packB u k y = putB P (intsN u.tags) k 0 := by unfold packB; rw [hP]
  have hout : ∀ i, ¬ i ∈ u.tags → bitN (putB P (intsN u.tags) k 0) i = bitN P i := fun i hi => bitN_putB_out _ _ _ _ _ (fun h => hi (by
    obtain ⟨a, ha, e⟩ := List.mem_map.1 h
    have : a = i := by omega
    rw [← this]; exact ha))
  have hBc : clearB (putB P (intsN u.tags) k 0) (intsN u.tags) = P := by
    refine ext_bits _ _ (by rw [clearB_length, putB_length']) fun i _ => ?_
    rw [bitN_clearB, mem_intsN]
    by_cases hi : i ∈ u.tags
    · have h1 : u.tags.contains i = true := List.contains_iff_mem.2 hi
      rw [h1]
      cases hp : bitN P i with
      | false => simp
      | true => have h2 := hPM i hp; rw [hM.set i hi] at h2; cases h2
    · have h1 : u.tags.contains i = false := by simpa using hi
      rw [h1, hout i hi]; simp
  have hBf : fitsB (putB P (intsN u.tags) k 0) u.sp = true := by
    refine fits_off _ _ (by rw [putB_length', hPl, hspl]) fun i hi => ?_
    rw [hsp]
    by_cases hm : i ∈ u.tags
    · have h1 : u.tags.contains i = true := List.contains_iff_mem.2 hm
      rw [h1]; simp
    · rw [hout i hm] at hi
      rw [hPM i hi]; rfl
  have hgk : getB (putB P (intsN u.tags) k 0) (intsN u.tags) 0 = k := by
    have hlt := two_tags n k h12 (by omega)
    rw [getB_of_bits _ _ k 0 (by rw [intsN_length, hM.tags]; omega) (fun t ht => by
      have ht' : t < u.tags.length := by rwa [intsN_length] at ht
      have e : (intsN u.tags)[t] = ((u.tags[t] : Nat) : Int) := intsN_get u.tags t ht
      have hb := bitN_putB_in P (intsN u.tags) k 0 u.tags[t] t hnd ht e (hin _ (List.getElem_mem _))
      rw [e]
      have hI : bitI (putB P (intsN u.tags) k 0) ((u.tags[t] : Nat) : Int) = bitN (putB P (intsN u.tags) k 0) u.tags[t] := by
        unfold bitI; simp
      rw [hI, hb]
      have h63 : decide (t + 0 < 63) = true := by have := hM.tags; simp; omega
      rw [h63, Bool.true_and, Bool.eq_iff_iff, beq_iff_eq, beq_iff_eq, Nat.add_zero]
      have e2 : (k : Int) / 2 ^ t % 2 = ((k / 2 ^ t % 2 : Nat) : Int) := by simp
      rw [e2]; omega)]
    rw [intsN_length, hM.tags]
    simp [Nat.mod_eq_of_lt hlt]
  have hpv : (unK u).valid = true := (valid_iff _).2 ⟨hg.s0, hg.s1, hg.al, hg.sp⟩
  obtain ⟨v1, v2, v3, v4⟩ := (valid_iff ts[k]).1 (hv _ hmem)
  have hli : liesI (caseK ts[k]) = ts[k].s := rfl
  have hso : sizeOk (unK u) (caseK ts[k]) = true := by
    unfold sizeOk
    rw [hpv, hli]
    have : ts[k].s ≤ (unK u).s := by show ts[k].s ≤ u.s; omega
    simp [v1, this]
  have hcg : (ts.map caseK)[k]? = some (caseK ts[k]) := by rw [List.getElem?_map, List.getElem?_eq_getElem hk]; rfl
  have hPP : padB y ((unK u).s - liesI (caseK ts[k])).toNat = P := by rw [hP, hli, hy]; rfl
  refine ⟨?_, ?_, by rw [hB]; exact hBf⟩
  · unfold unInj injR
    rw [if_neg (by rw [List.length_map]; omega), Int.toNat_natCast, hcg]
    simp only
    rw [hso, hPP, hPc, hli, hB]
    have hPf : fitsB P (unK u).sp = true := fits_off _ _ (by show _ = u.sp.length; rw [hPl, hspl]) fun i hi => by show bitN u.sp i = false; rw [hsp, hPM i hi]; rfl
    rw [hPf]; simp [hy]
  · unfold unProj projR
    rw [hB, hpv, show (unK u).sp = u.sp from rfl, hBf, hgk, hcg]
    simp only [Bool.and_true, if_true]
    rw [hso, hBc, hli]
    have e1 : ts[k].s.toNat = y.length := by omega
    rw [e1, hP]
    have e2 : (padB y (u.s - y.length).toNat).take y.length = y := by unfold padB; simp
    have e3 : ((padB y (u.s - y.length).toNat).drop y.length).any (fun b => b != 0) = false := by unfold padB; simp
    rw [e2, e3]; rfl
/-- Bytes of different cases are different. -/
theorem pack_inj (ts : List Part) (hv : ∀ t ∈ ts, t.valid = true) (n : Nat) (hn : ts.length = n) (h12 : n ≤ 12) (u : Un) (hu : unionR ts n = some u) (k j : Nat) (hk : k < ts.length) (hj : j < ts.length) (y z : List UInt8) (hy : (y.length : Int) = ts[k].s) (hyo : ∀ i, bitN y i = true → bitN ts[k].sp i = false) (hz : (z.length : Int) = ts[j].s) (hzo : ∀ i, bitN z i = true → bitN ts[j].sp i = false) (h : packB u k y = packB u j z) : k = j := by
  have h1 := (pack_all ts hv n hn h12 u hu k hk y hy hyo).2.1
  have h2 := (pack_all ts hv n hn h12 u hu j hj z hz hzo).2.1
  rw [h, h2] at h1
  injection h1 with h1
  injection h1 with h1 _
  exact h1.symm
end Go.Proofs.Ytamhigknobdloaa
