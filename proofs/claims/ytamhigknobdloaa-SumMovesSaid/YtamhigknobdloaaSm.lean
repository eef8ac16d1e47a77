/- What sum.Lay answers to whatever lists, and that its answer is a layout; conditions: the lists are short and readable. -/
import Derived.Test.YtamhigknobdloaaSl
namespace Go.Proofs.Ytamhigknobdloaa
open Go.RowKit
set_option linter.unusedVariables false

def SumOut (ps : List Part) (nms : List ByteArray) (bs : List Bool) (fs : List (List Int)) (w : World) (e : Ending) (w' : World) : Prop :=
  Below w.heap.size w w' ∧ ((sumE ps nms.length bs ≠ 0 ∧ e = .returned (.tuple #[zero31, .int .i64 (sumE ps nms.length bs)])) ∨
    (sumE ps nms.length bs = 0 ∧ nms.length = ps.length ∧ bs.length = ps.length ∧ ps.length ≤ 12 ∧ (∀ p ∈ ps, p.valid = true) ∧ ∃ (u : Un) (As : Option Addr) (cs : Nat) (Ac : Option Addr) (cc : Nat) (Az : Option Addr) (cz : Nat) (qs : List CaseV), unionR (inside ps bs) ps.length = some u ∧ e = .returned (.tuple #[unV u ps.length As cs Ac cc Az cz, .int .i64 0]) ∧ UnAt w' u nms bs fs ps ps.length As cs Ac cc Az cz qs))
theorem sumlay_any (A : Option Addr) (n c : Nat) (ps : List Part) (An : Option Addr) (nn cn : Nat) (nms : List ByteArray) (Ai : Option Addr) (nb cb : Nat) (bs : List Bool) (fs : List (List Int)) (w : World) (hn : ps.length = n) (hnn : nms.length = nn) (hbn : bs.length = nb) (hfn : fs.length = n)
    (hs : Parts w A ps) (hsn : Sl w An (nms.map Value.string)) (hsb : Sl w Ai (bs.map Value.bool)) (hlen : n ≤ 1000) (hsp : ∀ p ∈ ps, Sl w p.A (p.sp.map bv)) (hone : ∀ p ∈ ps, p.one)
    (hof : ∀ (i : Nat) (h1 : i < ps.length) (h2 : i < fs.length), ∃ Ao co, ps[i].x3 = .slice Ao fs[i].length co ∧ Sl w Ao (fs[i].map iv) ∧ fs[i].length ≤ 1000000) :
    Calls Try.prog 57 #[.slice A n c, .slice An nn cn, .slice Ai nb cb] w (SumOut ps nms bs fs w) := by
  cases hb : sumBad ps nn nb with
  | true =>
    refine (sum_bad A n c ps An nn cn Ai nb cb w hn hs hlen hb).mono ?_
    rintro e w' ⟨rfl, hbel⟩
    have hE : sumE ps nms.length bs = 19 := by unfold sumE; rw [hnn, hbn, hb]; rfl
    exact ⟨hbel, .inl ⟨by rw [hE]; decide, by rw [hE]⟩⟩
  | false =>
    have h3 : ps.length = nn ∧ nn = nb ∧ ps.any (fun p => !p.valid) = false := by
      unfold sumBad at hb
      simp only [Bool.or_eq_false_iff, decide_eq_false_iff_not, ne_eq, Decidable.not_not] at hb
      exact ⟨hb.1.1, hb.1.2, hb.2⟩
    obtain ⟨h1, h2, hok⟩ := h3
    have e1 : nn = n := by omega
    have e2 : nb = n := by omega
    subst e1 e2
    by_cases h12 : 12 < nb
    · refine (sum_many A nb c ps An cn Ai cb w hn hs hlen hok h12).mono ?_
      rintro e w' ⟨rfl, hbel⟩
      have hE : sumE ps nms.length bs = 4 := by unfold sumE; rw [hnn, hbn, hb, if_neg (by decide), if_pos h12]
      exact ⟨hbel, .inl ⟨by rw [hE]; decide, by rw [hE]⟩⟩
    · refine (sum_any A nb c ps An cn nms Ai cb bs fs w hn hnn hbn hfn hs hsn hsb (by omega) hok hsp hone hof).mono ?_
      rintro e w' (⟨hu, rfl, hbel⟩ | ⟨u, As, cs, Ac, cc, Az, cz, qs, hu, rfl, hat, hbel⟩)
      · have hE : sumE ps nms.length bs = 4 := by unfold sumE; rw [hnn, hbn, hb, if_neg (by decide), if_neg h12, ← hn, hu]
        exact ⟨hbel, .inl ⟨by rw [hE]; decide, by rw [hE]⟩⟩
      · have hE : sumE ps nms.length bs = 0 := by unfold sumE; rw [hnn, hbn, hb, if_neg (by decide), if_neg h12, ← hn, hu]
        have hval : ∀ p ∈ ps, p.valid = true := by
          intro p hp
          cases hv : p.valid with
          | true => rfl
          | false =>
            have h : ps.any (fun p => !p.valid) = true := List.any_eq_true.2 ⟨p, hp, by rw [hv]; rfl⟩
            rw [hok] at h; cases h
        exact ⟨hbel, .inr ⟨hE, by omega, by omega, by omega, hval, u, As, cs, Ac, cc, Az, cz, qs, hu, rfl, hat⟩⟩

theorem SumOut.yes {ps : List Part} {nms : List ByteArray} {bs : List Bool} {fs : List (List Int)} {w w' : World} {e : Ending} (h : SumOut ps nms bs fs w e w') (hE : sumE ps nms.length bs = 0) {u : Un} (hu : unionR (inside ps bs) ps.length = some u) :
    ∃ (As : Option Addr) (cs : Nat) (Ac : Option Addr) (cc : Nat) (Az : Option Addr) (cz : Nat) (qs : List CaseV), e = .returned (.tuple #[unV u ps.length As cs Ac cc Az cz, .int .i64 0]) ∧ UnAt w' u nms bs fs ps ps.length As cs Ac cc Az cz qs ∧ Below w.heap.size w w' := by
  obtain ⟨hb, ⟨hne, _⟩ | ⟨_, _, _, _, _, u', As, cs, Ac, cc, Az, cz, qs, hu', he, hat⟩⟩ := h
  · exact absurd hE hne
  · rw [hu] at hu'
    injection hu' with hu'
    subst hu'
    exact ⟨As, cs, Ac, cc, Az, cz, qs, he, hat, hb⟩
/-- What a union is: its size, its alignment, its bits. -/
structure Un.good (u : Un) (k : Nat) : Prop where
  s0 : 0 ≤ u.s
  s1 : u.s ≤ 1024
  al : u.al = 1 ∨ u.al = 8
  sp : (u.sp.length : Int) = u.s
  tags : u.tags.length = k
  lt : ∀ t ∈ u.tags, t < 8 * u.sp.length
theorem alP_18 (ts : List Part) (h : ∀ t ∈ ts, t.al = 1 ∨ t.al = 8) : alP ts = 1 ∨ alP ts = 8 := by
  unfold alP
  have : ∀ (ts : List Part) (a : Int), (a = 1 ∨ a = 8) → (∀ t ∈ ts, t.al = 1 ∨ t.al = 8) → ts.foldl (fun a t => max a t.al) a = 1 ∨ ts.foldl (fun a t => max a t.al) a = 8 := by
    intro ts
    induction ts with
    | nil => intro a ha _; exact ha
    | cons t r ih =>
      intro a ha ht
      have h1 := ht t (List.mem_cons_self ..)
      rw [List.foldl_cons]
      exact ih (max a t.al) (by omega) (fun t h => ht t (List.mem_cons_of_mem _ h))
  exact this ts 1 (.inl rfl) h
theorem bitsN_len (m : List UInt8) (k : Nat) (h : k ≤ countB m) : (bitsN m k).length = k := by
  unfold bitsN; rw [List.length_take, ← countB_eq]; omega
theorem bitsN_set {m : List UInt8} {k i : Nat} (h : i ∈ bitsN m k) : bitN m i = true := (setBits_mem m i).1 (List.mem_of_mem_take h)
theorem unionR_good {ts : List Part} {n : Nat} {u : Un} (hv : ∀ t ∈ ts, t.valid = true) (h : unionR ts n = some u) (hk : tagS n ≤ 8) : u.good (tagS n) := by
  have hs := sizeP_bd ts (fun t ht => ((valid_iff t).1 (hv t ht)).2.1)
  have ha := alP_18 ts (fun t ht => ((valid_iff t).1 (hv t ht)).2.2.1)
  have hl := commonB_length ts (sizeP ts).toNat
  unfold unionR at h
  simp only at h
  by_cases h1 : tagS n ≤ countB (commonB ts (sizeP ts).toNat)
  · rw [if_pos h1] at h
    injection h with h
    subst h
    refine ⟨hs.1, hs.2, ha, ?_, bitsN_len _ _ h1, ?_⟩
    · show ((clearB _ _).length : Int) = sizeP ts
      rw [clearB_length, hl]; omega
    · intro t ht
      have := bitN_lt (bitsN_set ht)
      show t < 8 * (clearB _ _).length
      rw [clearB_length]; exact this
  · rw [if_neg h1] at h
    by_cases h2 : sizeP ts = 1024
    · rw [if_pos h2] at h; cases h
    · rw [if_neg h2] at h
      injection h with h
      subst h
      refine ⟨by show 0 ≤ sizeP ts + 1; omega, by show sizeP ts + 1 ≤ 1024; omega, ha, ?_, tagsOut_length _ _, ?_⟩
      · show ((clearB _ _).length : Int) = sizeP ts + 1
        rw [clearB_length, List.length_append, hl]; simp; omega
      · intro t ht
        show t < 8 * (clearB _ _).length
        rw [clearB_length, List.length_append, hl]
        obtain ⟨m, hm, rfl⟩ := List.mem_map.1 ht
        have := List.mem_range.1 hm
        simp; omega
/-- The layout of a union as a part. -/
def unP (u : Un) (n : Nat) (As : Option Addr) (cs : Nat) (Ac : Option Addr) (cc : Nat) (Az : Option Addr) (cz : Nat) : Part :=
  ⟨u.s, u.al, As, u.sp, cs, .slice none 0 0, .slice none 0 0, .slice Ac n cc, .slice Az u.tags.length cz, .bool false⟩
theorem unV_val (u : Un) (n : Nat) (As : Option Addr) (cs : Nat) (Ac : Option Addr) (cc : Nat) (Az : Option Addr) (cz : Nat) : unV u n As cs Ac cc Az cz = (unP u n As cs Ac cc Az cz).val := rfl
theorem UnAt.layOf {w : World} {u : Un} {nms : List ByteArray} {bs : List Bool} {fs : List (List Int)} {ps : List Part} {n : Nat} {As : Option Addr} {cs : Nat} {Ac : Option Addr} {cc : Nat} {Az : Option Addr} {cz : Nat} {qs : List CaseV} {k : Nat} (h : UnAt w u nms bs fs ps n As cs Ac cc Az cz qs) (hg : u.good k) (hn : n ≤ 12)
    (hq : ∀ q ∈ qs, -9223372036854775808 ≤ q.s ∧ q.s ≤ 9223372036854775807) : LayOf w (unP u n As cs Ac cc Az cz) qs (intsN u.tags) := by
  have h0 := hg.s0
  have h1 := hg.s1
  have h2 := hg.sp
  refine ⟨h.sp.sl, h.caps.1, by show _ ≤ u.s; omega, by show u.s ≤ _; omega, ⟨Ac, cc, by rw [h.len]; rfl, h.cases.sl⟩, ⟨Az, cz, by rw [intsN_length]; rfl, by rw [← natv_ints]; exact h.tags.sl, by rw [intsN_length]; exact h.caps.2.2⟩, ?_, ⟨rfl, rfl, rfl, rfl, rfl⟩, hq, by rw [h.len]; omega⟩
  intro i hi
  unfold intsN at hi
  obtain ⟨t, ht, rfl⟩ := List.mem_map.1 hi
  have := hg.lt t ht
  omega
theorem UnAt.cases_s {w : World} {u : Un} {nms : List ByteArray} {bs : List Bool} {fs : List (List Int)} {ps : List Part} {n : Nat} {As : Option Addr} {cs : Nat} {Ac : Option Addr} {cc : Nat} {Az : Option Addr} {cz : Nat} {qs : List CaseV} (h : UnAt w u nms bs fs ps n As cs Ac cc Az cz qs) (h1 : nms.length = n) (h2 : bs.length = n) (h3 : fs.length = n) (h4 : ps.length = n) (hv : ∀ p ∈ ps, p.valid = true) :
    ∀ q ∈ qs, -9223372036854775808 ≤ q.s ∧ q.s ≤ 9223372036854775807 := by
  intro q hq
  obtain ⟨i, hi, rfl⟩ := List.getElem_of_mem hq
  have hl := h.len
  obtain ⟨_, _, _, e, _⟩ := h.each i hi (by omega) (by omega) (by omega) (by omega)
  rw [e]
  obtain ⟨v1, v2, _, _⟩ := (valid_iff _).1 (hv ps[i] (List.getElem_mem (by omega)))
  omega
theorem tagS_le (n : Nat) (h : n ≤ 12) : tagS n ≤ 4 := by
  have : ∀ n : Fin 13, tagS (n.val : Int) ≤ 4 := by decide
  exact this ⟨n, by omega⟩
end Go.Proofs.Ytamhigknobdloaa
