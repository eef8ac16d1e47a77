/- Rows of layouts that a law makes, cuts of slices of bytes, and plain laws of laid parts; no condition. -/
import Derived.Test.YtamhigknobdloaaLd
namespace Go.Proofs.Ytamhigknobdloaa
open Go.RowKit
set_option linter.unusedVariables false

theorem el31 : El Try.prog 31 (.agg #[.int .i64 0, .int .i64 0, .slice none 0 0, .slice none 0 0, .slice none 0 0, .slice none 0 0, .slice none 0 0, .bool false]) 8 144 := El.mk (by kernel_rfl) rfl (by decide)
theorem parts_own {w : World} {A : Option Addr} {base n c : Nat} {ps : List Part} (h : w.ownsRow base 31 8 (.slice A n c) n (ps.flatMap Part.cells)) : Parts w A ps := by
  rcases h with ⟨hl, ⟨h1, h2⟩ | ⟨g, cap, cur, h1, hb, hg, hn, hc, hsz, ht⟩⟩
  · subst h2; exact .inl (List.eq_nil_of_length_eq_zero (by simpa using hl))
  · injection h1 with hA
    subst hA
    refine .inr ⟨g, 0, rfl, fun j hj => ?_⟩
    have hcell := World.ownsRow.cellAt (j := j) (g := g) (cap := cap) ⟨hl, .inr ⟨g, cap, cur, rfl, hb, hg, hn, hc, hsz, ht⟩⟩ (by omega)
    rw [Nat.zero_add, hcell, List.getElem?_eq_getElem hj]
/-- append of a layout, as a run. -/
theorem run_part {w : World} (base : Nat) (A : Option Addr) (c : Nat) (ps : List Part) (n : Nat) (hn : ps.length = n) (hown : w.ownsRow base 31 8 (.slice A n c) n (ps.flatMap Part.cells)) (hl : n ≤ 6000) (hbase : base ≤ w.heap.size)
    (p : Part) (hone : p.one) :
    ∃ A' c' w', (heldAppend #[22, 22] 22 #[.slice A n c, .slice (some ⟨w.heap.size, 0, none⟩) 1 1]).run Try.prog (w.alloc (.cells #[.int .i64 p.s, .int .i64 p.al, .slice p.A p.sp.length p.c, p.x3, p.x4, p.x5, p.x6, p.x7] 31)) = .ok (.value (.slice A' (n + 1) c')) w' ∧
      w'.ownsRow base 31 8 (.slice A' (n + 1) c') (n + 1) ((ps ++ [p]).flatMap Part.cells) ∧ w.grownBy w' (Value.slice A n c).ownBlock := by
  obtain ⟨A', c', w', hr, h2, h3, h4⟩ := run_append_sl (P := Try.prog) base 22 22 31 _ 8 144 Try.underlying22 el31 _ _ _ (hown.alloc (.cells #[.int .i64 p.s, .int .i64 p.al, .slice p.A p.sp.length p.c, p.x3, p.x4, p.x5, p.x6, p.x7] 31)) _ 1 1
    p.cells (Sl.new w #[.int .i64 p.s, .int .i64 p.al, .slice p.A p.sp.length p.c, p.x3, p.x4, p.x5, p.x6, p.x7] 31) rfl (by
      intro v hv
      simp only [Part.cells, List.mem_cons, List.not_mem_nil, or_false] at hv
      rcases hv with rfl | rfl | rfl | rfl | rfl | rfl | rfl | rfl
      · rfl
      · rfl
      · rfl
      · exact hone.h3
      · exact hone.h4
      · exact hone.h5
      · exact hone.h6
      · exact hone.h7) (by simp only [maxLen]; omega) (by omega) (by simp; omega)
  refine ⟨A', c', w', run_held hr, ?_, grownBy_of_alloc h3⟩
  rw [List.flatMap_append]
  simpa using h2

/-- A cut of a slice of bytes, as a run. -/
theorem run_cut_sl (w : World) (A : Option Addr) (n c : Nat) (l : List UInt8) (hs : Sl w A (l.map bv)) (hn : l.length = n) (lo hi : Nat) (h1 : lo ≤ hi) (h2 : hi ≤ n) (hc : n ≤ c) :
    ∃ A' c', (Instr.slice 27 (.slice A n c) (some (.int .i64 (lo : Int))) (some (.int .i64 (hi : Int))) none).run Try.prog w = .ok (.slice A' (hi - lo) c') w ∧ Sl w A' (((l.drop lo).take (hi - lo)).map bv) := by
  have he27 : Try.prog.elem 27 = 5 := by unfold Program.elem; rw [Try.underlying27]
  have hr := run_slice_lh (P := Try.prog) (w := w) 27 A n c (by rw [he27]; exact Try.underlying27) .i64 .i64 (lo : Int) (hi : Int) (by omega) (by omega) (by omega)
  rw [he27] at hr
  have hsz : (sizeOf 5).run Try.prog w = .ok 1 w := by kernel_rfl
  rw [hsz] at hr
  simp only [Result.andThen, Int.toNat_natCast, sliced] at hr
  refine ⟨_, _, hr, ?_⟩
  by_cases he : hi - lo = 0
  · exact .inl (by rw [he]; simp)
  · rcases hs with hs | ⟨b, off, rfl, hcell⟩
    · have : l = [] := by simpa using hs
      subst this
      simp at hn
      omega
    · have hne : ¬ c = lo := by omega
      rw [if_neg hne]
      refine .inr ⟨b, off + lo, by simp [add_lit], fun j hj => ?_⟩
      simp only [List.length_map, List.length_take, List.length_drop] at hj
      have := hcell (lo + j) (by simp; omega)
      rw [Nat.add_assoc, this]
      simp

theorem cut_sl (w : World) (A : Option Addr) (n c : Nat) (l : List UInt8) (hs : Sl w A (l.map bv)) (hn : l.length = n) (lo hi : Nat) (h1 : lo ≤ hi) (h2 : hi ≤ n) (hc : n ≤ c) :
    Sl w (if c = lo then A else Option.map (fun x => x.add lo) A) (((l.drop lo).take (hi - lo)).map bv) := by
  by_cases he : hi - lo = 0
  · exact .inl (by rw [he]; simp)
  · rcases hs with hs | ⟨b, off, rfl, hcell⟩
    · have : l = [] := by simpa using hs
      subst this
      simp at hn
      omega
    · have hne : ¬ c = lo := by omega
      rw [if_neg hne]
      refine .inr ⟨b, off + lo, by simp [add_lit], fun j hj => ?_⟩
      simp only [List.length_map, List.length_take, List.length_drop] at hj
      have := hcell (lo + j) (by simp; omega)
      rw [Nat.add_assoc, this]
      simp

theorem alignI_mod (a b : Int) (h0 : 0 ≤ a) (hb : b = 1 ∨ b = 8) : (alignI a b).tmod b = 0 := by
  have hB := alignI_bounds a b h0 hb
  rw [Int.tmod_eq_emod_of_nonneg hB.2.2]
  unfold alignI
  rw [if_neg (by omega)]
  rcases hb with rfl | rfl
  · exact Int.emod_one _
  · split <;> omega
theorem b5 : Try.prog.underlying 5 = some (.int .u8) := by kernel_rfl
theorem b9 : Try.prog.underlying 9 = some .string := by kernel_rfl
theorem run_convb {P : Program} (w : World) (src dst e : TypeId) (A : Option Addr) (n c : Nat) (l : List UInt8) (hs : P.underlying src = some (.slice e)) (he : P.underlying e = some (.int .u8)) (hd : P.underlying dst = some .string)
    (hsl : Sl w A (l.map bv)) (hn : l.length = n) : (convert src dst (.slice A n c)).run P w = .ok (.string ⟨l.toArray⟩) w := by
  subst hn
  cases A with
  | none =>
    have : l = [] := by rcases hsl with h | ⟨b, off, h, _⟩; simpa using h; cases h
    subst this
    exact (run_convert_bytes_nil (P := P) w src e hs he 0 c dst hd)
  | some a =>
    by_cases h0 : l = []
    · subst h0
      exact run_convert_bytes_back w src dst e a c [] hs he hd (by simp)
    · rcases hsl with h | ⟨b, off, h, hc⟩
      · exact absurd (by simpa using h) h0
      · injection h with h
        subst h
        exact run_convert_bytes_back w src dst e _ c l hs he hd (fun j hj => by rw [add_lit, hc j (by simpa using hj)]; simp)


theorem layGo_prefix (ps : List Part) : ∀ (k : Nat) (M L : Laid), layGo M ps = some L → (∀ p ∈ ps, p.valid = true) → M.good k → M.sp <+: L.sp ∧ M.of <+: L.of ∧ M.s ≤ L.s ∧ M.al ≤ L.al := by
  induction ps with
  | nil =>
    intro k M L h _ _
    simp only [layGo, Option.some.injEq] at h
    subst h
    exact ⟨List.prefix_refl _, List.prefix_refl _, Int.le_refl _, Int.le_refl _⟩
  | cons p t ih =>
    intro k M L h hv hg
    simp only [layGo] at h
    split at h
    · rename_i hf
      have hpv := hv p (List.mem_cons_self ..)
      obtain ⟨h1, h2, h3, h4⟩ := ih (k + 1) (M.add p) L h (fun q hq => hv q (List.mem_cons_of_mem _ hq)) (hg.add hpv hf)
      obtain ⟨v1, v2, v3, v4⟩ := (valid_iff p).1 hpv
      have hb := alignI_bounds M.s p.al hg.s0 v3
      refine ⟨?_, ?_, ?_, ?_⟩
      · refine List.IsPrefix.trans ?_ h1
        show M.sp <+: M.sp ++ _ ++ _
        rw [List.append_assoc]
        exact List.prefix_append _ _
      · refine List.IsPrefix.trans ?_ h2
        exact List.prefix_append _ _
      · have : (M.add p).s = alignI M.s p.al + p.s := rfl
        omega
      · have : (M.add p).al = max M.al p.al := rfl
        omega
    · cases h
theorem countB_zeros (n : Nat) : countB (List.replicate n 0) = 0 := by
  unfold countB
  rw [List.map_replicate, show popc 0 = 0 from by decide]
  simp
/-- What the i-th part is in what has been laid. -/
theorem lay_part (ps : List Part) (L : Laid) (h : layGo Laid.start ps = some L) (hv : ∀ p ∈ ps, p.valid = true) (i : Nat) (hi : i < ps.length) (M : Laid) (hM : layGo Laid.start (ps.take i) = some M) :
    M.good i ∧ layGo Laid.start (ps.take (i + 1)) = some (M.add ps[i]) ∧ L.of[i]? = some (alignI M.s ps[i].al) ∧ M.s ≤ alignI M.s ps[i].al ∧ alignI M.s ps[i].al < M.s + ps[i].al ∧ alignI M.s ps[i].al + ps[i].s ≤ L.s ∧
      (L.sp.drop (alignI M.s ps[i].al).toNat).take ps[i].sp.length = ps[i].sp ∧ countB (M.add ps[i]).sp = countB M.sp + countB ps[i].sp := by
  have hpv := hv ps[i] (List.getElem_mem hi)
  obtain ⟨v1, v2, v3, v4⟩ := (valid_iff ps[i]).1 hpv
  have hvt : ∀ p ∈ ps.take i, p.valid = true := fun p hp => hv p (List.mem_of_mem_take hp)
  have hg := layGo_good (ps.take i) hvt _ _ _ Laid.good_start hM
  rw [List.length_take, Nat.zero_add, Nat.min_eq_left (by omega)] at hg
  have hb := alignI_bounds M.s ps[i].al hg.s0 v3
  have htk := layGo_take ps i hi
  rw [hM, Option.bind_some] at htk
  have hfit : M.fits ps[i] = true := by
    cases hf : M.fits ps[i] with
    | true => rfl
    | false =>
      rw [hf] at htk
      have := layGo_none _ _ (ps.drop (i + 1)) htk
      rw [List.take_append_drop, h] at this
      cases this
  rw [hfit] at htk
  have htk' : layGo Laid.start (ps.take (i + 1)) = some (M.add ps[i]) := htk
  have hsplit : layGo (M.add ps[i]) (ps.drop (i + 1)) = some L := by
    have key : ∀ (a b : List Part) (X Y : Laid), layGo X a = some Y → layGo X (a ++ b) = layGo Y b := by
      intro a
      induction a with
      | nil => intro b X Y h; simp only [layGo, Option.some.injEq] at h; subst h; rfl
      | cons c a ih =>
        intro b X Y h
        simp only [layGo, List.cons_append] at h ⊢
        split at h
        · rename_i hf; rw [if_pos hf]; exact ih b _ _ h
        · cases h
    rw [← key _ _ _ _ htk', List.take_append_drop]; exact h
  obtain ⟨h1, h2, h3, h4⟩ := layGo_prefix _ (i + 1) _ L hsplit (fun q hq => hv q (List.mem_of_mem_drop hq)) (hg.add hpv hfit)
  refine ⟨hg, htk', ?_, hb.1, hb.2.1, h3, ?_, ?_⟩
  · obtain ⟨r, hr⟩ := h2
    have ho : (M.add ps[i]).of = M.of ++ [alignI M.s ps[i].al] := rfl
    rw [← hr, ho, List.append_assoc, List.getElem?_append_right (by rw [hg.of]; exact Nat.le_refl _), hg.of, Nat.sub_self]
    rfl
  · obtain ⟨r, hr⟩ := h1
    have hs : (M.add ps[i]).sp = M.sp ++ List.replicate (alignI M.s ps[i].al - M.s).toNat 0 ++ ps[i].sp := rfl
    rw [← hr, hs, List.append_assoc _ ps[i].sp r]
    have hl : (M.sp ++ List.replicate (alignI M.s ps[i].al - M.s).toNat (0 : UInt8)).length = (alignI M.s ps[i].al).toNat := by
      have := hg.sp
      simp
      omega
    rw [← hl, List.drop_left, List.take_left]
  · have hs : (M.add ps[i]).sp = M.sp ++ List.replicate (alignI M.s ps[i].al - M.s).toNat 0 ++ ps[i].sp := rfl
    rw [hs, countB_append, countB_append, countB_zeros, Nat.add_zero]
end Go.Proofs.Ytamhigknobdloaa
