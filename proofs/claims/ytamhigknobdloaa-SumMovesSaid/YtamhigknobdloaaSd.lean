/- The walk of sum.common; conditions: the layouts are few, their masks are short. -/
import Derived.Test.YtamhigknobdloaaSc
namespace Go.Proofs.Ytamhigknobdloaa
open Go.RowKit
set_option linter.unusedVariables false

/-- The bits that are spare in all parts that have bytes. -/
def meet (n : Nat) (o : List UInt8) (p : Part) : List UInt8 := if 0 < p.s then andB o (extB p.sp n) else o
def commonB (ps : List Part) (n : Nat) : List UInt8 := if ps.any (fun p => decide (0 < p.s)) then ps.foldl (meet n) (extB [] n) else List.replicate n 0
theorem meet_length (n : Nat) (o : List UInt8) (p : Part) (h : o.length = n) : (meet n o p).length = n := by
  unfold meet
  split
  · rw [andB_length, extB_length, h, Nat.min_self]
  · exact h
theorem fold_length (n : Nat) (ps : List Part) : ∀ o : List UInt8, o.length = n → (ps.foldl (meet n) o).length = n := by
  induction ps with
  | nil => intro o h; exact h
  | cons p t ih => intro o h; exact ih _ (meet_length n o p h)
theorem commonB_length (ps : List Part) (n : Nat) : (commonB ps n).length = n := by
  unfold commonB
  split
  · exact fold_length n ps _ (extB_length _ _)
  · simp
theorem fold_take (n : Nat) (ps : List Part) (k : Nat) (h : k < ps.length) (o : List UInt8) : (ps.take (k + 1)).foldl (meet n) o = meet n ((ps.take k).foldl (meet n) o) ps[k] := by
  rw [List.take_succ_eq_append_getElem h, List.foldl_append]; rfl
theorem own_base {w : World} {base base' : Nat} {e : TypeId} {size n : Nat} {v : Value} {xs : List Value} (h : w.ownsRow base e size v n xs) (hb : base' ≤ base) : w.ownsRow base' e size v n xs := by
  rcases h with ⟨hl, h1 | ⟨g, cap, cur, h1, h2, h3⟩⟩
  · exact ⟨hl, .inl h1⟩
  · exact ⟨hl, .inr ⟨g, cap, cur, h1, Nat.le_trans hb h2, h3⟩⟩
set_option maxHeartbeats 3200000 in
theorem common_any (A : Option Addr) (m c : Nat) (ps : List Part) (N : Nat) (w : World) (hm : ps.length = m) (hs : Parts w A ps) (hsp : ∀ p ∈ ps, Sl w p.A (p.sp.map bv)) (hone : ∀ p ∈ ps, p.one) (hl : ∀ p ∈ ps, p.sp.length ≤ 9223372036854775807) (hm2 : m ≤ 1000) (hN : N ≤ 1024) :
    Calls Try.prog 86 #[.slice A m c, .int .i64 N] w fun e w' => ∃ A' c', e = .returned (.slice A' N c') ∧ w'.ownsRow w.heap.size 5 1 (.slice A' N c') N ((commonB ps N).map bv) ∧ Below w.heap.size w w' := by
  have hcl : clampN N = N := by unfold clampN; omega
  have HCL := Lib.hid hcl
  have HM := Lib.hid hm
  have HS := Lib.hid hs
  have HSP := Lib.hid hsp
  have HONE := Lib.hid hone
  have HL63 := Lib.hid hl
  clear hcl hm hs hsp hone hl
  go_enter Try.func86, Try.ntmps86
  go_wp2_with fail
  refine (extend_any none 0 0 [] (N : Int) _ rfl Sl.nil (by omega)).mono ?_
  rintro e w1 ⟨A1, rfl, own1, hb1⟩
  rw [HCL.out] at own1 ⊢
  have hsl1 := own1.sl
  clear own1
  go_wp2_with fail
  go_loopw [5, 6, 13] (fun v5 v6 v13 wr => ∃ (k : Nat) (A5 : Option Addr) (c5 : Nat) (b : Bool), k ≤ m ∧ v13 = .int .i64 k ∧ v5 = .slice A5 N c5 ∧ N ≤ c5 ∧ v6 = .bool b ∧ Hid (b = (ps.take k).any (fun p => decide (0 < p.s))) ∧ Sl wr A5 (((ps.take k).foldl (meet N) (extB [] N)).map bv) ∧ (b = true → wr.ownsRow w.heap.size 5 1 (.slice A5 N c5) N (((ps.take k).foldl (meet N) (extB [] N)).map bv)) ∧ Below w.heap.size w wr) (fun _ _ v13 _ => m - (intOf v13).toNat)
  case atStart => exact ⟨0, A1, N, false, by omega, rfl, rfl, Nat.le_refl _, rfl, (rfl : _ = _), hsl1, (fun h => by cases h), hb1⟩
  case round =>
    obtain ⟨k, A5, c5, b, hk, rfl, rfl, hc5, rfl, hb, hsl, hown, hbl⟩ := hrel
    clear hsl1 hb1
    by_cases hlt : k < m
    · have hkp : k < ps.length := by rw [HM.out]; exact hlt
      obtain ⟨gb, off, rfl, c0, c1, c2, c3, c4, c5', c6, c7⟩ := (HS.out.below hbl).get hkp
      have hpo := HONE.out ps[k] (List.getElem_mem hkp)
      have hps := (HSP.out ps[k] (List.getElem_mem hkp)).below hbl
      have hp63 := HL63.out ps[k] (List.getElem_mem hkp)
      have hft := fold_take N ps k hkp (extB [] N)
      have hta := take_any ps (fun p => decide (0 < p.s)) k hkp
      have hol := fold_length N (ps.take k) (extB [] N) (extB_length _ _)
      generalize ps[k] = p at *
      have sx3 := store_var (P := Try.prog) hpo.h3
      have sx4 := store_var (P := Try.prog) hpo.h4
      have sx5 := store_var (P := Try.prog) hpo.h5
      have sx6 := store_var (P := Try.prog) hpo.h6
      have sx7 := store_var (P := Try.prog) hpo.h7
      have hbn := (Below.refl wr.heap.size wr).alloc (Nat.le_refl _) (.cells #[.int .i64 p.s, .int .i64 p.al, .slice p.A p.sp.length p.c, p.x3, p.x4, p.x5, p.x6, p.x7] 31)
      have HFT := Lib.hid hft
      have HTA := Lib.hid hta
      have HOL := Lib.hid hol
      have HPS := Lib.hid (hps.below hbn)
      have HSL := Lib.hid (hsl.below hbn)
      have HBN := Lib.hid (below_next hbl hbn)
      have HBL := Lib.hid hbl
      have HBN0 := Lib.hid hbn
      have HOWN := Lib.hid hown
      have hszw := hbl.size
      clear hpo hps hft hta hol hsl hbn hown hbl
      by_cases hpos : 0 < p.s
      · have hd : decide (0 < p.s) = true := by simpa using hpos
        go_wp2_with fail
        refine (extend_any p.A p.sp.length p.c p.sp (N : Int) _ rfl HPS.out hp63).mono ?_
        rintro e w2 ⟨A2, rfl, own2, hb2⟩
        rw [HCL.out] at own2 ⊢
        have hsl2 := own2.sl
        have hsl5 := HSL.out.below hb2
        have hb2' := below_next HBN.out hb2
        have hsz2 := hb2'.size
        clear own2 hb2
        go_wp2_with fail
        refine (and_any A5 N c5 _ A2 N N (extB p.sp N) _ HOL.out hsl5 (by omega) hc5 (extB_length _ _) hsl2 (by omega)).mono ?_
        rintro e w3 ⟨A3, c3', rfl, own3, hb3⟩
        rw [Nat.min_self] at own3 ⊢
        have hcap3 := own_cap own3
        have hme : meet N ((ps.take k).foldl (meet N) (extB [] N)) p = andB ((ps.take k).foldl (meet N) (extB [] N)) (extB p.sp N) := by unfold meet; rw [if_pos hpos]
        have HME := Lib.hid hme
        have HOWN3 := Lib.hid (own_base own3 hsz2)
        have HB3 := Lib.hid (below_next hb2' hb3)
        clear own3 hb3 hb2' hme hsl2 hsl5
        go_wp2_with fail
        go_roundw
        case rel => exact ⟨k + 1, A3, c3', true, by omega, by go_num, rfl, hcap3, rfl, (by show _ = _; rw [HTA.out, hd]; simp), (by rw [HFT.out, HME.out]; exact Sl.of_own HOWN3.out), (fun _ => by rw [HFT.out, HME.out]; exact HOWN3.out), HB3.out⟩
        case measure => simp [intOf]; omega
      · have hd : decide (0 < p.s) = false := by simpa using hpos
        have hme : meet N ((ps.take k).foldl (meet N) (extB [] N)) p = (ps.take k).foldl (meet N) (extB [] N) := by unfold meet; rw [if_neg hpos]
        have HME := Lib.hid hme
        clear hme
        go_wp2_with fail
        go_roundw
        case rel => exact ⟨k + 1, A5, c5, b, by omega, by go_num, rfl, hc5, rfl, (by show _ = _; rw [HTA.out, hd, ← hb.out]; simp), (by rw [HFT.out, HME.out]; exact HSL.out), (fun h => by rw [HFT.out, HME.out]; exact below_own (HOWN.out h) HBN0.out), HBN.out⟩
        case measure => simp [intOf]; omega
    · obtain rfl : k = m := by omega
      have htk : ps.take k = ps := List.take_of_length_le (by rw [HM.out]; exact Nat.le_refl _)
      have hb' := hb.out
      rw [htk] at hb' hown
      have HB' := Lib.hid hb'
      clear hb' htk hsl
      cases b with
      | true =>
        have HOWN := Lib.hid (hown rfl)
        clear hown
        go_wp2_with fail
        go_ret
        refine ⟨A5, c5, rfl, ?_, hbl⟩
        have hc : commonB ps N = ps.foldl (meet N) (extB [] N) := by unfold commonB; rw [if_pos HB'.out.symm]
        rw [hc]; exact HOWN.out
      | false =>
        clear hown
        obtain ⟨i0, hi0, hz0, hz1, hz2⟩ := info_parts (show (Try.prog.info? 5).map (fun i => (i.zero, i.size, i.bytes)) = some (some (.int .u8 0), 1, 1) from by kernel_rfl)
        obtain ⟨w2, hmk, own2, hg2⟩ := run_make_full (P := Try.prog) (w := wr) w.heap.size 27 5 i0 (.int .u8 0) 1 Try.underlying27 hi0 hz0 hz1 .i64 .i64 N (by rw [hz2]; omega) (by simp only [maxLen]; omega) hbl.size
        have hb2 := hbl.grown hg2 hbl.size (fun q hq => by cases hq)
        have HOWN := Lib.hid own2
        clear hg2 own2 hi0 hz0 hz1 hz2
        go_wp2_with fail
        go_ret
        refine ⟨_, _, rfl, ?_, hb2⟩
        have hc : commonB ps N = List.replicate N 0 := by unfold commonB; rw [if_neg (by rw [← HB'.out]; decide)]
        rw [hc]
        have := HOWN.out
        rw [Nat.mul_one, show (Value.int .u8 0).cells = #[.int .u8 0] from rfl, toList_madeCells_one] at this
        simpa [bv] using this
end Go.Proofs.Ytamhigknobdloaa
