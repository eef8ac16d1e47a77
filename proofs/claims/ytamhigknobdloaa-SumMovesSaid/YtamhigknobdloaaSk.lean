/- The walk of sum.Project and sum.Tag; conditions: the slices are short and readable. -/
import Derived.Test.YtamhigknobdloaaSj
namespace Go.Proofs.Ytamhigknobdloaa
open Go.RowKit
set_option linter.unusedVariables false

theorem sl_tail {w : World} {A : Option Addr} {c : Nat} {l : List UInt8} (hs : Sl w A (l.map bv)) (lo : Nat) (h : lo ≤ l.length) (hc : l.length ≤ c) : Sl w (if c = lo then A else Option.map (fun x => x.add lo) A) ((l.drop lo).map bv) := by
  have := cut_sl w A l.length c l hs rfl lo l.length h (Nat.le_refl _) hc
  rwa [List.take_of_length_le (by simp)] at this
/-- What is left of a slice of bytes from a place on, as a run. -/
theorem run_tail_sl (w : World) (A : Option Addr) (n c : Nat) (l : List UInt8) (hs : Sl w A (l.map bv)) (hn : l.length = n) (lo : Nat) (h : lo ≤ n) (hc : n ≤ c) :
    ∃ A' c', (∀ W : World, (Instr.slice 27 (.slice A n c) (some (.int .i64 (lo : Int))) none none).run Try.prog W = .ok (.slice A' (n - lo) c') W) ∧ Sl w A' ((l.drop lo).map bv) := by
  refine ⟨(if c = lo then A else Option.map (fun x => x.add lo) A), c - lo, fun W => ?_, sl_tail hs lo (by omega) (by omega)⟩
  have he27 : Try.prog.elem 27 = 5 := by unfold Program.elem; rw [Try.underlying27]
  have hr := run_slice_l (P := Try.prog) (w := W) 27 A n c (by rw [he27]; exact Try.underlying27) .i64 (lo : Int) (by omega) (by omega)
  rw [he27] at hr
  have hsz : (sizeOf 5).run Try.prog W = .ok 1 W := by kernel_rfl
  rw [hsz] at hr
  simpa only [Result.andThen, Int.toNat_natCast, sliced, Nat.mul_one] using hr
/-- The head of a slice of bytes, cut to its length, as a run. -/
theorem run_head_sl (w : World) (A : Option Addr) (n c : Nat) (l : List UInt8) (hs : SlE w 5 A (l.map bv)) (hn : l.length = n) (hi : Nat) (h : hi ≤ n) (hc : n ≤ c) :
    ∃ A', (∀ W : World, (Instr.slice 27 (.slice A n c) none (some (.int .i64 (hi : Int))) (some (.int .i64 (hi : Int)))).run Try.prog W = .ok (.slice A' hi hi) W) ∧ SlE w 5 A' ((l.take hi).map bv) := by
  refine ⟨(if hi = 0 then A else Option.map (fun x => x.add 0) A), fun W => ?_, ?_⟩
  · have he27 : Try.prog.elem 27 = 5 := by unfold Program.elem; rw [Try.underlying27]
    have hr := run_slice_hm (P := Try.prog) (w := W) 27 A n c (by rw [he27]; exact Try.underlying27) .i64 .i64 (hi : Int) (hi : Int) (by omega) (by omega) (by omega)
    rw [he27] at hr
    have hsz : (sizeOf 5).run Try.prog W = .ok 1 W := by kernel_rfl
    rw [hsz] at hr
    simpa only [Result.andThen, Int.toNat_natCast, sliced, Nat.mul_one, Nat.sub_zero] using hr
  · by_cases h0 : hi = 0
    · subst h0; exact .inl (by simp)
    · rw [if_neg h0]
      rcases hs with hs | ⟨b, off, cs, fz, rfl, hb, hcell⟩
      · exact .inl (by simp only [List.map_eq_nil_iff] at hs; subst hs; simp)
      · refine .inr ⟨b, off, cs, fz, by simp [add_lit], hb, fun j hj => ?_⟩
        simp only [List.length_map, List.length_take] at hj
        rw [hcell j (by simp; omega)]
        simp
theorem getB62 (m : List UInt8) (l : List Int) : getB m l 0 < 4611686018427387904 := by
  rw [← getB_take m l 0 62 (by omega)]
  have h1 := getB_lt m (l.take 62) 0
  have h2 : (l.take 62).length ≤ 62 := List.length_take_le _ _
  have h3 : 2 ^ (0 + (l.take 62).length) ≤ 2 ^ 62 := Nat.pow_le_pow_right (by omega) (by omega)
  have h4 : (2 : Nat) ^ 62 = 4611686018427387904 := by decide
  omega
/-- The case of bytes and what lies there. -/
def projR (p : Part) (cs : List CaseV) (tags : List Int) (m : List UInt8) : Option (Nat × List UInt8) :=
  if p.valid && fitsB m p.sp then
    match cs[getB m tags 0]? with
    | none => none
    | some q => if sizeOk p q && !((clearB m tags).drop (liesI q).toNat).any (fun b => b != 0) then some (getB m tags 0, (clearB m tags).take (liesI q).toNat) else none
  else none
def ProjPost (r : Option (Nat × List UInt8)) (w : World) (e : Ending) (w' : World) : Prop :=
  Below w.heap.size w w' ∧ ((r = none ∧ e = .returned (.tuple #[.int .i64 0, .slice none 0 0, .int .i64 21])) ∨
    ∃ (k : Nat) (u : List UInt8) (A : Option Addr) (c : Nat), r = some (k, u) ∧ e = .returned (.tuple #[.int .i64 k, .slice A u.length c, .int .i64 0]) ∧ SlE w' 5 A (u.map bv) ∧ u.length ≤ c)

set_option maxHeartbeats 3200000 in
set_option maxRecDepth 100000 in
theorem proj_any (p : Part) (cs : List CaseV) (tags : List Int) (Ab : Option Addr) (n cb : Nat) (m : List UInt8) (w : World) (h : LayOf w p cs tags) (hn : m.length = n) (hs : Sl w Ab (m.map bv)) (hlen : n ≤ 1000000) (hcap : n ≤ cb) (hsl : p.sp.length ≤ 1000000) (htl : tags.length ≤ 1000000) :
    Calls Try.prog 64 #[p.val, .slice Ab n cb] w (ProjPost (projR p cs tags m) w) := by
  have hvp := valid_any p.s p.al p.A p.sp.length p.c p.x3 p.x4 p.x5 p.x6 p.x7
  have hV : ∀ W, Calls Try.prog 47 #[p.val] W fun e w' => e = .returned (.bool p.valid) ∧ Below W.heap.size W w' := fun W => hvp W
  obtain ⟨s, al, A, sp, c, x3, x4, x5, x6, x7⟩ := p
  obtain ⟨A5, c5, e5, hcs⟩ := h.x5
  obtain ⟨A6, c6, e6, htg, htc⟩ := h.x6
  simp only at e5 e6 hsl
  subst e5 e6
  have hone := h.one
  have sx3 := store_var (P := Try.prog) hone.h3
  have sx4 := store_var (P := Try.prog) hone.h4
  have sx7 := store_var (P := Try.prog) hone.h7
  have hb0 := (Below.refl w.heap.size w).alloc (Nat.le_refl _) (.cells #[.int .i64 s, .int .i64 al, .slice A sp.length c, x3, x4, .slice A5 cs.length c5, .slice A6 tags.length c6, x7] 31)
  have hP := Blk.new w 31 #[.int .i64 s, .int .i64 al, .slice A sp.length c, x3, x4, .slice A5 cs.length c5, .slice A6 tags.length c6, x7]
  have hL := h.below hb0
  have hs1 := hs.below hb0
  have hclen := h.len
  have HH := Lib.hid h
  have HP := Lib.hid hP
  have HB0 := Lib.hid hb0
  have HL := Lib.hid hL
  have HS1 := Lib.hid hs1
  have HN := Lib.hid hn
  have HV := Lib.hid hV
  clear h hP hb0 hL hs1 hn hs hcs htg hone hV hvp
  unfold Part.val
  cases hv : (⟨s, al, A, sp, c, x3, x4, .slice A5 cs.length c5, .slice A6 tags.length c6, x7⟩ : Part).valid with
  | false =>
    have hr : projR ⟨s, al, A, sp, c, x3, x4, .slice A5 cs.length c5, .slice A6 tags.length c6, x7⟩ cs tags m = none := by unfold projR; rw [hv]; rfl
    rw [hr]
    have HVV := Lib.hid hv
    clear hr hv
    go_enter Try.func64, Try.ntmps64
    go_wp2_with fail
    refine (HV.out _).mono ?_
    rw [HVV.out]
    rintro e w2 ⟨rfl, hb2⟩
    have HB2 := Lib.hid (below_next HB0.out hb2)
    clear hb2
    go_wp2
    go_ret3
    exact ⟨HB2.out, .inl ⟨rfl, rfl⟩⟩
  | true =>
    have HVV := Lib.hid hv
    clear hv
    cases hf : fitsB m sp with
    | false =>
      have hr : projR ⟨s, al, A, sp, c, x3, x4, .slice A5 cs.length c5, .slice A6 tags.length c6, x7⟩ cs tags m = none := by unfold projR; simp only; rw [hf, Bool.and_false]; rfl
      rw [hr]
      have HF := Lib.hid hf
      clear hr hf
      go_enter Try.func64, Try.ntmps64
      go_wp2_with fail
      refine (HV.out _).mono ?_
      rw [HVV.out]
      rintro e w2 ⟨rfl, hb2⟩
      have hb22 := below_next HB0.out hb2
      have hsp2 := HL.out.sp.below hb2
      have hm2 := HS1.out.below hb2
      obtain ⟨⟨b0, b1, b2, b3, b4, b5, b6, b7⟩, bf⟩ := (HP.out.below hb2).eight
      have HSP2 := Lib.hid hsp2
      have HB2 := Lib.hid hb22
      clear hb2 hsp2 hb22
      go_wp2_with fail
      refine (fits_any Ab n cb m A sp.length c sp _ HN.out hm2 hlen hcap rfl HSP2.out hsl).mono ?_
      rw [HF.out]
      rintro e w3 ⟨rfl, hb3⟩
      have HB3 := Lib.hid (below_next HB2.out hb3)
      clear hb3
      go_wp2
      go_ret3
      exact ⟨HB3.out, .inl ⟨rfl, rfl⟩⟩
    | true =>
      have HF := Lib.hid hf
      clear hf
      have hml : m.length = sp.length := ((fitsB_iff m sp).1 HF.out).1
      obtain ⟨v1, v2, v3, v4⟩ := (valid_iff _).1 HVV.out
      simp only at v1 v2 v3 v4
      have hns : (n : Int) = s := by have := HN.out; omega
      have hn1024 : n ≤ 1024 := by omega
      obtain ⟨K, hK⟩ : ∃ K, K = getB m tags 0 := ⟨_, rfl⟩
      have hK62 : K < 4611686018427387904 := by rw [hK]; exact getB62 m tags
      have hproj : projR ⟨s, al, A, sp, c, x3, x4, .slice A5 cs.length c5, .slice A6 tags.length c6, x7⟩ cs tags m = (match cs[K]? with
          | none => none
          | some q => if sizeOk ⟨s, al, A, sp, c, x3, x4, .slice A5 cs.length c5, .slice A6 tags.length c6, x7⟩ q && !((clearB m tags).drop (liesI q).toNat).any (fun b => b != 0) then some (K, (clearB m tags).take (liesI q).toNat) else none) := by
        unfold projR; rw [HVV.out]; simp only; rw [HF.out, ← hK]; rfl
      have HK := Lib.hid hK
      have HPROJ := Lib.hid hproj
      have HNS := Lib.hid hns
      clear hK hproj hns hml v3 v4
      go_enter Try.func64, Try.ntmps64
      go_wp2_with fail
      refine (HV.out _).mono ?_
      rw [HVV.out]
      rintro e w2 ⟨rfl, hb2⟩
      have hb22 := below_next HB0.out hb2
      have hsp2 := HL.out.sp.below hb2
      have hm2 := HS1.out.below hb2
      have hP2 := HP.out.below hb2
      obtain ⟨⟨b0, b1, b2, b3, b4, b5, b6, b7⟩, bf⟩ := hP2.eight
      have HSP2 := Lib.hid hsp2
      have HM2 := Lib.hid hm2
      have HB2 := Lib.hid hb22
      have HP2 := Lib.hid hP2
      have HL2 := Lib.hid (HL.out.below hb2)
      clear hb2 hsp2 hb22 hm2 hP2 b0 b1 b3 b4 b5 b6 b7
      go_wp2_with fail
      refine (fits_any Ab n cb m A sp.length c sp _ HN.out HM2.out hlen hcap rfl HSP2.out hsl).mono ?_
      rw [HF.out]
      rintro e w3 ⟨rfl, hb3⟩
      have HB3 := Lib.hid (below_next HB2.out hb3)
      have hP3 := HP2.out.below hb3
      have hL3 := HL2.out.below hb3
      obtain ⟨A6', c6', e6, htg3, _⟩ := hL3.x6
      injection e6 with q1 q2 q3
      subst q1 q3
      clear q2 b2 bf
      obtain ⟨⟨b0, b1, b2, b3, b4, b5, b6, b7⟩, bf⟩ := hP3.eight
      have hm3 := HM2.out.below hb3
      have hib := hL3.ib
      have HP3 := Lib.hid hP3
      have HL3 := Lib.hid hL3
      have HTG3 := Lib.hid htg3
      have HM3 := Lib.hid hm3
      clear hb3 hP3 hL3 htg3 hm3
      go_wp2_with fail
      refine (getbits_any Ab n cb m A6 tags.length c6 tags _ HN.out HM3.out hlen rfl HTG3.out htl htc hib).mono ?_
      rw [← HK.out]
      rintro e w4 ⟨rfl, rfl⟩
      by_cases hkc : K < cs.length
      · have hq := List.getElem?_eq_getElem hkc
        have HQ := Lib.hid hq
        have hkc' : (K : Int) < (cs.length : Int) := by omega
        clear hq
        go_wp2_with fail
        refine (size_any ⟨s, al, A, sp, c, x3, x4, .slice A5 cs.length c5, .slice A6 tags.length c6, x7⟩ cs tags K _ HL3.out hkc).mono ?_
        generalize hqk : cs[K] = q
        have HQK := Lib.hid hqk
        clear hqk
        cases hso : sizeOk ⟨s, al, A, sp, c, x3, x4, .slice A5 cs.length c5, .slice A6 tags.length c6, x7⟩ q with
        | false =>
          have hr := HPROJ.out
          rw [HQ.out, HQK.out] at hr
          simp only [hso, Bool.false_and] at hr
          rintro e w5 ⟨rfl, hb5⟩
          have HB5 := Lib.hid (below_next HB3.out hb5)
          have HR := Lib.hid hr
          clear hb5 hr hso
          go_wp2
          go_ret3
          exact ⟨HB5.out, .inl ⟨HR.out, rfl⟩⟩
        | true =>
          have hr := HPROJ.out
          rw [HQ.out, HQK.out] at hr
          simp only [hso, Bool.true_and] at hr
          have hso2 : 0 ≤ liesI q ∧ liesI q ≤ s := by unfold sizeOk at hso; simp at hso; exact ⟨hso.1.2, hso.2⟩
          obtain ⟨N, hN⟩ := Int.eq_ofNat_of_zero_le hso2.1
          rw [hN] at hr hso2 ⊢
          rw [Int.toNat_natCast] at hr
          have hNn : N ≤ n := by have := HNS.out; omega
          rintro e w5 ⟨rfl, hb5⟩
          have HB5 := Lib.hid (below_next HB3.out hb5)
          have hP5 := HP3.out.below hb5
          have hm5 := HM3.out.below hb5
          have htg5 := HTG3.out.below hb5
          have HR := Lib.hid hr
          have HM5 := Lib.hid hm5
          have HTG5 := Lib.hid htg5
          clear b0 b1 b2 b3 b4 b5 b6 b7 bf
          obtain ⟨⟨b0, b1, b2, b3, b4, b5, b6, b7⟩, bf⟩ := hP5.eight
          clear hb5 hr hso hP5 hm5 htg5 hN hso2 b0 b1 b2 b3 b4 b5 b7
          go_wp2_with fail
          refine (clear_any Ab n cb m A6 tags.length c6 tags _ HN.out HM5.out hlen rfl HTG5.out htl hib).mono ?_
          rintro e w6 ⟨A7, c7, rfl, own7, hb6⟩
          have hcap7 := own_cap own7
          have hS7 : SlE w6 5 A7 ((clearB m tags).map bv) := SlE.of_own own7
          have hcl : (clearB m tags).length = n := by rw [clearB_length, HN.out]
          obtain ⟨A8, c8, hrun8, hS8⟩ := run_tail_sl w6 A7 n c7 (clearB m tags) hS7.sl hcl N hNn hcap7
          obtain ⟨A9, hrun9, hS9⟩ := run_head_sl w6 A7 n c7 (clearB m tags) hS7 hcl N hNn hcap7
          have HB6 := Lib.hid (below_next HB5.out hb6)
          have HS8 := Lib.hid hS8
          have HS9 := Lib.hid hS9
          have HCL := Lib.hid hcl
          clear own7 hS7 hb6 hS8 hS9 hcl b6 bf
          have hNi : (N : Int) ≤ (n : Int) := by omega
          have hN0 : (0 : Int) ≤ (N : Int) := by omega
          go_wp2_with fail
          refine (cont89_any A8 (n - N) c8 ((clearB m tags).drop N) _ (by rw [List.length_drop, HCL.out]) HS8.out (by omega)).mono ?_
          cases hany : ((clearB m tags).drop N).any (fun b => b != 0) with
          | true =>
            rintro e w7 ⟨rfl, rfl⟩
            have hr := HR.out
            simp only [hany, Bool.not_true] at hr
            have HR2 := Lib.hid hr
            clear hany hr
            go_wp2
            go_ret3
            exact ⟨HB6.out, .inl ⟨HR2.out, rfl⟩⟩
          | false =>
            rintro e w7 ⟨rfl, rfl⟩
            have hr := HR.out
            simp only [hany, Bool.not_false, if_true] at hr
            have HR2 := Lib.hid hr
            clear hany hr
            go_wp2_with fail
            go_quiet (fail)
            go_wp2
            go_ret3
            have hlt : ((clearB m tags).take N).length = N := by rw [List.length_take, HCL.out]; omega
            refine ⟨below_drewN' HB6.out _, .inr ⟨K, (clearB m tags).take N, A9, N, HR2.out, ?_, ?_, by rw [hlt]; exact Nat.le_refl _⟩⟩
            · rw [hlt]; rfl
            · exact HS9.out.keep (fun _ _ _ _ => rfl)
      · have hq : cs[K]? = none := List.getElem?_eq_none (by omega)
        have hr := HPROJ.out
        rw [hq] at hr
        have HR := Lib.hid hr
        have hkc' : (cs.length : Int) ≤ (K : Int) := by omega
        clear hr hq
        go_wp2
        go_ret3
        exact ⟨HB3.out, .inl ⟨HR.out, rfl⟩⟩
def TagPost (r : Option (Nat × List UInt8)) (w : World) (e : Ending) (w' : World) : Prop :=
  Below w.heap.size w w' ∧ ((r = none ∧ e = .returned (.tuple #[.int .i64 0, .int .i64 21])) ∨ ∃ (k : Nat) (u : List UInt8), r = some (k, u) ∧ e = .returned (.tuple #[.int .i64 k, .int .i64 0]))
set_option maxHeartbeats 1600000 in
theorem tag_any (p : Part) (cs : List CaseV) (tags : List Int) (Ab : Option Addr) (n cb : Nat) (m : List UInt8) (w : World) (h : LayOf w p cs tags) (hn : m.length = n) (hs : Sl w Ab (m.map bv)) (hlen : n ≤ 1000000) (hcap : n ≤ cb) (hsl : p.sp.length ≤ 1000000) (htl : tags.length ≤ 1000000) :
    Calls Try.prog 67 #[p.val, .slice Ab n cb] w (TagPost (projR p cs tags m) w) := by
  have hone := h.one
  have hpr := fun W (hL : LayOf W p cs tags) (hS : Sl W Ab (m.map bv)) => proj_any p cs tags Ab n cb m W hL hn hS hlen hcap hsl htl
  obtain ⟨r, hr⟩ : ∃ r, r = projR p cs tags m := ⟨_, rfl⟩
  rw [← hr] at hpr ⊢
  obtain ⟨s, al, A, sp, c, x3, x4, x5, x6, x7⟩ := p
  have sx3 := store_var (P := Try.prog) hone.h3
  have sx4 := store_var (P := Try.prog) hone.h4
  have sx5 := store_var (P := Try.prog) hone.h5
  have sx6 := store_var (P := Try.prog) hone.h6
  have sx7 := store_var (P := Try.prog) hone.h7
  have hb0 := (Below.refl w.heap.size w).alloc (Nat.le_refl _) (.cells #[.int .i64 s, .int .i64 al, .slice A sp.length c, x3, x4, x5, x6, x7] 31)
  have HP := Lib.hid (hpr _ (h.below hb0) (hs.below hb0))
  have HB0 := Lib.hid hb0
  clear hpr hr h hs hb0 hone hn
  unfold Part.val
  go_enter Try.func67, Try.ntmps67
  go_wp2_with fail
  refine HP.out.mono ?_
  rintro e w2 ⟨hb2, h2⟩
  have HB := Lib.hid (below_next HB0.out hb2)
  rcases h2 with ⟨h2, rfl⟩ | ⟨k, u, A9, c9, h2, rfl, _⟩
  · have HR := Lib.hid h2
    clear h2 hb2 HP HB0
    go_wp2
    go_ret2
    exact ⟨HB.out, .inl ⟨HR.out, rfl⟩⟩
  · have HR := Lib.hid h2
    clear h2 hb2 HP HB0
    go_wp2
    go_ret2
    exact ⟨HB.out, .inr ⟨k, u, HR.out, rfl⟩⟩
end Go.Proofs.Ytamhigknobdloaa
