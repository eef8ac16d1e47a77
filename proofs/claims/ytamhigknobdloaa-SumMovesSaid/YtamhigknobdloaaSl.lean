/- The walk of sum.Inject; conditions: the slices are short and readable. -/
import Derived.Test.YtamhigknobdloaaSk
namespace Go.Proofs.Ytamhigknobdloaa
open Go.RowKit
set_option linter.unusedVariables false

def padB (m : List UInt8) (k : Nat) : List UInt8 := m ++ List.replicate k 0
/-- The error and the bytes of a case. -/
def injR (p : Part) (cs : List CaseV) (tags : List Int) (k : Int) (m : List UInt8) : Int × List UInt8 :=
  if k < 0 ∨ (cs.length : Int) ≤ k then (20, []) else match cs[k.toNat]? with
    | none => (20, [])
    | some q => if sizeOk p q && decide ((m.length : Int) = liesI q) then
        (if fitsB (padB m (p.s - liesI q).toNat) p.sp && decide (clearB (padB m (p.s - liesI q).toNat) tags = padB m (p.s - liesI q).toNat) then (0, putB (padB m (p.s - liesI q).toNat) tags k 0) else (21, []))
      else (21, [])
def InjPost (r : Int × List UInt8) (w : World) (e : Ending) (w' : World) : Prop :=
  Below w.heap.size w w' ∧ ∃ (A : Option Addr) (c : Nat), e = .returned (.tuple #[.slice A r.2.length c, .int .i64 r.1]) ∧ SlE w' 5 A (r.2.map bv) ∧ r.2.length ≤ c
theorem injPost_err {w w' : World} {e : Ending} {r : Int × List UInt8} (k : Int) (hr : r = (k, [])) (hb : Below w.heap.size w w') (he : e = .returned (.tuple #[.slice none 0 0, .int .i64 k])) : InjPost r w e w' := by
  subst hr; exact ⟨hb, none, 0, he, .inl rfl, Nat.le_refl _⟩

theorem own_blk_far {w : World} {base e size n : Nat} {v : Value} {ys : List Value} {b t : Nat} {cs : Array Value} (ho : w.ownsRow base e size v n ys) (hB : Blk w b t cs) (hne : e ≠ t) : v.ownBlock ≠ some b := by
  intro h
  rcases own_blk_ne ho hB (fun e => hne e) with h1 | h1
  · rw [h1] at h; cases h
  · exact h1 h
theorem LayOf.drew {w : World} {p : Part} {cs : List CaseV} {tags : List Int} (h : LayOf w p cs tags) : LayOf w.drew p cs tags := h.below ⟨rfl, rfl, rfl, Nat.le_refl _, fun _ _ => rfl⟩
set_option maxHeartbeats 3200000 in
set_option maxRecDepth 100000 in
theorem inj_any (p : Part) (cs : List CaseV) (tags : List Int) (k : Int) (Ab : Option Addr) (n cb : Nat) (m : List UInt8) (w : World) (h : LayOf w p cs tags) (hn : m.length = n) (hs : Sl w Ab (m.map bv)) (hlen : n ≤ 1000000) (hcap : n ≤ cb) (hsl : p.sp.length ≤ 1000000) (htl : tags.length ≤ 1000000)
    (hk0 : -9223372036854775808 ≤ k) (hk1 : k ≤ 9223372036854775807) :
    Calls Try.prog 63 #[p.val, .int .i64 k, .slice Ab n cb] w (InjPost (injR p cs tags k m) w) := by
  obtain ⟨s, al, A, sp, c, x3, x4, x5, x6, x7⟩ := p
  obtain ⟨A5, c5, e5, hcs⟩ := h.x5
  obtain ⟨A6, c6, e6, htg, htc⟩ := h.x6
  simp only at e5 e6 hsl
  subst e5 e6
  have hone := h.one
  have sx3 := store_var (P := Try.prog) hone.h3
  have sx4 := store_var (P := Try.prog) hone.h4
  have sx7 := store_var (P := Try.prog) hone.h7
  have hb0 := (Below.refl w.heap.size w).alloc (Nat.le_refl _) (.cells #[.int .i64 s, .int .i64 al, .slice A sp.length c, x3, x4, .slice A5 cs.length c5, .slice A6 tags.length c6, x7] 31)
  have hP := Blk.new w 31 #[.int .i64 s, .int .i64 al, .slice A sp.length c, x3, x4, .slice A5 cs.length c5, .slice A6 tags.length c6, x7]
  have hL := h.below hb0
  have hs1 := hs.below hb0
  have hclen := h.len
  have hib := h.ib
  have HH := Lib.hid h
  have HP := Lib.hid hP
  have HB0 := Lib.hid hb0
  have HL := Lib.hid hL
  have HS1 := Lib.hid hs1
  have HN := Lib.hid hn
  clear h hP hb0 hL hs1 hn hs hcs htg hone
  unfold Part.val
  obtain ⟨r, hr⟩ : ∃ r, r = injR ⟨s, al, A, sp, c, x3, x4, .slice A5 cs.length c5, .slice A6 tags.length c6, x7⟩ cs tags k m := ⟨_, rfl⟩
  rw [← hr]
  unfold injR at hr
  by_cases hneg : k < 0
  · rw [if_pos (.inl hneg)] at hr
    have HR := Lib.hid hr
    clear hr
    have hd : decide (k < 0) = true := by simpa using hneg
    go_enter Try.func63, Try.ntmps63
    go_wp2
    go_ret2
    exact injPost_err 20 HR.out HB0.out rfl
  · by_cases hbig : (cs.length : Int) ≤ k
    · rw [if_pos (.inr hbig)] at hr
      have HR := Lib.hid hr
      clear hr
      have hd : decide (k < 0) = false := by simpa using hneg
      go_enter Try.func63, Try.ntmps63
      go_wp2
      go_ret2
      exact injPost_err 20 HR.out HB0.out rfl
    · rw [if_neg (by omega)] at hr
      obtain ⟨K, rfl⟩ := Int.eq_ofNat_of_zero_le (show 0 ≤ k by omega)
      rw [Int.toNat_natCast] at hr
      have hkc : K < cs.length := by omega
      rw [List.getElem?_eq_getElem hkc] at hr
      simp only at hr
      have hkc' : (K : Int) < (cs.length : Int) := by omega
      have hd : decide ((K : Int) < 0) = false := by simp
      have hsz := fun W (hL : LayOf W ⟨s, al, A, sp, c, x3, x4, .slice A5 cs.length c5, .slice A6 tags.length c6, x7⟩ cs tags) => size_any ⟨s, al, A, sp, c, x3, x4, .slice A5 cs.length c5, .slice A6 tags.length c6, x7⟩ cs tags K W hL hkc
      generalize cs[K] = q at hr hsz
      have HSZ := Lib.hid hsz
      clear hsz hneg hbig
      cases hso : sizeOk ⟨s, al, A, sp, c, x3, x4, .slice A5 cs.length c5, .slice A6 tags.length c6, x7⟩ q with
      | false =>
        simp only [hso, Bool.false_and] at hr
        have HR := Lib.hid hr
        have HSO := Lib.hid hso
        clear hr hso
        go_enter Try.func63, Try.ntmps63
        go_wp2_with fail
        refine (HSZ.out _ HL.out).mono ?_
        rw [HSO.out]
        rintro e w2 ⟨rfl, hb2⟩
        have HB2 := Lib.hid (below_next HB0.out hb2)
        clear hb2
        go_wp2
        go_ret2
        exact injPost_err 21 HR.out HB2.out rfl
      | true =>
        simp only [hso, Bool.true_and] at hr
        have hso2 : 0 ≤ liesI q ∧ liesI q ≤ s := by unfold sizeOk at hso; simp at hso; exact ⟨hso.1.2, hso.2⟩
        have hvp : validB s al sp.length = true := by unfold sizeOk at hso; simp only [Bool.and_eq_true] at hso; exact hso.1.1
        obtain ⟨v1, v2, v3, v4⟩ := (valid_iff ⟨s, al, A, sp, c, x3, x4, .slice A5 cs.length c5, .slice A6 tags.length c6, x7⟩).1 hvp
        simp only at v1 v2 v3 v4
        obtain ⟨N, hN⟩ := Int.eq_ofNat_of_zero_le hso2.1
        rw [hN] at hr hso2
        obtain ⟨S, rfl⟩ := Int.eq_ofNat_of_zero_le v1
        have HSO := Lib.hid hso
        have HNQ := Lib.hid hN
        have HLS := Lib.hid v4
        clear hso hN v3 hvp v4
        by_cases hnN : n = N
        · subst hnN
          have hdl : decide ((m.length : Int) = (n : Int)) = true := by rw [HN.out]; simp
          rw [hdl] at hr
          simp only [if_true] at hr
          have e1 : ((S : Int) - (n : Int)).toNat = S - n := by omega
          rw [e1] at hr
          have hself : ((n : Int) != (n : Int)) = false := by simp
          have hnS : n ≤ S := by omega
          have HR := Lib.hid hr
          clear hr hdl e1
          go_enter Try.func63, Try.ntmps63
          go_wp2_with fail
          refine (HSZ.out _ HL.out).mono ?_
          rw [HSO.out, HNQ.out]
          rintro e w2 ⟨rfl, hb2⟩
          have hP2 := HP.out.below hb2
          have HB2 := Lib.hid (below_next HB0.out hb2)
          have HP2 := Lib.hid hP2
          have HL2 := Lib.hid (HL.out.below hb2)
          have HS2 := Lib.hid (HS1.out.below hb2)
          obtain ⟨⟨b0, b1, b2, b3, b4, b5, b6, b7⟩, bf⟩ := hP2.eight
          clear hb2 hP2 b1 b2 b3 b4 b5 b6 b7 bf
          go_wp2_with fail
          have hm : ((S - n : Nat) : Int) = (S : Int) - (n : Int) := by omega
          have HM := Lib.hid hm
          have hw : IntKind.i64.wrap ((S : Int) - (n : Int)) = (S : Int) - (n : Int) := by rw [IntKind.wrap_i64]; omega
          clear hm
          go_region_held3 (fun w' => w'.cell? ⟨w.heap.size, 0, none⟩ = some (.int .i64 S)) (go_keep)
            ((refine (clone_any Ab n cb m _ HN.out HS2.out.drew hlen).mono ?_; rintro e w3 ⟨A3, c3, rfl, own3, hb3⟩; obtain ⟨A4, c4, w4, hrun4, own4, hg4⟩ := run_append_zeros (P := Try.prog) w3 _ 27 3 27 5 _ 1 Try.underlying27 Try.underlying3 el5 rfl rfl (by omega) A3 n c3 _ own3 (S - n) (by omega) hb3.size; rw [HM.out, Nat.add_sub_cancel' hnS] at hrun4; rw [Nat.add_sub_cancel' hnS] at own4; have hP3 := HP2.out.drew.below hb3; have hP4 := hP3.grown hg4 (own_blk_far own3 hP3 (by decide)); obtain ⟨⟨b0, b1, b2, b3, b4, b5, b6, b7⟩, bf⟩ := hP3.eight; obtain ⟨⟨d0, d1, d2, d3, d4, d5, d6, d7⟩, df⟩ := hP4.eight; have HP4 := Lib.hid hP4; have HL4 := Lib.hid (HL2.out.drew.below hb3); clear hP3 hP4))
          have B3 := below_next (Below.drew HB2.out) hb3
          have B4 := B3.grown hg4 B3.size (fun q hq => Nat.le_trans HB2.out.size (own3.lt q hq).1)
          have L4 := HH.out.below B4
          obtain ⟨A6', c6', e6, htg4, _⟩ := L4.x6
          injection e6 with q1 q2 q3
          subst q1 q3
          clear q2
          have hpad : m.map bv ++ List.replicate (S - n) (.int .u8 0) = (padB m (S - n)).map bv := by unfold padB; rw [List.map_append, List.map_replicate]; rfl
          rw [hpad] at own4
          have hpl : (padB m (S - n)).length = S := by have := own4.1; simpa using this
          have hsl4 : Sl w4 A4 ((padB m (S - n)).map bv) := Sl.of_own own4
          have hcap4 := own_cap own4
          have hsp4 := L4.sp
          generalize padB m (S - n) = out at *
          have HB4 := Lib.hid B4
          have HL4' := Lib.hid L4
          have HTG4 := Lib.hid htg4
          have HSL4 := Lib.hid hsl4
          have HSP4 := Lib.hid hsp4
          have HPL := Lib.hid hpl
          have hlenP : S ≤ 1024 := by omega
          clear B3 B4 L4 htg4 hpad own4 own3 hg4 hb3 hrun4 hsl4 hsp4 b0 b1 b2 b3 b4 b5 b6 b7 bf d0 d1 d3 d4 d5 d7 hw hpl HL4
          go_wp2_with fail
          refine (fits_any A4 S c4 out A sp.length c sp _ HPL.out HSL4.out (by omega) hcap4 rfl HSP4.out hsl).mono ?_
          cases hf : fitsB out sp with
          | false =>
            rintro e w5 ⟨rfl, hb5⟩
            have hr := HR.out
            rw [hf, Bool.false_and, if_neg (by decide)] at hr
            have HR2 := Lib.hid hr
            have HB5 := Lib.hid (below_next HB4.out hb5)
            clear hr hf hb5
            go_wp2
            go_ret2
            exact injPost_err 21 HR2.out HB5.out rfl
          | true =>
            rintro e w5 ⟨rfl, hb5⟩
            have hr := HR.out
            rw [hf, Bool.true_and] at hr
            have HR2 := Lib.hid hr
            have HB5 := Lib.hid (below_next HB4.out hb5)
            have HSL5 := Lib.hid (HSL4.out.below hb5)
            have HTG5 := Lib.hid (HTG4.out.below hb5)
            have hP5 := HP4.out.below hb5
            have HP5 := Lib.hid hP5
            clear d2 d6 df
            obtain ⟨⟨d0, d1, d2, d3, d4, d5, d6, d7⟩, df⟩ := hP5.eight
            clear hr hf hb5 hP5 d0 d1 d2 d3 d4 d5 d7
            go_wp2_with fail
            refine (clear_any A4 S c4 out A6 tags.length c6 tags _ HPL.out HSL5.out (by omega) rfl HTG5.out htl hib).mono ?_
            rintro e w6 ⟨A7, c7, rfl, own7, hb6⟩
            have HB6 := Lib.hid (below_next HB5.out hb6)
            have HSL6 := Lib.hid (HSL5.out.below hb6)
            have HTG6 := Lib.hid (HTG5.out.below hb6)
            have HSL7 := Lib.hid (Sl.of_own own7)
            have hP6 := HP5.out.below hb6
            clear d6 df
            obtain ⟨⟨d0, d1, d2, d3, d4, d5, d6, d7⟩, df⟩ := hP6.eight
            clear own7 hb6 hP6 d0 d1 d2 d3 d4 d5 d7
            go_wp2_with fail
            refine (equal88_any A7 S c7 (clearB out tags) A4 c4 out _ (by rw [clearB_length, HPL.out]) HPL.out HSL7.out HSL6.out (by omega)).mono ?_
            cases hq : decide (clearB out tags = out) with
            | false =>
              rintro e w7 ⟨rfl, kd, rfl⟩
              have hr := HR2.out
              rw [hq, if_neg (by decide)] at hr
              have HR3 := Lib.hid hr
              have HB7 := Lib.hid (below_drewN' HB6.out kd)
              clear hr hq
              go_wp2
              go_ret2
              exact injPost_err 21 HR3.out HB7.out rfl
            | true =>
              rintro e w7 ⟨rfl, kd, rfl⟩
              have hr := HR2.out
              rw [hq, if_pos rfl] at hr
              have HR3 := Lib.hid hr
              have HB7 := Lib.hid (below_drewN' HB6.out kd)
              clear hr hq
              go_wp2_with fail
              refine (put_any A4 S c4 out A6 tags.length c6 tags K _ HPL.out (HSL6.out.drewN kd) (by omega) rfl (HTG6.out.drewN kd) htl hib hk0 hk1).mono ?_
              rintro e w8 ⟨A8, c8, rfl, own8, hb8⟩
              have HB8 := Lib.hid (below_next HB7.out hb8)
              have hcap8 := own_cap own8
              have HS8 := Lib.hid (SlE.of_own own8)
              clear own8 hb8 d6 df
              go_wp2
              go_ret2
              refine ⟨HB8.out, A8, c8, ?_, ?_, ?_⟩
              · rw [HR3.out]; simp only [putB_length, HPL.out]; rfl
              · rw [HR3.out]; exact HS8.out
              · rw [HR3.out]; simp only [putB_length, HPL.out]; exact hcap8
        · have hdl : decide ((m.length : Int) = (N : Int)) = false := by rw [HN.out]; simp; omega
          rw [hdl, if_neg (by decide)] at hr
          have hself : ((n : Int) != (N : Int)) = true := by simp; omega
          have HR := Lib.hid hr
          clear hr hdl
          go_enter Try.func63, Try.ntmps63
          go_wp2_with fail
          refine (HSZ.out _ HL.out).mono ?_
          rw [HSO.out, HNQ.out]
          rintro e w2 ⟨rfl, hb2⟩
          have HB2 := Lib.hid (below_next HB0.out hb2)
          clear hb2
          go_wp2
          go_ret2
          exact injPost_err 21 HR.out HB2.out rfl
end Go.Proofs.Ytamhigknobdloaa
