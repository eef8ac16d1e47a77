/- The walk of the law SumSingle; no condition but that the numbers are readable. -/
import Derived.Test.YtamhigknobdloaaSn
import Derived.Test.YtamhigknobdloaaRk
namespace Go.Proofs.Ytamhigknobdloaa
open Go.RowKit
set_option linter.unusedVariables false

abbrev w571 (wx : World) (p : Part) (a : ByteArray) (x : Bool) : World :=
  ((wx.alloc (.cells #[.int .i64 p.s, .int .i64 p.al, .slice p.A p.sp.length p.c, p.x3, p.x4, p.x5, p.x6, p.x7] 31)).alloc (.cells #[.string a] 9)).alloc (.cells #[.bool x] 4)
theorem w571_below (wx : World) (p : Part) (a : ByteArray) (x : Bool) : Below wx.heap.size wx (w571 wx p a x) := (((Below.refl _ _).alloc (Nat.le_refl _) _).alloc (by simp) _).alloc (by simp; omega) _
theorem union1 (p : Part) (f : List Int) (a : ByteArray) (x : Bool) (wx : World) (hp : Sl wx p.A (p.sp.map bv)) (h1 : p.one)
    (hf : ∃ Ao co, p.x3 = .slice Ao f.length co ∧ Sl wx Ao (f.map iv) ∧ f.length ≤ 1000000) :
    Calls Try.prog 57 #[.slice (some ⟨wx.heap.size, 0, none⟩) 1 1, .slice (some ⟨wx.heap.size + 1, 0, none⟩) 1 1, .slice (some ⟨wx.heap.size + 1 + 1, 0, none⟩) 1 1] (w571 wx p a x) (SumOut [p] [a] [x] [f] (w571 wx p a x)) := by
  have hB := w571_below wx p a x
  refine sumlay_any _ 1 1 [p] _ 1 1 [a] _ 1 1 [x] [f] _ rfl rfl rfl rfl ?_ ?_ ?_ (by omega) ?_ ?_ ?_
  · have h := Sl.new wx #[.int .i64 p.s, .int .i64 p.al, .slice p.A p.sp.length p.c, p.x3, p.x4, p.x5, p.x6, p.x7] 31
    exact (h.alloc (.cells #[.string a] 9)).alloc (.cells #[.bool x] 4)
  · have h := (Sl.new (wx.alloc (.cells #[.int .i64 p.s, .int .i64 p.al, .slice p.A p.sp.length p.c, p.x3, p.x4, p.x5, p.x6, p.x7] 31)) #[.string a] 9).alloc (.cells #[.bool x] 4)
    simpa using h
  · have h := Sl.new ((wx.alloc (.cells #[.int .i64 p.s, .int .i64 p.al, .slice p.A p.sp.length p.c, p.x3, p.x4, p.x5, p.x6, p.x7] 31)).alloc (.cells #[.string a] 9)) #[.bool x] 4
    simpa using h
  · intro t ht
    rw [List.mem_singleton.1 ht]; exact hp.below hB
  · intro t ht
    rw [List.mem_singleton.1 ht]; exact h1
  · intro i hi hj
    obtain ⟨Ao, co, e1, e2, e3⟩ := hf
    match i, hi, hj with
    | 0, _, _ => exact ⟨Ao, co, e1, e2.below hB, e3⟩
theorem and255 (x : UInt8) : 255 &&& x = x := by
  have h : ∀ x : Fin 256, (255 &&& x.val) = x.val := by decide +kernel
  apply UInt8.toNat_inj.1
  rw [UInt8.toNat_and]
  exact h ⟨x.toNat, x.toNat_lt⟩
theorem andB_full (m : List UInt8) : andB (List.replicate m.length 255) m = m := by
  unfold andB
  apply List.ext_getElem
  · simp
  · intro i h1 h2
    simp [and255]
theorem extB_self (m : List UInt8) : extB m m.length = m := by unfold extB; simp
theorem common_one (p : Part) (hv : p.valid = true) : commonB [p] p.s.toNat = p.sp := by
  obtain ⟨v1, v2, v3, v4⟩ := (valid_iff p).1 hv
  have hl : p.s.toNat = p.sp.length := by omega
  unfold commonB
  rw [hl]
  by_cases h0 : 0 < p.s
  · rw [if_pos (by simp [h0])]
    show meet p.sp.length (extB [] p.sp.length) p = p.sp
    unfold meet
    rw [if_pos h0, extB_self]
    have : extB [] p.sp.length = List.replicate p.sp.length 255 := by unfold extB; simp
    rw [this, andB_full]
  · rw [if_neg (by simp [h0])]
    have : p.sp.length = 0 := by omega
    rw [this, List.eq_nil_of_length_eq_zero this]; rfl
theorem one_union (p : Part) (hv : p.valid = true) : unionR [p] 1 = some ⟨p.s, p.al, p.sp, []⟩ := by
  obtain ⟨v1, v2, v3, v4⟩ := (valid_iff p).1 hv
  have hs : sizeP [p] = p.s := by show max 0 p.s = p.s; omega
  have ha : alP [p] = p.al := by show max 1 p.al = p.al; omega
  have ht : tagS ((1 : Nat) : Int) = 0 := by decide
  unfold unionR
  simp only [hs, ha, ht, common_one p hv]
  rw [if_pos (Nat.zero_le _)]
  rfl
theorem one_ptr (p : Part) : unionR (inside [p] [true]) 1 = some ⟨8, 8, [7, 0, 0, 0, 0, 0, 255, 255], []⟩ := by
  show unionR [ptrP none] 1 = _
  kernel_rfl
theorem one_sumE (p : Part) (b : Bool) (hv : p.valid = true) : sumE [p] 1 [b] = 0 := by
  have hb : sumBad [p] 1 [b].length = false := by unfold sumBad; simp [hv]
  unfold sumE
  rw [hb, if_neg (by decide), if_neg (by decide)]
  cases b with
  | true => rw [one_ptr]
  | false =>
    show (match unionR [p] 1 with | none => (4 : Int) | some _ => 0) = 0
    rw [one_union p hv]

set_option maxHeartbeats 3200000 in
set_option maxRecDepth 100000 in
theorem sumsingle_walk (A : Option Addr) (n c : Nat) (ls : List Int) (w : World) (hn : ls.length = n) (hs : Sl w A (ls.map iv)) (hn63 : n ≤ 9223372036854775807) (hib : IB ls) :
    Calls Try.prog 13 #[.slice A n c] w fun e w' => e = .returned (.bool true) ∧ Below w.heap.size w w' := by
  have HIB := Lib.hid hib
  have HN := Lib.hid hn
  clear hib hn
  by_cases hl : n ≤ 700
  · have hl' : decide (n ≤ 700) = true := by simpa using hl
    go_enter Try.func13, Try.ntmps13
    go_wp2_with fail
    refine (light_any _ _ _ _).mono ?_
    rw [hl']
    rintro e w1 ⟨rfl, rfl⟩
    go_wp2_with fail
    refine (roll_any _ _ _ ls _ HN.out hs hl HIB.out).mono ?_
    rintro e W ⟨rfl, hd1, hbW⟩
    have hgdW : w.heap.size < W.heap.size := hd1.lt
    obtain ⟨gd, hgd⟩ : ∃ gd, gd = w.heap.size := ⟨_, rfl⟩
    rw [← hgd] at hd1 hgdW ⊢
    have HGD := Lib.hid hgd
    have HBW := Lib.hid hbW
    clear hgd hbW hl'
    go_wp2_with fail
    refine (layout_any _ gd ls 0 _ hd1 (Nat.le_refl _)).mono ?_
    rintro e W2 ⟨p, k2, he, m1, hd2, hk2, hg2⟩
    have hbw2 : Below w.heap.size w W2 := HBW.out.grown hg2 HBW.out.size (fun q hq => by injection hq with hq; rw [← hq, HGD.out]; exact Nat.le_refl _)
    have hone := m1.one
    have sx3 := store_var (P := Try.prog) hone.h3
    have sx4 := store_var (P := Try.prog) hone.h4
    have sx5 := store_var (P := Try.prog) hone.h5
    have sx6 := store_var (P := Try.prog) hone.h6
    have sx7 := store_var (P := Try.prog) hone.h7
    subst he
    unfold Part.val
    have hbn := (Below.refl W2.heap.size W2).alloc (Nat.le_refl _) (.cells #[.int .i64 p.s, .int .i64 p.al, .slice p.A p.sp.length p.c, p.x3, p.x4, p.x5, p.x6, p.x7] 31)
    have hP := Blk.new W2 31 #[.int .i64 p.s, .int .i64 p.al, .slice p.A p.sp.length p.c, p.x3, p.x4, p.x5, p.x6, p.x7]
    have HP := Lib.hid hP
    have HBN := Lib.hid (below_next hbw2 hbn)
    have M1 := Lib.hid (m1.below hbn)
    have HONE := Lib.hid hone
    clear hP hbn m1 hd1 hd2 hg2 hbw2 hone hs
    go_wp2_with fail
    refine (rvalid_any _ _ _ _ _ _ _ _ _ _ _).mono ?_
    intro e W3 h3
    obtain ⟨he, hb3⟩ := h3
    have HB3 := Lib.hid (below_next HBN.out hb3)
    have m3 := M1.out.below hb3
    have hP3 := HP.out.below hb3
    cases hv : validB p.s p.al p.sp.length with
    | false =>
      rw [hv] at he
      subst he
      clear hv m3 hP3 hb3
      go_wp2_with fail
      refine (awake17 _).mono ?_
      rintro e w6 ⟨rfl, hb6⟩
      go_wp2
      go_ret
      exact ⟨rfl, below_next HB3.out hb6⟩
    | true =>
      rw [hv] at he
      subst he
      have hpv : p.valid = true := hv
      obtain ⟨⟨b0, b1, b2, b3, b4, b5, b6, b7⟩, bf⟩ := hP3.eight
      obtain ⟨Ao, f, co, ex3, hof, hofc, hofl⟩ := m3.of
      have hf3 : ∃ Ao co, p.x3 = .slice Ao f.length co ∧ Sl W3 Ao (f.map iv) ∧ f.length ≤ 1000000 := ⟨Ao, co, ex3, hof.sl, by omega⟩
      have X1 := union1 p f ⟨#[99, 97]⟩ false W3 m3.sp.sl HONE.out hf3
      have hbx := w571_below W3 p ⟨#[99, 97]⟩ false
      have hPlt : W2.heap.size < W3.heap.size := hP3.lt
      have HX1 := Lib.hid X1
      have HBX := Lib.hid hbx
      have HP3 := Lib.hid hP3
      have HM3 := Lib.hid m3
      have HF3 := Lib.hid hf3
      have HPV := Lib.hid hpv
      clear hv hb3 m3 hP3 X1 hbx hf3 ex3 hof hofc hofl hpv bf HP M1
      go_wp2_with fail
      refine HX1.out.mono ?_
      intro e w5 h5
      obtain ⟨As, cs, Ac, cc, Az, cz, qs, he, hat, hb5⟩ := h5.yes (one_sumE p false HPV.out) (one_union p HPV.out)
      have he' : e = .returned (.tuple #[.agg #[.int .i64 p.s, .int .i64 p.al, .slice As p.sp.length cs, .slice none 0 0, .slice none 0 0, .slice Ac 1 cc, .slice Az 0 cz, .bool false], .int .i64 0]) := he
      subst he'
      have b5' := below_next HBX.out hb5
      have b6' : Below W3.heap.size W3 (w5.alloc (.cells #[.int .i64 p.s, .int .i64 p.al, .slice As p.sp.length cs, .slice none 0 0, .slice none 0 0, .slice Ac 1 cc, .slice Az 0 cz, .bool false] 31)) := b5'.alloc b5'.size _
      have hX := Blk.new w5 31 #[.int .i64 p.s, .int .i64 p.al, .slice As p.sp.length cs, .slice none 0 0, .slice none 0 0, .slice Ac 1 cc, .slice Az 0 cz, .bool false]
      have hP6 := HP3.out.below b6'
      have m6 := HM3.out.below b6'
      obtain ⟨Ao6, co6, ex6, ho6, hl6⟩ := HF3.out
      have X2 := union1 p f ⟨#[99, 97]⟩ true _ m6.sp.sl HONE.out ⟨Ao6, co6, ex6, ho6.below b6', hl6⟩
      have hsz5 : (w5.alloc (.cells #[.int .i64 p.s, .int .i64 p.al, .slice As p.sp.length cs, .slice none 0 0, .slice none 0 0, .slice Ac 1 cc, .slice Az 0 cz, .bool false] 31)).heap.size = w5.heap.size + 1 := by simp
      rw [hsz5] at X2
      have hbx2 := w571_below (w5.alloc (.cells #[.int .i64 p.s, .int .i64 p.al, .slice As p.sp.length cs, .slice none 0 0, .slice none 0 0, .slice Ac 1 cc, .slice Az 0 cz, .bool false] 31)) p ⟨#[99, 97]⟩ true
      clear b0 b1 b2 b3 b4 b5 b6 b7
      obtain ⟨⟨b0, b1, b2, b3, b4, b5, b6, b7⟩, bf⟩ := hP6.eight
      have HX2 := Lib.hid X2
      have HBX2 := Lib.hid hbx2
      have HB6 := Lib.hid (below_next HB3.out b6')
      have HP6 := Lib.hid hP6
      have HM6 := Lib.hid m6
      have HAT := Lib.hid hat
      have HX := Lib.hid hX
      have hlt5 := hb5.size
      clear he h5 hat b5' b6' hX hP6 m6 ex6 ho6 hl6 X2 hsz5 hbx2 hb5 bf HX1 HBX HP3 HM3 HF3
      go_wp2_with fail
      refine HX2.out.mono ?_
      intro e w7 h7
      obtain ⟨Bs, ds, Bc, dc, Bz, dz, rs, he, hat2, hb7⟩ := h7.yes (one_sumE p true HPV.out) (one_ptr p)
      have he' : e = .returned (.tuple #[.agg #[.int .i64 8, .int .i64 8, .slice Bs 8 ds, .slice none 0 0, .slice none 0 0, .slice Bc 1 dc, .slice Bz 0 dz, .bool false], .int .i64 0]) := he
      subst he'
      have b7' := below_next HBX2.out hb7
      have b8 := b7'.alloc b7'.size (.cells #[.int .i64 8, .int .i64 8, .slice Bs 8 ds, .slice none 0 0, .slice none 0 0, .slice Bc 1 dc, .slice Bz 0 dz, .bool false] 31)
      have b9 := below_next ((Below.refl w5.heap.size w5).alloc (Nat.le_refl _) (.cells #[.int .i64 p.s, .int .i64 p.al, .slice As p.sp.length cs, .slice none 0 0, .slice none 0 0, .slice Ac 1 cc, .slice Az 0 cz, .bool false] 31)) b8
      have b78 : Below w7.heap.size w7 (w7.alloc (.cells #[.int .i64 8, .int .i64 8, .slice Bs 8 ds, .slice none 0 0, .slice none 0 0, .slice Bc 1 dc, .slice Bz 0 dz, .bool false] 31)) := (Below.refl _ _).alloc (Nat.le_refl _) _
      have hX8 := HX.out.below b8
      have hY8 := Blk.new w7 31 #[.int .i64 8, .int .i64 8, .slice Bs 8 ds, .slice none 0 0, .slice none 0 0, .slice Bc 1 dc, .slice Bz 0 dz, .bool false]
      have hP8 := HP6.out.below b8
      have m8 := HM6.out.below b8
      have HSX := Lib.hid (HAT.out.sp.below b9).sl
      have HSP := Lib.hid m8.sp.sl
      have HSY := Lib.hid (hat2.sp.below b78).sl
      have hcs : ∃ cb co, Bc = some ⟨cb, co, none⟩ ∧ (w7.alloc (.cells #[.int .i64 8, .int .i64 8, .slice Bs 8 ds, .slice none 0 0, .slice none 0 0, .slice Bc 1 dc, .slice Bz 0 dz, .bool false] 31)).cell? ⟨cb, co + 4, none⟩ = some (.int .i64 p.s) := by
        have hrl : rs.length = 1 := hat2.len
        have h1 : 0 < rs.length := by omega
        obtain ⟨cb, co, e, _, _, _, _, hc⟩ := CasesAt.get (k := 0) (cs := rs) (hat2.cases.below b78).sl h1
        obtain ⟨_, _, _, hrs, _⟩ := hat2.each 0 h1 (by simp) (by simp) (by simp) (by simp)
        rw [hrs] at hc
        exact ⟨cb, co, e, by simpa using hc⟩
      obtain ⟨cb, co, rfl, hcb⟩ := hcs
      have HCB := Lib.hid hcb
      clear hcb
      have HP8 := Lib.hid hP8
      have HY8 := Lib.hid hY8
      have HX8 := Lib.hid hX8
      have HAT2 := Lib.hid hat2
      have HB78 := Lib.hid b78
      have HB8 := Lib.hid (below_next HB6.out b8)
      clear he h7 hat2 b7' b8 b9 b78 hX8 hY8 hP8 m8 hb7 HX2 HBX2 HB6 HP6 HM6 HAT HX
      go_wp2_with fail
      refine gen_act fun a0 ha0 => ?_
      have z4 : a0.eval (.tmp 4) = .pointer (some ⟨W2.heap.size, 0, none⟩) := by rw [ha0]; rfl
      have z5 : a0.eval (.tmp 5) = .pointer (some ⟨w5.heap.size, 0, none⟩) := by rw [ha0]; rfl
      have z6 : a0.eval (.tmp 6) = .int .i64 0 := by rw [ha0]; rfl
      have z7 : a0.eval (.tmp 7) = .pointer (some ⟨w7.heap.size, 0, none⟩) := by rw [ha0]; rfl
      have z8 : a0.eval (.tmp 8) = .int .i64 0 := by rw [ha0]; rfl
      have zs : a0.tmps.size = 105 := by rw [ha0]; rfl
      have HA0 := Lib.hid ha0
      clear ha0
      refine wp_region_kn (by kernel_rfl) (ord_of' (by kernel_rfl)) (dst_of (by kernel_rfl)) (size_of' (n := 105) (by kernel_rfl) zs) ((some (.int .i64 0)) :: (some (.bool true)) :: (some (.bool true)) :: (some (.int .i64 0)) :: (some (.bool true)) :: (some (.bool true)) :: (some (.bool true)) :: (some (.pointer (some ⟨w5.heap.size, 0, none⟩))) :: (some (.int .i64 p.s)) :: (some (.pointer (some ⟨W2.heap.size, 0, none⟩))) :: (some (.int .i64 p.s)) :: (some (.bool true)) :: (some (.bool true)) :: (some (.bool true)) :: (some (.pointer (some ⟨w5.heap.size, 1, none⟩))) :: (some (.int .i64 p.al)) :: (some (.pointer (some ⟨W2.heap.size, 1, none⟩))) :: (some (.int .i64 p.al)) :: (some (.bool true)) :: (some (.bool true)) :: (some (.bool true)) :: (some (.pointer (some ⟨w5.heap.size, 2, none⟩))) :: (some (.slice As p.sp.length cs)) :: (some (.string ⟨p.sp.toArray⟩)) :: (some (.pointer (some ⟨W2.heap.size, 2, none⟩))) :: (some (.slice p.A p.sp.length p.c)) :: (some (.string ⟨p.sp.toArray⟩)) :: (some (.bool true)) :: (some (.bool true)) :: (some (.bool true)) :: (some (.pointer (some ⟨w5.heap.size, 6, none⟩))) :: (some (.slice Az 0 cz)) :: (some (.int .i64 0)) :: (some (.bool true)) :: (some (.bool true)) :: (some (.bool true)) :: (some (.pointer (some ⟨w7.heap.size, 0, none⟩))) :: (some (.int .i64 8)) :: (some (.bool true)) :: (some (.bool true)) :: (some (.bool true)) :: (some (.pointer (some ⟨w7.heap.size, 2, none⟩))) :: (some (.slice Bs 8 ds)) :: (some (.string ⟨([7, 0, 0, 0, 0, 0, 255, 255] : List UInt8).toArray⟩)) :: (none) :: (none) :: (some (.string ⟨([7, 0, 0, 0, 0, 0, 255, 255] : List UInt8).toArray⟩)) :: (some (.bool true)) :: (some (.bool true)) :: (some (.bool true)) :: (some (.pointer (some ⟨w7.heap.size, 5, none⟩))) :: (some (.slice (some ⟨cb, co, none⟩) 1 dc)) :: (some (.int .i64 1)) :: (some (.bool true)) :: (some (.bool true)) :: (some (.bool true)) :: (some (.pointer (some ⟨w7.heap.size, 5, none⟩))) :: (some (.slice (some ⟨cb, co, none⟩) 1 dc)) :: (some (.pointer (some ⟨cb, co, none⟩))) :: (some (.pointer (some ⟨cb, co + 4, none⟩))) :: (some (.int .i64 p.s)) :: (some (.pointer (some ⟨W2.heap.size, 0, none⟩))) :: (some (.int .i64 p.s)) :: (some (.bool true)) :: (some (.bool true)) :: (some (.bool true)) :: (none) :: (some (.bool true)) :: (some (.bool true)) :: []) ?_ (fun D x W => Below (w7.alloc (.cells #[.int .i64 8, .int .i64 8, .slice Bs 8 ds, .slice none 0 0, .slice none 0 0, .slice (some ⟨cb, co, none⟩) 1 dc, .slice Bz 0 dz, .bool false] 31)).heap.size (w7.alloc (.cells #[.int .i64 8, .int .i64 8, .slice Bs 8 ds, .slice none 0 0, .slice none 0 0, .slice (some ⟨cb, co, none⟩) 1 dc, .slice Bz 0 dz, .bool false] 31)) W ∧ (D 44 = true → ∃ A9, x 44 = (ptrP A9).val ∧ (D 45 = true → x 45 = .slice A9 8 8) ∧ SlE W 5 A9 ((ptrP A9).sp.map bv)) ∧ (D 66 = true → x 66 = .bool true) ∧ (D 45 = true → D 44 = true)) ⟨Below.drew (Below.refl _ _), (fun h => by cases h), (fun h => by cases h), (fun h => by cases h)⟩ ?_ ?_ ?_ ?_
      · intro i o g bl ho hg
        have hi : i < 69 := (Array.getElem?_eq_some_iff.1 ho).1
        rcases (show i = 0 ∨ i = 1 ∨ i = 2 ∨ i = 3 ∨ i = 4 ∨ i = 5 ∨ i = 6 ∨ i = 7 ∨ i = 8 ∨ i = 9 ∨ i = 10 ∨ i = 11 ∨ i = 12 ∨ i = 13 ∨ i = 14 ∨ i = 15 ∨ i = 16 ∨ i = 17 ∨ i = 18 ∨ i = 19 ∨ i = 20 ∨ i = 21 ∨ i = 22 ∨ i = 23 ∨ i = 24 ∨ i = 25 ∨ i = 26 ∨ i = 27 ∨ i = 28 ∨ i = 29 ∨ i = 30 ∨ i = 31 ∨ i = 32 ∨ i = 33 ∨ i = 34 ∨ i = 35 ∨ i = 36 ∨ i = 37 ∨ i = 38 ∨ i = 39 ∨ i = 40 ∨ i = 41 ∨ i = 42 ∨ i = 43 ∨ i = 44 ∨ i = 45 ∨ i = 46 ∨ i = 47 ∨ i = 48 ∨ i = 49 ∨ i = 50 ∨ i = 51 ∨ i = 52 ∨ i = 53 ∨ i = 54 ∨ i = 55 ∨ i = 56 ∨ i = 57 ∨ i = 58 ∨ i = 59 ∨ i = 60 ∨ i = 61 ∨ i = 62 ∨ i = 63 ∨ i = 64 ∨ i = 65 ∨ i = 66 ∨ i = 67 ∨ i = 68 by omega) with rfl | rfl | rfl | rfl | rfl | rfl | rfl | rfl | rfl | rfl | rfl | rfl | rfl | rfl | rfl | rfl | rfl | rfl | rfl | rfl | rfl | rfl | rfl | rfl | rfl | rfl | rfl | rfl | rfl | rfl | rfl | rfl | rfl | rfl | rfl | rfl | rfl | rfl | rfl | rfl | rfl | rfl | rfl | rfl | rfl | rfl | rfl | rfl | rfl | rfl | rfl | rfl | rfl | rfl | rfl | rfl | rfl | rfl | rfl | rfl | rfl | rfl | rfl | rfl | rfl | rfl | rfl | rfl | rfl
        · simp only [List.getElem?_toArray, List.getElem?_cons_zero, Option.some.injEq, List.append_eq, List.cons_append, List.nil_append] at ho
          subst ho
          cases hg
        · simp only [List.getElem?_toArray, List.getElem?_cons_zero, List.getElem?_cons_succ, Option.some.injEq, List.append_eq, List.cons_append, List.nil_append] at ho
          subst ho
          cases hg
        · simp only [List.getElem?_toArray, List.getElem?_cons_zero, List.getElem?_cons_succ, Option.some.injEq, List.append_eq, List.cons_append, List.nil_append] at ho
          subst ho
          cases hg
        · simp only [List.getElem?_toArray, List.getElem?_cons_zero, List.getElem?_cons_succ, Option.some.injEq, List.append_eq, List.cons_append, List.nil_append] at ho
          subst ho
          obtain ⟨rfl, rfl⟩ : 2 = g ∧ true = bl := by simpa using hg
          exact ⟨true, _, _, rfl, rfl, rfl, ⟨{ on := 2, ground := .guard }, by simp, rfl, rfl⟩, fun h => by first | exact absurd rfl h | rfl⟩
        · simp only [List.getElem?_toArray, List.getElem?_cons_zero, List.getElem?_cons_succ, Option.some.injEq, List.append_eq, List.cons_append, List.nil_append] at ho
          subst ho
          obtain ⟨rfl, rfl⟩ : 2 = g ∧ true = bl := by simpa using hg
          exact ⟨true, _, _, rfl, rfl, rfl, ⟨{ on := 2, ground := .guard }, by simp, rfl, rfl⟩, fun h => by first | exact absurd rfl h | rfl⟩
        · simp only [List.getElem?_toArray, List.getElem?_cons_zero, List.getElem?_cons_succ, Option.some.injEq, List.append_eq, List.cons_append, List.nil_append] at ho
          subst ho
          cases hg
        · simp only [List.getElem?_toArray, List.getElem?_cons_zero, List.getElem?_cons_succ, Option.some.injEq, List.append_eq, List.cons_append, List.nil_append] at ho
          subst ho
          cases hg
        · simp only [List.getElem?_toArray, List.getElem?_cons_zero, List.getElem?_cons_succ, Option.some.injEq, List.append_eq, List.cons_append, List.nil_append] at ho
          subst ho
          obtain ⟨rfl, rfl⟩ : 6 = g ∧ true = bl := by simpa using hg
          exact ⟨true, _, _, rfl, rfl, rfl, ⟨{ on := 6, ground := .guard }, by simp, rfl, rfl⟩, fun h => by first | exact absurd rfl h | rfl⟩
        · simp only [List.getElem?_toArray, List.getElem?_cons_zero, List.getElem?_cons_succ, Option.some.injEq, List.append_eq, List.cons_append, List.nil_append] at ho
          subst ho
          obtain ⟨rfl, rfl⟩ : 6 = g ∧ true = bl := by simpa using hg
          exact ⟨true, _, _, rfl, rfl, rfl, ⟨{ on := 6, ground := .guard }, by simp, rfl, rfl⟩, fun h => by first | exact absurd rfl h | rfl⟩
        · simp only [List.getElem?_toArray, List.getElem?_cons_zero, List.getElem?_cons_succ, Option.some.injEq, List.append_eq, List.cons_append, List.nil_append] at ho
          subst ho
          obtain ⟨rfl, rfl⟩ : 6 = g ∧ true = bl := by simpa using hg
          exact ⟨true, _, _, rfl, rfl, rfl, ⟨{ on := 6, ground := .guard }, by simp, rfl, rfl⟩, fun h => by first | exact absurd rfl h | rfl⟩
        · simp only [List.getElem?_toArray, List.getElem?_cons_zero, List.getElem?_cons_succ, Option.some.injEq, List.append_eq, List.cons_append, List.nil_append] at ho
          subst ho
          obtain ⟨rfl, rfl⟩ : 6 = g ∧ true = bl := by simpa using hg
          exact ⟨true, _, _, rfl, rfl, rfl, ⟨{ on := 6, ground := .guard }, by simp, rfl, rfl⟩, fun h => by first | exact absurd rfl h | rfl⟩
        · simp only [List.getElem?_toArray, List.getElem?_cons_zero, List.getElem?_cons_succ, Option.some.injEq, List.append_eq, List.cons_append, List.nil_append] at ho
          subst ho
          obtain ⟨rfl, rfl⟩ : 6 = g ∧ true = bl := by simpa using hg
          exact ⟨true, _, _, rfl, rfl, rfl, ⟨{ on := 6, ground := .guard }, by simp, rfl, rfl⟩, fun h => by first | exact absurd rfl h | rfl⟩
        · simp only [List.getElem?_toArray, List.getElem?_cons_zero, List.getElem?_cons_succ, Option.some.injEq, List.append_eq, List.cons_append, List.nil_append] at ho
          subst ho
          cases hg
        · simp only [List.getElem?_toArray, List.getElem?_cons_zero, List.getElem?_cons_succ, Option.some.injEq, List.append_eq, List.cons_append, List.nil_append] at ho
          subst ho
          cases hg
        · simp only [List.getElem?_toArray, List.getElem?_cons_zero, List.getElem?_cons_succ, Option.some.injEq, List.append_eq, List.cons_append, List.nil_append] at ho
          subst ho
          obtain ⟨rfl, rfl⟩ : 13 = g ∧ true = bl := by simpa using hg
          exact ⟨true, _, _, rfl, rfl, rfl, ⟨{ on := 13, ground := .guard }, by simp, rfl, rfl⟩, fun h => by first | exact absurd rfl h | rfl⟩
        · simp only [List.getElem?_toArray, List.getElem?_cons_zero, List.getElem?_cons_succ, Option.some.injEq, List.append_eq, List.cons_append, List.nil_append] at ho
          subst ho
          obtain ⟨rfl, rfl⟩ : 13 = g ∧ true = bl := by simpa using hg
          exact ⟨true, _, _, rfl, rfl, rfl, ⟨{ on := 13, ground := .guard }, by simp, rfl, rfl⟩, fun h => by first | exact absurd rfl h | rfl⟩
        · simp only [List.getElem?_toArray, List.getElem?_cons_zero, List.getElem?_cons_succ, Option.some.injEq, List.append_eq, List.cons_append, List.nil_append] at ho
          subst ho
          obtain ⟨rfl, rfl⟩ : 13 = g ∧ true = bl := by simpa using hg
          exact ⟨true, _, _, rfl, rfl, rfl, ⟨{ on := 13, ground := .guard }, by simp, rfl, rfl⟩, fun h => by first | exact absurd rfl h | rfl⟩
        · simp only [List.getElem?_toArray, List.getElem?_cons_zero, List.getElem?_cons_succ, Option.some.injEq, List.append_eq, List.cons_append, List.nil_append] at ho
          subst ho
          obtain ⟨rfl, rfl⟩ : 13 = g ∧ true = bl := by simpa using hg
          exact ⟨true, _, _, rfl, rfl, rfl, ⟨{ on := 13, ground := .guard }, by simp, rfl, rfl⟩, fun h => by first | exact absurd rfl h | rfl⟩
        · simp only [List.getElem?_toArray, List.getElem?_cons_zero, List.getElem?_cons_succ, Option.some.injEq, List.append_eq, List.cons_append, List.nil_append] at ho
          subst ho
          obtain ⟨rfl, rfl⟩ : 13 = g ∧ true = bl := by simpa using hg
          exact ⟨true, _, _, rfl, rfl, rfl, ⟨{ on := 13, ground := .guard }, by simp, rfl, rfl⟩, fun h => by first | exact absurd rfl h | rfl⟩
        · simp only [List.getElem?_toArray, List.getElem?_cons_zero, List.getElem?_cons_succ, Option.some.injEq, List.append_eq, List.cons_append, List.nil_append] at ho
          subst ho
          cases hg
        · simp only [List.getElem?_toArray, List.getElem?_cons_zero, List.getElem?_cons_succ, Option.some.injEq, List.append_eq, List.cons_append, List.nil_append] at ho
          subst ho
          cases hg
        · simp only [List.getElem?_toArray, List.getElem?_cons_zero, List.getElem?_cons_succ, Option.some.injEq, List.append_eq, List.cons_append, List.nil_append] at ho
          subst ho
          obtain ⟨rfl, rfl⟩ : 20 = g ∧ true = bl := by simpa using hg
          exact ⟨true, _, _, rfl, rfl, rfl, ⟨{ on := 20, ground := .guard }, by simp, rfl, rfl⟩, fun h => by first | exact absurd rfl h | rfl⟩
        · simp only [List.getElem?_toArray, List.getElem?_cons_zero, List.getElem?_cons_succ, Option.some.injEq, List.append_eq, List.cons_append, List.nil_append] at ho
          subst ho
          obtain ⟨rfl, rfl⟩ : 20 = g ∧ true = bl := by simpa using hg
          exact ⟨true, _, _, rfl, rfl, rfl, ⟨{ on := 20, ground := .guard }, by simp, rfl, rfl⟩, fun h => by first | exact absurd rfl h | rfl⟩
        · simp only [List.getElem?_toArray, List.getElem?_cons_zero, List.getElem?_cons_succ, Option.some.injEq, List.append_eq, List.cons_append, List.nil_append] at ho
          subst ho
          obtain ⟨rfl, rfl⟩ : 20 = g ∧ true = bl := by simpa using hg
          exact ⟨true, _, _, rfl, rfl, rfl, ⟨{ on := 20, ground := .guard }, by simp, rfl, rfl⟩, fun h => by first | exact absurd rfl h | rfl⟩
        · simp only [List.getElem?_toArray, List.getElem?_cons_zero, List.getElem?_cons_succ, Option.some.injEq, List.append_eq, List.cons_append, List.nil_append] at ho
          subst ho
          obtain ⟨rfl, rfl⟩ : 20 = g ∧ true = bl := by simpa using hg
          exact ⟨true, _, _, rfl, rfl, rfl, ⟨{ on := 20, ground := .guard }, by simp, rfl, rfl⟩, fun h => by first | exact absurd rfl h | rfl⟩
        · simp only [List.getElem?_toArray, List.getElem?_cons_zero, List.getElem?_cons_succ, Option.some.injEq, List.append_eq, List.cons_append, List.nil_append] at ho
          subst ho
          obtain ⟨rfl, rfl⟩ : 20 = g ∧ true = bl := by simpa using hg
          exact ⟨true, _, _, rfl, rfl, rfl, ⟨{ on := 20, ground := .guard }, by simp, rfl, rfl⟩, fun h => by first | exact absurd rfl h | rfl⟩
        · simp only [List.getElem?_toArray, List.getElem?_cons_zero, List.getElem?_cons_succ, Option.some.injEq, List.append_eq, List.cons_append, List.nil_append] at ho
          subst ho
          obtain ⟨rfl, rfl⟩ : 20 = g ∧ true = bl := by simpa using hg
          exact ⟨true, _, _, rfl, rfl, rfl, ⟨{ on := 20, ground := .guard }, by simp, rfl, rfl⟩, fun h => by first | exact absurd rfl h | rfl⟩
        · simp only [List.getElem?_toArray, List.getElem?_cons_zero, List.getElem?_cons_succ, Option.some.injEq, List.append_eq, List.cons_append, List.nil_append] at ho
          subst ho
          obtain ⟨rfl, rfl⟩ : 20 = g ∧ true = bl := by simpa using hg
          exact ⟨true, _, _, rfl, rfl, rfl, ⟨{ on := 20, ground := .guard }, by simp, rfl, rfl⟩, fun h => by first | exact absurd rfl h | rfl⟩
        · simp only [List.getElem?_toArray, List.getElem?_cons_zero, List.getElem?_cons_succ, Option.some.injEq, List.append_eq, List.cons_append, List.nil_append] at ho
          subst ho
          cases hg
        · simp only [List.getElem?_toArray, List.getElem?_cons_zero, List.getElem?_cons_succ, Option.some.injEq, List.append_eq, List.cons_append, List.nil_append] at ho
          subst ho
          cases hg
        · simp only [List.getElem?_toArray, List.getElem?_cons_zero, List.getElem?_cons_succ, Option.some.injEq, List.append_eq, List.cons_append, List.nil_append] at ho
          subst ho
          obtain ⟨rfl, rfl⟩ : 29 = g ∧ true = bl := by simpa using hg
          exact ⟨true, _, _, rfl, rfl, rfl, ⟨{ on := 29, ground := .guard }, by simp, rfl, rfl⟩, fun h => by first | exact absurd rfl h | rfl⟩
        · simp only [List.getElem?_toArray, List.getElem?_cons_zero, List.getElem?_cons_succ, Option.some.injEq, List.append_eq, List.cons_append, List.nil_append] at ho
          subst ho
          obtain ⟨rfl, rfl⟩ : 29 = g ∧ true = bl := by simpa using hg
          exact ⟨true, _, _, rfl, rfl, rfl, ⟨{ on := 29, ground := .guard }, by simp, rfl, rfl⟩, fun h => by first | exact absurd rfl h | rfl⟩
        · simp only [List.getElem?_toArray, List.getElem?_cons_zero, List.getElem?_cons_succ, Option.some.injEq, List.append_eq, List.cons_append, List.nil_append] at ho
          subst ho
          obtain ⟨rfl, rfl⟩ : 29 = g ∧ true = bl := by simpa using hg
          exact ⟨true, _, _, rfl, rfl, rfl, ⟨{ on := 29, ground := .guard }, by simp, rfl, rfl⟩, fun h => by first | exact absurd rfl h | rfl⟩
        · simp only [List.getElem?_toArray, List.getElem?_cons_zero, List.getElem?_cons_succ, Option.some.injEq, List.append_eq, List.cons_append, List.nil_append] at ho
          subst ho
          obtain ⟨rfl, rfl⟩ : 29 = g ∧ true = bl := by simpa using hg
          exact ⟨true, _, _, rfl, rfl, rfl, ⟨{ on := 29, ground := .guard }, by simp, rfl, rfl⟩, fun h => by first | exact absurd rfl h | rfl⟩
        · simp only [List.getElem?_toArray, List.getElem?_cons_zero, List.getElem?_cons_succ, Option.some.injEq, List.append_eq, List.cons_append, List.nil_append] at ho
          subst ho
          cases hg
        · simp only [List.getElem?_toArray, List.getElem?_cons_zero, List.getElem?_cons_succ, Option.some.injEq, List.append_eq, List.cons_append, List.nil_append] at ho
          subst ho
          cases hg
        · simp only [List.getElem?_toArray, List.getElem?_cons_zero, List.getElem?_cons_succ, Option.some.injEq, List.append_eq, List.cons_append, List.nil_append] at ho
          subst ho
          obtain ⟨rfl, rfl⟩ : 35 = g ∧ true = bl := by simpa using hg
          exact ⟨true, _, _, rfl, rfl, rfl, ⟨{ on := 35, ground := .guard }, by simp, rfl, rfl⟩, fun h => by first | exact absurd rfl h | rfl⟩
        · simp only [List.getElem?_toArray, List.getElem?_cons_zero, List.getElem?_cons_succ, Option.some.injEq, List.append_eq, List.cons_append, List.nil_append] at ho
          subst ho
          obtain ⟨rfl, rfl⟩ : 35 = g ∧ true = bl := by simpa using hg
          exact ⟨true, _, _, rfl, rfl, rfl, ⟨{ on := 35, ground := .guard }, by simp, rfl, rfl⟩, fun h => by first | exact absurd rfl h | rfl⟩
        · simp only [List.getElem?_toArray, List.getElem?_cons_zero, List.getElem?_cons_succ, Option.some.injEq, List.append_eq, List.cons_append, List.nil_append] at ho
          subst ho
          obtain ⟨rfl, rfl⟩ : 35 = g ∧ true = bl := by simpa using hg
          exact ⟨true, _, _, rfl, rfl, rfl, ⟨{ on := 35, ground := .guard }, by simp, rfl, rfl⟩, fun h => by first | exact absurd rfl h | rfl⟩
        · simp only [List.getElem?_toArray, List.getElem?_cons_zero, List.getElem?_cons_succ, Option.some.injEq, List.append_eq, List.cons_append, List.nil_append] at ho
          subst ho
          cases hg
        · simp only [List.getElem?_toArray, List.getElem?_cons_zero, List.getElem?_cons_succ, Option.some.injEq, List.append_eq, List.cons_append, List.nil_append] at ho
          subst ho
          cases hg
        · simp only [List.getElem?_toArray, List.getElem?_cons_zero, List.getElem?_cons_succ, Option.some.injEq, List.append_eq, List.cons_append, List.nil_append] at ho
          subst ho
          obtain ⟨rfl, rfl⟩ : 40 = g ∧ true = bl := by simpa using hg
          exact ⟨true, _, _, rfl, rfl, rfl, ⟨{ on := 40, ground := .guard }, by simp, rfl, rfl⟩, fun h => by first | exact absurd rfl h | rfl⟩
        · simp only [List.getElem?_toArray, List.getElem?_cons_zero, List.getElem?_cons_succ, Option.some.injEq, List.append_eq, List.cons_append, List.nil_append] at ho
          subst ho
          obtain ⟨rfl, rfl⟩ : 40 = g ∧ true = bl := by simpa using hg
          exact ⟨true, _, _, rfl, rfl, rfl, ⟨{ on := 40, ground := .guard }, by simp, rfl, rfl⟩, fun h => by first | exact absurd rfl h | rfl⟩
        · simp only [List.getElem?_toArray, List.getElem?_cons_zero, List.getElem?_cons_succ, Option.some.injEq, List.append_eq, List.cons_append, List.nil_append] at ho
          subst ho
          obtain ⟨rfl, rfl⟩ : 40 = g ∧ true = bl := by simpa using hg
          exact ⟨true, _, _, rfl, rfl, rfl, ⟨{ on := 40, ground := .guard }, by simp, rfl, rfl⟩, fun h => by first | exact absurd rfl h | rfl⟩
        · simp only [List.getElem?_toArray, List.getElem?_cons_zero, List.getElem?_cons_succ, Option.some.injEq, List.append_eq, List.cons_append, List.nil_append] at ho
          subst ho
          obtain ⟨rfl, rfl⟩ : 40 = g ∧ true = bl := by simpa using hg
          exact ⟨true, _, _, rfl, rfl, rfl, ⟨{ on := 40, ground := .guard }, by simp, rfl, rfl⟩, fun h => by first | exact absurd rfl h | rfl⟩
        · simp only [List.getElem?_toArray, List.getElem?_cons_zero, List.getElem?_cons_succ, Option.some.injEq, List.append_eq, List.cons_append, List.nil_append] at ho
          subst ho
          obtain ⟨rfl, rfl⟩ : 40 = g ∧ true = bl := by simpa using hg
          exact ⟨true, _, _, rfl, rfl, rfl, ⟨{ on := 40, ground := .guard }, by simp, rfl, rfl⟩, fun h => by first | exact absurd rfl h | rfl⟩
        · simp only [List.getElem?_toArray, List.getElem?_cons_zero, List.getElem?_cons_succ, Option.some.injEq, List.append_eq, List.cons_append, List.nil_append] at ho
          subst ho
          obtain ⟨rfl, rfl⟩ : 40 = g ∧ true = bl := by simpa using hg
          exact ⟨true, _, _, rfl, rfl, rfl, ⟨{ on := 40, ground := .guard }, by simp, rfl, rfl⟩, fun h => by first | exact absurd rfl h | rfl⟩
        · simp only [List.getElem?_toArray, List.getElem?_cons_zero, List.getElem?_cons_succ, Option.some.injEq, List.append_eq, List.cons_append, List.nil_append] at ho
          subst ho
          obtain ⟨rfl, rfl⟩ : 40 = g ∧ true = bl := by simpa using hg
          exact ⟨true, _, _, rfl, rfl, rfl, ⟨{ on := 40, ground := .guard }, by simp, rfl, rfl⟩, fun h => by first | exact absurd rfl h | rfl⟩
        · simp only [List.getElem?_toArray, List.getElem?_cons_zero, List.getElem?_cons_succ, Option.some.injEq, List.append_eq, List.cons_append, List.nil_append] at ho
          subst ho
          cases hg
        · simp only [List.getElem?_toArray, List.getElem?_cons_zero, List.getElem?_cons_succ, Option.some.injEq, List.append_eq, List.cons_append, List.nil_append] at ho
          subst ho
          cases hg
        · simp only [List.getElem?_toArray, List.getElem?_cons_zero, List.getElem?_cons_succ, Option.some.injEq, List.append_eq, List.cons_append, List.nil_append] at ho
          subst ho
          obtain ⟨rfl, rfl⟩ : 49 = g ∧ true = bl := by simpa using hg
          exact ⟨true, _, _, rfl, rfl, rfl, ⟨{ on := 49, ground := .guard }, by simp, rfl, rfl⟩, fun h => by first | exact absurd rfl h | rfl⟩
        · simp only [List.getElem?_toArray, List.getElem?_cons_zero, List.getElem?_cons_succ, Option.some.injEq, List.append_eq, List.cons_append, List.nil_append] at ho
          subst ho
          obtain ⟨rfl, rfl⟩ : 49 = g ∧ true = bl := by simpa using hg
          exact ⟨true, _, _, rfl, rfl, rfl, ⟨{ on := 49, ground := .guard }, by simp, rfl, rfl⟩, fun h => by first | exact absurd rfl h | rfl⟩
        · simp only [List.getElem?_toArray, List.getElem?_cons_zero, List.getElem?_cons_succ, Option.some.injEq, List.append_eq, List.cons_append, List.nil_append] at ho
          subst ho
          obtain ⟨rfl, rfl⟩ : 49 = g ∧ true = bl := by simpa using hg
          exact ⟨true, _, _, rfl, rfl, rfl, ⟨{ on := 49, ground := .guard }, by simp, rfl, rfl⟩, fun h => by first | exact absurd rfl h | rfl⟩
        · simp only [List.getElem?_toArray, List.getElem?_cons_zero, List.getElem?_cons_succ, Option.some.injEq, List.append_eq, List.cons_append, List.nil_append] at ho
          subst ho
          obtain ⟨rfl, rfl⟩ : 49 = g ∧ true = bl := by simpa using hg
          exact ⟨true, _, _, rfl, rfl, rfl, ⟨{ on := 49, ground := .guard }, by simp, rfl, rfl⟩, fun h => by first | exact absurd rfl h | rfl⟩
        · simp only [List.getElem?_toArray, List.getElem?_cons_zero, List.getElem?_cons_succ, Option.some.injEq, List.append_eq, List.cons_append, List.nil_append] at ho
          subst ho
          cases hg
        · simp only [List.getElem?_toArray, List.getElem?_cons_zero, List.getElem?_cons_succ, Option.some.injEq, List.append_eq, List.cons_append, List.nil_append] at ho
          subst ho
          cases hg
        · simp only [List.getElem?_toArray, List.getElem?_cons_zero, List.getElem?_cons_succ, Option.some.injEq, List.append_eq, List.cons_append, List.nil_append] at ho
          subst ho
          obtain ⟨rfl, rfl⟩ : 55 = g ∧ true = bl := by simpa using hg
          exact ⟨true, _, _, rfl, rfl, rfl, ⟨{ on := 55, ground := .guard }, by simp, rfl, rfl⟩, fun h => by first | exact absurd rfl h | rfl⟩
        · simp only [List.getElem?_toArray, List.getElem?_cons_zero, List.getElem?_cons_succ, Option.some.injEq, List.append_eq, List.cons_append, List.nil_append] at ho
          subst ho
          obtain ⟨rfl, rfl⟩ : 55 = g ∧ true = bl := by simpa using hg
          exact ⟨true, _, _, rfl, rfl, rfl, ⟨{ on := 55, ground := .guard }, by simp, rfl, rfl⟩, fun h => by first | exact absurd rfl h | rfl⟩
        · simp only [List.getElem?_toArray, List.getElem?_cons_zero, List.getElem?_cons_succ, Option.some.injEq, List.append_eq, List.cons_append, List.nil_append] at ho
          subst ho
          obtain ⟨rfl, rfl⟩ : 55 = g ∧ true = bl := by simpa using hg
          exact ⟨true, _, _, rfl, rfl, rfl, ⟨{ on := 55, ground := .guard }, by simp, rfl, rfl⟩, fun h => by first | exact absurd rfl h | rfl⟩
        · simp only [List.getElem?_toArray, List.getElem?_cons_zero, List.getElem?_cons_succ, Option.some.injEq, List.append_eq, List.cons_append, List.nil_append] at ho
          subst ho
          obtain ⟨rfl, rfl⟩ : 55 = g ∧ true = bl := by simpa using hg
          exact ⟨true, _, _, rfl, rfl, rfl, ⟨{ on := 55, ground := .guard }, by simp, rfl, rfl⟩, fun h => by first | exact absurd rfl h | rfl⟩
        · simp only [List.getElem?_toArray, List.getElem?_cons_zero, List.getElem?_cons_succ, Option.some.injEq, List.append_eq, List.cons_append, List.nil_append] at ho
          subst ho
          obtain ⟨rfl, rfl⟩ : 55 = g ∧ true = bl := by simpa using hg
          exact ⟨true, _, _, rfl, rfl, rfl, ⟨{ on := 55, ground := .guard }, by simp, rfl, rfl⟩, fun h => by first | exact absurd rfl h | rfl⟩
        · simp only [List.getElem?_toArray, List.getElem?_cons_zero, List.getElem?_cons_succ, Option.some.injEq, List.append_eq, List.cons_append, List.nil_append] at ho
          subst ho
          obtain ⟨rfl, rfl⟩ : 55 = g ∧ true = bl := by simpa using hg
          exact ⟨true, _, _, rfl, rfl, rfl, ⟨{ on := 55, ground := .guard }, by simp, rfl, rfl⟩, fun h => by first | exact absurd rfl h | rfl⟩
        · simp only [List.getElem?_toArray, List.getElem?_cons_zero, List.getElem?_cons_succ, Option.some.injEq, List.append_eq, List.cons_append, List.nil_append] at ho
          subst ho
          obtain ⟨rfl, rfl⟩ : 55 = g ∧ true = bl := by simpa using hg
          exact ⟨true, _, _, rfl, rfl, rfl, ⟨{ on := 55, ground := .guard }, by simp, rfl, rfl⟩, fun h => by first | exact absurd rfl h | rfl⟩
        · simp only [List.getElem?_toArray, List.getElem?_cons_zero, List.getElem?_cons_succ, Option.some.injEq, List.append_eq, List.cons_append, List.nil_append] at ho
          subst ho
          obtain ⟨rfl, rfl⟩ : 55 = g ∧ true = bl := by simpa using hg
          exact ⟨true, _, _, rfl, rfl, rfl, ⟨{ on := 55, ground := .guard }, by simp, rfl, rfl⟩, fun h => by first | exact absurd rfl h | rfl⟩
        · simp only [List.getElem?_toArray, List.getElem?_cons_zero, List.getElem?_cons_succ, Option.some.injEq, List.append_eq, List.cons_append, List.nil_append] at ho
          subst ho
          cases hg
        · simp only [List.getElem?_toArray, List.getElem?_cons_zero, List.getElem?_cons_succ, Option.some.injEq, List.append_eq, List.cons_append, List.nil_append] at ho
          subst ho
          cases hg
        · simp only [List.getElem?_toArray, List.getElem?_cons_zero, List.getElem?_cons_succ, Option.some.injEq, List.append_eq, List.cons_append, List.nil_append] at ho
          subst ho
          obtain ⟨rfl, rfl⟩ : 65 = g ∧ true = bl := by simpa using hg
          exact ⟨true, _, _, rfl, rfl, rfl, ⟨{ on := 65, ground := .guard }, by simp, rfl, rfl⟩, fun h => by first | exact absurd rfl h | rfl⟩
        · simp only [List.getElem?_toArray, List.getElem?_cons_zero, List.getElem?_cons_succ, Option.some.injEq, List.append_eq, List.cons_append, List.nil_append] at ho
          subst ho
          cases hg
        · simp only [List.getElem?_toArray, List.getElem?_cons_zero, List.getElem?_cons_succ, Option.some.injEq, List.append_eq, List.cons_append, List.nil_append] at ho
          subst ho
          cases hg
      · intro i u D x wv hl hD hI
        have hi : i < 69 := by have h := (List.getElem?_eq_some_iff.1 hl).1; simpa using h
        have hnh : i ≠ 44 ∧ i ≠ 45 ∧ i ≠ 66 := by
          refine ⟨?_, ?_, ?_⟩ <;> (rintro rfl; simp at hl)
        have e44 : ¬ 44 = i := fun e => hnh.1 e.symm
        have e45 : ¬ 45 = i := fun e => hnh.2.1 e.symm
        have e66 : ¬ 66 = i := fun e => hnh.2.2 e.symm
        simp only [e44, e45, e66, if_false]
        exact hI
      · intro D x a wv i o u ho hl hD hdep hcl hF hKn hI hwant K hk
        have hi : i < 69 := (Array.getElem?_eq_some_iff.1 ho).1
        rcases (show i = 0 ∨ i = 1 ∨ i = 2 ∨ i = 3 ∨ i = 4 ∨ i = 5 ∨ i = 6 ∨ i = 7 ∨ i = 8 ∨ i = 9 ∨ i = 10 ∨ i = 11 ∨ i = 12 ∨ i = 13 ∨ i = 14 ∨ i = 15 ∨ i = 16 ∨ i = 17 ∨ i = 18 ∨ i = 19 ∨ i = 20 ∨ i = 21 ∨ i = 22 ∨ i = 23 ∨ i = 24 ∨ i = 25 ∨ i = 26 ∨ i = 27 ∨ i = 28 ∨ i = 29 ∨ i = 30 ∨ i = 31 ∨ i = 32 ∨ i = 33 ∨ i = 34 ∨ i = 35 ∨ i = 36 ∨ i = 37 ∨ i = 38 ∨ i = 39 ∨ i = 40 ∨ i = 41 ∨ i = 42 ∨ i = 43 ∨ i = 44 ∨ i = 45 ∨ i = 46 ∨ i = 47 ∨ i = 48 ∨ i = 49 ∨ i = 50 ∨ i = 51 ∨ i = 52 ∨ i = 53 ∨ i = 54 ∨ i = 55 ∨ i = 56 ∨ i = 57 ∨ i = 58 ∨ i = 59 ∨ i = 60 ∨ i = 61 ∨ i = 62 ∨ i = 63 ∨ i = 64 ∨ i = 65 ∨ i = 66 ∨ i = 67 ∨ i = 68 by omega) with rfl | rfl | rfl | rfl | rfl | rfl | rfl | rfl | rfl | rfl | rfl | rfl | rfl | rfl | rfl | rfl | rfl | rfl | rfl | rfl | rfl | rfl | rfl | rfl | rfl | rfl | rfl | rfl | rfl | rfl | rfl | rfl | rfl | rfl | rfl | rfl | rfl | rfl | rfl | rfl | rfl | rfl | rfl | rfl | rfl | rfl | rfl | rfl | rfl | rfl | rfl | rfl | rfl | rfl | rfl | rfl | rfl | rfl | rfl | rfl | rfl | rfl | rfl | rfl | rfl | rfl | rfl | rfl | rfl
        · simp only [List.getElem?_toArray, List.getElem?_cons_zero, Option.some.injEq, List.append_eq, List.cons_append, List.nil_append] at ho
          subst ho
          obtain rfl : .int .i64 0 = u := by simpa using hl
          have e6 := hF.ev0 (by kernel_rfl) z6
          clear hF hcl hKn hl hwant
          go_simp
          exact hk
        · simp only [List.getElem?_toArray, List.getElem?_cons_zero, List.getElem?_cons_succ, Option.some.injEq, List.append_eq, List.cons_append, List.nil_append] at ho
          subst ho
          simp [Region.binds] at hdep
          obtain rfl : .bool true = u := by simpa using hl
          have e37 := hKn.ev hF 0 rfl rfl rfl (by simp [hdep])
          clear hF hcl hKn hl hwant
          go_simp
          exact hk
        · simp only [List.getElem?_toArray, List.getElem?_cons_zero, List.getElem?_cons_succ, Option.some.injEq, List.append_eq, List.cons_append, List.nil_append] at ho
          subst ho
          simp [Region.binds] at hdep
          obtain rfl : .bool true = u := by simpa using hl
          have e38 := hKn.ev hF 1 rfl rfl rfl (by simp [hdep])
          clear hF hcl hKn hl hwant
          go_simp
          exact hk
        · simp only [List.getElem?_toArray, List.getElem?_cons_zero, List.getElem?_cons_succ, Option.some.injEq, List.append_eq, List.cons_append, List.nil_append] at ho
          subst ho
          simp [Region.binds] at hdep
          obtain rfl : .int .i64 0 = u := by simpa using hl
          have e8 := hF.ev0 (by kernel_rfl) z8
          clear hF hcl hKn hl hwant
          go_simp
          exact hk
        · simp only [List.getElem?_toArray, List.getElem?_cons_zero, List.getElem?_cons_succ, Option.some.injEq, List.append_eq, List.cons_append, List.nil_append] at ho
          subst ho
          simp [Region.binds] at hdep
          obtain rfl : .bool true = u := by simpa using hl
          have e40 := hKn.ev hF 3 rfl rfl rfl (by simp [hdep])
          clear hF hcl hKn hl hwant
          go_simp
          exact hk
        · simp only [List.getElem?_toArray, List.getElem?_cons_zero, List.getElem?_cons_succ, Option.some.injEq, List.append_eq, List.cons_append, List.nil_append] at ho
          subst ho
          simp [Region.binds] at hdep
          obtain rfl : .bool true = u := by simpa using hl
          have e39 := hKn.ev hF 2 rfl rfl rfl (by simp [hdep])
          have e41 := hKn.ev hF 4 rfl rfl rfl (by simp [hdep])
          clear hF hcl hKn hl hwant
          go_simp
          exact hk
        · simp only [List.getElem?_toArray, List.getElem?_cons_zero, List.getElem?_cons_succ, Option.some.injEq, List.append_eq, List.cons_append, List.nil_append] at ho
          subst ho
          simp [Region.binds] at hdep
          obtain rfl : .bool true = u := by simpa using hl
          have e42 := hKn.ev hF 5 rfl rfl rfl (by simp [hdep])
          clear hF hcl hKn hl hwant
          go_simp
          exact hk
        · simp only [List.getElem?_toArray, List.getElem?_cons_zero, List.getElem?_cons_succ, Option.some.injEq, List.append_eq, List.cons_append, List.nil_append] at ho
          subst ho
          simp [Region.binds] at hdep
          obtain rfl : .pointer (some ⟨w5.heap.size, 0, none⟩) = u := by simpa using hl
          have e5 := hF.ev0 (by kernel_rfl) z5
          clear hF hcl hKn hl hwant
          go_simp
          exact hk
        · simp only [List.getElem?_toArray, List.getElem?_cons_zero, List.getElem?_cons_succ, Option.some.injEq, List.append_eq, List.cons_append, List.nil_append] at ho
          subst ho
          simp [Region.binds] at hdep
          obtain rfl : .int .i64 p.s = u := by simpa using hl
          have e44 := hKn.ev hF 7 rfl rfl rfl (by simp [hdep])
          obtain ⟨⟨b0, b1, b2, b3, b4, b5, b6, b7⟩, bf⟩ := (HX8.out.below hI.1).eight
          clear hF hcl hKn hl hwant
          go_simp
          exact hk
        · simp only [List.getElem?_toArray, List.getElem?_cons_zero, List.getElem?_cons_succ, Option.some.injEq, List.append_eq, List.cons_append, List.nil_append] at ho
          subst ho
          simp [Region.binds] at hdep
          obtain rfl : .pointer (some ⟨W2.heap.size, 0, none⟩) = u := by simpa using hl
          have e4 := hF.ev0 (by kernel_rfl) z4
          clear hF hcl hKn hl hwant
          go_simp
          exact hk
        · simp only [List.getElem?_toArray, List.getElem?_cons_zero, List.getElem?_cons_succ, Option.some.injEq, List.append_eq, List.cons_append, List.nil_append] at ho
          subst ho
          simp [Region.binds] at hdep
          obtain rfl : .int .i64 p.s = u := by simpa using hl
          have e46 := hKn.ev hF 9 rfl rfl rfl (by simp [hdep])
          obtain ⟨⟨b0, b1, b2, b3, b4, b5, b6, b7⟩, bf⟩ := (HP8.out.below hI.1).eight
          clear hF hcl hKn hl hwant
          go_simp
          exact hk
        · simp only [List.getElem?_toArray, List.getElem?_cons_zero, List.getElem?_cons_succ, Option.some.injEq, List.append_eq, List.cons_append, List.nil_append] at ho
          subst ho
          simp [Region.binds] at hdep
          obtain rfl : .bool true = u := by simpa using hl
          have e45 := hKn.ev hF 8 rfl rfl rfl (by simp [hdep])
          have e47 := hKn.ev hF 10 rfl rfl rfl (by simp [hdep])
          have hs_ : (p.s == p.s) = true := by simp
          clear hF hcl hKn hl hwant
          go_simp
          exact hk
        · simp only [List.getElem?_toArray, List.getElem?_cons_zero, List.getElem?_cons_succ, Option.some.injEq, List.append_eq, List.cons_append, List.nil_append] at ho
          subst ho
          simp [Region.binds] at hdep
          obtain rfl : .bool true = u := by simpa using hl
          have e43 := hKn.ev hF 6 rfl rfl rfl (by simp [hdep])
          have e48 := hKn.ev hF 11 rfl rfl rfl (by simp [hdep])
          clear hF hcl hKn hl hwant
          go_simp
          exact hk
        · simp only [List.getElem?_toArray, List.getElem?_cons_zero, List.getElem?_cons_succ, Option.some.injEq, List.append_eq, List.cons_append, List.nil_append] at ho
          subst ho
          simp [Region.binds] at hdep
          obtain rfl : .bool true = u := by simpa using hl
          have e49 := hKn.ev hF 12 rfl rfl rfl (by simp [hdep])
          clear hF hcl hKn hl hwant
          go_simp
          exact hk
        · simp only [List.getElem?_toArray, List.getElem?_cons_zero, List.getElem?_cons_succ, Option.some.injEq, List.append_eq, List.cons_append, List.nil_append] at ho
          subst ho
          simp [Region.binds] at hdep
          obtain rfl : .pointer (some ⟨w5.heap.size, 1, none⟩) = u := by simpa using hl
          have e5 := hF.ev0 (by kernel_rfl) z5
          clear hF hcl hKn hl hwant
          go_simp
          exact hk
        · simp only [List.getElem?_toArray, List.getElem?_cons_zero, List.getElem?_cons_succ, Option.some.injEq, List.append_eq, List.cons_append, List.nil_append] at ho
          subst ho
          simp [Region.binds] at hdep
          obtain rfl : .int .i64 p.al = u := by simpa using hl
          have e51 := hKn.ev hF 14 rfl rfl rfl (by simp [hdep])
          obtain ⟨⟨b0, b1, b2, b3, b4, b5, b6, b7⟩, bf⟩ := (HX8.out.below hI.1).eight
          clear hF hcl hKn hl hwant
          go_simp
          exact hk
        · simp only [List.getElem?_toArray, List.getElem?_cons_zero, List.getElem?_cons_succ, Option.some.injEq, List.append_eq, List.cons_append, List.nil_append] at ho
          subst ho
          simp [Region.binds] at hdep
          obtain rfl : .pointer (some ⟨W2.heap.size, 1, none⟩) = u := by simpa using hl
          have e4 := hF.ev0 (by kernel_rfl) z4
          clear hF hcl hKn hl hwant
          go_simp
          exact hk
        · simp only [List.getElem?_toArray, List.getElem?_cons_zero, List.getElem?_cons_succ, Option.some.injEq, List.append_eq, List.cons_append, List.nil_append] at ho
          subst ho
          simp [Region.binds] at hdep
          obtain rfl : .int .i64 p.al = u := by simpa using hl
          have e53 := hKn.ev hF 16 rfl rfl rfl (by simp [hdep])
          obtain ⟨⟨b0, b1, b2, b3, b4, b5, b6, b7⟩, bf⟩ := (HP8.out.below hI.1).eight
          clear hF hcl hKn hl hwant
          go_simp
          exact hk
        · simp only [List.getElem?_toArray, List.getElem?_cons_zero, List.getElem?_cons_succ, Option.some.injEq, List.append_eq, List.cons_append, List.nil_append] at ho
          subst ho
          simp [Region.binds] at hdep
          obtain rfl : .bool true = u := by simpa using hl
          have e52 := hKn.ev hF 15 rfl rfl rfl (by simp [hdep])
          have e54 := hKn.ev hF 17 rfl rfl rfl (by simp [hdep])
          have hs_ : (p.al == p.al) = true := by simp
          clear hF hcl hKn hl hwant
          go_simp
          exact hk
        · simp only [List.getElem?_toArray, List.getElem?_cons_zero, List.getElem?_cons_succ, Option.some.injEq, List.append_eq, List.cons_append, List.nil_append] at ho
          subst ho
          simp [Region.binds] at hdep
          obtain rfl : .bool true = u := by simpa using hl
          have e50 := hKn.ev hF 13 rfl rfl rfl (by simp [hdep])
          have e55 := hKn.ev hF 18 rfl rfl rfl (by simp [hdep])
          clear hF hcl hKn hl hwant
          go_simp
          exact hk
        · simp only [List.getElem?_toArray, List.getElem?_cons_zero, List.getElem?_cons_succ, Option.some.injEq, List.append_eq, List.cons_append, List.nil_append] at ho
          subst ho
          simp [Region.binds] at hdep
          obtain rfl : .bool true = u := by simpa using hl
          have e56 := hKn.ev hF 19 rfl rfl rfl (by simp [hdep])
          clear hF hcl hKn hl hwant
          go_simp
          exact hk
        · simp only [List.getElem?_toArray, List.getElem?_cons_zero, List.getElem?_cons_succ, Option.some.injEq, List.append_eq, List.cons_append, List.nil_append] at ho
          subst ho
          simp [Region.binds] at hdep
          obtain rfl : .pointer (some ⟨w5.heap.size, 2, none⟩) = u := by simpa using hl
          have e5 := hF.ev0 (by kernel_rfl) z5
          clear hF hcl hKn hl hwant
          go_simp
          exact hk
        · simp only [List.getElem?_toArray, List.getElem?_cons_zero, List.getElem?_cons_succ, Option.some.injEq, List.append_eq, List.cons_append, List.nil_append] at ho
          subst ho
          simp [Region.binds] at hdep
          obtain rfl : .slice As p.sp.length cs = u := by simpa using hl
          have e58 := hKn.ev hF 21 rfl rfl rfl (by simp [hdep])
          obtain ⟨⟨b0, b1, b2, b3, b4, b5, b6, b7⟩, bf⟩ := (HX8.out.below hI.1).eight
          clear hF hcl hKn hl hwant
          go_simp
          exact hk
        · simp only [List.getElem?_toArray, List.getElem?_cons_zero, List.getElem?_cons_succ, Option.some.injEq, List.append_eq, List.cons_append, List.nil_append] at ho
          subst ho
          simp [Region.binds] at hdep
          obtain rfl : .string ⟨p.sp.toArray⟩ = u := by simpa using hl
          have e59 := hKn.ev hF 22 rfl rfl rfl (by simp [hdep])
          have cv := run_convb (P := Try.prog) wv 27 9 5 As p.sp.length cs p.sp Try.underlying27 Try.underlying5 Try.underlying9 (HSX.out.below hI.1) rfl
          clear hF hcl hKn hl hwant
          go_simp
          exact hk
        · simp only [List.getElem?_toArray, List.getElem?_cons_zero, List.getElem?_cons_succ, Option.some.injEq, List.append_eq, List.cons_append, List.nil_append] at ho
          subst ho
          simp [Region.binds] at hdep
          obtain rfl : .pointer (some ⟨W2.heap.size, 2, none⟩) = u := by simpa using hl
          have e4 := hF.ev0 (by kernel_rfl) z4
          clear hF hcl hKn hl hwant
          go_simp
          exact hk
        · simp only [List.getElem?_toArray, List.getElem?_cons_zero, List.getElem?_cons_succ, Option.some.injEq, List.append_eq, List.cons_append, List.nil_append] at ho
          subst ho
          simp [Region.binds] at hdep
          obtain rfl : .slice p.A p.sp.length p.c = u := by simpa using hl
          have e61 := hKn.ev hF 24 rfl rfl rfl (by simp [hdep])
          obtain ⟨⟨b0, b1, b2, b3, b4, b5, b6, b7⟩, bf⟩ := (HP8.out.below hI.1).eight
          clear hF hcl hKn hl hwant
          go_simp
          exact hk
        · simp only [List.getElem?_toArray, List.getElem?_cons_zero, List.getElem?_cons_succ, Option.some.injEq, List.append_eq, List.cons_append, List.nil_append] at ho
          subst ho
          simp [Region.binds] at hdep
          obtain rfl : .string ⟨p.sp.toArray⟩ = u := by simpa using hl
          have e62 := hKn.ev hF 25 rfl rfl rfl (by simp [hdep])
          have cv := run_convb (P := Try.prog) wv 27 9 5 p.A p.sp.length p.c p.sp Try.underlying27 Try.underlying5 Try.underlying9 (HSP.out.below hI.1) rfl
          clear hF hcl hKn hl hwant
          go_simp
          exact hk
        · simp only [List.getElem?_toArray, List.getElem?_cons_zero, List.getElem?_cons_succ, Option.some.injEq, List.append_eq, List.cons_append, List.nil_append] at ho
          subst ho
          simp [Region.binds] at hdep
          obtain rfl : .bool true = u := by simpa using hl
          have e60 := hKn.ev hF 23 rfl rfl rfl (by simp [hdep])
          have e63 := hKn.ev hF 26 rfl rfl rfl (by simp [hdep])
          clear hF hcl hKn hl hwant
          go_simp
          exact hk
        · simp only [List.getElem?_toArray, List.getElem?_cons_zero, List.getElem?_cons_succ, Option.some.injEq, List.append_eq, List.cons_append, List.nil_append] at ho
          subst ho
          simp [Region.binds] at hdep
          obtain rfl : .bool true = u := by simpa using hl
          have e57 := hKn.ev hF 20 rfl rfl rfl (by simp [hdep])
          have e64 := hKn.ev hF 27 rfl rfl rfl (by simp [hdep])
          clear hF hcl hKn hl hwant
          go_simp
          exact hk
        · simp only [List.getElem?_toArray, List.getElem?_cons_zero, List.getElem?_cons_succ, Option.some.injEq, List.append_eq, List.cons_append, List.nil_append] at ho
          subst ho
          simp [Region.binds] at hdep
          obtain rfl : .bool true = u := by simpa using hl
          have e65 := hKn.ev hF 28 rfl rfl rfl (by simp [hdep])
          clear hF hcl hKn hl hwant
          go_simp
          exact hk
        · simp only [List.getElem?_toArray, List.getElem?_cons_zero, List.getElem?_cons_succ, Option.some.injEq, List.append_eq, List.cons_append, List.nil_append] at ho
          subst ho
          simp [Region.binds] at hdep
          obtain rfl : .pointer (some ⟨w5.heap.size, 6, none⟩) = u := by simpa using hl
          have e5 := hF.ev0 (by kernel_rfl) z5
          clear hF hcl hKn hl hwant
          go_simp
          exact hk
        · simp only [List.getElem?_toArray, List.getElem?_cons_zero, List.getElem?_cons_succ, Option.some.injEq, List.append_eq, List.cons_append, List.nil_append] at ho
          subst ho
          simp [Region.binds] at hdep
          obtain rfl : .slice Az 0 cz = u := by simpa using hl
          have e67 := hKn.ev hF 30 rfl rfl rfl (by simp [hdep])
          obtain ⟨⟨b0, b1, b2, b3, b4, b5, b6, b7⟩, bf⟩ := (HX8.out.below hI.1).eight
          clear hF hcl hKn hl hwant
          go_simp
          exact hk
        · simp only [List.getElem?_toArray, List.getElem?_cons_zero, List.getElem?_cons_succ, Option.some.injEq, List.append_eq, List.cons_append, List.nil_append] at ho
          subst ho
          simp [Region.binds] at hdep
          obtain rfl : .int .i64 0 = u := by simpa using hl
          have e68 := hKn.ev hF 31 rfl rfl rfl (by simp [hdep])
          clear hF hcl hKn hl hwant
          go_simp
          exact hk
        · simp only [List.getElem?_toArray, List.getElem?_cons_zero, List.getElem?_cons_succ, Option.some.injEq, List.append_eq, List.cons_append, List.nil_append] at ho
          subst ho
          simp [Region.binds] at hdep
          obtain rfl : .bool true = u := by simpa using hl
          have e69 := hKn.ev hF 32 rfl rfl rfl (by simp [hdep])
          clear hF hcl hKn hl hwant
          go_simp
          exact hk
        · simp only [List.getElem?_toArray, List.getElem?_cons_zero, List.getElem?_cons_succ, Option.some.injEq, List.append_eq, List.cons_append, List.nil_append] at ho
          subst ho
          simp [Region.binds] at hdep
          obtain rfl : .bool true = u := by simpa using hl
          have e66 := hKn.ev hF 29 rfl rfl rfl (by simp [hdep])
          have e70 := hKn.ev hF 33 rfl rfl rfl (by simp [hdep])
          clear hF hcl hKn hl hwant
          go_simp
          exact hk
        · simp only [List.getElem?_toArray, List.getElem?_cons_zero, List.getElem?_cons_succ, Option.some.injEq, List.append_eq, List.cons_append, List.nil_append] at ho
          subst ho
          simp [Region.binds] at hdep
          obtain rfl : .bool true = u := by simpa using hl
          have e71 := hKn.ev hF 34 rfl rfl rfl (by simp [hdep])
          clear hF hcl hKn hl hwant
          go_simp
          exact hk
        · simp only [List.getElem?_toArray, List.getElem?_cons_zero, List.getElem?_cons_succ, Option.some.injEq, List.append_eq, List.cons_append, List.nil_append] at ho
          subst ho
          simp [Region.binds] at hdep
          obtain rfl : .pointer (some ⟨w7.heap.size, 0, none⟩) = u := by simpa using hl
          have e7 := hF.ev0 (by kernel_rfl) z7
          clear hF hcl hKn hl hwant
          go_simp
          exact hk
        · simp only [List.getElem?_toArray, List.getElem?_cons_zero, List.getElem?_cons_succ, Option.some.injEq, List.append_eq, List.cons_append, List.nil_append] at ho
          subst ho
          simp [Region.binds] at hdep
          obtain rfl : .int .i64 8 = u := by simpa using hl
          have e73 := hKn.ev hF 36 rfl rfl rfl (by simp [hdep])
          obtain ⟨⟨b0, b1, b2, b3, b4, b5, b6, b7⟩, bf⟩ := (HY8.out.below hI.1).eight
          clear hF hcl hKn hl hwant
          go_simp
          exact hk
        · simp only [List.getElem?_toArray, List.getElem?_cons_zero, List.getElem?_cons_succ, Option.some.injEq, List.append_eq, List.cons_append, List.nil_append] at ho
          subst ho
          simp [Region.binds] at hdep
          obtain rfl : .bool true = u := by simpa using hl
          have e74 := hKn.ev hF 37 rfl rfl rfl (by simp [hdep])
          clear hF hcl hKn hl hwant
          go_simp
          exact hk
        · simp only [List.getElem?_toArray, List.getElem?_cons_zero, List.getElem?_cons_succ, Option.some.injEq, List.append_eq, List.cons_append, List.nil_append] at ho
          subst ho
          simp [Region.binds] at hdep
          obtain rfl : .bool true = u := by simpa using hl
          have e72 := hKn.ev hF 35 rfl rfl rfl (by simp [hdep])
          have e75 := hKn.ev hF 38 rfl rfl rfl (by simp [hdep])
          clear hF hcl hKn hl hwant
          go_simp
          exact hk
        · simp only [List.getElem?_toArray, List.getElem?_cons_zero, List.getElem?_cons_succ, Option.some.injEq, List.append_eq, List.cons_append, List.nil_append] at ho
          subst ho
          simp [Region.binds] at hdep
          obtain rfl : .bool true = u := by simpa using hl
          have e76 := hKn.ev hF 39 rfl rfl rfl (by simp [hdep])
          clear hF hcl hKn hl hwant
          go_simp
          exact hk
        · simp only [List.getElem?_toArray, List.getElem?_cons_zero, List.getElem?_cons_succ, Option.some.injEq, List.append_eq, List.cons_append, List.nil_append] at ho
          subst ho
          simp [Region.binds] at hdep
          obtain rfl : .pointer (some ⟨w7.heap.size, 2, none⟩) = u := by simpa using hl
          have e7 := hF.ev0 (by kernel_rfl) z7
          clear hF hcl hKn hl hwant
          go_simp
          exact hk
        · simp only [List.getElem?_toArray, List.getElem?_cons_zero, List.getElem?_cons_succ, Option.some.injEq, List.append_eq, List.cons_append, List.nil_append] at ho
          subst ho
          simp [Region.binds] at hdep
          obtain rfl : .slice Bs 8 ds = u := by simpa using hl
          have e78 := hKn.ev hF 41 rfl rfl rfl (by simp [hdep])
          obtain ⟨⟨b0, b1, b2, b3, b4, b5, b6, b7⟩, bf⟩ := (HY8.out.below hI.1).eight
          clear hF hcl hKn hl hwant
          go_simp
          exact hk
        · simp only [List.getElem?_toArray, List.getElem?_cons_zero, List.getElem?_cons_succ, Option.some.injEq, List.append_eq, List.cons_append, List.nil_append] at ho
          subst ho
          simp [Region.binds] at hdep
          obtain rfl : .string ⟨([7, 0, 0, 0, 0, 0, 255, 255] : List UInt8).toArray⟩ = u := by simpa using hl
          have e79 := hKn.ev hF 42 rfl rfl rfl (by simp [hdep])
          have cv := run_convb (P := Try.prog) wv 27 9 5 Bs 8 ds [7, 0, 0, 0, 0, 0, 255, 255] Try.underlying27 Try.underlying5 Try.underlying9 (HSY.out.below hI.1) rfl
          clear hF hcl hKn hl hwant
          go_simp
          exact hk
        · simp at hl
        · simp at hl
        · simp only [List.getElem?_toArray, List.getElem?_cons_zero, List.getElem?_cons_succ, Option.some.injEq, List.append_eq, List.cons_append, List.nil_append] at ho
          subst ho
          simp [Region.binds] at hdep
          obtain rfl : .string ⟨([7, 0, 0, 0, 0, 0, 255, 255] : List UInt8).toArray⟩ = u := by simpa using hl
          obtain ⟨A9, hx9, h45, hs9⟩ := hI.2.1 (hcl 45 _ rfl (by simp [hdep]) { on := 44, ground := .data } (by simp) rfl)
          have e82 := hF.ev 45 rfl rfl (by simp [hdep]) (h45 (by simp [hdep]))
          have cv := run_convb (P := Try.prog) wv 27 9 5 A9 8 8 [7, 0, 0, 0, 0, 0, 255, 255] Try.underlying27 Try.underlying5 Try.underlying9 hs9.sl rfl
          clear hF hcl hKn hl hwant
          go_simp
          exact hk
        · simp only [List.getElem?_toArray, List.getElem?_cons_zero, List.getElem?_cons_succ, Option.some.injEq, List.append_eq, List.cons_append, List.nil_append] at ho
          subst ho
          simp [Region.binds] at hdep
          obtain rfl : .bool true = u := by simpa using hl
          have e80 := hKn.ev hF 43 rfl rfl rfl (by simp [hdep])
          have e83 := hKn.ev hF 46 rfl rfl rfl (by simp [hdep])
          clear hF hcl hKn hl hwant
          go_simp
          exact hk
        · simp only [List.getElem?_toArray, List.getElem?_cons_zero, List.getElem?_cons_succ, Option.some.injEq, List.append_eq, List.cons_append, List.nil_append] at ho
          subst ho
          simp [Region.binds] at hdep
          obtain rfl : .bool true = u := by simpa using hl
          have e77 := hKn.ev hF 40 rfl rfl rfl (by simp [hdep])
          have e84 := hKn.ev hF 47 rfl rfl rfl (by simp [hdep])
          clear hF hcl hKn hl hwant
          go_simp
          exact hk
        · simp only [List.getElem?_toArray, List.getElem?_cons_zero, List.getElem?_cons_succ, Option.some.injEq, List.append_eq, List.cons_append, List.nil_append] at ho
          subst ho
          simp [Region.binds] at hdep
          obtain rfl : .bool true = u := by simpa using hl
          have e85 := hKn.ev hF 48 rfl rfl rfl (by simp [hdep])
          clear hF hcl hKn hl hwant
          go_simp
          exact hk
        · simp only [List.getElem?_toArray, List.getElem?_cons_zero, List.getElem?_cons_succ, Option.some.injEq, List.append_eq, List.cons_append, List.nil_append] at ho
          subst ho
          simp [Region.binds] at hdep
          obtain rfl : .pointer (some ⟨w7.heap.size, 5, none⟩) = u := by simpa using hl
          have e7 := hF.ev0 (by kernel_rfl) z7
          clear hF hcl hKn hl hwant
          go_simp
          exact hk
        · simp only [List.getElem?_toArray, List.getElem?_cons_zero, List.getElem?_cons_succ, Option.some.injEq, List.append_eq, List.cons_append, List.nil_append] at ho
          subst ho
          simp [Region.binds] at hdep
          obtain rfl : .slice (some ⟨cb, co, none⟩) 1 dc = u := by simpa using hl
          have e87 := hKn.ev hF 50 rfl rfl rfl (by simp [hdep])
          obtain ⟨⟨b0, b1, b2, b3, b4, b5, b6, b7⟩, bf⟩ := (HY8.out.below hI.1).eight
          clear hF hcl hKn hl hwant
          go_simp
          exact hk
        · simp only [List.getElem?_toArray, List.getElem?_cons_zero, List.getElem?_cons_succ, Option.some.injEq, List.append_eq, List.cons_append, List.nil_append] at ho
          subst ho
          simp [Region.binds] at hdep
          obtain rfl : .int .i64 1 = u := by simpa using hl
          have e88 := hKn.ev hF 51 rfl rfl rfl (by simp [hdep])
          clear hF hcl hKn hl hwant
          go_simp
          exact hk
        · simp only [List.getElem?_toArray, List.getElem?_cons_zero, List.getElem?_cons_succ, Option.some.injEq, List.append_eq, List.cons_append, List.nil_append] at ho
          subst ho
          simp [Region.binds] at hdep
          obtain rfl : .bool true = u := by simpa using hl
          have e89 := hKn.ev hF 52 rfl rfl rfl (by simp [hdep])
          clear hF hcl hKn hl hwant
          go_simp
          exact hk
        · simp only [List.getElem?_toArray, List.getElem?_cons_zero, List.getElem?_cons_succ, Option.some.injEq, List.append_eq, List.cons_append, List.nil_append] at ho
          subst ho
          simp [Region.binds] at hdep
          obtain rfl : .bool true = u := by simpa using hl
          have e86 := hKn.ev hF 49 rfl rfl rfl (by simp [hdep])
          have e90 := hKn.ev hF 53 rfl rfl rfl (by simp [hdep])
          clear hF hcl hKn hl hwant
          go_simp
          exact hk
        · simp only [List.getElem?_toArray, List.getElem?_cons_zero, List.getElem?_cons_succ, Option.some.injEq, List.append_eq, List.cons_append, List.nil_append] at ho
          subst ho
          simp [Region.binds] at hdep
          obtain rfl : .bool true = u := by simpa using hl
          have e91 := hKn.ev hF 54 rfl rfl rfl (by simp [hdep])
          clear hF hcl hKn hl hwant
          go_simp
          exact hk
        · simp only [List.getElem?_toArray, List.getElem?_cons_zero, List.getElem?_cons_succ, Option.some.injEq, List.append_eq, List.cons_append, List.nil_append] at ho
          subst ho
          simp [Region.binds] at hdep
          obtain rfl : .pointer (some ⟨w7.heap.size, 5, none⟩) = u := by simpa using hl
          have e7 := hF.ev0 (by kernel_rfl) z7
          clear hF hcl hKn hl hwant
          go_simp
          exact hk
        · simp only [List.getElem?_toArray, List.getElem?_cons_zero, List.getElem?_cons_succ, Option.some.injEq, List.append_eq, List.cons_append, List.nil_append] at ho
          subst ho
          simp [Region.binds] at hdep
          obtain rfl : .slice (some ⟨cb, co, none⟩) 1 dc = u := by simpa using hl
          have e93 := hKn.ev hF 56 rfl rfl rfl (by simp [hdep])
          obtain ⟨⟨b0, b1, b2, b3, b4, b5, b6, b7⟩, bf⟩ := (HY8.out.below hI.1).eight
          clear hF hcl hKn hl hwant
          go_simp
          exact hk
        · simp only [List.getElem?_toArray, List.getElem?_cons_zero, List.getElem?_cons_succ, Option.some.injEq, List.append_eq, List.cons_append, List.nil_append] at ho
          subst ho
          simp [Region.binds] at hdep
          obtain rfl : .pointer (some ⟨cb, co, none⟩) = u := by simpa using hl
          have e94 := hKn.ev hF 57 rfl rfl rfl (by simp [hdep])
          clear hF hcl hKn hl hwant
          go_simp
          exact hk
        · simp only [List.getElem?_toArray, List.getElem?_cons_zero, List.getElem?_cons_succ, Option.some.injEq, List.append_eq, List.cons_append, List.nil_append] at ho
          subst ho
          simp [Region.binds] at hdep
          obtain rfl : .pointer (some ⟨cb, co + 4, none⟩) = u := by simpa using hl
          have e95 := hKn.ev hF 58 rfl rfl rfl (by simp [hdep])
          clear hF hcl hKn hl hwant
          go_simp
          exact hk
        · simp only [List.getElem?_toArray, List.getElem?_cons_zero, List.getElem?_cons_succ, Option.some.injEq, List.append_eq, List.cons_append, List.nil_append] at ho
          subst ho
          simp [Region.binds] at hdep
          obtain rfl : .int .i64 p.s = u := by simpa using hl
          have e96 := hKn.ev hF 59 rfl rfl rfl (by simp [hdep])
          have cc := cell_in HCB.out hI.1
          clear hF hcl hKn hl hwant
          go_simp
          exact hk
        · simp only [List.getElem?_toArray, List.getElem?_cons_zero, List.getElem?_cons_succ, Option.some.injEq, List.append_eq, List.cons_append, List.nil_append] at ho
          subst ho
          simp [Region.binds] at hdep
          obtain rfl : .pointer (some ⟨W2.heap.size, 0, none⟩) = u := by simpa using hl
          have e4 := hF.ev0 (by kernel_rfl) z4
          clear hF hcl hKn hl hwant
          go_simp
          exact hk
        · simp only [List.getElem?_toArray, List.getElem?_cons_zero, List.getElem?_cons_succ, Option.some.injEq, List.append_eq, List.cons_append, List.nil_append] at ho
          subst ho
          simp [Region.binds] at hdep
          obtain rfl : .int .i64 p.s = u := by simpa using hl
          have e98 := hKn.ev hF 61 rfl rfl rfl (by simp [hdep])
          obtain ⟨⟨b0, b1, b2, b3, b4, b5, b6, b7⟩, bf⟩ := (HP8.out.below hI.1).eight
          clear hF hcl hKn hl hwant
          go_simp
          exact hk
        · simp only [List.getElem?_toArray, List.getElem?_cons_zero, List.getElem?_cons_succ, Option.some.injEq, List.append_eq, List.cons_append, List.nil_append] at ho
          subst ho
          simp [Region.binds] at hdep
          obtain rfl : .bool true = u := by simpa using hl
          have e97 := hKn.ev hF 60 rfl rfl rfl (by simp [hdep])
          have e99 := hKn.ev hF 62 rfl rfl rfl (by simp [hdep])
          have hs_ : (p.s == p.s) = true := by simp
          clear hF hcl hKn hl hwant
          go_simp
          exact hk
        · simp only [List.getElem?_toArray, List.getElem?_cons_zero, List.getElem?_cons_succ, Option.some.injEq, List.append_eq, List.cons_append, List.nil_append] at ho
          subst ho
          simp [Region.binds] at hdep
          obtain rfl : .bool true = u := by simpa using hl
          have e92 := hKn.ev hF 55 rfl rfl rfl (by simp [hdep])
          have e100 := hKn.ev hF 63 rfl rfl rfl (by simp [hdep])
          clear hF hcl hKn hl hwant
          go_simp
          exact hk
        · simp only [List.getElem?_toArray, List.getElem?_cons_zero, List.getElem?_cons_succ, Option.some.injEq, List.append_eq, List.cons_append, List.nil_append] at ho
          subst ho
          simp [Region.binds] at hdep
          obtain rfl : .bool true = u := by simpa using hl
          have e101 := hKn.ev hF 64 rfl rfl rfl (by simp [hdep])
          clear hF hcl hKn hl hwant
          go_simp
          exact hk
        · simp at hl
        · simp only [List.getElem?_toArray, List.getElem?_cons_zero, List.getElem?_cons_succ, Option.some.injEq, List.append_eq, List.cons_append, List.nil_append] at ho
          subst ho
          simp [Region.binds] at hdep
          obtain rfl : .bool true = u := by simpa using hl
          have e102 := hKn.ev hF 65 rfl rfl rfl (by simp [hdep])
          have e103 := hF.ev 66 rfl rfl (by simp [hdep]) (hI.2.2.1 (by simp [hdep]))
          clear hF hcl hKn hl hwant
          go_simp
          exact hk
        · simp only [List.getElem?_toArray, List.getElem?_cons_zero, List.getElem?_cons_succ, Option.some.injEq, List.append_eq, List.cons_append, List.nil_append] at ho
          subst ho
          simp [Region.binds] at hdep
          obtain rfl : .bool true = u := by simpa using hl
          have e104 := hKn.ev hF 67 rfl rfl rfl (by simp [hdep])
          clear hF hcl hKn hl hwant
          go_simp
          exact hk
      · intro D x a wv i o ho hl hD hdep hcl hF hKn hI K hk
        have hi : i < 69 := (Array.getElem?_eq_some_iff.1 ho).1
        rcases (show i = 0 ∨ i = 1 ∨ i = 2 ∨ i = 3 ∨ i = 4 ∨ i = 5 ∨ i = 6 ∨ i = 7 ∨ i = 8 ∨ i = 9 ∨ i = 10 ∨ i = 11 ∨ i = 12 ∨ i = 13 ∨ i = 14 ∨ i = 15 ∨ i = 16 ∨ i = 17 ∨ i = 18 ∨ i = 19 ∨ i = 20 ∨ i = 21 ∨ i = 22 ∨ i = 23 ∨ i = 24 ∨ i = 25 ∨ i = 26 ∨ i = 27 ∨ i = 28 ∨ i = 29 ∨ i = 30 ∨ i = 31 ∨ i = 32 ∨ i = 33 ∨ i = 34 ∨ i = 35 ∨ i = 36 ∨ i = 37 ∨ i = 38 ∨ i = 39 ∨ i = 40 ∨ i = 41 ∨ i = 42 ∨ i = 43 ∨ i = 44 ∨ i = 45 ∨ i = 46 ∨ i = 47 ∨ i = 48 ∨ i = 49 ∨ i = 50 ∨ i = 51 ∨ i = 52 ∨ i = 53 ∨ i = 54 ∨ i = 55 ∨ i = 56 ∨ i = 57 ∨ i = 58 ∨ i = 59 ∨ i = 60 ∨ i = 61 ∨ i = 62 ∨ i = 63 ∨ i = 64 ∨ i = 65 ∨ i = 66 ∨ i = 67 ∨ i = 68 by omega) with rfl | rfl | rfl | rfl | rfl | rfl | rfl | rfl | rfl | rfl | rfl | rfl | rfl | rfl | rfl | rfl | rfl | rfl | rfl | rfl | rfl | rfl | rfl | rfl | rfl | rfl | rfl | rfl | rfl | rfl | rfl | rfl | rfl | rfl | rfl | rfl | rfl | rfl | rfl | rfl | rfl | rfl | rfl | rfl | rfl | rfl | rfl | rfl | rfl | rfl | rfl | rfl | rfl | rfl | rfl | rfl | rfl | rfl | rfl | rfl | rfl | rfl | rfl | rfl | rfl | rfl | rfl | rfl | rfl
        · exact absurd rfl (hl _)
        · exact absurd rfl (hl _)
        · exact absurd rfl (hl _)
        · exact absurd rfl (hl _)
        · exact absurd rfl (hl _)
        · exact absurd rfl (hl _)
        · exact absurd rfl (hl _)
        · exact absurd rfl (hl _)
        · exact absurd rfl (hl _)
        · exact absurd rfl (hl _)
        · exact absurd rfl (hl _)
        · exact absurd rfl (hl _)
        · exact absurd rfl (hl _)
        · exact absurd rfl (hl _)
        · exact absurd rfl (hl _)
        · exact absurd rfl (hl _)
        · exact absurd rfl (hl _)
        · exact absurd rfl (hl _)
        · exact absurd rfl (hl _)
        · exact absurd rfl (hl _)
        · exact absurd rfl (hl _)
        · exact absurd rfl (hl _)
        · exact absurd rfl (hl _)
        · exact absurd rfl (hl _)
        · exact absurd rfl (hl _)
        · exact absurd rfl (hl _)
        · exact absurd rfl (hl _)
        · exact absurd rfl (hl _)
        · exact absurd rfl (hl _)
        · exact absurd rfl (hl _)
        · exact absurd rfl (hl _)
        · exact absurd rfl (hl _)
        · exact absurd rfl (hl _)
        · exact absurd rfl (hl _)
        · exact absurd rfl (hl _)
        · exact absurd rfl (hl _)
        · exact absurd rfl (hl _)
        · exact absurd rfl (hl _)
        · exact absurd rfl (hl _)
        · exact absurd rfl (hl _)
        · exact absurd rfl (hl _)
        · exact absurd rfl (hl _)
        · exact absurd rfl (hl _)
        · exact absurd rfl (hl _)
        · simp only [List.getElem?_toArray, List.getElem?_cons_zero, List.getElem?_cons_succ, Option.some.injEq, List.append_eq, List.cons_append, List.nil_append] at ho
          subst ho
          simp [Region.binds] at hdep
          clear hF hcl hKn hl
          go_simp
          refine (pointer_any _).mono ?_
          rintro e w6 ⟨A9, rfl, hs9, hb9⟩
          exact hk _ _ ⟨below_next hI.1 hb9, fun _ => ⟨A9, rfl, (fun h => by have h2 := hI.2.2.2 h; rw [hD] at h2; cases h2), hs9⟩, hI.2.2.1, fun _ => rfl⟩
        · simp only [List.getElem?_toArray, List.getElem?_cons_zero, List.getElem?_cons_succ, Option.some.injEq, List.append_eq, List.cons_append, List.nil_append] at ho
          subst ho
          simp [Region.binds] at hdep
          obtain ⟨A9, hx9, h45, hs9⟩ := hI.2.1 (by simp [hdep])
          have e81 := hF.ev 44 rfl rfl (by simp [hdep]) hx9
          unfold Part.val ptrP at e81
          clear hF hcl hKn hl
          go_simp
          exact hk _ _ ⟨hI.1, fun _ => ⟨A9, hx9, fun _ => rfl, hs9⟩, hI.2.2.1, fun _ => by simp [hdep]⟩
        · exact absurd rfl (hl _)
        · exact absurd rfl (hl _)
        · exact absurd rfl (hl _)
        · exact absurd rfl (hl _)
        · exact absurd rfl (hl _)
        · exact absurd rfl (hl _)
        · exact absurd rfl (hl _)
        · exact absurd rfl (hl _)
        · exact absurd rfl (hl _)
        · exact absurd rfl (hl _)
        · exact absurd rfl (hl _)
        · exact absurd rfl (hl _)
        · exact absurd rfl (hl _)
        · exact absurd rfl (hl _)
        · exact absurd rfl (hl _)
        · exact absurd rfl (hl _)
        · exact absurd rfl (hl _)
        · exact absurd rfl (hl _)
        · exact absurd rfl (hl _)
        · exact absurd rfl (hl _)
        · simp only [List.getElem?_toArray, List.getElem?_cons_zero, List.getElem?_cons_succ, Option.some.injEq, List.append_eq, List.cons_append, List.nil_append] at ho
          subst ho
          simp [Region.binds] at hdep
          clear hF hcl hKn hl
          go_simp
          refine (awake17 _).mono ?_
          rintro e w6 ⟨rfl, hb9⟩
          exact hk _ _ ⟨below_next hI.1 hb9, fun h => by obtain ⟨A9, hx9, h45, hs9⟩ := hI.2.1 h; exact ⟨A9, hx9, h45, hs9.below hb9⟩, fun _ => rfl, hI.2.2.2⟩
        · exact absurd rfl (hl _)
        · exact absurd rfl (hl _)
      · intro D x w9 hD hKn hI
        have HBF := Lib.hid hI.1
        have x68 := hKn 68 _ rfl (hD 68 (by decide))
        clear hI hD hKn
        rw [HA0.out]
        simp [putsAll, List.range, List.range.loop, Act.put, x68]
        go_wp2
        go_ret
        exact ⟨rfl, below_next HB8.out HBF.out⟩
  · have hl' : decide (n ≤ 700) = false := by simpa using hl
    go_enter Try.func13, Try.ntmps13
    go_wp2_with fail
    refine (light_any _ _ _ _).mono ?_
    rw [hl']
    rintro e w1 ⟨rfl, rfl⟩
    go_wp2_with fail
    refine (awake17 _).mono ?_
    rintro e w6 ⟨rfl, hb6⟩
    go_wp2
    go_ret
    exact ⟨rfl, hb6⟩
end Go.Proofs.Ytamhigknobdloaa
