/- The walk of product.Padding over the parts of a product; conditions: no byte of a part is 0. -/
import Derived.Test.YtamhigknobdloaaJo
namespace Go.Proofs.Ytamhigknobdloaa
open Go.RowKit
set_option linter.unusedVariables false

/-- What padding shows of a byte. -/
def inv (b : UInt8) : UInt8 := if b = 0 then 255 else 0
/-- What stands while the padding is made. -/
structure PadAt (w : World) (b0 : Nat) (cs : Array Value) (A : Option Addr) (N : Nat) (pre : List UInt8) (k : Nat) (W : World) : Prop where
  box : Blk W b0 31 cs
  out : ∃ X : List UInt8, X.length = N ∧ (∀ j, j < k → X[j]? = (pre.map inv)[j]?) ∧ (∀ j, k ≤ j → j < N → X[j]? = some 255) ∧ OwnW W (b0 + 1) 5 A (X.map bv)
  below : Below w.heap.size w W
section
variable {w : World} {b0 : Nat} {cs : Array Value} {A : Option Addr} {N : Nat} {pre : List UInt8} {k : Nat} {W : World}
theorem PadAt.drewN (h : PadAt w b0 cs A N pre k W) (n : Nat) : PadAt w b0 cs A N pre k (W.drewN n) := ⟨h.box, h.out, below_drewN' h.below n⟩
theorem PadAt.next {M : Laid} {q : Part} {a : Nat} (h : PadAt w b0 cs A N M.sp M.s.toNat W) (ha : alignI M.s q.al = a) (hm : (M.sp.length : Int) = M.s) (hle : M.s ≤ a) (hfit : a ≤ N) : PadAt w b0 cs A N (M.add q).sp a W := by
  obtain ⟨X, x1, x2, x3, x4⟩ := h.out
  obtain ⟨e1, e2⟩ := add_sp M q a ha hm hle
  refine ⟨h.box, ⟨X, x1, fun j hj => ?_, fun j hk hj => x3 j (by omega) hj, x4⟩, h.below⟩
  rw [e1, List.append_assoc, List.map_append]
  rcases Nat.lt_or_ge j M.sp.length with h1 | h1
  · rw [x2 j (by omega), List.getElem?_append_left (by simpa using h1)]
  · rw [x3 j (by omega) (by omega), List.getElem?_append_right (by simpa using h1), List.map_append, List.getElem?_append_left (by simp only [List.length_map, List.length_replicate]; omega), List.getElem?_map, List.getElem?_replicate, if_pos (by simp only [List.length_map]; omega)]
    rfl
theorem PadAt.cell {j : Nat} (h : PadAt w b0 cs A N pre k W) (hj : j < N) : ∃ g u, A = some ⟨g, 0, none⟩ ∧ b0 < g ∧ g < W.heap.size ∧ W.cell? ⟨g, j, none⟩ = some u ∧ W.frozen? ⟨g, j, none⟩ = false := by
  obtain ⟨X, x1, x2, x3, x4⟩ := h.out
  obtain ⟨g, e, h1, h2, h3, h4⟩ := x4.cell (k := j) (by simp; omega)
  exact ⟨g, _, e, h1, h2, h3, h4⟩
theorem PadAt.store {g : Nat} (h : PadAt w b0 cs (some ⟨g, 0, none⟩) N pre k W) (hk : k < N) (hp : (pre.map inv)[k]? = some 0) (hb : b0 < g) (hw : w.heap.size ≤ b0) : PadAt w b0 cs (some ⟨g, 0, none⟩) N pre (k + 1) (W.setCell ⟨g, k, none⟩ (.int .u8 0)) := by
  obtain ⟨X, x1, x2, x3, x4⟩ := h.out
  refine ⟨h.box.far (p := ⟨g, k, none⟩) (by show b0 ≠ g; omega) _, ⟨X.set k 0, by simpa using x1, fun j hj => ?_, fun j h1 h2 => ?_, ?_⟩, h.below.setCell (p := ⟨g, k, none⟩) (by show w.heap.size ≤ g; omega) _⟩
  · by_cases e : j = k
    · subst e
      rw [List.getElem?_set_self (by omega), hp]
    · rw [List.getElem?_set_ne (by omega), x2 j (by omega)]
  · rw [List.getElem?_set_ne (by omega), x3 j (by omega) h2]
  · have := x4.stored k (.int .u8 0)
    rwa [List.map_set]
end

set_option maxHeartbeats 2000000 in
set_option maxRecDepth 100000 in
theorem padding_any (N : Nat) (al : Int) (Ap : Option Addr) (np cp : Nat) (Ao : Option Addr) (co m : Nat) (x4 x5 x6 x7 : Value) (qs : List Part) (L : Laid) (Z : Option Addr) (cz : Nat) (w : World)
    (hp : validB N al np = true) (hof : Sl w Ao (L.of.map iv)) (hL : layGo Laid.start qs = some L) (hLs : L.s = N) (hv : ∀ q ∈ qs, q.valid = true)
    (hm : qs.length = m) (hZ : Sl w Z ((qs.map Part.s).map iv)) (hnz : ∀ q ∈ qs, ∀ b ∈ q.sp, b ≠ 0) (hm2 : m ≤ 1000) :
    Calls Try.prog 54 #[.agg #[.int .i64 (N : Int), .int .i64 al, .slice Ap np cp, .slice Ao m co, x4, x5, x6, x7], .slice Z m cz] w fun e w' => ∃ A', e = .returned (.slice A' N N) ∧ Sl w' A' ((L.sp.map inv).map bv) ∧ Below w.heap.size w w' := by
  have hgood := layGo_good qs hv _ _ _ Laid.good_start hL
  have hN : N ≤ 1024 := by have := hgood.s1; omega
  have hspN : L.sp.length = N := by have := hgood.sp; omega
  have hofm : L.of.length = m := by rw [hgood.of, hm, Nat.zero_add]
  have hB0 := Blk.new w 31 #[.int .i64 (N : Int), .int .i64 al, .slice Ap np cp, .slice Ao m co, x4, x5, x6, x7]
  have hbx := (Below.refl w.heap.size w).alloc (Nat.le_refl _) (.cells #[.int .i64 (N : Int), .int .i64 al, .slice Ap np cp, .slice Ao m co, x4, x5, x6, x7] 31)
  have hcl : clampN N = N := by unfold clampN; omega
  have HOF := Lib.hid hof
  have HZ := Lib.hid hZ
  have HM := Lib.hid hm
  have HL := Lib.hid hL
  have HLS := Lib.hid hLs
  have HV := Lib.hid hv
  have HNZ := Lib.hid hnz
  have HG := Lib.hid hgood
  have HSPN := Lib.hid hspN
  have HOFM := Lib.hid hofm
  have HB0 := Lib.hid hB0
  have HBX := Lib.hid hbx
  have HCL := Lib.hid hcl
  clear hof hZ hm hL hLs hv hgood hspN hofm hB0 hbx hcl hnz
  go_enter Try.func54, Try.ntmps54
  go_wp2_with fail
  refine (valid_any (N : Int) al Ap np cp (.slice Ao m co) x4 x5 x6 x7 _).mono ?_
  rw [hp]
  rintro e w1 ⟨rfl, hb1⟩
  have hb01 := below_next HBX.out hb1
  have hB1 := HB0.out.below hb1
  have hl1 : w.heap.size < w1.heap.size := hB1.lt
  obtain ⟨⟨c0, c1, c2, c3, c4, c5, c6, c7⟩, cf⟩ := hB1.eight
  have HB1 := Lib.hid hB1
  have HB01 := Lib.hid hb01
  clear hb1 hb01 hB1
  go_wp2_with fail
  refine (extend_any none 0 0 [] (N : Int) _ rfl Sl.nil (by omega)).mono ?_
  rintro e w2 ⟨A', rfl, own, hb2⟩
  rw [HCL.out] at own ⊢
  have hB2 := HB1.out.below hb2
  have hpad : PadAt w w.heap.size #[.int .i64 (N : Int), .int .i64 al, .slice Ap np cp, .slice Ao m co, x4, x5, x6, x7] A' N [] 0 w2 := ⟨hB2, ⟨extB [] N, extB_length _ _, (by intro j hj; omega), (by intro j _ hj; simp [extB, hj]), own.mono (by omega)⟩, below_next HB01.out hb2⟩
  clear c0 c1 c2 c3 c4 c5 c6 c7 cf
  obtain ⟨⟨c0, c1, c2, c3, c4, c5, c6, c7⟩, cf⟩ := hB2.eight
  have hl2 : w.heap.size < w2.heap.size := hB2.lt
  clear own hb2 hB2 HB1 HB01
  go_wp2_with fail
  clear c0 c1 c2 c3 c4 c5 c6 c7 cf
  go_loopw [22] (fun v22 wr => ∃ (i : Nat) (M : Laid), i ≤ m ∧ v22 = .int .i64 i ∧ Hid (layGo Laid.start (qs.take i) = some M) ∧ PadAt w w.heap.size #[.int .i64 (N : Int), .int .i64 al, .slice Ap np cp, .slice Ao m co, x4, x5, x6, x7] A' N M.sp M.s.toNat wr) (fun v22 _ => m - (intOf v22).toNat)
  case atStart => exact ⟨0, Laid.start, by omega, rfl, (rfl : _ = _), hpad⟩
  case round =>
    obtain ⟨i, M, hi, rfl, hM, J⟩ := hrel
    clear hpad
    by_cases hlt : i < m
    · have hiq : i < qs.length := by rw [HM.out]; exact hlt
      obtain ⟨l1, l2, l3, l4, l5, l6, l7, l8⟩ := lay_part qs L HL.out HV.out i hiq M hM.out
      obtain ⟨v1, v2, v3, v4⟩ := (valid_iff qs[i]).1 (HV.out qs[i] (List.getElem_mem hiq))
      have hqn := HNZ.out qs[i] (List.getElem_mem hiq)
      obtain ⟨rb, ro, rfl, hrc⟩ := (HZ.out.below J.below).at_ (k := i) (by simpa using hiq)
      rw [List.getElem_map, List.getElem_map] at hrc
      have hio : i < L.of.length := by rw [HOFM.out]; exact hlt
      obtain ⟨ob, oo, rfl, hoc⟩ := (HOF.out.below J.below).at_ (k := i) (by simpa using hio)
      rw [List.getElem_map] at hoc
      rw [List.getElem?_eq_getElem hio] at l3
      rw [Option.some.inj l3] at hoc
      have hM2 : layGo Laid.start (qs.take (i + 1)) = some (M.add qs[i]) := l2
      have ms := l1.sp
      have m0 := l1.s0
      have l6' := l6
      rw [HLS.out] at l6'
      generalize hqd : qs[i] = q at *
      obtain ⟨a, ha⟩ := Int.eq_ofNat_of_zero_le (show 0 ≤ alignI M.s q.al by omega)
      rw [ha] at hoc l4 l6' l7
      have hoc' : wr.cell? ⟨ob, oo + i, none⟩ = some (.int .i64 (a : Int)) := hoc
      have hrc' : wr.cell? ⟨rb, ro + i, none⟩ = some (.int .i64 (q.sp.length : Int)) := by rw [v4]; exact hrc
      obtain ⟨e1, e2⟩ := add_sp M q a ha ms l4
      have J2 := J.next ha ms l4 (by omega)
      have hs3 : (M.add q).s.toNat = a + q.sp.length := by
        have : (M.add q).s = alignI M.s q.al + q.s := rfl
        omega
      have hget : ∀ t, t < q.sp.length → ((M.add q).sp.map inv)[a + t]? = some 0 := by
        intro t ht
        have hal2 : (M.sp ++ List.replicate (a - M.sp.length) (0 : UInt8)).length = a := by simp; omega
        rw [e1, List.getElem?_map, List.getElem?_append_right (by omega), hal2, Nat.add_sub_cancel_left, List.getElem?_eq_getElem ht]
        have := hqn q.sp[t] (List.getElem_mem ht)
        simp [inv, this]
      have hal : a + q.sp.length ≤ N := by omega
      obtain ⟨⟨c0, c1, c2, c3, c4, c5, c6, c7⟩, cf⟩ := J.box.eight
      have JJ := Lib.hid J2
      have HM2 : Hid (layGo Laid.start (qs.take (i + 1)) = some (M.add q)) := hM2
      have HS3 := Lib.hid hs3
      have HGET := Lib.hid hget
      clear v1 v2 v3 v4 l1 l2 l3 l4 l5 l6 l6' l7 l8 m0 hrc hoc J J2 hM hM2 hqd ha hs3 ms e1 e2 hget hqn
      go_wp2_with fail
      go_quiet (fail)
      go_wp2_with fail
      clear c0 c1 c2 c3 c4 c5 c6 c7 cf hoc' hrc'
      have hb44 := JJ.out.drewN nq
      obtain ⟨wp, rfl⟩ : ∃ wp : World, wp = wr := ⟨_, rfl⟩
      go_loopw [8, 9] (fun v8 v9 wq => ∃ t : Nat, t ≤ q.sp.length ∧ v8 = .int .i64 ((q.sp.length : Int) - (t : Int)) ∧ v9 = .int .i64 ((a : Int) + (t : Int)) ∧ PadAt w w.heap.size #[.int .i64 (N : Int), .int .i64 al, .slice Ap np cp, .slice (some ⟨ob, oo, none⟩) m co, x4, x5, x6, x7] A' N (M.add q).sp (a + t) wq) (fun v8 _ _ => (intOf v8).toNat)
      case atStart => exact ⟨0, by omega, by simp, by simp, hb44⟩
      case round =>
        obtain ⟨t, ht, rfl, rfl, J⟩ := hrel
        clear hb44
        obtain ⟨⟨c0, c1, c2, c3, c4, c5, c6, c7⟩, cf⟩ := J.box.eight
        clear c1 c2 c3 c4 c5 c6 c7 cf
        by_cases htl : t < q.sp.length
        · obtain ⟨g, u, rfl, hg1, hg2, hcu, hfu⟩ := J.cell (j := a + t) (by omega)
          have JT := Lib.hid (J.store (by omega) (HGET.out t htl) hg1 (Nat.le_refl _))
          have hne : ¬ w.heap.size = g := by omega
          clear J
          go_wp2_with fail
          go_roundw
          case rel => exact ⟨t + 1, by omega, by congr 1 <;> omega, by congr 1 <;> omega, JT.out⟩
          case measure => simp [intOf]; omega
        · obtain rfl : t = q.sp.length := by omega
          have JT := Lib.hid J
          clear J
          by_cases haN : a + q.sp.length < N
          · have d1 : decide ((a : Int) + (q.sp.length : Int) < (N : Int)) = true := by simp; omega
            go_wp2_with fail
            go_roundw
            case rel => first | exact ⟨i + 1, M.add q, by omega, by go_num, HM2, by rw [HS3.out]; exact JT.out⟩ | ((repeat apply Exists.intro); exact ⟨⟨i + 1, M.add q, by omega, by go_num, HM2, by rw [HS3.out]; exact JT.out⟩, rfl⟩)
            case measure => simp [intOf]; omega
          · have d1 : decide ((a : Int) + (q.sp.length : Int) < (N : Int)) = false := by simp; omega
            go_wp2_with fail
            go_roundw
            case rel => first | exact ⟨i + 1, M.add q, by omega, by go_num, HM2, by rw [HS3.out]; exact JT.out⟩ | ((repeat apply Exists.intro); exact ⟨⟨i + 1, M.add q, by omega, by go_num, HM2, by rw [HS3.out]; exact JT.out⟩, rfl⟩)
            case measure => simp [intOf]; omega
    · obtain rfl : i = m := by omega
      have hML : M = L := by
        have h1 := hM.out
        rw [List.take_of_length_le (by rw [HM.out]; exact Nat.le_refl _), HL.out] at h1
        exact (Option.some.inj h1).symm
      subst hML
      obtain ⟨X, x1, x2, x3, x4⟩ := J.out
      have hXe : X = M.sp.map inv := by
        apply List.ext_getElem?
        intro j
        rcases Nat.lt_or_ge j N with h1 | h1
        · exact x2 j (by have := HLS.out; omega)
        · rw [List.getElem?_eq_none (by omega), List.getElem?_eq_none (by rw [List.length_map, HSPN.out]; omega)]
      have hsl := x4.sl
      rw [hXe] at hsl
      have HSL := Lib.hid hsl
      have HBE := Lib.hid J.below
      clear J hsl hXe x1 x2 x3 x4
      go_wp2
      go_ret
      exact ⟨_, rfl, HSL.out, HBE.out⟩
end Go.Proofs.Ytamhigknobdloaa
