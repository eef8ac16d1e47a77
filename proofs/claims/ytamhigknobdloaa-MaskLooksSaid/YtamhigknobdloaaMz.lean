/- The walk of the law MaskLooks; no condition but that the arguments are readable. -/
import Derived.Test.YtamhigknobdloaaMy
import Derived.Test.YtamhigknobdloaaRk
import Derived.Test.YtamhigknobdloaaLb
namespace Go.Proofs.Ytamhigknobdloaa
open Go.RowKit
set_option linter.unusedVariables false

set_option maxHeartbeats 3200000 in
set_option maxRecDepth 100000 in
theorem maskLooks_big (A : Option Addr) (n c : Nat) (B : Option Addr) (nb cb : Nat) (Z : Option Addr) (nz cz : Nat) (k v s al : Int) (As : Option Addr) (ns cs : Nat) (x3 x4 x5 x6 x7 : Value) (w : World)
    (h1 : n ≤ 9223372036854775807) (h2 : nb ≤ 9223372036854775807) (h3 : nz ≤ 9223372036854775807) (h4 : ns ≤ 9223372036854775807) (hbig : 300 < n ∨ 300 < nb ∨ 100 < nz ∨ 3000 < ns) :
    Calls Try.prog 9 #[.slice A n c, .slice B nb cb, .slice Z nz cz, .int .i64 k, .int .i64 v, .agg #[.int .i64 s, .int .i64 al, .slice As ns cs, x3, x4, x5, x6, x7]] w fun e w' => e = .returned (.bool true) ∧ Below w.heap.size w w' := by
  have hb0 := (Below.refl w.heap.size w).alloc (Nat.le_refl _) (.cells #[.int .i64 s, .int .i64 al, .slice As ns cs, x3, x4, x5, x6, x7] 31)
  by_cases g1 : 300 < n
  · have d1 : decide ((300 : Int) < n) = true := by simp; omega
    clear hbig
    go_enter Try.func9, Try.ntmps9
    go_wp2_with fail
    refine (awake15 _).mono ?_
    rintro e w1 ⟨rfl, hb⟩
    go_wp2
    go_ret
    exact ⟨rfl, below_next hb0 hb⟩
  have d1 : decide ((300 : Int) < n) = false := by simp; omega
  by_cases g2 : 300 < nb
  · have d2 : decide ((300 : Int) < nb) = true := by simp; omega
    clear hbig
    go_enter Try.func9, Try.ntmps9
    go_wp2_with fail
    refine (awake15 _).mono ?_
    rintro e w1 ⟨rfl, hb⟩
    go_wp2
    go_ret
    exact ⟨rfl, below_next hb0 hb⟩
  have d2 : decide ((300 : Int) < nb) = false := by simp; omega
  by_cases g3 : 100 < nz
  · have d3 : decide ((100 : Int) < nz) = true := by simp; omega
    clear hbig
    go_enter Try.func9, Try.ntmps9
    go_wp2_with fail
    refine (awake15 _).mono ?_
    rintro e w1 ⟨rfl, hb⟩
    go_wp2
    go_ret
    exact ⟨rfl, below_next hb0 hb⟩
  have d3 : decide ((100 : Int) < nz) = false := by simp; omega
  have d4 : decide ((3000 : Int) < ns) = true := by simp; omega
  clear hbig
  go_enter Try.func9, Try.ntmps9
  go_wp2_with fail
  refine (awake15 _).mono ?_
  rintro e w1 ⟨rfl, hb⟩
  go_wp2
  go_ret
  exact ⟨rfl, below_next hb0 hb⟩

theorem IB_set {l : List Int} (h : IB l) (i : Nat) (v : Int) (hv : -9223372036854775808 ≤ v ∧ v ≤ 9223372036854775807) : IB (l.set i v) := by
  intro y hy
  rcases List.mem_or_eq_of_mem_set hy with h1 | h1
  · exact h y h1
  · rw [h1]; exact hv

theorem eight_of {W : World} {g : Nat} {a0 a1 a2 a3 a4 a5 a6 a7 : Value} (h : ∀ j, W.cell? ⟨g, j, none⟩ = (#[a0, a1, a2, a3, a4, a5, a6, a7] : Array Value)[j]?) :
    W.cell? ⟨g, 0, none⟩ = some a0 ∧ W.cell? ⟨g, 1, none⟩ = some a1 ∧ W.cell? ⟨g, 2, none⟩ = some a2 ∧ W.cell? ⟨g, 3, none⟩ = some a3 ∧ W.cell? ⟨g, 4, none⟩ = some a4 ∧ W.cell? ⟨g, 5, none⟩ = some a5 ∧ W.cell? ⟨g, 6, none⟩ = some a6 ∧ W.cell? ⟨g, 7, none⟩ = some a7 :=
  ⟨h 0, h 1, h 2, h 3, h 4, h 5, h 6, h 7⟩
/-- A call's slice, once it has run. -/
def Outs (D : Nat → Bool) (x : Nat → Value) (W : World) (i n : Nat) (M : List UInt8) : Prop := D i = true → ∃ A c, x i = .slice A n c ∧ n ≤ c ∧ Sl W A (M.map bv)
theorem Outs.below {D : Nat → Bool} {x : Nat → Value} {W W' : World} {i n : Nat} {M : List UInt8} (h : Outs D x W i n M) (hb : Below W.heap.size W W') : Outs D x W' i n M := fun hd => by
  obtain ⟨A, c, h1, h2, h3⟩ := h hd
  exact ⟨A, c, h1, h2, h3.below hb⟩
theorem Outs.ins {D : Nat → Bool} {x : Nat → Value} {W : World} {i n : Nat} {M : List UInt8} (h : Outs D x W i n M) (j : Nat) (u : Value) (hj : j ≠ i) : Outs (fun k => if k = j then true else D k) (fun k => if k = j then u else x k) W i n M := fun hd => by
  have e : ¬ i = j := fun e => hj e.symm
  simp only [e, if_false] at hd ⊢
  exact h hd
theorem Outs.put {D : Nat → Bool} {x : Nat → Value} {W : World} {i n : Nat} {M : List UInt8} {A : Option Addr} {c : Nat} (hc : n ≤ c) (h : Sl W A (M.map bv)) : Outs (fun k => if k = i then true else D k) (fun k => if k = i then .slice A n c else x k) W i n M := fun _ => ⟨A, c, if_pos rfl, hc, h⟩
theorem Outs.none {x : Nat → Value} {W : World} {i n : Nat} {M : List UInt8} : Outs (fun _ => false) x W i n M := fun h => by cases h
/-- A call's plain value, once it has run. -/
def Vals (D : Nat → Bool) (x : Nat → Value) (i : Nat) (v : Value) : Prop := D i = true → x i = v
theorem Vals.ins {D : Nat → Bool} {x : Nat → Value} {i : Nat} {v : Value} (h : Vals D x i v) (j : Nat) (u : Value) (hj : j ≠ i) : Vals (fun k => if k = j then true else D k) (fun k => if k = j then u else x k) i v := fun hd => by
  have e : ¬ i = j := fun e => hj e.symm
  simp only [e, if_false] at hd ⊢
  exact h hd
theorem Vals.put {D : Nat → Bool} {x : Nat → Value} {i : Nat} {v : Value} : Vals (fun k => if k = i then true else D k) (fun k => if k = i then v else x k) i v := fun _ => if_pos rfl
theorem Vals.none {x : Nat → Value} {i : Nat} {v : Value} : Vals (fun _ => false) x i v := fun h => by cases h

set_option maxHeartbeats 6400000 in
set_option maxRecDepth 100000 in
theorem maskLooks_main (A : Option Addr) (n c : Nat) (la : List UInt8) (B : Option Addr) (nb cb : Nat) (b : List UInt8) (Z : Option Addr) (nz cz : Nat) (l : List Int) (k v s al : Int) (As : Option Addr) (ns cs : Nat) (x3 x4 x5 x6 x7 : Value) (w : World)
    (hn : la.length = n) (hs : Sl w A (la.map bv)) (hc : n ≤ c) (hnb : b.length = nb) (hsb : Sl w B (b.map bv)) (hcb : nb ≤ cb) (hnz : l.length = nz) (hz : Sl w Z (l.map iv)) (hcz : nz ≤ cz) (hib : IB l)
    (hk0 : -9223372036854775808 ≤ k) (hk1 : k ≤ 9223372036854775807) (hv0 : -9223372036854775808 ≤ v) (hv1 : v ≤ 9223372036854775807)
    (h1 : n ≤ 300) (h2 : nb ≤ 300) (h3 : nz ≤ 100) (h4 : ns ≤ 3000) :
    Calls Try.prog 9 #[.slice A n c, .slice B nb cb, .slice Z nz cz, .int .i64 k, .int .i64 v, .agg #[.int .i64 s, .int .i64 al, .slice As ns cs, x3, x4, x5, x6, x7]] w fun e w' => e = .returned (.bool true) ∧ Below w.heap.size w w' := by
  have hb0 := (Below.refl w.heap.size w).alloc (Nat.le_refl _) (.cells #[.int .i64 s, .int .i64 al, .slice As ns cs, x3, x4, x5, x6, x7] 31)
  have d1 : decide ((300 : Int) < n) = false := by simp; omega
  have d2 : decide ((300 : Int) < nb) = false := by simp; omega
  have d3 : decide ((100 : Int) < nz) = false := by simp; omega
  have d4 : decide ((3000 : Int) < ns) = false := by simp; omega
  have HN := Lib.hid hn
  have HNB := Lib.hid hnb
  have HNZ := Lib.hid hnz
  clear hn hnb hnz
  obtain ⟨W0, hW0⟩ : ∃ W0, W0 = w.alloc (.cells #[.int .i64 s, .int .i64 al, .slice As ns cs, x3, x4, x5, x6, x7] 31) := ⟨_, rfl⟩
  have hnil : W0.ownsRow W0.heap.size 3 1 (.slice none 0 0) 0 [] := World.ownsRow_nil _ _ _ _
  rw [← hW0] at hb0
  have hzW : Sl W0 Z (l.map iv) := hz.below hb0
  have hsW : Sl W0 A (la.map bv) := hs.below hb0
  have hsbW : Sl W0 B (b.map bv) := hsb.below hb0
  have hzW2 : Sl W0 Z (l.map iv) := hz.below hb0
  have hsz0 : W0.heap.size = w.heap.size + 1 := by rw [hW0]; simp
  have hcell : ∀ j, W0.cell? ⟨w.heap.size, j, none⟩ = (#[.int .i64 s, .int .i64 al, .slice As ns cs, x3, x4, x5, x6, x7] : Array Value)[j]? := by
    intro j
    rw [hW0]
    exact cell_of_row _ _ _ _ _ _ (heap_alloc_new _ _)
  obtain ⟨A1, c1, w1, hr1, own1, hg1⟩ := run_appendS (P := Try.prog) W0.heap.size 23 23 3 _ 1 8 Try.underlying23 el3 none 0 0 [] hnil Z nz cz (l.map iv) hzW (by rw [List.length_map, HNZ.out]; omega) (oneCell_iv l) (by simp only [maxLen]; omega) (by omega) (Nat.le_refl _)
  rw [Nat.zero_add, List.nil_append] at own1
  rw [Nat.zero_add] at hr1
  have hb1 : Below W0.heap.size W0 w1 := (Below.refl _ _).grown hg1 (Nat.le_refl _) (fun k hk => by cases hk)
  rw [hW0] at hr1
  have HCELL := Lib.hid hcell
  have HSZ := Lib.hid hsz0
  clear hg1 hzW hnil hsz0 hW0 hcell hs hsb hz
  go_enter Try.func9, Try.ntmps9
  go_wp2_with fail
  go_loopw [14, 46] (fun _ v46 wr => ∃ (ni : Nat) (xs : List Int), ni ≤ nz ∧ v46 = .int .i64 ni ∧ xs.length = nz ∧ IB xs ∧ wr.ownsRow W0.heap.size 3 1 (.slice A1 nz c1) nz (xs.map iv) ∧ Below W0.heap.size W0 wr) (fun _ v46 _ => nz - (intOf v46).toNat)
  case atStart => exact ⟨0, l, by omega, rfl, HNZ.out, hib, own1, hb1⟩
  case round =>
    obtain ⟨ni, xs, hi, rfl, hxl, hxb, own, hb⟩ := hrel
    clear own1 hb1 hr1
    have HXL := Lib.hid hxl
    have hszr := hb.size
    by_cases hlt : ni < nz
    · have hix : ni < xs.length := by omega
      clear hxl
      obtain ⟨g, rfl, hbg, hgl⟩ := own_addr own (by omega)
      have hco : wr.cell? ⟨g, ni, none⟩ = some (.int .i64 xs[ni]) := by
        rw [own.cellAt ni (by omega), List.getElem?_map, List.getElem?_eq_getElem hix]; rfl
      have hfz := own.frozenAt ni
      have hxi := hxb xs[ni] (List.getElem_mem hix)
      have hx0 := hxi.1
      have hx1 := hxi.2
      have HXB := Lib.hid hxb
      have OWN := Lib.hid own
      clear hxi hxb own
      generalize xs[ni] = x at hco hx0 hx1
      cases h3 : (x.tmod 3 != 0) with
      | false =>
        go_wp2
        go_roundw
        case rel => exact ⟨ni + 1, xs, by omega, by go_num, HXL.out, HXB.out, OWN.out, hb⟩
        case measure => simp [intOf]; omega
      | true =>
        by_cases hn0 : n = 0
        · have hd : decide ((0 : Int) < n) = false := by simp; omega
          go_wp2
          go_roundw
          case rel => exact ⟨ni + 1, xs, by omega, by go_num, HXL.out, HXB.out, OWN.out, hb⟩
          case measure => simp [intOf]; omega
        · have hd : decide ((0 : Int) < n) = true := by simp; omega
          have hM0 : 0 < 8 * (n : Int) := by omega
          have hM1 : ((8 * (n : Int)) == 0) = false := by simp; omega
          have t1 := Int.lt_tmod_of_pos x hM0
          have t2 := Int.tmod_lt_of_pos x hM0
          go_wp2
          go_roundw
          case rel => exact ⟨ni + 1, xs.set ni (x.tmod (8 * (n : Int)) % (8 * (n : Int))), by omega, by go_num, by rw [List.length_set, HXL.out], IB_set HXB.out _ _ (by have := Int.emod_nonneg (x.tmod (8 * (n : Int))) (show 8 * (n : Int) ≠ 0 by omega); have := Int.emod_lt_of_pos (x.tmod (8 * (n : Int))) hM0; omega), by rw [List.map_set]; exact (OWN.out.stored ni _).1, hb.setCell hbg _⟩
          case measure => simp [intOf]; omega
    · obtain rfl : ni = nz := by omega
      have hnr := Sl.of_own own
      have capn := own_cap own
      have hsr := hsW.below hb
      have hsbr := hsbW.below hb
      clear own
      have hzr := hzW2.below hb
      have hcr : ∀ j, wr.cell? ⟨w.heap.size, j, none⟩ = (#[.int .i64 s, .int .i64 al, .slice As ns cs, x3, x4, x5, x6, x7] : Array Value)[j]? := fun j => (hb.cell (p := ⟨w.heap.size, j, none⟩) (show w.heap.size < W0.heap.size by rw [HSZ.out]; omega)).trans (HCELL.out j)
      have HCR := Lib.hid hcr
      clear hcr
      go_wp2_with fail
      refine (bits_any _ _ _ la _ _ HN.out hsr (by omega)).mono ?_
      rintro e w2 ⟨A2, c2, rfl, own2, hb2⟩
      go_wp2_with fail
      refine (rbits_any _ _ _ la _ _ HN.out (hsr.below hb2) (by omega)).mono ?_
      rintro e w3 ⟨A3, c3, rfl, own3, hb3⟩
      obtain ⟨bl, hbl⟩ : ∃ bl, bl = bitsI la (k.tmod 40) := ⟨_, rfl⟩
      rw [← hbl] at own2 own3 ⊢
      have hbll : bl.length ≤ 2400 := by
        rw [hbl]
        have h1 := bitsI_le la (k.tmod 40)
        have h2 := countB_le la
        rw [HN.out] at h2
        omega
      generalize bitsOk la (k.tmod 40) = ok
      have hb23 := below_next hb2 hb3
      have hA2 := (Sl.of_own own2).below hb3
      have hA3 := Sl.of_own own3
      clear own2 own3 hbl
      obtain ⟨W4, hW4⟩ : ∃ W4, W4 = w3.alloc (.cells #[.slice Z ni cz, .slice A1 ni c1] 23) := ⟨_, rfl⟩
      have hb34 := (Below.refl w3.heap.size w3).alloc (Nat.le_refl _) (.cells #[.slice Z ni cz, .slice A1 ni c1] 23)
      rw [← hW4] at hb34
      have hbr4 := below_next hb23 hb34
      have q1 := hsr.below hbr4
      have q2 := hsbr.below hbr4
      have q3 := hzr.below hbr4
      have q4 := hnr.below hbr4
      have q5 := hA2.below hb34
      have q6 := hA3.below hb34
      have hpair : ∀ j, W4.cell? ⟨w3.heap.size, j, none⟩ = (#[.slice Z ni cz, .slice A1 ni c1] : Array Value)[j]? := by
        intro j; rw [hW4]; exact cell_of_row _ _ _ _ _ _ (heap_alloc_new _ _)
      have hsz4 : W4.heap.size = w3.heap.size + 1 := by rw [hW4]; simp
      have hbx : ∀ j, W4.cell? ⟨w.heap.size, j, none⟩ = (#[.int .i64 s, .int .i64 al, .slice As ns cs, x3, x4, x5, x6, x7] : Array Value)[j]? := fun j => (hbr4.cell (p := ⟨w.heap.size, j, none⟩) (by have := hszr; rw [HSZ.out] at this; show w.heap.size < _; omega)).trans (HCR.out j)
      have hb44 := Below.refl W4.heap.size W4
      have hwW4 : Below w.heap.size w W4 := ((hb0.trans (hb.mono (by rw [HSZ.out]; omega))).trans (hbr4.mono (by have := hszr; rw [HSZ.out] at this; omega)))
      have HW4 := Lib.hid hwW4
      have HPAIR := Lib.hid hpair
      have HBX := Lib.hid hbx
      have HSZ4 := Lib.hid hsz4
      have HB34 := Lib.hid hb34
      clear hwW4 hpair hbx hsz4 hb34 hbr4 hb23 hb2 hb3 hsr hsbr hzr hnr hA2 hA3 hb hi
      have u5 : Try.prog.underlying 5 = some (.int .u8) := Try.underlying5
      have u9 : Try.prog.underlying 9 = some .string := Try.underlying9
      have hwalk : ∀ P : World → Prop, P (w3.alloc (.cells #[.slice Z ni cz, .slice A1 ni c1] 23)) ↔ P W4 := fun P => by rw [hW4]
      go_wp2_with fail
      clear hwalk hW4
      go_loopw [12, 21, 100] (fun _ _ v100 wr => ∃ j : Nat, j ≤ 2 ∧ v100 = .int .i64 j ∧ Below W4.heap.size W4 wr) (fun _ _ v100 _ => 2 - (intOf v100).toNat)
      case atStart => exact ⟨0, by omega, rfl, hb44⟩
      case round =>
        obtain ⟨j, hj, rfl, hb⟩ := hrel
        obtain ⟨wo, hwo⟩ : ∃ wo : World, wo = wr := ⟨_, rfl⟩
        have hsr : Sl wr.drew A (la.map bv) := q1.below hb.drew
        by_cases hlt : j < 2
        · have gen : ∃ (Zs : Option Addr) (css : Nat) (ls : List Int), wr.cell? ⟨w3.heap.size, j, none⟩ = some (.slice Zs ni css) ∧ Sl wr.drew Zs (ls.map iv) ∧ ls.length = ni ∧ IB ls ∧ ni ≤ css := by
            have hcj : wr.cell? ⟨w3.heap.size, j, none⟩ = (#[.slice Z ni cz, .slice A1 ni c1] : Array Value)[j]? := (hb.cell (p := ⟨w3.heap.size, j, none⟩) (show w3.heap.size < W4.heap.size by rw [HSZ4.out]; omega)).trans (HPAIR.out j)
            rcases j with _ | _ | j
            · exact ⟨Z, cz, l, hcj, q3.below hb.drew, HNZ.out, hib, hcz⟩
            · exact ⟨A1, c1, xs, hcj, q4.below hb.drew, HXL.out, hxb, capn⟩
            · omega
          obtain ⟨Zs, css, ls, hcs, hls, hll, hlb, hlc⟩ := gen
          have HLL := Lib.hid hll
          have HLB := Lib.hid hlb
          have hcll : (clearB la ls).length = n := by rw [clearB_length]; exact HN.out
          have hpl : (putB la ls v 0).length = n := by rw [putB_length]; exact HN.out
          have HCLL := Lib.hid hcll
          have HPL := Lib.hid hpl
          clear hll hlb hcll hpl
          have hself : ((getB la ls 0 : Int) != getB la ls 0) = false := by simp
          go_wp2_with fail
          have HSR := Lib.hid (q1.below hb)
          have HLS := Lib.hid (show Sl wr Zs (ls.map iv) from hls)
          have HBQ := Lib.hid hb
          clear hsr hls hb
          refine gen_act fun a0 ha0 => ?_
          have z0 : a0.eval (.tmp 0) = .slice A n c := by rw [ha0]; rfl
          have z21 : a0.eval (.tmp 21) = .slice Zs ni css := by rw [ha0]; rfl
          have z4 : a0.eval (.tmp 4) = .int .i64 v := by rw [ha0]; rfl
          have zs : a0.tmps.size = 207 := by rw [ha0]; rfl
          have HA0 := Lib.hid ha0
          clear ha0
          refine wp_region_kn (by kernel_rfl) (ord_of' (by kernel_rfl)) (dst_of (by kernel_rfl)) (size_of' (n := 207) (by kernel_rfl) zs) [some (.slice A n c), some (.slice Zs ni css), none, some (.string ⟨(clearB la ls).toArray⟩), some (.slice A n c), some (.slice Zs ni css), none, some (.string ⟨(clearB la ls).toArray⟩), some (.bool false), some (.bool false), some (.slice A n c), some (.slice Zs ni css), some (.int .i64 v), none, some (.string ⟨(putB la ls v 0).toArray⟩), some (.slice A n c), some (.slice Zs ni css), some (.int .i64 v), none, some (.string ⟨(putB la ls v 0).toArray⟩), some (.bool false), some (.bool false), some (.bool false), some (.slice A n c), some (.slice Zs ni css), none, some (.slice A n c), some (.slice Zs ni css), none, some (.bool false), some (.bool false)] ?_ (fun D x W => Below wr.heap.size wr W ∧ Outs D x W 2 (n) (clearB la ls) ∧ Outs D x W 6 (n) (clearB la ls) ∧ Outs D x W 13 (n) (putB la ls v 0) ∧ Outs D x W 18 (n) (putB la ls v 0) ∧ Vals D x 25 (.int .i64 (getB la ls 0 : Nat)) ∧ Vals D x 28 (.int .i64 (getB la ls 0 : Nat))) ⟨Below.drew (Below.refl _ _), Outs.none, Outs.none, Outs.none, Outs.none, Vals.none, Vals.none⟩ ?_ ?_ ?_ ?_
          · intro i o g bl ho hg
            have hi : i < 31 := (Array.getElem?_eq_some_iff.1 ho).1
            rcases (show i = 0 ∨ i = 1 ∨ i = 2 ∨ i = 3 ∨ i = 4 ∨ i = 5 ∨ i = 6 ∨ i = 7 ∨ i = 8 ∨ i = 9 ∨ i = 10 ∨ i = 11 ∨ i = 12 ∨ i = 13 ∨ i = 14 ∨ i = 15 ∨ i = 16 ∨ i = 17 ∨ i = 18 ∨ i = 19 ∨ i = 20 ∨ i = 21 ∨ i = 22 ∨ i = 23 ∨ i = 24 ∨ i = 25 ∨ i = 26 ∨ i = 27 ∨ i = 28 ∨ i = 29 ∨ i = 30 by omega) with rfl | rfl | rfl | rfl | rfl | rfl | rfl | rfl | rfl | rfl | rfl | rfl | rfl | rfl | rfl | rfl | rfl | rfl | rfl | rfl | rfl | rfl | rfl | rfl | rfl | rfl | rfl | rfl | rfl | rfl | rfl
            · simp only [List.getElem?_toArray, List.getElem?_cons_zero, Option.some.injEq] at ho
              subst ho
              cases hg
            · simp only [List.getElem?_toArray, List.getElem?_cons_zero, List.getElem?_cons_succ, Option.some.injEq] at ho
              subst ho
              cases hg
            · simp only [List.getElem?_toArray, List.getElem?_cons_zero, List.getElem?_cons_succ, Option.some.injEq] at ho
              subst ho
              cases hg
            · simp only [List.getElem?_toArray, List.getElem?_cons_zero, List.getElem?_cons_succ, Option.some.injEq] at ho
              subst ho
              cases hg
            · simp only [List.getElem?_toArray, List.getElem?_cons_zero, List.getElem?_cons_succ, Option.some.injEq] at ho
              subst ho
              cases hg
            · simp only [List.getElem?_toArray, List.getElem?_cons_zero, List.getElem?_cons_succ, Option.some.injEq] at ho
              subst ho
              cases hg
            · simp only [List.getElem?_toArray, List.getElem?_cons_zero, List.getElem?_cons_succ, Option.some.injEq] at ho
              subst ho
              cases hg
            · simp only [List.getElem?_toArray, List.getElem?_cons_zero, List.getElem?_cons_succ, Option.some.injEq] at ho
              subst ho
              cases hg
            · simp only [List.getElem?_toArray, List.getElem?_cons_zero, List.getElem?_cons_succ, Option.some.injEq] at ho
              subst ho
              cases hg
            · simp only [List.getElem?_toArray, List.getElem?_cons_zero, List.getElem?_cons_succ, Option.some.injEq] at ho
              subst ho
              cases hg
            · simp only [List.getElem?_toArray, List.getElem?_cons_zero, List.getElem?_cons_succ, Option.some.injEq] at ho
              subst ho
              obtain ⟨rfl, rfl⟩ : 9 = g ∧ false = bl := by simpa using hg
              exact ⟨false, _, _, rfl, rfl, rfl, ⟨{ on := 9, ground := .guard }, by simp, rfl, rfl⟩, fun h => by first | exact absurd rfl h | rfl⟩
            · simp only [List.getElem?_toArray, List.getElem?_cons_zero, List.getElem?_cons_succ, Option.some.injEq] at ho
              subst ho
              obtain ⟨rfl, rfl⟩ : 9 = g ∧ false = bl := by simpa using hg
              exact ⟨false, _, _, rfl, rfl, rfl, ⟨{ on := 9, ground := .guard }, by simp, rfl, rfl⟩, fun h => by first | exact absurd rfl h | rfl⟩
            · simp only [List.getElem?_toArray, List.getElem?_cons_zero, List.getElem?_cons_succ, Option.some.injEq] at ho
              subst ho
              obtain ⟨rfl, rfl⟩ : 9 = g ∧ false = bl := by simpa using hg
              exact ⟨false, _, _, rfl, rfl, rfl, ⟨{ on := 9, ground := .guard }, by simp, rfl, rfl⟩, fun h => by first | exact absurd rfl h | rfl⟩
            · simp only [List.getElem?_toArray, List.getElem?_cons_zero, List.getElem?_cons_succ, Option.some.injEq] at ho
              subst ho
              obtain ⟨rfl, rfl⟩ : 9 = g ∧ false = bl := by simpa using hg
              exact ⟨false, _, _, rfl, rfl, rfl, ⟨{ on := 9, ground := .guard }, by simp, rfl, rfl⟩, fun h => by first | exact absurd rfl h | rfl⟩
            · simp only [List.getElem?_toArray, List.getElem?_cons_zero, List.getElem?_cons_succ, Option.some.injEq] at ho
              subst ho
              obtain ⟨rfl, rfl⟩ : 9 = g ∧ false = bl := by simpa using hg
              exact ⟨false, _, _, rfl, rfl, rfl, ⟨{ on := 9, ground := .guard }, by simp, rfl, rfl⟩, fun h => by first | exact absurd rfl h | rfl⟩
            · simp only [List.getElem?_toArray, List.getElem?_cons_zero, List.getElem?_cons_succ, Option.some.injEq] at ho
              subst ho
              obtain ⟨rfl, rfl⟩ : 9 = g ∧ false = bl := by simpa using hg
              exact ⟨false, _, _, rfl, rfl, rfl, ⟨{ on := 9, ground := .guard }, by simp, rfl, rfl⟩, fun h => by first | exact absurd rfl h | rfl⟩
            · simp only [List.getElem?_toArray, List.getElem?_cons_zero, List.getElem?_cons_succ, Option.some.injEq] at ho
              subst ho
              obtain ⟨rfl, rfl⟩ : 9 = g ∧ false = bl := by simpa using hg
              exact ⟨false, _, _, rfl, rfl, rfl, ⟨{ on := 9, ground := .guard }, by simp, rfl, rfl⟩, fun h => by first | exact absurd rfl h | rfl⟩
            · simp only [List.getElem?_toArray, List.getElem?_cons_zero, List.getElem?_cons_succ, Option.some.injEq] at ho
              subst ho
              obtain ⟨rfl, rfl⟩ : 9 = g ∧ false = bl := by simpa using hg
              exact ⟨false, _, _, rfl, rfl, rfl, ⟨{ on := 9, ground := .guard }, by simp, rfl, rfl⟩, fun h => by first | exact absurd rfl h | rfl⟩
            · simp only [List.getElem?_toArray, List.getElem?_cons_zero, List.getElem?_cons_succ, Option.some.injEq] at ho
              subst ho
              obtain ⟨rfl, rfl⟩ : 9 = g ∧ false = bl := by simpa using hg
              exact ⟨false, _, _, rfl, rfl, rfl, ⟨{ on := 9, ground := .guard }, by simp, rfl, rfl⟩, fun h => by first | exact absurd rfl h | rfl⟩
            · simp only [List.getElem?_toArray, List.getElem?_cons_zero, List.getElem?_cons_succ, Option.some.injEq] at ho
              subst ho
              obtain ⟨rfl, rfl⟩ : 9 = g ∧ false = bl := by simpa using hg
              exact ⟨false, _, _, rfl, rfl, rfl, ⟨{ on := 9, ground := .guard }, by simp, rfl, rfl⟩, fun h => by first | exact absurd rfl h | rfl⟩
            · simp only [List.getElem?_toArray, List.getElem?_cons_zero, List.getElem?_cons_succ, Option.some.injEq] at ho
              subst ho
              obtain ⟨rfl, rfl⟩ : 9 = g ∧ false = bl := by simpa using hg
              exact ⟨false, _, _, rfl, rfl, rfl, ⟨{ on := 9, ground := .guard }, by simp, rfl, rfl⟩, fun h => by first | exact absurd rfl h | rfl⟩
            · simp only [List.getElem?_toArray, List.getElem?_cons_zero, List.getElem?_cons_succ, Option.some.injEq] at ho
              subst ho
              cases hg
            · simp only [List.getElem?_toArray, List.getElem?_cons_zero, List.getElem?_cons_succ, Option.some.injEq] at ho
              subst ho
              cases hg
            · simp only [List.getElem?_toArray, List.getElem?_cons_zero, List.getElem?_cons_succ, Option.some.injEq] at ho
              subst ho
              obtain ⟨rfl, rfl⟩ : 22 = g ∧ false = bl := by simpa using hg
              exact ⟨false, _, _, rfl, rfl, rfl, ⟨{ on := 22, ground := .guard }, by simp, rfl, rfl⟩, fun h => by first | exact absurd rfl h | rfl⟩
            · simp only [List.getElem?_toArray, List.getElem?_cons_zero, List.getElem?_cons_succ, Option.some.injEq] at ho
              subst ho
              obtain ⟨rfl, rfl⟩ : 22 = g ∧ false = bl := by simpa using hg
              exact ⟨false, _, _, rfl, rfl, rfl, ⟨{ on := 22, ground := .guard }, by simp, rfl, rfl⟩, fun h => by first | exact absurd rfl h | rfl⟩
            · simp only [List.getElem?_toArray, List.getElem?_cons_zero, List.getElem?_cons_succ, Option.some.injEq] at ho
              subst ho
              obtain ⟨rfl, rfl⟩ : 22 = g ∧ false = bl := by simpa using hg
              exact ⟨false, _, _, rfl, rfl, rfl, ⟨{ on := 22, ground := .guard }, by simp, rfl, rfl⟩, fun h => by first | exact absurd rfl h | rfl⟩
            · simp only [List.getElem?_toArray, List.getElem?_cons_zero, List.getElem?_cons_succ, Option.some.injEq] at ho
              subst ho
              obtain ⟨rfl, rfl⟩ : 22 = g ∧ false = bl := by simpa using hg
              exact ⟨false, _, _, rfl, rfl, rfl, ⟨{ on := 22, ground := .guard }, by simp, rfl, rfl⟩, fun h => by first | exact absurd rfl h | rfl⟩
            · simp only [List.getElem?_toArray, List.getElem?_cons_zero, List.getElem?_cons_succ, Option.some.injEq] at ho
              subst ho
              obtain ⟨rfl, rfl⟩ : 22 = g ∧ false = bl := by simpa using hg
              exact ⟨false, _, _, rfl, rfl, rfl, ⟨{ on := 22, ground := .guard }, by simp, rfl, rfl⟩, fun h => by first | exact absurd rfl h | rfl⟩
            · simp only [List.getElem?_toArray, List.getElem?_cons_zero, List.getElem?_cons_succ, Option.some.injEq] at ho
              subst ho
              obtain ⟨rfl, rfl⟩ : 22 = g ∧ false = bl := by simpa using hg
              exact ⟨false, _, _, rfl, rfl, rfl, ⟨{ on := 22, ground := .guard }, by simp, rfl, rfl⟩, fun h => by first | exact absurd rfl h | rfl⟩
            · simp only [List.getElem?_toArray, List.getElem?_cons_zero, List.getElem?_cons_succ, Option.some.injEq] at ho
              subst ho
              obtain ⟨rfl, rfl⟩ : 22 = g ∧ false = bl := by simpa using hg
              exact ⟨false, _, _, rfl, rfl, rfl, ⟨{ on := 22, ground := .guard }, by simp, rfl, rfl⟩, fun h => by first | exact absurd rfl h | rfl⟩
            · simp only [List.getElem?_toArray, List.getElem?_cons_zero, List.getElem?_cons_succ, Option.some.injEq] at ho
              subst ho
              cases hg
          · intro i u D x wv hl hD hI
            have hi : i < 31 := by have h := (List.getElem?_eq_some_iff.1 hl).1; simpa using h
            have hnh : i ≠ 2 ∧ i ≠ 6 ∧ i ≠ 13 ∧ i ≠ 18 ∧ i ≠ 25 ∧ i ≠ 28 := by
              refine ⟨?_, ?_, ?_, ?_, ?_, ?_⟩ <;> (rintro rfl; simp at hl)
            exact ⟨hI.1, hI.2.1.ins i u hnh.1, hI.2.2.1.ins i u hnh.2.1, hI.2.2.2.1.ins i u hnh.2.2.1, hI.2.2.2.2.1.ins i u hnh.2.2.2.1, hI.2.2.2.2.2.1.ins i u hnh.2.2.2.2.1, hI.2.2.2.2.2.2.ins i u hnh.2.2.2.2.2⟩
          · intro D x a wv i o u ho hl hD hdep hcl hF hKn hI hwant K hk
            have hi : i < 31 := (Array.getElem?_eq_some_iff.1 ho).1
            rcases (show i = 0 ∨ i = 1 ∨ i = 2 ∨ i = 3 ∨ i = 4 ∨ i = 5 ∨ i = 6 ∨ i = 7 ∨ i = 8 ∨ i = 9 ∨ i = 10 ∨ i = 11 ∨ i = 12 ∨ i = 13 ∨ i = 14 ∨ i = 15 ∨ i = 16 ∨ i = 17 ∨ i = 18 ∨ i = 19 ∨ i = 20 ∨ i = 21 ∨ i = 22 ∨ i = 23 ∨ i = 24 ∨ i = 25 ∨ i = 26 ∨ i = 27 ∨ i = 28 ∨ i = 29 ∨ i = 30 by omega) with rfl | rfl | rfl | rfl | rfl | rfl | rfl | rfl | rfl | rfl | rfl | rfl | rfl | rfl | rfl | rfl | rfl | rfl | rfl | rfl | rfl | rfl | rfl | rfl | rfl | rfl | rfl | rfl | rfl | rfl | rfl
            · simp only [List.getElem?_toArray, List.getElem?_cons_zero, Option.some.injEq] at ho
              subst ho
              obtain rfl : .slice A n c = u := by simpa using hl
              have e0 := hF.ev0 (by kernel_rfl) z0
              clear hF hcl hKn hl hwant
              go_simp
              exact hk
            · simp only [List.getElem?_toArray, List.getElem?_cons_zero, List.getElem?_cons_succ, Option.some.injEq] at ho
              subst ho
              obtain rfl : .slice Zs ni css = u := by simpa using hl
              have e21 := hF.ev0 (by kernel_rfl) z21
              clear hF hcl hKn hl hwant
              go_simp
              exact hk
            · simp at hl
            · simp only [List.getElem?_toArray, List.getElem?_cons_zero, List.getElem?_cons_succ, Option.some.injEq] at ho
              subst ho
              simp [Region.binds] at hdep
              obtain rfl : .string ⟨(clearB la ls).toArray⟩ = u := by simpa using hl
              obtain ⟨Aq, cq, hxq, hcq, hsq⟩ := hI.2.1 (by simp [hdep])
              have e106 := hF.ev 2 rfl rfl (by simp [hdep]) hxq
              have cv := run_convb (P := Try.prog) wv 27 9 5 Aq (n) cq (clearB la ls) Try.underlying27 Try.underlying5 Try.underlying9 hsq HCLL.out
              clear hF hcl hKn hl hwant
              go_simp
              exact hk
            · simp only [List.getElem?_toArray, List.getElem?_cons_zero, List.getElem?_cons_succ, Option.some.injEq] at ho
              subst ho
              obtain rfl : .slice A n c = u := by simpa using hl
              have e0 := hF.ev0 (by kernel_rfl) z0
              clear hF hcl hKn hl hwant
              go_simp
              exact hk
            · simp only [List.getElem?_toArray, List.getElem?_cons_zero, List.getElem?_cons_succ, Option.some.injEq] at ho
              subst ho
              obtain rfl : .slice Zs ni css = u := by simpa using hl
              have e21 := hF.ev0 (by kernel_rfl) z21
              clear hF hcl hKn hl hwant
              go_simp
              exact hk
            · simp at hl
            · simp only [List.getElem?_toArray, List.getElem?_cons_zero, List.getElem?_cons_succ, Option.some.injEq] at ho
              subst ho
              simp [Region.binds] at hdep
              obtain rfl : .string ⟨(clearB la ls).toArray⟩ = u := by simpa using hl
              obtain ⟨Aq, cq, hxq, hcq, hsq⟩ := hI.2.2.1 (by simp [hdep])
              have e110 := hF.ev 6 rfl rfl (by simp [hdep]) hxq
              have cv := run_convb (P := Try.prog) wv 27 9 5 Aq (n) cq (clearB la ls) Try.underlying27 Try.underlying5 Try.underlying9 hsq HCLL.out
              clear hF hcl hKn hl hwant
              go_simp
              exact hk
            · simp only [List.getElem?_toArray, List.getElem?_cons_zero, List.getElem?_cons_succ, Option.some.injEq] at ho
              subst ho
              simp [Region.binds] at hdep
              obtain rfl : .bool false = u := by simpa using hl
              have e107 := hKn.ev hF 3 rfl rfl rfl (by simp [hdep])
              have e111 := hKn.ev hF 7 rfl rfl rfl (by simp [hdep])
              clear hF hcl hKn hl hwant
              go_simp
              exact hk
            · simp only [List.getElem?_toArray, List.getElem?_cons_zero, List.getElem?_cons_succ, Option.some.injEq] at ho
              subst ho
              simp [Region.binds] at hdep
              obtain rfl : .bool false = u := by simpa using hl
              have e112 := hKn.ev hF 8 rfl rfl rfl (by simp [hdep])
              clear hF hcl hKn hl hwant
              go_simp
              exact hk
            · simp only [List.getElem?_toArray, List.getElem?_cons_zero, List.getElem?_cons_succ, Option.some.injEq] at ho
              subst ho
              simp [Region.binds] at hdep
              obtain rfl : .slice A n c = u := by simpa using hl
              have e0 := hF.ev0 (by kernel_rfl) z0
              clear hF hcl hKn hl hwant
              go_simp
              exact hk
            · simp only [List.getElem?_toArray, List.getElem?_cons_zero, List.getElem?_cons_succ, Option.some.injEq] at ho
              subst ho
              simp [Region.binds] at hdep
              obtain rfl : .slice Zs ni css = u := by simpa using hl
              have e21 := hF.ev0 (by kernel_rfl) z21
              clear hF hcl hKn hl hwant
              go_simp
              exact hk
            · simp only [List.getElem?_toArray, List.getElem?_cons_zero, List.getElem?_cons_succ, Option.some.injEq] at ho
              subst ho
              simp [Region.binds] at hdep
              obtain rfl : .int .i64 v = u := by simpa using hl
              have e4 := hF.ev0 (by kernel_rfl) z4
              clear hF hcl hKn hl hwant
              go_simp
              exact hk
            · simp at hl
            · simp only [List.getElem?_toArray, List.getElem?_cons_zero, List.getElem?_cons_succ, Option.some.injEq] at ho
              subst ho
              simp [Region.binds] at hdep
              obtain rfl : .string ⟨(putB la ls v 0).toArray⟩ = u := by simpa using hl
              obtain ⟨Aq, cq, hxq, hcq, hsq⟩ := hI.2.2.2.1 (by simp [hdep])
              have e117 := hF.ev 13 rfl rfl (by simp [hdep]) hxq
              have cv := run_convb (P := Try.prog) wv 27 9 5 Aq (n) cq (putB la ls v 0) Try.underlying27 Try.underlying5 Try.underlying9 hsq HPL.out
              clear hF hcl hKn hl hwant
              go_simp
              exact hk
            · simp only [List.getElem?_toArray, List.getElem?_cons_zero, List.getElem?_cons_succ, Option.some.injEq] at ho
              subst ho
              simp [Region.binds] at hdep
              obtain rfl : .slice A n c = u := by simpa using hl
              have e0 := hF.ev0 (by kernel_rfl) z0
              clear hF hcl hKn hl hwant
              go_simp
              exact hk
            · simp only [List.getElem?_toArray, List.getElem?_cons_zero, List.getElem?_cons_succ, Option.some.injEq] at ho
              subst ho
              simp [Region.binds] at hdep
              obtain rfl : .slice Zs ni css = u := by simpa using hl
              have e21 := hF.ev0 (by kernel_rfl) z21
              clear hF hcl hKn hl hwant
              go_simp
              exact hk
            · simp only [List.getElem?_toArray, List.getElem?_cons_zero, List.getElem?_cons_succ, Option.some.injEq] at ho
              subst ho
              simp [Region.binds] at hdep
              obtain rfl : .int .i64 v = u := by simpa using hl
              have e4 := hF.ev0 (by kernel_rfl) z4
              clear hF hcl hKn hl hwant
              go_simp
              exact hk
            · simp at hl
            · simp only [List.getElem?_toArray, List.getElem?_cons_zero, List.getElem?_cons_succ, Option.some.injEq] at ho
              subst ho
              simp [Region.binds] at hdep
              obtain rfl : .string ⟨(putB la ls v 0).toArray⟩ = u := by simpa using hl
              obtain ⟨Aq, cq, hxq, hcq, hsq⟩ := hI.2.2.2.2.1 (by simp [hdep])
              have e122 := hF.ev 18 rfl rfl (by simp [hdep]) hxq
              have cv := run_convb (P := Try.prog) wv 27 9 5 Aq (n) cq (putB la ls v 0) Try.underlying27 Try.underlying5 Try.underlying9 hsq HPL.out
              clear hF hcl hKn hl hwant
              go_simp
              exact hk
            · simp only [List.getElem?_toArray, List.getElem?_cons_zero, List.getElem?_cons_succ, Option.some.injEq] at ho
              subst ho
              simp [Region.binds] at hdep
              obtain rfl : .bool false = u := by simpa using hl
              have e118 := hKn.ev hF 14 rfl rfl rfl (by simp [hdep])
              have e123 := hKn.ev hF 19 rfl rfl rfl (by simp [hdep])
              clear hF hcl hKn hl hwant
              go_simp
              exact hk
            · simp only [List.getElem?_toArray, List.getElem?_cons_zero, List.getElem?_cons_succ, Option.some.injEq] at ho
              subst ho
              simp [Region.binds] at hdep
              obtain rfl : .bool false = u := by simpa using hl
              have e113 := hKn.ev hF 9 rfl rfl rfl (by simp [hdep])
              have e124 := hKn.ev hF 20 rfl rfl rfl (by simp [hdep])
              clear hF hcl hKn hl hwant
              go_simp
              exact hk
            · simp only [List.getElem?_toArray, List.getElem?_cons_zero, List.getElem?_cons_succ, Option.some.injEq] at ho
              subst ho
              simp [Region.binds] at hdep
              obtain rfl : .bool false = u := by simpa using hl
              have e125 := hKn.ev hF 21 rfl rfl rfl (by simp [hdep])
              clear hF hcl hKn hl hwant
              go_simp
              exact hk
            · simp only [List.getElem?_toArray, List.getElem?_cons_zero, List.getElem?_cons_succ, Option.some.injEq] at ho
              subst ho
              simp [Region.binds] at hdep
              obtain rfl : .slice A n c = u := by simpa using hl
              have e0 := hF.ev0 (by kernel_rfl) z0
              clear hF hcl hKn hl hwant
              go_simp
              exact hk
            · simp only [List.getElem?_toArray, List.getElem?_cons_zero, List.getElem?_cons_succ, Option.some.injEq] at ho
              subst ho
              simp [Region.binds] at hdep
              obtain rfl : .slice Zs ni css = u := by simpa using hl
              have e21 := hF.ev0 (by kernel_rfl) z21
              clear hF hcl hKn hl hwant
              go_simp
              exact hk
            · simp at hl
            · simp only [List.getElem?_toArray, List.getElem?_cons_zero, List.getElem?_cons_succ, Option.some.injEq] at ho
              subst ho
              simp [Region.binds] at hdep
              obtain rfl : .slice A n c = u := by simpa using hl
              have e0 := hF.ev0 (by kernel_rfl) z0
              clear hF hcl hKn hl hwant
              go_simp
              exact hk
            · simp only [List.getElem?_toArray, List.getElem?_cons_zero, List.getElem?_cons_succ, Option.some.injEq] at ho
              subst ho
              simp [Region.binds] at hdep
              obtain rfl : .slice Zs ni css = u := by simpa using hl
              have e21 := hF.ev0 (by kernel_rfl) z21
              clear hF hcl hKn hl hwant
              go_simp
              exact hk
            · simp at hl
            · simp only [List.getElem?_toArray, List.getElem?_cons_zero, List.getElem?_cons_succ, Option.some.injEq] at ho
              subst ho
              simp [Region.binds] at hdep
              obtain rfl : .bool false = u := by simpa using hl
              have hse : ((getB la ls 0 : Int) != getB la ls 0) = false := by simp
              have e129 := hF.ev 25 rfl rfl (by simp [hdep]) (hI.2.2.2.2.2.1 (by simp [hdep]))
              have e132 := hF.ev 28 rfl rfl (by simp [hdep]) (hI.2.2.2.2.2.2 (by simp [hdep]))
              clear hF hcl hKn hl hwant
              go_simp
              exact hk
            · simp only [List.getElem?_toArray, List.getElem?_cons_zero, List.getElem?_cons_succ, Option.some.injEq] at ho
              subst ho
              simp [Region.binds] at hdep
              obtain rfl : .bool false = u := by simpa using hl
              have e126 := hKn.ev hF 22 rfl rfl rfl (by simp [hdep])
              have e133 := hKn.ev hF 29 rfl rfl rfl (by simp [hdep])
              clear hF hcl hKn hl hwant
              go_simp
              exact hk
          · intro D x a wv i o ho hl hD hdep hcl hF hKn hI K hk
            have hi : i < 31 := (Array.getElem?_eq_some_iff.1 ho).1
            rcases (show i = 0 ∨ i = 1 ∨ i = 2 ∨ i = 3 ∨ i = 4 ∨ i = 5 ∨ i = 6 ∨ i = 7 ∨ i = 8 ∨ i = 9 ∨ i = 10 ∨ i = 11 ∨ i = 12 ∨ i = 13 ∨ i = 14 ∨ i = 15 ∨ i = 16 ∨ i = 17 ∨ i = 18 ∨ i = 19 ∨ i = 20 ∨ i = 21 ∨ i = 22 ∨ i = 23 ∨ i = 24 ∨ i = 25 ∨ i = 26 ∨ i = 27 ∨ i = 28 ∨ i = 29 ∨ i = 30 by omega) with rfl | rfl | rfl | rfl | rfl | rfl | rfl | rfl | rfl | rfl | rfl | rfl | rfl | rfl | rfl | rfl | rfl | rfl | rfl | rfl | rfl | rfl | rfl | rfl | rfl | rfl | rfl | rfl | rfl | rfl | rfl
            · exact absurd rfl (hl _)
            · exact absurd rfl (hl _)
            · simp only [List.getElem?_toArray, List.getElem?_cons_zero, List.getElem?_cons_succ, Option.some.injEq] at ho
              subst ho
              simp [Region.binds] at hdep
              have e104 := hKn.ev hF 0 rfl rfl rfl (by simp [hdep])
              have e105 := hKn.ev hF 1 rfl rfl rfl (by simp [hdep])
              clear hF hcl hKn hl
              go_simp
              refine (clear_any _ _ _ la _ _ _ ls _ HN.out (HSR.out.below hI.1) (by omega) HLL.out (HLS.out.below hI.1) (by omega) HLB.out).mono ?_
              rintro e w6 ⟨A9, c9, rfl, own9, hb9⟩
              exact hk _ _ ⟨below_next hI.1 hb9, Outs.put (own_cap own9) (Sl.of_own own9), (hI.2.2.1.below hb9).ins 2 _ (by decide), (hI.2.2.2.1.below hb9).ins 2 _ (by decide), (hI.2.2.2.2.1.below hb9).ins 2 _ (by decide), hI.2.2.2.2.2.1.ins 2 _ (by decide), hI.2.2.2.2.2.2.ins 2 _ (by decide)⟩
            · exact absurd rfl (hl _)
            · exact absurd rfl (hl _)
            · exact absurd rfl (hl _)
            · simp only [List.getElem?_toArray, List.getElem?_cons_zero, List.getElem?_cons_succ, Option.some.injEq] at ho
              subst ho
              simp [Region.binds] at hdep
              have e108 := hKn.ev hF 4 rfl rfl rfl (by simp [hdep])
              have e109 := hKn.ev hF 5 rfl rfl rfl (by simp [hdep])
              clear hF hcl hKn hl
              go_simp
              refine (rclear_any _ _ _ la _ _ _ ls _ HN.out (HSR.out.below hI.1) (by omega) HLL.out (HLS.out.below hI.1) (by omega) HLB.out).mono ?_
              rintro e w6 ⟨A9, c9, rfl, own9, hb9⟩
              exact hk _ _ ⟨below_next hI.1 hb9, (hI.2.1.below hb9).ins 6 _ (by decide), Outs.put (own_cap own9) (Sl.of_own own9), (hI.2.2.2.1.below hb9).ins 6 _ (by decide), (hI.2.2.2.2.1.below hb9).ins 6 _ (by decide), hI.2.2.2.2.2.1.ins 6 _ (by decide), hI.2.2.2.2.2.2.ins 6 _ (by decide)⟩
            · exact absurd rfl (hl _)
            · exact absurd rfl (hl _)
            · exact absurd rfl (hl _)
            · exact absurd rfl (hl _)
            · exact absurd rfl (hl _)
            · exact absurd rfl (hl _)
            · simp only [List.getElem?_toArray, List.getElem?_cons_zero, List.getElem?_cons_succ, Option.some.injEq] at ho
              subst ho
              simp [Region.binds] at hdep
              have e114 := hKn.ev hF 10 rfl rfl rfl (by simp [hdep])
              have e115 := hKn.ev hF 11 rfl rfl rfl (by simp [hdep])
              have e116 := hKn.ev hF 12 rfl rfl rfl (by simp [hdep])
              clear hF hcl hKn hl
              go_simp
              refine (put_any _ _ _ la _ _ _ ls v _ HN.out (HSR.out.below hI.1) (by omega) HLL.out (HLS.out.below hI.1) (by omega) HLB.out hv0 hv1).mono ?_
              rintro e w6 ⟨A9, c9, rfl, own9, hb9⟩
              exact hk _ _ ⟨below_next hI.1 hb9, (hI.2.1.below hb9).ins 13 _ (by decide), (hI.2.2.1.below hb9).ins 13 _ (by decide), Outs.put (own_cap own9) (Sl.of_own own9), (hI.2.2.2.2.1.below hb9).ins 13 _ (by decide), hI.2.2.2.2.2.1.ins 13 _ (by decide), hI.2.2.2.2.2.2.ins 13 _ (by decide)⟩
            · exact absurd rfl (hl _)
            · exact absurd rfl (hl _)
            · exact absurd rfl (hl _)
            · exact absurd rfl (hl _)
            · simp only [List.getElem?_toArray, List.getElem?_cons_zero, List.getElem?_cons_succ, Option.some.injEq] at ho
              subst ho
              simp [Region.binds] at hdep
              have e119 := hKn.ev hF 15 rfl rfl rfl (by simp [hdep])
              have e120 := hKn.ev hF 16 rfl rfl rfl (by simp [hdep])
              have e121 := hKn.ev hF 17 rfl rfl rfl (by simp [hdep])
              clear hF hcl hKn hl
              go_simp
              refine (rput_any _ _ _ la _ _ _ ls v _ HN.out (HSR.out.below hI.1) (by omega) HLL.out (HLS.out.below hI.1) (by omega) HLB.out hv0 hv1).mono ?_
              rintro e w6 ⟨A9, c9, rfl, own9, hb9⟩
              exact hk _ _ ⟨below_next hI.1 hb9, (hI.2.1.below hb9).ins 18 _ (by decide), (hI.2.2.1.below hb9).ins 18 _ (by decide), (hI.2.2.2.1.below hb9).ins 18 _ (by decide), Outs.put (own_cap own9) (Sl.of_own own9), hI.2.2.2.2.2.1.ins 18 _ (by decide), hI.2.2.2.2.2.2.ins 18 _ (by decide)⟩
            · exact absurd rfl (hl _)
            · exact absurd rfl (hl _)
            · exact absurd rfl (hl _)
            · exact absurd rfl (hl _)
            · exact absurd rfl (hl _)
            · exact absurd rfl (hl _)
            · simp only [List.getElem?_toArray, List.getElem?_cons_zero, List.getElem?_cons_succ, Option.some.injEq] at ho
              subst ho
              simp [Region.binds] at hdep
              have e127 := hKn.ev hF 23 rfl rfl rfl (by simp [hdep])
              have e128 := hKn.ev hF 24 rfl rfl rfl (by simp [hdep])
              clear hF hcl hKn hl
              go_simp
              refine (getbits_any _ _ _ la _ _ _ ls _ HN.out (HSR.out.below hI.1) (by omega) HLL.out (HLS.out.below hI.1) (by omega) hlc HLB.out).mono ?_
              rintro e w6 ⟨rfl, rfl⟩
              exact hk _ _ ⟨hI.1, hI.2.1.ins 25 _ (by decide), hI.2.2.1.ins 25 _ (by decide), hI.2.2.2.1.ins 25 _ (by decide), hI.2.2.2.2.1.ins 25 _ (by decide), Vals.put, hI.2.2.2.2.2.2.ins 25 _ (by decide)⟩
            · exact absurd rfl (hl _)
            · exact absurd rfl (hl _)
            · simp only [List.getElem?_toArray, List.getElem?_cons_zero, List.getElem?_cons_succ, Option.some.injEq] at ho
              subst ho
              simp [Region.binds] at hdep
              have e130 := hKn.ev hF 26 rfl rfl rfl (by simp [hdep])
              have e131 := hKn.ev hF 27 rfl rfl rfl (by simp [hdep])
              clear hF hcl hKn hl
              go_simp
              refine (rgetbits_any _ _ _ la _ _ _ ls _ HN.out (HSR.out.below hI.1) (by omega) HLL.out (HLS.out.below hI.1) (by omega) HLB.out).mono ?_
              rintro e w6 ⟨rfl, rfl⟩
              exact hk _ _ ⟨hI.1, hI.2.1.ins 28 _ (by decide), hI.2.2.1.ins 28 _ (by decide), hI.2.2.2.1.ins 28 _ (by decide), hI.2.2.2.2.1.ins 28 _ (by decide), hI.2.2.2.2.2.1.ins 28 _ (by decide), Vals.put⟩
            · exact absurd rfl (hl _)
            · exact absurd rfl (hl _)
          · intro D x w9 hD hKn hI
            have HBF := Lib.hid hI.1
            have x30 := hKn 30 _ rfl (hD 30 (by decide))
            clear hI hD hKn
            rw [HA0.out]
            simp [putsAll, List.range, List.range.loop, Act.put, x30]
            go_wp2
            go_roundw
            case rel => exact ⟨j + 1, by omega, by go_num, below_next HBQ.out HBF.out⟩
            case measure => simp [intOf]; omega
        · obtain rfl : j = 2 := by omega
          have HBE := Lib.hid hb
          clear hb
          go_wp2_with fail
          have hbd : Below W4.heap.size W4 wr := HBE.out
          have HSR := Lib.hid (q1.below hbd)
          have HSB := Lib.hid (q2.below hbd)
          have HS2 := Lib.hid (show Sl wr A2 ((bl.map Int.ofNat).map iv) by have h := q5.below hbd; rw [List.map_map]; exact h)
          have HS3 := Lib.hid (show Sl wr A3 ((bl.map Int.ofNat).map iv) by have h := q6.below hbd; rw [List.map_map]; exact h)
          have hwl : w.heap.size < wr.heap.size := by have h1 := hbd.size; have h2 : w.heap.size < W4.heap.size := World.block_lt_of_cell? W4 ⟨w.heap.size, 0, none⟩ (HBX.out 0); omega
          have HBXB := Lib.hid (fun j => (hbd.cell (p := ⟨w.heap.size, j, none⟩) (World.block_lt_of_cell? W4 ⟨w.heap.size, 0, none⟩ (HBX.out 0))).trans (HBX.out j))
          have hcn : clampN (n : Int) = n := by unfold clampN; omega
          have HCN := Lib.hid hcn
          have extN := fun (W : World) (h : Sl W B (b.map bv)) => extend_any B nb cb b (n : Int) W HNB.out h (by omega)
          have rextN := fun (W : World) (h : Sl W B (b.map bv)) => rextend_any B nb cb b (n : Int) W HNB.out h (by omega)
          rw [hcn] at extN rextN
          have HAB := Lib.hid (show (andB la b).length = min n nb by rw [andB_length, HN.out, HNB.out])
          have HEN := Lib.hid (show (extB b n).length = n by simp [extB]; omega)
          clear hsr hcn hbd
          refine gen_act fun a0 ha0 => ?_
          have z0 : a0.eval (.tmp 0) = .slice A n c := by rw [ha0]; rfl
          have z1 : a0.eval (.tmp 1) = .slice B nb cb := by rw [ha0]; rfl
          have z11 : a0.eval (.tmp 11) = .pointer (some ⟨w.heap.size, 0, none⟩) := by rw [ha0]; rfl
          have z15 : a0.eval (.tmp 15) = .int .i64 (k.tmod 400) := by rw [ha0]; rfl
          have z16 : a0.eval (.tmp 16) = .slice A2 bl.length c2 := by rw [ha0]; rfl
          have z17 : a0.eval (.tmp 17) = .bool ok := by rw [ha0]; rfl
          have z18 : a0.eval (.tmp 18) = .slice A3 bl.length c3 := by rw [ha0]; rfl
          have z19 : a0.eval (.tmp 19) = .bool ok := by rw [ha0]; rfl
          have zs : a0.tmps.size = 207 := by rw [ha0]; rfl
          have HA0 := Lib.hid ha0
          clear ha0
          refine wp_region_kn (by kernel_rfl) (ord_of' (by kernel_rfl)) (dst_of (by kernel_rfl)) (size_of' (n := 207) (by kernel_rfl) zs) ((some (.agg #[.int .i64 s, .int .i64 al, .slice As ns cs, x3, x4, x5, x6, x7])) :: (none) :: (some (.agg #[.int .i64 s, .int .i64 al, .slice As ns cs, x3, x4, x5, x6, x7])) :: (none) :: (some (.bool true)) :: (some (.bool true)) :: (some (.slice A n c)) :: (some (.int .i64 (k.tmod 400))) :: (none) :: (some (.string ⟨(extB la (clampN (k.tmod 400))).toArray⟩)) :: (some (.slice A n c)) :: (some (.int .i64 (k.tmod 400))) :: (none) :: (some (.string ⟨(extB la (clampN (k.tmod 400))).toArray⟩)) :: (some (.bool true)) :: (some (.bool true)) :: (some (.bool true)) :: (some (.slice A n c)) :: (some (.slice B nb cb)) :: (none) :: (some (.string ⟨(andB la b).toArray⟩)) :: (some (.slice A n c)) :: (some (.slice B nb cb)) :: (none) :: (some (.string ⟨(andB la b).toArray⟩)) :: (some (.bool true)) :: (some (.bool true)) :: (some (.bool true)) :: (some (.slice A n c)) :: (none) :: (some (.slice A n c)) :: (none) :: (some (.bool true)) :: (some (.bool true)) :: (some (.bool true)) :: (some (.bool ok)) :: (some (.bool ok)) :: (some (.bool true)) :: (some (.bool true)) :: (some (.bool true)) :: (some (.slice A2 bl.length c2)) :: (some (.slice A3 bl.length c3)) :: (none) :: (some (.bool true)) :: (some (.bool true)) :: (some (.slice A n c)) :: (some (.slice B nb cb)) :: (none) :: (some (.slice A n c)) :: (some (.slice B nb cb)) :: (none) :: (some (.bool true)) :: (some (.bool true)) :: (some (.bool true)) :: (some (.slice A n c)) :: (some (.slice B nb cb)) :: (some (.slice A n c)) :: (some (.int .i64 n)) :: (none) :: (none) :: (some (.slice A n c)) :: (some (.slice B nb cb)) :: (some (.slice A n c)) :: (some (.int .i64 n)) :: (none) :: (none) :: (some (.bool true)) :: (some (.bool true)) :: (some (.bool true)) :: (none) :: (some (.bool true)) :: (some (.bool true)) :: []) ?_ (fun D x W => Below wr.heap.size wr W ∧ Vals D x 1 (.bool (validB s al ns)) ∧ Vals D x 3 (.bool (validB s al ns)) ∧ Outs D x W 8 (clampN (k.tmod 400)) (extB la (clampN (k.tmod 400))) ∧ Outs D x W 12 (clampN (k.tmod 400)) (extB la (clampN (k.tmod 400))) ∧ Outs D x W 19 (min n nb) (andB la b) ∧ Outs D x W 23 (min n nb) (andB la b) ∧ Vals D x 29 (.int .i64 (countB la)) ∧ Vals D x 31 (.int .i64 (countB la)) ∧ Vals D x 42 (.bool true) ∧ Vals D x 47 (.bool (fitsB la b)) ∧ Vals D x 50 (.bool (fitsB la b)) ∧ Outs D x W 58 (n) (extB b n) ∧ Vals D x 59 (.bool (fitsB la (extB b n))) ∧ Outs D x W 64 (n) (extB b n) ∧ Vals D x 65 (.bool (fitsB la (extB b n))) ∧ Vals D x 69 (.bool true)) ⟨Below.drew (Below.refl _ _), Vals.none, Vals.none, Outs.none, Outs.none, Outs.none, Outs.none, Vals.none, Vals.none, Vals.none, Vals.none, Vals.none, Outs.none, Vals.none, Outs.none, Vals.none, Vals.none⟩ ?_ ?_ ?_ ?_
          · intro i o g bl ho hg
            have hi : i < 72 := (Array.getElem?_eq_some_iff.1 ho).1
            rcases (show i = 0 ∨ i = 1 ∨ i = 2 ∨ i = 3 ∨ i = 4 ∨ i = 5 ∨ i = 6 ∨ i = 7 ∨ i = 8 ∨ i = 9 ∨ i = 10 ∨ i = 11 ∨ i = 12 ∨ i = 13 ∨ i = 14 ∨ i = 15 ∨ i = 16 ∨ i = 17 ∨ i = 18 ∨ i = 19 ∨ i = 20 ∨ i = 21 ∨ i = 22 ∨ i = 23 ∨ i = 24 ∨ i = 25 ∨ i = 26 ∨ i = 27 ∨ i = 28 ∨ i = 29 ∨ i = 30 ∨ i = 31 ∨ i = 32 ∨ i = 33 ∨ i = 34 ∨ i = 35 ∨ i = 36 ∨ i = 37 ∨ i = 38 ∨ i = 39 ∨ i = 40 ∨ i = 41 ∨ i = 42 ∨ i = 43 ∨ i = 44 ∨ i = 45 ∨ i = 46 ∨ i = 47 ∨ i = 48 ∨ i = 49 ∨ i = 50 ∨ i = 51 ∨ i = 52 ∨ i = 53 ∨ i = 54 ∨ i = 55 ∨ i = 56 ∨ i = 57 ∨ i = 58 ∨ i = 59 ∨ i = 60 ∨ i = 61 ∨ i = 62 ∨ i = 63 ∨ i = 64 ∨ i = 65 ∨ i = 66 ∨ i = 67 ∨ i = 68 ∨ i = 69 ∨ i = 70 ∨ i = 71 by omega) with rfl | rfl | rfl | rfl | rfl | rfl | rfl | rfl | rfl | rfl | rfl | rfl | rfl | rfl | rfl | rfl | rfl | rfl | rfl | rfl | rfl | rfl | rfl | rfl | rfl | rfl | rfl | rfl | rfl | rfl | rfl | rfl | rfl | rfl | rfl | rfl | rfl | rfl | rfl | rfl | rfl | rfl | rfl | rfl | rfl | rfl | rfl | rfl | rfl | rfl | rfl | rfl | rfl | rfl | rfl | rfl | rfl | rfl | rfl | rfl | rfl | rfl | rfl | rfl | rfl | rfl | rfl | rfl | rfl | rfl | rfl | rfl
            · simp only [List.getElem?_toArray, List.getElem?_cons_zero, Option.some.injEq, List.append_eq, List.cons_append, List.nil_append] at ho
              subst ho
              cases hg
            · simp only [List.getElem?_toArray, List.getElem?_cons_zero, List.getElem?_cons_succ, Option.some.injEq, List.append_eq, List.cons_append, List.nil_append] at ho
              subst ho
              cases hg
            · simp only [List.getElem?_toArray, List.getElem?_cons_zero, List.getElem?_cons_succ, Option.some.injEq, List.append_eq, List.cons_append, List.nil_append] at ho
              subst ho
              cases hg
            · simp only [List.getElem?_toArray, List.getElem?_cons_zero, List.getElem?_cons_succ, Option.some.injEq, List.append_eq, List.cons_append, List.nil_append] at ho
              subst ho
              cases hg
            · simp only [List.getElem?_toArray, List.getElem?_cons_zero, List.getElem?_cons_succ, Option.some.injEq, List.append_eq, List.cons_append, List.nil_append] at ho
              subst ho
              cases hg
            · simp only [List.getElem?_toArray, List.getElem?_cons_zero, List.getElem?_cons_succ, Option.some.injEq, List.append_eq, List.cons_append, List.nil_append] at ho
              subst ho
              cases hg
            · simp only [List.getElem?_toArray, List.getElem?_cons_zero, List.getElem?_cons_succ, Option.some.injEq, List.append_eq, List.cons_append, List.nil_append] at ho
              subst ho
              obtain ⟨rfl, rfl⟩ : 5 = g ∧ true = bl := by simpa using hg
              exact ⟨true, _, _, rfl, rfl, rfl, ⟨{ on := 5, ground := .guard }, by simp, rfl, rfl⟩, fun h => by first | exact absurd rfl h | rfl⟩
            · simp only [List.getElem?_toArray, List.getElem?_cons_zero, List.getElem?_cons_succ, Option.some.injEq, List.append_eq, List.cons_append, List.nil_append] at ho
              subst ho
              obtain ⟨rfl, rfl⟩ : 5 = g ∧ true = bl := by simpa using hg
              exact ⟨true, _, _, rfl, rfl, rfl, ⟨{ on := 5, ground := .guard }, by simp, rfl, rfl⟩, fun h => by first | exact absurd rfl h | rfl⟩
            · simp only [List.getElem?_toArray, List.getElem?_cons_zero, List.getElem?_cons_succ, Option.some.injEq, List.append_eq, List.cons_append, List.nil_append] at ho
              subst ho
              obtain ⟨rfl, rfl⟩ : 5 = g ∧ true = bl := by simpa using hg
              exact ⟨true, _, _, rfl, rfl, rfl, ⟨{ on := 5, ground := .guard }, by simp, rfl, rfl⟩, fun h => by first | exact absurd rfl h | rfl⟩
            · simp only [List.getElem?_toArray, List.getElem?_cons_zero, List.getElem?_cons_succ, Option.some.injEq, List.append_eq, List.cons_append, List.nil_append] at ho
              subst ho
              obtain ⟨rfl, rfl⟩ : 5 = g ∧ true = bl := by simpa using hg
              exact ⟨true, _, _, rfl, rfl, rfl, ⟨{ on := 5, ground := .guard }, by simp, rfl, rfl⟩, fun h => by first | exact absurd rfl h | rfl⟩
            · simp only [List.getElem?_toArray, List.getElem?_cons_zero, List.getElem?_cons_succ, Option.some.injEq, List.append_eq, List.cons_append, List.nil_append] at ho
              subst ho
              obtain ⟨rfl, rfl⟩ : 5 = g ∧ true = bl := by simpa using hg
              exact ⟨true, _, _, rfl, rfl, rfl, ⟨{ on := 5, ground := .guard }, by simp, rfl, rfl⟩, fun h => by first | exact absurd rfl h | rfl⟩
            · simp only [List.getElem?_toArray, List.getElem?_cons_zero, List.getElem?_cons_succ, Option.some.injEq, List.append_eq, List.cons_append, List.nil_append] at ho
              subst ho
              obtain ⟨rfl, rfl⟩ : 5 = g ∧ true = bl := by simpa using hg
              exact ⟨true, _, _, rfl, rfl, rfl, ⟨{ on := 5, ground := .guard }, by simp, rfl, rfl⟩, fun h => by first | exact absurd rfl h | rfl⟩
            · simp only [List.getElem?_toArray, List.getElem?_cons_zero, List.getElem?_cons_succ, Option.some.injEq, List.append_eq, List.cons_append, List.nil_append] at ho
              subst ho
              obtain ⟨rfl, rfl⟩ : 5 = g ∧ true = bl := by simpa using hg
              exact ⟨true, _, _, rfl, rfl, rfl, ⟨{ on := 5, ground := .guard }, by simp, rfl, rfl⟩, fun h => by first | exact absurd rfl h | rfl⟩
            · simp only [List.getElem?_toArray, List.getElem?_cons_zero, List.getElem?_cons_succ, Option.some.injEq, List.append_eq, List.cons_append, List.nil_append] at ho
              subst ho
              obtain ⟨rfl, rfl⟩ : 5 = g ∧ true = bl := by simpa using hg
              exact ⟨true, _, _, rfl, rfl, rfl, ⟨{ on := 5, ground := .guard }, by simp, rfl, rfl⟩, fun h => by first | exact absurd rfl h | rfl⟩
            · simp only [List.getElem?_toArray, List.getElem?_cons_zero, List.getElem?_cons_succ, Option.some.injEq, List.append_eq, List.cons_append, List.nil_append] at ho
              subst ho
              obtain ⟨rfl, rfl⟩ : 5 = g ∧ true = bl := by simpa using hg
              exact ⟨true, _, _, rfl, rfl, rfl, ⟨{ on := 5, ground := .guard }, by simp, rfl, rfl⟩, fun h => by first | exact absurd rfl h | rfl⟩
            · simp only [List.getElem?_toArray, List.getElem?_cons_zero, List.getElem?_cons_succ, Option.some.injEq, List.append_eq, List.cons_append, List.nil_append] at ho
              subst ho
              cases hg
            · simp only [List.getElem?_toArray, List.getElem?_cons_zero, List.getElem?_cons_succ, Option.some.injEq, List.append_eq, List.cons_append, List.nil_append] at ho
              subst ho
              cases hg
            · simp only [List.getElem?_toArray, List.getElem?_cons_zero, List.getElem?_cons_succ, Option.some.injEq, List.append_eq, List.cons_append, List.nil_append] at ho
              subst ho
              obtain ⟨rfl, rfl⟩ : 16 = g ∧ true = bl := by simpa using hg
              exact ⟨true, _, _, rfl, rfl, rfl, ⟨{ on := 16, ground := .guard }, by simp, rfl, rfl⟩, fun h => by first | exact absurd rfl h | rfl⟩
            · simp only [List.getElem?_toArray, List.getElem?_cons_zero, List.getElem?_cons_succ, Option.some.injEq, List.append_eq, List.cons_append, List.nil_append] at ho
              subst ho
              obtain ⟨rfl, rfl⟩ : 16 = g ∧ true = bl := by simpa using hg
              exact ⟨true, _, _, rfl, rfl, rfl, ⟨{ on := 16, ground := .guard }, by simp, rfl, rfl⟩, fun h => by first | exact absurd rfl h | rfl⟩
            · simp only [List.getElem?_toArray, List.getElem?_cons_zero, List.getElem?_cons_succ, Option.some.injEq, List.append_eq, List.cons_append, List.nil_append] at ho
              subst ho
              obtain ⟨rfl, rfl⟩ : 16 = g ∧ true = bl := by simpa using hg
              exact ⟨true, _, _, rfl, rfl, rfl, ⟨{ on := 16, ground := .guard }, by simp, rfl, rfl⟩, fun h => by first | exact absurd rfl h | rfl⟩
            · simp only [List.getElem?_toArray, List.getElem?_cons_zero, List.getElem?_cons_succ, Option.some.injEq, List.append_eq, List.cons_append, List.nil_append] at ho
              subst ho
              obtain ⟨rfl, rfl⟩ : 16 = g ∧ true = bl := by simpa using hg
              exact ⟨true, _, _, rfl, rfl, rfl, ⟨{ on := 16, ground := .guard }, by simp, rfl, rfl⟩, fun h => by first | exact absurd rfl h | rfl⟩
            · simp only [List.getElem?_toArray, List.getElem?_cons_zero, List.getElem?_cons_succ, Option.some.injEq, List.append_eq, List.cons_append, List.nil_append] at ho
              subst ho
              obtain ⟨rfl, rfl⟩ : 16 = g ∧ true = bl := by simpa using hg
              exact ⟨true, _, _, rfl, rfl, rfl, ⟨{ on := 16, ground := .guard }, by simp, rfl, rfl⟩, fun h => by first | exact absurd rfl h | rfl⟩
            · simp only [List.getElem?_toArray, List.getElem?_cons_zero, List.getElem?_cons_succ, Option.some.injEq, List.append_eq, List.cons_append, List.nil_append] at ho
              subst ho
              obtain ⟨rfl, rfl⟩ : 16 = g ∧ true = bl := by simpa using hg
              exact ⟨true, _, _, rfl, rfl, rfl, ⟨{ on := 16, ground := .guard }, by simp, rfl, rfl⟩, fun h => by first | exact absurd rfl h | rfl⟩
            · simp only [List.getElem?_toArray, List.getElem?_cons_zero, List.getElem?_cons_succ, Option.some.injEq, List.append_eq, List.cons_append, List.nil_append] at ho
              subst ho
              obtain ⟨rfl, rfl⟩ : 16 = g ∧ true = bl := by simpa using hg
              exact ⟨true, _, _, rfl, rfl, rfl, ⟨{ on := 16, ground := .guard }, by simp, rfl, rfl⟩, fun h => by first | exact absurd rfl h | rfl⟩
            · simp only [List.getElem?_toArray, List.getElem?_cons_zero, List.getElem?_cons_succ, Option.some.injEq, List.append_eq, List.cons_append, List.nil_append] at ho
              subst ho
              obtain ⟨rfl, rfl⟩ : 16 = g ∧ true = bl := by simpa using hg
              exact ⟨true, _, _, rfl, rfl, rfl, ⟨{ on := 16, ground := .guard }, by simp, rfl, rfl⟩, fun h => by first | exact absurd rfl h | rfl⟩
            · simp only [List.getElem?_toArray, List.getElem?_cons_zero, List.getElem?_cons_succ, Option.some.injEq, List.append_eq, List.cons_append, List.nil_append] at ho
              subst ho
              obtain ⟨rfl, rfl⟩ : 16 = g ∧ true = bl := by simpa using hg
              exact ⟨true, _, _, rfl, rfl, rfl, ⟨{ on := 16, ground := .guard }, by simp, rfl, rfl⟩, fun h => by first | exact absurd rfl h | rfl⟩
            · simp only [List.getElem?_toArray, List.getElem?_cons_zero, List.getElem?_cons_succ, Option.some.injEq, List.append_eq, List.cons_append, List.nil_append] at ho
              subst ho
              cases hg
            · simp only [List.getElem?_toArray, List.getElem?_cons_zero, List.getElem?_cons_succ, Option.some.injEq, List.append_eq, List.cons_append, List.nil_append] at ho
              subst ho
              cases hg
            · simp only [List.getElem?_toArray, List.getElem?_cons_zero, List.getElem?_cons_succ, Option.some.injEq, List.append_eq, List.cons_append, List.nil_append] at ho
              subst ho
              obtain ⟨rfl, rfl⟩ : 27 = g ∧ true = bl := by simpa using hg
              exact ⟨true, _, _, rfl, rfl, rfl, ⟨{ on := 27, ground := .guard }, by simp, rfl, rfl⟩, fun h => by first | exact absurd rfl h | rfl⟩
            · simp only [List.getElem?_toArray, List.getElem?_cons_zero, List.getElem?_cons_succ, Option.some.injEq, List.append_eq, List.cons_append, List.nil_append] at ho
              subst ho
              obtain ⟨rfl, rfl⟩ : 27 = g ∧ true = bl := by simpa using hg
              exact ⟨true, _, _, rfl, rfl, rfl, ⟨{ on := 27, ground := .guard }, by simp, rfl, rfl⟩, fun h => by first | exact absurd rfl h | rfl⟩
            · simp only [List.getElem?_toArray, List.getElem?_cons_zero, List.getElem?_cons_succ, Option.some.injEq, List.append_eq, List.cons_append, List.nil_append] at ho
              subst ho
              obtain ⟨rfl, rfl⟩ : 27 = g ∧ true = bl := by simpa using hg
              exact ⟨true, _, _, rfl, rfl, rfl, ⟨{ on := 27, ground := .guard }, by simp, rfl, rfl⟩, fun h => by first | exact absurd rfl h | rfl⟩
            · simp only [List.getElem?_toArray, List.getElem?_cons_zero, List.getElem?_cons_succ, Option.some.injEq, List.append_eq, List.cons_append, List.nil_append] at ho
              subst ho
              obtain ⟨rfl, rfl⟩ : 27 = g ∧ true = bl := by simpa using hg
              exact ⟨true, _, _, rfl, rfl, rfl, ⟨{ on := 27, ground := .guard }, by simp, rfl, rfl⟩, fun h => by first | exact absurd rfl h | rfl⟩
            · simp only [List.getElem?_toArray, List.getElem?_cons_zero, List.getElem?_cons_succ, Option.some.injEq, List.append_eq, List.cons_append, List.nil_append] at ho
              subst ho
              obtain ⟨rfl, rfl⟩ : 27 = g ∧ true = bl := by simpa using hg
              exact ⟨true, _, _, rfl, rfl, rfl, ⟨{ on := 27, ground := .guard }, by simp, rfl, rfl⟩, fun h => by first | exact absurd rfl h | rfl⟩
            · simp only [List.getElem?_toArray, List.getElem?_cons_zero, List.getElem?_cons_succ, Option.some.injEq, List.append_eq, List.cons_append, List.nil_append] at ho
              subst ho
              cases hg
            · simp only [List.getElem?_toArray, List.getElem?_cons_zero, List.getElem?_cons_succ, Option.some.injEq, List.append_eq, List.cons_append, List.nil_append] at ho
              subst ho
              cases hg
            · simp only [List.getElem?_toArray, List.getElem?_cons_zero, List.getElem?_cons_succ, Option.some.injEq, List.append_eq, List.cons_append, List.nil_append] at ho
              subst ho
              obtain ⟨rfl, rfl⟩ : 34 = g ∧ true = bl := by simpa using hg
              exact ⟨true, _, _, rfl, rfl, rfl, ⟨{ on := 34, ground := .guard }, by simp, rfl, rfl⟩, fun h => by first | exact absurd rfl h | rfl⟩
            · simp only [List.getElem?_toArray, List.getElem?_cons_zero, List.getElem?_cons_succ, Option.some.injEq, List.append_eq, List.cons_append, List.nil_append] at ho
              subst ho
              obtain ⟨rfl, rfl⟩ : 34 = g ∧ true = bl := by simpa using hg
              exact ⟨true, _, _, rfl, rfl, rfl, ⟨{ on := 34, ground := .guard }, by simp, rfl, rfl⟩, fun h => by first | exact absurd rfl h | rfl⟩
            · simp only [List.getElem?_toArray, List.getElem?_cons_zero, List.getElem?_cons_succ, Option.some.injEq, List.append_eq, List.cons_append, List.nil_append] at ho
              subst ho
              obtain ⟨rfl, rfl⟩ : 34 = g ∧ true = bl := by simpa using hg
              exact ⟨true, _, _, rfl, rfl, rfl, ⟨{ on := 34, ground := .guard }, by simp, rfl, rfl⟩, fun h => by first | exact absurd rfl h | rfl⟩
            · simp only [List.getElem?_toArray, List.getElem?_cons_zero, List.getElem?_cons_succ, Option.some.injEq, List.append_eq, List.cons_append, List.nil_append] at ho
              subst ho
              cases hg
            · simp only [List.getElem?_toArray, List.getElem?_cons_zero, List.getElem?_cons_succ, Option.some.injEq, List.append_eq, List.cons_append, List.nil_append] at ho
              subst ho
              cases hg
            · simp only [List.getElem?_toArray, List.getElem?_cons_zero, List.getElem?_cons_succ, Option.some.injEq, List.append_eq, List.cons_append, List.nil_append] at ho
              subst ho
              obtain ⟨rfl, rfl⟩ : 39 = g ∧ true = bl := by simpa using hg
              exact ⟨true, _, _, rfl, rfl, rfl, ⟨{ on := 39, ground := .guard }, by simp, rfl, rfl⟩, fun h => by first | exact absurd rfl h | rfl⟩
            · simp only [List.getElem?_toArray, List.getElem?_cons_zero, List.getElem?_cons_succ, Option.some.injEq, List.append_eq, List.cons_append, List.nil_append] at ho
              subst ho
              obtain ⟨rfl, rfl⟩ : 39 = g ∧ true = bl := by simpa using hg
              exact ⟨true, _, _, rfl, rfl, rfl, ⟨{ on := 39, ground := .guard }, by simp, rfl, rfl⟩, fun h => by first | exact absurd rfl h | rfl⟩
            · simp only [List.getElem?_toArray, List.getElem?_cons_zero, List.getElem?_cons_succ, Option.some.injEq, List.append_eq, List.cons_append, List.nil_append] at ho
              subst ho
              obtain ⟨rfl, rfl⟩ : 39 = g ∧ true = bl := by simpa using hg
              exact ⟨true, _, _, rfl, rfl, rfl, ⟨{ on := 39, ground := .guard }, by simp, rfl, rfl⟩, fun h => by first | exact absurd rfl h | rfl⟩
            · simp only [List.getElem?_toArray, List.getElem?_cons_zero, List.getElem?_cons_succ, Option.some.injEq, List.append_eq, List.cons_append, List.nil_append] at ho
              subst ho
              cases hg
            · simp only [List.getElem?_toArray, List.getElem?_cons_zero, List.getElem?_cons_succ, Option.some.injEq, List.append_eq, List.cons_append, List.nil_append] at ho
              subst ho
              cases hg
            · simp only [List.getElem?_toArray, List.getElem?_cons_zero, List.getElem?_cons_succ, Option.some.injEq, List.append_eq, List.cons_append, List.nil_append] at ho
              subst ho
              obtain ⟨rfl, rfl⟩ : 44 = g ∧ true = bl := by simpa using hg
              exact ⟨true, _, _, rfl, rfl, rfl, ⟨{ on := 44, ground := .guard }, by simp, rfl, rfl⟩, fun h => by first | exact absurd rfl h | rfl⟩
            · simp only [List.getElem?_toArray, List.getElem?_cons_zero, List.getElem?_cons_succ, Option.some.injEq, List.append_eq, List.cons_append, List.nil_append] at ho
              subst ho
              obtain ⟨rfl, rfl⟩ : 44 = g ∧ true = bl := by simpa using hg
              exact ⟨true, _, _, rfl, rfl, rfl, ⟨{ on := 44, ground := .guard }, by simp, rfl, rfl⟩, fun h => by first | exact absurd rfl h | rfl⟩
            · simp only [List.getElem?_toArray, List.getElem?_cons_zero, List.getElem?_cons_succ, Option.some.injEq, List.append_eq, List.cons_append, List.nil_append] at ho
              subst ho
              obtain ⟨rfl, rfl⟩ : 44 = g ∧ true = bl := by simpa using hg
              exact ⟨true, _, _, rfl, rfl, rfl, ⟨{ on := 44, ground := .guard }, by simp, rfl, rfl⟩, fun h => by first | exact absurd rfl h | rfl⟩
            · simp only [List.getElem?_toArray, List.getElem?_cons_zero, List.getElem?_cons_succ, Option.some.injEq, List.append_eq, List.cons_append, List.nil_append] at ho
              subst ho
              obtain ⟨rfl, rfl⟩ : 44 = g ∧ true = bl := by simpa using hg
              exact ⟨true, _, _, rfl, rfl, rfl, ⟨{ on := 44, ground := .guard }, by simp, rfl, rfl⟩, fun h => by first | exact absurd rfl h | rfl⟩
            · simp only [List.getElem?_toArray, List.getElem?_cons_zero, List.getElem?_cons_succ, Option.some.injEq, List.append_eq, List.cons_append, List.nil_append] at ho
              subst ho
              obtain ⟨rfl, rfl⟩ : 44 = g ∧ true = bl := by simpa using hg
              exact ⟨true, _, _, rfl, rfl, rfl, ⟨{ on := 44, ground := .guard }, by simp, rfl, rfl⟩, fun h => by first | exact absurd rfl h | rfl⟩
            · simp only [List.getElem?_toArray, List.getElem?_cons_zero, List.getElem?_cons_succ, Option.some.injEq, List.append_eq, List.cons_append, List.nil_append] at ho
              subst ho
              obtain ⟨rfl, rfl⟩ : 44 = g ∧ true = bl := by simpa using hg
              exact ⟨true, _, _, rfl, rfl, rfl, ⟨{ on := 44, ground := .guard }, by simp, rfl, rfl⟩, fun h => by first | exact absurd rfl h | rfl⟩
            · simp only [List.getElem?_toArray, List.getElem?_cons_zero, List.getElem?_cons_succ, Option.some.injEq, List.append_eq, List.cons_append, List.nil_append] at ho
              subst ho
              obtain ⟨rfl, rfl⟩ : 44 = g ∧ true = bl := by simpa using hg
              exact ⟨true, _, _, rfl, rfl, rfl, ⟨{ on := 44, ground := .guard }, by simp, rfl, rfl⟩, fun h => by first | exact absurd rfl h | rfl⟩
            · simp only [List.getElem?_toArray, List.getElem?_cons_zero, List.getElem?_cons_succ, Option.some.injEq, List.append_eq, List.cons_append, List.nil_append] at ho
              subst ho
              cases hg
            · simp only [List.getElem?_toArray, List.getElem?_cons_zero, List.getElem?_cons_succ, Option.some.injEq, List.append_eq, List.cons_append, List.nil_append] at ho
              subst ho
              cases hg
            · simp only [List.getElem?_toArray, List.getElem?_cons_zero, List.getElem?_cons_succ, Option.some.injEq, List.append_eq, List.cons_append, List.nil_append] at ho
              subst ho
              obtain ⟨rfl, rfl⟩ : 53 = g ∧ true = bl := by simpa using hg
              exact ⟨true, _, _, rfl, rfl, rfl, ⟨{ on := 53, ground := .guard }, by simp, rfl, rfl⟩, fun h => by first | exact absurd rfl h | rfl⟩
            · simp only [List.getElem?_toArray, List.getElem?_cons_zero, List.getElem?_cons_succ, Option.some.injEq, List.append_eq, List.cons_append, List.nil_append] at ho
              subst ho
              obtain ⟨rfl, rfl⟩ : 53 = g ∧ true = bl := by simpa using hg
              exact ⟨true, _, _, rfl, rfl, rfl, ⟨{ on := 53, ground := .guard }, by simp, rfl, rfl⟩, fun h => by first | exact absurd rfl h | rfl⟩
            · simp only [List.getElem?_toArray, List.getElem?_cons_zero, List.getElem?_cons_succ, Option.some.injEq, List.append_eq, List.cons_append, List.nil_append] at ho
              subst ho
              obtain ⟨rfl, rfl⟩ : 53 = g ∧ true = bl := by simpa using hg
              exact ⟨true, _, _, rfl, rfl, rfl, ⟨{ on := 53, ground := .guard }, by simp, rfl, rfl⟩, fun h => by first | exact absurd rfl h | rfl⟩
            · simp only [List.getElem?_toArray, List.getElem?_cons_zero, List.getElem?_cons_succ, Option.some.injEq, List.append_eq, List.cons_append, List.nil_append] at ho
              subst ho
              obtain ⟨rfl, rfl⟩ : 53 = g ∧ true = bl := by simpa using hg
              exact ⟨true, _, _, rfl, rfl, rfl, ⟨{ on := 53, ground := .guard }, by simp, rfl, rfl⟩, fun h => by first | exact absurd rfl h | rfl⟩
            · simp only [List.getElem?_toArray, List.getElem?_cons_zero, List.getElem?_cons_succ, Option.some.injEq, List.append_eq, List.cons_append, List.nil_append] at ho
              subst ho
              obtain ⟨rfl, rfl⟩ : 53 = g ∧ true = bl := by simpa using hg
              exact ⟨true, _, _, rfl, rfl, rfl, ⟨{ on := 53, ground := .guard }, by simp, rfl, rfl⟩, fun h => by first | exact absurd rfl h | rfl⟩
            · simp only [List.getElem?_toArray, List.getElem?_cons_zero, List.getElem?_cons_succ, Option.some.injEq, List.append_eq, List.cons_append, List.nil_append] at ho
              subst ho
              obtain ⟨rfl, rfl⟩ : 53 = g ∧ true = bl := by simpa using hg
              exact ⟨true, _, _, rfl, rfl, rfl, ⟨{ on := 53, ground := .guard }, by simp, rfl, rfl⟩, fun h => by first | exact absurd rfl h | rfl⟩
            · simp only [List.getElem?_toArray, List.getElem?_cons_zero, List.getElem?_cons_succ, Option.some.injEq, List.append_eq, List.cons_append, List.nil_append] at ho
              subst ho
              obtain ⟨rfl, rfl⟩ : 53 = g ∧ true = bl := by simpa using hg
              exact ⟨true, _, _, rfl, rfl, rfl, ⟨{ on := 53, ground := .guard }, by simp, rfl, rfl⟩, fun h => by first | exact absurd rfl h | rfl⟩
            · simp only [List.getElem?_toArray, List.getElem?_cons_zero, List.getElem?_cons_succ, Option.some.injEq, List.append_eq, List.cons_append, List.nil_append] at ho
              subst ho
              obtain ⟨rfl, rfl⟩ : 53 = g ∧ true = bl := by simpa using hg
              exact ⟨true, _, _, rfl, rfl, rfl, ⟨{ on := 53, ground := .guard }, by simp, rfl, rfl⟩, fun h => by first | exact absurd rfl h | rfl⟩
            · simp only [List.getElem?_toArray, List.getElem?_cons_zero, List.getElem?_cons_succ, Option.some.injEq, List.append_eq, List.cons_append, List.nil_append] at ho
              subst ho
              obtain ⟨rfl, rfl⟩ : 53 = g ∧ true = bl := by simpa using hg
              exact ⟨true, _, _, rfl, rfl, rfl, ⟨{ on := 53, ground := .guard }, by simp, rfl, rfl⟩, fun h => by first | exact absurd rfl h | rfl⟩
            · simp only [List.getElem?_toArray, List.getElem?_cons_zero, List.getElem?_cons_succ, Option.some.injEq, List.append_eq, List.cons_append, List.nil_append] at ho
              subst ho
              obtain ⟨rfl, rfl⟩ : 53 = g ∧ true = bl := by simpa using hg
              exact ⟨true, _, _, rfl, rfl, rfl, ⟨{ on := 53, ground := .guard }, by simp, rfl, rfl⟩, fun h => by first | exact absurd rfl h | rfl⟩
            · simp only [List.getElem?_toArray, List.getElem?_cons_zero, List.getElem?_cons_succ, Option.some.injEq, List.append_eq, List.cons_append, List.nil_append] at ho
              subst ho
              obtain ⟨rfl, rfl⟩ : 53 = g ∧ true = bl := by simpa using hg
              exact ⟨true, _, _, rfl, rfl, rfl, ⟨{ on := 53, ground := .guard }, by simp, rfl, rfl⟩, fun h => by first | exact absurd rfl h | rfl⟩
            · simp only [List.getElem?_toArray, List.getElem?_cons_zero, List.getElem?_cons_succ, Option.some.injEq, List.append_eq, List.cons_append, List.nil_append] at ho
              subst ho
              obtain ⟨rfl, rfl⟩ : 53 = g ∧ true = bl := by simpa using hg
              exact ⟨true, _, _, rfl, rfl, rfl, ⟨{ on := 53, ground := .guard }, by simp, rfl, rfl⟩, fun h => by first | exact absurd rfl h | rfl⟩
            · simp only [List.getElem?_toArray, List.getElem?_cons_zero, List.getElem?_cons_succ, Option.some.injEq, List.append_eq, List.cons_append, List.nil_append] at ho
              subst ho
              obtain ⟨rfl, rfl⟩ : 53 = g ∧ true = bl := by simpa using hg
              exact ⟨true, _, _, rfl, rfl, rfl, ⟨{ on := 53, ground := .guard }, by simp, rfl, rfl⟩, fun h => by first | exact absurd rfl h | rfl⟩
            · simp only [List.getElem?_toArray, List.getElem?_cons_zero, List.getElem?_cons_succ, Option.some.injEq, List.append_eq, List.cons_append, List.nil_append] at ho
              subst ho
              cases hg
            · simp only [List.getElem?_toArray, List.getElem?_cons_zero, List.getElem?_cons_succ, Option.some.injEq, List.append_eq, List.cons_append, List.nil_append] at ho
              subst ho
              cases hg
            · simp only [List.getElem?_toArray, List.getElem?_cons_zero, List.getElem?_cons_succ, Option.some.injEq, List.append_eq, List.cons_append, List.nil_append] at ho
              subst ho
              obtain ⟨rfl, rfl⟩ : 68 = g ∧ true = bl := by simpa using hg
              exact ⟨true, _, _, rfl, rfl, rfl, ⟨{ on := 68, ground := .guard }, by simp, rfl, rfl⟩, fun h => by first | exact absurd rfl h | rfl⟩
            · simp only [List.getElem?_toArray, List.getElem?_cons_zero, List.getElem?_cons_succ, Option.some.injEq, List.append_eq, List.cons_append, List.nil_append] at ho
              subst ho
              cases hg
            · simp only [List.getElem?_toArray, List.getElem?_cons_zero, List.getElem?_cons_succ, Option.some.injEq, List.append_eq, List.cons_append, List.nil_append] at ho
              subst ho
              cases hg
          · intro i u D x wv hl hD hI
            have hi : i < 72 := by have h := (List.getElem?_eq_some_iff.1 hl).1; simpa using h
            have hnh : i ≠ 1 ∧ i ≠ 3 ∧ i ≠ 8 ∧ i ≠ 12 ∧ i ≠ 19 ∧ i ≠ 23 ∧ i ≠ 29 ∧ i ≠ 31 ∧ i ≠ 42 ∧ i ≠ 47 ∧ i ≠ 50 ∧ i ≠ 58 ∧ i ≠ 59 ∧ i ≠ 64 ∧ i ≠ 65 ∧ i ≠ 69 := by
              refine ⟨?_, ?_, ?_, ?_, ?_, ?_, ?_, ?_, ?_, ?_, ?_, ?_, ?_, ?_, ?_, ?_⟩ <;> (rintro rfl; simp at hl)
            exact ⟨hI.1, hI.2.1.ins i u hnh.1, hI.2.2.1.ins i u hnh.2.1, hI.2.2.2.1.ins i u hnh.2.2.1, hI.2.2.2.2.1.ins i u hnh.2.2.2.1, hI.2.2.2.2.2.1.ins i u hnh.2.2.2.2.1, hI.2.2.2.2.2.2.1.ins i u hnh.2.2.2.2.2.1, hI.2.2.2.2.2.2.2.1.ins i u hnh.2.2.2.2.2.2.1, hI.2.2.2.2.2.2.2.2.1.ins i u hnh.2.2.2.2.2.2.2.1, hI.2.2.2.2.2.2.2.2.2.1.ins i u hnh.2.2.2.2.2.2.2.2.1, hI.2.2.2.2.2.2.2.2.2.2.1.ins i u hnh.2.2.2.2.2.2.2.2.2.1, hI.2.2.2.2.2.2.2.2.2.2.2.1.ins i u hnh.2.2.2.2.2.2.2.2.2.2.1, hI.2.2.2.2.2.2.2.2.2.2.2.2.1.ins i u hnh.2.2.2.2.2.2.2.2.2.2.2.1, hI.2.2.2.2.2.2.2.2.2.2.2.2.2.1.ins i u hnh.2.2.2.2.2.2.2.2.2.2.2.2.1, hI.2.2.2.2.2.2.2.2.2.2.2.2.2.2.1.ins i u hnh.2.2.2.2.2.2.2.2.2.2.2.2.2.1, hI.2.2.2.2.2.2.2.2.2.2.2.2.2.2.2.1.ins i u hnh.2.2.2.2.2.2.2.2.2.2.2.2.2.2.1, hI.2.2.2.2.2.2.2.2.2.2.2.2.2.2.2.2.ins i u hnh.2.2.2.2.2.2.2.2.2.2.2.2.2.2.2⟩
          · intro D x a wv i o u ho hl hD hdep hcl hF hKn hI hwant K hk
            have hi : i < 72 := (Array.getElem?_eq_some_iff.1 ho).1
            rcases (show i = 0 ∨ i = 1 ∨ i = 2 ∨ i = 3 ∨ i = 4 ∨ i = 5 ∨ i = 6 ∨ i = 7 ∨ i = 8 ∨ i = 9 ∨ i = 10 ∨ i = 11 ∨ i = 12 ∨ i = 13 ∨ i = 14 ∨ i = 15 ∨ i = 16 ∨ i = 17 ∨ i = 18 ∨ i = 19 ∨ i = 20 ∨ i = 21 ∨ i = 22 ∨ i = 23 ∨ i = 24 ∨ i = 25 ∨ i = 26 ∨ i = 27 ∨ i = 28 ∨ i = 29 ∨ i = 30 ∨ i = 31 ∨ i = 32 ∨ i = 33 ∨ i = 34 ∨ i = 35 ∨ i = 36 ∨ i = 37 ∨ i = 38 ∨ i = 39 ∨ i = 40 ∨ i = 41 ∨ i = 42 ∨ i = 43 ∨ i = 44 ∨ i = 45 ∨ i = 46 ∨ i = 47 ∨ i = 48 ∨ i = 49 ∨ i = 50 ∨ i = 51 ∨ i = 52 ∨ i = 53 ∨ i = 54 ∨ i = 55 ∨ i = 56 ∨ i = 57 ∨ i = 58 ∨ i = 59 ∨ i = 60 ∨ i = 61 ∨ i = 62 ∨ i = 63 ∨ i = 64 ∨ i = 65 ∨ i = 66 ∨ i = 67 ∨ i = 68 ∨ i = 69 ∨ i = 70 ∨ i = 71 by omega) with rfl | rfl | rfl | rfl | rfl | rfl | rfl | rfl | rfl | rfl | rfl | rfl | rfl | rfl | rfl | rfl | rfl | rfl | rfl | rfl | rfl | rfl | rfl | rfl | rfl | rfl | rfl | rfl | rfl | rfl | rfl | rfl | rfl | rfl | rfl | rfl | rfl | rfl | rfl | rfl | rfl | rfl | rfl | rfl | rfl | rfl | rfl | rfl | rfl | rfl | rfl | rfl | rfl | rfl | rfl | rfl | rfl | rfl | rfl | rfl | rfl | rfl | rfl | rfl | rfl | rfl | rfl | rfl | rfl | rfl | rfl | rfl
            · simp only [List.getElem?_toArray, List.getElem?_cons_zero, Option.some.injEq, List.append_eq, List.cons_append, List.nil_append] at ho
              subst ho
              obtain rfl : .agg #[.int .i64 s, .int .i64 al, .slice As ns cs, x3, x4, x5, x6, x7] = u := by simpa using hl
              have e11 := hF.ev0 (by kernel_rfl) z11
              obtain ⟨b0, b1, b2, b3, b4, b5, b6, b7⟩ := eight_of (fun j => (hI.1.cell (p := ⟨w.heap.size, j, none⟩) hwl).trans (HBXB.out j))
              clear hF hcl hKn hl hwant
              go_simp
              exact hk
            · simp at hl
            · simp only [List.getElem?_toArray, List.getElem?_cons_zero, List.getElem?_cons_succ, Option.some.injEq, List.append_eq, List.cons_append, List.nil_append] at ho
              subst ho
              obtain rfl : .agg #[.int .i64 s, .int .i64 al, .slice As ns cs, x3, x4, x5, x6, x7] = u := by simpa using hl
              have e11 := hF.ev0 (by kernel_rfl) z11
              obtain ⟨b0, b1, b2, b3, b4, b5, b6, b7⟩ := eight_of (fun j => (hI.1.cell (p := ⟨w.heap.size, j, none⟩) hwl).trans (HBXB.out j))
              clear hF hcl hKn hl hwant
              go_simp
              exact hk
            · simp at hl
            · simp only [List.getElem?_toArray, List.getElem?_cons_zero, List.getElem?_cons_succ, Option.some.injEq, List.append_eq, List.cons_append, List.nil_append] at ho
              subst ho
              simp [Region.binds] at hdep
              obtain rfl : .bool true = u := by simpa using hl
              have hse : (validB s al ns == validB s al ns) = true := by simp
              have e137 := hF.ev 1 rfl rfl (by simp [hdep]) (hI.2.1 (by simp [hdep]))
              have e139 := hF.ev 3 rfl rfl (by simp [hdep]) (hI.2.2.1 (by simp [hdep]))
              clear hF hcl hKn hl hwant
              go_simp
              exact hk
            · simp only [List.getElem?_toArray, List.getElem?_cons_zero, List.getElem?_cons_succ, Option.some.injEq, List.append_eq, List.cons_append, List.nil_append] at ho
              subst ho
              simp [Region.binds] at hdep
              obtain rfl : .bool true = u := by simpa using hl
              have e140 := hKn.ev hF 4 rfl rfl rfl (by simp [hdep])
              clear hF hcl hKn hl hwant
              go_simp
              exact hk
            · simp only [List.getElem?_toArray, List.getElem?_cons_zero, List.getElem?_cons_succ, Option.some.injEq, List.append_eq, List.cons_append, List.nil_append] at ho
              subst ho
              simp [Region.binds] at hdep
              obtain rfl : .slice A n c = u := by simpa using hl
              have e0 := hF.ev0 (by kernel_rfl) z0
              clear hF hcl hKn hl hwant
              go_simp
              exact hk
            · simp only [List.getElem?_toArray, List.getElem?_cons_zero, List.getElem?_cons_succ, Option.some.injEq, List.append_eq, List.cons_append, List.nil_append] at ho
              subst ho
              simp [Region.binds] at hdep
              obtain rfl : .int .i64 (k.tmod 400) = u := by simpa using hl
              have e15 := hF.ev0 (by kernel_rfl) z15
              clear hF hcl hKn hl hwant
              go_simp
              exact hk
            · simp at hl
            · simp only [List.getElem?_toArray, List.getElem?_cons_zero, List.getElem?_cons_succ, Option.some.injEq, List.append_eq, List.cons_append, List.nil_append] at ho
              subst ho
              simp [Region.binds] at hdep
              obtain rfl : .string ⟨(extB la (clampN (k.tmod 400))).toArray⟩ = u := by simpa using hl
              obtain ⟨Aq, cq, hxq, hcq, hsq⟩ := hI.2.2.2.1 (by simp [hdep])
              have e144 := hF.ev 8 rfl rfl (by simp [hdep]) hxq
              have cv := run_convb (P := Try.prog) wv 27 9 5 Aq (clampN (k.tmod 400)) cq (extB la (clampN (k.tmod 400))) Try.underlying27 Try.underlying5 Try.underlying9 hsq (by simp [extB]; omega)
              clear hF hcl hKn hl hwant
              go_simp
              exact hk
            · simp only [List.getElem?_toArray, List.getElem?_cons_zero, List.getElem?_cons_succ, Option.some.injEq, List.append_eq, List.cons_append, List.nil_append] at ho
              subst ho
              simp [Region.binds] at hdep
              obtain rfl : .slice A n c = u := by simpa using hl
              have e0 := hF.ev0 (by kernel_rfl) z0
              clear hF hcl hKn hl hwant
              go_simp
              exact hk
            · simp only [List.getElem?_toArray, List.getElem?_cons_zero, List.getElem?_cons_succ, Option.some.injEq, List.append_eq, List.cons_append, List.nil_append] at ho
              subst ho
              simp [Region.binds] at hdep
              obtain rfl : .int .i64 (k.tmod 400) = u := by simpa using hl
              have e15 := hF.ev0 (by kernel_rfl) z15
              clear hF hcl hKn hl hwant
              go_simp
              exact hk
            · simp at hl
            · simp only [List.getElem?_toArray, List.getElem?_cons_zero, List.getElem?_cons_succ, Option.some.injEq, List.append_eq, List.cons_append, List.nil_append] at ho
              subst ho
              simp [Region.binds] at hdep
              obtain rfl : .string ⟨(extB la (clampN (k.tmod 400))).toArray⟩ = u := by simpa using hl
              obtain ⟨Aq, cq, hxq, hcq, hsq⟩ := hI.2.2.2.2.1 (by simp [hdep])
              have e148 := hF.ev 12 rfl rfl (by simp [hdep]) hxq
              have cv := run_convb (P := Try.prog) wv 27 9 5 Aq (clampN (k.tmod 400)) cq (extB la (clampN (k.tmod 400))) Try.underlying27 Try.underlying5 Try.underlying9 hsq (by simp [extB]; omega)
              clear hF hcl hKn hl hwant
              go_simp
              exact hk
            · simp only [List.getElem?_toArray, List.getElem?_cons_zero, List.getElem?_cons_succ, Option.some.injEq, List.append_eq, List.cons_append, List.nil_append] at ho
              subst ho
              simp [Region.binds] at hdep
              obtain rfl : .bool true = u := by simpa using hl
              have e145 := hKn.ev hF 9 rfl rfl rfl (by simp [hdep])
              have e149 := hKn.ev hF 13 rfl rfl rfl (by simp [hdep])
              clear hF hcl hKn hl hwant
              go_simp
              exact hk
            · simp only [List.getElem?_toArray, List.getElem?_cons_zero, List.getElem?_cons_succ, Option.some.injEq, List.append_eq, List.cons_append, List.nil_append] at ho
              subst ho
              simp [Region.binds] at hdep
              obtain rfl : .bool true = u := by simpa using hl
              have e141 := hKn.ev hF 5 rfl rfl rfl (by simp [hdep])
              have e150 := hKn.ev hF 14 rfl rfl rfl (by simp [hdep])
              clear hF hcl hKn hl hwant
              go_simp
              exact hk
            · simp only [List.getElem?_toArray, List.getElem?_cons_zero, List.getElem?_cons_succ, Option.some.injEq, List.append_eq, List.cons_append, List.nil_append] at ho
              subst ho
              simp [Region.binds] at hdep
              obtain rfl : .bool true = u := by simpa using hl
              have e151 := hKn.ev hF 15 rfl rfl rfl (by simp [hdep])
              clear hF hcl hKn hl hwant
              go_simp
              exact hk
            · simp only [List.getElem?_toArray, List.getElem?_cons_zero, List.getElem?_cons_succ, Option.some.injEq, List.append_eq, List.cons_append, List.nil_append] at ho
              subst ho
              simp [Region.binds] at hdep
              obtain rfl : .slice A n c = u := by simpa using hl
              have e0 := hF.ev0 (by kernel_rfl) z0
              clear hF hcl hKn hl hwant
              go_simp
              exact hk
            · simp only [List.getElem?_toArray, List.getElem?_cons_zero, List.getElem?_cons_succ, Option.some.injEq, List.append_eq, List.cons_append, List.nil_append] at ho
              subst ho
              simp [Region.binds] at hdep
              obtain rfl : .slice B nb cb = u := by simpa using hl
              have e1 := hF.ev0 (by kernel_rfl) z1
              clear hF hcl hKn hl hwant
              go_simp
              exact hk
            · simp at hl
            · simp only [List.getElem?_toArray, List.getElem?_cons_zero, List.getElem?_cons_succ, Option.some.injEq, List.append_eq, List.cons_append, List.nil_append] at ho
              subst ho
              simp [Region.binds] at hdep
              obtain rfl : .string ⟨(andB la b).toArray⟩ = u := by simpa using hl
              obtain ⟨Aq, cq, hxq, hcq, hsq⟩ := hI.2.2.2.2.2.1 (by simp [hdep])
              have e155 := hF.ev 19 rfl rfl (by simp [hdep]) hxq
              have cv := run_convb (P := Try.prog) wv 27 9 5 Aq (min n nb) cq (andB la b) Try.underlying27 Try.underlying5 Try.underlying9 hsq HAB.out
              clear hF hcl hKn hl hwant
              go_simp
              exact hk
            · simp only [List.getElem?_toArray, List.getElem?_cons_zero, List.getElem?_cons_succ, Option.some.injEq, List.append_eq, List.cons_append, List.nil_append] at ho
              subst ho
              simp [Region.binds] at hdep
              obtain rfl : .slice A n c = u := by simpa using hl
              have e0 := hF.ev0 (by kernel_rfl) z0
              clear hF hcl hKn hl hwant
              go_simp
              exact hk
            · simp only [List.getElem?_toArray, List.getElem?_cons_zero, List.getElem?_cons_succ, Option.some.injEq, List.append_eq, List.cons_append, List.nil_append] at ho
              subst ho
              simp [Region.binds] at hdep
              obtain rfl : .slice B nb cb = u := by simpa using hl
              have e1 := hF.ev0 (by kernel_rfl) z1
              clear hF hcl hKn hl hwant
              go_simp
              exact hk
            · simp at hl
            · simp only [List.getElem?_toArray, List.getElem?_cons_zero, List.getElem?_cons_succ, Option.some.injEq, List.append_eq, List.cons_append, List.nil_append] at ho
              subst ho
              simp [Region.binds] at hdep
              obtain rfl : .string ⟨(andB la b).toArray⟩ = u := by simpa using hl
              obtain ⟨Aq, cq, hxq, hcq, hsq⟩ := hI.2.2.2.2.2.2.1 (by simp [hdep])
              have e159 := hF.ev 23 rfl rfl (by simp [hdep]) hxq
              have cv := run_convb (P := Try.prog) wv 27 9 5 Aq (min n nb) cq (andB la b) Try.underlying27 Try.underlying5 Try.underlying9 hsq HAB.out
              clear hF hcl hKn hl hwant
              go_simp
              exact hk
            · simp only [List.getElem?_toArray, List.getElem?_cons_zero, List.getElem?_cons_succ, Option.some.injEq, List.append_eq, List.cons_append, List.nil_append] at ho
              subst ho
              simp [Region.binds] at hdep
              obtain rfl : .bool true = u := by simpa using hl
              have e156 := hKn.ev hF 20 rfl rfl rfl (by simp [hdep])
              have e160 := hKn.ev hF 24 rfl rfl rfl (by simp [hdep])
              clear hF hcl hKn hl hwant
              go_simp
              exact hk
            · simp only [List.getElem?_toArray, List.getElem?_cons_zero, List.getElem?_cons_succ, Option.some.injEq, List.append_eq, List.cons_append, List.nil_append] at ho
              subst ho
              simp [Region.binds] at hdep
              obtain rfl : .bool true = u := by simpa using hl
              have e152 := hKn.ev hF 16 rfl rfl rfl (by simp [hdep])
              have e161 := hKn.ev hF 25 rfl rfl rfl (by simp [hdep])
              clear hF hcl hKn hl hwant
              go_simp
              exact hk
            · simp only [List.getElem?_toArray, List.getElem?_cons_zero, List.getElem?_cons_succ, Option.some.injEq, List.append_eq, List.cons_append, List.nil_append] at ho
              subst ho
              simp [Region.binds] at hdep
              obtain rfl : .bool true = u := by simpa using hl
              have e162 := hKn.ev hF 26 rfl rfl rfl (by simp [hdep])
              clear hF hcl hKn hl hwant
              go_simp
              exact hk
            · simp only [List.getElem?_toArray, List.getElem?_cons_zero, List.getElem?_cons_succ, Option.some.injEq, List.append_eq, List.cons_append, List.nil_append] at ho
              subst ho
              simp [Region.binds] at hdep
              obtain rfl : .slice A n c = u := by simpa using hl
              have e0 := hF.ev0 (by kernel_rfl) z0
              clear hF hcl hKn hl hwant
              go_simp
              exact hk
            · simp at hl
            · simp only [List.getElem?_toArray, List.getElem?_cons_zero, List.getElem?_cons_succ, Option.some.injEq, List.append_eq, List.cons_append, List.nil_append] at ho
              subst ho
              simp [Region.binds] at hdep
              obtain rfl : .slice A n c = u := by simpa using hl
              have e0 := hF.ev0 (by kernel_rfl) z0
              clear hF hcl hKn hl hwant
              go_simp
              exact hk
            · simp at hl
            · simp only [List.getElem?_toArray, List.getElem?_cons_zero, List.getElem?_cons_succ, Option.some.injEq, List.append_eq, List.cons_append, List.nil_append] at ho
              subst ho
              simp [Region.binds] at hdep
              obtain rfl : .bool true = u := by simpa using hl
              have hse : ((countB la : Int) == countB la) = true := by simp
              have e165 := hF.ev 29 rfl rfl (by simp [hdep]) (hI.2.2.2.2.2.2.2.1 (by simp [hdep]))
              have e167 := hF.ev 31 rfl rfl (by simp [hdep]) (hI.2.2.2.2.2.2.2.2.1 (by simp [hdep]))
              clear hF hcl hKn hl hwant
              go_simp
              exact hk
            · simp only [List.getElem?_toArray, List.getElem?_cons_zero, List.getElem?_cons_succ, Option.some.injEq, List.append_eq, List.cons_append, List.nil_append] at ho
              subst ho
              simp [Region.binds] at hdep
              obtain rfl : .bool true = u := by simpa using hl
              have e163 := hKn.ev hF 27 rfl rfl rfl (by simp [hdep])
              have e168 := hKn.ev hF 32 rfl rfl rfl (by simp [hdep])
              clear hF hcl hKn hl hwant
              go_simp
              exact hk
            · simp only [List.getElem?_toArray, List.getElem?_cons_zero, List.getElem?_cons_succ, Option.some.injEq, List.append_eq, List.cons_append, List.nil_append] at ho
              subst ho
              simp [Region.binds] at hdep
              obtain rfl : .bool true = u := by simpa using hl
              have e169 := hKn.ev hF 33 rfl rfl rfl (by simp [hdep])
              clear hF hcl hKn hl hwant
              go_simp
              exact hk
            · simp only [List.getElem?_toArray, List.getElem?_cons_zero, List.getElem?_cons_succ, Option.some.injEq, List.append_eq, List.cons_append, List.nil_append] at ho
              subst ho
              simp [Region.binds] at hdep
              obtain rfl : .bool ok = u := by simpa using hl
              have e17 := hF.ev0 (by kernel_rfl) z17
              clear hF hcl hKn hl hwant
              go_simp
              exact hk
            · simp only [List.getElem?_toArray, List.getElem?_cons_zero, List.getElem?_cons_succ, Option.some.injEq, List.append_eq, List.cons_append, List.nil_append] at ho
              subst ho
              simp [Region.binds] at hdep
              obtain rfl : .bool ok = u := by simpa using hl
              have e19 := hF.ev0 (by kernel_rfl) z19
              clear hF hcl hKn hl hwant
              go_simp
              exact hk
            · simp only [List.getElem?_toArray, List.getElem?_cons_zero, List.getElem?_cons_succ, Option.some.injEq, List.append_eq, List.cons_append, List.nil_append] at ho
              subst ho
              simp [Region.binds] at hdep
              obtain rfl : .bool true = u := by simpa using hl
              have e171 := hKn.ev hF 35 rfl rfl rfl (by simp [hdep])
              have e172 := hKn.ev hF 36 rfl rfl rfl (by simp [hdep])
              have hse : (ok == ok) = true := by simp
              clear hF hcl hKn hl hwant
              go_simp
              exact hk
            · simp only [List.getElem?_toArray, List.getElem?_cons_zero, List.getElem?_cons_succ, Option.some.injEq, List.append_eq, List.cons_append, List.nil_append] at ho
              subst ho
              simp [Region.binds] at hdep
              obtain rfl : .bool true = u := by simpa using hl
              have e170 := hKn.ev hF 34 rfl rfl rfl (by simp [hdep])
              have e173 := hKn.ev hF 37 rfl rfl rfl (by simp [hdep])
              clear hF hcl hKn hl hwant
              go_simp
              exact hk
            · simp only [List.getElem?_toArray, List.getElem?_cons_zero, List.getElem?_cons_succ, Option.some.injEq, List.append_eq, List.cons_append, List.nil_append] at ho
              subst ho
              simp [Region.binds] at hdep
              obtain rfl : .bool true = u := by simpa using hl
              have e174 := hKn.ev hF 38 rfl rfl rfl (by simp [hdep])
              clear hF hcl hKn hl hwant
              go_simp
              exact hk
            · simp only [List.getElem?_toArray, List.getElem?_cons_zero, List.getElem?_cons_succ, Option.some.injEq, List.append_eq, List.cons_append, List.nil_append] at ho
              subst ho
              simp [Region.binds] at hdep
              obtain rfl : .slice A2 bl.length c2 = u := by simpa using hl
              have e16 := hF.ev0 (by kernel_rfl) z16
              clear hF hcl hKn hl hwant
              go_simp
              exact hk
            · simp only [List.getElem?_toArray, List.getElem?_cons_zero, List.getElem?_cons_succ, Option.some.injEq, List.append_eq, List.cons_append, List.nil_append] at ho
              subst ho
              simp [Region.binds] at hdep
              obtain rfl : .slice A3 bl.length c3 = u := by simpa using hl
              have e18 := hF.ev0 (by kernel_rfl) z18
              clear hF hcl hKn hl hwant
              go_simp
              exact hk
            · simp at hl
            · simp only [List.getElem?_toArray, List.getElem?_cons_zero, List.getElem?_cons_succ, Option.some.injEq, List.append_eq, List.cons_append, List.nil_append] at ho
              subst ho
              simp [Region.binds] at hdep
              obtain rfl : .bool true = u := by simpa using hl
              have e175 := hKn.ev hF 39 rfl rfl rfl (by simp [hdep])
              have e178 := hF.ev 42 rfl rfl (by simp [hdep]) (hI.2.2.2.2.2.2.2.2.2.1 (by simp [hdep]))
              clear hF hcl hKn hl hwant
              go_simp
              exact hk
            · simp only [List.getElem?_toArray, List.getElem?_cons_zero, List.getElem?_cons_succ, Option.some.injEq, List.append_eq, List.cons_append, List.nil_append] at ho
              subst ho
              simp [Region.binds] at hdep
              obtain rfl : .bool true = u := by simpa using hl
              have e179 := hKn.ev hF 43 rfl rfl rfl (by simp [hdep])
              clear hF hcl hKn hl hwant
              go_simp
              exact hk
            · simp only [List.getElem?_toArray, List.getElem?_cons_zero, List.getElem?_cons_succ, Option.some.injEq, List.append_eq, List.cons_append, List.nil_append] at ho
              subst ho
              simp [Region.binds] at hdep
              obtain rfl : .slice A n c = u := by simpa using hl
              have e0 := hF.ev0 (by kernel_rfl) z0
              clear hF hcl hKn hl hwant
              go_simp
              exact hk
            · simp only [List.getElem?_toArray, List.getElem?_cons_zero, List.getElem?_cons_succ, Option.some.injEq, List.append_eq, List.cons_append, List.nil_append] at ho
              subst ho
              simp [Region.binds] at hdep
              obtain rfl : .slice B nb cb = u := by simpa using hl
              have e1 := hF.ev0 (by kernel_rfl) z1
              clear hF hcl hKn hl hwant
              go_simp
              exact hk
            · simp at hl
            · simp only [List.getElem?_toArray, List.getElem?_cons_zero, List.getElem?_cons_succ, Option.some.injEq, List.append_eq, List.cons_append, List.nil_append] at ho
              subst ho
              simp [Region.binds] at hdep
              obtain rfl : .slice A n c = u := by simpa using hl
              have e0 := hF.ev0 (by kernel_rfl) z0
              clear hF hcl hKn hl hwant
              go_simp
              exact hk
            · simp only [List.getElem?_toArray, List.getElem?_cons_zero, List.getElem?_cons_succ, Option.some.injEq, List.append_eq, List.cons_append, List.nil_append] at ho
              subst ho
              simp [Region.binds] at hdep
              obtain rfl : .slice B nb cb = u := by simpa using hl
              have e1 := hF.ev0 (by kernel_rfl) z1
              clear hF hcl hKn hl hwant
              go_simp
              exact hk
            · simp at hl
            · simp only [List.getElem?_toArray, List.getElem?_cons_zero, List.getElem?_cons_succ, Option.some.injEq, List.append_eq, List.cons_append, List.nil_append] at ho
              subst ho
              simp [Region.binds] at hdep
              obtain rfl : .bool true = u := by simpa using hl
              have hse : (fitsB la b == fitsB la b) = true := by simp
              have e183 := hF.ev 47 rfl rfl (by simp [hdep]) (hI.2.2.2.2.2.2.2.2.2.2.1 (by simp [hdep]))
              have e186 := hF.ev 50 rfl rfl (by simp [hdep]) (hI.2.2.2.2.2.2.2.2.2.2.2.1 (by simp [hdep]))
              clear hF hcl hKn hl hwant
              go_simp
              exact hk
            · simp only [List.getElem?_toArray, List.getElem?_cons_zero, List.getElem?_cons_succ, Option.some.injEq, List.append_eq, List.cons_append, List.nil_append] at ho
              subst ho
              simp [Region.binds] at hdep
              obtain rfl : .bool true = u := by simpa using hl
              have e180 := hKn.ev hF 44 rfl rfl rfl (by simp [hdep])
              have e187 := hKn.ev hF 51 rfl rfl rfl (by simp [hdep])
              clear hF hcl hKn hl hwant
              go_simp
              exact hk
            · simp only [List.getElem?_toArray, List.getElem?_cons_zero, List.getElem?_cons_succ, Option.some.injEq, List.append_eq, List.cons_append, List.nil_append] at ho
              subst ho
              simp [Region.binds] at hdep
              obtain rfl : .bool true = u := by simpa using hl
              have e188 := hKn.ev hF 52 rfl rfl rfl (by simp [hdep])
              clear hF hcl hKn hl hwant
              go_simp
              exact hk
            · simp only [List.getElem?_toArray, List.getElem?_cons_zero, List.getElem?_cons_succ, Option.some.injEq, List.append_eq, List.cons_append, List.nil_append] at ho
              subst ho
              simp [Region.binds] at hdep
              obtain rfl : .slice A n c = u := by simpa using hl
              have e0 := hF.ev0 (by kernel_rfl) z0
              clear hF hcl hKn hl hwant
              go_simp
              exact hk
            · simp only [List.getElem?_toArray, List.getElem?_cons_zero, List.getElem?_cons_succ, Option.some.injEq, List.append_eq, List.cons_append, List.nil_append] at ho
              subst ho
              simp [Region.binds] at hdep
              obtain rfl : .slice B nb cb = u := by simpa using hl
              have e1 := hF.ev0 (by kernel_rfl) z1
              clear hF hcl hKn hl hwant
              go_simp
              exact hk
            · simp only [List.getElem?_toArray, List.getElem?_cons_zero, List.getElem?_cons_succ, Option.some.injEq, List.append_eq, List.cons_append, List.nil_append] at ho
              subst ho
              simp [Region.binds] at hdep
              obtain rfl : .slice A n c = u := by simpa using hl
              have e0 := hF.ev0 (by kernel_rfl) z0
              clear hF hcl hKn hl hwant
              go_simp
              exact hk
            · simp only [List.getElem?_toArray, List.getElem?_cons_zero, List.getElem?_cons_succ, Option.some.injEq, List.append_eq, List.cons_append, List.nil_append] at ho
              subst ho
              simp [Region.binds] at hdep
              obtain rfl : .int .i64 n = u := by simpa using hl
              have e192 := hKn.ev hF 56 rfl rfl rfl (by simp [hdep])
              clear hF hcl hKn hl hwant
              go_simp
              exact hk
            · simp at hl
            · simp at hl
            · simp only [List.getElem?_toArray, List.getElem?_cons_zero, List.getElem?_cons_succ, Option.some.injEq, List.append_eq, List.cons_append, List.nil_append] at ho
              subst ho
              simp [Region.binds] at hdep
              obtain rfl : .slice A n c = u := by simpa using hl
              have e0 := hF.ev0 (by kernel_rfl) z0
              clear hF hcl hKn hl hwant
              go_simp
              exact hk
            · simp only [List.getElem?_toArray, List.getElem?_cons_zero, List.getElem?_cons_succ, Option.some.injEq, List.append_eq, List.cons_append, List.nil_append] at ho
              subst ho
              simp [Region.binds] at hdep
              obtain rfl : .slice B nb cb = u := by simpa using hl
              have e1 := hF.ev0 (by kernel_rfl) z1
              clear hF hcl hKn hl hwant
              go_simp
              exact hk
            · simp only [List.getElem?_toArray, List.getElem?_cons_zero, List.getElem?_cons_succ, Option.some.injEq, List.append_eq, List.cons_append, List.nil_append] at ho
              subst ho
              simp [Region.binds] at hdep
              obtain rfl : .slice A n c = u := by simpa using hl
              have e0 := hF.ev0 (by kernel_rfl) z0
              clear hF hcl hKn hl hwant
              go_simp
              exact hk
            · simp only [List.getElem?_toArray, List.getElem?_cons_zero, List.getElem?_cons_succ, Option.some.injEq, List.append_eq, List.cons_append, List.nil_append] at ho
              subst ho
              simp [Region.binds] at hdep
              obtain rfl : .int .i64 n = u := by simpa using hl
              have e198 := hKn.ev hF 62 rfl rfl rfl (by simp [hdep])
              clear hF hcl hKn hl hwant
              go_simp
              exact hk
            · simp at hl
            · simp at hl
            · simp only [List.getElem?_toArray, List.getElem?_cons_zero, List.getElem?_cons_succ, Option.some.injEq, List.append_eq, List.cons_append, List.nil_append] at ho
              subst ho
              simp [Region.binds] at hdep
              obtain rfl : .bool true = u := by simpa using hl
              have hse : (fitsB la (extB b n) == fitsB la (extB b n)) = true := by simp
              have e195 := hF.ev 59 rfl rfl (by simp [hdep]) (hI.2.2.2.2.2.2.2.2.2.2.2.2.2.1 (by simp [hdep]))
              have e201 := hF.ev 65 rfl rfl (by simp [hdep]) (hI.2.2.2.2.2.2.2.2.2.2.2.2.2.2.2.1 (by simp [hdep]))
              clear hF hcl hKn hl hwant
              go_simp
              exact hk
            · simp only [List.getElem?_toArray, List.getElem?_cons_zero, List.getElem?_cons_succ, Option.some.injEq, List.append_eq, List.cons_append, List.nil_append] at ho
              subst ho
              simp [Region.binds] at hdep
              obtain rfl : .bool true = u := by simpa using hl
              have e189 := hKn.ev hF 53 rfl rfl rfl (by simp [hdep])
              have e202 := hKn.ev hF 66 rfl rfl rfl (by simp [hdep])
              clear hF hcl hKn hl hwant
              go_simp
              exact hk
            · simp only [List.getElem?_toArray, List.getElem?_cons_zero, List.getElem?_cons_succ, Option.some.injEq, List.append_eq, List.cons_append, List.nil_append] at ho
              subst ho
              simp [Region.binds] at hdep
              obtain rfl : .bool true = u := by simpa using hl
              have e203 := hKn.ev hF 67 rfl rfl rfl (by simp [hdep])
              clear hF hcl hKn hl hwant
              go_simp
              exact hk
            · simp at hl
            · simp only [List.getElem?_toArray, List.getElem?_cons_zero, List.getElem?_cons_succ, Option.some.injEq, List.append_eq, List.cons_append, List.nil_append] at ho
              subst ho
              simp [Region.binds] at hdep
              obtain rfl : .bool true = u := by simpa using hl
              have e204 := hKn.ev hF 68 rfl rfl rfl (by simp [hdep])
              have e205 := hF.ev 69 rfl rfl (by simp [hdep]) (hI.2.2.2.2.2.2.2.2.2.2.2.2.2.2.2.2 (by simp [hdep]))
              clear hF hcl hKn hl hwant
              go_simp
              exact hk
            · simp only [List.getElem?_toArray, List.getElem?_cons_zero, List.getElem?_cons_succ, Option.some.injEq, List.append_eq, List.cons_append, List.nil_append] at ho
              subst ho
              simp [Region.binds] at hdep
              obtain rfl : .bool true = u := by simpa using hl
              have e206 := hKn.ev hF 70 rfl rfl rfl (by simp [hdep])
              clear hF hcl hKn hl hwant
              go_simp
              exact hk
          · intro D x a wv i o ho hl hD hdep hcl hF hKn hI K hk
            have hi : i < 72 := (Array.getElem?_eq_some_iff.1 ho).1
            rcases (show i = 0 ∨ i = 1 ∨ i = 2 ∨ i = 3 ∨ i = 4 ∨ i = 5 ∨ i = 6 ∨ i = 7 ∨ i = 8 ∨ i = 9 ∨ i = 10 ∨ i = 11 ∨ i = 12 ∨ i = 13 ∨ i = 14 ∨ i = 15 ∨ i = 16 ∨ i = 17 ∨ i = 18 ∨ i = 19 ∨ i = 20 ∨ i = 21 ∨ i = 22 ∨ i = 23 ∨ i = 24 ∨ i = 25 ∨ i = 26 ∨ i = 27 ∨ i = 28 ∨ i = 29 ∨ i = 30 ∨ i = 31 ∨ i = 32 ∨ i = 33 ∨ i = 34 ∨ i = 35 ∨ i = 36 ∨ i = 37 ∨ i = 38 ∨ i = 39 ∨ i = 40 ∨ i = 41 ∨ i = 42 ∨ i = 43 ∨ i = 44 ∨ i = 45 ∨ i = 46 ∨ i = 47 ∨ i = 48 ∨ i = 49 ∨ i = 50 ∨ i = 51 ∨ i = 52 ∨ i = 53 ∨ i = 54 ∨ i = 55 ∨ i = 56 ∨ i = 57 ∨ i = 58 ∨ i = 59 ∨ i = 60 ∨ i = 61 ∨ i = 62 ∨ i = 63 ∨ i = 64 ∨ i = 65 ∨ i = 66 ∨ i = 67 ∨ i = 68 ∨ i = 69 ∨ i = 70 ∨ i = 71 by omega) with rfl | rfl | rfl | rfl | rfl | rfl | rfl | rfl | rfl | rfl | rfl | rfl | rfl | rfl | rfl | rfl | rfl | rfl | rfl | rfl | rfl | rfl | rfl | rfl | rfl | rfl | rfl | rfl | rfl | rfl | rfl | rfl | rfl | rfl | rfl | rfl | rfl | rfl | rfl | rfl | rfl | rfl | rfl | rfl | rfl | rfl | rfl | rfl | rfl | rfl | rfl | rfl | rfl | rfl | rfl | rfl | rfl | rfl | rfl | rfl | rfl | rfl | rfl | rfl | rfl | rfl | rfl | rfl | rfl | rfl | rfl | rfl
            · exact absurd rfl (hl _)
            · simp only [List.getElem?_toArray, List.getElem?_cons_zero, List.getElem?_cons_succ, Option.some.injEq, List.append_eq, List.cons_append, List.nil_append] at ho
              subst ho
              simp [Region.binds] at hdep
              have e136 := hKn.ev hF 0 rfl rfl rfl (by simp [hdep])
              clear hF hcl hKn hl
              go_simp
              refine (valid_any _ _ _ _ _ _ _ _ _ _ _).mono ?_
              rintro e w6 ⟨rfl, hb9⟩
              exact hk _ _ ⟨below_next hI.1 hb9, Vals.put, hI.2.2.1.ins 1 _ (by decide), (hI.2.2.2.1.below hb9).ins 1 _ (by decide), (hI.2.2.2.2.1.below hb9).ins 1 _ (by decide), (hI.2.2.2.2.2.1.below hb9).ins 1 _ (by decide), (hI.2.2.2.2.2.2.1.below hb9).ins 1 _ (by decide), hI.2.2.2.2.2.2.2.1.ins 1 _ (by decide), hI.2.2.2.2.2.2.2.2.1.ins 1 _ (by decide), hI.2.2.2.2.2.2.2.2.2.1.ins 1 _ (by decide), hI.2.2.2.2.2.2.2.2.2.2.1.ins 1 _ (by decide), hI.2.2.2.2.2.2.2.2.2.2.2.1.ins 1 _ (by decide), (hI.2.2.2.2.2.2.2.2.2.2.2.2.1.below hb9).ins 1 _ (by decide), hI.2.2.2.2.2.2.2.2.2.2.2.2.2.1.ins 1 _ (by decide), (hI.2.2.2.2.2.2.2.2.2.2.2.2.2.2.1.below hb9).ins 1 _ (by decide), hI.2.2.2.2.2.2.2.2.2.2.2.2.2.2.2.1.ins 1 _ (by decide), hI.2.2.2.2.2.2.2.2.2.2.2.2.2.2.2.2.ins 1 _ (by decide)⟩
            · exact absurd rfl (hl _)
            · simp only [List.getElem?_toArray, List.getElem?_cons_zero, List.getElem?_cons_succ, Option.some.injEq, List.append_eq, List.cons_append, List.nil_append] at ho
              subst ho
              simp [Region.binds] at hdep
              have e138 := hKn.ev hF 2 rfl rfl rfl (by simp [hdep])
              clear hF hcl hKn hl
              go_simp
              refine (rvalid_any _ _ _ _ _ _ _ _ _ _ _).mono ?_
              rintro e w6 ⟨rfl, hb9⟩
              exact hk _ _ ⟨below_next hI.1 hb9, hI.2.1.ins 3 _ (by decide), Vals.put, (hI.2.2.2.1.below hb9).ins 3 _ (by decide), (hI.2.2.2.2.1.below hb9).ins 3 _ (by decide), (hI.2.2.2.2.2.1.below hb9).ins 3 _ (by decide), (hI.2.2.2.2.2.2.1.below hb9).ins 3 _ (by decide), hI.2.2.2.2.2.2.2.1.ins 3 _ (by decide), hI.2.2.2.2.2.2.2.2.1.ins 3 _ (by decide), hI.2.2.2.2.2.2.2.2.2.1.ins 3 _ (by decide), hI.2.2.2.2.2.2.2.2.2.2.1.ins 3 _ (by decide), hI.2.2.2.2.2.2.2.2.2.2.2.1.ins 3 _ (by decide), (hI.2.2.2.2.2.2.2.2.2.2.2.2.1.below hb9).ins 3 _ (by decide), hI.2.2.2.2.2.2.2.2.2.2.2.2.2.1.ins 3 _ (by decide), (hI.2.2.2.2.2.2.2.2.2.2.2.2.2.2.1.below hb9).ins 3 _ (by decide), hI.2.2.2.2.2.2.2.2.2.2.2.2.2.2.2.1.ins 3 _ (by decide), hI.2.2.2.2.2.2.2.2.2.2.2.2.2.2.2.2.ins 3 _ (by decide)⟩
            · exact absurd rfl (hl _)
            · exact absurd rfl (hl _)
            · exact absurd rfl (hl _)
            · exact absurd rfl (hl _)
            · simp only [List.getElem?_toArray, List.getElem?_cons_zero, List.getElem?_cons_succ, Option.some.injEq, List.append_eq, List.cons_append, List.nil_append] at ho
              subst ho
              simp [Region.binds] at hdep
              have e142 := hKn.ev hF 6 rfl rfl rfl (by simp [hdep])
              have e143 := hKn.ev hF 7 rfl rfl rfl (by simp [hdep])
              clear hF hcl hKn hl
              go_simp
              refine (extend_any _ _ _ la _ _ HN.out (HSR.out.below hI.1) (by omega)).mono ?_
              rintro e w6 ⟨A9, rfl, own9, hb9⟩
              exact hk _ _ ⟨below_next hI.1 hb9, hI.2.1.ins 8 _ (by decide), hI.2.2.1.ins 8 _ (by decide), Outs.put (Nat.le_refl _) own9.sl, (hI.2.2.2.2.1.below hb9).ins 8 _ (by decide), (hI.2.2.2.2.2.1.below hb9).ins 8 _ (by decide), (hI.2.2.2.2.2.2.1.below hb9).ins 8 _ (by decide), hI.2.2.2.2.2.2.2.1.ins 8 _ (by decide), hI.2.2.2.2.2.2.2.2.1.ins 8 _ (by decide), hI.2.2.2.2.2.2.2.2.2.1.ins 8 _ (by decide), hI.2.2.2.2.2.2.2.2.2.2.1.ins 8 _ (by decide), hI.2.2.2.2.2.2.2.2.2.2.2.1.ins 8 _ (by decide), (hI.2.2.2.2.2.2.2.2.2.2.2.2.1.below hb9).ins 8 _ (by decide), hI.2.2.2.2.2.2.2.2.2.2.2.2.2.1.ins 8 _ (by decide), (hI.2.2.2.2.2.2.2.2.2.2.2.2.2.2.1.below hb9).ins 8 _ (by decide), hI.2.2.2.2.2.2.2.2.2.2.2.2.2.2.2.1.ins 8 _ (by decide), hI.2.2.2.2.2.2.2.2.2.2.2.2.2.2.2.2.ins 8 _ (by decide)⟩
            · exact absurd rfl (hl _)
            · exact absurd rfl (hl _)
            · exact absurd rfl (hl _)
            · simp only [List.getElem?_toArray, List.getElem?_cons_zero, List.getElem?_cons_succ, Option.some.injEq, List.append_eq, List.cons_append, List.nil_append] at ho
              subst ho
              simp [Region.binds] at hdep
              have e146 := hKn.ev hF 10 rfl rfl rfl (by simp [hdep])
              have e147 := hKn.ev hF 11 rfl rfl rfl (by simp [hdep])
              clear hF hcl hKn hl
              go_simp
              refine (rextend_any _ _ _ la _ _ HN.out (HSR.out.below hI.1) (by omega)).mono ?_
              rintro e w6 ⟨A9, c9, rfl, own9, hb9⟩
              exact hk _ _ ⟨below_next hI.1 hb9, hI.2.1.ins 12 _ (by decide), hI.2.2.1.ins 12 _ (by decide), (hI.2.2.2.1.below hb9).ins 12 _ (by decide), Outs.put (own_cap own9) (Sl.of_own own9), (hI.2.2.2.2.2.1.below hb9).ins 12 _ (by decide), (hI.2.2.2.2.2.2.1.below hb9).ins 12 _ (by decide), hI.2.2.2.2.2.2.2.1.ins 12 _ (by decide), hI.2.2.2.2.2.2.2.2.1.ins 12 _ (by decide), hI.2.2.2.2.2.2.2.2.2.1.ins 12 _ (by decide), hI.2.2.2.2.2.2.2.2.2.2.1.ins 12 _ (by decide), hI.2.2.2.2.2.2.2.2.2.2.2.1.ins 12 _ (by decide), (hI.2.2.2.2.2.2.2.2.2.2.2.2.1.below hb9).ins 12 _ (by decide), hI.2.2.2.2.2.2.2.2.2.2.2.2.2.1.ins 12 _ (by decide), (hI.2.2.2.2.2.2.2.2.2.2.2.2.2.2.1.below hb9).ins 12 _ (by decide), hI.2.2.2.2.2.2.2.2.2.2.2.2.2.2.2.1.ins 12 _ (by decide), hI.2.2.2.2.2.2.2.2.2.2.2.2.2.2.2.2.ins 12 _ (by decide)⟩
            · exact absurd rfl (hl _)
            · exact absurd rfl (hl _)
            · exact absurd rfl (hl _)
            · exact absurd rfl (hl _)
            · exact absurd rfl (hl _)
            · exact absurd rfl (hl _)
            · simp only [List.getElem?_toArray, List.getElem?_cons_zero, List.getElem?_cons_succ, Option.some.injEq, List.append_eq, List.cons_append, List.nil_append] at ho
              subst ho
              simp [Region.binds] at hdep
              have e153 := hKn.ev hF 17 rfl rfl rfl (by simp [hdep])
              have e154 := hKn.ev hF 18 rfl rfl rfl (by simp [hdep])
              clear hF hcl hKn hl
              go_simp
              refine (and_any _ _ _ la _ _ _ b _ HN.out (HSR.out.below hI.1) (by omega) hc HNB.out (HSB.out.below hI.1) (by omega)).mono ?_
              rintro e w6 ⟨A9, c9, rfl, own9, hb9⟩
              exact hk _ _ ⟨below_next hI.1 hb9, hI.2.1.ins 19 _ (by decide), hI.2.2.1.ins 19 _ (by decide), (hI.2.2.2.1.below hb9).ins 19 _ (by decide), (hI.2.2.2.2.1.below hb9).ins 19 _ (by decide), Outs.put (own_cap own9) (Sl.of_own own9), (hI.2.2.2.2.2.2.1.below hb9).ins 19 _ (by decide), hI.2.2.2.2.2.2.2.1.ins 19 _ (by decide), hI.2.2.2.2.2.2.2.2.1.ins 19 _ (by decide), hI.2.2.2.2.2.2.2.2.2.1.ins 19 _ (by decide), hI.2.2.2.2.2.2.2.2.2.2.1.ins 19 _ (by decide), hI.2.2.2.2.2.2.2.2.2.2.2.1.ins 19 _ (by decide), (hI.2.2.2.2.2.2.2.2.2.2.2.2.1.below hb9).ins 19 _ (by decide), hI.2.2.2.2.2.2.2.2.2.2.2.2.2.1.ins 19 _ (by decide), (hI.2.2.2.2.2.2.2.2.2.2.2.2.2.2.1.below hb9).ins 19 _ (by decide), hI.2.2.2.2.2.2.2.2.2.2.2.2.2.2.2.1.ins 19 _ (by decide), hI.2.2.2.2.2.2.2.2.2.2.2.2.2.2.2.2.ins 19 _ (by decide)⟩
            · exact absurd rfl (hl _)
            · exact absurd rfl (hl _)
            · exact absurd rfl (hl _)
            · simp only [List.getElem?_toArray, List.getElem?_cons_zero, List.getElem?_cons_succ, Option.some.injEq, List.append_eq, List.cons_append, List.nil_append] at ho
              subst ho
              simp [Region.binds] at hdep
              have e157 := hKn.ev hF 21 rfl rfl rfl (by simp [hdep])
              have e158 := hKn.ev hF 22 rfl rfl rfl (by simp [hdep])
              clear hF hcl hKn hl
              go_simp
              refine (rand_any _ _ _ la _ _ _ b _ HN.out (HSR.out.below hI.1) (by omega) HNB.out (HSB.out.below hI.1) (by omega)).mono ?_
              rintro e w6 ⟨A9, c9, rfl, own9, hb9⟩
              exact hk _ _ ⟨below_next hI.1 hb9, hI.2.1.ins 23 _ (by decide), hI.2.2.1.ins 23 _ (by decide), (hI.2.2.2.1.below hb9).ins 23 _ (by decide), (hI.2.2.2.2.1.below hb9).ins 23 _ (by decide), (hI.2.2.2.2.2.1.below hb9).ins 23 _ (by decide), Outs.put (own_cap own9) (Sl.of_own own9), hI.2.2.2.2.2.2.2.1.ins 23 _ (by decide), hI.2.2.2.2.2.2.2.2.1.ins 23 _ (by decide), hI.2.2.2.2.2.2.2.2.2.1.ins 23 _ (by decide), hI.2.2.2.2.2.2.2.2.2.2.1.ins 23 _ (by decide), hI.2.2.2.2.2.2.2.2.2.2.2.1.ins 23 _ (by decide), (hI.2.2.2.2.2.2.2.2.2.2.2.2.1.below hb9).ins 23 _ (by decide), hI.2.2.2.2.2.2.2.2.2.2.2.2.2.1.ins 23 _ (by decide), (hI.2.2.2.2.2.2.2.2.2.2.2.2.2.2.1.below hb9).ins 23 _ (by decide), hI.2.2.2.2.2.2.2.2.2.2.2.2.2.2.2.1.ins 23 _ (by decide), hI.2.2.2.2.2.2.2.2.2.2.2.2.2.2.2.2.ins 23 _ (by decide)⟩
            · exact absurd rfl (hl _)
            · exact absurd rfl (hl _)
            · exact absurd rfl (hl _)
            · exact absurd rfl (hl _)
            · exact absurd rfl (hl _)
            · simp only [List.getElem?_toArray, List.getElem?_cons_zero, List.getElem?_cons_succ, Option.some.injEq, List.append_eq, List.cons_append, List.nil_append] at ho
              subst ho
              simp [Region.binds] at hdep
              have e164 := hKn.ev hF 28 rfl rfl rfl (by simp [hdep])
              clear hF hcl hKn hl
              go_simp
              refine (count_any _ _ _ la _ HN.out (HSR.out.below hI.1) (by omega)).mono ?_
              rintro e w6 ⟨rfl, rfl⟩
              exact hk _ _ ⟨hI.1, hI.2.1.ins 29 _ (by decide), hI.2.2.1.ins 29 _ (by decide), hI.2.2.2.1.ins 29 _ (by decide), hI.2.2.2.2.1.ins 29 _ (by decide), hI.2.2.2.2.2.1.ins 29 _ (by decide), hI.2.2.2.2.2.2.1.ins 29 _ (by decide), Vals.put, hI.2.2.2.2.2.2.2.2.1.ins 29 _ (by decide), hI.2.2.2.2.2.2.2.2.2.1.ins 29 _ (by decide), hI.2.2.2.2.2.2.2.2.2.2.1.ins 29 _ (by decide), hI.2.2.2.2.2.2.2.2.2.2.2.1.ins 29 _ (by decide), hI.2.2.2.2.2.2.2.2.2.2.2.2.1.ins 29 _ (by decide), hI.2.2.2.2.2.2.2.2.2.2.2.2.2.1.ins 29 _ (by decide), hI.2.2.2.2.2.2.2.2.2.2.2.2.2.2.1.ins 29 _ (by decide), hI.2.2.2.2.2.2.2.2.2.2.2.2.2.2.2.1.ins 29 _ (by decide), hI.2.2.2.2.2.2.2.2.2.2.2.2.2.2.2.2.ins 29 _ (by decide)⟩
            · exact absurd rfl (hl _)
            · simp only [List.getElem?_toArray, List.getElem?_cons_zero, List.getElem?_cons_succ, Option.some.injEq, List.append_eq, List.cons_append, List.nil_append] at ho
              subst ho
              simp [Region.binds] at hdep
              have e166 := hKn.ev hF 30 rfl rfl rfl (by simp [hdep])
              clear hF hcl hKn hl
              go_simp
              refine (rcount_any _ _ _ la _ HN.out (HSR.out.below hI.1) (by omega)).mono ?_
              rintro e w6 ⟨rfl, rfl⟩
              exact hk _ _ ⟨hI.1, hI.2.1.ins 31 _ (by decide), hI.2.2.1.ins 31 _ (by decide), hI.2.2.2.1.ins 31 _ (by decide), hI.2.2.2.2.1.ins 31 _ (by decide), hI.2.2.2.2.2.1.ins 31 _ (by decide), hI.2.2.2.2.2.2.1.ins 31 _ (by decide), hI.2.2.2.2.2.2.2.1.ins 31 _ (by decide), Vals.put, hI.2.2.2.2.2.2.2.2.2.1.ins 31 _ (by decide), hI.2.2.2.2.2.2.2.2.2.2.1.ins 31 _ (by decide), hI.2.2.2.2.2.2.2.2.2.2.2.1.ins 31 _ (by decide), hI.2.2.2.2.2.2.2.2.2.2.2.2.1.ins 31 _ (by decide), hI.2.2.2.2.2.2.2.2.2.2.2.2.2.1.ins 31 _ (by decide), hI.2.2.2.2.2.2.2.2.2.2.2.2.2.2.1.ins 31 _ (by decide), hI.2.2.2.2.2.2.2.2.2.2.2.2.2.2.2.1.ins 31 _ (by decide), hI.2.2.2.2.2.2.2.2.2.2.2.2.2.2.2.2.ins 31 _ (by decide)⟩
            · exact absurd rfl (hl _)
            · exact absurd rfl (hl _)
            · exact absurd rfl (hl _)
            · exact absurd rfl (hl _)
            · exact absurd rfl (hl _)
            · exact absurd rfl (hl _)
            · exact absurd rfl (hl _)
            · exact absurd rfl (hl _)
            · exact absurd rfl (hl _)
            · exact absurd rfl (hl _)
            · simp only [List.getElem?_toArray, List.getElem?_cons_zero, List.getElem?_cons_succ, Option.some.injEq, List.append_eq, List.cons_append, List.nil_append] at ho
              subst ho
              simp [Region.binds] at hdep
              have e176 := hKn.ev hF 40 rfl rfl rfl (by simp [hdep])
              have e177 := hKn.ev hF 41 rfl rfl rfl (by simp [hdep])
              have hs2 := HS2.out.below hI.1
              have hs3 := HS3.out.below hI.1
              clear hF hcl hKn hl
              go_simp
              refine (ints_same _ _ _ _ _ (bl.map Int.ofNat) _ (by simp) hs2 (by omega) hs3).mono ?_
              rintro e w6 ⟨rfl, hb9⟩
              exact hk _ _ ⟨below_next hI.1 hb9, hI.2.1.ins 42 _ (by decide), hI.2.2.1.ins 42 _ (by decide), (hI.2.2.2.1.below hb9).ins 42 _ (by decide), (hI.2.2.2.2.1.below hb9).ins 42 _ (by decide), (hI.2.2.2.2.2.1.below hb9).ins 42 _ (by decide), (hI.2.2.2.2.2.2.1.below hb9).ins 42 _ (by decide), hI.2.2.2.2.2.2.2.1.ins 42 _ (by decide), hI.2.2.2.2.2.2.2.2.1.ins 42 _ (by decide), Vals.put, hI.2.2.2.2.2.2.2.2.2.2.1.ins 42 _ (by decide), hI.2.2.2.2.2.2.2.2.2.2.2.1.ins 42 _ (by decide), (hI.2.2.2.2.2.2.2.2.2.2.2.2.1.below hb9).ins 42 _ (by decide), hI.2.2.2.2.2.2.2.2.2.2.2.2.2.1.ins 42 _ (by decide), (hI.2.2.2.2.2.2.2.2.2.2.2.2.2.2.1.below hb9).ins 42 _ (by decide), hI.2.2.2.2.2.2.2.2.2.2.2.2.2.2.2.1.ins 42 _ (by decide), hI.2.2.2.2.2.2.2.2.2.2.2.2.2.2.2.2.ins 42 _ (by decide)⟩
            · exact absurd rfl (hl _)
            · exact absurd rfl (hl _)
            · exact absurd rfl (hl _)
            · exact absurd rfl (hl _)
            · simp only [List.getElem?_toArray, List.getElem?_cons_zero, List.getElem?_cons_succ, Option.some.injEq, List.append_eq, List.cons_append, List.nil_append] at ho
              subst ho
              simp [Region.binds] at hdep
              have e181 := hKn.ev hF 45 rfl rfl rfl (by simp [hdep])
              have e182 := hKn.ev hF 46 rfl rfl rfl (by simp [hdep])
              clear hF hcl hKn hl
              go_simp
              refine (fits_any _ _ _ la _ _ _ b _ HN.out (HSR.out.below hI.1) (by omega) hc HNB.out (HSB.out.below hI.1) (by omega)).mono ?_
              rintro e w6 ⟨rfl, hb9⟩
              exact hk _ _ ⟨below_next hI.1 hb9, hI.2.1.ins 47 _ (by decide), hI.2.2.1.ins 47 _ (by decide), (hI.2.2.2.1.below hb9).ins 47 _ (by decide), (hI.2.2.2.2.1.below hb9).ins 47 _ (by decide), (hI.2.2.2.2.2.1.below hb9).ins 47 _ (by decide), (hI.2.2.2.2.2.2.1.below hb9).ins 47 _ (by decide), hI.2.2.2.2.2.2.2.1.ins 47 _ (by decide), hI.2.2.2.2.2.2.2.2.1.ins 47 _ (by decide), hI.2.2.2.2.2.2.2.2.2.1.ins 47 _ (by decide), Vals.put, hI.2.2.2.2.2.2.2.2.2.2.2.1.ins 47 _ (by decide), (hI.2.2.2.2.2.2.2.2.2.2.2.2.1.below hb9).ins 47 _ (by decide), hI.2.2.2.2.2.2.2.2.2.2.2.2.2.1.ins 47 _ (by decide), (hI.2.2.2.2.2.2.2.2.2.2.2.2.2.2.1.below hb9).ins 47 _ (by decide), hI.2.2.2.2.2.2.2.2.2.2.2.2.2.2.2.1.ins 47 _ (by decide), hI.2.2.2.2.2.2.2.2.2.2.2.2.2.2.2.2.ins 47 _ (by decide)⟩
            · exact absurd rfl (hl _)
            · exact absurd rfl (hl _)
            · simp only [List.getElem?_toArray, List.getElem?_cons_zero, List.getElem?_cons_succ, Option.some.injEq, List.append_eq, List.cons_append, List.nil_append] at ho
              subst ho
              simp [Region.binds] at hdep
              have e184 := hKn.ev hF 48 rfl rfl rfl (by simp [hdep])
              have e185 := hKn.ev hF 49 rfl rfl rfl (by simp [hdep])
              clear hF hcl hKn hl
              go_simp
              refine (rfits_any _ _ _ la _ _ _ b _ HN.out (HSR.out.below hI.1) (by omega) HNB.out (HSB.out.below hI.1) (by omega)).mono ?_
              rintro e w6 ⟨rfl, hb9⟩
              exact hk _ _ ⟨below_next hI.1 hb9, hI.2.1.ins 50 _ (by decide), hI.2.2.1.ins 50 _ (by decide), (hI.2.2.2.1.below hb9).ins 50 _ (by decide), (hI.2.2.2.2.1.below hb9).ins 50 _ (by decide), (hI.2.2.2.2.2.1.below hb9).ins 50 _ (by decide), (hI.2.2.2.2.2.2.1.below hb9).ins 50 _ (by decide), hI.2.2.2.2.2.2.2.1.ins 50 _ (by decide), hI.2.2.2.2.2.2.2.2.1.ins 50 _ (by decide), hI.2.2.2.2.2.2.2.2.2.1.ins 50 _ (by decide), hI.2.2.2.2.2.2.2.2.2.2.1.ins 50 _ (by decide), Vals.put, (hI.2.2.2.2.2.2.2.2.2.2.2.2.1.below hb9).ins 50 _ (by decide), hI.2.2.2.2.2.2.2.2.2.2.2.2.2.1.ins 50 _ (by decide), (hI.2.2.2.2.2.2.2.2.2.2.2.2.2.2.1.below hb9).ins 50 _ (by decide), hI.2.2.2.2.2.2.2.2.2.2.2.2.2.2.2.1.ins 50 _ (by decide), hI.2.2.2.2.2.2.2.2.2.2.2.2.2.2.2.2.ins 50 _ (by decide)⟩
            · exact absurd rfl (hl _)
            · exact absurd rfl (hl _)
            · exact absurd rfl (hl _)
            · exact absurd rfl (hl _)
            · exact absurd rfl (hl _)
            · exact absurd rfl (hl _)
            · exact absurd rfl (hl _)
            · simp only [List.getElem?_toArray, List.getElem?_cons_zero, List.getElem?_cons_succ, Option.some.injEq, List.append_eq, List.cons_append, List.nil_append] at ho
              subst ho
              simp [Region.binds] at hdep
              have e191 := hKn.ev hF 55 rfl rfl rfl (by simp [hdep])
              have e193 := hKn.ev hF 57 rfl rfl rfl (by simp [hdep])
              clear hF hcl hKn hl
              go_simp
              refine (extN _ (HSB.out.below hI.1)).mono ?_
              rintro e w6 ⟨A9, rfl, own9, hb9⟩
              exact hk _ _ ⟨below_next hI.1 hb9, hI.2.1.ins 58 _ (by decide), hI.2.2.1.ins 58 _ (by decide), (hI.2.2.2.1.below hb9).ins 58 _ (by decide), (hI.2.2.2.2.1.below hb9).ins 58 _ (by decide), (hI.2.2.2.2.2.1.below hb9).ins 58 _ (by decide), (hI.2.2.2.2.2.2.1.below hb9).ins 58 _ (by decide), hI.2.2.2.2.2.2.2.1.ins 58 _ (by decide), hI.2.2.2.2.2.2.2.2.1.ins 58 _ (by decide), hI.2.2.2.2.2.2.2.2.2.1.ins 58 _ (by decide), hI.2.2.2.2.2.2.2.2.2.2.1.ins 58 _ (by decide), hI.2.2.2.2.2.2.2.2.2.2.2.1.ins 58 _ (by decide), Outs.put (Nat.le_refl _) own9.sl, hI.2.2.2.2.2.2.2.2.2.2.2.2.2.1.ins 58 _ (by decide), (hI.2.2.2.2.2.2.2.2.2.2.2.2.2.2.1.below hb9).ins 58 _ (by decide), hI.2.2.2.2.2.2.2.2.2.2.2.2.2.2.2.1.ins 58 _ (by decide), hI.2.2.2.2.2.2.2.2.2.2.2.2.2.2.2.2.ins 58 _ (by decide)⟩
            · simp only [List.getElem?_toArray, List.getElem?_cons_zero, List.getElem?_cons_succ, Option.some.injEq, List.append_eq, List.cons_append, List.nil_append] at ho
              subst ho
              simp [Region.binds] at hdep
              have e190 := hKn.ev hF 54 rfl rfl rfl (by simp [hdep])
              obtain ⟨Aq, cq, hxq, hcq, hsq⟩ := hI.2.2.2.2.2.2.2.2.2.2.2.2.1 (by simp [hdep])
              have e194 := hF.ev 58 rfl rfl (by simp [hdep]) hxq
              clear hF hcl hKn hl
              go_simp
              refine (fits_any _ _ _ la _ _ _ (extB b n) _ HN.out (HSR.out.below hI.1) (by omega) hc HEN.out hsq (by omega)).mono ?_
              rintro e w6 ⟨rfl, hb9⟩
              exact hk _ _ ⟨below_next hI.1 hb9, hI.2.1.ins 59 _ (by decide), hI.2.2.1.ins 59 _ (by decide), (hI.2.2.2.1.below hb9).ins 59 _ (by decide), (hI.2.2.2.2.1.below hb9).ins 59 _ (by decide), (hI.2.2.2.2.2.1.below hb9).ins 59 _ (by decide), (hI.2.2.2.2.2.2.1.below hb9).ins 59 _ (by decide), hI.2.2.2.2.2.2.2.1.ins 59 _ (by decide), hI.2.2.2.2.2.2.2.2.1.ins 59 _ (by decide), hI.2.2.2.2.2.2.2.2.2.1.ins 59 _ (by decide), hI.2.2.2.2.2.2.2.2.2.2.1.ins 59 _ (by decide), hI.2.2.2.2.2.2.2.2.2.2.2.1.ins 59 _ (by decide), (hI.2.2.2.2.2.2.2.2.2.2.2.2.1.below hb9).ins 59 _ (by decide), Vals.put, (hI.2.2.2.2.2.2.2.2.2.2.2.2.2.2.1.below hb9).ins 59 _ (by decide), hI.2.2.2.2.2.2.2.2.2.2.2.2.2.2.2.1.ins 59 _ (by decide), hI.2.2.2.2.2.2.2.2.2.2.2.2.2.2.2.2.ins 59 _ (by decide)⟩
            · exact absurd rfl (hl _)
            · exact absurd rfl (hl _)
            · exact absurd rfl (hl _)
            · exact absurd rfl (hl _)
            · simp only [List.getElem?_toArray, List.getElem?_cons_zero, List.getElem?_cons_succ, Option.some.injEq, List.append_eq, List.cons_append, List.nil_append] at ho
              subst ho
              simp [Region.binds] at hdep
              have e197 := hKn.ev hF 61 rfl rfl rfl (by simp [hdep])
              have e199 := hKn.ev hF 63 rfl rfl rfl (by simp [hdep])
              clear hF hcl hKn hl
              go_simp
              refine (rextN _ (HSB.out.below hI.1)).mono ?_
              rintro e w6 ⟨A9, c9, rfl, own9, hb9⟩
              exact hk _ _ ⟨below_next hI.1 hb9, hI.2.1.ins 64 _ (by decide), hI.2.2.1.ins 64 _ (by decide), (hI.2.2.2.1.below hb9).ins 64 _ (by decide), (hI.2.2.2.2.1.below hb9).ins 64 _ (by decide), (hI.2.2.2.2.2.1.below hb9).ins 64 _ (by decide), (hI.2.2.2.2.2.2.1.below hb9).ins 64 _ (by decide), hI.2.2.2.2.2.2.2.1.ins 64 _ (by decide), hI.2.2.2.2.2.2.2.2.1.ins 64 _ (by decide), hI.2.2.2.2.2.2.2.2.2.1.ins 64 _ (by decide), hI.2.2.2.2.2.2.2.2.2.2.1.ins 64 _ (by decide), hI.2.2.2.2.2.2.2.2.2.2.2.1.ins 64 _ (by decide), (hI.2.2.2.2.2.2.2.2.2.2.2.2.1.below hb9).ins 64 _ (by decide), hI.2.2.2.2.2.2.2.2.2.2.2.2.2.1.ins 64 _ (by decide), Outs.put (own_cap own9) (Sl.of_own own9), hI.2.2.2.2.2.2.2.2.2.2.2.2.2.2.2.1.ins 64 _ (by decide), hI.2.2.2.2.2.2.2.2.2.2.2.2.2.2.2.2.ins 64 _ (by decide)⟩
            · simp only [List.getElem?_toArray, List.getElem?_cons_zero, List.getElem?_cons_succ, Option.some.injEq, List.append_eq, List.cons_append, List.nil_append] at ho
              subst ho
              simp [Region.binds] at hdep
              have e196 := hKn.ev hF 60 rfl rfl rfl (by simp [hdep])
              obtain ⟨Aq, cq, hxq, hcq, hsq⟩ := hI.2.2.2.2.2.2.2.2.2.2.2.2.2.2.1 (by simp [hdep])
              have e200 := hF.ev 64 rfl rfl (by simp [hdep]) hxq
              clear hF hcl hKn hl
              go_simp
              refine (rfits_any _ _ _ la _ _ _ (extB b n) _ HN.out (HSR.out.below hI.1) (by omega) HEN.out hsq (by omega)).mono ?_
              rintro e w6 ⟨rfl, hb9⟩
              exact hk _ _ ⟨below_next hI.1 hb9, hI.2.1.ins 65 _ (by decide), hI.2.2.1.ins 65 _ (by decide), (hI.2.2.2.1.below hb9).ins 65 _ (by decide), (hI.2.2.2.2.1.below hb9).ins 65 _ (by decide), (hI.2.2.2.2.2.1.below hb9).ins 65 _ (by decide), (hI.2.2.2.2.2.2.1.below hb9).ins 65 _ (by decide), hI.2.2.2.2.2.2.2.1.ins 65 _ (by decide), hI.2.2.2.2.2.2.2.2.1.ins 65 _ (by decide), hI.2.2.2.2.2.2.2.2.2.1.ins 65 _ (by decide), hI.2.2.2.2.2.2.2.2.2.2.1.ins 65 _ (by decide), hI.2.2.2.2.2.2.2.2.2.2.2.1.ins 65 _ (by decide), (hI.2.2.2.2.2.2.2.2.2.2.2.2.1.below hb9).ins 65 _ (by decide), hI.2.2.2.2.2.2.2.2.2.2.2.2.2.1.ins 65 _ (by decide), (hI.2.2.2.2.2.2.2.2.2.2.2.2.2.2.1.below hb9).ins 65 _ (by decide), Vals.put, hI.2.2.2.2.2.2.2.2.2.2.2.2.2.2.2.2.ins 65 _ (by decide)⟩
            · exact absurd rfl (hl _)
            · exact absurd rfl (hl _)
            · exact absurd rfl (hl _)
            · simp only [List.getElem?_toArray, List.getElem?_cons_zero, List.getElem?_cons_succ, Option.some.injEq, List.append_eq, List.cons_append, List.nil_append] at ho
              subst ho
              simp [Region.binds] at hdep
              clear hF hcl hKn hl
              go_simp
              refine (awake15 _).mono ?_
              rintro e w6 ⟨rfl, hb9⟩
              exact hk _ _ ⟨below_next hI.1 hb9, hI.2.1.ins 69 _ (by decide), hI.2.2.1.ins 69 _ (by decide), (hI.2.2.2.1.below hb9).ins 69 _ (by decide), (hI.2.2.2.2.1.below hb9).ins 69 _ (by decide), (hI.2.2.2.2.2.1.below hb9).ins 69 _ (by decide), (hI.2.2.2.2.2.2.1.below hb9).ins 69 _ (by decide), hI.2.2.2.2.2.2.2.1.ins 69 _ (by decide), hI.2.2.2.2.2.2.2.2.1.ins 69 _ (by decide), hI.2.2.2.2.2.2.2.2.2.1.ins 69 _ (by decide), hI.2.2.2.2.2.2.2.2.2.2.1.ins 69 _ (by decide), hI.2.2.2.2.2.2.2.2.2.2.2.1.ins 69 _ (by decide), (hI.2.2.2.2.2.2.2.2.2.2.2.2.1.below hb9).ins 69 _ (by decide), hI.2.2.2.2.2.2.2.2.2.2.2.2.2.1.ins 69 _ (by decide), (hI.2.2.2.2.2.2.2.2.2.2.2.2.2.2.1.below hb9).ins 69 _ (by decide), hI.2.2.2.2.2.2.2.2.2.2.2.2.2.2.2.1.ins 69 _ (by decide), Vals.put⟩
            · exact absurd rfl (hl _)
            · exact absurd rfl (hl _)
          · intro D x w9 hD hKn hI
            have HBF := Lib.hid hI.1
            have x71 := hKn 71 _ rfl (hD 71 (by decide))
            clear hI hD hKn
            rw [HA0.out]
            simp [putsAll, List.range, List.range.loop, Act.put, x71]
            go_wp2
            go_ret
            exact ⟨rfl, below_next (below_next HW4.out HBE.out) HBF.out⟩
end Go.Proofs.Ytamhigknobdloaa
