/- The walk of the law MaskFits; no condition but that the slices are readable. -/
import Derived.Test.YtamhigknobdloaaMv
import Derived.Test.YtamhigknobdloaaPm
namespace Go.Proofs.Ytamhigknobdloaa
open Go.RowKit
set_option linter.unusedVariables false

theorem clampN_nat (n : Nat) (h : n ≤ 1024) : clampN n = n := by unfold clampN; omega

set_option maxHeartbeats 3200000 in
set_option maxRecDepth 100000 in
theorem maskFits_walk (A : Option Addr) (n c : Nat) (a : List UInt8) (Z : Option Addr) (nz cz : Nat) (m : List UInt8) (w : World) (hn : a.length = n) (hs : Sl w A (a.map bv)) (hcap : n ≤ c) (hn63 : n ≤ 9223372036854775807)
    (hnz : m.length = nz) (hz : Sl w Z (m.map bv)) (hz63 : nz ≤ 9223372036854775807) :
    Calls Try.prog 8 #[.slice A n c, .slice Z nz cz] w fun e w' => e = .returned (.bool true) ∧ Below w.heap.size w w' := by
  by_cases hbig : 200 < n
  · have hd : decide ((200 : Int) < n) = true := by simp; omega
    go_enter Try.func8, Try.ntmps8
    go_wp2_with fail
    refine (awake15 _).mono ?_
    rintro e w1 ⟨rfl, hb⟩
    go_wp2
    go_ret
    exact ⟨rfl, hb⟩
  by_cases hbig2 : 200 < nz
  · have hd : decide ((200 : Int) < n) = false := by simp; omega
    have hd2 : decide ((200 : Int) < nz) = true := by simp; omega
    go_enter Try.func8, Try.ntmps8
    go_wp2_with fail
    refine (awake15 _).mono ?_
    rintro e w1 ⟨rfl, hb⟩
    go_wp2
    go_ret
    exact ⟨rfl, hb⟩
  have hd : decide ((200 : Int) < n) = false := by simp; omega
  have hd2 : decide ((200 : Int) < nz) = false := by simp; omega
  have hX : (extB m n).length = n := extB_length m n
  have hax : a.length = (extB m n).length := by rw [hX]; exact hn
  obtain ⟨X, hXe⟩ : ∃ X, X = extB m n := ⟨_, rfl⟩
  rw [← hXe] at hX hax
  have hBl : (andB a X).length = n := by rw [andB_length]; omega
  have F1 := fits_eq a X hax
  have F2 := fits_ne a X hax 0
  have F3 := fits_left a X hax
  have F4 := count_left a X hax
  have F5 := count_ext_nil n
  have hlen : (clearB X (intsN (setBits (andB a X)))).length = n := by rw [clearB_length]; exact hX
  have hbn := bitsN_all (andB a X)
  have hib := ib_bits (andB a X) (countB (andB a X)) (by omega)
  rw [hbn] at hib
  have hcs : (setBits (andB a X)).length = countB (andB a X) := (countB_eq _).symm
  obtain ⟨Bd, hBd⟩ : ∃ B, B = andB a X := ⟨_, rfl⟩
  rw [← hBd] at hBl F1 F3 F4 hlen hbn hib hcs
  have hcX := countB_le X
  have hcB := countB_le Bd
  have hcl := countB_le (clearB X (intsN (setBits Bd)))
  have HXE := Lib.hid hXe
  have HBD := Lib.hid hBd
  have HX := Lib.hid hX
  have HN := Lib.hid hn
  have HNZ := Lib.hid hnz
  have HBL := Lib.hid hBl
  have HF1 := Lib.hid F1
  have HF2 := Lib.hid F2
  have HF3 := Lib.hid F3
  have HF4 := Lib.hid F4
  have HF5 := Lib.hid F5
  have HLEN := Lib.hid hlen
  have HBN := Lib.hid hbn
  have HIB := Lib.hid hib
  have HCS := Lib.hid hcs
  have hcBn : countB Bd ≤ 1600 := by omega
  have hcXn : countB X ≤ 1600 := by omega
  have hcln : countB (clearB X (intsN (setBits Bd))) ≤ 1600 := by omega
  clear hXe hBd hX hn hnz hBl F1 F2 F3 F4 F5 hlen hbn hib hcs hax hcX hcB hcl
  have hself : ((n : Int) != n) = false := by simp
  go_enter Try.func8, Try.ntmps8
  go_wp2_with fail
  refine (extend_any _ _ _ m n _ HNZ.out hz (by omega)).mono ?_
  rw [clampN_nat n (by omega), ← HXE.out]
  rintro e w1 ⟨A1, rfl, own1, hb1⟩
  have hx1 := own1.sl
  go_wp2_with fail
  refine (and_any _ _ _ a _ _ _ X _ HN.out (hs.below hb1) (by omega) hcap HX.out hx1 (by omega)).mono ?_
  rw [Nat.min_self, ← HBD.out]
  rintro e w2 ⟨A2, c2, rfl, own2, hb2⟩
  have hx2 := hx1.below hb2
  have hB2 := Sl.of_own own2
  obtain ⟨zz, hzz⟩ : ∃ z, z = (countB Bd == 0) := ⟨_, rfl⟩
  have hI : ((countB Bd : Int) == 0) = zz := by rw [hzz, Bool.eq_iff_iff]; simp
  have HZZ := Lib.hid hzz
  clear hzz
  go_wp2_with fail
  refine (fits_any _ _ _ a _ _ _ X _ HN.out ((hs.below hb1).below hb2) (by omega) hcap HX.out hx2 (by omega)).mono ?_
  rw [HF1.out, ← HZZ.out]
  rintro e w3 ⟨rfl, hb3⟩
  have hB3 := hB2.below hb3
  have hx3 := hx2.below hb3
  go_wp2_with fail
  refine (count_any _ _ _ Bd _ HBL.out hB3 (by omega)).mono ?_
  rintro e w4 ⟨rfl, rfl⟩
  have hnil : w3.ownsRow w3.heap.size 5 1 (.slice none 0 0) 0 [] := World.ownsRow_nil _ _ _ _
  obtain ⟨A4, c4, w4, hr4, own4, hg4⟩ := run_appendS (P := Try.prog) w3.heap.size 27 27 5 _ 1 1 Try.underlying27 el5 none 0 0 [] hnil A1 n n (X.map bv) hx3 (by rw [List.length_map, HX.out]; omega) (oneCell_bv X) (by simp only [maxLen]; omega) (by omega) (Nat.le_refl _)
  rw [Nat.zero_add, List.nil_append] at own4
  rw [Nat.zero_add] at hr4
  have hb4 : Below w3.heap.size w3 w4 := (Below.refl _ _).grown hg4 (Nat.le_refl _) (fun k hk => by cases hk)
  obtain ⟨A5, c5, w5, hr5, own5, hg5⟩ := run_append1 (P := Try.prog) w3.heap.size 27 27 5 _ 1 Try.underlying27 el5 (by omega) A4 n c4 _ own4 (.int .u8 0) rfl (by omega) hb4.size
  have hb5 : Below w3.heap.size w3 w5 := hb4.grown hg5 hb4.size (fun k hk => (own4.lt k hk).1)
  have hX0 : (X ++ [0]).length = n + 1 := by rw [List.length_append, HX.out]; rfl
  have hy5 : Sl w5 A5 ((X ++ [0]).map bv) := by rw [List.map_append]; exact Sl.of_own own5
  have HX0 := Lib.hid hX0
  have HB5 := Lib.hid hb5
  clear own4 own5 hg4 hg5 hb4 hb5 hnil hX0
  have ha3 := ((hs.below hb1).below hb2).below hb3
  have ha5 := ha3.below HB5.out
  have hx5 := hx3.below HB5.out
  have hB5 := hB3.below HB5.out
  go_wp2_with fail
  refine (fits_any _ _ _ a _ _ _ (X ++ [0]) _ HN.out ha5 (by omega) hcap HX0.out hy5 (by omega)).mono ?_
  rw [HF2.out]
  rintro e w6 ⟨rfl, hb6⟩
  have ha6 := ha5.below hb6
  have hx6 := hx5.below hb6
  have hB6 := hB5.below hb6
  go_wp2_with fail
  refine (count_any _ _ _ Bd _ HBL.out hB6 (by omega)).mono ?_
  rintro e w7 ⟨rfl, rfl⟩
  go_wp2_with fail
  refine (bits_yes _ _ _ Bd (countB Bd) _ HBL.out hB6 (by omega) (Nat.le_refl _)).mono ?_
  rw [HBN.out, natv_ints]
  rintro e w7 ⟨A7, c7, rfl, own7, hb7⟩
  have hL7 := Sl.of_own own7
  have ha7 := ha6.below hb7
  have hx7 := hx6.below hb7
  have hB7 := hB6.below hb7
  go_wp2_with fail
  refine (clear_any _ _ _ X _ _ _ (intsN (setBits Bd)) _ HX.out hx7 (by omega) (by rw [intsN_length]; exact HCS.out) hL7 (by omega) HIB.out).mono ?_
  rintro e w8 ⟨A8, c8, rfl, own8, hb8⟩
  have hl8 := Sl.of_own own8
  have ha8 := ha7.below hb8
  have hx8 := hx7.below hb8
  have hB8 := hB7.below hb8
  go_wp2_with fail
  refine (fits_any _ _ _ a _ _ _ (clearB X (intsN (setBits Bd))) _ HN.out ha8 (by omega) hcap HLEN.out hl8 (by omega)).mono ?_
  rw [HF3.out]
  rintro e w9 ⟨rfl, hb9⟩
  have hl9 := hl8.below hb9
  have hx9 := hx8.below hb9
  have hB9 := hB8.below hb9
  go_wp2_with fail
  refine (count_any _ _ _ (clearB X (intsN (setBits Bd))) _ HLEN.out hl9 (by omega)).mono ?_
  rintro e w10 ⟨rfl, rfl⟩
  go_wp2_with fail
  refine (count_any _ _ _ Bd _ HBL.out hB9 (by omega)).mono ?_
  rintro e w10 ⟨rfl, rfl⟩
  go_wp2_with fail
  refine (count_any _ _ _ X _ HX.out hx9 (by omega)).mono ?_
  rintro e w10 ⟨rfl, rfl⟩
  have hsum : ((countB (clearB X (intsN (setBits Bd))) : Int) + countB Bd == countB X) = true := by rw [beq_iff_eq]; have := HF4.out; omega
  go_wp2_with fail
  refine (extend_any none 0 0 [] n _ rfl Sl.nil (by omega)).mono ?_
  rw [clampN_nat n (by omega)]
  rintro e w11 ⟨A11, rfl, own11, hb11⟩
  have hx11 := own11.sl
  go_wp2_with fail
  refine (count_any _ _ _ (extB [] n) _ (extB_length _ _) hx11 (by omega)).mono ?_
  rw [HF5.out]
  rintro e w12 ⟨rfl, rfl⟩
  have h8 : (((8 * n : Nat) : Int) == 8 * (n : Int)) = true := by rw [beq_iff_eq]; omega
  go_wp2_with fail
  refine (awake15 _).mono ?_
  rintro e w13 ⟨rfl, hb13⟩
  go_wp2
  go_ret
  exact ⟨rfl, below_next (below_next (below_next (below_next (below_next (below_next (below_next (below_next (below_next (below_next hb1 hb2) hb3) HB5.out) hb6) hb7) hb8) hb9) hb11) hb13) (Below.refl _ _)⟩
end Go.Proofs.Ytamhigknobdloaa
