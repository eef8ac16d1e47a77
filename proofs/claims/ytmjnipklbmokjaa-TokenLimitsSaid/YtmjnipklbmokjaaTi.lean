/- The walk of the law TokenLimits; no condition but that the number is a Go number. -/
import Derived.Test.YtmjnipklbmokjaaTj
namespace Go.Proofs.Ytmjnipklbmokjaa
open Go.RowKit
set_option linter.unusedVariables false

theorem run_conv_sl {P : Program} (w : World) (src dst e : TypeId) (A : Option Addr) (n c : Nat) (l : List UInt8) (hs : P.underlying src = some (.slice e)) (he : P.underlying e = some (.int .u8)) (hd : P.underlying dst = some .string)
    (hsl : Sl w A (l.map bv)) (hn : l.length = n) : (convert src dst (.slice A n c)).run P w = .ok (.string ⟨l.toArray⟩) w := by
  subst hn
  cases A with
  | none =>
    have : l = [] := by rcases hsl with h | ⟨b, off, h, _⟩; simpa using h; cases h
    subst this
    exact (run_convert_bytes_nil (P := P) w src e hs he 0 c dst hd)
  | some a =>
    by_cases h0 : l = []
    · subst h0
      exact run_convert_bytes_back w src dst e a c [] hs he hd (by simp)
    · rcases hsl with h | ⟨b, off, h, hc⟩
      · exact absurd (by simpa using h) h0
      · injection h with h
        subst h
        exact run_convert_bytes_back w src dst e _ c l hs he hd (fun j hj => by rw [add_lit, hc j (by simpa using hj)]; simp)
theorem errOf_err {r : Except (Nat × Nat) (List Tok)} {a b : Nat} (h : errOf r = (a, b)) (ha : a ≠ 0) : r = .error (a, b) := by
  cases r with
  | ok l => simp [errOf] at h; exact absurd h.1.symm ha
  | error x => simp [errOf] at h; rw [h]
theorem errOf_ok {s : Bs} (h : errOf (scanA s) = (0, 0)) : ∃ l, scanA s = .ok l := by
  cases hr : scanA s with
  | ok l => exact ⟨l, rfl⟩
  | error x =>
    rw [hr] at h
    have := scanA_err hr
    simp [errOf] at h
    rw [h] at this
    simp at this
theorem el5 : El Try.prog 5 (.int .u8 0) 1 1 := El.mk (by kernel_rfl) rfl (by decide)
theorem rep_snoc (i : Nat) (c : UInt8) : List.replicate (i + 1) c = List.replicate i c ++ [c] := List.replicate_succ'
theorem set_rep (i n : Nat) (a b : Value) (h : i < n) : ((List.replicate i a ++ List.replicate (n - i) b).set i a) = List.replicate (i + 1) a ++ List.replicate (n - (i + 1)) b := by
  rw [List.set_append_right _ _ (by simp)]
  obtain ⟨m, hm⟩ : ∃ m, n - i = m + 1 := ⟨n - i - 1, by omega⟩
  rw [List.length_replicate, Nat.sub_self, hm, List.replicate_succ, List.set_cons_zero, show n - (i + 1) = m by omega, List.replicate_succ', List.append_assoc]
  rfl
theorem ownsRow_sl {w : World} {g base n c : Nat} {e : TypeId} {xs : List Value} (h : w.ownsRow base e 1 (.slice (some ⟨g, 0, none⟩) n c) n xs) (j : Nat) (hj : j < n) : ∃ v, w.cell? ⟨g, j, none⟩ = some v ∧ w.frozen? ⟨g, j, none⟩ = false := by
  have hl : xs.length = n := by have := h.1; omega
  have h1 := World.ownsRow.cellAt h j (by omega)
  have hlt : j < xs.length := by omega
  refine ⟨xs[j]'hlt, by rw [h1, List.getElem?_eq_getElem hlt], ?_⟩
  rcases h.2 with ⟨h', _⟩ | ⟨g', cap', cur, h', _, hg, _⟩
  · simp at h'
  · simp only [Value.slice.injEq, Option.some.injEq, Addr.mk.injEq, and_true, true_and] at h'
    obtain ⟨rfl, rfl⟩ := h'
    exact frozen_of_row _ _ _ _ _ hg

set_option maxHeartbeats 3200000 in
set_option maxRecDepth 100000 in
theorem limits_true (v : Nat) (w : World) (hv : v ≤ 65535) :
    Calls Try.prog 5 #[.int .u16 v, .bool true] w fun e w' => e = .returned (.bool true) ∧ Below w.heap.size w w' := by
  obtain ⟨kk, hkk⟩ : ∃ kk, kk = v % 40 := ⟨_, rfl⟩
  have hkI : (v : Int) % 40 = (kk : Int) := by omega
  have hk40 : kk < 40 := by omega
  obtain ⟨m5, hm5⟩ : ∃ m5, m5 = v % 5 := ⟨_, rfl⟩
  have h5I : (v : Int) % 5 = (m5 : Int) := by omega
  have h55 : m5 < 5 := by omega
  obtain ⟨n5, hn5⟩ : ∃ n5, n5 = 16382 + m5 := ⟨_, rfl⟩
  have hn5I : (16382 : Int) + (m5 : Int) = (n5 : Int) := by omega
  have hn5b : n5 ≤ 16386 := by omega
  obtain ⟨m3, hm3⟩ : ∃ m3, m3 = v % 3 := ⟨_, rfl⟩
  have h3I : (v : Int) % 3 = (m3 : Int) := by omega
  have h33 : m3 < 3 := by omega
  obtain ⟨n3, hn3⟩ : ∃ n3, n3 = 5999 + m3 := ⟨_, rfl⟩
  have hn3I : (5999 : Int) + (m3 : Int) = (n3 : Int) := by omega
  have hn3b : n3 ≤ 6001 := by omega
  clear hkk hm5 hn5 hm3 hn3
  have hb0 := Below.refl w.heap.size w
  go_enter Try.func5, Try.ntmps5
  go_wp2_with fail
  go_loop [6, 7] (fun v6 v7 => ∃ (i : Nat) (S : ByteArray), i ≤ kk + 1 ∧ v7 = .int .i64 i ∧ v6 = .string S ∧ S.size = i ∧ Hid (S.data.toList = List.replicate i 120)) (fun _ v7 => kk + 1 - (intOf v7).toNat)
  case atStart => exact ⟨0, ⟨#[]⟩, by omega, rfl, rfl, rfl, (rfl : _ = _)⟩
  case round =>
    obtain ⟨i, S, hi, rfl, rfl, hSz, hS⟩ := hrel
    have HSZ := Lib.hid hSz
    have hSz1 : S.size ≤ i := by omega
    clear hSz
    by_cases hlt : i < kk + 1
    · have hltI : decide ((i : Int) < (kk : Int) + 1) = true := by simp; omega
      have GS : Hid ((S ++ ⟨#[120]⟩).data.toList = List.replicate (i + 1) 120) := by
        show _ = _
        rw [app_data, hS.out, rep_snoc]
      have GZ : Hid ((S ++ ⟨#[120]⟩).size = i + 1) := by
        show _ = _
        rw [app_size, HSZ.out]; rfl
      go_wp2
      go_round
      case rel => exact ⟨i + 1, _, by omega, by go_num, rfl, GZ.out, GS⟩
      case measure => simp [intOf]; omega
    · obtain rfl : i = kk + 1 := by omega
      have hltI : decide ((kk : Int) + 1 < (kk : Int) + 1) = false := by simp
      have hle : errOf (scanA (32 :: 32 :: List.replicate (kk + 1) 120)) = if 16 < kk + 1 then (4, 2) else (0, 0) := lim_name kk hk40
      obtain ⟨Z, hZ⟩ : ∃ Z, (⟨#[32, 32]⟩ : ByteArray) ++ S = Z := ⟨_, rfl⟩
      have hZd : Z.data.toList = 32 :: 32 :: List.replicate (kk + 1) 120 := by
        rw [← hZ, app_data, hS.out]; rfl
      have hZs : Z.size ≤ 100 := by
        rw [← hZ, app_size, HSZ.out]
        have : (⟨#[32, 32]⟩ : ByteArray).size = 2 := rfl
        omega
      rw [← hZd] at hle
      clear hZd
      -- the first scan, either way
      have key : ∃ (r : Except (Nat × Nat) (List Tok)), Hid (scanA Z.data.toList = r) ∧ ((16 < kk + 1 ∧ r = .error (4, 2)) ∨ (¬ 16 < kk + 1 ∧ ∃ l, r = .ok l)) := by
        by_cases hL : 16 < kk + 1
        · rw [if_pos hL] at hle
          exact ⟨_, errOf_err hle (by decide), .inl ⟨hL, rfl⟩⟩
        · rw [if_neg hL] at hle
          obtain ⟨l, hl⟩ := errOf_ok hle
          exact ⟨_, hl, .inr ⟨hL, l, rfl⟩⟩
      clear hle
      obtain ⟨r, HRZ, hcase⟩ := key
      obtain ⟨Q5, hQ5⟩ : ∃ Q5, (⟨(List.replicate n5 (32 : UInt8)).toArray⟩ : ByteArray) = Q5 := ⟨_, rfl⟩
      have hQd : Q5.data.toList = List.replicate n5 32 := by rw [← hQ5]
      have hQs : Q5.size = n5 := by rw [← size_list, hQd, List.length_replicate]
      have hle5 := lim_long n5
      rw [← hQd] at hle5
      have HQS := Lib.hid hQs
      have hQb : Q5.size ≤ 16386 := by omega
      have HQ5 := Lib.hid hQ5
      have HQD := Lib.hid hQd
      clear hQs hQ5 hQd
      have key5 : ∃ (r : Except (Nat × Nat) (List Tok)), Hid (scanA Q5.data.toList = r) ∧ ((16384 < n5 ∧ r = .error (4, 0)) ∨ (¬ 16384 < n5 ∧ ∃ l, r = .ok l)) := by
        by_cases hL : 16384 < n5
        · rw [if_pos hL] at hle5
          exact ⟨_, errOf_err hle5 (by decide), .inl ⟨hL, rfl⟩⟩
        · rw [if_neg hL] at hle5
          obtain ⟨l, hl⟩ := errOf_ok hle5
          exact ⟨_, hl, .inr ⟨hL, l, rfl⟩⟩
      clear hle5
      obtain ⟨r5, HR5, hcase5⟩ := key5
      have hs2 : ((kk : Int) + 1) = ((kk + 1 : Nat) : Int) := by omega
      have HS2 := Lib.hid hs2
      have hSsz : S.size = kk + 1 := HSZ.out
      have hLk : decide ((16 : Int) < (kk : Int) + 1) = decide (16 < kk + 1) := by rw [decide_eq_decide]; omega
      clear hs2
      rcases hcase with ⟨hL, rfl⟩ | ⟨hL, l, rfl⟩
      · have hLt : decide ((16 : Int) < (kk : Int) + 1) = true := by simp; omega
        clear hLk
        go_wp2_with fail
        refine (scan_is Z _ (by omega) _ HRZ.out).mono ?_
        rintro e w1 ⟨rfl, hb1⟩
        have hb1' := below_next hb0 hb1
        obtain ⟨i0, hi0, hz0, hz1, hz2⟩ := info_parts (show (Try.prog.info? 5).map (fun i => (i.zero, i.size, i.bytes)) = some (some (.int .u8 0), 1, 1) from by kernel_rfl)
        obtain ⟨w2, hmk, own2, hg2⟩ := run_make_full (P := Try.prog) (w := w1) w1.heap.size 39 5 i0 (.int .u8 0) 1 Try.underlying39 hi0 hz0 hz1 .i64 .i64 n5 (by rw [hz2]; omega) (by simp only [maxLen]; omega) (Nat.le_refl _)
        have hown2 : w2.ownsRow w1.heap.size 5 1 (.slice (some ⟨w1.heap.size, 0, none⟩) n5 n5) n5 (List.replicate 0 (bv 32) ++ List.replicate (n5 - 0) (.int .u8 0)) := by
          rw [Nat.mul_one, show (Value.int .u8 0).cells = #[.int .u8 0] from rfl, toList_madeCells_one] at own2
          simpa using own2
        have hb2 : Below w1.heap.size w1 w2 := (Below.refl _ _).grown hg2 (Nat.le_refl _) (by intro k hk; cases hk)
        have hb2' := below_next hb1' hb2
        have hb20 : w1.heap.size ≤ w2.heap.size := hb2.size
        clear own2 hg2 hb2
        go_wp2_with fail
        go_loopw [13, 76] (fun _ v76 wr => ∃ i : Nat, i ≤ n5 ∧ v76 = .int .i64 i ∧ wr.ownsRow w1.heap.size 5 1 (.slice (some ⟨w1.heap.size, 0, none⟩) n5 n5) n5 (List.replicate i (bv 32) ++ List.replicate (n5 - i) (.int .u8 0)) ∧ Below w.heap.size w wr) (fun _ v76 _ => n5 - (intOf v76).toNat)
        case atStart => exact ⟨0, by omega, rfl, hown2, hb2'⟩
        case round =>
          obtain ⟨i, hi, rfl, own3, hb3⟩ := hrel
          by_cases hlt5 : i < n5
          · obtain ⟨u, hcu, hfu⟩ := ownsRow_sl own3 i hlt5
            obtain ⟨own4, hg4⟩ := own3.stored i (bv 32)
            rw [set_rep i n5 _ _ hlt5] at own4
            have OWN4 := Lib.hid own4
            have HB4 := Lib.hid (hb3.setCell (p := ⟨w1.heap.size, i, none⟩) hb1.size (bv 32))
            clear own3 own4 hg4
            go_wp2
            go_roundw
            case rel => exact ⟨i + 1, by omega, by go_num, OWN4.out, HB4.out⟩
            case measure => simp [intOf]; omega
          · obtain rfl : i = n5 := by omega
            have hsl : Sl wr (some ⟨w1.heap.size, 0, none⟩) ((List.replicate i (32 : UInt8)).map bv) := by
              have := Sl.of_own own3
              rw [Nat.sub_self] at this
              simpa using this
            have hconv : (convert 39 9 (.slice (some ⟨w1.heap.size, 0, none⟩) i i)).run Try.prog wr = .ok (.string Q5) wr := by
              rw [run_conv_sl wr 39 9 5 _ i i (List.replicate i 32) Try.underlying39 Try.underlying5 Try.underlying9 hsl (by simp), HQ5.out]
            clear own3 hsl
            rcases hcase5 with ⟨hL5, rfl⟩ | ⟨hL5, l5, rfl⟩
            · have d5 : decide ((i : Int) ≤ 16384) = false := by simp; omega
              go_wp2_with fail
              refine (scan_is Q5 _ (by omega) _ HR5.out).mono ?_
              rintro e w4 ⟨rfl, hb4⟩
              have hb4' := below_next hb3 hb4
              clear hb3 hb4 hconv
              go_wp2_with fail
              go_loop [17, 18] (fun v17 v18 => ∃ (q : Nat) (M : ByteArray), q ≤ n3 ∧ v18 = .int .i64 q ∧ v17 = .string M ∧ Hid (M.size = q) ∧ M.size ≤ q ∧ Hid (M.data.toList = List.replicate q 59)) (fun _ v18 => n3 - (intOf v18).toNat)
              case atStart => exact ⟨0, ⟨#[]⟩, by omega, rfl, rfl, (rfl : _ = _), Nat.le_refl _, (rfl : _ = _)⟩
              case round =>
                obtain ⟨q, M, hq, rfl, rfl, hMz, hMb, hM⟩ := hrel
                by_cases hlt3 : q < n3
                · have GS : Hid ((M ++ ⟨#[59]⟩).data.toList = List.replicate (q + 1) 59) := by
                    show _ = _
                    rw [app_data, hM.out, rep_snoc]
                  have GZ : Hid ((M ++ ⟨#[59]⟩).size = q + 1) := by
                    show _ = _
                    rw [app_size, hMz.out]; rfl
                  go_wp2
                  go_round
                  case rel => exact ⟨q + 1, _, by omega, by go_num, rfl, GZ, by have := GZ.out; omega, GS⟩
                  case measure => simp [intOf]; omega
                · obtain rfl : q = n3 := by omega
                  obtain ⟨hy, hn⟩ := lim_many q (by omega)
                  rw [← hM.out] at hy hn
                  by_cases h6 : 6000 < q
                  · have HR3 := Lib.hid (hn h6)
                    have d3 : decide ((q : Int) ≤ 6000) = false := by simp; omega
                    have hMs : M.size = q := hMz.out
                    clear hy hn
                    go_wp2_with fail
                    refine (scan_is M _ (by omega) _ HR3.out).mono ?_
                    rintro e w5 ⟨rfl, hb5⟩
                    go_wp2_with fail
                    refine (awake_any _).mono ?_
                    rintro e w6 ⟨rfl, hb6⟩
                    go_wp2
                    go_ret
                    exact ⟨rfl, below_next (below_next hb4' hb5) hb6⟩
                  · obtain ⟨l3, hl3, hl3n⟩ := hy (by omega)
                    have HR3 := Lib.hid hl3
                    have d3 : decide ((q : Int) ≤ 6000) = true := by simp; omega
                    have HL3 := Lib.hid hl3n
                    have hMs : M.size = q := hMz.out
                    clear hy hn hl3 hl3n
                    go_wp2_with fail
                    refine (scan_is M _ (by omega) _ HR3.out).mono ?_
                    rintro e w5 ⟨A5, c5, rfl, own5, hb5⟩
                    clear own5
                    rw [HL3.out]
                    go_wp2_with fail
                    refine (awake_any _).mono ?_
                    rintro e w6 ⟨rfl, hb6⟩
                    go_wp2
                    go_ret
                    exact ⟨rfl, below_next (below_next hb4' hb5) hb6⟩
            · have d5 : decide ((i : Int) ≤ 16384) = true := by simp; omega
              go_wp2_with fail
              refine (scan_is Q5 _ (by omega) _ HR5.out).mono ?_
              rintro e w4 ⟨A4, c4, rfl, own4, hb4⟩
              clear own4
              have hb4' := below_next hb3 hb4
              clear hb3 hb4 hconv
              go_wp2_with fail
              go_loop [17, 18] (fun v17 v18 => ∃ (q : Nat) (M : ByteArray), q ≤ n3 ∧ v18 = .int .i64 q ∧ v17 = .string M ∧ Hid (M.size = q) ∧ M.size ≤ q ∧ Hid (M.data.toList = List.replicate q 59)) (fun _ v18 => n3 - (intOf v18).toNat)
              case atStart => exact ⟨0, ⟨#[]⟩, by omega, rfl, rfl, (rfl : _ = _), Nat.le_refl _, (rfl : _ = _)⟩
              case round =>
                obtain ⟨q, M, hq, rfl, rfl, hMz, hMb, hM⟩ := hrel
                by_cases hlt3 : q < n3
                · have GS : Hid ((M ++ ⟨#[59]⟩).data.toList = List.replicate (q + 1) 59) := by
                    show _ = _
                    rw [app_data, hM.out, rep_snoc]
                  have GZ : Hid ((M ++ ⟨#[59]⟩).size = q + 1) := by
                    show _ = _
                    rw [app_size, hMz.out]; rfl
                  go_wp2
                  go_round
                  case rel => exact ⟨q + 1, _, by omega, by go_num, rfl, GZ, by have := GZ.out; omega, GS⟩
                  case measure => simp [intOf]; omega
                · obtain rfl : q = n3 := by omega
                  obtain ⟨hy, hn⟩ := lim_many q (by omega)
                  rw [← hM.out] at hy hn
                  by_cases h6 : 6000 < q
                  · have HR3 := Lib.hid (hn h6)
                    have d3 : decide ((q : Int) ≤ 6000) = false := by simp; omega
                    have hMs : M.size = q := hMz.out
                    clear hy hn
                    go_wp2_with fail
                    refine (scan_is M _ (by omega) _ HR3.out).mono ?_
                    rintro e w5 ⟨rfl, hb5⟩
                    go_wp2_with fail
                    refine (awake_any _).mono ?_
                    rintro e w6 ⟨rfl, hb6⟩
                    go_wp2
                    go_ret
                    exact ⟨rfl, below_next (below_next hb4' hb5) hb6⟩
                  · obtain ⟨l3, hl3, hl3n⟩ := hy (by omega)
                    have HR3 := Lib.hid hl3
                    have d3 : decide ((q : Int) ≤ 6000) = true := by simp; omega
                    have HL3 := Lib.hid hl3n
                    have hMs : M.size = q := hMz.out
                    clear hy hn hl3 hl3n
                    go_wp2_with fail
                    refine (scan_is M _ (by omega) _ HR3.out).mono ?_
                    rintro e w5 ⟨A5, c5, rfl, own5, hb5⟩
                    clear own5
                    rw [HL3.out]
                    go_wp2_with fail
                    refine (awake_any _).mono ?_
                    rintro e w6 ⟨rfl, hb6⟩
                    go_wp2
                    go_ret
                    exact ⟨rfl, below_next (below_next hb4' hb5) hb6⟩
      · have hLt : decide ((16 : Int) < (kk : Int) + 1) = false := by simp; omega
        clear hLk
        go_wp2_with fail
        refine (scan_is Z _ (by omega) _ HRZ.out).mono ?_
        rintro e w1 ⟨A1, c1, rfl, own1, hb1⟩
        clear own1
        have hb1' := below_next hb0 hb1
        obtain ⟨i0, hi0, hz0, hz1, hz2⟩ := info_parts (show (Try.prog.info? 5).map (fun i => (i.zero, i.size, i.bytes)) = some (some (.int .u8 0), 1, 1) from by kernel_rfl)
        obtain ⟨w2, hmk, own2, hg2⟩ := run_make_full (P := Try.prog) (w := w1) w1.heap.size 39 5 i0 (.int .u8 0) 1 Try.underlying39 hi0 hz0 hz1 .i64 .i64 n5 (by rw [hz2]; omega) (by simp only [maxLen]; omega) (Nat.le_refl _)
        have hown2 : w2.ownsRow w1.heap.size 5 1 (.slice (some ⟨w1.heap.size, 0, none⟩) n5 n5) n5 (List.replicate 0 (bv 32) ++ List.replicate (n5 - 0) (.int .u8 0)) := by
          rw [Nat.mul_one, show (Value.int .u8 0).cells = #[.int .u8 0] from rfl, toList_madeCells_one] at own2
          simpa using own2
        have hb2 : Below w1.heap.size w1 w2 := (Below.refl _ _).grown hg2 (Nat.le_refl _) (by intro k hk; cases hk)
        have hb2' := below_next hb1' hb2
        have hb20 : w1.heap.size ≤ w2.heap.size := hb2.size
        clear own2 hg2 hb2
        go_wp2_with fail
        go_loopw [13, 76] (fun _ v76 wr => ∃ i : Nat, i ≤ n5 ∧ v76 = .int .i64 i ∧ wr.ownsRow w1.heap.size 5 1 (.slice (some ⟨w1.heap.size, 0, none⟩) n5 n5) n5 (List.replicate i (bv 32) ++ List.replicate (n5 - i) (.int .u8 0)) ∧ Below w.heap.size w wr) (fun _ v76 _ => n5 - (intOf v76).toNat)
        case atStart => exact ⟨0, by omega, rfl, hown2, hb2'⟩
        case round =>
          obtain ⟨i, hi, rfl, own3, hb3⟩ := hrel
          by_cases hlt5 : i < n5
          · obtain ⟨u, hcu, hfu⟩ := ownsRow_sl own3 i hlt5
            obtain ⟨own4, hg4⟩ := own3.stored i (bv 32)
            rw [set_rep i n5 _ _ hlt5] at own4
            have OWN4 := Lib.hid own4
            have HB4 := Lib.hid (hb3.setCell (p := ⟨w1.heap.size, i, none⟩) hb1.size (bv 32))
            clear own3 own4 hg4
            go_wp2
            go_roundw
            case rel => exact ⟨i + 1, by omega, by go_num, OWN4.out, HB4.out⟩
            case measure => simp [intOf]; omega
          · obtain rfl : i = n5 := by omega
            have hsl : Sl wr (some ⟨w1.heap.size, 0, none⟩) ((List.replicate i (32 : UInt8)).map bv) := by
              have := Sl.of_own own3
              rw [Nat.sub_self] at this
              simpa using this
            have hconv : (convert 39 9 (.slice (some ⟨w1.heap.size, 0, none⟩) i i)).run Try.prog wr = .ok (.string Q5) wr := by
              rw [run_conv_sl wr 39 9 5 _ i i (List.replicate i 32) Try.underlying39 Try.underlying5 Try.underlying9 hsl (by simp), HQ5.out]
            clear own3 hsl
            rcases hcase5 with ⟨hL5, rfl⟩ | ⟨hL5, l5, rfl⟩
            · have d5 : decide ((i : Int) ≤ 16384) = false := by simp; omega
              go_wp2_with fail
              refine (scan_is Q5 _ (by omega) _ HR5.out).mono ?_
              rintro e w4 ⟨rfl, hb4⟩
              have hb4' := below_next hb3 hb4
              clear hb3 hb4 hconv
              go_wp2_with fail
              go_loop [17, 18] (fun v17 v18 => ∃ (q : Nat) (M : ByteArray), q ≤ n3 ∧ v18 = .int .i64 q ∧ v17 = .string M ∧ Hid (M.size = q) ∧ M.size ≤ q ∧ Hid (M.data.toList = List.replicate q 59)) (fun _ v18 => n3 - (intOf v18).toNat)
              case atStart => exact ⟨0, ⟨#[]⟩, by omega, rfl, rfl, (rfl : _ = _), Nat.le_refl _, (rfl : _ = _)⟩
              case round =>
                obtain ⟨q, M, hq, rfl, rfl, hMz, hMb, hM⟩ := hrel
                by_cases hlt3 : q < n3
                · have GS : Hid ((M ++ ⟨#[59]⟩).data.toList = List.replicate (q + 1) 59) := by
                    show _ = _
                    rw [app_data, hM.out, rep_snoc]
                  have GZ : Hid ((M ++ ⟨#[59]⟩).size = q + 1) := by
                    show _ = _
                    rw [app_size, hMz.out]; rfl
                  go_wp2
                  go_round
                  case rel => exact ⟨q + 1, _, by omega, by go_num, rfl, GZ, by have := GZ.out; omega, GS⟩
                  case measure => simp [intOf]; omega
                · obtain rfl : q = n3 := by omega
                  obtain ⟨hy, hn⟩ := lim_many q (by omega)
                  rw [← hM.out] at hy hn
                  by_cases h6 : 6000 < q
                  · have HR3 := Lib.hid (hn h6)
                    have d3 : decide ((q : Int) ≤ 6000) = false := by simp; omega
                    have hMs : M.size = q := hMz.out
                    clear hy hn
                    go_wp2_with fail
                    refine (scan_is M _ (by omega) _ HR3.out).mono ?_
                    rintro e w5 ⟨rfl, hb5⟩
                    go_wp2_with fail
                    refine (awake_any _).mono ?_
                    rintro e w6 ⟨rfl, hb6⟩
                    go_wp2
                    go_ret
                    exact ⟨rfl, below_next (below_next hb4' hb5) hb6⟩
                  · obtain ⟨l3, hl3, hl3n⟩ := hy (by omega)
                    have HR3 := Lib.hid hl3
                    have d3 : decide ((q : Int) ≤ 6000) = true := by simp; omega
                    have HL3 := Lib.hid hl3n
                    have hMs : M.size = q := hMz.out
                    clear hy hn hl3 hl3n
                    go_wp2_with fail
                    refine (scan_is M _ (by omega) _ HR3.out).mono ?_
                    rintro e w5 ⟨A5, c5, rfl, own5, hb5⟩
                    clear own5
                    rw [HL3.out]
                    go_wp2_with fail
                    refine (awake_any _).mono ?_
                    rintro e w6 ⟨rfl, hb6⟩
                    go_wp2
                    go_ret
                    exact ⟨rfl, below_next (below_next hb4' hb5) hb6⟩
            · have d5 : decide ((i : Int) ≤ 16384) = true := by simp; omega
              go_wp2_with fail
              refine (scan_is Q5 _ (by omega) _ HR5.out).mono ?_
              rintro e w4 ⟨A4, c4, rfl, own4, hb4⟩
              clear own4
              have hb4' := below_next hb3 hb4
              clear hb3 hb4 hconv
              go_wp2_with fail
              go_loop [17, 18] (fun v17 v18 => ∃ (q : Nat) (M : ByteArray), q ≤ n3 ∧ v18 = .int .i64 q ∧ v17 = .string M ∧ Hid (M.size = q) ∧ M.size ≤ q ∧ Hid (M.data.toList = List.replicate q 59)) (fun _ v18 => n3 - (intOf v18).toNat)
              case atStart => exact ⟨0, ⟨#[]⟩, by omega, rfl, rfl, (rfl : _ = _), Nat.le_refl _, (rfl : _ = _)⟩
              case round =>
                obtain ⟨q, M, hq, rfl, rfl, hMz, hMb, hM⟩ := hrel
                by_cases hlt3 : q < n3
                · have GS : Hid ((M ++ ⟨#[59]⟩).data.toList = List.replicate (q + 1) 59) := by
                    show _ = _
                    rw [app_data, hM.out, rep_snoc]
                  have GZ : Hid ((M ++ ⟨#[59]⟩).size = q + 1) := by
                    show _ = _
                    rw [app_size, hMz.out]; rfl
                  go_wp2
                  go_round
                  case rel => exact ⟨q + 1, _, by omega, by go_num, rfl, GZ, by have := GZ.out; omega, GS⟩
                  case measure => simp [intOf]; omega
                · obtain rfl : q = n3 := by omega
                  obtain ⟨hy, hn⟩ := lim_many q (by omega)
                  rw [← hM.out] at hy hn
                  by_cases h6 : 6000 < q
                  · have HR3 := Lib.hid (hn h6)
                    have d3 : decide ((q : Int) ≤ 6000) = false := by simp; omega
                    have hMs : M.size = q := hMz.out
                    clear hy hn
                    go_wp2_with fail
                    refine (scan_is M _ (by omega) _ HR3.out).mono ?_
                    rintro e w5 ⟨rfl, hb5⟩
                    go_wp2_with fail
                    refine (awake_any _).mono ?_
                    rintro e w6 ⟨rfl, hb6⟩
                    go_wp2
                    go_ret
                    exact ⟨rfl, below_next (below_next hb4' hb5) hb6⟩
                  · obtain ⟨l3, hl3, hl3n⟩ := hy (by omega)
                    have HR3 := Lib.hid hl3
                    have d3 : decide ((q : Int) ≤ 6000) = true := by simp; omega
                    have HL3 := Lib.hid hl3n
                    have hMs : M.size = q := hMz.out
                    clear hy hn hl3 hl3n
                    go_wp2_with fail
                    refine (scan_is M _ (by omega) _ HR3.out).mono ?_
                    rintro e w5 ⟨A5, c5, rfl, own5, hb5⟩
                    clear own5
                    rw [HL3.out]
                    go_wp2_with fail
                    refine (awake_any _).mono ?_
                    rintro e w6 ⟨rfl, hb6⟩
                    go_wp2
                    go_ret
                    exact ⟨rfl, below_next (below_next hb4' hb5) hb6⟩

set_option maxHeartbeats 3200000 in
set_option maxRecDepth 100000 in
theorem limits_false (v : Nat) (w : World) (hv : v ≤ 65535) :
    Calls Try.prog 5 #[.int .u16 v, .bool false] w fun e w' => e = .returned (.bool true) ∧ Below w.heap.size w w' := by
  obtain ⟨kk, hkk⟩ : ∃ kk, kk = v % 40 := ⟨_, rfl⟩
  have hkI : (v : Int) % 40 = (kk : Int) := by omega
  have hk40 : kk < 40 := by omega
  obtain ⟨m5, hm5⟩ : ∃ m5, m5 = v % 5 := ⟨_, rfl⟩
  have h5I : (v : Int) % 5 = (m5 : Int) := by omega
  have h55 : m5 < 5 := by omega
  obtain ⟨n5, hn5⟩ : ∃ n5, n5 = 16382 + m5 := ⟨_, rfl⟩
  have hn5I : (16382 : Int) + (m5 : Int) = (n5 : Int) := by omega
  have hn5b : n5 ≤ 16386 := by omega
  obtain ⟨m3, hm3⟩ : ∃ m3, m3 = v % 3 := ⟨_, rfl⟩
  have h3I : (v : Int) % 3 = (m3 : Int) := by omega
  have h33 : m3 < 3 := by omega
  obtain ⟨n3, hn3⟩ : ∃ n3, n3 = 5999 + m3 := ⟨_, rfl⟩
  have hn3I : (5999 : Int) + (m3 : Int) = (n3 : Int) := by omega
  have hn3b : n3 ≤ 6001 := by omega
  clear hkk hm5 hn5 hm3 hn3
  have hb0 := Below.refl w.heap.size w
  go_enter Try.func5, Try.ntmps5
  go_wp2_with fail
  go_loop [6, 7] (fun v6 v7 => ∃ (i : Nat) (S : ByteArray), i ≤ kk + 1 ∧ v7 = .int .i64 i ∧ v6 = .string S ∧ S.size = i ∧ Hid (S.data.toList = List.replicate i 57)) (fun _ v7 => kk + 1 - (intOf v7).toNat)
  case atStart => exact ⟨0, ⟨#[]⟩, by omega, rfl, rfl, rfl, (rfl : _ = _)⟩
  case round =>
    obtain ⟨i, S, hi, rfl, rfl, hSz, hS⟩ := hrel
    have HSZ := Lib.hid hSz
    have hSz1 : S.size ≤ i := by omega
    clear hSz
    by_cases hlt : i < kk + 1
    · have hltI : decide ((i : Int) < (kk : Int) + 1) = true := by simp; omega
      have GS : Hid ((S ++ ⟨#[57]⟩).data.toList = List.replicate (i + 1) 57) := by
        show _ = _
        rw [app_data, hS.out, rep_snoc]
      have GZ : Hid ((S ++ ⟨#[57]⟩).size = i + 1) := by
        show _ = _
        rw [app_size, HSZ.out]; rfl
      go_wp2
      go_round
      case rel => exact ⟨i + 1, _, by omega, by go_num, rfl, GZ.out, GS⟩
      case measure => simp [intOf]; omega
    · obtain rfl : i = kk + 1 := by omega
      have hltI : decide ((kk : Int) + 1 < (kk : Int) + 1) = false := by simp
      have hle : errOf (scanA (32 :: 32 :: List.replicate (kk + 1) 57)) = if 18 < kk + 1 then (4, 2) else (0, 0) := lim_num kk hk40
      obtain ⟨Z, hZ⟩ : ∃ Z, (⟨#[32, 32]⟩ : ByteArray) ++ S = Z := ⟨_, rfl⟩
      have hZd : Z.data.toList = 32 :: 32 :: List.replicate (kk + 1) 57 := by
        rw [← hZ, app_data, hS.out]; rfl
      have hZs : Z.size ≤ 100 := by
        rw [← hZ, app_size, HSZ.out]
        have : (⟨#[32, 32]⟩ : ByteArray).size = 2 := rfl
        omega
      rw [← hZd] at hle
      clear hZd
      -- the first scan, either way
      have key : ∃ (r : Except (Nat × Nat) (List Tok)), Hid (scanA Z.data.toList = r) ∧ ((18 < kk + 1 ∧ r = .error (4, 2)) ∨ (¬ 18 < kk + 1 ∧ ∃ l, r = .ok l)) := by
        by_cases hL : 18 < kk + 1
        · rw [if_pos hL] at hle
          exact ⟨_, errOf_err hle (by decide), .inl ⟨hL, rfl⟩⟩
        · rw [if_neg hL] at hle
          obtain ⟨l, hl⟩ := errOf_ok hle
          exact ⟨_, hl, .inr ⟨hL, l, rfl⟩⟩
      clear hle
      obtain ⟨r, HRZ, hcase⟩ := key
      obtain ⟨Q5, hQ5⟩ : ∃ Q5, (⟨(List.replicate n5 (32 : UInt8)).toArray⟩ : ByteArray) = Q5 := ⟨_, rfl⟩
      have hQd : Q5.data.toList = List.replicate n5 32 := by rw [← hQ5]
      have hQs : Q5.size = n5 := by rw [← size_list, hQd, List.length_replicate]
      have hle5 := lim_long n5
      rw [← hQd] at hle5
      have HQS := Lib.hid hQs
      have hQb : Q5.size ≤ 16386 := by omega
      have HQ5 := Lib.hid hQ5
      have HQD := Lib.hid hQd
      clear hQs hQ5 hQd
      have key5 : ∃ (r : Except (Nat × Nat) (List Tok)), Hid (scanA Q5.data.toList = r) ∧ ((16384 < n5 ∧ r = .error (4, 0)) ∨ (¬ 16384 < n5 ∧ ∃ l, r = .ok l)) := by
        by_cases hL : 16384 < n5
        · rw [if_pos hL] at hle5
          exact ⟨_, errOf_err hle5 (by decide), .inl ⟨hL, rfl⟩⟩
        · rw [if_neg hL] at hle5
          obtain ⟨l, hl⟩ := errOf_ok hle5
          exact ⟨_, hl, .inr ⟨hL, l, rfl⟩⟩
      clear hle5
      obtain ⟨r5, HR5, hcase5⟩ := key5
      have hs2 : ((kk : Int) + 1) = ((kk + 1 : Nat) : Int) := by omega
      have HS2 := Lib.hid hs2
      have hSsz : S.size = kk + 1 := HSZ.out
      have hLk : decide ((18 : Int) < (kk : Int) + 1) = decide (18 < kk + 1) := by rw [decide_eq_decide]; omega
      clear hs2
      rcases hcase with ⟨hL, rfl⟩ | ⟨hL, l, rfl⟩
      · have hLt : decide ((18 : Int) < (kk : Int) + 1) = true := by simp; omega
        clear hLk
        go_wp2_with fail
        refine (scan_is Z _ (by omega) _ HRZ.out).mono ?_
        rintro e w1 ⟨rfl, hb1⟩
        have hb1' := below_next hb0 hb1
        obtain ⟨i0, hi0, hz0, hz1, hz2⟩ := info_parts (show (Try.prog.info? 5).map (fun i => (i.zero, i.size, i.bytes)) = some (some (.int .u8 0), 1, 1) from by kernel_rfl)
        obtain ⟨w2, hmk, own2, hg2⟩ := run_make_full (P := Try.prog) (w := w1) w1.heap.size 39 5 i0 (.int .u8 0) 1 Try.underlying39 hi0 hz0 hz1 .i64 .i64 n5 (by rw [hz2]; omega) (by simp only [maxLen]; omega) (Nat.le_refl _)
        have hown2 : w2.ownsRow w1.heap.size 5 1 (.slice (some ⟨w1.heap.size, 0, none⟩) n5 n5) n5 (List.replicate 0 (bv 32) ++ List.replicate (n5 - 0) (.int .u8 0)) := by
          rw [Nat.mul_one, show (Value.int .u8 0).cells = #[.int .u8 0] from rfl, toList_madeCells_one] at own2
          simpa using own2
        have hb2 : Below w1.heap.size w1 w2 := (Below.refl _ _).grown hg2 (Nat.le_refl _) (by intro k hk; cases hk)
        have hb2' := below_next hb1' hb2
        have hb20 : w1.heap.size ≤ w2.heap.size := hb2.size
        clear own2 hg2 hb2
        go_wp2_with fail
        go_loopw [13, 76] (fun _ v76 wr => ∃ i : Nat, i ≤ n5 ∧ v76 = .int .i64 i ∧ wr.ownsRow w1.heap.size 5 1 (.slice (some ⟨w1.heap.size, 0, none⟩) n5 n5) n5 (List.replicate i (bv 32) ++ List.replicate (n5 - i) (.int .u8 0)) ∧ Below w.heap.size w wr) (fun _ v76 _ => n5 - (intOf v76).toNat)
        case atStart => exact ⟨0, by omega, rfl, hown2, hb2'⟩
        case round =>
          obtain ⟨i, hi, rfl, own3, hb3⟩ := hrel
          by_cases hlt5 : i < n5
          · obtain ⟨u, hcu, hfu⟩ := ownsRow_sl own3 i hlt5
            obtain ⟨own4, hg4⟩ := own3.stored i (bv 32)
            rw [set_rep i n5 _ _ hlt5] at own4
            have OWN4 := Lib.hid own4
            have HB4 := Lib.hid (hb3.setCell (p := ⟨w1.heap.size, i, none⟩) hb1.size (bv 32))
            clear own3 own4 hg4
            go_wp2
            go_roundw
            case rel => exact ⟨i + 1, by omega, by go_num, OWN4.out, HB4.out⟩
            case measure => simp [intOf]; omega
          · obtain rfl : i = n5 := by omega
            have hsl : Sl wr (some ⟨w1.heap.size, 0, none⟩) ((List.replicate i (32 : UInt8)).map bv) := by
              have := Sl.of_own own3
              rw [Nat.sub_self] at this
              simpa using this
            have hconv : (convert 39 9 (.slice (some ⟨w1.heap.size, 0, none⟩) i i)).run Try.prog wr = .ok (.string Q5) wr := by
              rw [run_conv_sl wr 39 9 5 _ i i (List.replicate i 32) Try.underlying39 Try.underlying5 Try.underlying9 hsl (by simp), HQ5.out]
            clear own3 hsl
            rcases hcase5 with ⟨hL5, rfl⟩ | ⟨hL5, l5, rfl⟩
            · have d5 : decide ((i : Int) ≤ 16384) = false := by simp; omega
              go_wp2_with fail
              refine (scan_is Q5 _ (by omega) _ HR5.out).mono ?_
              rintro e w4 ⟨rfl, hb4⟩
              have hb4' := below_next hb3 hb4
              clear hb3 hb4 hconv
              go_wp2_with fail
              go_loop [17, 18] (fun v17 v18 => ∃ (q : Nat) (M : ByteArray), q ≤ n3 ∧ v18 = .int .i64 q ∧ v17 = .string M ∧ Hid (M.size = q) ∧ M.size ≤ q ∧ Hid (M.data.toList = List.replicate q 59)) (fun _ v18 => n3 - (intOf v18).toNat)
              case atStart => exact ⟨0, ⟨#[]⟩, by omega, rfl, rfl, (rfl : _ = _), Nat.le_refl _, (rfl : _ = _)⟩
              case round =>
                obtain ⟨q, M, hq, rfl, rfl, hMz, hMb, hM⟩ := hrel
                by_cases hlt3 : q < n3
                · have GS : Hid ((M ++ ⟨#[59]⟩).data.toList = List.replicate (q + 1) 59) := by
                    show _ = _
                    rw [app_data, hM.out, rep_snoc]
                  have GZ : Hid ((M ++ ⟨#[59]⟩).size = q + 1) := by
                    show _ = _
                    rw [app_size, hMz.out]; rfl
                  go_wp2
                  go_round
                  case rel => exact ⟨q + 1, _, by omega, by go_num, rfl, GZ, by have := GZ.out; omega, GS⟩
                  case measure => simp [intOf]; omega
                · obtain rfl : q = n3 := by omega
                  obtain ⟨hy, hn⟩ := lim_many q (by omega)
                  rw [← hM.out] at hy hn
                  by_cases h6 : 6000 < q
                  · have HR3 := Lib.hid (hn h6)
                    have d3 : decide ((q : Int) ≤ 6000) = false := by simp; omega
                    have hMs : M.size = q := hMz.out
                    clear hy hn
                    go_wp2_with fail
                    refine (scan_is M _ (by omega) _ HR3.out).mono ?_
                    rintro e w5 ⟨rfl, hb5⟩
                    go_wp2_with fail
                    refine (awake_any _).mono ?_
                    rintro e w6 ⟨rfl, hb6⟩
                    go_wp2
                    go_ret
                    exact ⟨rfl, below_next (below_next hb4' hb5) hb6⟩
                  · obtain ⟨l3, hl3, hl3n⟩ := hy (by omega)
                    have HR3 := Lib.hid hl3
                    have d3 : decide ((q : Int) ≤ 6000) = true := by simp; omega
                    have HL3 := Lib.hid hl3n
                    have hMs : M.size = q := hMz.out
                    clear hy hn hl3 hl3n
                    go_wp2_with fail
                    refine (scan_is M _ (by omega) _ HR3.out).mono ?_
                    rintro e w5 ⟨A5, c5, rfl, own5, hb5⟩
                    clear own5
                    rw [HL3.out]
                    go_wp2_with fail
                    refine (awake_any _).mono ?_
                    rintro e w6 ⟨rfl, hb6⟩
                    go_wp2
                    go_ret
                    exact ⟨rfl, below_next (below_next hb4' hb5) hb6⟩
            · have d5 : decide ((i : Int) ≤ 16384) = true := by simp; omega
              go_wp2_with fail
              refine (scan_is Q5 _ (by omega) _ HR5.out).mono ?_
              rintro e w4 ⟨A4, c4, rfl, own4, hb4⟩
              clear own4
              have hb4' := below_next hb3 hb4
              clear hb3 hb4 hconv
              go_wp2_with fail
              go_loop [17, 18] (fun v17 v18 => ∃ (q : Nat) (M : ByteArray), q ≤ n3 ∧ v18 = .int .i64 q ∧ v17 = .string M ∧ Hid (M.size = q) ∧ M.size ≤ q ∧ Hid (M.data.toList = List.replicate q 59)) (fun _ v18 => n3 - (intOf v18).toNat)
              case atStart => exact ⟨0, ⟨#[]⟩, by omega, rfl, rfl, (rfl : _ = _), Nat.le_refl _, (rfl : _ = _)⟩
              case round =>
                obtain ⟨q, M, hq, rfl, rfl, hMz, hMb, hM⟩ := hrel
                by_cases hlt3 : q < n3
                · have GS : Hid ((M ++ ⟨#[59]⟩).data.toList = List.replicate (q + 1) 59) := by
                    show _ = _
                    rw [app_data, hM.out, rep_snoc]
                  have GZ : Hid ((M ++ ⟨#[59]⟩).size = q + 1) := by
                    show _ = _
                    rw [app_size, hMz.out]; rfl
                  go_wp2
                  go_round
                  case rel => exact ⟨q + 1, _, by omega, by go_num, rfl, GZ, by have := GZ.out; omega, GS⟩
                  case measure => simp [intOf]; omega
                · obtain rfl : q = n3 := by omega
                  obtain ⟨hy, hn⟩ := lim_many q (by omega)
                  rw [← hM.out] at hy hn
                  by_cases h6 : 6000 < q
                  · have HR3 := Lib.hid (hn h6)
                    have d3 : decide ((q : Int) ≤ 6000) = false := by simp; omega
                    have hMs : M.size = q := hMz.out
                    clear hy hn
                    go_wp2_with fail
                    refine (scan_is M _ (by omega) _ HR3.out).mono ?_
                    rintro e w5 ⟨rfl, hb5⟩
                    go_wp2_with fail
                    refine (awake_any _).mono ?_
                    rintro e w6 ⟨rfl, hb6⟩
                    go_wp2
                    go_ret
                    exact ⟨rfl, below_next (below_next hb4' hb5) hb6⟩
                  · obtain ⟨l3, hl3, hl3n⟩ := hy (by omega)
                    have HR3 := Lib.hid hl3
                    have d3 : decide ((q : Int) ≤ 6000) = true := by simp; omega
                    have HL3 := Lib.hid hl3n
                    have hMs : M.size = q := hMz.out
                    clear hy hn hl3 hl3n
                    go_wp2_with fail
                    refine (scan_is M _ (by omega) _ HR3.out).mono ?_
                    rintro e w5 ⟨A5, c5, rfl, own5, hb5⟩
                    clear own5
                    rw [HL3.out]
                    go_wp2_with fail
                    refine (awake_any _).mono ?_
                    rintro e w6 ⟨rfl, hb6⟩
                    go_wp2
                    go_ret
                    exact ⟨rfl, below_next (below_next hb4' hb5) hb6⟩
      · have hLt : decide ((18 : Int) < (kk : Int) + 1) = false := by simp; omega
        clear hLk
        go_wp2_with fail
        refine (scan_is Z _ (by omega) _ HRZ.out).mono ?_
        rintro e w1 ⟨A1, c1, rfl, own1, hb1⟩
        clear own1
        have hb1' := below_next hb0 hb1
        obtain ⟨i0, hi0, hz0, hz1, hz2⟩ := info_parts (show (Try.prog.info? 5).map (fun i => (i.zero, i.size, i.bytes)) = some (some (.int .u8 0), 1, 1) from by kernel_rfl)
        obtain ⟨w2, hmk, own2, hg2⟩ := run_make_full (P := Try.prog) (w := w1) w1.heap.size 39 5 i0 (.int .u8 0) 1 Try.underlying39 hi0 hz0 hz1 .i64 .i64 n5 (by rw [hz2]; omega) (by simp only [maxLen]; omega) (Nat.le_refl _)
        have hown2 : w2.ownsRow w1.heap.size 5 1 (.slice (some ⟨w1.heap.size, 0, none⟩) n5 n5) n5 (List.replicate 0 (bv 32) ++ List.replicate (n5 - 0) (.int .u8 0)) := by
          rw [Nat.mul_one, show (Value.int .u8 0).cells = #[.int .u8 0] from rfl, toList_madeCells_one] at own2
          simpa using own2
        have hb2 : Below w1.heap.size w1 w2 := (Below.refl _ _).grown hg2 (Nat.le_refl _) (by intro k hk; cases hk)
        have hb2' := below_next hb1' hb2
        have hb20 : w1.heap.size ≤ w2.heap.size := hb2.size
        clear own2 hg2 hb2
        go_wp2_with fail
        go_loopw [13, 76] (fun _ v76 wr => ∃ i : Nat, i ≤ n5 ∧ v76 = .int .i64 i ∧ wr.ownsRow w1.heap.size 5 1 (.slice (some ⟨w1.heap.size, 0, none⟩) n5 n5) n5 (List.replicate i (bv 32) ++ List.replicate (n5 - i) (.int .u8 0)) ∧ Below w.heap.size w wr) (fun _ v76 _ => n5 - (intOf v76).toNat)
        case atStart => exact ⟨0, by omega, rfl, hown2, hb2'⟩
        case round =>
          obtain ⟨i, hi, rfl, own3, hb3⟩ := hrel
          by_cases hlt5 : i < n5
          · obtain ⟨u, hcu, hfu⟩ := ownsRow_sl own3 i hlt5
            obtain ⟨own4, hg4⟩ := own3.stored i (bv 32)
            rw [set_rep i n5 _ _ hlt5] at own4
            have OWN4 := Lib.hid own4
            have HB4 := Lib.hid (hb3.setCell (p := ⟨w1.heap.size, i, none⟩) hb1.size (bv 32))
            clear own3 own4 hg4
            go_wp2
            go_roundw
            case rel => exact ⟨i + 1, by omega, by go_num, OWN4.out, HB4.out⟩
            case measure => simp [intOf]; omega
          · obtain rfl : i = n5 := by omega
            have hsl : Sl wr (some ⟨w1.heap.size, 0, none⟩) ((List.replicate i (32 : UInt8)).map bv) := by
              have := Sl.of_own own3
              rw [Nat.sub_self] at this
              simpa using this
            have hconv : (convert 39 9 (.slice (some ⟨w1.heap.size, 0, none⟩) i i)).run Try.prog wr = .ok (.string Q5) wr := by
              rw [run_conv_sl wr 39 9 5 _ i i (List.replicate i 32) Try.underlying39 Try.underlying5 Try.underlying9 hsl (by simp), HQ5.out]
            clear own3 hsl
            rcases hcase5 with ⟨hL5, rfl⟩ | ⟨hL5, l5, rfl⟩
            · have d5 : decide ((i : Int) ≤ 16384) = false := by simp; omega
              go_wp2_with fail
              refine (scan_is Q5 _ (by omega) _ HR5.out).mono ?_
              rintro e w4 ⟨rfl, hb4⟩
              have hb4' := below_next hb3 hb4
              clear hb3 hb4 hconv
              go_wp2_with fail
              go_loop [17, 18] (fun v17 v18 => ∃ (q : Nat) (M : ByteArray), q ≤ n3 ∧ v18 = .int .i64 q ∧ v17 = .string M ∧ Hid (M.size = q) ∧ M.size ≤ q ∧ Hid (M.data.toList = List.replicate q 59)) (fun _ v18 => n3 - (intOf v18).toNat)
              case atStart => exact ⟨0, ⟨#[]⟩, by omega, rfl, rfl, (rfl : _ = _), Nat.le_refl _, (rfl : _ = _)⟩
              case round =>
                obtain ⟨q, M, hq, rfl, rfl, hMz, hMb, hM⟩ := hrel
                by_cases hlt3 : q < n3
                · have GS : Hid ((M ++ ⟨#[59]⟩).data.toList = List.replicate (q + 1) 59) := by
                    show _ = _
                    rw [app_data, hM.out, rep_snoc]
                  have GZ : Hid ((M ++ ⟨#[59]⟩).size = q + 1) := by
                    show _ = _
                    rw [app_size, hMz.out]; rfl
                  go_wp2
                  go_round
                  case rel => exact ⟨q + 1, _, by omega, by go_num, rfl, GZ, by have := GZ.out; omega, GS⟩
                  case measure => simp [intOf]; omega
                · obtain rfl : q = n3 := by omega
                  obtain ⟨hy, hn⟩ := lim_many q (by omega)
                  rw [← hM.out] at hy hn
                  by_cases h6 : 6000 < q
                  · have HR3 := Lib.hid (hn h6)
                    have d3 : decide ((q : Int) ≤ 6000) = false := by simp; omega
                    have hMs : M.size = q := hMz.out
                    clear hy hn
                    go_wp2_with fail
                    refine (scan_is M _ (by omega) _ HR3.out).mono ?_
                    rintro e w5 ⟨rfl, hb5⟩
                    go_wp2_with fail
                    refine (awake_any _).mono ?_
                    rintro e w6 ⟨rfl, hb6⟩
                    go_wp2
                    go_ret
                    exact ⟨rfl, below_next (below_next hb4' hb5) hb6⟩
                  · obtain ⟨l3, hl3, hl3n⟩ := hy (by omega)
                    have HR3 := Lib.hid hl3
                    have d3 : decide ((q : Int) ≤ 6000) = true := by simp; omega
                    have HL3 := Lib.hid hl3n
                    have hMs : M.size = q := hMz.out
                    clear hy hn hl3 hl3n
                    go_wp2_with fail
                    refine (scan_is M _ (by omega) _ HR3.out).mono ?_
                    rintro e w5 ⟨A5, c5, rfl, own5, hb5⟩
                    clear own5
                    rw [HL3.out]
                    go_wp2_with fail
                    refine (awake_any _).mono ?_
                    rintro e w6 ⟨rfl, hb6⟩
                    go_wp2
                    go_ret
                    exact ⟨rfl, below_next (below_next hb4' hb5) hb6⟩
            · have d5 : decide ((i : Int) ≤ 16384) = true := by simp; omega
              go_wp2_with fail
              refine (scan_is Q5 _ (by omega) _ HR5.out).mono ?_
              rintro e w4 ⟨A4, c4, rfl, own4, hb4⟩
              clear own4
              have hb4' := below_next hb3 hb4
              clear hb3 hb4 hconv
              go_wp2_with fail
              go_loop [17, 18] (fun v17 v18 => ∃ (q : Nat) (M : ByteArray), q ≤ n3 ∧ v18 = .int .i64 q ∧ v17 = .string M ∧ Hid (M.size = q) ∧ M.size ≤ q ∧ Hid (M.data.toList = List.replicate q 59)) (fun _ v18 => n3 - (intOf v18).toNat)
              case atStart => exact ⟨0, ⟨#[]⟩, by omega, rfl, rfl, (rfl : _ = _), Nat.le_refl _, (rfl : _ = _)⟩
              case round =>
                obtain ⟨q, M, hq, rfl, rfl, hMz, hMb, hM⟩ := hrel
                by_cases hlt3 : q < n3
                · have GS : Hid ((M ++ ⟨#[59]⟩).data.toList = List.replicate (q + 1) 59) := by
                    show _ = _
                    rw [app_data, hM.out, rep_snoc]
                  have GZ : Hid ((M ++ ⟨#[59]⟩).size = q + 1) := by
                    show _ = _
                    rw [app_size, hMz.out]; rfl
                  go_wp2
                  go_round
                  case rel => exact ⟨q + 1, _, by omega, by go_num, rfl, GZ, by have := GZ.out; omega, GS⟩
                  case measure => simp [intOf]; omega
                · obtain rfl : q = n3 := by omega
                  obtain ⟨hy, hn⟩ := lim_many q (by omega)
                  rw [← hM.out] at hy hn
                  by_cases h6 : 6000 < q
                  · have HR3 := Lib.hid (hn h6)
                    have d3 : decide ((q : Int) ≤ 6000) = false := by simp; omega
                    have hMs : M.size = q := hMz.out
                    clear hy hn
                    go_wp2_with fail
                    refine (scan_is M _ (by omega) _ HR3.out).mono ?_
                    rintro e w5 ⟨rfl, hb5⟩
                    go_wp2_with fail
                    refine (awake_any _).mono ?_
                    rintro e w6 ⟨rfl, hb6⟩
                    go_wp2
                    go_ret
                    exact ⟨rfl, below_next (below_next hb4' hb5) hb6⟩
                  · obtain ⟨l3, hl3, hl3n⟩ := hy (by omega)
                    have HR3 := Lib.hid hl3
                    have d3 : decide ((q : Int) ≤ 6000) = true := by simp; omega
                    have HL3 := Lib.hid hl3n
                    have hMs : M.size = q := hMz.out
                    clear hy hn hl3 hl3n
                    go_wp2_with fail
                    refine (scan_is M _ (by omega) _ HR3.out).mono ?_
                    rintro e w5 ⟨A5, c5, rfl, own5, hb5⟩
                    clear own5
                    rw [HL3.out]
                    go_wp2_with fail
                    refine (awake_any _).mono ?_
                    rintro e w6 ⟨rfl, hb6⟩
                    go_wp2
                    go_ret
                    exact ⟨rfl, below_next (below_next hb4' hb5) hb6⟩

end Go.Proofs.Ytmjnipklbmokjaa
