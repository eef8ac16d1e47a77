/- The walk of the reference's Lay of a union where it lays the cases; conditions: the lists are short and readable. -/
import Derived.Test.YtamhigknobdloaaUt
namespace Go.Proofs.Ytamhigknobdloaa
open Go.RowKit
set_option linter.unusedVariables false

set_option maxHeartbeats 1600000 in
set_option maxRecDepth 100000 in
theorem rsum_len (A : Option Addr) (n c : Nat) (An : Option Addr) (nn cn : Nat) (Ai : Option Addr) (nb cb : Nat) (w : World) (hlen : n ≤ 1000) (hnn : nn ≤ 1000) (hnb : nb ≤ 1000) (hbad : nn ≠ n ∨ nb ≠ n) :
    Calls Try.prog 58 #[.slice A n c, .slice An nn cn, .slice Ai nb cb] w fun e w' => e = .returned (.tuple #[zero31, .int .i64 19]) ∧ Below w.heap.size w w' := by
  have hb0 := (Below.refl w.heap.size w).alloc (Nat.le_refl _) (.cells #[.int .i64 0, .int .i64 0, .slice none 0 0, .slice none 0 0, .slice none 0 0, .slice none 0 0, .slice none 0 0, .bool false] 31)
  have hblk := Blk.new w 31 #[.int .i64 0, .int .i64 0, .slice none 0 0, .slice none 0 0, .slice none 0 0, .slice none 0 0, .slice none 0 0, .bool false]
  have HB8 := Lib.hid hblk
  have HL8 := Lib.hid hb0
  clear hblk hb0
  by_cases h1 : nn = n
  · subst h1
    have hd0 : ((nn : Int) != (nn : Int)) = false := by simp
    have hd : ((nb : Int) != (nn : Int)) = true := by simp; omega
    clear hbad
    go_enter Try.func58, Try.ntmps58
    go_wp2
    refine bodyPost_gen HB8.out HL8.out ?_
    clear HB8 HL8
    intro W hblk hbel
    obtain ⟨⟨c0, c1, c2, c3, c4, c5, c6, c7⟩, _⟩ := hblk.eight
    clear hblk
    exact bodyPost_ret (v := .tuple #[zero31, .int .i64 19]) (by simp [results, Try.results58, go_sem, c0, c1, c2, c3, c4, c5, c6, c7, zero31]) rfl ⟨rfl, hbel⟩
  · have hd : ((nn : Int) != (n : Int)) = true := by simp; omega
    clear hbad
    go_enter Try.func58, Try.ntmps58
    go_wp2
    refine bodyPost_gen HB8.out HL8.out ?_
    clear HB8 HL8
    intro W hblk hbel
    obtain ⟨⟨c0, c1, c2, c3, c4, c5, c6, c7⟩, _⟩ := hblk.eight
    clear hblk
    exact bodyPost_ret (v := .tuple #[zero31, .int .i64 19]) (by simp [results, Try.results58, go_sem, c0, c1, c2, c3, c4, c5, c6, c7, zero31]) rfl ⟨rfl, hbel⟩

set_option maxHeartbeats 6400000 in
set_option maxRecDepth 100000 in
theorem rsum_any (A : Option Addr) (n c : Nat) (ps : List Part) (An : Option Addr) (cn : Nat) (nms : List ByteArray) (Ai : Option Addr) (cb : Nat) (bs : List Bool) (fs : List (List Int)) (w : World) (hn : ps.length = n) (hnn : nms.length = n) (hbn : bs.length = n) (hfn : fs.length = n)
    (hs : Parts w A ps) (hsn : Sl w An (nms.map Value.string)) (hsb : Sl w Ai (bs.map Value.bool)) (hlen : n ≤ 1000) (hsp : ∀ p ∈ ps, Sl w p.A (p.sp.map bv)) (hone : ∀ p ∈ ps, p.one)
    (hof : ∀ (i : Nat) (h1 : i < ps.length) (h2 : i < fs.length), ∃ Ao co, ps[i].x3 = .slice Ao fs[i].length co ∧ Sl w Ao (fs[i].map iv) ∧ fs[i].length ≤ 1000000) :
    Calls Try.prog 58 #[.slice A n c, .slice An n cn, .slice Ai n cb] w fun e w' => (ps.any (fun p => !p.valid) = true ∧ e = .returned (.tuple #[zero31, .int .i64 19]) ∧ Below w.heap.size w w') ∨ (ps.any (fun p => !p.valid) = false ∧ 12 < n ∧ e = .returned (.tuple #[zero31, .int .i64 4]) ∧ Below w.heap.size w w') ∨ (ps.any (fun p => !p.valid) = false ∧ n ≤ 12 ∧ SumPost ps nms bs fs w e w') := by
  have hb0 := (Below.refl w.heap.size w).alloc (Nat.le_refl _) (.cells #[.int .i64 0, .int .i64 0, .slice none 0 0, .slice none 0 0, .slice none 0 0, .slice none 0 0, .slice none 0 0, .bool false] 31)
  have hres := Blk.new w 31 #[.int .i64 0, .int .i64 0, .slice none 0 0, .slice none 0 0, .slice none 0 0, .slice none 0 0, .slice none 0 0, .bool false]
  have HN := Lib.hid hn
  have HNN := Lib.hid hnn
  have HBN := Lib.hid hbn
  have HFN := Lib.hid hfn
  have HS := Lib.hid hs
  have HSN := Lib.hid hsn
  have HSB := Lib.hid hsb
  have HSP := Lib.hid hsp
  have HONE := Lib.hid hone
  have HOF := Lib.hid hof
  clear hn hnn hbn hfn hs hsn hsb hsp hone hof
  have hdn : ((n : Int) != (n : Int)) = false := by simp
  go_enter Try.func58, Try.ntmps58
  go_wp2_with fail
  clear hdn
  go_loopw [38] (fun v38 wr => ∃ k : Nat, k ≤ n ∧ v38 = .int .i64 k ∧ Hid (∀ p ∈ ps.take k, p.valid = true) ∧ Below w.heap.size w wr ∧ Blk wr w.heap.size 31 #[.int .i64 0, .int .i64 0, .slice none 0 0, .slice none 0 0, .slice none 0 0, .slice none 0 0, .slice none 0 0, .bool false]) (fun v38 _ => n - (intOf v38).toNat)
  case atStart => exact ⟨0, by omega, rfl, (by intro p hp; simp at hp : Hid _), hb0, hres⟩
  case round =>
    obtain ⟨k, hk, rfl, hv, hb, hR⟩ := hrel
    clear hb0 hres
    by_cases hlt : k < n
    · have hkp : k < ps.length := by rw [HN.out]; exact hlt
      obtain ⟨gb, off, rfl, c0, c1, c2, c3, c4, c5, c6, c7⟩ := (HS.out.below hb).get hkp
      have hpo := HONE.out ps[k] (List.getElem_mem hkp)
      have htk : ps.take (k + 1) = ps.take k ++ [ps[k]] := List.take_succ_eq_append_getElem hkp
      have hany : ps[k].valid = false → ps.any (fun p => !p.valid) = true := fun h => List.any_eq_true.2 ⟨ps[k], List.getElem_mem hkp, by rw [h]; rfl⟩
      have HTK := Lib.hid htk
      clear htk
      generalize ps[k] = p at *
      have sx3 := store_var (P := Try.prog) hpo.h3
      have sx4 := store_var (P := Try.prog) hpo.h4
      have sx5 := store_var (P := Try.prog) hpo.h5
      have sx6 := store_var (P := Try.prog) hpo.h6
      have sx7 := store_var (P := Try.prog) hpo.h7
      have hbn := (Below.refl wr.heap.size wr).alloc (Nat.le_refl _) (.cells #[.int .i64 p.s, .int .i64 p.al, .slice p.A p.sp.length p.c, p.x3, p.x4, p.x5, p.x6, p.x7] 31)
      have HR := Lib.hid (hR.below hbn)
      have HBB := Lib.hid (below_next hb hbn)
      have HANY := Lib.hid hany
      clear hR hb hbn hany
      go_wp2_with fail
      refine (rvalid_any _ _ _ _ _ _ _ _ _ _ _).mono ?_
      rintro e w1 ⟨rfl, hb1⟩
      have hpv : validB p.s p.al p.sp.length = p.valid := rfl
      rw [hpv]
      cases hval : p.valid with
      | true =>
        have HV2 : Hid (∀ q ∈ ps.take (k + 1), q.valid = true) := by
          intro q hq
          rw [HTK.out] at hq
          rcases List.mem_append.1 hq with h | h
          · exact hv.out q h
          · rw [List.mem_singleton.1 h]; exact hval
        have HB1 := Lib.hid (below_next HBB.out hb1)
        have HR1 := Lib.hid (HR.out.below hb1)
        clear hb1 hval hpv
        go_wp2_with fail
        go_roundw
        case rel => exact ⟨k + 1, by omega, by go_num, HV2, HB1.out, HR1.out⟩
        case measure => simp [intOf]; omega
      | false =>
        have hA := HANY.out hval
        have HA := Lib.hid hA
        have hblk := HR.out.below hb1
        have hbb := below_next HBB.out hb1
        obtain ⟨⟨r0, r1, r2, r3, r4, r5, r6, r7⟩, hf⟩ := hblk.eight
        have HB8 := Lib.hid (hblk.set8 (.int .i64 0) (.int .i64 0) (.slice none 0 0) (.slice none 0 0) (.slice none 0 0) (.slice none 0 0) (.slice none 0 0) (.bool false))
        have HL8 := Lib.hid (below8 hbb (Nat.le_refl _) (.int .i64 0) (.int .i64 0) (.slice none 0 0) (.slice none 0 0) (.slice none 0 0) (.slice none 0 0) (.slice none 0 0) (.bool false))
        clear hblk hbb hb1 hval hpv hA
        go_wp2
        refine bodyPost_gen HB8.out HL8.out ?_
        clear HB8 HL8 r0 r1 r2 r3 r4 r5 r6 r7 hf
        intro W hblk hbel
        obtain ⟨⟨c0, c1, c2, c3, c4, c5, c6, c7⟩, _⟩ := hblk.eight
        clear hblk
        exact bodyPost_ret (v := .tuple #[zero31, .int .i64 19]) (by simp [results, Try.results58, go_sem, c0, c1, c2, c3, c4, c5, c6, c7, zero31]) rfl (.inl ⟨HA.out, rfl, hbel⟩)
    · obtain rfl : k = n := by omega
      have hval : ∀ p ∈ ps, p.valid = true := by
        have h := hv.out
        rwa [List.take_of_length_le (by rw [HN.out]; exact Nat.le_refl _)] at h
      have hany : ps.any (fun p => !p.valid) = false := by
        rw [Bool.eq_false_iff]
        intro h
        obtain ⟨p, hp, h2⟩ := List.any_eq_true.1 h
        rw [hval p hp] at h2; cases h2
      have HVAL := Lib.hid hval
      have HANY := Lib.hid hany
      clear hv hval hany
      obtain ⟨W1, hW1⟩ : ∃ W1, W1 = wr := ⟨_, rfl⟩
      rw [← hW1] at hb hR ⊢
      clear hW1
      by_cases h12 : 12 < k
      · have h12' : (12 : Int) < k := by omega
        obtain ⟨⟨r0, r1, r2, r3, r4, r5, r6, r7⟩, hf⟩ := hR.eight
        have HB8 := Lib.hid (hR.set8 (.int .i64 0) (.int .i64 0) (.slice none 0 0) (.slice none 0 0) (.slice none 0 0) (.slice none 0 0) (.slice none 0 0) (.bool false))
        have HL8 := Lib.hid (below8 hb (Nat.le_refl _) (.int .i64 0) (.int .i64 0) (.slice none 0 0) (.slice none 0 0) (.slice none 0 0) (.slice none 0 0) (.slice none 0 0) (.bool false))
        clear hb hR
        go_wp2
        refine bodyPost_gen HB8.out HL8.out ?_
        clear HB8 HL8 r0 r1 r2 r3 r4 r5 r6 r7 hf
        intro W hblk hbel
        obtain ⟨⟨c0, c1, c2, c3, c4, c5, c6, c7⟩, _⟩ := hblk.eight
        clear hblk
        exact bodyPost_ret (v := .tuple #[zero31, .int .i64 4]) (by simp [results, Try.results58, go_sem, c0, c1, c2, c3, c4, c5, c6, c7, zero31]) rfl (.inr (.inl ⟨HANY.out, h12, rfl, hbel⟩))
      · have h12' : ¬ (12 : Int) < k := by omega
        have hres2 := hR.alloc (.cells #[.int .i64 0, .int .i64 1, .slice none 0 0, .slice none 0 0, .slice none 0 0, .slice none 0 0, .slice none 0 0, .bool false] 31)
        have hout := Blk.new W1 31 #[.int .i64 0, .int .i64 1, .slice none 0 0, .slice none 0 0, .slice none 0 0, .slice none 0 0, .slice none 0 0, .bool false]
        have hszW1 : w.heap.size < W1.heap.size := hR.lt
        have hst : SumAt w (W1.heap.size + 1) (.slice none ([] : List CaseV).length 0) [] (.slice none ([] : List Part).length 0) [] (W1.alloc (.cells #[.int .i64 0, .int .i64 1, .slice none 0 0, .slice none 0 0, .slice none 0 0, .slice none 0 0, .slice none 0 0, .bool false] 31)) :=
          ⟨World.ownsRow_nil _ _ _ _, World.ownsRow_nil _ _ _ _, hb.alloc (by omega) _, by simp, by simp, by simp, by omega, by simp⟩
        have HRES := Lib.hid hres2
        have HOUT := Lib.hid hout
        have HST := Lib.hid hst
        clear hR hb hres2 hout hst
        go_wp2_with fail
        clear h12'
        obtain ⟨n, hnk⟩ : ∃ n, n = k := ⟨_, rfl⟩
        subst hnk
        go_loopw [11, 12, 54] (fun v11 v12 v54 wr => ∃ (k : Nat) (At : Option Addr) (ct : Nat) (Ac : Option Addr) (cc : Nat) (qs : List CaseV) (ts : List Part), k ≤ n ∧ v54 = .int .i64 k ∧ Hid (qs.length = k) ∧ Hid (ts.length = k) ∧ v11 = .int .i64 (sizeP ts) ∧ v12 = .slice At k ct ∧ SumAt w (W1.heap.size + 1) (.slice Ac qs.length cc) qs (.slice At ts.length ct) ts wr ∧
            Blk wr W1.heap.size 31 #[.int .i64 0, .int .i64 (alP ts), .slice none 0 0, .slice none 0 0, .slice none 0 0, .slice Ac k cc, .slice none 0 0, .bool false] ∧ Blk wr w.heap.size 31 #[.int .i64 0, .int .i64 0, .slice none 0 0, .slice none 0 0, .slice none 0 0, .slice none 0 0, .slice none 0 0, .bool false] ∧
            Hid (ts.map Part.key = ((inside ps bs).take k).map Part.key) ∧ Hid (∀ (i : Nat) (h : i < qs.length) (h1 : i < nms.length) (h2 : i < bs.length) (h3 : i < fs.length) (h4 : i < ps.length), caseOf nms[i] bs[i] fs[i] ps[i].s qs[i])) (fun _ _ v54 _ => n - (intOf v54).toNat)
        case atStart =>
          exact ⟨0, none, 0, none, 0, [], [], by omega, rfl, (rfl : _ = _), (rfl : _ = _), rfl, rfl, HST.out, HOUT.out, HRES.out, (rfl : _ = _), (by intro i h; simp at h : Hid _)⟩
        case round =>
          obtain ⟨k, At, ct, Ac, cc, qs, ts, hk, rfl, hql, htl, rfl, rfl, H, hO, hR, hkey, hcase⟩ := hrel
          clear HRES HOUT HST
          by_cases hlt : k < n
          · have hkp : k < ps.length := by rw [HN.out]; exact hlt
            have hkn : k < nms.length := by rw [HNN.out]; exact hlt
            have hkb : k < bs.length := by rw [HBN.out]; exact hlt
            have hkf : k < fs.length := by rw [HFN.out]; exact hlt
            obtain ⟨gb, off, rfl, c0, c1, c2, c3, c4, c5, c6, c7⟩ := (HS.out.below H.below).get hkp
            obtain ⟨gn, offn, rfl, cn0⟩ := Sl.at_ HSN.out (k := k) (by simpa using hkn)
            obtain ⟨gi, offi, rfl, ci0⟩ := Sl.at_ HSB.out (k := k) (by simpa using hkb)
            rw [List.getElem_map] at cn0 ci0
            obtain ⟨Ao, co, ex3, hofs, hofl⟩ := HOF.out k hkp hkf
            have hpo := HONE.out ps[k] (List.getElem_mem hkp)
            have hpv := HVAL.out ps[k] (List.getElem_mem hkp)
            have hpsp := HSP.out ps[k] (List.getElem_mem hkp)
            have hin := inside_get ps bs k hkp hkb
            generalize hpk : ps[k] = p at *
            generalize hnk : nms[k] = nm at *
            generalize hbk : bs[k] = b at *
            generalize hfk : fs[k] = f at *
            rw [ex3] at c3
            have sx4 := store_var (P := Try.prog) hpo.h4
            have sx5 := store_var (P := Try.prog) hpo.h5
            have sx6 := store_var (P := Try.prog) hpo.h6
            have sx7 := store_var (P := Try.prog) hpo.h7
            have hOlt := hO.lt
            have hPb := Blk.new wr 31 #[.int .i64 p.s, .int .i64 p.al, .slice p.A p.sp.length p.c, .slice Ao f.length co, p.x4, p.x5, p.x6, p.x7]
            have H1 := H.alloc (.cells #[.int .i64 p.s, .int .i64 p.al, .slice p.A p.sp.length p.c, .slice Ao f.length co, p.x4, p.x5, p.x6, p.x7] 31)
            have hO1 := hO.alloc (.cells #[.int .i64 p.s, .int .i64 p.al, .slice p.A p.sp.length p.c, .slice Ao f.length co, p.x4, p.x5, p.x6, p.x7] 31)
            have hR1 := hR.alloc (.cells #[.int .i64 p.s, .int .i64 p.al, .slice p.A p.sp.length p.c, .slice Ao f.length co, p.x4, p.x5, p.x6, p.x7] 31)
            have hTP : (Value.slice At ts.length ct).ownBlock ≠ some wr.heap.size := fun e => by have := (H.ownT.lt _ e).2; omega
            obtain ⟨w9, hw9⟩ : ∃ w9, w9 = wr.alloc (.cells #[.int .i64 p.s, .int .i64 p.al, .slice p.A p.sp.length p.c, .slice Ao f.length co, p.x4, p.x5, p.x6, p.x7] 31) := ⟨_, rfl⟩
            rw [← hw9] at H1 hO1 hR1 hPb
            have hsz9 : w9.heap.size = wr.heap.size + 1 := by rw [hw9]; simp
            obtain ⟨gP, hgP⟩ : ∃ gP, gP = wr.heap.size := ⟨_, rfl⟩
            rw [← hgP] at hPb hTP
            have hci : w9.cell? ⟨gi, offi + k, none⟩ = some (.bool b) := cell_in ci0 H1.below
            have hXb := Blk.new w9 31 #[.int .i64 p.s, .int .i64 p.al, .slice p.A p.sp.length p.c, .slice Ao f.length co, p.x4, p.x5, p.x6, p.x7]
            have H2 := H1.alloc (.cells #[.int .i64 p.s, .int .i64 p.al, .slice p.A p.sp.length p.c, .slice Ao f.length co, p.x4, p.x5, p.x6, p.x7] 31)
            have hO2 := hO1.alloc (.cells #[.int .i64 p.s, .int .i64 p.al, .slice p.A p.sp.length p.c, .slice Ao f.length co, p.x4, p.x5, p.x6, p.x7] 31)
            have hR2 := hR1.alloc (.cells #[.int .i64 p.s, .int .i64 p.al, .slice p.A p.sp.length p.c, .slice Ao f.length co, p.x4, p.x5, p.x6, p.x7] 31)
            have hP2 := hPb.alloc (.cells #[.int .i64 p.s, .int .i64 p.al, .slice p.A p.sp.length p.c, .slice Ao f.length co, p.x4, p.x5, p.x6, p.x7] 31)
            have hTX : (Value.slice At ts.length ct).ownBlock ≠ some w9.heap.size := fun e => by have := (H1.ownT.lt _ e).2; omega
            obtain ⟨w8, hw8⟩ : ∃ w8, w8 = w9.alloc (.cells #[.int .i64 p.s, .int .i64 p.al, .slice p.A p.sp.length p.c, .slice Ao f.length co, p.x4, p.x5, p.x6, p.x7] 31) := ⟨_, rfl⟩
            rw [← hw8] at H2 hO2 hR2 hP2 hXb
            obtain ⟨gX, hgX⟩ : ∃ gX, gX = w9.heap.size := ⟨_, rfl⟩
            rw [← hgX] at hXb hTX
            have hgPX : gP < gX := by omega
            have hgOP : W1.heap.size < gP := by omega
            have HHP := Lib.hid hgP
            have HHX := Lib.hid hgX
            have HW9 := Lib.hid hw9
            have HW8 := Lib.hid hw8
            have HH2 := Lib.hid H2
            have HO2 := Lib.hid hO2
            have HR2 := Lib.hid hR2
            have HP2 := Lib.hid hP2
            have HXB := Lib.hid hXb
            have HTP := Lib.hid hTP
            have HTX := Lib.hid hTX
            have HTO : Hid ((Value.slice At ts.length ct).ownBlock ≠ some W1.heap.size) := fun e => by have := (H.ownT.lt _ e).1; omega
            have HTR : Hid ((Value.slice At ts.length ct).ownBlock ≠ some w.heap.size) := fun e => by have := (H.ownT.lt _ e).1; omega
            have HOFS := Lib.hid hofs
            have CN0 := Lib.hid cn0
            have CI0 := Lib.hid ci0
            have HEX3 := Lib.hid ex3
            have HPK := Lib.hid hpk
            have HNK := Lib.hid hnk
            have HBK := Lib.hid hbk
            have HFK := Lib.hid hfk
            have HIN := Lib.hid hin
            have hik : (0 : Int) ≤ (k : Int) := Int.natCast_nonneg _
            have hik2 : (k : Int) < (n : Int) := by omega
            have hszw : wr.heap.size < w9.heap.size := by omega
            have hgil : gi < w9.heap.size := World.block_lt_of_cell? w9 _ hci
            have hginX : ¬ gX = gi := by omega
            have hci2 : w8.cell? ⟨gi, offi + k, none⟩ = some (.bool b) := by rw [hw8]; exact (((Below.refl w9.heap.size w9).alloc (Nat.le_refl _) _).cell (p := ⟨gi, offi + k, none⟩) hgil).trans hci
            have hgl9 : gP < w9.heap.size := by omega
            clear H1 hO1 hR1 hPb hTP ex3 hpk hnk hbk hfk hin hofs H hO hR cn0 H2 hO2 hR2 hP2 hTX hgP hgX hw9 hw8
            go_upto_region 17 with (fail)
            have hgX1 : wr.heap.size + 1 = gX := by have := HHX.out; omega
            rw [← HW9.out, ← HW8.out, hgX1, ← HHP.out]
            clear hgX1 hci ci0
            have key : ∀ T : Part, T.key = (insideP p b).key → Hid ((ts ++ [T]).map Part.key = ((inside ps bs).take (k + 1)).map Part.key) := by
              intro T hT
              show _ = _
              rw [List.take_add_one, HIN.out, List.map_append, List.map_append, hkey.out]
              simp [hT]
            have HKEY := Lib.hid key
            clear key
            cases b
            case' false =>
              obtain ⟨T, hT⟩ : ∃ T : Part, T = ⟨p.s, p.al, p.A, p.sp, p.c, .slice Ao f.length co, p.x4, p.x5, p.x6, p.x7⟩ := ⟨_, rfl⟩
              have hTk : T.key = (insideP p false).key := by rw [hT]; rfl
              have hTb : T.s ≤ 1024 ∧ T.al ≤ 8 ∧ 0 ≤ T.s ∧ 1 ≤ T.al := by
                obtain ⟨v1, v2, v3, v4⟩ := (valid_iff p).1 hpv
                rw [hT]; exact ⟨v2, by show p.al ≤ 8; omega, v1, by show 1 ≤ p.al; omega⟩
              have hTo : T.one := by rw [hT]; exact ⟨rfl, hpo.h4, hpo.h5, hpo.h6, hpo.h7⟩
              have hTl : T.sp.length ≤ 9223372036854775807 := by
                obtain ⟨v1, v2, v3, v4⟩ := (valid_iff p).1 hpv
                rw [hT]; show p.sp.length ≤ _; omega
              obtain ⟨S, hS⟩ : ∃ S : World, S = w8 := ⟨_, rfl⟩
              have hTs : Sl w T.A (T.sp.map bv) ∨ SlE S 5 T.A (T.sp.map bv) := by rw [hT]; exact .inl hpsp
              have hPT : Blk S gX 31 #[.int .i64 T.s, .int .i64 T.al, .slice T.A T.sp.length T.c, T.x3, T.x4, T.x5, T.x6, T.x7] := by rw [hT, hS]; exact HXB.out
              have hPP : Blk S gP 31 #[.int .i64 p.s, .int .i64 p.al, .slice p.A p.sp.length p.c, .slice Ao f.length co, p.x4, p.x5, p.x6, p.x7] := by rw [hS]; exact HP2.out
              have hSum : SumAt w (W1.heap.size + 1) (.slice Ac qs.length cc) qs (.slice At ts.length ct) ts S := by rw [hS]; exact HH2.out
              have hSO := HO2.out
              have hSR := HR2.out
              rw [← hS] at hSO hSR
              have hw8S : w8.heap.size ≤ S.heap.size := by rw [hS]; exact Nat.le_refl _
              have HSS := Lib.hid hS
              clear hT hS
              go_upto_region 19 with (fail)
              rw [← HSS.out]
              clear HSS
            case' true =>
              go_wp2_with fail
              refine (rpointer_any _).mono ?_
              rintro e w10 ⟨Ap, he, hsp10, hb10⟩
              have he' : e = .returned (.agg #[.int .i64 8, .int .i64 8, .slice Ap 8 8, .slice none 0 0, .slice none 0 0, .slice none 0 0, .slice none 0 0, .bool true]) := he
              subst he'
              obtain ⟨T, hT⟩ : ∃ T : Part, T = ptrP Ap := ⟨_, rfl⟩
              have hTk : T.key = (insideP p true).key := by rw [hT]; rfl
              have hTb : T.s ≤ 1024 ∧ T.al ≤ 8 ∧ 0 ≤ T.s ∧ 1 ≤ T.al := by rw [hT]; exact ⟨by show (8 : Int) ≤ 1024; omega, by show (8 : Int) ≤ 8; omega, by show (0 : Int) ≤ 8; omega, by show (1 : Int) ≤ 8; omega⟩
              have hTo : T.one := by rw [hT]; exact ⟨rfl, rfl, rfl, rfl, rfl⟩
              have hTl : T.sp.length ≤ 9223372036854775807 := by rw [hT]; show 8 ≤ 9223372036854775807; omega
              have hXb := HXB.out.below hb10
              obtain ⟨⟨b0, b1, b2, b3, b4, b5, b6, b7⟩, bf⟩ := hXb.eight
              obtain ⟨S, hS⟩ : ∃ S, S = (((((((w10.setCell ⟨gX, 0, none⟩ (.int .i64 8)).setCell ⟨gX, 1, none⟩ (.int .i64 8)).setCell ⟨gX, 2, none⟩ (.slice Ap 8 8)).setCell ⟨gX, 3, none⟩ (.slice none 0 0)).setCell ⟨gX, 4, none⟩ (.slice none 0 0)).setCell ⟨gX, 5, none⟩ (.slice none 0 0)).setCell ⟨gX, 6, none⟩ (.slice none 0 0)).setCell ⟨gX, 7, none⟩ (.bool true) := ⟨_, rfl⟩
              have h8 : w10.grownBy S (some gX) := by rw [hS]; exact only8 w10 gX (.int .i64 8) (.int .i64 8) (.slice Ap 8 8) (.slice none 0 0) (.slice none 0 0) (.slice none 0 0) (.slice none 0 0) (.bool true)
              have hPT : Blk S gX 31 #[.int .i64 T.s, .int .i64 T.al, .slice T.A T.sp.length T.c, T.x3, T.x4, T.x5, T.x6, T.x7] := by rw [hS, hT]; exact hXb.set8 (.int .i64 8) (.int .i64 8) (.slice Ap 8 8) (.slice none 0 0) (.slice none 0 0) (.slice none 0 0) (.slice none 0 0) (.bool true)
              have hSum := (HH2.out.under hb10).grown h8 hXb (by omega) HTX.out
              have hTs : Sl w T.A (T.sp.map bv) ∨ SlE S 5 T.A (T.sp.map bv) := by rw [hT]; exact .inr (hsp10.grown h8 hXb (by decide))
              have hSO := (HO2.out.below hb10).grown h8 (fun e => by injection e with e; omega)
              have hSR := (HR2.out.below hb10).grown h8 (fun e => by injection e with e; omega)
              have hPP := (HP2.out.below hb10).grown h8 (fun e => by injection e with e; omega)
              have hw8S : w8.heap.size ≤ S.heap.size := Nat.le_trans hb10.size h8.size
              have HSS := Lib.hid hS
              have HHT := Lib.hid hT
              have HPT := Lib.hid hPT
              have HPP := Lib.hid hPP
              have HSUM := Lib.hid hSum
              have HSO := Lib.hid hSO
              have HSR := Lib.hid hSR
              have HTS := Lib.hid hTs
              have HTK := Lib.hid hTk
              have HTL := Lib.hid hTl
              have HTOO := Lib.hid hTo
              clear hS hT h8 hPT hPP hSum hTs hSO hSR hXb hsp10 hb10 hTk hTl hTo
              go_upto_region 19 with (fail)
              rw [← HSS.out]
              clear b0 b1 b2 b3 b4 b5 b6 b7 bf HSS
              have hPT := HPT.out
              have hPP := HPP.out
              have hSum := HSUM.out
              have hSO := HSO.out
              have hSR := HSR.out
              have hTs := HTS.out
              have hTk := HTK.out
              have hTl := HTL.out
              have hTo := HTOO.out
              clear HPT HPP HSUM HSO HSR HTS HTK HTL HTOO
            case' false =>
              have hszOS : W1.heap.size < S.heap.size := hSO.lt
              have hszXS : gX < S.heap.size := hPT.lt
              have hneOX : ¬ W1.heap.size = gX := by omega
              have hneXO : ¬ gX = W1.heap.size := by omega
              have hTb0 := hTb.1
              have hTb1 := hTb.2.1
              have hTb2 := hTb.2.2.1
              have hTb3 := hTb.2.2.2
              have hx3 := store_var (P := Try.prog) hTo.h3
              have hx4 := store_var (P := Try.prog) hTo.h4
              have hx5 := store_var (P := Try.prog) hTo.h5
              have hx6 := store_var (P := Try.prog) hTo.h6
              have hx7 := store_var (P := Try.prog) hTo.h7
              obtain ⟨A4, c4, w4, hrun4, H4, hblk4, hsz4⟩ := hSum.appT (by rw [htl.out]; omega) T hTo hTl hTs
              rw [htl.out] at hrun4
              obtain ⟨hO4, hTO4⟩ := hblk4 _ _ _ hSO HTO.out
              obtain ⟨hX4, hTX4⟩ := hblk4 _ _ _ hPT HTX.out
              obtain ⟨hP4, hTP4⟩ := hblk4 _ _ _ hPP HTP.out
              obtain ⟨hR4, hTR4⟩ := hblk4 _ _ _ hSR HTR.out
              have e1 : sizeP (ts ++ [T]) = if sizeP ts < T.s then T.s else sizeP ts := by rw [sizeP_snoc]; split <;> omega
              have e2 : alP (ts ++ [T]) = if alP ts < T.al then T.al else alP ts := by rw [alP_snoc]; split <;> omega
              have H5 := H4.set_ 1 (.int .i64 (alP (ts ++ [T]))) hO4 (by omega) hTO4
              have hO5 := hO4.set_ 1 (.int .i64 (alP (ts ++ [T])))
              have hR5 := hR4.far (p := ⟨W1.heap.size, 1, none⟩) (by show w.heap.size ≠ W1.heap.size; omega) (.int .i64 (alP (ts ++ [T])))
              have hP5 := hP4.far (p := ⟨W1.heap.size, 1, none⟩) (by show gP ≠ W1.heap.size; omega) (.int .i64 (alP (ts ++ [T])))
              obtain ⟨⟨p0, p1, p2, p3, p4, p5, p6, p7⟩, pf⟩ := hPT.eight
              obtain ⟨⟨o0, o1, o2, o3, o4, o5, o6, o7⟩, of_⟩ := hO4.eight
              obtain ⟨⟨r0, r1, r2, r3, r4, r5, r6, r7⟩, rf_⟩ := hX4.eight
              clear o0 o2 o3 o4 o5 o6 o7 r2 r3 r4 r5 r6 r7 rf_
              have KEY2 := HKEY.out T hTk
              have HH5 := Lib.hid H5
              have HO5 := Lib.hid hO5
              have HR5 := Lib.hid hR5
              have HP5 := Lib.hid hP5
              have E1 := Lib.hid e1
              have E2 := Lib.hid e2
              have HTO4 := Lib.hid hTO4
              have HTL5 : Hid ((ts ++ [T]).length = k + 1) := by show _ = _; rw [List.length_append, htl.out]; rfl
              clear H4 hO4 hP4 hR4 hO5 H5 hR5 hP5 hblk4 hSum hSO hPT hPP hSR e1 e2 hTX4 hTP4 hTR4 hTO4 hTs hTo hTl hTk hTb hX4
              go_wp2_with fail
              clear p0 p1 p2 p3 p4 p5 p6 p7 pf hrun4 hx3 hx4 hx5 hx6 hx7
              go_region
              rw [← E1.out, ← E2.out]
              clear E1 E2
              go_wp2_with fail
              obtain ⟨w7, hw7⟩ : ∃ w7, w7 = (w4.setCell ⟨W1.heap.size, 1, none⟩ (.int .i64 (alP (ts ++ [T])))).drew := ⟨_, rfl⟩
              rw [← hw7]
              have hbase : CaseBase w (W1.heap.size + 1) (.slice A4 (ts ++ [T]).length c4) (ts ++ [T]) W1.heap.size gP w.heap.size #[.int .i64 p.s, .int .i64 p.al, .slice p.A p.sp.length p.c, .slice Ao f.length co, p.x4, p.x5, p.x6, p.x7] #[.int .i64 0, .int .i64 0, .slice none 0 0, .slice none 0 0, .slice none 0 0, .slice none 0 0, .slice none 0 0, .bool false] (fun v => #[.int .i64 0, .int .i64 (alP (ts ++ [T])), .slice none 0 0, .slice none 0 0, .slice none 0 0, v, .slice none 0 0, .bool false]) (.slice Ac qs.length cc) qs (.slice Ac qs.length cc) w7.drew := by
                rw [hw7]
                exact ⟨HH5.out.drew.drew, by have h := HO5.out; rw [← hql.out] at h; exact h, HP5.out, HR5.out, HTO4.out, by omega, by omega, by omega⟩
              have HBASE := Lib.hid hbase
              clear hbase hw7
              have hql6 : qs.length ≤ 6000 := by rw [hql.out]; omega
              refine gen_act fun a0 ha0 => ?_
              have z1 : a0.eval (.tmp 1) = .slice (some ⟨gn, offn, none⟩) n cn := by rw [ha0]; rfl
              have z2 : a0.eval (.tmp 2) = .slice (some ⟨gi, offi, none⟩) n cb := by rw [ha0]; rfl
              have z10 : a0.eval (.tmp 10) = .pointer (some ⟨W1.heap.size, 0, none⟩) := by rw [ha0]; rfl
              have z13 : a0.eval (.tmp 13) = .int .i64 k := by rw [ha0]; rfl
              have z14 : a0.eval (.tmp 14) = .pointer (some ⟨gP, 0, none⟩) := by rw [ha0]; rfl
              have zs : a0.tmps.size = 167 := by rw [ha0]; rfl
              have HA0 := Lib.hid ha0
              clear ha0
              refine wp_region_known (by kernel_rfl) (ord_of (by kernel_rfl)) (dst_of (by kernel_rfl)) (size_of' (n := 167) (by kernel_rfl) zs) (guard_of (by kernel_rfl)) [some (.pointer (some ⟨W1.heap.size, 5, none⟩)), some (.slice Ac qs.length cc), some (.slice (some ⟨gn, offn, none⟩) n cn), some (.int .i64 k), some (.pointer (some ⟨gn, offn + k, none⟩)), some (.string nm), some (.slice (some ⟨gi, offi, none⟩) n cb), some (.int .i64 k), some (.pointer (some ⟨gi, offi + k, none⟩)), some (.bool false), some (.pointer (some ⟨gP, 3, none⟩)), some (.slice Ao f.length co), none, some (.pointer (some ⟨gP, 0, none⟩)), some (.int .i64 p.s), none, none, none, some (.pointer (some ⟨W1.heap.size, 5, none⟩)), none] (CaseSt w (W1.heap.size + 1) (.slice A4 (ts ++ [T]).length c4) (ts ++ [T]) W1.heap.size gP w.heap.size #[.int .i64 p.s, .int .i64 p.al, .slice p.A p.sp.length p.c, .slice Ao f.length co, p.x4, p.x5, p.x6, p.x7] #[.int .i64 0, .int .i64 0, .slice none 0 0, .slice none 0 0, .slice none 0 0, .slice none 0 0, .slice none 0 0, .bool false] (fun v => #[.int .i64 0, .int .i64 (alP (ts ++ [T])), .slice none 0 0, .slice none 0 0, .slice none 0 0, v, .slice none 0 0, .bool false]) Ac cc qs nm false f p.s) (.s0 rfl rfl rfl rfl rfl HBASE.out) ?_ ?_ ?_ ?_
              · intro i u D x w5 hl hD hI
                have hi : i < 20 := by have h := (List.getElem?_eq_some_iff.1 hl).1; simpa using h
                have hnh : i ≠ 12 ∧ i ≠ 15 ∧ i ≠ 16 ∧ i ≠ 17 ∧ i ≠ 19 := by
                  refine ⟨?_, ?_, ?_, ?_, ?_⟩ <;> (rintro rfl; simp at hl)
                exact hI.ins i u hnh.1 hnh.2.1 hnh.2.2.1 hnh.2.2.2.1 hnh.2.2.2.2
              · intro D x a w5 i o u ho hl hD hdep hcl hF hKn hI K hk
                have hi : i < 20 := (Array.getElem?_eq_some_iff.1 ho).1
                rcases (show i = 0 ∨ i = 1 ∨ i = 2 ∨ i = 3 ∨ i = 4 ∨ i = 5 ∨ i = 6 ∨ i = 7 ∨ i = 8 ∨ i = 9 ∨ i = 10 ∨ i = 11 ∨ i = 12 ∨ i = 13 ∨ i = 14 ∨ i = 15 ∨ i = 16 ∨ i = 17 ∨ i = 18 ∨ i = 19 by omega) with rfl | rfl | rfl | rfl | rfl | rfl | rfl | rfl | rfl | rfl | rfl | rfl | rfl | rfl | rfl | rfl | rfl | rfl | rfl | rfl
                · simp only [List.getElem?_toArray, List.getElem?_cons_zero, Option.some.injEq] at ho
                  subst ho
                  obtain rfl : .pointer (some ⟨W1.heap.size, 5, none⟩) = u := by simpa using hl
                  have e10 := hF.ev0 (by kernel_rfl) z10
                  clear hF hcl hKn hl
                  go_simp
                  exact hk
                · simp only [List.getElem?_toArray, List.getElem?_cons_zero, List.getElem?_cons_succ, Option.some.injEq] at ho
                  subst ho
                  simp [Region.binds] at hdep
                  obtain rfl : .slice Ac qs.length cc = u := by simpa using hl
                  have e79 := hKn.ev hF 0 rfl rfl rfl (by simp [hdep])
                  have c19 : D 19 = false := by
                    cases hx : D 19 with
                    | false => rfl
                    | true =>
                      have hy := hcl 19 _ rfl hx
                      simp [Region.binds] at hy
                      simp [hy] at hD
                  have hB := hI.old c19
                  obtain ⟨⟨b0, b1, b2, b3, b4, b5, b6, b7⟩, bf⟩ := Blk.eight hB
                  clear hF hcl hKn hl
                  go_simp
                  exact hk
                · simp only [List.getElem?_toArray, List.getElem?_cons_zero, List.getElem?_cons_succ, Option.some.injEq] at ho
                  subst ho
                  obtain rfl : .slice (some ⟨gn, offn, none⟩) n cn = u := by simpa using hl
                  have e1 := hF.ev0 (by kernel_rfl) z1
                  clear hF hcl hKn hl
                  go_simp
                  exact hk
                · simp only [List.getElem?_toArray, List.getElem?_cons_zero, List.getElem?_cons_succ, Option.some.injEq] at ho
                  subst ho
                  obtain rfl : .int .i64 k = u := by simpa using hl
                  have e13 := hF.ev0 (by kernel_rfl) z13
                  clear hF hcl hKn hl
                  go_simp
                  exact hk
                · simp only [List.getElem?_toArray, List.getElem?_cons_zero, List.getElem?_cons_succ, Option.some.injEq] at ho
                  subst ho
                  simp [Region.binds] at hdep
                  obtain rfl : .pointer (some ⟨gn, offn + k, none⟩) = u := by simpa using hl
                  have e81 := hKn.ev hF 2 rfl rfl rfl (by simp [hdep])
                  have e82 := hKn.ev hF 3 rfl rfl rfl (by simp [hdep])
                  clear hF hcl hKn hl
                  go_simp
                  exact hk
                · simp only [List.getElem?_toArray, List.getElem?_cons_zero, List.getElem?_cons_succ, Option.some.injEq] at ho
                  subst ho
                  simp [Region.binds] at hdep
                  obtain rfl : .string nm = u := by simpa using hl
                  have e83 := hKn.ev hF 4 rfl rfl rfl (by simp [hdep])
                  have cn5 := cell_in CN0.out hI.boxes.1
                  clear hF hcl hKn hl
                  go_simp
                  exact hk
                · simp only [List.getElem?_toArray, List.getElem?_cons_zero, List.getElem?_cons_succ, Option.some.injEq] at ho
                  subst ho
                  obtain rfl : .slice (some ⟨gi, offi, none⟩) n cb = u := by simpa using hl
                  have e2 := hF.ev0 (by kernel_rfl) z2
                  clear hF hcl hKn hl
                  go_simp
                  exact hk
                · simp only [List.getElem?_toArray, List.getElem?_cons_zero, List.getElem?_cons_succ, Option.some.injEq] at ho
                  subst ho
                  obtain rfl : .int .i64 k = u := by simpa using hl
                  have e13 := hF.ev0 (by kernel_rfl) z13
                  clear hF hcl hKn hl
                  go_simp
                  exact hk
                · simp only [List.getElem?_toArray, List.getElem?_cons_zero, List.getElem?_cons_succ, Option.some.injEq] at ho
                  subst ho
                  simp [Region.binds] at hdep
                  obtain rfl : .pointer (some ⟨gi, offi + k, none⟩) = u := by simpa using hl
                  have e85 := hKn.ev hF 6 rfl rfl rfl (by simp [hdep])
                  have e86 := hKn.ev hF 7 rfl rfl rfl (by simp [hdep])
                  clear hF hcl hKn hl
                  go_simp
                  exact hk
                · simp only [List.getElem?_toArray, List.getElem?_cons_zero, List.getElem?_cons_succ, Option.some.injEq] at ho
                  subst ho
                  simp [Region.binds] at hdep
                  obtain rfl : .bool false = u := by simpa using hl
                  have e87 := hKn.ev hF 8 rfl rfl rfl (by simp [hdep])
                  have ci5 := cell_in CI0.out hI.boxes.1
                  clear hF hcl hKn hl
                  go_simp
                  exact hk
                · simp only [List.getElem?_toArray, List.getElem?_cons_zero, List.getElem?_cons_succ, Option.some.injEq] at ho
                  subst ho
                  obtain rfl : .pointer (some ⟨gP, 3, none⟩) = u := by simpa using hl
                  have e14 := hF.ev0 (by kernel_rfl) z14
                  clear hF hcl hKn hl
                  go_simp
                  exact hk
                · simp only [List.getElem?_toArray, List.getElem?_cons_zero, List.getElem?_cons_succ, Option.some.injEq] at ho
                  subst ho
                  simp [Region.binds] at hdep
                  obtain rfl : .slice Ao f.length co = u := by simpa using hl
                  have e89 := hKn.ev hF 10 rfl rfl rfl (by simp [hdep])
                  obtain ⟨⟨b0, b1, b2, b3, b4, b5, b6, b7⟩, bf⟩ := Blk.eight (hI.boxes.2)
                  clear hF hcl hKn hl
                  go_simp
                  exact hk
                · simp at hl
                · simp only [List.getElem?_toArray, List.getElem?_cons_zero, List.getElem?_cons_succ, Option.some.injEq] at ho
                  subst ho
                  obtain rfl : .pointer (some ⟨gP, 0, none⟩) = u := by simpa using hl
                  have e14 := hF.ev0 (by kernel_rfl) z14
                  clear hF hcl hKn hl
                  go_simp
                  exact hk
                · simp only [List.getElem?_toArray, List.getElem?_cons_zero, List.getElem?_cons_succ, Option.some.injEq] at ho
                  subst ho
                  simp [Region.binds] at hdep
                  obtain rfl : .int .i64 p.s = u := by simpa using hl
                  have e92 := hKn.ev hF 13 rfl rfl rfl (by simp [hdep])
                  obtain ⟨⟨b0, b1, b2, b3, b4, b5, b6, b7⟩, bf⟩ := Blk.eight (hI.boxes.2)
                  clear hF hcl hKn hl
                  go_simp
                  exact hk
                · simp at hl
                · simp at hl
                · simp at hl
                · simp only [List.getElem?_toArray, List.getElem?_cons_zero, List.getElem?_cons_succ, Option.some.injEq] at ho
                  subst ho
                  simp [Region.binds] at hdep
                  obtain rfl : .pointer (some ⟨W1.heap.size, 5, none⟩) = u := by simpa using hl
                  have e10 := hF.ev0 (by kernel_rfl) z10
                  clear hF hcl hKn hl
                  go_simp
                  exact hk
                · simp at hl
              · intro D x a w5 i o ho hl hD hdep hcl hF hKn hI K hk
                have hi : i < 20 := (Array.getElem?_eq_some_iff.1 ho).1
                rcases (show i = 0 ∨ i = 1 ∨ i = 2 ∨ i = 3 ∨ i = 4 ∨ i = 5 ∨ i = 6 ∨ i = 7 ∨ i = 8 ∨ i = 9 ∨ i = 10 ∨ i = 11 ∨ i = 12 ∨ i = 13 ∨ i = 14 ∨ i = 15 ∨ i = 16 ∨ i = 17 ∨ i = 18 ∨ i = 19 by omega) with rfl | rfl | rfl | rfl | rfl | rfl | rfl | rfl | rfl | rfl | rfl | rfl | rfl | rfl | rfl | rfl | rfl | rfl | rfl | rfl
                · exact absurd rfl (hl _)
                · exact absurd rfl (hl _)
                · exact absurd rfl (hl _)
                · exact absurd rfl (hl _)
                · exact absurd rfl (hl _)
                · exact absurd rfl (hl _)
                · exact absurd rfl (hl _)
                · exact absurd rfl (hl _)
                · exact absurd rfl (hl _)
                · exact absurd rfl (hl _)
                · exact absurd rfl (hl _)
                · exact absurd rfl (hl _)
                · simp only [List.getElem?_toArray, List.getElem?_cons_zero, List.getElem?_cons_succ, Option.some.injEq] at ho
                  subst ho
                  simp [Region.binds] at hdep
                  have e90 := hKn.ev hF 11 rfl rfl rfl (by simp [hdep])
                  have hfs := HOFS.out.below hI.boxes.1
                  have Es := (hF.eval (i := 11) rfl rfl (by simp [hdep])).trans (hKn 11 _ rfl (by simp [hdep]))
                  refine wp_append_sl (.const (.slice none 0 0)) (.tmp 90) 23 rfl w5.heap.size 3 _ 1 8 Try.underlying23 el3 (.slice none 0 0) 0 [] rfl (World.ownsRow_nil _ _ _ _) Ao f.length co (f.map iv) Es hfs (by simp) (oneCell_iv f) (by simp only [maxLen]; omega) (by omega) (Nat.le_refl _) ?_
                  intro A' c' w6 hown hg _
                  simp only [Nat.zero_add, List.nil_append] at hown ⊢
                  exact hk _ _ (hI.op12 hD ((Below.refl _ _).grown hg (Nat.le_refl _) (fun q hq => by cases hq)) (SlE.of_own hown))
                · exact absurd rfl (hl _)
                · exact absurd rfl (hl _)
                · simp only [List.getElem?_toArray, List.getElem?_cons_zero, List.getElem?_cons_succ, Option.some.injEq] at ho
                  subst ho
                  simp [Region.binds] at hdep
                  have e84 := hKn.ev hF 5 rfl rfl rfl (by simp [hdep])
                  have e88 := hKn.ev hF 9 rfl rfl rfl (by simp [hdep])
                  have e93 := hKn.ev hF 14 rfl rfl rfl (by simp [hdep])
                  obtain ⟨Aq, cq, hx12, hI2⟩ := hI.op15 hD (by simp [hdep])
                  have e91 := hF.ev 12 rfl rfl (by simp [hdep]) hx12
                  clear hF hcl hKn hl
                  go_simp
                  exact hk _ _ hI2
                · simp only [List.getElem?_toArray, List.getElem?_cons_zero, List.getElem?_cons_succ, Option.some.injEq] at ho
                  subst ho
                  simp [Region.binds] at hdep
                  obtain ⟨Aq, cq, hx15, hI2⟩ := hI.op16 hD (by simp [hdep])
                  have e94 := hF.ev 15 rfl rfl (by simp [hdep]) hx15
                  unfold newCase CaseV.arr at e94
                  clear hF hcl hKn hl
                  go_simp
                  exact hk _ _ hI2
                · simp only [List.getElem?_toArray, List.getElem?_cons_zero, List.getElem?_cons_succ, Option.some.injEq] at ho
                  subst ho
                  simp [Region.binds] at hdep
                  have e80 := hKn.ev hF 1 rfl rfl rfl (by simp [hdep])
                  refine hI.op17 hD (by simp [hdep]) (by omega) (.tmp 80) (.tmp 95) rfl ((hF.eval (i := 1) rfl rfl (by simp [hdep])).trans (hKn 1 _ rfl (by simp [hdep]))) (hF.eval (i := 16) rfl rfl (by simp [hdep])) ?_
                  exact hk
                · exact absurd rfl (hl _)
                · simp only [List.getElem?_toArray, List.getElem?_cons_zero, List.getElem?_cons_succ, Option.some.injEq] at ho
                  subst ho
                  simp [Region.binds] at hdep
                  have e97 := hKn.ev hF 18 rfl rfl rfl (by simp [hdep])
                  obtain ⟨A3, c3, hx17, hB, hI2⟩ := hI.op19 hD (by simp [hdep]) 5 (fun v u => rfl) undef
                  have e96 := hF.ev 17 rfl rfl (by simp [hdep]) hx17
                  obtain ⟨⟨b0, b1, b2, b3, b4, b5, b6, b7⟩, bf⟩ := Blk.eight hB
                  clear hF hcl hKn hl
                  go_simp
                  exact hk _ _ hI2
              · intro D x w9 hD hDz hKn hI
                obtain ⟨Aq, cq, A3, c3, hx17, HB⟩ := hI.done (hD 19 (by decide))
                have HBH := Lib.hid HB
                have hlenq : (qs ++ [newCase nm false f p.s Aq cq]).length = k + 1 := by rw [List.length_append, hql.out]; rfl
                have HLQ := Lib.hid hlenq
                clear hI hD hDz hKn HB HBASE hlenq
                rw [HA0.out]
                simp [putsAll, List.range, List.range.loop, Act.put, hx17]
                clear hx17
                go_wp2
                go_roundw
                case rel =>
                  refine ⟨k + 1, A4, c4, A3, c3, qs ++ [newCase nm false f p.s Aq cq], ts ++ [T], by omega, by go_num, HLQ.out, HTL5.out, rfl, by go_num, HBH.out.sum, ?_, HBH.out.rb, KEY2.out, ?_⟩
                  · have h := HBH.out.box; rw [hql.out] at h; exact h
                  · intro i h h1 h2 h3 h4
                    rcases Nat.lt_or_ge i qs.length with hi | hi
                    · rw [List.getElem_append_left hi]; exact hcase.out i hi h1 h2 h3 h4
                    · have hik : i = k := by have := hql.out; rw [HLQ.out] at h; omega
                      subst hik
                      rw [List.getElem_append_right hi]
                      simp only [hql.out, Nat.sub_self, List.getElem_cons_zero]
                      rw [HNK.out, HBK.out, HFK.out, HPK.out]
                      exact ⟨rfl, rfl, rfl, rfl, rfl⟩
                case measure => simp [intOf]; omega
            case' true =>
              have hszOS : W1.heap.size < S.heap.size := hSO.lt
              have hszXS : gX < S.heap.size := hPT.lt
              have hneOX : ¬ W1.heap.size = gX := by omega
              have hneXO : ¬ gX = W1.heap.size := by omega
              have hTb0 := hTb.1
              have hTb1 := hTb.2.1
              have hTb2 := hTb.2.2.1
              have hTb3 := hTb.2.2.2
              have hx3 := store_var (P := Try.prog) hTo.h3
              have hx4 := store_var (P := Try.prog) hTo.h4
              have hx5 := store_var (P := Try.prog) hTo.h5
              have hx6 := store_var (P := Try.prog) hTo.h6
              have hx7 := store_var (P := Try.prog) hTo.h7
              obtain ⟨A4, c4, w4, hrun4, H4, hblk4, hsz4⟩ := hSum.appT (by rw [htl.out]; omega) T hTo hTl hTs
              rw [htl.out] at hrun4
              obtain ⟨hO4, hTO4⟩ := hblk4 _ _ _ hSO HTO.out
              obtain ⟨hX4, hTX4⟩ := hblk4 _ _ _ hPT HTX.out
              obtain ⟨hP4, hTP4⟩ := hblk4 _ _ _ hPP HTP.out
              obtain ⟨hR4, hTR4⟩ := hblk4 _ _ _ hSR HTR.out
              have e1 : sizeP (ts ++ [T]) = if sizeP ts < T.s then T.s else sizeP ts := by rw [sizeP_snoc]; split <;> omega
              have e2 : alP (ts ++ [T]) = if alP ts < T.al then T.al else alP ts := by rw [alP_snoc]; split <;> omega
              have H5 := H4.set_ 1 (.int .i64 (alP (ts ++ [T]))) hO4 (by omega) hTO4
              have hO5 := hO4.set_ 1 (.int .i64 (alP (ts ++ [T])))
              have hR5 := hR4.far (p := ⟨W1.heap.size, 1, none⟩) (by show w.heap.size ≠ W1.heap.size; omega) (.int .i64 (alP (ts ++ [T])))
              have hP5 := hP4.far (p := ⟨W1.heap.size, 1, none⟩) (by show gP ≠ W1.heap.size; omega) (.int .i64 (alP (ts ++ [T])))
              obtain ⟨⟨p0, p1, p2, p3, p4, p5, p6, p7⟩, pf⟩ := hPT.eight
              obtain ⟨⟨o0, o1, o2, o3, o4, o5, o6, o7⟩, of_⟩ := hO4.eight
              obtain ⟨⟨r0, r1, r2, r3, r4, r5, r6, r7⟩, rf_⟩ := hX4.eight
              clear o0 o2 o3 o4 o5 o6 o7 r2 r3 r4 r5 r6 r7 rf_
              have KEY2 := HKEY.out T hTk
              have HH5 := Lib.hid H5
              have HO5 := Lib.hid hO5
              have HR5 := Lib.hid hR5
              have HP5 := Lib.hid hP5
              have E1 := Lib.hid e1
              have E2 := Lib.hid e2
              have HTO4 := Lib.hid hTO4
              have HTL5 : Hid ((ts ++ [T]).length = k + 1) := by show _ = _; rw [List.length_append, htl.out]; rfl
              clear H4 hO4 hP4 hR4 hO5 H5 hR5 hP5 hblk4 hSum hSO hPT hPP hSR e1 e2 hTX4 hTP4 hTR4 hTO4 hTs hTo hTl hTk hTb hX4
              go_wp2_with fail
              clear p0 p1 p2 p3 p4 p5 p6 p7 pf hrun4 hx3 hx4 hx5 hx6 hx7
              go_region
              rw [← E1.out, ← E2.out]
              clear E1 E2
              go_wp2_with fail
              obtain ⟨w7, hw7⟩ : ∃ w7, w7 = (w4.setCell ⟨W1.heap.size, 1, none⟩ (.int .i64 (alP (ts ++ [T])))).drew := ⟨_, rfl⟩
              rw [← hw7]
              have hbase : CaseBase w (W1.heap.size + 1) (.slice A4 (ts ++ [T]).length c4) (ts ++ [T]) W1.heap.size gP w.heap.size #[.int .i64 p.s, .int .i64 p.al, .slice p.A p.sp.length p.c, .slice Ao f.length co, p.x4, p.x5, p.x6, p.x7] #[.int .i64 0, .int .i64 0, .slice none 0 0, .slice none 0 0, .slice none 0 0, .slice none 0 0, .slice none 0 0, .bool false] (fun v => #[.int .i64 0, .int .i64 (alP (ts ++ [T])), .slice none 0 0, .slice none 0 0, .slice none 0 0, v, .slice none 0 0, .bool false]) (.slice Ac qs.length cc) qs (.slice Ac qs.length cc) w7.drew := by
                rw [hw7]
                exact ⟨HH5.out.drew.drew, by have h := HO5.out; rw [← hql.out] at h; exact h, HP5.out, HR5.out, HTO4.out, by omega, by omega, by omega⟩
              have HBASE := Lib.hid hbase
              clear hbase hw7
              have hql6 : qs.length ≤ 6000 := by rw [hql.out]; omega
              refine gen_act fun a0 ha0 => ?_
              have z1 : a0.eval (.tmp 1) = .slice (some ⟨gn, offn, none⟩) n cn := by rw [ha0]; rfl
              have z2 : a0.eval (.tmp 2) = .slice (some ⟨gi, offi, none⟩) n cb := by rw [ha0]; rfl
              have z10 : a0.eval (.tmp 10) = .pointer (some ⟨W1.heap.size, 0, none⟩) := by rw [ha0]; rfl
              have z13 : a0.eval (.tmp 13) = .int .i64 k := by rw [ha0]; rfl
              have z14 : a0.eval (.tmp 14) = .pointer (some ⟨gP, 0, none⟩) := by rw [ha0]; rfl
              have zs : a0.tmps.size = 167 := by rw [ha0]; rfl
              have HA0 := Lib.hid ha0
              clear ha0
              refine wp_region_known (by kernel_rfl) (ord_of (by kernel_rfl)) (dst_of (by kernel_rfl)) (size_of' (n := 167) (by kernel_rfl) zs) (guard_of (by kernel_rfl)) [some (.pointer (some ⟨W1.heap.size, 5, none⟩)), some (.slice Ac qs.length cc), some (.slice (some ⟨gn, offn, none⟩) n cn), some (.int .i64 k), some (.pointer (some ⟨gn, offn + k, none⟩)), some (.string nm), some (.slice (some ⟨gi, offi, none⟩) n cb), some (.int .i64 k), some (.pointer (some ⟨gi, offi + k, none⟩)), some (.bool true), some (.pointer (some ⟨gP, 3, none⟩)), some (.slice Ao f.length co), none, some (.pointer (some ⟨gP, 0, none⟩)), some (.int .i64 p.s), none, none, none, some (.pointer (some ⟨W1.heap.size, 5, none⟩)), none] (CaseSt w (W1.heap.size + 1) (.slice A4 (ts ++ [T]).length c4) (ts ++ [T]) W1.heap.size gP w.heap.size #[.int .i64 p.s, .int .i64 p.al, .slice p.A p.sp.length p.c, .slice Ao f.length co, p.x4, p.x5, p.x6, p.x7] #[.int .i64 0, .int .i64 0, .slice none 0 0, .slice none 0 0, .slice none 0 0, .slice none 0 0, .slice none 0 0, .bool false] (fun v => #[.int .i64 0, .int .i64 (alP (ts ++ [T])), .slice none 0 0, .slice none 0 0, .slice none 0 0, v, .slice none 0 0, .bool false]) Ac cc qs nm true f p.s) (.s0 rfl rfl rfl rfl rfl HBASE.out) ?_ ?_ ?_ ?_
              · intro i u D x w5 hl hD hI
                have hi : i < 20 := by have h := (List.getElem?_eq_some_iff.1 hl).1; simpa using h
                have hnh : i ≠ 12 ∧ i ≠ 15 ∧ i ≠ 16 ∧ i ≠ 17 ∧ i ≠ 19 := by
                  refine ⟨?_, ?_, ?_, ?_, ?_⟩ <;> (rintro rfl; simp at hl)
                exact hI.ins i u hnh.1 hnh.2.1 hnh.2.2.1 hnh.2.2.2.1 hnh.2.2.2.2
              · intro D x a w5 i o u ho hl hD hdep hcl hF hKn hI K hk
                have hi : i < 20 := (Array.getElem?_eq_some_iff.1 ho).1
                rcases (show i = 0 ∨ i = 1 ∨ i = 2 ∨ i = 3 ∨ i = 4 ∨ i = 5 ∨ i = 6 ∨ i = 7 ∨ i = 8 ∨ i = 9 ∨ i = 10 ∨ i = 11 ∨ i = 12 ∨ i = 13 ∨ i = 14 ∨ i = 15 ∨ i = 16 ∨ i = 17 ∨ i = 18 ∨ i = 19 by omega) with rfl | rfl | rfl | rfl | rfl | rfl | rfl | rfl | rfl | rfl | rfl | rfl | rfl | rfl | rfl | rfl | rfl | rfl | rfl | rfl
                · simp only [List.getElem?_toArray, List.getElem?_cons_zero, Option.some.injEq] at ho
                  subst ho
                  obtain rfl : .pointer (some ⟨W1.heap.size, 5, none⟩) = u := by simpa using hl
                  have e10 := hF.ev0 (by kernel_rfl) z10
                  clear hF hcl hKn hl
                  go_simp
                  exact hk
                · simp only [List.getElem?_toArray, List.getElem?_cons_zero, List.getElem?_cons_succ, Option.some.injEq] at ho
                  subst ho
                  simp [Region.binds] at hdep
                  obtain rfl : .slice Ac qs.length cc = u := by simpa using hl
                  have e79 := hKn.ev hF 0 rfl rfl rfl (by simp [hdep])
                  have c19 : D 19 = false := by
                    cases hx : D 19 with
                    | false => rfl
                    | true =>
                      have hy := hcl 19 _ rfl hx
                      simp [Region.binds] at hy
                      simp [hy] at hD
                  have hB := hI.old c19
                  obtain ⟨⟨b0, b1, b2, b3, b4, b5, b6, b7⟩, bf⟩ := Blk.eight hB
                  clear hF hcl hKn hl
                  go_simp
                  exact hk
                · simp only [List.getElem?_toArray, List.getElem?_cons_zero, List.getElem?_cons_succ, Option.some.injEq] at ho
                  subst ho
                  obtain rfl : .slice (some ⟨gn, offn, none⟩) n cn = u := by simpa using hl
                  have e1 := hF.ev0 (by kernel_rfl) z1
                  clear hF hcl hKn hl
                  go_simp
                  exact hk
                · simp only [List.getElem?_toArray, List.getElem?_cons_zero, List.getElem?_cons_succ, Option.some.injEq] at ho
                  subst ho
                  obtain rfl : .int .i64 k = u := by simpa using hl
                  have e13 := hF.ev0 (by kernel_rfl) z13
                  clear hF hcl hKn hl
                  go_simp
                  exact hk
                · simp only [List.getElem?_toArray, List.getElem?_cons_zero, List.getElem?_cons_succ, Option.some.injEq] at ho
                  subst ho
                  simp [Region.binds] at hdep
                  obtain rfl : .pointer (some ⟨gn, offn + k, none⟩) = u := by simpa using hl
                  have e81 := hKn.ev hF 2 rfl rfl rfl (by simp [hdep])
                  have e82 := hKn.ev hF 3 rfl rfl rfl (by simp [hdep])
                  clear hF hcl hKn hl
                  go_simp
                  exact hk
                · simp only [List.getElem?_toArray, List.getElem?_cons_zero, List.getElem?_cons_succ, Option.some.injEq] at ho
                  subst ho
                  simp [Region.binds] at hdep
                  obtain rfl : .string nm = u := by simpa using hl
                  have e83 := hKn.ev hF 4 rfl rfl rfl (by simp [hdep])
                  have cn5 := cell_in CN0.out hI.boxes.1
                  clear hF hcl hKn hl
                  go_simp
                  exact hk
                · simp only [List.getElem?_toArray, List.getElem?_cons_zero, List.getElem?_cons_succ, Option.some.injEq] at ho
                  subst ho
                  obtain rfl : .slice (some ⟨gi, offi, none⟩) n cb = u := by simpa using hl
                  have e2 := hF.ev0 (by kernel_rfl) z2
                  clear hF hcl hKn hl
                  go_simp
                  exact hk
                · simp only [List.getElem?_toArray, List.getElem?_cons_zero, List.getElem?_cons_succ, Option.some.injEq] at ho
                  subst ho
                  obtain rfl : .int .i64 k = u := by simpa using hl
                  have e13 := hF.ev0 (by kernel_rfl) z13
                  clear hF hcl hKn hl
                  go_simp
                  exact hk
                · simp only [List.getElem?_toArray, List.getElem?_cons_zero, List.getElem?_cons_succ, Option.some.injEq] at ho
                  subst ho
                  simp [Region.binds] at hdep
                  obtain rfl : .pointer (some ⟨gi, offi + k, none⟩) = u := by simpa using hl
                  have e85 := hKn.ev hF 6 rfl rfl rfl (by simp [hdep])
                  have e86 := hKn.ev hF 7 rfl rfl rfl (by simp [hdep])
                  clear hF hcl hKn hl
                  go_simp
                  exact hk
                · simp only [List.getElem?_toArray, List.getElem?_cons_zero, List.getElem?_cons_succ, Option.some.injEq] at ho
                  subst ho
                  simp [Region.binds] at hdep
                  obtain rfl : .bool true = u := by simpa using hl
                  have e87 := hKn.ev hF 8 rfl rfl rfl (by simp [hdep])
                  have ci5 := cell_in CI0.out hI.boxes.1
                  clear hF hcl hKn hl
                  go_simp
                  exact hk
                · simp only [List.getElem?_toArray, List.getElem?_cons_zero, List.getElem?_cons_succ, Option.some.injEq] at ho
                  subst ho
                  obtain rfl : .pointer (some ⟨gP, 3, none⟩) = u := by simpa using hl
                  have e14 := hF.ev0 (by kernel_rfl) z14
                  clear hF hcl hKn hl
                  go_simp
                  exact hk
                · simp only [List.getElem?_toArray, List.getElem?_cons_zero, List.getElem?_cons_succ, Option.some.injEq] at ho
                  subst ho
                  simp [Region.binds] at hdep
                  obtain rfl : .slice Ao f.length co = u := by simpa using hl
                  have e89 := hKn.ev hF 10 rfl rfl rfl (by simp [hdep])
                  obtain ⟨⟨b0, b1, b2, b3, b4, b5, b6, b7⟩, bf⟩ := Blk.eight (hI.boxes.2)
                  clear hF hcl hKn hl
                  go_simp
                  exact hk
                · simp at hl
                · simp only [List.getElem?_toArray, List.getElem?_cons_zero, List.getElem?_cons_succ, Option.some.injEq] at ho
                  subst ho
                  obtain rfl : .pointer (some ⟨gP, 0, none⟩) = u := by simpa using hl
                  have e14 := hF.ev0 (by kernel_rfl) z14
                  clear hF hcl hKn hl
                  go_simp
                  exact hk
                · simp only [List.getElem?_toArray, List.getElem?_cons_zero, List.getElem?_cons_succ, Option.some.injEq] at ho
                  subst ho
                  simp [Region.binds] at hdep
                  obtain rfl : .int .i64 p.s = u := by simpa using hl
                  have e92 := hKn.ev hF 13 rfl rfl rfl (by simp [hdep])
                  obtain ⟨⟨b0, b1, b2, b3, b4, b5, b6, b7⟩, bf⟩ := Blk.eight (hI.boxes.2)
                  clear hF hcl hKn hl
                  go_simp
                  exact hk
                · simp at hl
                · simp at hl
                · simp at hl
                · simp only [List.getElem?_toArray, List.getElem?_cons_zero, List.getElem?_cons_succ, Option.some.injEq] at ho
                  subst ho
                  simp [Region.binds] at hdep
                  obtain rfl : .pointer (some ⟨W1.heap.size, 5, none⟩) = u := by simpa using hl
                  have e10 := hF.ev0 (by kernel_rfl) z10
                  clear hF hcl hKn hl
                  go_simp
                  exact hk
                · simp at hl
              · intro D x a w5 i o ho hl hD hdep hcl hF hKn hI K hk
                have hi : i < 20 := (Array.getElem?_eq_some_iff.1 ho).1
                rcases (show i = 0 ∨ i = 1 ∨ i = 2 ∨ i = 3 ∨ i = 4 ∨ i = 5 ∨ i = 6 ∨ i = 7 ∨ i = 8 ∨ i = 9 ∨ i = 10 ∨ i = 11 ∨ i = 12 ∨ i = 13 ∨ i = 14 ∨ i = 15 ∨ i = 16 ∨ i = 17 ∨ i = 18 ∨ i = 19 by omega) with rfl | rfl | rfl | rfl | rfl | rfl | rfl | rfl | rfl | rfl | rfl | rfl | rfl | rfl | rfl | rfl | rfl | rfl | rfl | rfl
                · exact absurd rfl (hl _)
                · exact absurd rfl (hl _)
                · exact absurd rfl (hl _)
                · exact absurd rfl (hl _)
                · exact absurd rfl (hl _)
                · exact absurd rfl (hl _)
                · exact absurd rfl (hl _)
                · exact absurd rfl (hl _)
                · exact absurd rfl (hl _)
                · exact absurd rfl (hl _)
                · exact absurd rfl (hl _)
                · exact absurd rfl (hl _)
                · simp only [List.getElem?_toArray, List.getElem?_cons_zero, List.getElem?_cons_succ, Option.some.injEq] at ho
                  subst ho
                  simp [Region.binds] at hdep
                  have e90 := hKn.ev hF 11 rfl rfl rfl (by simp [hdep])
                  have hfs := HOFS.out.below hI.boxes.1
                  have Es := (hF.eval (i := 11) rfl rfl (by simp [hdep])).trans (hKn 11 _ rfl (by simp [hdep]))
                  refine wp_append_sl (.const (.slice none 0 0)) (.tmp 90) 23 rfl w5.heap.size 3 _ 1 8 Try.underlying23 el3 (.slice none 0 0) 0 [] rfl (World.ownsRow_nil _ _ _ _) Ao f.length co (f.map iv) Es hfs (by simp) (oneCell_iv f) (by simp only [maxLen]; omega) (by omega) (Nat.le_refl _) ?_
                  intro A' c' w6 hown hg _
                  simp only [Nat.zero_add, List.nil_append] at hown ⊢
                  exact hk _ _ (hI.op12 hD ((Below.refl _ _).grown hg (Nat.le_refl _) (fun q hq => by cases hq)) (SlE.of_own hown))
                · exact absurd rfl (hl _)
                · exact absurd rfl (hl _)
                · simp only [List.getElem?_toArray, List.getElem?_cons_zero, List.getElem?_cons_succ, Option.some.injEq] at ho
                  subst ho
                  simp [Region.binds] at hdep
                  have e84 := hKn.ev hF 5 rfl rfl rfl (by simp [hdep])
                  have e88 := hKn.ev hF 9 rfl rfl rfl (by simp [hdep])
                  have e93 := hKn.ev hF 14 rfl rfl rfl (by simp [hdep])
                  obtain ⟨Aq, cq, hx12, hI2⟩ := hI.op15 hD (by simp [hdep])
                  have e91 := hF.ev 12 rfl rfl (by simp [hdep]) hx12
                  clear hF hcl hKn hl
                  go_simp
                  exact hk _ _ hI2
                · simp only [List.getElem?_toArray, List.getElem?_cons_zero, List.getElem?_cons_succ, Option.some.injEq] at ho
                  subst ho
                  simp [Region.binds] at hdep
                  obtain ⟨Aq, cq, hx15, hI2⟩ := hI.op16 hD (by simp [hdep])
                  have e94 := hF.ev 15 rfl rfl (by simp [hdep]) hx15
                  unfold newCase CaseV.arr at e94
                  clear hF hcl hKn hl
                  go_simp
                  exact hk _ _ hI2
                · simp only [List.getElem?_toArray, List.getElem?_cons_zero, List.getElem?_cons_succ, Option.some.injEq] at ho
                  subst ho
                  simp [Region.binds] at hdep
                  have e80 := hKn.ev hF 1 rfl rfl rfl (by simp [hdep])
                  refine hI.op17 hD (by simp [hdep]) (by omega) (.tmp 80) (.tmp 95) rfl ((hF.eval (i := 1) rfl rfl (by simp [hdep])).trans (hKn 1 _ rfl (by simp [hdep]))) (hF.eval (i := 16) rfl rfl (by simp [hdep])) ?_
                  exact hk
                · exact absurd rfl (hl _)
                · simp only [List.getElem?_toArray, List.getElem?_cons_zero, List.getElem?_cons_succ, Option.some.injEq] at ho
                  subst ho
                  simp [Region.binds] at hdep
                  have e97 := hKn.ev hF 18 rfl rfl rfl (by simp [hdep])
                  obtain ⟨A3, c3, hx17, hB, hI2⟩ := hI.op19 hD (by simp [hdep]) 5 (fun v u => rfl) undef
                  have e96 := hF.ev 17 rfl rfl (by simp [hdep]) hx17
                  obtain ⟨⟨b0, b1, b2, b3, b4, b5, b6, b7⟩, bf⟩ := Blk.eight hB
                  clear hF hcl hKn hl
                  go_simp
                  exact hk _ _ hI2
              · intro D x w9 hD hDz hKn hI
                obtain ⟨Aq, cq, A3, c3, hx17, HB⟩ := hI.done (hD 19 (by decide))
                have HBH := Lib.hid HB
                have hlenq : (qs ++ [newCase nm true f p.s Aq cq]).length = k + 1 := by rw [List.length_append, hql.out]; rfl
                have HLQ := Lib.hid hlenq
                clear hI hD hDz hKn HB HBASE hlenq
                rw [HA0.out]
                simp [putsAll, List.range, List.range.loop, Act.put, hx17]
                clear hx17
                go_wp2
                go_roundw
                case rel =>
                  refine ⟨k + 1, A4, c4, A3, c3, qs ++ [newCase nm true f p.s Aq cq], ts ++ [T], by omega, by go_num, HLQ.out, HTL5.out, rfl, by go_num, HBH.out.sum, ?_, HBH.out.rb, KEY2.out, ?_⟩
                  · have h := HBH.out.box; rw [hql.out] at h; exact h
                  · intro i h h1 h2 h3 h4
                    rcases Nat.lt_or_ge i qs.length with hi | hi
                    · rw [List.getElem_append_left hi]; exact hcase.out i hi h1 h2 h3 h4
                    · have hik : i = k := by have := hql.out; rw [HLQ.out] at h; omega
                      subst hik
                      rw [List.getElem_append_right hi]
                      simp only [hql.out, Nat.sub_self, List.getElem_cons_zero]
                      rw [HNK.out, HBK.out, HFK.out, HPK.out]
                      exact ⟨rfl, rfl, rfl, rfl, rfl⟩
                case measure => simp [intOf]; omega
          · have hkn : n = k := by omega
            subst hkn
            have hkey2 : ts.map Part.key = (inside ps bs).map Part.key := by
              have h := hkey.out
              rw [List.take_of_length_le (by rw [inside_length ps bs (by rw [HN.out, HBN.out]), HN.out]; exact Nat.le_refl _)] at h
              exact h
            have hbd := inside_bd (bs := bs) HVAL.out
            rw [← sizeP_key hkey2, ← alP_key hkey2] at hbd
            have hU : unionR (inside ps bs) ps.length = unionR ts n := by rw [HN.out]; exact (unionR_key n hkey2).symm
            obtain ⟨N, hN⟩ : ∃ N : Nat, sizeP ts = N := Int.eq_ofNat_of_zero_le hbd.1
            rw [hN] at hbd ⊢
            have hNle : N ≤ 1024 := by omega
            have hparts : Parts wr At ts := by have h := H.ownT; rw [htl.out] at h; exact parts_own h
            have hsp2 : ∀ t ∈ ts, Sl wr t.A (t.sp.map bv) := fun t ht => (H.tl t ht).elim (fun s => s.below H.below) (fun s => s.sl)
            have F := H.fin hO hR (by omega) (by omega) (by omega)
            have hcapC := own_cap H.ownC
            rw [hql.out] at hcapC
            have hszn := sizeP_none ts
            rw [hN] at hszn
            have HU := Lib.hid hU
            have HNN2 := Lib.hid hN
            have HPARTS := Lib.hid hparts
            have HSP2 := Lib.hid hsp2
            have HONE2 := Lib.hid (fun t ht => (H.one t ht).1)
            have HLEN2 := Lib.hid (fun t ht => (H.one t ht).2)
            have HSZN := Lib.hid hszn
            have FF := Lib.hid F
            have hK : tagS n ≤ 63 := by unfold tagS; split; omega; have := tagGo_le n 62 0; omega
            have hnI : (n : Int) ≤ 12 := by omega
            clear hkey2 hU hN hparts hsp2 F H hO hR hkey hlt hszn
            obtain ⟨W2, hW2⟩ : ∃ W2, W2 = wr := ⟨_, rfl⟩
            rw [← hW2] at FF HPARTS HSP2 ⊢
            clear hW2
            by_cases hpos : 0 < N
            · have hcl : clampN (N : Int) = N := by unfold clampN; omega
              have HCL := Lib.hid hcl
              clear hcl
              go_wp2_with fail
              refine (rextend_any none 0 0 [] (N : Int) _ rfl Sl.nil (by omega)).mono ?_
              rintro e w5 ⟨A1, c1, rfl, own1, hb1⟩
              rw [HCL.out] at own1 ⊢
              have own1' := own_base own1 (show w.heap.size ≤ W2.heap.size from FF.out.below.size)
              clear own1
              go_wp2_with fail
              go_loopw [16, 105] (fun v16 v105 wr => ∃ (j : Nat) (A5 : Option Addr) (c5 : Nat), j ≤ n ∧ v105 = .int .i64 j ∧ v16 = .slice A5 N c5 ∧ wr.ownsRow w.heap.size 5 1 (.slice A5 N c5) N (((ts.take j).foldl (meet N) (extB [] N)).map bv) ∧ Below W2.heap.size W2 wr) (fun _ v105 _ => n - (intOf v105).toNat)
              case atStart => exact ⟨0, A1, c1, by omega, rfl, rfl, own1', hb1⟩
              case round =>
                obtain ⟨j, A5, c5, hj, rfl, rfl, hown, hbl⟩ := hrel
                clear own1' hb1
                by_cases hlt : j < n
                · have hkp : j < ts.length := by rw [htl.out]; exact hlt
                  obtain ⟨gt, offt, rfl, c0, c1', c2, c3, c4, c5', c6, c7⟩ := (HPARTS.out.below hbl).get hkp
                  have hpo := HONE2.out ts[j] (List.getElem_mem hkp)
                  have hps := (HSP2.out ts[j] (List.getElem_mem hkp)).below hbl
                  have hp63 := HLEN2.out ts[j] (List.getElem_mem hkp)
                  have hft := fold_take N ts j hkp (extB [] N)
                  have hol := fold_length N (ts.take j) (extB [] N) (extB_length _ _)
                  generalize ts[j] = p at *
                  have sx3 := store_var (P := Try.prog) hpo.h3
                  have sx4 := store_var (P := Try.prog) hpo.h4
                  have sx5 := store_var (P := Try.prog) hpo.h5
                  have sx6 := store_var (P := Try.prog) hpo.h6
                  have sx7 := store_var (P := Try.prog) hpo.h7
                  have hbn := (Below.refl wr.heap.size wr).alloc (Nat.le_refl _) (.cells #[.int .i64 p.s, .int .i64 p.al, .slice p.A p.sp.length p.c, p.x3, p.x4, p.x5, p.x6, p.x7] 31)
                  have HFT := Lib.hid hft
                  have HOL := Lib.hid hol
                  have HPS := Lib.hid (hps.below hbn)
                  have HOWN := Lib.hid (below_own hown hbn)
                  have HBN := Lib.hid (below_next hbl hbn)
                  clear hpo hps hft hol hbn hown hbl
                  by_cases hps0 : 0 < p.s
                  · go_wp2_with fail
                    refine (rextend_any p.A p.sp.length p.c p.sp (N : Int) _ rfl HPS.out hp63).mono ?_
                    rintro e w6 ⟨A2, c2, rfl, own2, hb2⟩
                    rw [HCL.out] at own2 ⊢
                    have hown6 := below_own HOWN.out hb2
                    have hb6 := below_next HBN.out hb2
                    have hs2 := Sl.of_own own2
                    have hs6 := Sl.of_own hown6
                    clear own2
                    go_wp2_with fail
                    refine (rand_any A5 N c5 _ A2 N c2 (extB p.sp N) _ HOL.out hs6 (by omega) (extB_length _ _) hs2 (by omega)).mono ?_
                    rintro e w7 ⟨A3, c3', rfl, own3, hb3⟩
                    rw [Nat.min_self] at own3 ⊢
                    have hme : meet N ((ts.take j).foldl (meet N) (extB [] N)) p = andB ((ts.take j).foldl (meet N) (extB [] N)) (extB p.sp N) := by unfold meet; rw [if_pos hps0]
                    have HME := Lib.hid hme
                    have HOWN3 := Lib.hid (own_base own3 (show w.heap.size ≤ w6.heap.size from Nat.le_trans FF.out.below.size hb6.size))
                    have HB3 := Lib.hid (below_next hb6 hb3)
                    clear own3 hb3 hb2 hme hs2 hs6 hown6 hb6
                    go_wp2_with fail
                    go_roundw
                    case rel => exact ⟨j + 1, A3, c3', by omega, by go_num, rfl, (by rw [HFT.out, HME.out]; exact HOWN3.out), HB3.out⟩
                    case measure => simp [intOf]; omega
                  · have hme : meet N ((ts.take j).foldl (meet N) (extB [] N)) p = (ts.take j).foldl (meet N) (extB [] N) := by unfold meet; rw [if_neg hps0]
                    have HME := Lib.hid hme
                    clear hme
                    go_wp2_with fail
                    go_roundw
                    case rel => exact ⟨j + 1, A5, c5, by omega, by go_num, rfl, (by rw [HFT.out, HME.out]; exact HOWN.out), HBN.out⟩
                    case measure => simp [intOf]; omega
                · obtain rfl : n = j := by omega
                  have htk : ts.take n = ts := List.take_of_length_le (by rw [htl.out]; exact Nat.le_refl _)
                  rw [htk] at hown
                  have hany : ts.any (fun p => decide (0 < p.s)) = true := by
                    cases ha : ts.any (fun p => decide (0 < p.s)) with
                    | true => rfl
                    | false => have := HSZN.out ha; omega
                  have hc : commonB ts N = ts.foldl (meet N) (extB [] N) := by unfold commonB; rw [if_pos hany]
                  rw [← hc] at hown
                  have F2 := FF.out.under hbl
                  have HLC := Lib.hid (commonB_length ts N)
                  have HOWN2 := Lib.hid hown
                  have HF2 := Lib.hid F2
                  obtain ⟨w2, hw2⟩ : ∃ w2, w2 = wr := ⟨_, rfl⟩
                  rw [← hw2] at HF2 HOWN2 ⊢
                  clear hw2 htk hany hc hown hbl F2 HCL
                  go_wp2_with fail
                  refine (rtagsize_any (n : Int) _ (by omega) (by omega)).mono ?_
                  rintro e w3 ⟨rfl, rfl⟩
                  by_cases hyes : tagS n ≤ countB (commonB ts N)
                  · go_wp2_with fail
                    refine (rbits_yes A5 N c5 (commonB ts N) (tagS n) _ HLC.out (Sl.of_own HOWN2.out) (by omega) hyes).mono ?_
                    rintro e w3 ⟨Az, cz, rfl, own3, hb3⟩
                    have own2' := below_own HOWN2.out hb3
                    have F3 := HF2.out.under hb3
                    have hsz3 := hb3.size
                    have hS3 : SlE w3 3 Az ((bitsN (commonB ts N) (tagS n)).map natv) := SlE.of_own own3
                    have hcap3 := own_cap own3
                    have hlb : (bitsN (commonB ts N) (tagS n)).length = tagS n := by have := own3.1; simpa using this
                    have HLB := Lib.hid hlb
                    have HF3 := Lib.hid F3
                    have HS3 := Lib.hid hS3
                    have HOWN2' := Lib.hid own2'
                    have HYES := Lib.hid hyes
                    clear hyes own2' own3 F3 hS3 hb3 hlb
                    go_wp2_with fail
                    refine (rclear_any A5 N c5 (commonB ts N) Az (tagS n) cz (intsN (bitsN (commonB ts N) (tagS n))) _ HLC.out (Sl.of_own HOWN2'.out) (by omega) (by rw [intsN_length, HLB.out]) (by rw [← natv_ints]; exact HS3.out.sl) (by omega) (ib_bits _ _ (by rw [HLC.out]; omega))).mono ?_
                    rintro e w4 ⟨A4, c4, rfl, own4, hb4⟩
                    have F4 := HF3.out.under hb4
                    have hS4 := HS3.out.below hb4
                    have hS5 : SlE w4 5 A4 ((clearB (commonB ts N) (intsN (bitsN (commonB ts N) (tagS n)))).map bv) := SlE.of_own own4
                    have hcap4 := own_cap own4
                    have F5 : FinAt w W1.heap.size w.heap.size Ac qs #[.int .i64 ((N : Nat) : Int), .int .i64 (alP ts), .slice none 0 0, .slice none 0 0, .slice none 0 0, .slice Ac n cc, .slice none 0 0, .bool false] #[.int .i64 0, .int .i64 0, .slice none 0 0, .slice none 0 0, .slice none 0 0, .slice none 0 0, .slice none 0 0, .bool false] (w4.setCell ⟨W1.heap.size, 0, none⟩ (.int .i64 ((N : Nat) : Int))) := F4.setO 0 (.int .i64 ((N : Nat) : Int))
                    have hS6 := hS4.grown (grown_set w4 W1.heap.size 0 (.int .i64 ((N : Nat) : Int))) F4.box (by decide)
                    have hS7 := hS5.grown (grown_set w4 W1.heap.size 0 (.int .i64 ((N : Nat) : Int))) F4.box (by decide)
                    have HFIN := Lib.hid (F5.finish hS7 hS6 (.slice Az (tagS n) cz) (.slice A4 N c4))
                    obtain ⟨⟨o0, o1, o2, o3, o4, o5, o6, o7⟩, of_⟩ := F4.box.eight
                    obtain ⟨⟨r0, r1, r2, r3, r4, r5, r6, r7⟩, rf_⟩ := F4.rb.eight
                    have hneR : ¬ W1.heap.size = w.heap.size := by omega
                    have hneR' : ¬ w.heap.size = W1.heap.size := by omega
                    clear F4 F5 hS4 hS5 hS6 hS7 own4 hb4
                    go_wp2
                    refine bodyPost_genF HFIN.out ?_
                    clear HFIN o0 o1 o2 o3 o4 o5 o6 o7 of_ r0 r1 r2 r3 r4 r5 r6 r7 rf_
                    intro W ⟨FW, h5, h3⟩
                    obtain ⟨⟨c0, c1, c2, c3, c4', c5, c6, c7⟩, _⟩ := FW.rb.eight
                    have hun : unionR (inside ps bs) ps.length = some ⟨sizeP ts, alP ts, clearB (commonB ts N) (intsN (bitsN (commonB ts N) (tagS n))), bitsN (commonB ts N) (tagS n)⟩ := by
                      rw [HU.out]
                      unfold unionR
                      simp only [HNN2.out, Int.toNat_natCast]
                      rw [if_pos HYES.out]
                    refine bodyPost_ret (v := .tuple #[.agg #[.int .i64 ((N : Nat) : Int), .int .i64 (alP ts), .slice A4 N c4, .slice none 0 0, .slice none 0 0, .slice Ac n cc, .slice Az (tagS n) cz, .bool false], .int .i64 0]) (by simp [results, Try.results58, go_sem, c0, c1, c2, c3, c4', c5, c6, c7]) rfl ?_
                    refine .inr (.inr ⟨HANY.out, by omega, .inr ⟨_, A4, c4, Ac, cc, Az, cz, qs, hun, ?_, ?_, FW.below⟩⟩)
                    · unfold unV
                      simp only [clearB_length, HLC.out, HLB.out, HNN2.out, HN.out]
                    · refine ⟨h5, h3, FW.cases, by rw [hql.out, HN.out], hcase.out, FW.cl, by simp only [clearB_length, HLC.out]; exact hcap4, by rw [HN.out]; exact hcapC, by rw [HLB.out]; exact hcap3⟩
                  · have hno : (tagS n : Int) < 0 ∨ (countB (commonB ts N) : Int) < tagS n := .inr (by omega)
                    have HNO := Lib.hid hyes
                    have HNO2 := Lib.hid hno
                    clear hyes hno
                    by_cases hfull : N = 1024
                    · have hfd : decide ((1024 : Int) < ((N : Nat) : Int) + 1) = true := by first | (simp; omega) | simp
                      have hR2 := HF2.out.rb
                      have HFIN := Lib.hid (HF2.out.set8 rfl (.int .i64 0) (.int .i64 0) (.slice none 0 0) (.slice none 0 0) (.slice none 0 0) (.slice none 0 0) (.slice none 0 0) (.bool false))
                      obtain ⟨⟨r0, r1, r2, r3, r4, r5, r6, r7⟩, rf_⟩ := hR2.eight
                      have HFULL := Lib.hid hfull
                      clear hR2 hfull
                      go_wp2_with fail
                      refine (rbits_no A5 N c5 (commonB ts N) (tagS n) _ HLC.out (Sl.of_own HOWN2.out) (by omega) HNO2.out).mono ?_
                      rintro e w3 ⟨rfl, rfl⟩
                      go_wp2
                      refine bodyPost_genF HFIN.out ?_
                      clear HFIN r0 r1 r2 r3 r4 r5 r6 r7 rf_
                      intro W FW
                      obtain ⟨⟨c0, c1, c2, c3, c4', c5, c6, c7⟩, _⟩ := FW.rb.eight
                      refine bodyPost_ret (v := .tuple #[zero31, .int .i64 4]) (by simp [results, Try.results58, go_sem, c0, c1, c2, c3, c4', c5, c6, c7, zero31]) rfl ?_
                      refine .inr (.inr ⟨HANY.out, by omega, .inl ⟨?_, rfl, FW.below⟩⟩)
                      rw [HU.out]
                      unfold unionR
                      simp only [HNN2.out, Int.toNat_natCast]
                      rw [if_neg HNO.out, if_pos (by rw [HFULL.out]; rfl)]
                    · have hfd : decide ((1024 : Int) < ((N : Nat) : Int) + 1) = false := by first | (simp; omega) | simp
                      have HFULL := Lib.hid hfull
                      have hM24 : N ≤ 1023 := by omega
                      clear hfull
                      obtain ⟨⟨o0, o1, o2, o3, o4, o5, o6, o7⟩, of_⟩ := HF2.out.box.eight
                      have F6 := (FinL.of HF2.out).setO 0 (.int .i64 (((N : Nat) : Int) + 1))
                      have hF6 : FinL w W1.heap.size w.heap.size Ac qs #[.int .i64 (((N : Nat) : Int) + 1), .int .i64 (alP ts), .slice none 0 0, .slice none 0 0, .slice none 0 0, .slice Ac n cc, .slice none 0 0, .bool false] #[.int .i64 0, .int .i64 0, .slice none 0 0, .slice none 0 0, .slice none 0 0, .slice none 0 0, .slice none 0 0, .bool false] w2.heap.size (w2.setCell ⟨W1.heap.size, 0, none⟩ (.int .i64 (((N : Nat) : Int) + 1))) := F6
                      have hown6 : (w2.setCell ⟨W1.heap.size, 0, none⟩ (.int .i64 (((N : Nat) : Int) + 1))).ownsRow w.heap.size 5 1 (.slice A5 N c5) N ((commonB ts N).map bv) := HOWN2.out.kept (grown_set w2 W1.heap.size 0 _) (own_blk_ne HOWN2.out HF2.out.box (by decide))
                      have HF6 := Lib.hid hF6
                      have HOWN6 := Lib.hid hown6
                      clear F6 hF6 hown6 o1 o2 o3 o4 o5 o6 o7
                      go_wp2_with fail
                      refine (rbits_no A5 N c5 (commonB ts N) (tagS n) _ HLC.out (Sl.of_own HOWN2.out) (by omega) HNO2.out).mono ?_
                      rintro e w3 ⟨rfl, rfl⟩
                      go_wp2_with fail
                      clear o0 of_
                      go_loopw [22] (fun v22 wq => ∃ (j : Nat) (Az : Option Addr) (cz : Nat), j ≤ tagS n ∧ v22 = .int .i64 j ∧ wq.ownsRow w2.heap.size 3 1 (.slice Az j cz) j ((tagsOut N j).map natv) ∧ FinL w W1.heap.size w.heap.size Ac qs #[.int .i64 (((N : Nat) : Int) + 1), .int .i64 (alP ts), .slice none 0 0, .slice none 0 0, .slice none 0 0, .slice Ac n cc, .slice Az j cz, .bool false] #[.int .i64 0, .int .i64 0, .slice none 0 0, .slice none 0 0, .slice none 0 0, .slice none 0 0, .slice none 0 0, .bool false] w2.heap.size wq ∧ wq.ownsRow w.heap.size 5 1 (.slice A5 N c5) N ((commonB ts N).map bv)) (fun v22 _ => tagS n - (intOf v22).toNat)
                      case atStart => exact ⟨0, none, 0, by omega, rfl, World.ownsRow_nil _ _ _ _, HF6.out, HOWN6.out⟩
                      case round =>
                        obtain ⟨j, Az, cz, hj, rfl, own, FQ, ownq⟩ := hrel
                        clear HF6 HOWN6
                        obtain ⟨⟨o0, o1, o2, o3, o4, o5, o6, o7⟩, of_⟩ := FQ.box.eight
                        have hOlq := FQ.box.lt
                        by_cases hjt : j < tagS n
                        · clear o0 o1 o2 o3 o4 o5 o7
                          obtain ⟨A', c', wz, hrun, own', hg'⟩ := run_append1 (P := Try.prog) w2.heap.size 23 23 3 _ 8 Try.underlying23 el3 (by omega) Az j cz _ own (.int .i64 (8 * ((N : Nat) : Int) + (j : Int))) rfl (by omega) FQ.bw
                          have F7 := FQ.own3 own hg' (Nat.le_refl _)
                          have e : (tagsOut N (j + 1)).map natv = (tagsOut N j).map natv ++ [.int .i64 (8 * ((N : Nat) : Int) + (j : Int))] := by rw [tagsOut_succ, List.map_append]; simp [natv]
                          rw [← e] at own'
                          have ownq' := ownq.kept hg' (own_own_ne ownq own (by decide))
                          have F8 := F7.setO 6 (.slice A' (j + 1) c')
                          have hF8 : FinL w W1.heap.size w.heap.size Ac qs #[.int .i64 (((N : Nat) : Int) + 1), .int .i64 (alP ts), .slice none 0 0, .slice none 0 0, .slice none 0 0, .slice Ac n cc, .slice A' (j + 1) c', .bool false] #[.int .i64 0, .int .i64 0, .slice none 0 0, .slice none 0 0, .slice none 0 0, .slice none 0 0, .slice none 0 0, .bool false] w2.heap.size (wz.setCell ⟨W1.heap.size, 6, none⟩ (.slice A' (j + 1) c')) := F8
                          have hown8 := own'.kept (grown_set wz W1.heap.size 6 (.slice A' (j + 1) c')) (own_blk_ne own' F7.box (by decide))
                          have hownq8 := ownq'.kept (grown_set wz W1.heap.size 6 (.slice A' (j + 1) c')) (own_blk_ne ownq' F7.box (by decide))
                          have hcO6 := F7.box.cell 6
                          have hfO6 := F7.box.frozen 6
                          have hlO6 := F7.box.lt
                          have HF8 := Lib.hid hF8
                          have HOWN8 := Lib.hid hown8
                          have HOWNQ8 := Lib.hid hownq8
                          have HSZQ := hg'.size
                          clear F8 hF8 hown8 hownq8 own' ownq' F7 FQ own ownq hg' e
                          go_wp2_with fail
                          go_roundw
                          case rel => exact ⟨j + 1, A', c', by omega, by go_num, HOWN8.out, HF8.out, HOWNQ8.out⟩
                          case measure => simp [intOf]; omega
                        · obtain rfl : j = tagS n := by omega
                          have hcapZ := own_cap own
                          have hst : TagSt w W1.heap.size w.heap.size Ac qs (fun v => #[.int .i64 (((N : Nat) : Int) + 1), .int .i64 (alP ts), v, .slice none 0 0, .slice none 0 0, .slice Ac n cc, .slice Az (tagS n) cz, .bool false]) #[.int .i64 0, .int .i64 0, .slice none 0 0, .slice none 0 0, .slice none 0 0, .slice none 0 0, .slice none 0 0, .bool false] (.slice A5 N c5) N (commonB ts N) Az (tagsOut N (tagS n)) (fun _ => false) (fun _ => undef) wr.drew :=
                            .s0 rfl rfl rfl rfl (FQ.fin.under ⟨rfl, rfl, rfl, Nat.le_refl _, fun _ _ => rfl⟩) (SlE.of_own own) ownq
                          have HST := Lib.hid hst
                          have HLC5 : Hid ((commonB ts N ++ [255]).length = N + 1) := by show _ = _; rw [List.length_append, HLC.out]; rfl
                          clear FQ own ownq hst o0 o1 o2 o3 o4 o5 o6 o7 of_
                          go_wp2_with fail
                          refine gen_act fun a0 ha0 => ?_
                          have z10 : a0.eval (.tmp 10) = .pointer (some ⟨W1.heap.size, 0, none⟩) := by rw [ha0]; rfl
                          have z16 : a0.eval (.tmp 16) = .slice A5 N c5 := by rw [ha0]; rfl
                          have zs : a0.tmps.size = 167 := by rw [ha0]; rfl
                          have HA0 := Lib.hid ha0
                          clear ha0
                          refine wp_region_known (by kernel_rfl) (ord_of (by kernel_rfl)) (dst_of (by kernel_rfl)) (size_of' (n := 167) (by kernel_rfl) zs) (guard_of (by kernel_rfl)) [some (.slice A5 N c5), none, none, some (.pointer (some ⟨W1.heap.size, 6, none⟩)), some (.slice Az (tagS n) cz), none, some (.pointer (some ⟨W1.heap.size, 2, none⟩)), none] (TagSt w W1.heap.size w.heap.size Ac qs (fun v => #[.int .i64 (((N : Nat) : Int) + 1), .int .i64 (alP ts), v, .slice none 0 0, .slice none 0 0, .slice Ac n cc, .slice Az (tagS n) cz, .bool false]) #[.int .i64 0, .int .i64 0, .slice none 0 0, .slice none 0 0, .slice none 0 0, .slice none 0 0, .slice none 0 0, .bool false] (.slice A5 N c5) N (commonB ts N) Az (tagsOut N (tagS n))) HST.out ?_ ?_ ?_ ?_
                          · intro i u D x w5 hl hD hI
                            have hi : i < 8 := by have h := (List.getElem?_eq_some_iff.1 hl).1; simpa using h
                            have hnh : i ≠ 1 ∧ i ≠ 2 ∧ i ≠ 5 ∧ i ≠ 7 := by
                              refine ⟨?_, ?_, ?_, ?_⟩ <;> (rintro rfl; simp at hl)
                            exact hI.ins i u hnh.1 hnh.2.1 hnh.2.2.1 hnh.2.2.2
                          · intro D x a w5 i o u ho hl hD hdep hcl hF hKn hI K hk
                            have hi : i < 8 := (Array.getElem?_eq_some_iff.1 ho).1
                            rcases (show i = 0 ∨ i = 1 ∨ i = 2 ∨ i = 3 ∨ i = 4 ∨ i = 5 ∨ i = 6 ∨ i = 7 by omega) with rfl | rfl | rfl | rfl | rfl | rfl | rfl | rfl
                            · simp only [List.getElem?_toArray, List.getElem?_cons_zero, Option.some.injEq] at ho
                              subst ho
                              obtain rfl : .slice A5 N c5 = u := by simpa using hl
                              have e16 := hF.ev0 (by kernel_rfl) z16
                              clear hF hcl hKn hl
                              go_simp
                              exact hk
                            · simp at hl
                            · simp at hl
                            · simp only [List.getElem?_toArray, List.getElem?_cons_zero, List.getElem?_cons_succ, Option.some.injEq] at ho
                              subst ho
                              obtain rfl : .pointer (some ⟨W1.heap.size, 6, none⟩) = u := by simpa using hl
                              have e10 := hF.ev0 (by kernel_rfl) z10
                              clear hF hcl hKn hl
                              go_simp
                              exact hk
                            · simp only [List.getElem?_toArray, List.getElem?_cons_zero, List.getElem?_cons_succ, Option.some.injEq] at ho
                              subst ho
                              simp [Region.binds] at hdep
                              obtain rfl : .slice Az (tagS n) cz = u := by simpa using hl
                              have e162 := hKn.ev hF 3 rfl rfl rfl (by simp [hdep])
                              have c7 : D 7 = false := by
                                cases hx : D 7 with
                                | false => rfl
                                | true =>
                                  have hy := hcl 7 _ rfl hx
                                  simp [Region.binds] at hy
                                  have hy5 := hcl 5 _ rfl (by simp [hy])
                                  simp [Region.binds] at hy5
                                  simp [hy5] at hD
                              have hB := hI.box c7
                              obtain ⟨⟨b0, b1, b2, b3, b4, b5, b6, b7⟩, bf⟩ := Blk.eight hB
                              clear hF hcl hKn hl
                              go_simp
                              exact hk
                            · simp at hl
                            · simp only [List.getElem?_toArray, List.getElem?_cons_zero, List.getElem?_cons_succ, Option.some.injEq] at ho
                              subst ho
                              simp [Region.binds] at hdep
                              obtain rfl : .pointer (some ⟨W1.heap.size, 2, none⟩) = u := by simpa using hl
                              have e10 := hF.ev0 (by kernel_rfl) z10
                              clear hF hcl hKn hl
                              go_simp
                              exact hk
                            · simp at hl
                          · intro D x a w5 i o ho hl hD hdep hcl hF hKn hI K hk
                            have hi : i < 8 := (Array.getElem?_eq_some_iff.1 ho).1
                            rcases (show i = 0 ∨ i = 1 ∨ i = 2 ∨ i = 3 ∨ i = 4 ∨ i = 5 ∨ i = 6 ∨ i = 7 by omega) with rfl | rfl | rfl | rfl | rfl | rfl | rfl | rfl
                            · exact absurd rfl (hl _)
                            · simp only [List.getElem?_toArray, List.getElem?_cons_zero, List.getElem?_cons_succ, Option.some.injEq] at ho
                              subst ho
                              clear hF hcl hKn hl
                              go_simp
                              exact hk _ _ (hI.op1 hD)
                            · simp only [List.getElem?_toArray, List.getElem?_cons_zero, List.getElem?_cons_succ, Option.some.injEq] at ho
                              subst ho
                              simp [Region.binds] at hdep
                              have e159 := hKn.ev hF 0 rfl rfl rfl (by simp [hdep])
                              refine hI.op2 hD (by simp [hdep]) (by omega) (.tmp 159) (.tmp 160) rfl ((hF.eval (i := 0) rfl rfl (by simp [hdep])).trans (hKn 0 _ rfl (by simp [hdep]))) (hF.eval (i := 1) rfl rfl (by simp [hdep])) ?_
                              exact hk
                            · exact absurd rfl (hl _)
                            · exact absurd rfl (hl _)
                            · simp only [List.getElem?_toArray, List.getElem?_cons_zero, List.getElem?_cons_succ, Option.some.injEq] at ho
                              subst ho
                              simp [Region.binds] at hdep
                              have e163 := hKn.ev hF 4 rfl rfl rfl (by simp [hdep])
                              obtain ⟨A5q, c5q, hx2, hs5, htz, hnx⟩ := hI.op5 hD (by simp [hdep])
                              have e161 := hF.ev 2 rfl rfl (by simp [hdep]) hx2
                              clear hF hcl hKn hl
                              go_simp
                              refine (rclear_any A5q (N + 1) c5q (commonB ts N ++ [255]) Az (tagS n) cz (intsN (tagsOut N (tagS n))) _ HLC5.out hs5.sl (by omega) (by rw [intsN_length, tagsOut_length]) (by rw [← natv_ints]; exact htz.sl) (by omega) (tagsOut_ib _ _ (by omega))).mono ?_
                              rintro e w6 ⟨A6, c6, rfl, own6, hb6⟩
                              exact hk _ _ (hnx _ A6 c6 hb6 (SlE.of_own own6) (own_cap own6))
                            · exact absurd rfl (hl _)
                            · simp only [List.getElem?_toArray, List.getElem?_cons_zero, List.getElem?_cons_succ, Option.some.injEq] at ho
                              subst ho
                              simp [Region.binds] at hdep
                              have e165 := hKn.ev hF 6 rfl rfl rfl (by simp [hdep])
                              obtain ⟨A6, c6, hx5, hB, hI2⟩ := hI.op7 hD (by simp [hdep]) (fun v u => rfl) undef
                              have e164 := hF.ev 5 rfl rfl (by simp [hdep]) hx5
                              obtain ⟨⟨b0, b1, b2, b3, b4, b5, b6, b7⟩, bf⟩ := Blk.eight hB
                              clear hF hcl hKn hl
                              go_simp
                              exact hk _ _ hI2
                          · intro D x w9 hD hDz hKn hI
                            obtain ⟨A6, c6, F9, hT9, hS9, hcap6⟩ := hI.done (hD 7 (by decide))
                            have hF9 : FinAt w W1.heap.size w.heap.size Ac qs #[.int .i64 (((N : Nat) : Int) + 1), .int .i64 (alP ts), .slice A6 (N + 1) c6, .slice none 0 0, .slice none 0 0, .slice Ac n cc, .slice Az (tagS n) cz, .bool false] #[.int .i64 0, .int .i64 0, .slice none 0 0, .slice none 0 0, .slice none 0 0, .slice none 0 0, .slice none 0 0, .bool false] w9 := F9
                            obtain ⟨⟨q0, q1, q2, q3, q4, q5, q6, q7⟩, qf⟩ := hF9.box.eight
                            obtain ⟨⟨r0, r1, r2, r3, r4, r5, r6, r7⟩, rf_⟩ := hF9.rb.eight
                            have h8 := only8 w9 w.heap.size (.int .i64 (((N : Nat) : Int) + 1)) (.int .i64 (alP ts)) (.slice A6 (N + 1) c6) (.slice none 0 0) (.slice none 0 0) (.slice Ac n cc) (.slice Az (tagS n) cz) (.bool false)
                            have HFIN := Lib.hid (FinEnd.mk (hF9.set8 rfl (.int .i64 (((N : Nat) : Int) + 1)) (.int .i64 (alP ts)) (.slice A6 (N + 1) c6) (.slice none 0 0) (.slice none 0 0) (.slice Ac n cc) (.slice Az (tagS n) cz) (.bool false)) (hS9.grown h8 hF9.rb (by decide)) (hT9.grown h8 hF9.rb (by decide)))
                            have hneR : ¬ W1.heap.size = w.heap.size := by omega
                            have hneR' : ¬ w.heap.size = W1.heap.size := by omega
                            clear hI hD hDz hKn F9 hF9 hT9 hS9 h8 HST
                            rw [HA0.out]
                            simp [putsAll, List.range, List.range.loop, Act.put]
                            go_wp2
                            refine bodyPost_genF HFIN.out ?_
                            clear HFIN q0 q1 q2 q3 q4 q5 q6 q7 qf r0 r1 r2 r3 r4 r5 r6 r7 rf_
                            intro W ⟨FW, h5, h3⟩
                            obtain ⟨⟨c0, c1, c2, c3, c4', c5', c6', c7⟩, _⟩ := FW.rb.eight
                            have hun : unionR (inside ps bs) ps.length = some ⟨sizeP ts + 1, alP ts, clearB (commonB ts N ++ [255]) (intsN (tagsOut N (tagS n))), tagsOut N (tagS n)⟩ := by
                              rw [HU.out]
                              unfold unionR
                              simp only [HNN2.out, Int.toNat_natCast]
                              rw [if_neg HNO.out, if_neg (by have := HFULL.out; omega)]
                            refine bodyPost_ret (v := .tuple #[.agg #[.int .i64 (((N : Nat) : Int) + 1), .int .i64 (alP ts), .slice A6 (N + 1) c6, .slice none 0 0, .slice none 0 0, .slice Ac n cc, .slice Az (tagS n) cz, .bool false], .int .i64 0]) (by simp [results, Try.results58, go_sem, c0, c1, c2, c3, c4', c5', c6', c7]) rfl ?_
                            refine .inr (.inr ⟨HANY.out, by omega, .inr ⟨_, A6, c6, Ac, cc, Az, cz, qs, hun, ?_, ?_, FW.below⟩⟩)
                            · unfold unV
                              simp only [clearB_length, HLC5.out, tagsOut_length, HNN2.out, HN.out]
                            · refine ⟨h5, h3, FW.cases, by rw [hql.out, HN.out], hcase.out, FW.cl, by simp only [clearB_length, HLC5.out]; exact hcap6, by rw [HN.out]; exact hcapC, by rw [tagsOut_length]; exact hcapZ⟩
            · obtain rfl : N = 0 := by omega
              have hown : W2.ownsRow w.heap.size 5 1 (.slice none 0 0) 0 ((commonB ts 0).map bv) := by
                have h1 : commonB ts 0 = [] := List.eq_nil_of_length_eq_zero (commonB_length ts 0)
                rw [h1]; exact World.ownsRow_nil _ _ _ _
              have HLC := Lib.hid (commonB_length ts 0)
              have HOWN2 := Lib.hid hown
              have HF2 := Lib.hid FF.out
              obtain ⟨w2, hw2⟩ : ∃ w2, w2 = W2 := ⟨_, rfl⟩
              rw [← hw2] at HF2 HOWN2 ⊢
              clear hw2 hown
              go_wp2_with fail
              refine (rtagsize_any (n : Int) _ (by omega) (by omega)).mono ?_
              rintro e w3 ⟨rfl, rfl⟩
              by_cases hyes : tagS n ≤ countB (commonB ts 0)
              · go_wp2_with fail
                refine (rbits_yes none 0 0 (commonB ts 0) (tagS n) _ HLC.out (Sl.of_own HOWN2.out) (by omega) hyes).mono ?_
                rintro e w3 ⟨Az, cz, rfl, own3, hb3⟩
                have own2' := below_own HOWN2.out hb3
                have F3 := HF2.out.under hb3
                have hsz3 := hb3.size
                have hS3 : SlE w3 3 Az ((bitsN (commonB ts 0) (tagS n)).map natv) := SlE.of_own own3
                have hcap3 := own_cap own3
                have hlb : (bitsN (commonB ts 0) (tagS n)).length = tagS n := by have := own3.1; simpa using this
                have HLB := Lib.hid hlb
                have HF3 := Lib.hid F3
                have HS3 := Lib.hid hS3
                have HOWN2' := Lib.hid own2'
                have HYES := Lib.hid hyes
                clear hyes own2' own3 F3 hS3 hb3 hlb
                go_wp2_with fail
                refine (rclear_any none 0 0 (commonB ts 0) Az (tagS n) cz (intsN (bitsN (commonB ts 0) (tagS n))) _ HLC.out (Sl.of_own HOWN2'.out) (by omega) (by rw [intsN_length, HLB.out]) (by rw [← natv_ints]; exact HS3.out.sl) (by omega) (ib_bits _ _ (by rw [HLC.out]; omega))).mono ?_
                rintro e w4 ⟨A4, c4, rfl, own4, hb4⟩
                have F4 := HF3.out.under hb4
                have hS4 := HS3.out.below hb4
                have hS5 : SlE w4 5 A4 ((clearB (commonB ts 0) (intsN (bitsN (commonB ts 0) (tagS n)))).map bv) := SlE.of_own own4
                have hcap4 := own_cap own4
                have F5 : FinAt w W1.heap.size w.heap.size Ac qs #[.int .i64 0, .int .i64 (alP ts), .slice none 0 0, .slice none 0 0, .slice none 0 0, .slice Ac n cc, .slice none 0 0, .bool false] #[.int .i64 0, .int .i64 0, .slice none 0 0, .slice none 0 0, .slice none 0 0, .slice none 0 0, .slice none 0 0, .bool false] (w4.setCell ⟨W1.heap.size, 0, none⟩ (.int .i64 0)) := F4.setO 0 (.int .i64 0)
                have hS6 := hS4.grown (grown_set w4 W1.heap.size 0 (.int .i64 0)) F4.box (by decide)
                have hS7 := hS5.grown (grown_set w4 W1.heap.size 0 (.int .i64 0)) F4.box (by decide)
                have HFIN := Lib.hid (F5.finish hS7 hS6 (.slice Az (tagS n) cz) (.slice A4 0 c4))
                obtain ⟨⟨o0, o1, o2, o3, o4, o5, o6, o7⟩, of_⟩ := F4.box.eight
                obtain ⟨⟨r0, r1, r2, r3, r4, r5, r6, r7⟩, rf_⟩ := F4.rb.eight
                have hneR : ¬ W1.heap.size = w.heap.size := by omega
                have hneR' : ¬ w.heap.size = W1.heap.size := by omega
                clear F4 F5 hS4 hS5 hS6 hS7 own4 hb4
                go_wp2
                refine bodyPost_genF HFIN.out ?_
                clear HFIN o0 o1 o2 o3 o4 o5 o6 o7 of_ r0 r1 r2 r3 r4 r5 r6 r7 rf_
                intro W ⟨FW, h5, h3⟩
                obtain ⟨⟨c0, c1, c2, c3, c4', c5, c6, c7⟩, _⟩ := FW.rb.eight
                have hun : unionR (inside ps bs) ps.length = some ⟨sizeP ts, alP ts, clearB (commonB ts 0) (intsN (bitsN (commonB ts 0) (tagS n))), bitsN (commonB ts 0) (tagS n)⟩ := by
                  rw [HU.out]
                  unfold unionR
                  simp only [HNN2.out, Int.toNat_natCast]
                  rw [if_pos HYES.out]
                refine bodyPost_ret (v := .tuple #[.agg #[.int .i64 0, .int .i64 (alP ts), .slice A4 0 c4, .slice none 0 0, .slice none 0 0, .slice Ac n cc, .slice Az (tagS n) cz, .bool false], .int .i64 0]) (by simp [results, Try.results58, go_sem, c0, c1, c2, c3, c4', c5, c6, c7]) rfl ?_
                refine .inr (.inr ⟨HANY.out, by omega, .inr ⟨_, A4, c4, Ac, cc, Az, cz, qs, hun, ?_, ?_, FW.below⟩⟩)
                · unfold unV
                  simp only [clearB_length, HLC.out, HLB.out, HNN2.out, HN.out]
                  rfl
                · refine ⟨h5, h3, FW.cases, by rw [hql.out, HN.out], hcase.out, FW.cl, by simp only [clearB_length, HLC.out]; exact hcap4, by rw [HN.out]; exact hcapC, by rw [HLB.out]; exact hcap3⟩
              · have hno : (tagS n : Int) < 0 ∨ (countB (commonB ts 0) : Int) < tagS n := .inr (by omega)
                have HNO := Lib.hid hyes
                have HNO2 := Lib.hid hno
                clear hyes hno
                by_cases hfull : 0 = 1024
                · cases hfull
                · have hfd : decide ((1024 : Int) < 0 + 1) = false := by first | (simp; omega) | simp
                  have HFULL := Lib.hid hfull
                  have hM24 : 0 ≤ 1023 := by omega
                  clear hfull
                  obtain ⟨⟨o0, o1, o2, o3, o4, o5, o6, o7⟩, of_⟩ := HF2.out.box.eight
                  have F6 := (FinL.of HF2.out).setO 0 (.int .i64 1)
                  have hF6 : FinL w W1.heap.size w.heap.size Ac qs #[.int .i64 1, .int .i64 (alP ts), .slice none 0 0, .slice none 0 0, .slice none 0 0, .slice Ac n cc, .slice none 0 0, .bool false] #[.int .i64 0, .int .i64 0, .slice none 0 0, .slice none 0 0, .slice none 0 0, .slice none 0 0, .slice none 0 0, .bool false] w2.heap.size (w2.setCell ⟨W1.heap.size, 0, none⟩ (.int .i64 1)) := F6
                  have hown6 : (w2.setCell ⟨W1.heap.size, 0, none⟩ (.int .i64 1)).ownsRow w.heap.size 5 1 (.slice none 0 0) 0 ((commonB ts 0).map bv) := HOWN2.out.kept (grown_set w2 W1.heap.size 0 _) (own_blk_ne HOWN2.out HF2.out.box (by decide))
                  have HF6 := Lib.hid hF6
                  have HOWN6 := Lib.hid hown6
                  clear F6 hF6 hown6 o1 o2 o3 o4 o5 o6 o7
                  go_wp2_with fail
                  refine (rbits_no none 0 0 (commonB ts 0) (tagS n) _ HLC.out (Sl.of_own HOWN2.out) (by omega) HNO2.out).mono ?_
                  rintro e w3 ⟨rfl, rfl⟩
                  go_wp2_with fail
                  clear o0 of_
                  go_loopw [22] (fun v22 wq => ∃ (j : Nat) (Az : Option Addr) (cz : Nat), j ≤ tagS n ∧ v22 = .int .i64 j ∧ wq.ownsRow w2.heap.size 3 1 (.slice Az j cz) j ((tagsOut 0 j).map natv) ∧ FinL w W1.heap.size w.heap.size Ac qs #[.int .i64 1, .int .i64 (alP ts), .slice none 0 0, .slice none 0 0, .slice none 0 0, .slice Ac n cc, .slice Az j cz, .bool false] #[.int .i64 0, .int .i64 0, .slice none 0 0, .slice none 0 0, .slice none 0 0, .slice none 0 0, .slice none 0 0, .bool false] w2.heap.size wq ∧ wq.ownsRow w.heap.size 5 1 (.slice none 0 0) 0 ((commonB ts 0).map bv)) (fun v22 _ => tagS n - (intOf v22).toNat)
                  case atStart => exact ⟨0, none, 0, by omega, rfl, World.ownsRow_nil _ _ _ _, HF6.out, HOWN6.out⟩
                  case round =>
                    obtain ⟨j, Az, cz, hj, rfl, own, FQ, ownq⟩ := hrel
                    clear HF6 HOWN6
                    obtain ⟨⟨o0, o1, o2, o3, o4, o5, o6, o7⟩, of_⟩ := FQ.box.eight
                    have hOlq := FQ.box.lt
                    by_cases hjt : j < tagS n
                    · clear o0 o1 o2 o3 o4 o5 o7
                      obtain ⟨A', c', wz, hrun, own', hg'⟩ := run_append1 (P := Try.prog) w2.heap.size 23 23 3 _ 8 Try.underlying23 el3 (by omega) Az j cz _ own (.int .i64 (j : Int)) rfl (by omega) FQ.bw
                      have F7 := FQ.own3 own hg' (Nat.le_refl _)
                      have e : (tagsOut 0 (j + 1)).map natv = (tagsOut 0 j).map natv ++ [.int .i64 (j : Int)] := by rw [tagsOut_succ, List.map_append]; simp [natv]
                      rw [← e] at own'
                      have ownq' := ownq.kept hg' (own_own_ne ownq own (by decide))
                      have F8 := F7.setO 6 (.slice A' (j + 1) c')
                      have hF8 : FinL w W1.heap.size w.heap.size Ac qs #[.int .i64 1, .int .i64 (alP ts), .slice none 0 0, .slice none 0 0, .slice none 0 0, .slice Ac n cc, .slice A' (j + 1) c', .bool false] #[.int .i64 0, .int .i64 0, .slice none 0 0, .slice none 0 0, .slice none 0 0, .slice none 0 0, .slice none 0 0, .bool false] w2.heap.size (wz.setCell ⟨W1.heap.size, 6, none⟩ (.slice A' (j + 1) c')) := F8
                      have hown8 := own'.kept (grown_set wz W1.heap.size 6 (.slice A' (j + 1) c')) (own_blk_ne own' F7.box (by decide))
                      have hownq8 := ownq'.kept (grown_set wz W1.heap.size 6 (.slice A' (j + 1) c')) (own_blk_ne ownq' F7.box (by decide))
                      have hcO6 := F7.box.cell 6
                      have hfO6 := F7.box.frozen 6
                      have hlO6 := F7.box.lt
                      have HF8 := Lib.hid hF8
                      have HOWN8 := Lib.hid hown8
                      have HOWNQ8 := Lib.hid hownq8
                      have HSZQ := hg'.size
                      clear F8 hF8 hown8 hownq8 own' ownq' F7 FQ own ownq hg' e
                      go_wp2_with fail
                      go_roundw
                      case rel => exact ⟨j + 1, A', c', by omega, by go_num, HOWN8.out, HF8.out, HOWNQ8.out⟩
                      case measure => simp [intOf]; omega
                    · obtain rfl : j = tagS n := by omega
                      have hcapZ := own_cap own
                      have hst : TagSt w W1.heap.size w.heap.size Ac qs (fun v => #[.int .i64 1, .int .i64 (alP ts), v, .slice none 0 0, .slice none 0 0, .slice Ac n cc, .slice Az (tagS n) cz, .bool false]) #[.int .i64 0, .int .i64 0, .slice none 0 0, .slice none 0 0, .slice none 0 0, .slice none 0 0, .slice none 0 0, .bool false] (.slice none 0 0) 0 (commonB ts 0) Az (tagsOut 0 (tagS n)) (fun _ => false) (fun _ => undef) wr.drew :=
                        .s0 rfl rfl rfl rfl (FQ.fin.under ⟨rfl, rfl, rfl, Nat.le_refl _, fun _ _ => rfl⟩) (SlE.of_own own) ownq
                      have HST := Lib.hid hst
                      have HLC5 : Hid ((commonB ts 0 ++ [255]).length = 0 + 1) := by show _ = _; rw [List.length_append, HLC.out]; rfl
                      clear FQ own ownq hst o0 o1 o2 o3 o4 o5 o6 o7 of_
                      go_wp2_with fail
                      refine gen_act fun a0 ha0 => ?_
                      have z10 : a0.eval (.tmp 10) = .pointer (some ⟨W1.heap.size, 0, none⟩) := by rw [ha0]; rfl
                      have z16 : a0.eval (.tmp 16) = .slice none 0 0 := by rw [ha0]; rfl
                      have zs : a0.tmps.size = 167 := by rw [ha0]; rfl
                      have HA0 := Lib.hid ha0
                      clear ha0
                      refine wp_region_known (by kernel_rfl) (ord_of (by kernel_rfl)) (dst_of (by kernel_rfl)) (size_of' (n := 167) (by kernel_rfl) zs) (guard_of (by kernel_rfl)) [some (.slice none 0 0), none, none, some (.pointer (some ⟨W1.heap.size, 6, none⟩)), some (.slice Az (tagS n) cz), none, some (.pointer (some ⟨W1.heap.size, 2, none⟩)), none] (TagSt w W1.heap.size w.heap.size Ac qs (fun v => #[.int .i64 1, .int .i64 (alP ts), v, .slice none 0 0, .slice none 0 0, .slice Ac n cc, .slice Az (tagS n) cz, .bool false]) #[.int .i64 0, .int .i64 0, .slice none 0 0, .slice none 0 0, .slice none 0 0, .slice none 0 0, .slice none 0 0, .bool false] (.slice none 0 0) 0 (commonB ts 0) Az (tagsOut 0 (tagS n))) HST.out ?_ ?_ ?_ ?_
                      · intro i u D x w5 hl hD hI
                        have hi : i < 8 := by have h := (List.getElem?_eq_some_iff.1 hl).1; simpa using h
                        have hnh : i ≠ 1 ∧ i ≠ 2 ∧ i ≠ 5 ∧ i ≠ 7 := by
                          refine ⟨?_, ?_, ?_, ?_⟩ <;> (rintro rfl; simp at hl)
                        exact hI.ins i u hnh.1 hnh.2.1 hnh.2.2.1 hnh.2.2.2
                      · intro D x a w5 i o u ho hl hD hdep hcl hF hKn hI K hk
                        have hi : i < 8 := (Array.getElem?_eq_some_iff.1 ho).1
                        rcases (show i = 0 ∨ i = 1 ∨ i = 2 ∨ i = 3 ∨ i = 4 ∨ i = 5 ∨ i = 6 ∨ i = 7 by omega) with rfl | rfl | rfl | rfl | rfl | rfl | rfl | rfl
                        · simp only [List.getElem?_toArray, List.getElem?_cons_zero, Option.some.injEq] at ho
                          subst ho
                          obtain rfl : .slice none 0 0 = u := by simpa using hl
                          have e16 := hF.ev0 (by kernel_rfl) z16
                          clear hF hcl hKn hl
                          go_simp
                          exact hk
                        · simp at hl
                        · simp at hl
                        · simp only [List.getElem?_toArray, List.getElem?_cons_zero, List.getElem?_cons_succ, Option.some.injEq] at ho
                          subst ho
                          obtain rfl : .pointer (some ⟨W1.heap.size, 6, none⟩) = u := by simpa using hl
                          have e10 := hF.ev0 (by kernel_rfl) z10
                          clear hF hcl hKn hl
                          go_simp
                          exact hk
                        · simp only [List.getElem?_toArray, List.getElem?_cons_zero, List.getElem?_cons_succ, Option.some.injEq] at ho
                          subst ho
                          simp [Region.binds] at hdep
                          obtain rfl : .slice Az (tagS n) cz = u := by simpa using hl
                          have e162 := hKn.ev hF 3 rfl rfl rfl (by simp [hdep])
                          have c7 : D 7 = false := by
                            cases hx : D 7 with
                            | false => rfl
                            | true =>
                              have hy := hcl 7 _ rfl hx
                              simp [Region.binds] at hy
                              have hy5 := hcl 5 _ rfl (by simp [hy])
                              simp [Region.binds] at hy5
                              simp [hy5] at hD
                          have hB := hI.box c7
                          obtain ⟨⟨b0, b1, b2, b3, b4, b5, b6, b7⟩, bf⟩ := Blk.eight hB
                          clear hF hcl hKn hl
                          go_simp
                          exact hk
                        · simp at hl
                        · simp only [List.getElem?_toArray, List.getElem?_cons_zero, List.getElem?_cons_succ, Option.some.injEq] at ho
                          subst ho
                          simp [Region.binds] at hdep
                          obtain rfl : .pointer (some ⟨W1.heap.size, 2, none⟩) = u := by simpa using hl
                          have e10 := hF.ev0 (by kernel_rfl) z10
                          clear hF hcl hKn hl
                          go_simp
                          exact hk
                        · simp at hl
                      · intro D x a w5 i o ho hl hD hdep hcl hF hKn hI K hk
                        have hi : i < 8 := (Array.getElem?_eq_some_iff.1 ho).1
                        rcases (show i = 0 ∨ i = 1 ∨ i = 2 ∨ i = 3 ∨ i = 4 ∨ i = 5 ∨ i = 6 ∨ i = 7 by omega) with rfl | rfl | rfl | rfl | rfl | rfl | rfl | rfl
                        · exact absurd rfl (hl _)
                        · simp only [List.getElem?_toArray, List.getElem?_cons_zero, List.getElem?_cons_succ, Option.some.injEq] at ho
                          subst ho
                          clear hF hcl hKn hl
                          go_simp
                          exact hk _ _ (hI.op1 hD)
                        · simp only [List.getElem?_toArray, List.getElem?_cons_zero, List.getElem?_cons_succ, Option.some.injEq] at ho
                          subst ho
                          simp [Region.binds] at hdep
                          have e159 := hKn.ev hF 0 rfl rfl rfl (by simp [hdep])
                          refine hI.op2 hD (by simp [hdep]) (by omega) (.tmp 159) (.tmp 160) rfl ((hF.eval (i := 0) rfl rfl (by simp [hdep])).trans (hKn 0 _ rfl (by simp [hdep]))) (hF.eval (i := 1) rfl rfl (by simp [hdep])) ?_
                          exact hk
                        · exact absurd rfl (hl _)
                        · exact absurd rfl (hl _)
                        · simp only [List.getElem?_toArray, List.getElem?_cons_zero, List.getElem?_cons_succ, Option.some.injEq] at ho
                          subst ho
                          simp [Region.binds] at hdep
                          have e163 := hKn.ev hF 4 rfl rfl rfl (by simp [hdep])
                          obtain ⟨A5q, c5q, hx2, hs5, htz, hnx⟩ := hI.op5 hD (by simp [hdep])
                          have e161 := hF.ev 2 rfl rfl (by simp [hdep]) hx2
                          clear hF hcl hKn hl
                          go_simp
                          refine (rclear_any A5q (0 + 1) c5q (commonB ts 0 ++ [255]) Az (tagS n) cz (intsN (tagsOut 0 (tagS n))) _ HLC5.out hs5.sl (by omega) (by rw [intsN_length, tagsOut_length]) (by rw [← natv_ints]; exact htz.sl) (by omega) (tagsOut_ib _ _ (by omega))).mono ?_
                          rintro e w6 ⟨A6, c6, rfl, own6, hb6⟩
                          exact hk _ _ (hnx _ A6 c6 hb6 (SlE.of_own own6) (own_cap own6))
                        · exact absurd rfl (hl _)
                        · simp only [List.getElem?_toArray, List.getElem?_cons_zero, List.getElem?_cons_succ, Option.some.injEq] at ho
                          subst ho
                          simp [Region.binds] at hdep
                          have e165 := hKn.ev hF 6 rfl rfl rfl (by simp [hdep])
                          obtain ⟨A6, c6, hx5, hB, hI2⟩ := hI.op7 hD (by simp [hdep]) (fun v u => rfl) undef
                          have e164 := hF.ev 5 rfl rfl (by simp [hdep]) hx5
                          obtain ⟨⟨b0, b1, b2, b3, b4, b5, b6, b7⟩, bf⟩ := Blk.eight hB
                          clear hF hcl hKn hl
                          go_simp
                          exact hk _ _ hI2
                      · intro D x w9 hD hDz hKn hI
                        obtain ⟨A6, c6, F9, hT9, hS9, hcap6⟩ := hI.done (hD 7 (by decide))
                        have hF9 : FinAt w W1.heap.size w.heap.size Ac qs #[.int .i64 1, .int .i64 (alP ts), .slice A6 (0 + 1) c6, .slice none 0 0, .slice none 0 0, .slice Ac n cc, .slice Az (tagS n) cz, .bool false] #[.int .i64 0, .int .i64 0, .slice none 0 0, .slice none 0 0, .slice none 0 0, .slice none 0 0, .slice none 0 0, .bool false] w9 := F9
                        obtain ⟨⟨q0, q1, q2, q3, q4, q5, q6, q7⟩, qf⟩ := hF9.box.eight
                        obtain ⟨⟨r0, r1, r2, r3, r4, r5, r6, r7⟩, rf_⟩ := hF9.rb.eight
                        have h8 := only8 w9 w.heap.size (.int .i64 1) (.int .i64 (alP ts)) (.slice A6 (0 + 1) c6) (.slice none 0 0) (.slice none 0 0) (.slice Ac n cc) (.slice Az (tagS n) cz) (.bool false)
                        have HFIN := Lib.hid (FinEnd.mk (hF9.set8 rfl (.int .i64 1) (.int .i64 (alP ts)) (.slice A6 (0 + 1) c6) (.slice none 0 0) (.slice none 0 0) (.slice Ac n cc) (.slice Az (tagS n) cz) (.bool false)) (hS9.grown h8 hF9.rb (by decide)) (hT9.grown h8 hF9.rb (by decide)))
                        have hneR : ¬ W1.heap.size = w.heap.size := by omega
                        have hneR' : ¬ w.heap.size = W1.heap.size := by omega
                        clear hI hD hDz hKn F9 hF9 hT9 hS9 h8 HST
                        rw [HA0.out]
                        simp [putsAll, List.range, List.range.loop, Act.put]
                        go_wp2
                        refine bodyPost_genF HFIN.out ?_
                        clear HFIN q0 q1 q2 q3 q4 q5 q6 q7 qf r0 r1 r2 r3 r4 r5 r6 r7 rf_
                        intro W ⟨FW, h5, h3⟩
                        obtain ⟨⟨c0, c1, c2, c3, c4', c5', c6', c7⟩, _⟩ := FW.rb.eight
                        have hun : unionR (inside ps bs) ps.length = some ⟨sizeP ts + 1, alP ts, clearB (commonB ts 0 ++ [255]) (intsN (tagsOut 0 (tagS n))), tagsOut 0 (tagS n)⟩ := by
                          rw [HU.out]
                          unfold unionR
                          simp only [HNN2.out, Int.toNat_natCast]
                          rw [if_neg HNO.out, if_neg (by have := HFULL.out; omega)]
                        refine bodyPost_ret (v := .tuple #[.agg #[.int .i64 1, .int .i64 (alP ts), .slice A6 (0 + 1) c6, .slice none 0 0, .slice none 0 0, .slice Ac n cc, .slice Az (tagS n) cz, .bool false], .int .i64 0]) (by simp [results, Try.results58, go_sem, c0, c1, c2, c3, c4', c5', c6', c7]) rfl ?_
                        refine .inr (.inr ⟨HANY.out, by omega, .inr ⟨_, A6, c6, Ac, cc, Az, cz, qs, hun, ?_, ?_, FW.below⟩⟩)
                        · unfold unV
                          simp only [clearB_length, HLC5.out, tagsOut_length, HNN2.out, HN.out]
                          rfl
                        · refine ⟨h5, h3, FW.cases, by rw [hql.out, HN.out], hcase.out, FW.cl, by simp only [clearB_length, HLC5.out]; exact hcap6, by rw [HN.out]; exact hcapC, by rw [tagsOut_length]; exact hcapZ⟩
end Go.Proofs.Ytamhigknobdloaa
