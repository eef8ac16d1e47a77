/- The walk of sum.Lay where it lays the cases; conditions: the lists are short and readable. -/
import Derived.Test.YtamhigknobdloaaSi
namespace Go.Proofs.Ytamhigknobdloaa
open Go.RowKit
set_option linter.unusedVariables false

/-- What a case holds. -/
def caseOf (nm : ByteArray) (b : Bool) (f : List Int) (s : Int) (q : CaseV) : Prop := q.name = nm ∧ q.ind = b ∧ q.ofs = f ∧ q.s = s ∧ q.x3 = .slice none 0 0
/-- A layout of a union as it lies. -/
def unV (u : Un) (n : Nat) (As : Option Addr) (cs : Nat) (Ac : Option Addr) (cc : Nat) (Az : Option Addr) (cz : Nat) : Value :=
  .agg #[.int .i64 u.s, .int .i64 u.al, .slice As u.sp.length cs, .slice none 0 0, .slice none 0 0, .slice Ac n cc, .slice Az u.tags.length cz, .bool false]
structure UnAt (w : World) (u : Un) (nms : List ByteArray) (bs : List Bool) (fs : List (List Int)) (ps : List Part) (n : Nat) (As : Option Addr) (cs : Nat) (Ac : Option Addr) (cc : Nat) (Az : Option Addr) (cz : Nat) (qs : List CaseV) : Prop where
  sp : SlE w 5 As (u.sp.map bv)
  tags : SlE w 3 Az (u.tags.map natv)
  cases : SlE w 73 Ac (qs.flatMap CaseV.cells)
  len : qs.length = n
  each : ∀ (i : Nat) (h : i < qs.length) (h1 : i < nms.length) (h2 : i < bs.length) (h3 : i < fs.length) (h4 : i < ps.length), caseOf nms[i] bs[i] fs[i] ps[i].s qs[i]
  cl : ∀ q ∈ qs, SlE w 3 q.A (q.ofs.map iv)
  caps : u.sp.length ≤ cs ∧ n ≤ cc ∧ u.tags.length ≤ cz
def SumPost (ps : List Part) (nms : List ByteArray) (bs : List Bool) (fs : List (List Int)) (w : World) (e : Ending) (w' : World) : Prop :=
  (unionR (inside ps bs) ps.length = none ∧ e = .returned (.tuple #[zero31, .int .i64 4]) ∧ Below w.heap.size w w') ∨
  ∃ (u : Un) (As : Option Addr) (cs : Nat) (Ac : Option Addr) (cc : Nat) (Az : Option Addr) (cz : Nat) (qs : List CaseV), unionR (inside ps bs) ps.length = some u ∧ e = .returned (.tuple #[unV u ps.length As cs Ac cc Az cz, .int .i64 0]) ∧ UnAt w' u nms bs fs ps ps.length As cs Ac cc Az cz qs ∧ Below w.heap.size w w'

set_option maxHeartbeats 6400000 in
set_option maxRecDepth 100000 in
theorem sum_any (A : Option Addr) (n c : Nat) (ps : List Part) (An : Option Addr) (cn : Nat) (nms : List ByteArray) (Ai : Option Addr) (cb : Nat) (bs : List Bool) (fs : List (List Int)) (w : World) (hn : ps.length = n) (hnn : nms.length = n) (hbn : bs.length = n) (hfn : fs.length = n)
    (hs : Parts w A ps) (hsn : Sl w An (nms.map Value.string)) (hsb : Sl w Ai (bs.map Value.bool)) (hlen : n ≤ 12) (hok : ps.any (fun p => !p.valid) = false) (hsp : ∀ p ∈ ps, Sl w p.A (p.sp.map bv)) (hone : ∀ p ∈ ps, p.one)
    (hof : ∀ (i : Nat) (h1 : i < ps.length) (h2 : i < fs.length), ∃ Ao co, ps[i].x3 = .slice Ao fs[i].length co ∧ Sl w Ao (fs[i].map iv) ∧ fs[i].length ≤ 1000000) :
    Calls Try.prog 57 #[.slice A n c, .slice An n cn, .slice Ai n cb] w (SumPost ps nms bs fs w) := by
  have hb0 := (Below.refl w.heap.size w).alloc (Nat.le_refl _) (.cells #[.int .i64 0, .int .i64 0, .slice none 0 0, .slice none 0 0, .slice none 0 0, .slice none 0 0, .slice none 0 0, .bool false] 31)
  have hval : ∀ p ∈ ps, p.valid = true := by
    intro p hp
    cases hv : p.valid with
    | true => rfl
    | false =>
      have h : ps.any (fun p => !p.valid) = true := List.any_eq_true.2 ⟨p, hp, by rw [hv]; rfl⟩
      rw [hok] at h; cases h
  have HOK := Lib.hid hok
  have HN := Lib.hid hn
  have HNN := Lib.hid hnn
  have HBN := Lib.hid hbn
  have HFN := Lib.hid hfn
  have HS := Lib.hid hs
  have HSN := Lib.hid hsn
  have HSB := Lib.hid hsb
  have HSP := Lib.hid hsp
  have HONE := Lib.hid hone
  have HOF := Lib.hid hof
  have HVAL := Lib.hid hval
  clear hok hn hnn hbn hfn hs hsn hsb hsp hone hof hval
  have h12 : (n : Int) ≤ 12 := by omega
  go_enter Try.func57, Try.ntmps57
  go_wp2_with fail
  refine (cont84_any _ _ _ ps _ HN.out (HS.out.below hb0) (by omega)).mono ?_
  rw [HOK.out]
  rintro e w1 ⟨rfl, hb1⟩
  have hres := (Blk.new w 31 #[.int .i64 0, .int .i64 0, .slice none 0 0, .slice none 0 0, .slice none 0 0, .slice none 0 0, .slice none 0 0, .bool false]).below hb1
  have hbb := below_next hb0 hb1
  have hsz1 : w.heap.size < w1.heap.size := hres.lt
  have hres2 := hres.alloc (.cells #[.int .i64 0, .int .i64 1, .slice none 0 0, .slice none 0 0, .slice none 0 0, .slice none 0 0, .slice none 0 0, .bool false] 31)
  have hout := Blk.new w1 31 #[.int .i64 0, .int .i64 1, .slice none 0 0, .slice none 0 0, .slice none 0 0, .slice none 0 0, .slice none 0 0, .bool false]
  have hst : SumAt w (w1.heap.size + 1) (.slice none ([] : List CaseV).length 0) [] (.slice none ([] : List Part).length 0) [] (w1.alloc (.cells #[.int .i64 0, .int .i64 1, .slice none 0 0, .slice none 0 0, .slice none 0 0, .slice none 0 0, .slice none 0 0, .bool false] 31)) :=
    ⟨World.ownsRow_nil _ _ _ _, World.ownsRow_nil _ _ _ _, hbb.alloc (by omega) _, by simp, by simp, by simp, by omega, by simp⟩
  have HRES := Lib.hid hres2
  have HOUT := Lib.hid hout
  have HST := Lib.hid hst
  clear hres hbb hres2 hout hst hb0 hb1
  go_wp2_with fail
  go_loopw [10, 43] (fun v10 v43 wr => ∃ (k : Nat) (At : Option Addr) (ct : Nat) (Ac : Option Addr) (cc : Nat) (qs : List CaseV) (ts : List Part), k ≤ n ∧ v43 = .int .i64 k ∧ Hid (qs.length = k) ∧ Hid (ts.length = k) ∧ v10 = .slice At k ct ∧ SumAt w (w1.heap.size + 1) (.slice Ac qs.length cc) qs (.slice At ts.length ct) ts wr ∧
      Blk wr w1.heap.size 31 #[.int .i64 (sizeP ts), .int .i64 (alP ts), .slice none 0 0, .slice none 0 0, .slice none 0 0, .slice Ac k cc, .slice none 0 0, .bool false] ∧ Blk wr w.heap.size 31 #[.int .i64 0, .int .i64 0, .slice none 0 0, .slice none 0 0, .slice none 0 0, .slice none 0 0, .slice none 0 0, .bool false] ∧
      Hid (ts.map Part.key = ((inside ps bs).take k).map Part.key) ∧ Hid (∀ (i : Nat) (h : i < qs.length) (h1 : i < nms.length) (h2 : i < bs.length) (h3 : i < fs.length) (h4 : i < ps.length), caseOf nms[i] bs[i] fs[i] ps[i].s qs[i])) (fun _ v43 _ => n - (intOf v43).toNat)
  case atStart =>
    exact ⟨0, none, 0, none, 0, [], [], by omega, rfl, (rfl : _ = _), (rfl : _ = _), rfl, HST.out, HOUT.out, HRES.out, (rfl : _ = _), (by intro i h; simp at h : Hid _)⟩
  case round =>
    obtain ⟨k, At, ct, Ac, cc, qs, ts, hk, rfl, hql, htl, rfl, H, hO, hR, hkey, hcase⟩ := hrel
    clear HRES HOUT HST
    by_cases hlt : k < n
    · have hkp : k < ps.length := by rw [HN.out]; exact hlt
      have hkn : k < nms.length := by rw [HNN.out]; exact hlt
      have hkb : k < bs.length := by rw [HBN.out]; exact hlt
      have hkf : k < fs.length := by rw [HFN.out]; exact hlt
      obtain ⟨gb, off, rfl, c0, c1, c2, c3, c4, c5, c6, c7⟩ := (HS.out.below H.below).get hkp
      obtain ⟨gn, offn, rfl, cn0⟩ := Sl.at_ HSN.out (k := k) (by simpa using hkn)
      obtain ⟨gi, offi, rfl, ci0⟩ := Sl.at_ HSB.out (k := k) (by simpa using hkb)
      rw [List.getElem_map] at cn0 ci0
      obtain ⟨Ao, co, ex3, hofs, hofl⟩ := HOF.out k hkp hkf
      have hpo := HONE.out ps[k] (List.getElem_mem hkp)
      have hpv := HVAL.out ps[k] (List.getElem_mem hkp)
      have hpsp := HSP.out ps[k] (List.getElem_mem hkp)
      have hin := inside_get ps bs k hkp hkb
      generalize hpk : ps[k] = p at *
      generalize hnk : nms[k] = nm at *
      generalize hbk : bs[k] = b at *
      generalize hfk : fs[k] = f at *
      rw [ex3] at c3
      have sx4 := store_var (P := Try.prog) hpo.h4
      have sx5 := store_var (P := Try.prog) hpo.h5
      have sx6 := store_var (P := Try.prog) hpo.h6
      have sx7 := store_var (P := Try.prog) hpo.h7
      have hOlt := hO.lt
      have hPb := Blk.new wr 31 #[.int .i64 p.s, .int .i64 p.al, .slice p.A p.sp.length p.c, .slice Ao f.length co, p.x4, p.x5, p.x6, p.x7]
      have H1 := H.alloc (.cells #[.int .i64 p.s, .int .i64 p.al, .slice p.A p.sp.length p.c, .slice Ao f.length co, p.x4, p.x5, p.x6, p.x7] 31)
      have hO1 := hO.alloc (.cells #[.int .i64 p.s, .int .i64 p.al, .slice p.A p.sp.length p.c, .slice Ao f.length co, p.x4, p.x5, p.x6, p.x7] 31)
      have hR1 := hR.alloc (.cells #[.int .i64 p.s, .int .i64 p.al, .slice p.A p.sp.length p.c, .slice Ao f.length co, p.x4, p.x5, p.x6, p.x7] 31)
      have hTP : (Value.slice At ts.length ct).ownBlock ≠ some wr.heap.size := fun e => by have := (H.ownT.lt _ e).2; omega
      have HH1 := Lib.hid H1
      have HO1 := Lib.hid hO1
      have HR1 := Lib.hid hR1
      have HPB := Lib.hid hPb
      have HTP := Lib.hid hTP
      have HOFS := Lib.hid hofs
      have CN0 := Lib.hid cn0
      have CI0 := Lib.hid ci0
      have HEX3 := Lib.hid ex3
      have HPK := Lib.hid hpk
      have HNK := Lib.hid hnk
      have HBK := Lib.hid hbk
      have HFK := Lib.hid hfk
      have HIN := Lib.hid hin
      obtain ⟨⟨o0, o1, o2, o3, o4, o5, o6, o7⟩, of_⟩ := hO1.eight
      clear o0 o1 o2 o3 o4 o6 o7
      clear H1 hO1 hR1 hPb hTP ex3 hpk hnk hbk hfk hin hofs H hO hR cn0 ci0
      have hik : (0 : Int) ≤ (k : Int) := Int.natCast_nonneg _
      have hik2 : (k : Int) < (n : Int) := by omega
      go_wp2_with fail
      have hbase : CaseBase w (w1.heap.size + 1) (.slice At ts.length ct) ts w1.heap.size wr.heap.size w.heap.size #[.int .i64 p.s, .int .i64 p.al, .slice p.A p.sp.length p.c, .slice Ao f.length co, p.x4, p.x5, p.x6, p.x7] #[.int .i64 0, .int .i64 0, .slice none 0 0, .slice none 0 0, .slice none 0 0, .slice none 0 0, .slice none 0 0, .bool false] (fun v => #[.int .i64 (sizeP ts), .int .i64 (alP ts), .slice none 0 0, .slice none 0 0, .slice none 0 0, v, .slice none 0 0, .bool false]) (.slice Ac qs.length cc) qs (.slice Ac qs.length cc) (wr.alloc (.cells #[.int .i64 p.s, .int .i64 p.al, .slice p.A p.sp.length p.c, .slice Ao f.length co, p.x4, p.x5, p.x6, p.x7] 31)).drew :=
        ⟨HH1.out.drew, by have h := HO1.out; rw [← hql.out] at h; exact h, HPB.out, HR1.out, fun e => by have := (HH1.out.ownT.lt _ e).1; omega, by omega, by omega, by omega⟩
      have HBASE := Lib.hid hbase
      clear hbase
      have hql6 : qs.length ≤ 6000 := by rw [hql.out]; omega

      refine gen_act fun a0 ha0 => ?_
      have z1 : a0.eval (.tmp 1) = .slice (some ⟨gn, offn, none⟩) n cn := by rw [ha0]; rfl
      have z2 : a0.eval (.tmp 2) = .slice (some ⟨gi, offi, none⟩) n cb := by rw [ha0]; rfl
      have z9 : a0.eval (.tmp 9) = .pointer (some ⟨w1.heap.size, 0, none⟩) := by rw [ha0]; rfl
      have z11 : a0.eval (.tmp 11) = .int .i64 k := by rw [ha0]; rfl
      have z12 : a0.eval (.tmp 12) = .pointer (some ⟨wr.heap.size, 0, none⟩) := by rw [ha0]; rfl
      have zs : a0.tmps.size = 135 := by rw [ha0]; rfl
      have HA0 := Lib.hid ha0
      clear ha0
      refine wp_region_known (by kernel_rfl) (ord_of (by kernel_rfl)) (dst_of (by kernel_rfl)) (size_of' (n := 135) (by kernel_rfl) zs) (guard_of (by kernel_rfl)) [some (.pointer (some ⟨w1.heap.size, 5, none⟩)), some (.slice Ac qs.length cc), some (.slice (some ⟨gn, offn, none⟩) n cn), some (.int .i64 k), some (.pointer (some ⟨gn, offn + k, none⟩)), some (.string nm), some (.slice (some ⟨gi, offi, none⟩) n cb), some (.int .i64 k), some (.pointer (some ⟨gi, offi + k, none⟩)), some (.bool b), some (.pointer (some ⟨wr.heap.size, 3, none⟩)), some (.slice Ao f.length co), none, some (.pointer (some ⟨wr.heap.size, 0, none⟩)), some (.int .i64 p.s), none, none, none, some (.pointer (some ⟨w1.heap.size, 5, none⟩)), none] (CaseSt w (w1.heap.size + 1) (.slice At ts.length ct) ts w1.heap.size wr.heap.size w.heap.size #[.int .i64 p.s, .int .i64 p.al, .slice p.A p.sp.length p.c, .slice Ao f.length co, p.x4, p.x5, p.x6, p.x7] #[.int .i64 0, .int .i64 0, .slice none 0 0, .slice none 0 0, .slice none 0 0, .slice none 0 0, .slice none 0 0, .bool false] (fun v => #[.int .i64 (sizeP ts), .int .i64 (alP ts), .slice none 0 0, .slice none 0 0, .slice none 0 0, v, .slice none 0 0, .bool false]) Ac cc qs nm b f p.s) (.s0 rfl rfl rfl rfl rfl HBASE.out) ?_ ?_ ?_ ?_
      · intro i u D x w5 hl hD hI
        have hi : i < 20 := by have h := (List.getElem?_eq_some_iff.1 hl).1; simpa using h
        have hnh : i ≠ 12 ∧ i ≠ 15 ∧ i ≠ 16 ∧ i ≠ 17 ∧ i ≠ 19 := by
          refine ⟨?_, ?_, ?_, ?_, ?_⟩ <;> (rintro rfl; simp at hl)
        exact hI.ins i u hnh.1 hnh.2.1 hnh.2.2.1 hnh.2.2.2.1 hnh.2.2.2.2
      · intro D x a w5 i o u ho hl hD hdep hcl hF hKn hI K hk
        have hi : i < 20 := (Array.getElem?_eq_some_iff.1 ho).1
        rcases (show i = 0 ∨ i = 1 ∨ i = 2 ∨ i = 3 ∨ i = 4 ∨ i = 5 ∨ i = 6 ∨ i = 7 ∨ i = 8 ∨ i = 9 ∨ i = 10 ∨ i = 11 ∨ i = 12 ∨ i = 13 ∨ i = 14 ∨ i = 15 ∨ i = 16 ∨ i = 17 ∨ i = 18 ∨ i = 19 by omega) with rfl | rfl | rfl | rfl | rfl | rfl | rfl | rfl | rfl | rfl | rfl | rfl | rfl | rfl | rfl | rfl | rfl | rfl | rfl | rfl
        · simp only [List.getElem?_toArray, List.getElem?_cons_zero, Option.some.injEq] at ho
          subst ho
          obtain rfl : .pointer (some ⟨w1.heap.size, 5, none⟩) = u := by simpa using hl
          have e9 := hF.ev0 (by kernel_rfl) z9
          clear hF hcl hKn hl
          go_simp
          exact hk
        · simp only [List.getElem?_toArray, List.getElem?_cons_zero, List.getElem?_cons_succ, Option.some.injEq] at ho
          subst ho
          simp [Region.binds] at hdep
          obtain rfl : .slice Ac qs.length cc = u := by simpa using hl
          have e48 := hKn.ev hF 0 rfl rfl rfl (by simp [hdep])
          have c19 : D 19 = false := by
            cases hx : D 19 with
            | false => rfl
            | true =>
              have hy := hcl 19 _ rfl hx
              simp [Region.binds] at hy
              simp [hy] at hD
          have hB := hI.old c19
          obtain ⟨⟨b0, b1, b2, b3, b4, b5, b6, b7⟩, bf⟩ := Blk.eight hB
          clear hF hcl hKn hl
          go_simp
          exact hk
        · simp only [List.getElem?_toArray, List.getElem?_cons_zero, List.getElem?_cons_succ, Option.some.injEq] at ho
          subst ho
          obtain rfl : .slice (some ⟨gn, offn, none⟩) n cn = u := by simpa using hl
          have e1 := hF.ev0 (by kernel_rfl) z1
          clear hF hcl hKn hl
          go_simp
          exact hk
        · simp only [List.getElem?_toArray, List.getElem?_cons_zero, List.getElem?_cons_succ, Option.some.injEq] at ho
          subst ho
          obtain rfl : .int .i64 k = u := by simpa using hl
          have e11 := hF.ev0 (by kernel_rfl) z11
          clear hF hcl hKn hl
          go_simp
          exact hk
        · simp only [List.getElem?_toArray, List.getElem?_cons_zero, List.getElem?_cons_succ, Option.some.injEq] at ho
          subst ho
          simp [Region.binds] at hdep
          obtain rfl : .pointer (some ⟨gn, offn + k, none⟩) = u := by simpa using hl
          have e50 := hKn.ev hF 2 rfl rfl rfl (by simp [hdep])
          have e51 := hKn.ev hF 3 rfl rfl rfl (by simp [hdep])
          clear hF hcl hKn hl
          go_simp
          exact hk
        · simp only [List.getElem?_toArray, List.getElem?_cons_zero, List.getElem?_cons_succ, Option.some.injEq] at ho
          subst ho
          simp [Region.binds] at hdep
          obtain rfl : .string nm = u := by simpa using hl
          have e52 := hKn.ev hF 4 rfl rfl rfl (by simp [hdep])
          have cn5 := cell_in CN0.out hI.boxes.1
          clear hF hcl hKn hl
          go_simp
          exact hk
        · simp only [List.getElem?_toArray, List.getElem?_cons_zero, List.getElem?_cons_succ, Option.some.injEq] at ho
          subst ho
          obtain rfl : .slice (some ⟨gi, offi, none⟩) n cb = u := by simpa using hl
          have e2 := hF.ev0 (by kernel_rfl) z2
          clear hF hcl hKn hl
          go_simp
          exact hk
        · simp only [List.getElem?_toArray, List.getElem?_cons_zero, List.getElem?_cons_succ, Option.some.injEq] at ho
          subst ho
          obtain rfl : .int .i64 k = u := by simpa using hl
          have e11 := hF.ev0 (by kernel_rfl) z11
          clear hF hcl hKn hl
          go_simp
          exact hk
        · simp only [List.getElem?_toArray, List.getElem?_cons_zero, List.getElem?_cons_succ, Option.some.injEq] at ho
          subst ho
          simp [Region.binds] at hdep
          obtain rfl : .pointer (some ⟨gi, offi + k, none⟩) = u := by simpa using hl
          have e54 := hKn.ev hF 6 rfl rfl rfl (by simp [hdep])
          have e55 := hKn.ev hF 7 rfl rfl rfl (by simp [hdep])
          clear hF hcl hKn hl
          go_simp
          exact hk
        · simp only [List.getElem?_toArray, List.getElem?_cons_zero, List.getElem?_cons_succ, Option.some.injEq] at ho
          subst ho
          simp [Region.binds] at hdep
          obtain rfl : .bool b = u := by simpa using hl
          have e56 := hKn.ev hF 8 rfl rfl rfl (by simp [hdep])
          have ci5 := cell_in CI0.out hI.boxes.1
          clear hF hcl hKn hl
          go_simp
          exact hk
        · simp only [List.getElem?_toArray, List.getElem?_cons_zero, List.getElem?_cons_succ, Option.some.injEq] at ho
          subst ho
          obtain rfl : .pointer (some ⟨wr.heap.size, 3, none⟩) = u := by simpa using hl
          have e12 := hF.ev0 (by kernel_rfl) z12
          clear hF hcl hKn hl
          go_simp
          exact hk
        · simp only [List.getElem?_toArray, List.getElem?_cons_zero, List.getElem?_cons_succ, Option.some.injEq] at ho
          subst ho
          simp [Region.binds] at hdep
          obtain rfl : .slice Ao f.length co = u := by simpa using hl
          have e58 := hKn.ev hF 10 rfl rfl rfl (by simp [hdep])
          obtain ⟨⟨b0, b1, b2, b3, b4, b5, b6, b7⟩, bf⟩ := Blk.eight (hI.boxes.2)
          clear hF hcl hKn hl
          go_simp
          exact hk
        · simp at hl
        · simp only [List.getElem?_toArray, List.getElem?_cons_zero, List.getElem?_cons_succ, Option.some.injEq] at ho
          subst ho
          obtain rfl : .pointer (some ⟨wr.heap.size, 0, none⟩) = u := by simpa using hl
          have e12 := hF.ev0 (by kernel_rfl) z12
          clear hF hcl hKn hl
          go_simp
          exact hk
        · simp only [List.getElem?_toArray, List.getElem?_cons_zero, List.getElem?_cons_succ, Option.some.injEq] at ho
          subst ho
          simp [Region.binds] at hdep
          obtain rfl : .int .i64 p.s = u := by simpa using hl
          have e61 := hKn.ev hF 13 rfl rfl rfl (by simp [hdep])
          obtain ⟨⟨b0, b1, b2, b3, b4, b5, b6, b7⟩, bf⟩ := Blk.eight (hI.boxes.2)
          clear hF hcl hKn hl
          go_simp
          exact hk
        · simp at hl
        · simp at hl
        · simp at hl
        · simp only [List.getElem?_toArray, List.getElem?_cons_zero, List.getElem?_cons_succ, Option.some.injEq] at ho
          subst ho
          simp [Region.binds] at hdep
          obtain rfl : .pointer (some ⟨w1.heap.size, 5, none⟩) = u := by simpa using hl
          have e9 := hF.ev0 (by kernel_rfl) z9
          clear hF hcl hKn hl
          go_simp
          exact hk
        · simp at hl
      · intro D x a w5 i o ho hl hD hdep hcl hF hKn hI K hk
        have hi : i < 20 := (Array.getElem?_eq_some_iff.1 ho).1
        rcases (show i = 0 ∨ i = 1 ∨ i = 2 ∨ i = 3 ∨ i = 4 ∨ i = 5 ∨ i = 6 ∨ i = 7 ∨ i = 8 ∨ i = 9 ∨ i = 10 ∨ i = 11 ∨ i = 12 ∨ i = 13 ∨ i = 14 ∨ i = 15 ∨ i = 16 ∨ i = 17 ∨ i = 18 ∨ i = 19 by omega) with rfl | rfl | rfl | rfl | rfl | rfl | rfl | rfl | rfl | rfl | rfl | rfl | rfl | rfl | rfl | rfl | rfl | rfl | rfl | rfl
        · exact absurd rfl (hl _)
        · exact absurd rfl (hl _)
        · exact absurd rfl (hl _)
        · exact absurd rfl (hl _)
        · exact absurd rfl (hl _)
        · exact absurd rfl (hl _)
        · exact absurd rfl (hl _)
        · exact absurd rfl (hl _)
        · exact absurd rfl (hl _)
        · exact absurd rfl (hl _)
        · exact absurd rfl (hl _)
        · exact absurd rfl (hl _)
        · simp only [List.getElem?_toArray, List.getElem?_cons_zero, List.getElem?_cons_succ, Option.some.injEq] at ho
          subst ho
          simp [Region.binds] at hdep
          have e59 := hKn.ev hF 11 rfl rfl rfl (by simp [hdep])
          have hfs := HOFS.out.below hI.boxes.1
          clear hF hcl hKn hl
          go_simp
          refine (iclone_any Ao f.length co f _ rfl hfs (by omega)).mono ?_
          rintro e w6 ⟨A2, c2, rfl, own2, hb2⟩
          exact hk _ _ (hI.op12 hD hb2 (SlE.of_own own2))
        · exact absurd rfl (hl _)
        · exact absurd rfl (hl _)
        · simp only [List.getElem?_toArray, List.getElem?_cons_zero, List.getElem?_cons_succ, Option.some.injEq] at ho
          subst ho
          simp [Region.binds] at hdep
          have e53 := hKn.ev hF 5 rfl rfl rfl (by simp [hdep])
          have e57 := hKn.ev hF 9 rfl rfl rfl (by simp [hdep])
          have e62 := hKn.ev hF 14 rfl rfl rfl (by simp [hdep])
          obtain ⟨Aq, cq, hx12, hI2⟩ := hI.op15 hD (by simp [hdep])
          have e60 := hF.ev 12 rfl rfl (by simp [hdep]) hx12
          clear hF hcl hKn hl
          go_simp
          exact hk _ _ hI2
        · simp only [List.getElem?_toArray, List.getElem?_cons_zero, List.getElem?_cons_succ, Option.some.injEq] at ho
          subst ho
          simp [Region.binds] at hdep
          obtain ⟨Aq, cq, hx15, hI2⟩ := hI.op16 hD (by simp [hdep])
          have e63 := hF.ev 15 rfl rfl (by simp [hdep]) hx15
          unfold newCase CaseV.arr at e63
          clear hF hcl hKn hl
          go_simp
          exact hk _ _ hI2
        · simp only [List.getElem?_toArray, List.getElem?_cons_zero, List.getElem?_cons_succ, Option.some.injEq] at ho
          subst ho
          simp [Region.binds] at hdep
          have e49 := hKn.ev hF 1 rfl rfl rfl (by simp [hdep])
          refine hI.op17 hD (by simp [hdep]) (by omega) (.tmp 49) (.tmp 64) rfl ((hF.eval (i := 1) rfl rfl (by simp [hdep])).trans (hKn 1 _ rfl (by simp [hdep]))) (hF.eval (i := 16) rfl rfl (by simp [hdep])) ?_
          exact hk
        · exact absurd rfl (hl _)
        · simp only [List.getElem?_toArray, List.getElem?_cons_zero, List.getElem?_cons_succ, Option.some.injEq] at ho
          subst ho
          simp [Region.binds] at hdep
          have e66 := hKn.ev hF 18 rfl rfl rfl (by simp [hdep])
          obtain ⟨A3, c3, hx17, hB, hI2⟩ := hI.op19 hD (by simp [hdep]) 5 (fun v u => rfl) undef
          have e65 := hF.ev 17 rfl rfl (by simp [hdep]) hx17
          obtain ⟨⟨b0, b1, b2, b3, b4, b5, b6, b7⟩, bf⟩ := Blk.eight hB
          clear hF hcl hKn hl
          go_simp
          exact hk _ _ hI2
      · intro D x w9 hD hDz hKn hI
        obtain ⟨Aq, cq, A3, c3, hx17, HB⟩ := hI.done (hD 19 (by decide))
        have HBH := Lib.hid HB
        have ci9 := cell_in CI0.out HB.sum.below
        clear hI hD hDz hKn HB HBASE
        rw [HA0.out]
        simp [putsAll, List.range, List.range.loop, Act.put, hx17]
        have hlen' : (ts ++ [p]).length = k + 1 := by rw [List.length_append, htl.out]; rfl
        have hlenq : (qs ++ [newCase nm b f p.s Aq cq]).length = k + 1 := by rw [List.length_append, hql.out]; rfl
        have HLQ := Lib.hid hlenq
        clear hlen' hlenq
        have hszO : w1.heap.size < w9.heap.size := HBH.out.box.lt
        have hszP : wr.heap.size < w9.heap.size := HBH.out.pb.lt
        have key : ∀ T : Part, T.key = (insideP p b).key → Hid ((ts ++ [T]).map Part.key = ((inside ps bs).take (k + 1)).map Part.key) := by
          intro T hT
          show _ = _
          rw [List.take_add_one, HIN.out, List.map_append, List.map_append, hkey.out]
          simp [hT]
        have HKEY := Lib.hid key
        clear key hx17
        cases b
        case' false =>
          obtain ⟨T, hT⟩ : ∃ T : Part, T = ⟨p.s, p.al, p.A, p.sp, p.c, .slice Ao f.length co, p.x4, p.x5, p.x6, p.x7⟩ := ⟨_, rfl⟩
          have hTk : T.key = (insideP p false).key := by rw [hT]; rfl
          have hTb : T.s ≤ 1024 ∧ T.al ≤ 8 ∧ 0 ≤ T.s ∧ 1 ≤ T.al := by
            obtain ⟨v1, v2, v3, v4⟩ := (valid_iff p).1 hpv
            rw [hT]; exact ⟨v2, by show p.al ≤ 8; omega, v1, by show 1 ≤ p.al; omega⟩
          have hTo : T.one := by rw [hT]; exact ⟨rfl, hpo.h4, hpo.h5, hpo.h6, hpo.h7⟩
          have hTl : T.sp.length ≤ 9223372036854775807 := by
            obtain ⟨v1, v2, v3, v4⟩ := (valid_iff p).1 hpv
            rw [hT]; show p.sp.length ≤ _; omega
          have hTs : Sl w T.A (T.sp.map bv) ∨ SlE w9 5 T.A (T.sp.map bv) := by rw [hT]; exact .inl hpsp
          have hPT : Blk w9 wr.heap.size 31 #[.int .i64 T.s, .int .i64 T.al, .slice T.A T.sp.length T.c, T.x3, T.x4, T.x5, T.x6, T.x7] := by rw [hT]; exact HBH.out.pb
          have hSum := HBH.out.sum
          have hSO := HBH.out.box
          have hSR := HBH.out.rb
          have hTR : (Value.slice At ts.length ct).ownBlock ≠ some w.heap.size := fun e => by have := (hSum.ownT.lt _ e).1; omega
          have hTO := HBH.out.boxT
          obtain ⟨S, rfl⟩ : ∃ S : World, S = w9 := ⟨_, rfl⟩
          have HHT := Lib.hid hT
          clear hT
          go_upto_region 14 with (fail)
        case' true =>
          have hTR : (Value.slice At ts.length ct).ownBlock ≠ some w.heap.size := fun e => by have := (HBH.out.sum.ownT.lt _ e).1; omega
          have hTO := HBH.out.boxT
          go_wp2_with fail
          refine (pointer_any _).mono ?_
          rintro e w10 ⟨Ap, he, hsp10, hb10⟩
          have he' : e = .returned (.agg #[.int .i64 8, .int .i64 8, .slice Ap 8 8, .slice none 0 0, .slice none 0 0, .slice none 0 0, .slice none 0 0, .bool true]) := he
          subst he'
          obtain ⟨T, hT⟩ : ∃ T : Part, T = ptrP Ap := ⟨_, rfl⟩
          have hTk : T.key = (insideP p true).key := by rw [hT]; rfl
          have hTb : T.s ≤ 1024 ∧ T.al ≤ 8 ∧ 0 ≤ T.s ∧ 1 ≤ T.al := by rw [hT]; exact ⟨by show (8 : Int) ≤ 1024; omega, by show (8 : Int) ≤ 8; omega, by show (0 : Int) ≤ 8; omega, by show (1 : Int) ≤ 8; omega⟩
          have hTo : T.one := by rw [hT]; exact ⟨rfl, rfl, rfl, rfl, rfl⟩
          have hTl : T.sp.length ≤ 9223372036854775807 := by rw [hT]; show 8 ≤ 9223372036854775807; omega
          have HB10 := HBH.out.under hb10
          have hPb := HB10.pb
          obtain ⟨⟨b0, b1, b2, b3, b4, b5, b6, b7⟩, bf⟩ := hPb.eight
          obtain ⟨S, hS⟩ : ∃ S, S = (((((((w10.setCell ⟨wr.heap.size, 0, none⟩ (.int .i64 8)).setCell ⟨wr.heap.size, 1, none⟩ (.int .i64 8)).setCell ⟨wr.heap.size, 2, none⟩ (.slice Ap 8 8)).setCell ⟨wr.heap.size, 3, none⟩ (.slice none 0 0)).setCell ⟨wr.heap.size, 4, none⟩ (.slice none 0 0)).setCell ⟨wr.heap.size, 5, none⟩ (.slice none 0 0)).setCell ⟨wr.heap.size, 6, none⟩ (.slice none 0 0)).setCell ⟨wr.heap.size, 7, none⟩ (.bool true) := ⟨_, rfl⟩
          have h8 : w10.grownBy S (some wr.heap.size) := by rw [hS]; exact only8 w10 wr.heap.size (.int .i64 8) (.int .i64 8) (.slice Ap 8 8) (.slice none 0 0) (.slice none 0 0) (.slice none 0 0) (.slice none 0 0) (.bool true)
          have hPT : Blk S wr.heap.size 31 #[.int .i64 T.s, .int .i64 T.al, .slice T.A T.sp.length T.c, T.x3, T.x4, T.x5, T.x6, T.x7] := by rw [hS, hT]; exact hPb.set8 (.int .i64 8) (.int .i64 8) (.slice Ap 8 8) (.slice none 0 0) (.slice none 0 0) (.slice none 0 0) (.slice none 0 0) (.bool true)
          have hSum := HB10.sum.grown h8 hPb (by omega) HTP.out
          have hTs : Sl w T.A (T.sp.map bv) ∨ SlE S 5 T.A (T.sp.map bv) := by rw [hT]; exact .inr (hsp10.grown h8 hPb (by decide))
          have hSO := HB10.box.grown h8 (fun e => by injection e with e; omega)
          have hSR := HB10.rb.grown h8 (fun e => by injection e with e; omega)
          have hszS : w10.heap.size ≤ S.heap.size := h8.size
          have HSS := Lib.hid hS
          have HHT := Lib.hid hT
          have HPT := Lib.hid hPT
          have HSUM := Lib.hid hSum
          have HSO := Lib.hid hSO
          have HSR := Lib.hid hSR
          have HTS := Lib.hid hTs
          have HTK := Lib.hid hTk
          have HTL := Lib.hid hTl
          have HTO := Lib.hid hTo
          clear hS hT h8 hPT hSum hTs hSO hSR HB10 hPb hsp10 hb10 hTk hTl hTo
          go_upto_region 14 with (fail)
          rw [← HSS.out]
          clear b0 b1 b2 b3 b4 b5 b6 b7 bf HSS
          have hPT := HPT.out
          have hSum := HSUM.out
          have hSO := HSO.out
          have hSR := HSR.out
          have hTs := HTS.out
          have hTk := HTK.out
          have hTl := HTL.out
          have hTo := HTO.out
          clear HPT HSUM HSO HSR HTS HTK HTL HTO
        all_goals
          have hszOS : w1.heap.size < S.heap.size := hSO.lt
          have hszPS : wr.heap.size < S.heap.size := hPT.lt
          have hneOP : ¬ w1.heap.size = wr.heap.size := by omega
          have hTb0 := hTb.1
          have hTb1 := hTb.2.1
          have hTb2 := hTb.2.2.1
          have hTb3 := hTb.2.2.2
          have hx3 := store_var (P := Try.prog) hTo.h3
          have hx4 := store_var (P := Try.prog) hTo.h4
          have hx5 := store_var (P := Try.prog) hTo.h5
          have hx6 := store_var (P := Try.prog) hTo.h6
          have hx7 := store_var (P := Try.prog) hTo.h7
          obtain ⟨A4, c4, w4, hrun4, H4, hblk4, hsz4⟩ := hSum.appT (by rw [htl.out]; omega) T hTo hTl hTs
          rw [htl.out] at hrun4
          obtain ⟨hO4, hTO4⟩ := hblk4 _ _ _ hSO hTO
          obtain ⟨hP4, hTP4⟩ := hblk4 _ _ _ hPT HTP.out
          obtain ⟨hR4, hTR4⟩ := hblk4 _ _ _ hSR hTR
          have hO5 := hO4.set_ 0 (.int .i64 (if sizeP ts < T.s then T.s else sizeP ts))
          have H5 := (H4.set_ 0 (.int .i64 (if sizeP ts < T.s then T.s else sizeP ts)) hO4 (by omega) hTO4).set_ 1 (.int .i64 (if alP ts < T.al then T.al else alP ts)) hO5 (by omega) hTO4
          have hO6 := hO5.set_ 1 (.int .i64 (if alP ts < T.al then T.al else alP ts))
          have hR6 := (hR4.far (p := ⟨w1.heap.size, 0, none⟩) (by show w.heap.size ≠ w1.heap.size; omega) (.int .i64 (if sizeP ts < T.s then T.s else sizeP ts))).far (p := ⟨w1.heap.size, 1, none⟩) (by show w.heap.size ≠ w1.heap.size; omega) (.int .i64 (if alP ts < T.al then T.al else alP ts))
          have e1 : sizeP (ts ++ [T]) = if sizeP ts < T.s then T.s else sizeP ts := by rw [sizeP_snoc]; split <;> omega
          have e2 : alP (ts ++ [T]) = if alP ts < T.al then T.al else alP ts := by rw [alP_snoc]; split <;> omega
          obtain ⟨⟨p0, p1, p2, p3, p4, p5, p6, p7⟩, pf⟩ := hPT.eight
          obtain ⟨⟨o0, o1, o2, o3, o4, o5, o6, o7⟩, of_⟩ := hO4.eight
          obtain ⟨⟨r0, r1, r2, r3, r4, r5, r6, r7⟩, rf_⟩ := hP4.eight
          clear o2 o3 o4 o5 o6 o7 r2 r3 r4 r5 r6 r7 rf_
          have KEY2 := HKEY.out T hTk
          have HH5 := Lib.hid H5
          rw [hql.out] at hO6
          have HO6 := Lib.hid hO6
          have HR6 := Lib.hid hR6
          have E1 := Lib.hid e1
          have E2 := Lib.hid e2
          have HTL5 : Hid ((ts ++ [T]).length = k + 1) := by show _ = _; rw [List.length_append, htl.out]; rfl
          clear H4 hO4 hP4 hR4 hO5 H5 hO6 hR6 hblk4 hSum hSO hPT hSR e1 e2 hTO4 hTP4 hTR4 hTs hTo hTl hTk hTb
          go_wp2_with fail
          clear p0 p1 p2 p3 p4 p5 p6 p7 pf hrun4 hx3 hx4 hx5 hx6 hx7
          go_region
          go_wp2
          go_roundw
          case rel =>
            refine ⟨k + 1, A4, c4, A3, c3, qs ++ [newCase nm _ f p.s Aq cq], ts ++ [T], by omega, by go_num, HLQ.out, HTL5.out, rfl, ?_, ?_, ?_, KEY2.out, ?_⟩
            · first | exact HH5.out | exact HH5.out.drew
            · rw [E1.out, E2.out]; first | exact HO6.out | exact HO6.out.drew | simpa using HO6.out
            · first | exact HR6.out | exact HR6.out.drew
            · intro i h h1 h2 h3 h4
              rcases Nat.lt_or_ge i qs.length with hi | hi
              · rw [List.getElem_append_left hi]; exact hcase.out i hi h1 h2 h3 h4
              · have hik : i = k := by have := hql.out; rw [HLQ.out] at h; omega
                subst hik
                rw [List.getElem_append_right hi]
                simp only [hql.out, Nat.sub_self, List.getElem_cons_zero]
                rw [HNK.out, HBK.out, HFK.out, HPK.out]
                exact ⟨rfl, rfl, rfl, rfl, rfl⟩
          case measure => simp [intOf]; omega
    · have hkn : n = k := by omega
      subst hkn
      have hkey2 : ts.map Part.key = (inside ps bs).map Part.key := by
        have h := hkey.out
        rw [List.take_of_length_le (by rw [inside_length ps bs (by rw [HN.out, HBN.out]), HN.out]; exact Nat.le_refl _)] at h
        exact h
      have hbd := inside_bd (bs := bs) HVAL.out
      rw [← sizeP_key hkey2, ← alP_key hkey2] at hbd
      have hU : unionR (inside ps bs) ps.length = unionR ts n := by rw [HN.out]; exact (unionR_key n hkey2).symm
      obtain ⟨N, hN⟩ : ∃ N : Nat, sizeP ts = N := Int.eq_ofNat_of_zero_le hbd.1
      rw [hN] at hO hbd
      have hNle : N ≤ 1024 := by omega
      have hparts : Parts wr At ts := by have h := H.ownT; rw [htl.out] at h; exact parts_own h
      have hsp2 : ∀ t ∈ ts, Sl wr t.A (t.sp.map bv) := fun t ht => (H.tl t ht).elim (fun s => s.below H.below) (fun s => s.sl)
      have F := H.fin hO hR (by omega) (by omega) (by omega)
      have hB1 := H.bw
      have hcapC := own_cap H.ownC
      rw [hql.out] at hcapC
      have HU := Lib.hid hU
      have HNN2 := Lib.hid hN
      have HPARTS := Lib.hid hparts
      have HSP2 := Lib.hid hsp2
      have HONE2 := Lib.hid (fun t ht => (H.one t ht).1)
      have HLEN2 := Lib.hid (fun t ht => (H.one t ht).2)
      have FF := Lib.hid F
      obtain ⟨⟨o0, o1, o2, o3, o4, o5, o6, o7⟩, of_⟩ := hO.eight
      clear hkey2 hU hN hparts hsp2 F H hO hR o1 o2 o3 o4 o5 o6 o7 of_ hkey hlt
      have hK : tagS n ≤ 63 := by unfold tagS; split; omega; have := tagGo_le n 62 0; omega
      go_wp2_with fail
      refine (common_any At n ct ts N _ htl.out HPARTS.out HSP2.out HONE2.out HLEN2.out (by omega) hNle).mono ?_
      rintro e w2 ⟨As, cs, rfl, own2, hb2⟩
      have F2 := FF.out.under hb2
      have hlenC := commonB_length ts N
      have HLC := Lib.hid hlenC
      have HOWN2 := Lib.hid own2
      have HF2 := Lib.hid F2
      have hszw2 := hb2.size
      obtain ⟨⟨o0', o1, o2, o3, o4, o5, o6, o7⟩, of_⟩ := F2.box.eight
      clear own2 F2 hb2 FF o0 hlenC o1 o2 o3 o4 o5 o6 o7 of_
      go_wp2_with fail
      refine (tagsize_small n _ (by omega) (by omega)).mono ?_
      rintro e w3 ⟨rfl, rfl⟩
      by_cases hyes : tagS n ≤ countB (commonB ts N)
      · go_wp2_with fail
        refine (bits_yes As N cs (commonB ts N) (tagS n) _ HLC.out (Sl.of_own HOWN2.out) (by omega) hyes).mono ?_
        rintro e w3 ⟨Az, cz, rfl, own3, hb3⟩
        have own2' := below_own HOWN2.out hb3
        have F3 := HF2.out.under hb3
        have hsz3 := hb3.size
        have hS3 : SlE w3 3 Az ((bitsN (commonB ts N) (tagS n)).map natv) := SlE.of_own own3
        have hcap3 := own_cap own3
        have hlb : (bitsN (commonB ts N) (tagS n)).length = tagS n := by have := own3.1; simpa using this
        have HLB := Lib.hid hlb
        have HF3 := Lib.hid F3
        have HS3 := Lib.hid hS3
        have HOWN2' := Lib.hid own2'
        have HYES := Lib.hid hyes
        clear hyes own2' own3 F3 hS3 hb3 hlb o0'
        go_wp2_with fail
        refine (clear_any As N cs (commonB ts N) Az (tagS n) cz (intsN (bitsN (commonB ts N) (tagS n))) _ HLC.out (Sl.of_own HOWN2'.out) (by omega) (by rw [intsN_length, HLB.out]) (by rw [← natv_ints]; exact HS3.out.sl) (by omega) (ib_bits _ _ (by rw [HLC.out]; omega))).mono ?_
        rintro e w4 ⟨A4, c4, rfl, own4, hb4⟩
        have F4 := HF3.out.under hb4
        have hS4 := HS3.out.below hb4
        have hS5 : SlE w4 5 A4 ((clearB (commonB ts N) (intsN (bitsN (commonB ts N) (tagS n)))).map bv) := SlE.of_own own4
        have hcap4 := own_cap own4
        have HFIN := Lib.hid (F4.finish hS5 hS4 (.slice Az (tagS n) cz) (.slice A4 N c4))
        obtain ⟨⟨o0, o1, o2, o3, o4, o5, o6, o7⟩, of_⟩ := F4.box.eight
        obtain ⟨⟨r0, r1, r2, r3, r4, r5, r6, r7⟩, rf_⟩ := F4.rb.eight
        have hneR : ¬ w1.heap.size = w.heap.size := by omega
        have hneR' : ¬ w.heap.size = w1.heap.size := by omega
        clear F4 hS4 hS5 own4 hb4
        go_wp2
        refine bodyPost_genF HFIN.out ?_
        clear HFIN o0 o1 o2 o3 o4 o5 o6 o7 of_ r0 r1 r2 r3 r4 r5 r6 r7 rf_
        intro W ⟨FW, h5, h3⟩
        obtain ⟨⟨c0, c1, c2, c3, c4', c5, c6, c7⟩, _⟩ := FW.rb.eight
        have hun : unionR (inside ps bs) ps.length = some ⟨sizeP ts, alP ts, clearB (commonB ts N) (intsN (bitsN (commonB ts N) (tagS n))), bitsN (commonB ts N) (tagS n)⟩ := by
          rw [HU.out]
          unfold unionR
          simp only [HNN2.out, Int.toNat_natCast]
          rw [if_pos HYES.out]
        refine bodyPost_ret (v := .tuple #[.agg #[.int .i64 N, .int .i64 (alP ts), .slice A4 N c4, .slice none 0 0, .slice none 0 0, .slice Ac n cc, .slice Az (tagS n) cz, .bool false], .int .i64 0]) (by simp [results, Try.results57, go_sem, c0, c1, c2, c3, c4', c5, c6, c7]) rfl ?_
        refine .inr ⟨_, A4, c4, Ac, cc, Az, cz, qs, hun, ?_, ?_, FW.below⟩
        · unfold unV
          simp only [clearB_length, HLC.out, HLB.out, HNN2.out, HN.out]
        · refine ⟨h5, h3, FW.cases, by rw [hql.out, HN.out], hcase.out, FW.cl, by simp only [clearB_length, HLC.out]; exact hcap4, by rw [HN.out]; exact hcapC, by rw [HLB.out]; exact hcap3⟩
      · have hno : (tagS n : Int) < 0 ∨ (countB (commonB ts N) : Int) < tagS n := .inr (by omega)
        have HNO := Lib.hid hyes
        have HNO2 := Lib.hid hno
        clear hyes hno
        by_cases hfull : N = 1024
        · have HFULL := Lib.hid hfull
          have hfd : ((N : Int) == 1024) = true := by rw [HFULL.out]; rfl
          clear hfull
          have hR2 := HF2.out.rb
          have HFIN := Lib.hid (HF2.out.set8 rfl (.int .i64 0) (.int .i64 0) (.slice none 0 0) (.slice none 0 0) (.slice none 0 0) (.slice none 0 0) (.slice none 0 0) (.bool false))
          obtain ⟨⟨r0, r1, r2, r3, r4, r5, r6, r7⟩, rf_⟩ := hR2.eight
          clear hR2
          go_wp2_with fail
          refine (bits_no As N cs (commonB ts N) (tagS n) _ HLC.out (Sl.of_own HOWN2.out) (by omega) HNO2.out).mono ?_
          rintro e w3 ⟨rfl, rfl⟩
          go_wp2
          refine bodyPost_genF HFIN.out ?_
          clear HFIN r0 r1 r2 r3 r4 r5 r6 r7 rf_ o0'
          intro W FW
          obtain ⟨⟨c0, c1, c2, c3, c4', c5, c6, c7⟩, _⟩ := FW.rb.eight
          refine bodyPost_ret (v := .tuple #[zero31, .int .i64 4]) (by simp [results, Try.results57, go_sem, c0, c1, c2, c3, c4', c5, c6, c7, zero31]) rfl ?_
          refine .inl ⟨?_, rfl, FW.below⟩
          rw [HU.out]
          unfold unionR
          simp only [HNN2.out, Int.toNat_natCast]
          rw [if_neg HNO.out, if_pos (by rw [HFULL.out]; rfl)]
        · have hfd : ((N : Int) == 1024) = false := by simp; omega
          have HFULL := Lib.hid hfull
          clear hfull
          go_wp2_with fail
          refine (bits_no As N cs (commonB ts N) (tagS n) _ HLC.out (Sl.of_own HOWN2.out) (by omega) HNO2.out).mono ?_
          rintro e w3 ⟨rfl, rfl⟩
          have hbr := Below.refl w2.heap.size w2
          obtain ⟨wo, rfl⟩ : ∃ wo : World, wo = wr := ⟨_, rfl⟩
          go_wp2_with fail
          go_loopw [15, 109] (fun v15 v109 wq => ∃ (j : Nat) (Az : Option Addr) (cz : Nat), j ≤ tagS n ∧ v109 = .int .i64 j ∧ v15 = .slice Az j cz ∧ wq.ownsRow w2.heap.size 3 1 (.slice Az j cz) j ((tagsOut N j).map natv) ∧ Below w2.heap.size w2 wq) (fun _ v109 _ => tagS n - (intOf v109).toNat)
          case atStart => exact ⟨0, none, 0, by omega, rfl, rfl, World.ownsRow_nil _ _ _ _, hbr⟩
          case round =>
            obtain ⟨j, Az, cz, hj, rfl, rfl, own, hbq⟩ := hrel
            clear hbr
            have F2q := HF2.out.under hbq
            obtain ⟨⟨o0, o1, o2, o3, o4, o5, o6, o7⟩, of_⟩ := F2q.box.eight
            by_cases hjt : j < tagS n
            · clear o1 o2 o3 o4 o5 o6 o7 of_ F2q o0'
              obtain ⟨A', c', wz, hrun, own', hg'⟩ := run_append1 (P := Try.prog) w2.heap.size 23 23 3 _ 8 Try.underlying23 el3 (by omega) Az j cz _ own (.int .i64 (8 * (N : Int) + (j : Int))) rfl (by omega) hbq.size
              have hbz := hbq.grown hg' hbq.size (fun q hq => (own.lt q hq).1)
              have e : (tagsOut N (j + 1)).map natv = (tagsOut N j).map natv ++ [.int .i64 (8 * (N : Int) + (j : Int))] := by rw [tagsOut_succ, List.map_append]; simp [natv]
              rw [← e] at own'
              have HB := Lib.hid hbz
              have HO := Lib.hid own'
              clear hbz own' own hbq hg' e
              go_wp2_with fail
              go_roundw
              case rel => exact ⟨j + 1, A', c', by omega, by go_num, rfl, HO.out, HB.out⟩
              case measure => simp [intOf]; omega
            · have hjk : j = tagS n := by omega
              subst hjk
              have ownS := below_own HOWN2.out hbq
              obtain ⟨A5, c5, w5, hrun, own5, hg5⟩ := run_append1 (P := Try.prog) wo.heap.size 27 27 5 _ 1 Try.underlying27 el5 (by omega) As N cs _ ownS (.int .u8 255) rfl (by omega) (by have := hbq.size; omega)
              have F5 := F2q.own5 ownS hg5 (by omega)
              have hT5 : SlE w5 3 Az ((tagsOut N (tagS n)).map natv) := (SlE.of_own own).own_grown ownS hg5 (by decide)
              have hcapZ := own_cap own
              have e5 : (commonB ts N).map bv ++ [.int .u8 255] = (commonB ts N ++ [255]).map bv := by simp [bv]
              rw [e5] at own5
              have hsl5 : SlE w5 5 A5 ((commonB ts N ++ [255]).map bv) := SlE.of_own own5
              have hsz5 := hg5.size
              obtain ⟨⟨p0, p1, p2, p3, p4, p5, p6, p7⟩, pf⟩ := F5.box.eight
              clear p1 p2 p3 p4 p5 p6 p7
              have F6 := F5.setO 0 (.int .i64 ((N : Int) + 1))
              have hT6 : SlE (w5.setCell ⟨w1.heap.size, 0, none⟩ (.int .i64 ((N : Int) + 1))) 3 Az ((tagsOut N (tagS n)).map natv) := hT5.grown (grown_set w5 w1.heap.size 0 _) F5.box (by decide)
              have hS6 : SlE (w5.setCell ⟨w1.heap.size, 0, none⟩ (.int .i64 ((N : Int) + 1))) 5 A5 ((commonB ts N ++ [255]).map bv) := hsl5.grown (grown_set w5 w1.heap.size 0 _) F5.box (by decide)
              have HLC5 : Hid ((commonB ts N ++ [255]).length = N + 1) := by show _ = _; rw [List.length_append, HLC.out]; rfl
              have HF6 := Lib.hid F6
              have HT6 := Lib.hid hT6
              have HS6 := Lib.hid hS6
              clear F2q F5 F6 hT5 hT6 hS6 hsl5 own own5 hg5 ownS hbq e5 o1 o2 o3 o4 o5 o6 o7 of_ o0'
              go_wp2_with fail
              refine (clear_any A5 (N + 1) c5 (commonB ts N ++ [255]) Az (tagS n) cz (intsN (tagsOut N (tagS n))) _ HLC5.out HS6.out.sl (by omega) (by rw [intsN_length, tagsOut_length]) (by rw [← natv_ints]; exact HT6.out.sl) (by omega) (tagsOut_ib _ _ (by omega))).mono ?_
              rintro e w6 ⟨A6, c6, rfl, own6, hb6⟩
              have F7 := HF6.out.under hb6
              have hT7 := HT6.out.below hb6
              have hS7 : SlE w6 5 A6 ((clearB (commonB ts N ++ [255]) (intsN (tagsOut N (tagS n)))).map bv) := SlE.of_own own6
              have hcap6 := own_cap own6
              have F7' : FinAt w w1.heap.size w.heap.size Ac qs #[.int .i64 ((N : Int) + 1), .int .i64 (alP ts), .slice none 0 0, .slice none 0 0, .slice none 0 0, .slice Ac n cc, .slice none 0 0, .bool false] #[.int .i64 0, .int .i64 0, .slice none 0 0, .slice none 0 0, .slice none 0 0, .slice none 0 0, .slice none 0 0, .bool false] w6 := F7
              have HFIN := Lib.hid (F7'.finish hS7 hT7 (.slice Az (tagS n) cz) (.slice A6 (N + 1) c6))
              obtain ⟨⟨q0, q1, q2, q3, q4, q5, q6, q7⟩, qf⟩ := F7'.box.eight
              obtain ⟨⟨r0, r1, r2, r3, r4, r5, r6, r7⟩, rf_⟩ := F7'.rb.eight
              have hneR : ¬ w1.heap.size = w.heap.size := by omega
              have hneR' : ¬ w.heap.size = w1.heap.size := by omega
              clear F7 F7' hT7 hS7 own6 hb6 p0 pf hrun o0
              go_wp2
              refine bodyPost_genF HFIN.out ?_
              clear HFIN q0 q1 q2 q3 q4 q5 q6 q7 qf r0 r1 r2 r3 r4 r5 r6 r7 rf_
              intro W ⟨FW, h5, h3⟩
              obtain ⟨⟨c0, c1, c2, c3, c4', c5', c6', c7⟩, _⟩ := FW.rb.eight
              have hun : unionR (inside ps bs) ps.length = some ⟨sizeP ts + 1, alP ts, clearB (commonB ts N ++ [255]) (intsN (tagsOut N (tagS n))), tagsOut N (tagS n)⟩ := by
                rw [HU.out]
                unfold unionR
                simp only [HNN2.out, Int.toNat_natCast]
                rw [if_neg HNO.out, if_neg (by have := HFULL.out; omega)]
              refine bodyPost_ret (v := .tuple #[.agg #[.int .i64 ((N : Int) + 1), .int .i64 (alP ts), .slice A6 (N + 1) c6, .slice none 0 0, .slice none 0 0, .slice Ac n cc, .slice Az (tagS n) cz, .bool false], .int .i64 0]) (by simp [results, Try.results57, go_sem, c0, c1, c2, c3, c4', c5', c6', c7]) rfl ?_
              refine .inr ⟨_, A6, c6, Ac, cc, Az, cz, qs, hun, ?_, ?_, FW.below⟩
              · unfold unV
                simp only [clearB_length, HLC5.out, tagsOut_length, HNN2.out, HN.out]
              · refine ⟨h5, h3, FW.cases, by rw [hql.out, HN.out], hcase.out, FW.cl, by simp only [clearB_length, HLC5.out]; exact hcap6, by rw [HN.out]; exact hcapC, by rw [tagsOut_length]; exact hcapZ⟩
end Go.Proofs.Ytamhigknobdloaa
