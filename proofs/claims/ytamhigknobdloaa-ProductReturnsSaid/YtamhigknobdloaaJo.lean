/- The walk of product.Join where the parts fit; conditions: the parts are those of the layout. -/
import Derived.Test.YtamhigknobdloaaJn
namespace Go.Proofs.Ytamhigknobdloaa
open Go.RowKit
set_option linter.unusedVariables false

def rowV (q : Part) : Value := .slice q.A q.sp.length q.c
theorem mk67 (n : Nat) (h : n ≤ 2000) (w : World) : (Instr.makeSlice 67 (.int .i64 (n : Int)) (.int .i64 (n : Int))).run Try.prog w = .ok (.slice (some ⟨w.heap.size, 0, none⟩) n n) (w.alloc (.cells (madeCells #[.bool false] n) 4)) :=
  Go.run_make_row' (P := Try.prog) 67 4 (.bool false) 1 Try.underlying67 (by kernel_rfl) rfl .i64 .i64 n (by omega) (by omega) w
theorem splice_into {α : Type} (a z p : List α) (k n : Nat) (u : α) (hk : a.length ≤ k) (hkn : k + p.length ≤ n) :
    splice (a ++ List.replicate (n - a.length) u) k p = a ++ List.replicate (k - a.length) u ++ p ++ List.replicate (n - (k + p.length)) u := by
  unfold splice
  rw [List.take_append, List.take_of_length_le hk, List.take_replicate, List.drop_append, List.drop_replicate]
  have e1 : a.drop (k + p.length) = [] := List.drop_eq_nil_of_le (by omega)
  have e2 : min (k - a.length) (n - a.length) = k - a.length := by omega
  have e3 : n - a.length - (k + p.length - a.length) = n - (k + p.length) := by omega
  rw [e1, e2, e3]
  simp

theorem made5 (N : Nat) : madeCells #[.int .u8 0] N = ((([] : List UInt8) ++ List.replicate (N - ([] : List UInt8).length) 0).map bv).toArray := by
  apply Array.toList_inj.1
  rw [toList_madeCells_one]
  simp [bv]
theorem made4 (N : Nat) : madeCells #[.bool false] N = ((List.replicate N false).map Value.bool).toArray := by
  apply Array.toList_inj.1
  rw [toList_madeCells_one]
  simp
/-- What stands while parts are joined. -/
structure JoinAt (w : World) (b0 g6 g7 : Nat) (cs : Array Value) (N : Nat) (pre : List UInt8) (k : Nat) (W : World) : Prop where
  box : Blk W b0 31 cs
  out : Blk W g6 5 ((pre ++ List.replicate (N - pre.length) 0).map bv).toArray
  tk : ∃ T : List Bool, T.length = N ∧ (∀ j (h : j < T.length), k ≤ j → T[j] = false) ∧ Blk W g7 4 (T.map Value.bool).toArray
  below : Below w.heap.size w W
theorem JoinAt.start {w : World} {b0 g6 g7 : Nat} {cs : Array Value} {N : Nat} {W : World} (h1 : Blk W b0 31 cs) (h2 : Blk W g6 5 (madeCells #[.int .u8 0] N)) (h3 : Blk W g7 4 (madeCells #[.bool false] N)) (hb : Below w.heap.size w W) : JoinAt w b0 g6 g7 cs N [] 0 W :=
  ⟨h1, by rw [← made5]; exact h2, ⟨List.replicate N false, by simp, by intro j h _; simp, by rw [← made4]; exact h3⟩, hb⟩
theorem JoinAt.ends {w : World} {b0 g6 g7 : Nat} {cs : Array Value} {N : Nat} {pre : List UInt8} {k : Nat} {W W' : World} (h : JoinAt w b0 g6 g7 cs N pre k W) (hb : Below W.heap.size W W') : JoinAt w b0 g6 g7 cs N pre k W' := by
  obtain ⟨T, h1, h2, h3⟩ := h.tk
  exact ⟨h.box.below hb, h.out.below hb, ⟨T, h1, h2, h3.below hb⟩, below_next h.below hb⟩

theorem hsz5 : (Try.prog.info? 5).map (·.size) = some 1 := by kernel_rfl
theorem splice_map {α β : Type} (f : α → β) (l p : List α) (k : Nat) : splice (l.map f) k (p.map f) = (splice l k p).map f := by
  simp [splice]
theorem add_sp (M : Laid) (q : Part) (a : Nat) (ha : alignI M.s q.al = a) (hm : (M.sp.length : Int) = M.s) (hle : M.s ≤ a) : (M.add q).sp = M.sp ++ List.replicate (a - M.sp.length) 0 ++ q.sp ∧ (M.add q).sp.length = a + q.sp.length := by
  have e : (M.add q).sp = M.sp ++ List.replicate (a - M.sp.length) 0 ++ q.sp := by
    show M.sp ++ List.replicate (alignI M.s q.al - M.s).toNat 0 ++ q.sp = _
    rw [ha]
    congr 3
    omega
  refine ⟨e, ?_⟩
  rw [e]; simp; omega
/-- The copy of a part to its place. -/
theorem JoinAt.copy {w : World} {b0 g6 g7 : Nat} {cs : Array Value} {N : Nat} {M : Laid} {W : World} {q : Part} {a : Nat} (J : JoinAt w b0 g6 g7 cs N M.sp M.s.toNat W) (hq : Sl W q.A (q.sp.map bv))
    (ha : alignI M.s q.al = a) (hm : (M.sp.length : Int) = M.s) (hle : M.s ≤ a) (hfit : a + q.sp.length ≤ N) (hqs : (q.sp.length : Int) = q.s) (h0 : w.heap.size ≤ g6) (h67 : g6 ≠ g7) (h60 : b0 < g6) (off : Nat) (hoff : off = a ∨ (off = 0 ∧ a = N)) :
    ∃ w', (Builtin.copy_ #[27, 27] 3 #[.slice (some ⟨g6, off, none⟩) (N - a) (N - a), .slice q.A q.sp.length q.c]).run Try.prog W = .ok (.int .i64 (q.sp.length : Nat)) w' ∧
      JoinAt w b0 g6 g7 cs N (M.add q).sp (M.add q).s.toNat w' ∧ W.heap.size ≤ w'.heap.size := by
  have hlen : (M.sp ++ List.replicate (N - M.sp.length) (0 : UInt8)).length = N := by simp; omega
  obtain ⟨w', hr, hg, hb, hgr⟩ := run_copy_sl (P := Try.prog) W 27 27 3 5 Try.underlying27 hsz5 g6 off (N - a) (N - a) q.A q.sp.length q.c (List.map bv (M.sp ++ List.replicate (N - M.sp.length) (0 : UInt8))) 5 J.out (q.sp.map bv) hq (by simp) (by rw [List.length_map, hlen]; omega) (oneCell_bv _) w.heap.size w J.below h0
  have emin : min q.sp.length (N - a) = q.sp.length := by omega
  rw [emin] at hr hg
  obtain ⟨e1, e2⟩ := add_sp M q a ha hm hle
  have hs2 : (M.add q).s.toNat = a + q.sp.length := by
    have : (M.add q).s = alignI M.s q.al + q.s := rfl
    omega
  obtain ⟨T, t1, t2, t3⟩ := J.tk
  refine ⟨w', hr, ⟨J.box.grown hgr (fun e => by injection e with e; omega), ?_, ⟨T, t1, fun j hj hk => t2 j hj (by omega), t3.grown hgr (fun e => by injection e with e; omega)⟩, hb⟩, hgr.size⟩
  have hh := hg.out
  show w'.heap[g6]? = _
  rw [hh, show (q.sp.map bv).take q.sp.length = q.sp.map bv from List.take_of_length_le (by simp), splice_map]
  have : splice (M.sp ++ List.replicate (N - M.sp.length) 0) off q.sp = (M.add q).sp ++ List.replicate (N - (M.add q).sp.length) 0 := by
    rcases hoff with rfl | ⟨rfl, rfl⟩
    · rw [splice_into M.sp M.sp q.sp off N 0 (by omega) hfit, e1, ← e1, e2, e1]
    · have hz : q.sp = [] := List.eq_nil_of_length_eq_zero (by omega)
      rw [hz] at e1 e2 ⊢
      simp only [List.append_nil, List.length_nil, Nat.add_zero] at e1 e2
      rw [e2, Nat.sub_self, e1]
      simp [splice]
  rw [this]
theorem JoinAt.taken {w : World} {b0 g6 g7 : Nat} {cs : Array Value} {N : Nat} {pre : List UInt8} {k : Nat} {W : World} (J : JoinAt w b0 g6 g7 cs N pre k W) {j : Nat} (hj : j < N) :
    ∃ b, W.cell? ⟨g7, j, none⟩ = some (.bool b) := by
  obtain ⟨T, t1, t2, t3⟩ := J.tk
  rw [t3.cell]
  exact ⟨T[j]'(by omega), by simp [show j < T.length by omega]⟩
theorem JoinAt.free {w : World} {b0 g6 g7 : Nat} {cs : Array Value} {N : Nat} {pre : List UInt8} {k : Nat} {W : World} (J : JoinAt w b0 g6 g7 cs N pre k W) (j : Nat) : W.frozen? ⟨g7, j, none⟩ = false := by
  obtain ⟨T, t1, t2, t3⟩ := J.tk
  exact t3.frozen j
theorem JoinAt.take_ {w : World} {b0 g6 g7 : Nat} {cs : Array Value} {N : Nat} {pre : List UInt8} {k : Nat} {W : World} (J : JoinAt w b0 g6 g7 cs N pre k W) {j : Nat} (hj : j < k) (h6 : g6 ≠ g7) (h0 : b0 ≠ g7) (hw : w.heap.size ≤ g7) (u : Bool) : JoinAt w b0 g6 g7 cs N pre k (W.setCell ⟨g7, j, none⟩ (.bool u)) := by
  obtain ⟨T, t1, t2, t3⟩ := J.tk
  refine ⟨J.box.far (p := ⟨g7, j, none⟩) h0 _, J.out.far (p := ⟨g7, j, none⟩) h6 _, ⟨T.set j u, by simpa using t1, ?_, ?_⟩, J.below.setCell (p := ⟨g7, j, none⟩) hw _⟩
  · intro i hi hk
    rw [List.getElem_set_ne (by omega)]
    exact t2 i (by simpa using hi) hk
  · have := t3.set_ j (.bool u)
    rw [List.map_set]
    simpa using this
theorem JoinAt.falses {w : World} {b0 g6 g7 : Nat} {cs : Array Value} {N : Nat} {pre : List UInt8} {k : Nat} {W : World} (J : JoinAt w b0 g6 g7 cs N pre k W) (a n off : Nat) (hk : k ≤ a) (hn : a + n ≤ N) (hoff : off = a ∨ n = 0) : Sl W (some ⟨g7, off, none⟩) (List.replicate n (.bool false)) := by
  obtain ⟨T, t1, t2, t3⟩ := J.tk
  rcases hoff with rfl | rfl
  · refine .inr ⟨g7, off, rfl, fun j hj => ?_⟩
    simp at hj
    rw [t3.cell]
    have : off + j < T.length := by omega
    simp [this, t2 (off + j) this (by omega)]
  · exact .inl rfl

set_option maxHeartbeats 1000000 in
set_option maxRecDepth 100000 in
theorem join_any (N : Nat) (al : Int) (Ap : Option Addr) (np cp : Nat) (Ao : Option Addr) (co m : Nat) (x4 x5 x6 x7 : Value) (qs : List Part) (L : Laid) (R : Option Addr) (cr : Nat) (w : World)
    (hp : validB N al np = true) (hof : Sl w Ao (L.of.map iv)) (hL : layGo Laid.start qs = some L) (hLs : L.s = N) (hv : ∀ q ∈ qs, q.valid = true)
    (hm : qs.length = m) (hR : Sl w R (qs.map rowV)) (hq : ∀ q ∈ qs, Sl w q.A (q.sp.map bv)) (hm2 : m ≤ 1000) :
    Calls Try.prog 52 #[.agg #[.int .i64 (N : Int), .int .i64 al, .slice Ap np cp, .slice Ao m co, x4, x5, x6, x7], .slice R m cr] w fun e w' => ∃ A', e = .returned (.tuple #[.slice A' N N, .int .i64 0]) ∧ SlE w' 5 A' (L.sp.map bv) ∧ Below w.heap.size w w' := by
  have hgood := layGo_good qs hv _ _ _ Laid.good_start hL
  have hN : N ≤ 1024 := by have := hgood.s1; omega
  have hspN : L.sp.length = N := by have := hgood.sp; omega
  have hofm : L.of.length = m := by rw [hgood.of, hm, Nat.zero_add]
  have hB0 := Blk.new w 31 #[.int .i64 (N : Int), .int .i64 al, .slice Ap np cp, .slice Ao m co, x4, x5, x6, x7]
  have hbx := (Below.refl w.heap.size w).alloc (Nat.le_refl _) (.cells #[.int .i64 (N : Int), .int .i64 al, .slice Ap np cp, .slice Ao m co, x4, x5, x6, x7] 31)
  have hof1 := hof.alloc (.cells #[.int .i64 (N : Int), .int .i64 al, .slice Ap np cp, .slice Ao m co, x4, x5, x6, x7] 31)
  have hR1 := hR.alloc (.cells #[.int .i64 (N : Int), .int .i64 al, .slice Ap np cp, .slice Ao m co, x4, x5, x6, x7] 31)
  have HOF := Lib.hid hof
  have HR := Lib.hid hR
  have HQ := Lib.hid hq
  have HM := Lib.hid hm
  have HL := Lib.hid hL
  have HLS := Lib.hid hLs
  have HV := Lib.hid hv
  have HG := Lib.hid hgood
  have HSPN := Lib.hid hspN
  have HOFM := Lib.hid hofm
  have HB0 := Lib.hid hB0
  have HBX := Lib.hid hbx
  have mk1 := mk27 N (by omega)
  have mk2 := mk67 N (by omega)
  have hself : ((m : Int) != m) = false := by simp
  clear hof hR hq hm hL hLs hv hgood hspN hofm hB0 hbx hof1 hR1
  go_enter Try.func52, Try.ntmps52
  go_wp2_with fail
  refine (valid_any (N : Int) al Ap np cp (.slice Ao m co) x4 x5 x6 x7 _).mono ?_
  rw [hp]
  rintro e w1 ⟨rfl, hb1⟩
  have hb01 := below_next HBX.out hb1
  have hB1 := HB0.out.below hb1
  have hl1 : w.heap.size < w1.heap.size := hB1.lt
  obtain ⟨⟨c0, c1, c2, c3, c4, c5, c6, c7⟩, cf⟩ := hB1.eight
  have HB1 := Lib.hid hB1
  have HB01 := Lib.hid hb01
  clear hb1 hb01 hB1
  go_upto_region 3 with fail
  go_cut [6, 7] (fun v6 v7 wx => ∃ g6 g7 : Nat, v6 = .slice (some ⟨g6, 0, none⟩) N N ∧ v7 = .slice (some ⟨g7, 0, none⟩) N N ∧ g6 ≠ g7 ∧ w.heap.size < g6 ∧ w.heap.size < g7 ∧ JoinAt w w.heap.size g6 g7 #[.int .i64 (N : Int), .int .i64 al, .slice Ap np cp, .slice Ao m co, x4, x5, x6, x7] N [] 0 wx)
  case first =>
    go_region
    all_goals
      go_wp2_with fail
      go_meet
      exact ⟨_, _, rfl, rfl, by simp, by first | omega | (simp; omega), by first | omega | (simp; omega), JoinAt.start (by repeat (first | exact HB1.out | refine blk_drew ?_ | refine Blk.alloc ?_ _)) (by repeat (first | exact Blk.new' (by simp) | refine blk_drew ?_ | refine Blk.alloc ?_ _)) (by repeat (first | exact Blk.new' (by simp) | refine blk_drew ?_ | refine Blk.alloc ?_ _)) (by repeat (first | exact HB01.out | refine Below.drew ?_ | refine Below.alloc ?_ (by have := HB01.out.size; simp <;> omega) _))⟩
  case rest =>
    obtain ⟨g6, g7, rfl, rfl, hne, h6, h7, hat⟩ := hcut
    obtain ⟨W, rfl⟩ : ∃ W : World, W = wc := ⟨_, rfl⟩
    clear mk1 mk2 c0 c1 c2 c3 c4 c5 c6 c7 cf HB1 HB01 hl1
    go_wp2_with fail
    go_loopw [31] (fun v31 wr => ∃ (i : Nat) (M : Laid), i ≤ m ∧ v31 = .int .i64 i ∧ Hid (layGo Laid.start (qs.take i) = some M) ∧ JoinAt w w.heap.size g6 g7 #[.int .i64 (N : Int), .int .i64 al, .slice Ap np cp, .slice Ao m co, x4, x5, x6, x7] N M.sp M.s.toNat wr) (fun v31 _ => m - (intOf v31).toNat)
    case atStart => exact ⟨0, Laid.start, by omega, rfl, (rfl : _ = _), hat⟩
    case round =>
      obtain ⟨i, M, hi, rfl, hM, J⟩ := hrel
      clear hat
      by_cases hlt : i < m
      · have hiq : i < qs.length := by rw [HM.out]; exact hlt
        obtain ⟨l1, l2, l3, l4, l5, l6, l7, l8⟩ := lay_part qs L HL.out HV.out i hiq M hM.out
        obtain ⟨v1, v2, v3, v4⟩ := (valid_iff qs[i]).1 (HV.out qs[i] (List.getElem_mem hiq))
        have hqi := (HQ.out qs[i] (List.getElem_mem hiq)).below J.below
        obtain ⟨rb, ro, rfl, hrc⟩ := (HR.out.below J.below).at_ (k := i) (by simpa using hiq)
        rw [List.getElem_map] at hrc
        have hio : i < L.of.length := by rw [HOFM.out]; exact hlt
        obtain ⟨ob, oo, rfl, hoc⟩ := (HOF.out.below J.below).at_ (k := i) (by simpa using hio)
        rw [List.getElem_map] at hoc
        rw [List.getElem?_eq_getElem hio] at l3
        rw [Option.some.inj l3] at hoc
        have hM2 : layGo Laid.start (qs.take (i + 1)) = some (M.add qs[i]) := l2
        have ms := l1.sp
        have m0 := l1.s0
        have l6' := l6
        rw [HLS.out] at l6'
        generalize hqd : qs[i] = q at *
        obtain ⟨a, ha⟩ := Int.eq_ofNat_of_zero_le (show 0 ≤ alignI M.s q.al by omega)
        rw [ha] at hoc l4 l6' l7
        have hoc' : wr.cell? ⟨ob, oo + i, none⟩ = some (.int .i64 (a : Int)) := hoc
        have hrc' : wr.cell? ⟨rb, ro + i, none⟩ = some (.slice q.A q.sp.length q.c) := hrc
        by_cases hNa : N = a
        · subst hNa
          have hqs' : (q.sp.length : Int) = q.s := v4
          have hfalse := J.falses N q.sp.length 0 (by omega) (by omega) (.inr (by omega))
          obtain ⟨w3, hcp, J3, hsz3⟩ := J.copy hqi ha ms l4 (by omega) hqs' (by omega) hne h6 0 (.inr ⟨rfl, rfl⟩)
          have HM2 : Hid (layGo Laid.start (qs.take (i + 1)) = some (M.add q)) := hM2
          have hs3 : (M.add q).s.toNat = N + q.sp.length := by
            have : (M.add q).s = alignI M.s q.al + q.s := rfl
            omega
          have JJ := Lib.hid J3
          have hal : N + q.sp.length ≤ N := by omega
          obtain ⟨⟨c0, c1, c2, c3, c4, c5, c6, c7⟩, cf⟩ := J.box.eight
          have hql : q.sp.length ≤ 1024 := by omega
          have hq0 : q.sp.length = 0 := by omega
          rw [hq0, Nat.sub_self] at hcp
          rw [hq0] at hrc' hfalse hs3
          have HFA := Lib.hid hfalse
          have HS3 := Lib.hid hs3
          clear hal hql hq0
          clear hqs' v1 v2 v3 v4 l1 l2 l3 l4 l5 l6 l6' l7 l8 m0 hrc hoc J J3 hM hM2 hqi hqd ha hfalse hs3 ms
          go_wp2_with fail
          refine (bcont_false _ 0 _ _ HFA.out (by omega)).mono ?_
          rintro e w2 ⟨rfl, rfl⟩
          go_wp2_with fail
          clear hcp c0 c1 c2 c3 c4 c5 c6 c7 cf hoc' hrc' HFA
          have hb44 := JJ.out
          obtain ⟨wp, rfl⟩ : ∃ wp : World, wp = wr := ⟨_, rfl⟩
          go_loopw [75] (fun v75 wq => ∃ t : Nat, t ≤ 0 ∧ v75 = .int .i64 t ∧ JoinAt w w.heap.size g6 g7 #[.int .i64 (N : Int), .int .i64 al, .slice Ap np cp, .slice (some ⟨ob, oo, none⟩) m co, x4, x5, x6, x7] N (M.add q).sp (M.add q).s.toNat wq) (fun v75 _ => 0 - (intOf v75).toNat)
          case atStart => exact ⟨0, by omega, rfl, hb44⟩
          case round =>
            obtain ⟨t, ht, rfl, J⟩ := hrel
            clear hb44
            by_cases htl : t < 0
            · exact absurd htl (by omega)
            · obtain rfl : t = 0 := by omega
              go_wp2_with fail
              go_roundw
              case rel => first | exact ⟨i + 1, M.add q, by omega, by go_num, HM2, J⟩ | ((repeat apply Exists.intro); exact ⟨⟨i + 1, M.add q, by omega, by go_num, HM2, J⟩, rfl⟩)
              case measure => simp [intOf]; omega
        · have hNa' : ¬ N = a := hNa
          have hqs' : (q.sp.length : Int) = q.s := v4
          have hfalse := J.falses a q.sp.length a (by omega) (by omega) (.inl rfl)
          obtain ⟨w3, hcp, J3, hsz3⟩ := J.copy hqi ha ms l4 (by omega) hqs' (by omega) hne h6 a (.inl rfl)
          have HM2 : Hid (layGo Laid.start (qs.take (i + 1)) = some (M.add q)) := hM2
          have hs3 : (M.add q).s.toNat = a + q.sp.length := by
            have : (M.add q).s = alignI M.s q.al + q.s := rfl
            omega
          have JJ := Lib.hid J3
          have hal : a + q.sp.length ≤ N := by omega
          obtain ⟨⟨c0, c1, c2, c3, c4, c5, c6, c7⟩, cf⟩ := J.box.eight
          have hql : q.sp.length ≤ 1024 := by omega
          have HFA := Lib.hid hfalse
          have HS3 := Lib.hid hs3
          clear hqs' v1 v2 v3 v4 l1 l2 l3 l4 l5 l6 l6' l7 l8 m0 hrc hoc J J3 hM hM2 hqi hqd ha hfalse hs3 ms
          go_wp2_with fail
          refine (bcont_false _ q.sp.length _ _ HFA.out (by omega)).mono ?_
          rintro e w2 ⟨rfl, rfl⟩
          go_wp2_with fail
          clear hcp c0 c1 c2 c3 c4 c5 c6 c7 cf hoc' hrc' HFA
          have hb44 := JJ.out
          obtain ⟨wp, rfl⟩ : ∃ wp : World, wp = wr := ⟨_, rfl⟩
          go_loopw [75] (fun v75 wq => ∃ t : Nat, t ≤ q.sp.length ∧ v75 = .int .i64 t ∧ JoinAt w w.heap.size g6 g7 #[.int .i64 (N : Int), .int .i64 al, .slice Ap np cp, .slice (some ⟨ob, oo, none⟩) m co, x4, x5, x6, x7] N (M.add q).sp (M.add q).s.toNat wq) (fun v75 _ => q.sp.length - (intOf v75).toNat)
          case atStart => exact ⟨0, by omega, rfl, hb44⟩
          case round =>
            obtain ⟨t, ht, rfl, J⟩ := hrel
            clear hb44
            by_cases htl : t < q.sp.length
            · obtain ⟨u, hu⟩ := J.taken (j := a + t) (by omega)
              have hf := J.free (a + t)
              have JT := Lib.hid (J.take_ (j := a + t) (by rw [HS3.out]; omega) hne (by omega) (by omega) true)
              clear J
              go_wp2_with fail
              go_roundw
              case rel => exact ⟨t + 1, by omega, by go_num, JT.out⟩
              case measure => simp [intOf]; omega
            · obtain rfl : t = q.sp.length := by omega
              go_wp2_with fail
              go_roundw
              case rel => first | exact ⟨i + 1, M.add q, by omega, by go_num, HM2, J⟩ | ((repeat apply Exists.intro); exact ⟨⟨i + 1, M.add q, by omega, by go_num, HM2, J⟩, rfl⟩)
              case measure => simp [intOf]; omega
      · obtain rfl : i = m := by omega
        have hML : M = L := by
          have h1 := hM.out
          rw [List.take_of_length_le (by rw [HM.out]; exact Nat.le_refl _), HL.out] at h1
          exact (Option.some.inj h1).symm
        subst hML
        have hse : SlE wr 5 (some ⟨g6, 0, none⟩) (M.sp.map bv) := by
          refine .inr ⟨g6, 0, _, _, rfl, J.out, fun j hj => ?_⟩
          rw [Nat.zero_add]
          have hj' : j < M.sp.length := by simpa using hj
          have hz : N - M.sp.length = 0 := by rw [HSPN.out]; omega
          rw [hz, List.replicate_zero, List.append_nil, List.getElem?_toArray, List.getElem?_eq_getElem hj]
        have HSE := Lib.hid hse
        have HBE := Lib.hid J.below
        clear J hse
        go_wp2
        go_ret2
        exact ⟨_, rfl, HSE.out, HBE.out⟩
end Go.Proofs.Ytamhigknobdloaa
