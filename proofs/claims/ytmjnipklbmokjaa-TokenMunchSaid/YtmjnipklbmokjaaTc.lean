/- The walk of token.Scan: it returns the tokens of the text; conditions: the text is not too long for the model's numbers. -/
import Derived.Test.YtmjnipklbmokjaaTb
namespace Go.Proofs.Ytmjnipklbmokjaa
open Go.RowKit
set_option linter.unusedVariables false

theorem scan_bad {R : Except (Nat × Nat) (List Tok)} {L : Bs} {l : List Tok} {k kd ln : Nat} (hk : k < L.length) (hx : nextL (L.drop k) = (kd, ln)) (hinv : R = ahead l (scanT l.length k (L.drop k)))
    (hb : badL kd ((L.drop k).take ln) = true) : R = .error (1, k) := by
  have hne : L.drop k ≠ [] := by intro h; have := congrArg List.length h; simp at this; omega
  rw [hinv, scanT_step _ _ _ hne, hx, hb]; rfl
theorem scan_big {R : Except (Nat × Nat) (List Tok)} {L : Bs} {l : List Tok} {k kd ln : Nat} (hk : k < L.length) (hx : nextL (L.drop k) = (kd, ln)) (hinv : R = ahead l (scanT l.length k (L.drop k)))
    (hb : badL kd ((L.drop k).take ln) = false) (hg : (bigL kd ((L.drop k).take ln) || l.length == 6000) = true) : R = .error (4, k) := by
  have hne : L.drop k ≠ [] := by intro h; have := congrArg List.length h; simp at this; omega
  rw [hinv, scanT_step _ _ _ hne, hx, hb, hg]; rfl
theorem scan_go {R : Except (Nat × Nat) (List Tok)} {L : Bs} {l : List Tok} {k kd ln : Nat} (hk : k < L.length) (hx : nextL (L.drop k) = (kd, ln)) (hinv : R = ahead l (scanT l.length k (L.drop k)))
    (hb : badL kd ((L.drop k).take ln) = false) (hg : (bigL kd ((L.drop k).take ln) || l.length == 6000) = false) :
    R = ahead (l ++ [Tok.mk kd ((L.drop k).take ln) k]) (scanT (l ++ [Tok.mk kd ((L.drop k).take ln) k]).length (k + ln + skipL false (L.drop (k + ln))) (L.drop (k + ln + skipL false (L.drop (k + ln))))) := by
  have hne : L.drop k ≠ [] := by intro h; have := congrArg List.length h; simp at this; omega
  rw [hinv, scanT_step _ _ _ hne, hx, hb, hg, ahead_snoc]
  simp only [Bool.false_eq_true, if_false, List.drop_drop, List.length_append, List.length_singleton]
theorem kinds (s : Bs) (hs : s ≠ []) : (nextL s).1 = 0 ∨ (1 ≤ (nextL s).2 ∧ ((nextL s).1 = 1 ∨ (nextL s).1 = 2 ∨ (nextL s).1 = 3)) := by
  by_cases h0 : (nextL s).1 = 0
  · exact .inl h0
  · refine .inr ⟨nextL_pos s h0, ?_⟩
    cases s with
    | nil => exact absurd rfl hs
    | cons c t =>
      cases h1 : letterB c with
      | true => rw [nextL_letter t h1]; simp
      | false =>
        cases h2 : digitB c with
        | true => rw [nextL_digit t h1 h2]; simp
        | false =>
          rw [nextL_sign t h1 h2] at h0 ⊢
          unfold signN at *
          cases h3 : twoB c t.head? with
          | true => simp
          | false =>
            cases h4 : signB c with
            | true => simp
            | false => rw [h3, h4] at h0; exact absurd rfl h0

theorem bad_num (W : ByteArray) (h : 0 < W.size) : badL 2 W.data.toList = (decide (1 < W.size) && ((W[0].toNat : Int) == 48)) := by
  have hg := data_get W 0 h
  have hh : W.data.toList.head? = some W[0] := by
    rw [List.head?_eq_getElem?, Lib.data_getElem? W 0 h]
  unfold badL
  rw [hh, size_list]
  have e : (some W[0] == some (48 : UInt8)) = ((W[0].toNat : Int) == 48) := by
    rw [Option.some_beq_some]
    by_cases h48 : W[0] = 48
    · rw [h48]; rfl
    · have e1 : (W[0] == 48) = false := by simpa using h48
      have e2 : ((W[0].toNat : Int) == 48) = false := by
        have : (W[0].toNat : Int) ≠ 48 := fun h' => h48 (UInt8.toNat_inj.1 (by
          have : W[0].toNat = 48 := by omega
          rw [this]; rfl))
        simpa using this
      rw [e1, e2]
  rw [e]; rfl

/-- A token as it lies in memory. -/
def tcells (t : Tok) : List Value := [.int .i64 t.kind, .string ⟨t.text.toArray⟩, .int .i64 t.pos]
theorem tcells_length (l : List Tok) : (l.flatMap tcells).length = l.length * 3 := by
  induction l with
  | nil => rfl
  | cons t l ih => rw [List.flatMap_cons, List.length_append, ih]; simp [tcells]; omega
theorem el34 : El Try.prog 34 (.agg #[.int .i64 0, .string ⟨#[]⟩, .int .i64 0]) 3 32 := El.mk (by kernel_rfl) rfl (by decide)

/-- What Scan returns. -/
def ScanPost (w : World) (r : Except (Nat × Nat) (List Tok)) (e : Ending) (w' : World) : Prop :=
  match r with
  | .ok l => ∃ A c, e = .returned (.tuple #[.slice A l.length c, .int .i64 0, .int .i64 0]) ∧ w'.ownsRow w.heap.size 34 3 (.slice A l.length c) l.length (l.flatMap tcells) ∧ Below w.heap.size w w'
  | .error x => e = .returned (.tuple #[.slice none 0 0, .int .i64 x.2, .int .i64 x.1]) ∧ Below w.heap.size w w'
theorem scanPost_err {w w' : World} {r : Except (Nat × Nat) (List Tok)} {e : Ending} {a b : Nat} (h : r = .error (a, b)) (he : e = .returned (.tuple #[.slice none 0 0, .int .i64 b, .int .i64 a])) (hb : Below w.heap.size w w') : ScanPost w r e w' := by
  subst h; exact ⟨he, hb⟩
theorem scanPost_ok {w w' : World} {r : Except (Nat × Nat) (List Tok)} {e : Ending} {l : List Tok} {A : Option Addr} {c : Nat} (h : r = .ok l) (he : e = .returned (.tuple #[.slice A l.length c, .int .i64 0, .int .i64 0]))
    (ho : w'.ownsRow w.heap.size 34 3 (.slice A l.length c) l.length (l.flatMap tcells)) (hb : Below w.heap.size w w') : ScanPost w r e w' := by
  subst h; exact ⟨A, c, he, ho, hb⟩

theorem next_tok' (s : ByteArray) (a kd ln : Nat) (w : World) (hs : s.size ≤ 1000000000) (ha : a < s.size) (hx : nextL (s.data.toList.drop a) = (kd, ln)) :
    Calls Try.prog 22 #[.string s, .int .i64 a] w fun e w' => e = .returned (.tuple #[.int .i64 kd, .int .i64 ((a + ln : Nat) : Int)]) ∧ w = w' := by
  have := next_tok s a w hs ha
  rw [hx] at this
  exact this

/-- append of a token, as a run. -/
theorem run_tok {w : World} (base : Nat) (A : Option Addr) (c : Nat) (l : List Tok) (hown : w.ownsRow base 34 3 (.slice A l.length c) l.length (l.flatMap tcells)) (hl : l.length ≤ 6000) (hbase : base ≤ w.heap.size)
    (kI : Int) (kd k : Nat) (hkI : kI = kd) (T : Bs) (W : ByteArray) (hW : W.data.toList = T) :
    ∃ A' c' w', (heldAppend #[29, 29] 29 #[.slice A l.length c, .slice (some ⟨w.heap.size, 0, none⟩) 1 1]).run Try.prog (w.alloc (.cells #[.int .i64 kI, .string W, .int .i64 (k : Int)] 34)) = .ok (.value (.slice A' (l.length + 1) c')) w' ∧
      w'.ownsRow base 34 3 (.slice A' (l ++ [Tok.mk kd T k]).length c') (l ++ [Tok.mk kd T k]).length ((l ++ [Tok.mk kd T k]).flatMap tcells) ∧ w.grownBy w' (Value.slice A l.length c).ownBlock := by
  subst hW
  subst hkI
  obtain ⟨A', c', w', hr, h2, h3, h4⟩ := run_append_sl (P := Try.prog) base 29 29 34 _ 3 32 Try.underlying29 el34 _ _ _ (hown.alloc (.cells #[.int .i64 (kd : Int), .string W, .int .i64 (k : Int)] 34)) _ 1 1
    [.int .i64 (kd : Int), .string W, .int .i64 (k : Int)] (Sl.new w #[.int .i64 (kd : Int), .string W, .int .i64 (k : Int)] 34) rfl (by intro v hv; simp at hv; rcases hv with rfl | rfl | rfl <;> rfl) (by simp only [maxLen]; omega) (by omega) (by simp; omega)
  refine ⟨A', c', w', run_held hr, ?_, grownBy_of_alloc h3⟩
  rw [List.length_append, List.length_singleton, List.flatMap_append]
  have e : [(⟨kd, W.data.toList, k⟩ : Tok)].flatMap tcells = [.int .i64 (kd : Int), .string W, .int .i64 (k : Int)] := by
    simp [tcells]
  rw [e]
  exact h2

set_option maxHeartbeats 3200000 in
set_option maxRecDepth 100000 in
theorem scan_any (s : ByteArray) (w : World) (hs : s.size ≤ 1000000000) : Calls Try.prog 13 #[.string s] w (ScanPost w (scanA s.data.toList)) := by
  have hb0 := Below.refl w.heap.size w
  by_cases hbig : 16384 < s.size
  · have hr : scanA s.data.toList = .error (4, 0) := by unfold scanA; rw [if_pos (by rw [size_list]; exact hbig)]
    have HR := Lib.hid hr
    clear hr
    go_enter Try.func13, Try.ntmps13
    go_wp2
    go_ret3
    exact scanPost_err HR.out rfl hb0
  · have hr : scanA s.data.toList = scanT 0 (skipL false s.data.toList) (s.data.toList.drop (skipL false s.data.toList)) := by unfold scanA; rw [if_neg (by rw [size_list]; exact hbig)]
    have hk0 := skipL_le false s.data.toList
    rw [size_list] at hk0
    have HR := Lib.hid hr
    clear hr
    generalize hR : scanA s.data.toList = R at *
    clear hR
    go_enter Try.func13, Try.ntmps13
    go_wp2_with fail
    refine (skip_any s 0 _ hs (by omega)).mono ?_
    rw [List.drop_zero, Nat.zero_add]
    rintro e w1 ⟨rfl, rfl⟩
    go_wp2_with fail
    go_loopw [5, 6] (fun v5 v6 wr => ∃ (k : Nat) (l : List Tok) (A : Option Addr) (c : Nat), k ≤ s.size ∧ v6 = .int .i64 k ∧ v5 = .slice A l.length c ∧ wr.ownsRow w.heap.size 34 3 (.slice A l.length c) l.length (l.flatMap tcells) ∧ l.length ≤ 6000 ∧ Hid (R = ahead l (scanT l.length k (s.data.toList.drop k))) ∧ Below w.heap.size w wr) (fun _ v6 _ => s.size - (intOf v6).toNat)
    case atStart => exact ⟨_, [], none, 0, hk0, rfl, rfl, World.ownsRow_nil _ _ _ _, by simp, (by rw [ahead_nil]; exact HR.out), hb0⟩
    case round =>
      obtain ⟨k, l, A, c, hk, rfl, rfl, own, hl, hinv, hb⟩ := hrel
      have hsz := hb.size
      by_cases hlt : k < s.size
      · have hkL : k < s.data.toList.length := by rw [size_list]; exact hlt
        have hne : s.data.toList.drop k ≠ [] := by intro h; have := congrArg List.length h; simp at this; omega
        have hkd := kinds _ hne
        have hln := nextL_le (s.data.toList.drop k)
        rw [List.length_drop, size_list] at hln
        obtain ⟨kd, ln, hx⟩ : ∃ kd ln, nextL (s.data.toList.drop k) = (kd, ln) := ⟨_, _, rfl⟩
        rw [hx] at hkd hln
        simp only at hkd hln
        obtain ⟨W, hW⟩ : ∃ W, s.extract k (k + ln) = W := ⟨_, rfl⟩
        have hWl : W.data.toList = (s.data.toList.drop k).take ln := by rw [← hW, Lib.extract_data, Nat.add_sub_cancel_left]
        have hWs : W.size = ln := by rw [← size_list, hWl, List.length_take, List.length_drop, size_list]; omega
        have HWL := Lib.hid hWl
        have HX := Lib.hid hx
        have HKL := Lib.hid hkL
        clear hWl hx hkL hne hk0
        rcases hkd with h0 | ⟨hln1, h1 | h2 | h3⟩
        · subst h0
          have HB := Lib.hid (scan_bad HKL.out HX.out hinv.out (by simp [badL]))
          go_wp2_with fail
          refine (next_tok' s k 0 ln _ hs hlt HX.out).mono ?_
          rintro e w1 ⟨rfl, rfl⟩
          go_wp2
          go_ret3
          exact scanPost_err HB.out rfl hb
        · subst h1
          have hbad : badL 1 ((s.data.toList.drop k).take ln) = false := by simp [badL]
          have HBAD := Lib.hid hbad
          clear hbad
          by_cases h16 : 16 < ln
          · have HB := Lib.hid (scan_big HKL.out HX.out hinv.out HBAD.out (by
              have : ((s.data.toList.drop k).take ln).length = ln := by rw [← HWL.out, size_list, hWs]
              unfold bigL
              rw [this]; simp [h16]))
            go_wp2_with fail
            refine (next_tok' s k 1 ln _ hs hlt HX.out).mono ?_
            rintro e w1 ⟨rfl, rfl⟩
            go_wp2
            go_ret3
            exact scanPost_err HB.out rfl hb
          · have HBIG : Hid (bigL 1 ((s.data.toList.drop k).take ln) = false) := by
              have : ((s.data.toList.drop k).take ln).length = ln := by rw [← HWL.out, size_list, hWs]
              show bigL 1 _ = false
              unfold bigL
              rw [this]; simp; omega
            by_cases h6 : l.length = 6000
            · have HB := Lib.hid (scan_big HKL.out HX.out hinv.out HBAD.out (by rw [h6]; simp))
              have t6 : ((l.length : Int) == 6000) = true := by simp; omega
              clear h6
              go_wp2_with fail
              refine (next_tok' s k 1 ln _ hs hlt HX.out).mono ?_
              rintro e w1 ⟨rfl, rfl⟩
              go_wp2
              go_ret3
              exact scanPost_err HB.out rfl hb
            · have t6 : ((l.length : Int) == 6000) = false := by simp; omega
              have HG := Lib.hid (scan_go HKL.out HX.out hinv.out HBAD.out (by rw [HBIG.out, Bool.false_or]; simpa using h6))
              have hl6 : l.length < 6000 := by omega
              clear h6
              have hsk := skipL_le false (s.data.toList.drop (k + ln))
              rw [List.length_drop, size_list] at hsk
              obtain ⟨A2, c2, w2, hrun, own2, hg2⟩ := run_tok w.heap.size A c l own hl hsz 1 1 k rfl _ W HWL.out
              have G2 := Lib.hid (hb.grown hg2 hsz (fun q hq => (own.lt q hq).1))
              have OWN := Lib.hid own2
              clear own own2 hg2
              go_wp2_with fail
              refine (next_tok' s k 1 ln _ hs hlt HX.out).mono ?_
              rintro e w1 ⟨rfl, rfl⟩
              go_wp2_with fail
              refine (skip_any s (k + ln) _ hs (by omega)).mono ?_
              rintro e w1 ⟨rfl, rfl⟩
              go_wp2
              go_roundw
              case rel => exact ⟨k + ln + skipL false (s.data.toList.drop (k + ln)), l ++ [Tok.mk 1 ((s.data.toList.drop k).take ln) k], A2, c2, by omega, rfl, by rw [List.length_append, List.length_singleton], OWN.out, by rw [List.length_append, List.length_singleton]; omega, HG.out, G2.out⟩
              case measure => simp [intOf]; omega
        · subst h2
          have hW0 : 0 < W.size := by omega
          have hbn := bad_num W hW0
          rw [hWs, HWL.out] at hbn
          by_cases h1n : 1 < ln
          · cases t48 : ((W[0].toNat : Int) == 48) with
            | true =>
              have HB := Lib.hid (scan_bad HKL.out HX.out hinv.out (by rw [hbn, t48]; simp [h1n]))
              clear hbn
              go_wp2_with fail
              refine (next_tok' s k 2 ln _ hs hlt HX.out).mono ?_
              rintro e w1 ⟨rfl, rfl⟩
              go_wp2
              go_ret3
              exact scanPost_err HB.out rfl hb
            | false =>
              have HBAD : Hid (badL 2 ((s.data.toList.drop k).take ln) = false) := by
                show badL 2 _ = false
                rw [hbn, t48]; simp
              clear hbn
              cases hgr : greatL W.data.toList with
              | true =>
                have HB := Lib.hid (scan_big HKL.out HX.out hinv.out HBAD.out (by rw [← HWL.out]; unfold bigL; rw [hgr]; simp))
                have GR := Lib.hid hgr
                clear hgr
                go_wp2_with fail
                refine (next_tok' s k 2 ln _ hs hlt HX.out).mono ?_
                rintro e w1 ⟨rfl, rfl⟩
                go_wp2_with fail
                refine (great_any W _ (by omega)).mono ?_
                rw [GR.out]
                rintro e w1 ⟨rfl, rfl⟩
                go_wp2
                go_ret3
                exact scanPost_err HB.out rfl hb
              | false =>
                have HBIG : Hid (bigL 2 ((s.data.toList.drop k).take ln) = false) := by
                  show bigL 2 _ = false
                  rw [← HWL.out]; unfold bigL; rw [hgr]; simp
                have GR := Lib.hid hgr
                clear hgr
                by_cases h6 : l.length = 6000
                · have HB := Lib.hid (scan_big HKL.out HX.out hinv.out HBAD.out (by rw [h6]; simp))
                  have t6 : ((l.length : Int) == 6000) = true := by simp; omega
                  clear h6
                  go_wp2_with fail
                  refine (next_tok' s k 2 ln _ hs hlt HX.out).mono ?_
                  rintro e w1 ⟨rfl, rfl⟩
                  go_wp2_with fail
                  refine (great_any W _ (by omega)).mono ?_
                  rw [GR.out]
                  rintro e w1 ⟨rfl, rfl⟩
                  go_wp2
                  go_ret3
                  exact scanPost_err HB.out rfl hb
                · have t6 : ((l.length : Int) == 6000) = false := by simp; omega
                  have HG := Lib.hid (scan_go HKL.out HX.out hinv.out HBAD.out (by rw [HBIG.out, Bool.false_or]; simpa using h6))
                  have hl6 : l.length < 6000 := by omega
                  clear h6
                  have hsk := skipL_le false (s.data.toList.drop (k + ln))
                  rw [List.length_drop, size_list] at hsk
                  obtain ⟨A2, c2, w2, hrun, own2, hg2⟩ := run_tok w.heap.size A c l own hl hsz 2 2 k rfl _ W HWL.out
                  have G2 := Lib.hid (hb.grown hg2 hsz (fun q hq => (own.lt q hq).1))
                  have OWN := Lib.hid own2
                  clear own own2 hg2
                  go_wp2_with fail
                  refine (next_tok' s k 2 ln _ hs hlt HX.out).mono ?_
                  rintro e w1 ⟨rfl, rfl⟩
                  go_wp2_with fail
                  refine (great_any W _ (by omega)).mono ?_
                  rw [GR.out]
                  rintro e w1 ⟨rfl, rfl⟩
                  go_wp2_with fail
                  refine (skip_any s (k + ln) _ hs (by omega)).mono ?_
                  rintro e w1 ⟨rfl, rfl⟩
                  go_wp2
                  go_roundw
                  case rel => exact ⟨k + ln + skipL false (s.data.toList.drop (k + ln)), l ++ [Tok.mk 2 ((s.data.toList.drop k).take ln) k], A2, c2, by omega, rfl, by rw [List.length_append, List.length_singleton], OWN.out, by rw [List.length_append, List.length_singleton]; omega, HG.out, G2.out⟩
                  case measure => simp [intOf]; omega
          · have HBAD : Hid (badL 2 ((s.data.toList.drop k).take ln) = false) := by
              show badL 2 _ = false
              rw [hbn]; simp [h1n]
            clear hbn
            cases hgr : greatL W.data.toList with
            | true =>
              have HB := Lib.hid (scan_big HKL.out HX.out hinv.out HBAD.out (by rw [← HWL.out]; unfold bigL; rw [hgr]; simp))
              have GR := Lib.hid hgr
              clear hgr
              go_wp2_with fail
              refine (next_tok' s k 2 ln _ hs hlt HX.out).mono ?_
              rintro e w1 ⟨rfl, rfl⟩
              go_wp2_with fail
              refine (great_any W _ (by omega)).mono ?_
              rw [GR.out]
              rintro e w1 ⟨rfl, rfl⟩
              go_wp2
              go_ret3
              exact scanPost_err HB.out rfl hb
            | false =>
              have HBIG : Hid (bigL 2 ((s.data.toList.drop k).take ln) = false) := by
                show bigL 2 _ = false
                rw [← HWL.out]; unfold bigL; rw [hgr]; simp
              have GR := Lib.hid hgr
              clear hgr
              by_cases h6 : l.length = 6000
              · have HB := Lib.hid (scan_big HKL.out HX.out hinv.out HBAD.out (by rw [h6]; simp))
                have t6 : ((l.length : Int) == 6000) = true := by simp; omega
                clear h6
                go_wp2_with fail
                refine (next_tok' s k 2 ln _ hs hlt HX.out).mono ?_
                rintro e w1 ⟨rfl, rfl⟩
                go_wp2_with fail
                refine (great_any W _ (by omega)).mono ?_
                rw [GR.out]
                rintro e w1 ⟨rfl, rfl⟩
                go_wp2
                go_ret3
                exact scanPost_err HB.out rfl hb
              · have t6 : ((l.length : Int) == 6000) = false := by simp; omega
                have HG := Lib.hid (scan_go HKL.out HX.out hinv.out HBAD.out (by rw [HBIG.out, Bool.false_or]; simpa using h6))
                have hl6 : l.length < 6000 := by omega
                clear h6
                have hsk := skipL_le false (s.data.toList.drop (k + ln))
                rw [List.length_drop, size_list] at hsk
                obtain ⟨A2, c2, w2, hrun, own2, hg2⟩ := run_tok w.heap.size A c l own hl hsz 2 2 k rfl _ W HWL.out
                have G2 := Lib.hid (hb.grown hg2 hsz (fun q hq => (own.lt q hq).1))
                have OWN := Lib.hid own2
                clear own own2 hg2
                go_wp2_with fail
                refine (next_tok' s k 2 ln _ hs hlt HX.out).mono ?_
                rintro e w1 ⟨rfl, rfl⟩
                go_wp2_with fail
                refine (great_any W _ (by omega)).mono ?_
                rw [GR.out]
                rintro e w1 ⟨rfl, rfl⟩
                go_wp2_with fail
                refine (skip_any s (k + ln) _ hs (by omega)).mono ?_
                rintro e w1 ⟨rfl, rfl⟩
                go_wp2
                go_roundw
                case rel => exact ⟨k + ln + skipL false (s.data.toList.drop (k + ln)), l ++ [Tok.mk 2 ((s.data.toList.drop k).take ln) k], A2, c2, by omega, rfl, by rw [List.length_append, List.length_singleton], OWN.out, by rw [List.length_append, List.length_singleton]; omega, HG.out, G2.out⟩
                case measure => simp [intOf]; omega
        · subst h3
          have hbad : badL 3 ((s.data.toList.drop k).take ln) = false := by simp [badL]
          have HBAD := Lib.hid hbad
          clear hbad
          have HBIG : Hid (bigL 3 ((s.data.toList.drop k).take ln) = false) := by
            show bigL 3 _ = false
            simp [bigL]
          by_cases h6 : l.length = 6000
          · have HB := Lib.hid (scan_big HKL.out HX.out hinv.out HBAD.out (by rw [h6]; simp))
            have t6 : ((l.length : Int) == 6000) = true := by simp; omega
            clear h6
            go_wp2_with fail
            refine (next_tok' s k 3 ln _ hs hlt HX.out).mono ?_
            rintro e w1 ⟨rfl, rfl⟩
            go_wp2
            go_ret3
            exact scanPost_err HB.out rfl hb
          · have t6 : ((l.length : Int) == 6000) = false := by simp; omega
            have HG := Lib.hid (scan_go HKL.out HX.out hinv.out HBAD.out (by rw [HBIG.out, Bool.false_or]; simpa using h6))
            have hl6 : l.length < 6000 := by omega
            clear h6
            have hsk := skipL_le false (s.data.toList.drop (k + ln))
            rw [List.length_drop, size_list] at hsk
            obtain ⟨A2, c2, w2, hrun, own2, hg2⟩ := run_tok w.heap.size A c l own hl hsz 3 3 k rfl _ W HWL.out
            have G2 := Lib.hid (hb.grown hg2 hsz (fun q hq => (own.lt q hq).1))
            have OWN := Lib.hid own2
            clear own own2 hg2
            go_wp2_with fail
            refine (next_tok' s k 3 ln _ hs hlt HX.out).mono ?_
            rintro e w1 ⟨rfl, rfl⟩
            go_wp2_with fail
            refine (skip_any s (k + ln) _ hs (by omega)).mono ?_
            rintro e w1 ⟨rfl, rfl⟩
            go_wp2
            go_roundw
            case rel => exact ⟨k + ln + skipL false (s.data.toList.drop (k + ln)), l ++ [Tok.mk 3 ((s.data.toList.drop k).take ln) k], A2, c2, by omega, rfl, by rw [List.length_append, List.length_singleton], OWN.out, by rw [List.length_append, List.length_singleton]; omega, HG.out, G2.out⟩
            case measure => simp [intOf]; omega
      · have HE : Hid (R = .ok l) := by
          have := hinv.out
          rw [List.drop_of_length_le (by rw [size_list]; omega), scanT_nil] at this
          rw [this]
          show Except.ok (l ++ []) = _
          rw [List.append_nil]
        go_wp2
        go_ret3
        exact scanPost_ok HE.out rfl own hb
end Go.Proofs.Ytmjnipklbmokjaa
