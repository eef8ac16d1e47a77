/- The walk of the law TokenJoins; no condition but that the texts are readable. -/
import Derived.Test.YtmjnipklbmokjaaTd
import Derived.Test.YtmjnipklbmokjaaTm
namespace Go.Proofs.Ytmjnipklbmokjaa
open Go.RowKit
set_option linter.unusedVariables false

theorem scanF_err (f : Nat) : ∀ (n pos : Nat) (s : Bs) (x : Nat × Nat), scanF f n pos s = .error x → x.1 = 1 ∨ x.1 = 4 := by
  induction f with
  | zero => intro n pos s x h; cases h
  | succ f ih =>
    intro n pos s x h
    cases s with
    | nil => cases h
    | cons c t =>
      unfold scanF at h
      split at h
      · injection h with h; subst h; exact .inl rfl
      · split at h
        · injection h with h; subst h; exact .inr rfl
        · split at h
          · cases h
          · rename_i e he
            injection h with h
            subst h
            exact ih _ _ _ _ he
theorem scanA_err {s : Bs} {x : Nat × Nat} (h : scanA s = .error x) : x.1 = 1 ∨ x.1 = 4 := by
  unfold scanA at h
  split at h
  · injection h with h; subst h; exact .inr rfl
  · exact scanF_err _ _ _ _ _ h
theorem app_data (a b : ByteArray) : (a ++ b).data.toList = a.data.toList ++ b.data.toList := by simp
theorem app_size (a b : ByteArray) : (a ++ b).size = a.size + b.size := by simp
theorem join_scan (a b : ByteArray) (ha : a.size ≤ 1000) (hb : b.size ≤ 1000) : scanA ((a ++ ⟨#[10]⟩) ++ b).data.toList = joinR (scanA a.data.toList) (shiftR (a.size + 1) (scanA b.data.toList)) := by
  have := scanA_join a.data.toList b.data.toList (by rw [size_list]; exact ha) (by rw [size_list]; exact hb)
  rw [size_list] at this
  rw [← this, app_data, app_data, List.append_assoc]
  rfl
theorem toks_len (s : ByteArray) (l : List Tok) (h : scanA s.data.toList = .ok l) : l.length ≤ s.size := by
  have := places_sum _ l 0 (places_all _ l h)
  rw [size_list] at this
  omega
theorem toks_own {w : World} {A : Option Addr} {base n c : Nat} {l : List Tok} (h : w.ownsRow base 34 3 (.slice A n c) n (l.flatMap tcells)) : Toks w A l := by
  rcases h with ⟨hl, ⟨h1, h2⟩ | ⟨g, cap, cur, h1, hb, hg, hn, hc, hsz, ht⟩⟩
  · subst h2; exact .inl (List.eq_nil_of_length_eq_zero (by simpa using hl))
  · injection h1 with hA
    subst hA
    refine .inr ⟨g, 0, rfl, fun j hj => ?_⟩
    have hcell := World.ownsRow.cellAt (j := j) (g := g) (cap := cap) ⟨hl, .inr ⟨g, cap, cur, rfl, hb, hg, hn, hc, hsz, ht⟩⟩ (by omega)
    rw [Nat.zero_add, hcell, List.getElem?_eq_getElem hj]
theorem places_pos (x : Bs) (l : List Tok) : ∀ at_, PlacesOK x at_ l → ∀ t ∈ l, t.pos ≤ x.length := by
  induction l with
  | nil => intro _ _ t ht; simp at ht
  | cons u l ih =>
    rintro at_ ⟨h1, h2, h3, h4, h5, h6⟩ t ht
    rcases List.mem_cons.1 ht with rfl | ht
    · omega
    · exact ih _ h6 t ht
theorem toks_pos (s : ByteArray) (l : List Tok) (h : scanA s.data.toList = .ok l) : ∀ t ∈ l, t.pos ≤ s.size := by
  have := places_pos _ l 0 (places_all _ l h)
  rw [size_list] at this
  exact this
def shiftT (d : Nat) (t : Tok) : Tok := { t with pos := t.pos + d }

theorem scan_is (s : ByteArray) (w : World) (hs : s.size ≤ 1000000000) (r : Except (Nat × Nat) (List Tok)) (h : scanA s.data.toList = r) : Calls Try.prog 13 #[.string s] w (ScanPost w r) := by
  subst h; exact scan_any s w hs

set_option maxHeartbeats 1600000 in
set_option maxRecDepth 100000 in
theorem joins_walk (a b : ByteArray) (w : World) (ha63 : a.size ≤ 9223372036854775807) (hb63 : b.size ≤ 9223372036854775807) :
    Calls Try.prog 6 #[.string a, .string b] w fun e w' => e = .returned (.bool true) ∧ Below w.heap.size w w' := by
  by_cases hba : 1000 < a.size
  · have hd : decide ((1000 : Int) < a.size) = true := by simp; omega
    go_enter Try.func6, Try.ntmps6
    go_wp2_with fail
    refine (awake_any _).mono ?_
    rintro e w1 ⟨rfl, hb⟩
    go_wp2
    go_ret
    exact ⟨rfl, hb⟩
  by_cases hbb : 1000 < b.size
  · have hd : decide ((1000 : Int) < b.size) = true := by simp; omega
    have hd2 : decide ((1000 : Int) < a.size) = false := by simp; omega
    go_enter Try.func6, Try.ntmps6
    go_wp2_with fail
    refine (awake_any _).mono ?_
    rintro e w1 ⟨rfl, hb⟩
    go_wp2
    go_ret
    exact ⟨rfl, hb⟩
  have hd : decide ((1000 : Int) < a.size) = false := by simp; omega
  have hd2 : decide ((1000 : Int) < b.size) = false := by simp; omega
  have hj := join_scan a b (by omega) (by omega)
  have hcs : ((a ++ ⟨#[10]⟩) ++ b).size ≤ 1000000000 := by
    rw [app_size, app_size]
    have : (⟨#[10]⟩ : ByteArray).size = 1 := rfl
    omega
  obtain ⟨Z, hZ⟩ : ∃ Z, (a ++ ⟨#[10]⟩) ++ b = Z := ⟨_, rfl⟩
  rw [hZ] at hj hcs
  have HCS := Lib.hid hcs
  clear hcs
  cases hra : scanA a.data.toList with
  | error x =>
    obtain ⟨ea, pa⟩ := x
    rw [hra] at hj
    have HJ : Hid (scanA Z.data.toList = .error (ea, pa)) := hj
    have hea := scanA_err hra
    have hne : ((ea : Int) != 0) = true := by rw [bne_iff_ne]; simp only at hea; omega
    have hself : ((ea : Int) == ea) = true := by simp
    have HRA := Lib.hid hra
    clear hra hj hea
    go_enter Try.func6, Try.ntmps6
    go_wp2_with fail
    refine (scan_is a _ (by omega) _ HRA.out).mono ?_
    rintro e w1 ⟨rfl, hb1⟩
    go_wp2_with fail
    refine (scan_any b _ (by omega)).mono ?_
    intro e w2 h2
    have h3 : ∃ A c n p er, e = .returned (.tuple #[.slice A n c, .int .i64 p, .int .i64 er]) ∧ Below w1.heap.size w1 w2 := by
      unfold ScanPost at h2
      split at h2
      · obtain ⟨A, c, he, _, hb⟩ := h2
        exact ⟨A, c, _, _, _, he, hb⟩
      · exact ⟨_, _, _, _, _, h2.1, h2.2⟩
    clear h2
    obtain ⟨A, c, n, p, er, rfl, hb2⟩ := h3
    go_wp2_with fail
    refine (scan_is Z _ HCS.out _ HJ.out).mono ?_
    rintro e w3 ⟨rfl, hb3⟩
    go_wp2_with fail
    refine (awake_any _).mono ?_
    rintro e w4 ⟨rfl, hb4⟩
    go_wp2
    go_ret
    exact ⟨rfl, below_next (below_next (below_next hb1 hb2) hb3) hb4⟩
  | ok la =>
    have HRA := Lib.hid hra
    rw [hra] at hj
    clear hra
    cases hrb : scanA b.data.toList with
    | error x =>
      obtain ⟨eb, pb⟩ := x
      rw [hrb] at hj
      have HJ : Hid (scanA Z.data.toList = .error (eb, pb + (a.size + 1))) := hj
      have heb := scanA_err hrb
      have hne : ((eb : Int) != 0) = true := by rw [bne_iff_ne]; simp only at heb; omega
      have hself : ((eb : Int) == eb) = true := by simp
      have hpos : decide ((a.size : Int) < (pb : Int) + ((a.size : Int) + 1)) = true := by simp; omega
      have HRB := Lib.hid hrb
      clear hrb hj heb
      go_enter Try.func6, Try.ntmps6
      go_wp2_with fail
      refine (scan_is a _ (by omega) _ HRA.out).mono ?_
      rintro e w1 ⟨A1, c1, rfl, own1, hb1⟩
      clear own1
      go_wp2_with fail
      refine (scan_is b _ (by omega) _ HRB.out).mono ?_
      rintro e w2 ⟨rfl, hb2⟩
      go_wp2_with fail
      refine (scan_is Z _ HCS.out _ HJ.out).mono ?_
      rintro e w3 ⟨rfl, hb3⟩
      go_wp2_with fail
      refine (awake_any _).mono ?_
      rintro e w4 ⟨rfl, hb4⟩
      go_wp2
      go_ret
      exact ⟨rfl, below_next (below_next (below_next hb1 hb2) hb3) hb4⟩
    | ok lb =>
      rw [hrb] at hj
      have HRB := Lib.hid hrb
      obtain ⟨lz, hlz⟩ : ∃ lz, lz = la ++ lb.map (shiftT (a.size + 1)) := ⟨_, rfl⟩
      have HJ : Hid (scanA Z.data.toList = .ok lz) := by rw [hlz]; exact hj
      have hlen : lz.length = la.length + lb.length := by rw [hlz]; simp
      have hla := toks_len a la HRA.out
      have hlb := toks_len b lb HRB.out
      have HLEN := Lib.hid hlen
      have HLZ := Lib.hid hlz
      clear hrb hj hlen hlz
      go_enter Try.func6, Try.ntmps6
      go_wp2_with fail
      refine (scan_is a _ (by omega) _ HRA.out).mono ?_
      rintro e w1 ⟨A1, c1, rfl, own1, hb1⟩
      go_wp2_with fail
      refine (scan_is b _ (by omega) _ HRB.out).mono ?_
      rintro e w2 ⟨A2, c2, rfl, own2, hb2⟩
      go_wp2_with fail
      refine (scan_is Z _ HCS.out _ HJ.out).mono ?_
      rintro e w3 ⟨A3, c3, rfl, own3, hb3⟩
      have tx : Toks w3 A1 la := ((toks_own own1).below hb2).below hb3
      have ty : Toks w3 A2 lb := (toks_own own2).below hb3
      have tz : Toks w3 A3 lz := toks_own own3
      have hm1 : lz.length ≤ la.length + lb.length := by rw [HLEN.out]; omega
      have hm2 : la.length + lb.length ≤ lz.length := by rw [HLEN.out]; omega
      have hmn : ((lz.length : Int) != (la.length : Int) + (lb.length : Int)) = false := by
        have : (lz.length : Int) = (la.length : Int) + (lb.length : Int) := by omega
        rw [this]; simp
      clear own3
      obtain ⟨m, hm⟩ : ∃ m, lz.length = m := ⟨_, rfl⟩
      rw [hm] at hm1 hm2 hmn
      rw [hm]
      have HM := Lib.hid hm
      clear hm
      have HB := Lib.hid (below_next (below_next hb1 hb2) hb3)
      clear own1 own2 hb1 hb2 hb3
      have hb0 := Below.refl w3.heap.size w3
      have HPB := Lib.hid (toks_pos b lb HRB.out)
      go_wp2_with fail
      go_loopw [14, 81] (fun _ v81 wr => ∃ i : Nat, i ≤ m ∧ v81 = .int .i64 i ∧ Below w3.heap.size w3 wr) (fun _ v81 _ => m - (intOf v81).toNat)
      case atStart => exact ⟨0, by omega, rfl, hb0⟩
      case round =>
        obtain ⟨i, hi, rfl, hb⟩ := hrel
        by_cases hlt : i < m
        · obtain ⟨zb, zo, rfl, z0, z1, z2⟩ := (tz.below hb).get (k := i) (by rw [HM.out]; exact hlt)
          have hi0 : (0 : Int) ≤ (i : Int) := by omega
          have him : (i : Int) < (m : Int) := by omega
          by_cases hia : i < la.length
          · have hiaI : (i : Int) < (la.length : Int) := by omega
            obtain ⟨xb, xo, rfl, x0, x1, x2⟩ := (tx.below hb).get (k := i) hia
            have he : lz[i]'(by rw [HM.out]; exact hlt) = la[i] := by
              have : lz[i]? = some la[i] := by rw [HLZ.out, List.getElem?_append_left hia, List.getElem?_eq_getElem hia]
              rw [List.getElem?_eq_getElem (by rw [HM.out]; exact hlt)] at this
              exact Option.some.inj this
            rw [he] at z0 z1 z2
            clear he
            generalize la[i].kind = kd at *
            generalize la[i].bytes = B at *
            generalize la[i].pos = ps at *
            have hd5 : decide ((i : Int) < la.length) = true := by simp; omega
            have hd6 : decide ((la.length : Int) ≤ (i : Int)) = false := by simp; omega
            have hd7 : decide (la.length ≤ i) = false := by simp; omega
            go_wp2_with fail
            go_quiet (fail)
            go_wp2
            go_roundw
            case rel => exact ⟨i + 1, by omega, by go_num, below_drewN' hb _⟩
            case measure => simp [intOf]; omega
          · obtain ⟨j, rfl⟩ : ∃ j, i = la.length + j := ⟨i - la.length, by omega⟩
            have hjb : j < lb.length := by omega
            obtain ⟨yb, yo, rfl, y0, y1, y2⟩ := (ty.below hb).get (k := j) hjb
            have he : lz[la.length + j]'(by rw [HM.out]; exact hlt) = shiftT (a.size + 1) lb[j] := by
              have : lz[la.length + j]? = some (shiftT (a.size + 1) lb[j]) := by
                rw [HLZ.out, List.getElem?_append_right (by omega), Nat.add_sub_cancel_left, List.getElem?_map, List.getElem?_eq_getElem hjb]; rfl
              rw [List.getElem?_eq_getElem (by rw [HM.out]; exact hlt)] at this
              exact Option.some.inj this
            have hps := HPB.out lb[j] (List.getElem_mem hjb)
            rw [he] at z0 z1 z2
            have e2 : (((shiftT (a.size + 1) lb[j]).pos : Nat) : Int) = (lb[j].pos : Int) + (a.size : Int) + 1 := by
              show ((lb[j].pos + (a.size + 1) : Nat) : Int) = _
              omega
            have e1 : (shiftT (a.size + 1) lb[j]).bytes = lb[j].bytes := rfl
            rw [e2] at z2
            rw [e1] at z1
            clear he e1 e2
            generalize lb[j].kind = kd at *
            generalize lb[j].bytes = B at *
            generalize lb[j].pos = ps at *
            have hd5 : decide ((la.length : Int) + (j : Int) < la.length) = false := by simp; omega
            have hd6 : decide ((la.length : Int) ≤ (la.length : Int) + (j : Int)) = true := by simp; omega
            have hd7 : decide (la.length ≤ la.length + j) = true := by simp
            have hd8 : decide (la.length + j < la.length) = false := by simp
            go_wp2_with fail
            have s1 : IntKind.i64.wrap ((la.length : Int) + (j : Int) - (la.length : Int)) = (j : Int) := by rw [IntWalk.i64_in _ (by omega)]; omega
            have s2 : IntKind.i64.wrap ((ps : Int) + (a.size : Int)) = (ps : Int) + (a.size : Int) := IntWalk.i64_in _ (by omega)
            have s3 : IntKind.i64.wrap ((ps : Int) + (a.size : Int) + 1) = (ps : Int) + (a.size : Int) + 1 := IntWalk.i64_in _ (by omega)
            go_quiet (fail)
            clear s1 s2 s3
            go_wp2
            go_roundw
            case rel => exact ⟨la.length + j + 1, by omega, by go_num, below_drewN' hb _⟩
            case measure => simp [intOf]; omega
        · obtain rfl : i = m := by omega
          go_wp2_with fail
          refine (awake_any _).mono ?_
          rintro e w4 ⟨rfl, hb4⟩
          go_wp2
          go_ret
          exact ⟨rfl, below_next (below_next HB.out hb) hb4⟩
end Go.Proofs.Ytmjnipklbmokjaa
