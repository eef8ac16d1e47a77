/- The walk of the law TokenReturns; no condition but that the text and the numbers are readable. -/
import Derived.Test.YtmjnipklbmokjaaTf
import Derived.Deep.DeepCutAuto
import Derived.Deep.CutBlock
namespace Go.Proofs.Ytmjnipklbmokjaa
open Go.RowKit
set_option linter.unusedVariables false

theorem some_ne {b g off : Nat} (h : g < b) : ∀ b' off', (some (⟨b, off, none⟩ : Addr)) = some ⟨b', off', none⟩ → some b' ≠ some g := by
  intro b' off' e e2
  injection e with e
  injection e with e1 e3
  injection e2 with e2
  omega
theorem toks_grown {w w' : World} {A : Option Addr} {l : List Tok} {g : Nat} (h : Toks w A l) (hg : w.grownBy w' (some g)) (hA : ∀ b off, A = some ⟨b, off, none⟩ → some b ≠ some g) : Toks w' A l := Sl.grown h hg hA
/-- Tokens of the call's own lie behind block g, or there are none. -/
theorem toks_far {w : World} {base g n c : Nat} {A : Option Addr} {l : List Tok} (h : w.ownsRow base 34 3 (.slice A n c) n (l.flatMap tcells)) (hg : g < base) : ∀ b off, A = some ⟨b, off, none⟩ → some b ≠ some g := by
  rcases h.2 with ⟨h1, _⟩ | ⟨g', cap, cur, h1, hb, _⟩
  · injection h1 with h1
    subst h1
    intro b off e; cases e
  · injection h1 with h1
    subst h1
    exact some_ne (by omega)
theorem grown_base {w0 w w' : World} {g : Nat} (h : Below w0.heap.size w0 w) (hg : w.grownBy w' (some g)) (hge : w0.heap.size ≤ g) : Below w0.heap.size w0 w' := h.grown hg h.size (fun q hq => by injection hq with hq; omega)
theorem toks_text (s : ByteArray) (l : List Tok) (h : scanA s.data.toList = .ok l) : ∀ t ∈ l, t.text.length ≤ s.size := by
  have key : ∀ (l : List Tok) (at_ : Nat), PlacesOK s.data.toList at_ l → ∀ t ∈ l, t.text.length ≤ s.data.toList.length := by
    intro l
    induction l with
    | nil => intro _ _ t ht; simp at ht
    | cons u l ih =>
      rintro at_ ⟨h1, h2, h3, h4, h5, h6⟩ t ht
      rcases List.mem_cons.1 ht with rfl | ht
      · omega
      · exact ih _ h6 t ht
  have := key l 0 (places_all _ l h)
  rw [size_list] at this
  exact this

set_option maxHeartbeats 3200000 in
set_option maxRecDepth 100000 in
theorem returns_walk (s : ByteArray) (A : Option Addr) (n c : Nat) (ls : List Int) (w : World) (hs63 : s.size ≤ 9223372036854775807) (hn : ls.length = n) (hs : Sl w A (ls.map iv)) (hn63 : n ≤ 9223372036854775807) (hib : IB ls) :
    Calls Try.prog 3 #[.string s, .slice A n c] w fun e w' => e = .returned (.bool true) ∧ Below w.heap.size w w' := by
  by_cases hbig : 2000 < s.size
  · have hd : decide ((2000 : Int) < s.size) = true := by simp; omega
    clear hib
    go_enter Try.func3, Try.ntmps3
    go_wp2_with fail
    refine (awake_any _).mono ?_
    rintro e w1 ⟨rfl, hb⟩
    go_wp2
    go_ret
    exact ⟨rfl, hb⟩
  have hd : decide ((2000 : Int) < s.size) = false := by simp; omega
  have HIB := Lib.hid hib
  have HN := Lib.hid hn
  clear hib hn
  by_cases hl : n ≤ 700
  · have hl' : decide (n ≤ 700) = true := by simpa using hl
    go_enter Try.func3, Try.ntmps3
    go_wp2_with fail
    refine (light_any _ _ _ _).mono ?_
    rw [hl']
    rintro e w1 ⟨rfl, rfl⟩
    go_wp2_with fail
    refine (roll_any _ _ _ ls _ HN.out hs hl HIB.out).mono ?_
    rintro e w1 ⟨rfl, hd1, hb1⟩
    go_wp2_with fail
    refine (text_any _ ls _ _ hd1).mono ?_
    rintro e w2 ⟨T, k2, rfl, hT, hd2, hg2⟩
    have hb2 : Below w.heap.size w w2 := hb1.grown hg2 hb1.size (fun q hq => by injection hq with hq; omega)
    have hb3 := hb2.alloc hb2.size (.cells #[.string s, .string T] 9)
    have hX0 := Sl.new w2 #[.string s, .string T] 9
    have hdW := hd2.alloc (.cells #[.string s, .string T] 9)
    have hgx : w.heap.size < w2.heap.size := hd2.lt
    clear hd1 hd2 hg2 hb1 hb2
    go_wp2_with fail
    have HB3 := Lib.hid hb3
    clear hb3
    generalize w2.alloc (.cells #[.string s, .string T] 9) = W at *
    generalize w2.heap.size = gx at *
    obtain ⟨gd, hgd⟩ : ∃ gd, gd = w.heap.size := ⟨_, rfl⟩
    rw [← hgd] at hgx hdW ⊢
    have HGD := Lib.hid hgd
    clear hgd
    have hg0 := World.grownBy.refl W (some gd)
    go_loopw [34] (fun v34 wr => ∃ i k : Nat, i ≤ 2 ∧ v34 = .int .i64 i ∧ Dice wr gd ls k ∧ W.grownBy wr (some gd)) (fun v34 _ => 2 - (intOf v34).toNat)
    case atStart => exact ⟨0, k2, by omega, rfl, hdW, hg0⟩
    case round =>
      obtain ⟨i, k, hi, rfl, hd1, hg1⟩ := hrel
      by_cases hlt : i < 2
      · obtain ⟨X, hcx, hX⟩ : ∃ X : ByteArray, wr.cell? ⟨gx, i, none⟩ = some (.string X) ∧ X.size ≤ 2000 := by
          obtain ⟨xb, xo, hxe, hcx⟩ := (hX0.grown hg1 (some_ne hgx)).at_ (k := i) (by simpa using hlt)
          injection hxe with hxe
          injection hxe with e1 e2
          subst e1 e2
          rw [Nat.zero_add] at hcx
          rcases (show i = 0 ∨ i = 1 by omega) with rfl | rfl
          · exact ⟨s, hcx, by omega⟩
          · exact ⟨T, hcx, hT⟩
        have hX0' := Lib.hid hX0
        have hlt1 := hd1.lt
        clear hX0
        cases hr : scanA X.data.toList with
        | error x =>
          obtain ⟨er, pe⟩ := x
          have her := scanA_err hr
          have hne : ((er : Int) != 0) = true := by rw [bne_iff_ne]; simp only at her; omega
          have HR := Lib.hid hr
          clear hr her
          go_wp2_with fail
          refine (scan_is X _ (by omega) _ HR.out).mono ?_
          rintro e w3 ⟨rfl, hb3⟩
          go_wp2
          go_roundw
          case rel => exact ⟨i + 1, k, by omega, by go_num, hd1.below hb3, grown_trans hg1 (only_of_below hb3 _)⟩
          case measure => simp [intOf]; omega
        | ok l =>
          have HR := Lib.hid hr
          have hlX := toks_len X l hr
          have HTX := Lib.hid (toks_text X l hr)
          clear hr
          go_wp2_with fail
          refine (scan_is X _ (by omega) _ HR.out).mono ?_
          rintro e w3 ⟨A3, c3, rfl, own3, hb3⟩
          have tz := toks_own own3
          have hfar := toks_far own3 hlt1
          have hd3 := hd1.below hb3
          have hg3 := grown_trans hg1 (only_of_below hb3 (some gd))
          clear own3 hd1 hg1
          go_wp2_with fail
          have hg4 := World.grownBy.refl w3 (some gd)
          obtain ⟨wo, rfl⟩ : ∃ wo : World, wo = wr := ⟨_, rfl⟩
          go_loopw [11, 48] (fun v11 v48 wq => ∃ (j k' : Nat) (S : ByteArray) (gs : List Bs), j ≤ l.length ∧ v48 = .int .i64 j ∧ v11 = .string S ∧ Hid (gs.length = j) ∧ Hid (∀ x ∈ gs, x ∈ sepsL) ∧ Hid (S.data.toList = glue (ysOf (l.take j) gs)) ∧ S.size ≤ 2007 * j ∧ Dice wq gd ls k' ∧ w3.grownBy wq (some gd)) (fun _ v48 _ => l.length - (intOf v48).toNat)
          case atStart => exact ⟨0, k, ⟨#[]⟩, [], by omega, rfl, rfl, (rfl : _ = _), (by intro x hx; simp at hx : Hid _), (by show _ = _; simp [ysOf, glue]), by decide, hd3, hg4⟩
          case round =>
            obtain ⟨j, k', S, gs, hj, rfl, rfl, hgl, hgm, hS, hSs, hd5, hg5⟩ := hrel
            by_cases hjl : j < l.length
            · obtain ⟨zb, zo, rfl, z0, z1, z2⟩ := (toks_grown tz hg5 hfar).get hjl
              have hgq := hd5.lt
              have htl := HTX.out l[j] (List.getElem_mem hjl)
              rw [← Tok.bytes_size] at htl
              obtain ⟨r, hr, hr4⟩ := nR_nat ls k' 4 (by omega)
              have HRI := Lib.hid hr
              clear hr
              obtain ⟨g, hgm1, hgidx⟩ : ∃ g, g ∈ sepsL ∧ (#[.string ⟨#[32]⟩, .string ⟨#[10]⟩, .string ⟨#[32, 35, 32, 108, 101, 116, 10]⟩, .string ⟨#[9, 13]⟩] : Array Value)[r]? = some (.string (bsB g)) := by
                rcases (show r = 0 ∨ r = 1 ∨ r = 2 ∨ r = 3 by omega) with rfl | rfl | rfl | rfl
                · exact ⟨_, List.mem_cons_self, rfl⟩
                · exact ⟨[10], by decide, rfl⟩
                · exact ⟨[32, 35, 32, 108, 101, 116, 10], by decide, rfl⟩
                · exact ⟨[9, 13], by decide, rfl⟩
              obtain ⟨G, hGe⟩ : ∃ G, G = bsB g := ⟨_, rfl⟩
              rw [← hGe] at hgidx
              have hnew : ∀ W : World, (W.alloc (.cells #[.string ⟨#[32]⟩, .string ⟨#[10]⟩, .string ⟨#[32, 35, 32, 108, 101, 116, 10]⟩, .string ⟨#[9, 13]⟩] 9)).cell? ⟨W.heap.size, r, none⟩ = some (.string G) := fun W => by
                rw [cell_of_row _ _ _ _ _ _ (heap_alloc_new W _)]; exact hgidx
              have hr0 : (0 : Int) ≤ (r : Int) := by omega
              have hr4I : (r : Int) < 4 := by omega
              have HT1 := Lib.hid (ys_snoc (l.take j) l[j])
              have HTK := Lib.hid (List.take_succ_eq_append_getElem hjl)
              have HBD := Lib.hid (Tok.bytes_data l[j])
              have hG7 : G.size ≤ 7 := by rw [hGe, bsB_size]; exact sep_len g hgm1
              generalize l[j].kind = kd at *
              generalize l[j].pos = ps at *
              obtain ⟨B, hB⟩ : ∃ B, l[j].bytes = B := ⟨_, rfl⟩
              rw [hB] at z1 htl HBD
              clear hB
              have GLN : Hid ((gs ++ [g]).length = j + 1) := by
                show _ = _
                rw [List.length_append, hgl.out]; rfl
              have GMM : Hid (∀ x ∈ gs ++ [g], x ∈ sepsL) := by
                intro x hx
                rcases List.mem_append.1 hx with h | h
                · exact hgm.out x h
                · rw [List.mem_singleton.1 h]; exact hgm1
              have GLU : Hid ((S ++ (B ++ G)).data.toList = glue (ysOf (l.take (j + 1)) (gs ++ [g]))) := by
                show _ = _
                rw [app_data, app_data, hS.out, HBD.out, HTK.out, HT1.out _ _ (by rw [hgl.out, List.length_take]; omega), hGe, bsB_data]
              have GSZ : Hid ((S ++ (B ++ G)).size ≤ 2007 * (j + 1)) := by
                show _ ≤ _
                rw [app_size, app_size]
                omega
              have hgne : some wr.heap.size ≠ some gd := by intro e; injection e with e; omega
              have hgne2 : some (wr.heap.size + 1) ≠ some gd := by intro e; injection e with e; omega
              have hnA := hnew (wr.alloc (.cells #[.int .i64 (kd : Int), .string B, .int .i64 (ps : Int)] 34))
              rw [World.size_alloc] at hnA
              have HNEW := Lib.hid hnew
              have HNA := Lib.hid hnA
              clear hGe hgm1 hnew HTK HT1 HBD hnA
              go_upto_block 3 with fail
              go_cut [11] (fun v11 wx => v11 = .string (S ++ (B ++ G)) ∧ Dice wx gd ls (nK ls k') ∧ w3.grownBy wx (some gd))
              case first =>
                go_wp2_with fail
                go_region_with
                  (first | (go_at_call 14; (refine (next_is gd ls k' 4 r 4 _ (by repeat (first | exact hd5 | refine Dice.drew ?_ | refine Dice.alloc ?_ _)) (by omega) (by omega) rfl HRI.out).mono ?_; rintro e w5 ⟨rfl, hd6, hg6⟩; have hz : wr.heap.size < w5.heap.size := (by have hz0 := hg6.size; simp at hz0; omega); have hS1 := hg6.cell (a := ⟨wr.heap.size, 1, none⟩) (v := .string B) (by go_simp) hgne; (try have hS2 := hg6.cell (a := ⟨wr.heap.size + 1, r, none⟩) (v := .string G) HNA.out hgne2); have hS3 := HNEW.out w5)))
                all_goals
                  have hg7 : w3.grownBy w5 (some gd) := grown_trans (by repeat (first | exact hg5 | refine grown_drew ?_ | refine grown_alloc ?_ _)) hg6
                  go_wp2_with fail
                  go_meet
                  exact ⟨rfl, by first | exact hd6 | exact hd6.alloc _, by first | exact hg7 | exact grown_alloc hg7 _⟩
              case rest =>
                obtain ⟨rfl, hd7, hg7⟩ := hcut
                go_wp2
                go_roundw
                case rel => exact ⟨j + 1, nK ls k', _, gs ++ [g], by omega, by go_num, rfl, GLN, GMM, GLU, GSZ.out, hd7, hg7⟩
                case measure => simp [intOf]; omega
            · -- THE END OF THE TOKENS
              obtain rfl : j = l.length := by omega
              have hS' : S.data.toList = glue (ysOf l gs) := by have := hS.out; rw [List.take_length] at this; exact this
              obtain ⟨m, hm1, hm2⟩ := returns_all X.data.toList l gs (by rw [size_list]; exact hX) HR.out hgm.out hgl.out
              have HM1 : Hid (scanA S.data.toList = .ok m) := by show _ = _; rw [hS']; exact hm1
              have hml : m.length = l.length := by have := congrArg List.length hm2; simpa using this
              have HML := Lib.hid hml
              have HM2 := Lib.hid hm2
              have HTZ := Lib.hid (toks_grown tz hg5 hfar)
              clear hS' hm1 hm2
              go_wp2_with fail
              refine (scan_is S _ (by omega) _ HM1.out).mono ?_
              rintro e w6 ⟨A6, c6, rfl, own6, hb6⟩
              have ty := toks_own own6
              have tx := HTZ.out.below hb6
              rw [hml]
              clear hml own6
              have HD8 := Lib.hid (hd5.below hb6)
              have HG8 := Lib.hid (grown_trans hg3 (grown_trans hg5 (only_of_below hb6 (some gd))))
              clear hd5 hg5 hb6 hg4
              have hb7 := Below.refl w6.heap.size w6
              obtain ⟨wp, rfl⟩ : ∃ wp : World, wp = wr := ⟨_, rfl⟩
              go_wp2_with fail
              go_loopw [17, 80] (fun _ v80 wq => ∃ q : Nat, q ≤ l.length ∧ v80 = .int .i64 q ∧ Below w6.heap.size w6 wq) (fun _ v80 _ => l.length - (intOf v80).toNat)
              case atStart => exact ⟨0, by omega, rfl, hb7⟩
              case round =>
                obtain ⟨q, hq, rfl, hb8⟩ := hrel
                by_cases hql : q < l.length
                · obtain ⟨xb, xo, rfl, x0, x1, x2⟩ := (tx.below hb8).get (k := q) hql
                  obtain ⟨yb, yo, rfl, y0, y1, y2⟩ := (ty.below hb8).get (k := q) (by rw [HML.out]; exact hql)
                  have he : (m[q]'(by rw [HML.out]; exact hql)).kind = l[q].kind ∧ (m[q]'(by rw [HML.out]; exact hql)).bytes = l[q].bytes := by
                    have : (m.map (fun t => (t.kind, t.text)))[q]? = (l.map (fun t => (t.kind, t.text)))[q]? := by rw [HM2.out]
                    rw [List.getElem?_map, List.getElem?_map, List.getElem?_eq_getElem (by rw [HML.out]; exact hql), List.getElem?_eq_getElem hql] at this
                    have h2 := Option.some.inj this
                    injection h2 with h3 h4
                    refine ⟨h3, ?_⟩
                    unfold Tok.bytes
                    rw [h4]
                  rw [he.1] at y0
                  rw [he.2] at y1
                  clear he y2 x2
                  generalize l[q].kind = kd at *
                  generalize l[q].bytes = B at *
                  have hq0 : (0 : Int) ≤ (q : Int) := by omega
                  have hqm : (q : Int) < (l.length : Int) := by omega
                  go_wp2_with fail
                  go_quiet (fail)
                  go_wp2
                  go_roundw
                  case rel => exact ⟨q + 1, by omega, by go_num, below_drewN' hb8 _⟩
                  case measure => simp [intOf]; omega
                · obtain rfl : q = l.length := by omega
                  go_wp2
                  go_roundw
                  case rel => exact ⟨i + 1, k', by omega, by go_num, HD8.out.below hb8, grown_trans HG8.out (only_of_below hb8 _)⟩
                  case measure => simp [intOf]; omega
      · obtain rfl : i = 2 := by omega
        go_wp2_with fail
        refine (awake_any _).mono ?_
        rintro e w4 ⟨rfl, hb4⟩
        go_wp2
        go_ret
        exact ⟨rfl, below_next (grown_base HB3.out hg1 (by rw [HGD.out]; exact Nat.le_refl _)) hb4⟩
  · have hl' : decide (n ≤ 700) = false := by simpa using hl
    go_enter Try.func3, Try.ntmps3
    go_wp2_with fail
    refine (light_any _ _ _ _).mono ?_
    rw [hl']
    rintro e w1 ⟨rfl, rfl⟩
    go_wp2_with fail
    refine (awake_any _).mono ?_
    rintro e w1 ⟨rfl, hb⟩
    go_wp2
    go_ret
    exact ⟨rfl, hb⟩
end Go.Proofs.Ytmjnipklbmokjaa
