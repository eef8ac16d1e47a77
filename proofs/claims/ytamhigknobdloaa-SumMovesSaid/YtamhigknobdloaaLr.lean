/- The walk of the Lay of the reference of layer 16: it leaves what product.Lay leaves; conditions: the parts are few and readable. -/
import Derived.Test.YtamhigknobdloaaLy
namespace Go.Proofs.Ytamhigknobdloaa
open Go.RowKit
set_option linter.unusedVariables false

set_option maxHeartbeats 6400000 in
set_option maxRecDepth 100000 in
theorem rlay_any (A : Option Addr) (n c : Nat) (ps : List Part) (w : World) (hn : ps.length = n) (hs : Parts w A ps) (hlen : n ≤ 1000) (hsp : ∀ p ∈ ps, Sl w p.A (p.sp.map bv)) (hone : ∀ p ∈ ps, p.one) :
    Calls Try.prog 25 #[.slice A n c] w (LayPost ps w) := by
  subst hn
  have hb0 := ((Below.refl w.heap.size w).alloc (Nat.le_refl _) (.cells #[.int .i64 0, .int .i64 0, .slice none 0 0, .slice none 0 0, .slice none 0 0, .slice none 0 0, .slice none 0 0, .bool false] 31)).alloc (by simp) (.cells #[.int .i64 0, .int .i64 1, .slice none 0 0, .slice none 0 0, .slice none 0 0, .slice none 0 0, .slice none 0 0, .bool false] 31)
  have hres := (Blk.new w 31 #[.int .i64 0, .int .i64 0, .slice none 0 0, .slice none 0 0, .slice none 0 0, .slice none 0 0, .slice none 0 0, .bool false]).alloc (.cells #[.int .i64 0, .int .i64 1, .slice none 0 0, .slice none 0 0, .slice none 0 0, .slice none 0 0, .slice none 0 0, .bool false] 31)
  have hout : Blk ((w.alloc (.cells #[.int .i64 0, .int .i64 0, .slice none 0 0, .slice none 0 0, .slice none 0 0, .slice none 0 0, .slice none 0 0, .bool false] 31)).alloc (.cells #[.int .i64 0, .int .i64 1, .slice none 0 0, .slice none 0 0, .slice none 0 0, .slice none 0 0, .slice none 0 0, .bool false] 31)) (w.heap.size + 1) 31 #[.int .i64 0, .int .i64 1, .slice none 0 0, .slice none 0 0, .slice none 0 0, .slice none 0 0, .slice none 0 0, .bool false] := by
    have := Blk.new (w.alloc (.cells #[.int .i64 0, .int .i64 0, .slice none 0 0, .slice none 0 0, .slice none 0 0, .slice none 0 0, .slice none 0 0, .bool false] 31)) 31 #[.int .i64 0, .int .i64 1, .slice none 0 0, .slice none 0 0, .slice none 0 0, .slice none 0 0, .slice none 0 0, .bool false]
    rwa [World.size_alloc] at this
  have HSP := Lib.hid hsp
  have HONE := Lib.hid hone
  clear hsp hone
  obtain ⟨W0, hW0⟩ : ∃ W0, W0 = (w.alloc (.cells #[.int .i64 0, .int .i64 0, .slice none 0 0, .slice none 0 0, .slice none 0 0, .slice none 0 0, .slice none 0 0, .bool false] 31)).alloc (.cells #[.int .i64 0, .int .i64 1, .slice none 0 0, .slice none 0 0, .slice none 0 0, .slice none 0 0, .slice none 0 0, .bool false] 31) := ⟨_, rfl⟩
  have hsz0 : W0.heap.size = w.heap.size + 2 := by rw [hW0]; simp
  rw [← hW0] at hb0 hres hout
  have hbW := Below.refl W0.heap.size W0
  have HW0 := Lib.hid hW0
  clear hW0
  go_enter Try.func25, Try.ntmps25
  go_wp2_with fail
  rw [← HW0.out]
  go_loopw [13] (fun v13 wr => ∃ k : Nat, k ≤ ps.length ∧ v13 = .int .i64 k ∧ Hid (∀ j (h : j < ps.length), j < k → ps[j].valid = true) ∧ Below W0.heap.size W0 wr) (fun v13 _ => ps.length - (intOf v13).toNat)
  case atStart => exact ⟨0, by omega, rfl, (fun j h hj => absurd hj (by omega) : Hid _), hbW⟩
  case round =>
    obtain ⟨k, hk, rfl, hval, hb⟩ := hrel
    have hszr := hb.size
    have resr := hres.below hb
    have outr := hout.below hb
    have hbr := below_next hb0 hb
    by_cases hlt : k < ps.length
    · obtain ⟨pa, po, rfl, q0, q1, q2, q3, q4, q5, q6, q7⟩ := ((hs.below hb0).below hb).get hlt
      obtain ⟨p, hpe⟩ : ∃ p, p = ps[k] := ⟨_, rfl⟩
      have hpo := HONE.out ps[k] (List.getElem_mem hlt)
      rw [← hpe] at hpo
      have sx3 := store_var (P := Try.prog) hpo.h3
      have sx4 := store_var (P := Try.prog) hpo.h4
      have sx5 := store_var (P := Try.prog) hpo.h5
      have sx6 := store_var (P := Try.prog) hpo.h6
      have sx7 := store_var (P := Try.prog) hpo.h7
      have HPO := Lib.hid hpo
      clear hpo
      rw [← hpe] at q0 q1 q2 q3 q4 q5 q6 q7
      have hpb := Blk.new wr 31 #[.int .i64 p.s, .int .i64 p.al, .slice p.A p.sp.length p.c, p.x3, p.x4, p.x5, p.x6, p.x7]
      have hbp := hb.alloc hszr (.cells #[.int .i64 p.s, .int .i64 p.al, .slice p.A p.sp.length p.c, p.x3, p.x4, p.x5, p.x6, p.x7] 31)
      have HPE := Lib.hid hpe
      clear hpe
      cases hv : p.valid with
      | true =>
        have HVAL2 : Hid (∀ j (h : j < ps.length), j < k + 1 → ps[j].valid = true) := by
          intro j h hj
          rcases Nat.lt_or_ge j k with h1 | h1
          · exact hval.out j h h1
          · obtain rfl : j = k := by omega
            rw [← HPE.out]; exact hv
        have HV : Hid (validB p.s p.al p.sp.length = true) := hv
        clear hv resr outr hpb hbr
        go_wp2_with fail
        refine (rvalid_any _ _ _ _ _ _ _ _ _ _ _).mono ?_
        rw [HV.out]
        rintro e w2 ⟨rfl, hb2⟩
        have HB := Lib.hid (below_next hbp hb2)
        clear hb hbp hb2 sx3 sx4 sx5 sx6 sx7 q0 q1 q2 q3 q4 q5 q6 q7
        go_wp2
        go_roundw
        case rel => exact ⟨k + 1, by omega, by go_num, HVAL2, HB.out⟩
        case measure => simp [intOf]; omega
      | false =>
        have HV : Hid (validB p.s p.al p.sp.length = false) := hv
        have hbad : ps.any (fun p => !p.valid) = true := List.any_eq_true.2 ⟨ps[k], List.getElem_mem hlt, by rw [← HPE.out, hv]; rfl⟩
        have hE : layE ps = 19 := by unfold layE; rw [if_pos hbad]
        have hR : layR ps = ⟨0, 0, [], []⟩ := by unfold layR; rw [if_pos hbad]
        have HE := Lib.hid hE
        have HR := Lib.hid hR
        have resp := resr.alloc (.cells #[.int .i64 p.s, .int .i64 p.al, .slice p.A p.sp.length p.c, p.x3, p.x4, p.x5, p.x6, p.x7] 31)
        have hbrp := hbr.alloc (by omega) (.cells #[.int .i64 p.s, .int .i64 p.al, .slice p.A p.sp.length p.c, p.x3, p.x4, p.x5, p.x6, p.x7] 31)
        clear hE hR hbad hv hpb outr resr hbp hb hbr
        go_wp2_with fail
        refine (rvalid_any _ _ _ _ _ _ _ _ _ _ _).mono ?_
        rw [HV.out]
        rintro e w2 ⟨rfl, hb2⟩
        have res2 := resp.below hb2
        have hbb := below_next hbrp hb2
        obtain ⟨⟨c0, c1, c2, c3, c4, c5, c6, c7⟩, hf⟩ := res2.eight
        have HB8 := Lib.hid (res2.set8 (.int .i64 0) (.int .i64 0) (.slice none 0 0) (.slice none 0 0) (.slice none 0 0) (.slice none 0 0) (.slice none 0 0) (.bool false))
        have HL8 := Lib.hid (below8 hbb (Nat.le_refl _) (.int .i64 0) (.int .i64 0) (.slice none 0 0) (.slice none 0 0) (.slice none 0 0) (.slice none 0 0) (.slice none 0 0) (.bool false))
        clear res2 hbb resp hbrp hb2 sx3 sx4 sx5 sx6 sx7 q0 q1 q2 q3 q4 q5 q6 q7
        go_wp2
        refine bodyPost_gen HB8.out HL8.out ?_
        clear HB8 HL8 c0 c1 c2 c3 c4 c5 c6 c7 hf
        intro W hblk hbel
        obtain ⟨⟨c0, c1, c2, c3, c4, c5, c6, c7⟩, _⟩ := hblk.eight
        clear hblk
        refine bodyPost_ret (v := .tuple #[.agg #[.int .i64 0, .int .i64 0, .slice none 0 0, .slice none 0 0, .slice none 0 0, .slice none 0 0, .slice none 0 0, .bool false], .int .i64 19]) (by simp [results, Try.results25, go_sem, c0, c1, c2, c3, c4, c5, c6, c7]) rfl ?_
        unfold LayPost
        rw [HE.out, HR.out]
        exact ⟨none, 0, none, 0, rfl, .inl rfl, .inl rfl, Nat.le_refl _, Nat.le_refl _, hbel⟩
    · obtain rfl : k = ps.length := by omega
      have hvall : ∀ p ∈ ps, p.valid = true := by
        intro p hp
        obtain ⟨j, hj, rfl⟩ := List.getElem_of_mem hp
        exact hval.out j hj hj
      have hbf : ps.any (fun p => !p.valid) = false := by
        rw [Bool.eq_false_iff]
        intro h
        obtain ⟨p, hp, h2⟩ := List.any_eq_true.1 h
        rw [hvall p hp] at h2
        exact absurd h2 (by decide)
      have hE : layE ps = match layGo Laid.start ps with | none => 4 | some _ => 0 := by unfold layE; rw [if_neg (by rw [hbf]; decide)]; rfl
      have hR : layR ps = match layGo Laid.start ps with | none => ⟨0, 0, [], []⟩ | some L => L := by unfold layR; rw [if_neg (by rw [hbf]; decide)]; rfl
      have HE := Lib.hid hE
      have HR := Lib.hid hR
      have HVAL := Lib.hid hvall
      have hn1 : wr.ownsRow (w.heap.size + 1 + 1) 5 1 (.slice none 0 0) 0 [] := World.ownsRow_nil _ _ _ _
      have hn2 : wr.ownsRow (w.heap.size + 1 + 1) 3 1 (.slice none 0 0) 0 [] := World.ownsRow_nil _ _ _ _
      clear hE hR hbf hvall hval hb0 hres hout hb hbW
      obtain ⟨wA, rfl⟩ : ∃ wA : World, wA = wr := ⟨_, rfl⟩
      go_wp2_with fail
      go_loopw [24] (fun v24 wr => ∃ (k : Nat) (L : Laid) (As : Option Addr) (cs : Nat) (Ao : Option Addr) (co : Nat), k ≤ ps.length ∧ v24 = .int .i64 k ∧ Hid (layGo Laid.start (ps.take k) = some L) ∧ Hid (L.good k) ∧ Blk wr (w.heap.size + 1) 31 #[.int .i64 L.s, .int .i64 L.al, .slice As L.sp.length cs, .slice Ao L.of.length co, .slice none 0 0, .slice none 0 0, .slice none 0 0, .bool false] ∧ wr.ownsRow (w.heap.size + 1 + 1) 5 1 (.slice As L.sp.length cs) L.sp.length (L.sp.map bv) ∧ wr.ownsRow (w.heap.size + 1 + 1) 3 1 (.slice Ao L.of.length co) L.of.length (L.of.map iv) ∧ Blk wr w.heap.size 31 #[.int .i64 0, .int .i64 0, .slice none 0 0, .slice none 0 0, .slice none 0 0, .slice none 0 0, .slice none 0 0, .bool false] ∧ Below w.heap.size w wr) (fun v24 _ => ps.length - (intOf v24).toNat)
      case atStart => exact ⟨0, Laid.start, none, 0, none, 0, by omega, rfl, rfl, Laid.good_start, outr, hn1, hn2, resr, hbr⟩
      case round =>
        obtain ⟨k, L, As, cs, Ao, co, hk, rfl, hgo, hgood, hblk, ownS, ownO, hres, hb⟩ := hrel
        clear outr hn1 hn2 resr hbr
        have hwr := hb.size
        by_cases hlt : k < ps.length
        · obtain ⟨p, hpe⟩ : ∃ p, p = ps[k] := ⟨_, rfl⟩
          obtain ⟨pa, po, rfl, q0, q1, q2, q3, q4, q5, q6, q7⟩ := (hs.below hb).get hlt
          have hpv := HVAL.out ps[k] (List.getElem_mem hlt)
          have hps := HSP.out ps[k] (List.getElem_mem hlt)
          have hgt := layGo_take ps k hlt
          rw [hgo.out, Option.bind_some] at hgt
          have hpo := HONE.out ps[k] (List.getElem_mem hlt)
          rw [← hpe] at hpo
          have sx3 := store_var (P := Try.prog) hpo.h3
          have sx4 := store_var (P := Try.prog) hpo.h4
          have sx5 := store_var (P := Try.prog) hpo.h5
          have sx6 := store_var (P := Try.prog) hpo.h6
          have sx7 := store_var (P := Try.prog) hpo.h7
          have HPO := Lib.hid hpo
          clear hpo
          rw [← hpe] at q0 q1 q2 q3 q4 q5 q6 q7 hpv hps hgt
          obtain ⟨v1, v2, v3, v4⟩ := (valid_iff p).1 hpv
          have g1 := hgood.out.s0
          have g2 := hgood.out.s1
          have g3 := hgood.out.al
          have g4 := hgood.out.sp
          have g5 := hgood.out.of
          have hab := alignI_bounds L.s p.al g1 v3
          obtain ⟨at_, hat⟩ : ∃ a, a = alignI L.s p.al := ⟨_, rfl⟩
          rw [← hat] at hab
          have HAT := Lib.hid hat
          have HPE := Lib.hid hpe
          have HGT := Lib.hid hgt
          have HPV := Lib.hid hpv
          have HS0 := Lib.hid hs
          have HG4 := Lib.hid g4
          have HG5 := Lib.hid g5
          have HG3 := Lib.hid g3
          have HV3 := Lib.hid v3
          have hspl : L.sp.length ≤ 1024 := by omega
          have hofl : L.of.length ≤ 1000 := by omega
          have hpsl : p.sp.length ≤ 1024 := by omega
          have HV4 := Lib.hid v4
          have hal0 : 1 ≤ L.al ∧ L.al ≤ 8 := by omega
          have hpal : 1 ≤ p.al ∧ p.al ≤ 8 := by omega
          have hal1 := hal0.1
          have hal2 := hal0.2
          have hpal1 := hpal.1
          have hpal2 := hpal.2
          have ha1 := hab.1
          have ha2 := hab.2.1
          have ha3 := hab.2.2
          have hpb := (Blk.new wr 31 #[.int .i64 p.s, .int .i64 p.al, .slice p.A p.sp.length p.c, p.x3, p.x4, p.x5, p.x6, p.x7])
          have hw1r : (w.heap.size + 1) < wr.heap.size := hblk.lt
          clear hat hpe hgt hpv hs g4 g5 g3 v3 v4 hal0 hpal hab hgood
          by_cases hfit : at_ + p.s ≤ 1024
          · have hfd : ¬ 1024 < at_ + p.s := by omega
            have hone1 : wr.heap.size + 1 = (wr.alloc (.cells #[.int .i64 p.s, .int .i64 p.al, .slice p.A p.sp.length p.c, p.x3, p.x4, p.x5, p.x6, p.x7] 31)).heap.size := by simp
            -- the world behind the append of the place
            obtain ⟨A2, c2, w2, hr1, own2, hg2⟩ := run_append1 (P := Try.prog) (w.heap.size + 1 + 1) 23 23 3 _ 8 Try.underlying23 el3 (by omega) Ao L.of.length co _ (ownO.alloc (.cells #[.int .i64 p.s, .int .i64 p.al, .slice p.A p.sp.length p.c, p.x3, p.x4, p.x5, p.x6, p.x7] 31)) (.int .i64 at_) rfl (by omega) (by rw [← hone1]; omega)
            rw [← hone1] at hr1
            have hrow : ∀ q, (Value.slice Ao L.of.length co).ownBlock = some q → (w.heap.size + 1) < q ∧ q < wr.heap.size := fun q hq => by have := ownO.lt q hq; omega
            have blk2 := (hblk.alloc (.cells #[.int .i64 p.s, .int .i64 p.al, .slice p.A p.sp.length p.c, p.x3, p.x4, p.x5, p.x6, p.x7] 31)).grown hg2 (fun e => by have := hrow _ e; omega)
            have pb2 := hpb.grown hg2 (fun e => by have := hrow _ e; omega)
            have res2 := (hres.alloc (.cells #[.int .i64 p.s, .int .i64 p.al, .slice p.A p.sp.length p.c, p.x3, p.x4, p.x5, p.x6, p.x7] 31)).grown hg2 (fun e => by have := hrow _ e; omega)
            have ownS2 := (ownS.alloc (.cells #[.int .i64 p.s, .int .i64 p.al, .slice p.A p.sp.length p.c, p.x3, p.x4, p.x5, p.x6, p.x7] 31)).kept hg2 (own_own_ne ownS ownO (by decide))
            have bel2 := (hb.alloc (by omega) (.cells #[.int .i64 p.s, .int .i64 p.al, .slice p.A p.sp.length p.c, p.x3, p.x4, p.x5, p.x6, p.x7] 31)).grown hg2 (by rw [← hone1]; omega) (fun q hq => by have := hrow q hq; omega)
            obtain ⟨W3, hW3⟩ : ∃ W3, W3 = w2.setCell ⟨w.heap.size + 1, 3, none⟩ (.slice A2 (L.of.length + 1) c2) := ⟨_, rfl⟩
            have blk3 : Blk W3 (w.heap.size + 1) 31 #[.int .i64 L.s, .int .i64 L.al, .slice As L.sp.length cs, .slice A2 (L.of.length + 1) c2, .slice none 0 0, .slice none 0 0, .slice none 0 0, .bool false] := by rw [hW3]; simpa using blk2.set_ 3 (.slice A2 (L.of.length + 1) c2)
            have pb3 := pb2.far (p := ⟨w.heap.size + 1, 3, none⟩) (by show wr.heap.size ≠ (w.heap.size + 1); omega) (.slice A2 (L.of.length + 1) c2)
            have res3 := res2.far (p := ⟨w.heap.size + 1, 3, none⟩) (by show w.heap.size ≠ (w.heap.size + 1); omega) (.slice A2 (L.of.length + 1) c2)
            have ownS3 := ownsRow_setCell_below ownS2 (a := ⟨w.heap.size + 1, 3, none⟩) (by show (w.heap.size + 1) < w.heap.size + 1 + 1; omega) (.slice A2 (L.of.length + 1) c2)
            have ownO3 := ownsRow_setCell_below own2 (a := ⟨w.heap.size + 1, 3, none⟩) (by show (w.heap.size + 1) < w.heap.size + 1 + 1; omega) (.slice A2 (L.of.length + 1) c2)
            have bel3 := bel2.setCell (p := ⟨w.heap.size + 1, 3, none⟩) (by show w.heap.size ≤ (w.heap.size + 1); omega) (.slice A2 (L.of.length + 1) c2)
            rw [← hW3] at pb3 res3 ownS3 ownO3 bel3
            have hsz3 : (w.heap.size + 1) < W3.heap.size := blk3.lt
            obtain ⟨N, hN⟩ : ∃ N : Nat, (N : Int) = at_ := ⟨at_.toNat, by omega⟩
            have hLs := HG4.out
            have hLN : L.sp.length ≤ N := by omega
            have hN24 : N ≤ 1024 := by omega
            have HLS := Lib.hid hLs
            have HN := Lib.hid hN
            have hNle : (N : Int) ≤ at_ := by omega
            have hNge : at_ ≤ (N : Int) := by omega
            clear hLs hN
            obtain ⟨⟨r0, r1, r2, r3, r4, r5, r6, r7⟩, rf⟩ := blk2.eight
            obtain ⟨⟨d0, d1, d2, d3, d4, d5, d6, d7⟩, df⟩ := hblk.eight
            have HW3 := Lib.hid hW3
            have HONE1 := Lib.hid hone1
            clear r0 r1 r2 r4 r5 r6 r7 d1 d2 d4 d5 d6 d7 df blk2 pb2 res2 ownS2 bel2 own2 hg2 hrow hW3 hone1 hres hblk hpb hb ownS ownO
            have BLK3 := Lib.hid blk3
            have PB3 := Lib.hid pb3
            have RES3 := Lib.hid res3
            have OWNS3 := Lib.hid ownS3
            have OWNO3 := Lib.hid ownO3
            have BEL3 := Lib.hid bel3
            have HPS := Lib.hid hps
            clear blk3 pb3 res3 ownS3 ownO3 bel3 hps
            go_wp2_with fail
            refine (ralign_any _ _ _ g1 (by omega) (by omega) (by omega)).mono ?_
            rw [← HAT.out]
            rintro e w2' ⟨rfl, rfl⟩
            clear sx3 sx4 sx5 sx6 sx7 q0 q1 q2 q3 q4 q5 q6 q7
            go_wp2_with fail
            rw [← HW3.out]
            clear r3 rf d0 d3 hr1
            obtain ⟨wo, rfl⟩ : ∃ wo : World, wo = wr := ⟨_, rfl⟩
            go_loopg [45] (N - L.sp.length) (fun gk _ wq => ∃ (m : Nat) (As2 : Option Addr) (cs2 : Nat), L.sp.length ≤ m ∧ m + gk = N ∧ Hid (Blk wq (w.heap.size + 1) 31 #[.int .i64 L.s, .int .i64 L.al, .slice As2 m cs2, .slice A2 (L.of.length + 1) c2, .slice none 0 0, .slice none 0 0, .slice none 0 0, .bool false]) ∧ Hid (wq.ownsRow (w.heap.size + 1 + 1) 5 1 (.slice As2 m cs2) m (L.sp.map bv ++ List.replicate (m - L.sp.length) (.int .u8 0))) ∧ Hid (wq.ownsRow (w.heap.size + 1 + 1) 3 1 (.slice A2 (L.of.length + 1) c2) (L.of.length + 1) (L.of.map iv ++ [.int .i64 at_])) ∧ Hid (Blk wq wo.heap.size 31 #[.int .i64 p.s, .int .i64 p.al, .slice p.A p.sp.length p.c, p.x3, p.x4, p.x5, p.x6, p.x7]) ∧ Hid (Blk wq w.heap.size 31 #[.int .i64 0, .int .i64 0, .slice none 0 0, .slice none 0 0, .slice none 0 0, .slice none 0 0, .slice none 0 0, .bool false]) ∧ Hid (Below w.heap.size w wq))
            case atStart => exact ⟨L.sp.length, As, cs, Nat.le_refl _, by omega, BLK3, (by show World.ownsRow _ _ _ _ _ _ _; rw [Nat.sub_self, List.replicate_zero, List.append_nil]; exact OWNS3.out), OWNO3, PB3, RES3, BEL3⟩
            case round =>
              obtain ⟨m, As2, cs2, hm1, hm2, BLK, OWNS, OWNO, PBL, RES, BEL⟩ := hrel
              have blk := BLK.out
              obtain ⟨⟨e0, e1, e2, e3, e4, e5, e6, e7⟩, ef⟩ := blk.eight
              have hrowS : ∀ q, (Value.slice As2 m cs2).ownBlock = some q → (w.heap.size + 1) < q := fun q hq => by have := OWNS.out.lt q hq; omega
              have hpne := own_blk_ne OWNS.out PBL.out (by decide)
              have hgo : w.heap.size + 1 < wr.heap.size := blk.lt
              by_cases hlt3 : m < N
              · obtain ⟨g, rfl⟩ : ∃ g, gk = g + 1 := ⟨gk - 1, by omega⟩
                have hltI : (m : Int) < at_ := by omega
                obtain ⟨A5, c5, w5, hr2, own5, hg5⟩ := run_append1 (P := Try.prog) (w.heap.size + 1 + 1) 27 27 5 _ 1 Try.underlying27 el5 (by omega) As2 m cs2 _ OWNS.out (.int .u8 0) rfl (by omega) (by omega)
                have blk5 := blk.grown hg5 (fun e => by have := hrowS _ e; omega)
                have res5 := RES.out.grown hg5 (fun e => by have := hrowS _ e; omega)
                have pb5 := PBL.out.grown hg5 (fun e => by rcases hpne with h | h; rw [h] at e; cases e; exact h e)
                have ownO5 := OWNO.out.kept hg5 (own_own_ne OWNO.out OWNS.out (by decide))
                have bel5 := BEL.out.grown hg5 (by omega) (fun q hq => by have := hrowS q hq; omega)
                have u2 := blk5.cell 2
                have uf := blk5.frozen 2
                have u2' : w5.cell? ⟨w.heap.size + 1, 2, none⟩ = some (.slice As2 m cs2) := u2
                clear u2
                obtain ⟨W5, hW5⟩ : ∃ W, W = w5.setCell ⟨w.heap.size + 1, 2, none⟩ (.slice A5 (m + 1) c5) := ⟨_, rfl⟩
                have blk5' : Blk W5 (w.heap.size + 1) 31 #[.int .i64 L.s, .int .i64 L.al, .slice A5 (m + 1) c5, .slice A2 (L.of.length + 1) c2, .slice none 0 0, .slice none 0 0, .slice none 0 0, .bool false] := by rw [hW5]; simpa using blk5.set_ 2 (.slice A5 (m + 1) c5)
                have pb5' := pb5.far (p := ⟨w.heap.size + 1, 2, none⟩) (by show wo.heap.size ≠ w.heap.size + 1; omega) (.slice A5 (m + 1) c5)
                have res5' := res5.far (p := ⟨w.heap.size + 1, 2, none⟩) (by show w.heap.size ≠ w.heap.size + 1; omega) (.slice A5 (m + 1) c5)
                have ownS5' := ownsRow_setCell_below own5 (a := ⟨w.heap.size + 1, 2, none⟩) (by show w.heap.size + 1 < w.heap.size + 1 + 1; omega) (.slice A5 (m + 1) c5)
                have ownO5' := ownsRow_setCell_below ownO5 (a := ⟨w.heap.size + 1, 2, none⟩) (by show w.heap.size + 1 < w.heap.size + 1 + 1; omega) (.slice A5 (m + 1) c5)
                have bel5' := bel5.setCell (p := ⟨w.heap.size + 1, 2, none⟩) (by show w.heap.size ≤ w.heap.size + 1; omega) (.slice A5 (m + 1) c5)
                rw [← hW5] at pb5' res5' ownS5' ownO5' bel5'
                have hls : (L.sp.map bv ++ List.replicate (m - L.sp.length) (Value.int .u8 0)) ++ [.int .u8 0] = L.sp.map bv ++ List.replicate (m + 1 - L.sp.length) (Value.int .u8 0) := by
                  rw [show m + 1 - L.sp.length = (m - L.sp.length) + 1 by omega, List.replicate_succ', List.append_assoc]
                rw [hls] at ownS5'
                have B5 := Lib.hid blk5'
                have S5 := Lib.hid ownS5'
                have O5 := Lib.hid ownO5'
                have P5 := Lib.hid pb5'
                have R5 := Lib.hid res5'
                have L5 := Lib.hid bel5'
                have HW5 := Lib.hid hW5
                clear hls blk5' ownS5' ownO5' pb5' res5' bel5' blk5 res5 pb5 ownO5 bel5 own5 hg5 hrowS hpne hW5 blk e0 e1 e3 e4 e5 e6 e7 ef
                go_wp2
                rw [← HW5.out]
                go_roundg g
                case rel => exact ⟨m + 1, A5, c5, by omega, by omega, B5, S5, O5, P5, R5, L5⟩
                case measure => omega
              · obtain rfl : m = N := by omega
                have hltI : at_ ≤ (m : Int) := by omega
                have slP := HPS.out.below BEL.out
                obtain ⟨A5, c5, w5, hr3, own5, hg5⟩ := run_appendS (P := Try.prog) (w.heap.size + 1 + 1) 27 27 5 _ 1 1 Try.underlying27 el5 As2 m cs2 _ OWNS.out p.A p.sp.length p.c (p.sp.map bv) slP (by simp) (oneCell_bv _) (by simp only [maxLen]; omega) (by omega) (by omega)
                have blk5 := blk.grown hg5 (fun e => by have := hrowS _ e; omega)
                have res5 := RES.out.grown hg5 (fun e => by have := hrowS _ e; omega)
                have pb5 := PBL.out.grown hg5 (fun e => by rcases hpne with h | h; rw [h] at e; cases e; exact h e)
                have ownO5 := OWNO.out.kept hg5 (own_own_ne OWNO.out OWNS.out (by decide))
                have bel5 := BEL.out.grown hg5 (by omega) (fun q hq => by have := hrowS q hq; omega)
                have u2 : w5.cell? ⟨w.heap.size + 1, 2, none⟩ = some (.slice As2 m cs2) := blk5.cell 2
                have uf := blk5.frozen 2
                have tp2 : wr.cell? ⟨wo.heap.size, 2, none⟩ = some (.slice p.A p.sp.length p.c) := PBL.out.cell 2
                obtain ⟨W5, hW5⟩ : ∃ W, W = w5.setCell ⟨w.heap.size + 1, 2, none⟩ (.slice A5 (m + p.sp.length) c5) := ⟨_, rfl⟩
                have blk5' : Blk W5 (w.heap.size + 1) 31 #[.int .i64 L.s, .int .i64 L.al, .slice A5 (m + p.sp.length) c5, .slice A2 (L.of.length + 1) c2, .slice none 0 0, .slice none 0 0, .slice none 0 0, .bool false] := by rw [hW5]; simpa using blk5.set_ 2 (.slice A5 (m + p.sp.length) c5)
                have pb5' := pb5.far (p := ⟨w.heap.size + 1, 2, none⟩) (by show wo.heap.size ≠ w.heap.size + 1; omega) (.slice A5 (m + p.sp.length) c5)
                have res5' := res5.far (p := ⟨w.heap.size + 1, 2, none⟩) (by show w.heap.size ≠ w.heap.size + 1; omega) (.slice A5 (m + p.sp.length) c5)
                have ownS5' := ownsRow_setCell_below own5 (a := ⟨w.heap.size + 1, 2, none⟩) (by show w.heap.size + 1 < w.heap.size + 1 + 1; omega) (.slice A5 (m + p.sp.length) c5)
                have ownO5' := ownsRow_setCell_below ownO5 (a := ⟨w.heap.size + 1, 2, none⟩) (by show w.heap.size + 1 < w.heap.size + 1 + 1; omega) (.slice A5 (m + p.sp.length) c5)
                have bel5' := bel5.setCell (p := ⟨w.heap.size + 1, 2, none⟩) (by show w.heap.size ≤ w.heap.size + 1; omega) (.slice A5 (m + p.sp.length) c5)
                rw [← hW5] at pb5' res5' ownS5' ownO5' bel5'
                obtain ⟨⟨x0, x1, x2, x3, x4, x5, x6, x7⟩, xf⟩ := blk5'.eight
                obtain ⟨⟨y0, y1, y2, y3, y4, y5, y6, y7⟩, yf⟩ := pb5'.eight
                have BLK6 := Lib.hid blk5'
                have RES6 := Lib.hid res5'
                have OWNS6 := Lib.hid ownS5'
                have OWNO6 := Lib.hid ownO5'
                have BEL6 := Lib.hid bel5'
                have HW5 := Lib.hid hW5
                have hne1 : ¬ wo.heap.size = w.heap.size + 1 := by omega
                have hne2 : ¬ w.heap.size + 1 = wo.heap.size := by omega
                clear blk5' ownS5' ownO5' pb5' res5' bel5' blk5 res5 pb5 ownO5 bel5 own5 hg5 hrowS hpne hW5 blk e0 e1 e3 e4 e5 e6 e7 ef x2 x3 x4 x5 x6 x7 y2 y3 y4 y5 y6 y7 yf slP
                have hfits : L.fits p = true := by unfold Laid.fits; rw [← HAT.out]; simp; omega
                have HGO2 : Hid (layGo Laid.start (ps.take (k + 1)) = some (L.add p)) := by
                  have h1 := HGT.out
                  rw [hfits] at h1
                  exact h1
                have HGOOD2 : Hid ((L.add p).good (k + 1)) := Laid.good.add ⟨g1, g2, HG3.out, HG4.out, HG5.out⟩ HPV.out hfits
                have e1 : (L.add p).s = at_ + p.s := by rw [HAT.out]; rfl
                have e2 : (L.add p).al = if L.al < p.al then p.al else L.al := by
                  show max L.al p.al = _
                  split <;> omega
                have e3 : (L.add p).sp.length = L.sp.length + (at_ - L.s).toNat + p.sp.length := by
                  show (L.sp ++ List.replicate (alignI L.s p.al - L.s).toNat 0 ++ p.sp).length = _
                  rw [← HAT.out]; simp [Nat.add_assoc]
                have e4 : (L.add p).of.length = L.of.length + 1 := by
                  show (L.of ++ [alignI L.s p.al]).length = _
                  simp
                have e5 : (L.add p).sp.map bv = L.sp.map bv ++ List.replicate (at_ - L.s).toNat (.int .u8 0) ++ p.sp.map bv := by
                  show (L.sp ++ List.replicate (alignI L.s p.al - L.s).toNat 0 ++ p.sp).map bv = _
                  rw [← HAT.out, List.map_append, List.map_append, List.map_replicate]; rfl
                have e6 : (L.add p).of.map iv = L.of.map iv ++ [.int .i64 at_] := by
                  show (L.of ++ [alignI L.s p.al]).map iv = _
                  rw [← HAT.out, List.map_append]; rfl
                obtain ⟨Y, hY⟩ : ∃ Y, Y = (if L.al < p.al then p.al else L.al) := ⟨_, rfl⟩
                have hmN : (at_ - L.s).toNat = m - L.sp.length := by have := HLS.out; have := HN.out; omega
                have e3' : (L.add p).sp.length = m + p.sp.length := by rw [e3, hmN]; omega
                have hS5 : L.sp.map bv ++ List.replicate (m - L.sp.length) (Value.int .u8 0) ++ p.sp.map bv = (L.add p).sp.map bv := by rw [e5, hmN]
                have FB := Blk.two BLK6.out (.int .i64 (at_ + p.s)) (.int .i64 (if L.al < p.al then p.al else L.al))
                have FS := ownsRow_setCell_below (ownsRow_setCell_below OWNS6.out (a := ⟨w.heap.size + 1, 0, none⟩) (by show w.heap.size + 1 < w.heap.size + 1 + 1; omega) (.int .i64 (at_ + p.s))) (a := ⟨w.heap.size + 1, 1, none⟩) (by show w.heap.size + 1 < w.heap.size + 1 + 1; omega) (.int .i64 (if L.al < p.al then p.al else L.al))
                have FO := ownsRow_setCell_below (ownsRow_setCell_below OWNO6.out (a := ⟨w.heap.size + 1, 0, none⟩) (by show w.heap.size + 1 < w.heap.size + 1 + 1; omega) (.int .i64 (at_ + p.s))) (a := ⟨w.heap.size + 1, 1, none⟩) (by show w.heap.size + 1 < w.heap.size + 1 + 1; omega) (.int .i64 (if L.al < p.al then p.al else L.al))
                have FR := (RES6.out.far (p := ⟨w.heap.size + 1, 0, none⟩) (by show w.heap.size ≠ w.heap.size + 1; omega) (.int .i64 (at_ + p.s))).far (p := ⟨w.heap.size + 1, 1, none⟩) (by show w.heap.size ≠ w.heap.size + 1; omega) (.int .i64 (if L.al < p.al then p.al else L.al))
                have FL := (BEL6.out.setCell (p := ⟨w.heap.size + 1, 0, none⟩) (by show w.heap.size ≤ w.heap.size + 1; omega) (.int .i64 (at_ + p.s))).setCell (p := ⟨w.heap.size + 1, 1, none⟩) (by show w.heap.size ≤ w.heap.size + 1; omega) (.int .i64 (if L.al < p.al then p.al else L.al))
                rw [hS5, ← e3'] at FS
                rw [← e6, ← e4] at FO
                rw [← e1, ← e2, ← e3', ← e4] at FB
                rw [← e1, ← e2] at FS FO FR FL
                have FBH := Lib.hid FB
                have FSH := Lib.hid FS
                have FOH := Lib.hid FO
                have FRH := Lib.hid FR
                have FLH := Lib.hid FL
                have E1 := Lib.hid e1
                have E2 := Lib.hid e2
                clear FB FS FO FR FL e1 e2 e3 e3' hS5 hmN e4 e5 e6 hY Y hfits
                go_wp2_with fail
                rw [← HW5.out]
                clear e2 u2 uf tp2 hr3
                go_region
                go_wp2
                go_roundw
                case rel =>
                  refine ⟨k + 1, L.add p, A5, c5, A2, c2, by omega, by go_num, HGO2, HGOOD2, ?_⟩
                  rw [← E2.out, ← E1.out]
                  exact ⟨FBH.out, FSH.out, FOH.out, FRH.out, FLH.out.drew⟩
                case measure => simp [intOf]; omega
          · have hfd : (1024 : Int) < at_ + p.s := by omega
            have hnone : layGo Laid.start ps = none := by
              have h1 := HGT.out
              have h2 : L.fits p = false := by unfold Laid.fits; rw [← HAT.out]; simp; omega
              rw [h2] at h1
              have := layGo_none _ _ (ps.drop (k + 1)) h1
              rwa [List.take_append_drop] at this
            have hE := HE.out
            have hR := HR.out
            rw [hnone] at hE hR
            have HE2 := Lib.hid hE
            have HR2 := Lib.hid hR
            have HB8 := Lib.hid ((hres.set8 (.int .i64 0) (.int .i64 0) (.slice none 0 0) (.slice none 0 0) (.slice none 0 0) (.slice none 0 0) (.slice none 0 0) (.bool false)).alloc (.cells #[.int .i64 p.s, .int .i64 p.al, .slice p.A p.sp.length p.c, p.x3, p.x4, p.x5, p.x6, p.x7] 31))
            have HL8 := Lib.hid ((below8 hb (Nat.le_refl _) (.int .i64 0) (.int .i64 0) (.slice none 0 0) (.slice none 0 0) (.slice none 0 0) (.slice none 0 0) (.slice none 0 0) (.bool false)).alloc (below8 hb (Nat.le_refl _) (.int .i64 0) (.int .i64 0) (.slice none 0 0) (.slice none 0 0) (.slice none 0 0) (.slice none 0 0) (.slice none 0 0) (.bool false)).size (.cells #[.int .i64 p.s, .int .i64 p.al, .slice p.A p.sp.length p.c, p.x3, p.x4, p.x5, p.x6, p.x7] 31))
            obtain ⟨⟨c0, c1, c2, c3, c4, c5, c6, c7⟩, hf⟩ := hres.eight
            obtain ⟨⟨d0, d1, d2, d3, d4, d5, d6, d7⟩, hf'⟩ := hblk.eight
            have hne1 : ¬ wr.heap.size = w.heap.size := by omega
            have hne2 : ¬ w.heap.size = wr.heap.size := by omega
            have hlt1 : w.heap.size < wr.heap.size := by omega
            clear hE hR hnone hres hblk hpb hb ownS ownO hps hfit
            go_wp2_with fail
            refine (ralign_any _ _ _ g1 (by omega) (by omega) (by omega)).mono ?_
            rw [← HAT.out]
            rintro e w2 ⟨rfl, rfl⟩
            clear sx3 sx4 sx5 sx6 sx7 q0 q1 q2 q3 q4 q5 q6 q7
            go_wp2_with fail
            refine bodyPost_gen HB8.out HL8.out ?_
            clear HB8 HL8 c0 c1 c2 c3 c4 c5 c6 c7 hf d0 d1 d2 d3 d4 d5 d6 d7 hf'
            intro W hblk hbel
            obtain ⟨⟨c0, c1, c2, c3, c4, c5, c6, c7⟩, _⟩ := hblk.eight
            clear hblk
            refine bodyPost_ret (v := .tuple #[.agg #[.int .i64 0, .int .i64 0, .slice none 0 0, .slice none 0 0, .slice none 0 0, .slice none 0 0, .slice none 0 0, .bool false], .int .i64 4]) (by simp [results, Try.results25, go_sem, c0, c1, c2, c3, c4, c5, c6, c7]) rfl ?_
            unfold LayPost
            rw [HE2.out, HR2.out]
            exact ⟨none, 0, none, 0, rfl, .inl rfl, .inl rfl, Nat.le_refl _, Nat.le_refl _, hbel⟩
        · obtain rfl : k = ps.length := by omega
          have hgo2 := hgo.out
          rw [List.take_length] at hgo2
          have hE := HE.out
          have hR := HR.out
          rw [hgo2] at hE hR
          have HE2 := Lib.hid hE
          have HR2 := Lib.hid hR
          have hS := SlE.of_own ownS
          have hO := SlE.of_own ownO
          have capS := own_cap ownS
          have capO := own_cap ownO
          have HS := Lib.hid hS
          have HO := Lib.hid hO
          have hRB := hres.set8 (.int .i64 L.s) (.int .i64 L.al) (.slice As L.sp.length cs) (.slice Ao L.of.length co) (.slice none 0 0) (.slice none 0 0) (.slice none 0 0) (.bool false)
          have HL8 := Lib.hid (below8 hb (Nat.le_refl _) (.int .i64 L.s) (.int .i64 L.al) (.slice As L.sp.length cs) (.slice Ao L.of.length co) (.slice none 0 0) (.slice none 0 0) (.slice none 0 0) (.bool false))
          have HG8 := Lib.hid (only8 wr w.heap.size (.int .i64 L.s) (.int .i64 L.al) (.slice As L.sp.length cs) (.slice Ao L.of.length co) (.slice none 0 0) (.slice none 0 0) (.slice none 0 0) (.bool false))
          have HRB := Lib.hid hRB
          have HRES := Lib.hid hres
          obtain ⟨⟨c0, c1, c2, c3, c4, c5, c6, c7⟩, hf⟩ := hres.eight
          obtain ⟨⟨d0, d1, d2, d3, d4, d5, d6, d7⟩, hf'⟩ := hblk.eight
          have hne : ¬ (w.heap.size + 1) = w.heap.size := by omega
          have hne' : ¬ w.heap.size = (w.heap.size + 1) := by omega
          clear hgo2 hE hR hS hO ownS ownO hres hblk hb hRB hlt hk hs
          go_wp2
          refine bodyPost_gen2 HRB.out HL8.out HG8.out ?_
          clear c0 c1 c2 c3 c4 c5 c6 c7 d0 d1 d2 d3 d4 d5 d6 d7 hf hf' HRB HL8 HG8
          intro W hblk hbel hgr
          have hSW := HS.out.grown hgr HRES.out (by decide)
          have hOW := HO.out.grown hgr HRES.out (by decide)
          obtain ⟨⟨c0, c1, c2, c3, c4, c5, c6, c7⟩, _⟩ := hblk.eight
          clear hblk
          refine bodyPost_ret (v := .tuple #[laidV L As cs Ao co, .int .i64 0]) (by unfold laidV; simp [results, Try.results25, go_sem, c0, c1, c2, c3, c4, c5, c6, c7]) rfl ?_
          unfold LayPost
          rw [HE2.out, HR2.out]
          exact ⟨As, cs, Ao, co, rfl, hSW, hOW, capS, capO, hbel⟩
end Go.Proofs.Ytamhigknobdloaa
