/- The walk of the law SumNests; no condition but that the number is a byte. -/
import Derived.Test.YtamhigknobdloaaSn
namespace Go.Proofs.Ytamhigknobdloaa
open Go.RowKit
set_option linter.unusedVariables false

/-- A laid product as a part. -/
def laidP (L : Laid) (As : Option Addr) (cs : Nat) (Ao : Option Addr) (co : Nat) : Part := ⟨L.s, L.al, As, L.sp, cs, .slice Ao L.of.length co, .slice none 0 0, .slice none 0 0, .slice none 0 0, .bool false⟩
def laidK (L : Laid) : Part := laidP L none 0 none 0
/-- The union at a depth, and the bytes of true in it. -/
def nest : Nat → Un × List UInt8
  | 0 => (⟨1, 1, [254], []⟩, [1])
  | i + 1 =>
    let X := nest i
    let ts := [laidK (layR [unK X.1]), pe]
    let u := (unionR ts 2).getD Un.zero
    (u, (unInj ts u 0 X.2).2)
def nestTs (i : Nat) : List Part := [laidK (layR [unK (nest i).1]), pe]
def nestOk (i : Nat) : Bool :=
  layE [unK (nest i).1] == 0 && (unK (nest i).1).valid && (laidK (layR [unK (nest i).1])).valid && (unionR (nestTs i) 2).isSome &&
  (nest (i + 1)).1.s == (if 7 < i + 1 then (2 : Int) + ((i + 1 : Nat) - 8) / 8 else 1) &&
  (unInj (nestTs i) (nest (i + 1)).1 0 (nest i).2).1 == 0 && (unInj (nestTs i) (nest (i + 1)).1 1 []).1 == 0 &&
  (unProj (nestTs i) (nest (i + 1)).1 (nest (i + 1)).2 == some (0, (nest i).2)) && !((nest (i + 1)).2 == (unInj (nestTs i) (nest (i + 1)).1 1 []).2) && decide ((nest i).2.length ≤ 10) && decide ((nest (i + 1)).1.tags.length ≤ 2)
theorem nest39 : (nest (38 + 1)).2.length ≤ 1000000 := by decide +kernel
theorem nest_ok : ∀ i : Fin 39, nestOk i.val = true := by decide +kernel
theorem valid_key {p q : Part} (h : p.key = q.key) : p.valid = q.valid := by
  obtain ⟨h1, h2, h3⟩ := key_inj h
  unfold Part.valid; rw [h1, h2, h3]
theorem layGo_key : ∀ {ts us : List Part} (L : Laid), ts.map Part.key = us.map Part.key → layGo L ts = layGo L us := by
  intro ts
  induction ts with
  | nil => intro us L e; cases us with
    | nil => rfl
    | cons _ _ => simp at e
  | cons t r ih => intro us L e; cases us with
    | nil => simp at e
    | cons u s =>
      simp only [List.map_cons, List.cons.injEq] at e
      obtain ⟨h1, h2, h3⟩ := key_inj e.1
      simp only [layGo]
      have hf : L.fits t = L.fits u := by unfold Laid.fits; rw [h1, h2]
      have ha : L.add t = L.add u := by unfold Laid.add; rw [h1, h2, h3]
      rw [hf, ha, ih _ e.2]
theorem layE_key {ts us : List Part} (h : ts.map Part.key = us.map Part.key) : layE ts = layE us := by
  unfold layE; rw [any_key (fun p q e => by rw [valid_key e]) h, layGo_key _ h]
theorem layR_key {ts us : List Part} (h : ts.map Part.key = us.map Part.key) : layR ts = layR us := by
  unfold layR; rw [any_key (fun p q e => by rw [valid_key e]) h, layGo_key _ h]
theorem sumE_ok {ps : List Part} {bs : List Bool} {nn : Nat} {u : Un} (hv : ∀ p ∈ ps, p.valid = true) (h1 : ps.length = nn) (h2 : bs.length = nn) (h3 : nn ≤ 12) (hu : unionR (inside ps bs) nn = some u) : sumE ps nn bs = 0 := by
  have hb : sumBad ps nn bs.length = false := by
    unfold sumBad
    rw [lay_all hv, h1, h2]; simp
  unfold sumE
  rw [hb, if_neg (by decide), if_neg (by omega), hu]
structure NestFacts (j : Nat) (o : List UInt8) : Prop where
  e : layE [unK (nest j).1] = 0
  v : (unK (nest j).1).valid = true
  v2 : (laidK (layR [unK (nest j).1])).valid = true
  u : unionR (nestTs j) 2 = some (nest (j + 1)).1
  s : (nest (j + 1)).1.s = (if 7 < j + 1 then (2 : Int) + ((j + 1 : Nat) - 8) / 8 else 1)
  i0 : unInj (nestTs j) (nest (j + 1)).1 0 (nest j).2 = (0, (nest (j + 1)).2)
  i1 : unInj (nestTs j) (nest (j + 1)).1 1 [] = (0, o)
  ne : (nest (j + 1)).2 ≠ o
  p : unProj (nestTs j) (nest (j + 1)).1 (nest (j + 1)).2 = some (0, (nest j).2)
  l : (nest j).2.length ≤ 10
  t : (nest (j + 1)).1.tags.length ≤ 2
theorem nest_facts (j : Nat) (h : j < 39) : ∃ o, NestFacts j o := by
  have h1 := nest_ok ⟨j, h⟩
  unfold nestOk at h1
  simp only [Bool.and_eq_true, beq_iff_eq, decide_eq_true_eq, Bool.not_eq_true', beq_eq_false_iff_ne, ne_eq] at h1
  obtain ⟨⟨⟨⟨⟨⟨⟨⟨⟨⟨a1, a2⟩, a3⟩, a4⟩, a5⟩, a6⟩, a7⟩, a8⟩, a9⟩, a10⟩, a11⟩ := h1
  have hu : unionR (nestTs j) 2 = some (nest (j + 1)).1 := by
    show unionR (nestTs j) 2 = some ((unionR (nestTs j) 2).getD Un.zero)
    cases h : unionR (nestTs j) 2 with
    | none => rw [h] at a4; cases a4
    | some u => rfl
  refine ⟨(unInj (nestTs j) (nest (j + 1)).1 1 []).2, a1, a2, a3, hu, a5, Prod.ext a6 rfl, Prod.ext a7 rfl, a9, a8, a10, a11⟩
theorem nest_len (j : Nat) (h : j < 40) : (nest j).2.length ≤ 1000000 := by
  by_cases h39 : j < 39
  · obtain ⟨o, F⟩ := nest_facts j h39
    exact Nat.le_trans F.l (by omega)
  · have e : j = 39 := by omega
    rw [e]; exact nest39
/-- What stands at the head of a round. -/
structure NestAt (g4 g5 : Nat) (i : Nat) (X : Part) (bA : Option Addr) (bc : Nat) (W : World) : Prop where
  box : Blk W g4 31 #[.int .i64 X.s, .int .i64 X.al, .slice X.A X.sp.length X.c, X.x3, X.x4, X.x5, X.x6, X.x7]
  key : X.key = (unK (nest i).1).key
  one : X.one
  sp : SlE W 5 X.A (X.sp.map bv)
  bs : SlE W 5 bA ((nest i).2.map bv)
  bc_ : (nest i).2.length ≤ bc
  none_ : Blk W g5 31 #[.int .i64 0, .int .i64 1, .slice none 0 0, .slice none 0 0, .slice none 0 0, .slice none 0 0, .slice none 0 0, .bool false]
theorem NestAt.below {g4 g5 i : Nat} {X : Part} {bA : Option Addr} {bc : Nat} {W W' : World} (h : NestAt g4 g5 i X bA bc W) (hb : Below W.heap.size W W') : NestAt g4 g5 i X bA bc W' :=
  ⟨h.box.below hb, h.key, h.one, h.sp.below hb, h.bs.below hb, h.bc_, h.none_.below hb⟩
set_option maxHeartbeats 3200000 in
set_option maxRecDepth 100000 in
theorem sumnests_walk (n : UInt8) (w : World) :
    Calls Try.prog 14 #[bv n] w fun e w' => e = .returned (.bool true) ∧ Below w.heap.size w w' := by
  have hn := n.toNat_lt
  obtain ⟨d, hd⟩ : ∃ d : Nat, d = n.toNat % 40 := ⟨_, rfl⟩
  have hd40 : d < 40 := by rw [hd]; exact Nat.mod_lt _ (by omega)
  have hdm : (n.toNat : Int) % 40 = (d : Int) := by rw [hd]; omega
  have b0 : (n.toNat : Int) ≤ 255 := by omega
  have HD := Lib.hid hd
  clear hd hn
  go_enter Try.func14, Try.ntmps14
  go_upto_region 6 with fail
  obtain ⟨g4, hg4⟩ : ∃ g4, g4 = w.heap.size + 1 := ⟨_, rfl⟩
  refine gen_world (fun W => NestAt g4 (g4 + 1) 0 ⟨1, 1, some ⟨w.heap.size, 0, none⟩, [254], 1, .slice none 0 0, .slice none 0 0, .slice none 0 0, .slice none 0 0, .bool false⟩ (some ⟨g4 + 1 + 1, 0, none⟩) 1 W ∧ Below w.heap.size w W) ⟨⟨?_, rfl, ⟨rfl, rfl, rfl, rfl, rfl⟩, ?_, ?_, Nat.le_refl _, ?_⟩, by repeat (first | exact Below.refl _ _ | refine Below.alloc ?_ (by simp <;> omega) _)⟩ ?_
  · rw [hg4]; repeat (first | exact Blk.new' (by simp) | refine Blk.alloc ?_ _)
  · exact (((SlE.new w #[.int .u8 254] 5).below ((Below.refl _ _).alloc (Nat.le_refl _) _)).below ((Below.refl _ _).alloc (Nat.le_refl _) _)).below ((Below.refl _ _).alloc (Nat.le_refl _) _)
  · have h := SlE.new (((w.alloc (.cells #[.int .u8 254] 5)).alloc (.cells #[.int .i64 1, .int .i64 1, .slice (some ⟨w.heap.size, 0, none⟩) 1 1, .slice none 0 0, .slice none 0 0, .slice none 0 0, .slice none 0 0, .bool false] 31)).alloc (.cells #[.int .i64 0, .int .i64 1, .slice none 0 0, .slice none 0 0, .slice none 0 0, .slice none 0 0, .slice none 0 0, .bool false] 31)) #[.int .u8 1] 5
    rw [hg4]; simpa [nest, bv] using h
  · rw [hg4]; repeat (first | exact Blk.new' (by simp) | refine Blk.alloc ?_ _)
  intro W1 ⟨hN, hbW⟩
  have HG4 := Lib.hid hg4
  have HNN := Lib.hid hN
  have HBW := Lib.hid hbW
  rw [← hg4]
  clear hg4 hN hbW hdm
  have hd40i : (d : Int) < 40 := by omega
  go_loopw [6, 7] (fun v6 v7 wr => ∃ (j : Nat) (X : Part) (bA : Option Addr) (bc : Nat), j ≤ d ∧ v7 = .int .i64 ((j : Int) + 1) ∧ v6 = .slice bA (nest j).2.length bc ∧ NestAt g4 (g4 + 1) j X bA bc wr ∧ Below w.heap.size w wr) (fun _ v7 _ => d + 1 - (intOf v7).toNat)
  case atStart => exact ⟨0, _, _, 1, by omega, rfl, rfl, HNN.out, HBW.out⟩
  case round =>
    obtain ⟨j, X, bA, bc, hj, rfl, rfl, hN, hb⟩ := hrel
    clear HNN HBW
    by_cases hlt : j < d
    · obtain ⟨o, F⟩ := nest_facts j (by omega)
      have hXo := hN.one
      have sx3 := store_var (P := Try.prog) hXo.h3
      have sx4 := store_var (P := Try.prog) hXo.h4
      have sx5 := store_var (P := Try.prog) hXo.h5
      have sx6 := store_var (P := Try.prog) hXo.h6
      have sx7 := store_var (P := Try.prog) hXo.h7
      have hb1 := (Below.refl wr.heap.size wr).alloc (Nat.le_refl _) (.cells #[.int .i64 X.s, .int .i64 X.al, .slice X.A X.sp.length X.c, X.x3, X.x4, X.x5, X.x6, X.x7] 31)
      have hlay := rlay_any (some ⟨wr.heap.size, 0, none⟩) 1 1 [X] (wr.alloc (.cells #[.int .i64 X.s, .int .i64 X.al, .slice X.A X.sp.length X.c, X.x3, X.x4, X.x5, X.x6, X.x7] 31)) rfl (Sl.new wr #[.int .i64 X.s, .int .i64 X.al, .slice X.A X.sp.length X.c, X.x3, X.x4, X.x5, X.x6, X.x7] 31) (by omega)
        (by intro p hp; rw [List.mem_singleton.1 hp]; exact hN.sp.sl.alloc _) (by intro p hp; rw [List.mem_singleton.1 hp]; exact hXo)
      have hkeyX : [X].map Part.key = [unK (nest j).1].map Part.key := by simp [hN.key]
      unfold LayPost at hlay
      rw [layR_key hkeyX, layE_key hkeyX, F.e] at hlay
      obtain ⟨⟨x0, x1, x2, x3, x4, x5, x6, x7⟩, xf⟩ := hN.box.eight
      have HN2 := Lib.hid (hN.below hb1)
      have HLAY := Lib.hid hlay
      have HB1 := Lib.hid (below_next hb hb1)
      have HF := Lib.hid F
      clear hlay hkeyX hN hb1 hb
      have hjd : (j : Int) + 1 ≤ (d : Int) := by omega
      go_wp2_with fail
      refine HLAY.out.mono ?_
      intro e w3 h3
      obtain ⟨L, hL⟩ : ∃ L, L = layR [unK (nest j).1] := ⟨_, rfl⟩
      rw [← hL] at h3
      obtain ⟨As, cs, Ao, co, he, hS, hO, capS, capO, hb3⟩ := h3
      have hgl := layR_of [unK (nest j).1]
      rw [← hL] at hgl
      have hofl : L.of.length ≤ 1 := hgl.1
      have he' : e = .returned (.tuple #[.agg #[.int .i64 L.s, .int .i64 L.al, .slice As L.sp.length cs, .slice Ao L.of.length co, .slice none 0 0, .slice none 0 0, .slice none 0 0, .bool false], .int .i64 0]) := he
      subst he'
      have hb4 := (Below.refl w3.heap.size w3).alloc (Nat.le_refl _) (.cells #[.int .i64 L.s, .int .i64 L.al, .slice As L.sp.length cs, .slice Ao L.of.length co, .slice none 0 0, .slice none 0 0, .slice none 0 0, .bool false] 31)
      have hN4 := HN2.out.below (below_next hb3 hb4)
      have hP4 := Blk.new w3 31 #[.int .i64 L.s, .int .i64 L.al, .slice As L.sp.length cs, .slice Ao L.of.length co, .slice none 0 0, .slice none 0 0, .slice none 0 0, .bool false]
      have hun := union2 (laidP L As cs Ao co) pe L.of [] ⟨#[115, 111, 109, 101]⟩ ⟨#[110, 111, 110, 101]⟩ false false (w3.alloc (.cells #[.int .i64 L.s, .int .i64 L.al, .slice As L.sp.length cs, .slice Ao L.of.length co, .slice none 0 0, .slice none 0 0, .slice none 0 0, .bool false] 31)) (hS.sl.below hb4) (.inl rfl) ⟨rfl, rfl, rfl, rfl, rfl⟩ ⟨rfl, rfl, rfl, rfl, rfl⟩ ⟨Ao, co, rfl, hO.sl.below hb4, by omega⟩ (noOffs _)
      rw [show (w3.alloc (.cells #[.int .i64 L.s, .int .i64 L.al, .slice As L.sp.length cs, .slice Ao L.of.length co, .slice none 0 0, .slice none 0 0, .slice none 0 0, .bool false] 31)).heap.size = w3.heap.size + 1 by simp] at hun
      have hbw := w57_below (w3.alloc (.cells #[.int .i64 L.s, .int .i64 L.al, .slice As L.sp.length cs, .slice Ao L.of.length co, .slice none 0 0, .slice none 0 0, .slice none 0 0, .bool false] 31)) (laidP L As cs Ao co) pe ⟨#[115, 111, 109, 101]⟩ ⟨#[110, 111, 110, 101]⟩ false false
      obtain ⟨⟨n0, n1, n2, n3, n4, n5, n6, n7⟩, nf⟩ := hN4.none_.eight
      have HUN := Lib.hid hun
      have HBW2 := Lib.hid hbw
      have HN4 := Lib.hid hN4
      have HLL := Lib.hid hL
      have HB4 := Lib.hid (below_next (below_next HB1.out hb3) hb4)
      clear hun hbw hN4 hL hgl he hS hO capS capO hb3 hb4 hP4 x0 x1 x2 x3 x4 x5 x6 x7 xf
      go_wp2_with fail
      refine HUN.out.mono ?_
      intro e w5 h5
      have hpv : ∀ p ∈ [laidP L As cs Ao co, pe], p.valid = true := by
        intro p hp
        simp only [List.mem_cons, List.not_mem_nil, or_false] at hp
        rcases hp with rfl | rfl
        · have h := HF.out.v2
          rw [← HLL.out] at h
          rw [← h]; exact valid_key rfl
        · rfl
      have hu : unionR (inside [laidP L As cs Ao co, pe] [false, false]) 2 = some (nest (j + 1)).1 := by
        rw [← HF.out.u]
        unfold nestTs
        rw [← HLL.out]
        exact unionR_key 2 rfl
      obtain ⟨Bs, ds, Bc, dc, Bz, dz, qs, he, hat, hb5⟩ := h5.yes (sumE_ok hpv rfl rfl (by decide) hu) hu
      replace hat : UnAt w5 (nest (j + 1)).1 [⟨#[115, 111, 109, 101]⟩, ⟨#[110, 111, 110, 101]⟩] [false, false] [L.of, []] [laidP L As cs Ao co, pe] 2 Bs ds Bc dc Bz dz qs := hat
      have hgood := unionR_good (inside_valid (bs := [false, false]) hpv) hu (by decide)
      have hpj := fun m => (hat.projR rfl rfl rfl rfl m).trans (show unProj (inside [laidP L As cs Ao co, pe] [false, false]) (nest (j + 1)).1 m = unProj (nestTs j) (nest (j + 1)).1 m from by unfold nestTs; rw [← HLL.out]; exact projR_key rfl rfl _ _)
      have hij := fun k m => (hat.injR rfl rfl rfl rfl k m).trans (show unInj (inside [laidP L As cs Ao co, pe] [false, false]) (nest (j + 1)).1 k m = unInj (nestTs j) (nest (j + 1)).1 k m from by unfold nestTs; rw [← HLL.out]; exact injR_key rfl rfl _ _ _)
      have hlay := hat.layOf hgood (by decide) (hat.cases_s rfl rfl rfl rfl hpv)
      obtain ⟨u, hu'⟩ : ∃ u, u = (nest (j + 1)).1 := ⟨_, rfl⟩
      rw [← hu'] at hat hgood hpj hij hlay he
      have he' : e = .returned (.tuple #[.agg #[.int .i64 u.s, .int .i64 u.al, .slice Bs u.sp.length ds, .slice none 0 0, .slice none 0 0, .slice Bc 2 dc, .slice Bz u.tags.length dz, .bool false], .int .i64 0]) := he
      subst he'
      have hb6 := (Below.refl w5.heap.size w5).alloc (Nat.le_refl _) (.cells #[.int .i64 u.s, .int .i64 u.al, .slice Bs u.sp.length ds, .slice none 0 0, .slice none 0 0, .slice Bc 2 dc, .slice Bz u.tags.length dz, .bool false] 31)
      have b56 := below_next (below_next HBW2.out hb5) hb6
      have hN6 := HN4.out.below b56
      have hY6 := Blk.new w5 31 #[.int .i64 u.s, .int .i64 u.al, .slice Bs u.sp.length ds, .slice none 0 0, .slice none 0 0, .slice Bc 2 dc, .slice Bz u.tags.length dz, .bool false]
      have hus : u.s = (if 7 < j + 1 then (2 : Int) + ((j + 1 : Nat) - 8) / 8 else 1) := by rw [hu']; exact HF.out.s
      have HL6 := Lib.hid (hlay.below hb6)
      have HN6 := Lib.hid hN6
      have HY6 := Lib.hid hY6
      have HPJ := Lib.hid hpj
      have HIJ := Lib.hid hij
      have HGOOD := Lib.hid hgood
      have HUU := Lib.hid hu'
      have HB6 := Lib.hid (below_next HB4.out b56)
      have HSP6 := Lib.hid (hat.sp.below hb6)
      have hcapU := hat.caps
      obtain ⟨⟨y0, y1, y2, y3, y4, y5, y6, y7⟩, yf⟩ := hY6.eight
      clear h5 hpv hu hgood hpj hij hlay hu' he hb6 b56 hN6 hY6 hat hb5 n0 n1 n2 n3 n4 n5 n6 n7 nf HUN HBW2 HN4 HB4 HLAY HN2 HB1
      have hinj0 := fun (W : World) (hL : LayOf W (unP u 2 Bs ds Bc dc Bz dz) qs (intsN u.tags)) (hs : Sl W bA ((nest j).2.map bv)) (hc : (nest j).2.length ≤ bc) (h1 : (nest j).2.length ≤ 1000000) (h2 : u.sp.length ≤ 1000000) (h3 : (intsN u.tags).length ≤ 1000000) => inj_any (unP u 2 Bs ds Bc dc Bz dz) qs (intsN u.tags) 0 bA (nest j).2.length bc (nest j).2 W hL rfl hs h1 hc h2 h3 (by decide) (by decide)
      have hl10 := HF.out.l
      have hsp := HGOOD.out.sp
      have hs1024 := HGOOD.out.s1
      have htl : (intsN u.tags).length ≤ 1000000 := by rw [intsN_length, HUU.out]; have := HF.out.t; omega
      have hul : u.sp.length ≤ 1000000 := by omega
      have hi0 := hinj0 _ HL6.out HN6.out.bs.sl HN6.out.bc_ (by omega) hul htl
      rw [HIJ.out 0 (nest j).2] at hi0
      have e0 : unInj (nestTs j) u 0 (nest j).2 = (0, (nest (j + 1)).2) := by rw [HUU.out]; exact HF.out.i0
      rw [e0] at hi0
      have HI0 := Lib.hid hi0
      clear hinj0 hi0 e0
      rcases (show 7 < j + 1 ∨ ¬ 7 < j + 1 by omega) with h7 | h7
      case' inl =>
        rw [if_pos h7] at hus
        have h7' : (7 : Int) < (j : Int) + 1 := by omega
        have hself : (u.s != 2 + ((j : Int) + 1 - 8) / 8) = false := by rw [hus]; simp
        have HUS := Lib.hid hus
        clear hus
        go_wp2_with fail
        clear hself h7'
      case' inr =>
        rw [if_neg h7] at hus
        have h7' : ¬ (7 : Int) < (j : Int) + 1 := by omega
        have hself : (u.s != 1) = false := by rw [hus]; simp
        have HUS := Lib.hid hus
        clear hus
        go_wp2_with fail
        clear hself h7'
      all_goals
        refine HI0.out.mono ?_
        rintro e w7 ⟨hb7, Aq, cq, he, hsc, hcapc⟩
        have he' : e = .returned (.tuple #[.slice Aq (nest (j + 1)).2.length cq, .int .i64 0]) := he
        subst he'
        have hL7 := HL6.out.below hb7
        have hY7 := HY6.out.below hb7
        have hi1 := inj_any (unP u 2 Bs ds Bc dc Bz dz) qs (intsN u.tags) 1 none 0 0 [] w7 hL7 rfl Sl.nil (by omega) (Nat.le_refl _) hul htl (by decide) (by decide)
        have e1 : unInj (nestTs j) u 1 [] = (0, o) := by rw [HUU.out]; exact HF.out.i1
        rw [HIJ.out 1 [], e1] at hi1
        have HI1 := Lib.hid hi1
        have HL7 := Lib.hid hL7
        have HY7 := Lib.hid hY7
        have HN7 := Lib.hid (HN6.out.below hb7)
        have HB7 := Lib.hid (below_next HB6.out hb7)
        have HSP7 := Lib.hid (HSP6.out.below hb7)
        have HSC7 := Lib.hid hsc
        clear y0 y1 y2 y3 y4 y5 y6 y7 yf
        obtain ⟨⟨y0, y1, y2, y3, y4, y5, y6, y7⟩, yf⟩ := hY7.eight
        clear he hL7 hY7 hi1 e1 hsc hb7 HI0 HL6 HY6 HN6 HB6 HSP6
        go_wp2_with fail
        refine HI1.out.mono ?_
        rintro e w8 ⟨hb8, Ar, cr, he, hso, hcapo⟩
        have he' : e = .returned (.tuple #[.slice Ar o.length cr, .int .i64 0]) := he
        subst he'
        have hL8 := HL7.out.below hb8
        have hY8 := HY7.out.below hb8
        have hlc : (nest (j + 1)).2.length ≤ 1000000 := nest_len (j + 1) (by omega)
        have hp8 := proj_any (unP u 2 Bs ds Bc dc Bz dz) qs (intsN u.tags) Aq (nest (j + 1)).2.length cq (nest (j + 1)).2 w8 hL8 rfl (HSC7.out.sl.below hb8) hlc hcapc hul htl
        have e1 : unProj (nestTs j) u (nest (j + 1)).2 = some (0, (nest j).2) := by rw [HUU.out]; exact HF.out.p
        rw [HPJ.out, e1] at hp8
        have HP8 := Lib.hid hp8
        have HN8 := Lib.hid (HN7.out.below hb8)
        have HY8 := Lib.hid hY8
        have HB8 := Lib.hid (below_next HB7.out hb8)
        have HSP8 := Lib.hid (HSP7.out.below hb8)
        have HSC8 := Lib.hid (HSC7.out.below hb8)
        have HSO8 := Lib.hid hso
        clear y0 y1 y2 y3 y4 y5 y6 y7 yf
        obtain ⟨⟨y0, y1, y2, y3, y4, y5, y6, y7⟩, yf⟩ := hY8.eight
        clear he hL8 hY8 hlc hp8 e1 hso hb8 HI1 HL7 HY7 HN7 HB7 HSP7 HSC7
        go_wp2_with fail
        refine HP8.out.mono ?_
        rintro e w9 ⟨hb9, h9⟩
        have h9' : ∃ (A9 : Option Addr) (c9 : Nat), e = .returned (.tuple #[.int .i64 ((0 : Nat) : Int), .slice A9 (nest j).2.length c9, .int .i64 0]) ∧ SlE w9 5 A9 ((nest j).2.map bv) := by
          rcases h9 with ⟨h, _⟩ | ⟨k, u', A9, c9, h, he, hs, _⟩
          · cases h
          · injection h with h
            injection h with h1 h2
            subst h1 h2
            exact ⟨A9, c9, he, hs⟩
        obtain ⟨A9, c9, rfl, hs9⟩ := h9'
        have c1 := run_convb (P := Try.prog) w9 27 9 5 A9 (nest j).2.length c9 (nest j).2 Try.underlying27 Try.underlying5 Try.underlying9 hs9.sl rfl
        have c2 := run_convb (P := Try.prog) w9 27 9 5 bA (nest j).2.length bc (nest j).2 Try.underlying27 Try.underlying5 Try.underlying9 (HN8.out.bs.sl.below hb9) rfl
        have c3 := run_convb (P := Try.prog) w9 27 9 5 Aq (nest (j + 1)).2.length cq (nest (j + 1)).2 Try.underlying27 Try.underlying5 Try.underlying9 (HSC8.out.sl.below hb9) rfl
        have c4 := run_convb (P := Try.prog) w9 27 9 5 Ar o.length cr o Try.underlying27 Try.underlying5 Try.underlying9 (HSO8.out.sl.below hb9) rfl
        have hN9 := HN8.out.below hb9
        have hY9 := HY8.out.below hb9
        have HB9 := Lib.hid (below_next HB8.out hb9)
        have HSP9 := Lib.hid (HSP8.out.below hb9)
        have HSC9 := Lib.hid (HSC8.out.below hb9)
        have HN9 := Lib.hid hN9
        clear y0 y1 y2 y3 y4 y5 y6 y7 yf
        obtain ⟨⟨y0, y1, y2, y3, y4, y5, y6, y7⟩, yf⟩ := hY9.eight
        obtain ⟨⟨x0, x1, x2, x3, x4, x5, x6, x7⟩, xf⟩ := hN9.box.eight
        have hne := HF.out.ne
        have hne2 : ((nest (j + 1)).2 == o) = false := by rw [beq_eq_false_iff_ne]; exact hne
        have h8 := only8 w9 g4 (.int .i64 u.s) (.int .i64 u.al) (.slice Bs u.sp.length ds) (.slice none 0 0) (.slice none 0 0) (.slice Bc 2 dc) (.slice Bz u.tags.length dz) (.bool false)
        have hNn : NestAt g4 (g4 + 1) (j + 1) ⟨u.s, u.al, Bs, u.sp, ds, .slice none 0 0, .slice none 0 0, .slice Bc 2 dc, .slice Bz u.tags.length dz, .bool false⟩ Aq cq ((((((((w9.setCell ⟨g4, 0, none⟩ (.int .i64 u.s)).setCell ⟨g4, 1, none⟩ (.int .i64 u.al)).setCell ⟨g4, 2, none⟩ (.slice Bs u.sp.length ds)).setCell ⟨g4, 3, none⟩ (.slice none 0 0)).setCell ⟨g4, 4, none⟩ (.slice none 0 0)).setCell ⟨g4, 5, none⟩ (.slice Bc 2 dc)).setCell ⟨g4, 6, none⟩ (.slice Bz u.tags.length dz)).setCell ⟨g4, 7, none⟩ (.bool false)) :=
          ⟨hN9.box.set8 (.int .i64 u.s) (.int .i64 u.al) (.slice Bs u.sp.length ds) (.slice none 0 0) (.slice none 0 0) (.slice Bc 2 dc) (.slice Bz u.tags.length dz) (.bool false), by rw [← HUU.out]; rfl, ⟨rfl, rfl, rfl, rfl, rfl⟩, HSP9.out.grown h8 hN9.box (by decide), HSC9.out.grown h8 hN9.box (by decide), hcapc, hN9.none_.grown h8 (fun e => by injection e with e; omega)⟩
        have HNn := Lib.hid hNn
        have HBn := Lib.hid (below8 HB9.out (show w.heap.size ≤ g4 by rw [HG4.out]; omega) (.int .i64 u.s) (.int .i64 u.al) (.slice Bs u.sp.length ds) (.slice none 0 0) (.slice none 0 0) (.slice Bc 2 dc) (.slice Bz u.tags.length dz) (.bool false))
        clear hb9 hs9 hN9 hY9 hne h8 hNn
        go_wp2_with fail
        go_roundw
        case rel => exact ⟨j + 1, ⟨u.s, u.al, Bs, u.sp, ds, .slice none 0 0, .slice none 0 0, .slice Bc 2 dc, .slice Bz u.tags.length dz, .bool false⟩, Aq, cq, by omega, by go_num, rfl, HNn.out, HBn.out⟩
        case measure => simp [intOf]; omega
    · have hjd : j = d := by omega
      subst hjd
      have hlt' : ¬ ((j : Int) + 1 ≤ (j : Int)) := by omega
      go_wp2_with fail
      refine (awake17 _).mono ?_
      rintro e w6 ⟨rfl, hb6⟩
      go_wp2
      go_ret
      exact ⟨rfl, below_next hb hb6⟩
end Go.Proofs.Ytamhigknobdloaa
