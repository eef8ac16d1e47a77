/- The walk of the law SumMoves; no condition but that the arguments are readable. -/
import Derived.Test.YtamhigknobdloaaUx
import Derived.Test.YtamhigknobdloaaSn
import Derived.Test.YtamhigknobdloaaLh
import Derived.Outline
namespace Go.Proofs.Ytamhigknobdloaa
open Go.RowKit
set_option linter.unusedVariables false

theorem Dice.drewd {w : World} {g : Nat} {ls : List Int} {k : Nat} (h : Dice w g ls k) : Dice w.drew g ls k := h.below ⟨rfl, rfl, rfl, Nat.le_refl _, fun _ _ => rfl⟩
theorem grown_undraw {w w' : World} {row : Option Nat} (h : w.drew.grownBy w' row) : w.grownBy w' row := ⟨h.os, h.tape, h.output, h.size, h.block⟩
theorem SlE.cellsAt {w : World} {e : TypeId} {A : Option Addr} {xs : List Value} (h : SlE w e A xs) {b off : Nat} (hA : A = some ⟨b, off, none⟩) (k : Nat) (hk : k < xs.length) : w.cell? ⟨b, off + k, none⟩ = some xs[k] := by
  obtain ⟨b', off', h1, h2⟩ := h.sl.at_ hk
  rw [hA] at h1
  injection h1 with h1
  injection h1 with h1 h3
  subst h1 h3
  exact h2
theorem UnAt.keeps84 {w w' : World} {u : Un} {nms : List ByteArray} {bs : List Bool} {fs : List (List Int)} {ps : List Part} {n : Nat} {As : Option Addr} {cs : Nat} {Ac : Option Addr} {cc : Nat} {Az : Option Addr} {cz : Nat} {qs : List CaseV} (h : UnAt w u nms bs fs ps n As cs Ac cc Az cz qs) (hk : ∀ e, e ≠ 84 → Keep e w w') : UnAt w' u nms bs fs ps n As cs Ac cc Az cz qs :=
  ⟨h.sp.keep (hk 5 (by decide)), h.tags.keep (hk 3 (by decide)), h.cases.keep (hk 73 (by decide)), h.len, h.each, fun q hq => (h.cl q hq).keep (hk 3 (by decide)), h.caps⟩
theorem mv_facts {w5 wq Wi : World} {gy gd g N c i k5 mb mo c0 : Nat} {ls : List Int} {a0 a1 a3 a4 a5 a6 a7 : Value} {A0 : Option Addr} {sp : List UInt8} (hy : Blk wq gy 31 #[a0, a1, .slice A0 sp.length c0, a3, a4, a5, a6, a7]) (hS : SlE wq 5 A0 (sp.map bv)) (hA : A0 = some ⟨mb, mo, none⟩)
    (C : CAt Wi gd ls N (.slice (some ⟨g, 0, none⟩) N c) wq) (hd5 : Dice w5 gd ls k5) (hg : wq.grownBy w5 (some gd)) (hin : i < N) (hi8 : i < sp.length) (h1 : gd ≠ gy) :
    w5.cell? ⟨gy, 2, none⟩ = some (.slice (some ⟨mb, mo, none⟩) sp.length c0) ∧ w5.cell? ⟨mb, mo + i, none⟩ = some (.int .u8 (sp[i].toNat : Int)) ∧ (∃ b0 : UInt8, w5.cell? ⟨g, i, none⟩ = some (.int .u8 (b0.toNat : Int))) ∧ w5.frozen? ⟨g, i, none⟩ = false ∧ (∀ b, CAt Wi gd ls N (.slice (some ⟨g, 0, none⟩) N c) (w5.setCell ⟨g, i, none⟩ (bv b))) ∧ gy < w5.heap.size ∧ mb < w5.heap.size ∧ g < w5.heap.size := by
  obtain ⟨k, hk⟩ := C.dice
  obtain ⟨ds, hds⟩ := hk.cells
  have hy5 := hy.grown hg (fun e => by injection e with e; omega)
  have hS5 := hS.grown hg hds (by decide)
  have C5 := C.dices hd5 hg
  obtain ⟨o1, o2, o3, o4⟩ := C5.cell i hin
  have hc : w5.cell? ⟨mb, mo + i, none⟩ = some (.int .u8 (sp[i].toNat : Int)) := by
    have h := hS5.cellsAt hA i (by simpa using hi8)
    rw [List.getElem_map] at h
    exact h
  exact ⟨by rw [← hA]; exact hy5.cell 2, hc, o1, o2, fun b => C5.put i hin b, hy5.lt, World.block_lt_of_cell? w5 _ hc, o4⟩
theorem and_not8' (r x : UInt8) : bits .andNot .u8 (r.toNat : Int) (x.toNat : Int) = ((r &&& ~~~x).toNat : Int) := by
  rw [u8_andNot_nat _ _ r.toNat_lt x.toNat_lt]; simp
theorem or8 (r x : UInt8) : bits .or .u8 (r.toNat : Int) (x.toNat : Int) = ((r ||| x).toNat : Int) := by
  rw [u8_or_nat _ _ r.toNat_lt x.toNat_lt]; simp
/-- What holds while the tag bits are put: in stages. -/
inductive MvSt (Wi : World) (gd : Nat) (ls : List Int) (N : Nat) (v0 : Value) (M : Int) (D : Nat → Bool) (x : Nat → Value) (w : World) : Prop
  | s0 (d8 : D 8 = false) (d9 : D 9 = false) (d10 : D 10 = false) (h : CAt Wi gd ls N v0 w)
  | s1 (d8 : D 8 = true) (d9 : D 9 = false) (d10 : D 10 = false) (h : CAt Wi gd ls N v0 w) (r : Nat) (hx : x 8 = .int .i64 r) (hr : (r : Int) < M)
  | s2 (d8 : D 8 = true) (d9 : D 9 = true) (d10 : D 10 = false) (A : Option Addr) (c : Nat) (hx : x 9 = .slice A N c) (h : CAt Wi gd ls N (.slice A N c) w)
  | s3 (d8 : D 8 = true) (d9 : D 9 = true) (d10 : D 10 = true) (A : Option Addr) (c : Nat) (hx : x 10 = .slice A N c) (h : CAt Wi gd ls N (.slice A N c) w)
section
variable {Wi w w' : World} {gd N : Nat} {ls : List Int} {v0 : Value} {M : Int} {D : Nat → Bool} {x : Nat → Value}
theorem MvSt.ins (h : MvSt Wi gd ls N v0 M D x w) (i : Nat) (u : Value) (h8 : i ≠ 8) (h9 : i ≠ 9) (h10 : i ≠ 10) : MvSt Wi gd ls N v0 M (fun j => if j = i then true else D j) (fun j => if j = i then u else x j) w := by
  have e8 : ∀ {α : Type} (p q : α), (if 8 = i then p else q) = q := fun p q => if_neg (fun e => h8 e.symm)
  have e9 : ∀ {α : Type} (p q : α), (if 9 = i then p else q) = q := fun p q => if_neg (fun e => h9 e.symm)
  have e10 : ∀ {α : Type} (p q : α), (if 10 = i then p else q) = q := fun p q => if_neg (fun e => h10 e.symm)
  cases h with
  | s0 d8 d9 d10 h => exact .s0 ((e8 _ _).trans d8) ((e9 _ _).trans d9) ((e10 _ _).trans d10) h
  | s1 d8 d9 d10 h r hx hr => exact .s1 ((e8 _ _).trans d8) ((e9 _ _).trans d9) ((e10 _ _).trans d10) h r ((e8 _ _).trans hx) hr
  | s2 d8 d9 d10 A c hx h => exact .s2 ((e8 _ _).trans d8) ((e9 _ _).trans d9) ((e10 _ _).trans d10) A c ((e9 _ _).trans hx) h
  | s3 d8 d9 d10 A c hx h => exact .s3 ((e8 _ _).trans d8) ((e9 _ _).trans d9) ((e10 _ _).trans d10) A c ((e10 _ _).trans hx) h
theorem MvSt.grown (h : MvSt Wi gd ls N v0 M D x w) : Wi.grownBy w (some gd) := by
  cases h with
  | s0 _ _ _ h => exact h.grown
  | s1 _ _ _ h => exact h.grown
  | s2 _ _ _ _ _ _ h => exact h.grown
  | s3 _ _ _ _ _ _ h => exact h.grown
theorem MvSt.op8 (h : MvSt Wi gd ls N v0 M D x w) (hD : D 8 = false) : ∃ k, Dice w gd ls k ∧ ∀ w' k' (r : Nat), Dice w' gd ls k' → w.grownBy w' (some gd) → (r : Int) < M → MvSt Wi gd ls N v0 M (fun j => if j = 8 then true else D j) (fun j => if j = 8 then .int .i64 r else x j) w' := by
  cases h with
  | s0 d8 d9 d10 h =>
    obtain ⟨k, hk⟩ := h.dice
    exact ⟨k, hk, fun w' k' r hd hg hr => .s1 rfl d9 d10 (h.dices hd hg) r rfl hr⟩
  | s1 d8 | s2 d8 | s3 d8 => rw [hD] at d8; cases d8
theorem MvSt.op9 (h : MvSt Wi gd ls N v0 M D x w) (hD : D 9 = false) (h8 : D 8 = true) : ∃ (r : Nat) (X : List UInt8), x 8 = .int .i64 r ∧ (r : Int) < M ∧ X.length = N ∧ w.ownsRow Wi.heap.size 5 1 v0 N (X.map bv) ∧ ∀ w' A c (Y : List UInt8), Below w.heap.size w w' → Y.length = N → w'.ownsRow w.heap.size 5 1 (.slice A N c) N (Y.map bv) → MvSt Wi gd ls N v0 M (fun j => if j = 9 then true else D j) (fun j => if j = 9 then .slice A N c else x j) w' := by
  cases h with
  | s1 d8 d9 d10 h r hx hr =>
    obtain ⟨X, x1, x2⟩ := h.own
    obtain ⟨k, hk⟩ := h.dice
    exact ⟨r, X, hx, hr, x1, x2, fun w' A c Y hb hY ho => .s2 d8 rfl d10 A c rfl ⟨⟨k, hk.below hb⟩, grown_trans h.grown (only_of_below hb _), ⟨Y, hY, own_base ho h.grown.size⟩, h.gdl⟩⟩
  | s0 d8 => rw [h8] at d8; cases d8
  | s2 _ d9 | s3 _ d9 => rw [hD] at d9; cases d9
theorem MvSt.op10 (h : MvSt Wi gd ls N v0 M D x w) (hD : D 10 = false) (h9 : D 9 = true) : ∃ A c, x 9 = .slice A N c ∧ MvSt Wi gd ls N v0 M (fun j => if j = 10 then true else D j) (fun j => if j = 10 then .slice A N c else x j) w := by
  cases h with
  | s2 d8 d9 d10 A c hx h => exact ⟨A, c, hx, .s3 d8 d9 rfl A c rfl h⟩
  | s0 _ d9 | s1 _ d9 => rw [h9] at d9; cases d9
  | s3 _ _ d10 => rw [hD] at d10; cases d10
theorem MvSt.done (h : MvSt Wi gd ls N v0 M D x w) (hD : D 10 = true) : ∃ A c, x 10 = .slice A N c ∧ CAt Wi gd ls N (.slice A N c) w := by
  cases h with
  | s3 _ _ _ A c hx h => exact ⟨A, c, hx, h⟩
  | s0 _ _ d10 | s1 _ _ d10 | s2 _ _ d10 => rw [hD] at d10; cases d10
end

/-- What an operation of the last region of the dice yields. -/
def OrQ (g N : Nat) (i : Nat) (v : Value) : Prop := match i with
  | 4 => ∃ r : Nat, r < N ∧ v = .int .i64 r
  | 5 => ∃ r : Nat, r < N ∧ v = .pointer (some ⟨g, r, none⟩)
  | 11 => ∃ r : Nat, r < N ∧ v = .pointer (some ⟨g, r, none⟩)
  | 6 => ∃ b : UInt8, v = .int .u8 (b.toNat : Int)
  | 8 => ∃ b : UInt8, v = .int .i64 (b.toNat : Int)
  | 9 => ∃ b : UInt8, v = .int .u8 (b.toNat : Int)
  | 10 => ∃ b : UInt8, v = .int .u8 (b.toNat : Int)
  | _ => True
structure OrSt (Wi : World) (gd : Nat) (ls : List Int) (N g c : Nat) (D : Nat → Bool) (x : Nat → Value) (w : World) : Prop where
  cat : CAt Wi gd ls N (.slice (some ⟨g, 0, none⟩) N c) w
  all : ∀ i, D i = true → OrQ g N i (x i)
theorem OrSt.step {Wi w w' : World} {gd : Nat} {ls : List Int} {N g c : Nat} {D : Nat → Bool} {x : Nat → Value} (h : OrSt Wi gd ls N g c D x w) (i : Nat) (u : Value) (hc : CAt Wi gd ls N (.slice (some ⟨g, 0, none⟩) N c) w') (hq : OrQ g N i u) : OrSt Wi gd ls N g c (fun j => if j = i then true else D j) (fun j => if j = i then u else x j) w' := by
  refine ⟨hc, fun j hj => ?_⟩
  by_cases e : j = i
  · subst e; simp only [if_true]; exact hq
  · simp only [e, if_false] at hj ⊢; exact h.all j hj

set_option maxHeartbeats 20000000 in
set_option maxRecDepth 100000 in
theorem summoves_walk (p : Part) (cs0 : List CaseV) (tags0 : List Int) (Ab : Option Addr) (nb cb : Nat) (bb : List UInt8) (kk : Int) (A : Option Addr) (n c : Nat) (ls : List Int) (w : World) (h : LayOf w p cs0 tags0) (hx : ∀ q ∈ cs0, q.x3.oneCell' = true) (hsl : p.sp.length ≤ 2000) (htl : tags0.length ≤ 50) (hcl : cs0.length ≤ 50)
    (hnb : bb.length = nb) (hsb : Sl w Ab (bb.map bv)) (hlb : nb ≤ 2000) (hcb : nb ≤ cb) (hk0 : -9223372036854775808 ≤ kk) (hk1 : kk ≤ 9223372036854775807) (hn : ls.length = n) (hs : Sl w A (ls.map iv)) (hl : n ≤ 700) (hib : IB ls) :
    Calls Try.prog 15 #[p.val, .slice Ab nb cb, .int .i64 kk, .slice A n c] w fun e w' => e = .returned (.bool true) ∧ Below w.heap.size w w' := by
  obtain ⟨s, al, Ap, sp, cp, x3, x4, x5, x6, x7⟩ := p
  obtain ⟨A5, c5, e5, hcs⟩ := h.x5
  obtain ⟨A6, c6, e6, htg, htc⟩ := h.x6
  simp only at e5 e6 hsl
  subst e5 e6
  have hone := h.one
  have sx3 := store_var (P := Try.prog) hone.h3
  have sx4 := store_var (P := Try.prog) hone.h4
  have sx7 := store_var (P := Try.prog) hone.h7
  have hb0 := (Below.refl w.heap.size w).alloc (Nat.le_refl _) (.cells #[.int .i64 s, .int .i64 al, .slice Ap sp.length cp, x3, x4, .slice A5 cs0.length c5, .slice A6 tags0.length c6, x7] 31)
  have hP := Blk.new w 31 #[.int .i64 s, .int .i64 al, .slice Ap sp.length cp, x3, x4, .slice A5 cs0.length c5, .slice A6 tags0.length c6, x7]
  have d1 : decide ((2000 : Int) < sp.length) = false := by simp; omega
  have d2 : decide ((50 : Int) < tags0.length) = false := by simp; omega
  have d3 : decide ((50 : Int) < cs0.length) = false := by simp; omega
  have d4 : decide ((2000 : Int) < nb) = false := by simp; omega
  have hZ : ZOk w ⟨s, al, Ap, sp, cp, x3, x4, .slice A5 cs0.length c5, .slice A6 tags0.length c6, x7⟩ := ⟨cs0, tags0, h, hx, by show sp.length ≤ 1000000; omega, by omega⟩
  have hZ1 := hZ.below hb0
  have hl' : decide (n ≤ 700) = true := by simpa using hl
  have HIB := Lib.hid hib
  have HN := Lib.hid hn
  have HZ1 := Lib.hid hZ1
  have HP := Lib.hid hP
  have HB0 := Lib.hid hb0
  have HSB := Lib.hid (hsb.below hb0)
  have HS := Lib.hid (hs.below hb0)
  have HNB := Lib.hid hnb
  have HONE := Lib.hid hone
  clear h hcs htg hone hb0 hP hZ hZ1 hib hn hsb hs hnb hx
  unfold Part.val
  go_enter Try.func15, Try.ntmps15
  go_wp2_with fail
  refine (light_any _ _ _ _).mono ?_
  rw [hl']
  rintro e w1 ⟨rfl, rfl⟩
  go_wp2_with fail
  refine (roll_any _ _ _ ls _ HN.out HS.out hl HIB.out).mono ?_
  rintro e W ⟨rfl, hd1, hbW⟩
  obtain ⟨w0, hw0⟩ : ∃ w0, w0 = w.alloc (.cells #[.int .i64 s, .int .i64 al, .slice Ap sp.length cp, x3, x4, .slice A5 cs0.length c5, .slice A6 tags0.length c6, x7] 31) := ⟨_, rfl⟩
  rw [← hw0] at hd1 hbW HZ1 HP HB0 HSB ⊢
  obtain ⟨gd, hgd⟩ : ∃ gd, gd = w0.heap.size := ⟨_, rfl⟩
  rw [← hgd] at hd1 ⊢
  have HGD := Lib.hid hgd
  have HBW := Lib.hid hbW
  clear hgd hbW hl' hw0 HS d1 d2 d3 d4
  go_wp2_with fail
  refine (cases_even gd ls 0 _ hd1).mono ?_
  rintro e w2 ⟨ps, nms, bs, A7, A8, A9, c7, c8, c9, rfl, hp5, HR⟩
  have hb2 : Below w0.heap.size w0 w2 := HBW.out.grown HR.grown HBW.out.size (fun q hq => by injection hq with hq; rw [← hq, HGD.out]; exact Nat.le_refl _)
  obtain ⟨fs, hfl, _, hlay⟩ := HR.rlay rfl (by omega)
  obtain ⟨m, hm⟩ : ∃ m, m = ps.length := ⟨_, rfl⟩
  rw [← hm] at hlay HR hfl hp5 ⊢
  have HM := Lib.hid hm
  have HLAY := Lib.hid (hlay w2 (Below.refl _ _))
  have HFL := Lib.hid hfl
  have HRR := Lib.hid HR
  have HB2 := Lib.hid hb2
  clear hm hlay hfl HR hb2 hd1
  go_wp2_with fail
  refine HLAY.out.mono ?_
  intro e w3 h3
  have hb3 := h3.1
  rcases sumE_vals3 ps nms.length bs with hE | hE | hE
  case' inl =>
    obtain ⟨_, ⟨hne, _⟩ | ⟨_, hnl, _, h12, hval, uu, As, cs, Ac, cc, Az, cz, qs, hu, he, hat⟩⟩ := h3
    · exact absurd hE hne
    have he' : e = .returned (.tuple #[.agg #[.int .i64 uu.s, .int .i64 uu.al, .slice As uu.sp.length cs, .slice none 0 0, .slice none 0 0, .slice Ac ps.length cc, .slice Az uu.tags.length cz, .bool false], .int .i64 0]) := he
    subst he'
    rw [← HM.out] at hat h12 hu hnl ⊢
    have hiv := inside_valid (bs := bs) hval
    have htg4 := tagS_le m h12
    have hgood := unionR_good hiv hu (by omega)
    have hbl : bs.length = m := by rw [HRR.out.lb, HM.out]
    have hg0 := hgood.s0
    have hg1 := hgood.s1
    have hgs := hgood.sp
    have hgt := hgood.tags
    obtain ⟨N, hN⟩ := Int.eq_ofNat_of_zero_le hg0
    have hN1 : N ≤ 1024 := by omega
    have hspl : uu.sp.length = N := by omega
    obtain ⟨W4, hW4⟩ : ∃ W4, W4 = w3.alloc (.cells #[.int .i64 uu.s, .int .i64 uu.al, .slice As uu.sp.length cs, .slice none 0 0, .slice none 0 0, .slice Ac m cc, .slice Az uu.tags.length cz, .bool false] 31) := ⟨_, rfl⟩
    have b34 : Below w3.heap.size w3 W4 := by rw [hW4]; exact (Below.refl _ _).alloc (Nat.le_refl _) _
    obtain ⟨gy, hgy⟩ : ∃ gy, gy = w3.heap.size := ⟨_, rfl⟩
    have hY : Blk W4 gy 31 #[.int .i64 uu.s, .int .i64 uu.al, .slice As uu.sp.length cs, .slice none 0 0, .slice none 0 0, .slice Ac m cc, .slice Az uu.tags.length cz, .bool false] := by rw [hW4, hgy]; exact Blk.new _ _ _
    have hat4 : UnAt W4 uu nms bs fs ps m As cs Ac cc Az cz qs := hat.keeps84 (fun e _ => Keep.below b34)
    obtain ⟨d0, hd0⟩ := HRR.out.dice
    have hd4 := hd0.below (below_next hb3 b34)
    have hgdl : gd < w3.heap.size := (hd0.below hb3).lt
    have hw04 : Below w0.heap.size w0 W4 := below_next (below_next HB2.out hb3) b34
    have hC0 := CAt.new W4 gd ls d0 N hd4 hN1
    have hgy1 : gy + 1 = W4.heap.size := by rw [hW4, hgy]; simp
    obtain ⟨gc, hgc⟩ : ∃ gc, gc = W4.heap.size := ⟨_, rfl⟩
    rw [← hgc] at hC0 hgy1
    have HC0 := Lib.hid hC0
    have HGC1 := Lib.hid hgy1
    have HGC := Lib.hid hgc
    have hq73 : ∀ q ∈ qs, q.x3.oneCell' = true := by
      intro q hq
      obtain ⟨i, hi, rfl⟩ := List.getElem_of_mem hq
      have hl := hat.len
      obtain ⟨_, _, _, _, e⟩ := hat.each i hi (by omega) (by omega) (by rw [HFL.out]; omega) (by rw [← HM.out]; omega)
      rw [e]; rfl
    have hcs := hat4.cases_s hnl hbl HFL.out HM.out.symm hval
    obtain ⟨⟨y0, y1, y2, y3, y4, y5, y6, y7⟩, yf⟩ := hY.eight
    rw [hN] at y0
    have hmk := mk27 N (by omega)
    simp only [← hN] at hmk
    have hyl : gy < W4.heap.size := hY.lt
    have HD4 := Lib.hid hd4
    have HY := Lib.hid hY
    have HAT := Lib.hid hat4
    have HGOOD := Lib.hid hgood
    have HW04 := Lib.hid hw04
    have HW4 := Lib.hid hW4
    have HGY := Lib.hid hgy
    have HNN := Lib.hid hN
    have H73 := Lib.hid hq73
    have HCS := Lib.hid hcs
    have H12 := Lib.hid h12
    have hgdy : gd < gy := by omega
    have hspl2 : uu.sp.length = N := hspl
    have HSPL := Lib.hid hspl
    have hqlen : qs.length = m := hat.len
    have HQL := Lib.hid hqlen
    have HTG := Lib.hid hgt
    clear h12 b34 hbl hu hval he hat hb3 hE hat4 hiv hgood hg0 hg1 hgs hnl hd0 hd4 hY hW4 hgy hN hq73 hcs HLAY y1 y2 y3 y4 y5 y6 y7 hspl hspl2 hqlen hgt hw04 hC0 hgy1 hgc
    go_wp2_with fail
    rw [← HW4.out, ← HGY.out, HGC1.out]
    clear hmk y0 yf
    have hst := HC0.out
    go_loopw [89] (fun v89 wq => ∃ i : Nat, i ≤ N ∧ v89 = .int .i64 i ∧ CAt W4 gd ls N (.slice (some ⟨gc, 0, none⟩) N N) wq) (fun v89 _ => N - (intOf v89).toNat)
    case atStart => exact ⟨0, by omega, rfl, hst⟩
    case round =>
      obtain ⟨i, hi, rfl, C⟩ := hrel
      clear hst HC0
      by_cases hin : i < N
      · obtain ⟨k9, hk9⟩ := C.dice
        have CC := Lib.hid C
        clear C
        go_wp2_with fail
        refine (next_lt gd ls k9 3 _ hk9 (by omega) (by omega)).mono ?_
        rintro e w5 ⟨r3, k5, rfl, hr3, hd5, hk5, hx5, hg5⟩
        have C5 := CC.out.dices hd5 hg5
        have CC5 := Lib.hid C5
        clear hx5 hk9 CC hg5 C5
        by_cases hr0 : r3 = 0
        · subst hr0
          have hgr := CC5.out.grown
          obtain ⟨ds, hds⟩ := HD4.out.cells
          have hyq := HY.out.grown hgr (fun e => by injection e with e; omega)
          have hSq := HAT.out.sp.grown hgr hds (by decide)
          have hi8 : i < uu.sp.length := by rw [HSPL.out]; exact hin
          obtain ⟨mb, mo, hma, hcm⟩ := hSq.sl.at_ (k := i) (by simpa using hi8)
          rw [List.getElem_map] at hcm
          obtain ⟨⟨t0, t1, t2, t3, t4, t5, t6, t7⟩, tf⟩ := hyq.eight
          rw [hma] at t2
          have hgY := hyq.lt
          have hmb := World.block_lt_of_cell? w5 _ hcm
          have hcl4 := (CC5.out.cell i hin).2.2.2
          have HYQ := Lib.hid hyq
          have HSQ := Lib.hid hSq
          have HMA := Lib.hid hma
          have HDD := Lib.hid hd5
          clear hgr hds hyq hSq hma t0 t1 t3 t4 t5 t6 t7 hd5
          go_wp2_with fail
          go_region_with (first
            | (go_at_call 21; refine (next_lt gd ls k5 256 _ (by first | exact HDD.out.drewd | exact HDD.out) (by omega) (by omega)).mono ?_; rintro e w6 ⟨r6, k6, rfl, hr6, hd6, hk6, hx6, hg6⟩; clear hx6 hcm t2 tf; have hg7 := grown_undraw hg6; obtain ⟨b5, rfl⟩ : ∃ b5 : UInt8, r6 = b5.toNat := ⟨UInt8.ofNat r6, by rw [UInt8.toNat_ofNat']; omega⟩; obtain ⟨t25, hcm5, ⟨b0, hcX⟩, hfX, hfi, hl1, hl2, hl3⟩ := mv_facts HYQ.out HSQ.out HMA.out CC5.out hd6 hg7 hin hi8 (by omega); have hand := and_not8' b5 uu.sp[i]; have hb5 := b5.toNat_lt; have hnw : ((b5.toNat : Nat) : Int) % 256 = b5.toNat := by omega))
          all_goals
            go_wp2
            go_roundw
            case rel => exact ⟨i + 1, by omega, by go_num, by first | exact hfi (b5 &&& ~~~uu.sp[i]) | (rw [hand]; exact hfi (b5 &&& ~~~uu.sp[i]))⟩
            case measure => simp [intOf]; omega
        · have hr1 : ((r3 : Int) == 0) = false := by simp; omega
          clear hd5
          go_wp2_with fail
          go_roundw
          case rel => exact ⟨i + 1, by omega, by go_num, CC5.out⟩
          case measure => simp [intOf]; omega
      · obtain rfl : N = i := by omega
        have CC := Lib.hid C
        clear C
        have hgr := CC.out.grown
        have hyq := HY.out.grown hgr (fun e => by injection e with e; omega)
        have hgY := hyq.lt
        have HYQ := Lib.hid hyq
        obtain ⟨⟨t0, t1, t2, t3, t4, t5, t6, t7⟩, tf⟩ := hyq.eight
        clear hyq t0 t1 t2 t3 t4 t6 t7 tf hgr
        go_upto_if 111 with (fail)
        clear t5
        go_cut [15] (fun v15 wx => ∃ (A15 : Option Addr) (c15 : Nat), v15 = .slice A15 N c15 ∧ CAt W4 gd ls N (.slice A15 N c15) wx)
        case first =>
          by_cases hm0 : m = 0
          · have hmd : decide (0 < (m : Int)) = false := by simp; omega
            go_wp2_with fail
            go_meet
            exact ⟨_, _, rfl, CC.out⟩
          · have hmd : decide (0 < (m : Int)) = true := by simp; omega
            go_wp2_with fail
            have hm12 := H12.out
            have HIBT := Lib.hid (show IB (intsN uu.tags) from by
              intro i hi
              unfold intsN at hi
              obtain ⟨t, ht, rfl⟩ := List.mem_map.1 hi
              have := HGOOD.out.lt t ht
              have := HSPL.out
              omega)
            refine gen_act fun a0 ha0 => ?_
            have z9 : a0.eval (.tmp 9) = .pointer (some ⟨gd, 0, none⟩) := by rw [ha0]; rfl
            have z13 : a0.eval (.tmp 13) = .pointer (some ⟨gy, 0, none⟩) := by rw [ha0]; rfl
            have z15 : a0.eval (.tmp 15) = .slice (some ⟨gc, 0, none⟩) N N := by rw [ha0]; rfl
            have zs : a0.tmps.size = 255 := by rw [ha0]; rfl
            have HA0 := Lib.hid ha0
            clear ha0
            refine wp_region_known (by kernel_rfl) (ord_of (by kernel_rfl)) (dst_of (by kernel_rfl)) (size_of' (n := 255) (by kernel_rfl) zs) (guard_of (by kernel_rfl)) [some (.slice (some ⟨gc, 0, none⟩) N N), some (.pointer (some ⟨gy, 6, none⟩)), some (.slice Az uu.tags.length cz), some (.pointer (some ⟨gd, 0, none⟩)), some (.pointer (some ⟨gy, 5, none⟩)), some (.slice Ac m cc), some (.int .i64 m), some (.int .i64 ((m : Int) + 1)), none, none, none] (MvSt W4 gd ls N (.slice (some ⟨gc, 0, none⟩) N N) ((m : Int) + 1)) (.s0 rfl rfl rfl (CC.out.below ⟨rfl, rfl, rfl, Nat.le_refl _, fun _ _ => rfl⟩)) ?_ ?_ ?_ ?_
            · intro i u D x w5 hl hD hI
              have hi : i < 11 := by have h := (List.getElem?_eq_some_iff.1 hl).1; simpa using h
              have hnh : i ≠ 8 ∧ i ≠ 9 ∧ i ≠ 10 := by
                refine ⟨?_, ?_, ?_⟩ <;> (rintro rfl; simp at hl)
              exact hI.ins i u hnh.1 hnh.2.1 hnh.2.2
            · intro D x a w5 i o u ho hl hD hdep hcl hF hKn hI K hk
              have hi : i < 11 := (Array.getElem?_eq_some_iff.1 ho).1
              rcases (show i = 0 ∨ i = 1 ∨ i = 2 ∨ i = 3 ∨ i = 4 ∨ i = 5 ∨ i = 6 ∨ i = 7 ∨ i = 8 ∨ i = 9 ∨ i = 10 by omega) with rfl | rfl | rfl | rfl | rfl | rfl | rfl | rfl | rfl | rfl | rfl
              · simp only [List.getElem?_toArray, List.getElem?_cons_zero, Option.some.injEq] at ho
                subst ho
                obtain rfl : .slice (some ⟨gc, 0, none⟩) N N = u := by simpa using hl
                have c10 : D 10 = false := by
                  cases hx : D 10 with
                  | false => rfl
                  | true =>
                    have hy := hcl 10 _ rfl hx
                    simp [Region.binds] at hy
                    simp [hy] at hD
                have e15 := ev_tmp ((hF.same (fun j oj hj hd => by rw [dst_only (by kernel_rfl) hj hd (k := 10) rfl]; exact c10)).trans z15)
                clear hF hcl hKn hl
                go_simp
                exact hk
              · simp only [List.getElem?_toArray, List.getElem?_cons_zero, List.getElem?_cons_succ, Option.some.injEq] at ho
                subst ho
                obtain rfl : .pointer (some ⟨gy, 6, none⟩) = u := by simpa using hl
                have e13 := hF.ev0 (by kernel_rfl) z13
                clear hF hcl hKn hl
                go_simp
                exact hk
              · simp only [List.getElem?_toArray, List.getElem?_cons_zero, List.getElem?_cons_succ, Option.some.injEq] at ho
                subst ho
                simp [Region.binds] at hdep
                obtain rfl : .slice Az uu.tags.length cz = u := by simpa using hl
                have e113 := hKn.ev hF 1 rfl rfl rfl (by simp [hdep])
                obtain ⟨⟨b0, b1, b2, b3, b4, b5, b6, b7⟩, bf⟩ := (HY.out.grown hI.grown (fun e => by injection e with e; omega)).eight
                clear hF hcl hKn hl
                go_simp
                exact hk
              · simp only [List.getElem?_toArray, List.getElem?_cons_zero, List.getElem?_cons_succ, Option.some.injEq] at ho
                subst ho
                obtain rfl : .pointer (some ⟨gd, 0, none⟩) = u := by simpa using hl
                have e9 := hF.ev0 (by kernel_rfl) z9
                clear hF hcl hKn hl
                go_simp
                exact hk
              · simp only [List.getElem?_toArray, List.getElem?_cons_zero, List.getElem?_cons_succ, Option.some.injEq] at ho
                subst ho
                obtain rfl : .pointer (some ⟨gy, 5, none⟩) = u := by simpa using hl
                have e13 := hF.ev0 (by kernel_rfl) z13
                clear hF hcl hKn hl
                go_simp
                exact hk
              · simp only [List.getElem?_toArray, List.getElem?_cons_zero, List.getElem?_cons_succ, Option.some.injEq] at ho
                subst ho
                simp [Region.binds] at hdep
                obtain rfl : .slice Ac m cc = u := by simpa using hl
                have e116 := hKn.ev hF 4 rfl rfl rfl (by simp [hdep])
                obtain ⟨⟨b0, b1, b2, b3, b4, b5, b6, b7⟩, bf⟩ := (HY.out.grown hI.grown (fun e => by injection e with e; omega)).eight
                clear hF hcl hKn hl
                go_simp
                exact hk
              · simp only [List.getElem?_toArray, List.getElem?_cons_zero, List.getElem?_cons_succ, Option.some.injEq] at ho
                subst ho
                simp [Region.binds] at hdep
                obtain rfl : .int .i64 m = u := by simpa using hl
                have e117 := hKn.ev hF 5 rfl rfl rfl (by simp [hdep])
                clear hF hcl hKn hl
                go_simp
                exact hk
              · simp only [List.getElem?_toArray, List.getElem?_cons_zero, List.getElem?_cons_succ, Option.some.injEq] at ho
                subst ho
                simp [Region.binds] at hdep
                obtain rfl : .int .i64 ((m : Int) + 1) = u := by simpa using hl
                have e118 := hKn.ev hF 6 rfl rfl rfl (by simp [hdep])
                have hw : IntKind.i64.wrap ((m : Int) + 1) = (m : Int) + 1 := by rw [IntKind.wrap_i64]; omega
                clear hF hcl hKn hl
                go_simp
                exact hk
              · simp at hl
              · simp at hl
              · simp at hl
            · intro D x a w5 i o ho hl hD hdep hcl hF hKn hI K hk
              have hi : i < 11 := (Array.getElem?_eq_some_iff.1 ho).1
              rcases (show i = 0 ∨ i = 1 ∨ i = 2 ∨ i = 3 ∨ i = 4 ∨ i = 5 ∨ i = 6 ∨ i = 7 ∨ i = 8 ∨ i = 9 ∨ i = 10 by omega) with rfl | rfl | rfl | rfl | rfl | rfl | rfl | rfl | rfl | rfl | rfl
              · exact absurd rfl (hl _)
              · exact absurd rfl (hl _)
              · exact absurd rfl (hl _)
              · exact absurd rfl (hl _)
              · exact absurd rfl (hl _)
              · exact absurd rfl (hl _)
              · exact absurd rfl (hl _)
              · exact absurd rfl (hl _)
              · simp only [List.getElem?_toArray, List.getElem?_cons_zero, List.getElem?_cons_succ, Option.some.injEq] at ho
                subst ho
                simp [Region.binds] at hdep
                have e115 := hKn.ev hF 3 rfl rfl rfl (by simp [hdep])
                have e119 := hKn.ev hF 7 rfl rfl rfl (by simp [hdep])
                obtain ⟨k8, hk8, hnx⟩ := hI.op8 hD
                clear hF hcl hKn hl
                go_simp
                refine (next_lt gd ls k8 ((m : Int) + 1) _ hk8 (by omega) (by omega)).mono ?_
                rintro e w6 ⟨r6, k6, rfl, hr6, hd6, hk6, hx6, hg6⟩
                exact hk _ _ (hnx _ _ _ hd6 hg6 hr6)
              · simp only [List.getElem?_toArray, List.getElem?_cons_zero, List.getElem?_cons_succ, Option.some.injEq] at ho
                subst ho
                simp [Region.binds] at hdep
                have e112 := hKn.ev hF 0 rfl rfl rfl (by simp [hdep])
                have e114 := hKn.ev hF 2 rfl rfl rfl (by simp [hdep])
                obtain ⟨r, X, hx8, hr8, hXl, hXo, hnx⟩ := hI.op9 hD (by simp [hdep])
                have e120 := hF.ev 8 rfl rfl (by simp [hdep]) hx8
                obtain ⟨ds, hds⟩ := HD4.out.cells
                have ht9 := HAT.out.tags.grown hI.grown hds (by decide)
                rw [natv_ints] at ht9
                clear hF hcl hKn hl
                go_simp
                refine (rput_any _ _ _ X Az uu.tags.length cz (intsN uu.tags) r _ hXl (Sl.of_own hXo) (by omega) (by rw [intsN_length]) ht9.sl (by rw [HTG.out]; omega) HIBT.out (by omega) (by omega)).mono ?_
                rintro e w6 ⟨A7, c7, rfl, own7, hb6⟩
                exact hk _ _ (hnx _ A7 c7 _ hb6 (by rw [putB_length, hXl]) own7)
              · simp only [List.getElem?_toArray, List.getElem?_cons_zero, List.getElem?_cons_succ, Option.some.injEq] at ho
                subst ho
                simp [Region.binds] at hdep
                obtain ⟨A7, c7, hx9, hI2⟩ := hI.op10 hD (by simp [hdep])
                have e121 := hF.ev 9 rfl rfl (by simp [hdep]) hx9
                clear hF hcl hKn hl
                go_simp
                exact hk _ _ hI2
            · intro D x w9 hD hDz hKn hI
              obtain ⟨A15, c15, x10, hC⟩ := hI.done (hD 10 (by decide))
              have HC := Lib.hid hC
              clear hI hD hDz hKn hC
              rw [HA0.out]
              simp [putsAll, List.range, List.range.loop, Act.put, x10]
              go_wp2
              go_meet
              exact ⟨_, _, rfl, HC.out⟩
        case rest =>
          obtain ⟨A15, c15, rfl, C⟩ := hcut
          have CC2 := Lib.hid C
          clear C hgY HYQ CC
          go_upto_region 17 with fail
          go_cut [128] (fun v128 wx => ∃ b : Bool, v128 = .bool b ∧ (b = true → 0 < N) ∧ CAt W4 gd ls N (.slice A15 N c15) wx)
          case first =>
            by_cases hN0 : N = 0
            · have hd : decide (0 < (N : Int)) = false := by simp; omega
              go_wp2_with fail
              go_meet
              exact ⟨false, rfl, (fun h => by cases h), CC2.out⟩
            · have hd : decide (0 < (N : Int)) = true := by simp; omega
              obtain ⟨k9, hk9⟩ := CC2.out.dice
              go_wp2_with fail
              refine (rare_any gd ls k9 4 _ hk9 (by omega) (by omega)).mono ?_
              rintro e w5 ⟨b, k5, rfl, hd5, hk5, hg5⟩
              have C5 := Lib.hid (CC2.out.dices hd5 hg5)
              clear hd5 hk9 hk5 hg5
              go_wp2_with fail
              go_meet
              exact ⟨b, rfl, fun _ => by omega, C5.out⟩
          case rest =>
            obtain ⟨b, rfl, hbN, C⟩ := hcut
            have CC3 := Lib.hid C
            clear C CC2
            go_upto_if 128 with (fail)
            go_cut [128] (fun v128 wx => CAt W4 gd ls N (.slice A15 N c15) wx)
            case first =>
              cases b with
              | false =>
                go_wp2_with fail
                go_meet
                exact CC3.out
              | true =>
                have hN0 := hbN rfl
                obtain ⟨X, x1, x2⟩ := CC3.out.own
                obtain ⟨g15, hg15, hgb15, hgl15⟩ := own_addr x2 hN0
                subst hg15
                clear x1 x2
                go_wp2_with fail
                refine gen_act fun a0 ha0 => ?_
                have z9 : a0.eval (.tmp 9) = .pointer (some ⟨gd, 0, none⟩) := by rw [ha0]; rfl
                have z15 : a0.eval (.tmp 15) = .slice (some ⟨g15, 0, none⟩) N c15 := by rw [ha0]; rfl
                have zs : a0.tmps.size = 255 := by rw [ha0]; rfl
                have HA0 := Lib.hid ha0
                clear ha0
                refine wp_region_known (by kernel_rfl) (ord_of (by kernel_rfl)) (dst_of (by kernel_rfl)) (size_of' (n := 255) (by kernel_rfl) zs) (guard_of (by kernel_rfl)) [some (.slice (some ⟨g15, 0, none⟩) N c15), some (.pointer (some ⟨gd, 0, none⟩)), some (.slice (some ⟨g15, 0, none⟩) N c15), some (.int .i64 N), none, none, none, some (.pointer (some ⟨gd, 0, none⟩)), none, none, none, none, none] (OrSt W4 gd ls N g15 c15) ⟨CC3.out.below ⟨rfl, rfl, rfl, Nat.le_refl _, fun _ _ => rfl⟩, (fun i h => by cases h)⟩ ?_ ?_ ?_ ?_
                · intro i u D x w5 hl hD hI
                  have hi : i < 13 := by have h := (List.getElem?_eq_some_iff.1 hl).1; simpa using h
                  have hnh : i ≠ 4 ∧ i ≠ 5 ∧ i ≠ 6 ∧ i ≠ 8 ∧ i ≠ 9 ∧ i ≠ 10 ∧ i ≠ 11 ∧ i ≠ 12 := by
                    refine ⟨?_, ?_, ?_, ?_, ?_, ?_, ?_, ?_⟩ <;> (rintro rfl; simp at hl)
                  refine hI.step i u hI.cat ?_
                  obtain ⟨h4, h5, h6, h8, h9, h10, h11, h12⟩ := hnh
                  rcases (show i = 0 ∨ i = 1 ∨ i = 2 ∨ i = 3 ∨ i = 7 by omega) with rfl | rfl | rfl | rfl | rfl <;> trivial
                · intro D x a w5 i o u ho hl hD hdep hcl hF hKn hI K hk
                  have hi : i < 13 := (Array.getElem?_eq_some_iff.1 ho).1
                  rcases (show i = 0 ∨ i = 1 ∨ i = 2 ∨ i = 3 ∨ i = 4 ∨ i = 5 ∨ i = 6 ∨ i = 7 ∨ i = 8 ∨ i = 9 ∨ i = 10 ∨ i = 11 ∨ i = 12 by omega) with rfl | rfl | rfl | rfl | rfl | rfl | rfl | rfl | rfl | rfl | rfl | rfl | rfl
                  · simp only [List.getElem?_toArray, List.getElem?_cons_zero, Option.some.injEq] at ho
                    subst ho
                    obtain rfl : .slice (some ⟨g15, 0, none⟩) N c15 = u := by simpa using hl
                    have e15 := hF.ev0 (by kernel_rfl) z15
                    clear hF hcl hKn hl
                    go_simp
                    exact hk
                  · simp only [List.getElem?_toArray, List.getElem?_cons_zero, List.getElem?_cons_succ, Option.some.injEq] at ho
                    subst ho
                    obtain rfl : .pointer (some ⟨gd, 0, none⟩) = u := by simpa using hl
                    have e9 := hF.ev0 (by kernel_rfl) z9
                    clear hF hcl hKn hl
                    go_simp
                    exact hk
                  · simp only [List.getElem?_toArray, List.getElem?_cons_zero, List.getElem?_cons_succ, Option.some.injEq] at ho
                    subst ho
                    obtain rfl : .slice (some ⟨g15, 0, none⟩) N c15 = u := by simpa using hl
                    have e15 := hF.ev0 (by kernel_rfl) z15
                    clear hF hcl hKn hl
                    go_simp
                    exact hk
                  · simp only [List.getElem?_toArray, List.getElem?_cons_zero, List.getElem?_cons_succ, Option.some.injEq] at ho
                    subst ho
                    simp [Region.binds] at hdep
                    obtain rfl : .int .i64 N = u := by simpa using hl
                    have e131 := hKn.ev hF 2 rfl rfl rfl (by simp [hdep])
                    clear hF hcl hKn hl
                    go_simp
                    exact hk
                  · simp at hl
                  · simp at hl
                  · simp at hl
                  · simp only [List.getElem?_toArray, List.getElem?_cons_zero, List.getElem?_cons_succ, Option.some.injEq] at ho
                    subst ho
                    obtain rfl : .pointer (some ⟨gd, 0, none⟩) = u := by simpa using hl
                    have e9 := hF.ev0 (by kernel_rfl) z9
                    clear hF hcl hKn hl
                    go_simp
                    exact hk
                  · simp at hl
                  · simp at hl
                  · simp at hl
                  · simp at hl
                  · simp at hl
                · intro D x a w5 i o ho hl hD hdep hcl hF hKn hI K hk
                  have hi : i < 13 := (Array.getElem?_eq_some_iff.1 ho).1
                  rcases (show i = 0 ∨ i = 1 ∨ i = 2 ∨ i = 3 ∨ i = 4 ∨ i = 5 ∨ i = 6 ∨ i = 7 ∨ i = 8 ∨ i = 9 ∨ i = 10 ∨ i = 11 ∨ i = 12 by omega) with rfl | rfl | rfl | rfl | rfl | rfl | rfl | rfl | rfl | rfl | rfl | rfl | rfl
                  · exact absurd rfl (hl _)
                  · exact absurd rfl (hl _)
                  · exact absurd rfl (hl _)
                  · exact absurd rfl (hl _)
                  · simp only [List.getElem?_toArray, List.getElem?_cons_zero, List.getElem?_cons_succ, Option.some.injEq] at ho
                    subst ho
                    simp [Region.binds] at hdep
                    have e130 := hKn.ev hF 1 rfl rfl rfl (by simp [hdep])
                    have e132 := hKn.ev hF 3 rfl rfl rfl (by simp [hdep])
                    obtain ⟨k8, hk8⟩ := hI.cat.dice
                    clear hF hcl hKn hl
                    go_simp
                    refine (next_lt gd ls k8 (N : Int) _ hk8 (by omega) (by omega)).mono ?_
                    rintro e w6 ⟨r6, k6, rfl, hr6, hd6, hk6, hx6, hg6⟩
                    exact hk _ _ (hI.step 4 _ (hI.cat.dices hd6 hg6) ⟨r6, by omega, rfl⟩)
                  · simp only [List.getElem?_toArray, List.getElem?_cons_zero, List.getElem?_cons_succ, Option.some.injEq] at ho
                    subst ho
                    simp [Region.binds] at hdep
                    have e129 := hKn.ev hF 0 rfl rfl rfl (by simp [hdep])
                    obtain ⟨r, hr, hx4⟩ := hI.all 4 (by simp [hdep])
                    have e133 := hF.ev 4 rfl rfl (by simp [hdep]) hx4
                    have hr0 : (0 : Int) ≤ (r : Int) := Int.natCast_nonneg _
                    have hr1 : (r : Int) < (N : Int) := by omega
                    clear hF hcl hKn hl
                    go_simp
                    exact hk _ _ (hI.step 5 _ hI.cat ⟨_, by omega, rfl⟩)
                  · simp only [List.getElem?_toArray, List.getElem?_cons_zero, List.getElem?_cons_succ, Option.some.injEq] at ho
                    subst ho
                    simp [Region.binds] at hdep
                    obtain ⟨r, hr, hx5⟩ := hI.all 5 (by simp [hdep])
                    have e134 := hF.ev 5 rfl rfl (by simp [hdep]) hx5
                    obtain ⟨⟨q5, hq5⟩, hf5, hw5, hl5⟩ := hI.cat.cell r hr
                    clear hF hcl hKn hl
                    go_simp
                    exact hk _ _ (hI.step 6 _ hI.cat ⟨q5, rfl⟩)
                  · exact absurd rfl (hl _)
                  · simp only [List.getElem?_toArray, List.getElem?_cons_zero, List.getElem?_cons_succ, Option.some.injEq] at ho
                    subst ho
                    simp [Region.binds] at hdep
                    have e136 := hKn.ev hF 7 rfl rfl rfl (by simp [hdep])
                    obtain ⟨k8, hk8⟩ := hI.cat.dice
                    clear hF hcl hKn hl
                    go_simp
                    refine (next_lt gd ls k8 256 _ hk8 (by omega) (by omega)).mono ?_
                    rintro e w6 ⟨r6, k6, rfl, hr6, hd6, hk6, hx6, hg6⟩
                    obtain ⟨b6, rfl⟩ : ∃ b6 : UInt8, r6 = b6.toNat := ⟨UInt8.ofNat r6, by rw [UInt8.toNat_ofNat']; omega⟩
                    exact hk _ _ (hI.step 8 _ (hI.cat.dices hd6 hg6) ⟨b6, rfl⟩)
                  · simp only [List.getElem?_toArray, List.getElem?_cons_zero, List.getElem?_cons_succ, Option.some.injEq] at ho
                    subst ho
                    simp [Region.binds] at hdep
                    obtain ⟨b6, hx8⟩ := hI.all 8 (by simp [hdep])
                    have e137 := hF.ev 8 rfl rfl (by simp [hdep]) hx8
                    have hb6 := b6.toNat_lt
                    have hw : IntKind.u8.wrap (b6.toNat : Int) = (b6.toNat : Int) := by rw [IntKind.wrap_u8']; omega
                    clear hF hcl hKn hl
                    go_simp
                    exact hk _ _ (hI.step 9 _ hI.cat ⟨b6, rfl⟩)
                  · simp only [List.getElem?_toArray, List.getElem?_cons_zero, List.getElem?_cons_succ, Option.some.injEq] at ho
                    subst ho
                    simp [Region.binds] at hdep
                    obtain ⟨q5, hx6⟩ := hI.all 6 (by simp [hdep])
                    obtain ⟨b6, hx9⟩ := hI.all 9 (by simp [hdep])
                    have e135 := hF.ev 6 rfl rfl (by simp [hdep]) hx6
                    have e138 := hF.ev 9 rfl rfl (by simp [hdep]) hx9
                    have hor := or8 q5 b6
                    clear hF hcl hKn hl
                    go_simp
                    exact hk _ _ (hI.step 10 _ hI.cat ⟨q5 ||| b6, by first | rfl | (rw [hor]; rfl) | (congr 1)⟩)
                  · simp only [List.getElem?_toArray, List.getElem?_cons_zero, List.getElem?_cons_succ, Option.some.injEq] at ho
                    subst ho
                    simp [Region.binds] at hdep
                    have e129 := hKn.ev hF 0 rfl rfl rfl (by simp [hdep])
                    obtain ⟨r, hr, hx4⟩ := hI.all 4 (by simp [hdep])
                    have e133 := hF.ev 4 rfl rfl (by simp [hdep]) hx4
                    have hr0 : (0 : Int) ≤ (r : Int) := Int.natCast_nonneg _
                    have hr1 : (r : Int) < (N : Int) := by omega
                    clear hF hcl hKn hl
                    go_simp
                    exact hk _ _ (hI.step 11 _ hI.cat ⟨_, by omega, rfl⟩)
                  · simp only [List.getElem?_toArray, List.getElem?_cons_zero, List.getElem?_cons_succ, Option.some.injEq] at ho
                    subst ho
                    simp [Region.binds] at hdep
                    obtain ⟨r, hr, hx11⟩ := hI.all 11 (by simp [hdep])
                    obtain ⟨b6, hx10⟩ := hI.all 10 (by simp [hdep])
                    have e140 := hF.ev 11 rfl rfl (by simp [hdep]) hx11
                    have e139 := hF.ev 10 rfl rfl (by simp [hdep]) hx10
                    obtain ⟨⟨q5, hq5⟩, hf5, hw5, hl5⟩ := hI.cat.cell r hr
                    clear hF hcl hKn hl
                    go_simp
                    exact hk undef _ (hI.step 12 _ (hI.cat.put r hr b6) trivial)
                · intro D x w9 hD hDz hKn hI
                  have HC := Lib.hid hI.cat
                  clear hI hD hDz hKn
                  rw [HA0.out]
                  simp [putsAll, List.range, List.range.loop, Act.put]
                  go_wp2
                  go_meet
                  exact HC.out
            case rest => 
              have C := hcut
              clear CC3 hbN b
              obtain ⟨V6, hV6⟩ : ∃ V6, V6 = wc := ⟨_, rfl⟩
              rw [← hV6] at C ⊢
              have hgr := C.grown
              obtain ⟨ds, hds⟩ := HD4.out.cells
              have hBW6 : Below w0.heap.size w0 V6 := HW04.out.grown hgr HW04.out.size (fun q hq => by injection hq with hq; rw [← hq, HGD.out]; exact Nat.le_refl _)
              have hat6 := HAT.out.keeps84 (fun e he => Keep.grown hgr hds he)
              have hY6 := HY.out.grown hgr (fun e => by injection e with e; omega)
              have hP6 := HP.out.below hBW6
              obtain ⟨X, hX1, hX2⟩ := C.own
              have hcap15 := own_cap hX2
              have hX3 := Sl.of_own hX2
              have hL6 := hat6.layOf HGOOD.out H12.out HCS.out
              have hZU : ZOk V6 (unP uu m As cs Ac cc Az cz) := ⟨qs, intsN uu.tags, hL6, H73.out, by show uu.sp.length ≤ 1000000; rw [HSPL.out]; omega, by rw [intsN_length, HTG.out]; omega⟩
              have hZX := HZ1.out.below hBW6
              have hsb6 := HSB.out.below hBW6
              obtain ⟨⟨y0, y1, y2, y3, y4, y5, y6, y7⟩, yf⟩ := hY6.eight
              obtain ⟨⟨p0, p1, p2, p3, p4, p5, p6, p7⟩, pf⟩ := hP6.eight
              obtain ⟨V7, hV7⟩ : ∃ V7, V7 = V6.alloc (.cells #[.int .i64 s, .int .i64 al, .slice Ap sp.length cp, x3, x4, .slice A5 cs0.length c5, .slice A6 tags0.length c6, x7, .int .i64 uu.s, .int .i64 uu.al, .slice As uu.sp.length cs, .slice none 0 0, .slice none 0 0, .slice Ac m cc, .slice Az uu.tags.length cz, .bool false] 31) := ⟨_, rfl⟩
              have b67 : Below V6.heap.size V6 V7 := by rw [hV7]; exact (Below.refl _ _).alloc (Nat.le_refl _) _
              have hparts : Parts V7 (some ⟨V6.heap.size, 0, none⟩) [⟨s, al, Ap, sp, cp, x3, x4, .slice A5 cs0.length c5, .slice A6 tags0.length c6, x7⟩, unP uu m As cs Ac cc Az cz] := by
                rw [hV7]
                exact Sl.new V6 #[.int .i64 s, .int .i64 al, .slice Ap sp.length cp, x3, x4, .slice A5 cs0.length c5, .slice A6 tags0.length c6, x7, .int .i64 uu.s, .int .i64 uu.al, .slice As uu.sp.length cs, .slice none 0 0, .slice none 0 0, .slice Ac m cc, .slice Az uu.tags.length cz, .bool false] 31
              have hxz : ∀ (j : Nat) (hj : j < 2), ∃ pz : Part, [(⟨s, al, Ap, sp, cp, x3, x4, .slice A5 cs0.length c5, .slice A6 tags0.length c6, x7⟩ : Part), unP uu m As cs Ac cc Az cz][j]'(by simpa using hj) = pz ∧ ZOk V7 pz ∧ pz.one := by
                intro j hj
                match j, hj with
                | 0, _ => exact ⟨_, rfl, hZX.below b67, HONE.out⟩
                | 1, _ => exact ⟨_, rfl, hZU.below b67, ⟨rfl, rfl, rfl, rfl, rfl⟩⟩
              obtain ⟨gz, hgz⟩ : ∃ gz, gz = V6.heap.size := ⟨_, rfl⟩
              rw [← hgz] at hparts
              have hgz7 : gz < V7.heap.size := by rw [hV7, hgz]; simp
              have HV7 := Lib.hid hV7
              have HGZ := Lib.hid hgz
              have HPA := Lib.hid hparts
              have HXZ := Lib.hid hxz
              have HX3 := Lib.hid (hX3.below b67)
              have HSB7 := Lib.hid (hsb6.below b67)
              have HX1 := Lib.hid hX1
              have HB7 := Lib.hid (below_next HB0.out (below_next hBW6 b67))
              have hbr := Below.refl V7.heap.size V7
              clear C hgr hds hBW6 hat6 hY6 hP6 hX1 hX2 hX3 hL6 hZU hZX hsb6 hV7 b67 hparts hxz hgz hV6 hcut HW04 HD4 HY HAT HGOOD HW4 HGY H73 HCS H12 HTG HQL HGC1 HGC HP HZ1 HSB HB0 HBW HRR HB2
              go_wp2_with fail
              rw [← HGZ.out, ← HV7.out]
              clear y0 y1 y2 y3 y4 y5 y6 y7 yf p0 p1 p2 p3 p4 p5 p6 p7 pf
              have hb0 := HB7.out
              apply moves_loop _ Ab nb cb bb kk A15 N c15 X gz _ V7 _ _ _ _ _ _ _ _ _ _ _ _ _ _ _ _ _ _ _ _ _ _ _ _ _ _ _ _ _ _ _ _ _ _ _ _ _ _ _ _ _ _ _ _ _ _ _ _ _ _ _ _ _ _ _ _ _ _ _ _ _ _ _ _ _ _ _ _ _ _ _ _ _ _ _ _ _ _ _ _ _ _ _ _ _ _ _ _ _ _ _ _ _ _ _ _ _ _ _ _ _ _ _ _ _ _ _ _ _ _ _ _ _ _ _ _ _ _ _ _ _ _ _ _ _ _ _ _ _ _ _ _ _ _ _ _ _ _ _ _ _ _ _ _ _ _ _ _ _ _ _ _ _ _ _ _ _ _ _ _ _ _ _ _ _ _ _ _ _ _ _ _ _ _ _ _ _ _ _ _ _ _ _ _ _ _ _ _ _ _ _ _ _ _ _ _ _ _ _ _ _ _ _ _ _ _ _ _ _ _ _ _ _ _ _ _ _ _ _ _ _ _ _ _ _ _ _ _ _ _ _ _ _ _ _ _ _ _ _ _ _ _ _ _ _ _ _ _ _ (Lib.hid fun j hj => ?_) HPA HX3 HSB7 HX1 HNB hcap15 hcb hlb (by omega) hk0 hk1 rfl
              · intro _ _ _ _ _ _ _ _ _ _ _ _ _ _ _ _ _ _ _ _ _ _ _ _ _ _ _ _ _ _ _ _ _ _ _ _ _ _ _ _ _ _ _ _ _ _ _ _ _ _ _ _ _ _ _ _ _ _ _ _ _ _ _ _ _ _ _ _ _ _ _ _ _ _ _ _ _ _ _ _ _ _ _ _ _ _ _ _ _ _ _ _ _ _ _ _ _ _ _ _ _ _ _ _ _ _ _ _ _ _ _ _ _ _ _ _ _ _ _ _ _ _ _ _ _ _ _ _ _ _ w' hb
                have HBE := Lib.hid (below_next hb0 hb)
                clear hb
                go_wp2_with fail
                refine (awake17 _).mono ?_
                rintro e w6 ⟨rfl, hb6⟩
                go_wp2
                go_ret
                exact ⟨rfl, below_next HBE.out hb6⟩
              · obtain ⟨pz, h1, h2⟩ := HXZ.out j hj
                exact ⟨pz, by rw [← h1]; exact List.getElem?_eq_getElem _, h2⟩
  all_goals
    obtain ⟨_, ⟨_, he⟩ | ⟨h0, _⟩⟩ := h3
    case' inr => rw [hE] at h0; cases h0
    rw [hE] at he
    have he' : e = .returned (.tuple #[.agg #[.int .i64 0, .int .i64 0, .slice none 0 0, .slice none 0 0, .slice none 0 0, .slice none 0 0, .slice none 0 0, .bool false], .int .i64 _]) := he
    subst he'
    have HB3 := Lib.hid (below_next HB0.out (below_next HB2.out hb3))
    clear he hE hb3
    go_wp2_with fail
    refine (awake17 _).mono ?_
    rintro e w6 ⟨rfl, hb6⟩
    go_wp2
    go_ret
    exact ⟨rfl, below_next (HB3.out.alloc HB3.out.size _) hb6⟩
end Go.Proofs.Ytamhigknobdloaa
