/- The walk of the dice's Layout: what it makes; conditions: the numbers are few. -/
import Derived.Test.YtamhigknobdloaaLr
namespace Go.Proofs.Ytamhigknobdloaa
open Go.RowKit
set_option linter.unusedVariables false

theorem lay_all {ps : List Part} (hv : ∀ p ∈ ps, p.valid = true) : ps.any (fun p => !p.valid) = false := by
  rw [Bool.eq_false_iff]
  intro h
  obtain ⟨p, hp, h2⟩ := List.any_eq_true.1 h
  rw [hv p hp] at h2
  exact absurd h2 (by decide)
theorem layE_none {ps : List Part} (hv : ∀ p ∈ ps, p.valid = true) (h : layGo Laid.start ps = none) : layE ps = 4 ∧ layR ps = ⟨0, 0, [], []⟩ := by
  unfold layE layR; rw [if_neg (by rw [lay_all hv]; decide), if_neg (by rw [lay_all hv]; decide), h]; exact ⟨rfl, rfl⟩
theorem layE_some {ps : List Part} {L : Laid} (hv : ∀ p ∈ ps, p.valid = true) (h : layGo Laid.start ps = some L) : layE ps = 0 ∧ layR ps = L := by
  unfold layE layR; rw [if_neg (by rw [lay_all hv]; decide), if_neg (by rw [lay_all hv]; decide), h]; exact ⟨rfl, rfl⟩
/-- What a made layout is. -/
structure Made (w : World) (p : Part) : Prop where
  sp : SlE w 5 p.A (p.sp.map bv)
  cap : p.sp.length ≤ p.c
  len : (p.sp.length : Int) = p.s
  s1 : p.s ≤ 1024
  al : p.al = 0 ∨ p.al = 1 ∨ p.al = 8
  of : ∃ Ao ofs co, p.x3 = .slice Ao (ofs : List Int).length co ∧ SlE w 3 Ao (ofs.map iv) ∧ ofs.length ≤ co ∧ ofs.length ≤ 2
  x4 : p.x4 = .slice none 0 0
  x5 : p.x5 = .slice none 0 0
  x6 : p.x6 = .slice none 0 0
  x7 : ∃ b, p.x7 = .bool b
theorem Made.one {w : World} {p : Part} (h : Made w p) : p.one := by
  obtain ⟨Ao, ofs, co, e3, _⟩ := h.of
  obtain ⟨b, e7⟩ := h.x7
  exact ⟨by rw [e3]; rfl, by rw [h.x4]; rfl, by rw [h.x5]; rfl, by rw [h.x6]; rfl, by rw [e7]; rfl⟩
theorem Made.below {w w' : World} {p : Part} (h : Made w p) (hb : Below w.heap.size w w') : Made w' p := by
  obtain ⟨Ao, ofs, co, e3, s3, c3⟩ := h.of
  exact ⟨h.sp.below hb, h.cap, h.len, h.s1, h.al, ⟨Ao, ofs, co, e3, s3.below hb, c3⟩, h.x4, h.x5, h.x6, h.x7⟩
theorem Made.grown {w w' : World} {p : Part} (h : Made w p) {g : Nat} (hg : w.grownBy w' (some g)) {t : TypeId} {ds : Array Value} {fz : Nat × Nat} (ht : w.heap[g]? = some (.cells ds t fz)) (h5 : (5 : TypeId) ≠ t) (h3 : (3 : TypeId) ≠ t) : Made w' p := by
  obtain ⟨Ao, ofs, co, e3, s3, c3⟩ := h.of
  exact ⟨h.sp.grown hg ht h5, h.cap, h.len, h.s1, h.al, ⟨Ao, ofs, co, e3, s3.grown hg ht h3, c3⟩, h.x4, h.x5, h.x6, h.x7⟩
theorem Dice.alloc {w : World} {g : Nat} {ls : List Int} {k : Nat} (h : Dice w g ls k) (o : Obj) : Dice (w.alloc o) g ls k := h.below ((Below.refl _ _).alloc (Nat.le_refl _) o)
theorem grown_alloc {a w : World} {row : Option Nat} (h : a.grownBy w row) (o : Obj) : a.grownBy (w.alloc o) row := grown_trans h (only_of_below ((Below.refl _ _).alloc (Nat.le_refl _) o) row)
def LayoutPost (g : Nat) (ls : List Int) (k : Nat) (w : World) (e : Ending) (w' : World) : Prop :=
  ∃ (p : Part) (k' : Nat), e = .returned p.val ∧ Made w' p ∧ Dice w' g ls k' ∧ k ≤ k' ∧ w.grownBy w' (some g)
theorem bodyPost_gen5 {P : Program} {fn : Func} {R : Ending → World → Prop} {x : Exit} {a : Act} {w : World} {X : World → Prop} {g : Nat} {t : TypeId} {cs : Array Value} (h1 : Blk w g t cs) (hx : X w)
    (h : ∀ W, Blk W g t cs → X W → bodyPost P fn R x a W) : bodyPost P fn R x a w := h w h1 hx
/-- A slice of new bytes, laid behind the stores into the result. -/
theorem new_bytes {W1 S : World} (hsz : S.heap.size = W1.heap.size) (cs : Array Value) (l : List UInt8) (hl : cs.toList = l.map bv) : SlE (S.alloc (.cells cs 5)) 5 (some ⟨W1.heap.size, 0, none⟩) (l.map bv) := by
  have := SlE.new S cs 5
  rwa [hsz, hl] at this
theorem size8 (w : World) (g : Nat) (b0 b1 b2 b3 b4 b5 b6 b7 : Value) :
    ((((((((w.setCell ⟨g, 0, none⟩ b0).setCell ⟨g, 1, none⟩ b1).setCell ⟨g, 2, none⟩ b2).setCell ⟨g, 3, none⟩ b3).setCell ⟨g, 4, none⟩ b4).setCell ⟨g, 5, none⟩ b5).setCell ⟨g, 6, none⟩ b6).setCell ⟨g, 7, none⟩ b7).heap.size = w.heap.size := by simp
theorem layR_good (ps : List Part) : ((layR ps).sp.length : Int) = (layR ps).s ∧ (layR ps).s ≤ 1024 ∧ ((layR ps).al = 0 ∨ (layR ps).al = 1 ∨ (layR ps).al = 8) := by
  unfold layR
  by_cases hb : ps.any (fun p => !p.valid) = true
  · rw [if_pos hb]; exact ⟨rfl, by show (0 : Int) ≤ 1024; omega, .inl rfl⟩
  · rw [if_neg hb]
    have hv : ∀ p ∈ ps, p.valid = true := by
      intro p hp
      cases h : p.valid with
      | true => rfl
      | false => exact absurd (List.any_eq_true.2 ⟨p, hp, by rw [h]; rfl⟩) hb
    cases h : layGo Laid.start ps with
    | none => exact ⟨rfl, by show (0 : Int) ≤ 1024; omega, .inl rfl⟩
    | some L =>
      have := layGo_good ps hv _ _ _ Laid.good_start h
      exact ⟨this.sp, this.s1, .inr this.al⟩
theorem layR_of (ps : List Part) : (layR ps).of.length ≤ ps.length ∧ (layR ps).sp.length ≤ 1024 := by
  have hg := layR_good ps
  refine ⟨?_, by omega⟩
  by_cases hb : ps.any (fun p => !p.valid) = true
  · unfold layR; rw [if_pos hb]; simp
  · have hv : ∀ p ∈ ps, p.valid = true := by
      intro p hp
      cases h : p.valid with
      | true => rfl
      | false => exact absurd (List.any_eq_true.2 ⟨p, hp, by rw [h]; rfl⟩) hb
    cases hgo : layGo Laid.start ps with
    | none => rw [(layE_none hv hgo).2]; simp
    | some L =>
      rw [(layE_some hv hgo).2, (layGo_good ps hv _ _ _ Laid.good_start hgo).of]
      omega
theorem mk8 (w : World) : (Instr.makeSlice 27 (.int .i64 8) (.int .i64 8)).run Try.prog w = .ok (.slice (some ⟨w.heap.size, 0, none⟩) 8 8) (w.alloc (.cells #[.int .u8 0, .int .u8 0, .int .u8 0, .int .u8 0, .int .u8 0, .int .u8 0, .int .u8 0, .int .u8 0] 5)) := by kernel_rfl

set_option maxHeartbeats 6400000 in
set_option maxRecDepth 100000 in
theorem layout_any (n : Nat) : ∀ (g : Nat) (ls : List Int) (k : Nat) (w : World), Dice w g ls k → ls.length - k ≤ n → Calls Try.prog 22 #[.pointer (some ⟨g, 0, none⟩)] w (LayoutPost g ls k w) := by
  induction n with
  | zero =>
    intro g ls k w hd hfuel
    have hgl := hd.lt
    have hd0 := hd.alloc (.cells #[.int .i64 0, .int .i64 0, .slice none 0 0, .slice none 0 0, .slice none 0 0, .slice none 0 0, .slice none 0 0, .bool false] 31)
    have hblk0 := Blk.new w 31 #[.int .i64 0, .int .i64 0, .slice none 0 0, .slice none 0 0, .slice none 0 0, .slice none 0 0, .slice none 0 0, .bool false]
    have hg0 := grown_alloc (World.grownBy.refl w (some g)) (.cells #[.int .i64 0, .int .i64 0, .slice none 0 0, .slice none 0 0, .slice none 0 0, .slice none 0 0, .slice none 0 0, .bool false] 31)
    have hkl : k ≤ ls.length := by obtain ⟨_, _, _, _, _, h, _⟩ := hd; exact h
    clear hd
    go_enter Try.func22, Try.ntmps22
    go_wp2_with fail
    refine (next_lt g ls k 7 _ hd0 (by omega) (by omega)).mono ?_
    rintro e W1 ⟨r, k1, rfl, hr, hd1, hk1, hx1, hgn⟩
    have hblk := hblk0.grown hgn (fun e => by injection e with e; omega)
    have hg1 := grown_trans hg0 hgn
    have hk1l : k1 ≤ ls.length := by obtain ⟨_, _, _, _, _, h, _⟩ := hd1; exact h
    clear hd0 hblk0 hg0 hgn
    have hr6 : r ≤ 6 := by omega
    clear hr
    have hx4 : r ≠ 0 → k < k1 := fun h => by rcases Nat.lt_or_ge k k1 with h1 | h1; exact h1; exact absurd (hx1 (by omega)) h
    clear hx1
    rcases (show r = 0 ∨ r = 1 ∨ r = 2 ∨ r = 3 ∨ r = 4 ∨ r = 5 ∨ r = 6 by omega) with rfl | rfl | rfl | rfl | rfl | rfl | rfl
    · clear hx4
      have hmk := mk8 W1
      obtain ⟨S, hS⟩ : ∃ S, S = (((((((W1.setCell ⟨w.heap.size, 0, none⟩ (.int .i64 8)).setCell ⟨w.heap.size, 1, none⟩ (.int .i64 8)).setCell ⟨w.heap.size, 2, none⟩ (.slice (some ⟨W1.heap.size, 0, none⟩) 8 8)).setCell ⟨w.heap.size, 3, none⟩ (.slice none 0 0)).setCell ⟨w.heap.size, 4, none⟩ (.slice none 0 0)).setCell ⟨w.heap.size, 5, none⟩ (.slice none 0 0)).setCell ⟨w.heap.size, 6, none⟩ (.slice none 0 0)).setCell ⟨w.heap.size, 7, none⟩ (.bool false) := ⟨_, rfl⟩
      have hsz : S.heap.size = W1.heap.size := by rw [hS]; exact size8 _ _ (.int .i64 8) (.int .i64 8) (.slice (some ⟨W1.heap.size, 0, none⟩) 8 8) (.slice none 0 0) (.slice none 0 0) (.slice none 0 0) (.slice none 0 0) (.bool false)
      have h8 : W1.grownBy S (some w.heap.size) := by rw [hS]; exact only8 W1 w.heap.size (.int .i64 8) (.int .i64 8) (.slice (some ⟨W1.heap.size, 0, none⟩) 8 8) (.slice none 0 0) (.slice none 0 0) (.slice none 0 0) (.slice none 0 0) (.bool false)
      have hB : Blk S w.heap.size 31 #[.int .i64 8, .int .i64 8, .slice (some ⟨W1.heap.size, 0, none⟩) 8 8, .slice none 0 0, .slice none 0 0, .slice none 0 0, .slice none 0 0, .bool false] := by rw [hS]; exact hblk.set8 (.int .i64 8) (.int .i64 8) (.slice (some ⟨W1.heap.size, 0, none⟩) 8 8) (.slice none 0 0) (.slice none 0 0) (.slice none 0 0) (.slice none 0 0) (.bool false)
      have hDS : Dice S g ls k1 := hd1.far h8 (fun q hq => by injection hq with hq; omega)
      have hGS : w.grownBy S (some g) := grown_new hg1 h8 (fun q hq => by injection hq with hq; omega)
      have hX : LayoutPost g ls k w (.returned (⟨8, 8, some ⟨W1.heap.size, 0, none⟩, [0, 0, 0, 0, 0, 0, 0, 0], 8, .slice none 0 0, .slice none 0 0, .slice none 0 0, .slice none 0 0, .bool false⟩ : Part).val) (S.alloc (.cells #[.int .u8 0, .int .u8 0, .int .u8 0, .int .u8 0, .int .u8 0, .int .u8 0, .int .u8 0, .int .u8 0] 5)) := ⟨_, k1, rfl, ⟨(new_bytes hsz #[.int .u8 0, .int .u8 0, .int .u8 0, .int .u8 0, .int .u8 0, .int .u8 0, .int .u8 0, .int .u8 0] [0, 0, 0, 0, 0, 0, 0, 0] rfl), by simp, rfl, by simp, by simp, ⟨none, [], 0, rfl, .inl rfl, Nat.le_refl _, Nat.zero_le _⟩, rfl, rfl, rfl, ⟨_, rfl⟩⟩, hDS.alloc _, hk1, grown_alloc hGS _⟩
      have hB2 : Blk (S.alloc (.cells #[.int .u8 0, .int .u8 0, .int .u8 0, .int .u8 0, .int .u8 0, .int .u8 0, .int .u8 0, .int .u8 0] 5)) w.heap.size 31 #[.int .i64 8, .int .i64 8, .slice (some ⟨W1.heap.size, 0, none⟩) 8 8, .slice none 0 0, .slice none 0 0, .slice none 0 0, .slice none 0 0, .bool false] := hB.alloc _
      obtain ⟨⟨c0, c1, c2, c3, c4, c5, c6, c7⟩, hf⟩ := hblk.eight
      have hltR : w.heap.size < W1.heap.size := hblk.lt
      have hneR : ¬ W1.heap.size = w.heap.size := by omega
      have HX := Lib.hid hX
      have HB2 := Lib.hid hB2
      have HS := Lib.hid hS
      clear hS hsz h8 hB hDS hGS hX hB2 hblk hd1 hg1
      go_wp2
      rw [← HS.out]
      refine bodyPost_gen5 HB2.out HX.out ?_
      clear HB2 HX c0 c1 c2 c3 c4 c5 c6 c7 hf
      intro W hblkW hX
      obtain ⟨⟨c0, c1, c2, c3, c4, c5, c6, c7⟩, _⟩ := hblkW.eight
      exact bodyPost_ret (v := (⟨8, 8, some ⟨W1.heap.size, 0, none⟩, [0, 0, 0, 0, 0, 0, 0, 0], 8, .slice none 0 0, .slice none 0 0, .slice none 0 0, .slice none 0 0, .bool false⟩ : Part).val) (by simp [results, Try.results22, go_sem, Part.val, c0, c1, c2, c3, c4, c5, c6, c7]) rfl hX
    · clear hx4
      obtain ⟨S, hS⟩ : ∃ S, S = (((((((W1.setCell ⟨w.heap.size, 0, none⟩ (.int .i64 1)).setCell ⟨w.heap.size, 1, none⟩ (.int .i64 1)).setCell ⟨w.heap.size, 2, none⟩ (.slice (some ⟨W1.heap.size, 0, none⟩) 1 1)).setCell ⟨w.heap.size, 3, none⟩ (.slice none 0 0)).setCell ⟨w.heap.size, 4, none⟩ (.slice none 0 0)).setCell ⟨w.heap.size, 5, none⟩ (.slice none 0 0)).setCell ⟨w.heap.size, 6, none⟩ (.slice none 0 0)).setCell ⟨w.heap.size, 7, none⟩ (.bool false) := ⟨_, rfl⟩
      have hsz : S.heap.size = W1.heap.size := by rw [hS]; exact size8 _ _ (.int .i64 1) (.int .i64 1) (.slice (some ⟨W1.heap.size, 0, none⟩) 1 1) (.slice none 0 0) (.slice none 0 0) (.slice none 0 0) (.slice none 0 0) (.bool false)
      have h8 : W1.grownBy S (some w.heap.size) := by rw [hS]; exact only8 W1 w.heap.size (.int .i64 1) (.int .i64 1) (.slice (some ⟨W1.heap.size, 0, none⟩) 1 1) (.slice none 0 0) (.slice none 0 0) (.slice none 0 0) (.slice none 0 0) (.bool false)
      have hB : Blk S w.heap.size 31 #[.int .i64 1, .int .i64 1, .slice (some ⟨W1.heap.size, 0, none⟩) 1 1, .slice none 0 0, .slice none 0 0, .slice none 0 0, .slice none 0 0, .bool false] := by rw [hS]; exact hblk.set8 (.int .i64 1) (.int .i64 1) (.slice (some ⟨W1.heap.size, 0, none⟩) 1 1) (.slice none 0 0) (.slice none 0 0) (.slice none 0 0) (.slice none 0 0) (.bool false)
      have hDS : Dice S g ls k1 := hd1.far h8 (fun q hq => by injection hq with hq; omega)
      have hGS : w.grownBy S (some g) := grown_new hg1 h8 (fun q hq => by injection hq with hq; omega)
      have hX : LayoutPost g ls k w (.returned (⟨1, 1, some ⟨W1.heap.size, 0, none⟩, [0], 1, .slice none 0 0, .slice none 0 0, .slice none 0 0, .slice none 0 0, .bool false⟩ : Part).val) (S.alloc (.cells #[.int .u8 0] 5)) := ⟨_, k1, rfl, ⟨(new_bytes hsz #[.int .u8 0] [0] rfl), by simp, rfl, by simp, by simp, ⟨none, [], 0, rfl, .inl rfl, Nat.le_refl _, Nat.zero_le _⟩, rfl, rfl, rfl, ⟨_, rfl⟩⟩, hDS.alloc _, hk1, grown_alloc hGS _⟩
      have hB2 : Blk (S.alloc (.cells #[.int .u8 0] 5)) w.heap.size 31 #[.int .i64 1, .int .i64 1, .slice (some ⟨W1.heap.size, 0, none⟩) 1 1, .slice none 0 0, .slice none 0 0, .slice none 0 0, .slice none 0 0, .bool false] := hB.alloc _
      obtain ⟨⟨c0, c1, c2, c3, c4, c5, c6, c7⟩, hf⟩ := hblk.eight
      have hltR : w.heap.size < W1.heap.size := hblk.lt
      have hneR : ¬ W1.heap.size = w.heap.size := by omega
      have HX := Lib.hid hX
      have HB2 := Lib.hid hB2
      have HS := Lib.hid hS
      clear hS hsz h8 hB hDS hGS hX hB2 hblk hd1 hg1
      go_wp2
      rw [← HS.out]
      refine bodyPost_gen5 HB2.out HX.out ?_
      clear HB2 HX c0 c1 c2 c3 c4 c5 c6 c7 hf
      intro W hblkW hX
      obtain ⟨⟨c0, c1, c2, c3, c4, c5, c6, c7⟩, _⟩ := hblkW.eight
      exact bodyPost_ret (v := (⟨1, 1, some ⟨W1.heap.size, 0, none⟩, [0], 1, .slice none 0 0, .slice none 0 0, .slice none 0 0, .slice none 0 0, .bool false⟩ : Part).val) (by simp [results, Try.results22, go_sem, Part.val, c0, c1, c2, c3, c4, c5, c6, c7]) rfl hX
    · clear hx4
      obtain ⟨S, hS⟩ : ∃ S, S = (((((((W1.setCell ⟨w.heap.size, 0, none⟩ (.int .i64 1)).setCell ⟨w.heap.size, 1, none⟩ (.int .i64 1)).setCell ⟨w.heap.size, 2, none⟩ (.slice (some ⟨W1.heap.size, 0, none⟩) 1 1)).setCell ⟨w.heap.size, 3, none⟩ (.slice none 0 0)).setCell ⟨w.heap.size, 4, none⟩ (.slice none 0 0)).setCell ⟨w.heap.size, 5, none⟩ (.slice none 0 0)).setCell ⟨w.heap.size, 6, none⟩ (.slice none 0 0)).setCell ⟨w.heap.size, 7, none⟩ (.bool false) := ⟨_, rfl⟩
      have hsz : S.heap.size = W1.heap.size := by rw [hS]; exact size8 _ _ (.int .i64 1) (.int .i64 1) (.slice (some ⟨W1.heap.size, 0, none⟩) 1 1) (.slice none 0 0) (.slice none 0 0) (.slice none 0 0) (.slice none 0 0) (.bool false)
      have h8 : W1.grownBy S (some w.heap.size) := by rw [hS]; exact only8 W1 w.heap.size (.int .i64 1) (.int .i64 1) (.slice (some ⟨W1.heap.size, 0, none⟩) 1 1) (.slice none 0 0) (.slice none 0 0) (.slice none 0 0) (.slice none 0 0) (.bool false)
      have hB : Blk S w.heap.size 31 #[.int .i64 1, .int .i64 1, .slice (some ⟨W1.heap.size, 0, none⟩) 1 1, .slice none 0 0, .slice none 0 0, .slice none 0 0, .slice none 0 0, .bool false] := by rw [hS]; exact hblk.set8 (.int .i64 1) (.int .i64 1) (.slice (some ⟨W1.heap.size, 0, none⟩) 1 1) (.slice none 0 0) (.slice none 0 0) (.slice none 0 0) (.slice none 0 0) (.bool false)
      have hDS : Dice S g ls k1 := hd1.far h8 (fun q hq => by injection hq with hq; omega)
      have hGS : w.grownBy S (some g) := grown_new hg1 h8 (fun q hq => by injection hq with hq; omega)
      have hX : LayoutPost g ls k w (.returned (⟨1, 1, some ⟨W1.heap.size, 0, none⟩, [254], 1, .slice none 0 0, .slice none 0 0, .slice none 0 0, .slice none 0 0, .bool false⟩ : Part).val) (S.alloc (.cells #[.int .u8 254] 5)) := ⟨_, k1, rfl, ⟨(new_bytes hsz #[.int .u8 254] [254] rfl), by simp, rfl, by simp, by simp, ⟨none, [], 0, rfl, .inl rfl, Nat.le_refl _, Nat.zero_le _⟩, rfl, rfl, rfl, ⟨_, rfl⟩⟩, hDS.alloc _, hk1, grown_alloc hGS _⟩
      have hB2 : Blk (S.alloc (.cells #[.int .u8 254] 5)) w.heap.size 31 #[.int .i64 1, .int .i64 1, .slice (some ⟨W1.heap.size, 0, none⟩) 1 1, .slice none 0 0, .slice none 0 0, .slice none 0 0, .slice none 0 0, .bool false] := hB.alloc _
      obtain ⟨⟨c0, c1, c2, c3, c4, c5, c6, c7⟩, hf⟩ := hblk.eight
      have hltR : w.heap.size < W1.heap.size := hblk.lt
      have hneR : ¬ W1.heap.size = w.heap.size := by omega
      have HX := Lib.hid hX
      have HB2 := Lib.hid hB2
      have HS := Lib.hid hS
      clear hS hsz h8 hB hDS hGS hX hB2 hblk hd1 hg1
      go_wp2
      rw [← HS.out]
      refine bodyPost_gen5 HB2.out HX.out ?_
      clear HB2 HX c0 c1 c2 c3 c4 c5 c6 c7 hf
      intro W hblkW hX
      obtain ⟨⟨c0, c1, c2, c3, c4, c5, c6, c7⟩, _⟩ := hblkW.eight
      exact bodyPost_ret (v := (⟨1, 1, some ⟨W1.heap.size, 0, none⟩, [254], 1, .slice none 0 0, .slice none 0 0, .slice none 0 0, .slice none 0 0, .bool false⟩ : Part).val) (by simp [results, Try.results22, go_sem, Part.val, c0, c1, c2, c3, c4, c5, c6, c7]) rfl hX
    · clear hx4
      obtain ⟨S, hS⟩ : ∃ S, S = (((((((W1.setCell ⟨w.heap.size, 0, none⟩ (.int .i64 8)).setCell ⟨w.heap.size, 1, none⟩ (.int .i64 8)).setCell ⟨w.heap.size, 2, none⟩ (.slice (some ⟨W1.heap.size, 0, none⟩) 8 8)).setCell ⟨w.heap.size, 3, none⟩ (.slice none 0 0)).setCell ⟨w.heap.size, 4, none⟩ (.slice none 0 0)).setCell ⟨w.heap.size, 5, none⟩ (.slice none 0 0)).setCell ⟨w.heap.size, 6, none⟩ (.slice none 0 0)).setCell ⟨w.heap.size, 7, none⟩ (.bool true) := ⟨_, rfl⟩
      have hsz : S.heap.size = W1.heap.size := by rw [hS]; exact size8 _ _ (.int .i64 8) (.int .i64 8) (.slice (some ⟨W1.heap.size, 0, none⟩) 8 8) (.slice none 0 0) (.slice none 0 0) (.slice none 0 0) (.slice none 0 0) (.bool true)
      have h8 : W1.grownBy S (some w.heap.size) := by rw [hS]; exact only8 W1 w.heap.size (.int .i64 8) (.int .i64 8) (.slice (some ⟨W1.heap.size, 0, none⟩) 8 8) (.slice none 0 0) (.slice none 0 0) (.slice none 0 0) (.slice none 0 0) (.bool true)
      have hB : Blk S w.heap.size 31 #[.int .i64 8, .int .i64 8, .slice (some ⟨W1.heap.size, 0, none⟩) 8 8, .slice none 0 0, .slice none 0 0, .slice none 0 0, .slice none 0 0, .bool true] := by rw [hS]; exact hblk.set8 (.int .i64 8) (.int .i64 8) (.slice (some ⟨W1.heap.size, 0, none⟩) 8 8) (.slice none 0 0) (.slice none 0 0) (.slice none 0 0) (.slice none 0 0) (.bool true)
      have hDS : Dice S g ls k1 := hd1.far h8 (fun q hq => by injection hq with hq; omega)
      have hGS : w.grownBy S (some g) := grown_new hg1 h8 (fun q hq => by injection hq with hq; omega)
      have hX : LayoutPost g ls k w (.returned (⟨8, 8, some ⟨W1.heap.size, 0, none⟩, [7, 0, 0, 0, 0, 0, 255, 255], 8, .slice none 0 0, .slice none 0 0, .slice none 0 0, .slice none 0 0, .bool true⟩ : Part).val) (S.alloc (.cells #[.int .u8 7, .int .u8 0, .int .u8 0, .int .u8 0, .int .u8 0, .int .u8 0, .int .u8 255, .int .u8 255] 5)) := ⟨_, k1, rfl, ⟨(new_bytes hsz #[.int .u8 7, .int .u8 0, .int .u8 0, .int .u8 0, .int .u8 0, .int .u8 0, .int .u8 255, .int .u8 255] [7, 0, 0, 0, 0, 0, 255, 255] rfl), by simp, rfl, by simp, by simp, ⟨none, [], 0, rfl, .inl rfl, Nat.le_refl _, Nat.zero_le _⟩, rfl, rfl, rfl, ⟨_, rfl⟩⟩, hDS.alloc _, hk1, grown_alloc hGS _⟩
      have hB2 : Blk (S.alloc (.cells #[.int .u8 7, .int .u8 0, .int .u8 0, .int .u8 0, .int .u8 0, .int .u8 0, .int .u8 255, .int .u8 255] 5)) w.heap.size 31 #[.int .i64 8, .int .i64 8, .slice (some ⟨W1.heap.size, 0, none⟩) 8 8, .slice none 0 0, .slice none 0 0, .slice none 0 0, .slice none 0 0, .bool true] := hB.alloc _
      obtain ⟨⟨c0, c1, c2, c3, c4, c5, c6, c7⟩, hf⟩ := hblk.eight
      have hltR : w.heap.size < W1.heap.size := hblk.lt
      have hneR : ¬ W1.heap.size = w.heap.size := by omega
      have HX := Lib.hid hX
      have HB2 := Lib.hid hB2
      have HS := Lib.hid hS
      clear hS hsz h8 hB hDS hGS hX hB2 hblk hd1 hg1
      go_wp2
      rw [← HS.out]
      refine bodyPost_gen5 HB2.out HX.out ?_
      clear HB2 HX c0 c1 c2 c3 c4 c5 c6 c7 hf
      intro W hblkW hX
      obtain ⟨⟨c0, c1, c2, c3, c4, c5, c6, c7⟩, _⟩ := hblkW.eight
      exact bodyPost_ret (v := (⟨8, 8, some ⟨W1.heap.size, 0, none⟩, [7, 0, 0, 0, 0, 0, 255, 255], 8, .slice none 0 0, .slice none 0 0, .slice none 0 0, .slice none 0 0, .bool true⟩ : Part).val) (by simp [results, Try.results22, go_sem, Part.val, c0, c1, c2, c3, c4, c5, c6, c7]) rfl hX
    · exfalso
      have := hx4 (by decide)
      omega
    · clear hx4
      obtain ⟨S, hS⟩ : ∃ S, S = (((((((W1.setCell ⟨w.heap.size, 0, none⟩ (.int .i64 0)).setCell ⟨w.heap.size, 1, none⟩ (.int .i64 1)).setCell ⟨w.heap.size, 2, none⟩ (.slice (none) 0 0)).setCell ⟨w.heap.size, 3, none⟩ (.slice none 0 0)).setCell ⟨w.heap.size, 4, none⟩ (.slice none 0 0)).setCell ⟨w.heap.size, 5, none⟩ (.slice none 0 0)).setCell ⟨w.heap.size, 6, none⟩ (.slice none 0 0)).setCell ⟨w.heap.size, 7, none⟩ (.bool false) := ⟨_, rfl⟩
      have hsz : S.heap.size = W1.heap.size := by rw [hS]; exact size8 _ _ (.int .i64 0) (.int .i64 1) (.slice (none) 0 0) (.slice none 0 0) (.slice none 0 0) (.slice none 0 0) (.slice none 0 0) (.bool false)
      have h8 : W1.grownBy S (some w.heap.size) := by rw [hS]; exact only8 W1 w.heap.size (.int .i64 0) (.int .i64 1) (.slice (none) 0 0) (.slice none 0 0) (.slice none 0 0) (.slice none 0 0) (.slice none 0 0) (.bool false)
      have hB : Blk S w.heap.size 31 #[.int .i64 0, .int .i64 1, .slice (none) 0 0, .slice none 0 0, .slice none 0 0, .slice none 0 0, .slice none 0 0, .bool false] := by rw [hS]; exact hblk.set8 (.int .i64 0) (.int .i64 1) (.slice (none) 0 0) (.slice none 0 0) (.slice none 0 0) (.slice none 0 0) (.slice none 0 0) (.bool false)
      have hDS : Dice S g ls k1 := hd1.far h8 (fun q hq => by injection hq with hq; omega)
      have hGS : w.grownBy S (some g) := grown_new hg1 h8 (fun q hq => by injection hq with hq; omega)
      have hX : LayoutPost g ls k w (.returned (⟨0, 1, none, [], 0, .slice none 0 0, .slice none 0 0, .slice none 0 0, .slice none 0 0, .bool false⟩ : Part).val) (S) := ⟨_, k1, rfl, ⟨.inl rfl, by simp, rfl, by simp, by simp, ⟨none, [], 0, rfl, .inl rfl, Nat.le_refl _, Nat.zero_le _⟩, rfl, rfl, rfl, ⟨_, rfl⟩⟩, hDS, hk1, hGS⟩
      have hB2 : Blk (S) w.heap.size 31 #[.int .i64 0, .int .i64 1, .slice (none) 0 0, .slice none 0 0, .slice none 0 0, .slice none 0 0, .slice none 0 0, .bool false] := hB
      obtain ⟨⟨c0, c1, c2, c3, c4, c5, c6, c7⟩, hf⟩ := hblk.eight
      have hltR : w.heap.size < W1.heap.size := hblk.lt
      have hneR : ¬ W1.heap.size = w.heap.size := by omega
      have HX := Lib.hid hX
      have HB2 := Lib.hid hB2
      have HS := Lib.hid hS
      clear hS hsz h8 hB hDS hGS hX hB2 hblk hd1 hg1
      go_wp2
      rw [← HS.out]
      refine bodyPost_gen5 HB2.out HX.out ?_
      clear HB2 HX c0 c1 c2 c3 c4 c5 c6 c7 hf
      intro W hblkW hX
      obtain ⟨⟨c0, c1, c2, c3, c4, c5, c6, c7⟩, _⟩ := hblkW.eight
      exact bodyPost_ret (v := (⟨0, 1, none, [], 0, .slice none 0 0, .slice none 0 0, .slice none 0 0, .slice none 0 0, .bool false⟩ : Part).val) (by simp [results, Try.results22, go_sem, Part.val, c0, c1, c2, c3, c4, c5, c6, c7]) rfl hX
    · clear hx4
      go_wp2_with fail
      refine (bytes_any g ls k1 12 _ hd1 (by omega)).mono ?_
      rintro e W2 ⟨l, A, c, k2, rfl, hl, own2, hd2, hk2, hg2⟩
      have hblk2 := hblk.grown hg2 (fun e => by injection e with e; omega)
      have hsl2 := SlE.of_own own2
      have capl := own_cap own2
      have hg12 := grown_trans hg1 hg2
      clear own2 hd1 hg1 hg2 hblk
      go_wp2_with fail
      refine (next_lt g ls k2 2 _ hd2 (by omega) (by omega)).mono ?_
      rintro e W3 ⟨r2, k3, rfl, hr2, hd3, hk3, hx3, hg3⟩
      obtain ⟨ds, hds⟩ := hd2.cells
      have hsl3 := hsl2.grown hg3 hds (by decide)
      have hblk3 := hblk2.grown hg3 (fun e => by injection e with e; omega)
      have hg13 := grown_trans hg12 hg3
      have hr2' : r2 ≤ 1 := by omega
      clear hx3 hd2 hds hsl2 hblk2 hg12 hg3 hr2
      obtain ⟨S, hS⟩ : ∃ S, S = (((((((W3.setCell ⟨w.heap.size, 0, none⟩ (.int .i64 (l.length : Int))).setCell ⟨w.heap.size, 1, none⟩ (.int .i64 (1 + 7 * (r2 : Int)))).setCell ⟨w.heap.size, 2, none⟩ (.slice A l.length c)).setCell ⟨w.heap.size, 3, none⟩ (.slice none 0 0)).setCell ⟨w.heap.size, 4, none⟩ (.slice none 0 0)).setCell ⟨w.heap.size, 5, none⟩ (.slice none 0 0)).setCell ⟨w.heap.size, 6, none⟩ (.slice none 0 0)).setCell ⟨w.heap.size, 7, none⟩ (.bool false) := ⟨_, rfl⟩
      have hsz : S.heap.size = W3.heap.size := by rw [hS]; exact size8 _ _ (.int .i64 (l.length : Int)) (.int .i64 (1 + 7 * (r2 : Int))) (.slice A l.length c) (.slice none 0 0) (.slice none 0 0) (.slice none 0 0) (.slice none 0 0) (.bool false)
      have h8 : W3.grownBy S (some w.heap.size) := by rw [hS]; exact only8 W3 w.heap.size (.int .i64 (l.length : Int)) (.int .i64 (1 + 7 * (r2 : Int))) (.slice A l.length c) (.slice none 0 0) (.slice none 0 0) (.slice none 0 0) (.slice none 0 0) (.bool false)
      have hB : Blk S w.heap.size 31 #[.int .i64 (l.length : Int), .int .i64 (1 + 7 * (r2 : Int)), .slice A l.length c, .slice none 0 0, .slice none 0 0, .slice none 0 0, .slice none 0 0, .bool false] := by rw [hS]; exact hblk3.set8 (.int .i64 (l.length : Int)) (.int .i64 (1 + 7 * (r2 : Int))) (.slice A l.length c) (.slice none 0 0) (.slice none 0 0) (.slice none 0 0) (.slice none 0 0) (.bool false)
      have hDS : Dice S g ls k3 := hd3.far h8 (fun q hq => by injection hq with hq; omega)
      have hGS : w.grownBy S (some g) := grown_new hg13 h8 (fun q hq => by injection hq with hq; omega)
      have hX : LayoutPost g ls k w (.returned (⟨l.length, 1 + 7 * (r2 : Int), A, l, c, .slice none 0 0, .slice none 0 0, .slice none 0 0, .slice none 0 0, .bool false⟩ : Part).val) (S) := ⟨_, k3, rfl, ⟨hsl3.grown h8 hblk3 (by decide), capl, rfl, by show (l.length : Int) ≤ 1024; omega, by show 1 + 7 * (r2 : Int) = 0 ∨ 1 + 7 * (r2 : Int) = 1 ∨ 1 + 7 * (r2 : Int) = 8; omega, ⟨none, [], 0, rfl, .inl rfl, Nat.le_refl _, Nat.zero_le _⟩, rfl, rfl, rfl, ⟨_, rfl⟩⟩, hDS, by omega, hGS⟩
      have hB2 : Blk (S) w.heap.size 31 #[.int .i64 (l.length : Int), .int .i64 (1 + 7 * (r2 : Int)), .slice A l.length c, .slice none 0 0, .slice none 0 0, .slice none 0 0, .slice none 0 0, .bool false] := hB
      obtain ⟨⟨c0, c1, c2, c3, c4, c5, c6, c7⟩, hf⟩ := hblk3.eight
      have hltR : w.heap.size < W3.heap.size := hblk3.lt
      have hneR : ¬ W3.heap.size = w.heap.size := by omega
      have HX := Lib.hid hX
      have HB2 := Lib.hid hB2
      have HS := Lib.hid hS
      clear hS hsz h8 hB hDS hGS hX hB2 hblk3 hd3 hg13 hsl3
      go_wp2
      rw [← HS.out]
      refine bodyPost_gen5 HB2.out HX.out ?_
      clear HB2 HX c0 c1 c2 c3 c4 c5 c6 c7 hf
      intro W hblkW hX
      obtain ⟨⟨c0, c1, c2, c3, c4, c5, c6, c7⟩, _⟩ := hblkW.eight
      exact bodyPost_ret (v := (⟨l.length, 1 + 7 * (r2 : Int), A, l, c, .slice none 0 0, .slice none 0 0, .slice none 0 0, .slice none 0 0, .bool false⟩ : Part).val) (by simp [results, Try.results22, go_sem, Part.val, c0, c1, c2, c3, c4, c5, c6, c7]) rfl hX
  | succ n ih =>
    intro g ls k w hd hfuel
    have hgl := hd.lt
    have hd0 := hd.alloc (.cells #[.int .i64 0, .int .i64 0, .slice none 0 0, .slice none 0 0, .slice none 0 0, .slice none 0 0, .slice none 0 0, .bool false] 31)
    have hblk0 := Blk.new w 31 #[.int .i64 0, .int .i64 0, .slice none 0 0, .slice none 0 0, .slice none 0 0, .slice none 0 0, .slice none 0 0, .bool false]
    have hg0 := grown_alloc (World.grownBy.refl w (some g)) (.cells #[.int .i64 0, .int .i64 0, .slice none 0 0, .slice none 0 0, .slice none 0 0, .slice none 0 0, .slice none 0 0, .bool false] 31)
    have hkl : k ≤ ls.length := by obtain ⟨_, _, _, _, _, h, _⟩ := hd; exact h
    clear hd
    go_enter Try.func22, Try.ntmps22
    go_wp2_with fail
    refine (next_lt g ls k 7 _ hd0 (by omega) (by omega)).mono ?_
    rintro e W1 ⟨r, k1, rfl, hr, hd1, hk1, hx1, hgn⟩
    have hblk := hblk0.grown hgn (fun e => by injection e with e; omega)
    have hg1 := grown_trans hg0 hgn
    have hk1l : k1 ≤ ls.length := by obtain ⟨_, _, _, _, _, h, _⟩ := hd1; exact h
    clear hd0 hblk0 hg0 hgn
    have hr6 : r ≤ 6 := by omega
    clear hr
    have hx4 : r ≠ 0 → k < k1 := fun h => by rcases Nat.lt_or_ge k k1 with h1 | h1; exact h1; exact absurd (hx1 (by omega)) h
    clear hx1
    rcases (show r = 0 ∨ r = 1 ∨ r = 2 ∨ r = 3 ∨ r = 4 ∨ r = 5 ∨ r = 6 by omega) with rfl | rfl | rfl | rfl | rfl | rfl | rfl
    · clear hx4
      have hmk := mk8 W1
      obtain ⟨S, hS⟩ : ∃ S, S = (((((((W1.setCell ⟨w.heap.size, 0, none⟩ (.int .i64 8)).setCell ⟨w.heap.size, 1, none⟩ (.int .i64 8)).setCell ⟨w.heap.size, 2, none⟩ (.slice (some ⟨W1.heap.size, 0, none⟩) 8 8)).setCell ⟨w.heap.size, 3, none⟩ (.slice none 0 0)).setCell ⟨w.heap.size, 4, none⟩ (.slice none 0 0)).setCell ⟨w.heap.size, 5, none⟩ (.slice none 0 0)).setCell ⟨w.heap.size, 6, none⟩ (.slice none 0 0)).setCell ⟨w.heap.size, 7, none⟩ (.bool false) := ⟨_, rfl⟩
      have hsz : S.heap.size = W1.heap.size := by rw [hS]; exact size8 _ _ (.int .i64 8) (.int .i64 8) (.slice (some ⟨W1.heap.size, 0, none⟩) 8 8) (.slice none 0 0) (.slice none 0 0) (.slice none 0 0) (.slice none 0 0) (.bool false)
      have h8 : W1.grownBy S (some w.heap.size) := by rw [hS]; exact only8 W1 w.heap.size (.int .i64 8) (.int .i64 8) (.slice (some ⟨W1.heap.size, 0, none⟩) 8 8) (.slice none 0 0) (.slice none 0 0) (.slice none 0 0) (.slice none 0 0) (.bool false)
      have hB : Blk S w.heap.size 31 #[.int .i64 8, .int .i64 8, .slice (some ⟨W1.heap.size, 0, none⟩) 8 8, .slice none 0 0, .slice none 0 0, .slice none 0 0, .slice none 0 0, .bool false] := by rw [hS]; exact hblk.set8 (.int .i64 8) (.int .i64 8) (.slice (some ⟨W1.heap.size, 0, none⟩) 8 8) (.slice none 0 0) (.slice none 0 0) (.slice none 0 0) (.slice none 0 0) (.bool false)
      have hDS : Dice S g ls k1 := hd1.far h8 (fun q hq => by injection hq with hq; omega)
      have hGS : w.grownBy S (some g) := grown_new hg1 h8 (fun q hq => by injection hq with hq; omega)
      have hX : LayoutPost g ls k w (.returned (⟨8, 8, some ⟨W1.heap.size, 0, none⟩, [0, 0, 0, 0, 0, 0, 0, 0], 8, .slice none 0 0, .slice none 0 0, .slice none 0 0, .slice none 0 0, .bool false⟩ : Part).val) (S.alloc (.cells #[.int .u8 0, .int .u8 0, .int .u8 0, .int .u8 0, .int .u8 0, .int .u8 0, .int .u8 0, .int .u8 0] 5)) := ⟨_, k1, rfl, ⟨(new_bytes hsz #[.int .u8 0, .int .u8 0, .int .u8 0, .int .u8 0, .int .u8 0, .int .u8 0, .int .u8 0, .int .u8 0] [0, 0, 0, 0, 0, 0, 0, 0] rfl), by simp, rfl, by simp, by simp, ⟨none, [], 0, rfl, .inl rfl, Nat.le_refl _, Nat.zero_le _⟩, rfl, rfl, rfl, ⟨_, rfl⟩⟩, hDS.alloc _, hk1, grown_alloc hGS _⟩
      have hB2 : Blk (S.alloc (.cells #[.int .u8 0, .int .u8 0, .int .u8 0, .int .u8 0, .int .u8 0, .int .u8 0, .int .u8 0, .int .u8 0] 5)) w.heap.size 31 #[.int .i64 8, .int .i64 8, .slice (some ⟨W1.heap.size, 0, none⟩) 8 8, .slice none 0 0, .slice none 0 0, .slice none 0 0, .slice none 0 0, .bool false] := hB.alloc _
      obtain ⟨⟨c0, c1, c2, c3, c4, c5, c6, c7⟩, hf⟩ := hblk.eight
      have hltR : w.heap.size < W1.heap.size := hblk.lt
      have hneR : ¬ W1.heap.size = w.heap.size := by omega
      have HX := Lib.hid hX
      have HB2 := Lib.hid hB2
      have HS := Lib.hid hS
      clear hS hsz h8 hB hDS hGS hX hB2 hblk hd1 hg1
      go_wp2
      rw [← HS.out]
      refine bodyPost_gen5 HB2.out HX.out ?_
      clear HB2 HX c0 c1 c2 c3 c4 c5 c6 c7 hf
      intro W hblkW hX
      obtain ⟨⟨c0, c1, c2, c3, c4, c5, c6, c7⟩, _⟩ := hblkW.eight
      exact bodyPost_ret (v := (⟨8, 8, some ⟨W1.heap.size, 0, none⟩, [0, 0, 0, 0, 0, 0, 0, 0], 8, .slice none 0 0, .slice none 0 0, .slice none 0 0, .slice none 0 0, .bool false⟩ : Part).val) (by simp [results, Try.results22, go_sem, Part.val, c0, c1, c2, c3, c4, c5, c6, c7]) rfl hX
    · clear hx4
      obtain ⟨S, hS⟩ : ∃ S, S = (((((((W1.setCell ⟨w.heap.size, 0, none⟩ (.int .i64 1)).setCell ⟨w.heap.size, 1, none⟩ (.int .i64 1)).setCell ⟨w.heap.size, 2, none⟩ (.slice (some ⟨W1.heap.size, 0, none⟩) 1 1)).setCell ⟨w.heap.size, 3, none⟩ (.slice none 0 0)).setCell ⟨w.heap.size, 4, none⟩ (.slice none 0 0)).setCell ⟨w.heap.size, 5, none⟩ (.slice none 0 0)).setCell ⟨w.heap.size, 6, none⟩ (.slice none 0 0)).setCell ⟨w.heap.size, 7, none⟩ (.bool false) := ⟨_, rfl⟩
      have hsz : S.heap.size = W1.heap.size := by rw [hS]; exact size8 _ _ (.int .i64 1) (.int .i64 1) (.slice (some ⟨W1.heap.size, 0, none⟩) 1 1) (.slice none 0 0) (.slice none 0 0) (.slice none 0 0) (.slice none 0 0) (.bool false)
      have h8 : W1.grownBy S (some w.heap.size) := by rw [hS]; exact only8 W1 w.heap.size (.int .i64 1) (.int .i64 1) (.slice (some ⟨W1.heap.size, 0, none⟩) 1 1) (.slice none 0 0) (.slice none 0 0) (.slice none 0 0) (.slice none 0 0) (.bool false)
      have hB : Blk S w.heap.size 31 #[.int .i64 1, .int .i64 1, .slice (some ⟨W1.heap.size, 0, none⟩) 1 1, .slice none 0 0, .slice none 0 0, .slice none 0 0, .slice none 0 0, .bool false] := by rw [hS]; exact hblk.set8 (.int .i64 1) (.int .i64 1) (.slice (some ⟨W1.heap.size, 0, none⟩) 1 1) (.slice none 0 0) (.slice none 0 0) (.slice none 0 0) (.slice none 0 0) (.bool false)
      have hDS : Dice S g ls k1 := hd1.far h8 (fun q hq => by injection hq with hq; omega)
      have hGS : w.grownBy S (some g) := grown_new hg1 h8 (fun q hq => by injection hq with hq; omega)
      have hX : LayoutPost g ls k w (.returned (⟨1, 1, some ⟨W1.heap.size, 0, none⟩, [0], 1, .slice none 0 0, .slice none 0 0, .slice none 0 0, .slice none 0 0, .bool false⟩ : Part).val) (S.alloc (.cells #[.int .u8 0] 5)) := ⟨_, k1, rfl, ⟨(new_bytes hsz #[.int .u8 0] [0] rfl), by simp, rfl, by simp, by simp, ⟨none, [], 0, rfl, .inl rfl, Nat.le_refl _, Nat.zero_le _⟩, rfl, rfl, rfl, ⟨_, rfl⟩⟩, hDS.alloc _, hk1, grown_alloc hGS _⟩
      have hB2 : Blk (S.alloc (.cells #[.int .u8 0] 5)) w.heap.size 31 #[.int .i64 1, .int .i64 1, .slice (some ⟨W1.heap.size, 0, none⟩) 1 1, .slice none 0 0, .slice none 0 0, .slice none 0 0, .slice none 0 0, .bool false] := hB.alloc _
      obtain ⟨⟨c0, c1, c2, c3, c4, c5, c6, c7⟩, hf⟩ := hblk.eight
      have hltR : w.heap.size < W1.heap.size := hblk.lt
      have hneR : ¬ W1.heap.size = w.heap.size := by omega
      have HX := Lib.hid hX
      have HB2 := Lib.hid hB2
      have HS := Lib.hid hS
      clear hS hsz h8 hB hDS hGS hX hB2 hblk hd1 hg1
      go_wp2
      rw [← HS.out]
      refine bodyPost_gen5 HB2.out HX.out ?_
      clear HB2 HX c0 c1 c2 c3 c4 c5 c6 c7 hf
      intro W hblkW hX
      obtain ⟨⟨c0, c1, c2, c3, c4, c5, c6, c7⟩, _⟩ := hblkW.eight
      exact bodyPost_ret (v := (⟨1, 1, some ⟨W1.heap.size, 0, none⟩, [0], 1, .slice none 0 0, .slice none 0 0, .slice none 0 0, .slice none 0 0, .bool false⟩ : Part).val) (by simp [results, Try.results22, go_sem, Part.val, c0, c1, c2, c3, c4, c5, c6, c7]) rfl hX
    · clear hx4
      obtain ⟨S, hS⟩ : ∃ S, S = (((((((W1.setCell ⟨w.heap.size, 0, none⟩ (.int .i64 1)).setCell ⟨w.heap.size, 1, none⟩ (.int .i64 1)).setCell ⟨w.heap.size, 2, none⟩ (.slice (some ⟨W1.heap.size, 0, none⟩) 1 1)).setCell ⟨w.heap.size, 3, none⟩ (.slice none 0 0)).setCell ⟨w.heap.size, 4, none⟩ (.slice none 0 0)).setCell ⟨w.heap.size, 5, none⟩ (.slice none 0 0)).setCell ⟨w.heap.size, 6, none⟩ (.slice none 0 0)).setCell ⟨w.heap.size, 7, none⟩ (.bool false) := ⟨_, rfl⟩
      have hsz : S.heap.size = W1.heap.size := by rw [hS]; exact size8 _ _ (.int .i64 1) (.int .i64 1) (.slice (some ⟨W1.heap.size, 0, none⟩) 1 1) (.slice none 0 0) (.slice none 0 0) (.slice none 0 0) (.slice none 0 0) (.bool false)
      have h8 : W1.grownBy S (some w.heap.size) := by rw [hS]; exact only8 W1 w.heap.size (.int .i64 1) (.int .i64 1) (.slice (some ⟨W1.heap.size, 0, none⟩) 1 1) (.slice none 0 0) (.slice none 0 0) (.slice none 0 0) (.slice none 0 0) (.bool false)
      have hB : Blk S w.heap.size 31 #[.int .i64 1, .int .i64 1, .slice (some ⟨W1.heap.size, 0, none⟩) 1 1, .slice none 0 0, .slice none 0 0, .slice none 0 0, .slice none 0 0, .bool false] := by rw [hS]; exact hblk.set8 (.int .i64 1) (.int .i64 1) (.slice (some ⟨W1.heap.size, 0, none⟩) 1 1) (.slice none 0 0) (.slice none 0 0) (.slice none 0 0) (.slice none 0 0) (.bool false)
      have hDS : Dice S g ls k1 := hd1.far h8 (fun q hq => by injection hq with hq; omega)
      have hGS : w.grownBy S (some g) := grown_new hg1 h8 (fun q hq => by injection hq with hq; omega)
      have hX : LayoutPost g ls k w (.returned (⟨1, 1, some ⟨W1.heap.size, 0, none⟩, [254], 1, .slice none 0 0, .slice none 0 0, .slice none 0 0, .slice none 0 0, .bool false⟩ : Part).val) (S.alloc (.cells #[.int .u8 254] 5)) := ⟨_, k1, rfl, ⟨(new_bytes hsz #[.int .u8 254] [254] rfl), by simp, rfl, by simp, by simp, ⟨none, [], 0, rfl, .inl rfl, Nat.le_refl _, Nat.zero_le _⟩, rfl, rfl, rfl, ⟨_, rfl⟩⟩, hDS.alloc _, hk1, grown_alloc hGS _⟩
      have hB2 : Blk (S.alloc (.cells #[.int .u8 254] 5)) w.heap.size 31 #[.int .i64 1, .int .i64 1, .slice (some ⟨W1.heap.size, 0, none⟩) 1 1, .slice none 0 0, .slice none 0 0, .slice none 0 0, .slice none 0 0, .bool false] := hB.alloc _
      obtain ⟨⟨c0, c1, c2, c3, c4, c5, c6, c7⟩, hf⟩ := hblk.eight
      have hltR : w.heap.size < W1.heap.size := hblk.lt
      have hneR : ¬ W1.heap.size = w.heap.size := by omega
      have HX := Lib.hid hX
      have HB2 := Lib.hid hB2
      have HS := Lib.hid hS
      clear hS hsz h8 hB hDS hGS hX hB2 hblk hd1 hg1
      go_wp2
      rw [← HS.out]
      refine bodyPost_gen5 HB2.out HX.out ?_
      clear HB2 HX c0 c1 c2 c3 c4 c5 c6 c7 hf
      intro W hblkW hX
      obtain ⟨⟨c0, c1, c2, c3, c4, c5, c6, c7⟩, _⟩ := hblkW.eight
      exact bodyPost_ret (v := (⟨1, 1, some ⟨W1.heap.size, 0, none⟩, [254], 1, .slice none 0 0, .slice none 0 0, .slice none 0 0, .slice none 0 0, .bool false⟩ : Part).val) (by simp [results, Try.results22, go_sem, Part.val, c0, c1, c2, c3, c4, c5, c6, c7]) rfl hX
    · clear hx4
      obtain ⟨S, hS⟩ : ∃ S, S = (((((((W1.setCell ⟨w.heap.size, 0, none⟩ (.int .i64 8)).setCell ⟨w.heap.size, 1, none⟩ (.int .i64 8)).setCell ⟨w.heap.size, 2, none⟩ (.slice (some ⟨W1.heap.size, 0, none⟩) 8 8)).setCell ⟨w.heap.size, 3, none⟩ (.slice none 0 0)).setCell ⟨w.heap.size, 4, none⟩ (.slice none 0 0)).setCell ⟨w.heap.size, 5, none⟩ (.slice none 0 0)).setCell ⟨w.heap.size, 6, none⟩ (.slice none 0 0)).setCell ⟨w.heap.size, 7, none⟩ (.bool true) := ⟨_, rfl⟩
      have hsz : S.heap.size = W1.heap.size := by rw [hS]; exact size8 _ _ (.int .i64 8) (.int .i64 8) (.slice (some ⟨W1.heap.size, 0, none⟩) 8 8) (.slice none 0 0) (.slice none 0 0) (.slice none 0 0) (.slice none 0 0) (.bool true)
      have h8 : W1.grownBy S (some w.heap.size) := by rw [hS]; exact only8 W1 w.heap.size (.int .i64 8) (.int .i64 8) (.slice (some ⟨W1.heap.size, 0, none⟩) 8 8) (.slice none 0 0) (.slice none 0 0) (.slice none 0 0) (.slice none 0 0) (.bool true)
      have hB : Blk S w.heap.size 31 #[.int .i64 8, .int .i64 8, .slice (some ⟨W1.heap.size, 0, none⟩) 8 8, .slice none 0 0, .slice none 0 0, .slice none 0 0, .slice none 0 0, .bool true] := by rw [hS]; exact hblk.set8 (.int .i64 8) (.int .i64 8) (.slice (some ⟨W1.heap.size, 0, none⟩) 8 8) (.slice none 0 0) (.slice none 0 0) (.slice none 0 0) (.slice none 0 0) (.bool true)
      have hDS : Dice S g ls k1 := hd1.far h8 (fun q hq => by injection hq with hq; omega)
      have hGS : w.grownBy S (some g) := grown_new hg1 h8 (fun q hq => by injection hq with hq; omega)
      have hX : LayoutPost g ls k w (.returned (⟨8, 8, some ⟨W1.heap.size, 0, none⟩, [7, 0, 0, 0, 0, 0, 255, 255], 8, .slice none 0 0, .slice none 0 0, .slice none 0 0, .slice none 0 0, .bool true⟩ : Part).val) (S.alloc (.cells #[.int .u8 7, .int .u8 0, .int .u8 0, .int .u8 0, .int .u8 0, .int .u8 0, .int .u8 255, .int .u8 255] 5)) := ⟨_, k1, rfl, ⟨(new_bytes hsz #[.int .u8 7, .int .u8 0, .int .u8 0, .int .u8 0, .int .u8 0, .int .u8 0, .int .u8 255, .int .u8 255] [7, 0, 0, 0, 0, 0, 255, 255] rfl), by simp, rfl, by simp, by simp, ⟨none, [], 0, rfl, .inl rfl, Nat.le_refl _, Nat.zero_le _⟩, rfl, rfl, rfl, ⟨_, rfl⟩⟩, hDS.alloc _, hk1, grown_alloc hGS _⟩
      have hB2 : Blk (S.alloc (.cells #[.int .u8 7, .int .u8 0, .int .u8 0, .int .u8 0, .int .u8 0, .int .u8 0, .int .u8 255, .int .u8 255] 5)) w.heap.size 31 #[.int .i64 8, .int .i64 8, .slice (some ⟨W1.heap.size, 0, none⟩) 8 8, .slice none 0 0, .slice none 0 0, .slice none 0 0, .slice none 0 0, .bool true] := hB.alloc _
      obtain ⟨⟨c0, c1, c2, c3, c4, c5, c6, c7⟩, hf⟩ := hblk.eight
      have hltR : w.heap.size < W1.heap.size := hblk.lt
      have hneR : ¬ W1.heap.size = w.heap.size := by omega
      have HX := Lib.hid hX
      have HB2 := Lib.hid hB2
      have HS := Lib.hid hS
      clear hS hsz h8 hB hDS hGS hX hB2 hblk hd1 hg1
      go_wp2
      rw [← HS.out]
      refine bodyPost_gen5 HB2.out HX.out ?_
      clear HB2 HX c0 c1 c2 c3 c4 c5 c6 c7 hf
      intro W hblkW hX
      obtain ⟨⟨c0, c1, c2, c3, c4, c5, c6, c7⟩, _⟩ := hblkW.eight
      exact bodyPost_ret (v := (⟨8, 8, some ⟨W1.heap.size, 0, none⟩, [7, 0, 0, 0, 0, 0, 255, 255], 8, .slice none 0 0, .slice none 0 0, .slice none 0 0, .slice none 0 0, .bool true⟩ : Part).val) (by simp [results, Try.results22, go_sem, Part.val, c0, c1, c2, c3, c4, c5, c6, c7]) rfl hX
    · have hk1k := hx4 (by decide)
      clear hx4
      go_wp2_with fail
      refine (ih g ls k1 _ hd1 (by omega)).mono ?_
      rintro e W2 ⟨⟨s1, al1, A1, sp1, c1, x31, x41, x51, x61, x71⟩, k2, he, m1, hd2, hk2, hg2⟩
      have he' : e = .returned (.agg #[.int .i64 s1, .int .i64 al1, .slice A1 sp1.length c1, x31, x41, x51, x61, x71]) := he
      subst he'
      clear he
      have hblk2 := hblk.grown hg2 (fun e => by injection e with e; omega)
      have hg12 := grown_trans hg1 hg2
      clear hd1 hg1 hg2 hblk
      go_wp2_with fail
      refine (ih g ls k2 _ hd2 (by omega)).mono ?_
      rintro e W3 ⟨⟨s2, al2, A2, sp2, c2, x32, x42, x52, x62, x72⟩, k3, he, m2, hd3, hk3, hg3⟩
      have he' : e = .returned (.agg #[.int .i64 s2, .int .i64 al2, .slice A2 sp2.length c2, x32, x42, x52, x62, x72]) := he
      subst he'
      clear he
      obtain ⟨ds, hds⟩ := hd2.cells
      have m1' := m1.grown hg3 hds (by decide) (by decide)
      have hblk3 := hblk2.grown hg3 (fun e => by injection e with e; omega)
      have hg13 := grown_trans hg12 hg3
      clear hd2 hds m1 hblk2 hg12 hg3
      have hgl3 : g < W3.heap.size := hd3.lt
      have b3 := (Below.refl W3.heap.size W3).alloc (Nat.le_refl _) (.cells #[.int .i64 s1, .int .i64 al1, .slice A1 sp1.length c1, x31, x41, x51, x61, x71, .int .i64 s2, .int .i64 al2, .slice A2 sp2.length c2, x32, x42, x52, x62, x72] 31)
      have hps : Parts (W3.alloc (.cells #[.int .i64 s1, .int .i64 al1, .slice A1 sp1.length c1, x31, x41, x51, x61, x71, .int .i64 s2, .int .i64 al2, .slice A2 sp2.length c2, x32, x42, x52, x62, x72] 31)) (some ⟨W3.heap.size, 0, none⟩) [(⟨s1, al1, A1, sp1, c1, x31, x41, x51, x61, x71⟩ : Part), (⟨s2, al2, A2, sp2, c2, x32, x42, x52, x62, x72⟩ : Part)] := Sl.new W3 #[.int .i64 s1, .int .i64 al1, .slice A1 sp1.length c1, x31, x41, x51, x61, x71, .int .i64 s2, .int .i64 al2, .slice A2 sp2.length c2, x32, x42, x52, x62, x72] 31
      have hspp : ∀ p ∈ [(⟨s1, al1, A1, sp1, c1, x31, x41, x51, x61, x71⟩ : Part), (⟨s2, al2, A2, sp2, c2, x32, x42, x52, x62, x72⟩ : Part)], Sl (W3.alloc (.cells #[.int .i64 s1, .int .i64 al1, .slice A1 sp1.length c1, x31, x41, x51, x61, x71, .int .i64 s2, .int .i64 al2, .slice A2 sp2.length c2, x32, x42, x52, x62, x72] 31)) p.A (p.sp.map bv) := by
        intro p hp
        simp only [List.mem_cons, List.not_mem_nil, or_false] at hp
        rcases hp with rfl | rfl
        · exact (m1'.sp.below b3).sl
        · exact (m2.sp.below b3).sl
      have honep : ∀ p ∈ [(⟨s1, al1, A1, sp1, c1, x31, x41, x51, x61, x71⟩ : Part), (⟨s2, al2, A2, sp2, c2, x32, x42, x52, x62, x72⟩ : Part)], p.one := by
        intro p hp
        simp only [List.mem_cons, List.not_mem_nil, or_false] at hp
        rcases hp with rfl | rfl
        · exact m1'.one
        · exact m2.one
      have hd4 := hd3.alloc (.cells #[.int .i64 s1, .int .i64 al1, .slice A1 sp1.length c1, x31, x41, x51, x61, x71, .int .i64 s2, .int .i64 al2, .slice A2 sp2.length c2, x32, x42, x52, x62, x72] 31)
      have hblk4 := hblk3.alloc (.cells #[.int .i64 s1, .int .i64 al1, .slice A1 sp1.length c1, x31, x41, x51, x61, x71, .int .i64 s2, .int .i64 al2, .slice A2 sp2.length c2, x32, x42, x52, x62, x72] 31)
      have hg14 := grown_alloc hg13 (.cells #[.int .i64 s1, .int .i64 al1, .slice A1 sp1.length c1, x31, x41, x51, x61, x71, .int .i64 s2, .int .i64 al2, .slice A2 sp2.length c2, x32, x42, x52, x62, x72] 31)
      have HM1 := Lib.hid m1'
      have HM2 := Lib.hid m2
      have HPS := Lib.hid hps
      have HSPP := Lib.hid hspp
      have HONEP := Lib.hid honep
      clear m1' m2 hps hspp honep b3 hd3 hblk3 hg13
      go_wp2_with fail
      refine (rlay_any (some ⟨W3.heap.size, 0, none⟩) 2 2 [(⟨s1, al1, A1, sp1, c1, x31, x41, x51, x61, x71⟩ : Part), (⟨s2, al2, A2, sp2, c2, x32, x42, x52, x62, x72⟩ : Part)] _ rfl HPS.out (by omega) HSPP.out HONEP.out).mono ?_
      clear HM1 HM2 HPS HSPP HONEP
      have hRo := (layR_of [(⟨s1, al1, A1, sp1, c1, x31, x41, x51, x61, x71⟩ : Part), (⟨s2, al2, A2, sp2, c2, x32, x42, x52, x62, x72⟩ : Part)]).1
      have hRo2 : (layR [(⟨s1, al1, A1, sp1, c1, x31, x41, x51, x61, x71⟩ : Part), (⟨s2, al2, A2, sp2, c2, x32, x42, x52, x62, x72⟩ : Part)]).of.length ≤ 2 := hRo
      clear hRo
      generalize [(⟨s1, al1, A1, sp1, c1, x31, x41, x51, x61, x71⟩ : Part), (⟨s2, al2, A2, sp2, c2, x32, x42, x52, x62, x72⟩ : Part)] = ps at hRo2 ⊢
      rintro e W5 ⟨As, cs, Ao, co, rfl, hSS, hSO, capS, capO, hb5⟩
      have hRg := layR_good ps
      generalize layE ps = er
      generalize layR ps = R at *
      have hd5 := hd4.below hb5
      have hblk5 := hblk4.below hb5
      have hg15 := grown_trans hg14 (only_of_below hb5 (some g))
      obtain ⟨R1, R2, R3⟩ := hRg
      have hR1 := Lib.hid R1
      have hR2 := Lib.hid R2
      have hR3 := Lib.hid R3
      unfold laidV
      clear hd4 hblk4 hg14 hb5 R1 R2 R3
      obtain ⟨S, hS⟩ : ∃ S, S = (((((((W5.setCell ⟨w.heap.size, 0, none⟩ (.int .i64 R.s)).setCell ⟨w.heap.size, 1, none⟩ (.int .i64 R.al)).setCell ⟨w.heap.size, 2, none⟩ (.slice As R.sp.length cs)).setCell ⟨w.heap.size, 3, none⟩ (.slice Ao R.of.length co)).setCell ⟨w.heap.size, 4, none⟩ (.slice none 0 0)).setCell ⟨w.heap.size, 5, none⟩ (.slice none 0 0)).setCell ⟨w.heap.size, 6, none⟩ (.slice none 0 0)).setCell ⟨w.heap.size, 7, none⟩ (.bool false) := ⟨_, rfl⟩
      have hsz : S.heap.size = W5.heap.size := by rw [hS]; exact size8 _ _ (.int .i64 R.s) (.int .i64 R.al) (.slice As R.sp.length cs) (.slice Ao R.of.length co) (.slice none 0 0) (.slice none 0 0) (.slice none 0 0) (.bool false)
      have h8 : W5.grownBy S (some w.heap.size) := by rw [hS]; exact only8 W5 w.heap.size (.int .i64 R.s) (.int .i64 R.al) (.slice As R.sp.length cs) (.slice Ao R.of.length co) (.slice none 0 0) (.slice none 0 0) (.slice none 0 0) (.bool false)
      have hB : Blk S w.heap.size 31 #[.int .i64 R.s, .int .i64 R.al, .slice As R.sp.length cs, .slice Ao R.of.length co, .slice none 0 0, .slice none 0 0, .slice none 0 0, .bool false] := by rw [hS]; exact hblk5.set8 (.int .i64 R.s) (.int .i64 R.al) (.slice As R.sp.length cs) (.slice Ao R.of.length co) (.slice none 0 0) (.slice none 0 0) (.slice none 0 0) (.bool false)
      have hDS : Dice S g ls k3 := hd5.far h8 (fun q hq => by injection hq with hq; omega)
      have hGS : w.grownBy S (some g) := grown_new hg15 h8 (fun q hq => by injection hq with hq; omega)
      have hX : LayoutPost g ls k w (.returned (⟨R.s, R.al, As, R.sp, cs, .slice Ao R.of.length co, .slice none 0 0, .slice none 0 0, .slice none 0 0, .bool false⟩ : Part).val) (S.alloc (.cells #[.int .i64 R.s, .int .i64 R.al, .slice As R.sp.length cs, .slice Ao R.of.length co, .slice none 0 0, .slice none 0 0, .slice none 0 0, .bool false] 31)) := ⟨_, k3, rfl, ⟨(hSS.grown h8 hblk5 (by decide)).below ((Below.refl _ _).alloc (Nat.le_refl _) _), capS, hR1.out, hR2.out, hR3.out, ⟨Ao, R.of, co, rfl, (hSO.grown h8 hblk5 (by decide)).below ((Below.refl _ _).alloc (Nat.le_refl _) _), capO, hRo2⟩, rfl, rfl, rfl, ⟨_, rfl⟩⟩, hDS.alloc _, by omega, grown_alloc hGS _⟩
      have hB2 : Blk (S.alloc (.cells #[.int .i64 R.s, .int .i64 R.al, .slice As R.sp.length cs, .slice Ao R.of.length co, .slice none 0 0, .slice none 0 0, .slice none 0 0, .bool false] 31)) w.heap.size 31 #[.int .i64 R.s, .int .i64 R.al, .slice As R.sp.length cs, .slice Ao R.of.length co, .slice none 0 0, .slice none 0 0, .slice none 0 0, .bool false] := hB.alloc _
      obtain ⟨⟨c0, c1, c2, c3, c4, c5, c6, c7⟩, hf⟩ := hblk5.eight
      have hltR : w.heap.size < W5.heap.size := hblk5.lt
      have hneR : ¬ W5.heap.size = w.heap.size := by omega
      have HX := Lib.hid hX
      have HB2 := Lib.hid hB2
      have HS := Lib.hid hS
      clear hS hsz h8 hB hDS hGS hX hB2 hblk5 hd5 hg15 hSS hSO capS capO
      go_wp2
      rw [← HS.out]
      refine bodyPost_gen5 HB2.out HX.out ?_
      clear HB2 HX c0 c1 c2 c3 c4 c5 c6 c7 hf
      intro W hblkW hX
      obtain ⟨⟨c0, c1, c2, c3, c4, c5, c6, c7⟩, _⟩ := hblkW.eight
      exact bodyPost_ret (v := (⟨R.s, R.al, As, R.sp, cs, .slice Ao R.of.length co, .slice none 0 0, .slice none 0 0, .slice none 0 0, .bool false⟩ : Part).val) (by simp [results, Try.results22, go_sem, Part.val, c0, c1, c2, c3, c4, c5, c6, c7]) rfl hX
    · clear hx4
      obtain ⟨S, hS⟩ : ∃ S, S = (((((((W1.setCell ⟨w.heap.size, 0, none⟩ (.int .i64 0)).setCell ⟨w.heap.size, 1, none⟩ (.int .i64 1)).setCell ⟨w.heap.size, 2, none⟩ (.slice (none) 0 0)).setCell ⟨w.heap.size, 3, none⟩ (.slice none 0 0)).setCell ⟨w.heap.size, 4, none⟩ (.slice none 0 0)).setCell ⟨w.heap.size, 5, none⟩ (.slice none 0 0)).setCell ⟨w.heap.size, 6, none⟩ (.slice none 0 0)).setCell ⟨w.heap.size, 7, none⟩ (.bool false) := ⟨_, rfl⟩
      have hsz : S.heap.size = W1.heap.size := by rw [hS]; exact size8 _ _ (.int .i64 0) (.int .i64 1) (.slice (none) 0 0) (.slice none 0 0) (.slice none 0 0) (.slice none 0 0) (.slice none 0 0) (.bool false)
      have h8 : W1.grownBy S (some w.heap.size) := by rw [hS]; exact only8 W1 w.heap.size (.int .i64 0) (.int .i64 1) (.slice (none) 0 0) (.slice none 0 0) (.slice none 0 0) (.slice none 0 0) (.slice none 0 0) (.bool false)
      have hB : Blk S w.heap.size 31 #[.int .i64 0, .int .i64 1, .slice (none) 0 0, .slice none 0 0, .slice none 0 0, .slice none 0 0, .slice none 0 0, .bool false] := by rw [hS]; exact hblk.set8 (.int .i64 0) (.int .i64 1) (.slice (none) 0 0) (.slice none 0 0) (.slice none 0 0) (.slice none 0 0) (.slice none 0 0) (.bool false)
      have hDS : Dice S g ls k1 := hd1.far h8 (fun q hq => by injection hq with hq; omega)
      have hGS : w.grownBy S (some g) := grown_new hg1 h8 (fun q hq => by injection hq with hq; omega)
      have hX : LayoutPost g ls k w (.returned (⟨0, 1, none, [], 0, .slice none 0 0, .slice none 0 0, .slice none 0 0, .slice none 0 0, .bool false⟩ : Part).val) (S) := ⟨_, k1, rfl, ⟨.inl rfl, by simp, rfl, by simp, by simp, ⟨none, [], 0, rfl, .inl rfl, Nat.le_refl _, Nat.zero_le _⟩, rfl, rfl, rfl, ⟨_, rfl⟩⟩, hDS, hk1, hGS⟩
      have hB2 : Blk (S) w.heap.size 31 #[.int .i64 0, .int .i64 1, .slice (none) 0 0, .slice none 0 0, .slice none 0 0, .slice none 0 0, .slice none 0 0, .bool false] := hB
      obtain ⟨⟨c0, c1, c2, c3, c4, c5, c6, c7⟩, hf⟩ := hblk.eight
      have hltR : w.heap.size < W1.heap.size := hblk.lt
      have hneR : ¬ W1.heap.size = w.heap.size := by omega
      have HX := Lib.hid hX
      have HB2 := Lib.hid hB2
      have HS := Lib.hid hS
      clear hS hsz h8 hB hDS hGS hX hB2 hblk hd1 hg1
      go_wp2
      rw [← HS.out]
      refine bodyPost_gen5 HB2.out HX.out ?_
      clear HB2 HX c0 c1 c2 c3 c4 c5 c6 c7 hf
      intro W hblkW hX
      obtain ⟨⟨c0, c1, c2, c3, c4, c5, c6, c7⟩, _⟩ := hblkW.eight
      exact bodyPost_ret (v := (⟨0, 1, none, [], 0, .slice none 0 0, .slice none 0 0, .slice none 0 0, .slice none 0 0, .bool false⟩ : Part).val) (by simp [results, Try.results22, go_sem, Part.val, c0, c1, c2, c3, c4, c5, c6, c7]) rfl hX
    · clear hx4
      go_wp2_with fail
      refine (bytes_any g ls k1 12 _ hd1 (by omega)).mono ?_
      rintro e W2 ⟨l, A, c, k2, rfl, hl, own2, hd2, hk2, hg2⟩
      have hblk2 := hblk.grown hg2 (fun e => by injection e with e; omega)
      have hsl2 := SlE.of_own own2
      have capl := own_cap own2
      have hg12 := grown_trans hg1 hg2
      clear own2 hd1 hg1 hg2 hblk
      go_wp2_with fail
      refine (next_lt g ls k2 2 _ hd2 (by omega) (by omega)).mono ?_
      rintro e W3 ⟨r2, k3, rfl, hr2, hd3, hk3, hx3, hg3⟩
      obtain ⟨ds, hds⟩ := hd2.cells
      have hsl3 := hsl2.grown hg3 hds (by decide)
      have hblk3 := hblk2.grown hg3 (fun e => by injection e with e; omega)
      have hg13 := grown_trans hg12 hg3
      have hr2' : r2 ≤ 1 := by omega
      clear hx3 hd2 hds hsl2 hblk2 hg12 hg3 hr2
      obtain ⟨S, hS⟩ : ∃ S, S = (((((((W3.setCell ⟨w.heap.size, 0, none⟩ (.int .i64 (l.length : Int))).setCell ⟨w.heap.size, 1, none⟩ (.int .i64 (1 + 7 * (r2 : Int)))).setCell ⟨w.heap.size, 2, none⟩ (.slice A l.length c)).setCell ⟨w.heap.size, 3, none⟩ (.slice none 0 0)).setCell ⟨w.heap.size, 4, none⟩ (.slice none 0 0)).setCell ⟨w.heap.size, 5, none⟩ (.slice none 0 0)).setCell ⟨w.heap.size, 6, none⟩ (.slice none 0 0)).setCell ⟨w.heap.size, 7, none⟩ (.bool false) := ⟨_, rfl⟩
      have hsz : S.heap.size = W3.heap.size := by rw [hS]; exact size8 _ _ (.int .i64 (l.length : Int)) (.int .i64 (1 + 7 * (r2 : Int))) (.slice A l.length c) (.slice none 0 0) (.slice none 0 0) (.slice none 0 0) (.slice none 0 0) (.bool false)
      have h8 : W3.grownBy S (some w.heap.size) := by rw [hS]; exact only8 W3 w.heap.size (.int .i64 (l.length : Int)) (.int .i64 (1 + 7 * (r2 : Int))) (.slice A l.length c) (.slice none 0 0) (.slice none 0 0) (.slice none 0 0) (.slice none 0 0) (.bool false)
      have hB : Blk S w.heap.size 31 #[.int .i64 (l.length : Int), .int .i64 (1 + 7 * (r2 : Int)), .slice A l.length c, .slice none 0 0, .slice none 0 0, .slice none 0 0, .slice none 0 0, .bool false] := by rw [hS]; exact hblk3.set8 (.int .i64 (l.length : Int)) (.int .i64 (1 + 7 * (r2 : Int))) (.slice A l.length c) (.slice none 0 0) (.slice none 0 0) (.slice none 0 0) (.slice none 0 0) (.bool false)
      have hDS : Dice S g ls k3 := hd3.far h8 (fun q hq => by injection hq with hq; omega)
      have hGS : w.grownBy S (some g) := grown_new hg13 h8 (fun q hq => by injection hq with hq; omega)
      have hX : LayoutPost g ls k w (.returned (⟨l.length, 1 + 7 * (r2 : Int), A, l, c, .slice none 0 0, .slice none 0 0, .slice none 0 0, .slice none 0 0, .bool false⟩ : Part).val) (S) := ⟨_, k3, rfl, ⟨hsl3.grown h8 hblk3 (by decide), capl, rfl, by show (l.length : Int) ≤ 1024; omega, by show 1 + 7 * (r2 : Int) = 0 ∨ 1 + 7 * (r2 : Int) = 1 ∨ 1 + 7 * (r2 : Int) = 8; omega, ⟨none, [], 0, rfl, .inl rfl, Nat.le_refl _, Nat.zero_le _⟩, rfl, rfl, rfl, ⟨_, rfl⟩⟩, hDS, by omega, hGS⟩
      have hB2 : Blk (S) w.heap.size 31 #[.int .i64 (l.length : Int), .int .i64 (1 + 7 * (r2 : Int)), .slice A l.length c, .slice none 0 0, .slice none 0 0, .slice none 0 0, .slice none 0 0, .bool false] := hB
      obtain ⟨⟨c0, c1, c2, c3, c4, c5, c6, c7⟩, hf⟩ := hblk3.eight
      have hltR : w.heap.size < W3.heap.size := hblk3.lt
      have hneR : ¬ W3.heap.size = w.heap.size := by omega
      have HX := Lib.hid hX
      have HB2 := Lib.hid hB2
      have HS := Lib.hid hS
      clear hS hsz h8 hB hDS hGS hX hB2 hblk3 hd3 hg13 hsl3
      go_wp2
      rw [← HS.out]
      refine bodyPost_gen5 HB2.out HX.out ?_
      clear HB2 HX c0 c1 c2 c3 c4 c5 c6 c7 hf
      intro W hblkW hX
      obtain ⟨⟨c0, c1, c2, c3, c4, c5, c6, c7⟩, _⟩ := hblkW.eight
      exact bodyPost_ret (v := (⟨l.length, 1 + 7 * (r2 : Int), A, l, c, .slice none 0 0, .slice none 0 0, .slice none 0 0, .slice none 0 0, .bool false⟩ : Part).val) (by simp [results, Try.results22, go_sem, Part.val, c0, c1, c2, c3, c4, c5, c6, c7]) rfl hX
end Go.Proofs.Ytamhigknobdloaa
