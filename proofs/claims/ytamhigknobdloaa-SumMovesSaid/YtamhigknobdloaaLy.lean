/- What a product of parts is, in plain words, and the walk of product.Lay; conditions: the parts are few and readable. -/
import Derived.Test.YtamhigknobdloaaLp
import Derived.Test.YtamhigknobdloaaZa
namespace Go.Proofs.Ytamhigknobdloaa
open Go.RowKit
set_option linter.unusedVariables false

/-- What has been laid: size, alignment, spare bits, places. -/
structure Laid where
  s : Int
  al : Int
  sp : List UInt8
  of : List Int
def Laid.start : Laid := ⟨0, 1, [], []⟩
def Laid.fits (L : Laid) (p : Part) : Bool := decide (alignI L.s p.al + p.s ≤ 1024)
def Laid.add (L : Laid) (p : Part) : Laid := ⟨alignI L.s p.al + p.s, max L.al p.al, L.sp ++ List.replicate (alignI L.s p.al - L.s).toNat 0 ++ p.sp, L.of ++ [alignI L.s p.al]⟩
def layGo : Laid → List Part → Option Laid
  | L, [] => some L
  | L, p :: t => if L.fits p then layGo (L.add p) t else none
/-- The error and the layout of a product. -/
def layE (ps : List Part) : Int := if ps.any (fun p => !p.valid) then 19 else match layGo Laid.start ps with | none => 4 | some _ => 0
def layR (ps : List Part) : Laid := if ps.any (fun p => !p.valid) then ⟨0, 0, [], []⟩ else match layGo Laid.start ps with | none => ⟨0, 0, [], []⟩ | some L => L

theorem alignI_bounds (a b : Int) (h0 : 0 ≤ a) (hb : b = 1 ∨ b = 8) : a ≤ alignI a b ∧ alignI a b < a + b ∧ 0 ≤ alignI a b := by
  unfold alignI
  have h1 := Int.emod_nonneg a (show b ≠ 0 by omega)
  have h2 := Int.emod_lt_of_pos a (show 0 < b by omega)
  split
  · omega
  · split <;> omega
theorem valid_iff (p : Part) : p.valid = true ↔ 0 ≤ p.s ∧ p.s ≤ 1024 ∧ (p.al = 1 ∨ p.al = 8) ∧ (p.sp.length : Int) = p.s := by
  unfold Part.valid validB; simp

/-- What is kept while parts are laid. -/
structure Laid.good (L : Laid) (k : Nat) : Prop where
  s0 : 0 ≤ L.s
  s1 : L.s ≤ 1024
  al : L.al = 1 ∨ L.al = 8
  sp : (L.sp.length : Int) = L.s
  of : L.of.length = k
theorem Laid.good_start : Laid.start.good 0 := ⟨by decide, by decide, .inl rfl, rfl, rfl⟩
theorem Laid.good.add {L : Laid} {k : Nat} (h : L.good k) {p : Part} (hp : p.valid = true) (hf : L.fits p = true) : (L.add p).good (k + 1) := by
  obtain ⟨h1, h2, h3, h4⟩ := (valid_iff p).1 hp
  have hb := alignI_bounds L.s p.al h.s0 h3
  unfold Laid.fits at hf
  simp at hf
  refine ⟨by show 0 ≤ alignI L.s p.al + p.s; omega, hf, ?_, ?_, ?_⟩
  · show max L.al p.al = 1 ∨ max L.al p.al = 8
    have := h.al
    omega
  · show ((L.sp ++ List.replicate (alignI L.s p.al - L.s).toNat 0 ++ p.sp).length : Int) = alignI L.s p.al + p.s
    have := h.sp
    simp
    omega
  · show (L.of ++ [alignI L.s p.al]).length = k + 1
    rw [List.length_append, h.of]; rfl
theorem layGo_snoc (L : Laid) (l : List Part) (p : Part) : layGo L (l ++ [p]) = (layGo L l).bind fun M => if M.fits p then some (M.add p) else none := by
  induction l generalizing L with
  | nil => simp only [List.nil_append, layGo, Option.bind_some]
  | cons a t ih =>
    simp only [List.cons_append, layGo]
    split
    · exact ih _
    · rfl
theorem layGo_take (ps : List Part) (k : Nat) (h : k < ps.length) : layGo Laid.start (ps.take (k + 1)) = (layGo Laid.start (ps.take k)).bind fun M => if M.fits ps[k] then some (M.add ps[k]) else none := by
  rw [List.take_succ_eq_append_getElem h, layGo_snoc]
theorem layGo_none (L : Laid) (l t : List Part) (h : layGo L l = none) : layGo L (l ++ t) = none := by
  induction l generalizing L with
  | nil => simp [layGo] at h
  | cons a r ih =>
    simp only [List.cons_append, layGo] at h ⊢
    split at h
    · rename_i hf; rw [if_pos hf]; exact ih _ h
    · rename_i hf; rw [if_neg hf]
theorem layGo_good (ps : List Part) (hv : ∀ p ∈ ps, p.valid = true) : ∀ (L M : Laid) (k : Nat), L.good k → layGo L ps = some M → M.good (k + ps.length) := by
  induction ps with
  | nil => intro L M k hg h; simp [layGo] at h; subst h; exact hg
  | cons p t ih =>
    intro L M k hg h
    simp only [layGo] at h
    split at h
    · rename_i hf
      have := ih (fun q hq => hv q (List.mem_cons_of_mem _ hq)) _ _ _ (hg.add (hv p (List.mem_cons_self ..)) hf) h
      rw [List.length_cons, show k + (t.length + 1) = k + 1 + t.length by omega]; exact this
    · cases h

/-- A block that is known whole. -/
def Blk (w : World) (g : Nat) (t : TypeId) (cs : Array Value) : Prop := w.heap[g]? = some (.cells cs t (0, 0))
theorem Blk.lt {w : World} {g : Nat} {t : TypeId} {cs : Array Value} (h : Blk w g t cs) : g < w.heap.size := (Array.getElem?_eq_some_iff.1 h).1
theorem Blk.cell {w : World} {g : Nat} {t : TypeId} {cs : Array Value} (h : Blk w g t cs) (i : Nat) : w.cell? ⟨g, i, none⟩ = cs[i]? := cell_of_row w g i cs t (0, 0) h
theorem Blk.frozen {w : World} {g : Nat} {t : TypeId} {cs : Array Value} (h : Blk w g t cs) (i : Nat) : w.frozen? ⟨g, i, none⟩ = false := frozen_of_row w g i cs t h
theorem Blk.below {w w' : World} {g : Nat} {t : TypeId} {cs : Array Value} (h : Blk w g t cs) (hb : Below w.heap.size w w') : Blk w' g t cs := (hb.block g h.lt).trans h
theorem Blk.new (w : World) (t : TypeId) (cs : Array Value) : Blk (w.alloc (.cells cs t)) w.heap.size t cs := heap_alloc_new w _
theorem Blk.alloc {w : World} {g : Nat} {t : TypeId} {cs : Array Value} (h : Blk w g t cs) (o : Obj) : Blk (w.alloc o) g t cs := (Below.heap_alloc w o g h.lt).trans h
theorem Blk.set_ {w : World} {g : Nat} {t : TypeId} {cs : Array Value} (h : Blk w g t cs) (i : Nat) (u : Value) : Blk (w.setCell ⟨g, i, none⟩ u) g t (cs.setIfInBounds i u) := heap_setCell_same w g i cs t u h
theorem Blk.grown {w w' : World} {g : Nat} {t : TypeId} {cs : Array Value} {row : Option Nat} (h : Blk w g t cs) (hg : w.grownBy w' row) (hr : row ≠ some g) : Blk w' g t cs := (hg.block g h.lt (fun e => hr e.symm)).trans h
theorem Blk.far {w : World} {g : Nat} {t : TypeId} {cs : Array Value} (h : Blk w g t cs) {p : Addr} (hp : g ≠ p.block) (u : Value) : Blk (w.setCell p u) g t cs := (Below.heap_setCell w p u g hp).trans h
/-- The cells of a struct of eight, and that they may be written. -/
theorem Blk.eight {w : World} {g : Nat} {t : TypeId} {a0 a1 a2 a3 a4 a5 a6 a7 : Value} (h : Blk w g t #[a0, a1, a2, a3, a4, a5, a6, a7]) :
    (w.cell? ⟨g, 0, none⟩ = some a0 ∧ w.cell? ⟨g, 1, none⟩ = some a1 ∧ w.cell? ⟨g, 2, none⟩ = some a2 ∧ w.cell? ⟨g, 3, none⟩ = some a3 ∧ w.cell? ⟨g, 4, none⟩ = some a4 ∧ w.cell? ⟨g, 5, none⟩ = some a5 ∧ w.cell? ⟨g, 6, none⟩ = some a6 ∧ w.cell? ⟨g, 7, none⟩ = some a7) ∧ ∀ i, w.frozen? ⟨g, i, none⟩ = false :=
  ⟨⟨h.cell 0, h.cell 1, h.cell 2, h.cell 3, h.cell 4, h.cell 5, h.cell 6, h.cell 7⟩, h.frozen⟩

theorem Blk.set8 {w : World} {g : Nat} {t : TypeId} {a0 a1 a2 a3 a4 a5 a6 a7 : Value} (h : Blk w g t #[a0, a1, a2, a3, a4, a5, a6, a7]) (b0 b1 b2 b3 b4 b5 b6 b7 : Value) :
    Blk ((((((((w.setCell ⟨g, 0, none⟩ b0).setCell ⟨g, 1, none⟩ b1).setCell ⟨g, 2, none⟩ b2).setCell ⟨g, 3, none⟩ b3).setCell ⟨g, 4, none⟩ b4).setCell ⟨g, 5, none⟩ b5).setCell ⟨g, 6, none⟩ b6).setCell ⟨g, 7, none⟩ b7) g t #[b0, b1, b2, b3, b4, b5, b6, b7] :=
  by simpa using (((((((h.set_ 0 b0).set_ 1 b1).set_ 2 b2).set_ 3 b3).set_ 4 b4).set_ 5 b5).set_ 6 b6).set_ 7 b7
theorem below8 {B : Nat} {w0 w : World} {g : Nat} (h : Below B w0 w) (hg : B ≤ g) (b0 b1 b2 b3 b4 b5 b6 b7 : Value) :
    Below B w0 ((((((((w.setCell ⟨g, 0, none⟩ b0).setCell ⟨g, 1, none⟩ b1).setCell ⟨g, 2, none⟩ b2).setCell ⟨g, 3, none⟩ b3).setCell ⟨g, 4, none⟩ b4).setCell ⟨g, 5, none⟩ b5).setCell ⟨g, 6, none⟩ b6).setCell ⟨g, 7, none⟩ b7) :=
  (((((((h.setCell (p := ⟨g, 0, none⟩) hg b0).setCell (p := ⟨g, 1, none⟩) hg b1).setCell (p := ⟨g, 2, none⟩) hg b2).setCell (p := ⟨g, 3, none⟩) hg b3).setCell (p := ⟨g, 4, none⟩) hg b4).setCell (p := ⟨g, 5, none⟩) hg b5).setCell (p := ⟨g, 6, none⟩) hg b6).setCell (p := ⟨g, 7, none⟩) hg b7

/-- The cells that Lay does not look at hold each the value of one cell. -/
structure Part.one (p : Part) : Prop where
  h3 : p.x3.oneCell' = true
  h4 : p.x4.oneCell' = true
  h5 : p.x5.oneCell' = true
  h6 : p.x6.oneCell' = true
  h7 : p.x7.oneCell' = true
theorem store_var {P : Program} {v : Value} (h : v.oneCell' = true) (w : World) (a : Addr) (hc : (w.cell? a).isSome = true) (hf : w.frozen? a = false) : (store a v).run P w = .ok () (w.setCell a v) := by
  obtain ⟨u, hu⟩ := Option.isSome_iff_exists.1 hc
  rw [run_store P w a v .plain h]
  simp [hu, hf]

/-- The value of what has been laid. -/
def laidV (L : Laid) (As : Option Addr) (cs : Nat) (Ao : Option Addr) (co : Nat) : Value :=
  .agg #[.int .i64 L.s, .int .i64 L.al, .slice As L.sp.length cs, .slice Ao L.of.length co, .slice none 0 0, .slice none 0 0, .slice none 0 0, .bool false]
/-- What Lay leaves: the error, and the layout with its two slices. -/
def LayPost (ps : List Part) (w : World) (e : Ending) (w' : World) : Prop :=
  ∃ As cs Ao co, e = .returned (.tuple #[laidV (layR ps) As cs Ao co, .int .i64 (layE ps)]) ∧ SlE w' 5 As ((layR ps).sp.map bv) ∧ SlE w' 3 Ao ((layR ps).of.map iv) ∧ (layR ps).sp.length ≤ cs ∧ (layR ps).of.length ≤ co ∧ Below w.heap.size w w'

theorem bodyPost_gen {P : Program} {fn : Func} {R : Ending → World → Prop} {x : Exit} {a : Act} {w w0 : World} {B g : Nat} {t : TypeId} {cs : Array Value} (h1 : Blk w g t cs) (h2 : Below B w0 w)
    (h : ∀ W, Blk W g t cs → Below B w0 W → bodyPost P fn R x a W) : bodyPost P fn R x a w := h w h1 h2

theorem bodyPost_gen2 {P : Program} {fn : Func} {R : Ending → World → Prop} {x : Exit} {a : Act} {w w0 v : World} {B g : Nat} {t : TypeId} {cs : Array Value} {row : Option Nat} (h1 : Blk w g t cs) (h2 : Below B w0 w) (h3 : v.grownBy w row)
    (h : ∀ W, Blk W g t cs → Below B w0 W → v.grownBy W row → bodyPost P fn R x a W) : bodyPost P fn R x a w := h w h1 h2 h3
theorem only8 (w : World) (g : Nat) (b0 b1 b2 b3 b4 b5 b6 b7 : Value) :
    w.grownBy ((((((((w.setCell ⟨g, 0, none⟩ b0).setCell ⟨g, 1, none⟩ b1).setCell ⟨g, 2, none⟩ b2).setCell ⟨g, 3, none⟩ b3).setCell ⟨g, 4, none⟩ b4).setCell ⟨g, 5, none⟩ b5).setCell ⟨g, 6, none⟩ b6).setCell ⟨g, 7, none⟩ b7) (some g) := by
  have one : ∀ (v : World) (i : Nat) (u : Value), v.grownBy (v.setCell ⟨g, i, none⟩ u) (some g) := fun v i u => ⟨rfl, rfl, rfl, by simp [World.setCell], fun k _ hn => Below.heap_setCell v ⟨g, i, none⟩ u k (fun e => hn (by rw [e]))⟩
  exact grown_trans (grown_trans (grown_trans (grown_trans (grown_trans (grown_trans (grown_trans (one _ _ _) (one _ _ _)) (one _ _ _)) (one _ _ _)) (one _ _ _)) (one _ _ _)) (one _ _ _)) (one _ _ _)

/-- Two own rows of elements of different types lie in different blocks. -/
theorem own_own_ne {w : World} {b1 b2 : Nat} {e1 e2 : TypeId} {s1 s2 n1 n2 : Nat} {v1 v2 : Value} {x1 x2 : List Value} (h1 : w.ownsRow b1 e1 s1 v1 n1 x1) (h2 : w.ownsRow b2 e2 s2 v2 n2 x2) (hne : e1 ≠ e2) : v1.ownBlock = none ∨ v1.ownBlock ≠ v2.ownBlock := by
  rcases h2.2 with ⟨rfl, _⟩ | ⟨g, cap, cur, rfl, _, hh, _⟩
  · cases v1.ownBlock <;> simp [Value.ownBlock]
  · exact own_blk_ne h1 hh hne

theorem Blk.two {w : World} {g : Nat} {t : TypeId} {a0 a1 a2 a3 a4 a5 a6 a7 : Value} (h : Blk w g t #[a0, a1, a2, a3, a4, a5, a6, a7]) (b0 b1 : Value) :
    Blk ((w.setCell ⟨g, 0, none⟩ b0).setCell ⟨g, 1, none⟩ b1) g t #[b0, b1, a2, a3, a4, a5, a6, a7] := by simpa using (h.set_ 0 b0).set_ 1 b1

set_option maxHeartbeats 3200000 in
set_option maxRecDepth 100000 in
theorem lay_any (A : Option Addr) (n c : Nat) (ps : List Part) (w : World) (hn : ps.length = n) (hs : Parts w A ps) (hlen : n ≤ 1000) (hsp : ∀ p ∈ ps, Sl w p.A (p.sp.map bv)) (hone : ∀ p ∈ ps, p.one) :
    Calls Try.prog 24 #[.slice A n c] w (LayPost ps w) := by
  by_cases hbad : ps.any (fun p => !p.valid) = true
  · have hE : layE ps = 19 := by unfold layE; rw [if_pos hbad]
    have hR : layR ps = ⟨0, 0, [], []⟩ := by unfold layR; rw [if_pos hbad]
    have hb0 := (Below.refl w.heap.size w).alloc (Nat.le_refl _) (.cells #[.int .i64 0, .int .i64 0, .slice none 0 0, .slice none 0 0, .slice none 0 0, .slice none 0 0, .slice none 0 0, .bool false] 31)
    have HE := Lib.hid hE
    have HR := Lib.hid hR
    have HBAD := Lib.hid hbad
    clear hE hR hbad
    go_enter Try.func24, Try.ntmps24
    go_wp2_with fail
    refine (cont_any _ _ _ ps _ hn (hs.below hb0) hlen).mono ?_
    rw [HBAD.out]
    rintro e w1 ⟨rfl, hb1⟩
    have hblk := (Blk.new w 31 #[.int .i64 0, .int .i64 0, .slice none 0 0, .slice none 0 0, .slice none 0 0, .slice none 0 0, .slice none 0 0, .bool false]).below hb1
    obtain ⟨⟨c0, c1, c2, c3, c4, c5, c6, c7⟩, hf⟩ := hblk.eight
    have hbb := below_next hb0 hb1
    have HB8 := Lib.hid (hblk.set8 (.int .i64 0) (.int .i64 0) (.slice none 0 0) (.slice none 0 0) (.slice none 0 0) (.slice none 0 0) (.slice none 0 0) (.bool false))
    have HL8 := Lib.hid (below8 hbb (Nat.le_refl _) (.int .i64 0) (.int .i64 0) (.slice none 0 0) (.slice none 0 0) (.slice none 0 0) (.slice none 0 0) (.slice none 0 0) (.bool false))
    clear hblk hb0 hb1 hs hsp hbb
    go_wp2
    refine bodyPost_gen HB8.out HL8.out ?_
    clear HB8 HL8 c0 c1 c2 c3 c4 c5 c6 c7 hf
    intro W hblk hbel
    obtain ⟨⟨c0, c1, c2, c3, c4, c5, c6, c7⟩, _⟩ := hblk.eight
    clear hblk
    refine bodyPost_ret (v := .tuple #[.agg #[.int .i64 0, .int .i64 0, .slice none 0 0, .slice none 0 0, .slice none 0 0, .slice none 0 0, .slice none 0 0, .bool false], .int .i64 19]) (by simp [results, Try.results24, go_sem, c0, c1, c2, c3, c4, c5, c6, c7]) rfl ?_
    unfold LayPost
    rw [HE.out, HR.out]
    exact ⟨none, 0, none, 0, rfl, .inl rfl, .inl rfl, Nat.le_refl _, Nat.le_refl _, hbel⟩
  · have hval : ∀ p ∈ ps, p.valid = true := by
      intro p hp
      cases hv : p.valid with
      | true => rfl
      | false => exact absurd (List.any_eq_true.2 ⟨p, hp, by rw [hv]; rfl⟩) hbad
    have hbf : ps.any (fun p => !p.valid) = false := by simpa using hbad
    have hE : layE ps = match layGo Laid.start ps with | none => 4 | some _ => 0 := by unfold layE; rw [if_neg hbad]
    have hR : layR ps = match layGo Laid.start ps with | none => ⟨0, 0, [], []⟩ | some L => L := by unfold layR; rw [if_neg hbad]
    have hb0 := (Below.refl w.heap.size w).alloc (Nat.le_refl _) (.cells #[.int .i64 0, .int .i64 0, .slice none 0 0, .slice none 0 0, .slice none 0 0, .slice none 0 0, .slice none 0 0, .bool false] 31)
    have HE := Lib.hid hE
    have HR := Lib.hid hR
    have HBF := Lib.hid hbf
    have HVAL := Lib.hid hval
    have HSP := Lib.hid hsp
    have HONE := Lib.hid hone
    clear hE hR hbf hval hbad hsp hone
    subst hn
    go_enter Try.func24, Try.ntmps24
    go_wp2_with fail
    refine (cont_any _ _ _ ps _ rfl (hs.below hb0) hlen).mono ?_
    rw [HBF.out]
    rintro e w1 ⟨rfl, hb1⟩
    have hres := (Blk.new w 31 #[.int .i64 0, .int .i64 0, .slice none 0 0, .slice none 0 0, .slice none 0 0, .slice none 0 0, .slice none 0 0, .bool false]).below hb1
    have hbb := below_next hb0 hb1
    have hsz1 : w.heap.size < w1.heap.size := hres.lt
    have hres2 := hres.alloc (.cells #[.int .i64 0, .int .i64 1, .slice none 0 0, .slice none 0 0, .slice none 0 0, .slice none 0 0, .slice none 0 0, .bool false] 31)
    have hout := Blk.new w1 31 #[.int .i64 0, .int .i64 1, .slice none 0 0, .slice none 0 0, .slice none 0 0, .slice none 0 0, .slice none 0 0, .bool false]
    have hbb2 := hbb.alloc (by omega) (.cells #[.int .i64 0, .int .i64 1, .slice none 0 0, .slice none 0 0, .slice none 0 0, .slice none 0 0, .slice none 0 0, .bool false] 31)
    have hn1 : (w1.alloc (.cells #[.int .i64 0, .int .i64 1, .slice none 0 0, .slice none 0 0, .slice none 0 0, .slice none 0 0, .slice none 0 0, .bool false] 31)).ownsRow (w1.heap.size + 1) 5 1 (.slice none 0 0) 0 [] := World.ownsRow_nil _ _ _ _
    have hn2 : (w1.alloc (.cells #[.int .i64 0, .int .i64 1, .slice none 0 0, .slice none 0 0, .slice none 0 0, .slice none 0 0, .slice none 0 0, .bool false] 31)).ownsRow (w1.heap.size + 1) 3 1 (.slice none 0 0) 0 [] := World.ownsRow_nil _ _ _ _
    clear hb0 hb1 hbb hres
    go_wp2_with fail
    go_loopw [3, 6, 7, 14] (fun _ _ _ v14 wr => ∃ (k : Nat) (L : Laid) (As : Option Addr) (cs : Nat) (Ao : Option Addr) (co : Nat), k ≤ ps.length ∧ v14 = .int .i64 k ∧ Hid (layGo Laid.start (ps.take k) = some L) ∧ Hid (L.good k) ∧ Blk wr w1.heap.size 31 #[.int .i64 L.s, .int .i64 L.al, .slice As L.sp.length cs, .slice Ao L.of.length co, .slice none 0 0, .slice none 0 0, .slice none 0 0, .bool false] ∧ wr.ownsRow (w1.heap.size + 1) 5 1 (.slice As L.sp.length cs) L.sp.length (L.sp.map bv) ∧ wr.ownsRow (w1.heap.size + 1) 3 1 (.slice Ao L.of.length co) L.of.length (L.of.map iv) ∧ Blk wr w.heap.size 31 #[.int .i64 0, .int .i64 0, .slice none 0 0, .slice none 0 0, .slice none 0 0, .slice none 0 0, .slice none 0 0, .bool false] ∧ Below w.heap.size w wr) (fun _ _ _ v14 _ => ps.length - (intOf v14).toNat)
    case atStart => exact ⟨0, Laid.start, none, 0, none, 0, by omega, rfl, rfl, Laid.good_start, hout, hn1, hn2, hres2, hbb2⟩
    case round =>
      obtain ⟨k, L, As, cs, Ao, co, hk, rfl, hgo, hgood, hblk, ownS, ownO, hres, hb⟩ := hrel
      clear hout hn1 hn2 hres2 hbb2
      have hwr := hb.size
      by_cases hlt : k < ps.length
      · obtain ⟨p, hpe⟩ : ∃ p, p = ps[k] := ⟨_, rfl⟩
        obtain ⟨pa, po, rfl, q0, q1, q2, q3, q4, q5, q6, q7⟩ := (hs.below hb).get hlt
        have hpv := HVAL.out ps[k] (List.getElem_mem hlt)
        have hps := HSP.out ps[k] (List.getElem_mem hlt)
        have hgt := layGo_take ps k hlt
        rw [hgo.out, Option.bind_some] at hgt
        have hpo := HONE.out ps[k] (List.getElem_mem hlt)
        rw [← hpe] at hpo
        have sx3 := store_var (P := Try.prog) hpo.h3
        have sx4 := store_var (P := Try.prog) hpo.h4
        have sx5 := store_var (P := Try.prog) hpo.h5
        have sx6 := store_var (P := Try.prog) hpo.h6
        have sx7 := store_var (P := Try.prog) hpo.h7
        have HPO := Lib.hid hpo
        clear hpo
        rw [← hpe] at q0 q1 q2 q3 q4 q5 q6 q7 hpv hps hgt
        obtain ⟨v1, v2, v3, v4⟩ := (valid_iff p).1 hpv
        have g1 := hgood.out.s0
        have g2 := hgood.out.s1
        have g3 := hgood.out.al
        have g4 := hgood.out.sp
        have g5 := hgood.out.of
        have hab := alignI_bounds L.s p.al g1 v3
        obtain ⟨at_, hat⟩ : ∃ a, a = alignI L.s p.al := ⟨_, rfl⟩
        rw [← hat] at hab
        have HAT := Lib.hid hat
        have HPE := Lib.hid hpe
        have HGT := Lib.hid hgt
        have HPV := Lib.hid hpv
        have HS0 := Lib.hid hs
        have HG4 := Lib.hid g4
        have HG5 := Lib.hid g5
        have HG3 := Lib.hid g3
        have HV3 := Lib.hid v3
        have hspl : L.sp.length ≤ 1024 := by omega
        have hofl : L.of.length ≤ 1000 := by omega
        have hpsl : p.sp.length ≤ 1024 := by omega
        have HV4 := Lib.hid v4
        have hal0 : 1 ≤ L.al ∧ L.al ≤ 8 := by omega
        have hpal : 1 ≤ p.al ∧ p.al ≤ 8 := by omega
        have hal1 := hal0.1
        have hal2 := hal0.2
        have hpal1 := hpal.1
        have hpal2 := hpal.2
        have ha1 := hab.1
        have ha2 := hab.2.1
        have ha3 := hab.2.2
        have hpb := (Blk.new wr 31 #[.int .i64 p.s, .int .i64 p.al, .slice p.A p.sp.length p.c, p.x3, p.x4, p.x5, p.x6, p.x7])
        have hw1r : w1.heap.size < wr.heap.size := hblk.lt
        clear hat hpe hgt hpv hs g4 g5 g3 v3 v4 hal0 hpal hab hgood
        by_cases hfit : at_ + p.s ≤ 1024
        · have hfd : ¬ 1024 < at_ + p.s := by omega
          have hone1 : wr.heap.size + 1 = (wr.alloc (.cells #[.int .i64 p.s, .int .i64 p.al, .slice p.A p.sp.length p.c, p.x3, p.x4, p.x5, p.x6, p.x7] 31)).heap.size := by simp
          -- the world behind the append of the place
          obtain ⟨A2, c2, w2, hr1, own2, hg2⟩ := run_append1 (P := Try.prog) (w1.heap.size + 1) 23 23 3 _ 8 Try.underlying23 el3 (by omega) Ao L.of.length co _ (ownO.alloc (.cells #[.int .i64 p.s, .int .i64 p.al, .slice p.A p.sp.length p.c, p.x3, p.x4, p.x5, p.x6, p.x7] 31)) (.int .i64 at_) rfl (by omega) (by rw [← hone1]; omega)
          rw [← hone1] at hr1
          have hrow : ∀ q, (Value.slice Ao L.of.length co).ownBlock = some q → w1.heap.size < q ∧ q < wr.heap.size := fun q hq => by have := ownO.lt q hq; omega
          have blk2 := (hblk.alloc (.cells #[.int .i64 p.s, .int .i64 p.al, .slice p.A p.sp.length p.c, p.x3, p.x4, p.x5, p.x6, p.x7] 31)).grown hg2 (fun e => by have := hrow _ e; omega)
          have pb2 := hpb.grown hg2 (fun e => by have := hrow _ e; omega)
          have res2 := (hres.alloc (.cells #[.int .i64 p.s, .int .i64 p.al, .slice p.A p.sp.length p.c, p.x3, p.x4, p.x5, p.x6, p.x7] 31)).grown hg2 (fun e => by have := hrow _ e; omega)
          have ownS2 := (ownS.alloc (.cells #[.int .i64 p.s, .int .i64 p.al, .slice p.A p.sp.length p.c, p.x3, p.x4, p.x5, p.x6, p.x7] 31)).kept hg2 (own_own_ne ownS ownO (by decide))
          have bel2 := (hb.alloc (by omega) (.cells #[.int .i64 p.s, .int .i64 p.al, .slice p.A p.sp.length p.c, p.x3, p.x4, p.x5, p.x6, p.x7] 31)).grown hg2 (by rw [← hone1]; omega) (fun q hq => by have := hrow q hq; omega)
          obtain ⟨W3, hW3⟩ : ∃ W3, W3 = w2.setCell ⟨w1.heap.size, 3, none⟩ (.slice A2 (L.of.length + 1) c2) := ⟨_, rfl⟩
          have blk3 : Blk W3 w1.heap.size 31 #[.int .i64 L.s, .int .i64 L.al, .slice As L.sp.length cs, .slice A2 (L.of.length + 1) c2, .slice none 0 0, .slice none 0 0, .slice none 0 0, .bool false] := by rw [hW3]; simpa using blk2.set_ 3 (.slice A2 (L.of.length + 1) c2)
          have pb3 := pb2.far (p := ⟨w1.heap.size, 3, none⟩) (by show wr.heap.size ≠ w1.heap.size; omega) (.slice A2 (L.of.length + 1) c2)
          have res3 := res2.far (p := ⟨w1.heap.size, 3, none⟩) (by show w.heap.size ≠ w1.heap.size; omega) (.slice A2 (L.of.length + 1) c2)
          have ownS3 := ownsRow_setCell_below ownS2 (a := ⟨w1.heap.size, 3, none⟩) (by show w1.heap.size < w1.heap.size + 1; omega) (.slice A2 (L.of.length + 1) c2)
          have ownO3 := ownsRow_setCell_below own2 (a := ⟨w1.heap.size, 3, none⟩) (by show w1.heap.size < w1.heap.size + 1; omega) (.slice A2 (L.of.length + 1) c2)
          have bel3 := bel2.setCell (p := ⟨w1.heap.size, 3, none⟩) (by show w.heap.size ≤ w1.heap.size; omega) (.slice A2 (L.of.length + 1) c2)
          rw [← hW3] at pb3 res3 ownS3 ownO3 bel3
          have hsz3 : w1.heap.size < W3.heap.size := blk3.lt
          have hm : (((at_ - L.s).toNat : Nat) : Int) = at_ - L.s := by omega
          obtain ⟨A4, c4, w4, hr2, own4, hg4⟩ := run_append_zeros (P := Try.prog) W3.drew (w1.heap.size + 1) 27 3 27 5 _ 1 Try.underlying27 Try.underlying3 el5 rfl rfl (by omega) As L.sp.length cs _ ownS3 (at_ - L.s).toNat (by omega) (by show w1.heap.size + 1 ≤ W3.heap.size; omega)
          rw [hm] at hr2
          have hrowS : ∀ q, (Value.slice As L.sp.length cs).ownBlock = some q → w1.heap.size < q := fun q hq => by have := ownS3.lt q hq; omega
          have hpne := own_blk_ne ownS3 pb3 (by decide)
          have blk4 : Blk w4 w1.heap.size 31 _ := Blk.grown (w := W3.drew) blk3 hg4 (fun e => by have := hrowS _ e; omega)
          have res4 : Blk w4 w.heap.size 31 _ := Blk.grown (w := W3.drew) res3 hg4 (fun e => by have := hrowS _ e; omega)
          have pb4 : Blk w4 wr.heap.size 31 _ := Blk.grown (w := W3.drew) pb3 hg4 (fun e => by rcases hpne with h | h; rw [h] at e; cases e; exact h e)
          have ownO4 : w4.ownsRow (w1.heap.size + 1) 3 1 _ _ _ := World.ownsRow.kept (w := W3.drew) ownO3 hg4 (own_own_ne ownO3 ownS3 (by decide))
          have bel4 := bel3.drew.grown hg4 (by show w.heap.size ≤ W3.heap.size; omega) (fun q hq => by have := hrowS q hq; omega)
          have hsz4 : W3.heap.size ≤ w4.heap.size := hg4.size
          have slP := hps.below bel4
          obtain ⟨A5, c5, w5, hr3, own5, hg5⟩ := run_appendS (P := Try.prog) (w1.heap.size + 1) 27 27 5 _ 1 1 Try.underlying27 el5 A4 (L.sp.length + (at_ - L.s).toNat) c4 _ own4 p.A p.sp.length p.c (p.sp.map bv) slP (by simp) (oneCell_bv _) (by simp only [maxLen]; omega) (by omega) (by omega)
          have hrow4 : ∀ q, (Value.slice A4 (L.sp.length + (at_ - L.s).toNat) c4).ownBlock = some q → w1.heap.size < q := fun q hq => by have := own4.lt q hq; omega
          have hpne4 := own_blk_ne own4 pb4 (by decide)
          have blk5 := blk4.grown hg5 (fun e => by have := hrow4 _ e; omega)
          have res5 := res4.grown hg5 (fun e => by have := hrow4 _ e; omega)
          have pb5 := pb4.grown hg5 (fun e => by rcases hpne4 with h | h; rw [h] at e; cases e; exact h e)
          have ownO5 := ownO4.kept hg5 (own_own_ne ownO4 own4 (by decide))
          have bel5 := bel4.grown hg5 (by omega) (fun q hq => by have := hrow4 q hq; omega)
          -- THE ROUND THAT FITS
          obtain ⟨sv, hsv⟩ : ∃ v, v = Value.slice A5 (L.sp.length + (at_ - L.s).toNat + p.sp.length) c5 := ⟨_, rfl⟩
          obtain ⟨W6, hW6⟩ : ∃ W6, W6 = w5.setCell ⟨w1.heap.size, 2, none⟩ (.slice A5 (L.sp.length + (at_ - L.s).toNat + p.sp.length) c5) := ⟨_, rfl⟩
          have blk6 : Blk W6 w1.heap.size 31 #[.int .i64 L.s, .int .i64 L.al, .slice A5 (L.sp.length + (at_ - L.s).toNat + p.sp.length) c5, .slice A2 (L.of.length + 1) c2, .slice none 0 0, .slice none 0 0, .slice none 0 0, .bool false] := by rw [hW6]; simpa using blk5.set_ 2 (.slice A5 (L.sp.length + (at_ - L.s).toNat + p.sp.length) c5)
          have pb6 := pb5.far (p := ⟨w1.heap.size, 2, none⟩) (by show wr.heap.size ≠ w1.heap.size; omega) (.slice A5 (L.sp.length + (at_ - L.s).toNat + p.sp.length) c5)
          have res6 := res5.far (p := ⟨w1.heap.size, 2, none⟩) (by show w.heap.size ≠ w1.heap.size; omega) (.slice A5 (L.sp.length + (at_ - L.s).toNat + p.sp.length) c5)
          have ownS6 := ownsRow_setCell_below own5 (a := ⟨w1.heap.size, 2, none⟩) (by show w1.heap.size < w1.heap.size + 1; omega) (.slice A5 (L.sp.length + (at_ - L.s).toNat + p.sp.length) c5)
          have ownO6 := ownsRow_setCell_below ownO5 (a := ⟨w1.heap.size, 2, none⟩) (by show w1.heap.size < w1.heap.size + 1; omega) (.slice A5 (L.sp.length + (at_ - L.s).toNat + p.sp.length) c5)
          have bel6 := bel5.setCell (p := ⟨w1.heap.size, 2, none⟩) (by show w.heap.size ≤ w1.heap.size; omega) (.slice A5 (L.sp.length + (at_ - L.s).toNat + p.sp.length) c5)
          rw [← hW6] at pb6 res6 ownS6 ownO6 bel6
          obtain ⟨⟨r0, r1, r2, r3, r4, r5, r6, r7⟩, rf⟩ := blk2.eight
          clear r0 r1 r2 r4 r5 r6 r7
          obtain ⟨⟨rp0, rp1, rp2, rp3, rp4, rp5, rp6, rp7⟩, rpf⟩ := pb2.eight
          clear rp1 rp2 rp3 rp4 rp5 rp6 rp7 rpf
          obtain ⟨⟨d0, d1, d2, d3, d4, d5, d6, d7⟩, df⟩ := hblk.eight
          clear d1 d2 d4 d5 d6 d7 df
          obtain ⟨⟨s0, s1, s2, s3, s4, s5, s6, s7⟩, sf⟩ := blk3.eight
          clear s1 s3 s4 s5 s6 s7 sf
          obtain ⟨⟨sp0, sp1, sp2, sp3, sp4, sp5, sp6, sp7⟩, spf⟩ := pb3.eight
          clear sp0 sp1 sp3 sp4 sp5 sp6 sp7 spf
          obtain ⟨⟨tp0, tp1, tp2, tp3, tp4, tp5, tp6, tp7⟩, tpf⟩ := pb4.eight
          clear tp0 tp1 tp3 tp4 tp5 tp6 tp7 tpf
          obtain ⟨⟨u0, u1, u2, u3, u4, u5, u6, u7⟩, uf⟩ := blk5.eight
          clear u0 u1 u3 u4 u5 u6 u7
          obtain ⟨⟨x0, x1, x2, x3, x4, x5, x6, x7⟩, xf⟩ := blk6.eight
          clear x2 x3 x4 x5 x6 x7
          obtain ⟨⟨xp0, xp1, xp2, xp3, xp4, xp5, xp6, xp7⟩, xpf⟩ := pb6.eight
          clear xp2 xp3 xp4 xp5 xp6 xp7 xpf
          have BLK6 := Lib.hid blk6
          have RES6 := Lib.hid res6
          have OWNS6 := Lib.hid ownS6
          have OWNO6 := Lib.hid ownO6
          have BEL6 := Lib.hid bel6
          have HW6 := Lib.hid hW6
          have HW3 := Lib.hid hW3
          have HONE1 := Lib.hid hone1
          have HM := Lib.hid hm
          clear hsv blk2 pb2 res2 ownS2 bel2 blk3 pb3 res3 ownS3 ownO3 bel3 blk4 pb4 res4 ownO4 bel4 blk5 pb5 res5 ownO5 bel5 blk6 pb6 res6 ownS6 ownO6 bel6 own2 own4 own5 hg2 hg4 hg5 hrow hrowS hrow4 hpne hpne4 slP hW6 hW3 hone1 hm hres hblk hpb hb ownS ownO hps
          have hne1 : ¬ wr.heap.size = w1.heap.size := by omega
          have hne2 : ¬ w1.heap.size = wr.heap.size := by omega
          go_wp2_with fail
          refine (align_any _ _ _ g1 (by omega) (by omega) (by omega)).mono ?_
          rw [← HAT.out]
          rintro e w2' ⟨rfl, rfl⟩
          clear sx3 sx4 sx5 sx6 sx7 q0 q1 q2 q3 q4 q5 q6 q7
          go_wp2_with fail
          have hfits : L.fits p = true := by unfold Laid.fits; rw [← HAT.out]; simp; omega
          have HGO2 : Hid (layGo Laid.start (ps.take (k + 1)) = some (L.add p)) := by
            have h1 := HGT.out
            rw [hfits] at h1
            exact h1
          have HGOOD2 : Hid ((L.add p).good (k + 1)) := Laid.good.add ⟨g1, g2, HG3.out, HG4.out, HG5.out⟩ HPV.out hfits
          have e1 : (L.add p).s = at_ + p.s := by rw [HAT.out]; rfl
          have e2 : (L.add p).al = if L.al < p.al then p.al else L.al := by
            show max L.al p.al = _
            split <;> omega
          have e3 : (L.add p).sp.length = L.sp.length + (at_ - L.s).toNat + p.sp.length := by
            show (L.sp ++ List.replicate (alignI L.s p.al - L.s).toNat 0 ++ p.sp).length = _
            rw [← HAT.out]; simp [Nat.add_assoc]
          have e4 : (L.add p).of.length = L.of.length + 1 := by
            show (L.of ++ [alignI L.s p.al]).length = _
            simp
          have e5 : (L.add p).sp.map bv = L.sp.map bv ++ List.replicate (at_ - L.s).toNat (.int .u8 0) ++ p.sp.map bv := by
            show (L.sp ++ List.replicate (alignI L.s p.al - L.s).toNat 0 ++ p.sp).map bv = _
            rw [← HAT.out, List.map_append, List.map_append, List.map_replicate]; rfl
          have e6 : (L.add p).of.map iv = L.of.map iv ++ [.int .i64 at_] := by
            show (L.of ++ [alignI L.s p.al]).map iv = _
            rw [← HAT.out, List.map_append]; rfl
          obtain ⟨Y, hY⟩ : ∃ Y, Y = (if L.al < p.al then p.al else L.al) := ⟨_, rfl⟩
          have FB := Blk.two BLK6.out (.int .i64 (at_ + p.s)) (.int .i64 (if L.al < p.al then p.al else L.al))
          have FS := ownsRow_setCell_below (ownsRow_setCell_below OWNS6.out (a := ⟨w1.heap.size, 0, none⟩) (by show w1.heap.size < w1.heap.size + 1; omega) (.int .i64 (at_ + p.s))) (a := ⟨w1.heap.size, 1, none⟩) (by show w1.heap.size < w1.heap.size + 1; omega) (.int .i64 (if L.al < p.al then p.al else L.al))
          have FO := ownsRow_setCell_below (ownsRow_setCell_below OWNO6.out (a := ⟨w1.heap.size, 0, none⟩) (by show w1.heap.size < w1.heap.size + 1; omega) (.int .i64 (at_ + p.s))) (a := ⟨w1.heap.size, 1, none⟩) (by show w1.heap.size < w1.heap.size + 1; omega) (.int .i64 (if L.al < p.al then p.al else L.al))
          have FR := (RES6.out.far (p := ⟨w1.heap.size, 0, none⟩) (by show w.heap.size ≠ w1.heap.size; omega) (.int .i64 (at_ + p.s))).far (p := ⟨w1.heap.size, 1, none⟩) (by show w.heap.size ≠ w1.heap.size; omega) (.int .i64 (if L.al < p.al then p.al else L.al))
          have FL := (BEL6.out.setCell (p := ⟨w1.heap.size, 0, none⟩) (by show w.heap.size ≤ w1.heap.size; omega) (.int .i64 (at_ + p.s))).setCell (p := ⟨w1.heap.size, 1, none⟩) (by show w.heap.size ≤ w1.heap.size; omega) (.int .i64 (if L.al < p.al then p.al else L.al))
          rw [← e5, ← e3] at FS
          rw [← e6, ← e4] at FO
          rw [← e1, ← e2, ← e3, ← e4] at FB
          rw [← e1, ← e2] at FS FO FR FL
          have FBH := Lib.hid FB
          have FSH := Lib.hid FS
          have FOH := Lib.hid FO
          have FRH := Lib.hid FR
          have FLH := Lib.hid FL
          have E1 := Lib.hid e1
          have E2 := Lib.hid e2
          clear FB FS FO FR FL e1 e2 e3 e4 e5 e6 hY Y hfits
          rw [← HW3.out]
          clear r3 rf rp0 d0 d3 hr1
          go_region
          go_wp2_with fail
          rw [← HW6.out]
          clear s0 s2 sp2 tp2 u2 uf hr2 hr3
          go_region
          go_wp2
          go_roundw
          case rel =>
            refine ⟨k + 1, L.add p, A5, c5, A2, c2, by omega, by go_num, HGO2, HGOOD2, ?_⟩
            rw [← E2.out, ← E1.out]
            exact ⟨FBH.out, FSH.out, FOH.out, FRH.out, FLH.out.drew⟩
          case measure => simp [intOf]; omega
        · have hfd : (1024 : Int) < at_ + p.s := by omega
          have hnone : layGo Laid.start ps = none := by
            have h1 := HGT.out
            have h2 : L.fits p = false := by unfold Laid.fits; rw [← HAT.out]; simp; omega
            rw [h2] at h1
            have := layGo_none _ _ (ps.drop (k + 1)) h1
            rwa [List.take_append_drop] at this
          have hE := HE.out
          have hR := HR.out
          rw [hnone] at hE hR
          have HE2 := Lib.hid hE
          have HR2 := Lib.hid hR
          have HB8 := Lib.hid ((hres.set8 (.int .i64 0) (.int .i64 0) (.slice none 0 0) (.slice none 0 0) (.slice none 0 0) (.slice none 0 0) (.slice none 0 0) (.bool false)).alloc (.cells #[.int .i64 p.s, .int .i64 p.al, .slice p.A p.sp.length p.c, p.x3, p.x4, p.x5, p.x6, p.x7] 31))
          have HL8 := Lib.hid ((below8 hb (Nat.le_refl _) (.int .i64 0) (.int .i64 0) (.slice none 0 0) (.slice none 0 0) (.slice none 0 0) (.slice none 0 0) (.slice none 0 0) (.bool false)).alloc (below8 hb (Nat.le_refl _) (.int .i64 0) (.int .i64 0) (.slice none 0 0) (.slice none 0 0) (.slice none 0 0) (.slice none 0 0) (.slice none 0 0) (.bool false)).size (.cells #[.int .i64 p.s, .int .i64 p.al, .slice p.A p.sp.length p.c, p.x3, p.x4, p.x5, p.x6, p.x7] 31))
          obtain ⟨⟨c0, c1, c2, c3, c4, c5, c6, c7⟩, hf⟩ := hres.eight
          obtain ⟨⟨d0, d1, d2, d3, d4, d5, d6, d7⟩, hf'⟩ := hblk.eight
          have hne1 : ¬ wr.heap.size = w.heap.size := by omega
          have hne2 : ¬ w.heap.size = wr.heap.size := by omega
          have hlt1 : w.heap.size < wr.heap.size := by omega
          clear hE hR hnone hres hblk hpb hb ownS ownO hps hfit
          go_wp2_with fail
          refine (align_any _ _ _ g1 (by omega) (by omega) (by omega)).mono ?_
          rw [← HAT.out]
          rintro e w2 ⟨rfl, rfl⟩
          clear sx3 sx4 sx5 sx6 sx7 q0 q1 q2 q3 q4 q5 q6 q7
          go_wp2_with fail
          refine bodyPost_gen HB8.out HL8.out ?_
          clear HB8 HL8 c0 c1 c2 c3 c4 c5 c6 c7 hf d0 d1 d2 d3 d4 d5 d6 d7 hf'
          intro W hblk hbel
          obtain ⟨⟨c0, c1, c2, c3, c4, c5, c6, c7⟩, _⟩ := hblk.eight
          clear hblk
          refine bodyPost_ret (v := .tuple #[.agg #[.int .i64 0, .int .i64 0, .slice none 0 0, .slice none 0 0, .slice none 0 0, .slice none 0 0, .slice none 0 0, .bool false], .int .i64 4]) (by simp [results, Try.results24, go_sem, c0, c1, c2, c3, c4, c5, c6, c7]) rfl ?_
          unfold LayPost
          rw [HE2.out, HR2.out]
          exact ⟨none, 0, none, 0, rfl, .inl rfl, .inl rfl, Nat.le_refl _, Nat.le_refl _, hbel⟩
      · obtain rfl : k = ps.length := by omega
        have hgo2 := hgo.out
        rw [List.take_length] at hgo2
        have hE := HE.out
        have hR := HR.out
        rw [hgo2] at hE hR
        have HE2 := Lib.hid hE
        have HR2 := Lib.hid hR
        have hS := SlE.of_own ownS
        have hO := SlE.of_own ownO
        have capS := own_cap ownS
        have capO := own_cap ownO
        have HS := Lib.hid hS
        have HO := Lib.hid hO
        have hRB := hres.set8 (.int .i64 L.s) (.int .i64 L.al) (.slice As L.sp.length cs) (.slice Ao L.of.length co) (.slice none 0 0) (.slice none 0 0) (.slice none 0 0) (.bool false)
        have HL8 := Lib.hid (below8 hb (Nat.le_refl _) (.int .i64 L.s) (.int .i64 L.al) (.slice As L.sp.length cs) (.slice Ao L.of.length co) (.slice none 0 0) (.slice none 0 0) (.slice none 0 0) (.bool false))
        have HG8 := Lib.hid (only8 wr w.heap.size (.int .i64 L.s) (.int .i64 L.al) (.slice As L.sp.length cs) (.slice Ao L.of.length co) (.slice none 0 0) (.slice none 0 0) (.slice none 0 0) (.bool false))
        have HRB := Lib.hid hRB
        have HRES := Lib.hid hres
        obtain ⟨⟨c0, c1, c2, c3, c4, c5, c6, c7⟩, hf⟩ := hres.eight
        obtain ⟨⟨d0, d1, d2, d3, d4, d5, d6, d7⟩, hf'⟩ := hblk.eight
        have hne : ¬ w1.heap.size = w.heap.size := by omega
        have hne' : ¬ w.heap.size = w1.heap.size := by omega
        clear hgo2 hE hR hS hO ownS ownO hres hblk hb hRB hlt hk hs
        go_wp2
        refine bodyPost_gen2 HRB.out HL8.out HG8.out ?_
        clear c0 c1 c2 c3 c4 c5 c6 c7 d0 d1 d2 d3 d4 d5 d6 d7 hf hf' HRB HL8 HG8
        intro W hblk hbel hgr
        have hSW := HS.out.grown hgr HRES.out (by decide)
        have hOW := HO.out.grown hgr HRES.out (by decide)
        obtain ⟨⟨c0, c1, c2, c3, c4, c5, c6, c7⟩, _⟩ := hblk.eight
        clear hblk
        refine bodyPost_ret (v := .tuple #[laidV L As cs Ao co, .int .i64 0]) (by unfold laidV; simp [results, Try.results24, go_sem, c0, c1, c2, c3, c4, c5, c6, c7]) rfl ?_
        unfold LayPost
        rw [HE2.out, HR2.out]
        exact ⟨As, cs, Ao, co, rfl, hSW, hOW, capS, capO, hbel⟩
end Go.Proofs.Ytamhigknobdloaa
