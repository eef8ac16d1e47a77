/- The walk of sum.size, and what a layout of a union is; conditions: the number is that of a case. -/
import Derived.Test.YtamhigknobdloaaSg
import Derived.Test.YtamhigknobdloaaRk
namespace Go.Proofs.Ytamhigknobdloaa
open Go.RowKit
set_option linter.unusedVariables false

/-- A layout with cases cs and tag bits tags, as it lies. -/
structure LayOf (w : World) (p : Part) (cs : List CaseV) (tags : List Int) : Prop where
  sp : Sl w p.A (p.sp.map bv)
  cap : p.sp.length ≤ p.c
  s0 : -9223372036854775808 ≤ p.s
  s1 : p.s ≤ 9223372036854775807
  x5 : ∃ A c, p.x5 = .slice A cs.length c ∧ CasesAt w A cs
  x6 : ∃ A c, p.x6 = .slice A tags.length c ∧ Sl w A (tags.map iv) ∧ tags.length ≤ c
  ib : IB tags
  one : p.one
  cl : ∀ q ∈ cs, -9223372036854775808 ≤ q.s ∧ q.s ≤ 9223372036854775807
  len : cs.length ≤ 1000000
theorem LayOf.below {w w' : World} {p : Part} {cs : List CaseV} {tags : List Int} (h : LayOf w p cs tags) (hb : Below w.heap.size w w') : LayOf w' p cs tags := by
  obtain ⟨A5, c5, e5, h5⟩ := h.x5
  obtain ⟨A6, c6, e6, h6, h6'⟩ := h.x6
  exact ⟨h.sp.below hb, h.cap, h.s0, h.s1, ⟨A5, c5, e5, Sl.below h5 hb⟩, ⟨A6, c6, e6, h6.below hb, h6'⟩, h.ib, h.one, h.cl, h.len⟩
/-- How many bytes lie in a union for a case. -/
def liesI (q : CaseV) : Int := if q.ind then 8 else q.s
def sizeOk (p : Part) (q : CaseV) : Bool := p.valid && decide (0 ≤ liesI q) && decide (liesI q ≤ p.s)
theorem cflat_length (cs : List CaseV) : (cs.flatMap CaseV.cells).length = 5 * cs.length := by
  induction cs with
  | nil => rfl
  | cons p t ih => rw [List.flatMap_cons, List.length_append, ih]; simp [CaseV.cells]; omega
theorem cflat_get (cs : List CaseV) (k j : Nat) (hk : k < cs.length) (hj : j < 5) : (cs.flatMap CaseV.cells)[5 * k + j]? = cs[k].cells[j]? := by
  induction cs generalizing k with
  | nil => simp at hk
  | cons p t ih =>
    rw [List.flatMap_cons]
    cases k with
    | zero => rw [List.getElem?_append_left (by simp [CaseV.cells]; omega)]; simp
    | succ k =>
      rw [List.getElem?_append_right (by simp [CaseV.cells]; omega)]
      have : 5 * (k + 1) + j - p.cells.length = 5 * k + j := by simp [CaseV.cells]; omega
      rw [this, ih k (by simpa using hk)]
      simp
/-- The five cells of the k-th case, as the walk spells their places. -/
theorem CasesAt.get {w : World} {A : Option Addr} {cs : List CaseV} (h : CasesAt w A cs) {k : Nat} (hk : k < cs.length) :
    ∃ b off, A = some ⟨b, off, none⟩ ∧ w.cell? ⟨b, off + k * 5, none⟩ = some (.string cs[k].name) ∧ w.cell? ⟨b, off + k * 5 + 1, none⟩ = some (.bool cs[k].ind) ∧
      w.cell? ⟨b, off + k * 5 + 2, none⟩ = some (.slice cs[k].A cs[k].ofs.length cs[k].c) ∧ w.cell? ⟨b, off + k * 5 + 3, none⟩ = some cs[k].x3 ∧ w.cell? ⟨b, off + k * 5 + 4, none⟩ = some (.int .i64 cs[k].s) := by
  obtain ⟨b, off, hA, _⟩ := Sl.at_ h (k := 5 * k) (by rw [cflat_length]; omega)
  rcases h with h | ⟨b', off', hA', hc⟩
  · have := congrArg List.length h
    rw [cflat_length] at this
    simp at this
    omega
  · rw [hA] at hA'
    injection hA' with e
    injection e with e1 e2
    subst e1 e2
    have hx : ∀ j, j < 5 → w.cell? ⟨b, off + k * 5 + j, none⟩ = cs[k].cells[j]? := by
      intro j hj
      have := hc (5 * k + j) (by rw [cflat_length]; omega)
      rw [← cflat_get cs k j hk hj, Nat.add_assoc, Nat.mul_comm k 5, this, List.getElem?_eq_getElem]
    exact ⟨b, off, hA, hx 0 (by omega), hx 1 (by omega), hx 2 (by omega), hx 3 (by omega), hx 4 (by omega)⟩

set_option maxHeartbeats 3200000 in
set_option maxRecDepth 100000 in
theorem size_any (p : Part) (cs : List CaseV) (tags : List Int) (k : Nat) (w : World) (h : LayOf w p cs tags) (hk : k < cs.length) :
    Calls Try.prog 87 #[p.val, .int .i64 k] w fun e w' => e = .returned (.tuple #[.int .i64 (liesI cs[k]), .bool (sizeOk p cs[k])]) ∧ Below w.heap.size w w' := by
  obtain ⟨s, al, A, sp, c, x3, x4, x5, x6, x7⟩ := p
  obtain ⟨A5, c5, e5, hcs⟩ := h.x5
  simp only at e5
  subst e5
  have hb0 := (Below.refl w.heap.size w).alloc (Nat.le_refl _) (.cells #[.int .i64 s, .int .i64 al, .slice A sp.length c, x3, x4, .slice A5 cs.length c5, x6, x7] 31)
  have hP := Blk.new w 31 #[.int .i64 s, .int .i64 al, .slice A sp.length c, x3, x4, .slice A5 cs.length c5, x6, x7]
  have hcs1 : CasesAt (w.alloc (.cells #[.int .i64 s, .int .i64 al, .slice A sp.length c, x3, x4, .slice A5 cs.length c5, x6, x7] 31)) A5 cs := Sl.alloc hcs _
  obtain ⟨b, off, rfl, q0, q1, q2, q3, q4⟩ := hcs1.get hk
  have hone := h.one
  have sx3 := store_var (P := Try.prog) hone.h3
  have sx4 := store_var (P := Try.prog) hone.h4
  have sx6 := store_var (P := Try.prog) hone.h6
  have sx7 := store_var (P := Try.prog) hone.h7
  have hlen := h.len
  have hk0 : (0 : Int) ≤ (k : Int) := Int.natCast_nonneg _
  have hk1 : (k : Int) < (cs.length : Int) := by omega
  have hql := h.cl cs[k] (List.getElem_mem hk)
  have hs0 := h.s0
  have hs1 := h.s1
  simp only at hs0 hs1
  obtain ⟨r, hr⟩ : ∃ r, r = cs[k] := ⟨_, rfl⟩
  rw [← hr] at q0 q1 q2 q3 q4 hql ⊢
  have hq1 := hql.1
  have hq2 := hql.2
  have HP := Lib.hid hP
  have HB0 := Lib.hid hb0
  have hL : ∃ L, L = liesI r := ⟨_, rfl⟩
  have hV : ∀ W : World, Calls Try.prog 47 #[.agg #[.int .i64 s, .int .i64 al, .slice A sp.length c, x3, x4, .slice (some ⟨b, off, none⟩) cs.length c5, x6, x7]] W fun e w' => e = .returned (.bool (validB s al sp.length)) ∧ Below W.heap.size W w' := fun W => valid_any _ _ _ _ _ _ _ _ _ _ _
  clear hP hb0 hr hone hcs1 hcs h hql hL q0 q2 q3
  unfold Part.val
  cases hi : r.ind with
  | true =>
    rw [hi] at q1
    have e1 : liesI r = 8 := by unfold liesI; rw [hi]; rfl
    have e2 : sizeOk ⟨s, al, A, sp, c, x3, x4, .slice (some ⟨b, off, none⟩) cs.length c5, x6, x7⟩ r = (validB s al sp.length && decide (8 ≤ s)) := by unfold sizeOk; rw [e1]; simp [Part.valid]
    rw [e1, e2]
    clear e1 e2 hi
    cases hv : validB s al sp.length with
    | false =>
      have HVV : Hid (∀ W : World, Calls Try.prog 47 #[.agg #[.int .i64 s, .int .i64 al, .slice A sp.length c, x3, x4, .slice (some ⟨b, off, none⟩) cs.length c5, x6, x7]] W fun e w' => e = .returned (.bool false) ∧ Below W.heap.size W w') := by intro W; have := hV W; rw [hv] at this; exact this
      clear hV hv
      simp only [Bool.false_and]
      go_enter Try.func87, Try.ntmps87
      go_wp2_with fail
      refine gen_act fun a0 ha0 => ?_
      have z2 : a0.eval (.tmp 2) = .pointer (some ⟨w.heap.size, 0, none⟩) := by rw [ha0]; rfl
      have z6 : a0.eval (.tmp 6) = .int .i64 8 := by rw [ha0]; rfl
      have zs : a0.tmps.size = 32 := by rw [ha0]; rfl
      have HA0 := Lib.hid ha0
      clear ha0
      refine wp_region_kn (by kernel_rfl) (ord_of' (by kernel_rfl)) (dst_of (by kernel_rfl)) (size_of' (n := 32) (by kernel_rfl) zs) [some (.int .i64 8), some (.agg #[.int .i64 s, .int .i64 al, .slice A sp.length c, x3, x4, .slice (some ⟨b, off, none⟩) cs.length c5, x6, x7]), none, some (.bool false), some (undef), some (undef), some (.bool false), some (.bool false), some (undef), some (undef), some (undef), some (undef), some (.bool false), some (.int .i64 8), some (.bool false)] ?_ (fun D x W => (D 2 = true → x 2 = .bool false) ∧ Blk W w.heap.size 31 #[.int .i64 s, .int .i64 al, .slice A sp.length c, x3, x4, .slice (some ⟨b, off, none⟩) cs.length c5, x6, x7] ∧ Below w.heap.size w W) ⟨(fun h => by cases h), HP.out, HB0.out.drew⟩ ?_ ?_ ?_ ?_
      · intro i o g bl ho hg
        have hi : i < 15 := (Array.getElem?_eq_some_iff.1 ho).1
        rcases (show i = 0 ∨ i = 1 ∨ i = 2 ∨ i = 3 ∨ i = 4 ∨ i = 5 ∨ i = 6 ∨ i = 7 ∨ i = 8 ∨ i = 9 ∨ i = 10 ∨ i = 11 ∨ i = 12 ∨ i = 13 ∨ i = 14 by omega) with rfl | rfl | rfl | rfl | rfl | rfl | rfl | rfl | rfl | rfl | rfl | rfl | rfl | rfl | rfl
        · simp only [List.getElem?_toArray, List.getElem?_cons_zero, Option.some.injEq] at ho
          subst ho
          cases hg
        · simp only [List.getElem?_toArray, List.getElem?_cons_zero, List.getElem?_cons_succ, Option.some.injEq] at ho
          subst ho
          cases hg
        · simp only [List.getElem?_toArray, List.getElem?_cons_zero, List.getElem?_cons_succ, Option.some.injEq] at ho
          subst ho
          cases hg
        · simp only [List.getElem?_toArray, List.getElem?_cons_zero, List.getElem?_cons_succ, Option.some.injEq] at ho
          subst ho
          cases hg
        · simp only [List.getElem?_toArray, List.getElem?_cons_zero, List.getElem?_cons_succ, Option.some.injEq] at ho
          subst ho
          obtain ⟨rfl, rfl⟩ : 3 = g ∧ true = bl := by simpa using hg
          exact ⟨false, _, _, rfl, rfl, rfl, ⟨{ on := 3, ground := .guard }, by simp, rfl, rfl⟩, fun h => by first | exact absurd rfl h | rfl⟩
        · simp only [List.getElem?_toArray, List.getElem?_cons_zero, List.getElem?_cons_succ, Option.some.injEq] at ho
          subst ho
          obtain ⟨rfl, rfl⟩ : 3 = g ∧ true = bl := by simpa using hg
          exact ⟨false, _, _, rfl, rfl, rfl, ⟨{ on := 3, ground := .guard }, by simp, rfl, rfl⟩, fun h => by first | exact absurd rfl h | rfl⟩
        · simp only [List.getElem?_toArray, List.getElem?_cons_zero, List.getElem?_cons_succ, Option.some.injEq] at ho
          subst ho
          cases hg
        · simp only [List.getElem?_toArray, List.getElem?_cons_zero, List.getElem?_cons_succ, Option.some.injEq] at ho
          subst ho
          cases hg
        · simp only [List.getElem?_toArray, List.getElem?_cons_zero, List.getElem?_cons_succ, Option.some.injEq] at ho
          subst ho
          obtain ⟨rfl, rfl⟩ : 7 = g ∧ true = bl := by simpa using hg
          exact ⟨false, _, _, rfl, rfl, rfl, ⟨{ on := 7, ground := .guard }, by simp, rfl, rfl⟩, fun h => by first | exact absurd rfl h | rfl⟩
        · simp only [List.getElem?_toArray, List.getElem?_cons_zero, List.getElem?_cons_succ, Option.some.injEq] at ho
          subst ho
          obtain ⟨rfl, rfl⟩ : 7 = g ∧ true = bl := by simpa using hg
          exact ⟨false, _, _, rfl, rfl, rfl, ⟨{ on := 7, ground := .guard }, by simp, rfl, rfl⟩, fun h => by first | exact absurd rfl h | rfl⟩
        · simp only [List.getElem?_toArray, List.getElem?_cons_zero, List.getElem?_cons_succ, Option.some.injEq] at ho
          subst ho
          obtain ⟨rfl, rfl⟩ : 7 = g ∧ true = bl := by simpa using hg
          exact ⟨false, _, _, rfl, rfl, rfl, ⟨{ on := 7, ground := .guard }, by simp, rfl, rfl⟩, fun h => by first | exact absurd rfl h | rfl⟩
        · simp only [List.getElem?_toArray, List.getElem?_cons_zero, List.getElem?_cons_succ, Option.some.injEq] at ho
          subst ho
          obtain ⟨rfl, rfl⟩ : 7 = g ∧ true = bl := by simpa using hg
          exact ⟨false, _, _, rfl, rfl, rfl, ⟨{ on := 7, ground := .guard }, by simp, rfl, rfl⟩, fun h => by first | exact absurd rfl h | rfl⟩
        · simp only [List.getElem?_toArray, List.getElem?_cons_zero, List.getElem?_cons_succ, Option.some.injEq] at ho
          subst ho
          cases hg
        · simp only [List.getElem?_toArray, List.getElem?_cons_zero, List.getElem?_cons_succ, Option.some.injEq] at ho
          subst ho
          cases hg
        · simp only [List.getElem?_toArray, List.getElem?_cons_zero, List.getElem?_cons_succ, Option.some.injEq] at ho
          subst ho
          cases hg
      · intro i u D x w5 hl hD hI
        have hi : i < 15 := by have h := (List.getElem?_eq_some_iff.1 hl).1; simpa using h
        have hnh : i ≠ 2 := by
          rintro rfl; simp at hl
        exact ⟨fun h => by have e : ¬ 2 = i := fun e => hnh e.symm; simp only [e, if_false] at h ⊢; exact hI.1 h, hI.2⟩
      · intro D x a w5 i o u ho hl hD hdep hcl hF hKn hI hwant K hk
        have hi : i < 15 := (Array.getElem?_eq_some_iff.1 ho).1
        rcases (show i = 0 ∨ i = 1 ∨ i = 2 ∨ i = 3 ∨ i = 4 ∨ i = 5 ∨ i = 6 ∨ i = 7 ∨ i = 8 ∨ i = 9 ∨ i = 10 ∨ i = 11 ∨ i = 12 ∨ i = 13 ∨ i = 14 by omega) with rfl | rfl | rfl | rfl | rfl | rfl | rfl | rfl | rfl | rfl | rfl | rfl | rfl | rfl | rfl
        · simp only [List.getElem?_toArray, List.getElem?_cons_zero, Option.some.injEq] at ho
          subst ho
          obtain rfl : .int .i64 8 = u := by simpa using hl
          have e6 := hF.ev0 (by kernel_rfl) z6
          clear hF hcl hKn hl hwant
          go_simp
          exact hk
        · simp only [List.getElem?_toArray, List.getElem?_cons_zero, List.getElem?_cons_succ, Option.some.injEq] at ho
          subst ho
          obtain rfl : .agg #[.int .i64 s, .int .i64 al, .slice A sp.length c, x3, x4, .slice (some ⟨b, off, none⟩) cs.length c5, x6, x7] = u := by simpa using hl
          have e2 := hF.ev0 (by kernel_rfl) z2
          obtain ⟨⟨b0, b1, b2, b3, b4, b5, b6, b7⟩, bf⟩ := Blk.eight hI.2.1
          clear hF hcl hKn hl hwant
          go_simp
          exact hk
        · simp at hl
        · simp only [List.getElem?_toArray, List.getElem?_cons_zero, List.getElem?_cons_succ, Option.some.injEq] at ho
          subst ho
          simp [Region.binds] at hdep
          obtain rfl : .bool false = u := by simpa using hl
          have e21 := hF.ev 2 rfl rfl (by simp [hdep]) (hI.1 (by simp [hdep]))
          clear hF hcl hKn hl hwant
          go_simp
          exact hk
        · simp only [List.getElem?_toArray, List.getElem?_cons_zero, List.getElem?_cons_succ, Option.some.injEq] at ho
          subst ho
          have hy := hwant _ _ rfl
          simp at hy
        · simp only [List.getElem?_toArray, List.getElem?_cons_zero, List.getElem?_cons_succ, Option.some.injEq] at ho
          subst ho
          have hy := hwant _ _ rfl
          simp at hy
        · simp only [List.getElem?_toArray, List.getElem?_cons_zero, List.getElem?_cons_succ, Option.some.injEq] at ho
          subst ho
          simp [Region.binds] at hdep
          obtain rfl : .bool false = u := by simpa using hl
          have e22 := hKn.ev hF 3 rfl rfl rfl (by simp [hdep])
          have e24 := hKn.ev hF 5 rfl rfl rfl (by simp [hdep])
          clear hF hcl hKn hl hwant
          go_simp
          exact hk
        · simp only [List.getElem?_toArray, List.getElem?_cons_zero, List.getElem?_cons_succ, Option.some.injEq] at ho
          subst ho
          simp [Region.binds] at hdep
          obtain rfl : .bool false = u := by simpa using hl
          have e25 := hKn.ev hF 6 rfl rfl rfl (by simp [hdep])
          clear hF hcl hKn hl hwant
          go_simp
          exact hk
        · simp only [List.getElem?_toArray, List.getElem?_cons_zero, List.getElem?_cons_succ, Option.some.injEq] at ho
          subst ho
          have hy := hwant _ _ rfl
          simp at hy
        · simp only [List.getElem?_toArray, List.getElem?_cons_zero, List.getElem?_cons_succ, Option.some.injEq] at ho
          subst ho
          have hy := hwant _ _ rfl
          simp at hy
        · simp only [List.getElem?_toArray, List.getElem?_cons_zero, List.getElem?_cons_succ, Option.some.injEq] at ho
          subst ho
          have hy := hwant _ _ rfl
          simp at hy
        · simp only [List.getElem?_toArray, List.getElem?_cons_zero, List.getElem?_cons_succ, Option.some.injEq] at ho
          subst ho
          have hy := hwant _ _ rfl
          simp at hy
        · simp only [List.getElem?_toArray, List.getElem?_cons_zero, List.getElem?_cons_succ, Option.some.injEq] at ho
          subst ho
          simp [Region.binds] at hdep
          obtain rfl : .bool false = u := by simpa using hl
          have e26 := hKn.ev hF 7 rfl rfl rfl (by simp [hdep])
          have e30 := hKn.ev hF 11 rfl rfl rfl (by simp [hdep])
          clear hF hcl hKn hl hwant
          go_simp
          exact hk
        · simp only [List.getElem?_toArray, List.getElem?_cons_zero, List.getElem?_cons_succ, Option.some.injEq] at ho
          subst ho
          simp [Region.binds] at hdep
          obtain rfl : .int .i64 8 = u := by simpa using hl
          have e19 := hKn.ev hF 0 rfl rfl rfl (by simp [hdep])
          clear hF hcl hKn hl hwant
          go_simp
          exact hk
        · simp only [List.getElem?_toArray, List.getElem?_cons_zero, List.getElem?_cons_succ, Option.some.injEq] at ho
          subst ho
          simp [Region.binds] at hdep
          obtain rfl : .bool false = u := by simpa using hl
          have e31 := hKn.ev hF 12 rfl rfl rfl (by simp [hdep])
          clear hF hcl hKn hl hwant
          go_simp
          exact hk
      · intro D x a w5 i o ho hl hD hdep hcl hF hKn hI K hk
        have hi : i < 15 := (Array.getElem?_eq_some_iff.1 ho).1
        rcases (show i = 0 ∨ i = 1 ∨ i = 2 ∨ i = 3 ∨ i = 4 ∨ i = 5 ∨ i = 6 ∨ i = 7 ∨ i = 8 ∨ i = 9 ∨ i = 10 ∨ i = 11 ∨ i = 12 ∨ i = 13 ∨ i = 14 by omega) with rfl | rfl | rfl | rfl | rfl | rfl | rfl | rfl | rfl | rfl | rfl | rfl | rfl | rfl | rfl
        · exact absurd rfl (hl _)
        · exact absurd rfl (hl _)
        · simp only [List.getElem?_toArray, List.getElem?_cons_zero, List.getElem?_cons_succ, Option.some.injEq] at ho
          subst ho
          simp [Region.binds] at hdep
          have e20 := hKn.ev hF 1 rfl rfl rfl (by simp [hdep])
          clear hF hcl hKn hl
          go_simp
          refine (HVV.out _).mono ?_
          rintro e w6 ⟨rfl, hb2⟩
          exact hk _ _ ⟨fun _ => rfl, hI.2.1.below hb2, below_next hI.2.2 hb2⟩
        · exact absurd rfl (hl _)
        · exact absurd rfl (hl _)
        · exact absurd rfl (hl _)
        · exact absurd rfl (hl _)
        · exact absurd rfl (hl _)
        · exact absurd rfl (hl _)
        · exact absurd rfl (hl _)
        · exact absurd rfl (hl _)
        · exact absurd rfl (hl _)
        · exact absurd rfl (hl _)
        · exact absurd rfl (hl _)
        · exact absurd rfl (hl _)
      · intro D x w9 hD hKn hI
        have HBF := Lib.hid hI.2.2
        have x13 := hKn 13 _ rfl (hD 13 (by decide))
        have x14 := hKn 14 _ rfl (hD 14 (by decide))
        clear hI hD hKn
        rw [HA0.out]
        simp [putsAll, List.range, List.range.loop, Act.put, x13, x14]
        go_wp2
        go_ret2
        exact ⟨rfl, HBF.out⟩
    | true =>
      have HVV : Hid (∀ W : World, Calls Try.prog 47 #[.agg #[.int .i64 s, .int .i64 al, .slice A sp.length c, x3, x4, .slice (some ⟨b, off, none⟩) cs.length c5, x6, x7]] W fun e w' => e = .returned (.bool true) ∧ Below W.heap.size W w') := by intro W; have := hV W; rw [hv] at this; exact this
      clear hV hv
      by_cases h8 : 8 ≤ s
      · have hd : decide (8 ≤ s) = true := by simpa using h8
        simp only [hd, Bool.true_and]
        go_enter Try.func87, Try.ntmps87
        go_wp2_with fail
        refine gen_act fun a0 ha0 => ?_
        have z2 : a0.eval (.tmp 2) = .pointer (some ⟨w.heap.size, 0, none⟩) := by rw [ha0]; rfl
        have z6 : a0.eval (.tmp 6) = .int .i64 8 := by rw [ha0]; rfl
        have zs : a0.tmps.size = 32 := by rw [ha0]; rfl
        have HA0 := Lib.hid ha0
        clear ha0
        refine wp_region_kn (by kernel_rfl) (ord_of' (by kernel_rfl)) (dst_of (by kernel_rfl)) (size_of' (n := 32) (by kernel_rfl) zs) [some (.int .i64 8), some (.agg #[.int .i64 s, .int .i64 al, .slice A sp.length c, x3, x4, .slice (some ⟨b, off, none⟩) cs.length c5, x6, x7]), none, some (.bool true), some (.int .i64 8), some (.bool true), some (.bool true), some (.bool true), some (.int .i64 8), some (.pointer (some ⟨w.heap.size, 0, none⟩)), some (.int .i64 s), some (.bool true), some (.bool true), some (.int .i64 8), some (.bool true)] ?_ (fun D x W => (D 2 = true → x 2 = .bool true) ∧ Blk W w.heap.size 31 #[.int .i64 s, .int .i64 al, .slice A sp.length c, x3, x4, .slice (some ⟨b, off, none⟩) cs.length c5, x6, x7] ∧ Below w.heap.size w W) ⟨(fun h => by cases h), HP.out, HB0.out.drew⟩ ?_ ?_ ?_ ?_
        · intro i o g bl ho hg
          have hi : i < 15 := (Array.getElem?_eq_some_iff.1 ho).1
          rcases (show i = 0 ∨ i = 1 ∨ i = 2 ∨ i = 3 ∨ i = 4 ∨ i = 5 ∨ i = 6 ∨ i = 7 ∨ i = 8 ∨ i = 9 ∨ i = 10 ∨ i = 11 ∨ i = 12 ∨ i = 13 ∨ i = 14 by omega) with rfl | rfl | rfl | rfl | rfl | rfl | rfl | rfl | rfl | rfl | rfl | rfl | rfl | rfl | rfl
          · simp only [List.getElem?_toArray, List.getElem?_cons_zero, Option.some.injEq] at ho
            subst ho
            cases hg
          · simp only [List.getElem?_toArray, List.getElem?_cons_zero, List.getElem?_cons_succ, Option.some.injEq] at ho
            subst ho
            cases hg
          · simp only [List.getElem?_toArray, List.getElem?_cons_zero, List.getElem?_cons_succ, Option.some.injEq] at ho
            subst ho
            cases hg
          · simp only [List.getElem?_toArray, List.getElem?_cons_zero, List.getElem?_cons_succ, Option.some.injEq] at ho
            subst ho
            cases hg
          · simp only [List.getElem?_toArray, List.getElem?_cons_zero, List.getElem?_cons_succ, Option.some.injEq] at ho
            subst ho
            obtain ⟨rfl, rfl⟩ : 3 = g ∧ true = bl := by simpa using hg
            exact ⟨true, _, _, rfl, rfl, rfl, ⟨{ on := 3, ground := .guard }, by simp, rfl, rfl⟩, fun h => by first | exact absurd rfl h | rfl⟩
          · simp only [List.getElem?_toArray, List.getElem?_cons_zero, List.getElem?_cons_succ, Option.some.injEq] at ho
            subst ho
            obtain ⟨rfl, rfl⟩ : 3 = g ∧ true = bl := by simpa using hg
            exact ⟨true, _, _, rfl, rfl, rfl, ⟨{ on := 3, ground := .guard }, by simp, rfl, rfl⟩, fun h => by first | exact absurd rfl h | rfl⟩
          · simp only [List.getElem?_toArray, List.getElem?_cons_zero, List.getElem?_cons_succ, Option.some.injEq] at ho
            subst ho
            cases hg
          · simp only [List.getElem?_toArray, List.getElem?_cons_zero, List.getElem?_cons_succ, Option.some.injEq] at ho
            subst ho
            cases hg
          · simp only [List.getElem?_toArray, List.getElem?_cons_zero, List.getElem?_cons_succ, Option.some.injEq] at ho
            subst ho
            obtain ⟨rfl, rfl⟩ : 7 = g ∧ true = bl := by simpa using hg
            exact ⟨true, _, _, rfl, rfl, rfl, ⟨{ on := 7, ground := .guard }, by simp, rfl, rfl⟩, fun h => by first | exact absurd rfl h | rfl⟩
          · simp only [List.getElem?_toArray, List.getElem?_cons_zero, List.getElem?_cons_succ, Option.some.injEq] at ho
            subst ho
            obtain ⟨rfl, rfl⟩ : 7 = g ∧ true = bl := by simpa using hg
            exact ⟨true, _, _, rfl, rfl, rfl, ⟨{ on := 7, ground := .guard }, by simp, rfl, rfl⟩, fun h => by first | exact absurd rfl h | rfl⟩
          · simp only [List.getElem?_toArray, List.getElem?_cons_zero, List.getElem?_cons_succ, Option.some.injEq] at ho
            subst ho
            obtain ⟨rfl, rfl⟩ : 7 = g ∧ true = bl := by simpa using hg
            exact ⟨true, _, _, rfl, rfl, rfl, ⟨{ on := 7, ground := .guard }, by simp, rfl, rfl⟩, fun h => by first | exact absurd rfl h | rfl⟩
          · simp only [List.getElem?_toArray, List.getElem?_cons_zero, List.getElem?_cons_succ, Option.some.injEq] at ho
            subst ho
            obtain ⟨rfl, rfl⟩ : 7 = g ∧ true = bl := by simpa using hg
            exact ⟨true, _, _, rfl, rfl, rfl, ⟨{ on := 7, ground := .guard }, by simp, rfl, rfl⟩, fun h => by first | exact absurd rfl h | rfl⟩
          · simp only [List.getElem?_toArray, List.getElem?_cons_zero, List.getElem?_cons_succ, Option.some.injEq] at ho
            subst ho
            cases hg
          · simp only [List.getElem?_toArray, List.getElem?_cons_zero, List.getElem?_cons_succ, Option.some.injEq] at ho
            subst ho
            cases hg
          · simp only [List.getElem?_toArray, List.getElem?_cons_zero, List.getElem?_cons_succ, Option.some.injEq] at ho
            subst ho
            cases hg
        · intro i u D x w5 hl hD hI
          have hi : i < 15 := by have h := (List.getElem?_eq_some_iff.1 hl).1; simpa using h
          have hnh : i ≠ 2 := by
            rintro rfl; simp at hl
          exact ⟨fun h => by have e : ¬ 2 = i := fun e => hnh e.symm; simp only [e, if_false] at h ⊢; exact hI.1 h, hI.2⟩
        · intro D x a w5 i o u ho hl hD hdep hcl hF hKn hI hwant K hk
          have hi : i < 15 := (Array.getElem?_eq_some_iff.1 ho).1
          rcases (show i = 0 ∨ i = 1 ∨ i = 2 ∨ i = 3 ∨ i = 4 ∨ i = 5 ∨ i = 6 ∨ i = 7 ∨ i = 8 ∨ i = 9 ∨ i = 10 ∨ i = 11 ∨ i = 12 ∨ i = 13 ∨ i = 14 by omega) with rfl | rfl | rfl | rfl | rfl | rfl | rfl | rfl | rfl | rfl | rfl | rfl | rfl | rfl | rfl
          · simp only [List.getElem?_toArray, List.getElem?_cons_zero, Option.some.injEq] at ho
            subst ho
            obtain rfl : .int .i64 8 = u := by simpa using hl
            have e6 := hF.ev0 (by kernel_rfl) z6
            clear hF hcl hKn hl hwant
            go_simp
            exact hk
          · simp only [List.getElem?_toArray, List.getElem?_cons_zero, List.getElem?_cons_succ, Option.some.injEq] at ho
            subst ho
            obtain rfl : .agg #[.int .i64 s, .int .i64 al, .slice A sp.length c, x3, x4, .slice (some ⟨b, off, none⟩) cs.length c5, x6, x7] = u := by simpa using hl
            have e2 := hF.ev0 (by kernel_rfl) z2
            obtain ⟨⟨b0, b1, b2, b3, b4, b5, b6, b7⟩, bf⟩ := Blk.eight hI.2.1
            clear hF hcl hKn hl hwant
            go_simp
            exact hk
          · simp at hl
          · simp only [List.getElem?_toArray, List.getElem?_cons_zero, List.getElem?_cons_succ, Option.some.injEq] at ho
            subst ho
            simp [Region.binds] at hdep
            obtain rfl : .bool true = u := by simpa using hl
            have e21 := hF.ev 2 rfl rfl (by simp [hdep]) (hI.1 (by simp [hdep]))
            clear hF hcl hKn hl hwant
            go_simp
            exact hk
          · simp only [List.getElem?_toArray, List.getElem?_cons_zero, List.getElem?_cons_succ, Option.some.injEq] at ho
            subst ho
            simp [Region.binds] at hdep
            obtain rfl : .int .i64 8 = u := by simpa using hl
            have e6 := hF.ev0 (by kernel_rfl) z6
            clear hF hcl hKn hl hwant
            go_simp
            exact hk
          · simp only [List.getElem?_toArray, List.getElem?_cons_zero, List.getElem?_cons_succ, Option.some.injEq] at ho
            subst ho
            simp [Region.binds] at hdep
            obtain rfl : .bool true = u := by simpa using hl
            have e23 := hKn.ev hF 4 rfl rfl rfl (by simp [hdep])
            clear hF hcl hKn hl hwant
            go_simp
            exact hk
          · simp only [List.getElem?_toArray, List.getElem?_cons_zero, List.getElem?_cons_succ, Option.some.injEq] at ho
            subst ho
            simp [Region.binds] at hdep
            obtain rfl : .bool true = u := by simpa using hl
            have e22 := hKn.ev hF 3 rfl rfl rfl (by simp [hdep])
            have e24 := hKn.ev hF 5 rfl rfl rfl (by simp [hdep])
            clear hF hcl hKn hl hwant
            go_simp
            exact hk
          · simp only [List.getElem?_toArray, List.getElem?_cons_zero, List.getElem?_cons_succ, Option.some.injEq] at ho
            subst ho
            simp [Region.binds] at hdep
            obtain rfl : .bool true = u := by simpa using hl
            have e25 := hKn.ev hF 6 rfl rfl rfl (by simp [hdep])
            clear hF hcl hKn hl hwant
            go_simp
            exact hk
          · simp only [List.getElem?_toArray, List.getElem?_cons_zero, List.getElem?_cons_succ, Option.some.injEq] at ho
            subst ho
            simp [Region.binds] at hdep
            obtain rfl : .int .i64 8 = u := by simpa using hl
            have e6 := hF.ev0 (by kernel_rfl) z6
            clear hF hcl hKn hl hwant
            go_simp
            exact hk
          · simp only [List.getElem?_toArray, List.getElem?_cons_zero, List.getElem?_cons_succ, Option.some.injEq] at ho
            subst ho
            simp [Region.binds] at hdep
            obtain rfl : .pointer (some ⟨w.heap.size, 0, none⟩) = u := by simpa using hl
            have e2 := hF.ev0 (by kernel_rfl) z2
            clear hF hcl hKn hl hwant
            go_simp
            exact hk
          · simp only [List.getElem?_toArray, List.getElem?_cons_zero, List.getElem?_cons_succ, Option.some.injEq] at ho
            subst ho
            simp [Region.binds] at hdep
            obtain rfl : .int .i64 s = u := by simpa using hl
            have e28 := hKn.ev hF 9 rfl rfl rfl (by simp [hdep])
            obtain ⟨⟨b0, b1, b2, b3, b4, b5, b6, b7⟩, bf⟩ := Blk.eight hI.2.1
            clear hF hcl hKn hl hwant
            go_simp
            exact hk
          · simp only [List.getElem?_toArray, List.getElem?_cons_zero, List.getElem?_cons_succ, Option.some.injEq] at ho
            subst ho
            simp [Region.binds] at hdep
            obtain rfl : .bool true = u := by simpa using hl
            have e27 := hKn.ev hF 8 rfl rfl rfl (by simp [hdep])
            have e29 := hKn.ev hF 10 rfl rfl rfl (by simp [hdep])
            clear hF hcl hKn hl hwant
            go_simp
            exact hk
          · simp only [List.getElem?_toArray, List.getElem?_cons_zero, List.getElem?_cons_succ, Option.some.injEq] at ho
            subst ho
            simp [Region.binds] at hdep
            obtain rfl : .bool true = u := by simpa using hl
            have e26 := hKn.ev hF 7 rfl rfl rfl (by simp [hdep])
            have e30 := hKn.ev hF 11 rfl rfl rfl (by simp [hdep])
            clear hF hcl hKn hl hwant
            go_simp
            exact hk
          · simp only [List.getElem?_toArray, List.getElem?_cons_zero, List.getElem?_cons_succ, Option.some.injEq] at ho
            subst ho
            simp [Region.binds] at hdep
            obtain rfl : .int .i64 8 = u := by simpa using hl
            have e19 := hKn.ev hF 0 rfl rfl rfl (by simp [hdep])
            clear hF hcl hKn hl hwant
            go_simp
            exact hk
          · simp only [List.getElem?_toArray, List.getElem?_cons_zero, List.getElem?_cons_succ, Option.some.injEq] at ho
            subst ho
            simp [Region.binds] at hdep
            obtain rfl : .bool true = u := by simpa using hl
            have e31 := hKn.ev hF 12 rfl rfl rfl (by simp [hdep])
            clear hF hcl hKn hl hwant
            go_simp
            exact hk
        · intro D x a w5 i o ho hl hD hdep hcl hF hKn hI K hk
          have hi : i < 15 := (Array.getElem?_eq_some_iff.1 ho).1
          rcases (show i = 0 ∨ i = 1 ∨ i = 2 ∨ i = 3 ∨ i = 4 ∨ i = 5 ∨ i = 6 ∨ i = 7 ∨ i = 8 ∨ i = 9 ∨ i = 10 ∨ i = 11 ∨ i = 12 ∨ i = 13 ∨ i = 14 by omega) with rfl | rfl | rfl | rfl | rfl | rfl | rfl | rfl | rfl | rfl | rfl | rfl | rfl | rfl | rfl
          · exact absurd rfl (hl _)
          · exact absurd rfl (hl _)
          · simp only [List.getElem?_toArray, List.getElem?_cons_zero, List.getElem?_cons_succ, Option.some.injEq] at ho
            subst ho
            simp [Region.binds] at hdep
            have e20 := hKn.ev hF 1 rfl rfl rfl (by simp [hdep])
            clear hF hcl hKn hl
            go_simp
            refine (HVV.out _).mono ?_
            rintro e w6 ⟨rfl, hb2⟩
            exact hk _ _ ⟨fun _ => rfl, hI.2.1.below hb2, below_next hI.2.2 hb2⟩
          · exact absurd rfl (hl _)
          · exact absurd rfl (hl _)
          · exact absurd rfl (hl _)
          · exact absurd rfl (hl _)
          · exact absurd rfl (hl _)
          · exact absurd rfl (hl _)
          · exact absurd rfl (hl _)
          · exact absurd rfl (hl _)
          · exact absurd rfl (hl _)
          · exact absurd rfl (hl _)
          · exact absurd rfl (hl _)
          · exact absurd rfl (hl _)
        · intro D x w9 hD hKn hI
          have HBF := Lib.hid hI.2.2
          have x13 := hKn 13 _ rfl (hD 13 (by decide))
          have x14 := hKn 14 _ rfl (hD 14 (by decide))
          clear hI hD hKn
          rw [HA0.out]
          simp [putsAll, List.range, List.range.loop, Act.put, x13, x14]
          go_wp2
          go_ret2
          exact ⟨rfl, HBF.out⟩
      · have hd : decide (8 ≤ s) = false := by simpa using h8
        simp only [hd, Bool.true_and]
        go_enter Try.func87, Try.ntmps87
        go_wp2_with fail
        refine gen_act fun a0 ha0 => ?_
        have z2 : a0.eval (.tmp 2) = .pointer (some ⟨w.heap.size, 0, none⟩) := by rw [ha0]; rfl
        have z6 : a0.eval (.tmp 6) = .int .i64 8 := by rw [ha0]; rfl
        have zs : a0.tmps.size = 32 := by rw [ha0]; rfl
        have HA0 := Lib.hid ha0
        clear ha0
        refine wp_region_kn (by kernel_rfl) (ord_of' (by kernel_rfl)) (dst_of (by kernel_rfl)) (size_of' (n := 32) (by kernel_rfl) zs) [some (.int .i64 8), some (.agg #[.int .i64 s, .int .i64 al, .slice A sp.length c, x3, x4, .slice (some ⟨b, off, none⟩) cs.length c5, x6, x7]), none, some (.bool true), some (.int .i64 8), some (.bool true), some (.bool true), some (.bool true), some (.int .i64 8), some (.pointer (some ⟨w.heap.size, 0, none⟩)), some (.int .i64 s), some (.bool false), some (.bool false), some (.int .i64 8), some (.bool false)] ?_ (fun D x W => (D 2 = true → x 2 = .bool true) ∧ Blk W w.heap.size 31 #[.int .i64 s, .int .i64 al, .slice A sp.length c, x3, x4, .slice (some ⟨b, off, none⟩) cs.length c5, x6, x7] ∧ Below w.heap.size w W) ⟨(fun h => by cases h), HP.out, HB0.out.drew⟩ ?_ ?_ ?_ ?_
        · intro i o g bl ho hg
          have hi : i < 15 := (Array.getElem?_eq_some_iff.1 ho).1
          rcases (show i = 0 ∨ i = 1 ∨ i = 2 ∨ i = 3 ∨ i = 4 ∨ i = 5 ∨ i = 6 ∨ i = 7 ∨ i = 8 ∨ i = 9 ∨ i = 10 ∨ i = 11 ∨ i = 12 ∨ i = 13 ∨ i = 14 by omega) with rfl | rfl | rfl | rfl | rfl | rfl | rfl | rfl | rfl | rfl | rfl | rfl | rfl | rfl | rfl
          · simp only [List.getElem?_toArray, List.getElem?_cons_zero, Option.some.injEq] at ho
            subst ho
            cases hg
          · simp only [List.getElem?_toArray, List.getElem?_cons_zero, List.getElem?_cons_succ, Option.some.injEq] at ho
            subst ho
            cases hg
          · simp only [List.getElem?_toArray, List.getElem?_cons_zero, List.getElem?_cons_succ, Option.some.injEq] at ho
            subst ho
            cases hg
          · simp only [List.getElem?_toArray, List.getElem?_cons_zero, List.getElem?_cons_succ, Option.some.injEq] at ho
            subst ho
            cases hg
          · simp only [List.getElem?_toArray, List.getElem?_cons_zero, List.getElem?_cons_succ, Option.some.injEq] at ho
            subst ho
            obtain ⟨rfl, rfl⟩ : 3 = g ∧ true = bl := by simpa using hg
            exact ⟨true, _, _, rfl, rfl, rfl, ⟨{ on := 3, ground := .guard }, by simp, rfl, rfl⟩, fun h => by first | exact absurd rfl h | rfl⟩
          · simp only [List.getElem?_toArray, List.getElem?_cons_zero, List.getElem?_cons_succ, Option.some.injEq] at ho
            subst ho
            obtain ⟨rfl, rfl⟩ : 3 = g ∧ true = bl := by simpa using hg
            exact ⟨true, _, _, rfl, rfl, rfl, ⟨{ on := 3, ground := .guard }, by simp, rfl, rfl⟩, fun h => by first | exact absurd rfl h | rfl⟩
          · simp only [List.getElem?_toArray, List.getElem?_cons_zero, List.getElem?_cons_succ, Option.some.injEq] at ho
            subst ho
            cases hg
          · simp only [List.getElem?_toArray, List.getElem?_cons_zero, List.getElem?_cons_succ, Option.some.injEq] at ho
            subst ho
            cases hg
          · simp only [List.getElem?_toArray, List.getElem?_cons_zero, List.getElem?_cons_succ, Option.some.injEq] at ho
            subst ho
            obtain ⟨rfl, rfl⟩ : 7 = g ∧ true = bl := by simpa using hg
            exact ⟨true, _, _, rfl, rfl, rfl, ⟨{ on := 7, ground := .guard }, by simp, rfl, rfl⟩, fun h => by first | exact absurd rfl h | rfl⟩
          · simp only [List.getElem?_toArray, List.getElem?_cons_zero, List.getElem?_cons_succ, Option.some.injEq] at ho
            subst ho
            obtain ⟨rfl, rfl⟩ : 7 = g ∧ true = bl := by simpa using hg
            exact ⟨true, _, _, rfl, rfl, rfl, ⟨{ on := 7, ground := .guard }, by simp, rfl, rfl⟩, fun h => by first | exact absurd rfl h | rfl⟩
          · simp only [List.getElem?_toArray, List.getElem?_cons_zero, List.getElem?_cons_succ, Option.some.injEq] at ho
            subst ho
            obtain ⟨rfl, rfl⟩ : 7 = g ∧ true = bl := by simpa using hg
            exact ⟨true, _, _, rfl, rfl, rfl, ⟨{ on := 7, ground := .guard }, by simp, rfl, rfl⟩, fun h => by first | exact absurd rfl h | rfl⟩
          · simp only [List.getElem?_toArray, List.getElem?_cons_zero, List.getElem?_cons_succ, Option.some.injEq] at ho
            subst ho
            obtain ⟨rfl, rfl⟩ : 7 = g ∧ true = bl := by simpa using hg
            exact ⟨true, _, _, rfl, rfl, rfl, ⟨{ on := 7, ground := .guard }, by simp, rfl, rfl⟩, fun h => by first | exact absurd rfl h | rfl⟩
          · simp only [List.getElem?_toArray, List.getElem?_cons_zero, List.getElem?_cons_succ, Option.some.injEq] at ho
            subst ho
            cases hg
          · simp only [List.getElem?_toArray, List.getElem?_cons_zero, List.getElem?_cons_succ, Option.some.injEq] at ho
            subst ho
            cases hg
          · simp only [List.getElem?_toArray, List.getElem?_cons_zero, List.getElem?_cons_succ, Option.some.injEq] at ho
            subst ho
            cases hg
        · intro i u D x w5 hl hD hI
          have hi : i < 15 := by have h := (List.getElem?_eq_some_iff.1 hl).1; simpa using h
          have hnh : i ≠ 2 := by
            rintro rfl; simp at hl
          exact ⟨fun h => by have e : ¬ 2 = i := fun e => hnh e.symm; simp only [e, if_false] at h ⊢; exact hI.1 h, hI.2⟩
        · intro D x a w5 i o u ho hl hD hdep hcl hF hKn hI hwant K hk
          have hi : i < 15 := (Array.getElem?_eq_some_iff.1 ho).1
          rcases (show i = 0 ∨ i = 1 ∨ i = 2 ∨ i = 3 ∨ i = 4 ∨ i = 5 ∨ i = 6 ∨ i = 7 ∨ i = 8 ∨ i = 9 ∨ i = 10 ∨ i = 11 ∨ i = 12 ∨ i = 13 ∨ i = 14 by omega) with rfl | rfl | rfl | rfl | rfl | rfl | rfl | rfl | rfl | rfl | rfl | rfl | rfl | rfl | rfl
          · simp only [List.getElem?_toArray, List.getElem?_cons_zero, Option.some.injEq] at ho
            subst ho
            obtain rfl : .int .i64 8 = u := by simpa using hl
            have e6 := hF.ev0 (by kernel_rfl) z6
            clear hF hcl hKn hl hwant
            go_simp
            exact hk
          · simp only [List.getElem?_toArray, List.getElem?_cons_zero, List.getElem?_cons_succ, Option.some.injEq] at ho
            subst ho
            obtain rfl : .agg #[.int .i64 s, .int .i64 al, .slice A sp.length c, x3, x4, .slice (some ⟨b, off, none⟩) cs.length c5, x6, x7] = u := by simpa using hl
            have e2 := hF.ev0 (by kernel_rfl) z2
            obtain ⟨⟨b0, b1, b2, b3, b4, b5, b6, b7⟩, bf⟩ := Blk.eight hI.2.1
            clear hF hcl hKn hl hwant
            go_simp
            exact hk
          · simp at hl
          · simp only [List.getElem?_toArray, List.getElem?_cons_zero, List.getElem?_cons_succ, Option.some.injEq] at ho
            subst ho
            simp [Region.binds] at hdep
            obtain rfl : .bool true = u := by simpa using hl
            have e21 := hF.ev 2 rfl rfl (by simp [hdep]) (hI.1 (by simp [hdep]))
            clear hF hcl hKn hl hwant
            go_simp
            exact hk
          · simp only [List.getElem?_toArray, List.getElem?_cons_zero, List.getElem?_cons_succ, Option.some.injEq] at ho
            subst ho
            simp [Region.binds] at hdep
            obtain rfl : .int .i64 8 = u := by simpa using hl
            have e6 := hF.ev0 (by kernel_rfl) z6
            clear hF hcl hKn hl hwant
            go_simp
            exact hk
          · simp only [List.getElem?_toArray, List.getElem?_cons_zero, List.getElem?_cons_succ, Option.some.injEq] at ho
            subst ho
            simp [Region.binds] at hdep
            obtain rfl : .bool true = u := by simpa using hl
            have e23 := hKn.ev hF 4 rfl rfl rfl (by simp [hdep])
            clear hF hcl hKn hl hwant
            go_simp
            exact hk
          · simp only [List.getElem?_toArray, List.getElem?_cons_zero, List.getElem?_cons_succ, Option.some.injEq] at ho
            subst ho
            simp [Region.binds] at hdep
            obtain rfl : .bool true = u := by simpa using hl
            have e22 := hKn.ev hF 3 rfl rfl rfl (by simp [hdep])
            have e24 := hKn.ev hF 5 rfl rfl rfl (by simp [hdep])
            clear hF hcl hKn hl hwant
            go_simp
            exact hk
          · simp only [List.getElem?_toArray, List.getElem?_cons_zero, List.getElem?_cons_succ, Option.some.injEq] at ho
            subst ho
            simp [Region.binds] at hdep
            obtain rfl : .bool true = u := by simpa using hl
            have e25 := hKn.ev hF 6 rfl rfl rfl (by simp [hdep])
            clear hF hcl hKn hl hwant
            go_simp
            exact hk
          · simp only [List.getElem?_toArray, List.getElem?_cons_zero, List.getElem?_cons_succ, Option.some.injEq] at ho
            subst ho
            simp [Region.binds] at hdep
            obtain rfl : .int .i64 8 = u := by simpa using hl
            have e6 := hF.ev0 (by kernel_rfl) z6
            clear hF hcl hKn hl hwant
            go_simp
            exact hk
          · simp only [List.getElem?_toArray, List.getElem?_cons_zero, List.getElem?_cons_succ, Option.some.injEq] at ho
            subst ho
            simp [Region.binds] at hdep
            obtain rfl : .pointer (some ⟨w.heap.size, 0, none⟩) = u := by simpa using hl
            have e2 := hF.ev0 (by kernel_rfl) z2
            clear hF hcl hKn hl hwant
            go_simp
            exact hk
          · simp only [List.getElem?_toArray, List.getElem?_cons_zero, List.getElem?_cons_succ, Option.some.injEq] at ho
            subst ho
            simp [Region.binds] at hdep
            obtain rfl : .int .i64 s = u := by simpa using hl
            have e28 := hKn.ev hF 9 rfl rfl rfl (by simp [hdep])
            obtain ⟨⟨b0, b1, b2, b3, b4, b5, b6, b7⟩, bf⟩ := Blk.eight hI.2.1
            clear hF hcl hKn hl hwant
            go_simp
            exact hk
          · simp only [List.getElem?_toArray, List.getElem?_cons_zero, List.getElem?_cons_succ, Option.some.injEq] at ho
            subst ho
            simp [Region.binds] at hdep
            obtain rfl : .bool false = u := by simpa using hl
            have e27 := hKn.ev hF 8 rfl rfl rfl (by simp [hdep])
            have e29 := hKn.ev hF 10 rfl rfl rfl (by simp [hdep])
            clear hF hcl hKn hl hwant
            go_simp
            exact hk
          · simp only [List.getElem?_toArray, List.getElem?_cons_zero, List.getElem?_cons_succ, Option.some.injEq] at ho
            subst ho
            simp [Region.binds] at hdep
            obtain rfl : .bool false = u := by simpa using hl
            have e26 := hKn.ev hF 7 rfl rfl rfl (by simp [hdep])
            have e30 := hKn.ev hF 11 rfl rfl rfl (by simp [hdep])
            clear hF hcl hKn hl hwant
            go_simp
            exact hk
          · simp only [List.getElem?_toArray, List.getElem?_cons_zero, List.getElem?_cons_succ, Option.some.injEq] at ho
            subst ho
            simp [Region.binds] at hdep
            obtain rfl : .int .i64 8 = u := by simpa using hl
            have e19 := hKn.ev hF 0 rfl rfl rfl (by simp [hdep])
            clear hF hcl hKn hl hwant
            go_simp
            exact hk
          · simp only [List.getElem?_toArray, List.getElem?_cons_zero, List.getElem?_cons_succ, Option.some.injEq] at ho
            subst ho
            simp [Region.binds] at hdep
            obtain rfl : .bool false = u := by simpa using hl
            have e31 := hKn.ev hF 12 rfl rfl rfl (by simp [hdep])
            clear hF hcl hKn hl hwant
            go_simp
            exact hk
        · intro D x a w5 i o ho hl hD hdep hcl hF hKn hI K hk
          have hi : i < 15 := (Array.getElem?_eq_some_iff.1 ho).1
          rcases (show i = 0 ∨ i = 1 ∨ i = 2 ∨ i = 3 ∨ i = 4 ∨ i = 5 ∨ i = 6 ∨ i = 7 ∨ i = 8 ∨ i = 9 ∨ i = 10 ∨ i = 11 ∨ i = 12 ∨ i = 13 ∨ i = 14 by omega) with rfl | rfl | rfl | rfl | rfl | rfl | rfl | rfl | rfl | rfl | rfl | rfl | rfl | rfl | rfl
          · exact absurd rfl (hl _)
          · exact absurd rfl (hl _)
          · simp only [List.getElem?_toArray, List.getElem?_cons_zero, List.getElem?_cons_succ, Option.some.injEq] at ho
            subst ho
            simp [Region.binds] at hdep
            have e20 := hKn.ev hF 1 rfl rfl rfl (by simp [hdep])
            clear hF hcl hKn hl
            go_simp
            refine (HVV.out _).mono ?_
            rintro e w6 ⟨rfl, hb2⟩
            exact hk _ _ ⟨fun _ => rfl, hI.2.1.below hb2, below_next hI.2.2 hb2⟩
          · exact absurd rfl (hl _)
          · exact absurd rfl (hl _)
          · exact absurd rfl (hl _)
          · exact absurd rfl (hl _)
          · exact absurd rfl (hl _)
          · exact absurd rfl (hl _)
          · exact absurd rfl (hl _)
          · exact absurd rfl (hl _)
          · exact absurd rfl (hl _)
          · exact absurd rfl (hl _)
          · exact absurd rfl (hl _)
          · exact absurd rfl (hl _)
        · intro D x w9 hD hKn hI
          have HBF := Lib.hid hI.2.2
          have x13 := hKn 13 _ rfl (hD 13 (by decide))
          have x14 := hKn 14 _ rfl (hD 14 (by decide))
          clear hI hD hKn
          rw [HA0.out]
          simp [putsAll, List.range, List.range.loop, Act.put, x13, x14]
          go_wp2
          go_ret2
          exact ⟨rfl, HBF.out⟩
  | false =>
    rw [hi] at q1
    have e1 : liesI r = r.s := by unfold liesI; rw [hi]; rfl
    have e2 : sizeOk ⟨s, al, A, sp, c, x3, x4, .slice (some ⟨b, off, none⟩) cs.length c5, x6, x7⟩ r = (validB s al sp.length && decide (0 ≤ r.s) && decide (r.s ≤ s)) := by unfold sizeOk; rw [e1]; rfl
    rw [e1, e2]
    clear e1 e2 hi
    generalize r.s = z at *
    cases hv : validB s al sp.length with
    | false =>
      have HVV : Hid (∀ W : World, Calls Try.prog 47 #[.agg #[.int .i64 s, .int .i64 al, .slice A sp.length c, x3, x4, .slice (some ⟨b, off, none⟩) cs.length c5, x6, x7]] W fun e w' => e = .returned (.bool false) ∧ Below W.heap.size W w') := by intro W; have := hV W; rw [hv] at this; exact this
      clear hV hv
      simp only [Bool.false_and]
      go_enter Try.func87, Try.ntmps87
      go_wp2_with fail
      refine gen_act fun a0 ha0 => ?_
      have z2 : a0.eval (.tmp 2) = .pointer (some ⟨w.heap.size, 0, none⟩) := by rw [ha0]; rfl
      have z6 : a0.eval (.tmp 6) = .int .i64 z := by rw [ha0]; rfl
      have zs : a0.tmps.size = 32 := by rw [ha0]; rfl
      have HA0 := Lib.hid ha0
      clear ha0
      refine wp_region_kn (by kernel_rfl) (ord_of' (by kernel_rfl)) (dst_of (by kernel_rfl)) (size_of' (n := 32) (by kernel_rfl) zs) [some (.int .i64 z), some (.agg #[.int .i64 s, .int .i64 al, .slice A sp.length c, x3, x4, .slice (some ⟨b, off, none⟩) cs.length c5, x6, x7]), none, some (.bool false), some (undef), some (undef), some (.bool false), some (.bool false), some (undef), some (undef), some (undef), some (undef), some (.bool false), some (.int .i64 z), some (.bool false)] ?_ (fun D x W => (D 2 = true → x 2 = .bool false) ∧ Blk W w.heap.size 31 #[.int .i64 s, .int .i64 al, .slice A sp.length c, x3, x4, .slice (some ⟨b, off, none⟩) cs.length c5, x6, x7] ∧ Below w.heap.size w W) ⟨(fun h => by cases h), HP.out, HB0.out.drew⟩ ?_ ?_ ?_ ?_
      · intro i o g bl ho hg
        have hi : i < 15 := (Array.getElem?_eq_some_iff.1 ho).1
        rcases (show i = 0 ∨ i = 1 ∨ i = 2 ∨ i = 3 ∨ i = 4 ∨ i = 5 ∨ i = 6 ∨ i = 7 ∨ i = 8 ∨ i = 9 ∨ i = 10 ∨ i = 11 ∨ i = 12 ∨ i = 13 ∨ i = 14 by omega) with rfl | rfl | rfl | rfl | rfl | rfl | rfl | rfl | rfl | rfl | rfl | rfl | rfl | rfl | rfl
        · simp only [List.getElem?_toArray, List.getElem?_cons_zero, Option.some.injEq] at ho
          subst ho
          cases hg
        · simp only [List.getElem?_toArray, List.getElem?_cons_zero, List.getElem?_cons_succ, Option.some.injEq] at ho
          subst ho
          cases hg
        · simp only [List.getElem?_toArray, List.getElem?_cons_zero, List.getElem?_cons_succ, Option.some.injEq] at ho
          subst ho
          cases hg
        · simp only [List.getElem?_toArray, List.getElem?_cons_zero, List.getElem?_cons_succ, Option.some.injEq] at ho
          subst ho
          cases hg
        · simp only [List.getElem?_toArray, List.getElem?_cons_zero, List.getElem?_cons_succ, Option.some.injEq] at ho
          subst ho
          obtain ⟨rfl, rfl⟩ : 3 = g ∧ true = bl := by simpa using hg
          exact ⟨false, _, _, rfl, rfl, rfl, ⟨{ on := 3, ground := .guard }, by simp, rfl, rfl⟩, fun h => by first | exact absurd rfl h | rfl⟩
        · simp only [List.getElem?_toArray, List.getElem?_cons_zero, List.getElem?_cons_succ, Option.some.injEq] at ho
          subst ho
          obtain ⟨rfl, rfl⟩ : 3 = g ∧ true = bl := by simpa using hg
          exact ⟨false, _, _, rfl, rfl, rfl, ⟨{ on := 3, ground := .guard }, by simp, rfl, rfl⟩, fun h => by first | exact absurd rfl h | rfl⟩
        · simp only [List.getElem?_toArray, List.getElem?_cons_zero, List.getElem?_cons_succ, Option.some.injEq] at ho
          subst ho
          cases hg
        · simp only [List.getElem?_toArray, List.getElem?_cons_zero, List.getElem?_cons_succ, Option.some.injEq] at ho
          subst ho
          cases hg
        · simp only [List.getElem?_toArray, List.getElem?_cons_zero, List.getElem?_cons_succ, Option.some.injEq] at ho
          subst ho
          obtain ⟨rfl, rfl⟩ : 7 = g ∧ true = bl := by simpa using hg
          exact ⟨false, _, _, rfl, rfl, rfl, ⟨{ on := 7, ground := .guard }, by simp, rfl, rfl⟩, fun h => by first | exact absurd rfl h | rfl⟩
        · simp only [List.getElem?_toArray, List.getElem?_cons_zero, List.getElem?_cons_succ, Option.some.injEq] at ho
          subst ho
          obtain ⟨rfl, rfl⟩ : 7 = g ∧ true = bl := by simpa using hg
          exact ⟨false, _, _, rfl, rfl, rfl, ⟨{ on := 7, ground := .guard }, by simp, rfl, rfl⟩, fun h => by first | exact absurd rfl h | rfl⟩
        · simp only [List.getElem?_toArray, List.getElem?_cons_zero, List.getElem?_cons_succ, Option.some.injEq] at ho
          subst ho
          obtain ⟨rfl, rfl⟩ : 7 = g ∧ true = bl := by simpa using hg
          exact ⟨false, _, _, rfl, rfl, rfl, ⟨{ on := 7, ground := .guard }, by simp, rfl, rfl⟩, fun h => by first | exact absurd rfl h | rfl⟩
        · simp only [List.getElem?_toArray, List.getElem?_cons_zero, List.getElem?_cons_succ, Option.some.injEq] at ho
          subst ho
          obtain ⟨rfl, rfl⟩ : 7 = g ∧ true = bl := by simpa using hg
          exact ⟨false, _, _, rfl, rfl, rfl, ⟨{ on := 7, ground := .guard }, by simp, rfl, rfl⟩, fun h => by first | exact absurd rfl h | rfl⟩
        · simp only [List.getElem?_toArray, List.getElem?_cons_zero, List.getElem?_cons_succ, Option.some.injEq] at ho
          subst ho
          cases hg
        · simp only [List.getElem?_toArray, List.getElem?_cons_zero, List.getElem?_cons_succ, Option.some.injEq] at ho
          subst ho
          cases hg
        · simp only [List.getElem?_toArray, List.getElem?_cons_zero, List.getElem?_cons_succ, Option.some.injEq] at ho
          subst ho
          cases hg
      · intro i u D x w5 hl hD hI
        have hi : i < 15 := by have h := (List.getElem?_eq_some_iff.1 hl).1; simpa using h
        have hnh : i ≠ 2 := by
          rintro rfl; simp at hl
        exact ⟨fun h => by have e : ¬ 2 = i := fun e => hnh e.symm; simp only [e, if_false] at h ⊢; exact hI.1 h, hI.2⟩
      · intro D x a w5 i o u ho hl hD hdep hcl hF hKn hI hwant K hk
        have hi : i < 15 := (Array.getElem?_eq_some_iff.1 ho).1
        rcases (show i = 0 ∨ i = 1 ∨ i = 2 ∨ i = 3 ∨ i = 4 ∨ i = 5 ∨ i = 6 ∨ i = 7 ∨ i = 8 ∨ i = 9 ∨ i = 10 ∨ i = 11 ∨ i = 12 ∨ i = 13 ∨ i = 14 by omega) with rfl | rfl | rfl | rfl | rfl | rfl | rfl | rfl | rfl | rfl | rfl | rfl | rfl | rfl | rfl
        · simp only [List.getElem?_toArray, List.getElem?_cons_zero, Option.some.injEq] at ho
          subst ho
          obtain rfl : .int .i64 z = u := by simpa using hl
          have e6 := hF.ev0 (by kernel_rfl) z6
          clear hF hcl hKn hl hwant
          go_simp
          exact hk
        · simp only [List.getElem?_toArray, List.getElem?_cons_zero, List.getElem?_cons_succ, Option.some.injEq] at ho
          subst ho
          obtain rfl : .agg #[.int .i64 s, .int .i64 al, .slice A sp.length c, x3, x4, .slice (some ⟨b, off, none⟩) cs.length c5, x6, x7] = u := by simpa using hl
          have e2 := hF.ev0 (by kernel_rfl) z2
          obtain ⟨⟨b0, b1, b2, b3, b4, b5, b6, b7⟩, bf⟩ := Blk.eight hI.2.1
          clear hF hcl hKn hl hwant
          go_simp
          exact hk
        · simp at hl
        · simp only [List.getElem?_toArray, List.getElem?_cons_zero, List.getElem?_cons_succ, Option.some.injEq] at ho
          subst ho
          simp [Region.binds] at hdep
          obtain rfl : .bool false = u := by simpa using hl
          have e21 := hF.ev 2 rfl rfl (by simp [hdep]) (hI.1 (by simp [hdep]))
          clear hF hcl hKn hl hwant
          go_simp
          exact hk
        · simp only [List.getElem?_toArray, List.getElem?_cons_zero, List.getElem?_cons_succ, Option.some.injEq] at ho
          subst ho
          have hy := hwant _ _ rfl
          simp at hy
        · simp only [List.getElem?_toArray, List.getElem?_cons_zero, List.getElem?_cons_succ, Option.some.injEq] at ho
          subst ho
          have hy := hwant _ _ rfl
          simp at hy
        · simp only [List.getElem?_toArray, List.getElem?_cons_zero, List.getElem?_cons_succ, Option.some.injEq] at ho
          subst ho
          simp [Region.binds] at hdep
          obtain rfl : .bool false = u := by simpa using hl
          have e22 := hKn.ev hF 3 rfl rfl rfl (by simp [hdep])
          have e24 := hKn.ev hF 5 rfl rfl rfl (by simp [hdep])
          clear hF hcl hKn hl hwant
          go_simp
          exact hk
        · simp only [List.getElem?_toArray, List.getElem?_cons_zero, List.getElem?_cons_succ, Option.some.injEq] at ho
          subst ho
          simp [Region.binds] at hdep
          obtain rfl : .bool false = u := by simpa using hl
          have e25 := hKn.ev hF 6 rfl rfl rfl (by simp [hdep])
          clear hF hcl hKn hl hwant
          go_simp
          exact hk
        · simp only [List.getElem?_toArray, List.getElem?_cons_zero, List.getElem?_cons_succ, Option.some.injEq] at ho
          subst ho
          have hy := hwant _ _ rfl
          simp at hy
        · simp only [List.getElem?_toArray, List.getElem?_cons_zero, List.getElem?_cons_succ, Option.some.injEq] at ho
          subst ho
          have hy := hwant _ _ rfl
          simp at hy
        · simp only [List.getElem?_toArray, List.getElem?_cons_zero, List.getElem?_cons_succ, Option.some.injEq] at ho
          subst ho
          have hy := hwant _ _ rfl
          simp at hy
        · simp only [List.getElem?_toArray, List.getElem?_cons_zero, List.getElem?_cons_succ, Option.some.injEq] at ho
          subst ho
          have hy := hwant _ _ rfl
          simp at hy
        · simp only [List.getElem?_toArray, List.getElem?_cons_zero, List.getElem?_cons_succ, Option.some.injEq] at ho
          subst ho
          simp [Region.binds] at hdep
          obtain rfl : .bool false = u := by simpa using hl
          have e26 := hKn.ev hF 7 rfl rfl rfl (by simp [hdep])
          have e30 := hKn.ev hF 11 rfl rfl rfl (by simp [hdep])
          clear hF hcl hKn hl hwant
          go_simp
          exact hk
        · simp only [List.getElem?_toArray, List.getElem?_cons_zero, List.getElem?_cons_succ, Option.some.injEq] at ho
          subst ho
          simp [Region.binds] at hdep
          obtain rfl : .int .i64 z = u := by simpa using hl
          have e19 := hKn.ev hF 0 rfl rfl rfl (by simp [hdep])
          clear hF hcl hKn hl hwant
          go_simp
          exact hk
        · simp only [List.getElem?_toArray, List.getElem?_cons_zero, List.getElem?_cons_succ, Option.some.injEq] at ho
          subst ho
          simp [Region.binds] at hdep
          obtain rfl : .bool false = u := by simpa using hl
          have e31 := hKn.ev hF 12 rfl rfl rfl (by simp [hdep])
          clear hF hcl hKn hl hwant
          go_simp
          exact hk
      · intro D x a w5 i o ho hl hD hdep hcl hF hKn hI K hk
        have hi : i < 15 := (Array.getElem?_eq_some_iff.1 ho).1
        rcases (show i = 0 ∨ i = 1 ∨ i = 2 ∨ i = 3 ∨ i = 4 ∨ i = 5 ∨ i = 6 ∨ i = 7 ∨ i = 8 ∨ i = 9 ∨ i = 10 ∨ i = 11 ∨ i = 12 ∨ i = 13 ∨ i = 14 by omega) with rfl | rfl | rfl | rfl | rfl | rfl | rfl | rfl | rfl | rfl | rfl | rfl | rfl | rfl | rfl
        · exact absurd rfl (hl _)
        · exact absurd rfl (hl _)
        · simp only [List.getElem?_toArray, List.getElem?_cons_zero, List.getElem?_cons_succ, Option.some.injEq] at ho
          subst ho
          simp [Region.binds] at hdep
          have e20 := hKn.ev hF 1 rfl rfl rfl (by simp [hdep])
          clear hF hcl hKn hl
          go_simp
          refine (HVV.out _).mono ?_
          rintro e w6 ⟨rfl, hb2⟩
          exact hk _ _ ⟨fun _ => rfl, hI.2.1.below hb2, below_next hI.2.2 hb2⟩
        · exact absurd rfl (hl _)
        · exact absurd rfl (hl _)
        · exact absurd rfl (hl _)
        · exact absurd rfl (hl _)
        · exact absurd rfl (hl _)
        · exact absurd rfl (hl _)
        · exact absurd rfl (hl _)
        · exact absurd rfl (hl _)
        · exact absurd rfl (hl _)
        · exact absurd rfl (hl _)
        · exact absurd rfl (hl _)
        · exact absurd rfl (hl _)
      · intro D x w9 hD hKn hI
        have HBF := Lib.hid hI.2.2
        have x13 := hKn 13 _ rfl (hD 13 (by decide))
        have x14 := hKn 14 _ rfl (hD 14 (by decide))
        clear hI hD hKn
        rw [HA0.out]
        simp [putsAll, List.range, List.range.loop, Act.put, x13, x14]
        go_wp2
        go_ret2
        exact ⟨rfl, HBF.out⟩
    | true =>
      have HVV : Hid (∀ W : World, Calls Try.prog 47 #[.agg #[.int .i64 s, .int .i64 al, .slice A sp.length c, x3, x4, .slice (some ⟨b, off, none⟩) cs.length c5, x6, x7]] W fun e w' => e = .returned (.bool true) ∧ Below W.heap.size W w') := by intro W; have := hV W; rw [hv] at this; exact this
      clear hV hv
      by_cases h0 : 0 ≤ z
      · have hd0 : decide (0 ≤ z) = true := by simpa using h0
        by_cases h8 : z ≤ s
        · have hd : decide (z ≤ s) = true := by simpa using h8
          simp only [hd0, hd, Bool.true_and]
          go_enter Try.func87, Try.ntmps87
          go_wp2_with fail
          refine gen_act fun a0 ha0 => ?_
          have z2 : a0.eval (.tmp 2) = .pointer (some ⟨w.heap.size, 0, none⟩) := by rw [ha0]; rfl
          have z6 : a0.eval (.tmp 6) = .int .i64 z := by rw [ha0]; rfl
          have zs : a0.tmps.size = 32 := by rw [ha0]; rfl
          have HA0 := Lib.hid ha0
          clear ha0
          refine wp_region_kn (by kernel_rfl) (ord_of' (by kernel_rfl)) (dst_of (by kernel_rfl)) (size_of' (n := 32) (by kernel_rfl) zs) [some (.int .i64 z), some (.agg #[.int .i64 s, .int .i64 al, .slice A sp.length c, x3, x4, .slice (some ⟨b, off, none⟩) cs.length c5, x6, x7]), none, some (.bool true), some (.int .i64 z), some (.bool true), some (.bool true), some (.bool true), some (.int .i64 z), some (.pointer (some ⟨w.heap.size, 0, none⟩)), some (.int .i64 s), some (.bool true), some (.bool true), some (.int .i64 z), some (.bool true)] ?_ (fun D x W => (D 2 = true → x 2 = .bool true) ∧ Blk W w.heap.size 31 #[.int .i64 s, .int .i64 al, .slice A sp.length c, x3, x4, .slice (some ⟨b, off, none⟩) cs.length c5, x6, x7] ∧ Below w.heap.size w W) ⟨(fun h => by cases h), HP.out, HB0.out.drew⟩ ?_ ?_ ?_ ?_
          · intro i o g bl ho hg
            have hi : i < 15 := (Array.getElem?_eq_some_iff.1 ho).1
            rcases (show i = 0 ∨ i = 1 ∨ i = 2 ∨ i = 3 ∨ i = 4 ∨ i = 5 ∨ i = 6 ∨ i = 7 ∨ i = 8 ∨ i = 9 ∨ i = 10 ∨ i = 11 ∨ i = 12 ∨ i = 13 ∨ i = 14 by omega) with rfl | rfl | rfl | rfl | rfl | rfl | rfl | rfl | rfl | rfl | rfl | rfl | rfl | rfl | rfl
            · simp only [List.getElem?_toArray, List.getElem?_cons_zero, Option.some.injEq] at ho
              subst ho
              cases hg
            · simp only [List.getElem?_toArray, List.getElem?_cons_zero, List.getElem?_cons_succ, Option.some.injEq] at ho
              subst ho
              cases hg
            · simp only [List.getElem?_toArray, List.getElem?_cons_zero, List.getElem?_cons_succ, Option.some.injEq] at ho
              subst ho
              cases hg
            · simp only [List.getElem?_toArray, List.getElem?_cons_zero, List.getElem?_cons_succ, Option.some.injEq] at ho
              subst ho
              cases hg
            · simp only [List.getElem?_toArray, List.getElem?_cons_zero, List.getElem?_cons_succ, Option.some.injEq] at ho
              subst ho
              obtain ⟨rfl, rfl⟩ : 3 = g ∧ true = bl := by simpa using hg
              exact ⟨true, _, _, rfl, rfl, rfl, ⟨{ on := 3, ground := .guard }, by simp, rfl, rfl⟩, fun h => by first | exact absurd rfl h | rfl⟩
            · simp only [List.getElem?_toArray, List.getElem?_cons_zero, List.getElem?_cons_succ, Option.some.injEq] at ho
              subst ho
              obtain ⟨rfl, rfl⟩ : 3 = g ∧ true = bl := by simpa using hg
              exact ⟨true, _, _, rfl, rfl, rfl, ⟨{ on := 3, ground := .guard }, by simp, rfl, rfl⟩, fun h => by first | exact absurd rfl h | rfl⟩
            · simp only [List.getElem?_toArray, List.getElem?_cons_zero, List.getElem?_cons_succ, Option.some.injEq] at ho
              subst ho
              cases hg
            · simp only [List.getElem?_toArray, List.getElem?_cons_zero, List.getElem?_cons_succ, Option.some.injEq] at ho
              subst ho
              cases hg
            · simp only [List.getElem?_toArray, List.getElem?_cons_zero, List.getElem?_cons_succ, Option.some.injEq] at ho
              subst ho
              obtain ⟨rfl, rfl⟩ : 7 = g ∧ true = bl := by simpa using hg
              exact ⟨true, _, _, rfl, rfl, rfl, ⟨{ on := 7, ground := .guard }, by simp, rfl, rfl⟩, fun h => by first | exact absurd rfl h | rfl⟩
            · simp only [List.getElem?_toArray, List.getElem?_cons_zero, List.getElem?_cons_succ, Option.some.injEq] at ho
              subst ho
              obtain ⟨rfl, rfl⟩ : 7 = g ∧ true = bl := by simpa using hg
              exact ⟨true, _, _, rfl, rfl, rfl, ⟨{ on := 7, ground := .guard }, by simp, rfl, rfl⟩, fun h => by first | exact absurd rfl h | rfl⟩
            · simp only [List.getElem?_toArray, List.getElem?_cons_zero, List.getElem?_cons_succ, Option.some.injEq] at ho
              subst ho
              obtain ⟨rfl, rfl⟩ : 7 = g ∧ true = bl := by simpa using hg
              exact ⟨true, _, _, rfl, rfl, rfl, ⟨{ on := 7, ground := .guard }, by simp, rfl, rfl⟩, fun h => by first | exact absurd rfl h | rfl⟩
            · simp only [List.getElem?_toArray, List.getElem?_cons_zero, List.getElem?_cons_succ, Option.some.injEq] at ho
              subst ho
              obtain ⟨rfl, rfl⟩ : 7 = g ∧ true = bl := by simpa using hg
              exact ⟨true, _, _, rfl, rfl, rfl, ⟨{ on := 7, ground := .guard }, by simp, rfl, rfl⟩, fun h => by first | exact absurd rfl h | rfl⟩
            · simp only [List.getElem?_toArray, List.getElem?_cons_zero, List.getElem?_cons_succ, Option.some.injEq] at ho
              subst ho
              cases hg
            · simp only [List.getElem?_toArray, List.getElem?_cons_zero, List.getElem?_cons_succ, Option.some.injEq] at ho
              subst ho
              cases hg
            · simp only [List.getElem?_toArray, List.getElem?_cons_zero, List.getElem?_cons_succ, Option.some.injEq] at ho
              subst ho
              cases hg
          · intro i u D x w5 hl hD hI
            have hi : i < 15 := by have h := (List.getElem?_eq_some_iff.1 hl).1; simpa using h
            have hnh : i ≠ 2 := by
              rintro rfl; simp at hl
            exact ⟨fun h => by have e : ¬ 2 = i := fun e => hnh e.symm; simp only [e, if_false] at h ⊢; exact hI.1 h, hI.2⟩
          · intro D x a w5 i o u ho hl hD hdep hcl hF hKn hI hwant K hk
            have hi : i < 15 := (Array.getElem?_eq_some_iff.1 ho).1
            rcases (show i = 0 ∨ i = 1 ∨ i = 2 ∨ i = 3 ∨ i = 4 ∨ i = 5 ∨ i = 6 ∨ i = 7 ∨ i = 8 ∨ i = 9 ∨ i = 10 ∨ i = 11 ∨ i = 12 ∨ i = 13 ∨ i = 14 by omega) with rfl | rfl | rfl | rfl | rfl | rfl | rfl | rfl | rfl | rfl | rfl | rfl | rfl | rfl | rfl
            · simp only [List.getElem?_toArray, List.getElem?_cons_zero, Option.some.injEq] at ho
              subst ho
              obtain rfl : .int .i64 z = u := by simpa using hl
              have e6 := hF.ev0 (by kernel_rfl) z6
              clear hF hcl hKn hl hwant
              go_simp
              exact hk
            · simp only [List.getElem?_toArray, List.getElem?_cons_zero, List.getElem?_cons_succ, Option.some.injEq] at ho
              subst ho
              obtain rfl : .agg #[.int .i64 s, .int .i64 al, .slice A sp.length c, x3, x4, .slice (some ⟨b, off, none⟩) cs.length c5, x6, x7] = u := by simpa using hl
              have e2 := hF.ev0 (by kernel_rfl) z2
              obtain ⟨⟨b0, b1, b2, b3, b4, b5, b6, b7⟩, bf⟩ := Blk.eight hI.2.1
              clear hF hcl hKn hl hwant
              go_simp
              exact hk
            · simp at hl
            · simp only [List.getElem?_toArray, List.getElem?_cons_zero, List.getElem?_cons_succ, Option.some.injEq] at ho
              subst ho
              simp [Region.binds] at hdep
              obtain rfl : .bool true = u := by simpa using hl
              have e21 := hF.ev 2 rfl rfl (by simp [hdep]) (hI.1 (by simp [hdep]))
              clear hF hcl hKn hl hwant
              go_simp
              exact hk
            · simp only [List.getElem?_toArray, List.getElem?_cons_zero, List.getElem?_cons_succ, Option.some.injEq] at ho
              subst ho
              simp [Region.binds] at hdep
              obtain rfl : .int .i64 z = u := by simpa using hl
              have e6 := hF.ev0 (by kernel_rfl) z6
              clear hF hcl hKn hl hwant
              go_simp
              exact hk
            · simp only [List.getElem?_toArray, List.getElem?_cons_zero, List.getElem?_cons_succ, Option.some.injEq] at ho
              subst ho
              simp [Region.binds] at hdep
              obtain rfl : .bool true = u := by simpa using hl
              have e23 := hKn.ev hF 4 rfl rfl rfl (by simp [hdep])
              clear hF hcl hKn hl hwant
              go_simp
              exact hk
            · simp only [List.getElem?_toArray, List.getElem?_cons_zero, List.getElem?_cons_succ, Option.some.injEq] at ho
              subst ho
              simp [Region.binds] at hdep
              obtain rfl : .bool true = u := by simpa using hl
              have e22 := hKn.ev hF 3 rfl rfl rfl (by simp [hdep])
              have e24 := hKn.ev hF 5 rfl rfl rfl (by simp [hdep])
              clear hF hcl hKn hl hwant
              go_simp
              exact hk
            · simp only [List.getElem?_toArray, List.getElem?_cons_zero, List.getElem?_cons_succ, Option.some.injEq] at ho
              subst ho
              simp [Region.binds] at hdep
              obtain rfl : .bool true = u := by simpa using hl
              have e25 := hKn.ev hF 6 rfl rfl rfl (by simp [hdep])
              clear hF hcl hKn hl hwant
              go_simp
              exact hk
            · simp only [List.getElem?_toArray, List.getElem?_cons_zero, List.getElem?_cons_succ, Option.some.injEq] at ho
              subst ho
              simp [Region.binds] at hdep
              obtain rfl : .int .i64 z = u := by simpa using hl
              have e6 := hF.ev0 (by kernel_rfl) z6
              clear hF hcl hKn hl hwant
              go_simp
              exact hk
            · simp only [List.getElem?_toArray, List.getElem?_cons_zero, List.getElem?_cons_succ, Option.some.injEq] at ho
              subst ho
              simp [Region.binds] at hdep
              obtain rfl : .pointer (some ⟨w.heap.size, 0, none⟩) = u := by simpa using hl
              have e2 := hF.ev0 (by kernel_rfl) z2
              clear hF hcl hKn hl hwant
              go_simp
              exact hk
            · simp only [List.getElem?_toArray, List.getElem?_cons_zero, List.getElem?_cons_succ, Option.some.injEq] at ho
              subst ho
              simp [Region.binds] at hdep
              obtain rfl : .int .i64 s = u := by simpa using hl
              have e28 := hKn.ev hF 9 rfl rfl rfl (by simp [hdep])
              obtain ⟨⟨b0, b1, b2, b3, b4, b5, b6, b7⟩, bf⟩ := Blk.eight hI.2.1
              clear hF hcl hKn hl hwant
              go_simp
              exact hk
            · simp only [List.getElem?_toArray, List.getElem?_cons_zero, List.getElem?_cons_succ, Option.some.injEq] at ho
              subst ho
              simp [Region.binds] at hdep
              obtain rfl : .bool true = u := by simpa using hl
              have e27 := hKn.ev hF 8 rfl rfl rfl (by simp [hdep])
              have e29 := hKn.ev hF 10 rfl rfl rfl (by simp [hdep])
              clear hF hcl hKn hl hwant
              go_simp
              exact hk
            · simp only [List.getElem?_toArray, List.getElem?_cons_zero, List.getElem?_cons_succ, Option.some.injEq] at ho
              subst ho
              simp [Region.binds] at hdep
              obtain rfl : .bool true = u := by simpa using hl
              have e26 := hKn.ev hF 7 rfl rfl rfl (by simp [hdep])
              have e30 := hKn.ev hF 11 rfl rfl rfl (by simp [hdep])
              clear hF hcl hKn hl hwant
              go_simp
              exact hk
            · simp only [List.getElem?_toArray, List.getElem?_cons_zero, List.getElem?_cons_succ, Option.some.injEq] at ho
              subst ho
              simp [Region.binds] at hdep
              obtain rfl : .int .i64 z = u := by simpa using hl
              have e19 := hKn.ev hF 0 rfl rfl rfl (by simp [hdep])
              clear hF hcl hKn hl hwant
              go_simp
              exact hk
            · simp only [List.getElem?_toArray, List.getElem?_cons_zero, List.getElem?_cons_succ, Option.some.injEq] at ho
              subst ho
              simp [Region.binds] at hdep
              obtain rfl : .bool true = u := by simpa using hl
              have e31 := hKn.ev hF 12 rfl rfl rfl (by simp [hdep])
              clear hF hcl hKn hl hwant
              go_simp
              exact hk
          · intro D x a w5 i o ho hl hD hdep hcl hF hKn hI K hk
            have hi : i < 15 := (Array.getElem?_eq_some_iff.1 ho).1
            rcases (show i = 0 ∨ i = 1 ∨ i = 2 ∨ i = 3 ∨ i = 4 ∨ i = 5 ∨ i = 6 ∨ i = 7 ∨ i = 8 ∨ i = 9 ∨ i = 10 ∨ i = 11 ∨ i = 12 ∨ i = 13 ∨ i = 14 by omega) with rfl | rfl | rfl | rfl | rfl | rfl | rfl | rfl | rfl | rfl | rfl | rfl | rfl | rfl | rfl
            · exact absurd rfl (hl _)
            · exact absurd rfl (hl _)
            · simp only [List.getElem?_toArray, List.getElem?_cons_zero, List.getElem?_cons_succ, Option.some.injEq] at ho
              subst ho
              simp [Region.binds] at hdep
              have e20 := hKn.ev hF 1 rfl rfl rfl (by simp [hdep])
              clear hF hcl hKn hl
              go_simp
              refine (HVV.out _).mono ?_
              rintro e w6 ⟨rfl, hb2⟩
              exact hk _ _ ⟨fun _ => rfl, hI.2.1.below hb2, below_next hI.2.2 hb2⟩
            · exact absurd rfl (hl _)
            · exact absurd rfl (hl _)
            · exact absurd rfl (hl _)
            · exact absurd rfl (hl _)
            · exact absurd rfl (hl _)
            · exact absurd rfl (hl _)
            · exact absurd rfl (hl _)
            · exact absurd rfl (hl _)
            · exact absurd rfl (hl _)
            · exact absurd rfl (hl _)
            · exact absurd rfl (hl _)
            · exact absurd rfl (hl _)
          · intro D x w9 hD hKn hI
            have HBF := Lib.hid hI.2.2
            have x13 := hKn 13 _ rfl (hD 13 (by decide))
            have x14 := hKn 14 _ rfl (hD 14 (by decide))
            clear hI hD hKn
            rw [HA0.out]
            simp [putsAll, List.range, List.range.loop, Act.put, x13, x14]
            go_wp2
            go_ret2
            exact ⟨rfl, HBF.out⟩
        · have hd : decide (z ≤ s) = false := by simpa using h8
          simp only [hd0, hd, Bool.true_and]
          go_enter Try.func87, Try.ntmps87
          go_wp2_with fail
          refine gen_act fun a0 ha0 => ?_
          have z2 : a0.eval (.tmp 2) = .pointer (some ⟨w.heap.size, 0, none⟩) := by rw [ha0]; rfl
          have z6 : a0.eval (.tmp 6) = .int .i64 z := by rw [ha0]; rfl
          have zs : a0.tmps.size = 32 := by rw [ha0]; rfl
          have HA0 := Lib.hid ha0
          clear ha0
          refine wp_region_kn (by kernel_rfl) (ord_of' (by kernel_rfl)) (dst_of (by kernel_rfl)) (size_of' (n := 32) (by kernel_rfl) zs) [some (.int .i64 z), some (.agg #[.int .i64 s, .int .i64 al, .slice A sp.length c, x3, x4, .slice (some ⟨b, off, none⟩) cs.length c5, x6, x7]), none, some (.bool true), some (.int .i64 z), some (.bool true), some (.bool true), some (.bool true), some (.int .i64 z), some (.pointer (some ⟨w.heap.size, 0, none⟩)), some (.int .i64 s), some (.bool false), some (.bool false), some (.int .i64 z), some (.bool false)] ?_ (fun D x W => (D 2 = true → x 2 = .bool true) ∧ Blk W w.heap.size 31 #[.int .i64 s, .int .i64 al, .slice A sp.length c, x3, x4, .slice (some ⟨b, off, none⟩) cs.length c5, x6, x7] ∧ Below w.heap.size w W) ⟨(fun h => by cases h), HP.out, HB0.out.drew⟩ ?_ ?_ ?_ ?_
          · intro i o g bl ho hg
            have hi : i < 15 := (Array.getElem?_eq_some_iff.1 ho).1
            rcases (show i = 0 ∨ i = 1 ∨ i = 2 ∨ i = 3 ∨ i = 4 ∨ i = 5 ∨ i = 6 ∨ i = 7 ∨ i = 8 ∨ i = 9 ∨ i = 10 ∨ i = 11 ∨ i = 12 ∨ i = 13 ∨ i = 14 by omega) with rfl | rfl | rfl | rfl | rfl | rfl | rfl | rfl | rfl | rfl | rfl | rfl | rfl | rfl | rfl
            · simp only [List.getElem?_toArray, List.getElem?_cons_zero, Option.some.injEq] at ho
              subst ho
              cases hg
            · simp only [List.getElem?_toArray, List.getElem?_cons_zero, List.getElem?_cons_succ, Option.some.injEq] at ho
              subst ho
              cases hg
            · simp only [List.getElem?_toArray, List.getElem?_cons_zero, List.getElem?_cons_succ, Option.some.injEq] at ho
              subst ho
              cases hg
            · simp only [List.getElem?_toArray, List.getElem?_cons_zero, List.getElem?_cons_succ, Option.some.injEq] at ho
              subst ho
              cases hg
            · simp only [List.getElem?_toArray, List.getElem?_cons_zero, List.getElem?_cons_succ, Option.some.injEq] at ho
              subst ho
              obtain ⟨rfl, rfl⟩ : 3 = g ∧ true = bl := by simpa using hg
              exact ⟨true, _, _, rfl, rfl, rfl, ⟨{ on := 3, ground := .guard }, by simp, rfl, rfl⟩, fun h => by first | exact absurd rfl h | rfl⟩
            · simp only [List.getElem?_toArray, List.getElem?_cons_zero, List.getElem?_cons_succ, Option.some.injEq] at ho
              subst ho
              obtain ⟨rfl, rfl⟩ : 3 = g ∧ true = bl := by simpa using hg
              exact ⟨true, _, _, rfl, rfl, rfl, ⟨{ on := 3, ground := .guard }, by simp, rfl, rfl⟩, fun h => by first | exact absurd rfl h | rfl⟩
            · simp only [List.getElem?_toArray, List.getElem?_cons_zero, List.getElem?_cons_succ, Option.some.injEq] at ho
              subst ho
              cases hg
            · simp only [List.getElem?_toArray, List.getElem?_cons_zero, List.getElem?_cons_succ, Option.some.injEq] at ho
              subst ho
              cases hg
            · simp only [List.getElem?_toArray, List.getElem?_cons_zero, List.getElem?_cons_succ, Option.some.injEq] at ho
              subst ho
              obtain ⟨rfl, rfl⟩ : 7 = g ∧ true = bl := by simpa using hg
              exact ⟨true, _, _, rfl, rfl, rfl, ⟨{ on := 7, ground := .guard }, by simp, rfl, rfl⟩, fun h => by first | exact absurd rfl h | rfl⟩
            · simp only [List.getElem?_toArray, List.getElem?_cons_zero, List.getElem?_cons_succ, Option.some.injEq] at ho
              subst ho
              obtain ⟨rfl, rfl⟩ : 7 = g ∧ true = bl := by simpa using hg
              exact ⟨true, _, _, rfl, rfl, rfl, ⟨{ on := 7, ground := .guard }, by simp, rfl, rfl⟩, fun h => by first | exact absurd rfl h | rfl⟩
            · simp only [List.getElem?_toArray, List.getElem?_cons_zero, List.getElem?_cons_succ, Option.some.injEq] at ho
              subst ho
              obtain ⟨rfl, rfl⟩ : 7 = g ∧ true = bl := by simpa using hg
              exact ⟨true, _, _, rfl, rfl, rfl, ⟨{ on := 7, ground := .guard }, by simp, rfl, rfl⟩, fun h => by first | exact absurd rfl h | rfl⟩
            · simp only [List.getElem?_toArray, List.getElem?_cons_zero, List.getElem?_cons_succ, Option.some.injEq] at ho
              subst ho
              obtain ⟨rfl, rfl⟩ : 7 = g ∧ true = bl := by simpa using hg
              exact ⟨true, _, _, rfl, rfl, rfl, ⟨{ on := 7, ground := .guard }, by simp, rfl, rfl⟩, fun h => by first | exact absurd rfl h | rfl⟩
            · simp only [List.getElem?_toArray, List.getElem?_cons_zero, List.getElem?_cons_succ, Option.some.injEq] at ho
              subst ho
              cases hg
            · simp only [List.getElem?_toArray, List.getElem?_cons_zero, List.getElem?_cons_succ, Option.some.injEq] at ho
              subst ho
              cases hg
            · simp only [List.getElem?_toArray, List.getElem?_cons_zero, List.getElem?_cons_succ, Option.some.injEq] at ho
              subst ho
              cases hg
          · intro i u D x w5 hl hD hI
            have hi : i < 15 := by have h := (List.getElem?_eq_some_iff.1 hl).1; simpa using h
            have hnh : i ≠ 2 := by
              rintro rfl; simp at hl
            exact ⟨fun h => by have e : ¬ 2 = i := fun e => hnh e.symm; simp only [e, if_false] at h ⊢; exact hI.1 h, hI.2⟩
          · intro D x a w5 i o u ho hl hD hdep hcl hF hKn hI hwant K hk
            have hi : i < 15 := (Array.getElem?_eq_some_iff.1 ho).1
            rcases (show i = 0 ∨ i = 1 ∨ i = 2 ∨ i = 3 ∨ i = 4 ∨ i = 5 ∨ i = 6 ∨ i = 7 ∨ i = 8 ∨ i = 9 ∨ i = 10 ∨ i = 11 ∨ i = 12 ∨ i = 13 ∨ i = 14 by omega) with rfl | rfl | rfl | rfl | rfl | rfl | rfl | rfl | rfl | rfl | rfl | rfl | rfl | rfl | rfl
            · simp only [List.getElem?_toArray, List.getElem?_cons_zero, Option.some.injEq] at ho
              subst ho
              obtain rfl : .int .i64 z = u := by simpa using hl
              have e6 := hF.ev0 (by kernel_rfl) z6
              clear hF hcl hKn hl hwant
              go_simp
              exact hk
            · simp only [List.getElem?_toArray, List.getElem?_cons_zero, List.getElem?_cons_succ, Option.some.injEq] at ho
              subst ho
              obtain rfl : .agg #[.int .i64 s, .int .i64 al, .slice A sp.length c, x3, x4, .slice (some ⟨b, off, none⟩) cs.length c5, x6, x7] = u := by simpa using hl
              have e2 := hF.ev0 (by kernel_rfl) z2
              obtain ⟨⟨b0, b1, b2, b3, b4, b5, b6, b7⟩, bf⟩ := Blk.eight hI.2.1
              clear hF hcl hKn hl hwant
              go_simp
              exact hk
            · simp at hl
            · simp only [List.getElem?_toArray, List.getElem?_cons_zero, List.getElem?_cons_succ, Option.some.injEq] at ho
              subst ho
              simp [Region.binds] at hdep
              obtain rfl : .bool true = u := by simpa using hl
              have e21 := hF.ev 2 rfl rfl (by simp [hdep]) (hI.1 (by simp [hdep]))
              clear hF hcl hKn hl hwant
              go_simp
              exact hk
            · simp only [List.getElem?_toArray, List.getElem?_cons_zero, List.getElem?_cons_succ, Option.some.injEq] at ho
              subst ho
              simp [Region.binds] at hdep
              obtain rfl : .int .i64 z = u := by simpa using hl
              have e6 := hF.ev0 (by kernel_rfl) z6
              clear hF hcl hKn hl hwant
              go_simp
              exact hk
            · simp only [List.getElem?_toArray, List.getElem?_cons_zero, List.getElem?_cons_succ, Option.some.injEq] at ho
              subst ho
              simp [Region.binds] at hdep
              obtain rfl : .bool true = u := by simpa using hl
              have e23 := hKn.ev hF 4 rfl rfl rfl (by simp [hdep])
              clear hF hcl hKn hl hwant
              go_simp
              exact hk
            · simp only [List.getElem?_toArray, List.getElem?_cons_zero, List.getElem?_cons_succ, Option.some.injEq] at ho
              subst ho
              simp [Region.binds] at hdep
              obtain rfl : .bool true = u := by simpa using hl
              have e22 := hKn.ev hF 3 rfl rfl rfl (by simp [hdep])
              have e24 := hKn.ev hF 5 rfl rfl rfl (by simp [hdep])
              clear hF hcl hKn hl hwant
              go_simp
              exact hk
            · simp only [List.getElem?_toArray, List.getElem?_cons_zero, List.getElem?_cons_succ, Option.some.injEq] at ho
              subst ho
              simp [Region.binds] at hdep
              obtain rfl : .bool true = u := by simpa using hl
              have e25 := hKn.ev hF 6 rfl rfl rfl (by simp [hdep])
              clear hF hcl hKn hl hwant
              go_simp
              exact hk
            · simp only [List.getElem?_toArray, List.getElem?_cons_zero, List.getElem?_cons_succ, Option.some.injEq] at ho
              subst ho
              simp [Region.binds] at hdep
              obtain rfl : .int .i64 z = u := by simpa using hl
              have e6 := hF.ev0 (by kernel_rfl) z6
              clear hF hcl hKn hl hwant
              go_simp
              exact hk
            · simp only [List.getElem?_toArray, List.getElem?_cons_zero, List.getElem?_cons_succ, Option.some.injEq] at ho
              subst ho
              simp [Region.binds] at hdep
              obtain rfl : .pointer (some ⟨w.heap.size, 0, none⟩) = u := by simpa using hl
              have e2 := hF.ev0 (by kernel_rfl) z2
              clear hF hcl hKn hl hwant
              go_simp
              exact hk
            · simp only [List.getElem?_toArray, List.getElem?_cons_zero, List.getElem?_cons_succ, Option.some.injEq] at ho
              subst ho
              simp [Region.binds] at hdep
              obtain rfl : .int .i64 s = u := by simpa using hl
              have e28 := hKn.ev hF 9 rfl rfl rfl (by simp [hdep])
              obtain ⟨⟨b0, b1, b2, b3, b4, b5, b6, b7⟩, bf⟩ := Blk.eight hI.2.1
              clear hF hcl hKn hl hwant
              go_simp
              exact hk
            · simp only [List.getElem?_toArray, List.getElem?_cons_zero, List.getElem?_cons_succ, Option.some.injEq] at ho
              subst ho
              simp [Region.binds] at hdep
              obtain rfl : .bool false = u := by simpa using hl
              have e27 := hKn.ev hF 8 rfl rfl rfl (by simp [hdep])
              have e29 := hKn.ev hF 10 rfl rfl rfl (by simp [hdep])
              clear hF hcl hKn hl hwant
              go_simp
              exact hk
            · simp only [List.getElem?_toArray, List.getElem?_cons_zero, List.getElem?_cons_succ, Option.some.injEq] at ho
              subst ho
              simp [Region.binds] at hdep
              obtain rfl : .bool false = u := by simpa using hl
              have e26 := hKn.ev hF 7 rfl rfl rfl (by simp [hdep])
              have e30 := hKn.ev hF 11 rfl rfl rfl (by simp [hdep])
              clear hF hcl hKn hl hwant
              go_simp
              exact hk
            · simp only [List.getElem?_toArray, List.getElem?_cons_zero, List.getElem?_cons_succ, Option.some.injEq] at ho
              subst ho
              simp [Region.binds] at hdep
              obtain rfl : .int .i64 z = u := by simpa using hl
              have e19 := hKn.ev hF 0 rfl rfl rfl (by simp [hdep])
              clear hF hcl hKn hl hwant
              go_simp
              exact hk
            · simp only [List.getElem?_toArray, List.getElem?_cons_zero, List.getElem?_cons_succ, Option.some.injEq] at ho
              subst ho
              simp [Region.binds] at hdep
              obtain rfl : .bool false = u := by simpa using hl
              have e31 := hKn.ev hF 12 rfl rfl rfl (by simp [hdep])
              clear hF hcl hKn hl hwant
              go_simp
              exact hk
          · intro D x a w5 i o ho hl hD hdep hcl hF hKn hI K hk
            have hi : i < 15 := (Array.getElem?_eq_some_iff.1 ho).1
            rcases (show i = 0 ∨ i = 1 ∨ i = 2 ∨ i = 3 ∨ i = 4 ∨ i = 5 ∨ i = 6 ∨ i = 7 ∨ i = 8 ∨ i = 9 ∨ i = 10 ∨ i = 11 ∨ i = 12 ∨ i = 13 ∨ i = 14 by omega) with rfl | rfl | rfl | rfl | rfl | rfl | rfl | rfl | rfl | rfl | rfl | rfl | rfl | rfl | rfl
            · exact absurd rfl (hl _)
            · exact absurd rfl (hl _)
            · simp only [List.getElem?_toArray, List.getElem?_cons_zero, List.getElem?_cons_succ, Option.some.injEq] at ho
              subst ho
              simp [Region.binds] at hdep
              have e20 := hKn.ev hF 1 rfl rfl rfl (by simp [hdep])
              clear hF hcl hKn hl
              go_simp
              refine (HVV.out _).mono ?_
              rintro e w6 ⟨rfl, hb2⟩
              exact hk _ _ ⟨fun _ => rfl, hI.2.1.below hb2, below_next hI.2.2 hb2⟩
            · exact absurd rfl (hl _)
            · exact absurd rfl (hl _)
            · exact absurd rfl (hl _)
            · exact absurd rfl (hl _)
            · exact absurd rfl (hl _)
            · exact absurd rfl (hl _)
            · exact absurd rfl (hl _)
            · exact absurd rfl (hl _)
            · exact absurd rfl (hl _)
            · exact absurd rfl (hl _)
            · exact absurd rfl (hl _)
            · exact absurd rfl (hl _)
          · intro D x w9 hD hKn hI
            have HBF := Lib.hid hI.2.2
            have x13 := hKn 13 _ rfl (hD 13 (by decide))
            have x14 := hKn 14 _ rfl (hD 14 (by decide))
            clear hI hD hKn
            rw [HA0.out]
            simp [putsAll, List.range, List.range.loop, Act.put, x13, x14]
            go_wp2
            go_ret2
            exact ⟨rfl, HBF.out⟩
      · have hd0 : decide (0 ≤ z) = false := by simpa using h0
        simp only [hd0, Bool.true_and, Bool.false_and]
        go_enter Try.func87, Try.ntmps87
        go_wp2_with fail
        refine gen_act fun a0 ha0 => ?_
        have z2 : a0.eval (.tmp 2) = .pointer (some ⟨w.heap.size, 0, none⟩) := by rw [ha0]; rfl
        have z6 : a0.eval (.tmp 6) = .int .i64 z := by rw [ha0]; rfl
        have zs : a0.tmps.size = 32 := by rw [ha0]; rfl
        have HA0 := Lib.hid ha0
        clear ha0
        refine wp_region_kn (by kernel_rfl) (ord_of' (by kernel_rfl)) (dst_of (by kernel_rfl)) (size_of' (n := 32) (by kernel_rfl) zs) [some (.int .i64 z), some (.agg #[.int .i64 s, .int .i64 al, .slice A sp.length c, x3, x4, .slice (some ⟨b, off, none⟩) cs.length c5, x6, x7]), none, some (.bool true), some (.int .i64 z), some (.bool false), some (.bool false), some (.bool false), some (undef), some (undef), some (undef), some (undef), some (.bool false), some (.int .i64 z), some (.bool false)] ?_ (fun D x W => (D 2 = true → x 2 = .bool true) ∧ Blk W w.heap.size 31 #[.int .i64 s, .int .i64 al, .slice A sp.length c, x3, x4, .slice (some ⟨b, off, none⟩) cs.length c5, x6, x7] ∧ Below w.heap.size w W) ⟨(fun h => by cases h), HP.out, HB0.out.drew⟩ ?_ ?_ ?_ ?_
        · intro i o g bl ho hg
          have hi : i < 15 := (Array.getElem?_eq_some_iff.1 ho).1
          rcases (show i = 0 ∨ i = 1 ∨ i = 2 ∨ i = 3 ∨ i = 4 ∨ i = 5 ∨ i = 6 ∨ i = 7 ∨ i = 8 ∨ i = 9 ∨ i = 10 ∨ i = 11 ∨ i = 12 ∨ i = 13 ∨ i = 14 by omega) with rfl | rfl | rfl | rfl | rfl | rfl | rfl | rfl | rfl | rfl | rfl | rfl | rfl | rfl | rfl
          · simp only [List.getElem?_toArray, List.getElem?_cons_zero, Option.some.injEq] at ho
            subst ho
            cases hg
          · simp only [List.getElem?_toArray, List.getElem?_cons_zero, List.getElem?_cons_succ, Option.some.injEq] at ho
            subst ho
            cases hg
          · simp only [List.getElem?_toArray, List.getElem?_cons_zero, List.getElem?_cons_succ, Option.some.injEq] at ho
            subst ho
            cases hg
          · simp only [List.getElem?_toArray, List.getElem?_cons_zero, List.getElem?_cons_succ, Option.some.injEq] at ho
            subst ho
            cases hg
          · simp only [List.getElem?_toArray, List.getElem?_cons_zero, List.getElem?_cons_succ, Option.some.injEq] at ho
            subst ho
            obtain ⟨rfl, rfl⟩ : 3 = g ∧ true = bl := by simpa using hg
            exact ⟨true, _, _, rfl, rfl, rfl, ⟨{ on := 3, ground := .guard }, by simp, rfl, rfl⟩, fun h => by first | exact absurd rfl h | rfl⟩
          · simp only [List.getElem?_toArray, List.getElem?_cons_zero, List.getElem?_cons_succ, Option.some.injEq] at ho
            subst ho
            obtain ⟨rfl, rfl⟩ : 3 = g ∧ true = bl := by simpa using hg
            exact ⟨true, _, _, rfl, rfl, rfl, ⟨{ on := 3, ground := .guard }, by simp, rfl, rfl⟩, fun h => by first | exact absurd rfl h | rfl⟩
          · simp only [List.getElem?_toArray, List.getElem?_cons_zero, List.getElem?_cons_succ, Option.some.injEq] at ho
            subst ho
            cases hg
          · simp only [List.getElem?_toArray, List.getElem?_cons_zero, List.getElem?_cons_succ, Option.some.injEq] at ho
            subst ho
            cases hg
          · simp only [List.getElem?_toArray, List.getElem?_cons_zero, List.getElem?_cons_succ, Option.some.injEq] at ho
            subst ho
            obtain ⟨rfl, rfl⟩ : 7 = g ∧ true = bl := by simpa using hg
            exact ⟨false, _, _, rfl, rfl, rfl, ⟨{ on := 7, ground := .guard }, by simp, rfl, rfl⟩, fun h => by first | exact absurd rfl h | rfl⟩
          · simp only [List.getElem?_toArray, List.getElem?_cons_zero, List.getElem?_cons_succ, Option.some.injEq] at ho
            subst ho
            obtain ⟨rfl, rfl⟩ : 7 = g ∧ true = bl := by simpa using hg
            exact ⟨false, _, _, rfl, rfl, rfl, ⟨{ on := 7, ground := .guard }, by simp, rfl, rfl⟩, fun h => by first | exact absurd rfl h | rfl⟩
          · simp only [List.getElem?_toArray, List.getElem?_cons_zero, List.getElem?_cons_succ, Option.some.injEq] at ho
            subst ho
            obtain ⟨rfl, rfl⟩ : 7 = g ∧ true = bl := by simpa using hg
            exact ⟨false, _, _, rfl, rfl, rfl, ⟨{ on := 7, ground := .guard }, by simp, rfl, rfl⟩, fun h => by first | exact absurd rfl h | rfl⟩
          · simp only [List.getElem?_toArray, List.getElem?_cons_zero, List.getElem?_cons_succ, Option.some.injEq] at ho
            subst ho
            obtain ⟨rfl, rfl⟩ : 7 = g ∧ true = bl := by simpa using hg
            exact ⟨false, _, _, rfl, rfl, rfl, ⟨{ on := 7, ground := .guard }, by simp, rfl, rfl⟩, fun h => by first | exact absurd rfl h | rfl⟩
          · simp only [List.getElem?_toArray, List.getElem?_cons_zero, List.getElem?_cons_succ, Option.some.injEq] at ho
            subst ho
            cases hg
          · simp only [List.getElem?_toArray, List.getElem?_cons_zero, List.getElem?_cons_succ, Option.some.injEq] at ho
            subst ho
            cases hg
          · simp only [List.getElem?_toArray, List.getElem?_cons_zero, List.getElem?_cons_succ, Option.some.injEq] at ho
            subst ho
            cases hg
        · intro i u D x w5 hl hD hI
          have hi : i < 15 := by have h := (List.getElem?_eq_some_iff.1 hl).1; simpa using h
          have hnh : i ≠ 2 := by
            rintro rfl; simp at hl
          exact ⟨fun h => by have e : ¬ 2 = i := fun e => hnh e.symm; simp only [e, if_false] at h ⊢; exact hI.1 h, hI.2⟩
        · intro D x a w5 i o u ho hl hD hdep hcl hF hKn hI hwant K hk
          have hi : i < 15 := (Array.getElem?_eq_some_iff.1 ho).1
          rcases (show i = 0 ∨ i = 1 ∨ i = 2 ∨ i = 3 ∨ i = 4 ∨ i = 5 ∨ i = 6 ∨ i = 7 ∨ i = 8 ∨ i = 9 ∨ i = 10 ∨ i = 11 ∨ i = 12 ∨ i = 13 ∨ i = 14 by omega) with rfl | rfl | rfl | rfl | rfl | rfl | rfl | rfl | rfl | rfl | rfl | rfl | rfl | rfl | rfl
          · simp only [List.getElem?_toArray, List.getElem?_cons_zero, Option.some.injEq] at ho
            subst ho
            obtain rfl : .int .i64 z = u := by simpa using hl
            have e6 := hF.ev0 (by kernel_rfl) z6
            clear hF hcl hKn hl hwant
            go_simp
            exact hk
          · simp only [List.getElem?_toArray, List.getElem?_cons_zero, List.getElem?_cons_succ, Option.some.injEq] at ho
            subst ho
            obtain rfl : .agg #[.int .i64 s, .int .i64 al, .slice A sp.length c, x3, x4, .slice (some ⟨b, off, none⟩) cs.length c5, x6, x7] = u := by simpa using hl
            have e2 := hF.ev0 (by kernel_rfl) z2
            obtain ⟨⟨b0, b1, b2, b3, b4, b5, b6, b7⟩, bf⟩ := Blk.eight hI.2.1
            clear hF hcl hKn hl hwant
            go_simp
            exact hk
          · simp at hl
          · simp only [List.getElem?_toArray, List.getElem?_cons_zero, List.getElem?_cons_succ, Option.some.injEq] at ho
            subst ho
            simp [Region.binds] at hdep
            obtain rfl : .bool true = u := by simpa using hl
            have e21 := hF.ev 2 rfl rfl (by simp [hdep]) (hI.1 (by simp [hdep]))
            clear hF hcl hKn hl hwant
            go_simp
            exact hk
          · simp only [List.getElem?_toArray, List.getElem?_cons_zero, List.getElem?_cons_succ, Option.some.injEq] at ho
            subst ho
            simp [Region.binds] at hdep
            obtain rfl : .int .i64 z = u := by simpa using hl
            have e6 := hF.ev0 (by kernel_rfl) z6
            clear hF hcl hKn hl hwant
            go_simp
            exact hk
          · simp only [List.getElem?_toArray, List.getElem?_cons_zero, List.getElem?_cons_succ, Option.some.injEq] at ho
            subst ho
            simp [Region.binds] at hdep
            obtain rfl : .bool false = u := by simpa using hl
            have e23 := hKn.ev hF 4 rfl rfl rfl (by simp [hdep])
            clear hF hcl hKn hl hwant
            go_simp
            exact hk
          · simp only [List.getElem?_toArray, List.getElem?_cons_zero, List.getElem?_cons_succ, Option.some.injEq] at ho
            subst ho
            simp [Region.binds] at hdep
            obtain rfl : .bool false = u := by simpa using hl
            have e22 := hKn.ev hF 3 rfl rfl rfl (by simp [hdep])
            have e24 := hKn.ev hF 5 rfl rfl rfl (by simp [hdep])
            clear hF hcl hKn hl hwant
            go_simp
            exact hk
          · simp only [List.getElem?_toArray, List.getElem?_cons_zero, List.getElem?_cons_succ, Option.some.injEq] at ho
            subst ho
            simp [Region.binds] at hdep
            obtain rfl : .bool false = u := by simpa using hl
            have e25 := hKn.ev hF 6 rfl rfl rfl (by simp [hdep])
            clear hF hcl hKn hl hwant
            go_simp
            exact hk
          · simp only [List.getElem?_toArray, List.getElem?_cons_zero, List.getElem?_cons_succ, Option.some.injEq] at ho
            subst ho
            have hy := hwant _ _ rfl
            simp at hy
          · simp only [List.getElem?_toArray, List.getElem?_cons_zero, List.getElem?_cons_succ, Option.some.injEq] at ho
            subst ho
            have hy := hwant _ _ rfl
            simp at hy
          · simp only [List.getElem?_toArray, List.getElem?_cons_zero, List.getElem?_cons_succ, Option.some.injEq] at ho
            subst ho
            have hy := hwant _ _ rfl
            simp at hy
          · simp only [List.getElem?_toArray, List.getElem?_cons_zero, List.getElem?_cons_succ, Option.some.injEq] at ho
            subst ho
            have hy := hwant _ _ rfl
            simp at hy
          · simp only [List.getElem?_toArray, List.getElem?_cons_zero, List.getElem?_cons_succ, Option.some.injEq] at ho
            subst ho
            simp [Region.binds] at hdep
            obtain rfl : .bool false = u := by simpa using hl
            have e26 := hKn.ev hF 7 rfl rfl rfl (by simp [hdep])
            have e30 := hKn.ev hF 11 rfl rfl rfl (by simp [hdep])
            clear hF hcl hKn hl hwant
            go_simp
            exact hk
          · simp only [List.getElem?_toArray, List.getElem?_cons_zero, List.getElem?_cons_succ, Option.some.injEq] at ho
            subst ho
            simp [Region.binds] at hdep
            obtain rfl : .int .i64 z = u := by simpa using hl
            have e19 := hKn.ev hF 0 rfl rfl rfl (by simp [hdep])
            clear hF hcl hKn hl hwant
            go_simp
            exact hk
          · simp only [List.getElem?_toArray, List.getElem?_cons_zero, List.getElem?_cons_succ, Option.some.injEq] at ho
            subst ho
            simp [Region.binds] at hdep
            obtain rfl : .bool false = u := by simpa using hl
            have e31 := hKn.ev hF 12 rfl rfl rfl (by simp [hdep])
            clear hF hcl hKn hl hwant
            go_simp
            exact hk
        · intro D x a w5 i o ho hl hD hdep hcl hF hKn hI K hk
          have hi : i < 15 := (Array.getElem?_eq_some_iff.1 ho).1
          rcases (show i = 0 ∨ i = 1 ∨ i = 2 ∨ i = 3 ∨ i = 4 ∨ i = 5 ∨ i = 6 ∨ i = 7 ∨ i = 8 ∨ i = 9 ∨ i = 10 ∨ i = 11 ∨ i = 12 ∨ i = 13 ∨ i = 14 by omega) with rfl | rfl | rfl | rfl | rfl | rfl | rfl | rfl | rfl | rfl | rfl | rfl | rfl | rfl | rfl
          · exact absurd rfl (hl _)
          · exact absurd rfl (hl _)
          · simp only [List.getElem?_toArray, List.getElem?_cons_zero, List.getElem?_cons_succ, Option.some.injEq] at ho
            subst ho
            simp [Region.binds] at hdep
            have e20 := hKn.ev hF 1 rfl rfl rfl (by simp [hdep])
            clear hF hcl hKn hl
            go_simp
            refine (HVV.out _).mono ?_
            rintro e w6 ⟨rfl, hb2⟩
            exact hk _ _ ⟨fun _ => rfl, hI.2.1.below hb2, below_next hI.2.2 hb2⟩
          · exact absurd rfl (hl _)
          · exact absurd rfl (hl _)
          · exact absurd rfl (hl _)
          · exact absurd rfl (hl _)
          · exact absurd rfl (hl _)
          · exact absurd rfl (hl _)
          · exact absurd rfl (hl _)
          · exact absurd rfl (hl _)
          · exact absurd rfl (hl _)
          · exact absurd rfl (hl _)
          · exact absurd rfl (hl _)
          · exact absurd rfl (hl _)
        · intro D x w9 hD hKn hI
          have HBF := Lib.hid hI.2.2
          have x13 := hKn 13 _ rfl (hD 13 (by decide))
          have x14 := hKn 14 _ rfl (hD 14 (by decide))
          clear hI hD hKn
          rw [HA0.out]
          simp [putsAll, List.range, List.range.loop, Act.put, x13, x14]
          go_wp2
          go_ret2
          exact ⟨rfl, HBF.out⟩
end Go.Proofs.Ytamhigknobdloaa
