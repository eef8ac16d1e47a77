/- What a row's frame says of a layout, and of a slice of layouts, that came in, in the words of the walks; no condition. -/
import Derived.Test.YtamhigknobdloaaLp
import Derived.Test.YtamhigknobdloaaLy
import Derived.Test.YtamhigknobdloaaRow
import Derived.Deep.Slices
import Derived.Deep.Fields
import Derived.ChangeSame
import Derived.ChangeSlices
import Derived.ProofKit
namespace Go.Proofs.Ytamhigknobdloaa
open Go.RowKit Go.ChangeShapes Go.WideShapes
set_option linter.unusedVariables false

theorem list_of {α : Type} {P : Nat → α → Prop} (n : Nat) (h : ∀ i, i < n → ∃ x, P i x) : ∃ l : List α, l.length = n ∧ ∀ i (hi : i < l.length), P i l[i] := by
  induction n with
  | zero => exact ⟨[], rfl, fun i hi => by simp at hi⟩
  | succ n ih =>
    obtain ⟨l, hl, hp⟩ := ih (fun i hi => h i (by omega))
    obtain ⟨x, hx⟩ := h n (by omega)
    refine ⟨l ++ [x], by simp [hl], fun i hi => ?_⟩
    rcases Nat.lt_or_ge i n with h1 | h1
    · rw [List.getElem_append_left (by omega)]; exact hp i (by omega)
    · have : i = n := by simp at hi; omega
      subst this
      rw [List.getElem_append_right (by omega)]
      simpa [hl] using hx
theorem list5 {α : Type} (l : List α) (h : l.length = 5) : ∃ a b c d e, l = [a, b, c, d, e] := by
  match l, h with
  | [a, b, c, d, e], _ => exact ⟨_, _, _, _, _, rfl⟩
theorem list8 {α : Type} (l : List α) (h : l.length = 8) : ∃ a b c d e f g i, l = [a, b, c, d, e, f, g, i] := by
  match l, h with
  | [a, b, c, d, e, f, g, i], _ => exact ⟨_, _, _, _, _, _, _, _, rfl⟩
theorem rowIn_ib {l : List Int} (h : ∀ n ∈ l, (Lit.int .i64 n).wf = true) : IB l := fun i hi => bounds_i64 (h i hi)

section
variable {H : Type} {enc : TypeId × Value → H} {w : World} {base : Nat} {spare : Nat → Bool} {held : Bool}
/-- A slice of ints that came in. -/
def IntsIn (w : World) (v : Value) : Prop := ∃ (A : Option Addr) (l : List Int) (c : Nat), v = .slice A l.length c ∧ Sl w A (l.map iv) ∧ l.length ≤ c ∧ c ≤ 9223372036854775807 ∧ IB l
theorem sl_of_add {a : Addr} {xs : List Value} (h : ∀ i (hi : i < xs.length), w.cell? (a.add i) = some xs[i]) : Sl w (some a) xs := by
  by_cases h0 : xs.length = 0
  · exact .inl (List.eq_nil_of_length_eq_zero h0)
  · obtain ⟨b, off, spot⟩ := a
    have hc0 := h 0 (by omega)
    have hspot : spot = none := by simpa [Addr.add] using World.cell?_spot hc0
    subst hspot
    refine .inr ⟨b, off, rfl, fun j hj => ?_⟩
    have := h j hj
    rwa [add_lit] at this
theorem ints_in {fuel : Nat} {v : Value} {x : DataW H × List MemPlace} (h : DataW.trod enc Try.prog w base spare held fuel 23 [v] = some x) : IntsIn w v := by
  rcases open_ints Try.underlying23 Try.underlying3 (by kernel_rfl) h with ⟨hcs, _⟩ | ⟨a, len, cap, zs, hcs, _, hl, hm, hz, _, hc, hw⟩
  · injection hcs with hv
    subst hv
    exact ⟨none, [], 0, rfl, Sl.nil, by simp, by omega, (by intro i hi; simp at hi)⟩
  · injection hcs with hv
    subst hv
    have hzl : len ≤ zs.length := by rw [hz]; split <;> omega
    refine ⟨some a, zs.take len, cap, by rw [List.length_take, Nat.min_eq_left hzl], ?_, by rw [List.length_take]; omega, hm, rowIn_ib (fun n hn => hw n (List.mem_of_mem_take hn))⟩
    refine sl_of_add fun i hi => ?_
    simp only [List.length_map, List.length_take] at hi
    rw [hc i (by omega)]
    simp [List.getD_eq_getElem?_getD, List.getElem?_eq_getElem (show i < zs.length by omega)]
/-- A slice of bytes that came in. -/
def BytesIn (w : World) (v : Value) : Prop := ∃ (A : Option Addr) (l : List UInt8) (c : Nat), v = .slice A l.length c ∧ Sl w A (l.map bv) ∧ l.length ≤ c ∧ c ≤ 9223372036854775807
theorem bytes_in {fuel : Nat} {v : Value} {x : DataW H × List MemPlace} (h : DataW.trod enc Try.prog w base spare held fuel 27 [v] = some x) : BytesIn w v := by
  rcases open_ints Try.underlying27 Try.underlying5 (by kernel_rfl) h with ⟨hcs, _⟩ | ⟨a, len, cap, zs, hcs, _, hl, hm, hz, _, hc, hw⟩
  · injection hcs with hv
    subst hv
    exact ⟨none, [], 0, rfl, Sl.nil, by simp, by omega⟩
  · injection hcs with hv
    subst hv
    have hzl : len ≤ zs.length := by rw [hz]; split <;> omega
    refine ⟨some a, (zs.take len).map fun n => UInt8.ofNat n.toNat, cap, by rw [List.length_map, List.length_take, Nat.min_eq_left hzl], ?_, by rw [List.length_map, List.length_take]; omega, hm⟩
    refine sl_of_add fun i hi => ?_
    simp only [List.length_map, List.length_take] at hi
    rw [hc i (by omega)]
    have hb := bounds_u8 (hw zs[i] (List.getElem_mem (show i < zs.length by omega)))
    simp [List.getD_eq_getElem?_getD, List.getElem?_eq_getElem (show i < zs.length by omega), bv]
    omega
/-- Any slice that came in. -/
theorem slice_in {fuel : Nat} {t e : TypeId} {v : Value} {x : DataW H × List MemPlace} (ht : Try.prog.underlying t = some (.slice e)) (h : DataW.trod enc Try.prog w base spare held fuel t [v] = some x) : ∃ A n c, v = .slice A n c := by
  rcases Go.Deep.open_slice ht h with ⟨hcs, _⟩ | ⟨a, len, cap, m, n, D, Pl, hcs, _⟩
  · injection hcs with hv; exact ⟨none, 0, 0, hv⟩
  · injection hcs with hv; exact ⟨some a, len, cap, hv⟩

/-- A case of a union as it lies in a slice: what its five cells hold. -/
structure CaseV where
  name : ByteArray
  ind : Bool
  A : Option Addr
  ofs : List Int
  c : Nat
  x3 : Value
  s : Int
def CaseV.cells (q : CaseV) : List Value := [.string q.name, .bool q.ind, .slice q.A q.ofs.length q.c, q.x3, .int .i64 q.s]
/-- A case that came in. -/
structure CaseIn (w : World) (q : CaseV) : Prop where
  of : Sl w q.A (q.ofs.map iv)
  cap : q.ofs.length ≤ q.c
  cap63 : q.c ≤ 9223372036854775807
  ib : IB q.ofs
  name : q.name.size ≤ 9223372036854775807
  x3 : ∃ A n c, q.x3 = .slice A n c
  s0 : -9223372036854775808 ≤ q.s
  s1 : q.s ≤ 9223372036854775807
/-- Cases that lie one after the other. -/
def CasesAt (w : World) (A : Option Addr) (cs : List CaseV) : Prop := Sl w A (cs.flatMap CaseV.cells)
/-- A layout that came in. -/
structure LayIn (w : World) (p : Part) : Prop where
  sp : Sl w p.A (p.sp.map bv)
  cap : p.sp.length ≤ p.c
  cap63 : p.c ≤ 9223372036854775807
  s0 : -9223372036854775808 ≤ p.s
  s1 : p.s ≤ 9223372036854775807
  al0 : -9223372036854775808 ≤ p.al
  al1 : p.al ≤ 9223372036854775807
  of : IntsIn w p.x3
  x4 : ∃ A n c, p.x4 = .slice A n c
  cases : ∃ (A : Option Addr) (cs : List CaseV) (c : Nat), p.x5 = .slice A cs.length c ∧ CasesAt w A cs ∧ (∀ q ∈ cs, CaseIn w q) ∧ cs.length ≤ c ∧ c ≤ 9223372036854775807
  tags : IntsIn w p.x6
  ptr : ∃ b, p.x7 = .bool b
theorem LayIn.one {p : Part} (h : LayIn w p) : p.one := by
  obtain ⟨_, _, _, e3, _⟩ := h.of
  obtain ⟨_, _, _, e4⟩ := h.x4
  obtain ⟨_, _, _, e5, _⟩ := h.cases
  obtain ⟨_, _, _, e6, _⟩ := h.tags
  obtain ⟨_, e7⟩ := h.ptr
  exact ⟨by rw [e3]; rfl, by rw [e4]; rfl, by rw [e5]; rfl, by rw [e6]; rfl, by rw [e7]; rfl⟩
/-- The elements of a slice of structs of C cells, one after the other. -/
theorem sl_flat {α : Type} {C : Nat} (f : α → List Value) (hf : ∀ x, (f x).length = C) {a : Addr} {l : List α} (h : ∀ i (hi : i < l.length) j, j < C → w.cell? (a.add (i * C + j)) = (f l[i])[j]?) : Sl w (some a) (l.flatMap f) := by
  have hlen : ∀ l : List α, (l.flatMap f).length = l.length * C := by
    intro l
    induction l with
    | nil => simp
    | cons x t ih => rw [List.flatMap_cons, List.length_append, ih, hf]; simp [Nat.succ_mul]; omega
  have hget : ∀ (l : List α) (i j : Nat) (hi : i < l.length), j < C → (l.flatMap f)[i * C + j]? = (f l[i])[j]? := by
    intro l
    induction l with
    | nil => intro i j hi; simp at hi
    | cons x t ih =>
      intro i j hi hj
      rw [List.flatMap_cons]
      cases i with
      | zero => rw [List.getElem?_append_left (by rw [hf]; omega)]; simp
      | succ i =>
        rw [List.getElem?_append_right (by rw [hf, Nat.succ_mul]; omega), hf]
        have : (i + 1) * C + j - C = i * C + j := by rw [Nat.succ_mul]; omega
        rw [this, ih i j (by simpa using hi) hj]
        simp
  refine sl_of_add fun k hk => ?_
  rw [hlen] at hk
  have hC : 0 < C := by
    rcases Nat.eq_zero_or_pos C with h0 | h0
    · rw [h0] at hk; simp at hk
    · exact h0
  have hdiv : k / C < l.length := Nat.div_lt_of_lt_mul (by rw [Nat.mul_comm]; exact hk)
  have hmod : k % C < C := Nat.mod_lt _ hC
  have e : k / C * C + k % C = k := by rw [Nat.mul_comm]; exact Nat.div_add_mod k C
  have h1 := h (k / C) hdiv (k % C) hmod
  have h2 := hget l (k / C) (k % C) hdiv hmod
  rw [e] at h1 h2
  rw [h1, ← h2, List.getElem?_eq_getElem]
theorem k1 : Try.prog.cellsOf 3 = 1 ∧ Try.prog.cellsOf 27 = 1 ∧ Try.prog.cellsOf 23 = 1 ∧ Try.prog.cellsOf 28 = 1 ∧ Try.prog.cellsOf 29 = 1 ∧ Try.prog.cellsOf 4 = 1 ∧ Try.prog.cellsOf 9 = 1 := by refine ⟨?_, ?_, ?_, ?_, ?_, ?_, ?_⟩ <;> kernel_rfl
theorem k31 : Try.prog.cellsOf 31 = 8 := by kernel_rfl
theorem k73 : Try.prog.cellsOf 73 = 5 := by kernel_rfl
theorem case_in {fuel : Nat} {cs : List Value} {x : DataW H × List MemPlace} (h : DataW.trod enc Try.prog w base spare held fuel 73 cs = some x) : ∃ q : CaseV, cs = q.cells ∧ CaseIn w q := by
  obtain ⟨xs, n, _, _, hl, hxl, hf⟩ := DataW.trod_struct Try.underlying73 h
  rw [k73] at hl
  obtain ⟨a3, a27, a23, a28, a29, a4, a9⟩ := k1
  obtain ⟨c0, c1, c2, c3, c4, rfl⟩ := list5 cs hl
  obtain ⟨y0, y1, y2, y3, y4, rfl⟩ := list5 xs hxl
  have h0 := hf 0 _ rfl
  have h1 := hf 1 _ rfl
  have h2 := hf 2 _ rfl
  have h3 := hf 3 _ rfl
  have h4 := hf 4 _ rfl
  simp [a3, a23, a28, a4, a9] at h0 h1 h2 h3 h4
  obtain ⟨s, e0, _, hsz⟩ := DataW.trod_string Try.underlying9 h0
  obtain ⟨b, e1, _⟩ := DataW.trod_bool Try.underlying4 h1
  obtain ⟨A, l, c, e2, s2, hc2, hc63, ib⟩ := ints_in h2
  obtain ⟨A3, n3, c3', e3⟩ := slice_in Try.underlying28 h3
  obtain ⟨m, e4, _, hw⟩ := DataW.trod_int Try.underlying3 h4
  simp only [List.cons.injEq, and_true] at e0 e1 e4
  subst e0 e1 e2 e3 e4
  have hb := bounds_i64 hw
  exact ⟨⟨s, b, A, l, c, .slice A3 n3 c3', m⟩, rfl, ⟨s2, hc2, hc63, ib, hsz, ⟨_, _, _, rfl⟩, hb.1, hb.2⟩⟩
theorem cases_in {fuel : Nat} {v : Value} {x : DataW H × List MemPlace} (h : DataW.trod enc Try.prog w base spare held fuel 29 [v] = some x) :
    ∃ (A : Option Addr) (cs : List CaseV) (c : Nat), v = .slice A cs.length c ∧ CasesAt w A cs ∧ (∀ q ∈ cs, CaseIn w q) ∧ cs.length ≤ c ∧ c ≤ 9223372036854775807 := by
  rcases Go.Deep.open_slice Try.underlying29 h with ⟨hcs, _⟩ | hx
  · injection hcs with hv; exact ⟨none, [], 0, hv, .inl rfl, by simp, by simp, by omega⟩
  · obtain ⟨a, len, cap, m, n, D, Pl, hcs, hx⟩ := hx
    have hl := hx.2.1
    have hm : cap ≤ 9223372036854775807 := hx.2.2.1
    have hmm := hx.2.2.2.1
    have hi := hx.2.2.2.2.2
    injection hcs with hv
    have hlm : len ≤ m := by rw [hmm]; split <;> omega
    obtain ⟨cs, hcl, hc⟩ := list_of (P := fun i (q : CaseV) => (∀ j, j < 5 → w.cell? (a.add (i * 5 + j)) = q.cells[j]?) ∧ CaseIn w q) len (fun i hil => by
      obtain ⟨cs', hcc, ht⟩ := hi i (by omega)
      obtain ⟨q, rfl, hq⟩ := case_in ht
      rw [k73] at hcc
      obtain ⟨_, _, hat⟩ := World.cells?_some hcc
      exact ⟨q, fun j hj => by rw [← Go.Deep.add_add]; exact hat j hj, hq⟩)
    refine ⟨some a, cs, cap, by rw [hcl]; exact hv, sl_flat CaseV.cells (fun _ => rfl) (fun i hi j hj => (hc i hi).1 j hj), ?_, by rw [hcl]; exact hl, hm⟩
    intro q hq
    obtain ⟨i, hil, rfl⟩ := List.getElem_of_mem hq
    exact (hc i hil).2
theorem lay_in {fuel : Nat} {cs : List Value} {x : DataW H × List MemPlace} (h : DataW.trod enc Try.prog w base spare held fuel 31 cs = some x) : ∃ p : Part, cs = p.cells ∧ LayIn w p := by
  obtain ⟨xs, n, _, _, hl, hxl, hf⟩ := DataW.trod_struct Try.underlying31 h
  rw [k31] at hl
  obtain ⟨a3, a27, a23, a28, a29, a4, a9⟩ := k1
  obtain ⟨c0, c1, c2, c3, c4, c5, c6, c7, rfl⟩ := list8 cs hl
  obtain ⟨y0, y1, y2, y3, y4, y5, y6, y7, rfl⟩ := list8 xs hxl
  have h0 := hf 0 _ rfl
  have h1 := hf 1 _ rfl
  have h2 := hf 2 _ rfl
  have h3 := hf 3 _ rfl
  have h4 := hf 4 _ rfl
  have h5 := hf 5 _ rfl
  have h6 := hf 6 _ rfl
  have h7 := hf 7 _ rfl
  simp [a3, a27, a23, a28, a29, a4] at h0 h1 h2 h3 h4 h5 h6 h7
  obtain ⟨s, e0, _, hw0⟩ := DataW.trod_int Try.underlying3 h0
  obtain ⟨al, e1, _, hw1⟩ := DataW.trod_int Try.underlying3 h1
  obtain ⟨A, l, c, e2, s2, hc2, hc63⟩ := bytes_in h2
  have hof := ints_in h3
  have hpa := slice_in Try.underlying28 h4
  have hca := cases_in h5
  have htg := ints_in h6
  obtain ⟨b, e7, _⟩ := DataW.trod_bool Try.underlying4 h7
  simp only [List.cons.injEq, and_true] at e0 e1 e7
  subst e0 e1 e2 e7
  have hb0 := bounds_i64 hw0
  have hb1 := bounds_i64 hw1
  exact ⟨⟨s, al, A, l, c, c3, c4, c5, c6, .bool b⟩, rfl, ⟨s2, hc2, hc63, hb0.1, hb0.2, hb1.1, hb1.2, hof, hpa, hca, htg, ⟨_, rfl⟩⟩⟩
/-- A slice of layouts that came in. -/
def LaysIn (w : World) (v : Value) : Prop := ∃ (A : Option Addr) (ps : List Part) (c : Nat), v = .slice A ps.length c ∧ Parts w A ps ∧ (∀ p ∈ ps, LayIn w p) ∧ ps.length ≤ c ∧ c ≤ 9223372036854775807
theorem lay_val {fuel : Nat} {cs : Array Value} {x : DataW H × List MemPlace} (hsz : cs.size = Try.prog.cellsOf 31) (h : DataW.trod enc Try.prog w base spare held fuel 31 (Value.agg cs).cells.toList = some x) : ∃ p : Part, Value.agg cs = p.val ∧ LayIn w p := by
  obtain ⟨p, hp, hi⟩ := lay_in h
  refine ⟨p, ?_, hi⟩
  have e : (Value.agg cs).cells = cs := by simp [Value.cells]
  rw [e] at hp
  show Value.agg cs = Value.agg p.cells.toArray
  rw [← hp]
theorem lays_in {fuel : Nat} {v : Value} {x : DataW H × List MemPlace} (h : DataW.trod enc Try.prog w base spare held fuel 22 [v] = some x) : LaysIn w v := by
  rcases Go.Deep.open_slice Try.underlying22 h with ⟨hcs, _⟩ | hx
  · injection hcs with hv; exact ⟨none, [], 0, hv, .inl rfl, by simp, by simp, by omega⟩
  · obtain ⟨a, len, cap, m, n, D, Pl, hcs, hx⟩ := hx
    have hl := hx.2.1
    have hm : cap ≤ 9223372036854775807 := hx.2.2.1
    have hmm := hx.2.2.2.1
    have hi := hx.2.2.2.2.2
    injection hcs with hv
    have hlm : len ≤ m := by rw [hmm]; split <;> omega
    obtain ⟨ps, hcl, hc⟩ := list_of (P := fun i (q : Part) => (∀ j, j < 8 → w.cell? (a.add (i * 8 + j)) = q.cells[j]?) ∧ LayIn w q) len (fun i hil => by
      obtain ⟨cs', hcc, ht⟩ := hi i (by omega)
      obtain ⟨q, rfl, hq⟩ := lay_in ht
      rw [k31] at hcc
      obtain ⟨_, _, hat⟩ := World.cells?_some hcc
      exact ⟨q, fun j hj => by rw [← Go.Deep.add_add]; exact hat j hj, hq⟩)
    refine ⟨some a, ps, cap, by rw [hcl]; exact hv, sl_flat Part.cells (fun _ => rfl) (fun i hi j hj => (hc i hi).1 j hj), ?_, by rw [hcl]; exact hl, hm⟩
    intro q hq
    obtain ⟨i, hil, rfl⟩ := List.getElem_of_mem hq
    exact (hc i hil).2
end
end Go.Proofs.Ytamhigknobdloaa
