/- Inject and Project of a union's layout in plain words, and sum.Lay of two cases that lie in made slices; conditions: as for sum.Lay. -/
import Derived.Test.YtamhigknobdloaaSm
import Derived.Test.YtamhigknobdloaaLa
namespace Go.Proofs.Ytamhigknobdloaa
open Go.RowKit
set_option linter.unusedVariables false

theorem sizeOk_key {p q : Part} {a b : CaseV} (h : p.key = q.key) (hl : liesI a = liesI b) : sizeOk p a = sizeOk q b := by
  obtain ⟨h1, h2, h3⟩ := key_inj h
  unfold sizeOk Part.valid; rw [h1, h2, h3, hl]
theorem lies_get {cs ds : List CaseV} (h : cs.map liesI = ds.map liesI) (k : Nat) : (cs[k]? = none ∧ ds[k]? = none) ∨ ∃ a b, cs[k]? = some a ∧ ds[k]? = some b ∧ liesI a = liesI b := by
  have h2 : (cs.map liesI)[k]? = (ds.map liesI)[k]? := by rw [h]
  rw [List.getElem?_map, List.getElem?_map] at h2
  cases hc : cs[k]? with
  | none =>
    cases hd : ds[k]? with
    | none => exact .inl ⟨rfl, rfl⟩
    | some b => rw [hc, hd] at h2; cases h2
  | some a =>
    cases hd : ds[k]? with
    | none => rw [hc, hd] at h2; cases h2
    | some b =>
      rw [hc, hd] at h2
      simp only [Option.map_some, Option.some.injEq] at h2
      exact .inr ⟨a, b, rfl, rfl, h2⟩
theorem projR_key {p q : Part} {cs ds : List CaseV} (h : p.key = q.key) (hl : cs.map liesI = ds.map liesI) (tags : List Int) (m : List UInt8) : projR p cs tags m = projR q ds tags m := by
  obtain ⟨h1, h2, h3⟩ := key_inj h
  have hv : p.valid = q.valid := by unfold Part.valid; rw [h1, h2, h3]
  unfold projR
  rw [hv, h3]
  split
  · rcases lies_get hl (getB m tags 0) with ⟨e1, e2⟩ | ⟨a, b, e1, e2, e3⟩
    · rw [e1, e2]
    · rw [e1, e2]
      simp only
      rw [sizeOk_key h e3, e3]
  · rfl
theorem injR_key {p q : Part} {cs ds : List CaseV} (h : p.key = q.key) (hl : cs.map liesI = ds.map liesI) (tags : List Int) (k : Int) (m : List UInt8) : injR p cs tags k m = injR q ds tags k m := by
  obtain ⟨h1, h2, h3⟩ := key_inj h
  have hlen : cs.length = ds.length := by simpa using congrArg List.length hl
  unfold injR
  rw [hlen]
  split
  · rfl
  · rcases lies_get hl k.toNat with ⟨e1, e2⟩ | ⟨a, b, e1, e2, e3⟩
    · rw [e1, e2]
    · rw [e1, e2]
      simp only
      rw [sizeOk_key h e3, e3, h1, h3]
/-- A case and a layout with nothing but what counts. -/
def caseK (t : Part) : CaseV := ⟨⟨#[]⟩, false, none, [], 0, .slice none 0 0, t.s⟩
def unK (u : Un) : Part := ⟨u.s, u.al, none, u.sp, 0, .slice none 0 0, .slice none 0 0, .slice none 0 0, .slice none 0 0, .bool false⟩
def unInj (ts : List Part) (u : Un) (k : Int) (m : List UInt8) : Int × List UInt8 := injR (unK u) (ts.map caseK) (intsN u.tags) k m
def unProj (ts : List Part) (u : Un) (m : List UInt8) : Option (Nat × List UInt8) := projR (unK u) (ts.map caseK) (intsN u.tags) m
theorem UnAt.lies {w : World} {u : Un} {nms : List ByteArray} {bs : List Bool} {fs : List (List Int)} {ps : List Part} {n : Nat} {As : Option Addr} {cs : Nat} {Ac : Option Addr} {cc : Nat} {Az : Option Addr} {cz : Nat} {qs : List CaseV} (h : UnAt w u nms bs fs ps n As cs Ac cc Az cz qs) (h1 : nms.length = n) (h2 : bs.length = n) (h3 : fs.length = n) (h4 : ps.length = n) :
    qs.map liesI = ((inside ps bs).map caseK).map liesI := by
  have hl := h.len
  apply List.ext_getElem
  · simp [inside, hl, h2, h4]
  · intro i hi hj
    simp only [List.length_map] at hi
    obtain ⟨_, e2, _, e4, _⟩ := h.each i hi (by omega) (by omega) (by omega) (by omega)
    simp only [List.getElem_map, inside, List.getElem_zipWith, liesI, caseK, e2, e4]
    cases bs[i]'(by omega) <;> rfl
theorem UnAt.injR {w : World} {u : Un} {nms : List ByteArray} {bs : List Bool} {fs : List (List Int)} {ps : List Part} {n : Nat} {As : Option Addr} {cs : Nat} {Ac : Option Addr} {cc : Nat} {Az : Option Addr} {cz : Nat} {qs : List CaseV} (h : UnAt w u nms bs fs ps n As cs Ac cc Az cz qs) (h1 : nms.length = n) (h2 : bs.length = n) (h3 : fs.length = n) (h4 : ps.length = n) (k : Int) (m : List UInt8) :
    Ytamhigknobdloaa.injR (unP u n As cs Ac cc Az cz) qs (intsN u.tags) k m = unInj (inside ps bs) u k m := injR_key rfl (h.lies h1 h2 h3 h4) _ _ _
theorem UnAt.projR {w : World} {u : Un} {nms : List ByteArray} {bs : List Bool} {fs : List (List Int)} {ps : List Part} {n : Nat} {As : Option Addr} {cs : Nat} {Ac : Option Addr} {cc : Nat} {Az : Option Addr} {cz : Nat} {qs : List CaseV} (h : UnAt w u nms bs fs ps n As cs Ac cc Az cz qs) (h1 : nms.length = n) (h2 : bs.length = n) (h3 : fs.length = n) (h4 : ps.length = n) (m : List UInt8) :
    Ytamhigknobdloaa.projR (unP u n As cs Ac cc Az cz) qs (intsN u.tags) m = unProj (inside ps bs) u m := projR_key rfl (h.lies h1 h2 h3 h4) _ _

/-- The world of a call of Lay with two cases. -/
abbrev w57 (wx : World) (p q : Part) (a b : ByteArray) (x y : Bool) : World :=
  ((wx.alloc (.cells #[.int .i64 p.s, .int .i64 p.al, .slice p.A p.sp.length p.c, p.x3, p.x4, p.x5, p.x6, p.x7, .int .i64 q.s, .int .i64 q.al, .slice q.A q.sp.length q.c, q.x3, q.x4, q.x5, q.x6, q.x7] 31)).alloc (.cells #[.string a, .string b] 9)).alloc (.cells #[.bool x, .bool y] 4)
theorem w57_below (wx : World) (p q : Part) (a b : ByteArray) (x y : Bool) : Below wx.heap.size wx (w57 wx p q a b x y) := (((Below.refl _ _).alloc (Nat.le_refl _) _).alloc (by simp) _).alloc (by simp; omega) _
theorem union2 (p q : Part) (f g : List Int) (a b : ByteArray) (x y : Bool) (wx : World) (hp : Sl wx p.A (p.sp.map bv)) (hq : Sl wx q.A (q.sp.map bv)) (h1 : p.one) (h2 : q.one)
    (hf : ∃ Ao co, p.x3 = .slice Ao f.length co ∧ Sl wx Ao (f.map iv) ∧ f.length ≤ 1000000) (hg : ∃ Ao co, q.x3 = .slice Ao g.length co ∧ Sl wx Ao (g.map iv) ∧ g.length ≤ 1000000) :
    Calls Try.prog 57 #[.slice (some ⟨wx.heap.size, 0, none⟩) 2 2, .slice (some ⟨wx.heap.size + 1, 0, none⟩) 2 2, .slice (some ⟨wx.heap.size + 1 + 1, 0, none⟩) 2 2] (w57 wx p q a b x y) (SumOut [p, q] [a, b] [x, y] [f, g] (w57 wx p q a b x y)) := by
  have hB := w57_below wx p q a b x y
  refine sumlay_any _ 2 2 [p, q] _ 2 2 [a, b] _ 2 2 [x, y] [f, g] _ rfl rfl rfl rfl ?_ ?_ ?_ (by omega) ?_ ?_ ?_
  · have h := Sl.new wx #[.int .i64 p.s, .int .i64 p.al, .slice p.A p.sp.length p.c, p.x3, p.x4, p.x5, p.x6, p.x7, .int .i64 q.s, .int .i64 q.al, .slice q.A q.sp.length q.c, q.x3, q.x4, q.x5, q.x6, q.x7] 31
    have h2 := (h.alloc (.cells #[.string a, .string b] 9)).alloc (.cells #[.bool x, .bool y] 4)
    exact h2
  · have h := (Sl.new (wx.alloc (.cells #[.int .i64 p.s, .int .i64 p.al, .slice p.A p.sp.length p.c, p.x3, p.x4, p.x5, p.x6, p.x7, .int .i64 q.s, .int .i64 q.al, .slice q.A q.sp.length q.c, q.x3, q.x4, q.x5, q.x6, q.x7] 31)) #[.string a, .string b] 9).alloc (.cells #[.bool x, .bool y] 4)
    simpa using h
  · have h := Sl.new ((wx.alloc (.cells #[.int .i64 p.s, .int .i64 p.al, .slice p.A p.sp.length p.c, p.x3, p.x4, p.x5, p.x6, p.x7, .int .i64 q.s, .int .i64 q.al, .slice q.A q.sp.length q.c, q.x3, q.x4, q.x5, q.x6, q.x7] 31)).alloc (.cells #[.string a, .string b] 9)) #[.bool x, .bool y] 4
    simpa using h
  · intro t ht
    simp only [List.mem_cons, List.not_mem_nil, or_false] at ht
    rcases ht with rfl | rfl
    · exact hp.below hB
    · exact hq.below hB
  · intro t ht
    simp only [List.mem_cons, List.not_mem_nil, or_false] at ht
    rcases ht with rfl | rfl <;> assumption
  · intro i hi hj
    obtain ⟨Ao, co, e1, e2, e3⟩ := hf
    obtain ⟨Bo, do_, g1, g2, g3⟩ := hg
    match i, hi, hj with
    | 0, _, _ => exact ⟨Ao, co, e1, e2.below hB, e3⟩
    | 1, _, _ => exact ⟨Bo, do_, g1, g2.below hB, g3⟩
end Go.Proofs.Ytamhigknobdloaa
