/- The law SumLays of the program, proved: for every input it returns true and its arguments read as before; no condition. The frame follows the guide's proof-skeleton. -/
import Derived.Test.YtamhigknobdloaaRows
import Derived.Test.YtamhigknobdloaaUq
import Derived.Test.YtamhigknobdloaaRow
import Derived.Test.YtamhigknobdloaaRl
import Derived.WalkKit
import Derived.ProofKit
import Derived.OpenShut
import Derived.ShutString
import Derived.ChangeOld
import Derived.Below
namespace Go.Proofs.Ytamhigknobdloaa.sumLays
open Go.ChangeShapes Go.WideShapes Go.ChangeAt Go.RowKit
open Go.ChangeMaps (open_string shut_string)
set_option linter.unusedVariables false

theorem own : ownKnob Try.prog.godebug = none := by kernel_rfl
theorem laidOut : laidOutB Try.prog = true := by kernel_rfl

theorem walk (a0 : Option Addr) (len0 cap0 : Nat) (a1 : Option Addr) (len1 cap1 : Nat) (a2 : Option Addr) (len2 cap2 : Nat) (a3 : Option Addr) (len3 cap3 : Nat) (z3 : List Int) (a4 : Int) (w : World) (w0 : LaysIn w (.slice a0 len0 cap0)) (w1 : StrsIn w (.slice a1 len1 cap1)) (w2 : BoolsIn w (.slice a2 len2 cap2)) (w3 : RowIn .i64 w a3 len3 cap3 z3) (w4 : (Lit.int .i64 a4).wf = true) :
    Calls Try.prog 11 #[.slice a0 len0 cap0, .slice a1 len1 cap1, .slice a2 len2 cap2, .slice a3 len3 cap3, .int .i64 a4] w fun e w' => e = .returned (.bool true) ∧ Below w.heap.size w w' := by
  obtain ⟨A, ps, c, hv, hps, hin, hc, hc63⟩ := w0
  injection hv with e1 e2 e3
  subst e1 e2 e3
  obtain ⟨An, nms, cn, hv, hN, hcn, hcn63⟩ := w1
  injection hv with e1 e2 e3
  subst e1 e2 e3
  obtain ⟨Ai, bs, cb, hv, hB, hcb, hcb63⟩ := w2
  injection hv with e1 e2 e3
  subst e1 e2 e3
  obtain ⟨h1, h2, h3, h4, h5⟩ := RowIn.sl w3
  have b4 := bounds_i64 w4
  by_cases hbig : 40 < ps.length ∨ 40 < nms.length ∨ 40 < bs.length ∨ 700 < len3
  · exact sumlays_big a0 ps.length cap0 a1 nms.length cap1 a2 bs.length cap2 a3 len3 cap3 a4 w (by omega) (by omega) (by omega) hbig
  · obtain ⟨fs, hfl, hfs⟩ := list_of (P := fun i f => ∀ (h1 : i < ps.length), ∃ Ao co, ps[i].x3 = .slice Ao (f : List Int).length co ∧ Sl w Ao (f.map iv) ∧ f.length ≤ 9223372036854775807) ps.length (fun i hi => by
      obtain ⟨Ao, l, co, e, hs, hl, hl63, _⟩ := (hin ps[i] (List.getElem_mem hi)).of
      exact ⟨l, fun _ => ⟨Ao, co, e, hs, by omega⟩⟩)
    exact sumlays_walk a0 ps.length cap0 ps a1 nms.length cap1 nms a2 bs.length cap2 bs fs a3 len3 cap3 (z3.take len3) a4 w rfl rfl rfl hfl hps hN hB (fun p hp => (hin p hp).sp) (fun p hp => by have := (hin p hp).cap; have := (hin p hp).cap63; omega) (fun p hp => (hin p hp).one) (fun i h1 h2 => hfs i h2 h1) h1 h2 (by omega) (fun i hi => bounds_i64 (h5 i hi)) (by omega) (by omega) (by omega) b4.1 b4.2

set_option maxRecDepth 100000 in
theorem lifted (os : Os) (started : os.Started) (H : Type) (enc : TypeId × Value → H) :
    ReturnsInHanded {} Try.checked os 11 .any (Rows.sumLaysSpec.pre6 enc Try.prog Try.f11 Rows.sumLaysRow.domain false) (Rows.sumLaysSpec.post enc Try.prog Try.f11 false true false false) := by
  refine returnsInHanded_of_change (C := Try.checked) own started (by kernel_rfl) Try.func11
    (ChangeSpec.witness6 (enc := enc) (C := Try.checked) false ⟨#[], #[.slice none 0 0, .slice none 0 0, .slice none 0 0, .slice none 0 0, .int .i64 0], []⟩ 8 (by kernel_rfl) (by kernel_rfl) (by kernel_rfl) (by kernel_rfl)) ?_
  intro W base args ds gs before hval0 hW hcnd _
  have hval : ∀ (j : Nat) t v, Try.f11.params[j]? = some t → args[j]? = some v → Value.okWide Try.prog W .any base t v := hval0
  have hW' := hW
  obtain ⟨p, q, hA0, hV, rfl, hfz, hnd⟩ := hW
  have hA : DataW.TrodAll enc Try.prog W 0 (fun _ => true) true Try.f11.params.toList args.toList ds p := hA0
  rw [Try.params11] at hA hval
  obtain ⟨v0, vs0, d0, ds0, p0, q0, hargs, rfl, rfl, h0, r0⟩ := trodAll_cons hA
  obtain ⟨v1, vs1, d1, ds1, p1, q1, rfl, rfl, rfl, h1, r1⟩ := trodAll_cons r0
  obtain ⟨v2, vs2, d2, ds2, p2, q2, rfl, rfl, rfl, h2, r2⟩ := trodAll_cons r1
  obtain ⟨v3, vs3, d3, ds3, p3, q3, rfl, rfl, rfl, h3, r3⟩ := trodAll_cons r2
  obtain ⟨v4, vs4, d4, ds4, p4, q4, rfl, rfl, rfl, h4, r4⟩ := trodAll_cons r3
  obtain ⟨rfl, rfl, rfl⟩ := trodAll_nil r4
  obtain rfl : args = #[v0, v1, v2, v3, v4] := by cases args; simp_all
  obtain ⟨rfl, rfl⟩ := trodVars_none hV
  obtain ⟨a0, len0, cap0, rfl⟩ := okWide_slice Try.underlying22 (hval 0 22 v0 rfl rfl)
  have k0 := h0
  have lt0 : ∀ x ∈ p0, x.block < W.heap.size := by obtain ⟨m, hm⟩ := k0; exact DataW.trod_lt m _ _ _ hm
  have w0 : LaysIn W (.slice a0 len0 cap0) := by
    obtain ⟨fuel, hf⟩ := h0
    exact lays_in hf
  obtain ⟨a1, len1, cap1, rfl⟩ := okWide_slice Try.underlying66 (hval 1 66 v1 rfl rfl)
  have k1 := h1
  have lt1 : ∀ x ∈ p1, x.block < W.heap.size := by obtain ⟨m, hm⟩ := k1; exact DataW.trod_lt m _ _ _ hm
  have w1 : StrsIn W (.slice a1 len1 cap1) := by
    obtain ⟨fuel, hf⟩ := h1
    exact strs_in hf
  obtain ⟨a2, len2, cap2, rfl⟩ := okWide_slice Try.underlying67 (hval 2 67 v2 rfl rfl)
  have k2 := h2
  have lt2 : ∀ x ∈ p2, x.block < W.heap.size := by obtain ⟨m, hm⟩ := k2; exact DataW.trod_lt m _ _ _ hm
  have w2 : BoolsIn W (.slice a2 len2 cap2) := by
    obtain ⟨fuel, hf⟩ := h2
    exact bools_in hf
  obtain ⟨a3, len3, cap3, rfl⟩ := okWide_slice Try.underlying23 (hval 3 23 v3 rfl rfl)
  have k3 := h3
  have lt3 : ∀ x ∈ p3, x.block < W.heap.size := by obtain ⟨m, hm⟩ := k3; exact DataW.trod_lt m _ _ _ hm
  obtain ⟨z3, w3⟩ : ∃ zs, RowIn .i64 W a3 len3 cap3 zs := by
    obtain ⟨fuel, hf⟩ := h3
    rcases open_ints Try.underlying23 Try.underlying3 (by kernel_rfl) hf with ⟨hcs, _⟩ | ⟨x, l, c, zs, hcs, _, hl, hm, hz, _, hcell, hwz⟩
    · simp [Value.cells] at hcs
      obtain ⟨rfl, rfl, rfl⟩ := hcs
      exact ⟨[], .inl ⟨rfl, rfl, rfl, rfl⟩⟩
    · simp [Value.cells] at hcs
      obtain ⟨rfl, rfl, rfl⟩ := hcs
      exact ⟨zs, .inr ⟨_, rfl, hl, hm, by simpa using hz, hcell, hwz⟩⟩
  obtain ⟨a4, rfl, rfl, rfl, w4⟩ := open_int Try.underlying3 (hval 4 3 v4 rfl rfl) h4
  clear hA0 hval0
  refine (walk a0 len0 cap0 a1 len1 cap1 a2 len2 cap2 a3 len3 cap3 z3 a4 W w0 w1 w2 w3 w4).mono fun e W' ⟨he, bel⟩ => ?_
  subst he
  exact ⟨_, rfl, _, _, _, [], _, [], hW', trodAll_mk1 (shut_bool Try.underlying4 _), (trodAll_cons_mk (Below.trod laidOut (by kernel_rfl) (of_decide_eq_true (by kernel_rfl)) k0 bel lt0) (trodAll_cons_mk (Below.trod laidOut (by kernel_rfl) (of_decide_eq_true (by kernel_rfl)) k1 bel lt1) (trodAll_cons_mk (Below.trod laidOut (by kernel_rfl) (of_decide_eq_true (by kernel_rfl)) k2 bel lt2) (trodAll_cons_mk (Below.trod laidOut (by kernel_rfl) (of_decide_eq_true (by kernel_rfl)) k3 bel lt3) (trodAll_cons_mk (shut_int Try.underlying3 w4) trodAll_mk0))))), rfl, bel.frame _, fun h => by cases h⟩

theorem over : Rows.sumLaysRow.holds Try.pinned (OpenSpec.ofChange Rows.sumLaysSpec) :=
  OpenClaim.holds_of_wide 11 Try.f11 rfl rfl rfl rfl rfl rfl rfl ⟨rfl, rfl, rfl, rfl, rfl⟩ rfl rfl rfl rfl rfl (by kernel_rfl) Try.func11 (by kernel_rfl)
    (of_decide_eq_true (by kernel_rfl)) (by unfold Func.isWrapper; first | (rw [if_pos (by decide +kernel)]; kernel_rfl) | (rw [if_neg (by decide +kernel)]; exact ⟨rfl, rfl⟩))
    (fun os started H enc _ => lifted os started H enc)

/-- The statement. -/
theorem proved : Rows.SumLaysSaid := over
#print axioms proved
end Go.Proofs.Ytamhigknobdloaa.sumLays
