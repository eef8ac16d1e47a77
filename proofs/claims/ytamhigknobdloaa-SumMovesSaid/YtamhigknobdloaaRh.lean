/- A region that draws its order, where most operations yield values that are known beforehand: one obligation an operation, whatever the order; no condition. -/
import Derived.Test.YtamhigknobdloaaRg
namespace Go.Proofs.Ytamhigknobdloaa
open Go.RowKit
set_option linter.unusedVariables false

section
variable {P : Program} {ops : Array Oper} {Q : Exit → Act → World → Prop}
/-- The values that are known beforehand are those of the operations that have run. -/
def Known (l : List (Option Value)) (D : Nat → Bool) (x : Nat → Value) : Prop := ∀ (j : Nat) (u : Value), l[j]? = some (some u) → D j = true → x j = u
/-- THE LAW: l lists the values that are known beforehand; what is said of the world (Inv) looks at the other operations alone ('hard'). -/
theorem wp_region_known {id : Nat} {a0 : Act} {w : World} (hm : P.follows .mixedOrders = true) (hord : ∀ (i : Nat) (o : Oper), ops[i]? = some o → ∀ e ∈ o.after, e.on < i)
    (hdst : ∀ (i j : Nat) (oi oj : Oper) (d : Nat), ops[i]? = some oi → ops[j]? = some oj → oi.dst = some d → oj.dst = some d → i = j)
    (hsz : ∀ (i : Nat) (o : Oper) (d : Nat), ops[i]? = some o → o.dst = some d → d < a0.tmps.size)
    (hgd : ∀ (i : Nat) (o : Oper), ops[i]? = some o → o.guard = none)
    (l : List (Option Value)) (Inv : (Nat → Bool) → (Nat → Value) → World → Prop) (h0 : Inv (fun _ => false) (fun _ => undef) w.drew)
    (hins : ∀ (i : Nat) (u : Value) (D : Nat → Bool) (x : Nat → Value) (w : World), l[i]? = some (some u) → D i = false → Inv D x w → Inv (fun j => if j = i then true else D j) (fun j => if j = i then u else x j) w)
    (pure_ : ∀ (D : Nat → Bool) (x : Nat → Value) (a : Act) (w : World) (i : Nat) (o : Oper) (u : Value), ops[i]? = some o → l[i]? = some (some u) → D i = false → (∀ e ∈ o.after, Region.binds .any e = true → D e.on = true) →
      (∀ (j : Nat) (oj : Oper), ops[j]? = some oj → D j = true → ∀ e ∈ oj.after, Region.binds .any e = true → D e.on = true) → FrameV ops a0 D a x → Known l D x → Inv D x w →
      ∀ K : Act → World → Prop, K (a.put o.dst u) w → Oper.wp P o a w K Q)
    (hard : ∀ (D : Nat → Bool) (x : Nat → Value) (a : Act) (w : World) (i : Nat) (o : Oper), ops[i]? = some o → (∀ u, l[i]? ≠ some (some u)) → D i = false → (∀ e ∈ o.after, Region.binds .any e = true → D e.on = true) →
      (∀ (j : Nat) (oj : Oper), ops[j]? = some oj → D j = true → ∀ e ∈ oj.after, Region.binds .any e = true → D e.on = true) → FrameV ops a0 D a x → Known l D x → Inv D x w →
      ∀ K : Act → World → Prop, (∀ v w', Inv (fun j => if j = i then true else D j) (fun j => if j = i then v else x j) w' → K (a.put o.dst v) w') → Oper.wp P o a w K Q)
    (hend : ∀ (D : Nat → Bool) (x : Nat → Value) (w : World), (∀ i, i < ops.size → D i = true) → (∀ i, ops.size ≤ i → D i = false) → Known l D x → Inv D x w → Q .normal (putsAll ops a0 x ops.size) w) : (Code.region id ops true).wp P Q a0 w := by
  refine wp_region_vals hm hord hdst hsz hgd (fun D x w => (∀ i, ops.size ≤ i → D i = false) ∧ Known l D x ∧ Inv D x w) ⟨fun _ _ => rfl, (fun j u _ h => by cases h), h0⟩ ?_ ?_
  · intro D x a w i o ho hD hdep hcl hF ⟨hZ, hK, hI⟩ K hk
    have hi : i < ops.size := (Array.getElem?_eq_some_iff.1 ho).1
    have hZ' : ∀ k, ops.size ≤ k → (if k = i then true else D k) = false := by
      intro k hk
      rw [if_neg (by omega)]
      exact hZ k hk
    cases hl : l[i]? with
    | some ou =>
      cases ou with
      | some u =>
        refine pure_ D x a w i o u ho hl hD hdep hcl hF hK hI K (hk u w ⟨hZ', ?_, hins i u D x w hl hD hI⟩)
        intro j v hj hDj
        by_cases e : j = i
        · subst e
          rw [hl] at hj
          injection hj with hj
          injection hj with hj
          simp [hj]
        · simp only [e, if_false] at hDj ⊢
          exact hK j v hj hDj
      | none =>
        refine hard D x a w i o ho (fun u h => by rw [hl] at h; cases h) hD hdep hcl hF hK hI K fun v w' hI' => hk v w' ⟨hZ', ?_, hI'⟩
        intro j v hj hDj
        by_cases e : j = i
        · subst e; rw [hl] at hj; cases hj
        · simp only [e, if_false] at hDj ⊢
          exact hK j v hj hDj
    | none =>
      refine hard D x a w i o ho (fun u h => by rw [hl] at h; cases h) hD hdep hcl hF hK hI K fun v w' hI' => hk v w' ⟨hZ', ?_, hI'⟩
      intro j v hj hDj
      by_cases e : j = i
      · subst e; rw [hl] at hj; cases hj
      · simp only [e, if_false] at hDj ⊢
        exact hK j v hj hDj
  · intro D x w hD ⟨hZ, hK, hI⟩
    exact hend D x w hD hZ hK hI
/-- The value of a slot whose operation has run. -/
theorem Known.ev {l : List (Option Value)} {D : Nat → Bool} {x : Nat → Value} {a0 a : Act} (hK : Known l D x) (hF : FrameV ops a0 D a x) (j : Nat) {o : Oper} {d : Nat} {u : Value} (ho : ops[j]? = some o) (hd : o.dst = some d) (hl : l[j]? = some (some u)) (hD : D j = true) : a.tmps[d]?.getD undef = u :=
  ev_tmp ((hF.eval ho hd hD).trans (hK j u hl hD))
theorem FrameV.ev {D : Nat → Bool} {x : Nat → Value} {a0 a : Act} {v : Value} (hF : FrameV ops a0 D a x) (j : Nat) {o : Oper} {d : Nat} (ho : ops[j]? = some o) (hd : o.dst = some d) (hD : D j = true) (hv : x j = v) : a.tmps[d]?.getD undef = v :=
  ev_tmp ((hF.eval ho hd hD).trans hv)
theorem FrameV.ev0 {D : Nat → Bool} {x : Nat → Value} {a0 a : Act} {v : Value} {s : Nat} (hF : FrameV ops a0 D a x) (hn : lookNone ops s = true) (hv : a0.eval (.tmp s) = v) : a.tmps[s]?.getD undef = v :=
  ev_tmp ((hF.same (fun j oj hj hd => absurd hd (dst_none hn hj))).trans hv)
end
end Go.Proofs.Ytamhigknobdloaa
