/- A region that draws its order and has guards, where most operations yield values that are known beforehand; no condition. -/
import Derived.Test.YtamhigknobdloaaRh
namespace Go.Proofs.Ytamhigknobdloaa
open Go.RowKit
set_option linter.unusedVariables false

section
variable {P : Program} {ops : Array Oper} {Q : Exit → Act → World → Prop}
theorem ready_nil' {listed : Array Bool} (h : Region.ready .any ops listed = []) (hsz : listed.size = ops.size) (hord : ∀ (i : Nat) (o : Oper), ops[i]? = some o → ∀ e ∈ o.after, Region.binds .any e = true → e.on < i) : ∀ i, i < ops.size → marks listed i = true := by
  intro i
  induction i using Nat.strongRecOn with
  | _ i ih =>
    intro hi
    cases hm : marks listed i with
    | true => rfl
    | false =>
      exfalso
      have ho : ops[i]? = some ops[i] := Array.getElem?_eq_getElem hi
      have hmem : i ∈ Region.ready .any ops listed := by
        unfold Region.ready
        rw [List.mem_filter]
        refine ⟨List.mem_range.2 hi, ?_⟩
        rw [ho]
        simp only [Bool.and_eq_true, Option.map_some, Option.getD_some]
        refine ⟨?_, ?_⟩
        · unfold marks at hm
          have hl : i < listed.size := by omega
          simp only [Array.getD, hl, dif_pos] at hm ⊢
          simpa using hm
        · refine Array.all_eq_true'.2 fun e he => ?_
          cases hb : Region.binds .any e with
          | false => simp
          | true =>
            have hlt := hord i ops[i] ho e he hb
            have hd := ih e.on hlt (by omega)
            unfold marks at hd
            rw [hd]; simp
      rw [h] at hmem
      cases hmem

/-- THE LAW: what holds behind each set of operations that is closed under their edges is kept by each operation. -/
theorem wp_region_inv' {id : Nat} {a : Act} {w : World} (hm : P.follows .mixedOrders = true) (hord : ∀ (i : Nat) (o : Oper), ops[i]? = some o → ∀ e ∈ o.after, Region.binds .any e = true → e.on < i)
    (Inv : (Nat → Bool) → Act → World → Prop) (h0 : Inv (fun _ => false) a w.drew)
    (step : ∀ (D : Nat → Bool) (a : Act) (w : World) (i : Nat) (o : Oper), ops[i]? = some o → D i = false → (∀ e ∈ o.after, Region.binds .any e = true → D e.on = true) →
      (∀ (j : Nat) (oj : Oper), ops[j]? = some oj → D j = true → ∀ e ∈ oj.after, Region.binds .any e = true → D e.on = true) → Inv D a w →
      ∀ K : Act → World → Prop, (∀ a' w', Inv (fun j => if j = i then true else D j) a' w' → K a' w') → if Region.wanted o (yielded ops a.tmps) = true then Oper.wp P o a w K Q else K (a.put o.dst undef) w)
    (hend : ∀ (D : Nat → Bool) (a : Act) (w : World), (∀ i, i < ops.size → D i = true) → Inv D a w → Q .normal a w) : (Code.region id ops true).wp P Q a w := by
  refine wp_region_any hm ?_
  have key : ∀ (fuel : Nat) (listed : Array Bool) (a : Act) (w : World), listed.size = ops.size → unset listed.toList ≤ fuel →
      (∀ (j : Nat) (oj : Oper), ops[j]? = some oj → marks listed j = true → ∀ e ∈ oj.after, Region.binds .any e = true → marks listed e.on = true) → Inv (marks listed) a w → wpAny P .any ops Q fuel listed a w := by
    intro fuel
    induction fuel with
    | zero =>
      intro listed a w hsz hu hcl hI
      have hall : ∀ i, i < ops.size → marks listed i = true := by
        intro i hi
        have := unset_zero listed.toList (by omega) i (by simpa [hsz] using hi)
        unfold marks
        rw [Array.getElem?_toList] at this
        simp [Array.getD_eq_getD_getElem?, this]
      refine ⟨?_, hend _ a w hall hI⟩
      rw [List.eq_nil_iff_forall_not_mem]
      intro i hi
      obtain ⟨o, _, hf, hlt, _⟩ := mem_ready hi hsz
      rw [hall i hlt] at hf
      cases hf
    | succ fuel ih =>
      intro listed a w hsz hu hcl hI
      refine ⟨fun hr => hend _ a w (ready_nil' hr hsz hord) hI, fun i hi => ?_⟩
      obtain ⟨o, ho, hf, hlt, hdep⟩ := mem_ready hi hsz
      refine wpOp_step ho fun K' hK => ?_
      have hmk : marks (listed.setIfInBounds i true) = fun j => if j = i then true else marks listed j := by
        funext j
        unfold marks
        by_cases hj : j = i
        · subst hj
          have : j < listed.size := by omega
          simp [Array.getD_eq_getD_getElem?, this]
        · have : i ≠ j := fun e => hj e.symm
          simp [Array.getD_eq_getD_getElem?, this, hj]
      refine step _ a w i o ho hf hdep hcl hI K' fun a' w' hI' => hK a' w' (ih _ a' w' (by simpa using hsz) ?_ ?_ ?_)
      · have hl : i < listed.size := by omega
        have hg : listed.toList[i]? = some false := by
          rw [Array.getElem?_toList, Array.getElem?_eq_getElem hl]
          unfold marks at hf
          simp only [Array.getD, hl, dif_pos] at hf
          exact congrArg some hf
        have := unset_set listed.toList i (by simpa using hl) hg
        rw [Array.toList_setIfInBounds]
        omega
      · rw [hmk]
        intro j oj hj hDj e he hb
        by_cases hji : j = i
        · subst hji
          rw [hj] at ho
          injection ho with ho
          subst ho
          show (if e.on = j then true else marks listed e.on) = true
          rw [hdep e he hb]; simp
        · have hDj' : marks listed j = true := by
            have : (if j = i then true else marks listed j) = true := hDj
            rwa [if_neg hji] at this
          show (if e.on = i then true else marks listed e.on) = true
          rw [hcl j oj hj hDj' e he hb]; simp
      · rw [hmk]; exact hI'
  refine key ops.size (Array.replicate ops.size false) a w.drew (by simp) ?_ ?_ ?_
  · have : ∀ n, unset (List.replicate n false) = n := by
      intro n
      induction n with
      | zero => rfl
      | succ n ih => simp only [List.replicate_succ, unset, ih]; simp; omega
    rw [Array.toList_replicate, this]
    exact Nat.le_refl _
  · intro j oj hj hDj
    exfalso
    unfold marks at hDj
    rw [Array.getD_eq_getD_getElem?, Array.getElem?_replicate] at hDj
    split at hDj <;> simp at hDj
  · have : marks (Array.replicate ops.size false) = fun _ => false := by
      funext j
      unfold marks
      rw [Array.getD_eq_getD_getElem?, Array.getElem?_replicate]
      split <;> rfl
    rw [this]
    exact h0

/-- THE LAW WITH GUARDS: l lists the values that are known beforehand ('undef' for what a guard leaves out); each guard's value is among them. -/
theorem wp_region_kn {id : Nat} {a0 : Act} {w : World} (hm : P.follows .mixedOrders = true) (hord : ∀ (i : Nat) (o : Oper), ops[i]? = some o → ∀ e ∈ o.after, Region.binds .any e = true → e.on < i)
    (hdst : ∀ (i j : Nat) (oi oj : Oper) (d : Nat), ops[i]? = some oi → ops[j]? = some oj → oi.dst = some d → oj.dst = some d → i = j)
    (hsz : ∀ (i : Nat) (o : Oper) (d : Nat), ops[i]? = some o → o.dst = some d → d < a0.tmps.size)
    (l : List (Option Value)) (hG : ∀ (i : Nat) (o : Oper) (g : Nat) (bl : Bool), ops[i]? = some o → o.guard = some (g, bl) → ∃ (v : Bool) (og : Oper) (d : Nat), l[g]? = some (some (.bool v)) ∧ ops[g]? = some og ∧ og.dst = some d ∧ (∃ e ∈ o.after, e.on = g ∧ Region.binds .any e = true) ∧ (v ≠ bl → l[i]? = some (some undef)))
    (Inv : (Nat → Bool) → (Nat → Value) → World → Prop) (h0 : Inv (fun _ => false) (fun _ => undef) w.drew)
    (hins : ∀ (i : Nat) (u : Value) (D : Nat → Bool) (x : Nat → Value) (w : World), l[i]? = some (some u) → D i = false → Inv D x w → Inv (fun j => if j = i then true else D j) (fun j => if j = i then u else x j) w)
    (pure_ : ∀ (D : Nat → Bool) (x : Nat → Value) (a : Act) (w : World) (i : Nat) (o : Oper) (u : Value), ops[i]? = some o → l[i]? = some (some u) → D i = false → (∀ e ∈ o.after, Region.binds .any e = true → D e.on = true) →
      (∀ (j : Nat) (oj : Oper), ops[j]? = some oj → D j = true → ∀ e ∈ oj.after, Region.binds .any e = true → D e.on = true) → FrameV ops a0 D a x → Known l D x → Inv D x w → (∀ g bl, o.guard = some (g, bl) → l[g]? = some (some (.bool bl))) →
      ∀ K : Act → World → Prop, K (a.put o.dst u) w → Oper.wp P o a w K Q)
    (hard : ∀ (D : Nat → Bool) (x : Nat → Value) (a : Act) (w : World) (i : Nat) (o : Oper), ops[i]? = some o → (∀ u, l[i]? ≠ some (some u)) → D i = false → (∀ e ∈ o.after, Region.binds .any e = true → D e.on = true) →
      (∀ (j : Nat) (oj : Oper), ops[j]? = some oj → D j = true → ∀ e ∈ oj.after, Region.binds .any e = true → D e.on = true) → FrameV ops a0 D a x → Known l D x → Inv D x w →
      ∀ K : Act → World → Prop, (∀ v w', Inv (fun j => if j = i then true else D j) (fun j => if j = i then v else x j) w' → K (a.put o.dst v) w') → Oper.wp P o a w K Q)
    (hend : ∀ (D : Nat → Bool) (x : Nat → Value) (w : World), (∀ i, i < ops.size → D i = true) → Known l D x → Inv D x w → Q .normal (putsAll ops a0 x ops.size) w) : (Code.region id ops true).wp P Q a0 w := by
  refine wp_region_inv' hm hord (fun D a w => ∃ x, FrameV ops a0 D a x ∧ Known l D x ∧ Inv D x w) ⟨_, ⟨rfl, rfl, (fun i o d _ _ h => by cases h), fun s _ => rfl⟩, (fun j u _ h => by cases h), h0⟩ ?_ ?_
  · intro D a w i o ho hD hdep hcl ⟨x, hF, hK, hI⟩ K hk
    have known : ∀ u, l[i]? = some (some u) → Known l (fun j => if j = i then true else D j) (fun j => if j = i then u else x j) := by
      intro u hl j v hj hDj
      by_cases e : j = i
      · subst e
        rw [hl] at hj
        injection hj with hj
        injection hj with hj
        simp [hj]
      · simp only [e, if_false] at hDj ⊢
        exact hK j v hj hDj
    have unknown : ∀ v, (∀ u, l[i]? ≠ some (some u)) → Known l (fun j => if j = i then true else D j) (fun j => if j = i then v else x j) := by
      intro v hl j u hj hDj
      by_cases e : j = i
      · subst e; exact absurd hj (hl u)
      · simp only [e, if_false] at hDj ⊢
        exact hK j u hj hDj
    have wanted : Region.wanted o (yielded ops a.tmps) = true ∨ l[i]? = some (some undef) ∧ Region.wanted o (yielded ops a.tmps) = false := by
      cases hg : o.guard with
      | none => left; unfold Region.wanted; rw [hg]
      | some gb =>
        obtain ⟨g, bl⟩ := gb
        obtain ⟨v, og, d, h1, h2, h3, ⟨e, he, heg, heb⟩, h5⟩ := hG i o g bl ho hg
        have hDg : D g = true := by rw [← heg]; exact hdep e he heb
        have hv := hF.val g og d h2 h3 hDg
        rw [hK g _ h1 hDg] at hv
        have hy : yielded ops a.tmps g = some v := by
          unfold yielded
          rw [h2, Option.bind_some, h3, Option.bind_some, hv]
        by_cases hvb : v = bl
        · left; unfold Region.wanted; rw [hg]; simp [hy, hvb]
        · right
          refine ⟨h5 hvb, ?_⟩
          unfold Region.wanted; rw [hg]; simp [hy, hvb]
    have guards : Region.wanted o (yielded ops a.tmps) = true → ∀ g bl, o.guard = some (g, bl) → l[g]? = some (some (.bool bl)) := by
      intro hw g bl hg
      obtain ⟨v, og, d, h1, h2, h3, ⟨e, he, heg, heb⟩, h5⟩ := hG i o g bl ho hg
      have hDg : D g = true := by rw [← heg]; exact hdep e he heb
      have hv := hF.val g og d h2 h3 hDg
      rw [hK g _ h1 hDg] at hv
      have hy : yielded ops a.tmps g = some v := by
        unfold yielded
        rw [h2, Option.bind_some, h3, Option.bind_some, hv]
      unfold Region.wanted at hw
      rw [hg] at hw
      simp only [hy] at hw
      have : v = bl := by simpa using hw
      rw [← this]; exact h1
    rcases wanted with hw | ⟨hu, hw⟩
    · rw [if_pos hw]
      by_cases hl : ∃ u, l[i]? = some (some u)
      · obtain ⟨u, hl⟩ := hl
        exact pure_ D x a w i o u ho hl hD hdep hcl hF hK hI (guards hw) K (hk _ _ ⟨_, hF.put hdst hsz ho u, known u hl, hins i u D x w hl hD hI⟩)
      · have hl' : ∀ u, l[i]? ≠ some (some u) := fun u h => hl ⟨u, h⟩
        exact hard D x a w i o ho hl' hD hdep hcl hF hK hI K fun v w' hI' => hk _ _ ⟨_, hF.put hdst hsz ho v, unknown v hl', hI'⟩
    · rw [if_neg (by rw [hw]; decide)]
      exact hk _ _ ⟨_, hF.put hdst hsz ho undef, known undef hu, hins i undef D x w hu hD hI⟩
  · intro D a w hD ⟨x, hF, hK, hI⟩
    rw [hF.all hD hdst hsz]
    exact hend D x w hD hK hI
/-- Looks over a region's operations, for the kernel: the edges that bind lead back. -/
def lookOrd' (ops : Array Oper) : Bool := (List.range ops.size).all fun i => match ops[i]? with | some o => o.after.toList.all fun e => !Region.binds .any e || decide (e.on < i) | none => true
theorem ord_of' (h : lookOrd' ops = true) : ∀ (i : Nat) (o : Oper), ops[i]? = some o → ∀ e ∈ o.after, Region.binds .any e = true → e.on < i := by
  intro i o ho e he hb
  have hi : i < ops.size := (Array.getElem?_eq_some_iff.1 ho).1
  have h1 := List.all_eq_true.1 h i (List.mem_range.2 hi)
  rw [ho] at h1
  have h2 := List.all_eq_true.1 h1 e (by simpa using he)
  rw [hb] at h2
  simpa using h2
end
end Go.Proofs.Ytamhigknobdloaa
