/- A region that draws its order, by what holds behind each set of operations: one obligation an operation, whatever the order; no condition. -/
import Derived.Test.YtamhigknobdloaaBase
namespace Go.Proofs.Ytamhigknobdloaa
open Go.RowKit
set_option linter.unusedVariables false

/-- How many of a list of marks are not set. -/
def unset : List Bool → Nat
  | [] => 0
  | b :: t => (if b then 0 else 1) + unset t
theorem unset_set (l : List Bool) : ∀ (i : Nat), i < l.length → l[i]? = some false → unset (l.set i true) + 1 = unset l := by
  induction l with
  | nil => intro i h; simp at h
  | cons b t ih =>
    intro i h hi
    cases i with
    | zero => simp at hi; subst hi; simp [unset]; omega
    | succ i =>
      have := ih i (by simpa using h) (by simpa using hi)
      simp only [List.set_cons_succ, unset]
      omega
theorem unset_zero (l : List Bool) (h : unset l = 0) : ∀ i, i < l.length → l[i]? = some true := by
  induction l with
  | nil => intro i hi; simp at hi
  | cons b t ih =>
    intro i hi
    simp only [unset] at h
    cases i with
    | zero => cases b with
      | true => rfl
      | false => simp at h
    | succ i => exact ih (by omega) i (by simpa using hi)
/-- The marks as a function. -/
def marks (listed : Array Bool) (i : Nat) : Bool := listed.getD i false

section
variable {P : Program} {ops : Array Oper} {Q : Exit → Act → World → Prop}
theorem mem_ready {listed : Array Bool} {i : Nat} (h : i ∈ Region.ready .any ops listed) (hsz : listed.size = ops.size) :
    ∃ o, ops[i]? = some o ∧ marks listed i = false ∧ i < ops.size ∧ ∀ e ∈ o.after, Region.binds .any e = true → marks listed e.on = true := by
  unfold Region.ready at h
  rw [List.mem_filter] at h
  obtain ⟨h1, h2⟩ := h
  have hi : i < ops.size := List.mem_range.1 h1
  have ho : ops[i]? = some ops[i] := Array.getElem?_eq_getElem hi
  rw [ho] at h2
  simp only [Bool.and_eq_true, Option.map_some, Option.getD_some] at h2
  obtain ⟨h3, h4⟩ := h2
  refine ⟨ops[i], ho, ?_, hi, ?_⟩
  · unfold marks
    have hl : i < listed.size := by omega
    simp only [Array.getD, hl, dif_pos] at h3 ⊢
    simpa using h3
  · intro e he hb
    have := Array.all_eq_true'.1 h4 e he
    simp only [hb, Bool.not_true, Bool.false_or] at this
    exact this
theorem ready_nil {listed : Array Bool} (h : Region.ready .any ops listed = []) (hsz : listed.size = ops.size) (hord : ∀ (i : Nat) (o : Oper), ops[i]? = some o → ∀ e ∈ o.after, e.on < i) : ∀ i, i < ops.size → marks listed i = true := by
  intro i
  induction i using Nat.strongRecOn with
  | _ i ih =>
    intro hi
    cases hm : marks listed i with
    | true => rfl
    | false =>
      exfalso
      have ho : ops[i]? = some ops[i] := Array.getElem?_eq_getElem hi
      have hmem : i ∈ Region.ready .any ops listed := by
        unfold Region.ready
        rw [List.mem_filter]
        refine ⟨List.mem_range.2 hi, ?_⟩
        rw [ho]
        simp only [Bool.and_eq_true, Option.map_some, Option.getD_some]
        refine ⟨?_, ?_⟩
        · unfold marks at hm
          have hl : i < listed.size := by omega
          simp only [Array.getD, hl, dif_pos] at hm ⊢
          simpa using hm
        · refine Array.all_eq_true'.2 fun e he => ?_
          have hlt := hord i ops[i] ho e he
          have hd := ih e.on hlt (by omega)
          unfold marks at hd
          rw [hd]; simp
      rw [h] at hmem
      cases hmem

/-- THE LAW: what holds behind each set of operations that is closed under their edges is kept by each operation. -/
theorem wp_region_inv {id : Nat} {a : Act} {w : World} (hm : P.follows .mixedOrders = true) (hord : ∀ (i : Nat) (o : Oper), ops[i]? = some o → ∀ e ∈ o.after, e.on < i)
    (Inv : (Nat → Bool) → Act → World → Prop) (h0 : Inv (fun _ => false) a w.drew)
    (step : ∀ (D : Nat → Bool) (a : Act) (w : World) (i : Nat) (o : Oper), ops[i]? = some o → D i = false → (∀ e ∈ o.after, Region.binds .any e = true → D e.on = true) →
      (∀ (j : Nat) (oj : Oper), ops[j]? = some oj → D j = true → ∀ e ∈ oj.after, Region.binds .any e = true → D e.on = true) → Inv D a w →
      ∀ K : Act → World → Prop, (∀ a' w', Inv (fun j => if j = i then true else D j) a' w' → K a' w') → if Region.wanted o (yielded ops a.tmps) = true then Oper.wp P o a w K Q else K (a.put o.dst undef) w)
    (hend : ∀ (D : Nat → Bool) (a : Act) (w : World), (∀ i, i < ops.size → D i = true) → Inv D a w → Q .normal a w) : (Code.region id ops true).wp P Q a w := by
  refine wp_region_any hm ?_
  have key : ∀ (fuel : Nat) (listed : Array Bool) (a : Act) (w : World), listed.size = ops.size → unset listed.toList ≤ fuel →
      (∀ (j : Nat) (oj : Oper), ops[j]? = some oj → marks listed j = true → ∀ e ∈ oj.after, Region.binds .any e = true → marks listed e.on = true) → Inv (marks listed) a w → wpAny P .any ops Q fuel listed a w := by
    intro fuel
    induction fuel with
    | zero =>
      intro listed a w hsz hu hcl hI
      have hall : ∀ i, i < ops.size → marks listed i = true := by
        intro i hi
        have := unset_zero listed.toList (by omega) i (by simpa [hsz] using hi)
        unfold marks
        rw [Array.getElem?_toList] at this
        simp [Array.getD_eq_getD_getElem?, this]
      refine ⟨?_, hend _ a w hall hI⟩
      rw [List.eq_nil_iff_forall_not_mem]
      intro i hi
      obtain ⟨o, _, hf, hlt, _⟩ := mem_ready hi hsz
      rw [hall i hlt] at hf
      cases hf
    | succ fuel ih =>
      intro listed a w hsz hu hcl hI
      refine ⟨fun hr => hend _ a w (ready_nil hr hsz hord) hI, fun i hi => ?_⟩
      obtain ⟨o, ho, hf, hlt, hdep⟩ := mem_ready hi hsz
      refine wpOp_step ho fun K' hK => ?_
      have hmk : marks (listed.setIfInBounds i true) = fun j => if j = i then true else marks listed j := by
        funext j
        unfold marks
        by_cases hj : j = i
        · subst hj
          have : j < listed.size := by omega
          simp [Array.getD_eq_getD_getElem?, this]
        · have : i ≠ j := fun e => hj e.symm
          simp [Array.getD_eq_getD_getElem?, this, hj]
      refine step _ a w i o ho hf hdep hcl hI K' fun a' w' hI' => hK a' w' (ih _ a' w' (by simpa using hsz) ?_ ?_ ?_)
      · have hl : i < listed.size := by omega
        have hg : listed.toList[i]? = some false := by
          rw [Array.getElem?_toList, Array.getElem?_eq_getElem hl]
          unfold marks at hf
          simp only [Array.getD, hl, dif_pos] at hf
          exact congrArg some hf
        have := unset_set listed.toList i (by simpa using hl) hg
        rw [Array.toList_setIfInBounds]
        omega
      · rw [hmk]
        intro j oj hj hDj e he hb
        by_cases hji : j = i
        · subst hji
          rw [hj] at ho
          injection ho with ho
          subst ho
          show (if e.on = j then true else marks listed e.on) = true
          rw [hdep e he hb]; simp
        · have hDj' : marks listed j = true := by
            have : (if j = i then true else marks listed j) = true := hDj
            rwa [if_neg hji] at this
          show (if e.on = i then true else marks listed e.on) = true
          rw [hcl j oj hj hDj' e he hb]; simp
      · rw [hmk]; exact hI'
  refine key ops.size (Array.replicate ops.size false) a w.drew (by simp) ?_ ?_ ?_
  · have : ∀ n, unset (List.replicate n false) = n := by
      intro n
      induction n with
      | zero => rfl
      | succ n ih => simp only [List.replicate_succ, unset, ih]; simp; omega
    rw [Array.toList_replicate, this]
    exact Nat.le_refl _
  · intro j oj hj hDj
    exfalso
    unfold marks at hDj
    rw [Array.getD_eq_getD_getElem?, Array.getElem?_replicate] at hDj
    split at hDj <;> simp at hDj
  · have : marks (Array.replicate ops.size false) = fun _ => false := by
      funext j
      unfold marks
      rw [Array.getD_eq_getD_getElem?, Array.getElem?_replicate]
      split <;> rfl
    rw [this]
    exact h0

/-- The frame while a region runs: the slots of the operations that have run hold their values, all others are as they were. -/
structure FrameV (ops : Array Oper) (a0 : Act) (D : Nat → Bool) (a : Act) (x : Nat → Value) : Prop where
  defers : a.defers = a0.defers
  size : a.tmps.size = a0.tmps.size
  val : ∀ (i : Nat) (o : Oper) (d : Nat), ops[i]? = some o → o.dst = some d → D i = true → a.tmps[d]? = some (x i)
  old : ∀ (s : Nat), (∀ (i : Nat) (o : Oper), ops[i]? = some o → o.dst = some s → D i = false) → a.tmps[s]? = a0.tmps[s]?
theorem FrameV.eval {a0 a : Act} {D : Nat → Bool} {x : Nat → Value} (h : FrameV ops a0 D a x) {i : Nat} {o : Oper} {d : Nat} (ho : ops[i]? = some o) (hd : o.dst = some d) (hD : D i = true) : a.eval (.tmp d) = x i := by
  simp [Act.eval, Array.getD_eq_getD_getElem?, h.val i o d ho hd hD]
theorem FrameV.same {a0 a : Act} {D : Nat → Bool} {x : Nat → Value} (h : FrameV ops a0 D a x) {s : Nat} (hs : ∀ (i : Nat) (o : Oper), ops[i]? = some o → o.dst = some s → D i = false) : a.eval (.tmp s) = a0.eval (.tmp s) := by
  simp [Act.eval, Array.getD_eq_getD_getElem?, h.old s hs]
/-- All the slots put, in the order of the text. -/
def putsAll (ops : Array Oper) (a0 : Act) (x : Nat → Value) (n : Nat) : Act := (List.range n).foldl (fun a i => a.put ((ops[i]?).bind (·.dst)) (x i)) a0
theorem putsAll_succ (a0 : Act) (x : Nat → Value) (n : Nat) : putsAll ops a0 x (n + 1) = (putsAll ops a0 x n).put ((ops[n]?).bind (·.dst)) (x n) := by
  unfold putsAll; rw [List.range_succ, List.foldl_append]; rfl
theorem put_get (a : Act) (d s : Nat) (v : Value) (hd : d < a.tmps.size) : (a.put (some d) v).tmps[s]? = if s = d then some v else a.tmps[s]? := by
  simp only [Act.put]
  rw [Array.getElem?_setIfInBounds]
  by_cases h : d = s
  · subst h; simp [hd]
  · have : s ≠ d := fun e => h e.symm
    simp [h, this]
theorem putsAll_frame (a0 : Act) (x : Nat → Value) (hdst : ∀ (i j : Nat) (oi oj : Oper) (d : Nat), ops[i]? = some oi → ops[j]? = some oj → oi.dst = some d → oj.dst = some d → i = j)
    (hsz : ∀ (i : Nat) (o : Oper) (d : Nat), ops[i]? = some o → o.dst = some d → d < a0.tmps.size) (n : Nat) : FrameV ops a0 (fun i => decide (i < n)) (putsAll ops a0 x n) x := by
  induction n with
  | zero => exact ⟨rfl, rfl, fun i o d _ _ h => by simp at h, fun s _ => rfl⟩
  | succ n ih =>
    rw [putsAll_succ]
    cases ho : ops[n]? with
    | none =>
      refine ⟨ih.defers, ih.size, fun i o d hi hd h => ?_, fun s hs => ih.old s fun i o hi hd => ?_⟩
      · have hne : i ≠ n := fun e => by rw [e, ho] at hi; cases hi
        exact ih.val i o d hi hd (by simp at h ⊢; omega)
      · have := hs i o hi hd
        simp at this ⊢
        omega
    | some on =>
      cases hd0 : on.dst with
      | none =>
        have e : (putsAll ops a0 x n).put ((some on).bind (·.dst)) (x n) = putsAll ops a0 x n := by simp [hd0, Act.put]
        rw [e]
        refine ⟨ih.defers, ih.size, fun i o d hi hd h => ?_, fun s hs => ih.old s fun i o hi hd => ?_⟩
        · have hne : i ≠ n := fun e => by
            rw [e, ho] at hi
            injection hi with hi
            rw [← hi, hd0] at hd; cases hd
          exact ih.val i o d hi hd (by simp at h ⊢; omega)
        · have := hs i o hi hd
          simp at this ⊢
          omega
      | some dn =>
        have hb := hsz n on dn ho hd0
        have hb' : dn < (putsAll ops a0 x n).tmps.size := by rw [ih.size]; exact hb
        have e : (putsAll ops a0 x n).put ((some on).bind (·.dst)) (x n) = (putsAll ops a0 x n).put (some dn) (x n) := by simp [hd0]
        rw [e]
        refine ⟨by rw [← ih.defers]; rfl, by rw [← ih.size]; simp [Act.put], fun i o d hi hd h => ?_, fun s hs => ?_⟩
        · rw [put_get _ _ _ _ hb']
          by_cases hdd : d = dn
          · subst hdd
            have := hdst i n o on d hi ho hd hd0
            rw [if_pos rfl, this]
          · rw [if_neg hdd]
            have hne : i ≠ n := fun e => by
              rw [e, ho] at hi
              injection hi with hi
              rw [← hi, hd0] at hd
              injection hd with hd
              exact hdd hd.symm
            exact ih.val i o d hi hd (by simp at h ⊢; omega)
        · rw [put_get _ _ _ _ hb']
          have hne : s ≠ dn := fun e => by
            have := hs n on ho (by rw [hd0, e])
            simp at this
          rw [if_neg hne]
          refine ih.old s fun i o hi hd => ?_
          have := hs i o hi hd
          simp at this ⊢
          omega
/-- Behind the whole region the frame is known. -/
theorem FrameV.all {a0 a : Act} {D : Nat → Bool} {x : Nat → Value} (h : FrameV ops a0 D a x) (hD : ∀ i, i < ops.size → D i = true)
    (hdst : ∀ (i j : Nat) (oi oj : Oper) (d : Nat), ops[i]? = some oi → ops[j]? = some oj → oi.dst = some d → oj.dst = some d → i = j)
    (hsz : ∀ (i : Nat) (o : Oper) (d : Nat), ops[i]? = some o → o.dst = some d → d < a0.tmps.size) : a = putsAll ops a0 x ops.size := by
  have hb := putsAll_frame a0 x hdst hsz ops.size
  have ht : a.tmps = (putsAll ops a0 x ops.size).tmps := by
    apply Array.ext_getElem?
    intro s
    by_cases hs : ∃ (i : Nat) (o : Oper), ops[i]? = some o ∧ o.dst = some s
    · obtain ⟨i, o, hi, hd⟩ := hs
      have hlt : i < ops.size := (Array.getElem?_eq_some_iff.1 hi).1
      rw [h.val i o s hi hd (hD i hlt), hb.val i o s hi hd (by simpa using hlt)]
    · have hn : ∀ (i : Nat) (o : Oper), ops[i]? = some o → o.dst ≠ some s := fun i o hi hd => hs ⟨i, o, hi, hd⟩
      rw [h.old s (fun i o hi hd => absurd hd (hn i o hi)), hb.old s (fun i o hi hd => absurd hd (hn i o hi))]
  have hdf : a.defers = (putsAll ops a0 x ops.size).defers := h.defers.trans hb.defers.symm
  cases a
  cases hp : putsAll ops a0 x ops.size
  rw [hp] at ht hdf
  simp only at ht hdf
  rw [ht, hdf]
theorem FrameV.put {a0 a : Act} {D : Nat → Bool} {x : Nat → Value} (h : FrameV ops a0 D a x)
    (hdst : ∀ (i j : Nat) (oi oj : Oper) (d : Nat), ops[i]? = some oi → ops[j]? = some oj → oi.dst = some d → oj.dst = some d → i = j)
    (hsz : ∀ (i : Nat) (o : Oper) (d : Nat), ops[i]? = some o → o.dst = some d → d < a0.tmps.size) {i : Nat} {o : Oper} (ho : ops[i]? = some o) (v : Value) :
    FrameV ops a0 (fun j => if j = i then true else D j) (a.put o.dst v) (fun j => if j = i then v else x j) := by
  cases hd0 : o.dst with
  | none =>
    refine ⟨h.defers, h.size, fun j oj d hj hd hD => ?_, fun s hs => h.old s fun j oj hj hd => ?_⟩
    · have hne : j ≠ i := fun e => by
        rw [e, ho] at hj
        injection hj with hj
        rw [← hj, hd0] at hd; cases hd
      simp only [hne, if_false] at hD ⊢
      exact h.val j oj d hj hd hD
    · have := hs j oj hj hd
      by_cases e : j = i
      · simp [e] at this
      · simpa [e] using this
  | some dn =>
    have hb : dn < a.tmps.size := by rw [h.size]; exact hsz i o dn ho hd0
    refine ⟨h.defers, by rw [← h.size]; simp [Act.put], fun j oj d hj hd hD => ?_, fun s hs => ?_⟩
    · rw [put_get _ _ _ _ hb]
      by_cases hji : j = i
      · subst hji
        rw [ho] at hj
        injection hj with hj
        rw [← hj, hd0] at hd
        injection hd with hd
        simp [hd]
      · have hdd : d ≠ dn := fun e => hji (hdst j i oj o d hj ho hd (by rw [hd0, e]))
        rw [if_neg hdd]
        simp only [hji, if_false] at hD ⊢
        exact h.val j oj d hj hd hD
    · rw [put_get _ _ _ _ hb]
      have hne : s ≠ dn := fun e => by
        have := hs i o ho (by rw [hd0, e])
        simp at this
      rw [if_neg hne]
      refine h.old s fun j oj hj hd => ?_
      have := hs j oj hj hd
      by_cases e : j = i
      · simp [e] at this
      · simpa [e] using this
/-- THE LAW WITH VALUES: for a region without guards. -/
theorem wp_region_vals {id : Nat} {a0 : Act} {w : World} (hm : P.follows .mixedOrders = true) (hord : ∀ (i : Nat) (o : Oper), ops[i]? = some o → ∀ e ∈ o.after, e.on < i)
    (hdst : ∀ (i j : Nat) (oi oj : Oper) (d : Nat), ops[i]? = some oi → ops[j]? = some oj → oi.dst = some d → oj.dst = some d → i = j)
    (hsz : ∀ (i : Nat) (o : Oper) (d : Nat), ops[i]? = some o → o.dst = some d → d < a0.tmps.size)
    (hgd : ∀ (i : Nat) (o : Oper), ops[i]? = some o → o.guard = none)
    (WInv : (Nat → Bool) → (Nat → Value) → World → Prop) (h0 : WInv (fun _ => false) (fun _ => undef) w.drew)
    (step : ∀ (D : Nat → Bool) (x : Nat → Value) (a : Act) (w : World) (i : Nat) (o : Oper), ops[i]? = some o → D i = false → (∀ e ∈ o.after, Region.binds .any e = true → D e.on = true) →
      (∀ (j : Nat) (oj : Oper), ops[j]? = some oj → D j = true → ∀ e ∈ oj.after, Region.binds .any e = true → D e.on = true) → FrameV ops a0 D a x → WInv D x w →
      ∀ K : Act → World → Prop, (∀ v w', WInv (fun j => if j = i then true else D j) (fun j => if j = i then v else x j) w' → K (a.put o.dst v) w') → Oper.wp P o a w K Q)
    (hend : ∀ (D : Nat → Bool) (x : Nat → Value) (w : World), (∀ i, i < ops.size → D i = true) → WInv D x w → Q .normal (putsAll ops a0 x ops.size) w) : (Code.region id ops true).wp P Q a0 w := by
  refine wp_region_inv hm hord (fun D a w => ∃ x, FrameV ops a0 D a x ∧ WInv D x w) ⟨_, ⟨rfl, rfl, (fun i o d _ _ h => by cases h), fun s _ => rfl⟩, h0⟩ ?_ ?_
  · intro D a w i o ho hf hdep hcl ⟨x, hF, hW⟩ K hK
    have hw : Region.wanted o (yielded ops a.tmps) = true := by simp [Region.wanted, hgd i o ho]
    rw [if_pos hw]
    exact step D x a w i o ho hf hdep hcl hF hW K fun v w' hW' => hK _ _ ⟨_, hF.put hdst hsz ho v, hW'⟩
  · intro D a w hD ⟨x, hF, hW⟩
    rw [hF.all hD hdst hsz]
    exact hend D x w hD hW

theorem ev_tmp {a : Act} {t : Nat} {v : Value} (h : a.eval (.tmp t) = v) : a.tmps[t]?.getD undef = v := by simpa [Act.eval, Array.getD_eq_getD_getElem?] using h
theorem gen_act {c : Code} {a : Act} {w : World} (h : ∀ a0 : Act, a0 = a → c.wp P Q a0 w) : c.wp P Q a w := h a rfl
/-- Looks over a region's operations, for the kernel. -/
def lookOrd (ops : Array Oper) : Bool := (List.range ops.size).all fun i => match ops[i]? with | some o => o.after.toList.all fun e => decide (e.on < i) | none => true
def lookDst (ops : Array Oper) : Bool := (List.range ops.size).all fun i => (List.range ops.size).all fun j => decide (i = j) || ((ops[i]?).bind (·.dst)).isNone || decide ((ops[i]?).bind (·.dst) ≠ (ops[j]?).bind (·.dst))
def lookGuard (ops : Array Oper) : Bool := ops.toList.all fun o => o.guard.isNone
def lookSize (ops : Array Oper) (n : Nat) : Bool := ops.toList.all fun o => match o.dst with | some d => decide (d < n) | none => true
theorem ord_of (h : lookOrd ops = true) : ∀ (i : Nat) (o : Oper), ops[i]? = some o → ∀ e ∈ o.after, e.on < i := by
  intro i o ho e he
  have hi : i < ops.size := (Array.getElem?_eq_some_iff.1 ho).1
  have h1 := List.all_eq_true.1 h i (List.mem_range.2 hi)
  rw [ho] at h1
  have h2 := List.all_eq_true.1 h1 e (by simpa using he)
  simpa using h2
theorem dst_of (h : lookDst ops = true) : ∀ (i j : Nat) (oi oj : Oper) (d : Nat), ops[i]? = some oi → ops[j]? = some oj → oi.dst = some d → oj.dst = some d → i = j := by
  intro i j oi oj d hi hj di dj
  have h1 := List.all_eq_true.1 (List.all_eq_true.1 h i (List.mem_range.2 (Array.getElem?_eq_some_iff.1 hi).1)) j (List.mem_range.2 (Array.getElem?_eq_some_iff.1 hj).1)
  rw [hi, hj] at h1
  simpa [di, dj] using h1
theorem dst_only (h : lookDst ops = true) {j k : Nat} {oj : Oper} {s : Nat} (hj : ops[j]? = some oj) (hd : oj.dst = some s) (hk : (ops[k]?).bind (·.dst) = some s) : j = k := by
  cases hok : ops[k]? with
  | none => rw [hok] at hk; cases hk
  | some ok => rw [hok] at hk; exact dst_of h j k oj ok s hj hok hd hk
def lookNone (ops : Array Oper) (s : Nat) : Bool := ops.toList.all fun o => decide (o.dst ≠ some s)
theorem dst_none {s : Nat} (h : lookNone ops s = true) {j : Nat} {oj : Oper} (hj : ops[j]? = some oj) : oj.dst ≠ some s := by
  have hm : oj ∈ ops.toList := by
    rw [← Array.getElem?_toList] at hj
    exact List.mem_of_getElem? hj
  have := List.all_eq_true.1 h oj hm
  simpa using this
theorem guard_of (h : lookGuard ops = true) : ∀ (i : Nat) (o : Oper), ops[i]? = some o → o.guard = none := by
  intro i o ho
  have hm : o ∈ ops.toList := by
    rw [← Array.getElem?_toList] at ho
    exact List.mem_of_getElem? ho
  have := List.all_eq_true.1 h o hm
  simpa using this
theorem size_of' {n : Nat} {a0 : Act} (h : lookSize ops n = true) (hn : a0.tmps.size = n) : ∀ (i : Nat) (o : Oper) (d : Nat), ops[i]? = some o → o.dst = some d → d < a0.tmps.size := by
  intro i o d ho hd
  have hm : o ∈ ops.toList := by
    rw [← Array.getElem?_toList] at ho
    exact List.mem_of_getElem? ho
  have := List.all_eq_true.1 h o hm
  rw [hd] at this
  rw [hn]
  simpa using this
end
end Go.Proofs.Ytamhigknobdloaa
