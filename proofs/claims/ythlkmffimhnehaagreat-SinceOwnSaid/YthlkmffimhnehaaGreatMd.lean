/- The run of a region, step by step; the variables that are made ahead; no condition. -/
import Derived.Test.YthlkmffimhnehaaGreatMc
import Derived.RegionTactic
namespace Go.Ev
open Go.RowKit
set_option linter.unusedVariables false

/-- How many of a list of marks are not set. -/
def unset : List Bool → Nat
  | [] => 0
  | b :: t => (if b then 0 else 1) + unset t
theorem unset_set (l : List Bool) : ∀ (i : Nat), i < l.length → l[i]? = some false → unset (l.set i true) + 1 = unset l := by
  induction l with
  | nil => intro i h; simp at h
  | cons b t ih =>
    intro i h hi
    cases i with
    | zero => simp at hi; subst hi; simp [unset]; omega
    | succ i =>
      have := ih i (by simpa using h) (by simpa using hi)
      simp only [List.set_cons_succ, unset]
      omega
theorem unset_zero (l : List Bool) (h : unset l = 0) : ∀ i, i < l.length → l[i]? = some true := by
  induction l with
  | nil => intro i hi; simp at hi
  | cons b t ih =>
    intro i hi
    simp only [unset] at h
    cases i with
    | zero => cases b with
      | true => rfl
      | false => simp at h
    | succ i => exact ih (by omega) i (by simpa using hi)
/-- The marks as a function. -/
def marks (listed : Array Bool) (i : Nat) : Bool := listed.getD i false

section
variable {P : Program} {ops : Array Oper} {Q : Exit → Act → World → Prop}
theorem mem_ready {listed : Array Bool} {i : Nat} (h : i ∈ Region.ready .any ops listed) (hsz : listed.size = ops.size) :
    ∃ o, ops[i]? = some o ∧ marks listed i = false ∧ i < ops.size ∧ ∀ e ∈ o.after, Region.binds .any e = true → marks listed e.on = true := by
  unfold Region.ready at h
  rw [List.mem_filter] at h
  obtain ⟨h1, h2⟩ := h
  have hi : i < ops.size := List.mem_range.1 h1
  have ho : ops[i]? = some ops[i] := Array.getElem?_eq_getElem hi
  rw [ho] at h2
  simp only [Bool.and_eq_true, Option.map_some, Option.getD_some] at h2
  obtain ⟨h3, h4⟩ := h2
  refine ⟨ops[i], ho, ?_, hi, ?_⟩
  · unfold marks
    have hl : i < listed.size := by omega
    simp only [Array.getD, hl, dif_pos] at h3 ⊢
    simpa using h3
  · intro e he hb
    have := Array.all_eq_true'.1 h4 e he
    simp only [hb, Bool.not_true, Bool.false_or] at this
    exact this
theorem ready_nil' {listed : Array Bool} (h : Region.ready .any ops listed = []) (hsz : listed.size = ops.size) (hord : ∀ (i : Nat) (o : Oper), ops[i]? = some o → ∀ e ∈ o.after, Region.binds .any e = true → e.on < i) : ∀ i, i < ops.size → marks listed i = true := by
  intro i
  induction i using Nat.strongRecOn with
  | _ i ih =>
    intro hi
    cases hm : marks listed i with
    | true => rfl
    | false =>
      exfalso
      have ho : ops[i]? = some ops[i] := Array.getElem?_eq_getElem hi
      have hmem : i ∈ Region.ready .any ops listed := by
        unfold Region.ready
        rw [List.mem_filter]
        refine ⟨List.mem_range.2 hi, ?_⟩
        rw [ho]
        simp only [Bool.and_eq_true, Option.map_some, Option.getD_some]
        refine ⟨?_, ?_⟩
        · unfold marks at hm
          have hl : i < listed.size := by omega
          simp only [Array.getD, hl, dif_pos] at hm ⊢
          simpa using hm
        · refine Array.all_eq_true'.2 fun e he => ?_
          cases hb : Region.binds .any e with
          | false => simp
          | true =>
            have hlt := hord i ops[i] ho e he hb
            have hd := ih e.on hlt (by omega)
            unfold marks at hd
            rw [hd]; simp
      rw [h] at hmem
      cases hmem

/-- THE LAW: what holds behind each set of operations that is closed under their edges is kept by each operation. -/
theorem wp_region_inv' {id : Nat} {a : Act} {w : World} (hm : P.follows .mixedOrders = true) (hord : ∀ (i : Nat) (o : Oper), ops[i]? = some o → ∀ e ∈ o.after, Region.binds .any e = true → e.on < i)
    (Inv : (Nat → Bool) → Act → World → Prop) (h0 : Inv (fun _ => false) a w.drew)
    (step : ∀ (D : Nat → Bool) (a : Act) (w : World) (i : Nat) (o : Oper), ops[i]? = some o → D i = false → (∀ e ∈ o.after, Region.binds .any e = true → D e.on = true) →
      (∀ (j : Nat) (oj : Oper), ops[j]? = some oj → D j = true → ∀ e ∈ oj.after, Region.binds .any e = true → D e.on = true) → Inv D a w →
      ∀ K : Act → World → Prop, (∀ a' w', Inv (fun j => if j = i then true else D j) a' w' → K a' w') → if Region.wanted o (yielded ops a.tmps) = true then Oper.wp P o a w K Q else K (a.put o.dst undef) w)
    (hend : ∀ (D : Nat → Bool) (a : Act) (w : World), (∀ i, i < ops.size → D i = true) → Inv D a w → Q .normal a w) : (Code.region id ops true).wp P Q a w := by
  refine wp_region_any hm ?_
  have key : ∀ (fuel : Nat) (listed : Array Bool) (a : Act) (w : World), listed.size = ops.size → unset listed.toList ≤ fuel →
      (∀ (j : Nat) (oj : Oper), ops[j]? = some oj → marks listed j = true → ∀ e ∈ oj.after, Region.binds .any e = true → marks listed e.on = true) → Inv (marks listed) a w → wpAny P .any ops Q fuel listed a w := by
    intro fuel
    induction fuel with
    | zero =>
      intro listed a w hsz hu hcl hI
      have hall : ∀ i, i < ops.size → marks listed i = true := by
        intro i hi
        have := unset_zero listed.toList (by omega) i (by simpa [hsz] using hi)
        unfold marks
        rw [Array.getElem?_toList] at this
        simp [Array.getD_eq_getD_getElem?, this]
      refine ⟨?_, hend _ a w hall hI⟩
      rw [List.eq_nil_iff_forall_not_mem]
      intro i hi
      obtain ⟨o, _, hf, hlt, _⟩ := mem_ready hi hsz
      rw [hall i hlt] at hf
      cases hf
    | succ fuel ih =>
      intro listed a w hsz hu hcl hI
      refine ⟨fun hr => hend _ a w (ready_nil' hr hsz hord) hI, fun i hi => ?_⟩
      obtain ⟨o, ho, hf, hlt, hdep⟩ := mem_ready hi hsz
      refine wpOp_step ho fun K' hK => ?_
      have hmk : marks (listed.setIfInBounds i true) = fun j => if j = i then true else marks listed j := by
        funext j
        unfold marks
        by_cases hj : j = i
        · subst hj
          have : j < listed.size := by omega
          simp [Array.getD_eq_getD_getElem?, this]
        · have : i ≠ j := fun e => hj e.symm
          simp [Array.getD_eq_getD_getElem?, this, hj]
      refine step _ a w i o ho hf hdep hcl hI K' fun a' w' hI' => hK a' w' (ih _ a' w' (by simpa using hsz) ?_ ?_ ?_)
      · have hl : i < listed.size := by omega
        have hg : listed.toList[i]? = some false := by
          rw [Array.getElem?_toList, Array.getElem?_eq_getElem hl]
          unfold marks at hf
          simp only [Array.getD, hl, dif_pos] at hf
          exact congrArg some hf
        have := unset_set listed.toList i (by simpa using hl) hg
        rw [Array.toList_setIfInBounds]
        omega
      · rw [hmk]
        intro j oj hj hDj e he hb
        by_cases hji : j = i
        · subst hji
          rw [hj] at ho
          injection ho with ho
          subst ho
          show (if e.on = j then true else marks listed e.on) = true
          rw [hdep e he hb]; simp
        · have hDj' : marks listed j = true := by
            have : (if j = i then true else marks listed j) = true := hDj
            rwa [if_neg hji] at this
          show (if e.on = i then true else marks listed e.on) = true
          rw [hcl j oj hj hDj' e he hb]; simp
      · rw [hmk]; exact hI'
  refine key ops.size (Array.replicate ops.size false) a w.drew (by simp) ?_ ?_ ?_
  · have : ∀ n, unset (List.replicate n false) = n := by
      intro n
      induction n with
      | zero => rfl
      | succ n ih => simp only [List.replicate_succ, unset, ih]; simp; omega
    rw [Array.toList_replicate, this]
    exact Nat.le_refl _
  · intro j oj hj hDj
    exfalso
    unfold marks at hDj
    rw [Array.getD_eq_getD_getElem?, Array.getElem?_replicate] at hDj
    split at hDj <;> simp at hDj
  · have : marks (Array.replicate ops.size false) = fun _ => false := by
      funext j
      unfold marks
      rw [Array.getD_eq_getD_getElem?, Array.getElem?_replicate]
      split <;> rfl
    rw [this]
    exact h0
end
end Go.Ev
namespace Go.Ev
open Go.RowKit
set_option linter.unusedVariables false

section
variable {P : Program} {T : Nat → Option TI} {base : Nat} {g : G} {st : St} {w : World} {tm : Tr AV}
theorem evX_t (tm : Tr AV) (n : Nat) : evX tm (.t n) = (tm.get n).getD und := by
  show (Option.rec (motive := fun _ => AV) und (fun v => v) (tm.get n)) = _
  cases tm.get n <;> rfl
theorem evX_c (tm : Tr AV) (v : AV) : evX tm (.c v) = v := rfl
/-- The slots. -/
structure Slots (w : World) (g : G) (n : Nat) (tm : Tr AV) (a : Act) : Prop where
  defers : a.defers = []
  size : n ≤ a.tmps.size
  rep : ∀ t, Rep w g (evX tm (.t t)) (a.eval (.tmp t))
theorem Slots.ext {n : Nat} {a : Act} {g' : G} {st' : St} {w' : World} (h : Slots w g n tm a) (hE : Ext base g st w g' st' w') : Slots w' g' n tm a := ⟨h.defers, h.size, fun t => (h.rep t).ext hE⟩
theorem eval_put (a : Act) (d t : Nat) (v : Value) (hd : d < a.tmps.size) : (a.put (some d) v).eval (.tmp t) = if t = d then v else a.eval (.tmp t) := by
  simp only [Act.eval, Act.put, Array.getD_eq_getD_getElem?]
  rw [Array.getElem?_setIfInBounds]
  by_cases h : t = d
  · subst h; simp [hd]
  · rw [if_neg (fun e => h e.symm), if_neg h]
theorem Slots.put {n : Nat} {a : Act} (h : Slots w g n tm a) {d : Option Nat} (hd : ∀ x, d = some x → x < n) {r : AV} {v : Value} (hr : Rep w g r v) : Slots w g n (setD tm d r) (a.put d v) := by
  cases d with
  | none => exact h
  | some d =>
    have hlt : d < a.tmps.size := Nat.lt_of_lt_of_le (hd d rfl) h.size
    refine ⟨h.defers, by simpa [Act.put] using h.size, fun t => ?_⟩
    rw [eval_put a d t v hlt, evX_t]
    show Rep w g (((tm.set d r).get t).getD und) _
    rw [Tr.get_set]
    by_cases e : t = d
    · rw [if_pos e, if_pos e]; exact hr
    · rw [if_neg e, if_neg e, ← evX_t]; exact h.rep t
theorem atomC_rep {v : Value} {a : AV} (h : atomC v = some a) (w : World) (g : G) : Rep w g a v ∧ v.oneCell' = true := by
  unfold atomC at h
  split at h <;> (try cases h)
  · exact ⟨.bool _, rfl⟩
  · exact ⟨.int _ _, rfl⟩
  · rename_i s
    refine ⟨?_, rfl⟩
    have : s = ⟨s.data.toList.toArray⟩ := by cases s; rfl
    rw [this]
    exact .str _
  · exact ⟨.nilp, rfl⟩
  · exact ⟨.nils, rfl⟩
  · exact ⟨.nilm, rfl⟩
  · exact ⟨.nilf, rfl⟩
theorem atomsC_rep {l : List Value} {as : List AV} (h : atomsC l = some as) (w : World) (g : G) : RL w g as l ∧ One l := by
  induction l generalizing as with
  | nil => simp [atomsC] at h; subst h; exact ⟨.nil, One.nil⟩
  | cons v l ih =>
    unfold atomsC at h
    split at h <;> try cases h
    rename_i a as h1 h2
    obtain ⟨h3, h4⟩ := atomC_rep h1 w g
    obtain ⟨h5, h6⟩ := ih h2
    exact ⟨.cons _ _ _ _ h3 h5, fun u hu => by
      rcases List.mem_cons.1 hu with e | e
      · rw [e]; exact h4
      · exact h6 u e⟩
theorem absC_rep {v : Value} {a : AV} (h : absC v = some a) (w : World) (g : G) : Rep w g a v := by
  unfold absC at h
  split at h
  · rename_i cs
    split at h <;> try cases h
    rename_i l hl
    obtain ⟨h1, h2⟩ := atomsC_rep hl w g
    have := Rep.agg (w := w) (g := g) l cs.toList h1 h2
    simpa using this
  · exact (atomC_rep h w g).1
theorem Slots.opnd {n : Nat} {a : Act} (h : Slots w g n tm a) (x : Operand) : Opnd w g tm a.eval x := by
  intro z hz
  cases x with
  | tmp t => simp only [compO] at hz; injection hz with hz; subst hz; exact h.rep t
  | const v =>
    simp only [compO] at hz
    split at hz <;> try cases hz
    rename_i a' ha
    exact absC_rep ha w g
  | global g' => cases hz
  | func f => simp only [compO] at hz; injection hz with hz; subst hz; exact .fn f [] [] [] [] .nil .nil
theorem yielded_bool {ops : Array Oper} {tmps : Array Value} {j d : Nat} (hj : (ops[j]?).bind (·.dst) = some d) {b : Bool} (h : tmps.getD d undef = .bool b) : yielded ops tmps j = some b := by
  unfold yielded
  rw [hj]
  rw [Array.getD_eq_getD_getElem?] at h
  cases hq : tmps[d]? with
  | none => rw [hq] at h; cases h
  | some v =>
    rw [hq] at h
    have h : v = .bool b := h
    subst h
    simp [hq]
theorem yielded_und {ops : Array Oper} {tmps : Array Value} {j d : Nat} (hj : (ops[j]?).bind (·.dst) = some d) (h : tmps.getD d undef = undef) : yielded ops tmps j = none := by
  unfold yielded
  rw [hj]
  rw [Array.getD_eq_getD_getElem?] at h
  cases hq : tmps[d]? with
  | none => simp [hq]
  | some v =>
    rw [hq] at h
    have h : v = undef := h
    subst h
    simp [hq, undef]
/-- What is known of a guard. -/
theorem want_sound {ops : Array Oper} {o : Oper} {tmps : Array Value} {gd : Option (Nat × Bool)} (hg : (o.guard = none ∧ gd = none) ∨ ∃ j b d, o.guard = some (j, b) ∧ (ops[j]?).bind (·.dst) = some d ∧ gd = some (d, b)) {q : Bool}
    (hw : wants tm gd = some q) (hrep : ∀ d b, gd = some (d, b) → Rep w g (evX tm (.t d)) (tmps.getD d undef)) : Region.wanted o (yielded ops tmps) = q := by
  rcases hg with ⟨h1, rfl⟩ | ⟨j, b, d, h1, h2, rfl⟩
  · have hw : some true = some q := hw
    injection hw with hw
    simp [Region.wanted, h1, hw]
  · have hw : wantV b (tm.get d) = some q := hw
    have hr := hrep d b rfl
    rw [evX_t] at hr
    unfold wantV at hw
    split at hw <;> try cases hw
    · rename_i b' hb'
      rw [hb'] at hr
      have hv := rep_bool (v := tmps.getD d undef) hr
      simp [Region.wanted, h1, yielded_bool h2 hv]
    · rename_i hb'
      rw [hb'] at hr
      have hr : Rep w g und (tmps.getD d undef) := hr
      obtain ⟨vs, h3, h4⟩ := rep_tup hr
      cases h3
      have hv : tmps.getD d undef = undef := h4
      simp [Region.wanted, h1, yielded_und h2 hv]
theorem compR_cons {kd : Bool} {n : Nat} {all : List Oper} {o : Oper} {l : List Oper} {xs : List XR} (h : compR T kd n all (o :: l) = some xs) :
    ∃ x rest, xs = x :: rest ∧ compR T kd n all l = some rest ∧ compOp T kd o.op = some x.op ∧ x.dst = o.dst ∧ (∀ d, x.dst = some d → d < n) ∧
      ((o.guard = none ∧ x.guard = none) ∨ ∃ j b d, o.guard = some (j, b) ∧ (all[j]?).bind (·.dst) = some d ∧ x.guard = some (d, b)) := by
  unfold compR at h
  obtain ⟨dst, h1, h⟩ := opt_eq h
  obtain ⟨gd, h2, h⟩ := opt_eq h
  obtain ⟨xo, h3, h⟩ := opt_eq h
  obtain ⟨rest, h4, h⟩ := opt_eq h
  injection h with h
  refine ⟨_, rest, h.symm, h4, h3, ?_, ?_, ?_⟩
  · show dst = o.dst
    cases hod : o.dst with
    | none => rw [hod] at h1; injection h1 with h1; exact h1.symm
    | some d =>
      rw [hod] at h1
      simp only at h1
      split at h1 <;> try cases h1
      rfl
  · intro d hd
    have hd : dst = some d := hd
    cases hod : o.dst with
    | none => rw [hod] at h1; injection h1 with h1; rw [hd] at h1; cases h1
    | some d' =>
      rw [hod] at h1
      simp only at h1
      cases hlt : Nat.blt d' n with
      | false => rw [hlt] at h1; cases h1
      | true =>
        rw [hlt] at h1
        injection h1 with h1
        rw [hd] at h1
        injection h1 with h1
        subst h1
        exact Nat.lt_of_succ_le (Nat.le_of_ble_eq_true hlt)
  · show _ ∨ ∃ j b d, _ ∧ _ ∧ gd = some (d, b)
    cases hog : o.guard with
    | none => rw [hog] at h2; injection h2 with h2; exact .inl ⟨rfl, h2.symm⟩
    | some jb =>
      obtain ⟨j, b⟩ := jb
      rw [hog] at h2
      simp only at h2
      cases hj : all[j]? with
      | none => rw [hj] at h2; cases h2
      | some q =>
        rw [hj] at h2
        simp only at h2
        cases hd : q.dst with
        | none => rw [hd] at h2; cases h2
        | some d =>
          rw [hd] at h2
          injection h2 with h2
          exact .inr ⟨j, b, d, rfl, by rw [hj]; exact hd, h2.symm⟩
/-- A region in the order of its text. -/
theorem runX_wp (hT : TabOk P T) {call : Nat → List AV → St → Option (AV × St)} (hcall : CallOk P base call) {kd : Bool} {n : Nat} {ops : Array Oper} {Q : Exit → Act → World → Prop} : ∀ (l : List Oper) (xs : List XR) (tm : Tr AV) (st : St) (tm' : Tr AV) (st' : St),
    compR T kd n ops.toList l = some xs → runX call xs tm st = some (tm', st') → ∀ (a : Act) (w : World) (g : G), Slots w g n tm a → Inv base g st w →
    (∀ a' w' g', Slots w' g' n tm' a' → Inv base g' st' w' → Ext base g st w g' st' w' → Q .normal a' w') → wpList P ops Q l a w := by
  intro l
  induction l with
  | nil =>
    intro xs tm st tm' st' hc hr a w g hS hI hQ
    simp [compR] at hc; subst hc
    have hr : some (tm, st) = some (tm', st') := hr
    injection hr with hr
    injection hr with h1 h2
    subst h1 h2
    exact hQ a w g hS hI (.refl ..)
  | cons o l ih =>
    intro xs tm st tm' st' hc hr a w g hS hI hQ
    obtain ⟨x, rest, rfl, hrest, hop, hdst, hlt, hgd⟩ := compR_cons hc
    have hr : stepX call (runX call rest) x tm st (wants tm x.guard) = some (tm', st') := hr
    have hgd' : (o.guard = none ∧ x.guard = none) ∨ ∃ j b d, o.guard = some (j, b) ∧ (ops[j]?).bind (·.dst) = some d ∧ x.guard = some (d, b) := by
      simpa using hgd
    cases hq : wants tm x.guard with
    | none => rw [hq] at hr; cases hr
    | some q =>
      rw [hq] at hr
      have hwant := want_sound hgd' hq (fun d b _ => hS.rep d)
      unfold wpList
      cases q with
      | false =>
        rw [hwant]
        simp only [Bool.false_eq_true, if_false]
        have hr : runX call rest (setD tm x.dst und) st = some (tm', st') := hr
        refine ih rest _ st tm' st' hrest hr _ w g ?_ hI hQ
        rw [← hdst]
        exact hS.put hlt rep_und
      | true =>
        rw [hwant]
        simp only [if_true]
        have hr : nextX (runX call rest) tm x.dst (doX call st tm x.op) = some (tm', st') := hr
        cases hd : doX call st tm x.op with
        | none => rw [hd] at hr; cases hr
        | some p =>
          obtain ⟨r, st1⟩ := p
          rw [hd] at hr
          have hr : runX call rest (setD tm x.dst r) st1 = some (tm', st') := hr
          refine .inl (op_sound hT hcall hop hI (fun y _ => hS.opnd y) hd fun v w' g' h1 h2 h3 => ?_)
          refine ih rest _ st1 tm' st' hrest hr _ w' g' ?_ h2 (fun a'' w'' g'' h4 h5 h6 => hQ a'' w'' g'' h4 h5 (h3.trans h6))
          rw [← hdst]
          exact (hS.ext h3).put hlt h1
end
end Go.Ev
namespace Go.Ev
set_option linter.unusedVariables false

def Keep (e : Ent) (o : Option Ent) : Prop := match e with
  | .box v cs => (∃ v' cs', o = some (.box v' cs') ∧ v ≤ v' ∧ (v = v' → cs' = cs)) ∨ o = some .gone
  | .map v kv => (∃ v' kv', o = some (.map v' kv') ∧ v ≤ v' ∧ (v = v' → kv' = kv)) ∨ o = some .gone
  | .tip => o = some .tip ∨ o = some .gone
  | .gone => o = some .gone
theorem Keep.refl (e : Ent) : Keep e (some e) := by
  cases e with
  | box v cs => exact .inl ⟨v, cs, rfl, Nat.le_refl _, fun _ => rfl⟩
  | map v kv => exact .inl ⟨v, kv, rfl, Nat.le_refl _, fun _ => rfl⟩
  | tip => exact .inl rfl
  | gone => exact rfl
theorem Keep.trans {e : Ent} {a b : Option Ent} (h : Keep e a) (k : ∀ x, a = some x → Keep x b) : Keep e b := by
  cases e with
  | box v cs =>
    rcases h with ⟨v', cs', rfl, h1, h2⟩ | rfl
    · rcases k _ rfl with ⟨v'', cs'', rfl, h3, h4⟩ | h3
      · exact .inl ⟨v'', cs'', rfl, Nat.le_trans h1 h3, fun e => by
          have e1 : v = v' := by omega
          have e2 : v' = v'' := by omega
          rw [h4 e2, h2 e1]⟩
      · exact .inr h3
    · exact .inr (k _ rfl)
  | map v cs =>
    rcases h with ⟨v', cs', rfl, h1, h2⟩ | rfl
    · rcases k _ rfl with ⟨v'', cs'', rfl, h3, h4⟩ | h3
      · exact .inl ⟨v'', cs'', rfl, Nat.le_trans h1 h3, fun e => by
          have e1 : v = v' := by omega
          have e2 : v' = v'' := by omega
          rw [h4 e2, h2 e1]⟩
      · exact .inr h3
    · exact .inr (k _ rfl)
  | tip =>
    rcases h with rfl | rfl
    · exact k _ rfl
    · exact .inr (k _ rfl)
  | gone => have h : a = some .gone := h; subst h; exact k _ rfl
def WF (st : St) : Prop := ∀ k e, st.heap.get k = some e → k < st.next
structure VL (st st' : St) : Prop where
  wf : WF st'
  next : st.next ≤ st'.next
  keep : ∀ k e, st.heap.get k = some e → Keep e (st'.heap.get k)
theorem VL.refl {st : St} (h : WF st) : VL st st := ⟨h, Nat.le_refl _, fun k e hk => by rw [hk]; exact Keep.refl e⟩
theorem VL.trans {a b c : St} (h : VL a b) (k : VL b c) : VL a c := ⟨k.wf, Nat.le_trans h.next k.next, fun j e hj => (h.keep j e hj).trans fun x hx => k.keep j x hx⟩
theorem VL.new {st : St} (h : WF st) (e : Ent) : VL st (st.new e) := by
  refine ⟨fun k x hk => ?_, Nat.le_succ _, fun k x hk => ?_⟩
  · rw [get_new] at hk
    show k < st.next + 1
    by_cases hn : k = st.next
    · omega
    · rw [if_neg hn] at hk; have := h k x hk; omega
  · have := h k x hk
    rw [get_new, if_neg (by omega), hk]; exact Keep.refl x
theorem VL.put {st : St} (h : WF st) {k : Nat} {e0 e : Ent} (h0 : st.heap.get k = some e0) (hk : Keep e0 (some e)) : VL st (st.put k e) := by
  refine ⟨fun j x hj => ?_, Nat.le_refl _, fun j x hj => ?_⟩
  · rw [get_put] at hj
    by_cases hn : j = k
    · rw [hn]; exact h k e0 h0
    · rw [if_neg hn] at hj; exact h j x hj
  · rw [get_put]
    by_cases hn : j = k
    · rw [if_pos hn]; rw [hn, h0] at hj; injection hj with hj; subst hj; exact hk
    · rw [if_neg hn, hj]; exact Keep.refl x
def CallV (call : Nat → List AV → St → Option (AV × St)) : Prop := ∀ f args st r st', call f args st = some (r, st') → WF st → VL st st'
theorem addOp_v {size bytes : Nat} {st st' : St} {s r : AV} {xs : List AV} (h : addOp size bytes st s xs = some (r, st')) (hw : WF st) : VL st st' := by
  unfold addOp at h
  split at h
  · split at h <;> cases h <;> exact .refl hw
  · split at h
    · split at h <;> cases h
      exact .new hw _
    · split at h
      · split at h
        · cases h; exact .new hw _
        · split at h <;> cases h
          rename_i hid
          have h1 := VL.put (e := .gone) hw hid (.inr rfl)
          exact h1.trans (.new h1.wf _)
        · cases h
      · cases h
    · cases h
theorem addK_v {size bytes : Nat} {st st' : St} {s r : AV} {xs : List AV} (h : addK size bytes st s xs = some (r, st')) (hw : WF st) : VL st st' := by
  unfold addK at h
  split at h
  · split at h
    · cases h; exact .refl hw
    · split at h <;> cases h
      exact .new hw _
  · split at h
    · rename_i cs hcs
      obtain ⟨v, hv⟩ := cellsAt_ok hcs
      split at h <;> cases h
      have h1 := VL.put (e := .gone) hw hv (.inr rfl)
      exact h1.trans (.new h1.wf _)
    · cases h
  · cases h
theorem doE_v {call : Nat → List AV → St → Option (AV × St)} (hc : CallV call) {st st' : St} {tm : Tr AV} {o : XE} {r : AV} (h : doE call st tm o = some (r, st')) (hw : WF st) : VL st st' := by
  cases o with
  | alloc cs =>
    have h : some (AV.ptr st.next 0, st.new (.box 0 cs)) = some (r, st') := h
    cases h; exact .new hw _
  | box size x =>
    have h : aBox st tm size x = some (r, st') := h
    unfold aBox at h
    split at h <;> cases h
    exact .new hw _
  | store size a x =>
    have h : xStore st size (evX tm a) (evX tm x) = some (r, st') := h
    unfold xStore at h
    split at h <;> try cases h
    split at h <;> try cases h
    rename_i ver cs hcs
    split at h <;> cases h
    exact .put hw hcs (.inl ⟨_, _, rfl, Nat.le_succ _, fun e => absurd e (by omega)⟩)
  | mksl size bytes z l c =>
    have h : xMksl st bytes z (natOf (evX tm l)) (natOf (evX tm c)) = some (r, st') := h
    unfold xMksl at h
    split at h <;> try cases h
    split at h <;> cases h
    exact .new hw _
  | mkmap =>
    have h : some (AV.mp st.next, st.new (.map 0 [])) = some (r, st') := h
    cases h; exact .new hw _
  | put k m q v =>
    have h : xPut st k (evX tm m) (evX tm q) (evX tm v) = some (r, st') := h
    unfold xPut at h
    split at h <;> try cases h
    split at h <;> try cases h
    rename_i ver kv hkv
    split at h <;> cases h
    exact .put hw hkv (.inl ⟨_, _, rfl, Nat.le_succ _, fun e => absurd e (by omega)⟩)
  | app size bytes s x =>
    have h : xApp size bytes st (evX tm s) (evX tm x) = some (r, st') := h
    unfold xApp at h
    split at h <;> try cases h
    exact addOp_v h hw
  | app1 size bytes s x q u =>
    have h : aApp1 st tm size bytes s x q u = some (r, st') := h
    unfold aApp1 at h
    split at h <;> try cases h
    exact addOp_v h hw
  | appk size bytes s x =>
    have h : xAppk size bytes st (evX tm s) (evX tm x) = some (r, st') := h
    unfold xAppk at h
    split at h <;> try cases h
    exact addK_v h hw
  | call f args =>
    have h : xCall call st (evX tm f) (evXs tm args) = some (r, st') := h
    unfold xCall at h
    split at h <;> try cases h
    exact hc _ _ _ _ _ h hw
theorem doX_v {call : Nat → List AV → St → Option (AV × St)} (hc : CallV call) {st st' : St} {tm : Tr AV} {o : XOp} {r : AV} (h : doX call st tm o = some (r, st')) (hw : WF st) : VL st st' := by
  cases o with
  | p o => obtain ⟨_, rfl⟩ := okP_eq (show okP st (doP tm o) = some (r, st') from h); exact .refl hw
  | l o => obtain ⟨_, rfl⟩ := okP_eq (show okP st (doL st.heap tm o) = some (r, st') from h); exact .refl hw
  | e o => exact doE_v hc h hw
theorem runX_v {call : Nat → List AV → St → Option (AV × St)} (hc : CallV call) : ∀ (xs : List XR) (tm : Tr AV) (st : St) (tm' : Tr AV) (st' : St), runX call xs tm st = some (tm', st') → WF st → VL st st' := by
  intro xs
  induction xs with
  | nil =>
    intro tm st tm' st' h hw
    have h : some (tm, st) = some (tm', st') := h
    cases h; exact .refl hw
  | cons x xs ih =>
    intro tm st tm' st' h hw
    have h : stepX call (runX call xs) x tm st (wants tm x.guard) = some (tm', st') := h
    cases hq : wants tm x.guard with
    | none => rw [hq] at h; cases h
    | some q =>
      rw [hq] at h
      cases q with
      | false => exact ih _ st tm' st' h hw
      | true =>
        have h : nextX (runX call xs) tm x.dst (doX call st tm x.op) = some (tm', st') := h
        cases hd : doX call st tm x.op with
        | none => rw [hd] at h; cases h
        | some p =>
          obtain ⟨r, st1⟩ := p
          rw [hd] at h
          have h1 := doX_v hc hd hw
          exact h1.trans (ih _ st1 tm' st' h h1.wf)
/-- The run with its trace is the run. -/
theorem traceX_run {call : Nat → List AV → St → Option (AV × St)} : ∀ (xs : List XR) (tm : Tr AV) (st : St) (tm' : Tr AV) (st' : St) (l : List (Option Nat × Tr Ent)), traceX call xs tm st = some (tm', st', l) → runX call xs tm st = some (tm', st') := by
  intro xs
  induction xs with
  | nil =>
    intro tm st tm' st' l h
    have h : some (tm, st, [(none, st.heap)]) = some (tm', st', l) := h
    cases h; rfl
  | cons x xs ih =>
    intro tm st tm' st' l h
    show stepX call (runX call xs) x tm st (wants tm x.guard) = some (tm', st')
    have h : (match wants tm x.guard with
      | some true => match doX call st tm x.op with
        | some (v, st') => match traceX call xs (setD tm x.dst v) st' with
          | some (tm', st'', l) => some (tm', st'', (keyRead tm x, st.heap) :: l)
          | none => none
        | none => none
      | some false => match traceX call xs (setD tm x.dst und) st with
        | some (tm', st'', l) => some (tm', st'', (none, st.heap) :: l)
        | none => none
      | none => none) = some (tm', st', l) := h
    split at h <;> try cases h
    · rename_i hq
      rw [hq]
      split at h <;> try cases h
      rename_i v st1 hd
      split at h <;> try cases h
      rename_i tm2 st2 l2 ht
      show nextX (runX call xs) tm x.dst (doX call st tm x.op) = _
      rw [hd]
      exact ih _ _ _ _ _ ht
    · rename_i hq
      rw [hq]
      split at h <;> try cases h
      rename_i tm2 st2 l2 ht
      exact ih _ _ _ _ _ ht
theorem hoist_v : ∀ (hs : List (Nat × List AV)) (tm : Tr AV) (st : St), WF st → VL st (hoist hs tm st).2 := by
  intro hs
  induction hs with
  | nil => intro tm st hw; exact .refl hw
  | cons h hs ih =>
    intro tm st hw
    obtain ⟨d, cs⟩ := h
    have h1 := VL.new hw (.box 0 cs)
    exact h1.trans (ih _ _ h1.wf)
theorem runD_run {call : Nat → List AV → St → Option (AV × St)} {xs : List XR} {pairs : List (Nat × Nat)} {tm : Tr AV} {st : St} {tm' : Tr AV} {st' : St} (h : runD call xs pairs tm st = some (tm', st')) :
    runX call xs tm st = some (tm', st') ∧ (pairs = [] ∨ ∃ l, traceX call xs tm st = some (tm', st', l) ∧ pairs.all (pairOk l) = true) := by
  unfold runD at h
  split at h
  · exact ⟨h, .inl rfl⟩
  · split at h <;> try cases h
    rename_i tm2 st2 l ht
    split at h <;> cases h
    rename_i hp
    exact ⟨traceX_run _ _ _ _ _ _ ht, .inr ⟨l, ht, hp⟩⟩
def RV (st : St) : R → Prop
  | .fail => True
  | .ok _ _ st' => VL st st'
theorem andThen_v {st : St} {r : R} {f : Tr AV → St → R} (h : RV st r) (hf : ∀ tm st', VL st st' → RV st (f tm st')) : RV st (r.andThen f) := by
  cases r with
  | fail => trivial
  | ok e tm st' => cases e with
    | norm => exact hf tm st' h
    | exit id => exact h
    | ret => exact h
theorem block_v {st : St} {r : R} {id : Nat} (h : RV st r) : RV st (r.block id) := by
  unfold R.block
  split
  · split <;> exact h
  · exact h
theorem loop_v {f : RF} (hf : ∀ tm st, WF st → RV st (f tm st)) : ∀ (n : Nat) (tm : Tr AV) (st : St), WF st → RV st (loopN f n tm st) := by
  intro n
  induction n with
  | zero => intro tm st hw; trivial
  | succ n ih =>
    intro tm st hw
    show RV st ((f tm st).andThen (loopN f n))
    refine andThen_v (hf tm st hw) fun tm' st' h => ?_
    have h2 := ih tm' st' h.wf
    revert h2
    generalize loopN f n tm' st' = r
    cases r with
    | fail => exact fun _ => trivial
    | ok e tm2 st2 => exact fun h2 => h.trans h2
theorem execX_v {call : Nat → List AV → St → Option (AV × St)} (hc : CallV call) (lim : Nat) : ∀ (c : XC) (tm : Tr AV) (st : St), WF st → RV st (execX call lim c tm st) := by
  have tr : ∀ {st st' : St} {r : R}, VL st st' → RV st' r → RV st r := by
    intro st st' r h h2
    cases r with
    | fail => trivial
    | ok e tm2 st2 => exact h.trans h2
  intro c
  induction c with
  | skip => intro tm st hw; exact .refl hw
  | reg ops =>
    intro tm st hw
    show RV st (R.of (runX call ops tm st))
    cases h : runX call ops tm st with
    | none => trivial
    | some p => exact runX_v hc ops tm st p.1 p.2 h hw
  | regd hs ops pairs =>
    intro tm st hw
    show RV st (R.of (runD call ops pairs (hoist hs tm st).1 (hoist hs tm st).2))
    have h1 := hoist_v hs tm st hw
    cases h : runD call ops pairs (hoist hs tm st).1 (hoist hs tm st).2 with
    | none => trivial
    | some p =>
      obtain ⟨a, b⟩ := p
      exact h1.trans (runX_v hc ops _ _ a b (runD_run h).1 h1.wf)
  | seq a b ia ib =>
    intro tm st hw
    exact andThen_v (ia tm st hw) fun tm' st' h => tr h (ib tm' st' h.wf)
  | cond c a b ia ib =>
    intro tm st hw
    show RV st (condV (evX tm c) (execX call lim a tm st) (execX call lim b tm st))
    unfold condV
    split
    · exact ia tm st hw
    · exact ib tm st hw
    · trivial
  | block id b ib => intro tm st hw; exact block_v (ib tm st hw)
  | loop b ib => intro tm st hw; exact loop_v ib lim tm st hw
  | exit id => intro tm st hw; exact .refl hw
  | ret => intro tm st hw; exact .refl hw
theorem callN_v (E : Env) (lim : Nat) : ∀ d, CallV (callN E lim d) := by
  intro d
  induction d with
  | zero => intro f args st r st' h; cases h
  | succ d ih =>
    intro f args st r st' h hw
    have h : callF E lim (callN E lim d) f args st = some (r, st') := h
    unfold callF at h
    split at h
    · cases h
      exact .refl hw
    split at h
    · rename_i x hx
      have h1 := execX_v ih lim x.body (argsT args 0 .nil) st hw
      revert h h1
      generalize execX (callN E lim d) lim x.body (argsT args 0 .nil) st = q
      intro h h1
      unfold endF at h
      split at h <;> try cases h
      split at h <;> cases h
      exact h1
    · cases h
end Go.Ev
namespace Go.Ev
open Go.RowKit
set_option linter.unusedVariables false

theorem bindsAny_eq (e : Edge) : bindsAny e = Region.binds .any e := by
  unfold bindsAny Region.binds
  cases e.ground <;> rfl
theorem testBit_or (a b i : Nat) : Nat.testBit (Nat.lor a b) i = (Nat.testBit a i || Nat.testBit b i) := Nat.testBit_or a b i
/-- What a mask says. -/
theorem maskOf_spec (ms : List Nat) : ∀ (l : List Edge) (j : Nat), Nat.testBit (maskOf ms l) j = true → ∃ e ∈ l, bindsAny e = true ∧ (e.on = j ∨ Nat.testBit (ms.getD e.on 0) j = true) := by
  intro l
  induction l with
  | nil => intro j h; simp [maskOf] at h
  | cons e l ih =>
    intro j h
    unfold maskOf at h
    split at h
    · rename_i hb
      rw [testBit_or, testBit_or] at h
      simp only [Bool.or_eq_true] at h
      rcases h with (h | h) | h
      · rw [Nat.testBit_two_pow] at h
        exact ⟨e, by simp, hb, .inl (of_decide_eq_true h)⟩
      · exact ⟨e, by simp, hb, .inr h⟩
      · obtain ⟨x, hx, h1, h2⟩ := ih j h
        exact ⟨x, by simp [hx], h1, h2⟩
    · obtain ⟨x, hx, h1, h2⟩ := ih j h
      exact ⟨x, by simp [hx], h1, h2⟩
theorem masks_get : ∀ (ops : List Oper) (ms : List Nat), (∀ i, i < ms.length → (masks ms ops)[i]? = ms[i]?) ∧ (masks ms ops).length = ms.length + ops.length ∧
    ∀ i o, ops[i]? = some o → (masks ms ops)[ms.length + i]? = some (maskOf ((masks ms ops).take (ms.length + i)) o.after.toList) := by
  intro ops
  induction ops with
  | nil => intro ms; exact ⟨fun i _ => rfl, by simp [masks], fun i o h => by simp at h⟩
  | cons o ops ih =>
    intro ms
    obtain ⟨h1, h2, h3⟩ := ih (ms ++ [maskOf ms o.after.toList])
    have hl : (ms ++ [maskOf ms o.after.toList]).length = ms.length + 1 := by simp
    refine ⟨fun i hi => ?_, ?_, fun i q hq => ?_⟩
    · show (masks (ms ++ [maskOf ms o.after.toList]) ops)[i]? = ms[i]?
      rw [h1 i (by omega), List.getElem?_append_left hi]
    · show (masks (ms ++ [maskOf ms o.after.toList]) ops).length = _
      rw [h2, hl, List.length_cons]; omega
    · show (masks (ms ++ [maskOf ms o.after.toList]) ops)[ms.length + i]? = some (maskOf ((masks (ms ++ [maskOf ms o.after.toList]) ops).take (ms.length + i)) q.after.toList)
      cases i with
      | zero =>
        simp at hq; subst hq
        rw [Nat.add_zero, h1 ms.length (by omega), List.getElem?_append_right (Nat.le_refl _)]
        simp only [Nat.sub_self, List.getElem?_cons_zero]
        congr 2
        apply List.ext_getElem?
        intro j
        rw [List.getElem?_take]
        by_cases hj : j < ms.length
        · rw [if_pos hj, h1 j (by omega), List.getElem?_append_left hj]
        · rw [if_neg hj, List.getElem?_eq_none (by omega)]
      | succ i =>
        have := h3 i q (by simpa using hq)
        rw [hl] at this
        have e : ms.length + 1 + i = ms.length + (i + 1) := by omega
        rw [e] at this; exact this
theorem ordOk_spec : ∀ (l : List Oper) (k : Nat), ordOk k l = true → ∀ i o, l[i]? = some o → (∀ e ∈ o.after.toList, bindsAny e = true → e.on < k + i) ∧
    ∀ j b, o.guard = some (j, b) → ∃ e ∈ o.after.toList, bindsAny e = true ∧ e.on = j := by
  intro l
  induction l with
  | nil => intro k h i o ho; simp at ho
  | cons q l ih =>
    intro k h i o ho
    unfold ordOk at h
    simp only [Bool.and_eq_true] at h
    obtain ⟨⟨h1, h2⟩, h3⟩ := h
    cases i with
    | zero =>
      simp at ho; subst ho
      refine ⟨fun e he hb => ?_, fun j b hg => ?_⟩
      · have := List.all_eq_true.1 h1 e he
        rw [hb] at this
        simpa using this
      · rw [hg] at h2
        obtain ⟨e, he, h4⟩ := List.any_eq_true.1 h2
        simp only [Bool.and_eq_true, natBeq, decide_eq_true_eq] at h4
        exact ⟨e, he, h4⟩
    | succ i =>
      have := ih (k + 1) h3 i o (by simpa using ho)
      have e : k + 1 + i = k + (i + 1) := by omega
      rw [e] at this; exact this
/-- A set of operations that is closed under the edges is closed under what the masks say. -/
theorem mask_closed {ops : List Oper} (hord : ordOk 0 ops = true) {D : Nat → Bool} (hcl : ∀ j o, ops[j]? = some o → D j = true → ∀ e ∈ o.after.toList, bindsAny e = true → D e.on = true) :
    ∀ (i : Nat) (o : Oper), ops[i]? = some o → (∀ e ∈ o.after.toList, bindsAny e = true → D e.on = true) → ∀ j, Nat.testBit ((masks [] ops).getD i 0) j = true → D j = true := by
  intro i
  induction i using Nat.strongRecOn with
  | _ i ih =>
    intro o ho hd j hj
    have h1 := (masks_get ops []).2.2 i o ho
    simp only [List.length_nil, Nat.zero_add] at h1
    rw [List.getD, h1] at hj
    obtain ⟨e, he, hb, h2⟩ := maskOf_spec _ _ j hj
    rcases h2 with rfl | h2
    · exact hd e he hb
    · have hlt := (ordOk_spec ops 0 hord i o ho).1 e he hb
      rw [Nat.zero_add] at hlt
      rw [List.getD, List.getElem?_take, if_pos hlt] at h2
      have hin : e.on < ops.length := by
        have := (List.getElem?_eq_some_iff.1 ho).1; omega
      have ho' : ops[e.on]? = some ops[e.on] := List.getElem?_eq_getElem hin
      exact ih e.on hlt ops[e.on] ho' (hcl e.on _ ho' (hd e he hb)) j h2
theorem withAll_spec {f : Nat → Oper → XR → Bool} : ∀ (ops : List Oper) (xs : List XR) (k : Nat), withAll f k ops xs = true → ops.length = xs.length ∧ ∀ i o x, ops[i]? = some o → xs[i]? = some x → f (k + i) o x = true := by
  intro ops
  induction ops with
  | nil =>
    intro xs k h
    cases xs with
    | nil => exact ⟨rfl, fun i o x h => by simp at h⟩
    | cons x xs => cases h
  | cons q ops ih =>
    intro xs k h
    cases xs with
    | nil => cases h
    | cons y xs =>
      unfold withAll at h
      simp only [Bool.and_eq_true] at h
      obtain ⟨h1, h2⟩ := ih xs (k + 1) h.2
      refine ⟨by simp [h1], fun i o x ho hx => ?_⟩
      cases i with
      | zero => simp at ho hx; subst ho hx; exact h.1
      | succ i =>
        have := h2 i o x (by simpa using ho) (by simpa using hx)
        have e : k + 1 + i = k + (i + 1) := by omega
        rw [e] at this; exact this
theorem twosOk_spec (ms : List Nat) : ∀ (ops : List Oper) (xs : List XR) (k : Nat), twosOk ms k ops xs = true → ops.length = xs.length ∧
    ∀ i j oi oj xi xj, i < j → ops[i]? = some oi → ops[j]? = some oj → xs[i]? = some xi → xs[j]? = some xj → twoOk ms (k + i) (k + j) oi oj xi xj = true := by
  intro ops
  induction ops with
  | nil =>
    intro xs k h
    cases xs with
    | nil => exact ⟨rfl, fun i j oi oj xi xj _ h => by simp at h⟩
    | cons x xs => cases h
  | cons q ops ih =>
    intro xs k h
    cases xs with
    | nil => cases h
    | cons y xs =>
      unfold twosOk at h
      simp only [Bool.and_eq_true] at h
      obtain ⟨h1, h2⟩ := ih xs (k + 1) h.2
      obtain ⟨_, h3⟩ := withAll_spec ops xs (k + 1) h.1
      refine ⟨by simp [h1], fun i j oi oj xi xj hij hoi hoj hxi hxj => ?_⟩
      cases j with
      | zero => omega
      | succ j =>
        have e1 : k + 1 + j = k + (j + 1) := by omega
        cases i with
        | zero =>
          simp at hoi hxi; subst hoi hxi
          have := h3 j oj xj (by simpa using hoj) (by simpa using hxj)
          rw [e1] at this; simpa using this
        | succ i =>
          have := h2 i j oi oj xi xj (by omega) (by simpa using hoi) (by simpa using hoj) (by simpa using hxi) (by simpa using hxj)
          have e2 : k + 1 + i = k + (i + 1) := by omega
          rw [e1, e2] at this; exact this
theorem pairsIn_mem {f : Nat → XR → List (Nat × Nat)} : ∀ (xs : List XR) (k j : Nat) (x : XR), xs[j]? = some x → ∀ p ∈ f (k + j) x, p ∈ pairsIn f k xs := by
  intro xs
  induction xs with
  | nil => intro k j x h; simp at h
  | cons y xs ih =>
    intro k j x h p hp
    unfold pairsIn
    cases j with
    | zero => simp at h; subst h; exact List.mem_append_left _ hp
    | succ j =>
      refine List.mem_append_right _ (ih (k + 1) j x (by simpa using h) p ?_)
      have e : k + 1 + j = k + (j + 1) := by omega
      rw [e]; exact hp
theorem pairsOf_mem (ms : List Nat) : ∀ (xs : List XR) (k i j : Nat) (xi xj : XR), i < j → xs[i]? = some xi → xs[j]? = some xj → ∀ p ∈ pairOf ms (k + i) (k + j) xi xj, p ∈ pairsOf ms k xs := by
  intro xs
  induction xs with
  | nil => intro k i j xi xj _ h; simp at h
  | cons y xs ih =>
    intro k i j xi xj hij hi hj p hp
    unfold pairsOf
    cases j with
    | zero => omega
    | succ j =>
      have e1 : k + 1 + j = k + (j + 1) := by omega
      cases i with
      | zero =>
        simp at hi; subst hi
        refine List.mem_append_left _ (pairsIn_mem xs (k + 1) j xj (by simpa using hj) p ?_)
        rw [e1]; exact hp
      | succ i =>
        refine List.mem_append_right _ (ih (k + 1) i j xi xj (by omega) (by simpa using hi) (by simpa using hj) p ?_)
        have e2 : k + 1 + i = k + (i + 1) := by omega
        rw [e1, e2]; exact hp
end Go.Ev
namespace Go.Ev
open Go.RowKit
set_option linter.unusedVariables false

abbrev Cal := Nat → List AV → St → Option (AV × St)
/-- The states and the values of a run. -/
def Trc (call : Cal) (xs : List XR) (S : Nat → Tr AV × St) (V : Nat → AV) : Prop :=
  ∀ i x, xs[i]? = some x → ∃ q, wants (S i).1 x.guard = some q ∧ (S (i + 1)).1 = setD (S i).1 x.dst (V i) ∧
    ((q = false ∧ V i = und ∧ (S (i + 1)).2 = (S i).2) ∨ (q = true ∧ doX call (S i).2 (S i).1 x.op = some (V i, (S (i + 1)).2)))
def consS (s : Tr AV × St) (S : Nat → Tr AV × St) : Nat → Tr AV × St
  | 0 => s
  | i + 1 => S i
def consV (v : AV) (V : Nat → AV) : Nat → AV
  | 0 => v
  | i + 1 => V i
theorem trc_of_run {call : Cal} : ∀ (xs : List XR) (tm : Tr AV) (st : St) (tm' : Tr AV) (st' : St), runX call xs tm st = some (tm', st') → ∃ S V, S 0 = (tm, st) ∧ S xs.length = (tm', st') ∧ Trc call xs S V := by
  intro xs
  induction xs with
  | nil =>
    intro tm st tm' st' h
    have h : some (tm, st) = some (tm', st') := h
    cases h
    exact ⟨fun _ => (tm, st), fun _ => und, rfl, rfl, fun i x h => by simp at h⟩
  | cons x xs ih =>
    intro tm st tm' st' h
    have h : stepX call (runX call xs) x tm st (wants tm x.guard) = some (tm', st') := h
    cases hq : wants tm x.guard with
    | none => rw [hq] at h; cases h
    | some q =>
      rw [hq] at h
      cases q with
      | false =>
        obtain ⟨S, V, h0, h1, h2⟩ := ih _ st tm' st' h
        refine ⟨consS (tm, st) S, consV und V, rfl, h1, fun i y hy => ?_⟩
        cases i with
        | zero =>
          simp at hy; subst hy
          exact ⟨false, hq, by show (S 0).1 = _; rw [h0]; rfl, .inl ⟨rfl, rfl, by show (S 0).2 = _; rw [h0]; rfl⟩⟩
        | succ i => exact h2 i y (by simpa using hy)
      | true =>
        have h : nextX (runX call xs) tm x.dst (doX call st tm x.op) = some (tm', st') := h
        cases hd : doX call st tm x.op with
        | none => rw [hd] at h; cases h
        | some p =>
          obtain ⟨r, st1⟩ := p
          rw [hd] at h
          obtain ⟨S, V, h0, h1, h2⟩ := ih _ st1 tm' st' h
          refine ⟨consS (tm, st) S, consV r V, rfl, h1, fun i y hy => ?_⟩
          cases i with
          | zero =>
            simp at hy; subst hy
            exact ⟨true, hq, by show (S 0).1 = _; rw [h0]; rfl, .inr ⟨rfl, by show doX call st tm x.op = some (r, (S 0).2); rw [h0]; exact hd⟩⟩
          | succ i => exact h2 i y (by simpa using hy)
theorem trc_of_trace {call : Cal} : ∀ (xs : List XR) (tm : Tr AV) (st : St) (tm' : Tr AV) (st' : St) (l : List (Option Nat × Tr Ent)), traceX call xs tm st = some (tm', st', l) →
    ∃ S V, S 0 = (tm, st) ∧ S xs.length = (tm', st') ∧ Trc call xs S V ∧ (∀ i, i ≤ xs.length → ∃ k, l[i]? = some (k, (S i).2.heap)) ∧
      ∀ i x, xs[i]? = some x → wants (S i).1 x.guard = some true → ∃ h, l[i]? = some (keyRead (S i).1 x, h) := by
  intro xs
  induction xs with
  | nil =>
    intro tm st tm' st' l h
    have h : some (tm, st, [(none, st.heap)]) = some (tm', st', l) := h
    cases h
    refine ⟨fun _ => (tm, st), fun _ => und, rfl, rfl, fun i x h => by simp at h, fun i hi => ?_, fun i x h => by simp at h⟩
    have : i = 0 := by simpa using hi
    subst this
    exact ⟨none, rfl⟩
  | cons x xs ih =>
    intro tm st tm' st' l h
    have h : (match wants tm x.guard with
      | some true => match doX call st tm x.op with
        | some (v, st') => match traceX call xs (setD tm x.dst v) st' with
          | some (tm', st'', l) => some (tm', st'', (keyRead tm x, st.heap) :: l)
          | none => none
        | none => none
      | some false => match traceX call xs (setD tm x.dst und) st with
        | some (tm', st'', l) => some (tm', st'', (none, st.heap) :: l)
        | none => none
      | none => none) = some (tm', st', l) := h
    split at h <;> try cases h
    · rename_i hq
      split at h <;> try cases h
      rename_i v st1 hd
      split at h <;> cases h
      rename_i l2 ht
      obtain ⟨S, V, h0, h1, h2, h3, h4⟩ := ih _ _ _ _ _ ht
      refine ⟨consS (tm, st) S, consV v V, rfl, h1, fun i y hy => ?_, fun i hi => ?_, fun i y hy hw => ?_⟩
      · cases i with
        | zero =>
          simp at hy; subst hy
          exact ⟨true, hq, by show (S 0).1 = _; rw [h0]; rfl, .inr ⟨rfl, by show doX call st tm x.op = some (v, (S 0).2); rw [h0]; exact hd⟩⟩
        | succ i => exact h2 i y (by simpa using hy)
      · cases i with
        | zero => exact ⟨_, rfl⟩
        | succ i =>
          show ∃ k, l2[i]? = some (k, (S i).2.heap)
          exact h3 i (by simpa using hi)
      · cases i with
        | zero => simp at hy; subst hy; exact ⟨_, rfl⟩
        | succ i =>
          show ∃ h, l2[i]? = some (keyRead (S i).1 y, h)
          exact h4 i y (by simpa using hy) hw
    · rename_i hq
      split at h <;> cases h
      rename_i l2 ht
      obtain ⟨S, V, h0, h1, h2, h3, h4⟩ := ih _ _ _ _ _ ht
      refine ⟨consS (tm, st) S, consV und V, rfl, h1, fun i y hy => ?_, fun i hi => ?_, fun i y hy hw => ?_⟩
      · cases i with
        | zero =>
          simp at hy; subst hy
          exact ⟨false, hq, by show (S 0).1 = _; rw [h0]; rfl, .inl ⟨rfl, rfl, by show (S 0).2 = _; rw [h0]; rfl⟩⟩
        | succ i => exact h2 i y (by simpa using hy)
      · cases i with
        | zero => exact ⟨_, rfl⟩
        | succ i =>
          show ∃ k, l2[i]? = some (k, (S i).2.heap)
          exact h3 i (by simpa using hi)
      · cases i with
        | zero =>
          simp at hy; subst hy
          have hw : wants tm x.guard = some true := hw
          rw [hq] at hw; cases hw
        | succ i =>
          show ∃ h, l2[i]? = some (keyRead (S i).1 y, h)
          exact h4 i y (by simpa using hy) hw
/-- What the pairs say of a run. -/
def PairsOk (xs : List XR) (pairs : List (Nat × Nat)) (S : Nat → Tr AV × St) : Prop :=
  ∀ i c x, (i, c) ∈ pairs → xs[i]? = some x → c < xs.length → wants (S i).1 x.guard = some true → ∀ key, keyRead (S i).1 x = some key →
    ∃ v, verOf ((S c).2.heap.get key) = some v ∧ verOf ((S (c + 1)).2.heap.get key) = some v
theorem trc_of_runD {call : Cal} {xs : List XR} {pairs : List (Nat × Nat)} {tm : Tr AV} {st : St} {tm' : Tr AV} {st' : St} (h : runD call xs pairs tm st = some (tm', st')) :
    ∃ S V, S 0 = (tm, st) ∧ S xs.length = (tm', st') ∧ Trc call xs S V ∧ PairsOk xs pairs S := by
  obtain ⟨h1, h2⟩ := runD_run h
  rcases h2 with rfl | ⟨l, h2, h3⟩
  · obtain ⟨S, V, h4, h5, h6⟩ := trc_of_run xs tm st tm' st' h1
    exact ⟨S, V, h4, h5, h6, fun i c x h => by cases h⟩
  · obtain ⟨S, V, h4, h5, h6, h7, h8⟩ := trc_of_trace xs tm st tm' st' l h2
    refine ⟨S, V, h4, h5, h6, fun i c x hp hx hc hw key hk => ?_⟩
    have hok := List.all_eq_true.1 h3 (i, c) hp
    obtain ⟨hh, h9⟩ := h8 i x hx hw
    obtain ⟨k1, h10⟩ := h7 c (by omega)
    obtain ⟨k2, h11⟩ := h7 (c + 1) (by omega)
    unfold pairOk at hok
    simp only [nth_eq, Nat.succ_eq_add_one] at hok
    rw [h9, h10, h11, hk] at hok
    simp only at hok
    split at hok <;> try cases hok
    rename_i a b ha hb
    rw [natBeq] at hok
    have := of_decide_eq_true hok
    subst this
    exact ⟨a, ha, hb⟩

/-! ### The variables that are made ahead -/
section
variable {base : Nat} {g : G} {w : World}
theorem Inv.hoist1 {st : St} (h : Inv base g st w) (e : Ent) (he : e ≠ .tip) : Inv base g (st.new e) w ∧ Ext base g st w g (st.new e) w := by
  have hk : ∀ k b, g.key k = some b → k ≠ st.next := fun k b hb e => by have := (h.keyLt k b hb).1; omega
  have ht : ∀ k t, g.tip k = some t → k ≠ st.next := fun k t hb e => by obtain ⟨b, s, x⟩ := t; have := (h.tipLt k b s x hb).1; omega
  have hget : ∀ k, k ≠ st.next → (st.new e).heap.get k = st.heap.get k := fun k hn => by rw [get_new, if_neg hn]
  have hlv : ∀ k b, g.key k = some b → live (st.new e).heap k → live st.heap k := fun k b hb ⟨x, hx, hy⟩ => ⟨x, by rw [hget k (hk k b hb)] at hx; exact hx, hy⟩
  have htp : ∀ k, (st.new e).heap.get k = some .tip → st.heap.get k = some .tip := fun k hx => by
    rw [get_new] at hx
    by_cases hn : k = st.next
    · rw [if_pos hn] at hx; injection hx with hx; exact absurd hx he
    · rw [if_neg hn] at hx; exact hx
  refine ⟨⟨h.base_le, fun k x hx => ?_, fun k b hb => ⟨Nat.lt_succ_of_lt (h.keyLt k b hb).1, (h.keyLt k b hb).2⟩, fun k b s x hb => ⟨Nat.lt_succ_of_lt (h.tipLt k b s x hb).1, (h.tipLt k b s x hb).2⟩, h.frzIn,
    fun k x b hx hb => h.ent k x b (by rw [hget k (hk k b hb)] at hx; exact hx) hb, fun id b s x hx hb => h.tip id b s x (htp id hx) hb, fun k b i hl hb => h.keyFrz k b i (hlv k b hb hl) hb,
    fun k j b hl hl' hb hb' => h.keyInj k j b (hlv k b hb hl) (hlv j b hb' hl') hb hb', fun k id b s x hl hx hb => h.keyTip k id b s x (hlv k b hb hl) (htp id hx) hb,
    fun i j b s x s' x' hi hj => h.tipInj i j b s x s' x' (htp i hi) (htp j hj)⟩, ⟨.refl g, fun _ _ _ => rfl, .refl base w, Nat.le_succ _, fun _ _ h => .inl h, fun k x hx _ hn => ⟨?_, hn⟩⟩⟩
  · rw [get_new] at hx
    show k < st.next + 1
    by_cases hn : k = st.next
    · omega
    · rw [if_neg hn] at hx; have := h.entLt k x hx; omega
  · have := h.entLt k x hx
    rw [hget k (by omega)]; exact hx
theorem hoist_inv : ∀ (hs : List (Nat × List AV)) (tm : Tr AV) (st : St), Inv base g st w → Inv base g (hoist hs tm st).2 w ∧ Ext base g st w g (hoist hs tm st).2 w := by
  intro hs
  induction hs with
  | nil => intro tm st h; exact ⟨h, .refl ..⟩
  | cons p hs ih =>
    intro tm st h
    obtain ⟨d, cs⟩ := p
    obtain ⟨h1, h2⟩ := h.hoist1 (.box 0 cs) (fun e => by cases e)
    obtain ⟨h3, h4⟩ := ih (tm.set d (.ptr st.next 0)) _ h1
    exact ⟨h3, h2.trans h4⟩
/-- Where the variables lie: by slot. -/
theorem hoist_spec : ∀ (hs : List (Nat × List AV)) (tm : Tr AV) (st : St), WF st → (hs.map (·.1)).Nodup → ∃ κ : Nat → Option Nat,
    (∀ t, evX (hoist hs tm st).1 (.t t) = match κ t with | some k => .ptr k 0 | none => evX tm (.t t)) ∧
    (∀ d cs, (d, cs) ∈ hs → ∃ k, κ d = some k ∧ (hoist hs tm st).2.heap.get k = some (.box 0 cs)) ∧
    (∀ d k, κ d = some k → st.next ≤ k ∧ k < (hoist hs tm st).2.next ∧ ∃ cs, (d, cs) ∈ hs) ∧ (∀ d d' k, κ d = some k → κ d' = some k → d = d') := by
  intro hs
  induction hs with
  | nil => intro tm st hw _; exact ⟨fun _ => none, fun t => rfl, fun d cs h => (by cases h), fun d k h => (by cases h), fun d d' k h => (by cases h)⟩
  | cons p hs ih =>
    intro tm st hw hnd
    obtain ⟨d0, cs0⟩ := p
    simp only [List.map_cons, List.nodup_cons] at hnd
    obtain ⟨hn0, hnd⟩ := hnd
    have hv := VL.new hw (.box 0 cs0)
    obtain ⟨κ, h1, h2, h3, h4⟩ := ih (tm.set d0 (.ptr st.next 0)) (st.new (.box 0 cs0)) hv.wf hnd
    have hv2 := hoist_v hs (tm.set d0 (.ptr st.next 0)) (st.new (.box 0 cs0)) hv.wf
    have hκ0 : κ d0 = none := by
      cases hk : κ d0 with
      | none => rfl
      | some k =>
        obtain ⟨_, _, cs, hm⟩ := h3 d0 k hk
        exact absurd (List.mem_map.2 ⟨_, hm, rfl⟩) hn0
    have hnext : st.next < (hoist hs (tm.set d0 (.ptr st.next 0)) (st.new (.box 0 cs0))).2.next := Nat.lt_of_lt_of_le (Nat.lt_succ_self _) hv2.next
    have hstay : ∀ (hs : List (Nat × List AV)) (tm : Tr AV) (st : St) (k : Nat), k < st.next → (hoist hs tm st).2.heap.get k = st.heap.get k := by
      intro hs
      induction hs with
      | nil => intro tm st k _; rfl
      | cons p hs ih =>
        intro tm st k hk
        obtain ⟨d, cs⟩ := p
        show (hoist hs (tm.set d (.ptr st.next 0)) (st.new (.box 0 cs))).2.heap.get k = _
        rw [ih _ _ k (Nat.lt_succ_of_lt hk), get_new, if_neg (by omega)]
    refine ⟨fun t => if t = d0 then some st.next else κ t, fun t => ?_, fun d cs hm => ?_, fun d k hk => ?_, fun d d' k hk hk' => ?_⟩
    · show evX (hoist hs (tm.set d0 (.ptr st.next 0)) (st.new (.box 0 cs0))).1 (.t t) = _
      rw [h1 t]
      by_cases ht : t = d0
      · subst ht
        rw [hκ0]
        show evX (tm.set t (.ptr st.next 0)) (.t t) = (match (if t = t then some st.next else κ t) with | some k => .ptr k 0 | none => evX tm (.t t))
        rw [if_pos rfl, evX_t, Tr.get_set, if_pos rfl]; rfl
      · show _ = (match (if t = d0 then some st.next else κ t) with | some k => AV.ptr k 0 | none => evX tm (.t t))
        rw [if_neg ht]
        cases κ t with
        | some k => rfl
        | none =>
          show evX (tm.set d0 (.ptr st.next 0)) (.t t) = evX tm (.t t)
          rw [evX_t, evX_t, Tr.get_set, if_neg ht]
    · rcases List.mem_cons.1 hm with he | hm
      · injection he with he1 he2
        subst he1 he2
        refine ⟨st.next, by simp, ?_⟩
        show (hoist hs (tm.set d (.ptr st.next 0)) (st.new (.box 0 cs))).2.heap.get st.next = _
        rw [hstay _ _ _ _ (Nat.lt_succ_self _), get_new, if_pos rfl]
      · obtain ⟨k, hk, hg⟩ := h2 d cs hm
        have hd : d ≠ d0 := fun e => by rw [e, hκ0] at hk; cases hk
        exact ⟨k, by simp [hd, hk], hg⟩
    · by_cases hd : d = d0
      · simp only [hd, if_true] at hk
        injection hk with hk
        subst hk
        exact ⟨Nat.le_refl _, hnext, cs0, by rw [hd]; simp⟩
      · simp only [hd, if_false] at hk
        obtain ⟨h5, h6, cs, h7⟩ := h3 d k hk
        exact ⟨Nat.le_of_succ_le h5, h6, cs, by simp [h7]⟩
    · by_cases hd : d = d0 <;> by_cases hd' : d' = d0
      · rw [hd, hd']
      · simp only [hd, if_true] at hk
        simp only [hd', if_false] at hk'
        injection hk with hk; subst hk
        have h5 : st.next + 1 ≤ st.next := (h3 d' _ hk').1
        omega
      · simp only [hd', if_true] at hk'
        simp only [hd, if_false] at hk
        injection hk' with hk'; subst hk'
        have h5 : st.next + 1 ≤ st.next := (h3 d _ hk).1
        omega
      · simp only [hd, if_false] at hk
        simp only [hd', if_false] at hk'
        exact h4 d d' k hk hk'
/-- A variable of the evaluator's memory comes to lie in the program's. -/
theorem Inv.realize {st : St} (h : Inv base g st w) {k : Nat} {cs : List AV} (hk : st.heap.get k = some (.box 0 cs)) (hg : g.key k = none) {us : List Value} (hr : RL w g cs us) (ho : One us) (t : TypeId) :
    ∃ g', Inv base g' st (w.alloc (.cells us.toArray t)) ∧ g'.key = (fun j => if j = k then some w.heap.size else g.key j) ∧ g.le g' ∧ Same g w (w.alloc (.cells us.toArray t)) ∧ Below base w (w.alloc (.cells us.toArray t)) ∧ (∀ b i, g'.frz b i → g.frz b i) := by
  obtain ⟨h1, h2⟩ := h.alloc (.cells us.toArray t)
  have hb : (w.alloc (.cells us.toArray t)).heap[w.heap.size]? = some (.cells us.toArray t (0, 0)) := heap_alloc_new w _
  have hcell : ∀ i, (w.alloc (.cells us.toArray t)).cell? ⟨w.heap.size, i, none⟩ = us[i]? := fun i => by
    rw [cell_of_row _ w.heap.size i us.toArray t (0, 0) hb]; simp
  have hl : g.le { g with key := fun j => if j = k then some w.heap.size else g.key j } := ⟨fun j b hj => by
    have : j ≠ k := fun e => by rw [e, hg] at hj; cases hj
    simpa [this] using hj, fun _ _ h => h, fun _ _ h => h⟩
  have hs0 : Same g (w.alloc (.cells us.toArray t)) (w.alloc (.cells us.toArray t)) := fun _ _ _ => rfl
  have hnk : ∀ j, g.key j ≠ some w.heap.size := fun j hj => by have := (h.keyLt j _ hj).2; omega
  have hnt : ∀ j s e, g.tip j ≠ some (w.heap.size, s, e) := fun j s e hj => by have := (h.tipLt j _ s e hj).2; omega
  have hnf : ∀ i, ¬ g.frz w.heap.size i := fun i hf => by
    obtain ⟨v, hv⟩ := h.frzIn _ _ hf
    have := cell_lt hv; omega
  have hsz : (w.alloc (.cells us.toArray t)).heap.size = w.heap.size + 1 := by simp
  refine ⟨{ g with key := fun j => if j = k then some w.heap.size else g.key j }, ⟨h1.base_le, h1.entLt, fun j b hj => ?_, h1.tipLt, h1.frzIn, fun j e b hj hjb => ?_, fun id b s e hid hgi => h1.tip id b s e hid hgi, fun j b i hlv hj => ?_, fun i j b hli hlj hi hj => ?_, fun j id b s e hlv hid hj hgi => ?_, h1.tipInj⟩, rfl, hl, h2.same, h2.below, fun _ _ h => h⟩
  · by_cases hjk : j = k
    · simp [hjk] at hj; subst hj
      exact ⟨by rw [hjk]; exact h.entLt k _ hk, by omega⟩
    · simp [hjk] at hj
      exact h1.keyLt j b hj
  · by_cases hjk : j = k
    · simp [hjk] at hjb; subst hjb
      rw [hjk, hk] at hj; injection hj with hj; subst hj
      refine ⟨⟨us, (hr.ext h2).mono hs0 hl, ho, fun i v hv => by rw [Nat.zero_add, hcell]; exact hv, fun i hi => ⟨by rw [Nat.zero_add, hcell, List.getElem?_eq_getElem hi]; rfl, frozen_new hb _⟩⟩, fun _ => h.base_le⟩
    · simp [hjk] at hjb
      obtain ⟨h3, h4⟩ := h1.ent j e b hj hjb
      exact ⟨h3.mono hs0 hl rfl, h4⟩
  · by_cases hjk : j = k
    · simp [hjk] at hj; subst hj; exact hnf i
    · simp [hjk] at hj; exact h1.keyFrz j b i hlv hj
  · by_cases hik : i = k <;> by_cases hjk : j = k
    · rw [hik, hjk]
    · simp [hik] at hi; simp [hjk] at hj; subst hi; exact absurd hj (hnk j)
    · simp [hik] at hi; simp [hjk] at hj; subst hj; exact absurd hi (hnk i)
    · simp [hik] at hi; simp [hjk] at hj; exact h1.keyInj i j b hli hlj hi hj
  · by_cases hjk : j = k
    · simp [hjk] at hj; subst hj; exact hnt id s e hgi
    · simp [hjk] at hj; exact h1.keyTip j id b s e hlv hid hj hgi
end
end Go.Ev
