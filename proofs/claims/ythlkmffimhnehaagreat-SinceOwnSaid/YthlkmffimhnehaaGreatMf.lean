/- Answers known beforehand, by a table of literals; no condition. -/
import Derived.Test.YthlkmffimhnehaaGreatMe
import Derived.LoopN
import Derived.Laws.Sem
namespace Go.Ev
open Go.RowKit
set_option linter.unusedVariables false

/-- Where the three operations lie. -/
structure SpAt (T : Nat → Option TI) (ops : List Oper) (xs : List XR) (ms : List Nat) (k a : Nat) (s : Operand) (u t tu b ti q et vt : Nat) (i i2 ei : TI) (sx : XO) : Prop where
  o0 : ∃ (o : Oper) (c : Call), ops[k]? = some o ∧ o.dst = some a ∧ o.guard = none ∧ o.op = .call c ∧ c.callee = .builtin .append ∧ c.args.toList = [s, .tmp u] ∧ c.argTypes.toList = [t, tu]
  o1 : ∃ o : Oper, ops[k + 1]? = some o ∧ o.dst = some b ∧ o.guard = none ∧ o.op = .indexAddr ti (.tmp a) (.tmp q)
  o2 : ∃ o : Oper, ops[k + 2]? = some o ∧ o.dst = none ∧ o.guard = none ∧ o.op = .store et (.tmp b) (.tmp vt)
  x0 : xs[k]? = some ⟨some a, none, .e (.app1 i.size i.bytes sx (.t vt) (.t q) (.t u))⟩
  x1 : xs[k + 1]? = some ⟨some b, none, .p (.move (.c .any))⟩
  x2 : xs[k + 2]? = some ⟨none, none, .p (.move (.c und))⟩
  ti0 : sliceOf T t = some i
  ti1 : sliceOf T ti = some i2
  ti2 : T et = some ei
  s1 : i2.size = i.size
  s2 : ei.size = i.size
  src : srcOk T tu = true
  sxo : compO s = some sx
  dq : ∃ (j : Nat) (o : Oper), j < k ∧ ops[j]? = some o ∧ o.dst = some q
  dv : ∃ (j : Nat) (o : Oper), j < k ∧ ops[j]? = some o ∧ o.dst = some vt
  before : ∀ j, j < k → Nat.testBit (ms.getD k 0) j = true
  tail : ∀ (j : Nat) (o : Oper), k + 3 ≤ j → ops[j]? = some o → tailOk o = true
/-- The element is yet to be stored. -/
structure LinkB (k a b q vt size : Nat) (D : Nat → Bool) (act : Act) (w ws : World) (g : G) (bk off m cap : Nat) (us : List Value) : Prop where
  dk : D k = true
  d2 : D (k + 2) = false
  ws : ws = w.setCells bk (off + m * size) us
  th : w.there bk (off + m * size) us.length
  len : us.length = size
  one : One us
  va : act.eval (.tmp a) = .slice (some ⟨bk, off, none⟩) (m + 1) cap
  vq : ∃ kk, act.eval (.tmp q) = .int kk (m : Int)
  vv : (act.eval (.tmp vt)).cells = us.toArray
  vb : D (k + 1) = true → act.eval (.tmp b) = .pointer (some ⟨bk, off + m * size, none⟩)
  frz : ∀ j, j < us.length → g.frz bk (off + m * size + j)
def Link (ks : Option Nat) (a b q vt size : Nat) (D : Nat → Bool) (act : Act) (w ws : World) (g : G) : Prop :=
  ((∀ k, ks = some k → D k = false ∨ D (k + 2) = true) ∧ ws = w) ∨ ∃ k bk off m cap us, ks = some k ∧ LinkB k a b q vt size D act w ws g bk off m cap us
theorem put_eval (a : Act) (d : Option Nat) (t : Nat) (v : Value) (hd : ∀ x, d = some x → x < a.tmps.size) (hne : d ≠ some t) : (a.put d v).eval (.tmp t) = a.eval (.tmp t) := by
  cases d with
  | none => rfl
  | some d => rw [eval_put a d t v (hd d rfl), if_neg (fun e => hne (by rw [e]))]
theorem LinkB.put {k a b q vt size : Nat} {D : Nat → Bool} {act : Act} {w ws w' ws' : World} {g g' : G} {bk off m cap : Nat} {us : List Value} (h : LinkB k a b q vt size D act w ws g bk off m cap us) {i : Nat} (hi : i ≠ k + 1) (hi2 : i ≠ k + 2)
    {d : Option Nat} {v : Value} (hd : ∀ x, d = some x → x < act.tmps.size) (ha : d ≠ some a) (hb : d ≠ some b) (hq : d ≠ some q) (hv : d ≠ some vt) (hws : ws' = w'.setCells bk (off + m * size) us) (hth : w'.there bk (off + m * size) us.length) (hl : g.le g') :
    LinkB k a b q vt size (fun j => if j = i then true else D j) (act.put d v) w' ws' g' bk off m cap us := by
  refine ⟨?_, ?_, hws, hth, h.len, h.one, ?_, ?_, ?_, fun hk => ?_, fun j hj => hl.frz _ _ (h.frz j hj)⟩
  · simp [h.dk]
  · have := h.d2
    have e : ¬ k + 2 = i := fun e => hi2 e.symm
    simp [e, this]
  · rw [put_eval _ _ _ _ hd ha]; exact h.va
  · rw [put_eval _ _ _ _ hd hq]; exact h.vq
  · rw [put_eval _ _ _ _ hd hv]; exact h.vv
  · rw [put_eval _ _ _ _ hd hb]
    have e : ¬ k + 1 = i := fun e => hi e.symm
    simp only [e, if_false] at hk
    exact h.vb hk
theorem size_setCells' (b : Nat) : ∀ (vs : List Value) (o : Nat) (w : World), (w.setCells b o vs).heap.size = w.heap.size := by
  intro vs
  induction vs with
  | nil => intro o w; rfl
  | cons v vs ih =>
    intro o w
    rw [World.setCells, ih]
    simp [World.setCell]
theorem eqNO_ok {a b : Option Nat} (h : eqNO a b = true) : ∃ m, a = some m ∧ b = some m := by
  unfold eqNO at h
  split at h
  · rw [natBeq] at h
    have := of_decide_eq_true h
    subst this
    exact ⟨_, rfl, rfl⟩
  · cases h
theorem isOneA_ok {size : Nat} {u : AV} (h : isOneA size u = true) : ∃ z, srcOf size u = some [z] := by
  unfold isOneA at h
  split at h
  · exact ⟨_, by assumption⟩
  · cases h
section
variable {P : Program} {T : Nat → Option TI} {base : Nat} {g : G} {st : St} {w : World} {tm : Tr AV}
theorem regs_wp (hm : P.follows .mixedOrders = true) (hT : TabOk P T) {call : Cal} (hcall : CallOk P base call) (hV : CallV call) {kd : Bool} {n id : Nat} {ops : Array Oper} {xs0 xs : List XR} {hs : List (Nat × List AV)} {pairs : List (Nat × Nat)}
    (ks : Option Nat) {sA sB sQ sV : Nat} {sS : Operand} {sU tA tU tI tE : Nat} {i0 i2 ei : TI} {sx : XO} (hlen0 : ops.toList.length = xs0.length)
    (hidx0 : ∀ (i : Nat) (o : Oper), ops.toList[i]? = some o → ∃ x : XR, xs0[i]? = some x ∧ ((∀ k, ks = some k → i < k ∨ k + 3 ≤ i) → compOp T kd o.op = some x.op) ∧ x.dst = o.dst ∧ (∀ d, x.dst = some d → d < n) ∧ ((o.guard = none ∧ x.guard = none) ∨ ∃ j b d, o.guard = some (j, b) ∧ (ops.toList[j]?).bind (·.dst) = some d ∧ x.guard = some (d, b)))
    (hsp : ∀ k, ks = some k → SpAt T ops.toList xs0 (masks [] ops.toList) k sA sS sU tA tU sB tI sQ tE sV i0 i2 ei sx)
    (hd : compD ops.toList xs0 = some (.regd hs xs pairs)) {tm' : Tr AV} {st' : St} (hr : runD call xs pairs (hoist hs tm st).1 (hoist hs tm st).2 = some (tm', st'))
    {a0 : Act} (hS : Slots w g n tm a0) (hI : Inv base g st w) {Q : Exit → Act → World → Prop} (hQ : ∀ a' w' g', Slots w' g' n tm' a' → Inv base g' st' w' → Ext base g st w g' st' w' → Q .normal a' w') : (Code.region id ops true).wp P Q a0 w := by
  unfold compD at hd
  cases hlook : (ordOk 0 ops.toList && twosOk (masks [] ops.toList) 0 ops.toList (hoistL ops.toList xs0).1) with
  | false => rw [hlook] at hd; cases hd
  | true =>
  rw [hlook] at hd
  injection hd with hd
  injection hd with hhs hxs hps
  simp only [Bool.and_eq_true] at hlook
  obtain ⟨hord, htwo⟩ := hlook
  obtain ⟨hlen1, hidx1, hmade, hsub⟩ := hoistL_idx ops.toList xs0 hlen0
  rw [hxs] at hlen1 hidx1 hmade htwo hps
  rw [hhs] at hidx1 hmade hsub
  have hlen : ops.toList.length = xs.length := by omega
  obtain ⟨_, htw⟩ := twosOk_spec _ _ _ 0 htwo
  have two : ∀ (i j : Nat) (oi oj : Oper) (xi xj : XR), i < j → ops.toList[i]? = some oi → ops.toList[j]? = some oj → xs[i]? = some xi → xs[j]? = some xj → twoOk (masks [] ops.toList) i j oi oj xi xj = true := by
    intro i j oi oj xi xj hij hoi hoj hxi hxj
    have := htw i j oi oj xi xj hij hoi hoj hxi hxj
    simpa using this
  have getO : ∀ i x, xs[i]? = some x → ∃ o, ops.toList[i]? = some o := fun i x hx => ⟨ops.toList[i]'(by have := (List.getElem?_eq_some_iff.1 hx).1; omega), List.getElem?_eq_getElem _⟩
  -- what is known of an operation
  have idx : ∀ (i : Nat) (o : Oper) (x : XR), ops.toList[i]? = some o → xs[i]? = some x → x.dst = o.dst ∧ (∀ d, x.dst = some d → d < n) ∧
      ((o.guard = none ∧ x.guard = none) ∨ ∃ j b d, o.guard = some (j, b) ∧ (ops[j]?).bind (·.dst) = some d ∧ x.guard = some (d, b)) ∧
      (((∀ k, ks = some k → i < k ∨ k + 3 ≤ i) → compOp T kd o.op = some x.op) ∨ ∃ t d cs ti, o.op = .alloc t ∧ T t = some ti ∧ ti.zero.cells = cs ∧ cs ≠ [] ∧ x = ⟨some d, none, .p (.move (.t d))⟩ ∧ o.guard = none ∧ (d, cs) ∈ hs) := by
    intro i o x ho hx
    obtain ⟨x0, hx0, h1, h2, h3, h4⟩ := hidx0 i o ho
    obtain ⟨y, hy, h5⟩ := hidx1 i o x0 ho hx0
    rw [hx] at hy; injection hy with hy; subst hy
    have h4' : (o.guard = none ∧ x0.guard = none) ∨ ∃ j b d, o.guard = some (j, b) ∧ (ops[j]?).bind (·.dst) = some d ∧ x0.guard = some (d, b) := by simpa using h4
    rcases h5 with rfl | ⟨t, d, cs, h6, rfl, rfl, h7⟩
    · exact ⟨h2, h3, h4', .inl h1⟩
    · have h1 := h1 (fun k hk => by
        rcases Nat.lt_or_ge i k with h | h
        · exact .inl h
        · by_cases h' : k + 3 ≤ i
          · exact .inr h'
          · exfalso
            have sp := hsp k hk
            have h8 : i = k ∨ i = k + 1 ∨ i = k + 2 := by omega
            rcases h8 with rfl | rfl | rfl
            · obtain ⟨o', c, h9, _, _, h10, _⟩ := sp.o0
              rw [ho] at h9; injection h9 with h9; subst h9
              rw [h6] at h10; cases h10
            · obtain ⟨o', h9, _, _, h10⟩ := sp.o1
              rw [ho] at h9; injection h9 with h9; subst h9
              rw [h6] at h10; cases h10
            · obtain ⟨o', h9, _, _, h10⟩ := sp.o2
              rw [ho] at h9; injection h9 with h9; subst h9
              rw [h6] at h10; cases h10)
      have hg : o.guard = none := by
        rcases h4' with h | ⟨j, b, d', _, _, h⟩
        · exact h.1
        · cases h
      refine ⟨h2, h3, .inl ⟨hg, rfl⟩, .inr ?_⟩
      rw [h6] at h1
      obtain ⟨ti, hti, h1⟩ := opt_eq h1
      cases hz : ti.zero.cells with
      | nil => simp only [hz] at h1; cases h1
      | cons z zs =>
        simp only [hz] at h1
        injection h1 with h1
        injection h1 with h1
        injection h1 with h1
        exact ⟨t, d, cs, ti, h6, hti, by rw [hz]; exact h1, (by rw [← h1]; exact (fun h => by cases h)), rfl, hg, h7⟩
  have hdist : ∀ (i j : Nat) (x y : XR) (t : Nat), xs[i]? = some x → xs[j]? = some y → x.dst = some t → y.dst = some t → i = j := by
    have key : ∀ (i j : Nat) (x y : XR) (t : Nat), i < j → xs[i]? = some x → xs[j]? = some y → x.dst = some t → y.dst = some t → False := by
      intro i j x y t hij hx hy hdx hdy
      obtain ⟨oi, hoi⟩ := getO i x hx
      obtain ⟨oj, hoj⟩ := getO j y hy
      have h := two i j oi oj x y hij hoi hoj hx hy
      unfold twoOk at h
      simp only [Bool.and_eq_true] at h
      have h1 := h.1.1.1.1
      rw [← (idx i oi x hoi hx).1, ← (idx j oj y hoj hy).1, hdx, hdy] at h1
      simp [sameDst] at h1
    intro i j x y t hx hy hdx hdy
    rcases Nat.lt_trichotomy i j with h | h | h
    · exact (key i j x y t h hx hy hdx hdy).elim
    · exact h
    · exact (key j i y x t h hy hx hdy hdx).elim
  have hnd : (hs.map (·.1)).Nodup := by
    have hdist0 : ∀ (i j : Nat) (x y : XR) (t : Nat), xs0[i]? = some x → xs0[j]? = some y → x.dst = some t → y.dst = some t → i = j := by
      intro i j x0 y0 t hx hy hdx hdy
      have e0 : ∀ (i : Nat) (x0 : XR), xs0[i]? = some x0 → ∃ x, xs[i]? = some x ∧ x.dst = x0.dst := by
        intro i x0 hx
        have ho : ops.toList[i]? = some _ := List.getElem?_eq_getElem (by have := (List.getElem?_eq_some_iff.1 hx).1; omega)
        obtain ⟨x, h1, h2⟩ := hidx1 i _ x0 ho hx
        refine ⟨x, h1, ?_⟩
        rcases h2 with rfl | ⟨t, d, cs, _, rfl, rfl, _⟩ <;> rfl
      obtain ⟨x, h1, h2⟩ := e0 i x0 hx
      obtain ⟨y, h3, h4⟩ := e0 j y0 hy
      exact hdist i j x y t h1 h3 (h2.trans hdx) (h4.trans hdy)
    exact (nodup_dst xs0 hdist0).sublist hsub
  have hwf : WF st := hI.entLt
  obtain ⟨κ, hκ1, hκ2, hκ3, hκ4⟩ := hoist_spec hs tm st hwf hnd
  obtain ⟨hI0, hE0⟩ := hoist_inv hs tm st hI
  obtain ⟨S, V, hS0, hSN, htr, hpairs⟩ := trc_of_runD hr
  have hwf0 : WF (S 0).2 := by rw [hS0]; exact (hoist_v hs tm st hwf).wf
  have hslot := trc_slot htr hdist
  -- who writes a slot
  have hκw : ∀ d k, κ d = some k → ∃ (i : Nat) (x : XR), xs[i]? = some x ∧ x = ⟨some d, none, .p (.move (.t d))⟩ := by
    intro d k hk
    obtain ⟨_, _, cs, hm'⟩ := hκ3 d k hk
    obtain ⟨i, o, t, _, _, _, hx⟩ := hmade d cs hm'
    exact ⟨i, _, hx, rfl⟩
  have start : ∀ t, κ t = none → evX (S 0).1 (.t t) = evX tm (.t t) := fun t ht => by
    rw [hS0]
    have := hκ1 t
    rw [ht] at this; exact this
  have hspx : ∀ k, ks = some k → ∀ (i : Nat) (o : Oper) (x : XR), ops.toList[i]? = some o → (∀ t, o.op ≠ .alloc t) → xs0[i]? = some x → xs[i]? = some x := by
    intro k hk i o x ho hne hx
    obtain ⟨y, hy, h5⟩ := hidx1 i o x ho hx
    rcases h5 with rfl | ⟨t, d, cs, h6, _⟩
    · exact hy
    · exact absurd h6 (hne t)
  have hsx : ∀ k, ks = some k → xs[k]? = some ⟨some sA, none, .e (.app1 i0.size i0.bytes sx (.t sV) (.t sQ) (.t sU))⟩ ∧ xs[k + 1]? = some ⟨some sB, none, .p (.move (.c .any))⟩ ∧ xs[k + 2]? = some ⟨none, none, .p (.move (.c und))⟩ := by
    intro k hk
    have sp := hsp k hk
    obtain ⟨o0, c, h1, _, _, h2, _⟩ := sp.o0
    obtain ⟨o1, h3, _, _, h4⟩ := sp.o1
    obtain ⟨o2, h5, _, _, h6⟩ := sp.o2
    exact ⟨hspx k hk k o0 _ h1 (fun t h => by rw [h2] at h; cases h) sp.x0, hspx k hk _ o1 _ h3 (fun t h => by rw [h4] at h; cases h) sp.x1, hspx k hk _ o2 _ h5 (fun t h => by rw [h6] at h; cases h) sp.x2⟩
  have hc01 : ∀ k, ks = some k → Nat.testBit ((masks [] ops.toList).getD (k + 1) 0) k = true ∧ Nat.testBit ((masks [] ops.toList).getD (k + 2) 0) (k + 1) = true := by
    intro k hk
    have sp := hsp k hk
    obtain ⟨h7, h8, h9⟩ := hsx k hk
    obtain ⟨o0, c, h1, hd0, _, h2, _⟩ := sp.o0
    obtain ⟨o1, h3, hd1, _, h4⟩ := sp.o1
    obtain ⟨o2, h5, _, _, h6⟩ := sp.o2
    have r1 : readsT o1 sA = true := by
      unfold readsT
      rw [h4]
      simp [Op.operands, isTmp]
    have r2 : readsT o2 sB = true := by
      unfold readsT
      rw [h6]
      simp [Op.operands, isTmp]
    constructor
    · have h := two k (k + 1) o0 o1 _ _ (by omega) h1 h3 h7 h8
      unfold twoOk at h
      simp only [Bool.and_eq_true] at h
      have h10 := h.1.1.1.2
      rw [hd0] at h10
      simp only [r1, Bool.not_true, Bool.false_or] at h10
      unfold cmp at h10
      have e1 : Nat.max k (k + 1) = k + 1 := by simp
      have e2 : Nat.min k (k + 1) = k := by simp
      rwa [e1, e2] at h10
    · have h := two (k + 1) (k + 2) o1 o2 _ _ (by omega) h3 h5 h8 h9
      unfold twoOk at h
      simp only [Bool.and_eq_true] at h
      have h10 := h.1.1.1.2
      rw [hd1] at h10
      simp only [r2, Bool.not_true, Bool.false_or] at h10
      unfold cmp at h10
      have e1 : Nat.max (k + 1) (k + 2) = k + 2 := by simp
      have e2 : Nat.min (k + 1) (k + 2) = k + 1 := by simp
      rwa [e1, e2] at h10
  refine wp_region_inv' (ops := ops) (Q := Q) hm (fun i o ho e he hb => ?_) (fun D a' w' => ∃ ws g' p, Link ks sA sB sQ sV i0.size D a' w' ws g' ∧ J base g st w n tm xs S V κ hs D a' ws g' p) ?_ ?_ ?_
  · have := (ordOk_spec ops.toList 0 hord i o (by simpa using ho)).1 e (by simpa using he) (by rw [bindsAny_eq]; exact hb)
    simpa using this
  · -- the start
    obtain ⟨hId, hEd⟩ := hI0.drew
    obtain ⟨p, h1, h2, h3, h4, h5⟩ := next_eff htr xs.length 0 (by omega) (by omega)
    have e0 : (S p).2 = (hoist hs tm st).2 := by rw [h5, hS0]
    have hE := hE0.trans hEd
    refine ⟨w.drew, g, p, .inl ⟨fun _ _ => .inl rfl, rfl⟩, h2, fun c x hc hx he => absurd he (h3 c x (by omega) hc hx), fun c x _ _ _ => rfl, h4, by rw [e0]; exact hId, by rw [e0]; exact hE, hS.defers, hS.size, (fun i x d _ _ h => by cases h), fun t _ => (hS.rep t).ext hEd, fun d k cs hk h8 _ => ?_⟩
    obtain ⟨h6, h7, _⟩ := hκ3 d k hk
    obtain ⟨k', h9, h10⟩ := hκ2 d cs h8
    rw [hk] at h9; injection h9 with h9; subst h9
    refine ⟨?_, by rw [e0]; exact h10⟩
    cases hg : g.key k with
    | none => rfl
    | some b => have := (hI.keyLt k b hg).1; omega
  · -- a step
    rintro D a1 w1 i o ho hDi hpre hcl ⟨ws, g1, p, hL, hJ⟩ K hK
    have ho' : ops.toList[i]? = some o := by simpa using ho
    obtain ⟨x, hx⟩ : ∃ x, xs[i]? = some x := ⟨xs[i]'(by have := (List.getElem?_eq_some_iff.1 ho').1; omega), List.getElem?_eq_getElem _⟩
    obtain ⟨hdst, hlt, hgd, hcase⟩ := idx i o x ho' hx
    have hpre' : ∀ e ∈ o.after.toList, bindsAny e = true → D e.on = true := fun e he hb => hpre e (by simpa using he) (by rw [← bindsAny_eq]; exact hb)
    have hcl' : ∀ j oj, ops.toList[j]? = some oj → D j = true → ∀ e ∈ oj.after.toList, bindsAny e = true → D e.on = true := fun j oj hj hDj e he hb => hcl j oj (by simpa using hj) hDj e (by simpa using he) (by rw [← bindsAny_eq]; exact hb)
    have before : ∀ j, Nat.testBit ((masks [] ops.toList).getD i 0) j = true → D j = true := mask_closed hord hcl' i o ho' hpre'
    have after_ : ∀ j oj, ops.toList[j]? = some oj → Nat.testBit ((masks [] ops.toList).getD j 0) i = true → D j = false := by
      intro j oj hj hb
      cases hDj : D j with
      | false => rfl
      | true =>
        have := mask_closed hord hcl' j oj hj (hcl' j oj hj hDj) i hb
        rw [hDi] at this; cases this
    have hile : i ≤ xs.length := by have := (List.getElem?_eq_some_iff.1 hx).1; omega
    -- the operands
    have hopnd : (∀ d, x = ⟨some d, none, .p (.move (.t d))⟩ → κ d = none ∨ o.op.operands.toList = []) → ∀ y ∈ o.op.operands.toList, Opnd ws g1 (S i).1 a1.eval y := by
      intro hself y hy z hz
      cases y with
      | const v =>
        simp only [compO] at hz
        split at hz <;> try cases hz
        rename_i a' ha
        exact absC_rep ha ws g1
      | global g' => cases hz
      | func f => simp only [compO] at hz; injection hz with hz; subst hz; exact .fn f [] [] [] [] .nil .nil
      | tmp t =>
        simp only [compO] at hz; injection hz with hz; subst hz
        have hreads : readsT o t = true := by
          unfold readsT
          exact List.any_eq_true.2 ⟨.tmp t, hy, by simp [isTmp]⟩
        by_cases hw : ∃ (j : Nat) (xj : XR), xs[j]? = some xj ∧ xj.dst = some t
        · obtain ⟨j, xj, hxj, hdj⟩ := hw
          obtain ⟨oj, hoj⟩ := getO j xj hxj
          have hdoj := (idx j oj xj hoj hxj).1
          rcases Nat.lt_trichotomy j i with hji | hji | hji
          · have h := two j i oj o xj x hji hoj ho' hxj hx
            unfold twoOk at h
            simp only [Bool.and_eq_true] at h
            have h1 := h.1.1.1.2
            rw [← hdoj, hdj] at h1
            simp only [hreads, Bool.not_true, Bool.false_or] at h1
            unfold cmp at h1
            have e1 : Nat.max j i = i := by simp [Nat.max_def]; omega
            have e2 : Nat.min j i = j := by simp [Nat.min_def]; omega
            rw [e1, e2] at h1
            have hDj := before j h1
            rw [(hslot i hile t).1 j xj hji hxj hdj]
            exact hJ.done j xj t hxj hdj hDj
          · replace hji := hji.symm; subst hji
            rw [hx] at hxj; injection hxj with hxj; subst hxj
            have hno : ∀ (j : Nat) (y : XR), j < i → xs[j]? = some y → y.dst ≠ some t := fun j' y' hj' hy' hd' => by
              have := hdist j' i y' x t hy' hx hd' hdj; omega
            have hκt : κ t = none := by
              cases hk : κ t with
              | none => rfl
              | some k =>
                obtain ⟨i', x', hx', he'⟩ := hκw t k hk
                have hii : i = i' := (hdist i' i x' x t hx' hx (by rw [he']) hdj).symm
                subst hii
                rw [hx] at hx'; injection hx' with hx'; subst hx'
                rcases hself t he' with h | h
                · rw [hk] at h; cases h
                · rw [h] at hy; cases hy
            rw [(hslot i hile t).2 hno, start t hκt]
            refine hJ.old t fun j' y' hy' hd' => ?_
            have := hdist j' i y' x t hy' hx hd' hdj
            rw [this]; exact hDi
          · have h := two i j o oj x xj hji ho' hoj hx hxj
            unfold twoOk at h
            simp only [Bool.and_eq_true] at h
            have h1 := h.1.1.2
            have h2 := h.2
            rw [← hdoj, hdj] at h1
            simp only [hreads, Bool.not_true, Bool.false_or] at h1
            unfold cmp at h1
            have e1 : Nat.max i j = j := by simp [Nat.max_def]; omega
            have e2 : Nat.min i j = i := by simp [Nat.min_def]; omega
            rw [e1, e2] at h1
            have hDj := after_ j oj hoj h1
            have hno : ∀ (j' : Nat) (y : XR), j' < i → xs[j']? = some y → y.dst ≠ some t := fun j' y' hj' hy' hd' => by
              have := hdist j' j y' xj t hy' hxj hd' hdj; omega
            have hκt : κ t = none := by
              cases hk : κ t with
              | none => rfl
              | some k =>
                obtain ⟨i', x', hx', he'⟩ := hκw t k hk
                have hii : i' = j := hdist i' j x' xj t hx' hxj (by rw [he']) hdj
                subst hii
                rw [hxj] at hx'; injection hx' with hx'; subst hx'
                rw [he'] at h2
                simp [isH, hreads] at h2
            rw [(hslot i hile t).2 hno, start t hκt]
            refine hJ.old t fun j' y' hy' hd' => ?_
            have := hdist j' j y' xj t hy' hxj hd' hdj
            rw [this]; exact hDj
        · have hno : ∀ (j : Nat) (y : XR), xs[j]? = some y → y.dst ≠ some t := fun j y hy' hd' => hw ⟨j, y, hy', hd'⟩
          have hκt : κ t = none := by
            cases hk : κ t with
            | none => rfl
            | some k =>
              obtain ⟨i', x', hx', he'⟩ := hκw t k hk
              exact absurd (by rw [he']) (hno i' x' hx')
          rw [(hslot i hile t).2 fun j y _ => hno j y, start t hκt]
          exact hJ.old t fun j y hy' hd' => absurd hd' (hno j y hy')
    have hilt : i < xs.length := (List.getElem?_eq_some_iff.1 hx).1
    obtain ⟨q, hq1, hq2, hq3⟩ := htr i x hx
    -- the guard
    have hwant : Region.wanted o (yielded ops a1.tmps) = q := want_sound (w := ws) (g := g1) hgd hq1 fun d b hgx => by
      rcases hgd with ⟨_, h⟩ | ⟨j, b', d', hog, hoj, hxg⟩
      · rw [hgx] at h; cases h
      · rw [hgx] at hxg
        injection hxg with hxg
        injection hxg with hxg1 hxg2
        subst hxg1
        obtain ⟨e, he, hb, hej⟩ := (ordOk_spec ops.toList 0 hord i o ho').2 j b' hog
        have hlt' := (ordOk_spec ops.toList 0 hord i o ho').1 e he hb
        have hDj : D j = true := by rw [← hej]; exact hpre' e he hb
        cases hq : ops[j]? with
        | none => rw [hq] at hoj; cases hoj
        | some oj =>
          rw [hq] at hoj
          have hoj' : ops.toList[j]? = some oj := by simpa using hq
          obtain ⟨xj, hxj⟩ : ∃ x, xs[j]? = some x := ⟨xs[j]'(by have := (List.getElem?_eq_some_iff.1 hoj').1; omega), List.getElem?_eq_getElem _⟩
          have hdj : xj.dst = some d := by rw [(idx j oj xj hoj' hxj).1]; exact hoj
          rw [(hslot i hile d).1 j xj (by omega) hxj hdj]
          exact hJ.done j xj d hxj hdj hDj
    -- where the next effect is
    have hip : x.op.cl = .eff → i = p := by
      intro he
      rcases Nat.lt_trichotomy i p with h | h | h
      · have := hJ.lo i x h hx he
        rw [hDi] at this; cases this
      · exact h
      · rcases hJ.pe with h' | ⟨y, hy, hye⟩
        · omega
        · obtain ⟨oy, hoy⟩ := getO p y hy
          have h2 := two p i oy o y x h hoy ho' hy hx
          unfold twoOk at h2
          simp only [Bool.and_eq_true] at h2
          have h3 := h2.1.2
          rw [hye, he] at h3
          simp only at h3
          unfold cmp at h3
          have e1 : Nat.max p i = i := by simp [Nat.max_def]; omega
          have e2 : Nat.min p i = p := by simp [Nat.min_def]; omega
          rw [e1, e2] at h3
          have := before p h3
          rw [hJ.hi p y (Nat.le_refl _) hy hye] at this; cases this
    have fin_ne' : x.op.cl ≠ .eff → ∀ v wa w' g', Rep w' g' (V i) v → Inv base g' (S p).2 w' → Ext base g st w g' (S p).2 w' → g1.le g' → Same g1 ws w' →
        (∀ d k cs, κ d = some k → x.dst ≠ some d → g1.key k = none → (S p).2.heap.get k = some (.box 0 cs) → g'.key k = none ∧ (S p).2.heap.get k = some (.box 0 cs)) → Link ks sA sB sQ sV i0.size (fun j => if j = i then true else D j) (a1.put o.dst v) wa w' g' → K (a1.put o.dst v) wa := by
      intro hne v wa w' g' h1 h2 h3 h4 h5 h6 hlk
      rw [← hdst] at hlk ⊢
      exact hK _ _ ⟨w', g', p, hlk, hJ.next hdist hx hDi hlt h1 h2 h3 h4 h5 h6 hJ.ple (fun c y hc hy he => .inr (hJ.lo c y hc hy he)) (fun c y hc hy he => ⟨fun e => by
        subst e
        rw [hx] at hy; injection hy with hy; subst hy
        exact hne he, hJ.hi c y hc hy he⟩) hJ.pe⟩
    have fin_e' : x.op.cl = .eff → ∀ v wa w' g', Rep w' g' (V i) v → Inv base g' (S (i + 1)).2 w' → Ext base g st w g' (S (i + 1)).2 w' → g1.le g' → Same g1 ws w' →
        (∀ d k cs, κ d = some k → x.dst ≠ some d → g1.key k = none → (S p).2.heap.get k = some (.box 0 cs) → g'.key k = none ∧ (S (i + 1)).2.heap.get k = some (.box 0 cs)) → Link ks sA sB sQ sV i0.size (fun j => if j = i then true else D j) (a1.put o.dst v) wa w' g' → K (a1.put o.dst v) wa := by
      intro he v wa w' g' h1 h2 h3 h4 h5 h6 hlk
      have hpi := hip he
      obtain ⟨p', h7, h8, h9, h10, h11⟩ := next_eff htr _ (i + 1) rfl (by omega)
      rw [← h11] at h2 h3 h6
      rw [← hdst] at hlk ⊢
      exact hK _ _ ⟨w', g', p', hlk, hJ.next hdist hx hDi hlt h1 h2 h3 h4 h5 h6 h8 (fun c y hc hy hye => by
        by_cases e1 : c = i
        · exact .inl e1
        · by_cases e2 : c < p
          · exact .inr (hJ.lo c y e2 hy hye)
          · exact absurd hye (h9 c y (by omega) hc hy)) (fun c y hc hy hye => ⟨by omega, hJ.hi c y (by omega) hy hye⟩) h10⟩
    have hszt : ∀ y, o.dst = some y → y < a1.tmps.size := fun y hy => Nat.lt_of_lt_of_le (hlt y (by rw [hdst]; exact hy)) hJ.size
    have hclosed : ∀ j oj, ops.toList[j]? = some oj → D j = true → ∀ l, Nat.testBit ((masks [] ops.toList).getD j 0) l = true → D l = true := fun j oj hj hDj => mask_closed hord hcl' j oj hj (hcl' j oj hj hDj)
    have hdefd : (∀ j, j < i → D j = true) → ∀ t, (∃ (j : Nat) (o : Oper), j < i ∧ ops.toList[j]? = some o ∧ o.dst = some t) → Rep ws g1 (evX (S i).1 (.t t)) (a1.eval (.tmp t)) := by
      rintro hall t ⟨j, oj, hji, hoj, hdj⟩
      obtain ⟨xj, hxj⟩ : ∃ x, xs[j]? = some x := ⟨xs[j]'(by have := (List.getElem?_eq_some_iff.1 hoj).1; omega), List.getElem?_eq_getElem _⟩
      have hdj' : xj.dst = some t := by rw [(idx j oj xj hoj hxj).1]; exact hdj
      rw [(hslot i hile t).1 j xj hji hxj hdj']
      exact hJ.done j xj t hxj hdj' (hall j hji)
    rw [hwant]
    rcases hL with ⟨hcl1, hww⟩ | ⟨k, bk, off, m, cap, us, hks, hB⟩
    · replace hww := hww.symm
      subst hww
      by_cases hkk : ks = some i
      · have sp := hsp i hkk
        obtain ⟨hx0, hx1, hx2⟩ := hsx i hkk
        obtain ⟨c1, c2⟩ := hc01 i hkk
        rw [hx] at hx0; injection hx0 with hx0; subst hx0
        obtain ⟨o1, ho1, _⟩ := sp.o1
        obtain ⟨o2, ho2, _⟩ := sp.o2
        obtain ⟨o', c, h1, hd0, hg0, hop, hcal, hargs, htys⟩ := sp.o0
        rw [ho'] at h1; injection h1 with h1; subst h1
        have hqt : q = true := by
          have : some true = some q := hq1
          injection this with this; exact this.symm
        subst hqt
        simp only [if_true]
        rcases hq3 with ⟨hf, _⟩ | ⟨_, hdo⟩
        · cases hf
        have hdo : aApp1 (S i).2 (S i).1 i0.size i0.bytes sx (.t sV) (.t sQ) (.t sU) = some (V i, (S (i + 1)).2) := hdo
        unfold aApp1 at hdo
        split at hdo <;> try cases hdo
        rename_i hc
        simp only [Bool.and_eq_true, natBeq, decide_eq_true_eq] at hc
        obtain ⟨⟨hc1, hc2⟩, hc3⟩ := hc
        obtain ⟨m, hm1, hm2⟩ := eqNO_ok hc2
        obtain ⟨z0, hz0⟩ := isOneA_ok hc3
        have hall : ∀ j, j < i → D j = true := fun j hj => before j (sp.before j hj)
        have hargsA : c.args = #[sS, .tmp sU] := by cases hc' : c.args; rw [hc'] at hargs; simp at hargs; rw [hargs]
        have hrs := hopnd (fun d hxd => by cases hxd) sS (by rw [hop]; simp [Op.operands, Call.operands, hcal, hargsA]) sx sp.sxo
        have hru := hopnd (fun d hxd => by cases hxd) (.tmp sU) (by rw [hop]; simp [Op.operands, Call.operands, hcal, hargsA]) (.t sU) rfl
        have hrq := hdefd hall sQ sp.dq
        have hrv := hdefd hall sV sp.dv
        obtain ⟨kk, hkq⟩ := natOf_eq hm1
        rw [hkq] at hrq
        have hvq := rep_int hrq
        obtain ⟨_, _, _, hz⟩ := sliceOf_ok hT sp.ti0
        obtain ⟨us, hu1, hu2, hu3, hu4⟩ := cells_of hrv hc1 hz
        obtain ⟨news, hsrc⟩ := src_of (P := P) hT sp.src hru hz0
        have hpi := hip rfl
        have hinv := hJ.inv
        have hext := hJ.ext
        rw [← hpi] at hinv hext
        obtain ⟨bk, off, cap, w', g', hrun, hth, hrep, hI', hE', hfrz⟩ := app1_core (ty := o.type) hT sp.ti0 hrs hsrc hu2 hu3 hc1 hm2 hdo hinv
        have hA' : c.args = #[sS, .tmp sU] := by cases hc' : c.args; rw [hc'] at hargs; simp at hargs; rw [hargs]
        have hB' : c.argTypes = #[tA, tU] := by cases hc' : c.argTypes; rw [hc'] at htys; simp at htys; rw [htys]
        have hexec : (execOp a1.eval o).run P w1 = .ok (.value (.slice (some ⟨bk, off, none⟩) (m + 1) cap)) w' := by
          simp [execOp, hop, resolve, hcal, hA', hB', invoke, builtin, hrun]
        have hneq : ∀ t, (∃ (j : Nat) (o : Oper), j < i ∧ ops.toList[j]? = some o ∧ o.dst = some t) → o.dst ≠ some t := by
          rintro t ⟨j, oj, hji, hoj, hdj⟩ he
          obtain ⟨xj, hxj⟩ : ∃ x, xs[j]? = some x := ⟨xs[j]'(by have := (List.getElem?_eq_some_iff.1 hoj).1; omega), List.getElem?_eq_getElem _⟩
          have := hdist j i xj _ t hxj hx (by rw [(idx j oj xj hoj hxj).1]; exact hdj) (by rw [hdst]; exact he)
          omega
        unfold Oper.wp
        rw [hexec]
        refine fin_e' rfl _ w' _ g' hrep hI' (hext.trans hE') hE'.le hE'.same (fun d k cs _ _ h5 h6 => by
          rw [← hpi] at h6
          exact (hE'.absent k _ h6 rfl h5).symm) (.inr ⟨i, bk, off, m, cap, us, hkk, ?_⟩)
        refine ⟨by simp, ?_, rfl, hth, hu4, hu3, ?_, ⟨kk, ?_⟩, ?_, fun h => ?_, hfrz⟩
        · have e : ¬ i + 2 = i := by omega
          simp only [e, if_false]
          cases h2 : D (i + 2) with
          | false => rfl
          | true =>
            have h3 := hclosed _ o1 ho1 (hclosed _ o2 ho2 h2 _ c2) _ c1
            rw [hDi] at h3; cases h3
        · rw [hd0, eval_put _ _ _ _ (hszt sA hd0), if_pos rfl]
        · rw [put_eval _ _ _ _ hszt (hneq sQ sp.dq)]; exact hvq
        · rw [put_eval _ _ _ _ hszt (hneq sV sp.dv)]; exact hu1
        · exfalso
          have e : ¬ i + 1 = i := by omega
          simp only [e, if_false] at h
          have h3 := hclosed _ o1 ho1 h _ c1
          rw [hDi] at h3; cases h3
      · have hA' : ∀ k, ks = some k → (if k = i then true else D k) = false ∨ (if k + 2 = i then true else D (k + 2)) = true := by
          intro k hk
          have hne : k ≠ i := fun e => hkk (by rw [← e]; exact hk)
          rcases hcl1 k hk with h | h
          · exact .inl (by rw [if_neg hne]; exact h)
          · exact .inr (by rw [h]; simp)
        have hplain : ∀ k, ks = some k → i < k ∨ k + 3 ≤ i := by
          intro k hk
          have hne : k ≠ i := fun e => hkk (by rw [← e]; exact hk)
          have sp := hsp k hk
          obtain ⟨c1, c2⟩ := hc01 k hk
          obtain ⟨o1, h3, _⟩ := sp.o1
          obtain ⟨o2, h5, _⟩ := sp.o2
          by_cases e1 : i = k + 1
          · subst e1
            have hDk := before k c1
            rcases hcl1 k hk with h | h
            · rw [hDk] at h; cases h
            · have := hclosed (k + 2) o2 h5 h (k + 1) c2
              rw [hDi] at this; cases this
          · by_cases e2 : i = k + 2
            · subst e2
              have hD1 := before (k + 1) c2
              have hDk := hclosed (k + 1) o1 h3 hD1 k c1
              rcases hcl1 k hk with h | h
              · rw [hDk] at h; cases h
              · rw [hDi] at h; cases h
            · omega
        have fin_ne : x.op.cl ≠ .eff → ∀ v w' g', Rep w' g' (V i) v → Inv base g' (S p).2 w' → Ext base g st w g' (S p).2 w' → g1.le g' → Same g1 w1 w' →
            (∀ d k cs, κ d = some k → x.dst ≠ some d → g1.key k = none → (S p).2.heap.get k = some (.box 0 cs) → g'.key k = none ∧ (S p).2.heap.get k = some (.box 0 cs)) → K (a1.put o.dst v) w' := fun h0 v w' g' h1 h2 h3 h4 h5 h6 => fin_ne' h0 v w' w' g' h1 h2 h3 h4 h5 h6 (.inl ⟨hA', rfl⟩)
        have fin_e : x.op.cl = .eff → ∀ v w' g', Rep w' g' (V i) v → Inv base g' (S (i + 1)).2 w' → Ext base g st w g' (S (i + 1)).2 w' → g1.le g' → Same g1 w1 w' →
            (∀ d k cs, κ d = some k → x.dst ≠ some d → g1.key k = none → (S p).2.heap.get k = some (.box 0 cs) → g'.key k = none ∧ (S (i + 1)).2.heap.get k = some (.box 0 cs)) → K (a1.put o.dst v) w' := fun h0 v w' g' h1 h2 h3 h4 h5 h6 => fin_e' h0 v w' w' g' h1 h2 h3 h4 h5 h6 (.inl ⟨hA', rfl⟩)
        rcases hq3 with ⟨rfl, hVi, hSi⟩ | ⟨rfl, hdo⟩
        · -- it is not wanted
          simp only [Bool.false_eq_true, if_false]
          by_cases he : x.op.cl = .eff
          · have hpi := hip he
            refine fin_e he undef w1 g1 (by rw [hVi]; exact rep_und) (by rw [hSi, hpi]; exact hJ.inv) (by rw [hSi, hpi]; exact hJ.ext) (.refl _) (fun _ _ _ => rfl) fun d k cs _ _ h1 h2 => ⟨h1, by rw [hSi, hpi]; exact h2⟩
          · exact fin_ne he undef w1 g1 (by rw [hVi]; exact rep_und) hJ.inv hJ.ext (.refl _) (fun _ _ _ => rfl) fun d k cs _ _ h1 h2 => ⟨h1, h2⟩
        · simp only [if_true]
          rcases hcase with hcomp0 | ⟨t, d, cs, ti, hop, hti, hz, hne, hxe, hog, hmem⟩
          · have hcomp := hcomp0 hplain
            have hself : ∀ d, x = ⟨some d, none, .p (.move (.t d))⟩ → κ d = none ∨ o.op.operands.toList = [] := by
              intro d hxd
              cases hk : κ d with
              | none => exact .inl rfl
              | some k =>
                obtain ⟨_, _, cs, hmm⟩ := hκ3 d k hk
                obtain ⟨i', o', t', h1, h2, _, h3⟩ := hmade d cs hmm
                have hii : i' = i := hdist i' i _ x d h3 hx rfl (by rw [hxd])
                subst hii
                rw [ho'] at h1; injection h1 with h1; subst h1
                exact .inr (by rw [h2]; rfl)
            have hρ := hopnd hself
            cases hxo : x.op with
            | p xp =>
              rw [hxo] at hcomp hdo
              obtain ⟨h1, _⟩ := okP_eq (show okP (S i).2 (doP (S i).1 xp) = some (V i, (S (i + 1)).2) from hdo)
              have hdo' : doX call (S p).2 (S i).1 (.p xp) = some (V i, (S p).2) := by
                show okP (S p).2 (doP (S i).1 xp) = _
                rw [h1]; rfl
              refine op_sound hT hcall hcomp hJ.inv hρ hdo' fun v w' g' h2 h3 h4 => ?_
              exact fin_ne (by rw [hxo]; exact fun h => by cases h) v w' g' h2 h3 (hJ.ext.trans h4) h4.le h4.same fun d k cs _ _ h5 h6 => (h4.absent k _ h6 rfl h5).symm
            | l xl =>
              rw [hxo] at hcomp hdo
              obtain ⟨h1, _⟩ := okP_eq (show okP (S i).2 (doL (S i).2.heap (S i).1 xl) = some (V i, (S (i + 1)).2) from hdo)
              have hcl2 : x.op.cl = .load := by rw [hxo]; rfl
              have hkey : ∀ key, keyRead (S i).1 x = some key → (S p).2.heap.get key = (S i).2.heap.get key := by
                intro key hk
                have hw' : wants (S i).1 x.guard = some true := hq1
                rcases Nat.le_total p i with hpi | hpi
                · refine (trc_key hV htr hwf0 i hpi hile fun c y hc hc' hy hye => ?_).symm
                  obtain ⟨oy, hoy⟩ := getO c y hy
                  have hDc := hJ.hi c y hc hy hye
                  have hcm : cmp (masks [] ops.toList) c i = false := by
                    cases hb : cmp (masks [] ops.toList) c i with
                    | false => rfl
                    | true =>
                      unfold cmp at hb
                      have e1 : Nat.max c i = i := by simp [Nat.max_def]; omega
                      have e2 : Nat.min c i = c := by simp [Nat.min_def]; omega
                      rw [e1, e2] at hb
                      have := before c hb
                      rw [hDc] at this; cases this
                  have hmem : (i, c) ∈ pairs := by
                    rw [← hps]
                    refine pairsOf_mem _ xs 0 c i y x hc' hy hx (i, c) ?_
                    rw [Nat.zero_add, Nat.zero_add]
                    unfold pairOf
                    rw [hye, hcl2]
                    simp [hcm]
                  exact hpairs i c x hmem hx (List.getElem?_eq_some_iff.1 hy).1 hw' key hk
                · refine trc_key hV htr hwf0 p hpi hJ.ple fun c y hc hc' hy hye => ?_
                  have hci : c ≠ i := fun e => by
                    subst e
                    rw [hx] at hy; injection hy with hy; subst hy
                    rw [hcl2] at hye; cases hye
                  obtain ⟨oy, hoy⟩ := getO c y hy
                  have hDc := hJ.lo c y hc' hy hye
                  have hcm : cmp (masks [] ops.toList) i c = false := by
                    cases hb : cmp (masks [] ops.toList) i c with
                    | false => rfl
                    | true =>
                      unfold cmp at hb
                      have e1 : Nat.max i c = c := by simp [Nat.max_def]; omega
                      have e2 : Nat.min i c = i := by simp [Nat.min_def]; omega
                      rw [e1, e2] at hb
                      have := after_ c oy hoy hb
                      rw [hDc] at this; cases this
                  have hmem : (i, c) ∈ pairs := by
                    rw [← hps]
                    refine pairsOf_mem _ xs 0 i c x y (by omega) hx hy (i, c) ?_
                    rw [Nat.zero_add, Nat.zero_add]
                    unfold pairOf
                    rw [hye, hcl2]
                    simp [hcm]
                  exact hpairs i c x hmem hx (List.getElem?_eq_some_iff.1 hy).1 hw' key hk
              have hdo' : doX call (S p).2 (S i).1 (.l xl) = some (V i, (S p).2) := by
                show okP (S p).2 (doL (S p).2.heap (S i).1 xl) = _
                rw [doL_congr hxo hkey, h1]; rfl
              refine op_sound hT hcall hcomp hJ.inv hρ hdo' fun v w' g' h2 h3 h4 => ?_
              exact fin_ne (by rw [hcl2]; exact fun h => by cases h) v w' g' h2 h3 (hJ.ext.trans h4) h4.le h4.same fun d k cs _ _ h5 h6 => (h4.absent k _ h6 rfl h5).symm
            | e xe =>
              have hcl2 : x.op.cl = .eff := by rw [hxo]; rfl
              have hpi := hip hcl2
              rw [hxo] at hcomp hdo
              have hinv := hJ.inv
              have hext := hJ.ext
              rw [← hpi] at hinv hext
              refine op_sound hT hcall hcomp hinv hρ hdo fun v w' g' h2 h3 h4 => ?_
              exact fin_e hcl2 v w' g' h2 h3 (hext.trans h4) h4.le h4.same fun d k cs _ _ h5 h6 => by
                rw [← hpi] at h6
                exact (h4.absent k _ h6 rfl h5).symm
          · -- a variable that was made ahead
            obtain ⟨k, hk, _⟩ := hκ2 d cs hmem
            have hdx : x.dst = some d := by rw [hxe]
            have hno : ∀ (j : Nat) (y : XR), j < i → xs[j]? = some y → y.dst ≠ some d := fun j y hj hy hd' => by
              have := hdist j i y x d hy hx hd' hdx; omega
            have hVi : V i = .ptr k 0 := by
              rw [hxe] at hdo
              obtain ⟨h1, _⟩ := okP_eq (show okP (S i).2 (some (evX (S i).1 (.t d))) = some (V i, (S (i + 1)).2) from hdo)
              injection h1 with h1
              rw [← h1, (hslot i hile d).2 hno, hS0]
              have := hκ1 d
              rw [hk] at this; exact this
            obtain ⟨hgk, hget⟩ := hJ.hoi d k cs hk hmem fun j y hy hdy => by
              have := hdist j i y x d hy hx hdy hdx
              rw [this]; exact hDi
            obtain ⟨inf, z, h2, h3, h4, h5, h6, h7, h8⟩ := (hT t ti hti).info
            obtain ⟨us, h9, h10, h11⟩ := (h6 w1 g1).cells (by rw [hz]; exact hne)
            rw [hz] at h10
            obtain ⟨g', h12, h13, h14, h15, h16, h19⟩ := hJ.inv.realize hget hgk h10 h11 t
            have hrun : (execOp a1.eval o).run P w1 = .ok (.value (.pointer (some ⟨w1.heap.size, 0, none⟩))) (w1.alloc (.cells us.toArray t)) := by
              simp [execOp, hop, Instr.alloc, Sem.run_bind, zeroValue, typeInfo, h2, h5, newVar, newRow, h9]
            unfold Oper.wp
            rw [hrun]
            refine fin_ne (by rw [hxe]; exact fun h => by cases h) (.pointer (some ⟨w1.heap.size, 0, none⟩)) _ g' (by rw [hVi]; exact .ptr k 0 _ (by rw [h13]; simp)) h12 ⟨hJ.ext.le.trans h14, hJ.ext.same.trans hJ.ext.le h15, hJ.ext.below.trans h16, hJ.ext.next, fun b i hx => hJ.ext.fnew b i (h19 b i hx), fun k0 e0 hk0 he0 hn0 => ?_⟩ h14 h15
              fun d' k' cs' hk' hne' h17 h18 => ⟨?_, h18⟩
            · obtain ⟨h17, h18⟩ := hJ.ext.absent k0 e0 hk0 he0 hn0
              refine ⟨h17, ?_⟩
              rw [h13]
              have hlt0 := hI.entLt k0 e0 hk0
              have hge := (hκ3 d k hk).1
              have : k0 ≠ k := by omega
              simp [this, h18]
            · rw [h13]
              have : k' ≠ k := fun e => by
                subst e
                exact hne' (by rw [hdx, hκ4 d d' k' hk hk'])
              simp [this, h17]
    · have sp := hsp k hks
      obtain ⟨hx0, hx1, hx2⟩ := hsx k hks
      obtain ⟨c1, c2⟩ := hc01 k hks
      have hik : i ≠ k := by
        rintro rfl
        rw [hB.dk] at hDi; cases hDi
      obtain ⟨ok, ck, hok, _⟩ := sp.o0
      have hki : k < i := by
        rcases Nat.lt_or_ge k i with h | h
        · exact h
        · have := hclosed k ok hok hB.dk i (sp.before i (by omega))
          rw [hDi] at this; cases this
      have hneq : ∀ t, (∃ (j : Nat) (o : Oper), j < k ∧ ops.toList[j]? = some o ∧ o.dst = some t) → o.dst ≠ some t := by
        rintro t ⟨j, oj, hji, hoj, hdj⟩ he
        obtain ⟨xj, hxj⟩ : ∃ x, xs[j]? = some x := ⟨xs[j]'(by have := (List.getElem?_eq_some_iff.1 hoj).1; omega), List.getElem?_eq_getElem _⟩
        have := hdist j i xj _ t hxj hx (by rw [(idx j oj xj hoj hxj).1]; exact hdj) (by rw [hdst]; exact he)
        omega
      have hnA : o.dst ≠ some sA := fun he => hik (hdist i k x _ sA hx hx0 (by rw [hdst]; exact he) rfl)
      have hgt : ∀ (h : o.guard = none), q = true := by
        intro h
        rcases hgd with ⟨_, h2⟩ | ⟨j, b, d, h2, _⟩
        · rw [h2] at hq1
          have : some true = some q := hq1
          injection this with this; exact this.symm
        · rw [h] at h2; cases h2
      by_cases e1 : i = k + 1
      · subst e1
        rw [hx] at hx1; injection hx1 with hx1; subst hx1
        obtain ⟨o', h1, hd1, hg1, hop⟩ := sp.o1
        rw [ho'] at h1; injection h1 with h1; subst h1
        have hqt := hgt hg1
        subst hqt
        simp only [if_true]
        rcases hq3 with ⟨hf, _⟩ | ⟨_, hdo⟩
        · cases hf
        have hVi : V (k + 1) = .any := by
          obtain ⟨h3, _⟩ := okP_eq (show okP (S (k + 1)).2 (some AV.any) = some (V (k + 1), (S (k + 1 + 1)).2) from hdo)
          injection h3 with h3; exact h3.symm
        obtain ⟨kk, hvq⟩ := hB.vq
        have hrun := run_last (P := P) hT sp.ti1 hop hB.va hvq w1
        rw [sp.s1] at hrun
        unfold Oper.wp
        rw [hrun]
        refine fin_ne' (fun h => by cases h) _ w1 ws g1 (by rw [hVi]; exact .any _) hJ.inv hJ.ext (.refl _) (fun _ _ _ => rfl) (fun d k cs _ _ h5 h6 => ⟨h5, h6⟩) (.inr ⟨k, bk, off, m, cap, us, hks, ?_⟩)
        refine ⟨by simp [hB.dk], by simp [hB.d2], hB.ws, hB.th, hB.len, hB.one, ?_, ⟨kk, ?_⟩, ?_, fun h => ?_, hB.frz⟩
        · rw [put_eval _ _ _ _ hszt hnA]; exact hB.va
        · rw [put_eval _ _ _ _ hszt (hneq sQ sp.dq)]; exact hvq
        · rw [put_eval _ _ _ _ hszt (hneq sV sp.dv)]; exact hB.vv
        · rw [hd1, eval_put _ _ _ _ (hszt sB hd1), if_pos rfl]
      by_cases e2 : i = k + 2
      · subst e2
        rw [hx] at hx2; injection hx2 with hx2; subst hx2
        obtain ⟨o', h1, hd2, hg2, hop⟩ := sp.o2
        rw [ho'] at h1; injection h1 with h1; subst h1
        have hqt := hgt hg2
        subst hqt
        simp only [if_true]
        rcases hq3 with ⟨hf, _⟩ | ⟨_, hdo⟩
        · cases hf
        have hVi : V (k + 2) = und := by
          obtain ⟨h3, _⟩ := okP_eq (show okP (S (k + 2)).2 (some und) = some (V (k + 2), (S (k + 2 + 1)).2) from hdo)
          injection h3 with h3; exact h3.symm
        have hrun := run_late (P := P) (w := w1) hT sp.ti2 hop (hB.vb (before (k + 1) c2)) hB.vv (by rw [sp.s2]; exact hB.len) hB.one hB.th
        rw [← hB.ws] at hrun
        unfold Oper.wp
        rw [hrun]
        exact fin_ne' (fun h => by cases h) undef ws ws g1 (by rw [hVi]; exact rep_und) hJ.inv hJ.ext (.refl _) (fun _ _ _ => rfl) (fun d k cs _ _ h5 h6 => ⟨h5, h6⟩) (.inl ⟨fun k' hk' => by
          rw [hks] at hk'; injection hk' with hk'; subst hk'
          exact .inr (by simp), rfl⟩)
      have h3 : k + 3 ≤ i := by omega
      have htl := sp.tail i o h3 ho'
      unfold tailOk at htl
      simp only [Bool.and_eq_true] at htl
      obtain ⟨htg, hto⟩ := htl
      have hog : o.guard = none := by simpa using htg
      have hqt := hgt hog
      subst hqt
      simp only [if_true]
      rcases hq3 with ⟨hf, _⟩ | ⟨_, hdo⟩
      · cases hf
      have hop3 : (∃ y, o.op = .nilCheck y) ∨ (∃ t y f, o.op = .fieldAddr t y f) ∨ ∃ t y z, o.op = .store t y z := by
        revert hto
        cases o.op <;> simp
      have hnB : o.dst ≠ some sB := fun he => e1 (hdist i (k + 1) x _ sB hx hx1 (by rw [hdst]; exact he) rfl)
      have hcomp : compOp T kd o.op = some x.op := by
        rcases hcase with h | ⟨t, d, cs, ti, h, _⟩
        · exact h fun k' hk' => by rw [hks] at hk'; injection hk' with hk'; subst hk'; exact .inr h3
        · rcases hop3 with ⟨y, h2⟩ | ⟨_, _, _, h2⟩ | ⟨_, _, _, h2⟩ <;> (rw [h] at h2; cases h2)
      rcases hop3 with ⟨y, hop⟩ | ⟨t, y, f, hop⟩ | ⟨t, y, z, hop⟩
      · rw [hop] at hcomp
        obtain ⟨xa, ha, hcomp⟩ := opt_eq hcomp
        injection hcomp with hcomp
        rw [← hcomp] at hdo
        obtain ⟨h4, _⟩ := okP_eq (show okP (S i).2 (xNilc (evX (S i).1 xa)) = some (V i, (S (i + 1)).2) from hdo)
        obtain ⟨v, hrun, hrep⟩ := tail_nilc (P := P) hop ha (hopnd (fun d hxd => by rw [hxd] at hcomp; cases hcomp) y (by rw [hop]; simp [Op.operands])) h4
        unfold Oper.wp
        rw [hrun w1]
        exact fin_ne' (by rw [← hcomp]; exact fun h => by cases h) v w1 ws g1 hrep hJ.inv hJ.ext (.refl _) (fun _ _ _ => rfl) (fun d k cs _ _ h5 h6 => ⟨h5, h6⟩) (.inr ⟨k, bk, off, m, cap, us, hks, hB.put e1 e2 hszt hnA hnB (hneq sQ sp.dq) (hneq sV sp.dv) hB.ws hB.th (.refl _)⟩)
      · rw [hop] at hcomp
        obtain ⟨fi, hfi, hcomp⟩ := opt_eq hcomp
        obtain ⟨xa, ha, hcomp⟩ := opt_eq hcomp
        injection hcomp with hcomp
        rw [← hcomp] at hdo
        obtain ⟨h4, _⟩ := okP_eq (show okP (S i).2 (xFaddr fi.1 (evX (S i).1 xa)) = some (V i, (S (i + 1)).2) from hdo)
        obtain ⟨v, hrun, hrep⟩ := tail_faddr (P := P) hT hop hfi ha (hopnd (fun d hxd => by rw [hxd] at hcomp; cases hcomp) y (by rw [hop]; simp [Op.operands])) h4
        unfold Oper.wp
        rw [hrun w1]
        exact fin_ne' (by rw [← hcomp]; exact fun h => by cases h) v w1 ws g1 hrep hJ.inv hJ.ext (.refl _) (fun _ _ _ => rfl) (fun d k cs _ _ h5 h6 => ⟨h5, h6⟩) (.inr ⟨k, bk, off, m, cap, us, hks, hB.put e1 e2 hszt hnA hnB (hneq sQ sp.dq) (hneq sV sp.dv) hB.ws hB.th (.refl _)⟩)
      · rw [hop] at hcomp
        obtain ⟨ti, hti, hcomp⟩ := opt_eq hcomp
        cases hzb : Nat.beq ti.size 0 with
        | true => simp only [hzb] at hcomp; cases hcomp
        | false =>
        simp only [hzb] at hcomp
        obtain ⟨xa, ha, hcomp⟩ := opt_eq hcomp
        obtain ⟨xc, hc, hcomp⟩ := opt_eq hcomp
        injection hcomp with hcomp
        rw [← hcomp] at hdo
        have hzt : ti.size ≠ 0 := by
          rw [natBeq] at hzb
          simpa using hzb
        have hxe : x.op.cl = .eff := by rw [← hcomp]; rfl
        have hpi := hip hxe
        have hinv := hJ.inv
        have hext := hJ.ext
        rw [← hpi] at hinv hext
        have hself : ∀ d, x = ⟨some d, none, .p (.move (.t d))⟩ → κ d = none ∨ o.op.operands.toList = [] := fun d hxd => by rw [hxd] at hcomp; cases hcomp
        obtain ⟨hund, b', off', us', hrun, hth', hlt', hnf, hI', hE'⟩ := tail_store (P := P) hT hop hinv hti hzt ha hc (hopnd hself y (by rw [hop]; simp [Op.operands])) (hopnd hself z (by rw [hop]; simp [Op.operands])) (show xStore (S i).2 ti.size (evX (S i).1 xa) (evX (S i).1 xc) = some (V i, (S (i + 1)).2) from hdo)
        obtain ⟨_, _, _, hz⟩ := sliceOf_ok hT sp.ti0
        have hbb : bk ≠ b' := by
          rintro rfl
          exact hnf _ (hB.frz 0 (by rw [hB.len]; omega))
        have hsz1 : ws.heap.size = w1.heap.size := by rw [hB.ws, size_setCells']
        have hblk : w1.heap[b']? = ws.heap[b']? := by
          rw [hB.ws]
          exact (World.heap_setCells_other w1 bk _ us (by omega) (fun e => hbb e.symm)).symm
        have hth1 := there_block hth' hblk
        unfold Oper.wp
        rw [hrun w1 hth1]
        refine fin_e' hxe undef _ _ g1 (by rw [hund]; exact rep_und) hI' (hext.trans hE') hE'.le hE'.same (fun d k cs _ _ h5 h6 => by
          rw [← hpi] at h6
          exact (hE'.absent k _ h6 rfl h5).symm) (.inr ⟨k, bk, off, m, cap, us, hks, hB.put e1 e2 hszt hnA hnB (hneq sQ sp.dq) (hneq sV sp.dv) ?_ (World.there_setCells hB.th _ _ _) (.refl _)⟩)
        rw [hB.ws]
        exact setCells_comm bk b' hbb us _ us' off' w1
  · -- the end
    rintro D a1 w1 hall ⟨ws, g1, p, hL, hJ⟩
    have hww : w1 = ws := by
      rcases hL with ⟨_, h⟩ | ⟨k, bk, off, m, cap, us, hks, hB⟩
      · exact h.symm
      · obtain ⟨o2, h5, _⟩ := (hsp k hks).o2
        have h6 := hall (k + 2) (by have := (List.getElem?_eq_some_iff.1 h5).1; simpa using this)
        rw [hB.d2] at h6; cases h6
    subst hww
    have hpN : p = xs.length := by
      rcases hJ.pe with h | ⟨x, hx, he⟩
      · exact h
      · have hlt : p < ops.size := by have := (List.getElem?_eq_some_iff.1 hx).1; have := hlen; simp at this; omega
        have := hJ.hi p x (Nat.le_refl _) hx he
        rw [hall p hlt] at this; cases this
    subst hpN
    have hallx : ∀ (j : Nat) (y : XR), xs[j]? = some y → D j = true := fun j y hy => hall j (by have := (List.getElem?_eq_some_iff.1 hy).1; have := hlen; simp at this; omega)
    refine hQ a1 w1 g1 ⟨hJ.defers, hJ.size, fun t => ?_⟩ (by have := hJ.inv; rw [hSN] at this; exact this) (by have := hJ.ext; rw [hSN] at this; exact this)
    have hs' := hslot xs.length (Nat.le_refl _) t
    rw [hSN] at hs'
    by_cases hw : ∃ (j : Nat) (xj : XR), xs[j]? = some xj ∧ xj.dst = some t
    · obtain ⟨j, xj, hxj, hdj⟩ := hw
      rw [hs'.1 j xj (List.getElem?_eq_some_iff.1 hxj).1 hxj hdj]
      exact hJ.done j xj t hxj hdj (hallx j xj hxj)
    · have hno : ∀ (j : Nat) (y : XR), xs[j]? = some y → y.dst ≠ some t := fun j y hy' hd' => hw ⟨j, y, hy', hd'⟩
      have hκt : κ t = none := by
        cases hk : κ t with
        | none => rfl
        | some k =>
          obtain ⟨i', x', hx', he'⟩ := hκw t k hk
          exact absurd (by rw [he']) (hno i' x' hx')
      rw [hs'.2 fun j y _ => hno j y, start t hκt]
      exact hJ.old t fun j y hy' hd' => absurd hd' (hno j y hy')
end
end Go.Ev
namespace Go.Ev
open Go.RowKit
set_option linter.unusedVariables false

section
variable {P : Program} {T : Nat → Option TI} {base : Nat}
def exOf : Ex → Exit
  | .norm => .normal
  | .exit id => .exit id
  | .ret => .ret
/-- What holds where the code is left. -/
def Ends (base : Nat) (g : G) (st : St) (w : World) (n : Nat) (Q : Exit → Act → World → Prop) (e : Ex) (tm' : Tr AV) (st' : St) : Prop :=
  ∀ a' w' g', Slots w' g' n tm' a' → Inv base g' st' w' → Ext base g st w g' st' w' → Q (exOf e) a' w'
/-- The law of a region that draws. -/
def RegDS (P : Program) (T : Nat → Option TI) (base : Nat) (call : Cal) : Prop :=
  ∀ (kd : Bool) (n id : Nat) (ops : Array Oper) (xs0 xs : List XR) (hs : List (Nat × List AV)) (pairs : List (Nat × Nat)), compR T kd n ops.toList ops.toList = some xs0 → compDS T ops.toList xs0 = some (.regd hs xs pairs) →
  ∀ (tm : Tr AV) (st : St) (tm' : Tr AV) (st' : St), runD call xs pairs (hoist hs tm st).1 (hoist hs tm st).2 = some (tm', st') →
  ∀ (a : Act) (w : World) (g : G), Slots w g n tm a → Inv base g st w → ∀ (Q : Exit → Act → World → Prop), Ends base g st w n Q .norm tm' st' → (Code.region id ops true).wp P Q a w
theorem compD_regd {ops : List Oper} {xs0 : List XR} {x : XC} (h : compD ops xs0 = some x) : ∃ hs xs ps, x = .regd hs xs ps := by
  unfold compD at h
  split at h
  · injection h with h; exact ⟨_, _, _, h.symm⟩
  · cases h
theorem compS_regd {ops : List Oper} {xs0 : List XR} {x : XC} (h : compS T ops xs0 = some x) : ∃ hs xs ps, x = .regd hs xs ps := by
  unfold compS at h
  obtain ⟨_, _, h⟩ := opt_eq h
  obtain ⟨_, _, h⟩ := opt_eq h
  obtain ⟨_, _, h⟩ := opt_eq h
  obtain ⟨_, _, h⟩ := opt_eq h
  obtain ⟨_, _, h⟩ := opt_eq h
  obtain ⟨_, _, h⟩ := opt_eq h
  obtain ⟨_, _, h⟩ := opt_eq h
  obtain ⟨_, _, h⟩ := opt_eq h
  split at h
  · split at h
    · cases h
    · exact compD_regd h
  · cases h
theorem compDS_regd {ops : List Oper} {xs0 : List XR} {x : XC} (h : compDS T ops xs0 = some x) : ∃ hs xs ps, x = .regd hs xs ps := by
  unfold compDS at h
  split at h
  · injection h with h; subst h; exact compD_regd (by assumption)
  · exact compS_regd h
theorem andThen_ok {r : R} {f : Tr AV → St → R} {e : Ex} {tm' : Tr AV} {st' : St} (h : r.andThen f = .ok e tm' st') : (∃ tm1 st1, r = .ok .norm tm1 st1 ∧ f tm1 st1 = .ok e tm' st') ∨ (r = .ok e tm' st' ∧ exOf e ≠ .normal) := by
  cases r with
  | fail => cases h
  | ok e1 tm1 st1 => cases e1 with
    | norm => exact .inl ⟨tm1, st1, rfl, h⟩
    | exit id =>
      have h : R.ok (.exit id) tm1 st1 = .ok e tm' st' := h
      injection h with h1 h2 h3
      subst h1 h2 h3
      exact .inr ⟨rfl, fun h => by cases h⟩
    | ret =>
      have h : R.ok .ret tm1 st1 = .ok e tm' st' := h
      injection h with h1 h2 h3
      subst h1 h2 h3
      exact .inr ⟨rfl, fun h => by cases h⟩
theorem then_of {next : Act → World → Prop} {Q : Exit → Act → World → Prop} {e : Exit} {a : Act} {w : World} (he : e ≠ .normal) (h : Q e a w) : Exit.then next Q e a w := by
  cases e <;> first | exact h | exact absurd rfl he
theorem exec_wp (hT : TabOk P T) {call : Cal} (hcall : CallOk P base call) (hD : RegDS P T base call) (lim : Nat) {kd : Nat → Bool} {n : Nat} : ∀ (c : Code) (x : XC), compC T kd n c = some x → ∀ (tm : Tr AV) (st : St) (e : Ex) (tm' : Tr AV) (st' : St), execX call lim x tm st = .ok e tm' st' →
    ∀ (a : Act) (w : World) (g : G), Slots w g n tm a → Inv base g st w → ∀ (Q : Exit → Act → World → Prop), Ends base g st w n Q e tm' st' → c.wp P Q a w := by
  intro c
  induction c with
  | skip =>
    intro x hc tm st e tm' st' hr a w g hS hI Q hQ
    injection hc with hc; subst hc
    have hr : R.ok .norm tm st = .ok e tm' st' := hr
    injection hr with h1 h2 h3
    subst h1 h2 h3
    exact wp_skip (hQ a w g hS hI (.refl ..))
  | region id ops draw =>
    intro x hc tm st e tm' st' hr a w g hS hI Q hQ
    unfold compC at hc
    obtain ⟨xs0, h1, hc⟩ := opt_eq hc
    cases draw with
    | true =>
      have hc : compDS T ops.toList xs0 = some x := hc
      obtain ⟨hs, xs, ps, rfl⟩ := compDS_regd hc
      have hr : R.of (runD call xs ps (hoist hs tm st).1 (hoist hs tm st).2) = .ok e tm' st' := hr
      cases hq : runD call xs ps (hoist hs tm st).1 (hoist hs tm st).2 with
      | none => rw [hq] at hr; cases hr
      | some p =>
        obtain ⟨tm1, st1⟩ := p
        rw [hq] at hr
        have hr : R.ok .norm tm1 st1 = .ok e tm' st' := hr
        injection hr with h2 h3 h4
        subst h2 h3 h4
        exact hD _ n id ops xs0 xs hs ps h1 hc tm st tm1 st1 hq a w g hS hI Q hQ
    | false =>
      have hc : some (XC.reg xs0) = some x := hc
      injection hc with hc; subst hc
      have hr : R.of (runX call xs0 tm st) = .ok e tm' st' := hr
      cases hq : runX call xs0 tm st with
      | none => rw [hq] at hr; cases hr
      | some p =>
        obtain ⟨tm1, st1⟩ := p
        rw [hq] at hr
        have hr : R.ok .norm tm1 st1 = .ok e tm' st' := hr
        injection hr with h2 h3 h4
        subst h2 h3 h4
        exact wp_region_list (runX_wp hT hcall ops.toList xs0 tm st tm1 st1 h1 hq a w g hS hI hQ)
  | seq c d ic id =>
    intro x hc tm st e tm' st' hr a w g hS hI Q hQ
    unfold compC at hc
    obtain ⟨y, h1, hc⟩ := opt_eq hc
    obtain ⟨z, h2, hc⟩ := opt_eq hc
    injection hc with hc; subst hc
    have hr : (execX call lim y tm st).andThen (execX call lim z) = .ok e tm' st' := hr
    refine wp_seq ?_
    rcases andThen_ok hr with ⟨tm1, st1, h3, h4⟩ | ⟨h3, he⟩
    · refine ic y h1 tm st .norm tm1 st1 h3 a w g hS hI _ fun a1 w1 g1 hS1 hI1 hE1 => ?_
      exact id z h2 tm1 st1 e tm' st' h4 a1 w1 g1 hS1 hI1 Q fun a2 w2 g2 hS2 hI2 hE2 => hQ a2 w2 g2 hS2 hI2 (hE1.trans hE2)
    · exact ic y h1 tm st e tm' st' h3 a w g hS hI _ fun a1 w1 g1 hS1 hI1 hE1 => then_of he (hQ a1 w1 g1 hS1 hI1 hE1)
  | cond b c d ic id =>
    intro x hc tm st e tm' st' hr a w g hS hI Q hQ
    unfold compC at hc
    obtain ⟨xb, h0, hc⟩ := opt_eq hc
    obtain ⟨y, h1, hc⟩ := opt_eq hc
    obtain ⟨z, h2, hc⟩ := opt_eq hc
    injection hc with hc; subst hc
    have hr : condV (evX tm xb) (execX call lim y tm st) (execX call lim z tm st) = .ok e tm' st' := hr
    have hb := hS.opnd b xb h0
    unfold condV at hr
    split at hr
    · rename_i hv
      rw [hv] at hb
      exact wp_cond (rep_bool hb) (ic y h1 tm st e tm' st' hr a w g hS hI Q hQ)
    · rename_i hv
      rw [hv] at hb
      exact wp_cond (rep_bool hb) (id z h2 tm st e tm' st' hr a w g hS hI Q hQ)
    · cases hr
  | block id c ic =>
    intro x hc tm st e tm' st' hr a w g hS hI Q hQ
    unfold compC at hc
    obtain ⟨y, h1, hc⟩ := opt_eq hc
    injection hc with hc; subst hc
    have hr : (execX call lim y tm st).block id = .ok e tm' st' := hr
    refine wp_block ?_
    cases hq : execX call lim y tm st with
    | fail => rw [hq] at hr; cases hr
    | ok e1 tm1 st1 =>
      rw [hq] at hr
      refine ic y h1 tm st e1 tm1 st1 hq a w g hS hI _ ?_
      cases e1 with
      | norm =>
        have hr : R.ok .norm tm1 st1 = .ok e tm' st' := hr
        injection hr with h2 h3 h4
        subst h2 h3 h4
        exact hQ
      | ret =>
        have hr : R.ok .ret tm1 st1 = .ok e tm' st' := hr
        injection hr with h2 h3 h4
        subst h2 h3 h4
        exact hQ
      | exit i =>
        have hr : (match Nat.beq i id with | true => R.ok .norm tm1 st1 | false => R.ok (.exit i) tm1 st1) = .ok e tm' st' := hr
        rw [natBeq] at hr
        intro a' w' g' hS' hI' hE'
        show if i = id then Q .normal a' w' else Q (.exit i) a' w'
        by_cases hi : i = id
        · rw [if_pos hi]
          simp only [hi, decide_true] at hr
          injection hr with h2 h3 h4
          subst h2 h3 h4
          exact hQ a' w' g' hS' hI' hE'
        · rw [if_neg hi]
          simp only [hi, decide_false] at hr
          injection hr with h2 h3 h4
          subst h2 h3 h4
          exact hQ a' w' g' hS' hI' hE'
  | loop c ic =>
    intro x hc tm st e tm' st' hr a w g hS hI Q hQ
    unfold compC at hc
    obtain ⟨y, h1, hc⟩ := opt_eq hc
    injection hc with hc; subst hc
    have hr : loopN (execX call lim y) lim tm st = .ok e tm' st' := hr
    have key : ∀ (m : Nat) (tm : Tr AV) (st : St), loopN (execX call lim y) m tm st = .ok e tm' st' → ∀ (a : Act) (w : World) (g : G), Slots w g n tm a → Inv base g st w → Ends base g st w n Q e tm' st' → Code.rounds P c Q m a w := by
      intro m
      induction m with
      | zero => intro tm st hr; cases hr
      | succ m ih =>
        intro tm st hr a w g hS hI hQ
        have hr : (execX call lim y tm st).andThen (loopN (execX call lim y) m) = .ok e tm' st' := hr
        rw [rounds_succ]
        rcases andThen_ok hr with ⟨tm1, st1, h3, h4⟩ | ⟨h3, he⟩
        · refine ic y h1 tm st .norm tm1 st1 h3 a w g hS hI _ fun a1 w1 g1 hS1 hI1 hE1 => ?_
          exact ih tm1 st1 h4 a1 w1 g1 hS1 hI1 fun a2 w2 g2 hS2 hI2 hE2 => hQ a2 w2 g2 hS2 hI2 (hE1.trans hE2)
        · exact ic y h1 tm st e tm' st' h3 a w g hS hI _ fun a1 w1 g1 hS1 hI1 hE1 => then_of he (hQ a1 w1 g1 hS1 hI1 hE1)
    exact wp_loop_rounds lim (key lim tm st hr a w g hS hI hQ)
  | exit id =>
    intro x hc tm st e tm' st' hr a w g hS hI Q hQ
    injection hc with hc; subst hc
    have hr : R.ok (.exit id) tm st = .ok e tm' st' := hr
    injection hr with h1 h2 h3
    subst h1 h2 h3
    exact wp_exit (hQ a w g hS hI (.refl ..))
  | ret =>
    intro x hc tm st e tm' st' hr a w g hS hI Q hQ
    injection hc with hc; subst hc
    have hr : R.ok .ret tm st = .ok e tm' st' := hr
    injection hr with h1 h2 h3
    subst h1 h2 h3
    exact wp_ret (hQ a w g hS hI (.refl ..))
  | _ => intro x hc; cases hc
end
end Go.Ev
namespace Go.Ev
open Go.RowKit
set_option linter.unusedVariables false

section
variable {P : Program} {T : Nat → Option TI} {base : Nat} {g : G} {st : St} {w : World} {tm : Tr AV} {n : Nat} {a : Act}
def resVar (tmps : Array Value) : ResultVar → Sem Value
  | .tmp t => pure (tmps.getD t undef)
  | .cell a t => do loadVar t (← asAddr (tmps.getD a undef))
def resV : List Value → Value
  | [v] => v
  | us => .tuple us.toArray
theorem results_run {fn : Func} {tmps : Array Value} {us : List Value} (h : (fn.results.toList.mapM (resVar tmps)).run P w = .ok us w) :
    (results fn tmps).run P w = .ok (resV us) w := by
  have e : (fn.results.mapM (resVar tmps)).run P w = .ok us.toArray w := by
    rw [Array.mapM_eq_mapM_toList]
    simp [h]
  have e2 : results fn tmps = (fn.results.mapM (resVar tmps)) >>= fun vs => pure (if h : vs.size = 1 then vs[0] else .tuple vs) := rfl
  rw [e2, Sem.run_bind, e]
  match us with
  | [] => rfl
  | [v] => rfl
  | x :: y :: l => simp [resV]
def res1 (T : Nat → Option TI) : ResultVar → Option XRes
  | .tmp t => some (.t t)
  | .cell a t => opt (T t) fun i => match aggOf i, Nat.beq i.size 1 with
      | true, _ => some (.cell a i.size true)
      | false, true => some (.cell a 1 false)
      | false, false => none
theorem res_sound (hT : TabOk P T) (hS : Slots w g n tm a) (hI : Inv base g st w) {r : ResultVar} {x : XRes} (hc : res1 T r = some x) {v : AV} (hv : resOf tm st x = some v) : ∃ u, (resVar a.tmps r).run P w = .ok u w ∧ Rep w g v u := by
  cases r with
  | tmp t =>
    injection hc with hc; subst hc
    injection hv with hv; subst hv
    exact ⟨a.tmps.getD t undef, by simp [resVar], hS.rep t⟩
  | cell c t =>
    obtain ⟨i, hi, hc⟩ := opt_eq hc
    have hx : ∃ s, x = .cell c s (aggOf i) ∧ (∀ cs off, partOf s (aggOf i) cs off = partOf i.size (aggOf i) cs off) := by
      cases ha : aggOf i with
      | true => rw [ha] at hc; injection hc with hc; exact ⟨_, hc.symm, fun _ _ => rfl⟩
      | false =>
        rw [ha] at hc
        cases hb : Nat.beq i.size 1 with
        | true => rw [hb] at hc; injection hc with hc; exact ⟨_, hc.symm, fun cs off => by rw [partOf_one, partOf_one]⟩
        | false => rw [hb] at hc; cases hc
    obtain ⟨s, rfl, hs⟩ := hx
    have hv : (match evX tm (.t c) with
      | .ptr key off => match cellsAt st.heap key with
        | some cs => partOf s (aggOf i) cs off
        | none => none
      | _ => none) = some v := hv
    split at hv <;> try cases hv
    rename_i key off he
    cases hcs : cellsAt st.heap key with
    | none => rw [hcs] at hv; cases hv
    | some cs =>
    rw [hcs] at hv
    have hv : partOf s (aggOf i) cs off = some v := hv
    rw [hs] at hv
    have h1 := hS.rep c
    rw [he] at h1
    obtain ⟨b, hb, hval⟩ := rep_ptr h1
    obtain ⟨_, vs, h2, h3, h4, _⟩ := box_row hI hcs hb
    obtain ⟨u, hu, hr⟩ := load_rep (hT t i hi) h2 h3 hv h4
    rw [Nat.zero_add] at hu
    refine ⟨u, ?_, hr⟩
    have hval : a.tmps.getD c undef = .pointer (some ⟨b, off, none⟩) := hval
    have hu : (Instr.loadAt t (.pointer (some ⟨b, off, none⟩))).run P w = .ok u w := hu
    simp only [Instr.loadAt, Instr.sureAddr, pure_bind] at hu
    simp only [resVar, hval, asAddr, pure_bind]
    exact hu
theorem resL_sound (hT : TabOk P T) (hS : Slots w g n tm a) (hI : Inv base g st w) : ∀ (l : List ResultVar) (rs : List XRes), compRes T l = some rs → ∀ vs, resL tm st rs = some vs → ∃ us, (l.mapM (resVar a.tmps)).run P w = .ok us w ∧ RL w g vs us := by
  intro l
  induction l with
  | nil =>
    intro rs hc vs hv
    injection hc with hc; subst hc
    injection hv with hv; subst hv
    exact ⟨[], by simp, .nil⟩
  | cons r l ih =>
    intro rs hc vs hv
    have hc' : ∃ x rest, rs = x :: rest ∧ compRes T l = some rest ∧ res1 T r = some x := by
      cases r with
      | tmp t =>
        unfold compRes at hc
        obtain ⟨rest, h1, hc⟩ := opt_eq hc
        injection hc with hc
        exact ⟨_, rest, hc.symm, h1, rfl⟩
      | cell c t =>
        unfold compRes at hc
        obtain ⟨i, hi, hc⟩ := opt_eq hc
        obtain ⟨rest, h1, hc⟩ := opt_eq hc
        cases ha : aggOf i with
        | true =>
          simp only [ha] at hc
          injection hc with hc
          exact ⟨_, rest, hc.symm, h1, by simp only [res1, opt, hi, ha]⟩
        | false =>
          cases hb : Nat.beq i.size 1 with
          | true =>
            simp only [ha, hb] at hc
            injection hc with hc
            exact ⟨_, rest, hc.symm, h1, by simp only [res1, opt, hi, ha, hb]⟩
          | false => simp only [ha, hb] at hc; cases hc
    obtain ⟨x, rest, rfl, h1, h2⟩ := hc'
    unfold resL at hv
    split at hv <;> try cases hv
    rename_i v vs' h3 h4
    obtain ⟨u, h5, h6⟩ := res_sound hT hS hI h2 h3
    obtain ⟨us, h7, h8⟩ := ih rest h1 vs' h4
    refine ⟨u :: us, ?_, .cons _ _ _ _ h6 h8⟩
    simp [List.mapM_cons, h5, h7]
theorem tup_rep {vs : List AV} {us : List Value} (h : RL w g vs us) : Rep w g (tupOf vs) (resV us) := by
  match vs, us, h with
  | [], [], _ => exact .tup [] [] .nil
  | [v], [u], .cons _ _ _ _ h _ => exact h
  | x :: y :: l, u :: v :: m, h => exact .tup _ _ h
  | [_], _ :: _ :: _, .cons _ _ _ _ _ h => cases h
  | _ :: _ :: _, [_], .cons _ _ _ _ _ h => cases h
theorem argsT_get : ∀ (l : List AV) (m : Nat) (t : Tr AV) (k : Nat), (argsT l m t).get k = if m ≤ k ∧ k < m + l.length then l[k - m]? else t.get k := by
  intro l
  induction l with
  | nil =>
    intro m t k
    rw [if_neg (by simp only [List.length_nil]; omega)]; rfl
  | cons v l ih =>
    intro m t k
    show (argsT l (m + 1) (t.set m v)).get k = _
    rw [ih, Tr.get_set]
    simp only [List.length_cons]
    by_cases hk : k = m
    · subst hk
      rw [if_neg (by omega), if_pos rfl, if_pos (by omega)]; simp
    · by_cases hm : m + 1 ≤ k ∧ k < m + 1 + l.length
      · rw [if_pos hm, if_pos (by omega)]
        have : k - m = (k - (m + 1)) + 1 := by omega
        rw [this]; simp
      · rw [if_neg hm, if_neg hk, if_neg (by omega)]
theorem args_slots {args : List AV} {vs : List Value} (h : RL w g args vs) (n : Nat) : Slots w g n (argsT args 0 .nil) { tmps := vs.toArray ++ Array.replicate (n - vs.toArray.size) undef, defers := [] } := by
  refine ⟨rfl, by simp; omega, fun t => ?_⟩
  rw [evX_t, argsT_get]
  show Rep w g _ ((vs.toArray ++ Array.replicate (n - vs.toArray.size) undef).getD t undef)
  rw [Array.getD_eq_getD_getElem?]
  have hl := h.length
  by_cases ht : t < args.length
  · rw [if_pos (by omega)]
    obtain ⟨v, hv, hr⟩ := h.get (i := t) (List.getElem?_eq_getElem ht)
    rw [Array.getElem?_append, if_pos (by simp; omega)]
    rw [Nat.sub_zero, List.getElem?_eq_getElem ht]
    have hv' : vs.toArray[t]? = some v := by simpa using hv
    rw [hv']
    exact hr
  · rw [if_neg (by omega)]
    rw [Array.getElem?_append, if_neg (by simp; omega)]
    have e : ((Array.replicate (n - vs.toArray.size) undef)[t - vs.toArray.size]?).getD undef = undef := by
      rw [Array.getElem?_replicate]
      split <;> rfl
    rw [e]
    exact rep_und
/-- What is asked of a function whose answer is known beforehand. -/
def PrimOk (P : Program) (base f : Nat) (p : List AV → Option AV) : Prop :=
  (∃ fn, P.funcs[f]? = some fn ∧ fn.body.isNone = false ∧ (fn.name == "runtime.NumGoroutine") = false) ∧
  ∀ args r, p args = some r → ∀ st w g vs, RL w g args vs → Inv base g st w → Yields P base f vs r g st w st
structure EnvOk (P : Program) (T : Nat → Option TI) (base : Nat) (E : Env) : Prop where
  fn : ∀ f x, E.F.get f = some x → ∃ fn kd, P.funcs[f]? = some fn ∧ compF T kd fn = some x
  prim : ∀ f p, E.prim f = some p → PrimOk P base f p
theorem fn_sound (hT : TabOk P T) {call : Cal} (hcall : CallOk P base call) (hD : RegDS P T base call) (lim : Nat) {f : Nat} {fn : Func} {kd : Nat → Bool} {x : XF} (hf : P.funcs[f]? = some fn) (hx : compF T kd fn = some x)
    {args : List AV} {r : AV} {st' : St} (hr : endF x.res (execX call lim x.body (argsT args 0 .nil) st) = some (r, st')) {vs : List Value} (hA : RL w g args vs) (hI : Inv base g st w) : Yields P base f vs r g st w st' := by
  unfold compF at hx
  split at hx <;> try cases hx
  rename_i c hb hn
  obtain ⟨b, h1, hx⟩ := opt_eq hx
  obtain ⟨rs, h2, hx⟩ := opt_eq hx
  injection hx with hx; subst hx
  have hr : endF rs (execX call lim b (argsT args 0 .nil) st) = some (r, st') := hr
  cases hq : execX call lim b (argsT args 0 .nil) st with
  | fail => rw [hq] at hr; cases hr
  | ok e tm' st1 =>
    rw [hq] at hr
    refine calls_of_wp hf hb ?_
    refine exec_wp hT hcall hD lim c b h1 _ st e tm' st1 hq _ w g (args_slots hA fn.ntmps) hI _ fun a' w' g' hS' hI' hE' => ?_
    have fin : ∀ vs', resL tm' st1 rs = some vs' → tupOf vs' = r → st1 = st' → a'.defers = [] ∧ ∃ v, (results fn a'.tmps).run P w' = .ok v w' ∧ (∃ u g'', Ending.returned v = .returned u ∧ Rep w' g'' r u ∧ Inv base g'' st' w' ∧ Ext base g st w g'' st' w') := by
      rintro vs' h3 rfl rfl
      obtain ⟨us, h4, h5⟩ := resL_sound hT hS' hI' _ _ h2 vs' h3
      exact ⟨hS'.defers, _, results_run h4, _, g', rfl, tup_rep h5, hI', hE'⟩
    cases e with
    | exit i => cases hr
    | norm =>
      have hr : (match resL tm' st1 rs with | some vs => some (tupOf vs, st1) | none => none) = some (r, st') := hr
      cases h3 : resL tm' st1 rs with
      | none => rw [h3] at hr; cases hr
      | some vs' =>
        rw [h3] at hr
        injection hr with hr
        injection hr with h4 h5
        exact fin vs' h3 h4 h5
    | ret =>
      have hr : (match resL tm' st1 rs with | some vs => some (tupOf vs, st1) | none => none) = some (r, st') := hr
      cases h3 : resL tm' st1 rs with
      | none => rw [h3] at hr; cases hr
      | some vs' =>
        rw [h3] at hr
        injection hr with hr
        injection hr with h4 h5
        exact fin vs' h3 h4 h5
theorem callN_ok (hT : TabOk P T) {E : Env} (hE : EnvOk P T base E) (hD : ∀ call, CallOk P base call → CallV call → RegDS P T base call) (lim : Nat) : ∀ d, CallOk P base (callN E lim d) := by
  intro d
  induction d with
  | zero => intro f args st r st' h; cases h
  | succ d ih =>
    intro f args st r st' h
    have h : callF E lim (callN E lim d) f args st = some (r, st') := h
    unfold callF at h
    split at h
    · rename_i r1 hr1
      injection h with h
      injection h with h1 h2
      subst h1 h2
      unfold primA at hr1
      split at hr1
      · rename_i p hp
        obtain ⟨h2, h3⟩ := hE.prim f p hp
        exact ⟨h2, fun w g vs hA hI => h3 args r1 hr1 _ w g vs hA hI⟩
      · cases hr1
    split at h
    · rename_i x hx
      obtain ⟨fn, kd, hf, hc⟩ := hE.fn f x hx
      refine ⟨?_, fun w g vs hA hI => fn_sound hT ih (hD _ ih (callN_v E lim d)) lim hf hc h hA hI⟩
      unfold compF at hc
      split at hc <;> try cases hc
      rename_i c hb hn
      exact ⟨fn, hf, by rw [hb]; rfl, hn⟩
    · cases h
/-- The start of a call. -/
theorem Inv.start (w : World) : Inv w.heap.size ⟨fun _ => none, fun _ => none, fun _ _ => False⟩ ⟨.nil, 0⟩ w :=
  ⟨Nat.le_refl _, fun k e h => (by cases h), fun k b h => (by cases h), fun k b s e h => (by cases h), fun b i h => h.elim, fun k e b h => (by cases h), fun id b s e h => (by cases h), fun k b i _ h => (by cases h), fun k j b _ _ h => (by cases h), fun k id b s e _ _ h => (by cases h), fun i j b s e s' e' h => (by cases h)⟩
/-- What the evaluator answers, the call answers, and leaves what was there. -/
theorem calls_of_eval (hT : TabOk P T) {E : Env} (hE : ∀ base, EnvOk P T base E) (hD : ∀ base call, CallOk P base call → CallV call → RegDS P T base call) (lim d : Nat) {f : Nat} {args : List AV} {r : AV} {st' : St}
    (hr : callN E lim d f args ⟨.nil, 0⟩ = some (r, st')) {w : World} {vs : List Value} (hA : RL w ⟨fun _ => none, fun _ => none, fun _ _ => False⟩ args vs) :
    Calls P f vs.toArray w fun e w' => ∃ v g', e = .returned v ∧ Rep w' g' r v ∧ Below w.heap.size w w' := by
  have h := (callN_ok hT (hE w.heap.size) (hD w.heap.size) lim d f args _ r st' hr).2 w _ vs hA (Inv.start w)
  exact h.mono fun e w' ⟨v, g', h1, h2, h3, h4⟩ => ⟨v, g', h1, h2, h4.below⟩
end
end Go.Ev
namespace Go.Ev
open Go.RowKit
set_option linter.unusedVariables false

section
variable {P : Program} {T : Nat → Option TI} {base : Nat}
theorem appOf_ok {o : Oper} {a : Nat} {s : Operand} {u t tu : Nat} (h : appOf o = some (a, s, u, t, tu)) : ∃ c : Call, o.dst = some a ∧ o.guard = none ∧ o.op = .call c ∧ c.callee = .builtin .append ∧ c.args.toList = [s, .tmp u] ∧ c.argTypes.toList = [t, tu] := by
  unfold appOf at h
  split at h <;> try cases h
  rename_i a' c h1 h2 h3
  split at h <;> cases h
  rename_i h4 h5 h6
  exact ⟨c, h1, h2, h3, h4, h5, h6⟩
theorem idxOf_ok {o : Oper} {b t a q : Nat} (h : idxOf o = some (b, t, a, q)) : o.dst = some b ∧ o.guard = none ∧ o.op = .indexAddr t (.tmp a) (.tmp q) := by
  unfold idxOf at h
  split at h <;> cases h
  rename_i h1 h2 h3
  exact ⟨h2, h1, h3⟩
theorem stoOf_ok {o : Oper} {et b : Nat} {v : Operand} (h : stoOf o = some (et, b, v)) : o.dst = none ∧ o.guard = none ∧ o.op = .store et (.tmp b) v := by
  unfold stoOf at h
  split at h <;> cases h
  rename_i h1 h2 h3
  exact ⟨h1, h2, h3⟩
theorem setAt_length {α : Type} (y : α) : ∀ (l : List α) (k : Nat), (setAt l k y).length = l.length := by
  intro l
  induction l with
  | nil => intro k; rfl
  | cons x l ih =>
    intro k
    cases k with
    | zero => rfl
    | succ k => simp [setAt, ih]
theorem setAt_get {α : Type} (y : α) : ∀ (l : List α) (k i : Nat), k < l.length → (setAt l k y)[i]? = if i = k then some y else l[i]? := by
  intro l
  induction l with
  | nil => intro k i h; cases h
  | cons x l ih =>
    intro k i h
    cases k with
    | zero => cases i <;> simp [setAt]
    | succ k =>
      cases i with
      | zero => simp [setAt]
      | succ i =>
        simp only [setAt, List.getElem?_cons_succ]
        rw [ih k i (by simpa using h)]
        simp
theorem defAt_ok {l : List Oper} {k q : Nat} (h : defAt (l.take k) q = true) : ∃ (j : Nat) (o : Oper), j < k ∧ l[j]? = some o ∧ o.dst = some q := by
  unfold defAt at h
  obtain ⟨o, ho, hd⟩ := List.any_eq_true.1 h
  obtain ⟨j, hj⟩ := List.getElem?_of_mem ho
  rw [List.getElem?_take] at hj
  split at hj
  · rename_i hlt
    refine ⟨j, o, hlt, hj, ?_⟩
    unfold sameDst at hd
    split at hd
    · rename_i x y h1 h2
      rw [natBeq] at hd
      have := of_decide_eq_true hd
      subst this
      rw [h1, ← h2]
    · cases hd
  · cases hj
theorem regds_ok (hm : P.follows .mixedOrders = true) (hT : TabOk P T) {call : Cal} (hcall : CallOk P base call) (hV : CallV call) : RegDS P T base call := by
  intro kd n id ops xs0 xs hs pairs hc hd tm st tm' st' hr a w g hS hI Q hQ
  unfold compDS at hd
  split at hd
  · rename_i c h
    injection hd with hd
    subst hd
    exact regd_wp hm hT hcall hV hc h hr hS hI hQ
  · unfold compS at hd
    obtain ⟨k, _, hd⟩ := opt_eq hd
    obtain ⟨⟨fa, fs, fu, ft, ftu⟩, h1, hd⟩ := opt_eq hd
    obtain ⟨⟨gb, gt, ga, gq⟩, h2, hd⟩ := opt_eq hd
    obtain ⟨⟨het, hb, hv⟩, h3, hd⟩ := opt_eq hd
    obtain ⟨i, h4, hd⟩ := opt_eq hd
    obtain ⟨i2, h5, hd⟩ := opt_eq hd
    obtain ⟨ei, h6, hd⟩ := opt_eq hd
    obtain ⟨sx, h7, hd⟩ := opt_eq hd
    simp only at h4 h5 h6 h7 hd
    cases hv with
    | const _ => cases hd
    | global _ => cases hd
    | func _ => cases hd
    | tmp vt =>
    simp only at hd
    split at hd
    · cases hd
    rename_i hck
    have hdd := hd
    clear hd
    simp only [Bool.and_eq_true, natBeq, decide_eq_true_eq] at hck
    obtain ⟨⟨⟨⟨⟨⟨⟨⟨e1, e2⟩, e3⟩, e4⟩, hsrc⟩, hdq⟩, hdv⟩, hbef⟩, htl⟩ := hck
    subst e1 e2
    cases ho0 : ops.toList[k]? with
    | none => rw [ho0] at h1; cases h1
    | some o0 =>
    cases ho1 : ops.toList[k + 1]? with
    | none => rw [ho1] at h2; cases h2
    | some o1 =>
    cases ho2 : ops.toList[k + 2]? with
    | none => rw [ho2] at h3; cases h3
    | some o2 =>
    rw [ho0] at h1; rw [ho1] at h2; rw [ho2] at h3
    obtain ⟨c, q1, q2, q3, q4, q5, q6⟩ := appOf_ok (show appOf o0 = _ from h1)
    obtain ⟨r1, r2, r3⟩ := idxOf_ok (show idxOf o1 = _ from h2)
    obtain ⟨s1, s2, s3⟩ := stoOf_ok (show stoOf o2 = _ from h3)
    obtain ⟨hlen, hidx⟩ := compR_idx ops.toList xs0 hc
    have hk2 : k + 2 < xs0.length := by have := (List.getElem?_eq_some_iff.1 ho2).1; omega
    have hget : ∀ (A B C : XR) (j : Nat), (setAt (setAt (setAt xs0 k A) (k + 1) B) (k + 2) C)[j]? = if j = k + 2 then some C else if j = k + 1 then some B else if j = k then some A else xs0[j]? := by
      intro A B C j
      rw [setAt_get C _ _ _ (by rw [setAt_length, setAt_length]; omega), setAt_get B _ _ _ (by rw [setAt_length]; omega), setAt_get A _ _ _ (by omega)]
    refine regs_wp (ks := some k) (kd := kd) hm hT hcall hV (by rw [setAt_length, setAt_length, setAt_length]; exact hlen) ?_ (fun k' hk' => ?_) hdd hr hS hI hQ (i0 := i) (i2 := i2) (ei := ei) (sA := fa) (sB := gb) (sQ := gq) (sV := vt) (sS := fs) (sU := fu) (tA := ft) (tU := ftu) (tI := gt) (tE := het) (sx := sx) 
    · intro j o ho
      obtain ⟨x, hx, g1, g2, g3, g4⟩ := hidx j o ho
      rw [hget]
      by_cases j2 : j = k + 2
      · subst j2
        rw [if_pos rfl]
        rw [ho] at ho2; injection ho2 with ho2; subst ho2
        exact ⟨_, rfl, (fun h => by rcases h k rfl with h | h <;> omega), s1.symm, (fun d h => by cases h), .inl ⟨s2, rfl⟩⟩
      · rw [if_neg j2]
        by_cases j1 : j = k + 1
        · subst j1
          rw [if_pos rfl]
          rw [ho] at ho1; injection ho1 with ho1; subst ho1
          exact ⟨_, rfl, (fun h => by rcases h k rfl with h | h <;> omega), r1.symm, (fun d h => g3 d (by rw [g2, r1]; exact h)), .inl ⟨r2, rfl⟩⟩
        · rw [if_neg j1]
          by_cases j0 : j = k
          · subst j0
            rw [if_pos rfl]
            rw [ho] at ho0; injection ho0 with ho0; subst ho0
            exact ⟨_, rfl, (fun h => by rcases h j rfl with h | h <;> omega), q1.symm, (fun d h => g3 d (by rw [g2, q1]; exact h)), .inl ⟨q2, rfl⟩⟩
          · rw [if_neg j0]
            exact ⟨x, hx, fun _ => g1, g2, g3, g4⟩
    · injection hk' with hk'; subst hk'
      refine ⟨⟨o0, c, ho0, q1, q2, q3, q4, q5, q6⟩, ⟨o1, ho1, r1, r2, r3⟩, ⟨o2, ho2, s1, s2, s3⟩, ?_, ?_, ?_, h4, h5, h6, e3.symm, e4.symm, hsrc, h7, defAt_ok hdq, defAt_ok hdv, fun j hj => ?_, fun j o hj ho => ?_⟩
      · rw [hget, if_neg (by omega), if_neg (by omega), if_pos rfl]
      · rw [hget, if_neg (by omega), if_pos rfl]
      · rw [hget, if_pos rfl]
      · have := List.all_eq_true.1 hbef j (List.mem_range.2 hj)
        unfold cmp at this
        have e1 : Nat.max j k = k := by simp [Nat.max_def]; omega
        have e2 : Nat.min j k = j := by simp [Nat.min_def]; omega
        rwa [e1, e2] at this
      · refine List.all_eq_true.1 htl o ?_
        refine List.mem_of_getElem? (i := j - (k + 3)) ?_
        rw [List.getElem?_drop]
        have : k + 3 + (j - (k + 3)) = j := by omega
        rw [this]; exact ho
/-- What the evaluator answers, the call answers, and leaves what was there. -/
theorem calls_of_run (hm : P.follows .mixedOrders = true) (hT : TabOk P T) {E : Env} (hE : ∀ base, EnvOk P T base E) (lim d : Nat) {f : Nat} {args : List AV} {r : AV} {st' : St}
    (hr : callN E lim d f args ⟨.nil, 0⟩ = some (r, st')) {w : World} {vs : List Value} (hA : RL w ⟨fun _ => none, fun _ => none, fun _ _ => False⟩ args vs) :
    Calls P f vs.toArray w fun e w' => ∃ v g', e = .returned v ∧ Rep w' g' r v ∧ Below w.heap.size w w' :=
  calls_of_eval hT hE (fun _ _ hc hv => regds_ok hm hT hc hv) lim d hr hA
end
end Go.Ev
namespace Go.Ev
open Go.RowKit
set_option linter.unusedVariables false

def kdOf : TypeDesc → Option Kd
  | .bool => some .bool
  | .int k => some (.int k)
  | .string => some .str
  | .pointer _ => some .ptr
  | .slice e => some (.slice e)
  | .struct fs => some (.struct (fs.toList.map fun f => (f.offset, f.type)))
  | .map k e => some (.map k e)
  | .func _ _ _ => some .func
  | _ => none
def placesB (P : Program) : TypeDesc → Bool
  | .struct fs => fs.toList.all fun f => (P.info? f.type).isSome
  | _ => true
def mkTI (P : Program) (t : Nat) (e : Bool) : Option TI := match P.underlying t with
  | some d => match P.info? t with
    | some inf => match kdOf d, inf.zero with
      | some kd, some z => match absC z with
        | some a => match Nat.beq a.cells.length inf.size && placesB P d with
          | true => some ⟨kd, inf.size, inf.bytes, a, e⟩
          | false => none
        | none => none
      | _, _ => none
    | none => none
  | none => none
def EqFact (P : Program) (t : Nat) (z : List AV) : Prop := P.eqGuardType P.depth t = false ∧
    ∀ (w w' : World) (g : G) (as bs : List AV) (us vs : List Value) (r : Bool), RL w g as us → RL w g bs vs → sameL z as = true → sameL z bs = true → eqCells as bs = some r → (Op.equal t (.agg us.toArray) (.agg vs.toArray)).run P w' = .ok r w'
theorem kdOf_ok {P : Program} {d : TypeDesc} {kd : Kd} (h : kdOf d = some kd) : KdOk P kd d := by
  unfold kdOf at h
  split at h <;> cases h <;> simp [KdOk]
theorem mapM_some {α β : Type} (f : α → Option β) : ∀ (l : List α), (l.all fun x => (f x).isSome) = true → ∃ r, l.mapM f = some r := by
  intro l
  induction l with
  | nil => intro _; exact ⟨[], rfl⟩
  | cons x l ih =>
    intro h
    simp only [List.all_cons, Bool.and_eq_true] at h
    obtain ⟨r, hr⟩ := ih h.2
    cases hx : f x with
    | none => rw [hx] at h; cases h.1
    | some y => exact ⟨y :: r, by simp [List.mapM_cons, hx, hr]⟩
theorem mkTI_ok {P : Program} {t : Nat} {i : TI} (h : mkTI P t i.eqok = some i) (he : i.eqok = true → EqFact P t i.zero.cells) : TyOk P t i := by
  unfold mkTI at h
  split at h
  · rename_i d hd
    split at h
    · rename_i inf hinf
      split at h
      · rename_i kd z hk hz
        split at h
        · rename_i a ha
          split at h
          · rename_i hc
            simp only [Bool.and_eq_true, natBeq, decide_eq_true_eq] at hc
            obtain ⟨hc, hpl⟩ := hc
            injection h with h
            have h1 : i.kd = kd := by rw [← h]
            have h2 : i.size = inf.size := by rw [← h]
            have h3 : i.bytes = inf.bytes := by rw [← h]
            have h4 : i.zero = a := by rw [← h]
            refine ⟨⟨inf, z, hinf, h2.symm, h3.symm, hz, fun w g => by rw [h4]; exact absC_rep ha w g, by rw [h4, h2]; exact hc, fun hne he => ?_⟩, ⟨d, hd, by rw [h1]; exact kdOf_ok hk⟩, fun flds hf => ?_, he⟩
            · rw [h4] at he
              rw [h2, ← hc, he] at hne
              exact hne rfl
            · rw [hd] at hf
              injection hf with hf
              subst hf
              refine mapM_some _ _ ?_
              have hpl : (flds.toList.all fun f => (P.info? f.type).isSome) = true := hpl
              rw [← hpl]
              congr 1
              funext f
              cases P.info? f.type <;> rfl
          · cases h
        · cases h
      · cases h
    · cases h
  · cases h
/-- The entries of a tree. -/
def Tr.toL {α : Type} : Tr α → Nat → Nat → List (Nat × α)
  | .nil, _, _ => []
  | .node v l r, m, c => (match v with | some x => [(c, x)] | none => []) ++ (Tr.toL l (2 * m) (m + c) ++ Tr.toL r (2 * m) (2 * m + c))
theorem Tr.mem_toL {α : Type} : ∀ (t : Tr α) (m c k : Nat) (x : α), t.get k = some x → (m * k + c, x) ∈ Tr.toL t m c := by
  intro t
  induction t with
  | nil => intro m c k x h; cases h
  | node v l r il ir =>
    intro m c k x h
    rw [Tr.get_node] at h
    unfold Tr.toL
    by_cases h0 : k = 0
    · subst h0
      rw [if_pos rfl] at h
      subst h
      simp
    · rw [if_neg h0] at h
      by_cases h1 : k % 2 = 1
      · rw [if_pos h1] at h
        have := il (2 * m) (m + c) (k / 2) x h
        have e : 2 * m * (k / 2) + (m + c) = m * k + c := by
          have h2 : k = 2 * (k / 2) + 1 := by omega
          generalize k / 2 = j at *
          subst h2
          rw [Nat.mul_add, Nat.mul_one, Nat.mul_comm 2 m, Nat.mul_assoc]; omega
        rw [e] at this
        exact List.mem_append.2 (.inr (List.mem_append.2 (.inl this)))
      · rw [if_neg h1] at h
        have := ir (2 * m) (2 * m + c) (k / 2 - 1) x h
        have e : 2 * m * (k / 2 - 1) + (2 * m + c) = m * k + c := by
          have h2 : k = 2 * (k / 2 - 1) + 2 := by omega
          generalize k / 2 - 1 = j at *
          subst h2
          rw [Nat.mul_add, Nat.mul_comm 2 m, Nat.mul_assoc, Nat.mul_comm m 2]; omega
        rw [e] at this
        exact List.mem_append.2 (.inr (List.mem_append.2 (.inr this)))
theorem tab_of {P : Program} {t : Tr TI} (h : ∀ p ∈ Tr.toL t 1 0, mkTI P p.1 p.2.eqok = some p.2 ∧ (p.2.eqok = true → EqFact P p.1 p.2.zero.cells)) : TabOk P t.get := by
  intro k i hk
  have := Tr.mem_toL t 1 0 k i hk
  rw [Nat.one_mul, Nat.add_zero] at this
  obtain ⟨h1, h2⟩ := h _ this
  exact mkTI_ok h1 h2
end Go.Ev
namespace Go.Ev
open Go.RowKit
set_option linter.unusedVariables false

mutual
/-- The same value without room behind its slices; none where it holds a key. -/
def AV.dead : AV → Option AV
  | .bool b => some (.bool b)
  | .int k n => some (.int k n)
  | .str s => some (.str s)
  | .nilp => some .nilp
  | .ptr _ _ => none
  | .ro cs o => match AV.deadL cs with
    | some l => some (.ro l o)
    | none => none
  | .nils => some .nils
  | .sl n es _ => match AV.deadL es with
    | some l => some (.sl n l .dead)
    | none => none
  | .ks _ _ _ => none
  | .nilm => some .nilm
  | .mp _ => none
  | .nilf => some .nilf
  | .fn f a c => match AV.deadL a, AV.deadL c with
    | some a, some c => some (.fn f a c)
    | _, _ => none
  | .agg cs => match AV.deadL cs with
    | some l => some (.agg l)
    | none => none
  | .tup cs => match AV.deadL cs with
    | some l => some (.tup l)
    | none => none
  | .any => some .any
def AV.deadL : List AV → Option (List AV)
  | [] => some []
  | a :: l => match AV.dead a, AV.deadL l with
    | some b, some m => some (b :: m)
    | _, _ => none
end
/-- The old keys and rooms, the frozen cells of both. -/
def G.forget (g g' : G) : G := ⟨g.key, g.tip, g'.frz⟩
/-- Nothing but frozen cells. -/
def G.bare (g : G) : G := ⟨fun _ => none, fun _ => none, g.frz⟩
section
variable {base : Nat} {g g' : G} {st : St} {w w' : World}
theorem Inv.bare (h : Inv base g st w) : Inv w.heap.size g.bare ⟨.nil, 0⟩ w :=
  ⟨Nat.le_refl _, (fun k e h => by cases h), (fun k b h => by cases h), (fun k b s e h => by cases h), h.frzIn, (fun k e b h => by cases h), (fun id b s e h => by cases h), (fun k b i h => by obtain ⟨_, h, _⟩ := h; cases h), (fun k j b h => by obtain ⟨_, h, _⟩ := h; cases h), (fun k id b s e h => by obtain ⟨_, h, _⟩ := h; cases h), (fun i j b s e s' e' h => by cases h)⟩
/-- What is left behind a call apart. -/
theorem Inv.forget {st' : St} (h : Inv base g st w) (hI : Inv w.heap.size g' st' w') (hE : Ext w.heap.size g.bare ⟨.nil, 0⟩ w g' st' w') : Inv base (g.forget g') st w' ∧ Ext base g st w (g.forget g') st w' := by
  have hle : g.le (g.forget g') := ⟨fun _ _ h => h, fun _ _ h => h, fun b i hf => hE.le.frz b i hf⟩
  have hs : Same g w w' := hE.same
  have hsz : w.heap.size ≤ w'.heap.size := hE.below.size
  have hblk : ∀ b, b < w.heap.size → w'.heap[b]? = w.heap[b]? := fun b hb => hE.below.block b hb
  have hold : ∀ b i, b < w.heap.size → g'.frz b i → g.frz b i := fun b i hb hf => (hE.fnew b i hf).elim id fun h => by omega
  refine ⟨⟨Nat.le_trans h.base_le hsz, h.entLt, fun k b hk => ?_, fun k b s e hk => ?_, hI.frzIn, fun k e b hk hb => ?_, fun id b s e hid hb => ?_, fun k b i hl hb hf => ?_, h.keyInj, h.keyTip, h.tipInj⟩, ⟨hle, hs, hE.below.mono h.base_le, Nat.le_refl _, fun b i hf => (hE.fnew b i hf).imp (fun h => h) (fun h' => by have := h.base_le; omega), fun _ _ h _ hn => ⟨h, hn⟩⟩⟩
  · have := h.keyLt k b hk; exact ⟨this.1, by omega⟩
  · have := h.tipLt k b s e hk; exact ⟨this.1, by omega⟩
  · obtain ⟨h1, h2⟩ := h.ent k e b hk hb
    exact ⟨h1.mono hs hle (hblk b (h.keyLt k b hb).2), h2⟩
  · obtain ⟨h1, h2, h3, h4⟩ := h.tip id b s e hid hb
    have hlt := (h.tipLt id b s e hb).2
    exact ⟨h1, h2, there_block h3 (hblk b hlt), fun i hi hi' hf => h4 i hi hi' (hold b i hlt hf)⟩
  · exact h.keyFrz k b i hl hb (hold b i (h.keyLt k b hb).2 hf)
end
section
variable {w : World} {g g2 : G}
theorem Row.frz {b o : Nat} {vs : List Value} (h : Row w g b o vs) (hf : ∀ b i, g.frz b i → g2.frz b i) : Row w g2 b o vs := fun i v hv => ⟨hf _ _ (h i v hv).1, (h i v hv).2⟩
theorem deadL_cons {a : AV} {l m : List AV} (h : AV.deadL (a :: l) = some m) : ∃ b n, m = b :: n ∧ AV.dead a = some b ∧ AV.deadL l = some n := by
  unfold AV.deadL at h
  split at h <;> try cases h
  rename_i b n h1 h2
  exact ⟨b, n, rfl, h1, h2⟩
theorem deadL_one {a b : AV} (h : AV.dead a = some b) : AV.deadL [a] = some [b] := by
  simp [AV.deadL, h]
theorem deadL_length : ∀ {l m : List AV}, AV.deadL l = some m → m.length = l.length := by
  intro l
  induction l with
  | nil => intro m h; simp [AV.deadL] at h; subst h; rfl
  | cons a l ih =>
    intro m h
    obtain ⟨b, n, rfl, _, h2⟩ := deadL_cons h
    simp [ih h2]
theorem deadL_append : ∀ {l m l' m' : List AV}, AV.deadL l = some l' → AV.deadL m = some m' → AV.deadL (l ++ m) = some (l' ++ m') := by
  intro l
  induction l with
  | nil => intro m l' m' h k; simp [AV.deadL] at h; subst h; exact k
  | cons a l ih =>
    intro m l' m' h k
    obtain ⟨b, n, rfl, h1, h2⟩ := deadL_cons h
    have := ih h2 k
    simp [AV.deadL, h1, this]
theorem AV.dead_cells {a b : AV} (h : AV.dead a = some b) : AV.deadL a.cells = some b.cells := by
  cases a with
  | agg cs =>
    unfold AV.dead at h
    split at h <;> cases h
    assumption
  | tup cs =>
    unfold AV.dead at h
    split at h <;> cases h
    rfl
  | any => unfold AV.dead at h; cases h; rfl
  | sl n es t =>
    have h0 := h
    unfold AV.dead at h
    split at h <;> cases h
    exact deadL_one h0
  | ro cs o =>
    have h0 := h
    unfold AV.dead at h
    split at h <;> cases h
    exact deadL_one h0
  | fn f x y =>
    have h0 := h
    unfold AV.dead at h
    split at h <;> cases h
    exact deadL_one h0
  | ptr _ _ => unfold AV.dead at h; cases h
  | ks _ _ _ => unfold AV.dead at h; cases h
  | mp _ => unfold AV.dead at h; cases h
  | _ =>
    have h0 := h
    unfold AV.dead at h
    cases h
    exact deadL_one h0
theorem flat_dead : ∀ {es l : List AV}, AV.deadL es = some l → AV.deadL (flat es) = some (flat l) := by
  intro es
  induction es with
  | nil => intro l h; simp [AV.deadL] at h; subst h; rfl
  | cons a es ih =>
    intro l h
    obtain ⟨b, n, rfl, h1, h2⟩ := deadL_cons h
    rw [flat_cons, flat_cons]
    exact deadL_append (AV.dead_cells h1) (ih h2)
theorem dead_len {size : Nat} : ∀ {es l : List AV}, AV.deadL es = some l → (∀ e ∈ es, e.cells.length = size) → ∀ e ∈ l, e.cells.length = size := by
  intro es
  induction es with
  | nil => intro l h _; simp [AV.deadL] at h; subst h; exact fun _ h => by cases h
  | cons a es ih =>
    intro l h hs
    obtain ⟨b, n, rfl, h1, h2⟩ := deadL_cons h
    intro e he
    rcases List.mem_cons.1 he with rfl | he
    · rw [deadL_length (AV.dead_cells h1)]; exact hs a (by simp)
    · exact ih h2 (fun e he => hs e (by simp [he])) e he
theorem Rep.dead (hf : ∀ b i, g.frz b i → g2.frz b i) {a : AV} {v : Value} (h : Rep w g a v) : ∀ b, AV.dead a = some b → Rep w g2 b v :=
  Rep.rec (motive_1 := fun a v _ => ∀ b, AV.dead a = some b → Rep w g2 b v) (motive_2 := fun as vs _ => ∀ bs, AV.deadL as = some bs → RL w g2 bs vs)
    (fun b c h => by unfold AV.dead at h; cases h; exact .bool b) (fun k n c h => by unfold AV.dead at h; cases h; exact .int k n) (fun s c h => by unfold AV.dead at h; cases h; exact .str s) (fun c h => by unfold AV.dead at h; cases h; exact .nilp)
    (fun key off b _ c h => by unfold AV.dead at h; cases h)
    (fun cs off vs b o _ h2 h3 ih c h => by
      unfold AV.dead at h
      split at h <;> cases h
      rename_i l hl
      exact .ro l off vs b o (ih l hl) (h2.frz hf) h3)
    (fun c h => by unfold AV.dead at h; cases h; exact .nils)
    (fun size es t vs b o cap _ h2 h3 h4 h5 h6 ih c h => by
      unfold AV.dead at h
      split at h <;> cases h
      rename_i l hl
      have hlen := deadL_length hl
      rw [← hlen]
      exact .sl size l .dead vs b o cap (ih _ (flat_dead hl)) (h2.frz hf) h3 (dead_len hl h4) (by rw [hlen]; exact h5) trivial)
    (fun key off n b cap _ _ c h => by unfold AV.dead at h; cases h) (fun c h => by unfold AV.dead at h; cases h; exact .nilm) (fun key b _ c h => by unfold AV.dead at h; cases h) (fun c h => by unfold AV.dead at h; cases h; exact .nilf)
    (fun f first caps u v _ _ i1 i2 c h => by
      unfold AV.dead at h
      split at h <;> cases h
      rename_i a1 c1 e1 e2
      exact .fn f a1 c1 u v (i1 _ e1) (i2 _ e2))
    (fun cs vs _ h2 ih c h => by
      unfold AV.dead at h
      split at h <;> cases h
      rename_i l hl
      exact .agg l vs (ih l hl) h2)
    (fun cs vs _ ih c h => by
      unfold AV.dead at h
      split at h <;> cases h
      rename_i l hl
      exact .tup l vs (ih l hl))
    (fun v c h => by unfold AV.dead at h; cases h; exact .any v)
    (fun bs h => by simp [AV.deadL] at h; subst h; exact .nil)
    (fun a v as vs _ _ i1 i2 bs h => by
      obtain ⟨b, n, rfl, h1, h2⟩ := deadL_cons h
      exact .cons _ _ _ _ (i1 b h1) (i2 n h2)) h
theorem RL.dead (hf : ∀ b i, g.frz b i → g2.frz b i) : ∀ {as : List AV} {vs : List Value}, RL w g as vs → ∀ bs, AV.deadL as = some bs → RL w g2 bs vs := by
  intro as
  induction as with
  | nil => intro vs h bs hb; cases h; simp [AV.deadL] at hb; subst hb; exact .nil
  | cons a as ih =>
    intro vs h bs hb
    cases h with
    | cons _ v _ vs h1 h2 =>
      obtain ⟨b, n, rfl, h3, h4⟩ := deadL_cons hb
      exact .cons _ _ _ _ (h1.dead hf b h3) (ih h2 n h4)
end
section
variable {P : Program} {T : Nat → Option TI}
/-- The answer of a call apart. -/
noncomputable def apart (call : Nat → List AV → St → Option (AV × St)) (f : Nat) (args : List AV) : Option AV := match AV.deadL args with
  | some as => match call f as ⟨.nil, 0⟩ with
    | some (r, _) => AV.dead r
    | none => none
  | none => none
theorem apart_ok {call : Cal} (hcall : ∀ base, CallOk P base call) {base f : Nat} {args : List AV} {r : AV} (h : apart call f args = some r) {st : St} {w : World} {g : G} {vs : List Value} (hA : RL w g args vs) (hI : Inv base g st w) : Yields P base f vs r g st w st := by
  unfold apart at h
  split at h <;> try cases h
  rename_i bs hbs
  split at h <;> try cases h
  rename_i r0 st0 hr
  have h1 := (hcall w.heap.size f bs ⟨.nil, 0⟩ r0 st0 hr).2 w g.bare vs (RL.dead (g := g) (g2 := g.bare) (fun _ _ h => h) hA bs hbs) hI.bare
  refine h1.mono fun e w' ⟨v, g', h2, h3, h4, h5⟩ => ?_
  obtain ⟨h6, h7⟩ := hI.forget h4 h5
  exact ⟨v, g.forget g', h2, Rep.dead (g := g') (g2 := g.forget g') (fun _ _ h => h) h3 r h, h6, h7⟩
end
end Go.Ev
namespace Go.Ev
open Go.RowKit
set_option linter.unusedVariables false

noncomputable section
def Tip.beq : Tip → Tip → Bool
  | .full, .full => true
  | .dead, .dead => true
  | .at a, .at b => Nat.beq a b
  | _, _ => false
mutual
def AV.beq : AV → AV → Bool
  | .bool a, .bool b => a == b
  | .int k n, .int j m => match decide (k = j) with
    | true => beqInt n m
    | false => false
  | .str s, .str t => eqL s t
  | .nilp, .nilp => true
  | .ptr a b, .ptr c d => Nat.beq a c && Nat.beq b d
  | .ro cs o, .ro ds p => Nat.beq o p && AV.beqL cs ds
  | .nils, .nils => true
  | .sl n es t, .sl m fs u => Nat.beq n m && Tip.beq t u && AV.beqL es fs
  | .ks a b c, .ks d e f => Nat.beq a d && Nat.beq b e && Nat.beq c f
  | .nilm, .nilm => true
  | .mp a, .mp b => Nat.beq a b
  | .nilf, .nilf => true
  | .fn f a c, .fn g b d => Nat.beq f g && AV.beqL a b && AV.beqL c d
  | .agg cs, .agg ds => AV.beqL cs ds
  | .tup cs, .tup ds => AV.beqL cs ds
  | .any, .any => true
  | _, _ => false
def AV.beqL : List AV → List AV → Bool
  | [], [] => true
  | a :: l, b :: m => AV.beq a b && AV.beqL l m
  | _, _ => false
end
theorem Tip.beq_ok {a b : Tip} (h : Tip.beq a b = true) : a = b := by
  cases a <;> cases b <;> first | rfl | (cases h; done) | skip
  have h : Nat.beq _ _ = true := h
  rw [natBeq] at h
  rw [of_decide_eq_true h]
mutual
theorem AV.beq_ok : ∀ (a b : AV), AV.beq a b = true → a = b
  | .bool a, b, h => by cases b <;> simp [AV.beq] at h; rw [h]
  | .int k n, b, h => by
    cases b <;> try (simp [AV.beq] at h; done)
    rename_i j m
    unfold AV.beq at h
    split at h
    · rename_i hk
      rw [of_decide_eq_true hk]
      rw [beqInt_eq] at h
      rw [of_decide_eq_true h]
    · cases h
  | .str s, b, h => by
    cases b <;> simp [AV.beq] at h
    rw [eqL_eq] at h
    rw [of_decide_eq_true h]
  | .nilp, b, h => by cases b <;> simp [AV.beq] at h; rfl
  | .ptr x y, b, h => by
    cases b <;> simp [AV.beq] at h
    rw [h.1, h.2]
  | .ro cs o, b, h => by
    cases b <;> simp [AV.beq] at h
    rw [h.1, AV.beqL_ok cs _ h.2]
  | .nils, b, h => by cases b <;> simp [AV.beq] at h; rfl
  | .sl n es t, b, h => by
    cases b <;> simp [AV.beq] at h
    rw [h.1.1, Tip.beq_ok h.1.2, AV.beqL_ok es _ h.2]
  | .ks x y z, b, h => by
    cases b <;> simp [AV.beq] at h
    rw [h.1.1, h.1.2, h.2]
  | .nilm, b, h => by cases b <;> simp [AV.beq] at h; rfl
  | .mp x, b, h => by
    cases b <;> simp [AV.beq] at h
    rw [h]
  | .nilf, b, h => by cases b <;> simp [AV.beq] at h; rfl
  | .fn f x y, b, h => by
    cases b <;> simp [AV.beq] at h
    rw [h.1.1, AV.beqL_ok x _ h.1.2, AV.beqL_ok y _ h.2]
  | .agg cs, b, h => by
    cases b <;> simp [AV.beq] at h
    rw [AV.beqL_ok cs _ h]
  | .tup cs, b, h => by
    cases b <;> simp [AV.beq] at h
    rw [AV.beqL_ok cs _ h]
  | .any, b, h => by cases b <;> simp [AV.beq] at h; rfl
theorem AV.beqL_ok : ∀ (a b : List AV), AV.beqL a b = true → a = b
  | [], b, h => by cases b <;> simp [AV.beqL] at h; rfl
  | a :: l, b, h => by
    cases b with
    | nil => simp [AV.beqL] at h
    | cons b m =>
      simp [AV.beqL] at h
      rw [AV.beq_ok a b h.1, AV.beqL_ok l m h.2]
end
/-- The first entry with this key. -/
def findA (as : List AV) : List (List AV × AV) → Option AV
  | [] => none
  | (k, r) :: l => match AV.beqL as k with
    | true => some r
    | false => findA as l
def memo (tbl : List (List AV × AV)) (args : List AV) : Option AV := match AV.deadL args with
  | some as => findA as tbl
  | none => none
/-- An entry that the evaluator bears out. -/
def Entry (call : Cal) (f : Nat) (p : List AV × AV) : Prop := ∃ r0 st0, call f p.1 ⟨.nil, 0⟩ = some (r0, st0) ∧ AV.dead r0 = some p.2
theorem findA_ok {as : List AV} : ∀ {tbl : List (List AV × AV)} {r : AV}, findA as tbl = some r → (as, r) ∈ tbl := by
  intro tbl
  induction tbl with
  | nil => intro r h; cases h
  | cons p l ih =>
    intro r h
    obtain ⟨k, q⟩ := p
    unfold findA at h
    split at h
    · rename_i hb
      injection h with h; subst h
      rw [AV.beqL_ok _ _ hb]
      simp
    · exact List.mem_cons_of_mem _ (ih h)
theorem memo_ok {P : Program} {call : Cal} (hcall : ∀ base, CallOk P base call) {f : Nat} {tbl : List (List AV × AV)} (ht : ∀ p ∈ tbl, Entry call f p) (hf : ∃ fn, P.funcs[f]? = some fn ∧ fn.body.isNone = false ∧ (fn.name == "runtime.NumGoroutine") = false) (base : Nat) : PrimOk P base f (memo tbl) := by
  refine ⟨hf, fun args r h st w g vs hA hI => ?_⟩
  unfold memo at h
  split at h <;> try cases h
  rename_i bs hbs
  obtain ⟨r0, st0, h1, h2⟩ := ht _ (findA_ok h)
  refine apart_ok hcall (r := r) ?_ hA hI
  unfold apart
  rw [hbs]
  simp only [h1]
  exact h2
end
end Go.Ev
