/- Parts of strings and slices, struct and slice literals, bytes to a string; no condition. -/
import Derived.Test.YthlkmffimhnehaaGreatMa
import Derived.WalkKit
import Derived.Laws.Slices
import Derived.Laws.StructEq
import Derived.Laws.BytesArg
import Derived.Great.BuildSlice
import Derived.Lib.LaidTab
namespace Go.Ev
open Go.RowKit
set_option linter.unusedVariables false

def KdOk (P : Program) : Kd → TypeDesc → Prop
  | .bool, .bool => True
  | .int k, .int j => k = j
  | .str, .string => True
  | .ptr, .pointer _ => True
  | .slice e, .slice d => e = d
  | .struct fs, .struct f => f.toList.map (fun x => (x.offset, x.type)) = fs
  | .map k e, .map k' e' => k = k' ∧ e = e'
  | .func, .func _ _ _ => True
  | _, _ => False
/-- What the table says of a type is so. -/
structure TyOk (P : Program) (t : TypeId) (i : TI) : Prop where
  info : ∃ inf z, P.info? t = some inf ∧ inf.size = i.size ∧ inf.bytes = i.bytes ∧ inf.zero = some z ∧ (∀ w g, Rep w g i.zero z) ∧ i.zero.cells.length = i.size ∧ (i.size ≠ 0 → i.zero.cells ≠ [])
  kd : ∃ d, P.underlying t = some d ∧ KdOk P i.kd d
  places : ∀ flds, P.underlying t = some (.struct flds) → ∃ pl, flds.toList.mapM (fun f => (P.info? f.type).map fun i => (f.offset, i.size)) = some pl
  eq : i.eqok = true → P.eqGuardType P.depth t = false ∧
    ∀ (w w' : World) (g : G) (as bs : List AV) (us vs : List Value) (r : Bool), RL w g as us → RL w g bs vs → sameL i.zero.cells as = true → sameL i.zero.cells bs = true → eqCells as bs = some r → (Op.equal t (.agg us.toArray) (.agg vs.toArray)).run P w' = .ok r w'
def TabOk (P : Program) (T : Nat → Option TI) : Prop := ∀ t i, T t = some i → TyOk P t i

section
variable {P : Program} {t : TypeId} {i : TI}
theorem TyOk.run_size (h : TyOk P t i) (w : World) : (sizeOf t).run P w = .ok i.size w := by
  obtain ⟨inf, z, h1, h2, _⟩ := h.info
  simp [sizeOf, typeInfo, h1, h2]
theorem TyOk.run_info (h : TyOk P t i) : ∃ inf, P.info? t = some inf ∧ inf.size = i.size ∧ inf.bytes = i.bytes := by
  obtain ⟨inf, z, h1, h2, h3, _⟩ := h.info
  exact ⟨inf, h1, h2, h3⟩
theorem TyOk.run_agg (h : TyOk P t i) (w : World) : (isAgg t).run P w = .ok (aggOf i) w := by
  obtain ⟨d, h1, h2⟩ := h.kd
  unfold isAgg
  rw [Sem.run_bind, run_underlying h1 w]
  unfold aggOf
  cases hk : i.kd <;> rw [hk] at h2 <;> cases d <;> simp_all [KdOk]
theorem TyOk.sizeInfo (h : TyOk P t i) {n : Nat} (hn : n = i.size) : (P.info? t).map (·.size) = some n := by
  obtain ⟨inf, h1, h2, _⟩ := h.run_info
  rw [h1, hn]; simp [h2]
theorem partOf_agg (size : Nat) (cs : List AV) (off : Nat) : partOf size true cs off = if off + size ≤ cs.length then some (.agg ((cs.drop off).take size)) else none := by
  show Bool.rec (motive := fun _ => Option AV) none (some (.agg ((cs.drop off).take size))) (Nat.ble (off + size) cs.length) = _
  cases h : Nat.ble (off + size) cs.length with
  | true => rw [if_pos (Nat.le_of_ble_eq_true h)]
  | false => rw [if_neg (fun h' => by rw [Nat.ble_eq_true_of_le h'] at h; cases h)]
theorem partOf_one (size : Nat) (cs : List AV) (off : Nat) : partOf size false cs off = cs[off]? := by
  show nth cs off = _
  exact nth_eq cs off
/-- A part of cells. -/
theorem part_rep (h : TyOk P t i) {w : World} {g : G} {cs : List AV} {vs : List Value} (hr : RL w g cs vs) (ho : One vs) {off : Nat} {r : AV} (hp : partOf i.size (aggOf i) cs off = some r) (w' : World) :
    ∃ v, (part t vs.toArray off).run P w' = .ok v w' ∧ Rep w g r v := by
  unfold part
  cases ha : aggOf i with
  | true =>
    rw [ha, partOf_agg] at hp
    split at hp
    · rename_i hle
      injection hp with hp
      subst hp
      refine ⟨.agg ((vs.drop off).take i.size).toArray, ?_, .agg _ _ ((hr.drop off).take i.size) ((ho.drop off).take i.size)⟩
      simp [Sem.run_bind, h.run_agg, ha, h.run_size]
    · cases hp
  | false =>
    rw [ha, partOf_one] at hp
    obtain ⟨v, hv, hr'⟩ := hr.get hp
    refine ⟨v, ?_, hr'⟩
    simp [Sem.run_bind, h.run_agg, ha, hv]
/-- A variable is read. -/
theorem load_rep (h : TyOk P t i) {w : World} {g : G} {cs : List AV} {vs : List Value} (hr : RL w g cs vs) (ho : One vs) {off b o : Nat} {r : AV} (hp : partOf i.size (aggOf i) cs off = some r) (hrow : w.rangeAt b o vs) :
    ∃ v, (Instr.loadAt t (.pointer (some ⟨b, o + off, none⟩))).run P w = .ok v w ∧ Rep w g r v := by
  cases ha : aggOf i with
  | true =>
    rw [ha, partOf_agg] at hp
    split at hp
    · rename_i hle
      injection hp with hp
      subst hp
      obtain ⟨d, h1, h2⟩ := h.kd
      have hd : d.isRow = true := by
        unfold aggOf at ha
        cases hk : i.kd <;> rw [hk] at h2 ha <;> cases d <;> simp_all [KdOk]
      have hl : ((vs.drop off).take i.size).length = i.size := by
        have := hr.length
        rw [List.length_take, List.length_drop]; omega
      refine ⟨.agg ((vs.drop off).take i.size).toArray, ?_, .agg _ _ ((hr.drop off).take i.size) ((ho.drop off).take i.size)⟩
      refine run_loadAt_mid w b (o + off) t _ d (fun j v hv => ?_) h1 hd (h.sizeInfo hl)
      rw [List.getElem?_take] at hv
      split at hv
      · rw [List.getElem?_drop] at hv
        have := hrow _ _ hv
        rwa [← Nat.add_assoc] at this
      · cases hv
    · cases hp
  | false =>
    rw [ha, partOf_one] at hp
    obtain ⟨v, hv, hr'⟩ := hr.get hp
    refine ⟨v, ?_, hr'⟩
    have hc := hrow _ _ hv
    simp [Instr.loadAt, Instr.sureAddr, loadVar, Sem.run_bind, h.run_agg, ha, load, Sem.run, hc]
end

/-! ### What a value of the evaluator says -/
section
variable {w : World} {g : G} {v : Value}
theorem rep_bool {b : Bool} (h : Rep w g (.bool b) v) : v = .bool b := by cases h; rfl
theorem rep_int {k : IntKind} {n : Int} (h : Rep w g (.int k n) v) : v = .int k n := by cases h; rfl
theorem rep_str {s : List UInt8} (h : Rep w g (.str s) v) : v = .string ⟨s.toArray⟩ := by cases h; rfl
theorem rep_nilp (h : Rep w g .nilp v) : v = .pointer none := by cases h; rfl
theorem rep_ptr {k o : Nat} (h : Rep w g (.ptr k o) v) : ∃ b, g.key k = some b ∧ v = .pointer (some ⟨b, o, none⟩) := by cases h with | ptr _ _ b h => exact ⟨b, h, rfl⟩
theorem rep_ro {cs : List AV} {off : Nat} (h : Rep w g (.ro cs off) v) : ∃ vs b o, RL w g cs vs ∧ Row w g b o vs ∧ One vs ∧ v = .pointer (some ⟨b, o + off, none⟩) := by
  cases h with | ro _ _ vs b o h1 h2 h3 => exact ⟨vs, b, o, h1, h2, h3, rfl⟩
theorem rep_nils (h : Rep w g .nils v) : v = .slice none 0 0 := by cases h; rfl
theorem rep_sl {size : Nat} {es : List AV} {t : Tip} (h : Rep w g (.sl size es t) v) : ∃ vs b o cap, RL w g (flat es) vs ∧ Row w g b o vs ∧ One vs ∧ (∀ e ∈ es, e.cells.length = size) ∧ es.length ≤ cap ∧
    TipOk g size es.length cap b o t ∧ v = .slice (some ⟨b, o, none⟩) es.length cap := by
  cases h with | sl _ _ _ vs b o cap h1 h2 h3 h4 h5 h6 => exact ⟨vs, b, o, cap, h1, h2, h3, h4, h5, h6, rfl⟩
theorem rep_ks {k o n : Nat} (h : Rep w g (.ks k o n) v) : ∃ b cap, g.key k = some b ∧ n ≤ cap ∧ v = .slice (some ⟨b, o, none⟩) n cap := by cases h with | ks _ _ _ b cap h h' => exact ⟨b, cap, h, h', rfl⟩
theorem rep_nilm (h : Rep w g .nilm v) : v = .map none := by cases h; rfl
theorem rep_mp {k : Nat} (h : Rep w g (.mp k) v) : ∃ b, g.key k = some b ∧ v = .map (some b) := by cases h with | mp _ b h => exact ⟨b, h, rfl⟩
theorem rep_nilf (h : Rep w g .nilf v) : v = .nilFunc := by cases h; rfl
theorem rep_fn {f : Nat} {a c : List AV} (h : Rep w g (.fn f a c) v) : ∃ us vs, RL w g a us ∧ RL w g c vs ∧ v = .func (.func f) us.toArray vs.toArray := by cases h with | fn _ _ _ u v h1 h2 => exact ⟨u, v, h1, h2, rfl⟩
theorem rep_agg {cs : List AV} (h : Rep w g (.agg cs) v) : ∃ vs, RL w g cs vs ∧ One vs ∧ v = .agg vs.toArray := by cases h with | agg _ vs h1 h2 => exact ⟨vs, h1, h2, rfl⟩
theorem rep_tup {cs : List AV} (h : Rep w g (.tup cs) v) : ∃ vs, RL w g cs vs ∧ v = .tuple vs.toArray := by cases h with | tup _ vs h1 => exact ⟨vs, h1, rfl⟩
theorem rep_und : Rep w g und undef := .tup [] [] .nil
theorem natOf_eq {a : AV} {n : Nat} (h : natOf a = some n) : ∃ k, a = .int k (n : Int) := by
  unfold natOf at h
  split at h
  · rename_i k m
    injection h with h; subst h; exact ⟨k, rfl⟩
  · cases h
end

/-- An operation that writes nothing of what was there. -/
def POk (P : Program) (base : Nat) (g : G) (st : St) (w : World) (ρ : Operand → Value) (o : Oper) (r : AV) : Prop :=
  ∃ v w' g', (execOp ρ o).run P w = .ok (.value v) w' ∧ Rep w' g' r v ∧ Inv base g' st w' ∧ Ext base g st w g' st w'
section
variable {P : Program} {T : Nat → Option TI} {base : Nat} {g : G} {st : St} {w : World} {ρ : Operand → Value} {o : Oper} {tm : Tr AV} {r : AV}
theorem POk.of (hI : Inv base g st w) {v : Value} (h : (execOp ρ o).run P w = .ok (.value v) w) (hr : Rep w g r v) : POk P base g st w ρ o r := ⟨v, w, g, h, hr, hI, .refl ..⟩
/-- The operands mean what the slots say. -/
def Opnd (w : World) (g : G) (tm : Tr AV) (ρ : Operand → Value) (x : Operand) : Prop := ∀ z, compO x = some z → Rep w g (evX tm z) (ρ x)
theorem compOs_rep {l : List Operand} {xs : List XO} (h : compOs l = some xs) (hρ : ∀ x ∈ l, Opnd w g tm ρ x) : RL w g (evXs tm xs) (l.map ρ) := by
  induction l generalizing xs with
  | nil => simp [compOs] at h; subst h; exact .nil
  | cons x l ih =>
    unfold compOs at h
    split at h
    · rename_i a as h1 h2
      injection h with h; subst h
      exact .cons _ _ _ _ (hρ x (by simp) a h1) (ih h2 fun y hy => hρ y (by simp [hy]))
    · cases h

theorem p_move {x : Operand} {a : XO} (ho : o.op = .move x ∨ o.op = .assign x) (hI : Inv base g st w) (ha : compO x = some a) (hx : Opnd w g tm ρ x) : POk P base g st w ρ o (evX tm a) := by
  refine POk.of hI (v := ρ x) ?_ (hx a ha)
  rcases ho with ho | ho <;> simp [execOp, ho]
theorem p_pick {c x y : Operand} {a b d : XO} (ho : o.op = .pick c x y) (hI : Inv base g st w) (hc : compO c = some d) (hx : compO x = some a) (hy : compO y = some b) (oc : Opnd w g tm ρ c) (ox : Opnd w g tm ρ x) (oy : Opnd w g tm ρ y)
    (hr : xPick (evX tm d) (evX tm a) (evX tm b) = some r) : POk P base g st w ρ o r := by
  have h1 := oc d hc
  unfold xPick at hr
  split at hr
  · rename_i t ht
    rw [ht] at h1
    have hv := rep_bool h1
    injection hr with hr
    cases t with
    | true =>
      subst hr
      exact POk.of hI (v := ρ x) (by simp [execOp, ho, hv, asBool]) (ox a hx)
    | false =>
      subst hr
      exact POk.of hI (v := ρ y) (by simp [execOp, ho, hv, asBool]) (oy b hy)
  · cases hr
theorem p_nilc {x : Operand} {a : XO} (ho : o.op = .nilCheck x) (hI : Inv base g st w) (ha : compO x = some a) (hx : Opnd w g tm ρ x) (hr : xNilc (evX tm a) = some r) : POk P base g st w ρ o r := by
  have h1 := hx a ha
  unfold xNilc at hr
  split at hr
  · rename_i k off he
    injection hr with hr; subst hr
    rw [he] at h1
    obtain ⟨b, hb, hv⟩ := rep_ptr h1
    exact POk.of hI (v := ρ x) (by simp [execOp, ho, hv]) h1
  · rename_i c off he
    injection hr with hr; subst hr
    rw [he] at h1
    obtain ⟨vs, b, o', _, _, _, hv⟩ := rep_ro h1
    exact POk.of hI (v := ρ x) (by simp [execOp, ho, hv]) h1
  · cases hr
theorem p_not {x : Operand} {a : XO} {t : TypeId} (ho : o.op = .unOp .not t x) (hI : Inv base g st w) (ha : compO x = some a) (hx : Opnd w g tm ρ x) (hr : xNot (evX tm a) = some r) : POk P base g st w ρ o r := by
  have h1 := hx a ha
  unfold xNot at hr
  split at hr
  · rename_i b he
    injection hr with hr; subst hr
    rw [he] at h1
    have hv := rep_bool h1
    exact POk.of hI (v := .bool (!b)) (by simp [execOp, ho, hv, Op.unary]) (.bool _)
  · cases hr
theorem p_neg {x : Operand} {a : XO} {t : TypeId} (ho : o.op = .unOp .neg t x) (hI : Inv base g st w) (ha : compO x = some a) (hx : Opnd w g tm ρ x) (hr : xNeg (evX tm a) = some r) : POk P base g st w ρ o r := by
  have h1 := hx a ha
  unfold xNeg at hr
  split at hr
  · rename_i k n he
    injection hr with hr; subst hr
    rw [he] at h1
    have hv := rep_int h1
    exact POk.of hI (v := .int k (k.wrap (0 - n))) (by simp [execOp, ho, hv, Op.unary, Op.intArith]) (.int _ _)
  · cases hr
theorem p_mkf {f : FuncId} {first caps : Array Operand} {l m : List XO} (ho : o.op = .makeFunc (.func f) first caps) (hI : Inv base g st w) (hl : compOs first.toList = some l) (hm : compOs caps.toList = some m)
    (h1 : ∀ x ∈ first.toList, Opnd w g tm ρ x) (h2 : ∀ x ∈ caps.toList, Opnd w g tm ρ x) : POk P base g st w ρ o (.fn f (evXs tm l) (evXs tm m)) := by
  have hr := Rep.fn f _ _ _ _ (compOs_rep hl h1) (compOs_rep hm h2)
  refine POk.of hI ?_ hr
  simp [execOp, ho, Instr.makeFunc]
  constructor <;> (apply Array.ext'; simp)
theorem p_faddr {t : TypeId} {x : Operand} {i : Nat} {f : Nat × Nat × Bool} {a : XO} (hT : TabOk P T) (ho : o.op = .fieldAddr t x i) (hI : Inv base g st w) (hf : fieldOf T t i = some f) (ha : compO x = some a) (hx : Opnd w g tm ρ x)
    (hr : xFaddr f.1 (evX tm a) = some r) : POk P base g st w ρ o r := by
  have h1 := hx a ha
  unfold fieldOf at hf
  split at hf <;> try cases hf
  rename_i ti hti
  split at hf <;> try cases hf
  rename_i fs hfs
  split at hf <;> try cases hf
  rename_i off ft hoff
  split at hf <;> try cases hf
  rename_i fi hfi
  split at hf <;> try cases hf
  rename_i hsz
  obtain ⟨d, hd, hk⟩ := (hT t ti hti).kd
  rw [hfs] at hk
  cases d <;> simp only [KdOk] at hk
  rename_i flds
  have hfl : ∃ fd : Field, flds[i]? = some fd ∧ fd.offset = off ∧ fd.type = ft := by
    rw [← hk, List.getElem?_map] at hoff
    cases hq : flds.toList[i]? with
    | none => rw [hq] at hoff; cases hoff
    | some fd =>
      rw [hq] at hoff
      simp at hoff
      exact ⟨fd, by simpa using hq, hoff⟩
  obtain ⟨fd, hfd, rfl, rfl⟩ := hfl
  have hsz' : fi.size ≠ 0 := by
    rw [natBeq] at hsz
    simpa using hsz
  unfold xFaddr at hr
  split at hr
  · rename_i k off he
    injection hr with hr; subst hr
    rw [he] at h1
    obtain ⟨b, hb, hv⟩ := rep_ptr h1
    refine POk.of hI (v := .pointer (some ⟨b, off + fd.offset, none⟩)) ?_ (.ptr _ _ b hb)
    simp [execOp, ho, hv, Instr.fieldAt, Sem.run_bind, run_underlying hd, hfd, Instr.sureAddr, fieldPlace, (hT _ fi hfi).run_size, hsz', Addr.add_mid]
  · rename_i cs off he
    injection hr with hr; subst hr
    rw [he] at h1
    obtain ⟨vs, b, o', h2, h3, h4, hv⟩ := rep_ro h1
    refine POk.of hI (v := .pointer (some ⟨b, o' + (off + fd.offset), none⟩)) ?_ (.ro _ _ vs b o' h2 h3 h4)
    simp [execOp, ho, hv, Instr.fieldAt, Sem.run_bind, run_underlying hd, hfd, Instr.sureAddr, fieldPlace, (hT _ fi hfi).run_size, hsz', Addr.add_mid, Nat.add_assoc]
  · cases hr
end
end Go.Ev
namespace Go.Ev
open Go.RowKit
set_option linter.unusedVariables false

section
variable {P : Program} {T : Nat → Option TI} {base : Nat} {g : G} {st : St} {w : World} {ρ : Operand → Value} {o : Oper} {tm : Tr AV} {r : AV}
/-- A field of a struct type, as the program has it. -/
theorem fieldOf_ok (hT : TabOk P T) {t i : Nat} {f : Nat × Nat × Bool} (hf : fieldOf T t i = some f) : ∃ flds fd fi, P.underlying t = some (.struct flds) ∧ flds[i]? = some fd ∧ fd.offset = f.1 ∧ T fd.type = some fi ∧ fi.size = f.2.1 ∧ aggOf fi = f.2.2 ∧ fi.size ≠ 0 := by
  unfold fieldOf at hf
  split at hf <;> try cases hf
  rename_i ti hti
  split at hf <;> try cases hf
  rename_i fs hfs
  split at hf <;> try cases hf
  rename_i off ft hoff
  split at hf <;> try cases hf
  rename_i fi hfi
  split at hf <;> try cases hf
  rename_i hsz
  obtain ⟨d, hd, hk⟩ := (hT t ti hti).kd
  rw [hfs] at hk
  cases d <;> simp only [KdOk] at hk
  rename_i flds
  rw [← hk, List.getElem?_map] at hoff
  cases hq : flds.toList[i]? with
  | none => rw [hq] at hoff; cases hoff
  | some fd =>
    rw [hq] at hoff
    simp at hoff
    obtain ⟨rfl, rfl⟩ := hoff
    exact ⟨flds, fd, fi, hd, by simpa using hq, rfl, hfi, rfl, rfl, by rw [natBeq] at hsz; simpa using hsz⟩
theorem sliceOf_ok (hT : TabOk P T) {t : Nat} {i : TI} (h : sliceOf T t = some i) : ∃ e, P.underlying t = some (.slice e) ∧ T e = some i ∧ i.size ≠ 0 := by
  unfold sliceOf at h
  split at h <;> try cases h
  rename_i ti hti
  split at h <;> try cases h
  rename_i e he
  split at h <;> try cases h
  rename_i j hj
  split at h <;> try cases h
  rename_i hsz
  obtain ⟨d, hd, hk⟩ := (hT t ti hti).kd
  rw [he] at hk
  cases d <;> simp only [KdOk] at hk
  subst hk
  exact ⟨_, hd, hj, by rw [natBeq] at hsz; simpa using hsz⟩
theorem isStrT_ok (hT : TabOk P T) {t : Nat} (h : isStrT T t = true) : P.underlying t = some .string := by
  unfold isStrT at h
  split at h <;> try cases h
  rename_i ti hti
  split at h <;> try cases h
  rename_i he
  obtain ⟨d, hd, hk⟩ := (hT t ti hti).kd
  rw [he] at hk
  cases d <;> simp only [KdOk] at hk
  exact hd
theorem p_field {t : TypeId} {x : Operand} {i : Nat} {f : Nat × Nat × Bool} {a : XO} (hT : TabOk P T) (ho : o.op = .field t x i) (hI : Inv base g st w) (hf : fieldOf T t i = some f) (ha : compO x = some a) (hx : Opnd w g tm ρ x)
    (hr : xField f.1 f.2.1 f.2.2 (evX tm a) = some r) : POk P base g st w ρ o r := by
  have h1 := hx a ha
  obtain ⟨flds, fd, fi, hu, hfd, ho1, hfi, hs, hg, hz⟩ := fieldOf_ok hT hf
  unfold xField at hr
  split at hr <;> try cases hr
  rename_i cs he
  rw [he] at h1
  obtain ⟨vs, h2, h3, hv⟩ := rep_agg h1
  rw [← ho1, ← hs, ← hg] at hr
  obtain ⟨v, hv2, hr2⟩ := part_rep (hT _ fi hfi) h2 h3 hr w
  refine POk.of hI (v := v) ?_ hr2
  simp [execOp, ho, hv, Instr.field, Sem.run_bind, run_underlying hu, hfd, asAgg, hv2]
theorem flat_cons (e : AV) (es : List AV) : flat (e :: es) = e.cells ++ flat es := by simp [flat]
theorem flat_append (es fs : List AV) : flat (es ++ fs) = flat es ++ flat fs := by simp [flat]
theorem flat_length (es : List AV) (n : Nat) (h : ∀ e ∈ es, e.cells.length = n) : (flat es).length = es.length * n := by
  induction es with
  | nil => simp [flat]
  | cons e es ih => rw [flat_cons, List.length_append, h e (by simp), ih (fun x hx => h x (by simp [hx])), List.length_cons, Nat.succ_mul, Nat.add_comm]
theorem flat_drop (es : List AV) (n k : Nat) (h : ∀ e ∈ es, e.cells.length = n) : flat (es.drop k) = (flat es).drop (k * n) := by
  induction k generalizing es with
  | zero => simp
  | succ k ih =>
    cases es with
    | nil => simp [flat]
    | cons e es =>
      rw [List.drop_succ_cons, ih es (fun x hx => h x (by simp [hx])), flat_cons]
      have hl := h e (by simp)
      rw [List.drop_append, hl]
      have e1 : (k + 1) * n - n = k * n := by rw [Nat.succ_mul]; omega
      have e2 : e.cells.drop ((k + 1) * n) = [] := List.drop_eq_nil_of_le (by rw [hl, Nat.succ_mul]; omega)
      rw [e1, e2, List.nil_append]
theorem flat_take (es : List AV) (n k : Nat) (h : ∀ e ∈ es, e.cells.length = n) : flat (es.take k) = (flat es).take (k * n) := by
  induction k generalizing es with
  | zero => simp [flat]
  | succ k ih =>
    cases es with
    | nil => simp [flat]
    | cons e es =>
      rw [List.take_succ_cons, flat_cons, ih es (fun x hx => h x (by simp [hx])), flat_cons]
      have hl := h e (by simp)
      rw [List.take_append, hl]
      have e1 : (k + 1) * n - n = k * n := by rw [Nat.succ_mul]; omega
      have e2 : e.cells.take ((k + 1) * n) = e.cells := List.take_of_length_le (by rw [hl, Nat.succ_mul]; omega)
      rw [e1, e2]
/-- An element's cells. -/
theorem elem_rep {size b o k : Nat} {es : List AV} {vs : List Value} {e : AV} (hr : RL w g (flat es) vs) (hrow : Row w g b o vs) (hone : One vs) (hs : ∀ e ∈ es, e.cells.length = size) (he : es[k]? = some e) :
    ∃ us, RL w g e.cells us ∧ Row w g b (o + k * size) us ∧ One us := by
  refine ⟨(vs.drop (k * size)).take size, ?_, (hrow.drop _).take _, (hone.drop _).take _⟩
  have h1 := (hr.drop (k * size)).take size
  rw [← flat_drop es size k hs] at h1
  have hk : k < es.length := (List.getElem?_eq_some_iff.1 he).1
  have h2 : es.drop k = e :: es.drop (k + 1) := by
    rw [List.getElem?_eq_getElem hk] at he
    injection he with he
    rw [← he]; exact List.drop_eq_getElem_cons hk
  rw [h2, flat_cons, List.take_append] at h1
  have hl := hs e (List.mem_of_getElem? he)
  rw [hl, Nat.sub_self, List.take_zero, List.append_nil, List.take_of_length_le (by omega)] at h1
  exact h1
theorem p_iaddr {t : TypeId} {x ix : Operand} {i : TI} {a b : XO} (hT : TabOk P T) (ho : o.op = .indexAddr t x ix) (hI : Inv base g st w) (hi : sliceOf T t = some i) (ha : compO x = some a) (hb : compO ix = some b)
    (hx : Opnd w g tm ρ x) (hix : Opnd w g tm ρ ix) (hr : xIaddr i.size (evX tm a) (natOf (evX tm b)) = some r) : POk P base g st w ρ o r := by
  have h1 := hx a ha
  have h2 := hix b hb
  obtain ⟨e, hu, hTe, hz⟩ := sliceOf_ok hT hi
  unfold xIaddr at hr
  split at hr <;> try cases hr
  rename_i n hn
  obtain ⟨k, hk⟩ := natOf_eq hn
  rw [hk] at h2
  have hv2 := rep_int h2
  split at hr
  · rename_i s es tip he
    split at hr <;> try cases hr
    rename_i hs
    rw [natBeq] at hs
    have hs := of_decide_eq_true hs
    subst hs
    rw [nth_eq] at hr
    split at hr <;> try cases hr
    rename_i v hv
    rw [he] at h1
    obtain ⟨vs, b', o', cap, h3, h4, h5, h6, h7, h8, hv1⟩ := rep_sl h1
    obtain ⟨us, h9, h10, h11⟩ := elem_rep h3 h4 h5 h6 hv
    have hlt : n < es.length := (List.getElem?_eq_some_iff.1 hv).1
    refine POk.of hI (v := .pointer (some ⟨b', o' + n * i.size + 0, none⟩)) ?_ (.ro _ 0 us b' _ h9 h10 h11)
    have h0 : (0 : Int) ≤ (n : Int) ∧ (n : Int) < (es.length : Int) := by omega
    simp [execOp, ho, hv1, hv2, Instr.indexAt, asIntOf, Sem.run_bind, run_underlying hu, hlt, (hT _ i hTe).run_size, Addr.add_mid]
  · rename_i key off len he
    split at hr <;> try cases hr
    rename_i hlt
    have hlt : n < len := Nat.lt_of_succ_le (Nat.le_of_ble_eq_true hlt)
    rw [he] at h1
    obtain ⟨b', cap, hk', hc, hv1⟩ := rep_ks h1
    refine POk.of hI (v := .pointer (some ⟨b', off + n * i.size, none⟩)) ?_ (.ptr _ _ b' hk')
    simp [execOp, ho, hv1, hv2, Instr.indexAt, asIntOf, Sem.run_bind, run_underlying hu, hlt, (hT _ i hTe).run_size, Addr.add_mid]
  · cases hr
theorem p_ixs {t : TypeId} {x ix : Operand} {a b : XO} (hT : TabOk P T) (ho : o.op = .index t x ix) (hI : Inv base g st w) (hi : isStrT T t = true) (ha : compO x = some a) (hb : compO ix = some b)
    (hx : Opnd w g tm ρ x) (hix : Opnd w g tm ρ ix) (hr : xIxs (evX tm a) (natOf (evX tm b)) = some r) : POk P base g st w ρ o r := by
  have h1 := hx a ha
  have h2 := hix b hb
  have hu := isStrT_ok hT hi
  unfold xIxs at hr
  split at hr <;> try cases hr
  rename_i n hn
  obtain ⟨k, hk⟩ := natOf_eq hn
  rw [hk] at h2
  have hv2 := rep_int h2
  split at hr <;> try cases hr
  rename_i s he
  rw [nth_eq] at hr
  split at hr <;> try cases hr
  rename_i c hc
  rw [he] at h1
  have hv1 := rep_str h1
  have hlt : n < s.length := (List.getElem?_eq_some_iff.1 hc).1
  refine POk.of hI (v := .int .u8 (c.toNat : Int)) ?_ (.int _ _)
  have hg : (⟨s.toArray⟩ : ByteArray)[n]? = some c := by
    have : n < (⟨s.toArray⟩ : ByteArray).size := hlt
    rw [getElem?_pos _ n this]
    have h3 := (List.getElem?_eq_some_iff.1 hc).2
    exact congrArg some h3
  simp [execOp, ho, hv1, hv2, Instr.index, asIntOf, Sem.run_bind, run_underlying hu, hg]
theorem p_ext {x : Operand} {i : Nat} {a : XO} (ho : o.op = .extract x i) (hI : Inv base g st w) (ha : compO x = some a) (hx : Opnd w g tm ρ x) (hr : xExt (evX tm a) i = some r) : POk P base g st w ρ o r := by
  have h1 := hx a ha
  unfold xExt at hr
  split at hr <;> try cases hr
  rename_i vs he
  rw [he] at h1
  obtain ⟨us, h2, hv⟩ := rep_tup h1
  rw [nth_eq] at hr
  obtain ⟨u, hu, hr2⟩ := h2.get hr
  refine POk.of hI (v := u) ?_ hr2
  simp [execOp, ho, hv, Instr.extract, hu]
theorem p_lens {c : Call} {x : Operand} {t : TypeId} {a : XO} (hT : TabOk P T) (ho : o.op = .call c) (hc : c.callee = .builtin .len) (hA : c.args.toList = [x]) (hB : c.argTypes.toList = [t]) (hI : Inv base g st w) (hi : isStrT T t = true) (ha : compO x = some a)
    (hx : Opnd w g tm ρ x) (hr : xLens (evX tm a) = some r) : POk P base g st w ρ o r := by
  have h1 := hx a ha
  have hu := isStrT_ok hT hi
  unfold xLens at hr
  split at hr <;> try cases hr
  rename_i s he
  rw [he] at h1
  have hv1 := rep_str h1
  have hA' : c.args = #[x] := by cases hc' : c.args; rw [hc'] at hA; simp at hA; rw [hA]
  have hB' : c.argTypes = #[t] := by cases hc' : c.argTypes; rw [hc'] at hB; simp at hB; rw [hB]
  refine POk.of hI (v := .int .i64 (s.length : Int)) ?_ (.int _ _)
  have : (⟨s.toArray⟩ : ByteArray).size = s.length := rfl
  simp [execOp, ho, resolve, hc, hA', hB', invoke, builtin, hv1, Builtin.len_, Sem.run_bind, run_underlying hu, goInt, this]
theorem p_lenl {c : Call} {x : Operand} {t : TypeId} {i : TI} {a : XO} (hT : TabOk P T) (ho : o.op = .call c) (hc : c.callee = .builtin .len) (hA : c.args.toList = [x]) (hB : c.argTypes.toList = [t]) (hI : Inv base g st w) (hi : sliceOf T t = some i) (ha : compO x = some a)
    (hx : Opnd w g tm ρ x) (hr : xLenl (evX tm a) = some r) : POk P base g st w ρ o r := by
  have h1 := hx a ha
  obtain ⟨e, hu, hTe, hz⟩ := sliceOf_ok hT hi
  have hA' : c.args = #[x] := by cases hc' : c.args; rw [hc'] at hA; simp at hA; rw [hA]
  have hB' : c.argTypes = #[t] := by cases hc' : c.argTypes; rw [hc'] at hB; simp at hB; rw [hB]
  unfold xLenl at hr
  split at hr <;> try cases hr
  · rename_i s es tip he
    rw [he] at h1
    obtain ⟨vs, b', o', cap, h3, h4, h5, h6, h7, h8, hv1⟩ := rep_sl h1
    refine POk.of hI (v := .int .i64 (es.length : Int)) ?_ (.int _ _)
    simp [execOp, ho, resolve, hc, hA', hB', invoke, builtin, hv1, Builtin.len_, Sem.run_bind, run_underlying hu, goInt]
  · rename_i he
    rw [he] at h1
    have hv1 := rep_nils h1
    refine POk.of hI (v := .int .i64 0) ?_ (.int _ _)
    simp [execOp, ho, resolve, hc, hA', hB', invoke, builtin, hv1, Builtin.len_, Sem.run_bind, run_underlying hu, goInt]
  · rename_i k off n he
    rw [he] at h1
    obtain ⟨b', cap, hk', hcap, hv1⟩ := rep_ks h1
    refine POk.of hI (v := .int .i64 (n : Int)) ?_ (.int _ _)
    simp [execOp, ho, resolve, hc, hA', hB', invoke, builtin, hv1, Builtin.len_, Sem.run_bind, run_underlying hu, goInt]
theorem p_max {c : Call} {x y : Operand} {a b : XO} (ho : o.op = .call c) (hc : c.callee = .builtin .max) (hA : c.args.toList = [x, y]) (hI : Inv base g st w) (ha : compO x = some a) (hb : compO y = some b)
    (hx : Opnd w g tm ρ x) (hy : Opnd w g tm ρ y) (hr : xMax (evX tm a) (evX tm b) = some r) : POk P base g st w ρ o r := by
  have h1 := hx a ha
  have h2 := hy b hb
  have hA' : c.args = #[x, y] := by cases hc' : c.args; rw [hc'] at hA; simp at hA; rw [hA]
  unfold xMax at hr
  split at hr <;> try cases hr
  rename_i k m j n he he'
  rw [he] at h1; rw [he'] at h2
  have hv1 := rep_int h1
  have hv2 := rep_int h2
  refine POk.of hI (v := .int k (if n > m then n else m)) ?_ (.int _ _)
  simp [execOp, ho, resolve, hc, hA', invoke, builtin, hv1, hv2, Builtin.max_, Builtin.max2]
theorem p_min {c : Call} {x y : Operand} {a b : XO} (ho : o.op = .call c) (hc : c.callee = .builtin .min) (hA : c.args.toList = [x, y]) (hI : Inv base g st w) (ha : compO x = some a) (hb : compO y = some b)
    (hx : Opnd w g tm ρ x) (hy : Opnd w g tm ρ y) (hr : xMin (evX tm a) (evX tm b) = some r) : POk P base g st w ρ o r := by
  have h1 := hx a ha
  have h2 := hy b hb
  have hA' : c.args = #[x, y] := by cases hc' : c.args; rw [hc'] at hA; simp at hA; rw [hA]
  unfold xMin at hr
  split at hr <;> try cases hr
  rename_i k m j n he he'
  rw [he] at h1; rw [he'] at h2
  have hv1 := rep_int h1
  have hv2 := rep_int h2
  refine POk.of hI (v := .int k (if n < m then n else m)) ?_ (.int _ _)
  simp [execOp, ho, resolve, hc, hA', invoke, builtin, hv1, hv2, Builtin.min_, Builtin.min2]
theorem p_cint {s d : TypeId} {x : Operand} {a : XO} {k : IntKind} {di si : TI} {q : IntKind} (hT : TabOk P T) (ho : o.op = .convert s d x) (hI : Inv base g st w) (hd : T d = some di) (hk : di.kd = .int k) (hs : T s = some si) (hq : si.kd = .int q) (ha : compO x = some a)
    (hx : Opnd w g tm ρ x) (hr : xCint k (evX tm a) = some r) : POk P base g st w ρ o r := by
  have h1 := hx a ha
  obtain ⟨dd, hdd, hkd⟩ := (hT d di hd).kd
  obtain ⟨ss, hss, hks⟩ := (hT s si hs).kd
  rw [hk] at hkd; rw [hq] at hks
  cases dd <;> simp only [KdOk] at hkd
  cases ss <;> simp only [KdOk] at hks
  subst hkd hks
  unfold xCint at hr
  split at hr <;> try cases hr
  rename_i j n he
  rw [he] at h1
  have hv1 := rep_int h1
  refine POk.of hI (v := .int k (k.wrap n)) ?_ (.int _ _)
  simp [execOp, ho, convert, hv1, Sem.run_bind, run_underlying hss, run_underlying hdd, Conv.intToInt]
theorem p_cstr {s d : TypeId} {x : Operand} {a : XO} {di si : TI} (hT : TabOk P T) (ho : o.op = .convert s d x) (hI : Inv base g st w) (hd : T d = some di) (hk : di.kd = .str) (hs : T s = some si) (hq : si.kd = .str) (ha : compO x = some a)
    (hx : Opnd w g tm ρ x) (hr : xCstr (evX tm a) = some r) : POk P base g st w ρ o r := by
  have h1 := hx a ha
  obtain ⟨dd, hdd, hkd⟩ := (hT d di hd).kd
  obtain ⟨ss, hss, hks⟩ := (hT s si hs).kd
  rw [hk] at hkd; rw [hq] at hks
  cases dd <;> simp only [KdOk] at hkd
  cases ss <;> simp only [KdOk] at hks
  unfold xCstr at hr
  split at hr <;> try cases hr
  rename_i j he
  rw [he] at h1
  have hv1 := rep_str h1
  refine POk.of hI (v := .string ⟨j.toArray⟩) ?_ (.str _)
  simp [execOp, ho, convert, hv1, Sem.run_bind, run_underlying hss, run_underlying hdd]
end
end Go.Ev
namespace Go.Ev
open Go.RowKit
set_option linter.unusedVariables false

section
variable {P : Program} {T : Nat → Option TI} {base : Nat} {g : G} {st : St} {w : World} {ρ : Operand → Value} {o : Oper} {tm : Tr AV} {r : AV}

theorem ofSem_ok {s : Sem Value} {a : AV} (h : ofSem s = some a) (w : World) (g : G) : ∃ v, s = .pure v ∧ Rep w g a v := by
  unfold ofSem at h
  split at h
  · injection h with h; subst h; exact ⟨_, rfl, .bool _⟩
  · injection h with h; subst h; exact ⟨_, rfl, .int _ _⟩
  · cases h
theorem run_pure' {α : Type} (v : α) (w : World) : (Sem.pure v).run P w = .ok v w := rfl
theorem binI_run {op : BinOp} {k : IntKind} {a b : Int} (h : binI op k a b = some r) (t : TypeId) (w : World) (g : G) : ∃ v, (binOp op t (.int k a) (.int k b)).run P w = .ok v w ∧ Rep w g r v := by
  cases op <;> simp only [binI] at h
  case eql => injection h with h; subst h; rw [beqInt_eq]; exact ⟨.bool (a == b), by simp [binOp, Op.intCmp], by have : (a == b) = decide (a = b) := rfl; rw [this]; exact .bool _⟩
  case neq => injection h with h; subst h; rw [beqInt_eq]; exact ⟨.bool (a != b), by simp [binOp, Op.intCmp], by have : (a != b) = !decide (a = b) := rfl; rw [this]; exact .bool _⟩
  case shl => cases h
  case shr => cases h
  case quo =>
    split at h
    · cases h
    · rename_i hb
      rw [beqInt_eq] at hb
      have hb' : b ≠ 0 := by simpa using hb
      obtain ⟨v, h1, h2⟩ := ofSem_ok h w g
      refine ⟨v, ?_, h2⟩
      have : binOp .quo t (.int k a) (.int k b) = Op.intDiv .quo k a b := by simp [binOp]
      rw [this, h1]; rfl
  case rem =>
    split at h
    · cases h
    · rename_i hb
      obtain ⟨v, h1, h2⟩ := ofSem_ok h w g
      refine ⟨v, ?_, h2⟩
      have : binOp .rem t (.int k a) (.int k b) = Op.intDiv .rem k a b := by simp [binOp]
      rw [this, h1]; rfl
  all_goals
    obtain ⟨v, h1, h2⟩ := ofSem_ok h w g
    refine ⟨v, ?_, h2⟩
    first
      | (have : binOp .add t (.int k a) (.int k b) = Op.intArith .add k a b := by simp [binOp]
         rw [this, h1]; rfl)
      | (have : binOp .sub t (.int k a) (.int k b) = Op.intArith .sub k a b := by simp [binOp]
         rw [this, h1]; rfl)
      | (have : binOp .mul t (.int k a) (.int k b) = Op.intArith .mul k a b := by simp [binOp]
         rw [this, h1]; rfl)
      | (have : binOp .and t (.int k a) (.int k b) = Op.intBits .and k a b := by simp [binOp]
         rw [this, h1]; rfl)
      | (have : binOp .or t (.int k a) (.int k b) = Op.intBits .or k a b := by simp [binOp]
         rw [this, h1]; rfl)
      | (have : binOp .xor t (.int k a) (.int k b) = Op.intBits .xor k a b := by simp [binOp]
         rw [this, h1]; rfl)
      | (have : binOp .andNot t (.int k a) (.int k b) = Op.intBits .andNot k a b := by simp [binOp]
         rw [this, h1]; rfl)
      | (have : binOp .lss t (.int k a) (.int k b) = Op.intCmp .lss a b := by simp [binOp]
         rw [this, h1]; rfl)
      | (have : binOp .leq t (.int k a) (.int k b) = Op.intCmp .leq a b := by simp [binOp]
         rw [this, h1]; rfl)
      | (have : binOp .gtr t (.int k a) (.int k b) = Op.intCmp .gtr a b := by simp [binOp]
         rw [this, h1]; rfl)
      | (have : binOp .geq t (.int k a) (.int k b) = Op.intCmp .geq a b := by simp [binOp]
         rw [this, h1]; rfl)
theorem toArray_beq (a b : List UInt8) : ((⟨a.toArray⟩ : ByteArray).toList == (⟨b.toArray⟩ : ByteArray).toList) = decide (a = b) := by
  rw [ByteArray.toList_mk, ByteArray.toList_mk]
  by_cases h : a = b <;> simp [h]
theorem bytes_beq (a b : List UInt8) : (a == b) = decide (a = b) := by by_cases h : a = b <;> simp [h]
theorem binS_run {op : BinOp} {a b : List UInt8} (h : binS op a b = some r) (t : TypeId) (w : World) (g : G) : ∃ v, (binOp op t (.string ⟨a.toArray⟩) (.string ⟨b.toArray⟩)).run P w = .ok v w ∧ Rep w g r v := by
  have hop : binOp op t (.string ⟨a.toArray⟩) (.string ⟨b.toArray⟩) = Op.stringOp op ⟨a.toArray⟩ ⟨b.toArray⟩ := by cases op <;> simp [binOp]
  rw [hop]
  cases op <;> simp only [binS] at h
  case add =>
    split at h
    · rename_i hle
      injection h with h; subst h
      have hle := Nat.le_of_ble_eq_true hle
      refine ⟨.string ⟨(a ++ b).toArray⟩, ?_, .str _⟩
      have h1 : (⟨a.toArray⟩ : ByteArray).size = a.length := rfl
      have h2 : (⟨b.toArray⟩ : ByteArray).size = b.length := rfl
      have h5 : (a.length : Int) + (b.length : Int) ≤ 9223372036854775807 := by omega
      have h4 : (⟨a.toArray⟩ : ByteArray) ++ ⟨b.toArray⟩ = ⟨(a ++ b).toArray⟩ := by
        apply ByteArray.ext
        simp [ByteArray.data_append]
      simp [Op.stringOp, h1, h2, h4, h5]
    · cases h
  case eql => injection h with h; subst h; exact ⟨.bool (decide (a = b)), by simp [Op.stringOp, bytes_beq], by rw [eqL_eq]; exact .bool _⟩
  case neq => injection h with h; subst h; exact ⟨.bool (!decide (a = b)), by simp [Op.stringOp, bytes_beq], by rw [eqL_eq]; exact .bool _⟩
  case lss => injection h with h; subst h; exact ⟨.bool (Op.bytesLess a b), by simp [Op.stringOp], .bool _⟩
  case leq => injection h with h; subst h; exact ⟨.bool (Op.bytesLess a b || decide (a = b)), by simp [Op.stringOp, bytes_beq], by rw [eqL_eq]; exact .bool _⟩
  case gtr => injection h with h; subst h; exact ⟨.bool (!(Op.bytesLess a b || decide (a = b))), by simp [Op.stringOp, bytes_beq], by rw [eqL_eq]; exact .bool _⟩
  case geq => injection h with h; subst h; exact ⟨.bool (!(Op.bytesLess a b)), by simp [Op.stringOp], .bool _⟩
  all_goals cases h

/-- What is said of the type of two values that are compared. -/
def EkOk (P : Program) (t : TypeId) : EK → Prop
  | .bool => P.underlying t = some .bool
  | .int => ∃ k, P.underlying t = some (.int k)
  | .str => P.underlying t = some .string
  | .ptr => ∃ e, P.underlying t = some (.pointer e)
  | .slice => ∃ e, P.underlying t = some (.slice e)
  | .map => ∃ k e, P.underlying t = some (.map k e)
  | .func => ∃ a b c, P.underlying t = some (.func a b c)
  | .struct z => P.eqGuardType P.depth t = false ∧
    ∀ (w w' : World) (g : G) (as bs : List AV) (us vs : List Value) (r : Bool), RL w g as us → RL w g bs vs → sameL z as = true → sameL z bs = true → eqCells as bs = some r → (Op.equal t (.agg us.toArray) (.agg vs.toArray)).run P w' = .ok r w'
  | .none => True
theorem ekOf_ok (hT : TabOk P T) (t : TypeId) : EkOk P t (ekOf T t) := by
  unfold ekOf
  split
  · rename_i i hi
    have h := hT t i hi
    obtain ⟨d, hd, hk⟩ := h.kd
    split <;> rename_i hkd <;> (try rw [hkd] at hk) <;> (try (cases d <;> simp only [KdOk] at hk)) <;> (try exact ⟨_, hd⟩) <;> (try exact hd) <;> (try exact ⟨_, _, hd⟩) <;> (try exact ⟨_, _, _, hd⟩)
    split
    · rename_i he; exact h.eq he
    · trivial
  · trivial
theorem eqd (t : TypeId) (u v : Value) : Op.equal t u v = Op.equalIn (9999 + 1) t u v := rfl
theorem eq_pnn (d : Nat) {t e : TypeId} (h : P.underlying t = some (.pointer e)) (w : World) : (Op.equalIn (d + 1) t (.pointer none) (.pointer none)).run P w = .ok true w := by simp [Op.equalIn, Sem.run_bind, run_underlying h]
theorem eq_pna (d : Nat) {t e : TypeId} (h : P.underlying t = some (.pointer e)) (a : Addr) (w : World) : (Op.equalIn (d + 1) t (.pointer none) (.pointer (some a))).run P w = .ok false w := by simp [Op.equalIn, Sem.run_bind, run_underlying h]
theorem eq_pan (d : Nat) {t e : TypeId} (h : P.underlying t = some (.pointer e)) (a : Addr) (w : World) : (Op.equalIn (d + 1) t (.pointer (some a)) (.pointer none)).run P w = .ok false w := by simp [Op.equalIn, Sem.run_bind, run_underlying h]
theorem eq_snn (d : Nat) {t e : TypeId} (h : P.underlying t = some (.slice e)) (w : World) : (Op.equalIn (d + 1) t (.slice none 0 0) (.slice none 0 0)).run P w = .ok true w := by simp [Op.equalIn, Sem.run_bind, run_underlying h]
theorem eq_sna (d : Nat) {t e : TypeId} (h : P.underlying t = some (.slice e)) (a : Addr) (n c : Nat) (w : World) : (Op.equalIn (d + 1) t (.slice none 0 0) (.slice (some a) n c)).run P w = .ok false w := by simp [Op.equalIn, Sem.run_bind, run_underlying h]
theorem eq_san (d : Nat) {t e : TypeId} (h : P.underlying t = some (.slice e)) (a : Addr) (n c : Nat) (w : World) : (Op.equalIn (d + 1) t (.slice (some a) n c) (.slice none 0 0)).run P w = .ok false w := by simp [Op.equalIn, Sem.run_bind, run_underlying h]
theorem eq_mnn (d : Nat) {t k e : TypeId} (h : P.underlying t = some (.map k e)) (w : World) : (Op.equalIn (d + 1) t (.map none) (.map none)).run P w = .ok true w := by simp [Op.equalIn, Sem.run_bind, run_underlying h]
theorem eq_mna (d : Nat) {t k e : TypeId} (h : P.underlying t = some (.map k e)) (a : Nat) (w : World) : (Op.equalIn (d + 1) t (.map none) (.map (some a))).run P w = .ok false w := by simp [Op.equalIn, Sem.run_bind, run_underlying h]
theorem eq_man (d : Nat) {t k e : TypeId} (h : P.underlying t = some (.map k e)) (a : Nat) (w : World) : (Op.equalIn (d + 1) t (.map (some a)) (.map none)).run P w = .ok false w := by simp [Op.equalIn, Sem.run_bind, run_underlying h]
theorem eq_fnn (d : Nat) {t : TypeId} {a b : Array TypeId} {c : Bool} (h : P.underlying t = some (.func a b c)) (w : World) : (Op.equalIn (d + 1) t .nilFunc .nilFunc).run P w = .ok true w := by simp [Op.equalIn, Sem.run_bind, run_underlying h]
theorem eq_fna (d : Nat) {t : TypeId} {a b : Array TypeId} {c : Bool} (h : P.underlying t = some (.func a b c)) (f : Fn) (x y : Array Value) (w : World) : (Op.equalIn (d + 1) t .nilFunc (.func f x y)).run P w = .ok false w := by simp [Op.equalIn, Sem.run_bind, run_underlying h]
theorem eq_fan (d : Nat) {t : TypeId} {a b : Array TypeId} {c : Bool} (h : P.underlying t = some (.func a b c)) (f : Fn) (x y : Array Value) (w : World) : (Op.equalIn (d + 1) t (.func f x y) .nilFunc).run P w = .ok false w := by simp [Op.equalIn, Sem.run_bind, run_underlying h]
theorem eqV_run {k : EK} {t : TypeId} (hk : EkOk P t k) {x y : AV} {b : Bool} (h : eqV k x y = some b) {u v : Value} (hu : Rep w g x u) (hv : Rep w g y v) (w' : World) : (Op.equal t u v).run P w' = .ok b w' := by
  unfold eqV at h
  split at h
  all_goals first | cases h | skip
  all_goals try (injection h with h; subst h)
  · rw [rep_bool hu, rep_bool hv]; exact run_equal_bool w' t _ _ hk
  · split at h
    · rename_i hjk
      have hjk := of_decide_eq_true hjk
      subst hjk
      injection h with h; subst h
      rw [rep_int hu, rep_int hv]
      obtain ⟨q, hq⟩ := hk
      rw [beqInt_eq]
      exact run_equalIn_int w' 9999 t _ q _ _ hq
    · cases h
  · rw [rep_str hu, rep_str hv]
    rw [eqL_eq, ← toArray_beq]
    exact run_equalIn_string (P := P) w' 9999 t _ _ hk
  · obtain ⟨e, he⟩ := hk
    rw [rep_nilp hu, rep_nilp hv]
    exact eq_pnn 9999 he w'
  · obtain ⟨e, he⟩ := hk
    obtain ⟨c, _, hc⟩ := rep_ptr hv
    rw [rep_nilp hu, hc]
    exact eq_pna 9999 he _ w'
  · obtain ⟨e, he⟩ := hk
    obtain ⟨c, _, hc⟩ := rep_ptr hu
    rw [rep_nilp hv, hc]
    exact eq_pan 9999 he _ w'
  · obtain ⟨e, he⟩ := hk
    obtain ⟨_, _, _, _, _, _, hc⟩ := rep_ro hv
    rw [rep_nilp hu, hc]
    exact eq_pna 9999 he _ w'
  · obtain ⟨e, he⟩ := hk
    obtain ⟨_, _, _, _, _, _, hc⟩ := rep_ro hu
    rw [rep_nilp hv, hc]
    exact eq_pan 9999 he _ w'
  · obtain ⟨e, he⟩ := hk
    rw [rep_nils hu, rep_nils hv]
    exact eq_snn 9999 he w'
  · obtain ⟨e, he⟩ := hk
    obtain ⟨_, _, _, _, _, _, _, _, _, _, hc⟩ := rep_sl hv
    rw [rep_nils hu, hc]
    exact eq_sna 9999 he _ _ _ w'
  · obtain ⟨e, he⟩ := hk
    obtain ⟨_, _, _, _, _, _, _, _, _, _, hc⟩ := rep_sl hu
    rw [rep_nils hv, hc]
    exact eq_san 9999 he _ _ _ w'
  · obtain ⟨e, he⟩ := hk
    obtain ⟨_, _, _, _, hc⟩ := rep_ks hv
    rw [rep_nils hu, hc]
    exact eq_sna 9999 he _ _ _ w'
  · obtain ⟨e, he⟩ := hk
    obtain ⟨_, _, _, _, hc⟩ := rep_ks hu
    rw [rep_nils hv, hc]
    exact eq_san 9999 he _ _ _ w'
  · obtain ⟨e, f, he⟩ := hk
    rw [rep_nilm hu, rep_nilm hv]
    exact eq_mnn 9999 he w'
  · obtain ⟨e, f, he⟩ := hk
    obtain ⟨_, _, hc⟩ := rep_mp hu
    rw [hc, rep_nilm hv]
    exact eq_man 9999 he _ w'
  · obtain ⟨e, f, he⟩ := hk
    obtain ⟨_, _, hc⟩ := rep_mp hv
    rw [hc, rep_nilm hu]
    exact eq_mna 9999 he _ w'
  · obtain ⟨e, f, d, he⟩ := hk
    rw [rep_nilf hu, rep_nilf hv]
    exact eq_fnn 9999 he w'
  · obtain ⟨e, f, d, he⟩ := hk
    obtain ⟨_, _, _, _, hc⟩ := rep_fn hu
    rw [hc, rep_nilf hv]
    exact eq_fan 9999 he _ _ _ w'
  · obtain ⟨e, f, d, he⟩ := hk
    obtain ⟨_, _, _, _, hc⟩ := rep_fn hv
    rw [hc, rep_nilf hu]
    exact eq_fna 9999 he _ _ _ w'
  · obtain ⟨us, h1, _, h2⟩ := rep_agg hu
    obtain ⟨vs, h3, _, h4⟩ := rep_agg hv
    rw [h2, h4]
    split at h <;> try cases h
    rename_i hc
    simp only [Bool.and_eq_true] at hc
    exact hk.2 w w' g _ _ us vs b h1 h3 hc.1 hc.2 h
theorem guard_run {k : EK} {t : TypeId} (hk : EkOk P t k) {x y : AV} {b : Bool} (h : eqV k x y = some b) {u v : Value} (hu : Rep w g x u) (hv : Rep w g y v) (op : BinOp) (p q : Operand) (w' : World) : (eqGuard op t p q u v).run P w' = .ok () w' := by
  by_cases hs : ∃ a c, x = .agg a ∧ y = .agg c
  · obtain ⟨a, c, rfl, rfl⟩ := hs
    cases k <;> simp only [eqV] at h <;> first | cases h | skip
    obtain ⟨us, h1, _, h2⟩ := rep_agg hu
    obtain ⟨vs, h3, _, h4⟩ := rep_agg hv
    rw [h2, h4]
    exact run_eqGuard_agg w' op t p q _ _ hk.1
  · have hnot : (∀ us vs, ¬ (u = .agg us ∧ v = .agg vs)) ∧ ¬ (u = .nilIface ∧ v = .nilIface) := by
      constructor
      · rintro us vs ⟨rfl, rfl⟩
        cases hu <;> cases hv <;> first | exact hs ⟨_, _, rfl, rfl⟩ | (cases k <;> cases h)
      · rintro ⟨rfl, rfl⟩
        cases hu; cases hv
        cases k <;> cases h
    by_cases hop : op = .eql ∨ op = .neq
    · rcases hop with rfl | rfl
      · unfold eqGuard
        rw [if_neg (by simp)]
        split
        · exact absurd ⟨rfl, rfl⟩ hnot.2
        · exact absurd ⟨rfl, rfl⟩ (hnot.1 _ _)
        · rfl
      · unfold eqGuard
        rw [if_neg (by simp)]
        split
        · exact absurd ⟨rfl, rfl⟩ hnot.2
        · exact absurd ⟨rfl, rfl⟩ (hnot.1 _ _)
        · rfl
    · cases op <;> first | exact absurd (.inl rfl) hop | exact absurd (.inr rfl) hop | simp [eqGuard]
theorem p_bin {op : BinOp} {t t' : TypeId} {x y : Operand} {a b : XO} (hT : TabOk P T) (ho : o.op = .binOp op t x y t') (hI : Inv base g st w) (ha : compO x = some a) (hb : compO y = some b)
    (hx : Opnd w g tm ρ x) (hy : Opnd w g tm ρ y) (hr : binA op (ekOf T t) (evX tm a) (evX tm b) = some r) : POk P base g st w ρ o r := by
  have h1 := hx a ha
  have h2 := hy b hb
  have hk := ekOf_ok hT t
  unfold binA at hr
  split at hr
  · rename_i k m j n he he'
    split at hr
    · rename_i hkj
      have hkj := of_decide_eq_true hkj
      subst hkj
      rw [he] at h1; rw [he'] at h2
      obtain ⟨v, hv, hr2⟩ := binI_run (P := P) hr t w g
      refine POk.of hI (v := v) ?_ hr2
      have hg : (eqGuard op t x y (.int k m) (.int k n)).run P w = .ok () w := by cases op <;> simp [eqGuard]
      simp [execOp, ho, rep_int h1, rep_int h2, Sem.run_bind, hg, hv]
    · cases hr
  · rename_i s u he he'
    rw [he] at h1; rw [he'] at h2
    obtain ⟨v, hv, hr2⟩ := binS_run (P := P) hr t w g
    refine POk.of hI (v := v) ?_ hr2
    have hg : (eqGuard op t x y (.string ⟨s.toArray⟩) (.string ⟨u.toArray⟩)).run P w = .ok () w := by cases op <;> simp [eqGuard]
    simp [execOp, ho, rep_str h1, rep_str h2, Sem.run_bind, hg, hv]
  · rename_i hni hns
    have key : ∀ q, eqV (ekOf T t) (evX tm a) (evX tm b) = some q → (op = .eql ∨ op = .neq) → (binOp op t (ρ x) (ρ y)).run P w = .ok (.bool (if op = .eql then q else !q)) w := by
      intro q hq hop
      have he := eqV_run hk hq h1 h2 w
      have hint : ∀ k m j n, ¬ (ρ x = .int k m ∧ ρ y = .int j n) := by
        rintro k m j n ⟨e1, e2⟩
        rw [e1] at h1; rw [e2] at h2
        generalize evX tm a = A at *
        generalize evX tm b = B at *
        cases h1 <;> cases h2
        · exact hni _ _ _ _ rfl rfl
        all_goals (generalize ekOf T t = K at hq; cases K <;> cases hq)
      have hstr : ∀ m n, ¬ (ρ x = .string m ∧ ρ y = .string n) := by
        rintro m n ⟨e1, e2⟩
        rw [e1] at h1; rw [e2] at h2
        generalize evX tm a = A at *
        generalize evX tm b = B at *
        cases h1 <;> cases h2
        · exact hns _ _ rfl rfl
        all_goals (generalize ekOf T t = K at hq; cases K <;> cases hq)
      have hfl : ∀ k m j n, ¬ (ρ x = .float k m ∧ ρ y = .float j n) := by
        rintro k m j n ⟨e1, e2⟩
        rw [e1] at h1; rw [e2] at h2
        generalize evX tm a = A at *
        generalize evX tm b = B at *
        cases h1 <;> cases h2
        all_goals (generalize ekOf T t = K at hq; cases K <;> cases hq)
      have hcx : ∀ k m m' j n n', ¬ (ρ x = .complex k m m' ∧ ρ y = .complex j n n') := by
        rintro k m m' j n n' ⟨e1, e2⟩
        rw [e1] at h1; rw [e2] at h2
        generalize evX tm a = A at *
        generalize evX tm b = B at *
        cases h1 <;> cases h2
        all_goals (generalize ekOf T t = K at hq; cases K <;> cases hq)
      rcases hop with rfl | rfl
      · unfold binOp
        split <;> first | exact absurd ⟨‹_›, ‹_›⟩ (hint _ _ _ _) | exact absurd ⟨‹_›, ‹_›⟩ (hstr _ _) | exact absurd ⟨‹_›, ‹_›⟩ (hfl _ _ _ _) | exact absurd ⟨‹_›, ‹_›⟩ (hcx _ _ _ _ _ _) | skip
        all_goals first | (simp [Sem.run_bind, he]; done) | (cases ‹BinOp.eql = _›; done) | (exfalso; simp_all; done)
      · unfold binOp
        split <;> first | exact absurd ⟨‹_›, ‹_›⟩ (hint _ _ _ _) | exact absurd ⟨‹_›, ‹_›⟩ (hstr _ _) | exact absurd ⟨‹_›, ‹_›⟩ (hfl _ _ _ _) | exact absurd ⟨‹_›, ‹_›⟩ (hcx _ _ _ _ _ _) | skip
        all_goals first | (simp [Sem.run_bind, he]; done) | (cases ‹BinOp.neq = _›; done) | (exfalso; simp_all; done)
    split at hr
    · split at hr
      · rename_i q hq
        injection hr with hr; subst hr
        refine POk.of hI (v := .bool q) ?_ (.bool _)
        simp [execOp, ho, Sem.run_bind, guard_run hk hq h1 h2, key q hq (.inl rfl)]
      · cases hr
    · split at hr
      · rename_i q hq
        injection hr with hr; subst hr
        refine POk.of hI (v := .bool (!q)) ?_ (.bool _)
        simp [execOp, ho, Sem.run_bind, guard_run hk hq h1 h2, key q hq (.inr rfl)]
      · cases hr
    · cases hr
end
end Go.Ev
namespace Go.Ev
open Go.RowKit
set_option linter.unusedVariables false

section
variable {P : Program} {T : Nat → Option TI} {base : Nat} {g : G} {st : St} {w : World} {ρ : Operand → Value} {o : Oper} {tm : Tr AV} {r : AV}

theorem compOO_rep {x : Option Operand} {y : Option XO} (h : compOO x = some y) : (x = none ∧ y = none) ∨ ∃ a b, x = some a ∧ y = some b ∧ compO a = some b := by
  unfold compOO at h
  split at h
  · injection h with h; exact .inl ⟨rfl, h.symm⟩
  · split at h
    · injection h with h; subst h; exact .inr ⟨_, _, rfl, rfl, by assumption⟩
    · cases h
/-- The bounds of a part, in the model's words. -/
theorem bounds_run {n cap : Nat} (hcap : n ≤ cap) {isSlice : Bool} {lo hi : Option Operand} {lo' hi' : Option XO} {l h : Nat} (hlo : compOO lo = some lo') (hhi : compOO hi = some hi') (hb : bounds tm n lo' hi' = some (l, h))
    (h1 : ∀ x, lo = some x → Opnd w g tm ρ x) (h2 : ∀ x, hi = some x → Opnd w g tm ρ x) (w' : World) :
    (Instr.sliceBounds isSlice n cap (lo.map ρ) (hi.map ρ) none).run P w' = .ok (l, h, cap) w' ∧ l ≤ h ∧ h ≤ n := by
  unfold bounds at hb
  split at hb <;> try cases hb
  rename_i hh hhe
  split at hb <;> try cases hb
  rename_i ll hle
  split at hb <;> try cases hb
  rename_i hbb
  simp only [Bool.and_eq_true] at hbb
  have hlh := Nat.le_of_ble_eq_true hbb.1
  have hhn := Nat.le_of_ble_eq_true hbb.2
  refine ⟨?_, hlh, hhn⟩
  have eh : (hi = none ∧ h = n) ∨ ∃ x k, hi = some x ∧ ρ x = .int k (h : Int) := by
    rcases compOO_rep hhi with ⟨rfl, rfl⟩ | ⟨a, b, rfl, rfl, hc⟩
    · simp at hhe; exact .inl ⟨rfl, hhe.symm⟩
    · obtain ⟨k, hk⟩ := natOf_eq hhe
      have := h2 a rfl b hc
      rw [hk] at this
      exact .inr ⟨a, k, rfl, rep_int this⟩
  have el : (lo = none ∧ l = 0) ∨ ∃ x k, lo = some x ∧ ρ x = .int k (l : Int) := by
    rcases compOO_rep hlo with ⟨rfl, rfl⟩ | ⟨a, b, rfl, rfl, hc⟩
    · simp at hle; exact .inl ⟨rfl, hle.symm⟩
    · obtain ⟨k, hk⟩ := natOf_eq hle
      have := h1 a rfl b hc
      rw [hk] at this
      exact .inr ⟨a, k, rfl, rep_int this⟩
  have hhc : (h : Int) ≤ (cap : Int) := by omega
  rcases eh with ⟨rfl, rfl⟩ | ⟨x, k, rfl, hx⟩ <;> rcases el with ⟨rfl, rfl⟩ | ⟨y, j, rfl, hy⟩
  · simp [Instr.sliceBounds]
  · simp [Instr.sliceBounds, hy, Instr.sliceBound, asIntOf, hlh]
  · have : h ≤ cap := by omega
    simp [Instr.sliceBounds, hx, Instr.sliceBound, asIntOf, this]
  · have : h ≤ cap := by omega
    simp [Instr.sliceBounds, hx, hy, Instr.sliceBound, asIntOf, this, hlh]
theorem p_subs {t : TypeId} {x : Operand} {lo hi : Option Operand} {lo' hi' : Option XO} {a : XO} (hT : TabOk P T) (ho : o.op = .slice t x lo hi none) (hI : Inv base g st w) (ht : isStrT T t = true) (ha : compO x = some a)
    (hlo : compOO lo = some lo') (hhi : compOO hi = some hi') (hx : Opnd w g tm ρ x) (h1 : ∀ x, lo = some x → Opnd w g tm ρ x) (h2 : ∀ x, hi = some x → Opnd w g tm ρ x)
    (hr : xSubs tm lo' hi' (evX tm a) = some r) : POk P base g st w ρ o r := by
  have h3 := hx a ha
  have hu := isStrT_ok hT ht
  unfold xSubs at hr
  split at hr <;> try cases hr
  rename_i s he
  split at hr <;> try cases hr
  rename_i l h hb
  rw [he] at h3
  have hv := rep_str h3
  obtain ⟨hrun, hlh, hhn⟩ := bounds_run (P := P) (Nat.le_refl s.length) (isSlice := false) hlo hhi hb h1 h2 w
  refine POk.of hI (v := .string ⟨((s.take h).drop l).toArray⟩) ?_ (.str _)
  have hsz : (⟨s.toArray⟩ : ByteArray).size = s.length := rfl
  have hex : (⟨s.toArray⟩ : ByteArray).extract l h = ⟨((s.take h).drop l).toArray⟩ := by
    apply ByteArray.ext
    simp [ByteArray.data_extract]
    rw [List.drop_take]
  simp [execOp, ho, hv, Instr.sliceAt, Instr.slice, Sem.run_bind, run_underlying hu, hsz, hrun, hex]
theorem p_subl {t : TypeId} {x : Operand} {lo hi : Option Operand} {lo' hi' : Option XO} {a : XO} {i : TI} (hT : TabOk P T) (ho : o.op = .slice t x lo hi none) (hI : Inv base g st w) (ht : sliceOf T t = some i) (ha : compO x = some a)
    (hlo : compOO lo = some lo') (hhi : compOO hi = some hi') (hx : Opnd w g tm ρ x) (h1 : ∀ x, lo = some x → Opnd w g tm ρ x) (h2 : ∀ x, hi = some x → Opnd w g tm ρ x)
    (hr : xSubl tm i.size lo' hi' (evX tm a) = some r) : POk P base g st w ρ o r := by
  have h3 := hx a ha
  obtain ⟨e, hu, hTe, hz⟩ := sliceOf_ok hT ht
  unfold xSubl at hr
  split at hr <;> try cases hr
  · rename_i n es tip he
    split at hr <;> try cases hr
    rename_i hn
    rw [natBeq] at hn
    have hn := of_decide_eq_true hn
    subst hn
    split at hr <;> try cases hr
    rename_i l h hb
    rw [he] at h3
    obtain ⟨vs, b', o', cap, h4, h5, h6, h7, h8, h9, hv⟩ := rep_sl h3
    obtain ⟨hrun, hlh, hhn⟩ := bounds_run (P := P) h8 (isSlice := true) hlo hhi hb h1 h2 w
    have hwhole : (execOp ρ o).run P w = .ok (.value (.slice (if cap = l then some ⟨b', o', none⟩ else some ⟨b', o' + l * i.size, none⟩) (h - l) (cap - l))) w := by
      by_cases hcl : cap = l
      · subst hcl
        simp [execOp, ho, hv, Instr.sliceAt, Instr.slice, Sem.run_bind, run_underlying hu, hrun, (hT _ i hTe).run_size]
      · simp [execOp, ho, hv, Instr.sliceAt, Instr.slice, Sem.run_bind, run_underlying hu, hrun, (hT _ i hTe).run_size, hcl, Addr.add_mid]
    have hlen : ((es.take h).drop l).length = h - l := by rw [List.length_drop, List.length_take]; omega
    by_cases hw : l = 0 ∧ h = es.length
    · obtain ⟨rfl, rfl⟩ := hw
      have e1 : (es.take es.length).drop 0 = es := by simp
      have e2 : (Nat.beq 0 0 && Nat.beq es.length es.length) = true := by simp
      rw [e1]
      refine POk.of hI (v := .slice (some ⟨b', o', none⟩) es.length cap) ?_ ?_
      · rw [hwhole]; by_cases hcl : cap = 0 <;> simp [hcl]
      · simp only [e2]
        rw [hv] at h3; exact h3
    · have e2 : (Nat.beq l 0 && Nat.beq h es.length) = false := by
        rw [natBeq, natBeq]
        simp only [Bool.and_eq_false_iff, decide_eq_false_iff_not]
        by_cases hl : l = 0
        · exact .inr fun hh => hw ⟨hl, hh⟩
        · exact .inl hl
      simp only [e2]
      have hs' : ∀ x ∈ (es.take h).drop l, x.cells.length = i.size := fun x hx => h7 x (List.mem_of_mem_take (List.mem_of_mem_drop hx))
      have hrl : RL w g (flat ((es.take h).drop l)) ((vs.take (h * i.size)).drop (l * i.size)) := by
        rw [flat_drop _ i.size l (fun x hx => h7 x (List.mem_of_mem_take hx)), flat_take es i.size h h7]
        exact (h4.take _).drop _
      refine POk.of hI hwhole ?_
      by_cases hcl : cap = l
      · have e3 : (es.take h).drop l = [] := List.eq_nil_of_length_eq_zero (by rw [hlen]; omega)
        rw [if_pos hcl, e3]
        have e4 : h - l = ([] : List AV).length := by simp; omega
        rw [e4]
        exact .sl i.size [] .dead [] b' o' _ .nil (Row.nil _ _) One.nil (fun x hx => by cases hx) (Nat.zero_le _) trivial
      · rw [if_neg hcl, ← hlen]
        refine .sl i.size _ .dead _ b' _ _ hrl ?_ ((h6.take _).drop _) hs' (by rw [hlen]; omega) trivial
        exact (h5.take _).drop _
  · rename_i he
    split at hr <;> try cases hr
    rename_i lh hb
    obtain ⟨l, h⟩ := lh
    rw [he] at h3
    have hv := rep_nils h3
    obtain ⟨hrun, hlh, hhn⟩ := bounds_run (P := P) (Nat.le_refl 0) (isSlice := true) hlo hhi hb h1 h2 w
    have hh0 : h = 0 := by omega
    have hl0 : l = 0 := by omega
    subst hh0 hl0
    refine POk.of hI (v := .slice none 0 0) ?_ .nils
    simp [execOp, ho, hv, Instr.sliceAt, Instr.slice, Sem.run_bind, run_underlying hu, hrun, (hT _ i hTe).run_size]

/-! ### Struct literals, slice literals -/
theorem fold_put (off : Nat) : ∀ (l : List Value) (k : Nat) (cs : Array Value), off + k + l.length ≤ cs.size →
    ((l.zipIdx k).foldl (fun cs (p : Value × Nat) => cs.setIfInBounds (off + p.2) p.1) cs).toList = cs.toList.take (off + k) ++ l ++ cs.toList.drop (off + k + l.length) := by
  intro l
  induction l with
  | nil => intro k cs h; simp
  | cons c l ih =>
    intro k cs h
    simp only [List.length_cons] at h
    rw [List.zipIdx_cons, List.foldl_cons, ih (k + 1) _ (by simp; omega)]
    rw [Array.toList_setIfInBounds]
    have hlt : off + k < cs.toList.length := by simp; omega
    have hA : (cs.toList.take (off + k)).length = off + k := by rw [List.length_take]; omega
    have e1 : (cs.toList.set (off + k) c).take (off + (k + 1)) = cs.toList.take (off + k) ++ [c] := by
      rw [List.set_eq_take_append_cons_drop, if_pos hlt, List.take_append, hA, List.take_of_length_le (by rw [hA]; omega)]
      have : off + (k + 1) - (off + k) = 1 := by omega
      rw [this]; simp
    have e2 : (cs.toList.set (off + k) c).drop (off + (k + 1) + l.length) = cs.toList.drop (off + k + (l.length + 1)) := by
      rw [List.drop_set_of_lt (by omega)]
      congr 1
      omega
    rw [e1, e2]
    simp
theorem put_cells {cells : Array Value} {off : Nat} {us : List Value} (h : off + us.length ≤ cells.size) :
    (us.toArray.zipIdx.foldl (fun cs (p : Value × Nat) => cs.setIfInBounds (off + p.2) p.1) cells).toList = cells.toList.take off ++ us ++ cells.toList.drop (off + us.length) := by
  have := fold_put off us 0 cells (by omega)
  rw [← Array.foldl_toList]
  simpa using this
end
end Go.Ev
