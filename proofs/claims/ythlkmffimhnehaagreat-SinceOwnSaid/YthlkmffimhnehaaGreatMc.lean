/- Each operation does what the evaluator says; no condition. -/
import Derived.Test.YthlkmffimhnehaaGreatMb
import Derived.Laws.MakeOwn
import Derived.Deep.Upon
import Derived.Calls
namespace Go.Ev
open Go.RowKit
set_option linter.unusedVariables false

section
variable {P : Program} {T : Nat → Option TI} {base : Nat} {g : G} {st : St} {w : World} {ρ : Operand → Value} {o : Oper} {tm : Tr AV} {r : AV}
theorem fillS_nil (cs : List AV) : fillS tm [] cs = some cs := rfl
theorem fillS_cons (p : Nat × Nat × XO) (l : List (Nat × Nat × XO)) (cs : List AV) : fillS tm (p :: l) cs = if (evX tm p.2.2).cells.length = p.2.1 then fillS tm l (splice cs p.1 (evX tm p.2.2).cells) else none := by
  show Bool.rec (motive := fun _ => Option (List AV)) none (fillS tm l (splice cs p.1 (evX tm p.2.2).cells)) (Nat.beq (evX tm p.2.2).cells.length p.2.1) = _
  rw [brec]
theorem fillL_nil (size : Nat) (es : List AV) : fillL tm size [] es = some es := rfl
theorem fillL_cons (size : Nat) (p : Nat × XO) (l : List (Nat × XO)) (es : List AV) : fillL tm size (p :: l) es = if (evX tm p.2).cells.length = size then fillL tm size l (es.set p.1 (evX tm p.2)) else none := by
  show Bool.rec (motive := fun _ => Option (List AV)) none (fillL tm size l (es.set p.1 (evX tm p.2))) (Nat.beq (evX tm p.2).cells.length size) = _
  rw [brec]
theorem place_of (hT : TabOk P T) {t : Nat} {ti : TI} (hti : T t = some ti) {flds : Array Field} (hu : P.underlying t = some (.struct flds)) {pl : List (Nat × Nat)}
    (hpl : flds.toList.mapM (fun f => (P.info? f.type).map fun i => (f.offset, i.size)) = some pl) {i : Nat} {f : Nat × Nat × Bool} (hf : fieldOf T t i = some f) : pl[i]? = some (f.1, f.2.1) ∧ f.2.1 ≠ 0 := by
  obtain ⟨flds', fd, fi, hu', hfd, ho1, hfi, hs, hg, hz⟩ := fieldOf_ok hT hf
  rw [hu] at hu'
  injection hu' with hu'
  injection hu' with hu'
  subst hu'
  obtain ⟨b, hb, hbb⟩ := Lib.mapM_at hpl i fd (by simpa using hfd)
  obtain ⟨inf, h1, h2, _⟩ := (hT _ fi hfi).run_info
  rw [h1] at hbb
  simp at hbb
  rw [hb, ← hbb, ho1, h2, hs]
  exact ⟨rfl, by rw [← hs]; exact hz⟩
theorem cells_of {a : AV} {v : Value} {n : Nat} (h : Rep w g a v) (hl : a.cells.length = n) (hn : n ≠ 0) : ∃ us, v.cells = us.toArray ∧ RL w g a.cells us ∧ One us ∧ us.length = n := by
  obtain ⟨us, h1, h2, h3⟩ := h.cells (fun e => hn (by rw [← hl, e]; rfl))
  exact ⟨us, h1, h2, h3, by rw [h2.length, hl]⟩
theorem fill_struct {pl : List (Nat × Nat)} {t n : Nat} (hpl : ∀ i f, fieldOf T t i = some f → pl[i]? = some (f.1, f.2.1) ∧ f.2.1 ≠ 0) : ∀ (parts : List (Nat × Operand)) (ps : List (Nat × Nat × XO)) (cs cs' : List AV) (vs : Array Value),
    compParts T t n parts = some ps → (∀ p ∈ parts, Opnd w g tm ρ p.2) → RL w g cs vs.toList → One vs.toList → cs.length = n → fillS tm ps cs = some cs' →
    ∃ vs', Instr.fill (pl.toArray[·]?) vs (parts.map fun p => (p.1, ρ p.2)) = some vs' ∧ RL w g cs' vs'.toList ∧ One vs'.toList := by
  intro parts
  induction parts with
  | nil =>
    intro ps cs cs' vs hc _ hr ho hn hf
    simp [compParts] at hc; subst hc
    rw [fillS_nil] at hf; injection hf with hf; subst hf
    exact ⟨vs, rfl, hr, ho⟩
  | cons p parts ih =>
    intro ps cs cs' vs hc hρ hr ho hn hf
    obtain ⟨i, x⟩ := p
    unfold compParts at hc
    split at hc <;> try cases hc
    rename_i off size agg a as h1 h2 h3
    split at hc <;> try cases hc
    rename_i hle
    have hle := Nat.le_of_ble_eq_true hle
    obtain ⟨hp, hz⟩ := hpl i _ h1
    rw [fillS_cons] at hf
    split at hf <;> try cases hf
    rename_i hlen
    simp only at hlen hf
    have hrx := hρ (i, x) (by simp) a h2
    obtain ⟨us, hu1, hu2, hu3, hu4⟩ := cells_of hrx hlen hz
    have hvl : vs.size = n := by have := hr.length; simpa [hn] using this
    have hpa : pl.toArray[i]? = some (off, size) := by simpa using hp
    have hput := put_cells (cells := vs) (off := off) (us := us) (by omega)
    have hsp := splice_eq cs off (evX tm a).cells (by omega)
    have hr' : RL w g (splice cs off (evX tm a).cells) ((us.toArray.zipIdx.foldl (fun cs (p : Value × Nat) => cs.setIfInBounds (off + p.2) p.1) vs).toList) := by
      rw [hput, hsp, hlen, hu4]
      exact ((hr.take off).append hu2).append (hr.drop (off + size))
    have ho' : One (us.toArray.zipIdx.foldl (fun cs (p : Value × Nat) => cs.setIfInBounds (off + p.2) p.1) vs).toList := by
      rw [hput]
      exact ((ho.take _).append hu3).append (ho.drop _)
    obtain ⟨vs', h5, h6, h7⟩ := ih as _ cs' _ h3 (fun q hq => hρ q (by simp [hq])) hr' ho' (by rw [hsp]; simp; omega) hf
    refine ⟨vs', ?_, h6, h7⟩
    simp only [List.map_cons, Instr.fill, hpa]
    have hsz : us.toArray.size = size := by simpa using hu4
    have hcond : ¬ ((ρ x).cells.size ≠ size ∨ off + (ρ x).cells.size > vs.size) := by
      rw [hu1, hsz]; omega
    simp only [hu1, hsz]
    have hcond2 : (decide (size ≠ size) || decide (off + size > vs.size)) = false := by
      have : ¬ (off + size > vs.size) := by omega
      simp [this]
    rw [if_neg (by simpa using (by omega : off + size ≤ vs.size))]
    exact h5
theorem p_build {t : TypeId} {parts : Array (Nat × Operand)} {i : TI} {l : List (Nat × Nat × XO)} {fs : List (Nat × Nat)} (hT : TabOk P T) (ho : o.op = .build t parts) (hI : Inv base g st w) (hi : T t = some i) (hk : i.kd = .struct fs) (hsz : i.size ≠ 0)
    (hc : compParts T t i.zero.cells.length parts.toList = some l) (hρ : ∀ p ∈ parts.toList, Opnd w g tm ρ p.2) (hr : xAgg (fillS tm l i.zero.cells) = some r) : POk P base g st w ρ o r := by
  obtain ⟨d, hu, hkd⟩ := (hT t i hi).kd
  rw [hk] at hkd
  cases d <;> simp only [KdOk] at hkd
  rename_i flds
  obtain ⟨pl, hpl⟩ := (hT t i hi).places flds hu
  obtain ⟨inf, z, h1, h2, h3, h4, h5, h6, h7⟩ := (hT t i hi).info
  have hz := h5 w g
  unfold xAgg at hr
  split at hr <;> try cases hr
  rename_i cs' hf
  obtain ⟨us, h8, h9, h10⟩ := hz.cells (h7 hsz)
  obtain ⟨vs', h11, h12, h13⟩ := fill_struct (fun j f hj => place_of hT hi hu hpl hj) parts.toList l _ cs' us.toArray hc hρ (by simpa using h9) (by simpa using h10) rfl hf
  have hb : P.built t (parts.map fun (p : Nat × Operand) => (p.1, ρ p.2)).toList = some vs' := by
    unfold Program.built
    simp only [h1, hu, h4, hpl]
    rw [Array.toList_map, h8]
    exact h11
  have hrun := run_build (P := P) w t (parts.map fun (p : Nat × Operand) => (p.1, ρ p.2)) vs' hb
  refine POk.of hI (v := .agg vs') ?_ ?_
  · simp only [execOp, ho]
    have : (Array.map (fun x => match x with | (i, x) => (i, ρ x)) parts) = parts.map fun (p : Nat × Operand) => (p.1, ρ p.2) := rfl
    simp [hrun]
  · have := Rep.agg cs' vs'.toList h12 h13
    simpa using this

/-! ### A slice literal -/
theorem range_zeros (z : Array Value) (s : Nat) (hs : z.size = s) : ∀ n, ((Array.range (n * s)).map (z[· % z.size]!)).toList = (List.replicate n z.toList).flatten := by
  intro n
  rw [Array.toList_map, Array.toList_range]
  induction n with
  | zero => simp
  | succ n ih =>
    rw [Nat.succ_mul, List.range_add, List.map_append, ih, List.replicate_succ', List.flatten_append]
    congr 1
    simp only [List.flatten_singleton, List.map_map]
    subst hs
    apply List.ext_getElem?
    intro j
    simp only [List.getElem?_map]
    by_cases hj : j < z.size
    · have e : (n * z.size + j) % z.size = j := by rw [Nat.mul_comm, Nat.mul_add_mod, Nat.mod_eq_of_lt hj]
      simp [hj, e]
    · simp [hj]
theorem fill_slice {size n : Nat} (hs0 : size ≠ 0) : ∀ (parts : List (Nat × Operand)) (ps : List (Nat × XO)) (es es' : List AV) (vs : Array Value),
    compElems n parts = some ps → (∀ p ∈ parts, Opnd w g tm ρ p.2) → RL w g (flat es) vs.toList → One vs.toList → (∀ e ∈ es, e.cells.length = size) → es.length = n → fillL tm size ps es = some es' →
    ∃ vs', Instr.fill (fun i => some (i * size, size)) vs (parts.map fun p => (p.1, ρ p.2)) = some vs' ∧ RL w g (flat es') vs'.toList ∧ One vs'.toList ∧ (∀ e ∈ es', e.cells.length = size) ∧ es'.length = n := by
  intro parts
  induction parts with
  | nil =>
    intro ps es es' vs hc _ hr ho hs hn hf
    simp [compElems] at hc; subst hc
    rw [fillL_nil] at hf; injection hf with hf; subst hf
    exact ⟨vs, rfl, hr, ho, hs, hn⟩
  | cons p parts ih =>
    intro ps es es' vs hc hρ hr ho hs hn hf
    obtain ⟨i, x⟩ := p
    unfold compElems at hc
    split at hc <;> try cases hc
    rename_i a as h2 h3
    split at hc <;> try cases hc
    rename_i hlt
    have hlt : i < n := Nat.lt_of_succ_le (Nat.le_of_ble_eq_true hlt)
    rw [fillL_cons] at hf
    split at hf <;> try cases hf
    rename_i hlen
    simp only at hlen hf
    have hrx := hρ (i, x) (by simp) a h2
    obtain ⟨us, hu1, hu2, hu3, hu4⟩ := cells_of hrx hlen hs0
    have hfl := flat_length es size hs
    have hvl : vs.size = n * size := by
      have := hr.length
      rw [hfl, hn] at this
      simpa using this
    have hbound : i * size + size ≤ n * size := by
      have : (i + 1) * size ≤ n * size := Nat.mul_le_mul_right _ (by omega)
      rw [Nat.succ_mul] at this; exact this
    have hput := put_cells (cells := vs) (off := i * size) (us := us) (by omega)
    have hset : es.set i (evX tm a) = es.take i ++ evX tm a :: es.drop (i + 1) := by rw [List.set_eq_take_append_cons_drop, if_pos (by omega)]
    have hflat : flat (es.set i (evX tm a)) = (flat es).take (i * size) ++ (evX tm a).cells ++ (flat es).drop (i * size + size) := by
      rw [hset, flat_append, flat_cons, flat_take es size i hs, flat_drop es size (i + 1) hs, Nat.succ_mul, List.append_assoc]
    have hr' : RL w g (flat (es.set i (evX tm a))) ((us.toArray.zipIdx.foldl (fun cs (p : Value × Nat) => cs.setIfInBounds (i * size + p.2) p.1) vs).toList) := by
      rw [hput, hflat, hu4]
      exact ((hr.take _).append hu2).append (hr.drop _)
    have ho' : One (us.toArray.zipIdx.foldl (fun cs (p : Value × Nat) => cs.setIfInBounds (i * size + p.2) p.1) vs).toList := by
      rw [hput]
      exact ((ho.take _).append hu3).append (ho.drop _)
    have hs' : ∀ e ∈ es.set i (evX tm a), e.cells.length = size := by
      intro e he
      rcases List.mem_or_eq_of_mem_set he with h | h
      · exact hs e h
      · rw [h]; exact hlen
    obtain ⟨vs', h5, h6, h7, h8, h9⟩ := ih as _ es' _ h3 (fun q hq => hρ q (by simp [hq])) hr' ho' hs' (by simpa using hn) hf
    refine ⟨vs', ?_, h6, h7, h8, h9⟩
    simp only [List.map_cons, Instr.fill]
    have hsz : us.toArray.size = size := by simpa using hu4
    simp only [hu1, hsz]
    rw [if_neg (by simpa using (by omega : i * size + size ≤ vs.size))]
    exact h5
/-- A row that was made is a slice that stays. -/
theorem made_row (hI : Inv base g st w) (vs : List Value) (rest : List Value) (e : TypeId) : ∃ g', Inv base g' st (w.alloc (.cells (vs ++ rest).toArray e)) ∧ Ext base g st w g' st (w.alloc (.cells (vs ++ rest).toArray e)) ∧
    Row (w.alloc (.cells (vs ++ rest).toArray e)) g' w.heap.size 0 vs ∧ (∀ i, g'.frz w.heap.size i → i < vs.length) ∧ g'.key = g.key ∧ g'.tip = g.tip := by
  obtain ⟨h1, h2⟩ := hI.alloc (.cells (vs ++ rest).toArray e)
  have hcell : ∀ i v, (vs ++ rest)[i]? = some v → (w.alloc (.cells (vs ++ rest).toArray e)).cell? ⟨w.heap.size, i, none⟩ = some v := by
    intro i v hv
    rw [cell_of_row _ w.heap.size i (vs ++ rest).toArray e (0, 0) (heap_alloc_new w _)]
    simpa using hv
  have hk : ∀ k, g.key k ≠ some w.heap.size := fun k hk => by have := (hI.keyLt k _ hk).2; omega
  have ht : ∀ k s e, g.tip k ≠ some (w.heap.size, s, e) := fun k s e hk => by have := (hI.tipLt k _ s e hk).2; omega
  obtain ⟨h3, h4⟩ := h1.freeze w.heap.size 0 vs.length hI.base_le (fun k _ => hk k) (fun k s e _ h => absurd h (ht k s e)) (fun i _ hi => ⟨vs[i], hcell i _ (by rw [List.getElem?_append_left hi]; exact List.getElem?_eq_getElem hi)⟩)
  refine ⟨_, h3, h2.trans h4, fun i v hv => ?_, ?_, rfl, rfl⟩
  · have hi : i < vs.length := (List.getElem?_eq_some_iff.1 hv).1
    rw [Nat.zero_add]
    exact ⟨.inr ⟨rfl, Nat.zero_le _, hi⟩, hcell i v (by rw [List.getElem?_append_left hi]; exact hv)⟩
  · rintro i (hf | ⟨_, _, hi⟩)
    · obtain ⟨v, hv⟩ := hI.frzIn _ _ hf
      have := cell_lt hv; omega
    · exact hi
theorem p_bslice {t : TypeId} {len : Nat} {parts : Array (Nat × Operand)} {i : TI} {l : List (Nat × XO)} (hT : TabOk P T) (ho : o.op = .buildSlice t len parts) (hI : Inv base g st w) (hi : sliceOf T t = some i) (hsmall : len * i.size ≤ 65536)
    (hc : compElems len parts.toList = some l) (hρ : ∀ p ∈ parts.toList, Opnd w g tm ρ p.2) (hr : xSl i.size (fillL tm i.size l (List.replicate len i.zero)) = some r) : POk P base g st w ρ o r := by
  obtain ⟨e, hu, hTe, hz⟩ := sliceOf_ok hT hi
  obtain ⟨inf, z, h1, h2, h3, h4, h5, h6, h7⟩ := (hT e i hTe).info
  unfold xSl at hr
  split at hr <;> try cases hr
  rename_i es' hf
  obtain ⟨us, h8, h9, h10⟩ := (h5 w g).cells (h7 hz)
  have hzl : z.cells.size = i.size := by rw [h8]; simpa [h9.length] using h6
  have hrz := range_zeros z.cells i.size hzl len
  have hzs : z.cells.toList = us := by rw [h8]
  have hflatR : flat (List.replicate len i.zero) = (List.replicate len i.zero.cells).flatten := by
    unfold flat
    rw [List.flatMap_def, List.map_replicate]
  have hOneR : One (List.replicate len us).flatten := by
    intro v hv
    obtain ⟨l', hl', hv'⟩ := List.mem_flatten.1 hv
    rw [(List.mem_replicate.1 hl').2] at hv'
    exact h10 v hv'
  obtain ⟨vs', h11, h12, h13, h14, h15⟩ := fill_slice hz parts.toList l (List.replicate len i.zero) es' ((Array.range (len * i.size)).map (z.cells[· % z.cells.size]!)) hc hρ
    (by rw [hrz, hzs, hflatR]; exact h9.replicate len) (by rw [hrz, hzs]; exact hOneR) (fun e he => by rw [(List.mem_replicate.1 he).2]; exact h6) (by simp) hf
  have hparts : (parts.map fun (p : Nat × Operand) => (p.1, ρ p.2)).toList = parts.toList.map fun p => (p.1, ρ p.2) := Array.toList_map
  obtain ⟨g', h16, h17, h18, _, _, _⟩ := made_row hI vs'.toList [] e
  have hvs : (vs'.toList ++ []).toArray = vs' := by simp
  rw [hvs] at h16 h17 h18
  refine ⟨.slice (some ⟨w.heap.size, 0, none⟩) len len, w.alloc (.cells vs' e), g', ?_, ?_, h16, h17⟩
  · by_cases hl : len = 0
    · subst hl
      have hp0 : parts = #[] := by
        cases hpl : parts.toList with
        | nil => exact Array.toList_eq_nil_iff.1 hpl
        | cons p ps =>
          rw [hpl] at hc
          unfold compElems at hc
          split at hc <;> try cases hc
      have hv0 : vs' = #[] := by
        have : vs'.toList = [] := List.eq_nil_of_length_eq_zero (by rw [h12.length, flat_length es' i.size h14, h15]; omega)
        exact Array.toList_eq_nil_iff.1 this
      subst hp0 hv0
      simp [execOp, ho, Instr.buildSlice, Sem.run_bind, run_underlying hu, (hT e i hTe).run_size, Instr.fill, newRow]
      congr 2
      apply Array.ext'
      simp
    · have hrun := run_buildSlice (P := P) w t e len (parts.map fun (p : Nat × Operand) => (p.1, ρ p.2)) vs' inf z hu h1 h4 (by rw [h2]; omega) (by rw [h2]; exact Nat.mul_ne_zero hl hz) (by rw [hparts, h2]; exact h11)
      simp only [execOp, ho]
      simp [hrun]
  · have := Rep.sl (w := w.alloc (.cells vs' e)) (g := g') i.size es' .full vs'.toList w.heap.size 0 len (h12.ext h17) h18 h13 h14 (by omega) (by show len = es'.length; exact h15.symm)
    rw [h15] at this
    exact this
theorem bytesOf_rep {es : List AV} {vs : List Value} {b : List UInt8} (h : bytesOf es = some b) (hr : RL w g (flat es) vs) : ∃ ns : List Int, vs = ns.map (Value.int .u8) ∧ b = ns.map fun n => UInt8.ofNat n.toNat := by
  induction es generalizing vs b with
  | nil => cases hr; simp [bytesOf] at h; subst h; exact ⟨[], rfl, rfl⟩
  | cons e es ih =>
    unfold bytesOf at h
    split at h <;> try cases h
    rename_i c cs hc hcs
    unfold byteOf at hc
    split at hc <;> try cases hc
    rename_i n
    rw [flat_cons] at hr
    cases hr with
    | cons _ v _ vs h1 h2 =>
      obtain ⟨ns, h3, h4⟩ := ih hcs h2
      exact ⟨(n : Int) :: ns, by rw [rep_int h1, h3]; rfl, by rw [h4]; simp⟩
theorem p_cbytes {s d : TypeId} {x : Operand} {a : XO} {di si ei : TI} {e : Nat} (hT : TabOk P T) (ho : o.op = .convert s d x) (hI : Inv base g st w) (hd : T d = some di) (hk : di.kd = .str) (hs : T s = some si) (hq : si.kd = .slice e) (he : T e = some ei) (hu8 : isU8 ei = true)
    (ha : compO x = some a) (hx : Opnd w g tm ρ x) (hr : xCbytes (evX tm a) = some r) : POk P base g st w ρ o r := by
  have h1 := hx a ha
  obtain ⟨dd, hdd, hkd⟩ := (hT d di hd).kd
  obtain ⟨ss, hss, hks⟩ := (hT s si hs).kd
  obtain ⟨ee, hee, hke⟩ := (hT e ei he).kd
  rw [hk] at hkd; rw [hq] at hks
  cases dd <;> simp only [KdOk] at hkd
  cases ss <;> simp only [KdOk] at hks
  subst hks
  have hu : P.underlying e = some (.int .u8) := by
    unfold isU8 at hu8
    split at hu8 <;> try cases hu8
    rename_i hk8
    rw [hk8] at hke
    cases ee <;> simp only [KdOk] at hke
    subst hke
    exact hee
  unfold xCbytes at hr
  split at hr <;> try cases hr
  · rename_i n es tip hE
    split at hr <;> try cases hr
    rename_i b hb1 hb2
    rw [hE] at h1
    obtain ⟨vs, b', o', cap, h3, h4, h5, h6, h7, h8, hv⟩ := rep_sl h1
    obtain ⟨ns, h9, h10⟩ := bytesOf_rep hb2 h3
    have hlen : ns.length = es.length := by
      have := h3.length
      rw [flat_length es n h6, h9, List.length_map] at this
      rw [natBeq] at hb1
      have hn := of_decide_eq_true hb1
      rw [hn, Nat.mul_one] at this; exact this
    have hrun := run_convert_bytes_arg (P := P) w s e hss hu b' o' es.length cap ns hlen (fun i hi => by
      have := (h4 i (.int .u8 (ns.getD i 0)) (by
        rw [h9, List.getElem?_map]
        simp [List.getD, List.getElem?_eq_getElem (by omega : i < ns.length)])).2
      exact this) d hdd
    refine POk.of hI (v := .string (strOfNums ns)) ?_ (by rw [h10]; exact .str _)
    simp [execOp, ho, hv, hrun]
  · rename_i hE
    rw [hE] at h1
    have hv := rep_nils h1
    have hrun := run_convert_bytes_nil (P := P) w s e hss hu 0 0 d hdd
    refine POk.of hI (v := .string ByteArray.empty) ?_ (by have := Rep.str (w := w) (g := g) []; exact this)
    simp [execOp, ho, hv, hrun]
end
end Go.Ev
namespace Go.Ev
open Go.RowKit
set_option linter.unusedVariables false

section
variable {P : Program} {T : Nat → Option TI} {base : Nat} {g : G} {st : St} {w : World} {ρ : Operand → Value} {o : Oper} {tm : Tr AV} {r : AV}
theorem cellsAt_ok {H : Tr Ent} {key : Nat} {cs : List AV} (h : cellsAt H key = some cs) : ∃ v, H.get key = some (.box v cs) := by
  unfold cellsAt at h
  split at h <;> try cases h
  exact ⟨_, by assumption⟩
theorem box_row (hI : Inv base g st w) {key b : Nat} {cs : List AV} (h : cellsAt st.heap key = some cs) (hb : g.key key = some b) : base ≤ b ∧ ∃ vs, RL w g cs vs ∧ One vs ∧ w.rangeAt b 0 vs ∧ w.there b 0 vs.length := by
  obtain ⟨v, hv⟩ := cellsAt_ok h
  obtain ⟨h1, h2⟩ := hI.ent key _ b hv hb
  exact ⟨h2 rfl, h1⟩
theorem p_load {t : TypeId} {x : Operand} {i : TI} {a : XO} (hT : TabOk P T) (ho : o.op = .load t x) (hI : Inv base g st w) (hi : T t = some i) (ha : compO x = some a) (hx : Opnd w g tm ρ x)
    (hr : xLoad st.heap i.size (aggOf i) (evX tm a) = some r) : POk P base g st w ρ o r := by
  have h1 := hx a ha
  unfold xLoad at hr
  split at hr <;> try cases hr
  · rename_i key off he
    split at hr <;> try cases hr
    rename_i cs hcs
    rw [he] at h1
    obtain ⟨b, hb, hv⟩ := rep_ptr h1
    obtain ⟨_, vs, h2, h3, h4, _⟩ := box_row hI hcs hb
    obtain ⟨v, hv2, hr2⟩ := load_rep (hT t i hi) h2 h3 hr h4
    rw [Nat.zero_add] at hv2
    refine POk.of hI (v := v) ?_ hr2
    simp [execOp, ho, hv, hv2]
  · rename_i cs off he
    rw [he] at h1
    obtain ⟨vs, b, o', h2, h3, h4, hv⟩ := rep_ro h1
    obtain ⟨v, hv2, hr2⟩ := load_rep (hT t i hi) h2 h4 hr h3.rangeAt
    refine POk.of hI (v := v) ?_ hr2
    simp [execOp, ho, hv, hv2]

/-- An operation that may write: it yields a value, or nothing. -/
def EOk (P : Program) (base : Nat) (g : G) (st : St) (w : World) (ρ : Operand → Value) (o : Oper) (r : AV) (st' : St) : Prop :=
  ∃ v w' g', ((execOp ρ o).run P w = .ok (.value v) w' ∨ ((execOp ρ o).run P w = .ok .skip w' ∧ v = undef)) ∧ Rep w' g' r v ∧ Inv base g' st' w' ∧ Ext base g st w g' st' w'
theorem frozen_new {w : World} {b : Nat} {c : Array Value} {t : TypeId} (h : w.heap[b]? = some (.cells c t (0, 0))) (j : Nat) : w.frozen? ⟨b, j, none⟩ = false := by
  unfold World.frozen?
  rw [h]
  simp
/-- A block with a key. -/
theorem new_box (hI : Inv base g st w) {cs : List AV} {us : List Value} (h1 : RL w g cs us) (h2 : One us) (t : TypeId) :
    ∃ g', Inv base g' (st.new (.box 0 cs)) (w.alloc (.cells us.toArray t)) ∧ Ext base g st w g' (st.new (.box 0 cs)) (w.alloc (.cells us.toArray t)) ∧ g'.key st.next = some w.heap.size := by
  obtain ⟨h3, h4⟩ := hI.alloc (.cells us.toArray t)
  have hb : (w.alloc (.cells us.toArray t)).heap[w.heap.size]? = some (.cells us.toArray t (0, 0)) := heap_alloc_new w _
  have hcell : ∀ i, (w.alloc (.cells us.toArray t)).cell? ⟨w.heap.size, i, none⟩ = us[i]? := fun i => by
    rw [cell_of_row _ w.heap.size i us.toArray t (0, 0) hb]; simp
  have hk : ∀ k, g.key k ≠ some w.heap.size := fun k hk => by have := (hI.keyLt k _ hk).2; omega
  have ht : ∀ k s e, g.tip k ≠ some (w.heap.size, s, e) := fun k s e hk => by have := (hI.tipLt k _ s e hk).2; omega
  obtain ⟨h5, h6⟩ := h3.addKey w.heap.size (.box 0 cs) rfl hI.base_le (by simp) (fun k _ => hk k) (fun k s e _ => ht k s e) (fun i hf => by
    obtain ⟨v, hv⟩ := hI.frzIn _ _ hf
    have := cell_lt hv; omega)
    ⟨us, h1.ext h4, h2, fun j v hv => by rw [Nat.zero_add, hcell]; exact hv, fun j hj => ⟨by rw [Nat.zero_add, hcell, List.getElem?_eq_getElem hj]; rfl, frozen_new hb _⟩⟩
  exact ⟨_, h5, h4.trans h6, by simp⟩
theorem e_alloc {t : TypeId} {i : TI} (hT : TabOk P T) (ho : o.op = .alloc t) (hI : Inv base g st w) (hi : T t = some i) (hz : i.zero.cells ≠ []) : EOk P base g st w ρ o (.ptr st.next 0) (st.new (.box 0 i.zero.cells)) := by
  obtain ⟨inf, z, h1, h2, h3, h4, h5, h6, h7⟩ := (hT t i hi).info
  obtain ⟨us, h8, h9, h10⟩ := (h5 w g).cells hz
  obtain ⟨g', h11, h12, h13⟩ := new_box hI h9 h10 t
  refine ⟨.pointer (some ⟨w.heap.size, 0, none⟩), _, g', .inl ?_, .ptr _ _ _ h13, h11, h12⟩
  simp [execOp, ho, Instr.alloc, Sem.run_bind, zeroValue, typeInfo, h1, h4, newVar, newRow, h8]
theorem e_box {t : TypeId} {x : Operand} {i : TI} {a : XO} (ho : o.op = .box t x) (hI : Inv base g st w) (ha : compO x = some a) (hx : Opnd w g tm ρ x) (hz : i.size ≠ 0) (hl : (evX tm a).cells.length = i.size) :
    EOk P base g st w ρ o (.ptr st.next 0) (st.new (.box 0 (evX tm a).cells)) := by
  obtain ⟨us, h8, h9, h10, _⟩ := cells_of (hx a ha) hl hz
  obtain ⟨g', h11, h12, h13⟩ := new_box hI h9 h10 t
  refine ⟨.pointer (some ⟨w.heap.size, 0, none⟩), _, g', .inl ?_, .ptr _ _ _ h13, h11, h12⟩
  simp [execOp, ho, Instr.box, newVar, newRow, h8]
theorem run_store {t : TypeId} {i : TI} (h : TyOk P t i) {v : Value} {us : List Value} (hv : v.cells = us.toArray) (hl : us.length = i.size) (ho : One us) {b off : Nat} (hth : w.there b off us.length) :
    (Instr.storeAt t (.pointer (some ⟨b, off, none⟩)) v).run P w = .ok () (w.setCells b off us) := by
  have := run_storeCells_cells (P := P) b off us 0 w (fun j hj => by simpa using (hth j hj).1) (fun j hj => by simpa using (hth j hj).2) ho
  rw [Nat.add_zero] at this
  have hsz : us.toArray.size = i.size := by simpa using hl
  simp [Instr.storeAt, Instr.sureAddr, storeVar, Sem.run_bind, hv, h.run_size, hsz, this]
theorem splice_rep {cs xs : List AV} {vs us : List Value} (h : RL w g cs vs) (k : RL w g xs us) (off : Nat) (hle : off + xs.length ≤ cs.length) : RL w g (splice cs off xs) (vs.take off ++ us ++ vs.drop (off + us.length)) := by
  rw [splice_eq cs off xs hle, k.length]
  exact ((h.take off).append k).append (h.drop _)
theorem setCells_range {b off : Nat} {vs us : List Value} (h : w.rangeAt b 0 vs) (ht : w.there b 0 vs.length) (hle : off + us.length ≤ vs.length) :
    (w.setCells b off us).rangeAt b 0 (vs.take off ++ us ++ vs.drop (off + us.length)) ∧ (w.setCells b off us).there b 0 (vs.take off ++ us ++ vs.drop (off + us.length)).length := by
  have hthere : w.there b off us.length := fun j hj => by
    have := ht (off + j) (by omega)
    rwa [Nat.zero_add] at this
  have hlen : (vs.take off ++ us ++ vs.drop (off + us.length)).length = vs.length := by simp; omega
  refine ⟨fun j v hv => ?_, by rw [hlen]; exact World.there_setCells ht b off us⟩
  rw [Nat.zero_add]
  by_cases h1 : j < off
  · rw [List.append_assoc, List.getElem?_append_left (by simp; omega), List.getElem?_take, if_pos h1] at hv
    rw [World.cell?_setCells_out b us off w ⟨b, j, none⟩ (fun _ _ => .inl h1)]
    have := h j v hv
    rwa [Nat.zero_add] at this
  · by_cases h2 : j < off + us.length
    · have h3 := World.rangeAt_setCells_same w b off us hthere
      have h4 := h3 (j - off) v (by
        rw [List.getElem?_append_left (by simp; omega), List.getElem?_append_right (by simp; omega)] at hv
        rw [← hv]; congr 1; simp; omega)
      have e : off + (j - off) = j := by omega
      rwa [e] at h4
    · rw [List.getElem?_append_right (by simp; omega), List.getElem?_drop] at hv
      rw [World.cell?_setCells_out b us off w ⟨b, j, none⟩ (fun _ _ => .inr (by show off + us.length ≤ j; omega))]
      have := h j v (by rw [← hv]; congr 1; simp; omega)
      rwa [Nat.zero_add] at this
theorem below_setCells {b off : Nat} {us : List Value} (hb : base ≤ b) : Below base w (w.setCells b off us) := by
  induction us generalizing off w with
  | nil => exact .refl base w
  | cons u us ih =>
    rw [World.setCells]
    exact ((Below.refl base w).setCell hb u).trans ih
theorem e_store {t : TypeId} {x y : Operand} {i : TI} {a c : XO} {st' : St} (hT : TabOk P T) (ho : o.op = .store t x y) (hI : Inv base g st w) (hi : T t = some i) (hz : i.size ≠ 0) (ha : compO x = some a) (hc : compO y = some c)
    (hx : Opnd w g tm ρ x) (hy : Opnd w g tm ρ y) (hr : xStore st i.size (evX tm a) (evX tm c) = some (r, st')) : EOk P base g st w ρ o r st' := by
  have h1 := hx a ha
  have h2 := hy c hc
  unfold xStore at hr
  split at hr <;> try cases hr
  rename_i key off he
  split at hr <;> try cases hr
  rename_i ver cs hcs
  split at hr <;> try cases hr
  rename_i hb0
  simp only [Bool.and_eq_true, natBeq, decide_eq_true_eq] at hb0
  have hle := Nat.le_of_ble_eq_true hb0.2
  rw [he] at h1
  obtain ⟨b, hb, hv⟩ := rep_ptr h1
  obtain ⟨⟨vs, h3, h4, h5, h6⟩, hbase⟩ := hI.ent key _ b hcs hb
  obtain ⟨us, h7, h8, h9, h10⟩ := cells_of h2 hb0.1 hz
  have hvl := h3.length
  have hthere : w.there b off us.length := fun j hj => by
    have := h6 (off + j) (by omega)
    rwa [Nat.zero_add] at this
  have hrun := run_store (hT t i hi) h7 h10 h9 hthere
  obtain ⟨h11, h12⟩ := setCells_range h5 h6 (off := off) (us := us) (by omega)
  have hlt : b < w.heap.size := (hI.keyLt key b hb).2
  have hbl := below_setCells (w := w) (off := off) (us := us) (hbase rfl)
  have hother : ∀ c, c ≠ b → c < w.heap.size → (w.setCells b off us).heap[c]? = w.heap[c]? := fun c hc hlt => World.heap_setCells_other w b off us hlt hc
  have hsame : Same g w (w.setCells b off us) := fun c j hf => by
    obtain ⟨v, hv⟩ := hI.frzIn c j hf
    exact World.cell?_of_block (a := ⟨c, j, none⟩) (hother c (fun e => by subst e; exact hI.keyFrz key c j ⟨_, hcs, rfl⟩ hb hf) (cell_lt hv))
  have hok : EntOk (w.setCells b off us) g b (.box (Nat.succ ver) (splice cs off (evX tm c).cells)) :=
    ⟨_, (splice_rep h3 h8 off (by omega)).mono hsame (.refl g), ((h4.take _).append h9).append (h4.drop _), h11, h12⟩
  obtain ⟨h13, h14⟩ := hI.turn key b _ (.box (Nat.succ ver) (splice cs off (evX tm c).cells)) hcs rfl rfl hb hbl.size (fun _ => hbl) hother hok
  refine ⟨undef, _, g, .inr ⟨?_, rfl⟩, rep_und, h13, h14⟩
  simp [execOp, ho, hv, hrun]
end
end Go.Ev
namespace Go.Ev
open Go.RowKit
set_option linter.unusedVariables false

section
variable {P : Program} {T : Nat → Option TI} {base : Nat} {g : G} {st : St} {w : World} {ρ : Operand → Value} {o : Oper} {tm : Tr AV} {r : AV}
theorem growBy_le (n : Nat) : ∀ (k c : Nat), Builtin.growBy n k c ≤ max c (2 * n + 192) := by
  intro k
  induction k with
  | zero => intro c; simp [Builtin.growBy]; omega
  | succ k ih =>
    intro c
    unfold Builtin.growBy
    split
    · omega
    · have := ih (c + (c + 768) / 4)
      omega
theorem nextcap_le {need cap : Nat} (h : cap < need) : Builtin.nextslicecap need cap ≤ 2 * need + 192 := by
  unfold Builtin.nextslicecap
  split
  · omega
  · split
    · omega
    · have := growBy_le need 4 cap
      omega
/-- What is appended. -/
structure SrcAt (P : Program) (w : World) (g : G) (size : Nat) (u : TypeId) (y : Value) (xs : List AV) (news : List Value) : Prop where
  src : Src P size u y xs.length news w
  rep : RL w g (flat xs) news
  one : One news
  len : ∀ e ∈ xs, e.cells.length = size
theorem srcOk_ok (hT : TabOk P T) {u : Nat} (h : srcOk T u = true) : (∃ e, P.underlying u = some (.slice e)) ∨ P.underlying u = some .string := by
  unfold srcOk at h
  split at h <;> try cases h
  rename_i i hi
  obtain ⟨d, hd, hk⟩ := (hT u i hi).kd
  split at h <;> try cases h
  · rename_i e he
    rw [he] at hk
    cases d <;> simp only [KdOk] at hk
    exact .inl ⟨_, hd⟩
  · rename_i he
    rw [he] at hk
    cases d <;> simp only [KdOk] at hk
    exact .inr hd
theorem src_of (hT : TabOk P T) {u size : Nat} (hu : srcOk T u = true) {a : AV} {y : Value} (hy : Rep w g a y) {xs : List AV} (h : srcOf size a = some xs) : ∃ news, SrcAt P w g size u y xs news := by
  have hk := srcOk_ok hT hu
  cases a with
  | nils =>
    simp only [srcOf] at h
    injection h with h; subst h
    rw [rep_nils hy]
    exact ⟨[], ⟨hk, fun _ => rfl, run_firstCells_none w size 0 0 0, run_firstCells_none w.drew size 0 0 0, by simp, fun _ h => by cases h⟩, .nil, One.nil, fun _ h => by cases h⟩
  | sl s es tip =>
    simp only [srcOf] at h
    split at h <;> try cases h
    rename_i hs
    rw [natBeq] at hs
    have hs := of_decide_eq_true hs
    subst hs
    obtain ⟨vs, b, o', cap, h1, h2, h3, h4, h5, h6, hv⟩ := rep_sl hy
    rw [hv]
    have hl : vs.length = xs.length * s := by rw [h1.length, flat_length xs s h4]
    have hc : ∀ j u, vs[j]? = some u → w.cell? ((⟨b, o', none⟩ : Addr).add j) = some u := fun j u hu => by rw [Addr.add_mid]; exact (h2 j u hu).2
    exact ⟨vs, ⟨hk, fun _ => rfl, run_firstCells_some w s xs.length _ xs.length cap vs hl hc, run_firstCells_some w.drew s xs.length _ xs.length cap vs hl (by simpa using hc), hl, h3⟩, h1, h3, h4⟩
  | str s =>
    simp only [srcOf] at h
    split at h <;> try cases h
    rename_i hs
    rw [natBeq] at hs
    have hs := of_decide_eq_true hs
    subst hs
    rw [rep_str hy]
    have hrl : ∀ l : List UInt8, RL w g (flat (l.map fun b => AV.int .u8 (.ofNat b.toNat))) (l.map fun b => Value.int .u8 b.toNat) := by
      intro l
      induction l with
      | nil => exact .nil
      | cons b l ih => rw [List.map_cons, List.map_cons, flat_cons]; exact (RL.one (.int _ _)).append ih
    have hone : One (s.map fun b => Value.int .u8 b.toNat) := fun v hv => by
      obtain ⟨_, _, rfl⟩ := List.mem_map.1 hv; rfl
    refine ⟨s.map fun b => Value.int .u8 b.toNat, ⟨hk, fun _ => ?_, ?_, ?_, by simp, fun u hu => hone u hu⟩, hrl s, hone, fun e he => by obtain ⟨_, _, rfl⟩ := List.mem_map.1 he; rfl⟩
    · simp [Builtin.lenOf, ByteArray.size]
    · have := firstCells_string (P := P) ⟨s.toArray⟩ w
      have e1 : (⟨s.toArray⟩ : ByteArray).size = (s.map fun b => AV.int .u8 (.ofNat b.toNat)).length := by simp [ByteArray.size]
      rw [← e1]; exact this
    · have := firstCells_string (P := P) ⟨s.toArray⟩ w.drew
      have e1 : (⟨s.toArray⟩ : ByteArray).size = (s.map fun b => AV.int .u8 (.ofNat b.toNat)).length := by simp [ByteArray.size]
      rw [← e1]; exact this
  | _ => cases h
/-- The old elements and the new ones lie in a row with room behind it. -/
theorem commit (hI : Inv base g st w) {size cap b off : Nat} {es xs : List AV} {vs news : List Value} (h1 : RL w g (flat es) vs) (h2 : RL w g (flat xs) news) (ho1 : One vs) (ho2 : One news)
    (hs1 : ∀ e ∈ es, e.cells.length = size) (hs2 : ∀ e ∈ xs, e.cells.length = size) (hb0 : base ≤ b) (hb1 : b < w.heap.size) (hcap : es.length + xs.length ≤ cap)
    (hr1 : w.rangeAt b off vs) (hr2 : w.rangeAt b (off + vs.length) news) (hth : w.there b (off + vs.length + news.length) ((off + cap * size) - (off + vs.length + news.length)))
    (hk : ∀ k, live st.heap k → g.key k ≠ some b) (ht : ∀ k s e, st.heap.get k = some .tip → g.tip k = some (b, s, e) → (∀ i, s ≤ i → i < e → ¬ (off ≤ i ∧ i < off + cap * size)) ∧ (e ≤ off + vs.length ∨ off + cap * size ≤ s))
    (hf : ∀ i, off + vs.length + news.length ≤ i → i < off + cap * size → ¬ g.frz b i) :
    ∃ g', Inv base g' (st.new .tip) w ∧ Ext base g st w g' (st.new .tip) w ∧ Rep w g' (.sl size (es ++ xs) (.at st.next)) (.slice (some ⟨b, off, none⟩) (es.length + xs.length) cap) := by
  have hl1 : vs.length = es.length * size := by rw [h1.length, flat_length es size hs1]
  have hl2 : news.length = xs.length * size := by rw [h2.length, flat_length xs size hs2]
  have hmul : vs.length + news.length ≤ cap * size := by rw [hl1, hl2, ← Nat.add_mul]; exact Nat.mul_le_mul_right _ hcap
  have hall : w.rangeAt b off (vs ++ news) := fun j v hv => by
    rw [List.getElem?_append] at hv
    split at hv
    · exact hr1 j v hv
    · have := hr2 _ _ hv
      have e : off + vs.length + (j - vs.length) = off + j := by omega
      rwa [e] at this
  obtain ⟨h3, h4⟩ := hI.freeze b off (off + vs.length + news.length) hb0 hk (fun k s e hk' hg i hi hi' hx => (ht k s e hk' hg).1 i hi hi' ⟨hx.1, by omega⟩) (fun i hi hi' => by
      have hj : i - off < (vs ++ news).length := by rw [List.length_append]; omega
      have := hall (i - off) _ (List.getElem?_eq_getElem hj)
      have e : off + (i - off) = i := by omega
      rw [e] at this
      exact ⟨_, this⟩)
  obtain ⟨h5, h6⟩ := h3.addTip b (off + vs.length + news.length) (off + cap * size) hb0 hb1 (by omega) hth (fun i hi hi' => by
    rintro (hx | ⟨_, _, hx⟩)
    · exact hf i hi hi' hx
    · omega) hk (fun k s e hk' hg => by
    rcases (ht k s e hk' hg).2 with h | h
    · exact .inr (by omega)
    · exact .inl h)
  have hE := h4.trans h6
  refine ⟨_, h5, hE, ?_⟩
  rw [← List.length_append]
  refine .sl size (es ++ xs) (.at st.next) (vs ++ news) b off cap ?_ ?_ (ho1.append ho2) ?_ (by rw [List.length_append]; exact hcap) ?_
  · rw [flat_append]; exact (h1.append h2).ext hE
  · intro j v hv
    have hj : j < (vs ++ news).length := (List.getElem?_eq_some_iff.1 hv).1
    rw [List.length_append] at hj
    exact ⟨.inr ⟨rfl, by omega, by omega⟩, hall j v hv⟩
  · intro e he
    rcases List.mem_append.1 he with h | h
    · exact hs1 e h
    · exact hs2 e h
  · show (if st.next = st.next then some (b, off + vs.length + news.length, off + cap * size) else g.tip st.next) = some (b, off + (es ++ xs).length * size, off + cap * size)
    rw [if_pos rfl, List.length_append, Nat.add_mul, hl1, hl2, Nat.add_assoc]
theorem dropTip (hI : Inv base g st w) {id : Nat} (h : st.heap.get id = some .tip) : Inv base g (st.put id .gone) w ∧ Ext base g st w g (st.put id .gone) w :=
  ⟨hI.drop id ⟨_, h⟩, ⟨.refl g, fun _ _ _ => rfl, .refl base w, Nat.le_refl _, fun _ _ h => .inl h, fun k e hk ho hn => ⟨by
    rw [get_put, if_neg (fun e' => by rw [e', h] at hk; injection hk with hk; subst hk; cases ho)]; exact hk, hn⟩⟩⟩
/-- A new row holds the old elements and the new ones. -/
theorem app_grow (hT : TabOk P T) {t u ty : TypeId} {i : TI} {e : Nat} (hu : P.underlying t = some (.slice e)) (hTe : T e = some i) (hz : i.size ≠ 0) {bs : Option Addr} {cap : Nat} {y : Value} {es xs : List AV} {vs news : List Value} (hsrc : SrcAt P w g i.size u y xs news)
    (hI : Inv base g st w) (h1 : RL w g (flat es) vs) (ho1 : One vs) (hs1 : ∀ e ∈ es, e.cells.length = i.size)
    (hold : (Builtin.firstCells i.size es.length (.slice bs es.length cap)).run P w.drew = .ok vs.toArray w.drew) (hg : cap < es.length + xs.length) (hfew : few (es.length + xs.length) i.bytes = true) :
    ∃ v w' g', (Builtin.append_ #[t, u] ty #[.slice bs es.length cap, y]).run P w = .ok v w' ∧ Rep w' g' (.sl i.size (es ++ xs) (.at st.next)) v ∧ Inv base g' (st.new .tip) w' ∧ Ext base g st w g' (st.new .tip) w' := by
  obtain ⟨inf, z, h2, h3, h4, h5, h6, h7, h8⟩ := (hT e i hTe).info
  obtain ⟨us, h9, h10, _⟩ := (h6 w g).cells (h8 hz)
  have hzs : z.cells.size = i.size := by rw [h9]; simpa [h10.length] using h7
  unfold few at hfew
  simp only [Bool.and_eq_true] at hfew
  have hn := Nat.le_of_ble_eq_true hfew.1
  have hby := Nat.le_of_ble_eq_true hfew.2
  have hfit : Builtin.nextslicecap (es.length + xs.length) cap * inf.bytes ≤ 281474976710656 := by
    have h11 := nextcap_le hg
    rw [h4]
    calc _ ≤ (2 * 1073741824 + 192) * 4096 := Nat.mul_le_mul (by omega) hby
      _ ≤ _ := by decide
  have hrun := run_append_grow_src (P := P) w t u ty e inf z hu h2 h5 bs es.length cap vs (by rw [h3]; exact hold) y xs.length news (by rw [h3]; exact hsrc.src) hg (by omega) hfit
  have hge := grownCap_ge w (es.length + xs.length) cap e
  generalize grownCap w (es.length + xs.length) cap e = C at hrun hge
  have hl1 : vs.length = es.length * i.size := by rw [h1.length, flat_length es i.size hs1]
  have hl2 : news.length = xs.length * i.size := by rw [hsrc.rep.length, flat_length xs i.size hsrc.len]
  obtain ⟨hI1, hE1⟩ := hI.drew
  obtain ⟨hI2, hE2⟩ := hI1.alloc (.cells ((vs ++ news).toArray ++ Builtin.zeroCells z.cells (C - (es.length + xs.length))) e)
  have hE := hE1.trans hE2
  have hsz : (w.drew.alloc (.cells ((vs ++ news).toArray ++ Builtin.zeroCells z.cells (C - (es.length + xs.length))) e)).heap.size = w.heap.size + 1 := by simp
  have hb : (w.drew.alloc (.cells ((vs ++ news).toArray ++ Builtin.zeroCells z.cells (C - (es.length + xs.length))) e)).heap[w.heap.size]? = some (.cells ((vs ++ news).toArray ++ Builtin.zeroCells z.cells (C - (es.length + xs.length))) e (0, 0)) := heap_alloc_new w.drew _
  generalize hcs : (vs ++ news).toArray ++ Builtin.zeroCells z.cells (C - (es.length + xs.length)) = cs at *
  have hcsz : cs.size = C * i.size := by
    rw [← hcs, Array.size_append, size_zeroCells, hzs]
    simp only [List.size_toArray, List.length_append, hl1, hl2]
    rw [← Nat.add_mul, ← Nat.add_mul]
    congr 1; omega
  have hcell : ∀ j, (w.drew.alloc (.cells cs e)).cell? ⟨w.heap.size, j, none⟩ = cs[j]? := fun j => cell_of_row _ w.heap.size j cs e (0, 0) hb
  have hpre : ∀ j v, (vs ++ news)[j]? = some v → cs[j]? = some v := fun j v hv => by
    rw [← hcs, Array.getElem?_append_left (by simpa using (List.getElem?_eq_some_iff.1 hv).1)]
    simpa using hv
  have hnk : ∀ k, g.key k ≠ some w.heap.size := fun k hk => by have := (hI.keyLt k _ hk).2; omega
  have hnt : ∀ k s e, g.tip k ≠ some (w.heap.size, s, e) := fun k s e hk => by have := (hI.tipLt k _ s e hk).2; omega
  obtain ⟨g', h11, h12, h13⟩ := commit hI2 (cap := C) (b := w.heap.size) (off := 0) (h1.ext hE) (hsrc.rep.ext hE) ho1 hsrc.one hs1 hsrc.len hI.base_le (by omega) (by omega)
    (fun j v hv => by rw [Nat.zero_add, hcell]; exact hpre j v (by rw [List.getElem?_append_left (List.getElem?_eq_some_iff.1 hv).1]; exact hv))
    (fun j v hv => by rw [Nat.zero_add, hcell]; exact hpre _ v (by rw [List.getElem?_append_right (by omega), Nat.add_sub_cancel_left]; exact hv))
    (fun j hj => by
      refine ⟨?_, frozen_new hb _⟩
      rw [hcell, Array.getElem?_eq_getElem (by rw [hcsz]; omega)]; rfl)
    (fun k _ => hnk k) (fun k s e _ h => absurd h (hnt k s e)) (fun j _ _ hf => by
      obtain ⟨v, hv⟩ := hI.frzIn _ _ hf
      have := cell_lt hv; omega)
  exact ⟨_, _, g', hrun, h13, h11, hE.trans h12⟩
theorem app_core (hT : TabOk P T) {t u ty : TypeId} {i : TI} (hi : sliceOf T t = some i) {sv y : Value} {a : AV} (hs : Rep w g a sv) {xs : List AV} {news : List Value} (hsrc : SrcAt P w g i.size u y xs news) {st' : St}
    (hr : addOp i.size i.bytes st a xs = some (r, st')) (hI : Inv base g st w) :
    ∃ v w' g', (Builtin.append_ #[t, u] ty #[sv, y]).run P w = .ok v w' ∧ Rep w' g' r v ∧ Inv base g' st' w' ∧ Ext base g st w g' st' w' := by
  obtain ⟨e, hu, hTe, hz⟩ := sliceOf_ok hT hi
  obtain ⟨inf, h2, h3, _⟩ := (hT e i hTe).run_info
  unfold addOp at hr
  split at hr
  · have hn0 : news = [] := List.eq_nil_of_length_eq_zero (by have := hsrc.src.newsLen; simpa using this)
    subst hn0
    have hsrc' : Src P inf.size u y 0 [] w := by rw [h3]; exact hsrc.src
    split at hr <;> try cases hr
    · rw [rep_nils hs]
      exact ⟨_, w, g, run_append_nothing w t u ty e inf hu h2 none 0 0 (Nat.le_refl 0) y hsrc', .nils, hI, .refl ..⟩
    · obtain ⟨vs, b, o', cap, h4, h5, h6, h7, h8, h9, hv⟩ := rep_sl hs
      have hs' := hs
      rw [hv] at hs' ⊢
      exact ⟨_, w, g, run_append_nothing w t u ty e inf hu h2 _ _ cap h8 y hsrc', hs', hI, .refl ..⟩
  · rename_i x xs
    split at hr
    · split at hr <;> try cases hr
      rename_i hfew
      rw [rep_nils hs]
      exact app_grow hT hu hTe hz hsrc hI (es := []) (bs := none) (cap := 0) .nil One.nil (fun _ h => by cases h) (run_firstCells_none w.drew i.size 0 0 0) (by simp) (by simpa using hfew)
    · rename_i n es tip
      split at hr <;> try cases hr
      rename_i hc
      simp only [Bool.and_eq_true, natBeq, decide_eq_true_eq] at hc
      obtain ⟨hn, hfew⟩ := hc
      subst hn
      obtain ⟨vs, b, o', cap, h4, h5, h6, h7, h8, h9, hv⟩ := rep_sl hs
      have hl : vs.length = es.length * i.size := by rw [h4.length, flat_length es i.size h7]
      have hold : (Builtin.firstCells i.size es.length (.slice (some ⟨b, o', none⟩) es.length cap)).run P w.drew = .ok vs.toArray w.drew :=
        run_firstCells_some w.drew i.size es.length _ es.length cap vs hl (fun j u hu => by rw [Addr.add_mid]; simpa using (h5 j u hu).2)
      rw [hv]
      split at hr
      · injection hr with hr
        injection hr with hr1 hr2
        subst hr1 hr2
        have hcap : cap = es.length := h9
        exact app_grow hT hu hTe hz hsrc hI h4 h6 h7 hold (by simp; omega) hfew
      · rename_i id
        split at hr <;> try cases hr
        rename_i hid
        have htip : g.tip id = some (b, o' + es.length * i.size, o' + cap * i.size) := h9
        obtain ⟨hb0, hse, hth, hnf⟩ := hI.tip id _ _ _ hid htip
        obtain ⟨hI0, hE0⟩ := dropTip hI hid
        by_cases hroom : es.length + (x :: xs).length ≤ cap
        · have hl2 : news.length = (x :: xs).length * i.size := by rw [hsrc.rep.length, flat_length _ i.size hsrc.len]
          have hmul : es.length * i.size + news.length ≤ cap * i.size := by rw [hl2, ← Nat.add_mul]; exact Nat.mul_le_mul_right _ hroom
          have hrun := run_append_room_src (P := P) w t u ty e inf hu h2 b o' es.length cap y (x :: xs).length news (by rw [h3]; exact hsrc.src) hroom
            (fun j hj => by rw [h3]; exact (hth j (by omega)).1) (fun j hj => by rw [h3]; exact (hth j (by omega)).2)
          rw [h3] at hrun
          have hbl := below_setCells (w := w) (off := o' + es.length * i.size) (us := news) hb0
          have hother : ∀ c, c ≠ b → c < w.heap.size → (w.setCells b (o' + es.length * i.size) news).heap[c]? = w.heap[c]? := fun c hc hlt => World.heap_setCells_other w b _ news hlt hc
          obtain ⟨hI1, hE1⟩ := hI.writeTip hid htip (vs := news) (by omega) hbl hother
          obtain ⟨hI2, hE2⟩ := dropTip hI1 hid
          have hE := hE1.trans hE2
          have hblt : b < (w.setCells b (o' + es.length * i.size) news).heap.size := Nat.lt_of_lt_of_le (hI.tipLt id _ _ _ htip).2 hbl.size
          have htp : ∀ k, (st.put id .gone).heap.get k = some .tip → k ≠ id ∧ st.heap.get k = some .tip := fun k hk => by
            rw [get_put] at hk
            by_cases e' : k = id
            · rw [if_pos e'] at hk; cases hk
            · rw [if_neg e'] at hk; exact ⟨e', hk⟩
          have hlv : ∀ k, live (st.put id .gone).heap k → live st.heap k := fun k ⟨q, hq, hq2⟩ => by
            rw [get_put] at hq
            by_cases e' : k = id
            · rw [if_pos e'] at hq; injection hq with hq; subst hq; cases hq2
            · rw [if_neg e'] at hq; exact ⟨q, hq, hq2⟩
          obtain ⟨g', h11, h12, h13⟩ := commit hI2 (size := i.size) (cap := cap) (b := b) (off := o' ) (h4.ext hE) (hsrc.rep.ext hE) h6 hsrc.one h7 hsrc.len hb0 hblt hroom
            (h5.mono hE.same hE.le).rangeAt
            (by rw [hl]; exact World.rangeAt_setCells_same w b _ news (fun j hj => hth j (by omega)))
            (fun j hj => by
              have := World.there_setCells hth b (o' + es.length * i.size) news (news.length + j) (by omega)
              have e' : o' + vs.length + news.length + j = o' + es.length * i.size + (news.length + j) := by omega
              rw [e']; exact this)
            (fun k hk hg' => hI.keyTip k id b _ _ (hlv k hk) hid hg' htip)
            (fun k s' e' hk hg' => by
              obtain ⟨hne, hk'⟩ := htp k hk
              have hd := hI.tipInj k id b s' e' _ _ hk' hid hne hg' htip
              refine ⟨fun j hj hj' hx => ?_, by omega⟩
              have hlt : j < o' + es.length * i.size := by omega
              have hf := (h5 (j - o') _ (List.getElem?_eq_getElem (by omega))).1
              have e2 : o' + (j - o') = j := by omega
              rw [e2] at hf
              exact (hI.tip k b s' e' hk' hg').2.2.2 j hj hj' hf)
            (fun j hj hj' => hnf j (by omega) hj')
          exact ⟨_, _, g', hrun, h13, h11, hE.trans h12⟩
        · obtain ⟨v, w', g', h11, h12, h13, h14⟩ := app_grow (st := st.put id .gone) (ty := ty) hT hu hTe hz hsrc hI0 h4 h6 h7 hold (by omega) hfew
          exact ⟨v, w', g', h11, h12, h13, hE0.trans h14⟩
      · cases hr
    · cases hr
end
end Go.Ev
namespace Go.Ev
open Go.RowKit
set_option linter.unusedVariables false

section
variable {P : Program} {T : Nat → Option TI} {base : Nat} {g : G} {st : St} {w : World} {ρ : Operand → Value} {o : Oper} {tm : Tr AV} {r : AV}
theorem e_app {c : Call} {x y : Operand} {t u : TypeId} {i : TI} {a b : XO} {st' : St} (hT : TabOk P T) (ho : o.op = .call c) (hc : c.callee = .builtin .append) (hA : c.args.toList = [x, y]) (hB : c.argTypes.toList = [t, u]) (hI : Inv base g st w)
    (hi : sliceOf T t = some i) (hu : srcOk T u = true) (ha : compO x = some a) (hb : compO y = some b) (hx : Opnd w g tm ρ x) (hy : Opnd w g tm ρ y) (hr : xApp i.size i.bytes st (evX tm a) (evX tm b) = some (r, st')) : EOk P base g st w ρ o r st' := by
  have hA' : c.args = #[x, y] := by cases hc' : c.args; rw [hc'] at hA; simp at hA; rw [hA]
  have hB' : c.argTypes = #[t, u] := by cases hc' : c.argTypes; rw [hc'] at hB; simp at hB; rw [hB]
  unfold xApp at hr
  split at hr <;> try cases hr
  rename_i xs hxs
  obtain ⟨news, hsrc⟩ := src_of (P := P) hT hu (hy b hb) hxs
  obtain ⟨v, w', g', h1, h2, h3, h4⟩ := app_core (ty := o.type) hT hi (hx a ha) hsrc hr hI
  refine ⟨v, w', g', .inl ?_, h2, h3, h4⟩
  simp [execOp, ho, resolve, hc, hA', hB', invoke, builtin, h1]
theorem e_mksl {t : TypeId} {l c : Operand} {i : TI} {a b : XO} {st' : St} (hT : TabOk P T) (ho : o.op = .makeSlice t l c) (hI : Inv base g st w) (hi : sliceOf T t = some i) (ha : compO l = some a) (hb : compO c = some b)
    (hl : Opnd w g tm ρ l) (hc : Opnd w g tm ρ c) (hr : xMksl st i.bytes i.zero (natOf (evX tm a)) (natOf (evX tm b)) = some (r, st')) : EOk P base g st w ρ o r st' := by
  obtain ⟨e, hu, hTe, hz⟩ := sliceOf_ok hT hi
  obtain ⟨inf, z, h2, h3, h4, h5, h6, h7, h8⟩ := (hT e i hTe).info
  obtain ⟨us, h9, h10, h11⟩ := (h6 w g).cells (h8 hz)
  have hzs : z.cells.size = i.size := by rw [h9]; simpa [h10.length] using h7
  unfold xMksl at hr
  split at hr <;> try cases hr
  rename_i n m hn hm
  split at hr <;> try cases hr
  rename_i hc0
  simp only [Bool.and_eq_true, natBeq, decide_eq_true_eq] at hc0
  obtain ⟨hnm, hfew⟩ := hc0
  subst hnm
  unfold few at hfew
  simp only [Bool.and_eq_true] at hfew
  have hn1 := Nat.le_of_ble_eq_true hfew.1
  have hby := Nat.le_of_ble_eq_true hfew.2
  obtain ⟨kl, hkl⟩ := natOf_eq hn
  obtain ⟨kc, hkc⟩ := natOf_eq hm
  have hv1 := hl a ha
  have hv2 := hc b hb
  rw [hkl] at hv1; rw [hkc] at hv2
  have hmul : (inf.bytes : Int) * (n : Int) ≤ 281474976710656 := by
    rw [h4]
    have : i.bytes * n ≤ 4096 * 1073741824 := Nat.mul_le_mul hby hn1
    have h : ((i.bytes * n : Nat) : Int) ≤ ((4096 * 1073741824 : Nat) : Int) := Int.ofNat_le.2 this
    rw [Int.natCast_mul] at h
    omega
  have hrun := run_make (P := P) w t e inf z hu h2 h5 kl kc n n (by omega) (by omega) hmul (by omega)
  have hcells : madeCells z.cells ((n : Int).toNat * inf.size) = ((List.replicate n us).flatten).toArray := by
    apply Array.ext'
    rw [h3, Int.toNat_natCast]
    unfold madeCells
    rw [range_zeros z.cells i.size hzs n, h9]
  rw [hcells] at hrun
  have hflatR : flat (List.replicate n i.zero) = (List.replicate n i.zero.cells).flatten := by
    unfold flat
    rw [List.flatMap_def, List.map_replicate]
  obtain ⟨g', h12, h13, h14⟩ := new_box hI (cs := flat (List.replicate n i.zero)) (us := (List.replicate n us).flatten) (by rw [hflatR]; exact h10.replicate n) (fun v hv => by
    obtain ⟨l', hl', hv'⟩ := List.mem_flatten.1 hv
    rw [(List.mem_replicate.1 hl').2] at hv'
    exact h11 v hv') e
  refine ⟨_, _, g', .inl ?_, .ks _ 0 n _ n h14 (Nat.le_refl n), h12, h13⟩
  simp [execOp, ho, rep_int hv1, rep_int hv2, hrun]

/-! ### Maps -/
theorem keyT_ok (hT : TabOk P T) {t : Nat} {k : EK} {z : AV} (h : keyT T t = some (k, z)) : ∃ kt e ei d, P.underlying t = some (.map kt e) ∧ T e = some ei ∧ ei.zero = z ∧ P.underlying kt = some d ∧
    ((k = .int ∧ ∃ q, d = .int q) ∨ (k = .str ∧ d = .string) ∨ (k = .bool ∧ d = .bool)) := by
  unfold keyT at h
  split at h <;> try cases h
  rename_i ti hti
  split at h <;> try cases h
  rename_i kt e hk
  split at h <;> try cases h
  rename_i ei hei
  obtain ⟨d, hd, hkd⟩ := (hT t ti hti).kd
  rw [hk] at hkd
  cases d <;> simp only [KdOk] at hkd
  obtain ⟨rfl, rfl⟩ := hkd
  have hek := ekOf_ok hT kt
  split at h <;> try cases h
  · rename_i he
    rw [he] at hek
    obtain ⟨q, hq⟩ := hek
    exact ⟨kt, e, ei, _, hd, hei, rfl, hq, .inl ⟨rfl, q, rfl⟩⟩
  · rename_i he
    rw [he] at hek
    exact ⟨kt, e, ei, _, hd, hei, rfl, hek, .inr (.inl ⟨rfl, rfl⟩)⟩
  · rename_i he
    rw [he] at hek
    exact ⟨kt, e, ei, _, hd, hei, rfl, hek, .inr (.inr ⟨rfl, rfl⟩)⟩
def KeyD (k : EK) (d : TypeDesc) : Prop := (k = .int ∧ ∃ q, d = .int q) ∨ (k = .str ∧ d = .string) ∨ (k = .bool ∧ d = .bool)
theorem ba_beq (a b : List UInt8) : ((⟨a.toArray⟩ : ByteArray) == ⟨b.toArray⟩) = decide (a = b) := by rw [beq_toListBytes, toArray_beq]
theorem same_rep {k : EK} {d : TypeDesc} (hd : KeyD k d) {x y : AV} {b : Bool} (h : eqV k x y = some b) {u v : Value} (hu : Rep w g x u) (hv : Rep w g y v) : Instr.sameNow d u v = some b ∧ (b = true → Instr.sameBits 10000 v u = true) := by
  rcases hd with ⟨rfl, q, rfl⟩ | ⟨rfl, rfl⟩ | ⟨rfl, rfl⟩
  · cases x <;> cases y <;> simp only [eqV] at h <;> first | cases h | skip
    split at h <;> try cases h
    rename_i hjk
    have hjk := of_decide_eq_true hjk
    subst hjk
    rw [rep_int hu, rep_int hv, beqInt_eq]
    refine ⟨?_, fun hb => ?_⟩
    · simp only [Instr.sameNow, if_true]; rfl
    · have := of_decide_eq_true hb
      simp [Instr.sameBits, this]
  · cases x <;> cases y <;> simp only [eqV] at h <;> first | cases h | skip
    rw [rep_str hu, rep_str hv, eqL_eq]
    refine ⟨by simp [Instr.sameNow, ba_beq], fun hb => ?_⟩
    have := of_decide_eq_true hb
    simp [Instr.sameBits, ba_beq, this]
  · cases x <;> cases y <;> simp only [eqV] at h <;> first | cases h | skip
    rw [rep_bool hu, rep_bool hv]
    refine ⟨by simp [Instr.sameNow], fun hb => ?_⟩
    have := by simpa using hb
    simp [Instr.sameBits, this]
theorem find_rep {k : EK} {d : TypeDesc} (hd : KeyD k d) {x : AV} {u : Value} (hu : Rep w g x u) : ∀ (kv : List (AV × AV)) (es : List MapEntry) (i : Nat) (res : Option AV), MapRel w g kv es → findKey k x kv = some res →
    (res = none → Instr.findNow d u es i = some none) ∧ (∀ v, res = some v → ∃ j val, Instr.findNow d u es i = some (some (j, val)) ∧ Rep w g v val) := by
  intro kv
  induction kv with
  | nil =>
    intro es i res hm hf
    obtain ⟨h1, h2⟩ := hm
    cases es with
    | nil => simp [findKey] at hf; subst hf; exact ⟨fun _ => rfl, fun v h => by cases h⟩
    | cons e es => cases h1
  | cons p kv ih =>
    intro es i res hm hf
    obtain ⟨q, v⟩ := p
    obtain ⟨h1, h2⟩ := hm
    cases es with
    | nil => cases h1
    | cons e es =>
      cases h1 with
      | cons _ _ _ _ h3 h4 => cases h2 with
        | cons _ _ _ _ h5 h6 =>
          unfold findKey at hf
          split at hf <;> try cases hf
          · rename_i hq
            have hs := (same_rep hd hq hu h3).1
            refine ⟨fun h => (by cases h), fun v' hv' => ⟨i, e.val, ?_, ?_⟩⟩
            · simp [Instr.findNow, hs]
            · injection hv' with hv'; subst hv'; exact h5
          · rename_i hq
            have hs := (same_rep hd hq hu h3).1
            have := ih es (i + 1) res ⟨h4, h6⟩ hf
            simp only [Instr.findNow, hs]
            exact this
theorem check_run {k : EK} {d : TypeDesc} (hd : KeyD k d) {kt : TypeId} (hk : P.underlying kt = some d) (b : Bool) (n : Nat) (u : Value) (w' : World) : (Instr.checkKey b (n + 1) kt u).run P w' = .ok () w' := by
  rcases hd with ⟨_, q, rfl⟩ | ⟨_, rfl⟩ | ⟨_, rfl⟩ <;> simp [Instr.checkKey, Sem.run_bind, run_underlying hk]
theorem p_look {t : TypeId} {m ix : Operand} {ok : Bool} {ez : EK × AV} {a b : XO} (hT : TabOk P T) (ho : o.op = .lookup t m ix ok) (hI : Inv base g st w) (hk : keyT T t = some ez) (ha : compO m = some a) (hb : compO ix = some b)
    (hm : Opnd w g tm ρ m) (hix : Opnd w g tm ρ ix) (hr : xLook st.heap ez.1 ez.2 ok (evX tm a) (evX tm b) = some r) : POk P base g st w ρ o r := by
  obtain ⟨kt, e, ei, d, hu, hTe, hz, hkt, hd⟩ := keyT_ok hT hk
  obtain ⟨inf, z, h2, h3, h4, h5, h6, h7, h8⟩ := (hT e ei hTe).info
  have h1 := hm a ha
  have h1' := hix b hb
  unfold xLook at hr
  split at hr <;> try cases hr
  rename_i key he
  split at hr <;> try cases hr
  rename_i ver kv hkv
  rw [he] at h1
  obtain ⟨bl, hbl, hv⟩ := rep_mp h1
  obtain ⟨⟨es, clock, hes, hrel⟩, _⟩ := hI.ent key _ bl hkv hbl
  have hget : (getObj bl).run P w = .ok (.map es clock) w := by simp [getObj, Sem.run, hes]
  have hchk := check_run (P := P) hd hkt es.isEmpty 9999 (ρ ix) w
  split at hr <;> try cases hr
  · rename_i v hf
    obtain ⟨j, val, hfn, hrep⟩ := (find_rep hd h1' kv es.toList 0 _ hrel hf).2 v rfl
    refine POk.of hI (v := if ok then .tuple #[val, .bool true] else val) ?_ ?_
    · simp [execOp, ho, hv, Instr.lookup, Sem.run_bind, run_underlying hu, hget, hchk, Instr.findKey, run_underlying hkt, hfn]
    · cases ok with
      | true => exact .tup _ [val, .bool true] (.cons _ _ _ _ hrep (RL.one (.bool true)))
      | false => exact hrep
  · rename_i hf
    have hfn := (find_rep hd h1' kv es.toList 0 _ hrel hf).1 rfl
    refine POk.of hI (v := if ok then .tuple #[z, .bool false] else z) ?_ ?_
    · simp [execOp, ho, hv, Instr.lookup, Sem.run_bind, run_underlying hu, hget, hchk, Instr.findKey, run_underlying hkt, hfn, zeroValue, typeInfo, h2, h5]
    · rw [← hz]
      cases ok with
      | true => exact .tup _ [z, .bool false] (.cons _ _ _ _ (h6 w g) (RL.one (.bool false)))
      | false => exact h6 w g
theorem e_mkmap {t : TypeId} (ho : o.op = .makeMap t none) (hI : Inv base g st w) : EOk P base g st w ρ o (.mp st.next) (st.new (.map 0 [])) := by
  obtain ⟨h3, h4⟩ := hI.alloc (.map #[] 0)
  have hk : ∀ k, g.key k ≠ some w.heap.size := fun k hk => by have := (hI.keyLt k _ hk).2; omega
  have ht : ∀ k s e, g.tip k ≠ some (w.heap.size, s, e) := fun k s e hk => by have := (hI.tipLt k _ s e hk).2; omega
  obtain ⟨h5, h6⟩ := h3.addKey w.heap.size (.map 0 []) rfl hI.base_le (by simp) (fun k _ => hk k) (fun k s e _ => ht k s e) (fun i hf => by
    obtain ⟨v, hv⟩ := hI.frzIn _ _ hf
    have := cell_lt hv; omega) ⟨#[], 0, heap_alloc_new w _, .nil, .nil⟩
  refine ⟨.map (some w.heap.size), _, _, .inl ?_, .mp _ _ (by simp), h5, h4.trans h6⟩
  simp [execOp, ho, Instr.makeMap, newObj, Sem.run]
theorem put_rep {k : EK} {d : TypeDesc} (hd : KeyD k d) {x y : AV} {u yv : Value} (hu : Rep w g x u) (hy : Rep w g y yv) : ∀ (kv : List (AV × AV)) (es : List MapEntry) (i : Nat) (l : List (AV × AV)), MapRel w g kv es → putKey k x y kv = some l →
    (∃ j val e, Instr.findNow d u es i = some (some (i + j, val)) ∧ es[j]? = some e ∧ Instr.sameBits 10000 e.key u = true ∧ MapRel w g l (es.modify j fun e => { e with key := u, val := yv })) ∨
    (Instr.findNow d u es i = some none ∧ ∀ c, MapRel w g l (es ++ [{ key := u, val := yv, born := c }])) := by
  intro kv
  induction kv with
  | nil =>
    intro es i l hm hf
    obtain ⟨h1, h2⟩ := hm
    cases es with
    | nil => simp [putKey] at hf; subst hf; exact .inr ⟨rfl, fun c => ⟨RL.one hu, RL.one hy⟩⟩
    | cons e es => cases h1
  | cons p kv ih =>
    intro es i l hm hf
    obtain ⟨q, v⟩ := p
    obtain ⟨h1, h2⟩ := hm
    cases es with
    | nil => cases h1
    | cons e es =>
      cases h1 with
      | cons _ _ _ _ h3 h4 => cases h2 with
        | cons _ _ _ _ h5 h6 =>
          unfold putKey at hf
          split at hf <;> try cases hf
          · rename_i hq
            obtain ⟨hs, hb⟩ := same_rep hd hq hu h3
            refine .inl ⟨0, e.val, e, by simp [Instr.findNow, hs], rfl, hb rfl, ?_⟩
            exact ⟨.cons _ _ _ _ hu h4, .cons _ _ _ _ hy h6⟩
          · rename_i hq
            obtain ⟨hs, _⟩ := same_rep hd hq hu h3
            split at hf <;> try cases hf
            rename_i l' hl'
            rcases ih es (i + 1) l' ⟨h4, h6⟩ hl' with ⟨j, val, e', h7, h8, h9, h10, h11⟩ | ⟨h7, h8⟩
            · refine .inl ⟨j + 1, val, e', ?_, by simpa using h8, h9, ?_⟩
              · simp only [Instr.findNow, hs, h7]
                congr 3; omega
              · exact ⟨.cons _ _ _ _ h3 h10, .cons _ _ _ _ h5 h11⟩
            · refine .inr ⟨by simp only [Instr.findNow, hs, h7], fun c => ?_⟩
              obtain ⟨h9, h10⟩ := h8 c
              exact ⟨.cons _ _ _ _ h3 h9, .cons _ _ _ _ h5 h10⟩
theorem e_put {t : TypeId} {m k x : Operand} {ez : EK × AV} {a b c : XO} {st' : St} (hT : TabOk P T) (ho : o.op = .insert t m k x ∨ o.op = .mapUpdate t m k x) (hI : Inv base g st w) (hk : keyT T t = some ez) (ha : compO m = some a) (hb : compO k = some b) (hc : compO x = some c)
    (hm : Opnd w g tm ρ m) (hkk : Opnd w g tm ρ k) (hx : Opnd w g tm ρ x) (hr : xPut st ez.1 (evX tm a) (evX tm b) (evX tm c) = some (r, st')) : EOk P base g st w ρ o r st' := by
  obtain ⟨kt, e, ei, d, hu, hTe, hz, hkt, hd⟩ := keyT_ok hT hk
  have h1 := hm a ha
  have h1' := hkk b hb
  have h1'' := hx c hc
  unfold xPut at hr
  split at hr <;> try cases hr
  rename_i key he
  split at hr <;> try cases hr
  rename_i ver kv hkv
  split at hr <;> try cases hr
  rename_i l hl
  rw [he] at h1
  obtain ⟨bl, hbl, hv⟩ := rep_mp h1
  obtain ⟨⟨es, clock, hes, hrel⟩, hbase⟩ := hI.ent key _ bl hkv hbl
  have hget : (getObj bl).run P w = .ok (.map es clock) w := by simp [getObj, Sem.run, hes]
  have hchk := check_run (P := P) hd hkt false 9999 (ρ k) w
  have hset : ∀ ob, (setObj bl ob).run P w = .ok () { w with heap := w.heap.setIfInBounds bl ob } := fun ob => by simp [setObj, Sem.run, hes]
  have hlt : bl < w.heap.size := (hI.keyLt key bl hbl).2
  have fin : ∀ es' clock', MapRel w g l es'.toList → Inv base g (st.put key (.map (Nat.succ ver) l)) { w with heap := w.heap.setIfInBounds bl (.map es' clock') } ∧ Ext base g st w g (st.put key (.map (Nat.succ ver) l)) { w with heap := w.heap.setIfInBounds bl (.map es' clock') } := by
    intro es' clock' hrel'
    have hother : ∀ c, c ≠ bl → c < w.heap.size → (w.heap.setIfInBounds bl (Obj.map es' clock'))[c]? = w.heap[c]? := fun c hc _ => by
      rw [Array.getElem?_setIfInBounds, if_neg (fun e => hc e.symm)]
    have hsame : Same g w { w with heap := w.heap.setIfInBounds bl (.map es' clock') } := fun c j hf => by
      obtain ⟨v, hv⟩ := hI.frzIn c j hf
      exact World.cell?_of_block (a := ⟨c, j, none⟩) (hother c (fun e => by subst e; exact hI.keyFrz key c j ⟨_, hkv, rfl⟩ hbl hf) (cell_lt hv))
    refine hI.turn key bl _ (.map (Nat.succ ver) l) hkv rfl rfl hbl (by simp) (fun hb0 => ⟨rfl, rfl, rfl, by simp, fun j hj => ?_⟩) hother ⟨es', clock', ?_, hrel'.1.mono hsame (.refl g), hrel'.2.mono hsame (.refl g)⟩
    · show (w.heap.setIfInBounds bl (Obj.map es' clock'))[j]? = w.heap[j]?
      rw [Array.getElem?_setIfInBounds, if_neg (by omega)]
    · show (w.heap.setIfInBounds bl (Obj.map es' clock'))[bl]? = _
      rw [Array.getElem?_setIfInBounds, if_pos rfl, if_pos hlt]
  rcases put_rep hd h1' h1'' kv es.toList 0 l hrel hl with ⟨j, val, e', h7, h8, h9, h10⟩ | ⟨h7, h8⟩
  · rw [Nat.zero_add] at h7
    obtain ⟨h11, h12⟩ := fin (es.modify j fun e => { e with key := ρ k, val := ρ x }) clock (by rw [Array.toList_modify]; exact h10)
    refine ⟨undef, _, g, .inr ⟨?_, rfl⟩, rep_und, h11, h12⟩
    have h8' : es[j]? = some e' := by simpa using h8
    rcases ho with ho | ho <;> simp [execOp, ho, hv, Instr.mapUpdate, Sem.run_bind, run_underlying hu, hget, hchk, Instr.findKey, run_underlying hkt, h7, h8', Instr.keyThatStays, h9, hset]
  · obtain ⟨h11, h12⟩ := fin (es.push { key := ρ k, val := ρ x, born := clock }) (clock + 1) (by rw [Array.toList_push]; exact h8 clock)
    refine ⟨undef, _, g, .inr ⟨?_, rfl⟩, rep_und, h11, h12⟩
    rcases ho with ho | ho <;> simp [execOp, ho, hv, Instr.mapUpdate, Sem.run_bind, run_underlying hu, hget, hchk, Instr.findKey, run_underlying hkt, h7, hset]
end
end Go.Ev
namespace Go.Ev
open Go.RowKit
set_option linter.unusedVariables false

section
variable {P : Program} {T : Nat → Option TI} {base : Nat} {g : G} {st : St} {w : World} {tm : Tr AV} {r : AV}
/-- What a call yields. -/
def Yields (P : Program) (base : Nat) (f : Nat) (vs : List Value) (r : AV) (g : G) (st : St) (w : World) (st' : St) : Prop :=
  Calls P f vs.toArray w fun e w' => ∃ v g', e = .returned v ∧ Rep w' g' r v ∧ Inv base g' st' w' ∧ Ext base g st w g' st' w'
def CallOk (P : Program) (base : Nat) (call : Nat → List AV → St → Option (AV × St)) : Prop :=
  ∀ f args st r st', call f args st = some (r, st') → (∃ fn, P.funcs[f]? = some fn ∧ fn.body.isNone = false ∧ (fn.name == "runtime.NumGoroutine") = false) ∧
    ∀ w g vs, RL w g args vs → Inv base g st w → Yields P base f vs r g st w st'
theorem opt_eq {α β : Type} {x : Option α} {f : α → Option β} {b : β} (h : opt x f = some b) : ∃ a, x = some a ∧ f a = some b := by
  unfold opt at h
  split at h
  · exact ⟨_, rfl, h⟩
  · cases h
theorem pok_wp {o : Oper} {a : Act} {K : Act → World → Prop} {Q : Exit → Act → World → Prop} (h : POk P base g st w a.eval o r) (hK : ∀ v w' g', Rep w' g' r v → Inv base g' st w' → Ext base g st w g' st w' → K (a.put o.dst v) w') : Oper.wp P o a w K Q := by
  obtain ⟨v, w', g', h1, h2, h3, h4⟩ := h
  unfold Oper.wp
  rw [h1]
  exact hK v w' g' h2 h3 h4
theorem eok_wp {o : Oper} {a : Act} {K : Act → World → Prop} {Q : Exit → Act → World → Prop} {st' : St} (h : EOk P base g st w a.eval o r st') (hK : ∀ v w' g', Rep w' g' r v → Inv base g' st' w' → Ext base g st w g' st' w' → K (a.put o.dst v) w') : Oper.wp P o a w K Q := by
  obtain ⟨v, w', g', h1, h2, h3, h4⟩ := h
  unfold Oper.wp
  rcases h1 with h1 | ⟨h1, rfl⟩
  · rw [h1]; exact hK v w' g' h2 h3 h4
  · rw [h1]; exact hK undef w' g' h2 h3 h4
theorem okP_eq {x : Option AV} {st st' : St} (h : okP st x = some (r, st')) : x = some r ∧ st' = st := by
  cases x with
  | none => cases h
  | some v =>
    have h : some (v, st) = some (r, st') := h
    injection h with h
    injection h with h1 h2
    exact ⟨by rw [h1], h2.symm⟩
theorem call_wp {call : Nat → List AV → St → Option (AV × St)} (hcall : CallOk P base call) {o : Oper} {c : Call} {a : Act} {K : Act → World → Prop} {Q : Exit → Act → World → Prop} {f : Operand} {xf : XO} {xs : List XO} {st' : St} (ho : o.op = .call c)
    (hc : c.callee = .value f) (hf : compO f = some xf) (hx : compOs c.args.toList = some xs) (hof : Opnd w g tm a.eval f) (hox : ∀ x ∈ c.args.toList, Opnd w g tm a.eval x) (hI : Inv base g st w)
    (hr : xCall call st (evX tm xf) (evXs tm xs) = some (r, st')) (hK : ∀ v w' g', Rep w' g' r v → Inv base g' st' w' → Ext base g st w g' st' w' → K (a.put o.dst v) w') : Oper.wp P o a w K Q := by
  have h1 := hof xf hf
  unfold xCall at hr
  split at hr <;> try cases hr
  rename_i id first caps he
  rw [he] at h1
  obtain ⟨us, vs, h2, h3, hv⟩ := rep_fn h1
  obtain ⟨⟨fn, hfn, hbody, hname⟩, hy⟩ := hcall _ _ _ _ _ hr
  have h4 := (h2.append (compOs_rep hx hox)).append h3
  have hrun : (execOp a.eval o).run P w = .ok (.enter id ((us ++ (c.args.toList.map a.eval)) ++ vs).toArray) w := by
    have hname' : ¬ fn.name = "runtime.NumGoroutine" := by simpa using hname
    have hbody' : ¬ fn.body = none := fun h => by rw [h] at hbody; cases hbody
    simp [execOp, ho, resolve, hc, hv, Deferred.ofValue, invoke, callFunc, Sem.run_bind, hfn, hbody', hname']
  unfold Oper.wp
  rw [hrun]
  exact (hy w g _ h4 hI).mono fun e w' ⟨v, g', he', h5, h6, h7⟩ => by
    subst he'
    exact hK v w' g' h5 h6 h7
/-- THE OPERATION. -/
theorem op_sound (hT : TabOk P T) {call : Nat → List AV → St → Option (AV × St)} (hcall : CallOk P base call) {o : Oper} {kd : Bool} {xo : XOp} (hc : compOp T kd o.op = some xo) {a : Act} (hI : Inv base g st w)
    (hρ : ∀ x ∈ o.op.operands.toList, Opnd w g tm a.eval x) {st' : St} (hr : doX call st tm xo = some (r, st')) {K : Act → World → Prop} {Q : Exit → Act → World → Prop}
    (hK : ∀ v w' g', Rep w' g' r v → Inv base g' st' w' → Ext base g st w g' st' w' → K (a.put o.dst v) w') : Oper.wp P o a w K Q := by
  have P' : ∀ {xp : XP}, xo = .p xp → (∀ r, doP tm xp = some r → POk P base g st w a.eval o r) → Oper.wp P o a w K Q := by
    rintro xp rfl hp
    obtain ⟨h1, rfl⟩ := okP_eq (show okP st (doP tm xp) = some (r, st') from hr)
    exact pok_wp (hp r h1) hK
  have L' : ∀ {xl : XL}, xo = .l xl → (∀ r, doL st.heap tm xl = some r → POk P base g st w a.eval o r) → Oper.wp P o a w K Q := by
    rintro xl rfl hp
    obtain ⟨h1, rfl⟩ := okP_eq (show okP st (doL st.heap tm xl) = some (r, st') from hr)
    exact pok_wp (hp r h1) hK
  have E' : ∀ {xe : XE}, xo = .e xe → (doE call st tm xe = some (r, st') → EOk P base g st w a.eval o r st') → Oper.wp P o a w K Q := by
    rintro xe rfl hp
    exact eok_wp (hp hr) hK
  cases hop : o.op with
  | move x =>
    rw [hop] at hc hρ
    obtain ⟨z, hz, hc⟩ := opt_eq hc
    injection hc with hc
    refine P' hc.symm fun r hr => ?_
    injection hr with hr; subst hr
    exact p_move (.inl hop) hI hz (hρ x (by simp [Op.operands]))
  | assign x =>
    rw [hop] at hc hρ
    obtain ⟨z, hz, hc⟩ := opt_eq hc
    injection hc with hc
    refine P' hc.symm fun r hr => ?_
    injection hr with hr; subst hr
    exact p_move (.inr hop) hI hz (hρ x (by simp [Op.operands]))
  | pick c x y =>
    rw [hop] at hc hρ
    obtain ⟨z1, hz1, hc⟩ := opt_eq hc
    obtain ⟨z2, hz2, hc⟩ := opt_eq hc
    obtain ⟨z3, hz3, hc⟩ := opt_eq hc
    injection hc with hc
    exact P' hc.symm fun r hr => p_pick hop hI hz1 hz2 hz3 (hρ c (by simp [Op.operands])) (hρ x (by simp [Op.operands])) (hρ y (by simp [Op.operands])) hr
  | alloc t =>
    rw [hop] at hc hρ
    obtain ⟨i, hi, hc⟩ := opt_eq hc
    cases hz : i.zero.cells with
    | nil => simp only [hz] at hc; cases hc
    | cons z zs =>
      simp only [hz] at hc
      injection hc with hc
      refine E' hc.symm fun hr => ?_
      have hr : some (AV.ptr st.next 0, st.new (.box 0 (z :: zs))) = some (r, st') := hr
      injection hr with hr
      injection hr with h1 h2
      subst h1 h2
      have := e_alloc (ρ := a.eval) hT hop hI hi (by rw [hz]; exact fun h => by cases h)
      rwa [hz] at this
  | box t x =>
    rw [hop] at hc hρ
    obtain ⟨i, hi, hc⟩ := opt_eq hc
    split at hc <;> try cases hc
    rename_i hsz
    obtain ⟨z, hz, hc⟩ := opt_eq hc
    injection hc with hc
    refine E' hc.symm fun hr => ?_
    have hr : aBox st tm i.size z = some (r, st') := hr
    rw [natBeq] at hsz
    cases hl : Nat.beq (evX tm z).cells.length i.size with
    | false => simp only [aBox, hl] at hr; cases hr
    | true =>
      simp only [aBox, hl] at hr
      injection hr with hr
      injection hr with h1 h2
      subst h1 h2
      rw [natBeq] at hl
      exact e_box hop hI hz (hρ x (by simp [Op.operands])) (by simpa using hsz) (of_decide_eq_true hl)
  | build t parts =>
    rw [hop] at hc hρ
    obtain ⟨i, hi, hc⟩ := opt_eq hc
    split at hc <;> try cases hc
    rename_i fs hk
    split at hc <;> try cases hc
    rename_i hsz
    obtain ⟨l, hl, hc⟩ := opt_eq hc
    injection hc with hc
    rw [natBeq] at hsz
    exact P' hc.symm fun r hr => p_build hT hop hI hi hk (by simpa using hsz) hl (fun p hp => hρ p.2 (by simp [Op.operands]; exact ⟨p.1, by simpa using hp⟩)) hr
  | buildSlice t len parts =>
    rw [hop] at hc hρ
    obtain ⟨i, hi, hc⟩ := opt_eq hc
    split at hc <;> try cases hc
    rename_i hsz
    obtain ⟨l, hl, hc⟩ := opt_eq hc
    injection hc with hc
    exact P' hc.symm fun r hr => p_bslice hT hop hI hi (Nat.le_of_ble_eq_true hsz) hl (fun p hp => hρ p.2 (by simp [Op.operands]; exact ⟨p.1, by simpa using hp⟩)) hr
  | insert t m k x =>
    rw [hop] at hc hρ
    obtain ⟨e, he, hc⟩ := opt_eq hc
    obtain ⟨z1, hz1, hc⟩ := opt_eq hc
    obtain ⟨z2, hz2, hc⟩ := opt_eq hc
    obtain ⟨z3, hz3, hc⟩ := opt_eq hc
    injection hc with hc
    exact E' hc.symm fun hr => e_put hT (.inl hop) hI he hz1 hz2 hz3 (hρ m (by simp [Op.operands])) (hρ k (by simp [Op.operands])) (hρ x (by simp [Op.operands])) hr
  | mapUpdate t m k x =>
    rw [hop] at hc hρ
    obtain ⟨e, he, hc⟩ := opt_eq hc
    obtain ⟨z1, hz1, hc⟩ := opt_eq hc
    obtain ⟨z2, hz2, hc⟩ := opt_eq hc
    obtain ⟨z3, hz3, hc⟩ := opt_eq hc
    injection hc with hc
    exact E' hc.symm fun hr => e_put hT (.inr hop) hI he hz1 hz2 hz3 (hρ m (by simp [Op.operands])) (hρ k (by simp [Op.operands])) (hρ x (by simp [Op.operands])) hr
  | load t x =>
    rw [hop] at hc hρ
    obtain ⟨i, hi, hc⟩ := opt_eq hc
    split at hc
    · rename_i hg
      obtain ⟨z, hz, hc⟩ := opt_eq hc
      injection hc with hc
      exact L' hc.symm fun r hr => p_load hT hop hI hi hz (hρ x (by simp [Op.operands])) (by rw [hg]; exact hr)
    · rename_i hg hs
      obtain ⟨z, hz, hc⟩ := opt_eq hc
      injection hc with hc
      rw [natBeq] at hs
      have hs := of_decide_eq_true hs
      exact L' hc.symm fun r hr => p_load hT hop hI hi hz (hρ x (by simp [Op.operands])) (by rw [hg, hs]; exact hr)
    · cases hc
  | store t x y =>
    rw [hop] at hc hρ
    obtain ⟨i, hi, hc⟩ := opt_eq hc
    split at hc <;> try cases hc
    rename_i hsz
    obtain ⟨z1, hz1, hc⟩ := opt_eq hc
    obtain ⟨z2, hz2, hc⟩ := opt_eq hc
    injection hc with hc
    rw [natBeq] at hsz
    exact E' hc.symm fun hr => e_store hT hop hI hi (by simpa using hsz) hz1 hz2 (hρ x (by simp [Op.operands])) (hρ y (by simp [Op.operands])) hr
  | nilCheck x =>
    rw [hop] at hc hρ
    obtain ⟨z, hz, hc⟩ := opt_eq hc
    injection hc with hc
    exact P' hc.symm fun r hr => p_nilc hop hI hz (hρ x (by simp [Op.operands])) hr
  | binOp op t x y t' =>
    rw [hop] at hc hρ
    obtain ⟨z1, hz1, hc⟩ := opt_eq hc
    obtain ⟨z2, hz2, hc⟩ := opt_eq hc
    injection hc with hc
    exact P' hc.symm fun r hr => p_bin hT hop hI hz1 hz2 (hρ x (by simp [Op.operands])) (hρ y (by simp [Op.operands])) hr
  | unOp op t x =>
    rw [hop] at hc hρ
    cases op with
    | not =>
      obtain ⟨z, hz, hc⟩ := opt_eq hc
      injection hc with hc
      exact P' hc.symm fun r hr => p_not hop hI hz (hρ x (by simp [Op.operands])) hr
    | neg =>
      obtain ⟨z, hz, hc⟩ := opt_eq hc
      injection hc with hc
      exact P' hc.symm fun r hr => p_neg hop hI hz (hρ x (by simp [Op.operands])) hr
    | _ => cases hc
  | convert s d x =>
    rw [hop] at hc hρ
    obtain ⟨z, hz, hc⟩ := opt_eq hc
    obtain ⟨p, hp, hc⟩ := opt_eq hc
    injection hc with hc
    have hx := hρ x (by simp [Op.operands])
    unfold compConv at hp
    split at hp <;> try cases hp
    rename_i di hdi
    split at hp <;> try cases hp
    · rename_i k hk
      split at hp <;> try cases hp
      rename_i si hsi
      split at hp <;> try cases hp
      rename_i q hq
      exact P' hc.symm fun r hr => p_cint hT hop hI hdi hk hsi hq hz hx hr
    · rename_i hk
      split at hp <;> try cases hp
      rename_i si hsi
      split at hp <;> try cases hp
      · rename_i hq
        exact P' hc.symm fun r hr => p_cstr hT hop hI hdi hk hsi hq hz hx hr
      · rename_i e hq
        split at hp <;> try cases hp
        rename_i ei hei
        split at hp <;> try cases hp
        rename_i hu8
        exact P' hc.symm fun r hr => p_cbytes hT hop hI hdi hk hsi hq hei hu8 hz hx hr
  | makeFunc f first caps =>
    rw [hop] at hc hρ
    cases f with
    | func f =>
      obtain ⟨l, hl, hc⟩ := opt_eq hc
      obtain ⟨m, hm, hc⟩ := opt_eq hc
      injection hc with hc
      refine P' hc.symm fun r hr => ?_
      injection hr with hr; subst hr
      exact p_mkf hop hI hl hm (fun x hx => hρ x (by simp [Op.operands]; exact .inl (by simpa using hx))) (fun x hx => hρ x (by simp [Op.operands]; exact .inr (by simpa using hx)))
    | _ => cases hc
  | makeSlice t l c =>
    rw [hop] at hc hρ
    obtain ⟨i, hi, hc⟩ := opt_eq hc
    obtain ⟨z1, hz1, hc⟩ := opt_eq hc
    obtain ⟨z2, hz2, hc⟩ := opt_eq hc
    injection hc with hc
    exact E' hc.symm fun hr => e_mksl hT hop hI hi hz1 hz2 (hρ l (by simp [Op.operands])) (hρ c (by simp [Op.operands])) hr
  | makeMap t rs =>
    rw [hop] at hc hρ
    cases rs with
    | none =>
      injection hc with hc
      refine E' hc.symm fun hr => ?_
      have hr : some (AV.mp st.next, st.new (.map 0 [])) = some (r, st') := hr
      injection hr with hr
      injection hr with h1 h2
      subst h1 h2
      exact e_mkmap hop hI
    | some _ => cases hc
  | slice t x lo hi mx =>
    rw [hop] at hc hρ
    cases mx with
    | some _ => cases hc
    | none =>
      obtain ⟨z, hz, hc⟩ := opt_eq hc
      obtain ⟨l, hl, hc⟩ := opt_eq hc
      obtain ⟨h, hh, hc⟩ := opt_eq hc
      have hx := hρ x (by simp [Op.operands])
      have hlo : ∀ y, lo = some y → Opnd w g tm a.eval y := fun y hy => hρ y (by simp [Op.operands, hy])
      have hhi : ∀ y, hi = some y → Opnd w g tm a.eval y := fun y hy => hρ y (by simp [Op.operands, hy])
      split at hc
      · rename_i ht
        injection hc with hc
        exact P' hc.symm fun r hr => p_subs hT hop hI ht hz hl hh hx hlo hhi hr
      · obtain ⟨i, hi', hc⟩ := opt_eq hc
        injection hc with hc
        exact P' hc.symm fun r hr => p_subl hT hop hI hi' hz hl hh hx hlo hhi hr
  | fieldAddr t x i =>
    rw [hop] at hc hρ
    obtain ⟨f, hf, hc⟩ := opt_eq hc
    obtain ⟨z, hz, hc⟩ := opt_eq hc
    injection hc with hc
    exact P' hc.symm fun r hr => p_faddr hT hop hI hf hz (hρ x (by simp [Op.operands])) hr
  | field t x i =>
    rw [hop] at hc hρ
    obtain ⟨f, hf, hc⟩ := opt_eq hc
    obtain ⟨z, hz, hc⟩ := opt_eq hc
    injection hc with hc
    exact P' hc.symm fun r hr => p_field hT hop hI hf hz (hρ x (by simp [Op.operands])) hr
  | indexAddr t x ix =>
    rw [hop] at hc hρ
    obtain ⟨i, hi, hc⟩ := opt_eq hc
    obtain ⟨z1, hz1, hc⟩ := opt_eq hc
    obtain ⟨z2, hz2, hc⟩ := opt_eq hc
    injection hc with hc
    exact P' hc.symm fun r hr => p_iaddr hT hop hI hi hz1 hz2 (hρ x (by simp [Op.operands])) (hρ ix (by simp [Op.operands])) hr
  | index t x ix =>
    rw [hop] at hc hρ
    simp only [compOp] at hc
    split at hc <;> try cases hc
    rename_i ht
    obtain ⟨z1, hz1, hc⟩ := opt_eq hc
    obtain ⟨z2, hz2, hc⟩ := opt_eq hc
    injection hc with hc
    exact P' hc.symm fun r hr => p_ixs hT hop hI ht hz1 hz2 (hρ x (by simp [Op.operands])) (hρ ix (by simp [Op.operands])) hr
  | lookup t m ix ok =>
    rw [hop] at hc hρ
    obtain ⟨e, he, hc⟩ := opt_eq hc
    obtain ⟨z1, hz1, hc⟩ := opt_eq hc
    obtain ⟨z2, hz2, hc⟩ := opt_eq hc
    injection hc with hc
    exact L' hc.symm fun r hr => p_look hT hop hI he hz1 hz2 (hρ m (by simp [Op.operands])) (hρ ix (by simp [Op.operands])) hr
  | extract x i =>
    rw [hop] at hc hρ
    obtain ⟨z, hz, hc⟩ := opt_eq hc
    injection hc with hc
    exact P' hc.symm fun r hr => p_ext hop hI hz (hρ x (by simp [Op.operands])) hr
  | call c =>
    rw [hop] at hc hρ
    have hargs : ∀ x ∈ c.args.toList, Opnd w g tm a.eval x := fun x hx => hρ x (by simp [Op.operands, Call.operands]; exact .inr (by simpa using hx))
    simp only [compOp] at hc
    unfold compCall at hc
    split at hc
    · rename_i f hf
      obtain ⟨z, hz, hc⟩ := opt_eq hc
      obtain ⟨l, hl, hc⟩ := opt_eq hc
      injection hc with hc
      subst hc
      exact call_wp hcall hop hf hz hl (hρ f (by simp [Op.operands, Call.operands, hf])) hargs hI hr hK
    · rename_i hf
      split at hc <;> try cases hc
      rename_i x t hA hB
      obtain ⟨z, hz, hc⟩ := opt_eq hc
      have hx := hargs x (by rw [hA]; simp)
      split at hc
      · rename_i ht
        injection hc with hc
        exact P' hc.symm fun r hr => p_lens hT hop hf hA hB hI ht hz hx hr
      · obtain ⟨i, hi, hc⟩ := opt_eq hc
        injection hc with hc
        exact P' hc.symm fun r hr => p_lenl hT hop hf hA hB hI hi hz hx hr
    · rename_i hf
      split at hc <;> try cases hc
      rename_i x y hA
      obtain ⟨z1, hz1, hc⟩ := opt_eq hc
      obtain ⟨z2, hz2, hc⟩ := opt_eq hc
      injection hc with hc
      exact P' hc.symm fun r hr => p_max hop hf hA hI hz1 hz2 (hargs x (by rw [hA]; simp)) (hargs y (by rw [hA]; simp)) hr
    · rename_i hf
      split at hc <;> try cases hc
      rename_i x y hA
      obtain ⟨z1, hz1, hc⟩ := opt_eq hc
      obtain ⟨z2, hz2, hc⟩ := opt_eq hc
      injection hc with hc
      exact P' hc.symm fun r hr => p_min hop hf hA hI hz1 hz2 (hargs x (by rw [hA]; simp)) (hargs y (by rw [hA]; simp)) hr
    · rename_i hf
      split at hc <;> try cases hc
      rename_i x y t u hA hB
      obtain ⟨i, hi, hc⟩ := opt_eq hc
      obtain ⟨z1, hz1, hc⟩ := opt_eq hc
      obtain ⟨z2, hz2, hc⟩ := opt_eq hc
      split at hc <;> try cases hc
      rename_i hu
      split at hc <;> try cases hc
      exact E' rfl fun hr => e_app hT hop hf hA hB hI hi hu hz1 hz2 (hargs x (by rw [hA]; simp)) (hargs y (by rw [hA]; simp)) hr
    · cases hc
  | _ => rw [hop] at hc; cases hc
end
end Go.Ev
