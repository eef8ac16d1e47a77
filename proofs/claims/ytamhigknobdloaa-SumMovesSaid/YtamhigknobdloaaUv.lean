/- The law SumMoves where an argument is too long; no condition but that. -/
import Derived.Test.YtamhigknobdloaaSb
import Derived.Test.YtamhigknobdloaaSm
import Derived.Test.YtamhigknobdloaaSl
import Derived.Test.YtamhigknobdloaaSw
import Derived.Test.YtamhigknobdloaaSn
namespace Go.Proofs.Ytamhigknobdloaa
open Go.RowKit
set_option linter.unusedVariables false

theorem pow_le62 (k : Nat) (h : k ≤ 62) : (2 : Int) ^ k ≤ 4611686018427387904 := by
  have h1 : (2 : Nat) ^ k ≤ 2 ^ 62 := Nat.pow_le_pow_right (by omega) h
  have h2 : (2 : Nat) ^ 62 = 4611686018427387904 := by decide
  have h3 : ((2 ^ k : Nat) : Int) = (2 : Int) ^ k := by push_cast; rfl
  omega
theorem wrap_pow62 (k : Nat) (h : k ≤ 62) : IntKind.i64.wrap ((2 : Int) ^ k) = (2 : Int) ^ k := by
  have h1 := pow_le62 k h
  have h2 : (0 : Int) ≤ 2 ^ k := Int.pow_nonneg (by omega)
  rw [IntKind.wrap_i64]; omega
set_option maxHeartbeats 800000 in
theorem tagsize_big (n : Int) (w : World) (h : 4611686018427387904 < n) (h1 : n ≤ 9223372036854775807) : Calls Try.prog 61 #[.int .i64 n] w fun e w' => e = .returned (.int .i64 63) ∧ w = w' := by
  go_enter Try.func61, Try.ntmps61
  go_wp2
  go_loop [3] (fun v3 => ∃ k : Nat, k ≤ 62 ∧ v3 = .int .i64 k) (fun v3 => 62 - (intOf v3).toNat)
  case atStart => exact ⟨0, by omega, rfl⟩
  case round =>
    obtain ⟨k, hk, rfl⟩ := hrel
    by_cases hlt : k < 62
    · have hw := wrap64_pow k hlt
      rw [pow62 k hlt] at hw
      have hp := pow_le62 k hk
      have hd : decide ((2 : Int) ^ k < n) = true := by simp; omega
      go_wp2
      go_round
      case rel => exact ⟨k + 1, by omega, by go_num⟩
      case measure => simp [intOf]; omega
    · obtain rfl : k = 62 := by omega
      go_wp2
      go_ret
      exact ⟨rfl, rfl⟩
theorem tagsize_any (n : Int) (w : World) (h0 : -9223372036854775808 ≤ n) (h1 : n ≤ 9223372036854775807) : Calls Try.prog 61 #[.int .i64 n] w fun e w' => e = .returned (.int .i64 (tagS n)) ∧ w = w' := by
  by_cases h : n ≤ 4611686018427387904
  · exact tagsize_small n w h h0
  · have e : tagS n = 63 := by unfold tagS; rw [if_pos (by omega)]
    rw [e]
    exact tagsize_big n w (by omega) h1
set_option maxHeartbeats 800000 in
theorem rtagsize_big (n : Int) (w : World) (h : 4611686018427387904 < n) (h1 : n ≤ 9223372036854775807) : Calls Try.prog 62 #[.int .i64 n] w fun e w' => e = .returned (.int .i64 63) ∧ w = w' := by
  go_enter Try.func62, Try.ntmps62
  go_wp2
  go_loop [3] (fun v3 => ∃ k : Nat, k ≤ 63 ∧ v3 = .int .i64 k) (fun v3 => 63 - (intOf v3).toNat)
  case atStart => exact ⟨0, by omega, rfl⟩
  case round =>
    obtain ⟨k, hk, rfl⟩ := hrel
    by_cases hlt : k < 63
    · have hp := pow_le62 k (by omega)
      have hwp := wrap_pow62 k (by omega)
      have hd : decide ((2 : Int) ^ k < n) = true := by simp; omega
      go_wp2
      go_round
      case rel => exact ⟨k + 1, by omega, by go_num⟩
      case measure => simp [intOf]; omega
    · obtain rfl : k = 63 := by omega
      go_wp2
      go_ret
      exact ⟨rfl, rfl⟩
set_option maxHeartbeats 800000 in
theorem rtagsize_small (n : Int) (w : World) (h : n ≤ 4611686018427387904) (h0 : -9223372036854775808 ≤ n) : Calls Try.prog 62 #[.int .i64 n] w fun e w' => e = .returned (.int .i64 (tagS n)) ∧ w = w' := by
  have ht : tagS n = tagGo n 62 0 := by unfold tagS; rw [if_neg (by omega)]
  have HT := Lib.hid ht
  clear ht
  go_enter Try.func62, Try.ntmps62
  go_wp2
  go_loop [3] (fun v3 => ∃ k : Nat, k ≤ 62 ∧ v3 = .int .i64 k ∧ Hid (tagGo n 62 0 = tagGo n (62 - k) k)) (fun v3 => 62 - (intOf v3).toNat)
  case atStart => exact ⟨0, by omega, rfl, (rfl : _ = _)⟩
  case round =>
    obtain ⟨k, hk, rfl, hg⟩ := hrel
    have hwp := wrap_pow62 k (by omega)
    by_cases hlt : k < 62
    · have hs : tagGo n (62 - k) k = if (2 : Int) ^ k < n then tagGo n (62 - (k + 1)) (k + 1) else k := by
        rw [show 62 - k = (62 - (k + 1)) + 1 by omega]
        rfl
      have HS := Lib.hid hs
      clear hs
      by_cases hc : (2 : Int) ^ k < n
      · have hd : decide ((2 : Int) ^ k < n) = true := by simpa using hc
        have HC := Lib.hid hc
        clear hc
        go_wp2
        go_round
        case rel => exact ⟨k + 1, by omega, by go_num, by show _ = _; rw [hg.out, HS.out, if_pos HC.out]⟩
        case measure => simp [intOf]; omega
      · have hd : decide ((2 : Int) ^ k < n) = false := by simpa using hc
        have HC := Lib.hid hc
        clear hc
        go_wp2
        go_ret
        exact ⟨by rw [HT.out, hg.out, HS.out, if_neg (Int.not_lt.2 HC.out)]; rfl, rfl⟩
    · obtain rfl : k = 62 := by omega
      have hd : decide ((2 : Int) ^ 62 < n) = false := by simp; omega
      go_wp2
      go_ret
      exact ⟨by rw [HT.out, hg.out]; rfl, rfl⟩
theorem rtagsize_any (n : Int) (w : World) (h0 : -9223372036854775808 ≤ n) (h1 : n ≤ 9223372036854775807) : Calls Try.prog 62 #[.int .i64 n] w fun e w' => e = .returned (.int .i64 (tagS n)) ∧ w = w' := by
  by_cases h : n ≤ 4611686018427387904
  · exact rtagsize_small n w h h0
  · have e : tagS n = 63 := by unfold tagS; rw [if_pos (by omega)]
    rw [e]
    exact rtagsize_big n w (by omega) h1
end Go.Proofs.Ytamhigknobdloaa
namespace Go.Proofs.Ytamhigknobdloaa
open Go.RowKit
set_option linter.unusedVariables false

theorem sizeP_none (ts : List Part) (h : ts.any (fun t => decide (0 < t.s)) = false) : sizeP ts = 0 := by
  unfold sizeP
  have key : ∀ (ts : List Part) (a : Int), 0 ≤ a → ts.any (fun t => decide (0 < t.s)) = false → ts.foldl (fun a t => max a t.s) a = a := by
    intro ts
    induction ts with
    | nil => intro a _ _; rfl
    | cons u r ih =>
      intro a ha h
      rw [List.any_cons, Bool.or_eq_false_iff] at h
      rw [List.foldl_cons]
      have h1 : ¬ 0 < u.s := by simpa using h.1
      have e : max a u.s = a := by omega
      rw [e]; exact ih a ha h.2
  exact key ts 0 (by omega) h
/-- A slice in a block below b0. -/
def SlB (w : World) (e : TypeId) (b0 : Nat) (A : Option Addr) (xs : List Value) : Prop :=
  xs = [] ∨ ∃ b off cs fz, b < b0 ∧ A = some ⟨b, off, none⟩ ∧ w.heap[b]? = some (.cells cs e fz) ∧ ∀ j (h : j < xs.length), cs[off + j]? = some xs[j]
theorem SlE.bound {w : World} {e : TypeId} {A : Option Addr} {xs : List Value} (h : SlE w e A xs) : SlB w e w.heap.size A xs := by
  rcases h with h | ⟨b, off, cs, fz, h1, h2, h3⟩
  · exact .inl h
  · exact .inr ⟨b, off, cs, fz, (Array.getElem?_eq_some_iff.1 h2).1, h1, h2, h3⟩
theorem SlB.sle {w : World} {e : TypeId} {b0 : Nat} {A : Option Addr} {xs : List Value} (h : SlB w e b0 A xs) : SlE w e A xs := by
  rcases h with h | ⟨b, off, cs, fz, _, h1, h2, h3⟩
  · exact .inl h
  · exact .inr ⟨b, off, cs, fz, h1, h2, h3⟩
theorem SlB.keep {w w' : World} {e : TypeId} {b0 : Nat} {A : Option Addr} {xs : List Value} (h : SlB w e b0 A xs) (hk : ∀ (b : Nat) (cs : Array Value) (fz : Nat × Nat), b < b0 → w.heap[b]? = some (Obj.cells cs e fz) → w'.heap[b]? = w.heap[b]?) : SlB w' e b0 A xs := by
  rcases h with h | ⟨b, off, cs, fz, h0, h1, h2, h3⟩
  · exact .inl h
  · exact .inr ⟨b, off, cs, fz, h0, h1, (hk b cs fz h0 h2).trans h2, h3⟩
/-- What is left of the rows while the tags are laid. -/
structure FinL (w0 : World) (O R : Nat) (Ac : Option Addr) (qs : List CaseV) (oc rc : Array Value) (b0 : Nat) (w : World) : Prop where
  cases : SlE w 73 Ac (qs.flatMap CaseV.cells)
  clb : ∀ q ∈ qs, SlB w 3 b0 q.A (q.ofs.map iv)
  box : Blk w O 31 oc
  rb : Blk w R 31 rc
  below : Below w0.heap.size w0 w
  hO : w0.heap.size ≤ O
  hR : w0.heap.size ≤ R
  ne : O ≠ R
  b0w : w0.heap.size ≤ b0
  bw : b0 ≤ w.heap.size
section
variable {w0 w w' : World} {O R : Nat} {Ac : Option Addr} {qs : List CaseV} {oc rc : Array Value} {b0 : Nat}
theorem FinL.of (h : FinAt w0 O R Ac qs oc rc w) : FinL w0 O R Ac qs oc rc w.heap.size w := ⟨h.cases, fun q hq => (h.cl q hq).bound, h.box, h.rb, h.below, h.hO, h.hR, h.ne, h.below.size, Nat.le_refl _⟩
theorem FinL.fin (h : FinL w0 O R Ac qs oc rc b0 w) : FinAt w0 O R Ac qs oc rc w := ⟨h.cases, fun q hq => (h.clb q hq).sle, h.box, h.rb, h.below, h.hO, h.hR, h.ne⟩
theorem FinL.own3 (h : FinL w0 O R Ac qs oc rc b0 w) {base size n : Nat} {v : Value} {ys : List Value} (ho : w.ownsRow base 3 size v n ys) (hg : w.grownBy w' v.ownBlock) (hb : b0 ≤ base) : FinL w0 O R Ac qs oc rc b0 w' := by
  have hB : ∀ g t cs, Blk w g t cs → t ≠ 3 → Blk w' g t cs := by
    intro g t cs hB hne
    refine hB.grown hg fun e => ?_
    rcases own_blk_ne ho hB (fun e => hne e.symm) with h1 | h1
    · rw [h1] at e; cases e
    · exact h1 e
  refine ⟨h.cases.own_grown ho hg (by decide), fun q hq => (h.clb q hq).keep fun b cs fz hb1 hh => hg.block b (Array.getElem?_eq_some_iff.1 hh).1 (fun e => ?_), hB _ _ _ h.box (by decide), hB _ _ _ h.rb (by decide), h.below.grown hg h.below.size (fun k hk => by have := (ho.lt k hk).1; have := h.b0w; omega), h.hO, h.hR, h.ne, h.b0w, Nat.le_trans h.bw hg.size⟩
  have := (ho.lt b e.symm).1
  omega
theorem FinL.setO (h : FinL w0 O R Ac qs oc rc b0 w) (i : Nat) (u : Value) : FinL w0 O R Ac qs (oc.setIfInBounds i u) rc b0 (w.setCell ⟨O, i, none⟩ u) := by
  have hg := grown_set w O i u
  refine ⟨h.cases.grown hg h.box (by decide), fun q hq => (h.clb q hq).keep fun b cs fz hb1 hh => hg.block b (Array.getElem?_eq_some_iff.1 hh).1 (fun e => ?_), h.box.set_ i u, h.rb.far (p := ⟨O, i, none⟩) (fun e => h.ne e.symm) u, h.below.grown hg h.below.size (fun q hq => by injection hq with hq; have := h.hO; omega), h.hO, h.hR, h.ne, h.b0w, Nat.le_trans h.bw hg.size⟩
  injection e with e
  subst e
  have h1 := h.box
  unfold Blk at h1
  rw [hh] at h1
  injection h1 with h1
  injection h1 with _ h2
  cases h2
end
/-- What holds while the tag bits of the new byte are cleared: in stages. -/
inductive TagSt (w0 : World) (O R : Nat) (Ac : Option Addr) (qs : List CaseV) (bc : Value → Array Value) (rc : Array Value) (vM : Value) (n : Nat) (M : List UInt8) (Az : Option Addr) (ks : List Nat) (D : Nat → Bool) (x : Nat → Value) (w : World) : Prop
  | s0 (d1 : D 1 = false) (d2 : D 2 = false) (d5 : D 5 = false) (d7 : D 7 = false) (F : FinAt w0 O R Ac qs (bc (.slice none 0 0)) rc w) (tz : SlE w 3 Az (ks.map natv)) (own : w.ownsRow w0.heap.size 5 1 vM n (M.map bv))
  | s1 (d1 : D 1 = true) (d2 : D 2 = false) (d5 : D 5 = false) (d7 : D 7 = false) (F : FinAt w0 O R Ac qs (bc (.slice none 0 0)) rc w) (tz : SlE w 3 Az (ks.map natv)) (own : w.ownsRow w0.heap.size 5 1 vM n (M.map bv)) (g : Nat) (hx : x 1 = .slice (some ⟨g, 0, none⟩) 1 1) (hB : Blk w g 5 #[.int .u8 255])
  | s2 (d1 : D 1 = true) (d2 : D 2 = true) (d5 : D 5 = false) (d7 : D 7 = false) (F : FinAt w0 O R Ac qs (bc (.slice none 0 0)) rc w) (tz : SlE w 3 Az (ks.map natv)) (A5 : Option Addr) (c5 : Nat) (hx : x 2 = .slice A5 (n + 1) c5) (hs : SlE w 5 A5 ((M ++ [255]).map bv))
  | s5 (d1 : D 1 = true) (d2 : D 2 = true) (d5 : D 5 = true) (d7 : D 7 = false) (F : FinAt w0 O R Ac qs (bc (.slice none 0 0)) rc w) (tz : SlE w 3 Az (ks.map natv)) (A6 : Option Addr) (c6 : Nat) (hx : x 5 = .slice A6 (n + 1) c6) (hs : SlE w 5 A6 ((clearB (M ++ [255]) (intsN ks)).map bv)) (hc : n + 1 ≤ c6)
  | s7 (d1 : D 1 = true) (d2 : D 2 = true) (d5 : D 5 = true) (d7 : D 7 = true) (A6 : Option Addr) (c6 : Nat) (F : FinAt w0 O R Ac qs (bc (.slice A6 (n + 1) c6)) rc w) (tz : SlE w 3 Az (ks.map natv)) (hs : SlE w 5 A6 ((clearB (M ++ [255]) (intsN ks)).map bv)) (hc : n + 1 ≤ c6)
section
variable {w0 w w' : World} {O R : Nat} {Ac : Option Addr} {qs : List CaseV} {bc : Value → Array Value} {rc : Array Value} {vM : Value} {n : Nat} {M : List UInt8} {Az : Option Addr} {ks : List Nat} {D : Nat → Bool} {x : Nat → Value}
theorem TagSt.ins (h : TagSt w0 O R Ac qs bc rc vM n M Az ks D x w) (i : Nat) (u : Value) (h1 : i ≠ 1) (h2 : i ≠ 2) (h5 : i ≠ 5) (h7 : i ≠ 7) : TagSt w0 O R Ac qs bc rc vM n M Az ks (fun j => if j = i then true else D j) (fun j => if j = i then u else x j) w := by
  have e1 : ∀ {α : Type} (p q : α), (if 1 = i then p else q) = q := fun p q => if_neg (fun e => h1 e.symm)
  have e2 : ∀ {α : Type} (p q : α), (if 2 = i then p else q) = q := fun p q => if_neg (fun e => h2 e.symm)
  have e5 : ∀ {α : Type} (p q : α), (if 5 = i then p else q) = q := fun p q => if_neg (fun e => h5 e.symm)
  have e7 : ∀ {α : Type} (p q : α), (if 7 = i then p else q) = q := fun p q => if_neg (fun e => h7 e.symm)
  cases h with
  | s0 d1 d2 d5 d7 F tz own => exact .s0 ((e1 _ _).trans d1) ((e2 _ _).trans d2) ((e5 _ _).trans d5) ((e7 _ _).trans d7) F tz own
  | s1 d1 d2 d5 d7 F tz own g hx hB => exact .s1 ((e1 _ _).trans d1) ((e2 _ _).trans d2) ((e5 _ _).trans d5) ((e7 _ _).trans d7) F tz own g ((e1 _ _).trans hx) hB
  | s2 d1 d2 d5 d7 F tz A5 c5 hx hs => exact .s2 ((e1 _ _).trans d1) ((e2 _ _).trans d2) ((e5 _ _).trans d5) ((e7 _ _).trans d7) F tz A5 c5 ((e2 _ _).trans hx) hs
  | s5 d1 d2 d5 d7 F tz A6 c6 hx hs hc => exact .s5 ((e1 _ _).trans d1) ((e2 _ _).trans d2) ((e5 _ _).trans d5) ((e7 _ _).trans d7) F tz A6 c6 ((e5 _ _).trans hx) hs hc
  | s7 d1 d2 d5 d7 A6 c6 F tz hs hc => exact .s7 ((e1 _ _).trans d1) ((e2 _ _).trans d2) ((e5 _ _).trans d5) ((e7 _ _).trans d7) A6 c6 F tz hs hc
theorem TagSt.op1 (h : TagSt w0 O R Ac qs bc rc vM n M Az ks D x w) (hD : D 1 = false) : TagSt w0 O R Ac qs bc rc vM n M Az ks (fun j => if j = 1 then true else D j) (fun j => if j = 1 then .slice (some ⟨w.heap.size, 0, none⟩) 1 1 else x j) (w.alloc (.cells #[.int .u8 255] 5)) := by
  cases h with
  | s0 d1 d2 d5 d7 F tz own =>
    have hb : Below w.heap.size w (w.alloc (.cells #[.int .u8 255] 5)) := (Below.refl _ _).alloc (Nat.le_refl _) _
    exact .s1 rfl d2 d5 d7 (F.under hb) (tz.below hb) (below_own own hb) _ rfl (Blk.new _ _ _)
  | s1 d1 | s2 d1 | s5 d1 | s7 d1 => rw [hD] at d1; cases d1
theorem TagSt.op2 (h : TagSt w0 O R Ac qs bc rc vM n M Az ks D x w) (hD : D 2 = false) (h1 : D 1 = true) (hn : n ≤ 100000) {o : Oper} {a : Act} {K : Act → World → Prop} {Q : Exit → Act → World → Prop} (t y : Operand)
    (ho : o.op = .call { callee := .builtin .append, args := #[t, y], argTypes := #[27, 27] }) (hs : a.eval t = vM) (hy : a.eval y = x 1)
    (hk : ∀ v w', TagSt w0 O R Ac qs bc rc vM n M Az ks (fun j => if j = 2 then true else D j) (fun j => if j = 2 then v else x j) w' → K (a.put o.dst v) w') : o.wp Try.prog a w K Q := by
  cases h with
  | s1 d1 d2 d5 d7 F tz own g hx hB =>
    refine wp_append_sl t y 27 ho w0.heap.size 5 _ 1 1 Try.underlying27 el5 vM n _ hs own (some ⟨g, 0, none⟩) 1 1 [.int .u8 255] (hy.trans hx) (Sl.ofBlk hB) rfl (by intro u hu; rw [List.mem_singleton.1 hu]; rfl) (by simp only [maxLen]; omega) (by omega) F.below.size ?_
    intro A' c' w' hown hg _
    have e : M.map bv ++ [Value.int .u8 255] = (M ++ [255]).map bv := by simp [bv]
    rw [e] at hown
    exact hk _ _ (.s2 d1 rfl d5 d7 (F.own5 own hg (Nat.le_refl _)) (tz.own_grown own hg (by decide)) A' c' rfl (SlE.of_own hown))
  | s0 d1 => rw [h1] at d1; cases d1
  | s2 _ d2 | s5 _ d2 | s7 _ d2 => rw [hD] at d2; cases d2
theorem TagSt.op5 (h : TagSt w0 O R Ac qs bc rc vM n M Az ks D x w) (hD : D 5 = false) (h2 : D 2 = true) :
    ∃ A5 c5, x 2 = .slice A5 (n + 1) c5 ∧ SlE w 5 A5 ((M ++ [255]).map bv) ∧ SlE w 3 Az (ks.map natv) ∧ ∀ w' A6 c6, Below w.heap.size w w' → SlE w' 5 A6 ((clearB (M ++ [255]) (intsN ks)).map bv) → n + 1 ≤ c6 → TagSt w0 O R Ac qs bc rc vM n M Az ks (fun j => if j = 5 then true else D j) (fun j => if j = 5 then .slice A6 (n + 1) c6 else x j) w' := by
  cases h with
  | s2 d1 d2 d5 d7 F tz A5 c5 hx hs => exact ⟨A5, c5, hx, hs, tz, fun w' A6 c6 hb h6 hc => .s5 d1 d2 rfl d7 (F.under hb) (tz.below hb) A6 c6 rfl h6 hc⟩
  | s0 _ d2 | s1 _ d2 => rw [h2] at d2; cases d2
  | s5 _ _ d5 | s7 _ _ d5 => rw [hD] at d5; cases d5
theorem TagSt.box (h : TagSt w0 O R Ac qs bc rc vM n M Az ks D x w) (hD : D 7 = false) : Blk w O 31 (bc (.slice none 0 0)) := by
  cases h with
  | s0 _ _ _ _ F => exact F.box
  | s1 _ _ _ _ F => exact F.box
  | s2 _ _ _ _ F => exact F.box
  | s5 _ _ _ _ F => exact F.box
  | s7 _ _ _ d7 => rw [hD] at d7; cases d7
theorem TagSt.op7 (h : TagSt w0 O R Ac qs bc rc vM n M Az ks D x w) (hD : D 7 = false) (h5 : D 5 = true) (hi : ∀ v u, (bc v).setIfInBounds 2 u = bc u) (z : Value) :
    ∃ A6 c6, x 5 = .slice A6 (n + 1) c6 ∧ Blk w O 31 (bc (.slice none 0 0)) ∧ TagSt w0 O R Ac qs bc rc vM n M Az ks (fun j => if j = 7 then true else D j) (fun j => if j = 7 then z else x j) (w.setCell ⟨O, 2, none⟩ (.slice A6 (n + 1) c6)) := by
  cases h with
  | s5 d1 d2 d5 d7 F tz A6 c6 hx hs hc =>
    have hg := grown_set w O 2 (.slice A6 (n + 1) c6)
    refine ⟨A6, c6, hx, F.box, .s7 d1 d2 d5 rfl A6 c6 ?_ (tz.grown hg F.box (by decide)) (hs.grown hg F.box (by decide)) hc⟩
    have := F.setO 2 (.slice A6 (n + 1) c6)
    rwa [hi] at this
  | s0 _ _ d5 | s1 _ _ d5 | s2 _ _ d5 => rw [h5] at d5; cases d5
  | s7 _ _ _ d7 => rw [hD] at d7; cases d7
theorem TagSt.done (h : TagSt w0 O R Ac qs bc rc vM n M Az ks D x w) (hD : D 7 = true) : ∃ A6 c6, FinAt w0 O R Ac qs (bc (.slice A6 (n + 1) c6)) rc w ∧ SlE w 3 Az (ks.map natv) ∧ SlE w 5 A6 ((clearB (M ++ [255]) (intsN ks)).map bv) ∧ n + 1 ≤ c6 := by
  cases h with
  | s7 _ _ _ _ A6 c6 F tz hs hc => exact ⟨A6, c6, F, tz, hs, hc⟩
  | s0 _ _ _ d7 | s1 _ _ _ d7 | s2 _ _ _ d7 | s5 _ _ _ d7 => rw [hD] at d7; cases d7
end
end Go.Proofs.Ytamhigknobdloaa
namespace Go.Proofs.Ytamhigknobdloaa
open Go.RowKit
set_option linter.unusedVariables false

set_option maxHeartbeats 1600000 in
set_option maxRecDepth 100000 in
theorem rsum_len (A : Option Addr) (n c : Nat) (An : Option Addr) (nn cn : Nat) (Ai : Option Addr) (nb cb : Nat) (w : World) (hlen : n ≤ 1000) (hnn : nn ≤ 1000) (hnb : nb ≤ 1000) (hbad : nn ≠ n ∨ nb ≠ n) :
    Calls Try.prog 58 #[.slice A n c, .slice An nn cn, .slice Ai nb cb] w fun e w' => e = .returned (.tuple #[zero31, .int .i64 19]) ∧ Below w.heap.size w w' := by
  have hb0 := (Below.refl w.heap.size w).alloc (Nat.le_refl _) (.cells #[.int .i64 0, .int .i64 0, .slice none 0 0, .slice none 0 0, .slice none 0 0, .slice none 0 0, .slice none 0 0, .bool false] 31)
  have hblk := Blk.new w 31 #[.int .i64 0, .int .i64 0, .slice none 0 0, .slice none 0 0, .slice none 0 0, .slice none 0 0, .slice none 0 0, .bool false]
  have HB8 := Lib.hid hblk
  have HL8 := Lib.hid hb0
  clear hblk hb0
  by_cases h1 : nn = n
  · subst h1
    have hd0 : ((nn : Int) != (nn : Int)) = false := by simp
    have hd : ((nb : Int) != (nn : Int)) = true := by simp; omega
    clear hbad
    go_enter Try.func58, Try.ntmps58
    go_wp2
    refine bodyPost_gen HB8.out HL8.out ?_
    clear HB8 HL8
    intro W hblk hbel
    obtain ⟨⟨c0, c1, c2, c3, c4, c5, c6, c7⟩, _⟩ := hblk.eight
    clear hblk
    exact bodyPost_ret (v := .tuple #[zero31, .int .i64 19]) (by simp [results, Try.results58, go_sem, c0, c1, c2, c3, c4, c5, c6, c7, zero31]) rfl ⟨rfl, hbel⟩
  · have hd : ((nn : Int) != (n : Int)) = true := by simp; omega
    clear hbad
    go_enter Try.func58, Try.ntmps58
    go_wp2
    refine bodyPost_gen HB8.out HL8.out ?_
    clear HB8 HL8
    intro W hblk hbel
    obtain ⟨⟨c0, c1, c2, c3, c4, c5, c6, c7⟩, _⟩ := hblk.eight
    clear hblk
    exact bodyPost_ret (v := .tuple #[zero31, .int .i64 19]) (by simp [results, Try.results58, go_sem, c0, c1, c2, c3, c4, c5, c6, c7, zero31]) rfl ⟨rfl, hbel⟩

set_option maxHeartbeats 6400000 in
set_option maxRecDepth 100000 in
theorem rsum_any (A : Option Addr) (n c : Nat) (ps : List Part) (An : Option Addr) (cn : Nat) (nms : List ByteArray) (Ai : Option Addr) (cb : Nat) (bs : List Bool) (fs : List (List Int)) (w : World) (hn : ps.length = n) (hnn : nms.length = n) (hbn : bs.length = n) (hfn : fs.length = n)
    (hs : Parts w A ps) (hsn : Sl w An (nms.map Value.string)) (hsb : Sl w Ai (bs.map Value.bool)) (hlen : n ≤ 1000) (hsp : ∀ p ∈ ps, Sl w p.A (p.sp.map bv)) (hone : ∀ p ∈ ps, p.one)
    (hof : ∀ (i : Nat) (h1 : i < ps.length) (h2 : i < fs.length), ∃ Ao co, ps[i].x3 = .slice Ao fs[i].length co ∧ Sl w Ao (fs[i].map iv) ∧ fs[i].length ≤ 1000000) :
    Calls Try.prog 58 #[.slice A n c, .slice An n cn, .slice Ai n cb] w fun e w' => (ps.any (fun p => !p.valid) = true ∧ e = .returned (.tuple #[zero31, .int .i64 19]) ∧ Below w.heap.size w w') ∨ (ps.any (fun p => !p.valid) = false ∧ 12 < n ∧ e = .returned (.tuple #[zero31, .int .i64 4]) ∧ Below w.heap.size w w') ∨ (ps.any (fun p => !p.valid) = false ∧ n ≤ 12 ∧ SumPost ps nms bs fs w e w') := by
  have hb0 := (Below.refl w.heap.size w).alloc (Nat.le_refl _) (.cells #[.int .i64 0, .int .i64 0, .slice none 0 0, .slice none 0 0, .slice none 0 0, .slice none 0 0, .slice none 0 0, .bool false] 31)
  have hres := Blk.new w 31 #[.int .i64 0, .int .i64 0, .slice none 0 0, .slice none 0 0, .slice none 0 0, .slice none 0 0, .slice none 0 0, .bool false]
  have HN := Lib.hid hn
  have HNN := Lib.hid hnn
  have HBN := Lib.hid hbn
  have HFN := Lib.hid hfn
  have HS := Lib.hid hs
  have HSN := Lib.hid hsn
  have HSB := Lib.hid hsb
  have HSP := Lib.hid hsp
  have HONE := Lib.hid hone
  have HOF := Lib.hid hof
  clear hn hnn hbn hfn hs hsn hsb hsp hone hof
  have hdn : ((n : Int) != (n : Int)) = false := by simp
  go_enter Try.func58, Try.ntmps58
  go_wp2_with fail
  clear hdn
  go_loopw [38] (fun v38 wr => ∃ k : Nat, k ≤ n ∧ v38 = .int .i64 k ∧ Hid (∀ p ∈ ps.take k, p.valid = true) ∧ Below w.heap.size w wr ∧ Blk wr w.heap.size 31 #[.int .i64 0, .int .i64 0, .slice none 0 0, .slice none 0 0, .slice none 0 0, .slice none 0 0, .slice none 0 0, .bool false]) (fun v38 _ => n - (intOf v38).toNat)
  case atStart => exact ⟨0, by omega, rfl, (by intro p hp; simp at hp : Hid _), hb0, hres⟩
  case round =>
    obtain ⟨k, hk, rfl, hv, hb, hR⟩ := hrel
    clear hb0 hres
    by_cases hlt : k < n
    · have hkp : k < ps.length := by rw [HN.out]; exact hlt
      obtain ⟨gb, off, rfl, c0, c1, c2, c3, c4, c5, c6, c7⟩ := (HS.out.below hb).get hkp
      have hpo := HONE.out ps[k] (List.getElem_mem hkp)
      have htk : ps.take (k + 1) = ps.take k ++ [ps[k]] := List.take_succ_eq_append_getElem hkp
      have hany : ps[k].valid = false → ps.any (fun p => !p.valid) = true := fun h => List.any_eq_true.2 ⟨ps[k], List.getElem_mem hkp, by rw [h]; rfl⟩
      have HTK := Lib.hid htk
      clear htk
      generalize ps[k] = p at *
      have sx3 := store_var (P := Try.prog) hpo.h3
      have sx4 := store_var (P := Try.prog) hpo.h4
      have sx5 := store_var (P := Try.prog) hpo.h5
      have sx6 := store_var (P := Try.prog) hpo.h6
      have sx7 := store_var (P := Try.prog) hpo.h7
      have hbn := (Below.refl wr.heap.size wr).alloc (Nat.le_refl _) (.cells #[.int .i64 p.s, .int .i64 p.al, .slice p.A p.sp.length p.c, p.x3, p.x4, p.x5, p.x6, p.x7] 31)
      have HR := Lib.hid (hR.below hbn)
      have HBB := Lib.hid (below_next hb hbn)
      have HANY := Lib.hid hany
      clear hR hb hbn hany
      go_wp2_with fail
      refine (rvalid_any _ _ _ _ _ _ _ _ _ _ _).mono ?_
      rintro e w1 ⟨rfl, hb1⟩
      have hpv : validB p.s p.al p.sp.length = p.valid := rfl
      rw [hpv]
      cases hval : p.valid with
      | true =>
        have HV2 : Hid (∀ q ∈ ps.take (k + 1), q.valid = true) := by
          intro q hq
          rw [HTK.out] at hq
          rcases List.mem_append.1 hq with h | h
          · exact hv.out q h
          · rw [List.mem_singleton.1 h]; exact hval
        have HB1 := Lib.hid (below_next HBB.out hb1)
        have HR1 := Lib.hid (HR.out.below hb1)
        clear hb1 hval hpv
        go_wp2_with fail
        go_roundw
        case rel => exact ⟨k + 1, by omega, by go_num, HV2, HB1.out, HR1.out⟩
        case measure => simp [intOf]; omega
      | false =>
        have hA := HANY.out hval
        have HA := Lib.hid hA
        have hblk := HR.out.below hb1
        have hbb := below_next HBB.out hb1
        obtain ⟨⟨r0, r1, r2, r3, r4, r5, r6, r7⟩, hf⟩ := hblk.eight
        have HB8 := Lib.hid (hblk.set8 (.int .i64 0) (.int .i64 0) (.slice none 0 0) (.slice none 0 0) (.slice none 0 0) (.slice none 0 0) (.slice none 0 0) (.bool false))
        have HL8 := Lib.hid (below8 hbb (Nat.le_refl _) (.int .i64 0) (.int .i64 0) (.slice none 0 0) (.slice none 0 0) (.slice none 0 0) (.slice none 0 0) (.slice none 0 0) (.bool false))
        clear hblk hbb hb1 hval hpv hA
        go_wp2
        refine bodyPost_gen HB8.out HL8.out ?_
        clear HB8 HL8 r0 r1 r2 r3 r4 r5 r6 r7 hf
        intro W hblk hbel
        obtain ⟨⟨c0, c1, c2, c3, c4, c5, c6, c7⟩, _⟩ := hblk.eight
        clear hblk
        exact bodyPost_ret (v := .tuple #[zero31, .int .i64 19]) (by simp [results, Try.results58, go_sem, c0, c1, c2, c3, c4, c5, c6, c7, zero31]) rfl (.inl ⟨HA.out, rfl, hbel⟩)
    · obtain rfl : k = n := by omega
      have hval : ∀ p ∈ ps, p.valid = true := by
        have h := hv.out
        rwa [List.take_of_length_le (by rw [HN.out]; exact Nat.le_refl _)] at h
      have hany : ps.any (fun p => !p.valid) = false := by
        rw [Bool.eq_false_iff]
        intro h
        obtain ⟨p, hp, h2⟩ := List.any_eq_true.1 h
        rw [hval p hp] at h2; cases h2
      have HVAL := Lib.hid hval
      have HANY := Lib.hid hany
      clear hv hval hany
      obtain ⟨W1, hW1⟩ : ∃ W1, W1 = wr := ⟨_, rfl⟩
      rw [← hW1] at hb hR ⊢
      clear hW1
      by_cases h12 : 12 < k
      · have h12' : (12 : Int) < k := by omega
        obtain ⟨⟨r0, r1, r2, r3, r4, r5, r6, r7⟩, hf⟩ := hR.eight
        have HB8 := Lib.hid (hR.set8 (.int .i64 0) (.int .i64 0) (.slice none 0 0) (.slice none 0 0) (.slice none 0 0) (.slice none 0 0) (.slice none 0 0) (.bool false))
        have HL8 := Lib.hid (below8 hb (Nat.le_refl _) (.int .i64 0) (.int .i64 0) (.slice none 0 0) (.slice none 0 0) (.slice none 0 0) (.slice none 0 0) (.slice none 0 0) (.bool false))
        clear hb hR
        go_wp2
        refine bodyPost_gen HB8.out HL8.out ?_
        clear HB8 HL8 r0 r1 r2 r3 r4 r5 r6 r7 hf
        intro W hblk hbel
        obtain ⟨⟨c0, c1, c2, c3, c4, c5, c6, c7⟩, _⟩ := hblk.eight
        clear hblk
        exact bodyPost_ret (v := .tuple #[zero31, .int .i64 4]) (by simp [results, Try.results58, go_sem, c0, c1, c2, c3, c4, c5, c6, c7, zero31]) rfl (.inr (.inl ⟨HANY.out, h12, rfl, hbel⟩))
      · have h12' : ¬ (12 : Int) < k := by omega
        have hres2 := hR.alloc (.cells #[.int .i64 0, .int .i64 1, .slice none 0 0, .slice none 0 0, .slice none 0 0, .slice none 0 0, .slice none 0 0, .bool false] 31)
        have hout := Blk.new W1 31 #[.int .i64 0, .int .i64 1, .slice none 0 0, .slice none 0 0, .slice none 0 0, .slice none 0 0, .slice none 0 0, .bool false]
        have hszW1 : w.heap.size < W1.heap.size := hR.lt
        have hst : SumAt w (W1.heap.size + 1) (.slice none ([] : List CaseV).length 0) [] (.slice none ([] : List Part).length 0) [] (W1.alloc (.cells #[.int .i64 0, .int .i64 1, .slice none 0 0, .slice none 0 0, .slice none 0 0, .slice none 0 0, .slice none 0 0, .bool false] 31)) :=
          ⟨World.ownsRow_nil _ _ _ _, World.ownsRow_nil _ _ _ _, hb.alloc (by omega) _, by simp, by simp, by simp, by omega, by simp⟩
        have HRES := Lib.hid hres2
        have HOUT := Lib.hid hout
        have HST := Lib.hid hst
        clear hR hb hres2 hout hst
        go_wp2_with fail
        clear h12'
        obtain ⟨n, hnk⟩ : ∃ n, n = k := ⟨_, rfl⟩
        subst hnk
        go_loopw [11, 12, 54] (fun v11 v12 v54 wr => ∃ (k : Nat) (At : Option Addr) (ct : Nat) (Ac : Option Addr) (cc : Nat) (qs : List CaseV) (ts : List Part), k ≤ n ∧ v54 = .int .i64 k ∧ Hid (qs.length = k) ∧ Hid (ts.length = k) ∧ v11 = .int .i64 (sizeP ts) ∧ v12 = .slice At k ct ∧ SumAt w (W1.heap.size + 1) (.slice Ac qs.length cc) qs (.slice At ts.length ct) ts wr ∧
            Blk wr W1.heap.size 31 #[.int .i64 0, .int .i64 (alP ts), .slice none 0 0, .slice none 0 0, .slice none 0 0, .slice Ac k cc, .slice none 0 0, .bool false] ∧ Blk wr w.heap.size 31 #[.int .i64 0, .int .i64 0, .slice none 0 0, .slice none 0 0, .slice none 0 0, .slice none 0 0, .slice none 0 0, .bool false] ∧
            Hid (ts.map Part.key = ((inside ps bs).take k).map Part.key) ∧ Hid (∀ (i : Nat) (h : i < qs.length) (h1 : i < nms.length) (h2 : i < bs.length) (h3 : i < fs.length) (h4 : i < ps.length), caseOf nms[i] bs[i] fs[i] ps[i].s qs[i])) (fun _ _ v54 _ => n - (intOf v54).toNat)
        case atStart =>
          exact ⟨0, none, 0, none, 0, [], [], by omega, rfl, (rfl : _ = _), (rfl : _ = _), rfl, rfl, HST.out, HOUT.out, HRES.out, (rfl : _ = _), (by intro i h; simp at h : Hid _)⟩
        case round =>
          obtain ⟨k, At, ct, Ac, cc, qs, ts, hk, rfl, hql, htl, rfl, rfl, H, hO, hR, hkey, hcase⟩ := hrel
          clear HRES HOUT HST
          by_cases hlt : k < n
          · have hkp : k < ps.length := by rw [HN.out]; exact hlt
            have hkn : k < nms.length := by rw [HNN.out]; exact hlt
            have hkb : k < bs.length := by rw [HBN.out]; exact hlt
            have hkf : k < fs.length := by rw [HFN.out]; exact hlt
            obtain ⟨gb, off, rfl, c0, c1, c2, c3, c4, c5, c6, c7⟩ := (HS.out.below H.below).get hkp
            obtain ⟨gn, offn, rfl, cn0⟩ := Sl.at_ HSN.out (k := k) (by simpa using hkn)
            obtain ⟨gi, offi, rfl, ci0⟩ := Sl.at_ HSB.out (k := k) (by simpa using hkb)
            rw [List.getElem_map] at cn0 ci0
            obtain ⟨Ao, co, ex3, hofs, hofl⟩ := HOF.out k hkp hkf
            have hpo := HONE.out ps[k] (List.getElem_mem hkp)
            have hpv := HVAL.out ps[k] (List.getElem_mem hkp)
            have hpsp := HSP.out ps[k] (List.getElem_mem hkp)
            have hin := inside_get ps bs k hkp hkb
            generalize hpk : ps[k] = p at *
            generalize hnk : nms[k] = nm at *
            generalize hbk : bs[k] = b at *
            generalize hfk : fs[k] = f at *
            rw [ex3] at c3
            have sx4 := store_var (P := Try.prog) hpo.h4
            have sx5 := store_var (P := Try.prog) hpo.h5
            have sx6 := store_var (P := Try.prog) hpo.h6
            have sx7 := store_var (P := Try.prog) hpo.h7
            have hOlt := hO.lt
            have hPb := Blk.new wr 31 #[.int .i64 p.s, .int .i64 p.al, .slice p.A p.sp.length p.c, .slice Ao f.length co, p.x4, p.x5, p.x6, p.x7]
            have H1 := H.alloc (.cells #[.int .i64 p.s, .int .i64 p.al, .slice p.A p.sp.length p.c, .slice Ao f.length co, p.x4, p.x5, p.x6, p.x7] 31)
            have hO1 := hO.alloc (.cells #[.int .i64 p.s, .int .i64 p.al, .slice p.A p.sp.length p.c, .slice Ao f.length co, p.x4, p.x5, p.x6, p.x7] 31)
            have hR1 := hR.alloc (.cells #[.int .i64 p.s, .int .i64 p.al, .slice p.A p.sp.length p.c, .slice Ao f.length co, p.x4, p.x5, p.x6, p.x7] 31)
            have hTP : (Value.slice At ts.length ct).ownBlock ≠ some wr.heap.size := fun e => by have := (H.ownT.lt _ e).2; omega
            obtain ⟨w9, hw9⟩ : ∃ w9, w9 = wr.alloc (.cells #[.int .i64 p.s, .int .i64 p.al, .slice p.A p.sp.length p.c, .slice Ao f.length co, p.x4, p.x5, p.x6, p.x7] 31) := ⟨_, rfl⟩
            rw [← hw9] at H1 hO1 hR1 hPb
            have hsz9 : w9.heap.size = wr.heap.size + 1 := by rw [hw9]; simp
            obtain ⟨gP, hgP⟩ : ∃ gP, gP = wr.heap.size := ⟨_, rfl⟩
            rw [← hgP] at hPb hTP
            have hci : w9.cell? ⟨gi, offi + k, none⟩ = some (.bool b) := cell_in ci0 H1.below
            have hXb := Blk.new w9 31 #[.int .i64 p.s, .int .i64 p.al, .slice p.A p.sp.length p.c, .slice Ao f.length co, p.x4, p.x5, p.x6, p.x7]
            have H2 := H1.alloc (.cells #[.int .i64 p.s, .int .i64 p.al, .slice p.A p.sp.length p.c, .slice Ao f.length co, p.x4, p.x5, p.x6, p.x7] 31)
            have hO2 := hO1.alloc (.cells #[.int .i64 p.s, .int .i64 p.al, .slice p.A p.sp.length p.c, .slice Ao f.length co, p.x4, p.x5, p.x6, p.x7] 31)
            have hR2 := hR1.alloc (.cells #[.int .i64 p.s, .int .i64 p.al, .slice p.A p.sp.length p.c, .slice Ao f.length co, p.x4, p.x5, p.x6, p.x7] 31)
            have hP2 := hPb.alloc (.cells #[.int .i64 p.s, .int .i64 p.al, .slice p.A p.sp.length p.c, .slice Ao f.length co, p.x4, p.x5, p.x6, p.x7] 31)
            have hTX : (Value.slice At ts.length ct).ownBlock ≠ some w9.heap.size := fun e => by have := (H1.ownT.lt _ e).2; omega
            obtain ⟨w8, hw8⟩ : ∃ w8, w8 = w9.alloc (.cells #[.int .i64 p.s, .int .i64 p.al, .slice p.A p.sp.length p.c, .slice Ao f.length co, p.x4, p.x5, p.x6, p.x7] 31) := ⟨_, rfl⟩
            rw [← hw8] at H2 hO2 hR2 hP2 hXb
            obtain ⟨gX, hgX⟩ : ∃ gX, gX = w9.heap.size := ⟨_, rfl⟩
            rw [← hgX] at hXb hTX
            have hgPX : gP < gX := by omega
            have hgOP : W1.heap.size < gP := by omega
            have HHP := Lib.hid hgP
            have HHX := Lib.hid hgX
            have HW9 := Lib.hid hw9
            have HW8 := Lib.hid hw8
            have HH2 := Lib.hid H2
            have HO2 := Lib.hid hO2
            have HR2 := Lib.hid hR2
            have HP2 := Lib.hid hP2
            have HXB := Lib.hid hXb
            have HTP := Lib.hid hTP
            have HTX := Lib.hid hTX
            have HTO : Hid ((Value.slice At ts.length ct).ownBlock ≠ some W1.heap.size) := fun e => by have := (H.ownT.lt _ e).1; omega
            have HTR : Hid ((Value.slice At ts.length ct).ownBlock ≠ some w.heap.size) := fun e => by have := (H.ownT.lt _ e).1; omega
            have HOFS := Lib.hid hofs
            have CN0 := Lib.hid cn0
            have CI0 := Lib.hid ci0
            have HEX3 := Lib.hid ex3
            have HPK := Lib.hid hpk
            have HNK := Lib.hid hnk
            have HBK := Lib.hid hbk
            have HFK := Lib.hid hfk
            have HIN := Lib.hid hin
            have hik : (0 : Int) ≤ (k : Int) := Int.natCast_nonneg _
            have hik2 : (k : Int) < (n : Int) := by omega
            have hszw : wr.heap.size < w9.heap.size := by omega
            have hgil : gi < w9.heap.size := World.block_lt_of_cell? w9 _ hci
            have hginX : ¬ gX = gi := by omega
            have hci2 : w8.cell? ⟨gi, offi + k, none⟩ = some (.bool b) := by rw [hw8]; exact (((Below.refl w9.heap.size w9).alloc (Nat.le_refl _) _).cell (p := ⟨gi, offi + k, none⟩) hgil).trans hci
            have hgl9 : gP < w9.heap.size := by omega
            clear H1 hO1 hR1 hPb hTP ex3 hpk hnk hbk hfk hin hofs H hO hR cn0 H2 hO2 hR2 hP2 hTX hgP hgX hw9 hw8
            go_upto_region 17 with (fail)
            have hgX1 : wr.heap.size + 1 = gX := by have := HHX.out; omega
            rw [← HW9.out, ← HW8.out, hgX1, ← HHP.out]
            clear hgX1 hci ci0
            have key : ∀ T : Part, T.key = (insideP p b).key → Hid ((ts ++ [T]).map Part.key = ((inside ps bs).take (k + 1)).map Part.key) := by
              intro T hT
              show _ = _
              rw [List.take_add_one, HIN.out, List.map_append, List.map_append, hkey.out]
              simp [hT]
            have HKEY := Lib.hid key
            clear key
            cases b
            case' false =>
              obtain ⟨T, hT⟩ : ∃ T : Part, T = ⟨p.s, p.al, p.A, p.sp, p.c, .slice Ao f.length co, p.x4, p.x5, p.x6, p.x7⟩ := ⟨_, rfl⟩
              have hTk : T.key = (insideP p false).key := by rw [hT]; rfl
              have hTb : T.s ≤ 1024 ∧ T.al ≤ 8 ∧ 0 ≤ T.s ∧ 1 ≤ T.al := by
                obtain ⟨v1, v2, v3, v4⟩ := (valid_iff p).1 hpv
                rw [hT]; exact ⟨v2, by show p.al ≤ 8; omega, v1, by show 1 ≤ p.al; omega⟩
              have hTo : T.one := by rw [hT]; exact ⟨rfl, hpo.h4, hpo.h5, hpo.h6, hpo.h7⟩
              have hTl : T.sp.length ≤ 9223372036854775807 := by
                obtain ⟨v1, v2, v3, v4⟩ := (valid_iff p).1 hpv
                rw [hT]; show p.sp.length ≤ _; omega
              obtain ⟨S, hS⟩ : ∃ S : World, S = w8 := ⟨_, rfl⟩
              have hTs : Sl w T.A (T.sp.map bv) ∨ SlE S 5 T.A (T.sp.map bv) := by rw [hT]; exact .inl hpsp
              have hPT : Blk S gX 31 #[.int .i64 T.s, .int .i64 T.al, .slice T.A T.sp.length T.c, T.x3, T.x4, T.x5, T.x6, T.x7] := by rw [hT, hS]; exact HXB.out
              have hPP : Blk S gP 31 #[.int .i64 p.s, .int .i64 p.al, .slice p.A p.sp.length p.c, .slice Ao f.length co, p.x4, p.x5, p.x6, p.x7] := by rw [hS]; exact HP2.out
              have hSum : SumAt w (W1.heap.size + 1) (.slice Ac qs.length cc) qs (.slice At ts.length ct) ts S := by rw [hS]; exact HH2.out
              have hSO := HO2.out
              have hSR := HR2.out
              rw [← hS] at hSO hSR
              have hw8S : w8.heap.size ≤ S.heap.size := by rw [hS]; exact Nat.le_refl _
              have HSS := Lib.hid hS
              clear hT hS
              go_upto_region 19 with (fail)
              rw [← HSS.out]
              clear HSS
            case' true =>
              go_wp2_with fail
              refine (rpointer_any _).mono ?_
              rintro e w10 ⟨Ap, he, hsp10, hb10⟩
              have he' : e = .returned (.agg #[.int .i64 8, .int .i64 8, .slice Ap 8 8, .slice none 0 0, .slice none 0 0, .slice none 0 0, .slice none 0 0, .bool true]) := he
              subst he'
              obtain ⟨T, hT⟩ : ∃ T : Part, T = ptrP Ap := ⟨_, rfl⟩
              have hTk : T.key = (insideP p true).key := by rw [hT]; rfl
              have hTb : T.s ≤ 1024 ∧ T.al ≤ 8 ∧ 0 ≤ T.s ∧ 1 ≤ T.al := by rw [hT]; exact ⟨by show (8 : Int) ≤ 1024; omega, by show (8 : Int) ≤ 8; omega, by show (0 : Int) ≤ 8; omega, by show (1 : Int) ≤ 8; omega⟩
              have hTo : T.one := by rw [hT]; exact ⟨rfl, rfl, rfl, rfl, rfl⟩
              have hTl : T.sp.length ≤ 9223372036854775807 := by rw [hT]; show 8 ≤ 9223372036854775807; omega
              have hXb := HXB.out.below hb10
              obtain ⟨⟨b0, b1, b2, b3, b4, b5, b6, b7⟩, bf⟩ := hXb.eight
              obtain ⟨S, hS⟩ : ∃ S, S = (((((((w10.setCell ⟨gX, 0, none⟩ (.int .i64 8)).setCell ⟨gX, 1, none⟩ (.int .i64 8)).setCell ⟨gX, 2, none⟩ (.slice Ap 8 8)).setCell ⟨gX, 3, none⟩ (.slice none 0 0)).setCell ⟨gX, 4, none⟩ (.slice none 0 0)).setCell ⟨gX, 5, none⟩ (.slice none 0 0)).setCell ⟨gX, 6, none⟩ (.slice none 0 0)).setCell ⟨gX, 7, none⟩ (.bool true) := ⟨_, rfl⟩
              have h8 : w10.grownBy S (some gX) := by rw [hS]; exact only8 w10 gX (.int .i64 8) (.int .i64 8) (.slice Ap 8 8) (.slice none 0 0) (.slice none 0 0) (.slice none 0 0) (.slice none 0 0) (.bool true)
              have hPT : Blk S gX 31 #[.int .i64 T.s, .int .i64 T.al, .slice T.A T.sp.length T.c, T.x3, T.x4, T.x5, T.x6, T.x7] := by rw [hS, hT]; exact hXb.set8 (.int .i64 8) (.int .i64 8) (.slice Ap 8 8) (.slice none 0 0) (.slice none 0 0) (.slice none 0 0) (.slice none 0 0) (.bool true)
              have hSum := (HH2.out.under hb10).grown h8 hXb (by omega) HTX.out
              have hTs : Sl w T.A (T.sp.map bv) ∨ SlE S 5 T.A (T.sp.map bv) := by rw [hT]; exact .inr (hsp10.grown h8 hXb (by decide))
              have hSO := (HO2.out.below hb10).grown h8 (fun e => by injection e with e; omega)
              have hSR := (HR2.out.below hb10).grown h8 (fun e => by injection e with e; omega)
              have hPP := (HP2.out.below hb10).grown h8 (fun e => by injection e with e; omega)
              have hw8S : w8.heap.size ≤ S.heap.size := Nat.le_trans hb10.size h8.size
              have HSS := Lib.hid hS
              have HHT := Lib.hid hT
              have HPT := Lib.hid hPT
              have HPP := Lib.hid hPP
              have HSUM := Lib.hid hSum
              have HSO := Lib.hid hSO
              have HSR := Lib.hid hSR
              have HTS := Lib.hid hTs
              have HTK := Lib.hid hTk
              have HTL := Lib.hid hTl
              have HTOO := Lib.hid hTo
              clear hS hT h8 hPT hPP hSum hTs hSO hSR hXb hsp10 hb10 hTk hTl hTo
              go_upto_region 19 with (fail)
              rw [← HSS.out]
              clear b0 b1 b2 b3 b4 b5 b6 b7 bf HSS
              have hPT := HPT.out
              have hPP := HPP.out
              have hSum := HSUM.out
              have hSO := HSO.out
              have hSR := HSR.out
              have hTs := HTS.out
              have hTk := HTK.out
              have hTl := HTL.out
              have hTo := HTOO.out
              clear HPT HPP HSUM HSO HSR HTS HTK HTL HTOO
            case' false =>
              have hszOS : W1.heap.size < S.heap.size := hSO.lt
              have hszXS : gX < S.heap.size := hPT.lt
              have hneOX : ¬ W1.heap.size = gX := by omega
              have hneXO : ¬ gX = W1.heap.size := by omega
              have hTb0 := hTb.1
              have hTb1 := hTb.2.1
              have hTb2 := hTb.2.2.1
              have hTb3 := hTb.2.2.2
              have hx3 := store_var (P := Try.prog) hTo.h3
              have hx4 := store_var (P := Try.prog) hTo.h4
              have hx5 := store_var (P := Try.prog) hTo.h5
              have hx6 := store_var (P := Try.prog) hTo.h6
              have hx7 := store_var (P := Try.prog) hTo.h7
              obtain ⟨A4, c4, w4, hrun4, H4, hblk4, hsz4⟩ := hSum.appT (by rw [htl.out]; omega) T hTo hTl hTs
              rw [htl.out] at hrun4
              obtain ⟨hO4, hTO4⟩ := hblk4 _ _ _ hSO HTO.out
              obtain ⟨hX4, hTX4⟩ := hblk4 _ _ _ hPT HTX.out
              obtain ⟨hP4, hTP4⟩ := hblk4 _ _ _ hPP HTP.out
              obtain ⟨hR4, hTR4⟩ := hblk4 _ _ _ hSR HTR.out
              have e1 : sizeP (ts ++ [T]) = if sizeP ts < T.s then T.s else sizeP ts := by rw [sizeP_snoc]; split <;> omega
              have e2 : alP (ts ++ [T]) = if alP ts < T.al then T.al else alP ts := by rw [alP_snoc]; split <;> omega
              have H5 := H4.set_ 1 (.int .i64 (alP (ts ++ [T]))) hO4 (by omega) hTO4
              have hO5 := hO4.set_ 1 (.int .i64 (alP (ts ++ [T])))
              have hR5 := hR4.far (p := ⟨W1.heap.size, 1, none⟩) (by show w.heap.size ≠ W1.heap.size; omega) (.int .i64 (alP (ts ++ [T])))
              have hP5 := hP4.far (p := ⟨W1.heap.size, 1, none⟩) (by show gP ≠ W1.heap.size; omega) (.int .i64 (alP (ts ++ [T])))
              obtain ⟨⟨p0, p1, p2, p3, p4, p5, p6, p7⟩, pf⟩ := hPT.eight
              obtain ⟨⟨o0, o1, o2, o3, o4, o5, o6, o7⟩, of_⟩ := hO4.eight
              obtain ⟨⟨r0, r1, r2, r3, r4, r5, r6, r7⟩, rf_⟩ := hX4.eight
              clear o0 o2 o3 o4 o5 o6 o7 r2 r3 r4 r5 r6 r7 rf_
              have KEY2 := HKEY.out T hTk
              have HH5 := Lib.hid H5
              have HO5 := Lib.hid hO5
              have HR5 := Lib.hid hR5
              have HP5 := Lib.hid hP5
              have E1 := Lib.hid e1
              have E2 := Lib.hid e2
              have HTO4 := Lib.hid hTO4
              have HTL5 : Hid ((ts ++ [T]).length = k + 1) := by show _ = _; rw [List.length_append, htl.out]; rfl
              clear H4 hO4 hP4 hR4 hO5 H5 hR5 hP5 hblk4 hSum hSO hPT hPP hSR e1 e2 hTX4 hTP4 hTR4 hTO4 hTs hTo hTl hTk hTb hX4
              go_wp2_with fail
              clear p0 p1 p2 p3 p4 p5 p6 p7 pf hrun4 hx3 hx4 hx5 hx6 hx7
              go_region
              rw [← E1.out, ← E2.out]
              clear E1 E2
              go_wp2_with fail
              obtain ⟨w7, hw7⟩ : ∃ w7, w7 = (w4.setCell ⟨W1.heap.size, 1, none⟩ (.int .i64 (alP (ts ++ [T])))).drew := ⟨_, rfl⟩
              rw [← hw7]
              have hbase : CaseBase w (W1.heap.size + 1) (.slice A4 (ts ++ [T]).length c4) (ts ++ [T]) W1.heap.size gP w.heap.size #[.int .i64 p.s, .int .i64 p.al, .slice p.A p.sp.length p.c, .slice Ao f.length co, p.x4, p.x5, p.x6, p.x7] #[.int .i64 0, .int .i64 0, .slice none 0 0, .slice none 0 0, .slice none 0 0, .slice none 0 0, .slice none 0 0, .bool false] (fun v => #[.int .i64 0, .int .i64 (alP (ts ++ [T])), .slice none 0 0, .slice none 0 0, .slice none 0 0, v, .slice none 0 0, .bool false]) (.slice Ac qs.length cc) qs (.slice Ac qs.length cc) w7.drew := by
                rw [hw7]
                exact ⟨HH5.out.drew.drew, by have h := HO5.out; rw [← hql.out] at h; exact h, HP5.out, HR5.out, HTO4.out, by omega, by omega, by omega⟩
              have HBASE := Lib.hid hbase
              clear hbase hw7
              have hql6 : qs.length ≤ 6000 := by rw [hql.out]; omega
              refine gen_act fun a0 ha0 => ?_
              have z1 : a0.eval (.tmp 1) = .slice (some ⟨gn, offn, none⟩) n cn := by rw [ha0]; rfl
              have z2 : a0.eval (.tmp 2) = .slice (some ⟨gi, offi, none⟩) n cb := by rw [ha0]; rfl
              have z10 : a0.eval (.tmp 10) = .pointer (some ⟨W1.heap.size, 0, none⟩) := by rw [ha0]; rfl
              have z13 : a0.eval (.tmp 13) = .int .i64 k := by rw [ha0]; rfl
              have z14 : a0.eval (.tmp 14) = .pointer (some ⟨gP, 0, none⟩) := by rw [ha0]; rfl
              have zs : a0.tmps.size = 167 := by rw [ha0]; rfl
              have HA0 := Lib.hid ha0
              clear ha0
              refine wp_region_known (by kernel_rfl) (ord_of (by kernel_rfl)) (dst_of (by kernel_rfl)) (size_of' (n := 167) (by kernel_rfl) zs) (guard_of (by kernel_rfl)) [some (.pointer (some ⟨W1.heap.size, 5, none⟩)), some (.slice Ac qs.length cc), some (.slice (some ⟨gn, offn, none⟩) n cn), some (.int .i64 k), some (.pointer (some ⟨gn, offn + k, none⟩)), some (.string nm), some (.slice (some ⟨gi, offi, none⟩) n cb), some (.int .i64 k), some (.pointer (some ⟨gi, offi + k, none⟩)), some (.bool false), some (.pointer (some ⟨gP, 3, none⟩)), some (.slice Ao f.length co), none, some (.pointer (some ⟨gP, 0, none⟩)), some (.int .i64 p.s), none, none, none, some (.pointer (some ⟨W1.heap.size, 5, none⟩)), none] (CaseSt w (W1.heap.size + 1) (.slice A4 (ts ++ [T]).length c4) (ts ++ [T]) W1.heap.size gP w.heap.size #[.int .i64 p.s, .int .i64 p.al, .slice p.A p.sp.length p.c, .slice Ao f.length co, p.x4, p.x5, p.x6, p.x7] #[.int .i64 0, .int .i64 0, .slice none 0 0, .slice none 0 0, .slice none 0 0, .slice none 0 0, .slice none 0 0, .bool false] (fun v => #[.int .i64 0, .int .i64 (alP (ts ++ [T])), .slice none 0 0, .slice none 0 0, .slice none 0 0, v, .slice none 0 0, .bool false]) Ac cc qs nm false f p.s) (.s0 rfl rfl rfl rfl rfl HBASE.out) ?_ ?_ ?_ ?_
              · intro i u D x w5 hl hD hI
                have hi : i < 20 := by have h := (List.getElem?_eq_some_iff.1 hl).1; simpa using h
                have hnh : i ≠ 12 ∧ i ≠ 15 ∧ i ≠ 16 ∧ i ≠ 17 ∧ i ≠ 19 := by
                  refine ⟨?_, ?_, ?_, ?_, ?_⟩ <;> (rintro rfl; simp at hl)
                exact hI.ins i u hnh.1 hnh.2.1 hnh.2.2.1 hnh.2.2.2.1 hnh.2.2.2.2
              · intro D x a w5 i o u ho hl hD hdep hcl hF hKn hI K hk
                have hi : i < 20 := (Array.getElem?_eq_some_iff.1 ho).1
                rcases (show i = 0 ∨ i = 1 ∨ i = 2 ∨ i = 3 ∨ i = 4 ∨ i = 5 ∨ i = 6 ∨ i = 7 ∨ i = 8 ∨ i = 9 ∨ i = 10 ∨ i = 11 ∨ i = 12 ∨ i = 13 ∨ i = 14 ∨ i = 15 ∨ i = 16 ∨ i = 17 ∨ i = 18 ∨ i = 19 by omega) with rfl | rfl | rfl | rfl | rfl | rfl | rfl | rfl | rfl | rfl | rfl | rfl | rfl | rfl | rfl | rfl | rfl | rfl | rfl | rfl
                · simp only [List.getElem?_toArray, List.getElem?_cons_zero, Option.some.injEq] at ho
                  subst ho
                  obtain rfl : .pointer (some ⟨W1.heap.size, 5, none⟩) = u := by simpa using hl
                  have e10 := hF.ev0 (by kernel_rfl) z10
                  clear hF hcl hKn hl
                  go_simp
                  exact hk
                · simp only [List.getElem?_toArray, List.getElem?_cons_zero, List.getElem?_cons_succ, Option.some.injEq] at ho
                  subst ho
                  simp [Region.binds] at hdep
                  obtain rfl : .slice Ac qs.length cc = u := by simpa using hl
                  have e79 := hKn.ev hF 0 rfl rfl rfl (by simp [hdep])
                  have c19 : D 19 = false := by
                    cases hx : D 19 with
                    | false => rfl
                    | true =>
                      have hy := hcl 19 _ rfl hx
                      simp [Region.binds] at hy
                      simp [hy] at hD
                  have hB := hI.old c19
                  obtain ⟨⟨b0, b1, b2, b3, b4, b5, b6, b7⟩, bf⟩ := Blk.eight hB
                  clear hF hcl hKn hl
                  go_simp
                  exact hk
                · simp only [List.getElem?_toArray, List.getElem?_cons_zero, List.getElem?_cons_succ, Option.some.injEq] at ho
                  subst ho
                  obtain rfl : .slice (some ⟨gn, offn, none⟩) n cn = u := by simpa using hl
                  have e1 := hF.ev0 (by kernel_rfl) z1
                  clear hF hcl hKn hl
                  go_simp
                  exact hk
                · simp only [List.getElem?_toArray, List.getElem?_cons_zero, List.getElem?_cons_succ, Option.some.injEq] at ho
                  subst ho
                  obtain rfl : .int .i64 k = u := by simpa using hl
                  have e13 := hF.ev0 (by kernel_rfl) z13
                  clear hF hcl hKn hl
                  go_simp
                  exact hk
                · simp only [List.getElem?_toArray, List.getElem?_cons_zero, List.getElem?_cons_succ, Option.some.injEq] at ho
                  subst ho
                  simp [Region.binds] at hdep
                  obtain rfl : .pointer (some ⟨gn, offn + k, none⟩) = u := by simpa using hl
                  have e81 := hKn.ev hF 2 rfl rfl rfl (by simp [hdep])
                  have e82 := hKn.ev hF 3 rfl rfl rfl (by simp [hdep])
                  clear hF hcl hKn hl
                  go_simp
                  exact hk
                · simp only [List.getElem?_toArray, List.getElem?_cons_zero, List.getElem?_cons_succ, Option.some.injEq] at ho
                  subst ho
                  simp [Region.binds] at hdep
                  obtain rfl : .string nm = u := by simpa using hl
                  have e83 := hKn.ev hF 4 rfl rfl rfl (by simp [hdep])
                  have cn5 := cell_in CN0.out hI.boxes.1
                  clear hF hcl hKn hl
                  go_simp
                  exact hk
                · simp only [List.getElem?_toArray, List.getElem?_cons_zero, List.getElem?_cons_succ, Option.some.injEq] at ho
                  subst ho
                  obtain rfl : .slice (some ⟨gi, offi, none⟩) n cb = u := by simpa using hl
                  have e2 := hF.ev0 (by kernel_rfl) z2
                  clear hF hcl hKn hl
                  go_simp
                  exact hk
                · simp only [List.getElem?_toArray, List.getElem?_cons_zero, List.getElem?_cons_succ, Option.some.injEq] at ho
                  subst ho
                  obtain rfl : .int .i64 k = u := by simpa using hl
                  have e13 := hF.ev0 (by kernel_rfl) z13
                  clear hF hcl hKn hl
                  go_simp
                  exact hk
                · simp only [List.getElem?_toArray, List.getElem?_cons_zero, List.getElem?_cons_succ, Option.some.injEq] at ho
                  subst ho
                  simp [Region.binds] at hdep
                  obtain rfl : .pointer (some ⟨gi, offi + k, none⟩) = u := by simpa using hl
                  have e85 := hKn.ev hF 6 rfl rfl rfl (by simp [hdep])
                  have e86 := hKn.ev hF 7 rfl rfl rfl (by simp [hdep])
                  clear hF hcl hKn hl
                  go_simp
                  exact hk
                · simp only [List.getElem?_toArray, List.getElem?_cons_zero, List.getElem?_cons_succ, Option.some.injEq] at ho
                  subst ho
                  simp [Region.binds] at hdep
                  obtain rfl : .bool false = u := by simpa using hl
                  have e87 := hKn.ev hF 8 rfl rfl rfl (by simp [hdep])
                  have ci5 := cell_in CI0.out hI.boxes.1
                  clear hF hcl hKn hl
                  go_simp
                  exact hk
                · simp only [List.getElem?_toArray, List.getElem?_cons_zero, List.getElem?_cons_succ, Option.some.injEq] at ho
                  subst ho
                  obtain rfl : .pointer (some ⟨gP, 3, none⟩) = u := by simpa using hl
                  have e14 := hF.ev0 (by kernel_rfl) z14
                  clear hF hcl hKn hl
                  go_simp
                  exact hk
                · simp only [List.getElem?_toArray, List.getElem?_cons_zero, List.getElem?_cons_succ, Option.some.injEq] at ho
                  subst ho
                  simp [Region.binds] at hdep
                  obtain rfl : .slice Ao f.length co = u := by simpa using hl
                  have e89 := hKn.ev hF 10 rfl rfl rfl (by simp [hdep])
                  obtain ⟨⟨b0, b1, b2, b3, b4, b5, b6, b7⟩, bf⟩ := Blk.eight (hI.boxes.2)
                  clear hF hcl hKn hl
                  go_simp
                  exact hk
                · simp at hl
                · simp only [List.getElem?_toArray, List.getElem?_cons_zero, List.getElem?_cons_succ, Option.some.injEq] at ho
                  subst ho
                  obtain rfl : .pointer (some ⟨gP, 0, none⟩) = u := by simpa using hl
                  have e14 := hF.ev0 (by kernel_rfl) z14
                  clear hF hcl hKn hl
                  go_simp
                  exact hk
                · simp only [List.getElem?_toArray, List.getElem?_cons_zero, List.getElem?_cons_succ, Option.some.injEq] at ho
                  subst ho
                  simp [Region.binds] at hdep
                  obtain rfl : .int .i64 p.s = u := by simpa using hl
                  have e92 := hKn.ev hF 13 rfl rfl rfl (by simp [hdep])
                  obtain ⟨⟨b0, b1, b2, b3, b4, b5, b6, b7⟩, bf⟩ := Blk.eight (hI.boxes.2)
                  clear hF hcl hKn hl
                  go_simp
                  exact hk
                · simp at hl
                · simp at hl
                · simp at hl
                · simp only [List.getElem?_toArray, List.getElem?_cons_zero, List.getElem?_cons_succ, Option.some.injEq] at ho
                  subst ho
                  simp [Region.binds] at hdep
                  obtain rfl : .pointer (some ⟨W1.heap.size, 5, none⟩) = u := by simpa using hl
                  have e10 := hF.ev0 (by kernel_rfl) z10
                  clear hF hcl hKn hl
                  go_simp
                  exact hk
                · simp at hl
              · intro D x a w5 i o ho hl hD hdep hcl hF hKn hI K hk
                have hi : i < 20 := (Array.getElem?_eq_some_iff.1 ho).1
                rcases (show i = 0 ∨ i = 1 ∨ i = 2 ∨ i = 3 ∨ i = 4 ∨ i = 5 ∨ i = 6 ∨ i = 7 ∨ i = 8 ∨ i = 9 ∨ i = 10 ∨ i = 11 ∨ i = 12 ∨ i = 13 ∨ i = 14 ∨ i = 15 ∨ i = 16 ∨ i = 17 ∨ i = 18 ∨ i = 19 by omega) with rfl | rfl | rfl | rfl | rfl | rfl | rfl | rfl | rfl | rfl | rfl | rfl | rfl | rfl | rfl | rfl | rfl | rfl | rfl | rfl
                · exact absurd rfl (hl _)
                · exact absurd rfl (hl _)
                · exact absurd rfl (hl _)
                · exact absurd rfl (hl _)
                · exact absurd rfl (hl _)
                · exact absurd rfl (hl _)
                · exact absurd rfl (hl _)
                · exact absurd rfl (hl _)
                · exact absurd rfl (hl _)
                · exact absurd rfl (hl _)
                · exact absurd rfl (hl _)
                · exact absurd rfl (hl _)
                · simp only [List.getElem?_toArray, List.getElem?_cons_zero, List.getElem?_cons_succ, Option.some.injEq] at ho
                  subst ho
                  simp [Region.binds] at hdep
                  have e90 := hKn.ev hF 11 rfl rfl rfl (by simp [hdep])
                  have hfs := HOFS.out.below hI.boxes.1
                  have Es := (hF.eval (i := 11) rfl rfl (by simp [hdep])).trans (hKn 11 _ rfl (by simp [hdep]))
                  refine wp_append_sl (.const (.slice none 0 0)) (.tmp 90) 23 rfl w5.heap.size 3 _ 1 8 Try.underlying23 el3 (.slice none 0 0) 0 [] rfl (World.ownsRow_nil _ _ _ _) Ao f.length co (f.map iv) Es hfs (by simp) (oneCell_iv f) (by simp only [maxLen]; omega) (by omega) (Nat.le_refl _) ?_
                  intro A' c' w6 hown hg _
                  simp only [Nat.zero_add, List.nil_append] at hown ⊢
                  exact hk _ _ (hI.op12 hD ((Below.refl _ _).grown hg (Nat.le_refl _) (fun q hq => by cases hq)) (SlE.of_own hown))
                · exact absurd rfl (hl _)
                · exact absurd rfl (hl _)
                · simp only [List.getElem?_toArray, List.getElem?_cons_zero, List.getElem?_cons_succ, Option.some.injEq] at ho
                  subst ho
                  simp [Region.binds] at hdep
                  have e84 := hKn.ev hF 5 rfl rfl rfl (by simp [hdep])
                  have e88 := hKn.ev hF 9 rfl rfl rfl (by simp [hdep])
                  have e93 := hKn.ev hF 14 rfl rfl rfl (by simp [hdep])
                  obtain ⟨Aq, cq, hx12, hI2⟩ := hI.op15 hD (by simp [hdep])
                  have e91 := hF.ev 12 rfl rfl (by simp [hdep]) hx12
                  clear hF hcl hKn hl
                  go_simp
                  exact hk _ _ hI2
                · simp only [List.getElem?_toArray, List.getElem?_cons_zero, List.getElem?_cons_succ, Option.some.injEq] at ho
                  subst ho
                  simp [Region.binds] at hdep
                  obtain ⟨Aq, cq, hx15, hI2⟩ := hI.op16 hD (by simp [hdep])
                  have e94 := hF.ev 15 rfl rfl (by simp [hdep]) hx15
                  unfold newCase CaseV.arr at e94
                  clear hF hcl hKn hl
                  go_simp
                  exact hk _ _ hI2
                · simp only [List.getElem?_toArray, List.getElem?_cons_zero, List.getElem?_cons_succ, Option.some.injEq] at ho
                  subst ho
                  simp [Region.binds] at hdep
                  have e80 := hKn.ev hF 1 rfl rfl rfl (by simp [hdep])
                  refine hI.op17 hD (by simp [hdep]) (by omega) (.tmp 80) (.tmp 95) rfl ((hF.eval (i := 1) rfl rfl (by simp [hdep])).trans (hKn 1 _ rfl (by simp [hdep]))) (hF.eval (i := 16) rfl rfl (by simp [hdep])) ?_
                  exact hk
                · exact absurd rfl (hl _)
                · simp only [List.getElem?_toArray, List.getElem?_cons_zero, List.getElem?_cons_succ, Option.some.injEq] at ho
                  subst ho
                  simp [Region.binds] at hdep
                  have e97 := hKn.ev hF 18 rfl rfl rfl (by simp [hdep])
                  obtain ⟨A3, c3, hx17, hB, hI2⟩ := hI.op19 hD (by simp [hdep]) 5 (fun v u => rfl) undef
                  have e96 := hF.ev 17 rfl rfl (by simp [hdep]) hx17
                  obtain ⟨⟨b0, b1, b2, b3, b4, b5, b6, b7⟩, bf⟩ := Blk.eight hB
                  clear hF hcl hKn hl
                  go_simp
                  exact hk _ _ hI2
              · intro D x w9 hD hDz hKn hI
                obtain ⟨Aq, cq, A3, c3, hx17, HB⟩ := hI.done (hD 19 (by decide))
                have HBH := Lib.hid HB
                have hlenq : (qs ++ [newCase nm false f p.s Aq cq]).length = k + 1 := by rw [List.length_append, hql.out]; rfl
                have HLQ := Lib.hid hlenq
                clear hI hD hDz hKn HB HBASE hlenq
                rw [HA0.out]
                simp [putsAll, List.range, List.range.loop, Act.put, hx17]
                clear hx17
                go_wp2
                go_roundw
                case rel =>
                  refine ⟨k + 1, A4, c4, A3, c3, qs ++ [newCase nm false f p.s Aq cq], ts ++ [T], by omega, by go_num, HLQ.out, HTL5.out, rfl, by go_num, HBH.out.sum, ?_, HBH.out.rb, KEY2.out, ?_⟩
                  · have h := HBH.out.box; rw [hql.out] at h; exact h
                  · intro i h h1 h2 h3 h4
                    rcases Nat.lt_or_ge i qs.length with hi | hi
                    · rw [List.getElem_append_left hi]; exact hcase.out i hi h1 h2 h3 h4
                    · have hik : i = k := by have := hql.out; rw [HLQ.out] at h; omega
                      subst hik
                      rw [List.getElem_append_right hi]
                      simp only [hql.out, Nat.sub_self, List.getElem_cons_zero]
                      rw [HNK.out, HBK.out, HFK.out, HPK.out]
                      exact ⟨rfl, rfl, rfl, rfl, rfl⟩
                case measure => simp [intOf]; omega
            case' true =>
              have hszOS : W1.heap.size < S.heap.size := hSO.lt
              have hszXS : gX < S.heap.size := hPT.lt
              have hneOX : ¬ W1.heap.size = gX := by omega
              have hneXO : ¬ gX = W1.heap.size := by omega
              have hTb0 := hTb.1
              have hTb1 := hTb.2.1
              have hTb2 := hTb.2.2.1
              have hTb3 := hTb.2.2.2
              have hx3 := store_var (P := Try.prog) hTo.h3
              have hx4 := store_var (P := Try.prog) hTo.h4
              have hx5 := store_var (P := Try.prog) hTo.h5
              have hx6 := store_var (P := Try.prog) hTo.h6
              have hx7 := store_var (P := Try.prog) hTo.h7
              obtain ⟨A4, c4, w4, hrun4, H4, hblk4, hsz4⟩ := hSum.appT (by rw [htl.out]; omega) T hTo hTl hTs
              rw [htl.out] at hrun4
              obtain ⟨hO4, hTO4⟩ := hblk4 _ _ _ hSO HTO.out
              obtain ⟨hX4, hTX4⟩ := hblk4 _ _ _ hPT HTX.out
              obtain ⟨hP4, hTP4⟩ := hblk4 _ _ _ hPP HTP.out
              obtain ⟨hR4, hTR4⟩ := hblk4 _ _ _ hSR HTR.out
              have e1 : sizeP (ts ++ [T]) = if sizeP ts < T.s then T.s else sizeP ts := by rw [sizeP_snoc]; split <;> omega
              have e2 : alP (ts ++ [T]) = if alP ts < T.al then T.al else alP ts := by rw [alP_snoc]; split <;> omega
              have H5 := H4.set_ 1 (.int .i64 (alP (ts ++ [T]))) hO4 (by omega) hTO4
              have hO5 := hO4.set_ 1 (.int .i64 (alP (ts ++ [T])))
              have hR5 := hR4.far (p := ⟨W1.heap.size, 1, none⟩) (by show w.heap.size ≠ W1.heap.size; omega) (.int .i64 (alP (ts ++ [T])))
              have hP5 := hP4.far (p := ⟨W1.heap.size, 1, none⟩) (by show gP ≠ W1.heap.size; omega) (.int .i64 (alP (ts ++ [T])))
              obtain ⟨⟨p0, p1, p2, p3, p4, p5, p6, p7⟩, pf⟩ := hPT.eight
              obtain ⟨⟨o0, o1, o2, o3, o4, o5, o6, o7⟩, of_⟩ := hO4.eight
              obtain ⟨⟨r0, r1, r2, r3, r4, r5, r6, r7⟩, rf_⟩ := hX4.eight
              clear o0 o2 o3 o4 o5 o6 o7 r2 r3 r4 r5 r6 r7 rf_
              have KEY2 := HKEY.out T hTk
              have HH5 := Lib.hid H5
              have HO5 := Lib.hid hO5
              have HR5 := Lib.hid hR5
              have HP5 := Lib.hid hP5
              have E1 := Lib.hid e1
              have E2 := Lib.hid e2
              have HTO4 := Lib.hid hTO4
              have HTL5 : Hid ((ts ++ [T]).length = k + 1) := by show _ = _; rw [List.length_append, htl.out]; rfl
              clear H4 hO4 hP4 hR4 hO5 H5 hR5 hP5 hblk4 hSum hSO hPT hPP hSR e1 e2 hTX4 hTP4 hTR4 hTO4 hTs hTo hTl hTk hTb hX4
              go_wp2_with fail
              clear p0 p1 p2 p3 p4 p5 p6 p7 pf hrun4 hx3 hx4 hx5 hx6 hx7
              go_region
              rw [← E1.out, ← E2.out]
              clear E1 E2
              go_wp2_with fail
              obtain ⟨w7, hw7⟩ : ∃ w7, w7 = (w4.setCell ⟨W1.heap.size, 1, none⟩ (.int .i64 (alP (ts ++ [T])))).drew := ⟨_, rfl⟩
              rw [← hw7]
              have hbase : CaseBase w (W1.heap.size + 1) (.slice A4 (ts ++ [T]).length c4) (ts ++ [T]) W1.heap.size gP w.heap.size #[.int .i64 p.s, .int .i64 p.al, .slice p.A p.sp.length p.c, .slice Ao f.length co, p.x4, p.x5, p.x6, p.x7] #[.int .i64 0, .int .i64 0, .slice none 0 0, .slice none 0 0, .slice none 0 0, .slice none 0 0, .slice none 0 0, .bool false] (fun v => #[.int .i64 0, .int .i64 (alP (ts ++ [T])), .slice none 0 0, .slice none 0 0, .slice none 0 0, v, .slice none 0 0, .bool false]) (.slice Ac qs.length cc) qs (.slice Ac qs.length cc) w7.drew := by
                rw [hw7]
                exact ⟨HH5.out.drew.drew, by have h := HO5.out; rw [← hql.out] at h; exact h, HP5.out, HR5.out, HTO4.out, by omega, by omega, by omega⟩
              have HBASE := Lib.hid hbase
              clear hbase hw7
              have hql6 : qs.length ≤ 6000 := by rw [hql.out]; omega
              refine gen_act fun a0 ha0 => ?_
              have z1 : a0.eval (.tmp 1) = .slice (some ⟨gn, offn, none⟩) n cn := by rw [ha0]; rfl
              have z2 : a0.eval (.tmp 2) = .slice (some ⟨gi, offi, none⟩) n cb := by rw [ha0]; rfl
              have z10 : a0.eval (.tmp 10) = .pointer (some ⟨W1.heap.size, 0, none⟩) := by rw [ha0]; rfl
              have z13 : a0.eval (.tmp 13) = .int .i64 k := by rw [ha0]; rfl
              have z14 : a0.eval (.tmp 14) = .pointer (some ⟨gP, 0, none⟩) := by rw [ha0]; rfl
              have zs : a0.tmps.size = 167 := by rw [ha0]; rfl
              have HA0 := Lib.hid ha0
              clear ha0
              refine wp_region_known (by kernel_rfl) (ord_of (by kernel_rfl)) (dst_of (by kernel_rfl)) (size_of' (n := 167) (by kernel_rfl) zs) (guard_of (by kernel_rfl)) [some (.pointer (some ⟨W1.heap.size, 5, none⟩)), some (.slice Ac qs.length cc), some (.slice (some ⟨gn, offn, none⟩) n cn), some (.int .i64 k), some (.pointer (some ⟨gn, offn + k, none⟩)), some (.string nm), some (.slice (some ⟨gi, offi, none⟩) n cb), some (.int .i64 k), some (.pointer (some ⟨gi, offi + k, none⟩)), some (.bool true), some (.pointer (some ⟨gP, 3, none⟩)), some (.slice Ao f.length co), none, some (.pointer (some ⟨gP, 0, none⟩)), some (.int .i64 p.s), none, none, none, some (.pointer (some ⟨W1.heap.size, 5, none⟩)), none] (CaseSt w (W1.heap.size + 1) (.slice A4 (ts ++ [T]).length c4) (ts ++ [T]) W1.heap.size gP w.heap.size #[.int .i64 p.s, .int .i64 p.al, .slice p.A p.sp.length p.c, .slice Ao f.length co, p.x4, p.x5, p.x6, p.x7] #[.int .i64 0, .int .i64 0, .slice none 0 0, .slice none 0 0, .slice none 0 0, .slice none 0 0, .slice none 0 0, .bool false] (fun v => #[.int .i64 0, .int .i64 (alP (ts ++ [T])), .slice none 0 0, .slice none 0 0, .slice none 0 0, v, .slice none 0 0, .bool false]) Ac cc qs nm true f p.s) (.s0 rfl rfl rfl rfl rfl HBASE.out) ?_ ?_ ?_ ?_
              · intro i u D x w5 hl hD hI
                have hi : i < 20 := by have h := (List.getElem?_eq_some_iff.1 hl).1; simpa using h
                have hnh : i ≠ 12 ∧ i ≠ 15 ∧ i ≠ 16 ∧ i ≠ 17 ∧ i ≠ 19 := by
                  refine ⟨?_, ?_, ?_, ?_, ?_⟩ <;> (rintro rfl; simp at hl)
                exact hI.ins i u hnh.1 hnh.2.1 hnh.2.2.1 hnh.2.2.2.1 hnh.2.2.2.2
              · intro D x a w5 i o u ho hl hD hdep hcl hF hKn hI K hk
                have hi : i < 20 := (Array.getElem?_eq_some_iff.1 ho).1
                rcases (show i = 0 ∨ i = 1 ∨ i = 2 ∨ i = 3 ∨ i = 4 ∨ i = 5 ∨ i = 6 ∨ i = 7 ∨ i = 8 ∨ i = 9 ∨ i = 10 ∨ i = 11 ∨ i = 12 ∨ i = 13 ∨ i = 14 ∨ i = 15 ∨ i = 16 ∨ i = 17 ∨ i = 18 ∨ i = 19 by omega) with rfl | rfl | rfl | rfl | rfl | rfl | rfl | rfl | rfl | rfl | rfl | rfl | rfl | rfl | rfl | rfl | rfl | rfl | rfl | rfl
                · simp only [List.getElem?_toArray, List.getElem?_cons_zero, Option.some.injEq] at ho
                  subst ho
                  obtain rfl : .pointer (some ⟨W1.heap.size, 5, none⟩) = u := by simpa using hl
                  have e10 := hF.ev0 (by kernel_rfl) z10
                  clear hF hcl hKn hl
                  go_simp
                  exact hk
                · simp only [List.getElem?_toArray, List.getElem?_cons_zero, List.getElem?_cons_succ, Option.some.injEq] at ho
                  subst ho
                  simp [Region.binds] at hdep
                  obtain rfl : .slice Ac qs.length cc = u := by simpa using hl
                  have e79 := hKn.ev hF 0 rfl rfl rfl (by simp [hdep])
                  have c19 : D 19 = false := by
                    cases hx : D 19 with
                    | false => rfl
                    | true =>
                      have hy := hcl 19 _ rfl hx
                      simp [Region.binds] at hy
                      simp [hy] at hD
                  have hB := hI.old c19
                  obtain ⟨⟨b0, b1, b2, b3, b4, b5, b6, b7⟩, bf⟩ := Blk.eight hB
                  clear hF hcl hKn hl
                  go_simp
                  exact hk
                · simp only [List.getElem?_toArray, List.getElem?_cons_zero, List.getElem?_cons_succ, Option.some.injEq] at ho
                  subst ho
                  obtain rfl : .slice (some ⟨gn, offn, none⟩) n cn = u := by simpa using hl
                  have e1 := hF.ev0 (by kernel_rfl) z1
                  clear hF hcl hKn hl
                  go_simp
                  exact hk
                · simp only [List.getElem?_toArray, List.getElem?_cons_zero, List.getElem?_cons_succ, Option.some.injEq] at ho
                  subst ho
                  obtain rfl : .int .i64 k = u := by simpa using hl
                  have e13 := hF.ev0 (by kernel_rfl) z13
                  clear hF hcl hKn hl
                  go_simp
                  exact hk
                · simp only [List.getElem?_toArray, List.getElem?_cons_zero, List.getElem?_cons_succ, Option.some.injEq] at ho
                  subst ho
                  simp [Region.binds] at hdep
                  obtain rfl : .pointer (some ⟨gn, offn + k, none⟩) = u := by simpa using hl
                  have e81 := hKn.ev hF 2 rfl rfl rfl (by simp [hdep])
                  have e82 := hKn.ev hF 3 rfl rfl rfl (by simp [hdep])
                  clear hF hcl hKn hl
                  go_simp
                  exact hk
                · simp only [List.getElem?_toArray, List.getElem?_cons_zero, List.getElem?_cons_succ, Option.some.injEq] at ho
                  subst ho
                  simp [Region.binds] at hdep
                  obtain rfl : .string nm = u := by simpa using hl
                  have e83 := hKn.ev hF 4 rfl rfl rfl (by simp [hdep])
                  have cn5 := cell_in CN0.out hI.boxes.1
                  clear hF hcl hKn hl
                  go_simp
                  exact hk
                · simp only [List.getElem?_toArray, List.getElem?_cons_zero, List.getElem?_cons_succ, Option.some.injEq] at ho
                  subst ho
                  obtain rfl : .slice (some ⟨gi, offi, none⟩) n cb = u := by simpa using hl
                  have e2 := hF.ev0 (by kernel_rfl) z2
                  clear hF hcl hKn hl
                  go_simp
                  exact hk
                · simp only [List.getElem?_toArray, List.getElem?_cons_zero, List.getElem?_cons_succ, Option.some.injEq] at ho
                  subst ho
                  obtain rfl : .int .i64 k = u := by simpa using hl
                  have e13 := hF.ev0 (by kernel_rfl) z13
                  clear hF hcl hKn hl
                  go_simp
                  exact hk
                · simp only [List.getElem?_toArray, List.getElem?_cons_zero, List.getElem?_cons_succ, Option.some.injEq] at ho
                  subst ho
                  simp [Region.binds] at hdep
                  obtain rfl : .pointer (some ⟨gi, offi + k, none⟩) = u := by simpa using hl
                  have e85 := hKn.ev hF 6 rfl rfl rfl (by simp [hdep])
                  have e86 := hKn.ev hF 7 rfl rfl rfl (by simp [hdep])
                  clear hF hcl hKn hl
                  go_simp
                  exact hk
                · simp only [List.getElem?_toArray, List.getElem?_cons_zero, List.getElem?_cons_succ, Option.some.injEq] at ho
                  subst ho
                  simp [Region.binds] at hdep
                  obtain rfl : .bool true = u := by simpa using hl
                  have e87 := hKn.ev hF 8 rfl rfl rfl (by simp [hdep])
                  have ci5 := cell_in CI0.out hI.boxes.1
                  clear hF hcl hKn hl
                  go_simp
                  exact hk
                · simp only [List.getElem?_toArray, List.getElem?_cons_zero, List.getElem?_cons_succ, Option.some.injEq] at ho
                  subst ho
                  obtain rfl : .pointer (some ⟨gP, 3, none⟩) = u := by simpa using hl
                  have e14 := hF.ev0 (by kernel_rfl) z14
                  clear hF hcl hKn hl
                  go_simp
                  exact hk
                · simp only [List.getElem?_toArray, List.getElem?_cons_zero, List.getElem?_cons_succ, Option.some.injEq] at ho
                  subst ho
                  simp [Region.binds] at hdep
                  obtain rfl : .slice Ao f.length co = u := by simpa using hl
                  have e89 := hKn.ev hF 10 rfl rfl rfl (by simp [hdep])
                  obtain ⟨⟨b0, b1, b2, b3, b4, b5, b6, b7⟩, bf⟩ := Blk.eight (hI.boxes.2)
                  clear hF hcl hKn hl
                  go_simp
                  exact hk
                · simp at hl
                · simp only [List.getElem?_toArray, List.getElem?_cons_zero, List.getElem?_cons_succ, Option.some.injEq] at ho
                  subst ho
                  obtain rfl : .pointer (some ⟨gP, 0, none⟩) = u := by simpa using hl
                  have e14 := hF.ev0 (by kernel_rfl) z14
                  clear hF hcl hKn hl
                  go_simp
                  exact hk
                · simp only [List.getElem?_toArray, List.getElem?_cons_zero, List.getElem?_cons_succ, Option.some.injEq] at ho
                  subst ho
                  simp [Region.binds] at hdep
                  obtain rfl : .int .i64 p.s = u := by simpa using hl
                  have e92 := hKn.ev hF 13 rfl rfl rfl (by simp [hdep])
                  obtain ⟨⟨b0, b1, b2, b3, b4, b5, b6, b7⟩, bf⟩ := Blk.eight (hI.boxes.2)
                  clear hF hcl hKn hl
                  go_simp
                  exact hk
                · simp at hl
                · simp at hl
                · simp at hl
                · simp only [List.getElem?_toArray, List.getElem?_cons_zero, List.getElem?_cons_succ, Option.some.injEq] at ho
                  subst ho
                  simp [Region.binds] at hdep
                  obtain rfl : .pointer (some ⟨W1.heap.size, 5, none⟩) = u := by simpa using hl
                  have e10 := hF.ev0 (by kernel_rfl) z10
                  clear hF hcl hKn hl
                  go_simp
                  exact hk
                · simp at hl
              · intro D x a w5 i o ho hl hD hdep hcl hF hKn hI K hk
                have hi : i < 20 := (Array.getElem?_eq_some_iff.1 ho).1
                rcases (show i = 0 ∨ i = 1 ∨ i = 2 ∨ i = 3 ∨ i = 4 ∨ i = 5 ∨ i = 6 ∨ i = 7 ∨ i = 8 ∨ i = 9 ∨ i = 10 ∨ i = 11 ∨ i = 12 ∨ i = 13 ∨ i = 14 ∨ i = 15 ∨ i = 16 ∨ i = 17 ∨ i = 18 ∨ i = 19 by omega) with rfl | rfl | rfl | rfl | rfl | rfl | rfl | rfl | rfl | rfl | rfl | rfl | rfl | rfl | rfl | rfl | rfl | rfl | rfl | rfl
                · exact absurd rfl (hl _)
                · exact absurd rfl (hl _)
                · exact absurd rfl (hl _)
                · exact absurd rfl (hl _)
                · exact absurd rfl (hl _)
                · exact absurd rfl (hl _)
                · exact absurd rfl (hl _)
                · exact absurd rfl (hl _)
                · exact absurd rfl (hl _)
                · exact absurd rfl (hl _)
                · exact absurd rfl (hl _)
                · exact absurd rfl (hl _)
                · simp only [List.getElem?_toArray, List.getElem?_cons_zero, List.getElem?_cons_succ, Option.some.injEq] at ho
                  subst ho
                  simp [Region.binds] at hdep
                  have e90 := hKn.ev hF 11 rfl rfl rfl (by simp [hdep])
                  have hfs := HOFS.out.below hI.boxes.1
                  have Es := (hF.eval (i := 11) rfl rfl (by simp [hdep])).trans (hKn 11 _ rfl (by simp [hdep]))
                  refine wp_append_sl (.const (.slice none 0 0)) (.tmp 90) 23 rfl w5.heap.size 3 _ 1 8 Try.underlying23 el3 (.slice none 0 0) 0 [] rfl (World.ownsRow_nil _ _ _ _) Ao f.length co (f.map iv) Es hfs (by simp) (oneCell_iv f) (by simp only [maxLen]; omega) (by omega) (Nat.le_refl _) ?_
                  intro A' c' w6 hown hg _
                  simp only [Nat.zero_add, List.nil_append] at hown ⊢
                  exact hk _ _ (hI.op12 hD ((Below.refl _ _).grown hg (Nat.le_refl _) (fun q hq => by cases hq)) (SlE.of_own hown))
                · exact absurd rfl (hl _)
                · exact absurd rfl (hl _)
                · simp only [List.getElem?_toArray, List.getElem?_cons_zero, List.getElem?_cons_succ, Option.some.injEq] at ho
                  subst ho
                  simp [Region.binds] at hdep
                  have e84 := hKn.ev hF 5 rfl rfl rfl (by simp [hdep])
                  have e88 := hKn.ev hF 9 rfl rfl rfl (by simp [hdep])
                  have e93 := hKn.ev hF 14 rfl rfl rfl (by simp [hdep])
                  obtain ⟨Aq, cq, hx12, hI2⟩ := hI.op15 hD (by simp [hdep])
                  have e91 := hF.ev 12 rfl rfl (by simp [hdep]) hx12
                  clear hF hcl hKn hl
                  go_simp
                  exact hk _ _ hI2
                · simp only [List.getElem?_toArray, List.getElem?_cons_zero, List.getElem?_cons_succ, Option.some.injEq] at ho
                  subst ho
                  simp [Region.binds] at hdep
                  obtain ⟨Aq, cq, hx15, hI2⟩ := hI.op16 hD (by simp [hdep])
                  have e94 := hF.ev 15 rfl rfl (by simp [hdep]) hx15
                  unfold newCase CaseV.arr at e94
                  clear hF hcl hKn hl
                  go_simp
                  exact hk _ _ hI2
                · simp only [List.getElem?_toArray, List.getElem?_cons_zero, List.getElem?_cons_succ, Option.some.injEq] at ho
                  subst ho
                  simp [Region.binds] at hdep
                  have e80 := hKn.ev hF 1 rfl rfl rfl (by simp [hdep])
                  refine hI.op17 hD (by simp [hdep]) (by omega) (.tmp 80) (.tmp 95) rfl ((hF.eval (i := 1) rfl rfl (by simp [hdep])).trans (hKn 1 _ rfl (by simp [hdep]))) (hF.eval (i := 16) rfl rfl (by simp [hdep])) ?_
                  exact hk
                · exact absurd rfl (hl _)
                · simp only [List.getElem?_toArray, List.getElem?_cons_zero, List.getElem?_cons_succ, Option.some.injEq] at ho
                  subst ho
                  simp [Region.binds] at hdep
                  have e97 := hKn.ev hF 18 rfl rfl rfl (by simp [hdep])
                  obtain ⟨A3, c3, hx17, hB, hI2⟩ := hI.op19 hD (by simp [hdep]) 5 (fun v u => rfl) undef
                  have e96 := hF.ev 17 rfl rfl (by simp [hdep]) hx17
                  obtain ⟨⟨b0, b1, b2, b3, b4, b5, b6, b7⟩, bf⟩ := Blk.eight hB
                  clear hF hcl hKn hl
                  go_simp
                  exact hk _ _ hI2
              · intro D x w9 hD hDz hKn hI
                obtain ⟨Aq, cq, A3, c3, hx17, HB⟩ := hI.done (hD 19 (by decide))
                have HBH := Lib.hid HB
                have hlenq : (qs ++ [newCase nm true f p.s Aq cq]).length = k + 1 := by rw [List.length_append, hql.out]; rfl
                have HLQ := Lib.hid hlenq
                clear hI hD hDz hKn HB HBASE hlenq
                rw [HA0.out]
                simp [putsAll, List.range, List.range.loop, Act.put, hx17]
                clear hx17
                go_wp2
                go_roundw
                case rel =>
                  refine ⟨k + 1, A4, c4, A3, c3, qs ++ [newCase nm true f p.s Aq cq], ts ++ [T], by omega, by go_num, HLQ.out, HTL5.out, rfl, by go_num, HBH.out.sum, ?_, HBH.out.rb, KEY2.out, ?_⟩
                  · have h := HBH.out.box; rw [hql.out] at h; exact h
                  · intro i h h1 h2 h3 h4
                    rcases Nat.lt_or_ge i qs.length with hi | hi
                    · rw [List.getElem_append_left hi]; exact hcase.out i hi h1 h2 h3 h4
                    · have hik : i = k := by have := hql.out; rw [HLQ.out] at h; omega
                      subst hik
                      rw [List.getElem_append_right hi]
                      simp only [hql.out, Nat.sub_self, List.getElem_cons_zero]
                      rw [HNK.out, HBK.out, HFK.out, HPK.out]
                      exact ⟨rfl, rfl, rfl, rfl, rfl⟩
                case measure => simp [intOf]; omega
          · have hkn : n = k := by omega
            subst hkn
            have hkey2 : ts.map Part.key = (inside ps bs).map Part.key := by
              have h := hkey.out
              rw [List.take_of_length_le (by rw [inside_length ps bs (by rw [HN.out, HBN.out]), HN.out]; exact Nat.le_refl _)] at h
              exact h
            have hbd := inside_bd (bs := bs) HVAL.out
            rw [← sizeP_key hkey2, ← alP_key hkey2] at hbd
            have hU : unionR (inside ps bs) ps.length = unionR ts n := by rw [HN.out]; exact (unionR_key n hkey2).symm
            obtain ⟨N, hN⟩ : ∃ N : Nat, sizeP ts = N := Int.eq_ofNat_of_zero_le hbd.1
            rw [hN] at hbd ⊢
            have hNle : N ≤ 1024 := by omega
            have hparts : Parts wr At ts := by have h := H.ownT; rw [htl.out] at h; exact parts_own h
            have hsp2 : ∀ t ∈ ts, Sl wr t.A (t.sp.map bv) := fun t ht => (H.tl t ht).elim (fun s => s.below H.below) (fun s => s.sl)
            have F := H.fin hO hR (by omega) (by omega) (by omega)
            have hcapC := own_cap H.ownC
            rw [hql.out] at hcapC
            have hszn := sizeP_none ts
            rw [hN] at hszn
            have HU := Lib.hid hU
            have HNN2 := Lib.hid hN
            have HPARTS := Lib.hid hparts
            have HSP2 := Lib.hid hsp2
            have HONE2 := Lib.hid (fun t ht => (H.one t ht).1)
            have HLEN2 := Lib.hid (fun t ht => (H.one t ht).2)
            have HSZN := Lib.hid hszn
            have FF := Lib.hid F
            have hK : tagS n ≤ 63 := by unfold tagS; split; omega; have := tagGo_le n 62 0; omega
            have hnI : (n : Int) ≤ 12 := by omega
            clear hkey2 hU hN hparts hsp2 F H hO hR hkey hlt hszn
            obtain ⟨W2, hW2⟩ : ∃ W2, W2 = wr := ⟨_, rfl⟩
            rw [← hW2] at FF HPARTS HSP2 ⊢
            clear hW2
            by_cases hpos : 0 < N
            · have hcl : clampN (N : Int) = N := by unfold clampN; omega
              have HCL := Lib.hid hcl
              clear hcl
              go_wp2_with fail
              refine (rextend_any none 0 0 [] (N : Int) _ rfl Sl.nil (by omega)).mono ?_
              rintro e w5 ⟨A1, c1, rfl, own1, hb1⟩
              rw [HCL.out] at own1 ⊢
              have own1' := own_base own1 (show w.heap.size ≤ W2.heap.size from FF.out.below.size)
              clear own1
              go_wp2_with fail
              go_loopw [16, 105] (fun v16 v105 wr => ∃ (j : Nat) (A5 : Option Addr) (c5 : Nat), j ≤ n ∧ v105 = .int .i64 j ∧ v16 = .slice A5 N c5 ∧ wr.ownsRow w.heap.size 5 1 (.slice A5 N c5) N (((ts.take j).foldl (meet N) (extB [] N)).map bv) ∧ Below W2.heap.size W2 wr) (fun _ v105 _ => n - (intOf v105).toNat)
              case atStart => exact ⟨0, A1, c1, by omega, rfl, rfl, own1', hb1⟩
              case round =>
                obtain ⟨j, A5, c5, hj, rfl, rfl, hown, hbl⟩ := hrel
                clear own1' hb1
                by_cases hlt : j < n
                · have hkp : j < ts.length := by rw [htl.out]; exact hlt
                  obtain ⟨gt, offt, rfl, c0, c1', c2, c3, c4, c5', c6, c7⟩ := (HPARTS.out.below hbl).get hkp
                  have hpo := HONE2.out ts[j] (List.getElem_mem hkp)
                  have hps := (HSP2.out ts[j] (List.getElem_mem hkp)).below hbl
                  have hp63 := HLEN2.out ts[j] (List.getElem_mem hkp)
                  have hft := fold_take N ts j hkp (extB [] N)
                  have hol := fold_length N (ts.take j) (extB [] N) (extB_length _ _)
                  generalize ts[j] = p at *
                  have sx3 := store_var (P := Try.prog) hpo.h3
                  have sx4 := store_var (P := Try.prog) hpo.h4
                  have sx5 := store_var (P := Try.prog) hpo.h5
                  have sx6 := store_var (P := Try.prog) hpo.h6
                  have sx7 := store_var (P := Try.prog) hpo.h7
                  have hbn := (Below.refl wr.heap.size wr).alloc (Nat.le_refl _) (.cells #[.int .i64 p.s, .int .i64 p.al, .slice p.A p.sp.length p.c, p.x3, p.x4, p.x5, p.x6, p.x7] 31)
                  have HFT := Lib.hid hft
                  have HOL := Lib.hid hol
                  have HPS := Lib.hid (hps.below hbn)
                  have HOWN := Lib.hid (below_own hown hbn)
                  have HBN := Lib.hid (below_next hbl hbn)
                  clear hpo hps hft hol hbn hown hbl
                  by_cases hps0 : 0 < p.s
                  · go_wp2_with fail
                    refine (rextend_any p.A p.sp.length p.c p.sp (N : Int) _ rfl HPS.out hp63).mono ?_
                    rintro e w6 ⟨A2, c2, rfl, own2, hb2⟩
                    rw [HCL.out] at own2 ⊢
                    have hown6 := below_own HOWN.out hb2
                    have hb6 := below_next HBN.out hb2
                    have hs2 := Sl.of_own own2
                    have hs6 := Sl.of_own hown6
                    clear own2
                    go_wp2_with fail
                    refine (rand_any A5 N c5 _ A2 N c2 (extB p.sp N) _ HOL.out hs6 (by omega) (extB_length _ _) hs2 (by omega)).mono ?_
                    rintro e w7 ⟨A3, c3', rfl, own3, hb3⟩
                    rw [Nat.min_self] at own3 ⊢
                    have hme : meet N ((ts.take j).foldl (meet N) (extB [] N)) p = andB ((ts.take j).foldl (meet N) (extB [] N)) (extB p.sp N) := by unfold meet; rw [if_pos hps0]
                    have HME := Lib.hid hme
                    have HOWN3 := Lib.hid (own_base own3 (show w.heap.size ≤ w6.heap.size from Nat.le_trans FF.out.below.size hb6.size))
                    have HB3 := Lib.hid (below_next hb6 hb3)
                    clear own3 hb3 hb2 hme hs2 hs6 hown6 hb6
                    go_wp2_with fail
                    go_roundw
                    case rel => exact ⟨j + 1, A3, c3', by omega, by go_num, rfl, (by rw [HFT.out, HME.out]; exact HOWN3.out), HB3.out⟩
                    case measure => simp [intOf]; omega
                  · have hme : meet N ((ts.take j).foldl (meet N) (extB [] N)) p = (ts.take j).foldl (meet N) (extB [] N) := by unfold meet; rw [if_neg hps0]
                    have HME := Lib.hid hme
                    clear hme
                    go_wp2_with fail
                    go_roundw
                    case rel => exact ⟨j + 1, A5, c5, by omega, by go_num, rfl, (by rw [HFT.out, HME.out]; exact HOWN.out), HBN.out⟩
                    case measure => simp [intOf]; omega
                · obtain rfl : n = j := by omega
                  have htk : ts.take n = ts := List.take_of_length_le (by rw [htl.out]; exact Nat.le_refl _)
                  rw [htk] at hown
                  have hany : ts.any (fun p => decide (0 < p.s)) = true := by
                    cases ha : ts.any (fun p => decide (0 < p.s)) with
                    | true => rfl
                    | false => have := HSZN.out ha; omega
                  have hc : commonB ts N = ts.foldl (meet N) (extB [] N) := by unfold commonB; rw [if_pos hany]
                  rw [← hc] at hown
                  have F2 := FF.out.under hbl
                  have HLC := Lib.hid (commonB_length ts N)
                  have HOWN2 := Lib.hid hown
                  have HF2 := Lib.hid F2
                  obtain ⟨w2, hw2⟩ : ∃ w2, w2 = wr := ⟨_, rfl⟩
                  rw [← hw2] at HF2 HOWN2 ⊢
                  clear hw2 htk hany hc hown hbl F2 HCL
                  go_wp2_with fail
                  refine (rtagsize_any (n : Int) _ (by omega) (by omega)).mono ?_
                  rintro e w3 ⟨rfl, rfl⟩
                  by_cases hyes : tagS n ≤ countB (commonB ts N)
                  · go_wp2_with fail
                    refine (rbits_yes A5 N c5 (commonB ts N) (tagS n) _ HLC.out (Sl.of_own HOWN2.out) (by omega) hyes).mono ?_
                    rintro e w3 ⟨Az, cz, rfl, own3, hb3⟩
                    have own2' := below_own HOWN2.out hb3
                    have F3 := HF2.out.under hb3
                    have hsz3 := hb3.size
                    have hS3 : SlE w3 3 Az ((bitsN (commonB ts N) (tagS n)).map natv) := SlE.of_own own3
                    have hcap3 := own_cap own3
                    have hlb : (bitsN (commonB ts N) (tagS n)).length = tagS n := by have := own3.1; simpa using this
                    have HLB := Lib.hid hlb
                    have HF3 := Lib.hid F3
                    have HS3 := Lib.hid hS3
                    have HOWN2' := Lib.hid own2'
                    have HYES := Lib.hid hyes
                    clear hyes own2' own3 F3 hS3 hb3 hlb
                    go_wp2_with fail
                    refine (rclear_any A5 N c5 (commonB ts N) Az (tagS n) cz (intsN (bitsN (commonB ts N) (tagS n))) _ HLC.out (Sl.of_own HOWN2'.out) (by omega) (by rw [intsN_length, HLB.out]) (by rw [← natv_ints]; exact HS3.out.sl) (by omega) (ib_bits _ _ (by rw [HLC.out]; omega))).mono ?_
                    rintro e w4 ⟨A4, c4, rfl, own4, hb4⟩
                    have F4 := HF3.out.under hb4
                    have hS4 := HS3.out.below hb4
                    have hS5 : SlE w4 5 A4 ((clearB (commonB ts N) (intsN (bitsN (commonB ts N) (tagS n)))).map bv) := SlE.of_own own4
                    have hcap4 := own_cap own4
                    have F5 : FinAt w W1.heap.size w.heap.size Ac qs #[.int .i64 ((N : Nat) : Int), .int .i64 (alP ts), .slice none 0 0, .slice none 0 0, .slice none 0 0, .slice Ac n cc, .slice none 0 0, .bool false] #[.int .i64 0, .int .i64 0, .slice none 0 0, .slice none 0 0, .slice none 0 0, .slice none 0 0, .slice none 0 0, .bool false] (w4.setCell ⟨W1.heap.size, 0, none⟩ (.int .i64 ((N : Nat) : Int))) := F4.setO 0 (.int .i64 ((N : Nat) : Int))
                    have hS6 := hS4.grown (grown_set w4 W1.heap.size 0 (.int .i64 ((N : Nat) : Int))) F4.box (by decide)
                    have hS7 := hS5.grown (grown_set w4 W1.heap.size 0 (.int .i64 ((N : Nat) : Int))) F4.box (by decide)
                    have HFIN := Lib.hid (F5.finish hS7 hS6 (.slice Az (tagS n) cz) (.slice A4 N c4))
                    obtain ⟨⟨o0, o1, o2, o3, o4, o5, o6, o7⟩, of_⟩ := F4.box.eight
                    obtain ⟨⟨r0, r1, r2, r3, r4, r5, r6, r7⟩, rf_⟩ := F4.rb.eight
                    have hneR : ¬ W1.heap.size = w.heap.size := by omega
                    have hneR' : ¬ w.heap.size = W1.heap.size := by omega
                    clear F4 F5 hS4 hS5 hS6 hS7 own4 hb4
                    go_wp2
                    refine bodyPost_genF HFIN.out ?_
                    clear HFIN o0 o1 o2 o3 o4 o5 o6 o7 of_ r0 r1 r2 r3 r4 r5 r6 r7 rf_
                    intro W ⟨FW, h5, h3⟩
                    obtain ⟨⟨c0, c1, c2, c3, c4', c5, c6, c7⟩, _⟩ := FW.rb.eight
                    have hun : unionR (inside ps bs) ps.length = some ⟨sizeP ts, alP ts, clearB (commonB ts N) (intsN (bitsN (commonB ts N) (tagS n))), bitsN (commonB ts N) (tagS n)⟩ := by
                      rw [HU.out]
                      unfold unionR
                      simp only [HNN2.out, Int.toNat_natCast]
                      rw [if_pos HYES.out]
                    refine bodyPost_ret (v := .tuple #[.agg #[.int .i64 ((N : Nat) : Int), .int .i64 (alP ts), .slice A4 N c4, .slice none 0 0, .slice none 0 0, .slice Ac n cc, .slice Az (tagS n) cz, .bool false], .int .i64 0]) (by simp [results, Try.results58, go_sem, c0, c1, c2, c3, c4', c5, c6, c7]) rfl ?_
                    refine .inr (.inr ⟨HANY.out, by omega, .inr ⟨_, A4, c4, Ac, cc, Az, cz, qs, hun, ?_, ?_, FW.below⟩⟩)
                    · unfold unV
                      simp only [clearB_length, HLC.out, HLB.out, HNN2.out, HN.out]
                    · refine ⟨h5, h3, FW.cases, by rw [hql.out, HN.out], hcase.out, FW.cl, by simp only [clearB_length, HLC.out]; exact hcap4, by rw [HN.out]; exact hcapC, by rw [HLB.out]; exact hcap3⟩
                  · have hno : (tagS n : Int) < 0 ∨ (countB (commonB ts N) : Int) < tagS n := .inr (by omega)
                    have HNO := Lib.hid hyes
                    have HNO2 := Lib.hid hno
                    clear hyes hno
                    by_cases hfull : N = 1024
                    · have hfd : decide ((1024 : Int) < ((N : Nat) : Int) + 1) = true := by first | (simp; omega) | simp
                      have hR2 := HF2.out.rb
                      have HFIN := Lib.hid (HF2.out.set8 rfl (.int .i64 0) (.int .i64 0) (.slice none 0 0) (.slice none 0 0) (.slice none 0 0) (.slice none 0 0) (.slice none 0 0) (.bool false))
                      obtain ⟨⟨r0, r1, r2, r3, r4, r5, r6, r7⟩, rf_⟩ := hR2.eight
                      have HFULL := Lib.hid hfull
                      clear hR2 hfull
                      go_wp2_with fail
                      refine (rbits_no A5 N c5 (commonB ts N) (tagS n) _ HLC.out (Sl.of_own HOWN2.out) (by omega) HNO2.out).mono ?_
                      rintro e w3 ⟨rfl, rfl⟩
                      go_wp2
                      refine bodyPost_genF HFIN.out ?_
                      clear HFIN r0 r1 r2 r3 r4 r5 r6 r7 rf_
                      intro W FW
                      obtain ⟨⟨c0, c1, c2, c3, c4', c5, c6, c7⟩, _⟩ := FW.rb.eight
                      refine bodyPost_ret (v := .tuple #[zero31, .int .i64 4]) (by simp [results, Try.results58, go_sem, c0, c1, c2, c3, c4', c5, c6, c7, zero31]) rfl ?_
                      refine .inr (.inr ⟨HANY.out, by omega, .inl ⟨?_, rfl, FW.below⟩⟩)
                      rw [HU.out]
                      unfold unionR
                      simp only [HNN2.out, Int.toNat_natCast]
                      rw [if_neg HNO.out, if_pos (by rw [HFULL.out]; rfl)]
                    · have hfd : decide ((1024 : Int) < ((N : Nat) : Int) + 1) = false := by first | (simp; omega) | simp
                      have HFULL := Lib.hid hfull
                      have hM24 : N ≤ 1023 := by omega
                      clear hfull
                      obtain ⟨⟨o0, o1, o2, o3, o4, o5, o6, o7⟩, of_⟩ := HF2.out.box.eight
                      have F6 := (FinL.of HF2.out).setO 0 (.int .i64 (((N : Nat) : Int) + 1))
                      have hF6 : FinL w W1.heap.size w.heap.size Ac qs #[.int .i64 (((N : Nat) : Int) + 1), .int .i64 (alP ts), .slice none 0 0, .slice none 0 0, .slice none 0 0, .slice Ac n cc, .slice none 0 0, .bool false] #[.int .i64 0, .int .i64 0, .slice none 0 0, .slice none 0 0, .slice none 0 0, .slice none 0 0, .slice none 0 0, .bool false] w2.heap.size (w2.setCell ⟨W1.heap.size, 0, none⟩ (.int .i64 (((N : Nat) : Int) + 1))) := F6
                      have hown6 : (w2.setCell ⟨W1.heap.size, 0, none⟩ (.int .i64 (((N : Nat) : Int) + 1))).ownsRow w.heap.size 5 1 (.slice A5 N c5) N ((commonB ts N).map bv) := HOWN2.out.kept (grown_set w2 W1.heap.size 0 _) (own_blk_ne HOWN2.out HF2.out.box (by decide))
                      have HF6 := Lib.hid hF6
                      have HOWN6 := Lib.hid hown6
                      clear F6 hF6 hown6 o1 o2 o3 o4 o5 o6 o7
                      go_wp2_with fail
                      refine (rbits_no A5 N c5 (commonB ts N) (tagS n) _ HLC.out (Sl.of_own HOWN2.out) (by omega) HNO2.out).mono ?_
                      rintro e w3 ⟨rfl, rfl⟩
                      go_wp2_with fail
                      clear o0 of_
                      go_loopw [22] (fun v22 wq => ∃ (j : Nat) (Az : Option Addr) (cz : Nat), j ≤ tagS n ∧ v22 = .int .i64 j ∧ wq.ownsRow w2.heap.size 3 1 (.slice Az j cz) j ((tagsOut N j).map natv) ∧ FinL w W1.heap.size w.heap.size Ac qs #[.int .i64 (((N : Nat) : Int) + 1), .int .i64 (alP ts), .slice none 0 0, .slice none 0 0, .slice none 0 0, .slice Ac n cc, .slice Az j cz, .bool false] #[.int .i64 0, .int .i64 0, .slice none 0 0, .slice none 0 0, .slice none 0 0, .slice none 0 0, .slice none 0 0, .bool false] w2.heap.size wq ∧ wq.ownsRow w.heap.size 5 1 (.slice A5 N c5) N ((commonB ts N).map bv)) (fun v22 _ => tagS n - (intOf v22).toNat)
                      case atStart => exact ⟨0, none, 0, by omega, rfl, World.ownsRow_nil _ _ _ _, HF6.out, HOWN6.out⟩
                      case round =>
                        obtain ⟨j, Az, cz, hj, rfl, own, FQ, ownq⟩ := hrel
                        clear HF6 HOWN6
                        obtain ⟨⟨o0, o1, o2, o3, o4, o5, o6, o7⟩, of_⟩ := FQ.box.eight
                        have hOlq := FQ.box.lt
                        by_cases hjt : j < tagS n
                        · clear o0 o1 o2 o3 o4 o5 o7
                          obtain ⟨A', c', wz, hrun, own', hg'⟩ := run_append1 (P := Try.prog) w2.heap.size 23 23 3 _ 8 Try.underlying23 el3 (by omega) Az j cz _ own (.int .i64 (8 * ((N : Nat) : Int) + (j : Int))) rfl (by omega) FQ.bw
                          have F7 := FQ.own3 own hg' (Nat.le_refl _)
                          have e : (tagsOut N (j + 1)).map natv = (tagsOut N j).map natv ++ [.int .i64 (8 * ((N : Nat) : Int) + (j : Int))] := by rw [tagsOut_succ, List.map_append]; simp [natv]
                          rw [← e] at own'
                          have ownq' := ownq.kept hg' (own_own_ne ownq own (by decide))
                          have F8 := F7.setO 6 (.slice A' (j + 1) c')
                          have hF8 : FinL w W1.heap.size w.heap.size Ac qs #[.int .i64 (((N : Nat) : Int) + 1), .int .i64 (alP ts), .slice none 0 0, .slice none 0 0, .slice none 0 0, .slice Ac n cc, .slice A' (j + 1) c', .bool false] #[.int .i64 0, .int .i64 0, .slice none 0 0, .slice none 0 0, .slice none 0 0, .slice none 0 0, .slice none 0 0, .bool false] w2.heap.size (wz.setCell ⟨W1.heap.size, 6, none⟩ (.slice A' (j + 1) c')) := F8
                          have hown8 := own'.kept (grown_set wz W1.heap.size 6 (.slice A' (j + 1) c')) (own_blk_ne own' F7.box (by decide))
                          have hownq8 := ownq'.kept (grown_set wz W1.heap.size 6 (.slice A' (j + 1) c')) (own_blk_ne ownq' F7.box (by decide))
                          have hcO6 := F7.box.cell 6
                          have hfO6 := F7.box.frozen 6
                          have hlO6 := F7.box.lt
                          have HF8 := Lib.hid hF8
                          have HOWN8 := Lib.hid hown8
                          have HOWNQ8 := Lib.hid hownq8
                          have HSZQ := hg'.size
                          clear F8 hF8 hown8 hownq8 own' ownq' F7 FQ own ownq hg' e
                          go_wp2_with fail
                          go_roundw
                          case rel => exact ⟨j + 1, A', c', by omega, by go_num, HOWN8.out, HF8.out, HOWNQ8.out⟩
                          case measure => simp [intOf]; omega
                        · obtain rfl : j = tagS n := by omega
                          have hcapZ := own_cap own
                          have hst : TagSt w W1.heap.size w.heap.size Ac qs (fun v => #[.int .i64 (((N : Nat) : Int) + 1), .int .i64 (alP ts), v, .slice none 0 0, .slice none 0 0, .slice Ac n cc, .slice Az (tagS n) cz, .bool false]) #[.int .i64 0, .int .i64 0, .slice none 0 0, .slice none 0 0, .slice none 0 0, .slice none 0 0, .slice none 0 0, .bool false] (.slice A5 N c5) N (commonB ts N) Az (tagsOut N (tagS n)) (fun _ => false) (fun _ => undef) wr.drew :=
                            .s0 rfl rfl rfl rfl (FQ.fin.under ⟨rfl, rfl, rfl, Nat.le_refl _, fun _ _ => rfl⟩) (SlE.of_own own) ownq
                          have HST := Lib.hid hst
                          have HLC5 : Hid ((commonB ts N ++ [255]).length = N + 1) := by show _ = _; rw [List.length_append, HLC.out]; rfl
                          clear FQ own ownq hst o0 o1 o2 o3 o4 o5 o6 o7 of_
                          go_wp2_with fail
                          refine gen_act fun a0 ha0 => ?_
                          have z10 : a0.eval (.tmp 10) = .pointer (some ⟨W1.heap.size, 0, none⟩) := by rw [ha0]; rfl
                          have z16 : a0.eval (.tmp 16) = .slice A5 N c5 := by rw [ha0]; rfl
                          have zs : a0.tmps.size = 167 := by rw [ha0]; rfl
                          have HA0 := Lib.hid ha0
                          clear ha0
                          refine wp_region_known (by kernel_rfl) (ord_of (by kernel_rfl)) (dst_of (by kernel_rfl)) (size_of' (n := 167) (by kernel_rfl) zs) (guard_of (by kernel_rfl)) [some (.slice A5 N c5), none, none, some (.pointer (some ⟨W1.heap.size, 6, none⟩)), some (.slice Az (tagS n) cz), none, some (.pointer (some ⟨W1.heap.size, 2, none⟩)), none] (TagSt w W1.heap.size w.heap.size Ac qs (fun v => #[.int .i64 (((N : Nat) : Int) + 1), .int .i64 (alP ts), v, .slice none 0 0, .slice none 0 0, .slice Ac n cc, .slice Az (tagS n) cz, .bool false]) #[.int .i64 0, .int .i64 0, .slice none 0 0, .slice none 0 0, .slice none 0 0, .slice none 0 0, .slice none 0 0, .bool false] (.slice A5 N c5) N (commonB ts N) Az (tagsOut N (tagS n))) HST.out ?_ ?_ ?_ ?_
                          · intro i u D x w5 hl hD hI
                            have hi : i < 8 := by have h := (List.getElem?_eq_some_iff.1 hl).1; simpa using h
                            have hnh : i ≠ 1 ∧ i ≠ 2 ∧ i ≠ 5 ∧ i ≠ 7 := by
                              refine ⟨?_, ?_, ?_, ?_⟩ <;> (rintro rfl; simp at hl)
                            exact hI.ins i u hnh.1 hnh.2.1 hnh.2.2.1 hnh.2.2.2
                          · intro D x a w5 i o u ho hl hD hdep hcl hF hKn hI K hk
                            have hi : i < 8 := (Array.getElem?_eq_some_iff.1 ho).1
                            rcases (show i = 0 ∨ i = 1 ∨ i = 2 ∨ i = 3 ∨ i = 4 ∨ i = 5 ∨ i = 6 ∨ i = 7 by omega) with rfl | rfl | rfl | rfl | rfl | rfl | rfl | rfl
                            · simp only [List.getElem?_toArray, List.getElem?_cons_zero, Option.some.injEq] at ho
                              subst ho
                              obtain rfl : .slice A5 N c5 = u := by simpa using hl
                              have e16 := hF.ev0 (by kernel_rfl) z16
                              clear hF hcl hKn hl
                              go_simp
                              exact hk
                            · simp at hl
                            · simp at hl
                            · simp only [List.getElem?_toArray, List.getElem?_cons_zero, List.getElem?_cons_succ, Option.some.injEq] at ho
                              subst ho
                              obtain rfl : .pointer (some ⟨W1.heap.size, 6, none⟩) = u := by simpa using hl
                              have e10 := hF.ev0 (by kernel_rfl) z10
                              clear hF hcl hKn hl
                              go_simp
                              exact hk
                            · simp only [List.getElem?_toArray, List.getElem?_cons_zero, List.getElem?_cons_succ, Option.some.injEq] at ho
                              subst ho
                              simp [Region.binds] at hdep
                              obtain rfl : .slice Az (tagS n) cz = u := by simpa using hl
                              have e162 := hKn.ev hF 3 rfl rfl rfl (by simp [hdep])
                              have c7 : D 7 = false := by
                                cases hx : D 7 with
                                | false => rfl
                                | true =>
                                  have hy := hcl 7 _ rfl hx
                                  simp [Region.binds] at hy
                                  have hy5 := hcl 5 _ rfl (by simp [hy])
                                  simp [Region.binds] at hy5
                                  simp [hy5] at hD
                              have hB := hI.box c7
                              obtain ⟨⟨b0, b1, b2, b3, b4, b5, b6, b7⟩, bf⟩ := Blk.eight hB
                              clear hF hcl hKn hl
                              go_simp
                              exact hk
                            · simp at hl
                            · simp only [List.getElem?_toArray, List.getElem?_cons_zero, List.getElem?_cons_succ, Option.some.injEq] at ho
                              subst ho
                              simp [Region.binds] at hdep
                              obtain rfl : .pointer (some ⟨W1.heap.size, 2, none⟩) = u := by simpa using hl
                              have e10 := hF.ev0 (by kernel_rfl) z10
                              clear hF hcl hKn hl
                              go_simp
                              exact hk
                            · simp at hl
                          · intro D x a w5 i o ho hl hD hdep hcl hF hKn hI K hk
                            have hi : i < 8 := (Array.getElem?_eq_some_iff.1 ho).1
                            rcases (show i = 0 ∨ i = 1 ∨ i = 2 ∨ i = 3 ∨ i = 4 ∨ i = 5 ∨ i = 6 ∨ i = 7 by omega) with rfl | rfl | rfl | rfl | rfl | rfl | rfl | rfl
                            · exact absurd rfl (hl _)
                            · simp only [List.getElem?_toArray, List.getElem?_cons_zero, List.getElem?_cons_succ, Option.some.injEq] at ho
                              subst ho
                              clear hF hcl hKn hl
                              go_simp
                              exact hk _ _ (hI.op1 hD)
                            · simp only [List.getElem?_toArray, List.getElem?_cons_zero, List.getElem?_cons_succ, Option.some.injEq] at ho
                              subst ho
                              simp [Region.binds] at hdep
                              have e159 := hKn.ev hF 0 rfl rfl rfl (by simp [hdep])
                              refine hI.op2 hD (by simp [hdep]) (by omega) (.tmp 159) (.tmp 160) rfl ((hF.eval (i := 0) rfl rfl (by simp [hdep])).trans (hKn 0 _ rfl (by simp [hdep]))) (hF.eval (i := 1) rfl rfl (by simp [hdep])) ?_
                              exact hk
                            · exact absurd rfl (hl _)
                            · exact absurd rfl (hl _)
                            · simp only [List.getElem?_toArray, List.getElem?_cons_zero, List.getElem?_cons_succ, Option.some.injEq] at ho
                              subst ho
                              simp [Region.binds] at hdep
                              have e163 := hKn.ev hF 4 rfl rfl rfl (by simp [hdep])
                              obtain ⟨A5q, c5q, hx2, hs5, htz, hnx⟩ := hI.op5 hD (by simp [hdep])
                              have e161 := hF.ev 2 rfl rfl (by simp [hdep]) hx2
                              clear hF hcl hKn hl
                              go_simp
                              refine (rclear_any A5q (N + 1) c5q (commonB ts N ++ [255]) Az (tagS n) cz (intsN (tagsOut N (tagS n))) _ HLC5.out hs5.sl (by omega) (by rw [intsN_length, tagsOut_length]) (by rw [← natv_ints]; exact htz.sl) (by omega) (tagsOut_ib _ _ (by omega))).mono ?_
                              rintro e w6 ⟨A6, c6, rfl, own6, hb6⟩
                              exact hk _ _ (hnx _ A6 c6 hb6 (SlE.of_own own6) (own_cap own6))
                            · exact absurd rfl (hl _)
                            · simp only [List.getElem?_toArray, List.getElem?_cons_zero, List.getElem?_cons_succ, Option.some.injEq] at ho
                              subst ho
                              simp [Region.binds] at hdep
                              have e165 := hKn.ev hF 6 rfl rfl rfl (by simp [hdep])
                              obtain ⟨A6, c6, hx5, hB, hI2⟩ := hI.op7 hD (by simp [hdep]) (fun v u => rfl) undef
                              have e164 := hF.ev 5 rfl rfl (by simp [hdep]) hx5
                              obtain ⟨⟨b0, b1, b2, b3, b4, b5, b6, b7⟩, bf⟩ := Blk.eight hB
                              clear hF hcl hKn hl
                              go_simp
                              exact hk _ _ hI2
                          · intro D x w9 hD hDz hKn hI
                            obtain ⟨A6, c6, F9, hT9, hS9, hcap6⟩ := hI.done (hD 7 (by decide))
                            have hF9 : FinAt w W1.heap.size w.heap.size Ac qs #[.int .i64 (((N : Nat) : Int) + 1), .int .i64 (alP ts), .slice A6 (N + 1) c6, .slice none 0 0, .slice none 0 0, .slice Ac n cc, .slice Az (tagS n) cz, .bool false] #[.int .i64 0, .int .i64 0, .slice none 0 0, .slice none 0 0, .slice none 0 0, .slice none 0 0, .slice none 0 0, .bool false] w9 := F9
                            obtain ⟨⟨q0, q1, q2, q3, q4, q5, q6, q7⟩, qf⟩ := hF9.box.eight
                            obtain ⟨⟨r0, r1, r2, r3, r4, r5, r6, r7⟩, rf_⟩ := hF9.rb.eight
                            have h8 := only8 w9 w.heap.size (.int .i64 (((N : Nat) : Int) + 1)) (.int .i64 (alP ts)) (.slice A6 (N + 1) c6) (.slice none 0 0) (.slice none 0 0) (.slice Ac n cc) (.slice Az (tagS n) cz) (.bool false)
                            have HFIN := Lib.hid (FinEnd.mk (hF9.set8 rfl (.int .i64 (((N : Nat) : Int) + 1)) (.int .i64 (alP ts)) (.slice A6 (N + 1) c6) (.slice none 0 0) (.slice none 0 0) (.slice Ac n cc) (.slice Az (tagS n) cz) (.bool false)) (hS9.grown h8 hF9.rb (by decide)) (hT9.grown h8 hF9.rb (by decide)))
                            have hneR : ¬ W1.heap.size = w.heap.size := by omega
                            have hneR' : ¬ w.heap.size = W1.heap.size := by omega
                            clear hI hD hDz hKn F9 hF9 hT9 hS9 h8 HST
                            rw [HA0.out]
                            simp [putsAll, List.range, List.range.loop, Act.put]
                            go_wp2
                            refine bodyPost_genF HFIN.out ?_
                            clear HFIN q0 q1 q2 q3 q4 q5 q6 q7 qf r0 r1 r2 r3 r4 r5 r6 r7 rf_
                            intro W ⟨FW, h5, h3⟩
                            obtain ⟨⟨c0, c1, c2, c3, c4', c5', c6', c7⟩, _⟩ := FW.rb.eight
                            have hun : unionR (inside ps bs) ps.length = some ⟨sizeP ts + 1, alP ts, clearB (commonB ts N ++ [255]) (intsN (tagsOut N (tagS n))), tagsOut N (tagS n)⟩ := by
                              rw [HU.out]
                              unfold unionR
                              simp only [HNN2.out, Int.toNat_natCast]
                              rw [if_neg HNO.out, if_neg (by have := HFULL.out; omega)]
                            refine bodyPost_ret (v := .tuple #[.agg #[.int .i64 (((N : Nat) : Int) + 1), .int .i64 (alP ts), .slice A6 (N + 1) c6, .slice none 0 0, .slice none 0 0, .slice Ac n cc, .slice Az (tagS n) cz, .bool false], .int .i64 0]) (by simp [results, Try.results58, go_sem, c0, c1, c2, c3, c4', c5', c6', c7]) rfl ?_
                            refine .inr (.inr ⟨HANY.out, by omega, .inr ⟨_, A6, c6, Ac, cc, Az, cz, qs, hun, ?_, ?_, FW.below⟩⟩)
                            · unfold unV
                              simp only [clearB_length, HLC5.out, tagsOut_length, HNN2.out, HN.out]
                            · refine ⟨h5, h3, FW.cases, by rw [hql.out, HN.out], hcase.out, FW.cl, by simp only [clearB_length, HLC5.out]; exact hcap6, by rw [HN.out]; exact hcapC, by rw [tagsOut_length]; exact hcapZ⟩
            · obtain rfl : N = 0 := by omega
              have hown : W2.ownsRow w.heap.size 5 1 (.slice none 0 0) 0 ((commonB ts 0).map bv) := by
                have h1 : commonB ts 0 = [] := List.eq_nil_of_length_eq_zero (commonB_length ts 0)
                rw [h1]; exact World.ownsRow_nil _ _ _ _
              have HLC := Lib.hid (commonB_length ts 0)
              have HOWN2 := Lib.hid hown
              have HF2 := Lib.hid FF.out
              obtain ⟨w2, hw2⟩ : ∃ w2, w2 = W2 := ⟨_, rfl⟩
              rw [← hw2] at HF2 HOWN2 ⊢
              clear hw2 hown
              go_wp2_with fail
              refine (rtagsize_any (n : Int) _ (by omega) (by omega)).mono ?_
              rintro e w3 ⟨rfl, rfl⟩
              by_cases hyes : tagS n ≤ countB (commonB ts 0)
              · go_wp2_with fail
                refine (rbits_yes none 0 0 (commonB ts 0) (tagS n) _ HLC.out (Sl.of_own HOWN2.out) (by omega) hyes).mono ?_
                rintro e w3 ⟨Az, cz, rfl, own3, hb3⟩
                have own2' := below_own HOWN2.out hb3
                have F3 := HF2.out.under hb3
                have hsz3 := hb3.size
                have hS3 : SlE w3 3 Az ((bitsN (commonB ts 0) (tagS n)).map natv) := SlE.of_own own3
                have hcap3 := own_cap own3
                have hlb : (bitsN (commonB ts 0) (tagS n)).length = tagS n := by have := own3.1; simpa using this
                have HLB := Lib.hid hlb
                have HF3 := Lib.hid F3
                have HS3 := Lib.hid hS3
                have HOWN2' := Lib.hid own2'
                have HYES := Lib.hid hyes
                clear hyes own2' own3 F3 hS3 hb3 hlb
                go_wp2_with fail
                refine (rclear_any none 0 0 (commonB ts 0) Az (tagS n) cz (intsN (bitsN (commonB ts 0) (tagS n))) _ HLC.out (Sl.of_own HOWN2'.out) (by omega) (by rw [intsN_length, HLB.out]) (by rw [← natv_ints]; exact HS3.out.sl) (by omega) (ib_bits _ _ (by rw [HLC.out]; omega))).mono ?_
                rintro e w4 ⟨A4, c4, rfl, own4, hb4⟩
                have F4 := HF3.out.under hb4
                have hS4 := HS3.out.below hb4
                have hS5 : SlE w4 5 A4 ((clearB (commonB ts 0) (intsN (bitsN (commonB ts 0) (tagS n)))).map bv) := SlE.of_own own4
                have hcap4 := own_cap own4
                have F5 : FinAt w W1.heap.size w.heap.size Ac qs #[.int .i64 0, .int .i64 (alP ts), .slice none 0 0, .slice none 0 0, .slice none 0 0, .slice Ac n cc, .slice none 0 0, .bool false] #[.int .i64 0, .int .i64 0, .slice none 0 0, .slice none 0 0, .slice none 0 0, .slice none 0 0, .slice none 0 0, .bool false] (w4.setCell ⟨W1.heap.size, 0, none⟩ (.int .i64 0)) := F4.setO 0 (.int .i64 0)
                have hS6 := hS4.grown (grown_set w4 W1.heap.size 0 (.int .i64 0)) F4.box (by decide)
                have hS7 := hS5.grown (grown_set w4 W1.heap.size 0 (.int .i64 0)) F4.box (by decide)
                have HFIN := Lib.hid (F5.finish hS7 hS6 (.slice Az (tagS n) cz) (.slice A4 0 c4))
                obtain ⟨⟨o0, o1, o2, o3, o4, o5, o6, o7⟩, of_⟩ := F4.box.eight
                obtain ⟨⟨r0, r1, r2, r3, r4, r5, r6, r7⟩, rf_⟩ := F4.rb.eight
                have hneR : ¬ W1.heap.size = w.heap.size := by omega
                have hneR' : ¬ w.heap.size = W1.heap.size := by omega
                clear F4 F5 hS4 hS5 hS6 hS7 own4 hb4
                go_wp2
                refine bodyPost_genF HFIN.out ?_
                clear HFIN o0 o1 o2 o3 o4 o5 o6 o7 of_ r0 r1 r2 r3 r4 r5 r6 r7 rf_
                intro W ⟨FW, h5, h3⟩
                obtain ⟨⟨c0, c1, c2, c3, c4', c5, c6, c7⟩, _⟩ := FW.rb.eight
                have hun : unionR (inside ps bs) ps.length = some ⟨sizeP ts, alP ts, clearB (commonB ts 0) (intsN (bitsN (commonB ts 0) (tagS n))), bitsN (commonB ts 0) (tagS n)⟩ := by
                  rw [HU.out]
                  unfold unionR
                  simp only [HNN2.out, Int.toNat_natCast]
                  rw [if_pos HYES.out]
                refine bodyPost_ret (v := .tuple #[.agg #[.int .i64 0, .int .i64 (alP ts), .slice A4 0 c4, .slice none 0 0, .slice none 0 0, .slice Ac n cc, .slice Az (tagS n) cz, .bool false], .int .i64 0]) (by simp [results, Try.results58, go_sem, c0, c1, c2, c3, c4', c5, c6, c7]) rfl ?_
                refine .inr (.inr ⟨HANY.out, by omega, .inr ⟨_, A4, c4, Ac, cc, Az, cz, qs, hun, ?_, ?_, FW.below⟩⟩)
                · unfold unV
                  simp only [clearB_length, HLC.out, HLB.out, HNN2.out, HN.out]
                  rfl
                · refine ⟨h5, h3, FW.cases, by rw [hql.out, HN.out], hcase.out, FW.cl, by simp only [clearB_length, HLC.out]; exact hcap4, by rw [HN.out]; exact hcapC, by rw [HLB.out]; exact hcap3⟩
              · have hno : (tagS n : Int) < 0 ∨ (countB (commonB ts 0) : Int) < tagS n := .inr (by omega)
                have HNO := Lib.hid hyes
                have HNO2 := Lib.hid hno
                clear hyes hno
                by_cases hfull : 0 = 1024
                · cases hfull
                · have hfd : decide ((1024 : Int) < 0 + 1) = false := by first | (simp; omega) | simp
                  have HFULL := Lib.hid hfull
                  have hM24 : 0 ≤ 1023 := by omega
                  clear hfull
                  obtain ⟨⟨o0, o1, o2, o3, o4, o5, o6, o7⟩, of_⟩ := HF2.out.box.eight
                  have F6 := (FinL.of HF2.out).setO 0 (.int .i64 1)
                  have hF6 : FinL w W1.heap.size w.heap.size Ac qs #[.int .i64 1, .int .i64 (alP ts), .slice none 0 0, .slice none 0 0, .slice none 0 0, .slice Ac n cc, .slice none 0 0, .bool false] #[.int .i64 0, .int .i64 0, .slice none 0 0, .slice none 0 0, .slice none 0 0, .slice none 0 0, .slice none 0 0, .bool false] w2.heap.size (w2.setCell ⟨W1.heap.size, 0, none⟩ (.int .i64 1)) := F6
                  have hown6 : (w2.setCell ⟨W1.heap.size, 0, none⟩ (.int .i64 1)).ownsRow w.heap.size 5 1 (.slice none 0 0) 0 ((commonB ts 0).map bv) := HOWN2.out.kept (grown_set w2 W1.heap.size 0 _) (own_blk_ne HOWN2.out HF2.out.box (by decide))
                  have HF6 := Lib.hid hF6
                  have HOWN6 := Lib.hid hown6
                  clear F6 hF6 hown6 o1 o2 o3 o4 o5 o6 o7
                  go_wp2_with fail
                  refine (rbits_no none 0 0 (commonB ts 0) (tagS n) _ HLC.out (Sl.of_own HOWN2.out) (by omega) HNO2.out).mono ?_
                  rintro e w3 ⟨rfl, rfl⟩
                  go_wp2_with fail
                  clear o0 of_
                  go_loopw [22] (fun v22 wq => ∃ (j : Nat) (Az : Option Addr) (cz : Nat), j ≤ tagS n ∧ v22 = .int .i64 j ∧ wq.ownsRow w2.heap.size 3 1 (.slice Az j cz) j ((tagsOut 0 j).map natv) ∧ FinL w W1.heap.size w.heap.size Ac qs #[.int .i64 1, .int .i64 (alP ts), .slice none 0 0, .slice none 0 0, .slice none 0 0, .slice Ac n cc, .slice Az j cz, .bool false] #[.int .i64 0, .int .i64 0, .slice none 0 0, .slice none 0 0, .slice none 0 0, .slice none 0 0, .slice none 0 0, .bool false] w2.heap.size wq ∧ wq.ownsRow w.heap.size 5 1 (.slice none 0 0) 0 ((commonB ts 0).map bv)) (fun v22 _ => tagS n - (intOf v22).toNat)
                  case atStart => exact ⟨0, none, 0, by omega, rfl, World.ownsRow_nil _ _ _ _, HF6.out, HOWN6.out⟩
                  case round =>
                    obtain ⟨j, Az, cz, hj, rfl, own, FQ, ownq⟩ := hrel
                    clear HF6 HOWN6
                    obtain ⟨⟨o0, o1, o2, o3, o4, o5, o6, o7⟩, of_⟩ := FQ.box.eight
                    have hOlq := FQ.box.lt
                    by_cases hjt : j < tagS n
                    · clear o0 o1 o2 o3 o4 o5 o7
                      obtain ⟨A', c', wz, hrun, own', hg'⟩ := run_append1 (P := Try.prog) w2.heap.size 23 23 3 _ 8 Try.underlying23 el3 (by omega) Az j cz _ own (.int .i64 (j : Int)) rfl (by omega) FQ.bw
                      have F7 := FQ.own3 own hg' (Nat.le_refl _)
                      have e : (tagsOut 0 (j + 1)).map natv = (tagsOut 0 j).map natv ++ [.int .i64 (j : Int)] := by rw [tagsOut_succ, List.map_append]; simp [natv]
                      rw [← e] at own'
                      have ownq' := ownq.kept hg' (own_own_ne ownq own (by decide))
                      have F8 := F7.setO 6 (.slice A' (j + 1) c')
                      have hF8 : FinL w W1.heap.size w.heap.size Ac qs #[.int .i64 1, .int .i64 (alP ts), .slice none 0 0, .slice none 0 0, .slice none 0 0, .slice Ac n cc, .slice A' (j + 1) c', .bool false] #[.int .i64 0, .int .i64 0, .slice none 0 0, .slice none 0 0, .slice none 0 0, .slice none 0 0, .slice none 0 0, .bool false] w2.heap.size (wz.setCell ⟨W1.heap.size, 6, none⟩ (.slice A' (j + 1) c')) := F8
                      have hown8 := own'.kept (grown_set wz W1.heap.size 6 (.slice A' (j + 1) c')) (own_blk_ne own' F7.box (by decide))
                      have hownq8 := ownq'.kept (grown_set wz W1.heap.size 6 (.slice A' (j + 1) c')) (own_blk_ne ownq' F7.box (by decide))
                      have hcO6 := F7.box.cell 6
                      have hfO6 := F7.box.frozen 6
                      have hlO6 := F7.box.lt
                      have HF8 := Lib.hid hF8
                      have HOWN8 := Lib.hid hown8
                      have HOWNQ8 := Lib.hid hownq8
                      have HSZQ := hg'.size
                      clear F8 hF8 hown8 hownq8 own' ownq' F7 FQ own ownq hg' e
                      go_wp2_with fail
                      go_roundw
                      case rel => exact ⟨j + 1, A', c', by omega, by go_num, HOWN8.out, HF8.out, HOWNQ8.out⟩
                      case measure => simp [intOf]; omega
                    · obtain rfl : j = tagS n := by omega
                      have hcapZ := own_cap own
                      have hst : TagSt w W1.heap.size w.heap.size Ac qs (fun v => #[.int .i64 1, .int .i64 (alP ts), v, .slice none 0 0, .slice none 0 0, .slice Ac n cc, .slice Az (tagS n) cz, .bool false]) #[.int .i64 0, .int .i64 0, .slice none 0 0, .slice none 0 0, .slice none 0 0, .slice none 0 0, .slice none 0 0, .bool false] (.slice none 0 0) 0 (commonB ts 0) Az (tagsOut 0 (tagS n)) (fun _ => false) (fun _ => undef) wr.drew :=
                        .s0 rfl rfl rfl rfl (FQ.fin.under ⟨rfl, rfl, rfl, Nat.le_refl _, fun _ _ => rfl⟩) (SlE.of_own own) ownq
                      have HST := Lib.hid hst
                      have HLC5 : Hid ((commonB ts 0 ++ [255]).length = 0 + 1) := by show _ = _; rw [List.length_append, HLC.out]; rfl
                      clear FQ own ownq hst o0 o1 o2 o3 o4 o5 o6 o7 of_
                      go_wp2_with fail
                      refine gen_act fun a0 ha0 => ?_
                      have z10 : a0.eval (.tmp 10) = .pointer (some ⟨W1.heap.size, 0, none⟩) := by rw [ha0]; rfl
                      have z16 : a0.eval (.tmp 16) = .slice none 0 0 := by rw [ha0]; rfl
                      have zs : a0.tmps.size = 167 := by rw [ha0]; rfl
                      have HA0 := Lib.hid ha0
                      clear ha0
                      refine wp_region_known (by kernel_rfl) (ord_of (by kernel_rfl)) (dst_of (by kernel_rfl)) (size_of' (n := 167) (by kernel_rfl) zs) (guard_of (by kernel_rfl)) [some (.slice none 0 0), none, none, some (.pointer (some ⟨W1.heap.size, 6, none⟩)), some (.slice Az (tagS n) cz), none, some (.pointer (some ⟨W1.heap.size, 2, none⟩)), none] (TagSt w W1.heap.size w.heap.size Ac qs (fun v => #[.int .i64 1, .int .i64 (alP ts), v, .slice none 0 0, .slice none 0 0, .slice Ac n cc, .slice Az (tagS n) cz, .bool false]) #[.int .i64 0, .int .i64 0, .slice none 0 0, .slice none 0 0, .slice none 0 0, .slice none 0 0, .slice none 0 0, .bool false] (.slice none 0 0) 0 (commonB ts 0) Az (tagsOut 0 (tagS n))) HST.out ?_ ?_ ?_ ?_
                      · intro i u D x w5 hl hD hI
                        have hi : i < 8 := by have h := (List.getElem?_eq_some_iff.1 hl).1; simpa using h
                        have hnh : i ≠ 1 ∧ i ≠ 2 ∧ i ≠ 5 ∧ i ≠ 7 := by
                          refine ⟨?_, ?_, ?_, ?_⟩ <;> (rintro rfl; simp at hl)
                        exact hI.ins i u hnh.1 hnh.2.1 hnh.2.2.1 hnh.2.2.2
                      · intro D x a w5 i o u ho hl hD hdep hcl hF hKn hI K hk
                        have hi : i < 8 := (Array.getElem?_eq_some_iff.1 ho).1
                        rcases (show i = 0 ∨ i = 1 ∨ i = 2 ∨ i = 3 ∨ i = 4 ∨ i = 5 ∨ i = 6 ∨ i = 7 by omega) with rfl | rfl | rfl | rfl | rfl | rfl | rfl | rfl
                        · simp only [List.getElem?_toArray, List.getElem?_cons_zero, Option.some.injEq] at ho
                          subst ho
                          obtain rfl : .slice none 0 0 = u := by simpa using hl
                          have e16 := hF.ev0 (by kernel_rfl) z16
                          clear hF hcl hKn hl
                          go_simp
                          exact hk
                        · simp at hl
                        · simp at hl
                        · simp only [List.getElem?_toArray, List.getElem?_cons_zero, List.getElem?_cons_succ, Option.some.injEq] at ho
                          subst ho
                          obtain rfl : .pointer (some ⟨W1.heap.size, 6, none⟩) = u := by simpa using hl
                          have e10 := hF.ev0 (by kernel_rfl) z10
                          clear hF hcl hKn hl
                          go_simp
                          exact hk
                        · simp only [List.getElem?_toArray, List.getElem?_cons_zero, List.getElem?_cons_succ, Option.some.injEq] at ho
                          subst ho
                          simp [Region.binds] at hdep
                          obtain rfl : .slice Az (tagS n) cz = u := by simpa using hl
                          have e162 := hKn.ev hF 3 rfl rfl rfl (by simp [hdep])
                          have c7 : D 7 = false := by
                            cases hx : D 7 with
                            | false => rfl
                            | true =>
                              have hy := hcl 7 _ rfl hx
                              simp [Region.binds] at hy
                              have hy5 := hcl 5 _ rfl (by simp [hy])
                              simp [Region.binds] at hy5
                              simp [hy5] at hD
                          have hB := hI.box c7
                          obtain ⟨⟨b0, b1, b2, b3, b4, b5, b6, b7⟩, bf⟩ := Blk.eight hB
                          clear hF hcl hKn hl
                          go_simp
                          exact hk
                        · simp at hl
                        · simp only [List.getElem?_toArray, List.getElem?_cons_zero, List.getElem?_cons_succ, Option.some.injEq] at ho
                          subst ho
                          simp [Region.binds] at hdep
                          obtain rfl : .pointer (some ⟨W1.heap.size, 2, none⟩) = u := by simpa using hl
                          have e10 := hF.ev0 (by kernel_rfl) z10
                          clear hF hcl hKn hl
                          go_simp
                          exact hk
                        · simp at hl
                      · intro D x a w5 i o ho hl hD hdep hcl hF hKn hI K hk
                        have hi : i < 8 := (Array.getElem?_eq_some_iff.1 ho).1
                        rcases (show i = 0 ∨ i = 1 ∨ i = 2 ∨ i = 3 ∨ i = 4 ∨ i = 5 ∨ i = 6 ∨ i = 7 by omega) with rfl | rfl | rfl | rfl | rfl | rfl | rfl | rfl
                        · exact absurd rfl (hl _)
                        · simp only [List.getElem?_toArray, List.getElem?_cons_zero, List.getElem?_cons_succ, Option.some.injEq] at ho
                          subst ho
                          clear hF hcl hKn hl
                          go_simp
                          exact hk _ _ (hI.op1 hD)
                        · simp only [List.getElem?_toArray, List.getElem?_cons_zero, List.getElem?_cons_succ, Option.some.injEq] at ho
                          subst ho
                          simp [Region.binds] at hdep
                          have e159 := hKn.ev hF 0 rfl rfl rfl (by simp [hdep])
                          refine hI.op2 hD (by simp [hdep]) (by omega) (.tmp 159) (.tmp 160) rfl ((hF.eval (i := 0) rfl rfl (by simp [hdep])).trans (hKn 0 _ rfl (by simp [hdep]))) (hF.eval (i := 1) rfl rfl (by simp [hdep])) ?_
                          exact hk
                        · exact absurd rfl (hl _)
                        · exact absurd rfl (hl _)
                        · simp only [List.getElem?_toArray, List.getElem?_cons_zero, List.getElem?_cons_succ, Option.some.injEq] at ho
                          subst ho
                          simp [Region.binds] at hdep
                          have e163 := hKn.ev hF 4 rfl rfl rfl (by simp [hdep])
                          obtain ⟨A5q, c5q, hx2, hs5, htz, hnx⟩ := hI.op5 hD (by simp [hdep])
                          have e161 := hF.ev 2 rfl rfl (by simp [hdep]) hx2
                          clear hF hcl hKn hl
                          go_simp
                          refine (rclear_any A5q (0 + 1) c5q (commonB ts 0 ++ [255]) Az (tagS n) cz (intsN (tagsOut 0 (tagS n))) _ HLC5.out hs5.sl (by omega) (by rw [intsN_length, tagsOut_length]) (by rw [← natv_ints]; exact htz.sl) (by omega) (tagsOut_ib _ _ (by omega))).mono ?_
                          rintro e w6 ⟨A6, c6, rfl, own6, hb6⟩
                          exact hk _ _ (hnx _ A6 c6 hb6 (SlE.of_own own6) (own_cap own6))
                        · exact absurd rfl (hl _)
                        · simp only [List.getElem?_toArray, List.getElem?_cons_zero, List.getElem?_cons_succ, Option.some.injEq] at ho
                          subst ho
                          simp [Region.binds] at hdep
                          have e165 := hKn.ev hF 6 rfl rfl rfl (by simp [hdep])
                          obtain ⟨A6, c6, hx5, hB, hI2⟩ := hI.op7 hD (by simp [hdep]) (fun v u => rfl) undef
                          have e164 := hF.ev 5 rfl rfl (by simp [hdep]) hx5
                          obtain ⟨⟨b0, b1, b2, b3, b4, b5, b6, b7⟩, bf⟩ := Blk.eight hB
                          clear hF hcl hKn hl
                          go_simp
                          exact hk _ _ hI2
                      · intro D x w9 hD hDz hKn hI
                        obtain ⟨A6, c6, F9, hT9, hS9, hcap6⟩ := hI.done (hD 7 (by decide))
                        have hF9 : FinAt w W1.heap.size w.heap.size Ac qs #[.int .i64 1, .int .i64 (alP ts), .slice A6 (0 + 1) c6, .slice none 0 0, .slice none 0 0, .slice Ac n cc, .slice Az (tagS n) cz, .bool false] #[.int .i64 0, .int .i64 0, .slice none 0 0, .slice none 0 0, .slice none 0 0, .slice none 0 0, .slice none 0 0, .bool false] w9 := F9
                        obtain ⟨⟨q0, q1, q2, q3, q4, q5, q6, q7⟩, qf⟩ := hF9.box.eight
                        obtain ⟨⟨r0, r1, r2, r3, r4, r5, r6, r7⟩, rf_⟩ := hF9.rb.eight
                        have h8 := only8 w9 w.heap.size (.int .i64 1) (.int .i64 (alP ts)) (.slice A6 (0 + 1) c6) (.slice none 0 0) (.slice none 0 0) (.slice Ac n cc) (.slice Az (tagS n) cz) (.bool false)
                        have HFIN := Lib.hid (FinEnd.mk (hF9.set8 rfl (.int .i64 1) (.int .i64 (alP ts)) (.slice A6 (0 + 1) c6) (.slice none 0 0) (.slice none 0 0) (.slice Ac n cc) (.slice Az (tagS n) cz) (.bool false)) (hS9.grown h8 hF9.rb (by decide)) (hT9.grown h8 hF9.rb (by decide)))
                        have hneR : ¬ W1.heap.size = w.heap.size := by omega
                        have hneR' : ¬ w.heap.size = W1.heap.size := by omega
                        clear hI hD hDz hKn F9 hF9 hT9 hS9 h8 HST
                        rw [HA0.out]
                        simp [putsAll, List.range, List.range.loop, Act.put]
                        go_wp2
                        refine bodyPost_genF HFIN.out ?_
                        clear HFIN q0 q1 q2 q3 q4 q5 q6 q7 qf r0 r1 r2 r3 r4 r5 r6 r7 rf_
                        intro W ⟨FW, h5, h3⟩
                        obtain ⟨⟨c0, c1, c2, c3, c4', c5', c6', c7⟩, _⟩ := FW.rb.eight
                        have hun : unionR (inside ps bs) ps.length = some ⟨sizeP ts + 1, alP ts, clearB (commonB ts 0 ++ [255]) (intsN (tagsOut 0 (tagS n))), tagsOut 0 (tagS n)⟩ := by
                          rw [HU.out]
                          unfold unionR
                          simp only [HNN2.out, Int.toNat_natCast]
                          rw [if_neg HNO.out, if_neg (by have := HFULL.out; omega)]
                        refine bodyPost_ret (v := .tuple #[.agg #[.int .i64 1, .int .i64 (alP ts), .slice A6 (0 + 1) c6, .slice none 0 0, .slice none 0 0, .slice Ac n cc, .slice Az (tagS n) cz, .bool false], .int .i64 0]) (by simp [results, Try.results58, go_sem, c0, c1, c2, c3, c4', c5', c6', c7]) rfl ?_
                        refine .inr (.inr ⟨HANY.out, by omega, .inr ⟨_, A6, c6, Ac, cc, Az, cz, qs, hun, ?_, ?_, FW.below⟩⟩)
                        · unfold unV
                          simp only [clearB_length, HLC5.out, tagsOut_length, HNN2.out, HN.out]
                          rfl
                        · refine ⟨h5, h3, FW.cases, by rw [hql.out, HN.out], hcase.out, FW.cl, by simp only [clearB_length, HLC5.out]; exact hcap6, by rw [HN.out]; exact hcapC, by rw [tagsOut_length]; exact hcapZ⟩
end Go.Proofs.Ytamhigknobdloaa
namespace Go.Proofs.Ytamhigknobdloaa
open Go.RowKit
set_option linter.unusedVariables false

theorem rsumlay_any (A : Option Addr) (n c : Nat) (ps : List Part) (An : Option Addr) (nn cn : Nat) (nms : List ByteArray) (Ai : Option Addr) (nb cb : Nat) (bs : List Bool) (fs : List (List Int)) (w : World) (hn : ps.length = n) (hnn : nms.length = nn) (hbn : bs.length = nb) (hfn : fs.length = n)
    (hs : Parts w A ps) (hsn : Sl w An (nms.map Value.string)) (hsb : Sl w Ai (bs.map Value.bool)) (hlen : n ≤ 1000) (hl2 : nn ≤ 1000) (hl3 : nb ≤ 1000) (hsp : ∀ p ∈ ps, Sl w p.A (p.sp.map bv)) (hone : ∀ p ∈ ps, p.one)
    (hof : ∀ (i : Nat) (h1 : i < ps.length) (h2 : i < fs.length), ∃ Ao co, ps[i].x3 = .slice Ao fs[i].length co ∧ Sl w Ao (fs[i].map iv) ∧ fs[i].length ≤ 1000000) :
    Calls Try.prog 58 #[.slice A n c, .slice An nn cn, .slice Ai nb cb] w (SumOut ps nms bs fs w) := by
  by_cases hbad : nn ≠ n ∨ nb ≠ n
  · refine (rsum_len A n c An nn cn Ai nb cb w hlen hl2 hl3 hbad).mono ?_
    rintro e w' ⟨rfl, hbel⟩
    have hE : sumE ps nms.length bs = 19 := by
      have hb : sumBad ps nn nb = true := by
        unfold sumBad
        simp only [Bool.or_eq_true, decide_eq_true_eq]
        left
        omega
      unfold sumE; rw [hnn, hbn, hb]; rfl
    exact ⟨hbel, .inl ⟨by rw [hE]; decide, by rw [hE]⟩⟩
  · obtain ⟨e1, e2⟩ : nn = n ∧ nb = n := by omega
    subst e1 e2
    refine (rsum_any A nb c ps An cn nms Ai cb bs fs w hn hnn hbn hfn hs hsn hsb hlen hsp hone hof).mono ?_
    rintro e w' (⟨ha, rfl, hbel⟩ | ⟨ha, h12, rfl, hbel⟩ | ⟨ha, h12, hP⟩)
    · have hE : sumE ps nms.length bs = 19 := by
        have hb : sumBad ps nb nb = true := by unfold sumBad; rw [ha]; simp
        unfold sumE; rw [hnn, hbn, hb]; rfl
      exact ⟨hbel, .inl ⟨by rw [hE]; decide, by rw [hE]⟩⟩
    · have hb : sumBad ps nb nb = false := by unfold sumBad; rw [ha, hn]; simp
      have hE : sumE ps nms.length bs = 4 := by unfold sumE; rw [hnn, hbn, hb, if_neg (by decide), if_pos h12]
      exact ⟨hbel, .inl ⟨by rw [hE]; decide, by rw [hE]⟩⟩
    · have hb : sumBad ps nb nb = false := by unfold sumBad; rw [ha, hn]; simp
      rcases hP with ⟨hu, rfl, hbel⟩ | ⟨u, As, cs, Ac, cc, Az, cz, qs, hu, rfl, hat, hbel⟩
      · have hE : sumE ps nms.length bs = 4 := by unfold sumE; rw [hnn, hbn, hb, if_neg (by decide), if_neg (by omega), ← hn, hu]
        exact ⟨hbel, .inl ⟨by rw [hE]; decide, by rw [hE]⟩⟩
      · have hE : sumE ps nms.length bs = 0 := by unfold sumE; rw [hnn, hbn, hb, if_neg (by decide), if_neg (by omega), ← hn, hu]
        have hval : ∀ p ∈ ps, p.valid = true := by
          intro p hp
          cases hv : p.valid with
          | true => rfl
          | false =>
            have h : ps.any (fun p => !p.valid) = true := List.any_eq_true.2 ⟨p, hp, by rw [hv]; rfl⟩
            rw [ha] at h; cases h
        exact ⟨hbel, .inr ⟨hE, by omega, by omega, by omega, hval, u, As, cs, Ac, cc, Az, cz, qs, hu, rfl, hat⟩⟩

set_option maxHeartbeats 800000 in
theorem lies_any (q : CaseV) (hx : q.x3.oneCell' = true) (w : World) : Calls Try.prog 91 #[.agg #[.string q.name, .bool q.ind, .slice q.A q.ofs.length q.c, q.x3, .int .i64 q.s]] w fun e w' => e = .returned (.int .i64 (liesI q)) ∧ Below w.heap.size w w' := by
  have hb0 := (Below.refl w.heap.size w).alloc (Nat.le_refl _) (.cells #[.string q.name, .bool q.ind, .slice q.A q.ofs.length q.c, q.x3, .int .i64 q.s] 73)
  have sx3 := store_var (P := Try.prog) hx
  have hL : liesI q = if q.ind then 8 else q.s := rfl
  have HL := Lib.hid hL
  clear hL hx
  cases hi : q.ind with
  | true =>
    rw [hi] at HL hb0
    go_enter Try.func91, Try.ntmps91
    go_wp2
    go_ret
    exact ⟨by rw [HL.out]; rfl, hb0⟩
  | false =>
    rw [hi] at HL hb0
    go_enter Try.func91, Try.ntmps91
    go_wp2
    go_ret
    exact ⟨by rw [HL.out]; rfl, hb0⟩
end Go.Proofs.Ytamhigknobdloaa
namespace Go.Proofs.Ytamhigknobdloaa
open Go.RowKit
set_option linter.unusedVariables false

theorem SlE.take {w : World} {e : TypeId} {A : Option Addr} {xs : List Value} (h : SlE w e A xs) (k : Nat) : SlE w e A (xs.take k) := by
  rcases h with rfl | ⟨b, off, cs, fz, h1, h2, h3⟩
  · exact .inl (by simp)
  · exact .inr ⟨b, off, cs, fz, h1, h2, fun j hj => by rw [List.length_take] at hj; rw [h3 j (by omega)]; simp⟩
/-- What holds while the bits are cleared and the place is asked for. -/
structure PrSt (W0 : World) (n : Nat) (M : List UInt8) (L : Int) (D : Nat → Bool) (x : Nat → Value) (w : World) : Prop where
  below : Below W0.heap.size W0 w
  h3 : D 3 = true → ∃ A c, x 3 = .slice A n c ∧ n ≤ c ∧ SlE w 5 A (M.map bv) ∧ (D 10 = true → x 10 = .slice A n c)
  h9 : D 9 = true → x 9 = .int .i64 L
  h11 : D 11 = true → x 11 = .int .i64 L
  o10 : D 10 = true → D 3 = true
section
variable {W0 w w' : World} {n : Nat} {M : List UInt8} {L : Int} {D : Nat → Bool} {x : Nat → Value}
theorem PrSt.ins (h : PrSt W0 n M L D x w) (i : Nat) (u : Value) (h3 : i ≠ 3) (h9 : i ≠ 9) (h10 : i ≠ 10) (h11 : i ≠ 11) : PrSt W0 n M L (fun j => if j = i then true else D j) (fun j => if j = i then u else x j) w := by
  have e3 : ∀ {α : Type} (p q : α), (if 3 = i then p else q) = q := fun p q => if_neg (fun e => h3 e.symm)
  have e9 : ∀ {α : Type} (p q : α), (if 9 = i then p else q) = q := fun p q => if_neg (fun e => h9 e.symm)
  have e10 : ∀ {α : Type} (p q : α), (if 10 = i then p else q) = q := fun p q => if_neg (fun e => h10 e.symm)
  have e11 : ∀ {α : Type} (p q : α), (if 11 = i then p else q) = q := fun p q => if_neg (fun e => h11 e.symm)
  constructor
  · exact h.below
  · rw [e3, e3, e10, e10]; exact h.h3
  · rw [e9, e9]; exact h.h9
  · rw [e11, e11]; exact h.h11
  · rw [e10, e3]; exact h.o10
theorem PrSt.op3 (h : PrSt W0 n M L D x w) (h10 : D 10 = false) {A : Option Addr} {c : Nat} (hb : Below w.heap.size w w') (hc : n ≤ c) (hs : SlE w' 5 A (M.map bv)) : PrSt W0 n M L (fun j => if j = 3 then true else D j) (fun j => if j = 3 then .slice A n c else x j) w' :=
  ⟨below_next h.below hb, fun _ => ⟨A, c, rfl, hc, hs, fun hd => by have : D 10 = true := hd; rw [h10] at this; cases this⟩, h.h9, h.h11, fun _ => rfl⟩
theorem PrSt.op9 (h : PrSt W0 n M L D x w) (hb : Below w.heap.size w w') : PrSt W0 n M L (fun j => if j = 9 then true else D j) (fun j => if j = 9 then .int .i64 L else x j) w' :=
  ⟨below_next h.below hb, fun hd => by obtain ⟨A, c, h1, h2, h3, h4⟩ := h.h3 hd; exact ⟨A, c, h1, h2, h3.below hb, h4⟩, fun _ => rfl, h.h11, h.o10⟩
theorem PrSt.op10 (h : PrSt W0 n M L D x w) (h3 : D 3 = true) : ∃ A c, x 3 = .slice A n c ∧ PrSt W0 n M L (fun j => if j = 10 then true else D j) (fun j => if j = 10 then .slice A n c else x j) w := by
  obtain ⟨A, c, h1, h2, h3', h4⟩ := h.h3 h3
  exact ⟨A, c, h1, ⟨h.below, fun _ => ⟨A, c, h1, h2, h3', fun _ => rfl⟩, h.h9, h.h11, fun _ => h3⟩⟩
theorem PrSt.op11 (h : PrSt W0 n M L D x w) : PrSt W0 n M L (fun j => if j = 11 then true else D j) (fun j => if j = 11 then .int .i64 L else x j) w := ⟨h.below, h.h3, h.h9, fun _ => rfl, h.o10⟩
end

set_option maxHeartbeats 3200000 in
set_option maxRecDepth 100000 in
theorem rproj_any (p : Part) (cs : List CaseV) (tags : List Int) (Ab : Option Addr) (n cb : Nat) (m : List UInt8) (w : World) (h : LayOf w p cs tags) (hx : ∀ q ∈ cs, q.x3.oneCell' = true) (hn : m.length = n) (hs : Sl w Ab (m.map bv)) (hlen : n ≤ 1000000) (hcap : n ≤ cb) (hsl : p.sp.length ≤ 1000000) (htl : tags.length ≤ 1000000) :
    Calls Try.prog 66 #[p.val, .slice Ab n cb] w (ProjPost (projR p cs tags m) w) := by
  obtain ⟨s, al, A, sp, c, x3, x4, x5, x6, x7⟩ := p
  obtain ⟨A5, c5, e5, hcs⟩ := h.x5
  obtain ⟨A6, c6, e6, htg, htc⟩ := h.x6
  simp only at e5 e6 hsl
  subst e5 e6
  have hone := h.one
  have sx3 := store_var (P := Try.prog) hone.h3
  have sx4 := store_var (P := Try.prog) hone.h4
  have sx7 := store_var (P := Try.prog) hone.h7
  have hb0 := (Below.refl w.heap.size w).alloc (Nat.le_refl _) (.cells #[.int .i64 s, .int .i64 al, .slice A sp.length c, x3, x4, .slice A5 cs.length c5, .slice A6 tags.length c6, x7] 31)
  have hP := Blk.new w 31 #[.int .i64 s, .int .i64 al, .slice A sp.length c, x3, x4, .slice A5 cs.length c5, .slice A6 tags.length c6, x7]
  have hL := h.below hb0
  have hs1 := hs.below hb0
  have hclen := h.len
  have hs01 := h.s0
  have hs02 := h.s1
  simp only at hs01 hs02
  have HH := Lib.hid h
  have HP := Lib.hid hP
  have HB0 := Lib.hid hb0
  have HL := Lib.hid hL
  have HS1 := Lib.hid hs1
  have HN := Lib.hid hn
  have HX3 := Lib.hid hx
  clear h hP hb0 hL hs1 hn hs hcs htg hone hx
  unfold Part.val
  have hvd : (⟨s, al, A, sp, c, x3, x4, .slice A5 cs.length c5, .slice A6 tags.length c6, x7⟩ : Part).valid = validB s al sp.length := rfl
  cases hv : (⟨s, al, A, sp, c, x3, x4, .slice A5 cs.length c5, .slice A6 tags.length c6, x7⟩ : Part).valid with
  | false =>
    have hr : projR ⟨s, al, A, sp, c, x3, x4, .slice A5 cs.length c5, .slice A6 tags.length c6, x7⟩ cs tags m = none := by unfold projR; rw [hv]; rfl
    rw [hr]
    rw [hvd] at hv
    have HVV := Lib.hid hv
    clear hr hv hvd
    go_enter Try.func66, Try.ntmps66
    go_wp2_with fail
    refine (rvalid_any _ _ _ _ _ _ _ _ _ _ _).mono ?_
    rw [HVV.out]
    rintro e w2 ⟨rfl, hb2⟩
    have HB2 := Lib.hid (below_next HB0.out hb2)
    clear hb2
    go_wp2
    go_ret3
    exact ⟨HB2.out, .inl ⟨rfl, rfl⟩⟩
  | true =>
    obtain ⟨v1, v2, v3, v4⟩ := (valid_iff _).1 hv
    simp only at v1 v2 v3 v4
    have hv0 := hv
    rw [hvd] at hv
    have HVV := Lib.hid hv
    have HV0 := Lib.hid hv0
    clear hv hv0 hvd v3
    by_cases hns : (n : Int) = s
    case neg =>
      have hf : fitsB m sp = false := by
        cases hf : fitsB m sp with
        | false => rfl
        | true => exfalso; have := ((fitsB_iff m sp).1 hf).1; have := HN.out; omega
      have hr : projR ⟨s, al, A, sp, c, x3, x4, .slice A5 cs.length c5, .slice A6 tags.length c6, x7⟩ cs tags m = none := by unfold projR; simp only; rw [hf, Bool.and_false]; rfl
      rw [hr]
      have hne : ((n : Int) != s) = true := by simpa using hns
      clear hr hf hns v1 v2 v4
      go_enter Try.func66, Try.ntmps66
      go_wp2_with fail
      refine (rvalid_any _ _ _ _ _ _ _ _ _ _ _).mono ?_
      rw [HVV.out]
      rintro e w2 ⟨rfl, hb2⟩
      have HB2 := Lib.hid (below_next HB0.out hb2)
      obtain ⟨⟨b0, b1, b2, b3, b4, b5, b6, b7⟩, bf⟩ := (HP.out.below hb2).eight
      clear hb2
      go_wp2
      go_ret3
      exact ⟨HB2.out, .inl ⟨rfl, rfl⟩⟩
    case pos =>
    have hne : ((n : Int) != s) = false := by simpa using hns
    have hn1024 : n ≤ 1024 := by omega
    have HNS := Lib.hid hns
    clear hns v4
    cases hf : fitsB m sp with
    | false =>
      have hr : projR ⟨s, al, A, sp, c, x3, x4, .slice A5 cs.length c5, .slice A6 tags.length c6, x7⟩ cs tags m = none := by unfold projR; simp only; rw [hf, Bool.and_false]; rfl
      rw [hr]
      have HF := Lib.hid hf
      clear hr hf
      go_enter Try.func66, Try.ntmps66
      go_wp2_with fail
      refine (rvalid_any _ _ _ _ _ _ _ _ _ _ _).mono ?_
      rw [HVV.out]
      rintro e w2 ⟨rfl, hb2⟩
      have hb22 := below_next HB0.out hb2
      have hsp2 := HL.out.sp.below hb2
      have hm2 := HS1.out.below hb2
      obtain ⟨⟨b0, b1, b2, b3, b4, b5, b6, b7⟩, bf⟩ := (HP.out.below hb2).eight
      have HSP2 := Lib.hid hsp2
      have HB2 := Lib.hid hb22
      clear hb2 hsp2 hb22
      go_wp2_with fail
      refine (rfits_any Ab n cb m A sp.length c sp _ HN.out hm2 hlen rfl HSP2.out hsl).mono ?_
      rw [HF.out]
      rintro e w3 ⟨rfl, hb3⟩
      have HB3 := Lib.hid (below_next HB2.out hb3)
      clear hb3
      go_wp2
      go_ret3
      exact ⟨HB3.out, .inl ⟨rfl, rfl⟩⟩
    | true =>
      have HF := Lib.hid hf
      clear hf
      obtain ⟨Kc, hK⟩ : ∃ Kc, Kc = getB m tags 0 := ⟨_, rfl⟩
      have hK62 : Kc < 4611686018427387904 := by rw [hK]; exact getB62 m tags
      have hproj : projR ⟨s, al, A, sp, c, x3, x4, .slice A5 cs.length c5, .slice A6 tags.length c6, x7⟩ cs tags m = (match cs[Kc]? with
          | none => none
          | some q => if sizeOk ⟨s, al, A, sp, c, x3, x4, .slice A5 cs.length c5, .slice A6 tags.length c6, x7⟩ q && !((clearB m tags).drop (liesI q).toNat).any (fun b => b != 0) then some (Kc, (clearB m tags).take (liesI q).toNat) else none) := by
        unfold projR; rw [HV0.out]; simp only; rw [HF.out, ← hK]; rfl
      have HK := Lib.hid hK
      have HPROJ := Lib.hid hproj
      clear hK hproj
      go_enter Try.func66, Try.ntmps66
      go_wp2_with fail
      refine (rvalid_any _ _ _ _ _ _ _ _ _ _ _).mono ?_
      rw [HVV.out]
      rintro e w2 ⟨rfl, hb2⟩
      have hb22 := below_next HB0.out hb2
      have hsp2 := HL.out.sp.below hb2
      have hm2 := HS1.out.below hb2
      have hP2 := HP.out.below hb2
      obtain ⟨⟨b0, b1, b2, b3, b4, b5, b6, b7⟩, bf⟩ := hP2.eight
      have HSP2 := Lib.hid hsp2
      have HM2 := Lib.hid hm2
      have HB2 := Lib.hid hb22
      have HP2 := Lib.hid hP2
      have HL2 := Lib.hid (HL.out.below hb2)
      clear hb2 hsp2 hb22 hm2 hP2 b1 b3 b4 b5 b6 b7
      go_wp2_with fail
      refine (rfits_any Ab n cb m A sp.length c sp _ HN.out HM2.out hlen rfl HSP2.out hsl).mono ?_
      rw [HF.out]
      rintro e w3 ⟨rfl, hb3⟩
      have HB3 := Lib.hid (below_next HB2.out hb3)
      have hP3 := HP2.out.below hb3
      have hL3 := HL2.out.below hb3
      obtain ⟨A6', c6', e6, htg3, _⟩ := hL3.x6
      injection e6 with q1 q2 q3
      subst q1 q3
      clear q2 b0 b2 bf
      obtain ⟨⟨b0, b1, b2, b3, b4, b5, b6, b7⟩, bf⟩ := hP3.eight
      have hm3 := HM2.out.below hb3
      have hib := hL3.ib
      have HP3 := Lib.hid hP3
      have HL3 := Lib.hid hL3
      have HTG3 := Lib.hid htg3
      have HM3 := Lib.hid hm3
      clear hb3 hP3 hL3 htg3 hm3
      go_wp2_with fail
      refine (rgetbits_any Ab n cb m A6 tags.length c6 tags _ HN.out HM3.out hlen rfl HTG3.out htl hib).mono ?_
      rw [← HK.out]
      rintro e w4 ⟨rfl, rfl⟩
      by_cases hkc : Kc < cs.length
      · have hq := List.getElem?_eq_getElem hkc
        have HQ := Lib.hid hq
        have hkc' : ¬ (cs.length : Int) ≤ (Kc : Int) := by omega
        have hqx := HX3.out cs[Kc] (List.getElem_mem hkc)
        obtain ⟨A5', c5', e5, hcs3⟩ := HL3.out.x5
        injection e5 with q1 q2 q3
        subst q1 q3
        obtain ⟨gq, oq, hA5, g0, g1, g2, g3, g4⟩ := hcs3.get hkc
        subst hA5
        have hql := HL3.out.cl cs[Kc] (List.getElem_mem hkc)
        have hcl : (clearB m tags).length = n := by rw [clearB_length, HN.out]
        have HCL := Lib.hid hcl
        clear hq hcs3 q2 hcl
        generalize hqk : cs[Kc] = q at *
        have G0 := Lib.hid g0
        have G1 := Lib.hid g1
        have G2 := Lib.hid g2
        have G3 := Lib.hid g3
        have G4 := Lib.hid g4
        have hq1 := hql.1
        have hq2 := hql.2
        have hlb : -9223372036854775808 ≤ liesI q ∧ liesI q ≤ 9223372036854775807 := by unfold liesI; split <;> omega
        have hlb1 := hlb.1
        have hlb2 := hlb.2
        have HQK := Lib.hid hqk
        obtain ⟨L, hL⟩ : ∃ L, L = liesI q := ⟨_, rfl⟩
        rw [← hL] at hlb1 hlb2
        have HL0 := Lib.hid hL
        clear g0 g1 g2 g3 g4 hql hqk hlb hL
        go_wp2_with fail
        refine gen_act fun a0 ha0 => ?_
        have z1 : a0.eval (.tmp 1) = .slice Ab n cb := by rw [ha0]; rfl
        have z2 : a0.eval (.tmp 2) = .pointer (some ⟨w.heap.size, 0, none⟩) := by rw [ha0]; rfl
        have z7 : a0.eval (.tmp 7) = .int .i64 Kc := by rw [ha0]; rfl
        have zs : a0.tmps.size = 71 := by rw [ha0]; rfl
        have HA0 := Lib.hid ha0
        clear ha0
        refine wp_region_known (by kernel_rfl) (ord_of (by kernel_rfl)) (dst_of (by kernel_rfl)) (size_of' (n := 71) (by kernel_rfl) zs) (guard_of (by kernel_rfl)) [some (.slice Ab n cb), some (.pointer (some ⟨w.heap.size, 6, none⟩)), some (.slice A6 tags.length c6), none, some (.pointer (some ⟨w.heap.size, 5, none⟩)), some (.slice (some ⟨gq, oq, none⟩) cs.length c5), some (.int .i64 Kc), some (.pointer (some ⟨gq, oq + Kc * 5, none⟩)), some (.agg #[.string q.name, .bool q.ind, .slice q.A q.ofs.length q.c, q.x3, .int .i64 q.s]), none, none, none] (PrSt w3 n (clearB m tags) L) ⟨Below.drew (Below.refl _ _), (fun h => by cases h), (fun h => by cases h), (fun h => by cases h), (fun h => by cases h)⟩ ?_ ?_ ?_ ?_
        · intro i u D x w5 hl hD hI
          have hi : i < 12 := by have h := (List.getElem?_eq_some_iff.1 hl).1; simpa using h
          have hnh : i ≠ 3 ∧ i ≠ 9 ∧ i ≠ 10 ∧ i ≠ 11 := by
            refine ⟨?_, ?_, ?_, ?_⟩ <;> (rintro rfl; simp at hl)
          exact hI.ins i u hnh.1 hnh.2.1 hnh.2.2.1 hnh.2.2.2
        · intro D x a w5 i o u ho hl hD hdep hcl hF hKn hI K hk
          have hi : i < 12 := (Array.getElem?_eq_some_iff.1 ho).1
          rcases (show i = 0 ∨ i = 1 ∨ i = 2 ∨ i = 3 ∨ i = 4 ∨ i = 5 ∨ i = 6 ∨ i = 7 ∨ i = 8 ∨ i = 9 ∨ i = 10 ∨ i = 11 by omega) with rfl | rfl | rfl | rfl | rfl | rfl | rfl | rfl | rfl | rfl | rfl | rfl
          · simp only [List.getElem?_toArray, List.getElem?_cons_zero, Option.some.injEq] at ho
            subst ho
            obtain rfl : .slice Ab n cb = u := by simpa using hl
            have e1 := hF.ev0 (by kernel_rfl) z1
            clear hF hcl hKn hl
            go_simp
            exact hk
          · simp only [List.getElem?_toArray, List.getElem?_cons_zero, List.getElem?_cons_succ, Option.some.injEq] at ho
            subst ho
            obtain rfl : .pointer (some ⟨w.heap.size, 6, none⟩) = u := by simpa using hl
            have e2 := hF.ev0 (by kernel_rfl) z2
            clear hF hcl hKn hl
            go_simp
            exact hk
          · simp only [List.getElem?_toArray, List.getElem?_cons_zero, List.getElem?_cons_succ, Option.some.injEq] at ho
            subst ho
            simp [Region.binds] at hdep
            obtain rfl : .slice A6 tags.length c6 = u := by simpa using hl
            have e39 := hKn.ev hF 1 rfl rfl rfl (by simp [hdep])
            obtain ⟨⟨b0, b1, b2, b3, b4, b5, b6, b7⟩, bf⟩ := (HP3.out.below hI.below).eight
            clear hF hcl hKn hl
            go_simp
            exact hk
          · simp at hl
          · simp only [List.getElem?_toArray, List.getElem?_cons_zero, List.getElem?_cons_succ, Option.some.injEq] at ho
            subst ho
            obtain rfl : .pointer (some ⟨w.heap.size, 5, none⟩) = u := by simpa using hl
            have e2 := hF.ev0 (by kernel_rfl) z2
            clear hF hcl hKn hl
            go_simp
            exact hk
          · simp only [List.getElem?_toArray, List.getElem?_cons_zero, List.getElem?_cons_succ, Option.some.injEq] at ho
            subst ho
            simp [Region.binds] at hdep
            obtain rfl : .slice (some ⟨gq, oq, none⟩) cs.length c5 = u := by simpa using hl
            have e42 := hKn.ev hF 4 rfl rfl rfl (by simp [hdep])
            obtain ⟨⟨b0, b1, b2, b3, b4, b5, b6, b7⟩, bf⟩ := (HP3.out.below hI.below).eight
            clear hF hcl hKn hl
            go_simp
            exact hk
          · simp only [List.getElem?_toArray, List.getElem?_cons_zero, List.getElem?_cons_succ, Option.some.injEq] at ho
            subst ho
            obtain rfl : .int .i64 Kc = u := by simpa using hl
            have e7 := hF.ev0 (by kernel_rfl) z7
            clear hF hcl hKn hl
            go_simp
            exact hk
          · simp only [List.getElem?_toArray, List.getElem?_cons_zero, List.getElem?_cons_succ, Option.some.injEq] at ho
            subst ho
            simp [Region.binds] at hdep
            obtain rfl : .pointer (some ⟨gq, oq + Kc * 5, none⟩) = u := by simpa using hl
            have e43 := hKn.ev hF 5 rfl rfl rfl (by simp [hdep])
            have e44 := hKn.ev hF 6 rfl rfl rfl (by simp [hdep])
            have hk1 : (Kc : Int) < (cs.length : Int) := by omega
            have hk0 : (0 : Int) ≤ (Kc : Int) := Int.natCast_nonneg _
            clear hF hcl hKn hl
            go_simp
            exact hk
          · simp only [List.getElem?_toArray, List.getElem?_cons_zero, List.getElem?_cons_succ, Option.some.injEq] at ho
            subst ho
            simp [Region.binds] at hdep
            obtain rfl : .agg #[.string q.name, .bool q.ind, .slice q.A q.ofs.length q.c, q.x3, .int .i64 q.s] = u := by simpa using hl
            have e45 := hKn.ev hF 7 rfl rfl rfl (by simp [hdep])
            have c0 := cell_in G0.out hI.below
            have c1 := cell_in G1.out hI.below
            have c2 := cell_in G2.out hI.below
            have c3 := cell_in G3.out hI.below
            have c4 := cell_in G4.out hI.below
            clear hF hcl hKn hl
            go_simp
            exact hk
          · simp at hl
          · simp at hl
          · simp at hl
        · intro D x a w5 i o ho hl hD hdep hcl hF hKn hI K hk
          have hi : i < 12 := (Array.getElem?_eq_some_iff.1 ho).1
          rcases (show i = 0 ∨ i = 1 ∨ i = 2 ∨ i = 3 ∨ i = 4 ∨ i = 5 ∨ i = 6 ∨ i = 7 ∨ i = 8 ∨ i = 9 ∨ i = 10 ∨ i = 11 by omega) with rfl | rfl | rfl | rfl | rfl | rfl | rfl | rfl | rfl | rfl | rfl | rfl
          · exact absurd rfl (hl _)
          · exact absurd rfl (hl _)
          · exact absurd rfl (hl _)
          · simp only [List.getElem?_toArray, List.getElem?_cons_zero, List.getElem?_cons_succ, Option.some.injEq] at ho
            subst ho
            simp [Region.binds] at hdep
            have e38 := hKn.ev hF 0 rfl rfl rfl (by simp [hdep])
            have e40 := hKn.ev hF 2 rfl rfl rfl (by simp [hdep])
            have c10 : D 10 = false := by
              cases hx : D 10 with
              | false => rfl
              | true => have h3 := hI.o10 hx; rw [hD] at h3; cases h3
            have hm9 := HM3.out.below hI.below
            have ht9 := HTG3.out.below hI.below
            clear hF hcl hKn hl
            go_simp
            refine (rclear_any Ab n cb m A6 tags.length c6 tags _ HN.out hm9 hlen rfl ht9 htl hib).mono ?_
            rintro e w6 ⟨A7, c7, rfl, own7, hb6⟩
            exact hk _ _ (hI.op3 c10 hb6 (own_cap own7) (SlE.of_own own7))
          · exact absurd rfl (hl _)
          · exact absurd rfl (hl _)
          · exact absurd rfl (hl _)
          · exact absurd rfl (hl _)
          · exact absurd rfl (hl _)
          · simp only [List.getElem?_toArray, List.getElem?_cons_zero, List.getElem?_cons_succ, Option.some.injEq] at ho
            subst ho
            simp [Region.binds] at hdep
            have e46 := hKn.ev hF 8 rfl rfl rfl (by simp [hdep])
            clear hF hcl hKn hl
            go_simp
            refine (lies_any q hqx _).mono ?_
            rw [← HL0.out]
            rintro e w6 ⟨rfl, hb6⟩
            exact hk _ _ (hI.op9 hb6)
          · simp only [List.getElem?_toArray, List.getElem?_cons_zero, List.getElem?_cons_succ, Option.some.injEq] at ho
            subst ho
            simp [Region.binds] at hdep
            obtain ⟨A7, c7, hx3, hI2⟩ := hI.op10 (by simp [hdep])
            have e41 := hF.ev 3 rfl rfl (by simp [hdep]) hx3
            clear hF hcl hKn hl
            go_simp
            exact hk _ _ hI2
          · simp only [List.getElem?_toArray, List.getElem?_cons_zero, List.getElem?_cons_succ, Option.some.injEq] at ho
            subst ho
            simp [Region.binds] at hdep
            have e47 := hF.ev 9 rfl rfl (by simp [hdep]) (hI.h9 (by simp [hdep]))
            clear hF hcl hKn hl
            go_simp
            exact hk _ _ hI.op11
        · intro D x w9 hD hDz hKn hI
          obtain ⟨A7, c7, hx3, hcap7, hS7, h10⟩ := hI.h3 (hD 3 (by decide))
          have x10 := h10 (hD 10 (by decide))
          have x11 := hI.h11 (hD 11 (by decide))
          have HBI := Lib.hid hI.below
          have HS7 := Lib.hid (show SlE w9 5 A7 ((clearB m tags).map bv) from hS7)
          clear hI hD hDz hKn hx3 h10 hS7
          rw [HA0.out]
          simp [putsAll, List.range, List.range.loop, Act.put, x10, x11]
          clear x10 x11
          obtain ⟨⟨b0, b1, b2, b3, b4, b5, b6, b7⟩, bf⟩ := (HP3.out.below HBI.out).eight
          have hr := HPROJ.out
          rw [HQ.out] at hr
          have hso : sizeOk ⟨s, al, A, sp, c, x3, x4, .slice (some ⟨gq, oq, none⟩) cs.length c5, .slice A6 tags.length c6, x7⟩ q = (decide (0 ≤ L) && decide (L ≤ s)) := by
            unfold sizeOk; rw [HV0.out, ← HL0.out]; rfl
          simp only [hso, ← HL0.out] at hr
          clear hso
          have HR := Lib.hid hr
          clear hr
          by_cases hL0 : L < 0
          · have hd0 : decide (0 ≤ L) = false := by simp; omega
            have hr := HR.out
            simp only [hd0, Bool.false_and] at hr
            have HR2 := Lib.hid hr
            clear hr hd0
            go_wp2
            go_ret3
            exact ⟨below_next HB3.out HBI.out, .inl ⟨HR2.out, rfl⟩⟩
          · by_cases hLs : s < L
            · have hd0 : decide (L ≤ s) = false := by simp; omega
              have hr := HR.out
              simp only [hd0, Bool.and_false, Bool.false_and] at hr
              have HR2 := Lib.hid hr
              clear hr hd0
              go_wp2
              go_ret3
              exact ⟨below_next HB3.out HBI.out, .inl ⟨HR2.out, rfl⟩⟩
            · obtain ⟨N, hN⟩ := Int.eq_ofNat_of_zero_le (show 0 ≤ L by omega)
              have hNn : N ≤ n := by have := HNS.out; omega
              have hr := HR.out
              have hd0 : decide (0 ≤ L) = true := by simp; omega
              have hd1 : decide (L ≤ s) = true := by simp; omega
              simp only [hd0, hd1, Bool.true_and] at hr
              rw [hN, Int.toNat_natCast] at hr
              rw [hN] at hL0 hLs ⊢
              have HR2 := Lib.hid hr
              obtain ⟨A8, c8, hrun8, hS8⟩ := run_tail_sl w9 A7 n c7 (clearB m tags) HS7.out.sl HCL.out N hNn hcap7
              have hS9 : SlE w9 5 A7 (((clearB m tags).take N).map bv) := by have h := HS7.out.take N; rwa [← List.map_take] at h
              have HS8 := Lib.hid hS8
              have HS9 := Lib.hid hS9
              have hNi : (N : Int) ≤ (n : Int) := by omega
              have hN0 : (0 : Int) ≤ (N : Int) := by omega
              have hr0 : ((clearB m tags).drop N).length = n - N := by rw [List.length_drop, HCL.out]
              have HRL := Lib.hid hr0
              clear hr hd0 hd1 hS8 hS9 hr0 hN HR
              go_wp2_with fail
              go_loopw [60] (fun v60 wq => ∃ j : Nat, j ≤ n - N ∧ v60 = .int .i64 j ∧ wq = w9 ∧ Hid ((((clearB m tags).drop N).take j).any (fun b => b != 0) = false)) (fun v60 _ => (n - N) - (intOf v60).toNat)
              case atStart => exact ⟨0, by omega, rfl, rfl, (rfl : _ = _)⟩
              case round =>
                obtain ⟨j, hj, rfl, rfl, hz⟩ := hrel
                by_cases hlt : j < n - N
                · have hjr : j < ((clearB m tags).drop N).length := by rw [HRL.out]; exact hlt
                  obtain ⟨rb, ro, rfl, hrc⟩ := HS8.out.at_ (k := j) (by simpa using hjr)
                  rw [List.getElem_map] at hrc
                  have htk : ((clearB m tags).drop N).take (j + 1) = ((clearB m tags).drop N).take j ++ [((clearB m tags).drop N)[j]] := List.take_succ_eq_append_getElem hjr
                  have hmem := List.getElem_mem hjr
                  generalize ((clearB m tags).drop N)[j] = by_ at *
                  have HTK := Lib.hid htk
                  have HMEM := Lib.hid hmem
                  clear htk hmem
                  by_cases hb0 : by_ = 0
                  · subst hb0
                    have hrc' : wr.cell? ⟨rb, ro + j, none⟩ = some (.int .u8 0) := hrc
                    have hz2 : Hid ((((clearB m tags).drop N).take (j + 1)).any (fun b => b != 0) = false) := by
                      show _ = _
                      rw [HTK.out, List.any_append, hz.out]; rfl
                    clear hrc
                    go_wp2_with fail
                    go_roundw
                    case rel => exact ⟨j + 1, by omega, by go_num, by first | rfl | trivial, hz2⟩
                    case measure => simp [intOf]; omega
                  · have hxn : ((by_.toNat : Int) != 0) = true := by
                      have : by_.toNat ≠ 0 := fun h => hb0 (UInt8.toNat_inj.1 h)
                      simp; omega
                    have hrc' : wr.cell? ⟨rb, ro + j, none⟩ = some (.int .u8 (by_.toNat : Int)) := hrc
                    have hany : ((clearB m tags).drop N).any (fun b => b != 0) = true := List.any_eq_true.2 ⟨by_, HMEM.out, by simpa using hb0⟩
                    have hr := HR2.out
                    simp only [hany, Bool.not_true] at hr
                    have HR3 := Lib.hid hr
                    clear hr hany hrc hb0
                    go_wp2
                    go_ret3
                    exact ⟨below_next HB3.out HBI.out, .inl ⟨HR3.out, rfl⟩⟩
                · obtain rfl : j = n - N := by omega
                  have hany : ((clearB m tags).drop N).any (fun b => b != 0) = false := by
                    have h := hz.out
                    rwa [List.take_of_length_le (by rw [HRL.out]; exact Nat.le_refl _)] at h
                  have hr := HR2.out
                  simp only [hany, Bool.not_false, if_true] at hr
                  have HR3 := Lib.hid hr
                  clear hr hany hz
                  go_wp2_with fail
                  go_quiet (fail)
                  go_wp2
                  go_ret3
                  have hlt : ((clearB m tags).take N).length = N := by rw [List.length_take, HCL.out]; omega
                  refine ⟨below_drewN' (below_next HB3.out HBI.out) _, .inr ⟨Kc, (clearB m tags).take N, A7, c7, HR3.out, ?_, ?_, by rw [hlt]; omega⟩⟩
                  · rw [hlt]; rfl
                  · exact HS9.out.keep (fun _ _ _ _ => rfl)
      · have hq : cs[Kc]? = none := List.getElem?_eq_none (by omega)
        have hr := HPROJ.out
        rw [hq] at hr
        have HR := Lib.hid hr
        have hkc' : (cs.length : Int) ≤ (Kc : Int) := by omega
        clear hr hq
        go_wp2
        go_ret3
        exact ⟨HB3.out, .inl ⟨HR.out, rfl⟩⟩
set_option maxHeartbeats 1600000 in
theorem rtag_any (p : Part) (cs : List CaseV) (tags : List Int) (Ab : Option Addr) (n cb : Nat) (m : List UInt8) (w : World) (h : LayOf w p cs tags) (hx : ∀ q ∈ cs, q.x3.oneCell' = true) (hn : m.length = n) (hs : Sl w Ab (m.map bv)) (hlen : n ≤ 1000000) (hcap : n ≤ cb) (hsl : p.sp.length ≤ 1000000) (htl : tags.length ≤ 1000000) :
    Calls Try.prog 68 #[p.val, .slice Ab n cb] w (TagPost (projR p cs tags m) w) := by
  have hone := h.one
  have hpr := fun W (hL : LayOf W p cs tags) (hS : Sl W Ab (m.map bv)) => rproj_any p cs tags Ab n cb m W hL hx hn hS hlen hcap hsl htl
  obtain ⟨r, hr⟩ : ∃ r, r = projR p cs tags m := ⟨_, rfl⟩
  rw [← hr] at hpr ⊢
  obtain ⟨s, al, A, sp, c, x3, x4, x5, x6, x7⟩ := p
  have sx3 := store_var (P := Try.prog) hone.h3
  have sx4 := store_var (P := Try.prog) hone.h4
  have sx5 := store_var (P := Try.prog) hone.h5
  have sx6 := store_var (P := Try.prog) hone.h6
  have sx7 := store_var (P := Try.prog) hone.h7
  have hb0 := (Below.refl w.heap.size w).alloc (Nat.le_refl _) (.cells #[.int .i64 s, .int .i64 al, .slice A sp.length c, x3, x4, x5, x6, x7] 31)
  have HP := Lib.hid (hpr _ (h.below hb0) (hs.below hb0))
  have HB0 := Lib.hid hb0
  clear hpr hr h hs hb0 hone hn
  unfold Part.val
  go_enter Try.func68, Try.ntmps68
  go_wp2_with fail
  refine HP.out.mono ?_
  rintro e w2 ⟨hb2, h2⟩
  have HB := Lib.hid (below_next HB0.out hb2)
  rcases h2 with ⟨h2, rfl⟩ | ⟨k, u, A9, c9, h2, rfl, _⟩
  · have HR := Lib.hid h2
    clear h2 hb2 HP HB0
    go_wp2
    go_ret2
    exact ⟨HB.out, .inl ⟨HR.out, rfl⟩⟩
  · have HR := Lib.hid h2
    clear h2 hb2 HP HB0
    go_wp2
    go_ret2
    exact ⟨HB.out, .inr ⟨k, u, HR.out, rfl⟩⟩
end Go.Proofs.Ytamhigknobdloaa
namespace Go.Proofs.Ytamhigknobdloaa
open Go.RowKit
set_option linter.unusedVariables false

theorem getB_zero (m : List UInt8) (l : List Int) (j : Nat) (h : j + l.length ≤ 62) : getB m l j = 0 ↔ ∀ t ∈ l, bitI m t = false := by
  induction l generalizing j with
  | nil => simp [getB]
  | cons a t ih =>
    rw [List.length_cons] at h
    have hi := ih (j + 1) (by omega)
    have hp := Nat.pow_pos (n := j) (show 0 < 2 by omega)
    have hd : decide (j < 62) = true := by simp; omega
    simp only [getB, hd, Bool.true_and, List.mem_cons, forall_eq_or_imp]
    rw [← hi]
    cases bitI m a with
    | true => simp
    | false => simp
theorem clear_id (m : List UInt8) (l : List Int) : clearB m l = m ↔ ∀ t ∈ l, bitI m t = false := by
  constructor
  · intro h t ht
    cases hb : bitI m t with
    | false => rfl
    | true =>
      unfold bitI at hb
      rw [Bool.and_eq_true, decide_eq_true_eq] at hb
      obtain ⟨i, rfl⟩ := Int.eq_ofNat_of_zero_le hb.1
      have h1 := bitN_clearB m l i
      rw [h, List.contains_iff_mem.2 ht] at h1
      rw [Int.toNat_natCast] at hb
      rw [hb.2] at h1
      simp at h1
  · intro h
    refine ext_bits _ _ (clearB_length m l) fun i _ => ?_
    rw [bitN_clearB]
    cases hb : bitN m i with
    | false => rfl
    | true =>
      cases hc : l.contains (i : Int) with
      | false => rfl
      | true =>
        have h1 := h (i : Int) (List.contains_iff_mem.1 hc)
        unfold bitI at h1
        simp [hb] at h1
theorem get_clear (m : List UInt8) (l : List Int) (h : l.length ≤ 62) : decide (clearB m l = m) = decide (getB m l 0 = 0) := by
  rw [decide_eq_decide, clear_id, getB_zero m l 0 (by omega)]
/-- What holds while the payload is laid out and padded: in stages. -/
inductive InSt (W0 : World) (n S : Nat) (m : List UInt8) (D : Nat → Bool) (x : Nat → Value) (w : World) : Prop
  | s0 (d1 : D 1 = false) (d6 : D 6 = false) (d7 : D 7 = false) (hb : Below W0.heap.size W0 w)
  | s1 (d1 : D 1 = true) (d6 : D 6 = false) (d7 : D 7 = false) (hb : Below W0.heap.size W0 w) (A : Option Addr) (c : Nat) (hx : x 1 = .slice A n c) (own : w.ownsRow W0.heap.size 5 1 (.slice A n c) n (m.map bv))
  | s6 (d1 : D 1 = true) (d6 : D 6 = true) (d7 : D 7 = false) (hb : Below W0.heap.size W0 w) (A : Option Addr) (c : Nat) (hx : x 6 = .slice A S c) (own : w.ownsRow W0.heap.size 5 1 (.slice A S c) S ((padB m (S - n)).map bv))
  | s7 (d1 : D 1 = true) (d6 : D 6 = true) (d7 : D 7 = true) (hb : Below W0.heap.size W0 w) (A : Option Addr) (c : Nat) (hx : x 7 = .slice A S c) (own : w.ownsRow W0.heap.size 5 1 (.slice A S c) S ((padB m (S - n)).map bv))
section
variable {W0 w w' : World} {n S : Nat} {m : List UInt8} {D : Nat → Bool} {x : Nat → Value}
theorem InSt.below (h : InSt W0 n S m D x w) : Below W0.heap.size W0 w := by cases h <;> assumption
theorem InSt.ins (h : InSt W0 n S m D x w) (i : Nat) (u : Value) (h1 : i ≠ 1) (h6 : i ≠ 6) (h7 : i ≠ 7) : InSt W0 n S m (fun j => if j = i then true else D j) (fun j => if j = i then u else x j) w := by
  have e1 : ∀ {α : Type} (p q : α), (if 1 = i then p else q) = q := fun p q => if_neg (fun e => h1 e.symm)
  have e6 : ∀ {α : Type} (p q : α), (if 6 = i then p else q) = q := fun p q => if_neg (fun e => h6 e.symm)
  have e7 : ∀ {α : Type} (p q : α), (if 7 = i then p else q) = q := fun p q => if_neg (fun e => h7 e.symm)
  cases h with
  | s0 d1 d6 d7 hb => exact .s0 ((e1 _ _).trans d1) ((e6 _ _).trans d6) ((e7 _ _).trans d7) hb
  | s1 d1 d6 d7 hb A c hx own => exact .s1 ((e1 _ _).trans d1) ((e6 _ _).trans d6) ((e7 _ _).trans d7) hb A c ((e1 _ _).trans hx) own
  | s6 d1 d6 d7 hb A c hx own => exact .s6 ((e1 _ _).trans d1) ((e6 _ _).trans d6) ((e7 _ _).trans d7) hb A c ((e6 _ _).trans hx) own
  | s7 d1 d6 d7 hb A c hx own => exact .s7 ((e1 _ _).trans d1) ((e6 _ _).trans d6) ((e7 _ _).trans d7) hb A c ((e7 _ _).trans hx) own
theorem InSt.op1 (h : InSt W0 n S m D x w) (hD : D 1 = false) {A : Option Addr} {c : Nat} (hb : Below w.heap.size w w') (own : w'.ownsRow w.heap.size 5 1 (.slice A n c) n (m.map bv)) : InSt W0 n S m (fun j => if j = 1 then true else D j) (fun j => if j = 1 then .slice A n c else x j) w' := by
  have hb0 := h.below
  cases h with
  | s0 d1 d6 d7 _ => exact .s1 rfl d6 d7 (below_next hb0 hb) A c rfl (own_base own hb0.size)
  | s1 d1 | s6 d1 | s7 d1 => rw [hD] at d1; cases d1
theorem InSt.op6 (h : InSt W0 n S m D x w) (hD : D 6 = false) (h1 : D 1 = true) (hnS : n ≤ S) (hS : S ≤ 1024) : ∃ A c, x 1 = .slice A n c ∧ ∃ A' c' w', (heldAppend #[27, 3] 27 #[.slice A n c, .int .i64 ((S - n : Nat) : Int)]).run Try.prog w = .ok (.value (.slice A' S c')) w' ∧
    InSt W0 n S m (fun j => if j = 6 then true else D j) (fun j => if j = 6 then .slice A' S c' else x j) w' := by
  cases h with
  | s1 d1 d6 d7 hb A c hx own =>
    obtain ⟨A4, c4, w4, hrun4, own4, hg4⟩ := run_append_zeros (P := Try.prog) w W0.heap.size 27 3 27 5 _ 1 Try.underlying27 Try.underlying3 el5 rfl rfl (by omega) A n c _ own (S - n) (by omega) hb.size
    rw [Nat.add_sub_cancel' hnS] at hrun4 own4
    have hpad : m.map bv ++ List.replicate (S - n) (.int .u8 0) = (padB m (S - n)).map bv := by unfold padB; rw [List.map_append, List.map_replicate]; rfl
    rw [hpad] at own4
    exact ⟨A, c, hx, A4, c4, w4, hrun4, .s6 d1 rfl d7 (hb.grown hg4 hb.size (fun q hq => (own.lt q hq).1)) A4 c4 rfl own4⟩
  | s0 d1 => rw [h1] at d1; cases d1
  | s6 _ d6 | s7 _ d6 => rw [hD] at d6; cases d6
theorem InSt.op7 (h : InSt W0 n S m D x w) (hD : D 7 = false) (h6 : D 6 = true) : ∃ A c, x 6 = .slice A S c ∧ InSt W0 n S m (fun j => if j = 7 then true else D j) (fun j => if j = 7 then .slice A S c else x j) w := by
  cases h with
  | s6 d1 d6 d7 hb A c hx own => exact ⟨A, c, hx, .s7 d1 d6 rfl hb A c rfl own⟩
  | s0 _ d6 | s1 _ d6 => rw [h6] at d6; cases d6
  | s7 _ _ d7 => rw [hD] at d7; cases d7
theorem InSt.done (h : InSt W0 n S m D x w) (hD : D 7 = true) : ∃ A c, x 7 = .slice A S c ∧ w.ownsRow W0.heap.size 5 1 (.slice A S c) S ((padB m (S - n)).map bv) ∧ Below W0.heap.size W0 w := by
  cases h with
  | s7 d1 d6 d7 hb A c hx own => exact ⟨A, c, hx, own, hb⟩
  | s0 _ _ d7 | s1 _ _ d7 | s6 _ _ d7 => rw [hD] at d7; cases d7
end

set_option maxHeartbeats 3200000 in
set_option maxRecDepth 100000 in
theorem rinj_any (p : Part) (cs : List CaseV) (tags : List Int) (k : Int) (Ab : Option Addr) (n cb : Nat) (m : List UInt8) (w : World) (h : LayOf w p cs tags) (hx : ∀ q ∈ cs, q.x3.oneCell' = true) (hn : m.length = n) (hs : Sl w Ab (m.map bv)) (hlen : n ≤ 1000000) (hcap : n ≤ cb) (hsl : p.sp.length ≤ 1000000) (htl : tags.length ≤ 62)
    (hk0 : -9223372036854775808 ≤ k) (hk1 : k ≤ 9223372036854775807) :
    Calls Try.prog 69 #[p.val, .int .i64 k, .slice Ab n cb] w (InjPost (injR p cs tags k m) w) := by
  obtain ⟨s, al, A, sp, c, x3, x4, x5, x6, x7⟩ := p
  obtain ⟨A5, c5, e5, hcs⟩ := h.x5
  obtain ⟨A6, c6, e6, htg, htc⟩ := h.x6
  simp only at e5 e6 hsl
  subst e5 e6
  have hone := h.one
  have sx3 := store_var (P := Try.prog) hone.h3
  have sx4 := store_var (P := Try.prog) hone.h4
  have sx7 := store_var (P := Try.prog) hone.h7
  have hb0 := (Below.refl w.heap.size w).alloc (Nat.le_refl _) (.cells #[.int .i64 s, .int .i64 al, .slice A sp.length c, x3, x4, .slice A5 cs.length c5, .slice A6 tags.length c6, x7] 31)
  have hP := Blk.new w 31 #[.int .i64 s, .int .i64 al, .slice A sp.length c, x3, x4, .slice A5 cs.length c5, .slice A6 tags.length c6, x7]
  have hL := h.below hb0
  have hs1 := hs.below hb0
  have hclen := h.len
  have hib := h.ib
  have hs01 := h.s0
  have hs02 := h.s1
  simp only at hs01 hs02
  have HH := Lib.hid h
  have HP := Lib.hid hP
  have HB0 := Lib.hid hb0
  have HL := Lib.hid hL
  have HS1 := Lib.hid hs1
  have HN := Lib.hid hn
  have HX3 := Lib.hid hx
  clear h hP hb0 hL hs1 hn hs hcs htg hone hx
  unfold Part.val
  obtain ⟨r, hr⟩ : ∃ r, r = injR ⟨s, al, A, sp, c, x3, x4, .slice A5 cs.length c5, .slice A6 tags.length c6, x7⟩ cs tags k m := ⟨_, rfl⟩
  rw [← hr]
  unfold injR at hr
  by_cases hneg : k < 0
  · rw [if_pos (.inl hneg)] at hr
    have HR := Lib.hid hr
    clear hr
    have hd : decide (k < 0) = true := by simpa using hneg
    go_enter Try.func69, Try.ntmps69
    go_wp2
    go_ret2
    exact injPost_err 20 HR.out HB0.out rfl
  · by_cases hbig : (cs.length : Int) ≤ k
    · rw [if_pos (.inr hbig)] at hr
      have HR := Lib.hid hr
      clear hr
      have hd : decide (k < 0) = false := by simpa using hneg
      go_enter Try.func69, Try.ntmps69
      go_wp2
      go_ret2
      exact injPost_err 20 HR.out HB0.out rfl
    · rw [if_neg (by omega)] at hr
      obtain ⟨Kc, rfl⟩ := Int.eq_ofNat_of_zero_le (show 0 ≤ k by omega)
      rw [Int.toNat_natCast] at hr
      have hkc : Kc < cs.length := by omega
      rw [List.getElem?_eq_getElem hkc] at hr
      simp only at hr
      have hkc' : ¬ (cs.length : Int) ≤ (Kc : Int) := by omega
      have hkc2 : (Kc : Int) < (cs.length : Int) := by omega
      have hkc3 : (0 : Int) ≤ (Kc : Int) := Int.natCast_nonneg _
      have hd : decide ((Kc : Int) < 0) = false := by simp
      have hqx := HX3.out cs[Kc] (List.getElem_mem hkc)
      obtain ⟨A5', c5', e5, hcs3⟩ := HL.out.x5
      injection e5 with q1 q2 q3
      subst q1 q3
      obtain ⟨gq, oq, hA5, g0, g1, g2, g3, g4⟩ := hcs3.get hkc
      subst hA5
      have hql := HL.out.cl cs[Kc] (List.getElem_mem hkc)
      clear hcs3 q2 hneg hbig
      generalize hqk : cs[Kc] = q at *
      have hq1 := hql.1
      have hq2 := hql.2
      have hlb : -9223372036854775808 ≤ liesI q ∧ liesI q ≤ 9223372036854775807 := by unfold liesI; split <;> omega
      have hlb1 := hlb.1
      have hlb2 := hlb.2
      obtain ⟨L, hLq⟩ : ∃ L, L = liesI q := ⟨_, rfl⟩
      rw [← hLq] at hlb1 hlb2
      have hsd : sizeOk ⟨s, al, A, sp, c, x3, x4, .slice (some ⟨gq, oq, none⟩) cs.length c5, .slice A6 tags.length c6, x7⟩ q = (validB s al sp.length && decide (0 ≤ L) && decide (L ≤ s)) := by unfold sizeOk; rw [← hLq]; rfl
      simp only [hsd, ← hLq] at hr
      have sxq := store_var (P := Try.prog) hqx
      have HLQ := Lib.hid hLq
      have HR0 := Lib.hid hr
      have HQL := Lib.hid (lies_any q hqx)
      clear hql hqk hlb hLq hsd hr hqx
      obtain ⟨V, hV⟩ : ∃ V, V = validB s al sp.length := ⟨_, rfl⟩
      have HV := Lib.hid hV
      have hRV : ∀ W : World, Calls Try.prog 27 #[.agg #[.int .i64 s, .int .i64 al, .slice A sp.length c, x3, x4, .slice (some ⟨gq, oq, none⟩) cs.length c5, .slice A6 tags.length c6, x7]] W fun e w' => e = .returned (.bool V) ∧ Below W.heap.size W w' := by rw [hV]; exact fun W => rvalid_any _ _ _ _ _ _ _ _ _ _ _
      have HRV := Lib.hid hRV
      clear hV hRV
      go_enter Try.func69, Try.ntmps69
      go_wp2_with fail
      refine (HQL.out _).mono ?_
      rw [← HLQ.out]
      rintro e w2 ⟨rfl, hb2⟩
      have hP2 := HP.out.below hb2
      have HB2 := Lib.hid (below_next HB0.out hb2)
      have HP2 := Lib.hid hP2
      have HL2 := Lib.hid (HL.out.below hb2)
      have HS2 := Lib.hid (HS1.out.below hb2)
      obtain ⟨⟨b0, b1, b2, b3, b4, b5, b6, b7⟩, bf⟩ := hP2.eight
      clear hb2 hP2 g0 g1 g2 g3 g4 sxq
      go_wp2_with fail
      refine (HRV.out _).mono ?_
      rintro e w3 ⟨rfl, hb3⟩
      have hP3 := HP2.out.below hb3
      have HB3 := Lib.hid (below_next HB2.out hb3)
      have HP3 := Lib.hid hP3
      have HL3 := Lib.hid (HL2.out.below hb3)
      have HS3 := Lib.hid (HS2.out.below hb3)
      clear b0 b1 b2 b3 b4 b5 b6 b7 bf
      obtain ⟨⟨b0, b1, b2, b3, b4, b5, b6, b7⟩, bf⟩ := hP3.eight
      clear hb3 hP3 b1 b2 b3 b4 b5 b6 b7 bf
      have hr := HR0.out
      rw [← HV.out] at hr
      by_cases hok : V = true ∧ 0 ≤ L ∧ L ≤ s ∧ (n : Int) = L
      case neg =>
        have hr2 : r = (21, []) := by
          rw [hr, HN.out]
          rcases V with _ | _
          · rfl
          · have : ¬ (0 ≤ L ∧ L ≤ s ∧ (n : Int) = L) := fun h => hok ⟨rfl, h⟩
            by_cases h1 : 0 ≤ L
            · by_cases h2 : L ≤ s
              · have h3 : ¬ (n : Int) = L := fun h => this ⟨h1, h2, h⟩
                simp [h3]
              · simp [h2]
            · simp [h1]
        have HR2 := Lib.hid hr2
        clear hr hr2
        cases V with
        | false =>
          go_wp2
          go_ret2
          exact injPost_err 21 HR2.out HB3.out rfl
        | true =>
          by_cases h1 : L < 0
          · go_wp2
            go_ret2
            exact injPost_err 21 HR2.out HB3.out rfl
          · by_cases h2 : s < L
            · go_wp2
              go_ret2
              exact injPost_err 21 HR2.out HB3.out rfl
            · have h3 : ((n : Int) != L) = true := by
                have : ¬ (n : Int) = L := fun h => hok ⟨rfl, by omega, by omega, h⟩
                simpa using this
              clear hok
              go_wp2
              go_ret2
              exact injPost_err 21 HR2.out HB3.out rfl
      case pos =>
        obtain ⟨hVt, h1, h2, h3⟩ := hok
        subst hVt
        have hvb := HV.out.symm
        obtain ⟨v1, v2, v3, v4⟩ := (valid_iff ⟨s, al, A, sp, c, x3, x4, .slice (some ⟨gq, oq, none⟩) cs.length c5, .slice A6 tags.length c6, x7⟩).1 hvb
        simp only at v1 v2 v3 v4
        obtain ⟨S, rfl⟩ := Int.eq_ofNat_of_zero_le v1
        subst h3
        have hnS : n ≤ S := by omega
        have hS1024 : S ≤ 1024 := by omega
        have e0 : decide ((0 : Int) ≤ (n : Int)) = true := by simp
        have e1 : decide ((n : Int) ≤ (S : Int)) = true := by simp; omega
        have e2 : decide ((m.length : Int) = (n : Int)) = true := by rw [HN.out]; simp
        have e3 : ((S : Int) - (n : Int)).toNat = S - n := by omega
        rw [e0, e1, e2, e3] at hr
        simp only [Bool.and_true, if_true] at hr
        have hself : ((n : Int) != (n : Int)) = false := by simp
        have hn0 : ¬ (n : Int) < 0 := by omega
        have hnS2 : ¬ (S : Int) < (n : Int) := by omega
        have HR := Lib.hid hr
        have HLS := Lib.hid v4
        clear hr e0 e1 e2 e3 v3 v4 hvb h1 h2 HR0 hd hkc' hkc2 hkc3
        go_wp2_with fail
        refine gen_act fun a0 ha0 => ?_
        have z2 : a0.eval (.tmp 2) = .slice Ab n cb := by rw [ha0]; rfl
        have z3 : a0.eval (.tmp 3) = .pointer (some ⟨w.heap.size, 0, none⟩) := by rw [ha0]; rfl
        have z8 : a0.eval (.tmp 8) = .int .i64 n := by rw [ha0]; rfl
        have zs : a0.tmps.size = 68 := by rw [ha0]; rfl
        have HA0 := Lib.hid ha0
        clear ha0
        refine wp_region_known (by kernel_rfl) (ord_of (by kernel_rfl)) (dst_of (by kernel_rfl)) (size_of' (n := 68) (by kernel_rfl) zs) (guard_of (by kernel_rfl)) [some (.slice Ab n cb), none, some (.pointer (some ⟨w.heap.size, 0, none⟩)), some (.int .i64 S), some (.int .i64 n), some (.int .i64 ((S : Int) - (n : Int))), none, none] (InSt w3 n S m) (.s0 rfl rfl rfl (Below.drew (Below.refl _ _))) ?_ ?_ ?_ ?_
        · intro i u D x w5 hl hD hI
          have hi : i < 8 := by have h := (List.getElem?_eq_some_iff.1 hl).1; simpa using h
          have hnh : i ≠ 1 ∧ i ≠ 6 ∧ i ≠ 7 := by
            refine ⟨?_, ?_, ?_⟩ <;> (rintro rfl; simp at hl)
          exact hI.ins i u hnh.1 hnh.2.1 hnh.2.2
        · intro D x a w5 i o u ho hl hD hdep hcl hF hKn hI K hk
          have hi : i < 8 := (Array.getElem?_eq_some_iff.1 ho).1
          rcases (show i = 0 ∨ i = 1 ∨ i = 2 ∨ i = 3 ∨ i = 4 ∨ i = 5 ∨ i = 6 ∨ i = 7 by omega) with rfl | rfl | rfl | rfl | rfl | rfl | rfl | rfl
          · simp only [List.getElem?_toArray, List.getElem?_cons_zero, Option.some.injEq] at ho
            subst ho
            obtain rfl : .slice Ab n cb = u := by simpa using hl
            have e2 := hF.ev0 (by kernel_rfl) z2
            clear hF hcl hKn hl
            go_simp
            exact hk
          · simp at hl
          · simp only [List.getElem?_toArray, List.getElem?_cons_zero, List.getElem?_cons_succ, Option.some.injEq] at ho
            subst ho
            obtain rfl : .pointer (some ⟨w.heap.size, 0, none⟩) = u := by simpa using hl
            have e3 := hF.ev0 (by kernel_rfl) z3
            clear hF hcl hKn hl
            go_simp
            exact hk
          · simp only [List.getElem?_toArray, List.getElem?_cons_zero, List.getElem?_cons_succ, Option.some.injEq] at ho
            subst ho
            simp [Region.binds] at hdep
            obtain rfl : .int .i64 S = u := by simpa using hl
            have e46 := hKn.ev hF 2 rfl rfl rfl (by simp [hdep])
            obtain ⟨⟨b0, b1, b2, b3, b4, b5, b6, b7⟩, bf⟩ := (HP3.out.below hI.below).eight
            clear hF hcl hKn hl
            go_simp
            exact hk
          · simp only [List.getElem?_toArray, List.getElem?_cons_zero, List.getElem?_cons_succ, Option.some.injEq] at ho
            subst ho
            obtain rfl : .int .i64 n = u := by simpa using hl
            have e8 := hF.ev0 (by kernel_rfl) z8
            clear hF hcl hKn hl
            go_simp
            exact hk
          · simp only [List.getElem?_toArray, List.getElem?_cons_zero, List.getElem?_cons_succ, Option.some.injEq] at ho
            subst ho
            simp [Region.binds] at hdep
            obtain rfl : .int .i64 ((S : Int) - (n : Int)) = u := by simpa using hl
            have e47 := hKn.ev hF 3 rfl rfl rfl (by simp [hdep])
            have e48 := hKn.ev hF 4 rfl rfl rfl (by simp [hdep])
            have hw : IntKind.i64.wrap ((S : Int) - (n : Int)) = (S : Int) - (n : Int) := by rw [IntKind.wrap_i64]; omega
            clear hF hcl hKn hl
            go_simp
            exact hk
          · simp at hl
          · simp at hl
        · intro D x a w5 i o ho hl hD hdep hcl hF hKn hI K hk
          have hi : i < 8 := (Array.getElem?_eq_some_iff.1 ho).1
          rcases (show i = 0 ∨ i = 1 ∨ i = 2 ∨ i = 3 ∨ i = 4 ∨ i = 5 ∨ i = 6 ∨ i = 7 by omega) with rfl | rfl | rfl | rfl | rfl | rfl | rfl | rfl
          · exact absurd rfl (hl _)
          · simp only [List.getElem?_toArray, List.getElem?_cons_zero, List.getElem?_cons_succ, Option.some.injEq] at ho
            subst ho
            simp [Region.binds] at hdep
            have e44 := hKn.ev hF 0 rfl rfl rfl (by simp [hdep])
            have hm9 := HS3.out.below hI.below
            have E0 := (hF.eval (i := 0) rfl rfl (by simp [hdep])).trans (hKn 0 _ rfl (by simp [hdep]))
            refine wp_append_sl (.const (.slice none 0 0)) (.tmp 44) 27 rfl w5.heap.size 5 _ 1 1 Try.underlying27 el5 (.slice none 0 0) 0 [] rfl (World.ownsRow_nil _ _ _ _) Ab n cb (m.map bv) E0 hm9 (by rw [List.length_map, HN.out]; omega) (oneCell_bv m) (by simp only [maxLen]; omega) (by omega) (Nat.le_refl _) ?_
            intro A' c' w6 hown hg _
            simp only [Nat.zero_add, List.nil_append] at hown ⊢
            exact hk _ _ (hI.op1 hD ((Below.refl _ _).grown hg (Nat.le_refl _) (fun q hq => by cases hq)) hown)
          · exact absurd rfl (hl _)
          · exact absurd rfl (hl _)
          · exact absurd rfl (hl _)
          · exact absurd rfl (hl _)
          · simp only [List.getElem?_toArray, List.getElem?_cons_zero, List.getElem?_cons_succ, Option.some.injEq] at ho
            subst ho
            simp [Region.binds] at hdep
            have e49 := hKn.ev hF 5 rfl rfl rfl (by simp [hdep])
            obtain ⟨A7, c7, hx1, A8, c8, w8, hrun, hI2⟩ := hI.op6 hD (by simp [hdep]) hnS hS1024
            have e45 := hF.ev 1 rfl rfl (by simp [hdep]) hx1
            have hm : ((S - n : Nat) : Int) = (S : Int) - (n : Int) := by omega
            rw [hm] at hrun
            clear hF hcl hKn hl
            go_simp
            exact hk _ _ hI2
          · simp only [List.getElem?_toArray, List.getElem?_cons_zero, List.getElem?_cons_succ, Option.some.injEq] at ho
            subst ho
            simp [Region.binds] at hdep
            obtain ⟨A7, c7, hx6, hI2⟩ := hI.op7 hD (by simp [hdep])
            have e50 := hF.ev 6 rfl rfl (by simp [hdep]) hx6
            clear hF hcl hKn hl
            go_simp
            exact hk _ _ hI2
        · intro D x w9 hD hDz hKn hI
          obtain ⟨A4, c4, x7', own4, hbI⟩ := hI.done (hD 7 (by decide))
          have hP4 := HP3.out.below hbI
          have L4 := HL3.out.below hbI
          obtain ⟨A6', c6', e6, htg4, _⟩ := L4.x6
          injection e6 with q1 q2 q3
          subst q1 q3
          have hpl : (padB m (S - n)).length = S := by have := own4.1; simpa using this
          have hsl4 : Sl w9 A4 ((padB m (S - n)).map bv) := Sl.of_own own4
          have HB4 := Lib.hid (below_next HB3.out hbI)
          have HP4 := Lib.hid hP4
          have HTG4 := Lib.hid htg4
          have HSP4 := Lib.hid L4.sp
          have HPL := Lib.hid hpl
          have HSL4 := Lib.hid hsl4
          clear hI hD hDz hKn own4 hbI q2 L4 htg4 hpl hsl4 b0
          rw [HA0.out]
          simp [putsAll, List.range, List.range.loop, Act.put, x7']
          clear x7'
          generalize padB m (S - n) = out at *
          obtain ⟨⟨d0, d1, d2, d3, d4, d5, d6, d7⟩, df⟩ := hP4.eight
          clear hP4 d0 d1 d3 d4 d5 d6 d7
          go_wp2_with fail
          refine (rfits_any A4 S c4 out A sp.length c sp _ HPL.out HSL4.out (by omega) rfl HSP4.out hsl).mono ?_
          cases hf : fitsB out sp with
          | false =>
            rintro e w5 ⟨rfl, hb5⟩
            have hr := HR.out
            rw [hf, Bool.false_and, if_neg (by decide)] at hr
            have HR2 := Lib.hid hr
            have HB5 := Lib.hid (below_next HB4.out hb5)
            clear hr hf hb5
            go_wp2
            go_ret2
            exact injPost_err 21 HR2.out HB5.out rfl
          | true =>
            rintro e w5 ⟨rfl, hb5⟩
            have hr := HR.out
            rw [hf, Bool.true_and, get_clear out tags htl] at hr
            have HR2 := Lib.hid hr
            have HB5 := Lib.hid (below_next HB4.out hb5)
            have HSL5 := Lib.hid (HSL4.out.below hb5)
            have HTG5 := Lib.hid (HTG4.out.below hb5)
            have hP5 := HP4.out.below hb5
            clear d2 df
            obtain ⟨⟨d0, d1, d2, d3, d4, d5, d6, d7⟩, df⟩ := hP5.eight
            clear hr hf hb5 hP5 d0 d1 d2 d3 d4 d5 d7
            go_wp2_with fail
            refine (rgetbits_any A4 S c4 out A6 tags.length c6 tags _ HPL.out HSL5.out (by omega) rfl HTG5.out (by omega) hib).mono ?_
            rintro e w6 ⟨rfl, rfl⟩
            by_cases hg0 : getB out tags 0 = 0
            · have hr := HR2.out
              rw [if_pos (by simpa using hg0)] at hr
              have HR3 := Lib.hid hr
              have hgd : (((getB out tags 0 : Nat) : Int) != 0) = false := by rw [hg0]; rfl
              clear hr
              go_wp2_with fail
              refine (rput_any A4 S c4 out A6 tags.length c6 tags Kc _ HPL.out HSL5.out (by omega) rfl HTG5.out (by omega) hib hk0 hk1).mono ?_
              rintro e w8 ⟨A8, c8, rfl, own8, hb8⟩
              have HB8 := Lib.hid (below_next HB5.out hb8)
              have hcap8 := own_cap own8
              have HS8 := Lib.hid (SlE.of_own own8)
              clear own8 hb8 d6 df
              go_wp2
              go_ret2
              refine ⟨HB8.out, A8, c8, ?_, ?_, ?_⟩
              · rw [HR3.out]; simp only [putB_length, HPL.out]; rfl
              · rw [HR3.out]; exact HS8.out
              · rw [HR3.out]; simp only [putB_length, HPL.out]; exact hcap8
            · have hr := HR2.out
              rw [if_neg (by simpa using hg0)] at hr
              have HR3 := Lib.hid hr
              have hgd : (((getB out tags 0 : Nat) : Int) != 0) = true := by simp; omega
              clear hr
              go_wp2
              go_ret2
              exact injPost_err 21 HR3.out HB5.out rfl
end Go.Proofs.Ytamhigknobdloaa
namespace Go.Proofs.Ytamhigknobdloaa
open Go.RowKit
set_option linter.unusedVariables false

theorem sumE_vals3 (ps : List Part) (nn : Nat) (bs : List Bool) : sumE ps nn bs = 0 ∨ sumE ps nn bs = 4 ∨ sumE ps nn bs = 19 := by
  unfold sumE
  split
  · exact .inr (.inr rfl)
  · split
    · exact .inr (.inl rfl)
    · split
      · exact .inr (.inl rfl)
      · exact .inl rfl
theorem RowsC.rlay {W w : World} {gd : Nat} {ls : List Int} {A7 A8 A9 : Option Addr} {n c7 c8 c9 : Nat} {ps : List Part} {nms : List ByteArray} {bs : List Bool} (h : RowsC W gd ls (.slice A7 n c7) ps (.slice A8 n c8) nms (.slice A9 n c9) bs w) (hn : ps.length = n) (hl : n ≤ 1000) :
    ∃ fs : List (List Int), fs.length = n ∧ Calls Try.prog 57 #[.slice A7 n c7, .slice A8 n c8, .slice A9 n c9] w (SumOut ps nms bs fs w) ∧ ∀ w', Below w.heap.size w w' → Calls Try.prog 58 #[.slice A7 n c7, .slice A8 n c8, .slice A9 n c9] w' (SumOut ps nms bs fs w') := by
  obtain ⟨fs, hfl, hfs⟩ := list_of (P := fun i f => ∀ (h1 : i < ps.length), ∃ Ao co, ps[i].x3 = .slice Ao (f : List Int).length co ∧ Sl w Ao (f.map iv) ∧ f.length ≤ 1000000) n (fun i hi => by
    obtain ⟨Ao, ofs, co, e, s, l1, l2⟩ := (h.laid ps[i] (List.getElem_mem (by omega))).of
    exact ⟨ofs, fun _ => ⟨Ao, co, e, s.sl, by omega⟩⟩)
  have o7 := h.own7
  have o8 := h.own8
  have o9 := h.own9
  rw [hn] at o7 o8 o9
  refine ⟨fs, hfl, sumlay_any A7 n c7 ps A8 n c8 nms A9 n c9 bs fs w hn (by rw [h.ln, hn]) (by rw [h.lb, hn]) hfl (parts_own o7) (Sl.of_own o8) (Sl.of_own o9) hl (fun p hp => (h.laid p hp).sp.sl) (fun p hp => (h.laid p hp).one) (fun i h1 h2 => hfs i h2 h1), fun w' hb => ?_⟩
  exact rsumlay_any A7 n c7 ps A8 n c8 nms A9 n c9 bs fs w' hn (by rw [h.ln, hn]) (by rw [h.lb, hn]) hfl ((parts_own o7).below hb) ((Sl.of_own o8).below hb) ((Sl.of_own o9).below hb) hl hl hl (fun p hp => (h.laid p hp).sp.sl.below hb) (fun p hp => (h.laid p hp).one) (fun i h1 h2 => by
    obtain ⟨Ao, co, e1, e2, e3⟩ := hfs i h2 h1
    exact ⟨Ao, co, e1, e2.below hb, e3⟩)
/-- Made bytes that are the call's own, while dice are thrown. -/
structure CAt (Wi : World) (gd : Nat) (ls : List Int) (N : Nat) (v : Value) (W : World) : Prop where
  dice : ∃ k, Dice W gd ls k
  grown : Wi.grownBy W (some gd)
  own : ∃ X : List UInt8, X.length = N ∧ W.ownsRow Wi.heap.size 5 1 v N (X.map bv)
  gdl : gd < Wi.heap.size
theorem CAt.dices {Wi W W' : World} {gd k' : Nat} {ls : List Int} {N : Nat} {v : Value} (h : CAt Wi gd ls N v W) (hd : Dice W' gd ls k') (hg : W.grownBy W' (some gd)) : CAt Wi gd ls N v W' := by
  obtain ⟨k, hk⟩ := h.dice
  obtain ⟨ds, hds⟩ := hk.cells
  obtain ⟨X, x1, x2⟩ := h.own
  exact ⟨⟨k', hd⟩, grown_trans h.grown hg, ⟨X, x1, own_keeps x2 (Keep.grown hg hds (by decide))⟩, h.gdl⟩
theorem CAt.below {Wi W W' : World} {gd : Nat} {ls : List Int} {N : Nat} {v : Value} (h : CAt Wi gd ls N v W) (hb : Below W.heap.size W W') : CAt Wi gd ls N v W' := by
  obtain ⟨k, hk⟩ := h.dice
  obtain ⟨X, x1, x2⟩ := h.own
  exact ⟨⟨k, hk.below hb⟩, grown_trans h.grown (only_of_below hb _), ⟨X, x1, below_own x2 hb⟩, h.gdl⟩
theorem own_set {w : World} {base : Nat} {e : TypeId} {g n c : Nat} {xs : List Value} (h : w.ownsRow base e 1 (.slice (some ⟨g, 0, none⟩) n c) n xs) (i : Nat) (hi : i < n) (u : Value) :
    (w.setCell ⟨g, i, none⟩ u).ownsRow base e 1 (.slice (some ⟨g, 0, none⟩) n c) n (xs.set i u) ∧ (∃ b, w.cell? ⟨g, i, none⟩ = some b ∧ xs[i]? = some b) ∧ w.frozen? ⟨g, i, none⟩ = false ∧ base ≤ g ∧ g < w.heap.size := by
  rcases h with ⟨hl, ⟨h1, _⟩ | ⟨g', cap, cur, h1, hb, hg, hn, hc, hsz, ht⟩⟩
  · cases h1
  · injection h1 with h1 _ h3
    injection h1 with h1
    injection h1 with h1
    subst h1 h3
    rw [Nat.mul_one] at hl ht hsz
    have hB : Blk w g e cur := hg
    have hx : xs[i]? = cur[i]? := by
      rw [← ht, List.getElem?_take, if_pos (by omega)]; simp
    refine ⟨⟨by simp; omega, .inr ⟨g, c, cur.setIfInBounds i u, rfl, hb, hB.set_ i u, hn, hc, by simp; omega, ?_⟩⟩, ⟨cur[i]'(by omega), ?_, ?_⟩, hB.frozen i, hb, hB.lt⟩
    · rw [Nat.mul_one, ← ht, Array.toList_setIfInBounds, List.take_set]
    · rw [hB.cell, Array.getElem?_eq_getElem]
    · rw [hx, Array.getElem?_eq_getElem]
theorem CAt.put {Wi W : World} {gd : Nat} {ls : List Int} {N g c : Nat} (h : CAt Wi gd ls N (.slice (some ⟨g, 0, none⟩) N c) W) (i : Nat) (hi : i < N) (b : UInt8) : CAt Wi gd ls N (.slice (some ⟨g, 0, none⟩) N c) (W.setCell ⟨g, i, none⟩ (bv b)) := by
  obtain ⟨k, hk⟩ := h.dice
  obtain ⟨X, x1, x2⟩ := h.own
  obtain ⟨o1, _, _, o4, _⟩ := own_set x2 i hi (bv b)
  have hgd := h.gdl
  refine ⟨⟨k, hk.far (grown_set W g i (bv b)) (fun q hq => by injection hq with hq; omega)⟩, grown_new h.grown (grown_set W g i (bv b)) (fun q hq => by injection hq with hq; omega), ⟨X.set i b, by simpa using x1, ?_⟩, h.gdl⟩
  rw [List.map_set]; exact o1
theorem CAt.cell {Wi W : World} {gd : Nat} {ls : List Int} {N g c : Nat} (h : CAt Wi gd ls N (.slice (some ⟨g, 0, none⟩) N c) W) (i : Nat) (hi : i < N) : (∃ b : UInt8, W.cell? ⟨g, i, none⟩ = some (.int .u8 (b.toNat : Int))) ∧ W.frozen? ⟨g, i, none⟩ = false ∧ Wi.heap.size ≤ g ∧ g < W.heap.size := by
  obtain ⟨X, x1, x2⟩ := h.own
  obtain ⟨_, ⟨b, o2, o2'⟩, o3, o4, o5⟩ := own_set x2 i hi (bv 0)
  rw [List.getElem?_map, List.getElem?_eq_getElem (by omega)] at o2'
  exact ⟨⟨X[i]'(by omega), by rw [o2, ← o2']; rfl⟩, o3, o4, o5⟩
theorem CAt.new (W : World) (gd : Nat) (ls : List Int) (k N : Nat) (hd : Dice W gd ls k) (hN : N ≤ 1024) : CAt W gd ls N (.slice (some ⟨W.heap.size, 0, none⟩) N N) (W.alloc (.cells (madeCells #[.int .u8 0] N) 5)) := by
  have e : ((List.replicate N (0 : UInt8)).map bv).toArray = madeCells #[.int .u8 0] N := by
    apply Array.toList_inj.1
    rw [toList_madeCells_one]
    simp [bv]
  refine ⟨⟨k, hd.alloc _⟩, grown_alloc (World.grownBy.refl _ _) _, ⟨List.replicate N 0, by simp, by simp, .inr ⟨W.heap.size, N, madeCells #[.int .u8 0] N, rfl, Nat.le_refl _, heap_alloc_new W _, Nat.le_refl _, by simp only [maxLen]; omega, ?_, ?_⟩⟩, hd.lt⟩
  · rw [← e]; simp
  · rw [← e]; simp
/-- What Project answers, in one form. -/
def projK (r : Option (Nat × List UInt8)) : Nat := match r with | none => 0 | some (k, _) => k
def projU (r : Option (Nat × List UInt8)) : List UInt8 := match r with | none => [] | some (_, u) => u
def projE (r : Option (Nat × List UInt8)) : Int := match r with | none => 21 | some _ => 0
theorem ProjPost.uni {r : Option (Nat × List UInt8)} {w w' : World} {e : Ending} (h : ProjPost r w e w') : Below w.heap.size w w' ∧ ∃ A c, e = .returned (.tuple #[.int .i64 (projK r), .slice A (projU r).length c, .int .i64 (projE r)]) ∧ SlE w' 5 A ((projU r).map bv) ∧ (projU r).length ≤ c := by
  obtain ⟨hb, ⟨rfl, he⟩ | ⟨k, u, A, c, rfl, he, h1, h2⟩⟩ := h
  · exact ⟨hb, none, 0, he, .inl rfl, Nat.le_refl _⟩
  · exact ⟨hb, A, c, he, h1, h2⟩
theorem TagPost.uni {r : Option (Nat × List UInt8)} {w w' : World} {e : Ending} (h : TagPost r w e w') : Below w.heap.size w w' ∧ e = .returned (.tuple #[.int .i64 (projK r), .int .i64 (projE r)]) := by
  obtain ⟨hb, ⟨rfl, he⟩ | ⟨k, u, rfl, he⟩⟩ := h
  · exact ⟨hb, he⟩
  · exact ⟨hb, he⟩
theorem projR_bd (p : Part) (cs : List CaseV) (tags : List Int) (m : List UInt8) : projK (projR p cs tags m) ≤ 4611686018427387904 ∧ (projU (projR p cs tags m)).length ≤ m.length := by
  unfold projR
  split
  · split
    · exact ⟨by show 0 ≤ _; omega, Nat.zero_le _⟩
    · split
      · refine ⟨by have := getB62 m tags; show getB m tags 0 ≤ _; omega, ?_⟩
        show ((clearB m tags).take _).length ≤ _
        rw [List.length_take, clearB_length]; omega
      · exact ⟨by show 0 ≤ _; omega, Nat.zero_le _⟩
  · exact ⟨by show 0 ≤ _; omega, Nat.zero_le _⟩
theorem injR_bd (p : Part) (cs : List CaseV) (tags : List Int) (k : Int) (m : List UInt8) : True := trivial
/-- A layout that is looked into. -/
def ZOk (W : World) (p : Part) : Prop := ∃ cs tags, LayOf W p cs tags ∧ (∀ q ∈ cs, q.x3.oneCell' = true) ∧ p.sp.length ≤ 1000000 ∧ tags.length ≤ 62
theorem ZOk.below {W W' : World} {p : Part} (h : ZOk W p) (hb : Below W.heap.size W W') : ZOk W' p := by
  obtain ⟨cs, tags, h1, h2, h3, h4⟩ := h
  exact ⟨cs, tags, h1.below hb, h2, h3, h4⟩
end Go.Proofs.Ytamhigknobdloaa
namespace Go.Proofs.Ytamhigknobdloaa
open Go.RowKit
set_option linter.unusedVariables false

set_option maxHeartbeats 3200000 in
set_option maxRecDepth 100000 in
theorem summoves_big (s al : Int) (Ap : Option Addr) (ns cp : Nat) (x3 x4 : Value) (A5 : Option Addr) (nc c5 : Nat) (A6 : Option Addr) (nt c6 : Nat) (x7 : Value) (Ab : Option Addr) (nb cb : Nat) (kk : Int) (A : Option Addr) (n c : Nat) (w : World)
    (h3 : x3.oneCell' = true) (h4 : x4.oneCell' = true) (h7 : x7.oneCell' = true) (b1 : ns ≤ 9223372036854775807) (b2 : nt ≤ 9223372036854775807) (b3 : nc ≤ 9223372036854775807) (b4 : nb ≤ 9223372036854775807) (hbig : 2000 < ns ∨ 50 < nt ∨ 50 < nc ∨ 2000 < nb ∨ 700 < n) :
    Calls Try.prog 15 #[.agg #[.int .i64 s, .int .i64 al, .slice Ap ns cp, x3, x4, .slice A5 nc c5, .slice A6 nt c6, x7], .slice Ab nb cb, .int .i64 kk, .slice A n c] w fun e w' => e = .returned (.bool true) ∧ Below w.heap.size w w' := by
  have sx3 := store_var (P := Try.prog) h3
  have sx4 := store_var (P := Try.prog) h4
  have sx7 := store_var (P := Try.prog) h7
  have hb0 := (Below.refl w.heap.size w).alloc (Nat.le_refl _) (.cells #[.int .i64 s, .int .i64 al, .slice Ap ns cp, x3, x4, .slice A5 nc c5, .slice A6 nt c6, x7] 31)
  clear h3 h4 h7
  by_cases g1 : 2000 < ns
  · have d1 : decide ((2000 : Int) < ns) = true := by simp; omega
    clear hbig
    go_enter Try.func15, Try.ntmps15
    go_wp2_with fail
    refine (awake17 _).mono ?_
    rintro e w1 ⟨rfl, hb⟩
    go_wp2
    go_ret
    exact ⟨rfl, below_next hb0 hb⟩
  have d1 : decide ((2000 : Int) < ns) = false := by simp; omega
  by_cases g2 : 50 < nt
  · have d2 : decide ((50 : Int) < nt) = true := by simp; omega
    clear hbig
    go_enter Try.func15, Try.ntmps15
    go_wp2_with fail
    refine (awake17 _).mono ?_
    rintro e w1 ⟨rfl, hb⟩
    go_wp2
    go_ret
    exact ⟨rfl, below_next hb0 hb⟩
  have d2 : decide ((50 : Int) < nt) = false := by simp; omega
  by_cases g3 : 50 < nc
  · have d3 : decide ((50 : Int) < nc) = true := by simp; omega
    clear hbig
    go_enter Try.func15, Try.ntmps15
    go_wp2_with fail
    refine (awake17 _).mono ?_
    rintro e w1 ⟨rfl, hb⟩
    go_wp2
    go_ret
    exact ⟨rfl, below_next hb0 hb⟩
  have d3 : decide ((50 : Int) < nc) = false := by simp; omega
  by_cases g4 : 2000 < nb
  · have d4 : decide ((2000 : Int) < nb) = true := by simp; omega
    clear hbig
    go_enter Try.func15, Try.ntmps15
    go_wp2_with fail
    refine (awake17 _).mono ?_
    rintro e w1 ⟨rfl, hb⟩
    go_wp2
    go_ret
    exact ⟨rfl, below_next hb0 hb⟩
  have d4 : decide ((2000 : Int) < nb) = false := by simp; omega
  have hl' : decide (n ≤ 700) = false := by simp; omega
  clear hbig
  go_enter Try.func15, Try.ntmps15
  go_wp2_with fail
  refine (light_any _ _ _ _).mono ?_
  rw [hl']
  rintro e w1 ⟨rfl, rfl⟩
  go_wp2_with fail
  refine (awake17 _).mono ?_
  rintro e w1 ⟨rfl, hb⟩
  go_wp2
  go_ret
  exact ⟨rfl, below_next hb0 hb⟩
end Go.Proofs.Ytamhigknobdloaa
