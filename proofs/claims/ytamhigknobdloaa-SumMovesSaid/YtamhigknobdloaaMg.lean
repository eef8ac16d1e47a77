/- The walks of Repeat, Extend and Fits; conditions: lengths are small. -/
import Derived.Test.YtamhigknobdloaaMd
import Derived.Lib.MakeNoZero
namespace Go.Proofs.Ytamhigknobdloaa
open Go.RowKit
set_option linter.unusedVariables false

set_option maxHeartbeats 400000 in
theorem mul1 (n : Nat) (w : World) (h : n ≤ 100000) : Calls Try.prog 98 #[.int .u64 1, .int .u64 n] w fun e w' => e = .returned (.tuple #[.int .u64 0, .int .u64 n]) ∧ w = w' := by
  have h1 : bits .and .u64 1 4294967295 = 1 := by decide +kernel
  have h2 : bits .and .u64 (n : Int) 4294967295 = n := by
    have := bits_and_u64_nat n 4294967295 (by omega) (by omega)
    have e : ((4294967295 : Nat) : Int) = 4294967295 := rfl
    rw [← e, this, show (4294967295 : Nat) = 2 ^ 32 - 1 from rfl, Nat.and_two_pow_sub_one_eq_mod]; omega
  have h3 : (n : Int) / 4294967296 = 0 := by omega
  have h4 : bits .and .u64 0 4294967295 = 0 := by decide +kernel
  go_enter Try.func98, Try.ntmps98
  go_wp2
  go_ret2
  exact ⟨rfl, rfl⟩

set_option maxHeartbeats 400000 in
theorem mul2 (n : Nat) (w : World) (h : n ≤ 100000) : Calls Try.prog 93 #[.int .u64 1, .int .u64 n] w fun e w' => e = .returned (.tuple #[.int .u64 0, .int .u64 n]) ∧ w = w' := by
  go_enter Try.func93, Try.ntmps93
  go_wp2_with (go_at_call 98; refine (mul1 n _ h).mono ?_; rintro e w1 ⟨rfl, rfl⟩)
  go_ret2
  exact ⟨rfl, rfl⟩

/-- copy into a block of the call's own, as a run: the world behind it, named ahead of the walk. -/
theorem run_copy_sl {P : Program} (w : World) (dT sT ty elem : TypeId) (hu : P.underlying dT = some (.slice elem)) (hsz : (P.info? elem).map (·.size) = some 1)
    (g off dl dc : Nat) (A : Option Addr) (sl sc : Nat) (cur : List Value) (t : TypeId) (hg : w.heap[g]? = some (.cells cur.toArray t (0, 0))) (xs : List Value) (hsl : Sl w A xs) (hxs : xs.length = sl) (hfit : off + dl ≤ cur.length)
    (h1 : ∀ v ∈ xs, v.oneCell' = true) (B : Nat) (w0 : World) (hb : Below B w0 w) (hBg : B ≤ g) :
    ∃ w', (Builtin.copy_ #[dT, sT] ty #[.slice (some ⟨g, off, none⟩) dl dc, .slice A sl sc]).run P w = .ok (.int .i64 (min sl dl : Nat)) w' ∧ Hid (w'.heap[g]? = some (.cells (splice cur off (xs.take (min sl dl))).toArray t (0, 0))) ∧ Below B w0 w' ∧ w.grownBy w' (some g) := by
  have hl : (xs.take (min sl dl)).length = min sl dl := by rw [List.length_take]; omega
  rcases hsl with rfl | ⟨b, o', rfl, hc⟩
  · have h0 : min sl dl = 0 := by simp at hxs; omega
    refine ⟨w, ?_, ?_, hb, World.grownBy.refl w _⟩
    · rw [run_copy_none (P := P) w dT sT ty elem _ _ dl dc sl sc hu hsz h0, h0]; rfl
    · show _ = _; rw [hg]; simp [splice]
  · refine ⟨_, (run_copy_row (P := P) w dT sT ty elem g off dl dc ⟨b, o', none⟩ sl sc cur.toArray t (xs.take (min sl dl)) hu hsz hg hl ?_ (by rw [List.size_toArray, hl]; omega) (fun v hv => h1 v (List.mem_of_mem_take hv))).trans (by rw [hl]; rfl), ?_, below_setRow hb hBg _, ⟨rfl, rfl, rfl, by simp, fun k hk hne => setRow_other w g k _ (fun e => hne (by rw [e]))⟩⟩
    · intro j v hv
      rw [add_lit]
      have hj := (List.getElem?_eq_some_iff.1 hv).1
      simp at hj
      rw [hc j (by omega)]
      rw [List.getElem?_take, if_pos (by omega), List.getElem?_eq_getElem (by omega)] at hv
      exact hv
    · show _ = _
      rw [setRow_heap w g _ _ t _ hg]
      simp [splice, hl]

/-- A block of the call's own whose first cells are xs (its capacity is not said). -/
def OwnW (w : World) (base : Nat) (e : TypeId) (A : Option Addr) (xs : List Value) : Prop :=
  xs = [] ∨ ∃ g cur, A = some ⟨g, 0, none⟩ ∧ base ≤ g ∧ w.heap[g]? = some (.cells cur e (0, 0)) ∧ xs.length ≤ cur.size ∧ cur.toList.take xs.length = xs
theorem OwnW.of_own {w : World} {base : Nat} {e : TypeId} {A : Option Addr} {n c : Nat} {xs : List Value} (h : w.ownsRow base e 1 (.slice A n c) n xs) : OwnW w base e A xs := by
  rcases h with ⟨hl, ⟨h1, h2⟩ | ⟨g, cap, cur, h1, hb, hg, hn, hc, hsz, ht⟩⟩
  · subst h2; exact .inl (List.eq_nil_of_length_eq_zero (by simpa using hl))
  · injection h1 with hA _ hcc
    rw [Nat.mul_one] at hl ht hsz
    exact .inr ⟨g, cur, hA, hb, hg, by omega, by rw [hl]; exact ht⟩
theorem OwnW.cell {w : World} {base : Nat} {e : TypeId} {A : Option Addr} {xs : List Value} (h : OwnW w base e A xs) {k : Nat} (hk : k < xs.length) :
    ∃ g, A = some ⟨g, 0, none⟩ ∧ base ≤ g ∧ g < w.heap.size ∧ w.cell? ⟨g, k, none⟩ = some xs[k] ∧ w.frozen? ⟨g, k, none⟩ = false := by
  rcases h with rfl | ⟨g, cur, rfl, hb, hg, hl, ht⟩
  · simp at hk
  · refine ⟨g, rfl, hb, (Array.getElem?_eq_some_iff.1 hg).1, ?_, frozen_of_row w g k cur e hg⟩
    rw [cell_of_row _ _ _ _ _ _ hg]
    have h1 : xs[k]? = cur.toList[k]? := by
      have := congrArg (·[k]?) ht
      simp only [List.getElem?_take, if_pos hk] at this
      exact this.symm
    rw [List.getElem?_eq_getElem hk] at h1
    rw [h1]; simp
theorem OwnW.sl {w : World} {base : Nat} {e : TypeId} {A : Option Addr} {xs : List Value} (h : OwnW w base e A xs) : Sl w A xs := by
  rcases Nat.eq_zero_or_pos xs.length with h0 | h0
  · exact .inl (List.eq_nil_of_length_eq_zero h0)
  · obtain ⟨g, rfl, _⟩ := h.cell h0
    refine .inr ⟨g, 0, rfl, fun j hj => ?_⟩
    obtain ⟨g', e, _, _, hc, _⟩ := h.cell hj
    injection e with e
    injection e with e
    subst e
    rw [Nat.zero_add]; exact hc
theorem OwnW.stored {w : World} {base : Nat} {e : TypeId} {g : Nat} {xs : List Value} (h : OwnW w base e (some ⟨g, 0, none⟩) xs) (k : Nat) (u : Value) :
    OwnW (w.setCell ⟨g, k, none⟩ u) base e (some ⟨g, 0, none⟩) (xs.set k u) := by
  rcases h with rfl | ⟨g', cur, h1, hb, hg, hl, ht⟩
  · exact .inl (by simp)
  · injection h1 with h1
    injection h1 with h1
    subst h1
    refine .inr ⟨g, cur.setIfInBounds k u, rfl, hb, heap_setCell_same w g k cur e u hg, by simpa using hl, ?_⟩
    rw [Array.toList_setIfInBounds, List.length_set, List.take_set, ht]
theorem OwnW.keep {w w' : World} {base : Nat} {e : TypeId} {A : Option Addr} {xs : List Value} (h : OwnW w base e A xs) {row : Option Nat} (hg : w.grownBy w' row) (hr : ∀ g, A = some ⟨g, 0, none⟩ → some g ≠ row) : OwnW w' base e A xs := by
  rcases h with rfl | ⟨g, cur, rfl, hb, hh, hl, ht⟩
  · exact .inl rfl
  · exact .inr ⟨g, cur, rfl, hb, (hg.block g (Array.getElem?_eq_some_iff.1 hh).1 (hr g rfl)).trans hh, hl, ht⟩
theorem OwnW.below {w w' : World} {base : Nat} {e : TypeId} {A : Option Addr} {xs : List Value} (h : OwnW w base e A xs) (hb : Below w.heap.size w w') : OwnW w' base e A xs :=
  h.keep (only_of_below hb none) (fun _ _ => by simp)
theorem OwnW.mono {w : World} {base base' : Nat} {e : TypeId} {A : Option Addr} {xs : List Value} (h : OwnW w base e A xs) (hb : base' ≤ base) : OwnW w base' e A xs := by
  rcases h with rfl | ⟨g, cur, h1, h2, h3⟩
  · exact .inl rfl
  · exact .inr ⟨g, cur, h1, by omega, h3⟩

theorem sl_of_heap {w : World} {g : Nat} {xs rest : List Value} {t : TypeId} (h : w.heap[g]? = some (.cells (xs ++ rest).toArray t (0, 0))) : Sl w (some ⟨g, 0, none⟩) xs := by
  refine .inr ⟨g, 0, rfl, fun j hj => ?_⟩
  rw [cell_of_row _ _ _ _ _ _ h, Nat.zero_add, List.getElem?_toArray, List.getElem?_append_left hj, List.getElem?_eq_getElem hj]
theorem rep_step {cap q n : Nat} (y : Value) (rest : List Value) (hq : q ≤ n) (hr : rest.length = cap - q) (hn : n ≤ cap) :
    ∃ rest', splice (List.replicate q y ++ rest) q ((List.replicate q y).take (min q (n - q))) = List.replicate (q + min q (n - q)) y ++ rest' ∧ rest'.length = cap - (q + min q (n - q)) := by
  refine ⟨rest.drop (min q (n - q)), ?_, by rw [List.length_drop, hr]; omega⟩
  unfold splice
  rw [List.take_left' (by simp), List.take_replicate, List.length_replicate, show min (min q (n - q)) q = min q (n - q) by omega, List.drop_append, List.drop_of_length_le (by simp), List.length_replicate, show q + min q (n - q) - q = min q (n - q) by omega, ← List.append_assoc, List.replicate_append_replicate]
  rfl

set_option maxHeartbeats 1600000 in
set_option maxRecDepth 100000 in
theorem repeat_any (A : Option Addr) (c n : Nat) (x : UInt8) (w : World) (hs : Sl w A [bv x]) (h0 : 0 < n) (hlen : n ≤ 8000) :
    Calls Try.prog 79 #[.slice A 1 c, .int .i64 n] w fun e w' => ∃ A', e = .returned (.slice A' n n) ∧ OwnW w' w.heap.size 5 A' ((List.replicate n x).map bv) ∧ Below w.heap.size w w' := by
  obtain ⟨b, off, rfl, hc0⟩ := hs.at_ (k := 0) (by simp)
  obtain ⟨cs, hrunM, hle, hmax⟩ := Lib.run_makeNoZero (P := Try.prog) w #[3] 27 5 Try.underlying27 n (by omega)
  have hcall : (callFunc 94 #[.int .i64 (n : Int)]).run Try.prog w = .ok (.value (.slice (some ⟨w.heap.size, 0, none⟩) n cs.size)) ((w.alloc (.cells cs 5)).drewN 2) := by
    rw [run_callFunc_extern Try.func94 (by kernel_rfl) (by kernel_rfl) (by kernel_rfl) (e := Extern.BytealgMakeNoZero.makeNoZero #[3] #[27]) (by kernel_rfl), hrunM]
    rfl
  clear hrunM
  have g1 : ((n : Int) == 0) = false := by simp; omega
  have g2 : (0 : Int) < n := by omega
  have g3 : decide ((n : Int) < 0) = false := by simp
  have g4 : decide ((9223372036854775807 : Int) < n) = false := by simp; omega
  have hm1 : min 1 n = 1 := by omega
  have i1 : (n : Int) ≤ cs.size := by omega
  have hsz5 : (Try.prog.info? 5).map (·.size) = some 1 := by kernel_rfl
  have HG : Hid (((w.alloc (.cells cs 5)).drewN 2).heap[w.heap.size]? = some (.cells cs.toList.toArray 5 (0, 0))) := by
    have := heap_alloc_new w (.cells cs 5)
    show _ = _
    simpa using this
  have hbW : Below w.heap.size w ((w.alloc (.cells cs 5)).drewN 2) := below_drewN' ((Below.refl _ _).alloc (Nat.le_refl _) _) 2
  have hsW := hs.below hbW
  have h1c : ∀ v ∈ [bv x], v.oneCell' = true := by intro v hv; simp at hv; subst hv; rfl
  have hfit : 0 + n ≤ cs.toList.length := by simp; omega
  go_enter Try.func79, Try.ntmps79
  go_wp2_with (first | (go_at_call 93; refine (mul2 n _ (by omega)).mono ?_; rintro e w1 ⟨rfl, rfl⟩) | (with_reducible refine wpList_copy_sl rfl (.tmp 58) (.tmp 59) 27 27 rfl 5 Try.underlying27 hsz5 w.heap.size 0 n n (some ⟨b, off, none⟩) 1 c rfl rfl cs.toList 5 HG [bv x] hsW rfl hfit h1c w.heap.size w hbW (Nat.le_refl _) ?_; intro w2 hg2 hb2))
  have hstart : ∃ rest, splice cs.toList 0 (List.take 1 [bv x]) = List.replicate 1 (bv x) ++ rest ∧ rest.length = cs.size - 1 := ⟨cs.toList.drop 1, by simp [splice], by simp⟩
  go_loopw [10, 11] (fun v10 _ wr => ∃ q, 1 ≤ q ∧ q ≤ n ∧ v10 = .int .i64 q ∧ (∃ rest, rest.length = cs.size - q ∧ Hid (wr.heap[w.heap.size]? = some (.cells (List.replicate q (bv x) ++ rest).toArray 5 (0, 0)))) ∧ Below w.heap.size w wr) (fun v10 _ _ => n - (intOf v10).toNat)
  case atStart =>
    obtain ⟨rest, h1, h2⟩ := hstart
    refine ⟨1, by omega, by omega, rfl, ⟨rest, h2, ?_⟩, hb2⟩
    rw [← h1]
    rw [hm1] at hg2
    exact hg2
  case round =>
    obtain ⟨q, hq1, hqn, rfl, ⟨rest, hr, hg⟩, hb⟩ := hrel
    clear hstart hg2 hb2
    by_cases hlt : q < n
    · have hsq := sl_of_heap hg.out
      obtain ⟨rest', hsp, hr'⟩ := rep_step (cap := cs.size) (n := n) (bv x) rest (by omega) hr hle
      have SP := Lib.hid hsp
      clear hsp
      have hlq : (List.replicate q (bv x)).length = q := by simp
      have hfq : q + (n - q) ≤ (List.replicate q (bv x) ++ rest).length := by simp; omega
      have h1q : ∀ v ∈ List.replicate q (bv x), v.oneCell' = true := by intro v hv; rw [(List.mem_replicate.1 hv).2]; rfl
      generalize List.replicate q (bv x) ++ rest = cur at hg hfq SP
      generalize List.replicate q (bv x) = srcs at hsq hlq h1q SP
      have HL := Lib.hid hlq
      clear hlq
      have hnq : ¬ n = q := by omega
      obtain ⟨w3, hrun, hg3, hb3, _⟩ := run_copy_sl (P := Try.prog) wr.drew 27 27 3 5 Try.underlying27 hsz5 w.heap.size q (n - q) (n - q) (some ⟨w.heap.size, 0, none⟩) q n cur 5 hg.out srcs hsq HL.out hfq h1q w.heap.size w hb.drew (Nat.le_refl _)
      clear hsq
      go_wp2
      go_region
      go_wp2
      go_roundw
      case rel => exact ⟨q + min q (n - q), by omega, by omega, by go_num, ⟨rest', hr', by rw [← SP.out]; exact hg3⟩, hb3⟩
      case measure => simp [intOf]; omega
    · obtain rfl : q = n := by omega
      clear hm1
      go_wp2
      go_ret
      exact ⟨_, rfl, .inr ⟨w.heap.size, _, rfl, Nat.le_refl _, hg.out, by simp, by simp⟩, hb⟩

set_option maxHeartbeats 400000 in
set_option maxRecDepth 100000 in
theorem repeat_zero (A : Option Addr) (c : Nat) (w : World) :
    Calls Try.prog 79 #[.slice A 1 c, .int .i64 0] w fun e w' => ∃ A', e = .returned (.slice A' 0 0) ∧ Below w.heap.size w w' := by
  go_enter Try.func79, Try.ntmps79
  go_wp2
  go_ret
  exact ⟨_, rfl, (Below.refl _ _).alloc (Nat.le_refl _) _⟩

/-- The size that Extend takes. -/
def clampN (n : Int) : Nat := (max 0 (min n 1024)).toNat
theorem ext_splice (m : List UInt8) (n : Nat) (cur : List Value) (hc : cur.take n = (List.replicate n (255 : UInt8)).map bv) (hl : n ≤ cur.length) :
    (splice cur 0 ((m.map bv).take (min m.length n))).take n = (extB m n).map bv := by
  unfold splice extB
  rw [List.take_zero, List.nil_append, List.length_take, List.length_map, Nat.zero_add, show min (min m.length n) m.length = min m.length n by omega]
  rw [List.take_append, List.length_take, List.length_map, show min (min m.length n) m.length = min m.length n by omega]
  rw [List.take_of_length_le (by simp; omega), List.map_append]
  congr 1
  · rw [← List.map_take]
    congr 1
    rcases Nat.le_total m.length n with h | h
    · rw [Nat.min_eq_left h, List.take_of_length_le h, List.take_of_length_le (Nat.le_refl _)]
    · rw [Nat.min_eq_right h]
  · have : (cur.drop (min m.length n)).take (n - min m.length n) = (cur.take n).drop (min m.length n) := by
      rw [List.drop_take]
    rw [this, hc, List.map_replicate, List.drop_replicate, List.map_replicate]
    congr 1
    omega

set_option maxHeartbeats 800000 in
theorem extend_pos (A : Option Addr) (nm c : Nat) (m : List UInt8) (n : Nat) (s : Int) (w : World) (hn : m.length = nm) (hs : Sl w A (m.map bv)) (hlen : nm ≤ 9223372036854775807) (h0 : 0 < n) (h1 : n ≤ 1024) (h2 : s = n ∨ (1024 < s ∧ n = 1024)) :
    Calls Try.prog 37 #[.slice A nm c, .int .i64 s] w fun e w' => ∃ A', e = .returned (.slice A' n n) ∧ OwnW w' w.heap.size 5 A' ((extB m n).map bv) ∧ Below w.heap.size w w' := by
  have hsz5 : (Try.prog.info? 5).map (·.size) = some 1 := by kernel_rfl
  have HN := Lib.hid hn
  subst hn
  have n1 := Sl.new w #[.int .u8 255] 5
  rcases h2 with rfl | ⟨h2, rfl⟩
  · have hd : ¬ (n : Int) < 0 := by omega
    go_enter Try.func37, Try.ntmps37
    go_wp2_with fail
    refine (repeat_any _ _ n 255 _ n1 (by omega) (by omega)).mono ?_
    rintro e w1 ⟨A1, rfl, own1, hb1⟩
    have hbb := below_next ((Below.refl w.heap.size w).alloc (Nat.le_refl _) (.cells #[.int .u8 255] 5)) hb1
    rcases own1 with h | ⟨g, cur, rfl, hbg, hg, hl, ht⟩
    · have h' := congrArg List.length h
      rw [List.length_map, List.length_replicate, List.length_nil] at h'
      omega
    · rw [List.length_map, List.length_replicate] at hl ht
      have hl2 : n ≤ cur.toList.length := by rw [Array.length_toList]; exact hl
      have SP := Lib.hid (ext_splice m n cur.toList ht hl2)
      have hsz := hbb.size
      obtain ⟨w3, hrun, hg3, hb3, hgr3⟩ := run_copy_sl (P := Try.prog) w1 27 27 3 5 Try.underlying27 hsz5 g 0 n n A m.length c cur.toList 5 (by simpa using hg) (m.map bv) (hs.below hbb) (by simp) (by omega) (oneCell_bv m) w.heap.size w hbb (by simp at hbg; omega)
      have HT := Lib.hid ht
      clear hl hl2 hg ht
      go_wp2
      go_ret
      refine ⟨_, rfl, .inr ⟨g, _, rfl, by simp at hbg; omega, hg3.out, ?_, ?_⟩, hb3⟩
      · have := congrArg List.length SP.out
        simp only [List.length_take, List.length_map, extB_length] at this
        simp only [List.length_map, extB_length, List.size_toArray]
        omega
      · rw [List.length_map, extB_length]
        exact SP.out
  · have hd : ¬ s < 1024 := by omega
    have hd0 : ¬ s < 0 := by omega
    go_enter Try.func37, Try.ntmps37
    go_wp2_with fail
    refine (repeat_any _ _ 1024 255 _ n1 (by omega) (by omega)).mono ?_
    rintro e w1 ⟨A1, rfl, own1, hb1⟩
    have hbb := below_next ((Below.refl w.heap.size w).alloc (Nat.le_refl _) (.cells #[.int .u8 255] 5)) hb1
    rcases own1 with h | ⟨g, cur, rfl, hbg, hg, hl, ht⟩
    · have h' := congrArg List.length h
      rw [List.length_map, List.length_replicate, List.length_nil] at h'
      omega
    · rw [List.length_map, List.length_replicate] at hl ht
      have hl2 : 1024 ≤ cur.toList.length := by rw [Array.length_toList]; exact hl
      have SP := Lib.hid (ext_splice m 1024 cur.toList ht hl2)
      have hsz := hbb.size
      obtain ⟨w3, hrun, hg3, hb3, hgr3⟩ := run_copy_sl (P := Try.prog) w1 27 27 3 5 Try.underlying27 hsz5 g 0 1024 1024 A m.length c cur.toList 5 (by simpa using hg) (m.map bv) (hs.below hbb) (by simp) (by omega) (oneCell_bv m) w.heap.size w hbb (by simp at hbg; omega)
      have HT := Lib.hid ht
      clear hl hl2 hg ht
      go_wp2
      go_ret
      refine ⟨_, rfl, .inr ⟨g, _, rfl, by simp at hbg; omega, hg3.out, ?_, ?_⟩, hb3⟩
      · have := congrArg List.length SP.out
        simp only [List.length_take, List.length_map, extB_length] at this
        simp only [List.length_map, extB_length, List.size_toArray]
        omega
      · rw [List.length_map, extB_length]
        exact SP.out

set_option maxHeartbeats 800000 in
theorem extend_zero (A : Option Addr) (nm c : Nat) (m : List UInt8) (s : Int) (w : World) (hn : m.length = nm) (h0 : s ≤ 0) :
    Calls Try.prog 37 #[.slice A nm c, .int .i64 s] w fun e w' => ∃ A', e = .returned (.slice A' 0 0) ∧ Below w.heap.size w w' := by
  have hsz5 : (Try.prog.info? 5).map (·.size) = some 1 := by kernel_rfl
  have hcp : ∀ (B : Option Addr) (W : World), (Builtin.copy_ #[27, 27] 3 #[.slice B 0 0, .slice A nm c]).run Try.prog W = .ok (.int .i64 0) W := fun B W => run_copy_none (P := Try.prog) W 27 27 3 5 B A 0 0 nm c Try.underlying27 hsz5 (Nat.min_zero _)
  by_cases h1 : s < 0
  · go_enter Try.func37, Try.ntmps37
    go_wp2_with fail
    refine (repeat_zero _ _ _).mono ?_
    rintro e w1 ⟨A1, rfl, hb1⟩
    go_wp2
    go_ret
    exact ⟨_, rfl, below_next ((Below.refl _ _).alloc (Nat.le_refl _) _) hb1⟩
  · obtain rfl : s = 0 := by omega
    go_enter Try.func37, Try.ntmps37
    go_wp2_with fail
    refine (repeat_zero _ _ _).mono ?_
    rintro e w1 ⟨A1, rfl, hb1⟩
    go_wp2
    go_ret
    exact ⟨_, rfl, below_next ((Below.refl _ _).alloc (Nat.le_refl _) _) hb1⟩

theorem extend_any (A : Option Addr) (nm c : Nat) (m : List UInt8) (s : Int) (w : World) (hn : m.length = nm) (hs : Sl w A (m.map bv)) (hlen : nm ≤ 9223372036854775807) :
    Calls Try.prog 37 #[.slice A nm c, .int .i64 s] w fun e w' => ∃ A', e = .returned (.slice A' (clampN s) (clampN s)) ∧ OwnW w' w.heap.size 5 A' ((extB m (clampN s)).map bv) ∧ Below w.heap.size w w' := by
  by_cases h0 : s ≤ 0
  · have e : clampN s = 0 := by unfold clampN; omega
    rw [e]
    exact (extend_zero A nm c m s w hn h0).mono fun e w' ⟨A', he, hb⟩ => ⟨A', he, .inl (by simp [extB]), hb⟩
  · exact extend_pos A nm c m (clampN s) s w hn hs hlen (by unfold clampN; omega) (by unfold clampN; omega) (by unfold clampN; omega)

set_option maxHeartbeats 800000 in
theorem fits_any (A : Option Addr) (n c : Nat) (a : List UInt8) (Z : Option Addr) (nz cz : Nat) (b : List UInt8) (w : World) (hn : a.length = n) (hs : Sl w A (a.map bv)) (hlen : n ≤ 1000000) (hcap : n ≤ c)
    (hnz : b.length = nz) (hz : Sl w Z (b.map bv)) (hlz : nz ≤ 1000000) :
    Calls Try.prog 42 #[.slice A n c, .slice Z nz cz] w fun e w' => e = .returned (.bool (fitsB a b)) ∧ Below w.heap.size w w' := by
  by_cases hl : n = nz
  · subst hl
    have F : fitsB a b = (countB (andB a b) == 0) := by unfold fitsB; rw [hn, hnz]; simp
    rw [F]
    have hal : (andB a b).length = n := by rw [andB_length]; omega
    have hd : ((n : Int) == n) = true := by simp
    go_enter Try.func42, Try.ntmps42
    go_wp2_with fail
    refine (and_any _ _ _ a _ _ _ b _ hn hs hlen hcap hnz hz hlz).mono ?_
    rintro e w1 ⟨A1, c1, rfl, own1, hb1⟩
    rw [Nat.min_self] at own1 ⊢
    go_wp2_with fail
    refine (count_any _ _ _ (andB a b) _ hal (Sl.of_own own1) hlen).mono ?_
    rintro e w2 ⟨rfl, rfl⟩
    clear F
    go_wp2
    go_ret
    refine ⟨?_, hb1⟩
    have : ((countB (andB a b) : Int) == 0) = (countB (andB a b) == 0) := by rw [Bool.eq_iff_iff]; simp
    rw [← this]
    rfl
  · have F : fitsB a b = false := by unfold fitsB; rw [hn, hnz]; simp [hl]
    rw [F]
    have hd : ((n : Int) == nz) = false := by simp; omega
    clear F
    go_enter Try.func42, Try.ntmps42
    go_wp2
    go_ret
    exact ⟨rfl, Below.refl _ _⟩
end Go.Proofs.Ytamhigknobdloaa
