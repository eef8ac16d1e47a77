/- The walks of Extend, And, Fits, Valid of the reference of layer 15, and of mask.Valid; conditions: lengths are small. -/
import Derived.Test.YtamhigknobdloaaMr
namespace Go.Proofs.Ytamhigknobdloaa
open Go.RowKit
set_option linter.unusedVariables false

theorem andB_take_succ (a b : List UInt8) (k : Nat) (ha : k < a.length) (hb : k < b.length) : andB (a.take (k + 1)) (b.take (k + 1)) = andB (a.take k) (b.take k) ++ [a[k] &&& b[k]] := by
  unfold andB
  rw [List.take_succ_eq_append_getElem ha, List.take_succ_eq_append_getElem hb, List.zipWith_append (by simp; omega)]
  rfl

theorem andB_min (a b : List UInt8) (k : Nat) (h : k = min a.length b.length) : andB (a.take k) (b.take k) = andB a b := by
  unfold andB
  rw [← List.take_zipWith, List.take_of_length_le (by simp; omega)]

/-- The built-in append, under a name that the walk leaves standing. -/
def heldAppend (ats : Array TypeId) (ty : TypeId) (args : Array Value) : Sem Next := do pure (.value (← Builtin.append_ ats ty args))
theorem hold_append (ats : Array TypeId) (ty : TypeId) (cs : Array Bool) (args : Array Value) : builtin .append ats ty cs args = heldAppend ats ty args := rfl
attribute [go_sem ↓ high] hold_append
theorem run_held {P : Program} {W w' : World} {ats : Array TypeId} {ty : TypeId} {args : Array Value} {v : Value} (h : (Builtin.append_ ats ty args).run P W = .ok v w') : (heldAppend ats ty args).run P W = .ok (.value v) w' := by
  simp [heldAppend, h]
/-- append of a whole slice, as a run. -/
theorem run_appendS {P : Program} {w : World} (base : Nat) (t ty e : TypeId) (z : Value) (size bytes : Nat) (ht : P.underlying t = some (.slice e)) (he : El P e z size bytes)
    (A : Option Addr) (n c : Nat) (xs : List Value) (hown : w.ownsRow base e size (.slice A n c) n xs) (B : Option Addr) (m d : Nat) (news : List Value) (hs : Sl w B news) (hl : news.length = m * size)
    (h1 : ∀ u ∈ news, u.oneCell' = true) (h63 : n + m ≤ maxLen) (hbytes : (n + m) * bytes ≤ 140737488355328) (hbase : base ≤ w.heap.size) :
    ∃ A' c' w', (heldAppend #[t, t] ty #[.slice A n c, .slice B m d]).run P w = .ok (.value (.slice A' (n + m) c')) w' ∧ w'.ownsRow base e size (.slice A' (n + m) c') (n + m) (xs ++ news) ∧ w.grownBy w' (Value.slice A n c).ownBlock := by
  obtain ⟨A', c', w', hr, h2, h3, h4⟩ := run_append_sl (P := P) base t ty e z size bytes ht he _ n xs hown B m d news hs hl h1 h63 hbytes hbase
  exact ⟨A', c', w', run_held hr, h2, h3⟩
/-- append of one value, as a run. -/
theorem run_append1 {P : Program} {w : World} (base : Nat) (t ty e : TypeId) (z : Value) (bytes : Nat) (ht : P.underlying t = some (.slice e)) (he : El P e z 1 bytes) (hby : bytes ≤ 1000)
    (A : Option Addr) (n c : Nat) (xs : List Value) (hown : w.ownsRow base e 1 (.slice A n c) n xs) (u : Value) (h1 : u.oneCell' = true) (hsmall : n + 1 ≤ 1000000000) (hbase : base ≤ w.heap.size) :
    ∃ A' c' w', (heldAppend #[t, t] ty #[.slice A n c, .slice (some ⟨w.heap.size, 0, none⟩) 1 1]).run P (w.alloc (.cells #[u] e)) = .ok (.value (.slice A' (n + 1) c')) w' ∧ w'.ownsRow base e 1 (.slice A' (n + 1) c') (n + 1) (xs ++ [u]) ∧ w.grownBy w' (Value.slice A n c).ownBlock := by
  obtain ⟨A', c', w', hr, h2, h3, h4⟩ := run_append_sl (P := P) base t ty e z 1 bytes ht he _ n xs (hown.alloc (.cells #[u] e)) _ 1 1 [u] (Sl.new1 w u e) rfl (by intro v hv; simp at hv; subst hv; exact h1) (by simp only [maxLen]; omega)
    (Nat.le_trans (Nat.mul_le_mul hsmall hby) (by decide)) (by simp; omega)
  exact ⟨A', c', w', run_held hr, h2, grownBy_of_alloc h3⟩

set_option maxHeartbeats 800000 in
theorem rand_any (A : Option Addr) (n c : Nat) (a : List UInt8) (Z : Option Addr) (nz cz : Nat) (b : List UInt8) (w : World) (hn : a.length = n) (hs : Sl w A (a.map bv)) (hlen : n ≤ 1000000)
    (hnz : b.length = nz) (hz : Sl w Z (b.map bv)) (hlz : nz ≤ 1000000) :
    Calls Try.prog 49 #[.slice A n c, .slice Z nz cz] w fun e w' => ∃ A' c', e = .returned (.slice A' (min n nz) c') ∧ w'.ownsRow w.heap.size 5 1 (.slice A' (min n nz) c') (min n nz) ((andB a b).map bv) ∧ Below w.heap.size w w' := by
  subst hn hnz
  have hb0 := Below.refl w.heap.size w
  go_enter Try.func49, Try.ntmps49
  go_wp2
  go_loopw [5, 6] (fun v5 v6 wr => ∃ (k : Nat) (A' : Option Addr) (c' : Nat), k ≤ min a.length b.length ∧ v6 = .int .i64 k ∧ v5 = .slice A' k c' ∧ wr.ownsRow w.heap.size 5 1 (.slice A' k c') k ((andB (a.take k) (b.take k)).map bv) ∧ Below w.heap.size w wr) (fun _ v6 _ => a.length - (intOf v6).toNat)
  case atStart => exact ⟨0, none, 0, by omega, rfl, rfl, by simpa [andB] using World.ownsRow_nil _ _ _ _, hb0⟩
  case round =>
    obtain ⟨k, A', c', hk, rfl, rfl, own, hb⟩ := hrel
    have hsz := hb.size
    by_cases hlt : k < a.length ∧ k < b.length
    · obtain ⟨hka, hkb⟩ := hlt
      obtain ⟨ab, ao, rfl, hca⟩ := (hs.below hb).at_ (k := k) (by simpa using hka)
      obtain ⟨zb, zo, rfl, hcz⟩ := (hz.below hb).at_ (k := k) (by simpa using hkb)
      rw [List.getElem_map] at hcz hca
      have SN := Lib.hid (andB_take_succ a b k hka hkb)
      have E := Lib.hid (bits_and8 a[k] b[k])
      have od : wr.drew.ownsRow w.heap.size 5 1 (.slice A' k c') k ((andB (a.take k) (b.take k)).map bv) := own
      obtain ⟨A2, c2, w2, hrun0, own2, hg2⟩ := run_append1 (P := Try.prog) w.heap.size 27 27 5 _ 1 Try.underlying27 el5 (by omega) A' k c' _ od (.int .u8 (bits .and .u8 (a[k].toNat : Int) (b[k].toNat : Int))) rfl (by omega) hsz
      have hrun : Sem.run Try.prog (heldAppend #[27, 27] 27 #[.slice A' k c', .slice (some ⟨wr.heap.size, 0, none⟩) 1 1]) (wr.alloc (Obj.cells #[.int .u8 (bits .and .u8 (a[k].toNat : Int) (b[k].toNat : Int))] 5)).drew = .ok (.value (.slice A2 (k + 1) c2)) w2 := hrun0
      clear hrun0 od
      rw [E.out] at own2
      have G2 := Lib.hid (hb.drew.grown hg2 hsz (fun q hq => (own.lt q hq).1))
      have OWN := Lib.hid own2
      clear own own2 hg2
      go_wp2
      go_region
      go_wp2
      go_roundw
      case rel => exact ⟨k + 1, A2, c2, by omega, by go_num, rfl, by rw [SN.out, List.map_append]; exact OWN.out, G2.out⟩
      case measure => simp [intOf]; omega
    · have hkm : k = min a.length b.length := by omega
      have AB := Lib.hid (andB_min a b k hkm)
      by_cases hka : k < a.length
      · have hkb : decide (k < b.length) = false := by simp; omega
        have hkb2 : min a.length b.length = k := by omega
        clear hkm hlt
        go_wp2
        go_ret
        rw [AB.out] at own
        rw [hkb2]
        exact ⟨A', c', rfl, own, hb⟩
      · have hka2 : decide (k < a.length) = false := by simp; omega
        have hkb2 : min a.length b.length = k := by omega
        clear hkm hlt
        go_wp2
        go_ret
        rw [AB.out] at own
        rw [hkb2]
        exact ⟨A', c', rfl, own, hb⟩

theorem extB_succ (m : List UInt8) (i : Nat) : extB m (i + 1) = extB m i ++ [if h : i < m.length then m[i] else 255] := by
  unfold extB
  by_cases h : i < m.length
  · rw [dif_pos h, List.take_succ_eq_append_getElem h, show i + 1 - m.length = 0 by omega, show i - m.length = 0 by omega]; simp
  · rw [dif_neg h, List.take_of_length_le (by omega), List.take_of_length_le (by omega), show i + 1 - m.length = (i - m.length) + 1 by omega, List.replicate_succ', List.append_assoc]

set_option maxHeartbeats 800000 in
set_option maxRecDepth 100000 in
theorem rextend_any (A : Option Addr) (n c : Nat) (m : List UInt8) (s : Int) (w : World) (hn : m.length = n) (hs : Sl w A (m.map bv)) (hlen : n ≤ 9223372036854775807) :
    Calls Try.prog 48 #[.slice A n c, .int .i64 s] w fun e w' => ∃ A' c', e = .returned (.slice A' (clampN s) c') ∧ w'.ownsRow w.heap.size 5 1 (.slice A' (clampN s) c') (clampN s) ((extB m (clampN s)).map bv) ∧ Below w.heap.size w w' := by
  subst hn
  have hb0 := Below.refl w.heap.size w
  have hcl : clampN s ≤ 1024 := by unfold clampN; omega
  go_enter Try.func48, Try.ntmps48
  go_wp2
  go_loopw [5, 6] (fun v5 v6 wr => ∃ (k : Nat) (A' : Option Addr) (c' : Nat), k ≤ clampN s ∧ v6 = .int .i64 k ∧ v5 = .slice A' k c' ∧ wr.ownsRow w.heap.size 5 1 (.slice A' k c') k ((extB m k).map bv) ∧ Below w.heap.size w wr) (fun _ v6 _ => clampN s - (intOf v6).toNat)
  case atStart => exact ⟨0, none, 0, by omega, rfl, rfl, by simpa [extB] using World.ownsRow_nil _ _ _ _, hb0⟩
  case round =>
    obtain ⟨k, A', c', hk, rfl, rfl, own, hb⟩ := hrel
    have hsz := hb.size
    have SN := Lib.hid (extB_succ m k)
    by_cases hlt : k < clampN s
    · have hks : (k : Int) < s := by unfold clampN at hlt; omega
      have hk4 : (k : Int) < 1024 := by omega
      have hk5 : k < 1024 := by omega
      have HLT := Lib.hid hlt
      by_cases hkm : k < m.length
      · obtain ⟨mb, mo, rfl, hcm⟩ := (hs.below hb).at_ (k := k) (by simpa using hkm)
        rw [List.getElem_map] at hcm
        obtain ⟨A2, c2, w2, hrun, own2, hg2⟩ := run_append1 (P := Try.prog) w.heap.size 27 27 5 _ 1 Try.underlying27 el5 (by omega) A' k c' _ own (bv m[k]) rfl (by omega) hsz
        have G2 := Lib.hid (hb.grown hg2 hsz (fun q hq => (own.lt q hq).1))
        have OWN := Lib.hid own2
        clear own own2 hg2 hlt
        rw [dif_pos hkm] at SN
        by_cases hs4 : s < 1024
        all_goals
          go_wp2
          go_roundw
          case rel => exact ⟨k + 1, A2, c2, HLT.out, by go_num, rfl, by rw [SN.out, List.map_append]; exact OWN.out, G2.out⟩
          case measure => have := HLT.out; simp [intOf]; omega
      · obtain ⟨A2, c2, w2, hrun, own2, hg2⟩ := run_append1 (P := Try.prog) w.heap.size 27 27 5 _ 1 Try.underlying27 el5 (by omega) A' k c' _ own (.int .u8 255) rfl (by omega) hsz
        have G2 := Lib.hid (hb.grown hg2 hsz (fun q hq => (own.lt q hq).1))
        have OWN := Lib.hid own2
        clear own own2 hg2 hlt
        rw [dif_neg hkm] at SN
        by_cases hs4 : s < 1024
        all_goals
          go_wp2
          go_roundw
          case rel => exact ⟨k + 1, A2, c2, HLT.out, by go_num, rfl, by rw [SN.out, List.map_append]; exact OWN.out, G2.out⟩
          case measure => have := HLT.out; simp [intOf]; omega
    · have hke : clampN s = k := by omega
      have hks : s ≤ k ∨ 1024 ≤ k := by unfold clampN at hke; omega
      have KE := Lib.hid hke
      clear hlt hke hk hcl
      by_cases hs4 : s < 1024
      · have hks2 : ¬ (k : Int) < s := by omega
        clear hks
        go_wp2
        go_ret
        rw [KE.out]
        exact ⟨A', c', rfl, own, hb⟩
      · have hks2 : ¬ (k : Int) < 1024 := by omega
        clear hks
        go_wp2
        all_goals
          go_ret
          rw [KE.out]
          exact ⟨A', c', rfl, own, hb⟩

theorem fits_step (a b : List UInt8) (h : a.length = b.length) : fitsB a b = true ↔ ∀ (k : Nat) (ha : k < a.length) (hb : k < b.length), a[k] &&& b[k] = 0 := by
  rw [fitsB_iff]
  constructor
  · rintro ⟨_, hbits⟩ k ha hb
    apply UInt8.toNat_inj.1
    apply Nat.eq_of_testBit_eq
    intro j
    rw [UInt8.toNat_and, Nat.testBit_and]
    by_cases hj : j < 8
    · have := hbits (8 * k + j)
      unfold bitN at this
      rw [show (8 * k + j) / 8 = k by omega, show (8 * k + j) % 8 = j by omega] at this
      simpa [List.getD_eq_getElem?_getD, ha, hb] using this
    · have e1 : a[k].toNat.testBit j = false := Nat.testBit_lt_two_pow (Nat.lt_of_lt_of_le a[k].toNat_lt (Nat.pow_le_pow_right (n := 2) (by omega) (show 8 ≤ j by omega)))
      rw [e1]; simp
  · intro hk
    refine ⟨h, fun i => ?_⟩
    unfold bitN
    by_cases hi : i / 8 < a.length
    · have := hk (i / 8) hi (by omega)
      have h2 := congrArg (fun x : UInt8 => x.toNat.testBit (i % 8)) this
      simp only [UInt8.toNat_and, Nat.testBit_and] at h2
      simp only [List.getD_eq_getElem?_getD, List.getElem?_eq_getElem hi, List.getElem?_eq_getElem (show i / 8 < b.length by omega), Option.getD_some]
      rw [h2]; simp
    · simp [List.getD_eq_getElem?_getD, List.getElem?_eq_none (show a.length ≤ i / 8 by omega)]

set_option maxHeartbeats 800000 in
theorem rfits_any (A : Option Addr) (n c : Nat) (a : List UInt8) (Z : Option Addr) (nz cz : Nat) (b : List UInt8) (w : World) (hn : a.length = n) (hs : Sl w A (a.map bv)) (hlen : n ≤ 1000000)
    (hnz : b.length = nz) (hz : Sl w Z (b.map bv)) (hlz : nz ≤ 1000000) :
    Calls Try.prog 51 #[.slice A n c, .slice Z nz cz] w fun e w' => e = .returned (.bool (fitsB a b)) ∧ Below w.heap.size w w' := by
  by_cases hl : n = nz
  · subst hl hn
    have HNZ := Lib.hid hnz
    clear hnz
    have FI := Lib.hid (fits_step a b HNZ.out.symm)
    have hd : ((a.length : Int) != a.length) = false := by simp
    have hb0 := Below.refl w.heap.size w
    go_enter Try.func51, Try.ntmps51
    go_wp2
    go_loopw [4, 5] (fun _ v5 wr => ∃ k : Nat, k ≤ a.length ∧ v5 = .int .i64 k ∧ Hid (∀ (j : Nat) (ha : j < a.length) (hb : j < b.length), j < k → a[j] &&& b[j] = 0) ∧ Below w.heap.size w wr) (fun _ v5 _ => a.length - (intOf v5).toNat)
    case atStart => exact ⟨0, by omega, rfl, (fun j _ _ h => absurd h (by omega) : Hid _), hb0⟩
    case round =>
      obtain ⟨k, hk, rfl, hz0, hb⟩ := hrel
      by_cases hlt : k < a.length
      · have hkb : k < b.length := by rw [HNZ.out]; exact hlt
        obtain ⟨ab, ao, rfl, hca⟩ := (hs.below hb).at_ (k := k) (by simpa using hlt)
        obtain ⟨zb, zo, rfl, hcz⟩ := (hz.below hb).at_ (k := k) (by simpa using hkb)
        rw [List.getElem_map] at hcz hca
        have E := bits_and8 a[k] b[k]
        by_cases hz1 : a[k] &&& b[k] = 0
        · have e0 : (bits .and .u8 (a[k].toNat : Int) (b[k].toNat : Int) != 0) = false := by rw [E, hz1]; rfl
          have HZ1 := Lib.hid hz1
          clear hz1 E
          go_wp2
          go_quiet (fail)
          go_wp2
          go_roundw
          case rel => exact ⟨k + 1, by omega, by go_num, (fun j ha hb' h => by
            rcases Nat.lt_or_ge j k with h1 | h1
            · exact hz0.out j ha hb' h1
            · obtain rfl : j = k := by omega
              exact HZ1.out : Hid _), below_drewN' hb _⟩
          case measure => simp [intOf]; omega
        · have e0 : (bits .and .u8 (a[k].toNat : Int) (b[k].toNat : Int) != 0) = true := by
            rw [E]
            have : (a[k] &&& b[k]).toNat ≠ 0 := fun h => hz1 (UInt8.toNat_inj.1 h)
            rw [bne_iff_ne]
            omega
          have hF : fitsB a b = false := by
            rw [Bool.eq_false_iff]
            intro h
            exact hz1 (FI.out.1 h k hlt hkb)
          have HF := Lib.hid hF
          clear hF hz1 E
          go_wp2
          go_quiet (fail)
          go_wp2
          go_ret
          exact ⟨by rw [HF.out]; rfl, below_drewN' hb _⟩
      · have hF : fitsB a b = true := FI.out.2 fun j ha hb' => hz0.out j ha hb' (by omega)
        have HF := Lib.hid hF
        clear hF
        go_wp2
        go_ret
        exact ⟨by rw [HF.out]; rfl, hb⟩
  · have F : fitsB a b = false := by unfold fitsB; rw [hn, hnz]; simp [hl]
    rw [F]
    have hd : ((n : Int) != nz) = true := by simp; omega
    clear F
    go_enter Try.func51, Try.ntmps51
    go_wp2
    go_ret
    exact ⟨rfl, Below.refl _ _⟩
end Go.Proofs.Ytamhigknobdloaa
