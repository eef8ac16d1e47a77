/- The walks of And, Fits, Extend; conditions: lengths are small. -/
import Derived.Test.YtamhigknobdloaaMc
namespace Go.Proofs.Ytamhigknobdloaa
open Go.RowKit
set_option linter.unusedVariables false

theorem Sl.take {w : World} {A : Option Addr} {xs : List Value} (h : Sl w A xs) (k : Nat) : Sl w A (xs.take k) := by
  rcases h with rfl | ⟨b, off, rfl, hc⟩
  · exact .inl (by simp)
  · refine .inr ⟨b, off, rfl, fun j hj => ?_⟩
    rw [List.getElem_take]
    exact hc j (by simp at hj; omega)

/-- The loop of And behind k rounds. -/
def andTo (a b : List UInt8) (q k : Nat) : List UInt8 := (List.range q).map fun j => if j < k then a.getD j 0 &&& b.getD j 0 else a.getD j 0
theorem andTo_length (a b : List UInt8) (q k : Nat) : (andTo a b q k).length = q := by simp [andTo]
theorem andTo_zero (a b : List UInt8) (q : Nat) (h : q ≤ a.length) : andTo a b q 0 = a.take q := by
  apply List.ext_getElem
  · simp [andTo]; omega
  · intro j h1 h2
    have : j < a.length := by simp [andTo] at h1; omega
    simp [andTo, this]
theorem andTo_all (a b : List UInt8) (q : Nat) (h : q = min a.length b.length) : andTo a b q q = andB a b := by
  apply List.ext_getElem
  · simp [andTo, andB]; omega
  · intro j h1 h2
    have hj : j < q := by simpa [andTo] using h1
    have h3 : j < a.length := by omega
    have h4 : j < b.length := by omega
    simp [andTo, andB, hj, h3, h4]
theorem andTo_succ (a b : List UInt8) (q k : Nat) (h : k < q) (ha : k < a.length) (hb : k < b.length) : andTo a b q (k + 1) = (andTo a b q k).set k (a[k] &&& b[k]) := by
  apply List.ext_getElem
  · simp [andTo]
  · intro j h1 h2
    rw [List.getElem_set]
    by_cases e : k = j
    · subst e; simp [andTo, ha, hb]
    · simp only [andTo, List.getElem_map, List.getElem_range, if_neg e]
      by_cases hjk : j < k
      · rw [if_pos hjk, if_pos (by omega)]
      · rw [if_neg hjk, if_neg (by omega)]
theorem andTo_get (a b : List UInt8) (q k : Nat) (h : k < q) (ha : k < a.length) : (andTo a b q k)[k]? = some a[k] := by
  simp [andTo, h, ha]
theorem bits_and8 (x y : UInt8) : bits .and .u8 (x.toNat : Int) (y.toNat : Int) = ((x &&& y).toNat : Int) := by
  rw [u8_and_nat _ _ x.toNat_lt y.toNat_lt]; simp

set_option maxHeartbeats 800000 in
theorem and_any (A : Option Addr) (n c : Nat) (a : List UInt8) (Z : Option Addr) (nz cz : Nat) (b : List UInt8) (w : World) (hn : a.length = n) (hs : Sl w A (a.map bv)) (hlen : n ≤ 1000000) (hcap : n ≤ c)
    (hnz : b.length = nz) (hz : Sl w Z (b.map bv)) (hlz : nz ≤ 1000000) :
    Calls Try.prog 41 #[.slice A n c, .slice Z nz cz] w fun e w' => ∃ A' c', e = .returned (.slice A' (min n nz) c') ∧ w'.ownsRow w.heap.size 5 1 (.slice A' (min n nz) c') (min n nz) ((andB a b).map bv) ∧ Below w.heap.size w w' := by
  by_cases hc : n ≤ nz
  · rw [Nat.min_eq_left hc]
    have hq : (n) = min a.length b.length := by omega
    have hqa : n ≤ a.length := by omega
    have hqb : n ≤ b.length := by omega
    have ALL := Lib.hid (andTo_all a b n hq)
    have ZERO := Lib.hid (andTo_zero a b n hqa)
    clear hq
    have HN := Lib.hid hn
    have HZ := Lib.hid hnz
    clear hn hnz
    have hst : Sl w A ((a.take n).map bv) := by rw [List.map_take]; exact hs.take _
    go_enter Try.func41, Try.ntmps41
    go_wp2_with (go_at_call 80; refine (clone_any _ _ _ (a.take n) _ (by rw [List.length_take_of_le hqa]) hst (by omega)).mono ?_; rintro e w1 ⟨A1, c1, rfl, own1, hb1⟩)
    go_loopw [6, 17] (fun _ v17 wr => ∃ k : Nat, k ≤ n ∧ v17 = .int .i64 k ∧ wr.ownsRow w.heap.size 5 1 (.slice A1 n c1) n ((andTo a b n k).map bv) ∧ Below w.heap.size w wr) (fun _ v17 _ => n - (intOf v17).toNat)
    case atStart => exact ⟨0, by omega, rfl, by rw [ZERO.out]; exact own1, hb1⟩
    case round =>
      obtain ⟨k, hk, rfl, own, hb⟩ := hrel
      have hsz := hb.size
      by_cases hlt : k < n
      · obtain ⟨g, rfl, hbg, hgl⟩ := own_addr own (by omega)
        have hka : k < a.length := by omega
        have hkb : k < b.length := by omega
        obtain ⟨zb, zo, rfl, hcz⟩ := (hz.below hb).at_ (k := k) (by simpa using hkb)
        rw [List.getElem_map] at hcz
        have hco : wr.cell? ⟨g, k, none⟩ = some (bv a[k]) := by
          rw [own.cellAt k (by omega), List.getElem?_map, andTo_get a b _ k hlt hka]; rfl
        have hfz := own.frozenAt k
        have E := Lib.hid (bits_and8 a[k] b[k])
        have SN := Lib.hid (andTo_succ a b n k hlt hka hkb)
        have OWN := Lib.hid own
        clear own
        go_wp2
        go_region
        go_wp2
        go_roundw
        case rel =>
          have S := OWN.out.stored k (bv (a[k] &&& b[k]))
          exact ⟨k + 1, by omega, by go_num, by rw [SN.out, List.map_set, E.out]; exact S.1, by rw [E.out]; exact hb.grown ⟨S.2.os, S.2.tape, S.2.output, S.2.size, S.2.block⟩ hsz (fun q hq => by injection hq; omega)⟩
        case measure => simp [intOf]; omega
      · obtain rfl : k = n := by omega
        rw [ALL.out] at own
        go_wp2
        go_ret
        exact ⟨A1, c1, rfl, own, hb⟩
  · rw [Nat.min_eq_right (by omega)]
    have hc' : nz < n := by omega
    have hc2 : nz ≤ c := by omega
    have hq : (nz) = min a.length b.length := by omega
    have hqa : nz ≤ a.length := by omega
    have hqb : nz ≤ b.length := by omega
    have ALL := Lib.hid (andTo_all a b nz hq)
    have ZERO := Lib.hid (andTo_zero a b nz hqa)
    clear hq
    have HN := Lib.hid hn
    have HZ := Lib.hid hnz
    clear hn hnz
    have hst : Sl w A ((a.take nz).map bv) := by rw [List.map_take]; exact hs.take _
    go_enter Try.func41, Try.ntmps41
    go_wp2_with (go_at_call 80; refine (clone_any _ _ _ (a.take nz) _ (by rw [List.length_take_of_le hqa]) hst (by omega)).mono ?_; rintro e w1 ⟨A1, c1, rfl, own1, hb1⟩)
    go_loopw [6, 17] (fun _ v17 wr => ∃ k : Nat, k ≤ nz ∧ v17 = .int .i64 k ∧ wr.ownsRow w.heap.size 5 1 (.slice A1 nz c1) nz ((andTo a b nz k).map bv) ∧ Below w.heap.size w wr) (fun _ v17 _ => nz - (intOf v17).toNat)
    case atStart => exact ⟨0, by omega, rfl, by rw [ZERO.out]; exact own1, hb1⟩
    case round =>
      obtain ⟨k, hk, rfl, own, hb⟩ := hrel
      have hsz := hb.size
      by_cases hlt : k < nz
      · obtain ⟨g, rfl, hbg, hgl⟩ := own_addr own (by omega)
        have hka : k < a.length := by omega
        have hkb : k < b.length := by omega
        obtain ⟨zb, zo, rfl, hcz⟩ := (hz.below hb).at_ (k := k) (by simpa using hkb)
        rw [List.getElem_map] at hcz
        have hco : wr.cell? ⟨g, k, none⟩ = some (bv a[k]) := by
          rw [own.cellAt k (by omega), List.getElem?_map, andTo_get a b _ k hlt hka]; rfl
        have hfz := own.frozenAt k
        have E := Lib.hid (bits_and8 a[k] b[k])
        have SN := Lib.hid (andTo_succ a b nz k hlt hka hkb)
        have OWN := Lib.hid own
        clear own
        go_wp2
        go_region
        go_wp2
        go_roundw
        case rel =>
          have S := OWN.out.stored k (bv (a[k] &&& b[k]))
          exact ⟨k + 1, by omega, by go_num, by rw [SN.out, List.map_set, E.out]; exact S.1, by rw [E.out]; exact hb.grown ⟨S.2.os, S.2.tape, S.2.output, S.2.size, S.2.block⟩ hsz (fun q hq => by injection hq; omega)⟩
        case measure => simp [intOf]; omega
      · obtain rfl : k = nz := by omega
        rw [ALL.out] at own
        go_wp2
        go_ret
        exact ⟨A1, c1, rfl, own, hb⟩
end Go.Proofs.Ytamhigknobdloaa
