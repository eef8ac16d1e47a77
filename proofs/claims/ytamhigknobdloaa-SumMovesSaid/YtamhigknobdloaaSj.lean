/- The walks of ContainsFunc over bytes with the closure of sum.Project, and of Equal over bytes; conditions: the slices are short. -/
import Derived.Test.YtamhigknobdloaaSh
namespace Go.Proofs.Ytamhigknobdloaa
open Go.RowKit
set_option linter.unusedVariables false

set_option maxHeartbeats 400000 in
theorem clos90_any (b : UInt8) (w : World) : Calls Try.prog 90 #[bv b] w fun e w' => e = .returned (.bool (b != 0)) ∧ w = w' := by
  have hb := b.toNat_lt
  have e : (b != 0) = ((b.toNat : Int) != 0) := by
    rw [Bool.eq_iff_iff]
    simp only [bne_iff_ne, ne_eq, ← UInt8.toNat_inj]
    have : (0 : UInt8).toNat = 0 := rfl
    rw [this]
    omega
  rw [e]
  clear e
  go_enter Try.func90, Try.ntmps90
  go_wp2
  go_ret
  exact ⟨rfl, rfl⟩
set_option maxHeartbeats 1600000 in
theorem idx96_any (A : Option Addr) (n c : Nat) (m : List UInt8) (w : World) (hn : m.length = n) (hs : Sl w A (m.map bv)) (hlen : n ≤ 1000000) :
    Calls Try.prog 96 #[.slice A n c, .func (.func 90) #[] #[]] w fun e w' => (∃ i : Int, e = .returned (.int .i64 i) ∧ decide (0 ≤ i) = m.any (fun b => b != 0)) ∧ w = w' := by
  subst hn
  go_enter Try.func96, Try.ntmps96
  go_wp2
  go_loop [8] (fun v8 => ∃ k : Nat, k ≤ m.length ∧ v8 = .int .i64 k ∧ Hid ((m.take k).any (fun b => b != 0) = false)) (fun v8 => m.length - (intOf v8).toNat)
  case atStart => exact ⟨0, by omega, rfl, (by show _ = _; simp)⟩
  case round =>
    obtain ⟨k, hk, rfl, hp⟩ := hrel
    by_cases hlt : k < m.length
    · obtain ⟨b, off, rfl, hc⟩ := hs.at_ (k := k) (by simpa using hlt)
      rw [List.getElem_map] at hc
      have TK := Lib.hid (take_any m (fun b => b != 0) k hlt)
      cases hv : m[k] != 0 with
      | true =>
        rw [hv] at TK
        go_wp2_with fail
        refine (clos90_any m[k] _).mono ?_
        rw [hv]
        rintro e w' ⟨rfl, rfl⟩
        go_wp2
        go_ret
        refine ⟨⟨k, rfl, ?_⟩, rfl⟩
        rw [List.any_eq_true.2 ⟨m[k], List.getElem_mem hlt, hv⟩]
        simp
      | false =>
        rw [hv] at TK
        go_wp2_with fail
        refine (clos90_any m[k] _).mono ?_
        rw [hv]
        rintro e w' ⟨rfl, rfl⟩
        go_wp2
        go_round
        case rel => exact ⟨k + 1, by omega, by go_num, (by show _ = _; rw [TK.out, hp.out]; rfl)⟩
        case measure => simp [intOf]; omega
    · obtain rfl : k = m.length := by omega
      go_wp2
      go_ret
      refine ⟨⟨-1, rfl, ?_⟩, rfl⟩
      have := hp.out
      rw [List.take_length] at this
      rw [this]; rfl
set_option maxHeartbeats 800000 in
theorem cont89_any (A : Option Addr) (n c : Nat) (m : List UInt8) (w : World) (hn : m.length = n) (hs : Sl w A (m.map bv)) (hlen : n ≤ 1000000) :
    Calls Try.prog 89 #[.slice A n c, .func (.func 90) #[] #[]] w fun e w' => e = .returned (.bool (m.any (fun b => b != 0))) ∧ w = w' := by
  go_enter Try.func89, Try.ntmps89
  go_wp2_with fail
  refine (idx96_any _ _ _ m _ hn hs hlen).mono ?_
  rintro e w1 ⟨⟨i, rfl, hi⟩, rfl⟩
  have HI := Lib.hid hi
  clear hi
  go_wp2
  go_ret
  exact ⟨by rw [← HI.out]; rfl, rfl⟩
theorem drewN_add (w : World) (a b : Nat) : (w.drewN a).drewN b = w.drewN (a + b) := by unfold World.drewN; simp [Nat.add_assoc]
set_option maxHeartbeats 1600000 in
theorem equal88_any (A : Option Addr) (n c : Nat) (a : List UInt8) (Z : Option Addr) (cz : Nat) (b : List UInt8) (w : World) (hn : a.length = n) (hm : b.length = n) (hs : Sl w A (a.map bv)) (hz : Sl w Z (b.map bv)) (hlen : n ≤ 1000000) :
    Calls Try.prog 88 #[.slice A n c, .slice Z n cz] w fun e w' => e = .returned (.bool (decide (a = b))) ∧ ∃ k, w' = w.drewN k := by
  subst hn
  have hd : ((a.length : Int) != a.length) = false := by simp
  have HM := Lib.hid hm
  clear hm
  go_enter Try.func88, Try.ntmps88
  go_wp2
  go_loopw [13] (fun v13 wr => ∃ k j : Nat, k ≤ a.length ∧ v13 = .int .i64 k ∧ wr = w.drewN j ∧ Hid (a.take k = b.take k)) (fun v13 _ => a.length - (intOf v13).toNat)
  case atStart => exact ⟨0, 0, by omega, rfl, rfl, (rfl : _ = _)⟩
  case round =>
    obtain ⟨k, j, hk, rfl, rfl, hp⟩ := hrel
    by_cases hlt : k < a.length
    · have hltb : k < b.length := by rw [HM.out]; exact hlt
      obtain ⟨ab, ao, rfl, hca⟩ := hs.at_ (k := k) (by simpa using hlt)
      obtain ⟨zb, zo, rfl, hcz⟩ := hz.at_ (k := k) (by simpa using hltb)
      rw [List.getElem_map] at hcz hca
      have hk0 : (0 : Int) ≤ (k : Int) := Int.natCast_nonneg _
      have hk1 : (k : Int) < (a.length : Int) := by omega
      by_cases he : a[k] = b[k]
      · have ht : a.take (k + 1) = b.take (k + 1) := by rw [List.take_succ_eq_append_getElem hlt, List.take_succ_eq_append_getElem hltb, hp.out, he]
        have HT := Lib.hid ht
        have hself : ((a[k].toNat : Int) != (b[k].toNat : Int)) = false := by rw [he]; simp
        clear ht he
        go_wp2
        go_quiet (fail)
        go_wp2
        go_roundw
        case rel => exact ⟨k + 1, _, by omega, by go_num, rfl, HT.out⟩
        case measure => simp [intOf]; omega
      · have hself : ((a[k].toNat : Int) != (b[k].toNat : Int)) = true := by
          simp only [bne_iff_ne, ne_eq]
          intro h
          exact he (UInt8.toNat_inj.1 (by omega))
        have hne : decide (a = b) = false := by
          rw [decide_eq_false_iff_not]
          intro h
          subst h
          exact he rfl
        have HNE := Lib.hid hne
        clear hne he
        go_wp2
        go_quiet (fail)
        go_wp2
        go_ret
        exact ⟨by rw [HNE.out]; rfl, _, drewN_add _ _ _⟩
    · obtain rfl : k = a.length := by omega
      have he : decide (a = b) = true := by
        have := hp.out
        rw [List.take_length, List.take_of_length_le (by rw [HM.out]; exact Nat.le_refl _)] at this
        simpa using this
      have HE := Lib.hid he
      clear he
      go_wp2
      go_ret
      exact ⟨by rw [HE.out]; rfl, _, rfl⟩
end Go.Proofs.Ytamhigknobdloaa
