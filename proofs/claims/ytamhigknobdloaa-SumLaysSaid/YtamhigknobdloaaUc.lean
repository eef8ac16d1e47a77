/- The reference's Lay of unions for whatever lists, and its lies; conditions: the lists are short and readable. -/
import Derived.Test.YtamhigknobdloaaUb
import Derived.Test.YtamhigknobdloaaSl
namespace Go.Proofs.Ytamhigknobdloaa
open Go.RowKit
set_option linter.unusedVariables false

theorem rsumlay_any (A : Option Addr) (n c : Nat) (ps : List Part) (An : Option Addr) (nn cn : Nat) (nms : List ByteArray) (Ai : Option Addr) (nb cb : Nat) (bs : List Bool) (fs : List (List Int)) (w : World) (hn : ps.length = n) (hnn : nms.length = nn) (hbn : bs.length = nb) (hfn : fs.length = n)
    (hs : Parts w A ps) (hsn : Sl w An (nms.map Value.string)) (hsb : Sl w Ai (bs.map Value.bool)) (hlen : n ≤ 1000) (hl2 : nn ≤ 1000) (hl3 : nb ≤ 1000) (hsp : ∀ p ∈ ps, Sl w p.A (p.sp.map bv)) (hone : ∀ p ∈ ps, p.one)
    (hof : ∀ (i : Nat) (h1 : i < ps.length) (h2 : i < fs.length), ∃ Ao co, ps[i].x3 = .slice Ao fs[i].length co ∧ Sl w Ao (fs[i].map iv) ∧ fs[i].length ≤ 1000000) :
    Calls Try.prog 58 #[.slice A n c, .slice An nn cn, .slice Ai nb cb] w (SumOut ps nms bs fs w) := by
  by_cases hbad : nn ≠ n ∨ nb ≠ n
  · refine (rsum_len A n c An nn cn Ai nb cb w hlen hl2 hl3 hbad).mono ?_
    rintro e w' ⟨rfl, hbel⟩
    have hE : sumE ps nms.length bs = 19 := by
      have hb : sumBad ps nn nb = true := by
        unfold sumBad
        simp only [Bool.or_eq_true, decide_eq_true_eq]
        left
        omega
      unfold sumE; rw [hnn, hbn, hb]; rfl
    exact ⟨hbel, .inl ⟨by rw [hE]; decide, by rw [hE]⟩⟩
  · obtain ⟨e1, e2⟩ : nn = n ∧ nb = n := by omega
    subst e1 e2
    refine (rsum_any A nb c ps An cn nms Ai cb bs fs w hn hnn hbn hfn hs hsn hsb hlen hsp hone hof).mono ?_
    rintro e w' (⟨ha, rfl, hbel⟩ | ⟨ha, h12, rfl, hbel⟩ | ⟨ha, h12, hP⟩)
    · have hE : sumE ps nms.length bs = 19 := by
        have hb : sumBad ps nb nb = true := by unfold sumBad; rw [ha]; simp
        unfold sumE; rw [hnn, hbn, hb]; rfl
      exact ⟨hbel, .inl ⟨by rw [hE]; decide, by rw [hE]⟩⟩
    · have hb : sumBad ps nb nb = false := by unfold sumBad; rw [ha, hn]; simp
      have hE : sumE ps nms.length bs = 4 := by unfold sumE; rw [hnn, hbn, hb, if_neg (by decide), if_pos h12]
      exact ⟨hbel, .inl ⟨by rw [hE]; decide, by rw [hE]⟩⟩
    · have hb : sumBad ps nb nb = false := by unfold sumBad; rw [ha, hn]; simp
      rcases hP with ⟨hu, rfl, hbel⟩ | ⟨u, As, cs, Ac, cc, Az, cz, qs, hu, rfl, hat, hbel⟩
      · have hE : sumE ps nms.length bs = 4 := by unfold sumE; rw [hnn, hbn, hb, if_neg (by decide), if_neg (by omega), ← hn, hu]
        exact ⟨hbel, .inl ⟨by rw [hE]; decide, by rw [hE]⟩⟩
      · have hE : sumE ps nms.length bs = 0 := by unfold sumE; rw [hnn, hbn, hb, if_neg (by decide), if_neg (by omega), ← hn, hu]
        have hval : ∀ p ∈ ps, p.valid = true := by
          intro p hp
          cases hv : p.valid with
          | true => rfl
          | false =>
            have h : ps.any (fun p => !p.valid) = true := List.any_eq_true.2 ⟨p, hp, by rw [hv]; rfl⟩
            rw [ha] at h; cases h
        exact ⟨hbel, .inr ⟨hE, by omega, by omega, by omega, hval, u, As, cs, Ac, cc, Az, cz, qs, hu, rfl, hat⟩⟩

set_option maxHeartbeats 800000 in
theorem lies_any (q : CaseV) (hx : q.x3.oneCell' = true) (w : World) : Calls Try.prog 91 #[.agg #[.string q.name, .bool q.ind, .slice q.A q.ofs.length q.c, q.x3, .int .i64 q.s]] w fun e w' => e = .returned (.int .i64 (liesI q)) ∧ Below w.heap.size w w' := by
  have hb0 := (Below.refl w.heap.size w).alloc (Nat.le_refl _) (.cells #[.string q.name, .bool q.ind, .slice q.A q.ofs.length q.c, q.x3, .int .i64 q.s] 73)
  have sx3 := store_var (P := Try.prog) hx
  have hL : liesI q = if q.ind then 8 else q.s := rfl
  have HL := Lib.hid hL
  clear hL hx
  cases hi : q.ind with
  | true =>
    rw [hi] at HL hb0
    go_enter Try.func91, Try.ntmps91
    go_wp2
    go_ret
    exact ⟨by rw [HL.out]; rfl, hb0⟩
  | false =>
    rw [hi] at HL hb0
    go_enter Try.func91, Try.ntmps91
    go_wp2
    go_ret
    exact ⟨by rw [HL.out]; rfl, hb0⟩
end Go.Proofs.Ytamhigknobdloaa
