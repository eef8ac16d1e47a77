/- The walk of the law TokenMunch; no condition but that the slice is readable. -/
import Derived.Test.YtmjnipklbmokjaaTd
import Derived.Test.YtmjnipklbmokjaaTj
namespace Go.Proofs.Ytmjnipklbmokjaa
open Go.RowKit
set_option linter.unusedVariables false

theorem el9 : El Try.prog 9 (.string ⟨#[]⟩) 1 16 := El.mk (by kernel_rfl) rfl (by decide)
/-- A list of bytes as a string value. -/
def bsB (p : Bs) : ByteArray := ⟨p.toArray⟩
abbrev sv (p : Bs) : Value := .string (bsB p)
theorem bsB_data (p : Bs) : (bsB p).data.toList = p := by simp [bsB]
theorem bsB_toList (p : Bs) : (bsB p).toList = p := by rw [Lib.toList_data, bsB_data]
theorem bsB_size (p : Bs) : (bsB p).size = p.length := by rw [← size_list, bsB_data]

/-- A piece's first byte, by its class. -/
def Cls (p : Bs) (c : Nat) : Prop :=
  (97 ≤ c ∧ c ≤ 122 ∧ p ≠ [61]) ∨ (48 ≤ c ∧ c ≤ 57 ∧ p ≠ [61]) ∨ (c = 61 ∧ p = [61]) ∨ (c = 61 ∧ p ≠ [61]) ∨ (c = 60 ∧ p ≠ [61]) ∨ (c < 48 ∧ p ≠ [61])
theorem piece_cls : ∀ p ∈ piecesL, Cls p (p.headD 0).toNat ∧ 0 < p.length ∧ p.length ≤ 3 := by
  intro p hp
  simp only [piecesL, List.mem_cons, List.not_mem_nil, or_false] at hp
  unfold Cls
  rcases hp with rfl | rfl | rfl | rfl | rfl | rfl | rfl | rfl | rfl | rfl | rfl <;> simp
theorem head_bsB (p : Bs) (h : 0 < (bsB p).size) : (bsB p)[0] = p.headD 0 := by
  have := data_get (bsB p) 0 h
  rw [← this]
  simp only [bsB_data]
  cases p with
  | nil => simp [bsB_size] at h
  | cons c t => rfl

theorem need_by {q p : Bs} {qc pc : Nat} (hq : qc = (q.headD 0).toNat) (hp : pc = (p.headD 0).toNat) : needB q p =
    (((decide (97 ≤ qc) && decide (qc ≤ 122)) && ((decide (48 ≤ pc) && decide (pc ≤ 57)) || (decide (97 ≤ pc) && decide (pc ≤ 122)))) || ((decide (48 ≤ qc) && decide (qc ≤ 57)) && (decide (48 ≤ pc) && decide (pc ≤ 57))) || (q == [61] && decide (pc = 61))) := by
  subst hq hp
  unfold needB lowB digitB
  have e : ∀ x : UInt8, (x == 61) = decide (x.toNat = 61) := by
    intro x
    by_cases h : x = 61
    · rw [h]; rfl
    · have h1 : (x == 61) = false := by simpa using h
      have h2 : decide (x.toNat = 61) = false := by
        rw [decide_eq_false_iff_not]
        exact fun h' => h (UInt8.toNat_inj.1 (by rw [h']; rfl))
      rw [h1, h2]
  rw [e]
theorem cls5 {p : Bs} {c : Nat} (h : Cls p c) : (97 ≤ c ∧ c ≤ 122) ∨ (48 ≤ c ∧ c ≤ 57) ∨ c = 61 ∨ c = 60 ∨ c < 48 := by
  unfold Cls at h
  omega
theorem below_trans' {w w1 w2 : World} (h : Below w.heap.size w w1) (h' : Below w1.heap.size w1 w2) : Below w.heap.size w w2 := below_next h h'
set_option maxHeartbeats 6400000 in
set_option maxRecDepth 100000 in
theorem munch_walk (A : Option Addr) (n c : Nat) (b : List UInt8) (w : World) (hn : b.length = n) (hs : Sl w A (b.map bv)) (hn63 : n ≤ 9223372036854775807) :
    Calls Try.prog 7 #[.slice A n c] w fun e w' => e = .returned (.bool true) ∧ Below w.heap.size w w' := by
  by_cases hbig : 200 < n
  · have hd : decide ((200 : Int) < n) = true := by simp; omega
    go_enter Try.func7, Try.ntmps7
    go_wp2_with fail
    refine (awake_any _).mono ?_
    rintro e w1 ⟨rfl, hb⟩
    go_wp2
    go_ret
    exact ⟨rfl, hb⟩
  have hd : decide ((200 : Int) < n) = false := by simp; omega
  have HN := Lib.hid hn
  clear hn
  go_enter Try.func7, Try.ntmps7
  go_wp2_with fail
  have hP0 : Sl (w.alloc (.cells (piecesL.map sv).toArray 9)) (some ⟨w.heap.size, 0, none⟩) (piecesL.map sv) := Sl.new w _ 9
  have hs0 := hs.alloc (.cells (piecesL.map sv).toArray 9)
  have hbw := (Below.refl w.heap.size w).alloc (Nat.le_refl _) (.cells (piecesL.map sv).toArray 9)
  have hW1 : (w.alloc (.cells #[.string ⟨#[97, 98]⟩, .string ⟨#[120, 49, 121]⟩, .string ⟨#[55]⟩, .string ⟨#[52, 53]⟩, .string ⟨#[61, 61]⟩, .string ⟨#[61]⟩, .string ⟨#[45, 62]⟩, .string ⟨#[45]⟩, .string ⟨#[60]⟩, .string ⟨#[46]⟩, .string ⟨#[108, 101, 116]⟩] 9)) = w.alloc (.cells (piecesL.map sv).toArray 9) := rfl
  have hsz1 : (w.alloc (.cells (piecesL.map sv).toArray 9)).heap.size = w.heap.size + 1 := by simp
  rw [hW1]
  clear hW1
  generalize w.alloc (.cells (piecesL.map sv).toArray 9) = W1 at *
  have hb0 := Below.refl W1.heap.size W1
  go_loopw [4, 5, 25] (fun v4 v5 v25 wr => ∃ (k : Nat) (l : List Bs) (S : ByteArray) (A' : Option Addr) (c' : Nat), k ≤ n ∧ l.length = k ∧ v25 = .int .i64 k ∧ v4 = .string S ∧ v5 = .slice A' k c' ∧ Hid (∀ p ∈ l, p ∈ piecesL) ∧ Hid (S.data.toList = glue (mItems l)) ∧ S.size ≤ 4 * k ∧ wr.ownsRow W1.heap.size 9 1 (.slice A' k c') k (l.map sv) ∧ Below W1.heap.size W1 wr) (fun _ _ v25 _ => n - (intOf v25).toNat)
  case atStart => exact ⟨0, [], ⟨#[]⟩, none, 0, by omega, rfl, rfl, rfl, rfl, (by intro p hp; simp at hp : Hid _), (rfl : _ = _), by decide, World.ownsRow_nil _ _ _ _, hb0⟩
  case round =>
    obtain ⟨k, l, S, A', c', hk, hl, rfl, rfl, rfl, hpl, hS, hSs, own, hb⟩ := hrel
    have hsz := hb.size
    by_cases hlt : k < n
    · obtain ⟨xb, xo, rfl, hcx⟩ := (hs0.below hb).at_ (k := k) (by simpa [HN.out] using hlt)
      rw [List.getElem_map] at hcx
      generalize b[k]'(by rw [HN.out]; exact hlt) = x at hcx
      obtain ⟨j, hj⟩ : ∃ j, j = x.toNat % 11 := ⟨_, rfl⟩
      have hjI : (x.toNat : Int) % 11 = (j : Int) := by omega
      have hj11 : j < 11 := by omega
      clear hj
      have hx255 : x.toNat ≤ 255 := by have := x.toNat_lt; omega
      obtain ⟨pb, po, hpe, hcp⟩ := (hP0.below hb).at_ (k := j) (by simpa [piecesL] using hj11)
      injection hpe with hpe
      injection hpe with e1 e2
      subst e1 e2
      rw [List.getElem_map, Nat.zero_add] at hcp
      obtain ⟨p, hp⟩ : ∃ p, p = piecesL[j]'(by simpa [piecesL] using hj11) := ⟨_, rfl⟩
      rw [← hp] at hcp
      have hpm : p ∈ piecesL := by rw [hp]; exact List.getElem_mem _
      clear hp
      obtain ⟨hcls, hp1, hp3⟩ := piece_cls p hpm
      obtain ⟨P, hPe⟩ : ∃ P, P = bsB p := ⟨_, rfl⟩
      have hPs : P.size = p.length := by rw [hPe, bsB_size]
      have hPz : 0 < P.size := by omega
      have hPh : P[0].toNat = (p.headD 0).toNat := by subst hPe; rw [head_bsB p hPz]
      have hcp' : wr.cell? ⟨w.heap.size, j, none⟩ = some (.string P) := by rw [hPe]; exact hcp
      clear hcp
      rw [← hPh] at hcls
      have hP3 : P.size ≤ 3 := by omega
      have HPE := Lib.hid hPe
      have HPM := Lib.hid hpm
      have HPH := Lib.hid hPh
      clear hPe hpm hPs hPh hp1 hp3
      replace hcls := cls5 hcls
      rcases List.eq_nil_or_concat l with hnil | ⟨l', q, hq⟩
      · subst hnil
        obtain rfl : k = 0 := by simpa using hl.symm
        rw [Nat.add_zero] at hcx
        rcases hcls with ⟨h1, h2⟩ | ⟨h1, h2⟩ | h1 | h1 | h1
        · skip
          have pnb48 : decide (48 ≤ P[0].toNat) = true := by simp; omega
          have pib48 : decide ((48 : Int) ≤ (P[0].toNat : Int)) = true := by simp; omega
          have pnb57 : decide (P[0].toNat ≤ 57) = false := by simp; omega
          have pib57 : decide ((P[0].toNat : Int) ≤ (57 : Int)) = false := by simp; omega
          have pnb97 : decide (97 ≤ P[0].toNat) = true := by simp; omega
          have pib97 : decide ((97 : Int) ≤ (P[0].toNat : Int)) = true := by simp; omega
          have pnb122 : decide (P[0].toNat ≤ 122) = true := by simp; omega
          have pib122 : decide ((P[0].toNat : Int) ≤ (122 : Int)) = true := by simp; omega
          have pn61 : decide (P[0].toNat = 61) = false := by simp; omega
          have pi61 : ((P[0].toNat : Int) == 61) = false := by simp; omega
          have NB : Hid (needB (List.getLastD ([] : List Bs) []) p = false) := by show needB [] p = false; simp [needB, lowB, digitB]
          clear pnb48 pnb57 pnb97 pnb122 pn61 h1 h2
          obtain ⟨A2, c2, w2, hrun, own2, hg2⟩ := run_append1 (P := Try.prog) W1.heap.size 28 28 9 _ 16 Try.underlying28 el9 (by omega) _ 0 c' _ own (.string P) rfl (by omega) hsz
          have G2 := Lib.hid (hb.grown hg2 hsz (fun q hq => (own.lt q hq).1))
          have OWN : Hid (w2.ownsRow W1.heap.size 9 1 (.slice A2 (0 + 1) c2) (0 + 1) (([] ++ [p]).map sv)) := by
            show World.ownsRow _ _ _ _ _ _ _
            rw [List.map_append]; show World.ownsRow _ _ _ _ _ _ (_ ++ [sv p])
            show World.ownsRow _ _ _ _ _ _ (_ ++ [Value.string (bsB p)])
            rw [← HPE.out]; exact own2
          have GL : Hid ((S ++ P).data.toList = glue (mItems ([] ++ [p]))) := by
            show _ = _
            rw [mItems_snoc, NB.out, app_data, hS.out, HPE.out, bsB_data]
            simp
          have GS : Hid ((S ++ P).size = S.size + P.size) := by
            show _ = _
            rw [app_size]
          have PLS : Hid (∀ r ∈ [] ++ [p], r ∈ piecesL) := by
            intro r hr
            rcases List.mem_append.1 hr with h | h
            · exact hpl.out r h
            · rw [List.mem_singleton.1 h]; exact HPM.out
          clear own own2 hg2
          go_wp2
          go_roundw
          case rel => exact ⟨0 + 1, [] ++ [p], S ++ P, A2, c2, by omega, by simp, by go_num, rfl, rfl, PLS, GL, by have := GS.out; omega, OWN.out, G2.out⟩
          case measure => simp [intOf]; omega
        · skip
          have pnb48 : decide (48 ≤ P[0].toNat) = true := by simp; omega
          have pib48 : decide ((48 : Int) ≤ (P[0].toNat : Int)) = true := by simp; omega
          have pnb57 : decide (P[0].toNat ≤ 57) = true := by simp; omega
          have pib57 : decide ((P[0].toNat : Int) ≤ (57 : Int)) = true := by simp; omega
          have pnb97 : decide (97 ≤ P[0].toNat) = false := by simp; omega
          have pib97 : decide ((97 : Int) ≤ (P[0].toNat : Int)) = false := by simp; omega
          have pnb122 : decide (P[0].toNat ≤ 122) = true := by simp; omega
          have pib122 : decide ((P[0].toNat : Int) ≤ (122 : Int)) = true := by simp; omega
          have pn61 : decide (P[0].toNat = 61) = false := by simp; omega
          have pi61 : ((P[0].toNat : Int) == 61) = false := by simp; omega
          have NB : Hid (needB (List.getLastD ([] : List Bs) []) p = false) := by show needB [] p = false; simp [needB, lowB, digitB]
          clear pnb48 pnb57 pnb97 pnb122 pn61 h1 h2
          obtain ⟨A2, c2, w2, hrun, own2, hg2⟩ := run_append1 (P := Try.prog) W1.heap.size 28 28 9 _ 16 Try.underlying28 el9 (by omega) _ 0 c' _ own (.string P) rfl (by omega) hsz
          have G2 := Lib.hid (hb.grown hg2 hsz (fun q hq => (own.lt q hq).1))
          have OWN : Hid (w2.ownsRow W1.heap.size 9 1 (.slice A2 (0 + 1) c2) (0 + 1) (([] ++ [p]).map sv)) := by
            show World.ownsRow _ _ _ _ _ _ _
            rw [List.map_append]; show World.ownsRow _ _ _ _ _ _ (_ ++ [sv p])
            show World.ownsRow _ _ _ _ _ _ (_ ++ [Value.string (bsB p)])
            rw [← HPE.out]; exact own2
          have GL : Hid ((S ++ P).data.toList = glue (mItems ([] ++ [p]))) := by
            show _ = _
            rw [mItems_snoc, NB.out, app_data, hS.out, HPE.out, bsB_data]
            simp
          have GS : Hid ((S ++ P).size = S.size + P.size) := by
            show _ = _
            rw [app_size]
          have PLS : Hid (∀ r ∈ [] ++ [p], r ∈ piecesL) := by
            intro r hr
            rcases List.mem_append.1 hr with h | h
            · exact hpl.out r h
            · rw [List.mem_singleton.1 h]; exact HPM.out
          clear own own2 hg2
          go_wp2
          go_roundw
          case rel => exact ⟨0 + 1, [] ++ [p], S ++ P, A2, c2, by omega, by simp, by go_num, rfl, rfl, PLS, GL, by have := GS.out; omega, OWN.out, G2.out⟩
          case measure => simp [intOf]; omega
        · skip
          have pnb48 : decide (48 ≤ P[0].toNat) = true := by simp; omega
          have pib48 : decide ((48 : Int) ≤ (P[0].toNat : Int)) = true := by simp; omega
          have pnb57 : decide (P[0].toNat ≤ 57) = false := by simp; omega
          have pib57 : decide ((P[0].toNat : Int) ≤ (57 : Int)) = false := by simp; omega
          have pnb97 : decide (97 ≤ P[0].toNat) = false := by simp; omega
          have pib97 : decide ((97 : Int) ≤ (P[0].toNat : Int)) = false := by simp; omega
          have pnb122 : decide (P[0].toNat ≤ 122) = true := by simp; omega
          have pib122 : decide ((P[0].toNat : Int) ≤ (122 : Int)) = true := by simp; omega
          have pn61 : decide (P[0].toNat = 61) = true := by simp; omega
          have pi61 : ((P[0].toNat : Int) == 61) = true := by simp; omega
          have NB : Hid (needB (List.getLastD ([] : List Bs) []) p = false) := by show needB [] p = false; simp [needB, lowB, digitB]
          clear pnb48 pnb57 pnb97 pnb122 pn61 h1
          obtain ⟨A2, c2, w2, hrun, own2, hg2⟩ := run_append1 (P := Try.prog) W1.heap.size 28 28 9 _ 16 Try.underlying28 el9 (by omega) _ 0 c' _ own (.string P) rfl (by omega) hsz
          have G2 := Lib.hid (hb.grown hg2 hsz (fun q hq => (own.lt q hq).1))
          have OWN : Hid (w2.ownsRow W1.heap.size 9 1 (.slice A2 (0 + 1) c2) (0 + 1) (([] ++ [p]).map sv)) := by
            show World.ownsRow _ _ _ _ _ _ _
            rw [List.map_append]; show World.ownsRow _ _ _ _ _ _ (_ ++ [sv p])
            show World.ownsRow _ _ _ _ _ _ (_ ++ [Value.string (bsB p)])
            rw [← HPE.out]; exact own2
          have GL : Hid ((S ++ P).data.toList = glue (mItems ([] ++ [p]))) := by
            show _ = _
            rw [mItems_snoc, NB.out, app_data, hS.out, HPE.out, bsB_data]
            simp
          have GS : Hid ((S ++ P).size = S.size + P.size) := by
            show _ = _
            rw [app_size]
          have PLS : Hid (∀ r ∈ [] ++ [p], r ∈ piecesL) := by
            intro r hr
            rcases List.mem_append.1 hr with h | h
            · exact hpl.out r h
            · rw [List.mem_singleton.1 h]; exact HPM.out
          clear own own2 hg2
          go_wp2
          go_roundw
          case rel => exact ⟨0 + 1, [] ++ [p], S ++ P, A2, c2, by omega, by simp, by go_num, rfl, rfl, PLS, GL, by have := GS.out; omega, OWN.out, G2.out⟩
          case measure => simp [intOf]; omega
        · skip
          have pnb48 : decide (48 ≤ P[0].toNat) = true := by simp; omega
          have pib48 : decide ((48 : Int) ≤ (P[0].toNat : Int)) = true := by simp; omega
          have pnb57 : decide (P[0].toNat ≤ 57) = false := by simp; omega
          have pib57 : decide ((P[0].toNat : Int) ≤ (57 : Int)) = false := by simp; omega
          have pnb97 : decide (97 ≤ P[0].toNat) = false := by simp; omega
          have pib97 : decide ((97 : Int) ≤ (P[0].toNat : Int)) = false := by simp; omega
          have pnb122 : decide (P[0].toNat ≤ 122) = true := by simp; omega
          have pib122 : decide ((P[0].toNat : Int) ≤ (122 : Int)) = true := by simp; omega
          have pn61 : decide (P[0].toNat = 61) = false := by simp; omega
          have pi61 : ((P[0].toNat : Int) == 61) = false := by simp; omega
          have NB : Hid (needB (List.getLastD ([] : List Bs) []) p = false) := by show needB [] p = false; simp [needB, lowB, digitB]
          clear pnb48 pnb57 pnb97 pnb122 pn61 h1
          obtain ⟨A2, c2, w2, hrun, own2, hg2⟩ := run_append1 (P := Try.prog) W1.heap.size 28 28 9 _ 16 Try.underlying28 el9 (by omega) _ 0 c' _ own (.string P) rfl (by omega) hsz
          have G2 := Lib.hid (hb.grown hg2 hsz (fun q hq => (own.lt q hq).1))
          have OWN : Hid (w2.ownsRow W1.heap.size 9 1 (.slice A2 (0 + 1) c2) (0 + 1) (([] ++ [p]).map sv)) := by
            show World.ownsRow _ _ _ _ _ _ _
            rw [List.map_append]; show World.ownsRow _ _ _ _ _ _ (_ ++ [sv p])
            show World.ownsRow _ _ _ _ _ _ (_ ++ [Value.string (bsB p)])
            rw [← HPE.out]; exact own2
          have GL : Hid ((S ++ P).data.toList = glue (mItems ([] ++ [p]))) := by
            show _ = _
            rw [mItems_snoc, NB.out, app_data, hS.out, HPE.out, bsB_data]
            simp
          have GS : Hid ((S ++ P).size = S.size + P.size) := by
            show _ = _
            rw [app_size]
          have PLS : Hid (∀ r ∈ [] ++ [p], r ∈ piecesL) := by
            intro r hr
            rcases List.mem_append.1 hr with h | h
            · exact hpl.out r h
            · rw [List.mem_singleton.1 h]; exact HPM.out
          clear own own2 hg2
          go_wp2
          go_roundw
          case rel => exact ⟨0 + 1, [] ++ [p], S ++ P, A2, c2, by omega, by simp, by go_num, rfl, rfl, PLS, GL, by have := GS.out; omega, OWN.out, G2.out⟩
          case measure => simp [intOf]; omega
        · skip
          have pnb48 : decide (48 ≤ P[0].toNat) = false := by simp; omega
          have pib48 : decide ((48 : Int) ≤ (P[0].toNat : Int)) = false := by simp; omega
          have pnb57 : decide (P[0].toNat ≤ 57) = true := by simp; omega
          have pib57 : decide ((P[0].toNat : Int) ≤ (57 : Int)) = true := by simp; omega
          have pnb97 : decide (97 ≤ P[0].toNat) = false := by simp; omega
          have pib97 : decide ((97 : Int) ≤ (P[0].toNat : Int)) = false := by simp; omega
          have pnb122 : decide (P[0].toNat ≤ 122) = true := by simp; omega
          have pib122 : decide ((P[0].toNat : Int) ≤ (122 : Int)) = true := by simp; omega
          have pn61 : decide (P[0].toNat = 61) = false := by simp; omega
          have pi61 : ((P[0].toNat : Int) == 61) = false := by simp; omega
          have NB : Hid (needB (List.getLastD ([] : List Bs) []) p = false) := by show needB [] p = false; simp [needB, lowB, digitB]
          clear pnb48 pnb57 pnb97 pnb122 pn61 h1
          obtain ⟨A2, c2, w2, hrun, own2, hg2⟩ := run_append1 (P := Try.prog) W1.heap.size 28 28 9 _ 16 Try.underlying28 el9 (by omega) _ 0 c' _ own (.string P) rfl (by omega) hsz
          have G2 := Lib.hid (hb.grown hg2 hsz (fun q hq => (own.lt q hq).1))
          have OWN : Hid (w2.ownsRow W1.heap.size 9 1 (.slice A2 (0 + 1) c2) (0 + 1) (([] ++ [p]).map sv)) := by
            show World.ownsRow _ _ _ _ _ _ _
            rw [List.map_append]; show World.ownsRow _ _ _ _ _ _ (_ ++ [sv p])
            show World.ownsRow _ _ _ _ _ _ (_ ++ [Value.string (bsB p)])
            rw [← HPE.out]; exact own2
          have GL : Hid ((S ++ P).data.toList = glue (mItems ([] ++ [p]))) := by
            show _ = _
            rw [mItems_snoc, NB.out, app_data, hS.out, HPE.out, bsB_data]
            simp
          have GS : Hid ((S ++ P).size = S.size + P.size) := by
            show _ = _
            rw [app_size]
          have PLS : Hid (∀ r ∈ [] ++ [p], r ∈ piecesL) := by
            intro r hr
            rcases List.mem_append.1 hr with h | h
            · exact hpl.out r h
            · rw [List.mem_singleton.1 h]; exact HPM.out
          clear own own2 hg2
          go_wp2
          go_roundw
          case rel => exact ⟨0 + 1, [] ++ [p], S ++ P, A2, c2, by omega, by simp, by go_num, rfl, rfl, PLS, GL, by have := GS.out; omega, OWN.out, G2.out⟩
          case measure => simp [intOf]; omega
      · rw [List.concat_eq_append] at hq
        subst hq
        obtain ⟨m, rfl⟩ : ∃ m, k = m + 1 := ⟨l'.length, by simpa using hl.symm⟩
        have hqm := hpl.out q (by simp)
        obtain ⟨hqcls, hq1, hq3⟩ := piece_cls q hqm
        obtain ⟨g, rfl, hg1, hg2⟩ := own_addr own (by omega)
        have hcap := own_cap own
        obtain ⟨Q, hQe⟩ : ∃ Q, Q = bsB q := ⟨_, rfl⟩
        have hcq : wr.cell? ⟨g, m, none⟩ = some (.string Q) := by
          have hlm : l'.length = m := by simpa using hl
          rw [World.ownsRow.cellAt (j := m) own (by omega), hQe, List.map_append, ← hlm]
          simp
        have hQs : Q.size = q.length := by rw [hQe, bsB_size]
        have hQz : 0 < Q.size := by omega
        have hQh : Q[0].toNat = (q.headD 0).toNat := by subst hQe; rw [head_bsB q hQz]
        rw [← hQh] at hqcls
        have hQ1 : Q.toList.isEmpty = false := by rw [hQe, bsB_toList]; cases q with | nil => simp at hq1 | cons _ _ => rfl
        have hQ61 : (Q.toList == [61]) = (q == [61]) := by rw [hQe, bsB_toList]
        have HQH := Lib.hid hQh
        clear hQe hqm hQs hQh hq1 hq3
        rcases hqcls with ⟨k1, k2, k3⟩ | ⟨k1, k2, k3⟩ | ⟨k1, k3⟩ | ⟨k1, k3⟩ | ⟨k1, k3⟩ | ⟨k1, k3⟩
        · have q61 : (q == [61]) = false := by first | (rw [k3]; rfl) | (simpa using k3)
          have HQ61 := Lib.hid q61
          rw [q61] at hQ61
          clear q61 k3
          have qnb48 : decide (48 ≤ Q[0].toNat) = true := by simp; omega
          have qib48 : decide ((48 : Int) ≤ (Q[0].toNat : Int)) = true := by simp; omega
          have qnb57 : decide (Q[0].toNat ≤ 57) = false := by simp; omega
          have qib57 : decide ((Q[0].toNat : Int) ≤ (57 : Int)) = false := by simp; omega
          have qnb97 : decide (97 ≤ Q[0].toNat) = true := by simp; omega
          have qib97 : decide ((97 : Int) ≤ (Q[0].toNat : Int)) = true := by simp; omega
          have qnb122 : decide (Q[0].toNat ≤ 122) = true := by simp; omega
          have qib122 : decide ((Q[0].toNat : Int) ≤ (122 : Int)) = true := by simp; omega
          have qn61 : decide (Q[0].toNat = 61) = false := by simp; omega
          have qi61 : ((Q[0].toNat : Int) == 61) = false := by simp; omega
          clear qn61 qi61 k1 k2
          rcases hcls with ⟨h1, h2⟩ | ⟨h1, h2⟩ | h1 | h1 | h1
          · skip
            have pnb48 : decide (48 ≤ P[0].toNat) = true := by simp; omega
            have pib48 : decide ((48 : Int) ≤ (P[0].toNat : Int)) = true := by simp; omega
            have pnb57 : decide (P[0].toNat ≤ 57) = false := by simp; omega
            have pib57 : decide ((P[0].toNat : Int) ≤ (57 : Int)) = false := by simp; omega
            have pnb97 : decide (97 ≤ P[0].toNat) = true := by simp; omega
            have pib97 : decide ((97 : Int) ≤ (P[0].toNat : Int)) = true := by simp; omega
            have pnb122 : decide (P[0].toNat ≤ 122) = true := by simp; omega
            have pib122 : decide ((P[0].toNat : Int) ≤ (122 : Int)) = true := by simp; omega
            have pn61 : decide (P[0].toNat = 61) = false := by simp; omega
            have pi61 : ((P[0].toNat : Int) == 61) = false := by simp; omega
            have NB : Hid (needB (List.getLastD (l' ++ [q]) []) p = true) := by
              show needB _ p = _
              rw [List.getLastD_concat, need_by HQH.out HPH.out, pnb48, pnb57, pnb97, pnb122, pn61, qnb48, qnb57, qnb97, qnb122, HQ61.out]; rfl
            clear qnb48 qnb57 qnb97 qnb122 pnb48 pnb57 pnb97 pnb122 pn61 h1 h2
            obtain ⟨A2, c2, w2, hrun, own2, hg2⟩ := run_append1 (P := Try.prog) W1.heap.size 28 28 9 _ 16 Try.underlying28 el9 (by omega) _ (m + 1) c' _ own (.string P) rfl (by omega) hsz
            have G2 := Lib.hid (hb.grown hg2 hsz (fun q hq => (own.lt q hq).1))
            have OWN : Hid (w2.ownsRow W1.heap.size 9 1 (.slice A2 ((m + 1) + 1) c2) ((m + 1) + 1) (((l' ++ [q]) ++ [p]).map sv)) := by
              show World.ownsRow _ _ _ _ _ _ _
              rw [List.map_append]; show World.ownsRow _ _ _ _ _ _ (_ ++ [sv p])
              show World.ownsRow _ _ _ _ _ _ (_ ++ [Value.string (bsB p)])
              rw [← HPE.out]; exact own2
            have GL : Hid (((S ++ ⟨#[32]⟩) ++ P).data.toList = glue (mItems ((l' ++ [q]) ++ [p]))) := by
              show _ = _
              rw [mItems_snoc, NB.out, app_data, app_data, hS.out, HPE.out, bsB_data]
              simp
            have GS : Hid (((S ++ ⟨#[32]⟩) ++ P).size = S.size + 1 + P.size) := by
              show _ = _
              rw [app_size, app_size]; rfl
            have PLS : Hid (∀ r ∈ (l' ++ [q]) ++ [p], r ∈ piecesL) := by
              intro r hr
              rcases List.mem_append.1 hr with h | h
              · exact hpl.out r h
              · rw [List.mem_singleton.1 h]; exact HPM.out
            clear own own2 hg2
            go_wp2
            go_roundw
            case rel => exact ⟨(m + 1) + 1, (l' ++ [q]) ++ [p], (S ++ ⟨#[32]⟩) ++ P, A2, c2, by omega, by simp at hl ⊢; omega, by go_num, rfl, rfl, PLS, GL, by have := GS.out; omega, OWN.out, G2.out⟩
            case measure => simp [intOf]; omega
          · skip
            have pnb48 : decide (48 ≤ P[0].toNat) = true := by simp; omega
            have pib48 : decide ((48 : Int) ≤ (P[0].toNat : Int)) = true := by simp; omega
            have pnb57 : decide (P[0].toNat ≤ 57) = true := by simp; omega
            have pib57 : decide ((P[0].toNat : Int) ≤ (57 : Int)) = true := by simp; omega
            have pnb97 : decide (97 ≤ P[0].toNat) = false := by simp; omega
            have pib97 : decide ((97 : Int) ≤ (P[0].toNat : Int)) = false := by simp; omega
            have pnb122 : decide (P[0].toNat ≤ 122) = true := by simp; omega
            have pib122 : decide ((P[0].toNat : Int) ≤ (122 : Int)) = true := by simp; omega
            have pn61 : decide (P[0].toNat = 61) = false := by simp; omega
            have pi61 : ((P[0].toNat : Int) == 61) = false := by simp; omega
            have NB : Hid (needB (List.getLastD (l' ++ [q]) []) p = true) := by
              show needB _ p = _
              rw [List.getLastD_concat, need_by HQH.out HPH.out, pnb48, pnb57, pnb97, pnb122, pn61, qnb48, qnb57, qnb97, qnb122, HQ61.out]; rfl
            clear qnb48 qnb57 qnb97 qnb122 pnb48 pnb57 pnb97 pnb122 pn61 h1 h2
            obtain ⟨A2, c2, w2, hrun, own2, hg2⟩ := run_append1 (P := Try.prog) W1.heap.size 28 28 9 _ 16 Try.underlying28 el9 (by omega) _ (m + 1) c' _ own (.string P) rfl (by omega) hsz
            have G2 := Lib.hid (hb.grown hg2 hsz (fun q hq => (own.lt q hq).1))
            have OWN : Hid (w2.ownsRow W1.heap.size 9 1 (.slice A2 ((m + 1) + 1) c2) ((m + 1) + 1) (((l' ++ [q]) ++ [p]).map sv)) := by
              show World.ownsRow _ _ _ _ _ _ _
              rw [List.map_append]; show World.ownsRow _ _ _ _ _ _ (_ ++ [sv p])
              show World.ownsRow _ _ _ _ _ _ (_ ++ [Value.string (bsB p)])
              rw [← HPE.out]; exact own2
            have GL : Hid (((S ++ ⟨#[32]⟩) ++ P).data.toList = glue (mItems ((l' ++ [q]) ++ [p]))) := by
              show _ = _
              rw [mItems_snoc, NB.out, app_data, app_data, hS.out, HPE.out, bsB_data]
              simp
            have GS : Hid (((S ++ ⟨#[32]⟩) ++ P).size = S.size + 1 + P.size) := by
              show _ = _
              rw [app_size, app_size]; rfl
            have PLS : Hid (∀ r ∈ (l' ++ [q]) ++ [p], r ∈ piecesL) := by
              intro r hr
              rcases List.mem_append.1 hr with h | h
              · exact hpl.out r h
              · rw [List.mem_singleton.1 h]; exact HPM.out
            clear own own2 hg2
            go_wp2
            go_roundw
            case rel => exact ⟨(m + 1) + 1, (l' ++ [q]) ++ [p], (S ++ ⟨#[32]⟩) ++ P, A2, c2, by omega, by simp at hl ⊢; omega, by go_num, rfl, rfl, PLS, GL, by have := GS.out; omega, OWN.out, G2.out⟩
            case measure => simp [intOf]; omega
          · skip
            have pnb48 : decide (48 ≤ P[0].toNat) = true := by simp; omega
            have pib48 : decide ((48 : Int) ≤ (P[0].toNat : Int)) = true := by simp; omega
            have pnb57 : decide (P[0].toNat ≤ 57) = false := by simp; omega
            have pib57 : decide ((P[0].toNat : Int) ≤ (57 : Int)) = false := by simp; omega
            have pnb97 : decide (97 ≤ P[0].toNat) = false := by simp; omega
            have pib97 : decide ((97 : Int) ≤ (P[0].toNat : Int)) = false := by simp; omega
            have pnb122 : decide (P[0].toNat ≤ 122) = true := by simp; omega
            have pib122 : decide ((P[0].toNat : Int) ≤ (122 : Int)) = true := by simp; omega
            have pn61 : decide (P[0].toNat = 61) = true := by simp; omega
            have pi61 : ((P[0].toNat : Int) == 61) = true := by simp; omega
            have NB : Hid (needB (List.getLastD (l' ++ [q]) []) p = false) := by
              show needB _ p = _
              rw [List.getLastD_concat, need_by HQH.out HPH.out, pnb48, pnb57, pnb97, pnb122, pn61, qnb48, qnb57, qnb97, qnb122, HQ61.out]; rfl
            clear qnb48 qnb57 qnb97 qnb122 pnb48 pnb57 pnb97 pnb122 pn61 h1
            obtain ⟨A2, c2, w2, hrun, own2, hg2⟩ := run_append1 (P := Try.prog) W1.heap.size 28 28 9 _ 16 Try.underlying28 el9 (by omega) _ (m + 1) c' _ own (.string P) rfl (by omega) hsz
            have G2 := Lib.hid (hb.grown hg2 hsz (fun q hq => (own.lt q hq).1))
            have OWN : Hid (w2.ownsRow W1.heap.size 9 1 (.slice A2 ((m + 1) + 1) c2) ((m + 1) + 1) (((l' ++ [q]) ++ [p]).map sv)) := by
              show World.ownsRow _ _ _ _ _ _ _
              rw [List.map_append]; show World.ownsRow _ _ _ _ _ _ (_ ++ [sv p])
              show World.ownsRow _ _ _ _ _ _ (_ ++ [Value.string (bsB p)])
              rw [← HPE.out]; exact own2
            have GL : Hid ((S ++ P).data.toList = glue (mItems ((l' ++ [q]) ++ [p]))) := by
              show _ = _
              rw [mItems_snoc, NB.out, app_data, hS.out, HPE.out, bsB_data]
              simp
            have GS : Hid ((S ++ P).size = S.size + P.size) := by
              show _ = _
              rw [app_size]
            have PLS : Hid (∀ r ∈ (l' ++ [q]) ++ [p], r ∈ piecesL) := by
              intro r hr
              rcases List.mem_append.1 hr with h | h
              · exact hpl.out r h
              · rw [List.mem_singleton.1 h]; exact HPM.out
            clear own own2 hg2
            go_wp2
            go_roundw
            case rel => exact ⟨(m + 1) + 1, (l' ++ [q]) ++ [p], S ++ P, A2, c2, by omega, by simp at hl ⊢; omega, by go_num, rfl, rfl, PLS, GL, by have := GS.out; omega, OWN.out, G2.out⟩
            case measure => simp [intOf]; omega
          · skip
            have pnb48 : decide (48 ≤ P[0].toNat) = true := by simp; omega
            have pib48 : decide ((48 : Int) ≤ (P[0].toNat : Int)) = true := by simp; omega
            have pnb57 : decide (P[0].toNat ≤ 57) = false := by simp; omega
            have pib57 : decide ((P[0].toNat : Int) ≤ (57 : Int)) = false := by simp; omega
            have pnb97 : decide (97 ≤ P[0].toNat) = false := by simp; omega
            have pib97 : decide ((97 : Int) ≤ (P[0].toNat : Int)) = false := by simp; omega
            have pnb122 : decide (P[0].toNat ≤ 122) = true := by simp; omega
            have pib122 : decide ((P[0].toNat : Int) ≤ (122 : Int)) = true := by simp; omega
            have pn61 : decide (P[0].toNat = 61) = false := by simp; omega
            have pi61 : ((P[0].toNat : Int) == 61) = false := by simp; omega
            have NB : Hid (needB (List.getLastD (l' ++ [q]) []) p = false) := by
              show needB _ p = _
              rw [List.getLastD_concat, need_by HQH.out HPH.out, pnb48, pnb57, pnb97, pnb122, pn61, qnb48, qnb57, qnb97, qnb122, HQ61.out]; rfl
            clear qnb48 qnb57 qnb97 qnb122 pnb48 pnb57 pnb97 pnb122 pn61 h1
            obtain ⟨A2, c2, w2, hrun, own2, hg2⟩ := run_append1 (P := Try.prog) W1.heap.size 28 28 9 _ 16 Try.underlying28 el9 (by omega) _ (m + 1) c' _ own (.string P) rfl (by omega) hsz
            have G2 := Lib.hid (hb.grown hg2 hsz (fun q hq => (own.lt q hq).1))
            have OWN : Hid (w2.ownsRow W1.heap.size 9 1 (.slice A2 ((m + 1) + 1) c2) ((m + 1) + 1) (((l' ++ [q]) ++ [p]).map sv)) := by
              show World.ownsRow _ _ _ _ _ _ _
              rw [List.map_append]; show World.ownsRow _ _ _ _ _ _ (_ ++ [sv p])
              show World.ownsRow _ _ _ _ _ _ (_ ++ [Value.string (bsB p)])
              rw [← HPE.out]; exact own2
            have GL : Hid ((S ++ P).data.toList = glue (mItems ((l' ++ [q]) ++ [p]))) := by
              show _ = _
              rw [mItems_snoc, NB.out, app_data, hS.out, HPE.out, bsB_data]
              simp
            have GS : Hid ((S ++ P).size = S.size + P.size) := by
              show _ = _
              rw [app_size]
            have PLS : Hid (∀ r ∈ (l' ++ [q]) ++ [p], r ∈ piecesL) := by
              intro r hr
              rcases List.mem_append.1 hr with h | h
              · exact hpl.out r h
              · rw [List.mem_singleton.1 h]; exact HPM.out
            clear own own2 hg2
            go_wp2
            go_roundw
            case rel => exact ⟨(m + 1) + 1, (l' ++ [q]) ++ [p], S ++ P, A2, c2, by omega, by simp at hl ⊢; omega, by go_num, rfl, rfl, PLS, GL, by have := GS.out; omega, OWN.out, G2.out⟩
            case measure => simp [intOf]; omega
          · skip
            have pnb48 : decide (48 ≤ P[0].toNat) = false := by simp; omega
            have pib48 : decide ((48 : Int) ≤ (P[0].toNat : Int)) = false := by simp; omega
            have pnb57 : decide (P[0].toNat ≤ 57) = true := by simp; omega
            have pib57 : decide ((P[0].toNat : Int) ≤ (57 : Int)) = true := by simp; omega
            have pnb97 : decide (97 ≤ P[0].toNat) = false := by simp; omega
            have pib97 : decide ((97 : Int) ≤ (P[0].toNat : Int)) = false := by simp; omega
            have pnb122 : decide (P[0].toNat ≤ 122) = true := by simp; omega
            have pib122 : decide ((P[0].toNat : Int) ≤ (122 : Int)) = true := by simp; omega
            have pn61 : decide (P[0].toNat = 61) = false := by simp; omega
            have pi61 : ((P[0].toNat : Int) == 61) = false := by simp; omega
            have NB : Hid (needB (List.getLastD (l' ++ [q]) []) p = false) := by
              show needB _ p = _
              rw [List.getLastD_concat, need_by HQH.out HPH.out, pnb48, pnb57, pnb97, pnb122, pn61, qnb48, qnb57, qnb97, qnb122, HQ61.out]; rfl
            clear qnb48 qnb57 qnb97 qnb122 pnb48 pnb57 pnb97 pnb122 pn61 h1
            obtain ⟨A2, c2, w2, hrun, own2, hg2⟩ := run_append1 (P := Try.prog) W1.heap.size 28 28 9 _ 16 Try.underlying28 el9 (by omega) _ (m + 1) c' _ own (.string P) rfl (by omega) hsz
            have G2 := Lib.hid (hb.grown hg2 hsz (fun q hq => (own.lt q hq).1))
            have OWN : Hid (w2.ownsRow W1.heap.size 9 1 (.slice A2 ((m + 1) + 1) c2) ((m + 1) + 1) (((l' ++ [q]) ++ [p]).map sv)) := by
              show World.ownsRow _ _ _ _ _ _ _
              rw [List.map_append]; show World.ownsRow _ _ _ _ _ _ (_ ++ [sv p])
              show World.ownsRow _ _ _ _ _ _ (_ ++ [Value.string (bsB p)])
              rw [← HPE.out]; exact own2
            have GL : Hid ((S ++ P).data.toList = glue (mItems ((l' ++ [q]) ++ [p]))) := by
              show _ = _
              rw [mItems_snoc, NB.out, app_data, hS.out, HPE.out, bsB_data]
              simp
            have GS : Hid ((S ++ P).size = S.size + P.size) := by
              show _ = _
              rw [app_size]
            have PLS : Hid (∀ r ∈ (l' ++ [q]) ++ [p], r ∈ piecesL) := by
              intro r hr
              rcases List.mem_append.1 hr with h | h
              · exact hpl.out r h
              · rw [List.mem_singleton.1 h]; exact HPM.out
            clear own own2 hg2
            go_wp2
            go_roundw
            case rel => exact ⟨(m + 1) + 1, (l' ++ [q]) ++ [p], S ++ P, A2, c2, by omega, by simp at hl ⊢; omega, by go_num, rfl, rfl, PLS, GL, by have := GS.out; omega, OWN.out, G2.out⟩
            case measure => simp [intOf]; omega
        · have q61 : (q == [61]) = false := by first | (rw [k3]; rfl) | (simpa using k3)
          have HQ61 := Lib.hid q61
          rw [q61] at hQ61
          clear q61 k3
          have qnb48 : decide (48 ≤ Q[0].toNat) = true := by simp; omega
          have qib48 : decide ((48 : Int) ≤ (Q[0].toNat : Int)) = true := by simp; omega
          have qnb57 : decide (Q[0].toNat ≤ 57) = true := by simp; omega
          have qib57 : decide ((Q[0].toNat : Int) ≤ (57 : Int)) = true := by simp; omega
          have qnb97 : decide (97 ≤ Q[0].toNat) = false := by simp; omega
          have qib97 : decide ((97 : Int) ≤ (Q[0].toNat : Int)) = false := by simp; omega
          have qnb122 : decide (Q[0].toNat ≤ 122) = true := by simp; omega
          have qib122 : decide ((Q[0].toNat : Int) ≤ (122 : Int)) = true := by simp; omega
          have qn61 : decide (Q[0].toNat = 61) = false := by simp; omega
          have qi61 : ((Q[0].toNat : Int) == 61) = false := by simp; omega
          clear qn61 qi61 k1 k2
          rcases hcls with ⟨h1, h2⟩ | ⟨h1, h2⟩ | h1 | h1 | h1
          · skip
            have pnb48 : decide (48 ≤ P[0].toNat) = true := by simp; omega
            have pib48 : decide ((48 : Int) ≤ (P[0].toNat : Int)) = true := by simp; omega
            have pnb57 : decide (P[0].toNat ≤ 57) = false := by simp; omega
            have pib57 : decide ((P[0].toNat : Int) ≤ (57 : Int)) = false := by simp; omega
            have pnb97 : decide (97 ≤ P[0].toNat) = true := by simp; omega
            have pib97 : decide ((97 : Int) ≤ (P[0].toNat : Int)) = true := by simp; omega
            have pnb122 : decide (P[0].toNat ≤ 122) = true := by simp; omega
            have pib122 : decide ((P[0].toNat : Int) ≤ (122 : Int)) = true := by simp; omega
            have pn61 : decide (P[0].toNat = 61) = false := by simp; omega
            have pi61 : ((P[0].toNat : Int) == 61) = false := by simp; omega
            have NB : Hid (needB (List.getLastD (l' ++ [q]) []) p = false) := by
              show needB _ p = _
              rw [List.getLastD_concat, need_by HQH.out HPH.out, pnb48, pnb57, pnb97, pnb122, pn61, qnb48, qnb57, qnb97, qnb122, HQ61.out]; rfl
            clear qnb48 qnb57 qnb97 qnb122 pnb48 pnb57 pnb97 pnb122 pn61 h1 h2
            obtain ⟨A2, c2, w2, hrun, own2, hg2⟩ := run_append1 (P := Try.prog) W1.heap.size 28 28 9 _ 16 Try.underlying28 el9 (by omega) _ (m + 1) c' _ own (.string P) rfl (by omega) hsz
            have G2 := Lib.hid (hb.grown hg2 hsz (fun q hq => (own.lt q hq).1))
            have OWN : Hid (w2.ownsRow W1.heap.size 9 1 (.slice A2 ((m + 1) + 1) c2) ((m + 1) + 1) (((l' ++ [q]) ++ [p]).map sv)) := by
              show World.ownsRow _ _ _ _ _ _ _
              rw [List.map_append]; show World.ownsRow _ _ _ _ _ _ (_ ++ [sv p])
              show World.ownsRow _ _ _ _ _ _ (_ ++ [Value.string (bsB p)])
              rw [← HPE.out]; exact own2
            have GL : Hid ((S ++ P).data.toList = glue (mItems ((l' ++ [q]) ++ [p]))) := by
              show _ = _
              rw [mItems_snoc, NB.out, app_data, hS.out, HPE.out, bsB_data]
              simp
            have GS : Hid ((S ++ P).size = S.size + P.size) := by
              show _ = _
              rw [app_size]
            have PLS : Hid (∀ r ∈ (l' ++ [q]) ++ [p], r ∈ piecesL) := by
              intro r hr
              rcases List.mem_append.1 hr with h | h
              · exact hpl.out r h
              · rw [List.mem_singleton.1 h]; exact HPM.out
            clear own own2 hg2
            go_wp2
            go_roundw
            case rel => exact ⟨(m + 1) + 1, (l' ++ [q]) ++ [p], S ++ P, A2, c2, by omega, by simp at hl ⊢; omega, by go_num, rfl, rfl, PLS, GL, by have := GS.out; omega, OWN.out, G2.out⟩
            case measure => simp [intOf]; omega
          · skip
            have pnb48 : decide (48 ≤ P[0].toNat) = true := by simp; omega
            have pib48 : decide ((48 : Int) ≤ (P[0].toNat : Int)) = true := by simp; omega
            have pnb57 : decide (P[0].toNat ≤ 57) = true := by simp; omega
            have pib57 : decide ((P[0].toNat : Int) ≤ (57 : Int)) = true := by simp; omega
            have pnb97 : decide (97 ≤ P[0].toNat) = false := by simp; omega
            have pib97 : decide ((97 : Int) ≤ (P[0].toNat : Int)) = false := by simp; omega
            have pnb122 : decide (P[0].toNat ≤ 122) = true := by simp; omega
            have pib122 : decide ((P[0].toNat : Int) ≤ (122 : Int)) = true := by simp; omega
            have pn61 : decide (P[0].toNat = 61) = false := by simp; omega
            have pi61 : ((P[0].toNat : Int) == 61) = false := by simp; omega
            have NB : Hid (needB (List.getLastD (l' ++ [q]) []) p = true) := by
              show needB _ p = _
              rw [List.getLastD_concat, need_by HQH.out HPH.out, pnb48, pnb57, pnb97, pnb122, pn61, qnb48, qnb57, qnb97, qnb122, HQ61.out]; rfl
            clear qnb48 qnb57 qnb97 qnb122 pnb48 pnb57 pnb97 pnb122 pn61 h1 h2
            obtain ⟨A2, c2, w2, hrun, own2, hg2⟩ := run_append1 (P := Try.prog) W1.heap.size 28 28 9 _ 16 Try.underlying28 el9 (by omega) _ (m + 1) c' _ own (.string P) rfl (by omega) hsz
            have G2 := Lib.hid (hb.grown hg2 hsz (fun q hq => (own.lt q hq).1))
            have OWN : Hid (w2.ownsRow W1.heap.size 9 1 (.slice A2 ((m + 1) + 1) c2) ((m + 1) + 1) (((l' ++ [q]) ++ [p]).map sv)) := by
              show World.ownsRow _ _ _ _ _ _ _
              rw [List.map_append]; show World.ownsRow _ _ _ _ _ _ (_ ++ [sv p])
              show World.ownsRow _ _ _ _ _ _ (_ ++ [Value.string (bsB p)])
              rw [← HPE.out]; exact own2
            have GL : Hid (((S ++ ⟨#[32]⟩) ++ P).data.toList = glue (mItems ((l' ++ [q]) ++ [p]))) := by
              show _ = _
              rw [mItems_snoc, NB.out, app_data, app_data, hS.out, HPE.out, bsB_data]
              simp
            have GS : Hid (((S ++ ⟨#[32]⟩) ++ P).size = S.size + 1 + P.size) := by
              show _ = _
              rw [app_size, app_size]; rfl
            have PLS : Hid (∀ r ∈ (l' ++ [q]) ++ [p], r ∈ piecesL) := by
              intro r hr
              rcases List.mem_append.1 hr with h | h
              · exact hpl.out r h
              · rw [List.mem_singleton.1 h]; exact HPM.out
            clear own own2 hg2
            go_wp2
            go_roundw
            case rel => exact ⟨(m + 1) + 1, (l' ++ [q]) ++ [p], (S ++ ⟨#[32]⟩) ++ P, A2, c2, by omega, by simp at hl ⊢; omega, by go_num, rfl, rfl, PLS, GL, by have := GS.out; omega, OWN.out, G2.out⟩
            case measure => simp [intOf]; omega
          · skip
            have pnb48 : decide (48 ≤ P[0].toNat) = true := by simp; omega
            have pib48 : decide ((48 : Int) ≤ (P[0].toNat : Int)) = true := by simp; omega
            have pnb57 : decide (P[0].toNat ≤ 57) = false := by simp; omega
            have pib57 : decide ((P[0].toNat : Int) ≤ (57 : Int)) = false := by simp; omega
            have pnb97 : decide (97 ≤ P[0].toNat) = false := by simp; omega
            have pib97 : decide ((97 : Int) ≤ (P[0].toNat : Int)) = false := by simp; omega
            have pnb122 : decide (P[0].toNat ≤ 122) = true := by simp; omega
            have pib122 : decide ((P[0].toNat : Int) ≤ (122 : Int)) = true := by simp; omega
            have pn61 : decide (P[0].toNat = 61) = true := by simp; omega
            have pi61 : ((P[0].toNat : Int) == 61) = true := by simp; omega
            have NB : Hid (needB (List.getLastD (l' ++ [q]) []) p = false) := by
              show needB _ p = _
              rw [List.getLastD_concat, need_by HQH.out HPH.out, pnb48, pnb57, pnb97, pnb122, pn61, qnb48, qnb57, qnb97, qnb122, HQ61.out]; rfl
            clear qnb48 qnb57 qnb97 qnb122 pnb48 pnb57 pnb97 pnb122 pn61 h1
            obtain ⟨A2, c2, w2, hrun, own2, hg2⟩ := run_append1 (P := Try.prog) W1.heap.size 28 28 9 _ 16 Try.underlying28 el9 (by omega) _ (m + 1) c' _ own (.string P) rfl (by omega) hsz
            have G2 := Lib.hid (hb.grown hg2 hsz (fun q hq => (own.lt q hq).1))
            have OWN : Hid (w2.ownsRow W1.heap.size 9 1 (.slice A2 ((m + 1) + 1) c2) ((m + 1) + 1) (((l' ++ [q]) ++ [p]).map sv)) := by
              show World.ownsRow _ _ _ _ _ _ _
              rw [List.map_append]; show World.ownsRow _ _ _ _ _ _ (_ ++ [sv p])
              show World.ownsRow _ _ _ _ _ _ (_ ++ [Value.string (bsB p)])
              rw [← HPE.out]; exact own2
            have GL : Hid ((S ++ P).data.toList = glue (mItems ((l' ++ [q]) ++ [p]))) := by
              show _ = _
              rw [mItems_snoc, NB.out, app_data, hS.out, HPE.out, bsB_data]
              simp
            have GS : Hid ((S ++ P).size = S.size + P.size) := by
              show _ = _
              rw [app_size]
            have PLS : Hid (∀ r ∈ (l' ++ [q]) ++ [p], r ∈ piecesL) := by
              intro r hr
              rcases List.mem_append.1 hr with h | h
              · exact hpl.out r h
              · rw [List.mem_singleton.1 h]; exact HPM.out
            clear own own2 hg2
            go_wp2
            go_roundw
            case rel => exact ⟨(m + 1) + 1, (l' ++ [q]) ++ [p], S ++ P, A2, c2, by omega, by simp at hl ⊢; omega, by go_num, rfl, rfl, PLS, GL, by have := GS.out; omega, OWN.out, G2.out⟩
            case measure => simp [intOf]; omega
          · skip
            have pnb48 : decide (48 ≤ P[0].toNat) = true := by simp; omega
            have pib48 : decide ((48 : Int) ≤ (P[0].toNat : Int)) = true := by simp; omega
            have pnb57 : decide (P[0].toNat ≤ 57) = false := by simp; omega
            have pib57 : decide ((P[0].toNat : Int) ≤ (57 : Int)) = false := by simp; omega
            have pnb97 : decide (97 ≤ P[0].toNat) = false := by simp; omega
            have pib97 : decide ((97 : Int) ≤ (P[0].toNat : Int)) = false := by simp; omega
            have pnb122 : decide (P[0].toNat ≤ 122) = true := by simp; omega
            have pib122 : decide ((P[0].toNat : Int) ≤ (122 : Int)) = true := by simp; omega
            have pn61 : decide (P[0].toNat = 61) = false := by simp; omega
            have pi61 : ((P[0].toNat : Int) == 61) = false := by simp; omega
            have NB : Hid (needB (List.getLastD (l' ++ [q]) []) p = false) := by
              show needB _ p = _
              rw [List.getLastD_concat, need_by HQH.out HPH.out, pnb48, pnb57, pnb97, pnb122, pn61, qnb48, qnb57, qnb97, qnb122, HQ61.out]; rfl
            clear qnb48 qnb57 qnb97 qnb122 pnb48 pnb57 pnb97 pnb122 pn61 h1
            obtain ⟨A2, c2, w2, hrun, own2, hg2⟩ := run_append1 (P := Try.prog) W1.heap.size 28 28 9 _ 16 Try.underlying28 el9 (by omega) _ (m + 1) c' _ own (.string P) rfl (by omega) hsz
            have G2 := Lib.hid (hb.grown hg2 hsz (fun q hq => (own.lt q hq).1))
            have OWN : Hid (w2.ownsRow W1.heap.size 9 1 (.slice A2 ((m + 1) + 1) c2) ((m + 1) + 1) (((l' ++ [q]) ++ [p]).map sv)) := by
              show World.ownsRow _ _ _ _ _ _ _
              rw [List.map_append]; show World.ownsRow _ _ _ _ _ _ (_ ++ [sv p])
              show World.ownsRow _ _ _ _ _ _ (_ ++ [Value.string (bsB p)])
              rw [← HPE.out]; exact own2
            have GL : Hid ((S ++ P).data.toList = glue (mItems ((l' ++ [q]) ++ [p]))) := by
              show _ = _
              rw [mItems_snoc, NB.out, app_data, hS.out, HPE.out, bsB_data]
              simp
            have GS : Hid ((S ++ P).size = S.size + P.size) := by
              show _ = _
              rw [app_size]
            have PLS : Hid (∀ r ∈ (l' ++ [q]) ++ [p], r ∈ piecesL) := by
              intro r hr
              rcases List.mem_append.1 hr with h | h
              · exact hpl.out r h
              · rw [List.mem_singleton.1 h]; exact HPM.out
            clear own own2 hg2
            go_wp2
            go_roundw
            case rel => exact ⟨(m + 1) + 1, (l' ++ [q]) ++ [p], S ++ P, A2, c2, by omega, by simp at hl ⊢; omega, by go_num, rfl, rfl, PLS, GL, by have := GS.out; omega, OWN.out, G2.out⟩
            case measure => simp [intOf]; omega
          · skip
            have pnb48 : decide (48 ≤ P[0].toNat) = false := by simp; omega
            have pib48 : decide ((48 : Int) ≤ (P[0].toNat : Int)) = false := by simp; omega
            have pnb57 : decide (P[0].toNat ≤ 57) = true := by simp; omega
            have pib57 : decide ((P[0].toNat : Int) ≤ (57 : Int)) = true := by simp; omega
            have pnb97 : decide (97 ≤ P[0].toNat) = false := by simp; omega
            have pib97 : decide ((97 : Int) ≤ (P[0].toNat : Int)) = false := by simp; omega
            have pnb122 : decide (P[0].toNat ≤ 122) = true := by simp; omega
            have pib122 : decide ((P[0].toNat : Int) ≤ (122 : Int)) = true := by simp; omega
            have pn61 : decide (P[0].toNat = 61) = false := by simp; omega
            have pi61 : ((P[0].toNat : Int) == 61) = false := by simp; omega
            have NB : Hid (needB (List.getLastD (l' ++ [q]) []) p = false) := by
              show needB _ p = _
              rw [List.getLastD_concat, need_by HQH.out HPH.out, pnb48, pnb57, pnb97, pnb122, pn61, qnb48, qnb57, qnb97, qnb122, HQ61.out]; rfl
            clear qnb48 qnb57 qnb97 qnb122 pnb48 pnb57 pnb97 pnb122 pn61 h1
            obtain ⟨A2, c2, w2, hrun, own2, hg2⟩ := run_append1 (P := Try.prog) W1.heap.size 28 28 9 _ 16 Try.underlying28 el9 (by omega) _ (m + 1) c' _ own (.string P) rfl (by omega) hsz
            have G2 := Lib.hid (hb.grown hg2 hsz (fun q hq => (own.lt q hq).1))
            have OWN : Hid (w2.ownsRow W1.heap.size 9 1 (.slice A2 ((m + 1) + 1) c2) ((m + 1) + 1) (((l' ++ [q]) ++ [p]).map sv)) := by
              show World.ownsRow _ _ _ _ _ _ _
              rw [List.map_append]; show World.ownsRow _ _ _ _ _ _ (_ ++ [sv p])
              show World.ownsRow _ _ _ _ _ _ (_ ++ [Value.string (bsB p)])
              rw [← HPE.out]; exact own2
            have GL : Hid ((S ++ P).data.toList = glue (mItems ((l' ++ [q]) ++ [p]))) := by
              show _ = _
              rw [mItems_snoc, NB.out, app_data, hS.out, HPE.out, bsB_data]
              simp
            have GS : Hid ((S ++ P).size = S.size + P.size) := by
              show _ = _
              rw [app_size]
            have PLS : Hid (∀ r ∈ (l' ++ [q]) ++ [p], r ∈ piecesL) := by
              intro r hr
              rcases List.mem_append.1 hr with h | h
              · exact hpl.out r h
              · rw [List.mem_singleton.1 h]; exact HPM.out
            clear own own2 hg2
            go_wp2
            go_roundw
            case rel => exact ⟨(m + 1) + 1, (l' ++ [q]) ++ [p], S ++ P, A2, c2, by omega, by simp at hl ⊢; omega, by go_num, rfl, rfl, PLS, GL, by have := GS.out; omega, OWN.out, G2.out⟩
            case measure => simp [intOf]; omega
        · have q61 : (q == [61]) = true := by first | (rw [k3]; rfl) | (simpa using k3)
          have HQ61 := Lib.hid q61
          rw [q61] at hQ61
          clear q61 k3
          have qnb48 : decide (48 ≤ Q[0].toNat) = true := by simp; omega
          have qib48 : decide ((48 : Int) ≤ (Q[0].toNat : Int)) = true := by simp; omega
          have qnb57 : decide (Q[0].toNat ≤ 57) = false := by simp; omega
          have qib57 : decide ((Q[0].toNat : Int) ≤ (57 : Int)) = false := by simp; omega
          have qnb97 : decide (97 ≤ Q[0].toNat) = false := by simp; omega
          have qib97 : decide ((97 : Int) ≤ (Q[0].toNat : Int)) = false := by simp; omega
          have qnb122 : decide (Q[0].toNat ≤ 122) = true := by simp; omega
          have qib122 : decide ((Q[0].toNat : Int) ≤ (122 : Int)) = true := by simp; omega
          have qn61 : decide (Q[0].toNat = 61) = true := by simp; omega
          have qi61 : ((Q[0].toNat : Int) == 61) = true := by simp; omega
          clear qn61 qi61 k1
          rcases hcls with ⟨h1, h2⟩ | ⟨h1, h2⟩ | h1 | h1 | h1
          · skip
            have pnb48 : decide (48 ≤ P[0].toNat) = true := by simp; omega
            have pib48 : decide ((48 : Int) ≤ (P[0].toNat : Int)) = true := by simp; omega
            have pnb57 : decide (P[0].toNat ≤ 57) = false := by simp; omega
            have pib57 : decide ((P[0].toNat : Int) ≤ (57 : Int)) = false := by simp; omega
            have pnb97 : decide (97 ≤ P[0].toNat) = true := by simp; omega
            have pib97 : decide ((97 : Int) ≤ (P[0].toNat : Int)) = true := by simp; omega
            have pnb122 : decide (P[0].toNat ≤ 122) = true := by simp; omega
            have pib122 : decide ((P[0].toNat : Int) ≤ (122 : Int)) = true := by simp; omega
            have pn61 : decide (P[0].toNat = 61) = false := by simp; omega
            have pi61 : ((P[0].toNat : Int) == 61) = false := by simp; omega
            have NB : Hid (needB (List.getLastD (l' ++ [q]) []) p = false) := by
              show needB _ p = _
              rw [List.getLastD_concat, need_by HQH.out HPH.out, pnb48, pnb57, pnb97, pnb122, pn61, qnb48, qnb57, qnb97, qnb122, HQ61.out]; rfl
            clear qnb48 qnb57 qnb97 qnb122 pnb48 pnb57 pnb97 pnb122 pn61 h1 h2
            obtain ⟨A2, c2, w2, hrun, own2, hg2⟩ := run_append1 (P := Try.prog) W1.heap.size 28 28 9 _ 16 Try.underlying28 el9 (by omega) _ (m + 1) c' _ own (.string P) rfl (by omega) hsz
            have G2 := Lib.hid (hb.grown hg2 hsz (fun q hq => (own.lt q hq).1))
            have OWN : Hid (w2.ownsRow W1.heap.size 9 1 (.slice A2 ((m + 1) + 1) c2) ((m + 1) + 1) (((l' ++ [q]) ++ [p]).map sv)) := by
              show World.ownsRow _ _ _ _ _ _ _
              rw [List.map_append]; show World.ownsRow _ _ _ _ _ _ (_ ++ [sv p])
              show World.ownsRow _ _ _ _ _ _ (_ ++ [Value.string (bsB p)])
              rw [← HPE.out]; exact own2
            have GL : Hid ((S ++ P).data.toList = glue (mItems ((l' ++ [q]) ++ [p]))) := by
              show _ = _
              rw [mItems_snoc, NB.out, app_data, hS.out, HPE.out, bsB_data]
              simp
            have GS : Hid ((S ++ P).size = S.size + P.size) := by
              show _ = _
              rw [app_size]
            have PLS : Hid (∀ r ∈ (l' ++ [q]) ++ [p], r ∈ piecesL) := by
              intro r hr
              rcases List.mem_append.1 hr with h | h
              · exact hpl.out r h
              · rw [List.mem_singleton.1 h]; exact HPM.out
            clear own own2 hg2
            go_wp2
            go_roundw
            case rel => exact ⟨(m + 1) + 1, (l' ++ [q]) ++ [p], S ++ P, A2, c2, by omega, by simp at hl ⊢; omega, by go_num, rfl, rfl, PLS, GL, by have := GS.out; omega, OWN.out, G2.out⟩
            case measure => simp [intOf]; omega
          · skip
            have pnb48 : decide (48 ≤ P[0].toNat) = true := by simp; omega
            have pib48 : decide ((48 : Int) ≤ (P[0].toNat : Int)) = true := by simp; omega
            have pnb57 : decide (P[0].toNat ≤ 57) = true := by simp; omega
            have pib57 : decide ((P[0].toNat : Int) ≤ (57 : Int)) = true := by simp; omega
            have pnb97 : decide (97 ≤ P[0].toNat) = false := by simp; omega
            have pib97 : decide ((97 : Int) ≤ (P[0].toNat : Int)) = false := by simp; omega
            have pnb122 : decide (P[0].toNat ≤ 122) = true := by simp; omega
            have pib122 : decide ((P[0].toNat : Int) ≤ (122 : Int)) = true := by simp; omega
            have pn61 : decide (P[0].toNat = 61) = false := by simp; omega
            have pi61 : ((P[0].toNat : Int) == 61) = false := by simp; omega
            have NB : Hid (needB (List.getLastD (l' ++ [q]) []) p = false) := by
              show needB _ p = _
              rw [List.getLastD_concat, need_by HQH.out HPH.out, pnb48, pnb57, pnb97, pnb122, pn61, qnb48, qnb57, qnb97, qnb122, HQ61.out]; rfl
            clear qnb48 qnb57 qnb97 qnb122 pnb48 pnb57 pnb97 pnb122 pn61 h1 h2
            obtain ⟨A2, c2, w2, hrun, own2, hg2⟩ := run_append1 (P := Try.prog) W1.heap.size 28 28 9 _ 16 Try.underlying28 el9 (by omega) _ (m + 1) c' _ own (.string P) rfl (by omega) hsz
            have G2 := Lib.hid (hb.grown hg2 hsz (fun q hq => (own.lt q hq).1))
            have OWN : Hid (w2.ownsRow W1.heap.size 9 1 (.slice A2 ((m + 1) + 1) c2) ((m + 1) + 1) (((l' ++ [q]) ++ [p]).map sv)) := by
              show World.ownsRow _ _ _ _ _ _ _
              rw [List.map_append]; show World.ownsRow _ _ _ _ _ _ (_ ++ [sv p])
              show World.ownsRow _ _ _ _ _ _ (_ ++ [Value.string (bsB p)])
              rw [← HPE.out]; exact own2
            have GL : Hid ((S ++ P).data.toList = glue (mItems ((l' ++ [q]) ++ [p]))) := by
              show _ = _
              rw [mItems_snoc, NB.out, app_data, hS.out, HPE.out, bsB_data]
              simp
            have GS : Hid ((S ++ P).size = S.size + P.size) := by
              show _ = _
              rw [app_size]
            have PLS : Hid (∀ r ∈ (l' ++ [q]) ++ [p], r ∈ piecesL) := by
              intro r hr
              rcases List.mem_append.1 hr with h | h
              · exact hpl.out r h
              · rw [List.mem_singleton.1 h]; exact HPM.out
            clear own own2 hg2
            go_wp2
            go_roundw
            case rel => exact ⟨(m + 1) + 1, (l' ++ [q]) ++ [p], S ++ P, A2, c2, by omega, by simp at hl ⊢; omega, by go_num, rfl, rfl, PLS, GL, by have := GS.out; omega, OWN.out, G2.out⟩
            case measure => simp [intOf]; omega
          · skip
            have pnb48 : decide (48 ≤ P[0].toNat) = true := by simp; omega
            have pib48 : decide ((48 : Int) ≤ (P[0].toNat : Int)) = true := by simp; omega
            have pnb57 : decide (P[0].toNat ≤ 57) = false := by simp; omega
            have pib57 : decide ((P[0].toNat : Int) ≤ (57 : Int)) = false := by simp; omega
            have pnb97 : decide (97 ≤ P[0].toNat) = false := by simp; omega
            have pib97 : decide ((97 : Int) ≤ (P[0].toNat : Int)) = false := by simp; omega
            have pnb122 : decide (P[0].toNat ≤ 122) = true := by simp; omega
            have pib122 : decide ((P[0].toNat : Int) ≤ (122 : Int)) = true := by simp; omega
            have pn61 : decide (P[0].toNat = 61) = true := by simp; omega
            have pi61 : ((P[0].toNat : Int) == 61) = true := by simp; omega
            have NB : Hid (needB (List.getLastD (l' ++ [q]) []) p = true) := by
              show needB _ p = _
              rw [List.getLastD_concat, need_by HQH.out HPH.out, pnb48, pnb57, pnb97, pnb122, pn61, qnb48, qnb57, qnb97, qnb122, HQ61.out]; rfl
            clear qnb48 qnb57 qnb97 qnb122 pnb48 pnb57 pnb97 pnb122 pn61 h1
            obtain ⟨A2, c2, w2, hrun, own2, hg2⟩ := run_append1 (P := Try.prog) W1.heap.size 28 28 9 _ 16 Try.underlying28 el9 (by omega) _ (m + 1) c' _ own (.string P) rfl (by omega) hsz
            have G2 := Lib.hid (hb.grown hg2 hsz (fun q hq => (own.lt q hq).1))
            have OWN : Hid (w2.ownsRow W1.heap.size 9 1 (.slice A2 ((m + 1) + 1) c2) ((m + 1) + 1) (((l' ++ [q]) ++ [p]).map sv)) := by
              show World.ownsRow _ _ _ _ _ _ _
              rw [List.map_append]; show World.ownsRow _ _ _ _ _ _ (_ ++ [sv p])
              show World.ownsRow _ _ _ _ _ _ (_ ++ [Value.string (bsB p)])
              rw [← HPE.out]; exact own2
            have GL : Hid (((S ++ ⟨#[32]⟩) ++ P).data.toList = glue (mItems ((l' ++ [q]) ++ [p]))) := by
              show _ = _
              rw [mItems_snoc, NB.out, app_data, app_data, hS.out, HPE.out, bsB_data]
              simp
            have GS : Hid (((S ++ ⟨#[32]⟩) ++ P).size = S.size + 1 + P.size) := by
              show _ = _
              rw [app_size, app_size]; rfl
            have PLS : Hid (∀ r ∈ (l' ++ [q]) ++ [p], r ∈ piecesL) := by
              intro r hr
              rcases List.mem_append.1 hr with h | h
              · exact hpl.out r h
              · rw [List.mem_singleton.1 h]; exact HPM.out
            clear own own2 hg2
            go_wp2
            go_roundw
            case rel => exact ⟨(m + 1) + 1, (l' ++ [q]) ++ [p], (S ++ ⟨#[32]⟩) ++ P, A2, c2, by omega, by simp at hl ⊢; omega, by go_num, rfl, rfl, PLS, GL, by have := GS.out; omega, OWN.out, G2.out⟩
            case measure => simp [intOf]; omega
          · skip
            have pnb48 : decide (48 ≤ P[0].toNat) = true := by simp; omega
            have pib48 : decide ((48 : Int) ≤ (P[0].toNat : Int)) = true := by simp; omega
            have pnb57 : decide (P[0].toNat ≤ 57) = false := by simp; omega
            have pib57 : decide ((P[0].toNat : Int) ≤ (57 : Int)) = false := by simp; omega
            have pnb97 : decide (97 ≤ P[0].toNat) = false := by simp; omega
            have pib97 : decide ((97 : Int) ≤ (P[0].toNat : Int)) = false := by simp; omega
            have pnb122 : decide (P[0].toNat ≤ 122) = true := by simp; omega
            have pib122 : decide ((P[0].toNat : Int) ≤ (122 : Int)) = true := by simp; omega
            have pn61 : decide (P[0].toNat = 61) = false := by simp; omega
            have pi61 : ((P[0].toNat : Int) == 61) = false := by simp; omega
            have NB : Hid (needB (List.getLastD (l' ++ [q]) []) p = false) := by
              show needB _ p = _
              rw [List.getLastD_concat, need_by HQH.out HPH.out, pnb48, pnb57, pnb97, pnb122, pn61, qnb48, qnb57, qnb97, qnb122, HQ61.out]; rfl
            clear qnb48 qnb57 qnb97 qnb122 pnb48 pnb57 pnb97 pnb122 pn61 h1
            obtain ⟨A2, c2, w2, hrun, own2, hg2⟩ := run_append1 (P := Try.prog) W1.heap.size 28 28 9 _ 16 Try.underlying28 el9 (by omega) _ (m + 1) c' _ own (.string P) rfl (by omega) hsz
            have G2 := Lib.hid (hb.grown hg2 hsz (fun q hq => (own.lt q hq).1))
            have OWN : Hid (w2.ownsRow W1.heap.size 9 1 (.slice A2 ((m + 1) + 1) c2) ((m + 1) + 1) (((l' ++ [q]) ++ [p]).map sv)) := by
              show World.ownsRow _ _ _ _ _ _ _
              rw [List.map_append]; show World.ownsRow _ _ _ _ _ _ (_ ++ [sv p])
              show World.ownsRow _ _ _ _ _ _ (_ ++ [Value.string (bsB p)])
              rw [← HPE.out]; exact own2
            have GL : Hid ((S ++ P).data.toList = glue (mItems ((l' ++ [q]) ++ [p]))) := by
              show _ = _
              rw [mItems_snoc, NB.out, app_data, hS.out, HPE.out, bsB_data]
              simp
            have GS : Hid ((S ++ P).size = S.size + P.size) := by
              show _ = _
              rw [app_size]
            have PLS : Hid (∀ r ∈ (l' ++ [q]) ++ [p], r ∈ piecesL) := by
              intro r hr
              rcases List.mem_append.1 hr with h | h
              · exact hpl.out r h
              · rw [List.mem_singleton.1 h]; exact HPM.out
            clear own own2 hg2
            go_wp2
            go_roundw
            case rel => exact ⟨(m + 1) + 1, (l' ++ [q]) ++ [p], S ++ P, A2, c2, by omega, by simp at hl ⊢; omega, by go_num, rfl, rfl, PLS, GL, by have := GS.out; omega, OWN.out, G2.out⟩
            case measure => simp [intOf]; omega
          · skip
            have pnb48 : decide (48 ≤ P[0].toNat) = false := by simp; omega
            have pib48 : decide ((48 : Int) ≤ (P[0].toNat : Int)) = false := by simp; omega
            have pnb57 : decide (P[0].toNat ≤ 57) = true := by simp; omega
            have pib57 : decide ((P[0].toNat : Int) ≤ (57 : Int)) = true := by simp; omega
            have pnb97 : decide (97 ≤ P[0].toNat) = false := by simp; omega
            have pib97 : decide ((97 : Int) ≤ (P[0].toNat : Int)) = false := by simp; omega
            have pnb122 : decide (P[0].toNat ≤ 122) = true := by simp; omega
            have pib122 : decide ((P[0].toNat : Int) ≤ (122 : Int)) = true := by simp; omega
            have pn61 : decide (P[0].toNat = 61) = false := by simp; omega
            have pi61 : ((P[0].toNat : Int) == 61) = false := by simp; omega
            have NB : Hid (needB (List.getLastD (l' ++ [q]) []) p = false) := by
              show needB _ p = _
              rw [List.getLastD_concat, need_by HQH.out HPH.out, pnb48, pnb57, pnb97, pnb122, pn61, qnb48, qnb57, qnb97, qnb122, HQ61.out]; rfl
            clear qnb48 qnb57 qnb97 qnb122 pnb48 pnb57 pnb97 pnb122 pn61 h1
            obtain ⟨A2, c2, w2, hrun, own2, hg2⟩ := run_append1 (P := Try.prog) W1.heap.size 28 28 9 _ 16 Try.underlying28 el9 (by omega) _ (m + 1) c' _ own (.string P) rfl (by omega) hsz
            have G2 := Lib.hid (hb.grown hg2 hsz (fun q hq => (own.lt q hq).1))
            have OWN : Hid (w2.ownsRow W1.heap.size 9 1 (.slice A2 ((m + 1) + 1) c2) ((m + 1) + 1) (((l' ++ [q]) ++ [p]).map sv)) := by
              show World.ownsRow _ _ _ _ _ _ _
              rw [List.map_append]; show World.ownsRow _ _ _ _ _ _ (_ ++ [sv p])
              show World.ownsRow _ _ _ _ _ _ (_ ++ [Value.string (bsB p)])
              rw [← HPE.out]; exact own2
            have GL : Hid ((S ++ P).data.toList = glue (mItems ((l' ++ [q]) ++ [p]))) := by
              show _ = _
              rw [mItems_snoc, NB.out, app_data, hS.out, HPE.out, bsB_data]
              simp
            have GS : Hid ((S ++ P).size = S.size + P.size) := by
              show _ = _
              rw [app_size]
            have PLS : Hid (∀ r ∈ (l' ++ [q]) ++ [p], r ∈ piecesL) := by
              intro r hr
              rcases List.mem_append.1 hr with h | h
              · exact hpl.out r h
              · rw [List.mem_singleton.1 h]; exact HPM.out
            clear own own2 hg2
            go_wp2
            go_roundw
            case rel => exact ⟨(m + 1) + 1, (l' ++ [q]) ++ [p], S ++ P, A2, c2, by omega, by simp at hl ⊢; omega, by go_num, rfl, rfl, PLS, GL, by have := GS.out; omega, OWN.out, G2.out⟩
            case measure => simp [intOf]; omega
        · have q61 : (q == [61]) = false := by first | (rw [k3]; rfl) | (simpa using k3)
          have HQ61 := Lib.hid q61
          rw [q61] at hQ61
          clear q61 k3
          have qnb48 : decide (48 ≤ Q[0].toNat) = true := by simp; omega
          have qib48 : decide ((48 : Int) ≤ (Q[0].toNat : Int)) = true := by simp; omega
          have qnb57 : decide (Q[0].toNat ≤ 57) = false := by simp; omega
          have qib57 : decide ((Q[0].toNat : Int) ≤ (57 : Int)) = false := by simp; omega
          have qnb97 : decide (97 ≤ Q[0].toNat) = false := by simp; omega
          have qib97 : decide ((97 : Int) ≤ (Q[0].toNat : Int)) = false := by simp; omega
          have qnb122 : decide (Q[0].toNat ≤ 122) = true := by simp; omega
          have qib122 : decide ((Q[0].toNat : Int) ≤ (122 : Int)) = true := by simp; omega
          have qn61 : decide (Q[0].toNat = 61) = true := by simp; omega
          have qi61 : ((Q[0].toNat : Int) == 61) = true := by simp; omega
          clear qn61 qi61 k1
          rcases hcls with ⟨h1, h2⟩ | ⟨h1, h2⟩ | h1 | h1 | h1
          · skip
            have pnb48 : decide (48 ≤ P[0].toNat) = true := by simp; omega
            have pib48 : decide ((48 : Int) ≤ (P[0].toNat : Int)) = true := by simp; omega
            have pnb57 : decide (P[0].toNat ≤ 57) = false := by simp; omega
            have pib57 : decide ((P[0].toNat : Int) ≤ (57 : Int)) = false := by simp; omega
            have pnb97 : decide (97 ≤ P[0].toNat) = true := by simp; omega
            have pib97 : decide ((97 : Int) ≤ (P[0].toNat : Int)) = true := by simp; omega
            have pnb122 : decide (P[0].toNat ≤ 122) = true := by simp; omega
            have pib122 : decide ((P[0].toNat : Int) ≤ (122 : Int)) = true := by simp; omega
            have pn61 : decide (P[0].toNat = 61) = false := by simp; omega
            have pi61 : ((P[0].toNat : Int) == 61) = false := by simp; omega
            have NB : Hid (needB (List.getLastD (l' ++ [q]) []) p = false) := by
              show needB _ p = _
              rw [List.getLastD_concat, need_by HQH.out HPH.out, pnb48, pnb57, pnb97, pnb122, pn61, qnb48, qnb57, qnb97, qnb122, HQ61.out]; rfl
            clear qnb48 qnb57 qnb97 qnb122 pnb48 pnb57 pnb97 pnb122 pn61 h1 h2
            obtain ⟨A2, c2, w2, hrun, own2, hg2⟩ := run_append1 (P := Try.prog) W1.heap.size 28 28 9 _ 16 Try.underlying28 el9 (by omega) _ (m + 1) c' _ own (.string P) rfl (by omega) hsz
            have G2 := Lib.hid (hb.grown hg2 hsz (fun q hq => (own.lt q hq).1))
            have OWN : Hid (w2.ownsRow W1.heap.size 9 1 (.slice A2 ((m + 1) + 1) c2) ((m + 1) + 1) (((l' ++ [q]) ++ [p]).map sv)) := by
              show World.ownsRow _ _ _ _ _ _ _
              rw [List.map_append]; show World.ownsRow _ _ _ _ _ _ (_ ++ [sv p])
              show World.ownsRow _ _ _ _ _ _ (_ ++ [Value.string (bsB p)])
              rw [← HPE.out]; exact own2
            have GL : Hid ((S ++ P).data.toList = glue (mItems ((l' ++ [q]) ++ [p]))) := by
              show _ = _
              rw [mItems_snoc, NB.out, app_data, hS.out, HPE.out, bsB_data]
              simp
            have GS : Hid ((S ++ P).size = S.size + P.size) := by
              show _ = _
              rw [app_size]
            have PLS : Hid (∀ r ∈ (l' ++ [q]) ++ [p], r ∈ piecesL) := by
              intro r hr
              rcases List.mem_append.1 hr with h | h
              · exact hpl.out r h
              · rw [List.mem_singleton.1 h]; exact HPM.out
            clear own own2 hg2
            go_wp2
            go_roundw
            case rel => exact ⟨(m + 1) + 1, (l' ++ [q]) ++ [p], S ++ P, A2, c2, by omega, by simp at hl ⊢; omega, by go_num, rfl, rfl, PLS, GL, by have := GS.out; omega, OWN.out, G2.out⟩
            case measure => simp [intOf]; omega
          · skip
            have pnb48 : decide (48 ≤ P[0].toNat) = true := by simp; omega
            have pib48 : decide ((48 : Int) ≤ (P[0].toNat : Int)) = true := by simp; omega
            have pnb57 : decide (P[0].toNat ≤ 57) = true := by simp; omega
            have pib57 : decide ((P[0].toNat : Int) ≤ (57 : Int)) = true := by simp; omega
            have pnb97 : decide (97 ≤ P[0].toNat) = false := by simp; omega
            have pib97 : decide ((97 : Int) ≤ (P[0].toNat : Int)) = false := by simp; omega
            have pnb122 : decide (P[0].toNat ≤ 122) = true := by simp; omega
            have pib122 : decide ((P[0].toNat : Int) ≤ (122 : Int)) = true := by simp; omega
            have pn61 : decide (P[0].toNat = 61) = false := by simp; omega
            have pi61 : ((P[0].toNat : Int) == 61) = false := by simp; omega
            have NB : Hid (needB (List.getLastD (l' ++ [q]) []) p = false) := by
              show needB _ p = _
              rw [List.getLastD_concat, need_by HQH.out HPH.out, pnb48, pnb57, pnb97, pnb122, pn61, qnb48, qnb57, qnb97, qnb122, HQ61.out]; rfl
            clear qnb48 qnb57 qnb97 qnb122 pnb48 pnb57 pnb97 pnb122 pn61 h1 h2
            obtain ⟨A2, c2, w2, hrun, own2, hg2⟩ := run_append1 (P := Try.prog) W1.heap.size 28 28 9 _ 16 Try.underlying28 el9 (by omega) _ (m + 1) c' _ own (.string P) rfl (by omega) hsz
            have G2 := Lib.hid (hb.grown hg2 hsz (fun q hq => (own.lt q hq).1))
            have OWN : Hid (w2.ownsRow W1.heap.size 9 1 (.slice A2 ((m + 1) + 1) c2) ((m + 1) + 1) (((l' ++ [q]) ++ [p]).map sv)) := by
              show World.ownsRow _ _ _ _ _ _ _
              rw [List.map_append]; show World.ownsRow _ _ _ _ _ _ (_ ++ [sv p])
              show World.ownsRow _ _ _ _ _ _ (_ ++ [Value.string (bsB p)])
              rw [← HPE.out]; exact own2
            have GL : Hid ((S ++ P).data.toList = glue (mItems ((l' ++ [q]) ++ [p]))) := by
              show _ = _
              rw [mItems_snoc, NB.out, app_data, hS.out, HPE.out, bsB_data]
              simp
            have GS : Hid ((S ++ P).size = S.size + P.size) := by
              show _ = _
              rw [app_size]
            have PLS : Hid (∀ r ∈ (l' ++ [q]) ++ [p], r ∈ piecesL) := by
              intro r hr
              rcases List.mem_append.1 hr with h | h
              · exact hpl.out r h
              · rw [List.mem_singleton.1 h]; exact HPM.out
            clear own own2 hg2
            go_wp2
            go_roundw
            case rel => exact ⟨(m + 1) + 1, (l' ++ [q]) ++ [p], S ++ P, A2, c2, by omega, by simp at hl ⊢; omega, by go_num, rfl, rfl, PLS, GL, by have := GS.out; omega, OWN.out, G2.out⟩
            case measure => simp [intOf]; omega
          · skip
            have pnb48 : decide (48 ≤ P[0].toNat) = true := by simp; omega
            have pib48 : decide ((48 : Int) ≤ (P[0].toNat : Int)) = true := by simp; omega
            have pnb57 : decide (P[0].toNat ≤ 57) = false := by simp; omega
            have pib57 : decide ((P[0].toNat : Int) ≤ (57 : Int)) = false := by simp; omega
            have pnb97 : decide (97 ≤ P[0].toNat) = false := by simp; omega
            have pib97 : decide ((97 : Int) ≤ (P[0].toNat : Int)) = false := by simp; omega
            have pnb122 : decide (P[0].toNat ≤ 122) = true := by simp; omega
            have pib122 : decide ((P[0].toNat : Int) ≤ (122 : Int)) = true := by simp; omega
            have pn61 : decide (P[0].toNat = 61) = true := by simp; omega
            have pi61 : ((P[0].toNat : Int) == 61) = true := by simp; omega
            have NB : Hid (needB (List.getLastD (l' ++ [q]) []) p = false) := by
              show needB _ p = _
              rw [List.getLastD_concat, need_by HQH.out HPH.out, pnb48, pnb57, pnb97, pnb122, pn61, qnb48, qnb57, qnb97, qnb122, HQ61.out]; rfl
            clear qnb48 qnb57 qnb97 qnb122 pnb48 pnb57 pnb97 pnb122 pn61 h1
            obtain ⟨A2, c2, w2, hrun, own2, hg2⟩ := run_append1 (P := Try.prog) W1.heap.size 28 28 9 _ 16 Try.underlying28 el9 (by omega) _ (m + 1) c' _ own (.string P) rfl (by omega) hsz
            have G2 := Lib.hid (hb.grown hg2 hsz (fun q hq => (own.lt q hq).1))
            have OWN : Hid (w2.ownsRow W1.heap.size 9 1 (.slice A2 ((m + 1) + 1) c2) ((m + 1) + 1) (((l' ++ [q]) ++ [p]).map sv)) := by
              show World.ownsRow _ _ _ _ _ _ _
              rw [List.map_append]; show World.ownsRow _ _ _ _ _ _ (_ ++ [sv p])
              show World.ownsRow _ _ _ _ _ _ (_ ++ [Value.string (bsB p)])
              rw [← HPE.out]; exact own2
            have GL : Hid ((S ++ P).data.toList = glue (mItems ((l' ++ [q]) ++ [p]))) := by
              show _ = _
              rw [mItems_snoc, NB.out, app_data, hS.out, HPE.out, bsB_data]
              simp
            have GS : Hid ((S ++ P).size = S.size + P.size) := by
              show _ = _
              rw [app_size]
            have PLS : Hid (∀ r ∈ (l' ++ [q]) ++ [p], r ∈ piecesL) := by
              intro r hr
              rcases List.mem_append.1 hr with h | h
              · exact hpl.out r h
              · rw [List.mem_singleton.1 h]; exact HPM.out
            clear own own2 hg2
            go_wp2
            go_roundw
            case rel => exact ⟨(m + 1) + 1, (l' ++ [q]) ++ [p], S ++ P, A2, c2, by omega, by simp at hl ⊢; omega, by go_num, rfl, rfl, PLS, GL, by have := GS.out; omega, OWN.out, G2.out⟩
            case measure => simp [intOf]; omega
          · skip
            have pnb48 : decide (48 ≤ P[0].toNat) = true := by simp; omega
            have pib48 : decide ((48 : Int) ≤ (P[0].toNat : Int)) = true := by simp; omega
            have pnb57 : decide (P[0].toNat ≤ 57) = false := by simp; omega
            have pib57 : decide ((P[0].toNat : Int) ≤ (57 : Int)) = false := by simp; omega
            have pnb97 : decide (97 ≤ P[0].toNat) = false := by simp; omega
            have pib97 : decide ((97 : Int) ≤ (P[0].toNat : Int)) = false := by simp; omega
            have pnb122 : decide (P[0].toNat ≤ 122) = true := by simp; omega
            have pib122 : decide ((P[0].toNat : Int) ≤ (122 : Int)) = true := by simp; omega
            have pn61 : decide (P[0].toNat = 61) = false := by simp; omega
            have pi61 : ((P[0].toNat : Int) == 61) = false := by simp; omega
            have NB : Hid (needB (List.getLastD (l' ++ [q]) []) p = false) := by
              show needB _ p = _
              rw [List.getLastD_concat, need_by HQH.out HPH.out, pnb48, pnb57, pnb97, pnb122, pn61, qnb48, qnb57, qnb97, qnb122, HQ61.out]; rfl
            clear qnb48 qnb57 qnb97 qnb122 pnb48 pnb57 pnb97 pnb122 pn61 h1
            obtain ⟨A2, c2, w2, hrun, own2, hg2⟩ := run_append1 (P := Try.prog) W1.heap.size 28 28 9 _ 16 Try.underlying28 el9 (by omega) _ (m + 1) c' _ own (.string P) rfl (by omega) hsz
            have G2 := Lib.hid (hb.grown hg2 hsz (fun q hq => (own.lt q hq).1))
            have OWN : Hid (w2.ownsRow W1.heap.size 9 1 (.slice A2 ((m + 1) + 1) c2) ((m + 1) + 1) (((l' ++ [q]) ++ [p]).map sv)) := by
              show World.ownsRow _ _ _ _ _ _ _
              rw [List.map_append]; show World.ownsRow _ _ _ _ _ _ (_ ++ [sv p])
              show World.ownsRow _ _ _ _ _ _ (_ ++ [Value.string (bsB p)])
              rw [← HPE.out]; exact own2
            have GL : Hid ((S ++ P).data.toList = glue (mItems ((l' ++ [q]) ++ [p]))) := by
              show _ = _
              rw [mItems_snoc, NB.out, app_data, hS.out, HPE.out, bsB_data]
              simp
            have GS : Hid ((S ++ P).size = S.size + P.size) := by
              show _ = _
              rw [app_size]
            have PLS : Hid (∀ r ∈ (l' ++ [q]) ++ [p], r ∈ piecesL) := by
              intro r hr
              rcases List.mem_append.1 hr with h | h
              · exact hpl.out r h
              · rw [List.mem_singleton.1 h]; exact HPM.out
            clear own own2 hg2
            go_wp2
            go_roundw
            case rel => exact ⟨(m + 1) + 1, (l' ++ [q]) ++ [p], S ++ P, A2, c2, by omega, by simp at hl ⊢; omega, by go_num, rfl, rfl, PLS, GL, by have := GS.out; omega, OWN.out, G2.out⟩
            case measure => simp [intOf]; omega
          · skip
            have pnb48 : decide (48 ≤ P[0].toNat) = false := by simp; omega
            have pib48 : decide ((48 : Int) ≤ (P[0].toNat : Int)) = false := by simp; omega
            have pnb57 : decide (P[0].toNat ≤ 57) = true := by simp; omega
            have pib57 : decide ((P[0].toNat : Int) ≤ (57 : Int)) = true := by simp; omega
            have pnb97 : decide (97 ≤ P[0].toNat) = false := by simp; omega
            have pib97 : decide ((97 : Int) ≤ (P[0].toNat : Int)) = false := by simp; omega
            have pnb122 : decide (P[0].toNat ≤ 122) = true := by simp; omega
            have pib122 : decide ((P[0].toNat : Int) ≤ (122 : Int)) = true := by simp; omega
            have pn61 : decide (P[0].toNat = 61) = false := by simp; omega
            have pi61 : ((P[0].toNat : Int) == 61) = false := by simp; omega
            have NB : Hid (needB (List.getLastD (l' ++ [q]) []) p = false) := by
              show needB _ p = _
              rw [List.getLastD_concat, need_by HQH.out HPH.out, pnb48, pnb57, pnb97, pnb122, pn61, qnb48, qnb57, qnb97, qnb122, HQ61.out]; rfl
            clear qnb48 qnb57 qnb97 qnb122 pnb48 pnb57 pnb97 pnb122 pn61 h1
            obtain ⟨A2, c2, w2, hrun, own2, hg2⟩ := run_append1 (P := Try.prog) W1.heap.size 28 28 9 _ 16 Try.underlying28 el9 (by omega) _ (m + 1) c' _ own (.string P) rfl (by omega) hsz
            have G2 := Lib.hid (hb.grown hg2 hsz (fun q hq => (own.lt q hq).1))
            have OWN : Hid (w2.ownsRow W1.heap.size 9 1 (.slice A2 ((m + 1) + 1) c2) ((m + 1) + 1) (((l' ++ [q]) ++ [p]).map sv)) := by
              show World.ownsRow _ _ _ _ _ _ _
              rw [List.map_append]; show World.ownsRow _ _ _ _ _ _ (_ ++ [sv p])
              show World.ownsRow _ _ _ _ _ _ (_ ++ [Value.string (bsB p)])
              rw [← HPE.out]; exact own2
            have GL : Hid ((S ++ P).data.toList = glue (mItems ((l' ++ [q]) ++ [p]))) := by
              show _ = _
              rw [mItems_snoc, NB.out, app_data, hS.out, HPE.out, bsB_data]
              simp
            have GS : Hid ((S ++ P).size = S.size + P.size) := by
              show _ = _
              rw [app_size]
            have PLS : Hid (∀ r ∈ (l' ++ [q]) ++ [p], r ∈ piecesL) := by
              intro r hr
              rcases List.mem_append.1 hr with h | h
              · exact hpl.out r h
              · rw [List.mem_singleton.1 h]; exact HPM.out
            clear own own2 hg2
            go_wp2
            go_roundw
            case rel => exact ⟨(m + 1) + 1, (l' ++ [q]) ++ [p], S ++ P, A2, c2, by omega, by simp at hl ⊢; omega, by go_num, rfl, rfl, PLS, GL, by have := GS.out; omega, OWN.out, G2.out⟩
            case measure => simp [intOf]; omega
        · have q61 : (q == [61]) = false := by first | (rw [k3]; rfl) | (simpa using k3)
          have HQ61 := Lib.hid q61
          rw [q61] at hQ61
          clear q61 k3
          have qnb48 : decide (48 ≤ Q[0].toNat) = true := by simp; omega
          have qib48 : decide ((48 : Int) ≤ (Q[0].toNat : Int)) = true := by simp; omega
          have qnb57 : decide (Q[0].toNat ≤ 57) = false := by simp; omega
          have qib57 : decide ((Q[0].toNat : Int) ≤ (57 : Int)) = false := by simp; omega
          have qnb97 : decide (97 ≤ Q[0].toNat) = false := by simp; omega
          have qib97 : decide ((97 : Int) ≤ (Q[0].toNat : Int)) = false := by simp; omega
          have qnb122 : decide (Q[0].toNat ≤ 122) = true := by simp; omega
          have qib122 : decide ((Q[0].toNat : Int) ≤ (122 : Int)) = true := by simp; omega
          have qn61 : decide (Q[0].toNat = 61) = false := by simp; omega
          have qi61 : ((Q[0].toNat : Int) == 61) = false := by simp; omega
          clear qn61 qi61 k1
          rcases hcls with ⟨h1, h2⟩ | ⟨h1, h2⟩ | h1 | h1 | h1
          · skip
            have pnb48 : decide (48 ≤ P[0].toNat) = true := by simp; omega
            have pib48 : decide ((48 : Int) ≤ (P[0].toNat : Int)) = true := by simp; omega
            have pnb57 : decide (P[0].toNat ≤ 57) = false := by simp; omega
            have pib57 : decide ((P[0].toNat : Int) ≤ (57 : Int)) = false := by simp; omega
            have pnb97 : decide (97 ≤ P[0].toNat) = true := by simp; omega
            have pib97 : decide ((97 : Int) ≤ (P[0].toNat : Int)) = true := by simp; omega
            have pnb122 : decide (P[0].toNat ≤ 122) = true := by simp; omega
            have pib122 : decide ((P[0].toNat : Int) ≤ (122 : Int)) = true := by simp; omega
            have pn61 : decide (P[0].toNat = 61) = false := by simp; omega
            have pi61 : ((P[0].toNat : Int) == 61) = false := by simp; omega
            have NB : Hid (needB (List.getLastD (l' ++ [q]) []) p = false) := by
              show needB _ p = _
              rw [List.getLastD_concat, need_by HQH.out HPH.out, pnb48, pnb57, pnb97, pnb122, pn61, qnb48, qnb57, qnb97, qnb122, HQ61.out]; rfl
            clear qnb48 qnb57 qnb97 qnb122 pnb48 pnb57 pnb97 pnb122 pn61 h1 h2
            obtain ⟨A2, c2, w2, hrun, own2, hg2⟩ := run_append1 (P := Try.prog) W1.heap.size 28 28 9 _ 16 Try.underlying28 el9 (by omega) _ (m + 1) c' _ own (.string P) rfl (by omega) hsz
            have G2 := Lib.hid (hb.grown hg2 hsz (fun q hq => (own.lt q hq).1))
            have OWN : Hid (w2.ownsRow W1.heap.size 9 1 (.slice A2 ((m + 1) + 1) c2) ((m + 1) + 1) (((l' ++ [q]) ++ [p]).map sv)) := by
              show World.ownsRow _ _ _ _ _ _ _
              rw [List.map_append]; show World.ownsRow _ _ _ _ _ _ (_ ++ [sv p])
              show World.ownsRow _ _ _ _ _ _ (_ ++ [Value.string (bsB p)])
              rw [← HPE.out]; exact own2
            have GL : Hid ((S ++ P).data.toList = glue (mItems ((l' ++ [q]) ++ [p]))) := by
              show _ = _
              rw [mItems_snoc, NB.out, app_data, hS.out, HPE.out, bsB_data]
              simp
            have GS : Hid ((S ++ P).size = S.size + P.size) := by
              show _ = _
              rw [app_size]
            have PLS : Hid (∀ r ∈ (l' ++ [q]) ++ [p], r ∈ piecesL) := by
              intro r hr
              rcases List.mem_append.1 hr with h | h
              · exact hpl.out r h
              · rw [List.mem_singleton.1 h]; exact HPM.out
            clear own own2 hg2
            go_wp2
            go_roundw
            case rel => exact ⟨(m + 1) + 1, (l' ++ [q]) ++ [p], S ++ P, A2, c2, by omega, by simp at hl ⊢; omega, by go_num, rfl, rfl, PLS, GL, by have := GS.out; omega, OWN.out, G2.out⟩
            case measure => simp [intOf]; omega
          · skip
            have pnb48 : decide (48 ≤ P[0].toNat) = true := by simp; omega
            have pib48 : decide ((48 : Int) ≤ (P[0].toNat : Int)) = true := by simp; omega
            have pnb57 : decide (P[0].toNat ≤ 57) = true := by simp; omega
            have pib57 : decide ((P[0].toNat : Int) ≤ (57 : Int)) = true := by simp; omega
            have pnb97 : decide (97 ≤ P[0].toNat) = false := by simp; omega
            have pib97 : decide ((97 : Int) ≤ (P[0].toNat : Int)) = false := by simp; omega
            have pnb122 : decide (P[0].toNat ≤ 122) = true := by simp; omega
            have pib122 : decide ((P[0].toNat : Int) ≤ (122 : Int)) = true := by simp; omega
            have pn61 : decide (P[0].toNat = 61) = false := by simp; omega
            have pi61 : ((P[0].toNat : Int) == 61) = false := by simp; omega
            have NB : Hid (needB (List.getLastD (l' ++ [q]) []) p = false) := by
              show needB _ p = _
              rw [List.getLastD_concat, need_by HQH.out HPH.out, pnb48, pnb57, pnb97, pnb122, pn61, qnb48, qnb57, qnb97, qnb122, HQ61.out]; rfl
            clear qnb48 qnb57 qnb97 qnb122 pnb48 pnb57 pnb97 pnb122 pn61 h1 h2
            obtain ⟨A2, c2, w2, hrun, own2, hg2⟩ := run_append1 (P := Try.prog) W1.heap.size 28 28 9 _ 16 Try.underlying28 el9 (by omega) _ (m + 1) c' _ own (.string P) rfl (by omega) hsz
            have G2 := Lib.hid (hb.grown hg2 hsz (fun q hq => (own.lt q hq).1))
            have OWN : Hid (w2.ownsRow W1.heap.size 9 1 (.slice A2 ((m + 1) + 1) c2) ((m + 1) + 1) (((l' ++ [q]) ++ [p]).map sv)) := by
              show World.ownsRow _ _ _ _ _ _ _
              rw [List.map_append]; show World.ownsRow _ _ _ _ _ _ (_ ++ [sv p])
              show World.ownsRow _ _ _ _ _ _ (_ ++ [Value.string (bsB p)])
              rw [← HPE.out]; exact own2
            have GL : Hid ((S ++ P).data.toList = glue (mItems ((l' ++ [q]) ++ [p]))) := by
              show _ = _
              rw [mItems_snoc, NB.out, app_data, hS.out, HPE.out, bsB_data]
              simp
            have GS : Hid ((S ++ P).size = S.size + P.size) := by
              show _ = _
              rw [app_size]
            have PLS : Hid (∀ r ∈ (l' ++ [q]) ++ [p], r ∈ piecesL) := by
              intro r hr
              rcases List.mem_append.1 hr with h | h
              · exact hpl.out r h
              · rw [List.mem_singleton.1 h]; exact HPM.out
            clear own own2 hg2
            go_wp2
            go_roundw
            case rel => exact ⟨(m + 1) + 1, (l' ++ [q]) ++ [p], S ++ P, A2, c2, by omega, by simp at hl ⊢; omega, by go_num, rfl, rfl, PLS, GL, by have := GS.out; omega, OWN.out, G2.out⟩
            case measure => simp [intOf]; omega
          · skip
            have pnb48 : decide (48 ≤ P[0].toNat) = true := by simp; omega
            have pib48 : decide ((48 : Int) ≤ (P[0].toNat : Int)) = true := by simp; omega
            have pnb57 : decide (P[0].toNat ≤ 57) = false := by simp; omega
            have pib57 : decide ((P[0].toNat : Int) ≤ (57 : Int)) = false := by simp; omega
            have pnb97 : decide (97 ≤ P[0].toNat) = false := by simp; omega
            have pib97 : decide ((97 : Int) ≤ (P[0].toNat : Int)) = false := by simp; omega
            have pnb122 : decide (P[0].toNat ≤ 122) = true := by simp; omega
            have pib122 : decide ((P[0].toNat : Int) ≤ (122 : Int)) = true := by simp; omega
            have pn61 : decide (P[0].toNat = 61) = true := by simp; omega
            have pi61 : ((P[0].toNat : Int) == 61) = true := by simp; omega
            have NB : Hid (needB (List.getLastD (l' ++ [q]) []) p = false) := by
              show needB _ p = _
              rw [List.getLastD_concat, need_by HQH.out HPH.out, pnb48, pnb57, pnb97, pnb122, pn61, qnb48, qnb57, qnb97, qnb122, HQ61.out]; rfl
            clear qnb48 qnb57 qnb97 qnb122 pnb48 pnb57 pnb97 pnb122 pn61 h1
            obtain ⟨A2, c2, w2, hrun, own2, hg2⟩ := run_append1 (P := Try.prog) W1.heap.size 28 28 9 _ 16 Try.underlying28 el9 (by omega) _ (m + 1) c' _ own (.string P) rfl (by omega) hsz
            have G2 := Lib.hid (hb.grown hg2 hsz (fun q hq => (own.lt q hq).1))
            have OWN : Hid (w2.ownsRow W1.heap.size 9 1 (.slice A2 ((m + 1) + 1) c2) ((m + 1) + 1) (((l' ++ [q]) ++ [p]).map sv)) := by
              show World.ownsRow _ _ _ _ _ _ _
              rw [List.map_append]; show World.ownsRow _ _ _ _ _ _ (_ ++ [sv p])
              show World.ownsRow _ _ _ _ _ _ (_ ++ [Value.string (bsB p)])
              rw [← HPE.out]; exact own2
            have GL : Hid ((S ++ P).data.toList = glue (mItems ((l' ++ [q]) ++ [p]))) := by
              show _ = _
              rw [mItems_snoc, NB.out, app_data, hS.out, HPE.out, bsB_data]
              simp
            have GS : Hid ((S ++ P).size = S.size + P.size) := by
              show _ = _
              rw [app_size]
            have PLS : Hid (∀ r ∈ (l' ++ [q]) ++ [p], r ∈ piecesL) := by
              intro r hr
              rcases List.mem_append.1 hr with h | h
              · exact hpl.out r h
              · rw [List.mem_singleton.1 h]; exact HPM.out
            clear own own2 hg2
            go_wp2
            go_roundw
            case rel => exact ⟨(m + 1) + 1, (l' ++ [q]) ++ [p], S ++ P, A2, c2, by omega, by simp at hl ⊢; omega, by go_num, rfl, rfl, PLS, GL, by have := GS.out; omega, OWN.out, G2.out⟩
            case measure => simp [intOf]; omega
          · skip
            have pnb48 : decide (48 ≤ P[0].toNat) = true := by simp; omega
            have pib48 : decide ((48 : Int) ≤ (P[0].toNat : Int)) = true := by simp; omega
            have pnb57 : decide (P[0].toNat ≤ 57) = false := by simp; omega
            have pib57 : decide ((P[0].toNat : Int) ≤ (57 : Int)) = false := by simp; omega
            have pnb97 : decide (97 ≤ P[0].toNat) = false := by simp; omega
            have pib97 : decide ((97 : Int) ≤ (P[0].toNat : Int)) = false := by simp; omega
            have pnb122 : decide (P[0].toNat ≤ 122) = true := by simp; omega
            have pib122 : decide ((P[0].toNat : Int) ≤ (122 : Int)) = true := by simp; omega
            have pn61 : decide (P[0].toNat = 61) = false := by simp; omega
            have pi61 : ((P[0].toNat : Int) == 61) = false := by simp; omega
            have NB : Hid (needB (List.getLastD (l' ++ [q]) []) p = false) := by
              show needB _ p = _
              rw [List.getLastD_concat, need_by HQH.out HPH.out, pnb48, pnb57, pnb97, pnb122, pn61, qnb48, qnb57, qnb97, qnb122, HQ61.out]; rfl
            clear qnb48 qnb57 qnb97 qnb122 pnb48 pnb57 pnb97 pnb122 pn61 h1
            obtain ⟨A2, c2, w2, hrun, own2, hg2⟩ := run_append1 (P := Try.prog) W1.heap.size 28 28 9 _ 16 Try.underlying28 el9 (by omega) _ (m + 1) c' _ own (.string P) rfl (by omega) hsz
            have G2 := Lib.hid (hb.grown hg2 hsz (fun q hq => (own.lt q hq).1))
            have OWN : Hid (w2.ownsRow W1.heap.size 9 1 (.slice A2 ((m + 1) + 1) c2) ((m + 1) + 1) (((l' ++ [q]) ++ [p]).map sv)) := by
              show World.ownsRow _ _ _ _ _ _ _
              rw [List.map_append]; show World.ownsRow _ _ _ _ _ _ (_ ++ [sv p])
              show World.ownsRow _ _ _ _ _ _ (_ ++ [Value.string (bsB p)])
              rw [← HPE.out]; exact own2
            have GL : Hid ((S ++ P).data.toList = glue (mItems ((l' ++ [q]) ++ [p]))) := by
              show _ = _
              rw [mItems_snoc, NB.out, app_data, hS.out, HPE.out, bsB_data]
              simp
            have GS : Hid ((S ++ P).size = S.size + P.size) := by
              show _ = _
              rw [app_size]
            have PLS : Hid (∀ r ∈ (l' ++ [q]) ++ [p], r ∈ piecesL) := by
              intro r hr
              rcases List.mem_append.1 hr with h | h
              · exact hpl.out r h
              · rw [List.mem_singleton.1 h]; exact HPM.out
            clear own own2 hg2
            go_wp2
            go_roundw
            case rel => exact ⟨(m + 1) + 1, (l' ++ [q]) ++ [p], S ++ P, A2, c2, by omega, by simp at hl ⊢; omega, by go_num, rfl, rfl, PLS, GL, by have := GS.out; omega, OWN.out, G2.out⟩
            case measure => simp [intOf]; omega
          · skip
            have pnb48 : decide (48 ≤ P[0].toNat) = false := by simp; omega
            have pib48 : decide ((48 : Int) ≤ (P[0].toNat : Int)) = false := by simp; omega
            have pnb57 : decide (P[0].toNat ≤ 57) = true := by simp; omega
            have pib57 : decide ((P[0].toNat : Int) ≤ (57 : Int)) = true := by simp; omega
            have pnb97 : decide (97 ≤ P[0].toNat) = false := by simp; omega
            have pib97 : decide ((97 : Int) ≤ (P[0].toNat : Int)) = false := by simp; omega
            have pnb122 : decide (P[0].toNat ≤ 122) = true := by simp; omega
            have pib122 : decide ((P[0].toNat : Int) ≤ (122 : Int)) = true := by simp; omega
            have pn61 : decide (P[0].toNat = 61) = false := by simp; omega
            have pi61 : ((P[0].toNat : Int) == 61) = false := by simp; omega
            have NB : Hid (needB (List.getLastD (l' ++ [q]) []) p = false) := by
              show needB _ p = _
              rw [List.getLastD_concat, need_by HQH.out HPH.out, pnb48, pnb57, pnb97, pnb122, pn61, qnb48, qnb57, qnb97, qnb122, HQ61.out]; rfl
            clear qnb48 qnb57 qnb97 qnb122 pnb48 pnb57 pnb97 pnb122 pn61 h1
            obtain ⟨A2, c2, w2, hrun, own2, hg2⟩ := run_append1 (P := Try.prog) W1.heap.size 28 28 9 _ 16 Try.underlying28 el9 (by omega) _ (m + 1) c' _ own (.string P) rfl (by omega) hsz
            have G2 := Lib.hid (hb.grown hg2 hsz (fun q hq => (own.lt q hq).1))
            have OWN : Hid (w2.ownsRow W1.heap.size 9 1 (.slice A2 ((m + 1) + 1) c2) ((m + 1) + 1) (((l' ++ [q]) ++ [p]).map sv)) := by
              show World.ownsRow _ _ _ _ _ _ _
              rw [List.map_append]; show World.ownsRow _ _ _ _ _ _ (_ ++ [sv p])
              show World.ownsRow _ _ _ _ _ _ (_ ++ [Value.string (bsB p)])
              rw [← HPE.out]; exact own2
            have GL : Hid ((S ++ P).data.toList = glue (mItems ((l' ++ [q]) ++ [p]))) := by
              show _ = _
              rw [mItems_snoc, NB.out, app_data, hS.out, HPE.out, bsB_data]
              simp
            have GS : Hid ((S ++ P).size = S.size + P.size) := by
              show _ = _
              rw [app_size]
            have PLS : Hid (∀ r ∈ (l' ++ [q]) ++ [p], r ∈ piecesL) := by
              intro r hr
              rcases List.mem_append.1 hr with h | h
              · exact hpl.out r h
              · rw [List.mem_singleton.1 h]; exact HPM.out
            clear own own2 hg2
            go_wp2
            go_roundw
            case rel => exact ⟨(m + 1) + 1, (l' ++ [q]) ++ [p], S ++ P, A2, c2, by omega, by simp at hl ⊢; omega, by go_num, rfl, rfl, PLS, GL, by have := GS.out; omega, OWN.out, G2.out⟩
            case measure => simp [intOf]; omega
        · have q61 : (q == [61]) = false := by first | (rw [k3]; rfl) | (simpa using k3)
          have HQ61 := Lib.hid q61
          rw [q61] at hQ61
          clear q61 k3
          have qnb48 : decide (48 ≤ Q[0].toNat) = false := by simp; omega
          have qib48 : decide ((48 : Int) ≤ (Q[0].toNat : Int)) = false := by simp; omega
          have qnb57 : decide (Q[0].toNat ≤ 57) = true := by simp; omega
          have qib57 : decide ((Q[0].toNat : Int) ≤ (57 : Int)) = true := by simp; omega
          have qnb97 : decide (97 ≤ Q[0].toNat) = false := by simp; omega
          have qib97 : decide ((97 : Int) ≤ (Q[0].toNat : Int)) = false := by simp; omega
          have qnb122 : decide (Q[0].toNat ≤ 122) = true := by simp; omega
          have qib122 : decide ((Q[0].toNat : Int) ≤ (122 : Int)) = true := by simp; omega
          have qn61 : decide (Q[0].toNat = 61) = false := by simp; omega
          have qi61 : ((Q[0].toNat : Int) == 61) = false := by simp; omega
          clear qn61 qi61 k1
          rcases hcls with ⟨h1, h2⟩ | ⟨h1, h2⟩ | h1 | h1 | h1
          · skip
            have pnb48 : decide (48 ≤ P[0].toNat) = true := by simp; omega
            have pib48 : decide ((48 : Int) ≤ (P[0].toNat : Int)) = true := by simp; omega
            have pnb57 : decide (P[0].toNat ≤ 57) = false := by simp; omega
            have pib57 : decide ((P[0].toNat : Int) ≤ (57 : Int)) = false := by simp; omega
            have pnb97 : decide (97 ≤ P[0].toNat) = true := by simp; omega
            have pib97 : decide ((97 : Int) ≤ (P[0].toNat : Int)) = true := by simp; omega
            have pnb122 : decide (P[0].toNat ≤ 122) = true := by simp; omega
            have pib122 : decide ((P[0].toNat : Int) ≤ (122 : Int)) = true := by simp; omega
            have pn61 : decide (P[0].toNat = 61) = false := by simp; omega
            have pi61 : ((P[0].toNat : Int) == 61) = false := by simp; omega
            have NB : Hid (needB (List.getLastD (l' ++ [q]) []) p = false) := by
              show needB _ p = _
              rw [List.getLastD_concat, need_by HQH.out HPH.out, pnb48, pnb57, pnb97, pnb122, pn61, qnb48, qnb57, qnb97, qnb122, HQ61.out]; rfl
            clear qnb48 qnb57 qnb97 qnb122 pnb48 pnb57 pnb97 pnb122 pn61 h1 h2
            obtain ⟨A2, c2, w2, hrun, own2, hg2⟩ := run_append1 (P := Try.prog) W1.heap.size 28 28 9 _ 16 Try.underlying28 el9 (by omega) _ (m + 1) c' _ own (.string P) rfl (by omega) hsz
            have G2 := Lib.hid (hb.grown hg2 hsz (fun q hq => (own.lt q hq).1))
            have OWN : Hid (w2.ownsRow W1.heap.size 9 1 (.slice A2 ((m + 1) + 1) c2) ((m + 1) + 1) (((l' ++ [q]) ++ [p]).map sv)) := by
              show World.ownsRow _ _ _ _ _ _ _
              rw [List.map_append]; show World.ownsRow _ _ _ _ _ _ (_ ++ [sv p])
              show World.ownsRow _ _ _ _ _ _ (_ ++ [Value.string (bsB p)])
              rw [← HPE.out]; exact own2
            have GL : Hid ((S ++ P).data.toList = glue (mItems ((l' ++ [q]) ++ [p]))) := by
              show _ = _
              rw [mItems_snoc, NB.out, app_data, hS.out, HPE.out, bsB_data]
              simp
            have GS : Hid ((S ++ P).size = S.size + P.size) := by
              show _ = _
              rw [app_size]
            have PLS : Hid (∀ r ∈ (l' ++ [q]) ++ [p], r ∈ piecesL) := by
              intro r hr
              rcases List.mem_append.1 hr with h | h
              · exact hpl.out r h
              · rw [List.mem_singleton.1 h]; exact HPM.out
            clear own own2 hg2
            go_wp2
            go_roundw
            case rel => exact ⟨(m + 1) + 1, (l' ++ [q]) ++ [p], S ++ P, A2, c2, by omega, by simp at hl ⊢; omega, by go_num, rfl, rfl, PLS, GL, by have := GS.out; omega, OWN.out, G2.out⟩
            case measure => simp [intOf]; omega
          · skip
            have pnb48 : decide (48 ≤ P[0].toNat) = true := by simp; omega
            have pib48 : decide ((48 : Int) ≤ (P[0].toNat : Int)) = true := by simp; omega
            have pnb57 : decide (P[0].toNat ≤ 57) = true := by simp; omega
            have pib57 : decide ((P[0].toNat : Int) ≤ (57 : Int)) = true := by simp; omega
            have pnb97 : decide (97 ≤ P[0].toNat) = false := by simp; omega
            have pib97 : decide ((97 : Int) ≤ (P[0].toNat : Int)) = false := by simp; omega
            have pnb122 : decide (P[0].toNat ≤ 122) = true := by simp; omega
            have pib122 : decide ((P[0].toNat : Int) ≤ (122 : Int)) = true := by simp; omega
            have pn61 : decide (P[0].toNat = 61) = false := by simp; omega
            have pi61 : ((P[0].toNat : Int) == 61) = false := by simp; omega
            have NB : Hid (needB (List.getLastD (l' ++ [q]) []) p = false) := by
              show needB _ p = _
              rw [List.getLastD_concat, need_by HQH.out HPH.out, pnb48, pnb57, pnb97, pnb122, pn61, qnb48, qnb57, qnb97, qnb122, HQ61.out]; rfl
            clear qnb48 qnb57 qnb97 qnb122 pnb48 pnb57 pnb97 pnb122 pn61 h1 h2
            obtain ⟨A2, c2, w2, hrun, own2, hg2⟩ := run_append1 (P := Try.prog) W1.heap.size 28 28 9 _ 16 Try.underlying28 el9 (by omega) _ (m + 1) c' _ own (.string P) rfl (by omega) hsz
            have G2 := Lib.hid (hb.grown hg2 hsz (fun q hq => (own.lt q hq).1))
            have OWN : Hid (w2.ownsRow W1.heap.size 9 1 (.slice A2 ((m + 1) + 1) c2) ((m + 1) + 1) (((l' ++ [q]) ++ [p]).map sv)) := by
              show World.ownsRow _ _ _ _ _ _ _
              rw [List.map_append]; show World.ownsRow _ _ _ _ _ _ (_ ++ [sv p])
              show World.ownsRow _ _ _ _ _ _ (_ ++ [Value.string (bsB p)])
              rw [← HPE.out]; exact own2
            have GL : Hid ((S ++ P).data.toList = glue (mItems ((l' ++ [q]) ++ [p]))) := by
              show _ = _
              rw [mItems_snoc, NB.out, app_data, hS.out, HPE.out, bsB_data]
              simp
            have GS : Hid ((S ++ P).size = S.size + P.size) := by
              show _ = _
              rw [app_size]
            have PLS : Hid (∀ r ∈ (l' ++ [q]) ++ [p], r ∈ piecesL) := by
              intro r hr
              rcases List.mem_append.1 hr with h | h
              · exact hpl.out r h
              · rw [List.mem_singleton.1 h]; exact HPM.out
            clear own own2 hg2
            go_wp2
            go_roundw
            case rel => exact ⟨(m + 1) + 1, (l' ++ [q]) ++ [p], S ++ P, A2, c2, by omega, by simp at hl ⊢; omega, by go_num, rfl, rfl, PLS, GL, by have := GS.out; omega, OWN.out, G2.out⟩
            case measure => simp [intOf]; omega
          · skip
            have pnb48 : decide (48 ≤ P[0].toNat) = true := by simp; omega
            have pib48 : decide ((48 : Int) ≤ (P[0].toNat : Int)) = true := by simp; omega
            have pnb57 : decide (P[0].toNat ≤ 57) = false := by simp; omega
            have pib57 : decide ((P[0].toNat : Int) ≤ (57 : Int)) = false := by simp; omega
            have pnb97 : decide (97 ≤ P[0].toNat) = false := by simp; omega
            have pib97 : decide ((97 : Int) ≤ (P[0].toNat : Int)) = false := by simp; omega
            have pnb122 : decide (P[0].toNat ≤ 122) = true := by simp; omega
            have pib122 : decide ((P[0].toNat : Int) ≤ (122 : Int)) = true := by simp; omega
            have pn61 : decide (P[0].toNat = 61) = true := by simp; omega
            have pi61 : ((P[0].toNat : Int) == 61) = true := by simp; omega
            have NB : Hid (needB (List.getLastD (l' ++ [q]) []) p = false) := by
              show needB _ p = _
              rw [List.getLastD_concat, need_by HQH.out HPH.out, pnb48, pnb57, pnb97, pnb122, pn61, qnb48, qnb57, qnb97, qnb122, HQ61.out]; rfl
            clear qnb48 qnb57 qnb97 qnb122 pnb48 pnb57 pnb97 pnb122 pn61 h1
            obtain ⟨A2, c2, w2, hrun, own2, hg2⟩ := run_append1 (P := Try.prog) W1.heap.size 28 28 9 _ 16 Try.underlying28 el9 (by omega) _ (m + 1) c' _ own (.string P) rfl (by omega) hsz
            have G2 := Lib.hid (hb.grown hg2 hsz (fun q hq => (own.lt q hq).1))
            have OWN : Hid (w2.ownsRow W1.heap.size 9 1 (.slice A2 ((m + 1) + 1) c2) ((m + 1) + 1) (((l' ++ [q]) ++ [p]).map sv)) := by
              show World.ownsRow _ _ _ _ _ _ _
              rw [List.map_append]; show World.ownsRow _ _ _ _ _ _ (_ ++ [sv p])
              show World.ownsRow _ _ _ _ _ _ (_ ++ [Value.string (bsB p)])
              rw [← HPE.out]; exact own2
            have GL : Hid ((S ++ P).data.toList = glue (mItems ((l' ++ [q]) ++ [p]))) := by
              show _ = _
              rw [mItems_snoc, NB.out, app_data, hS.out, HPE.out, bsB_data]
              simp
            have GS : Hid ((S ++ P).size = S.size + P.size) := by
              show _ = _
              rw [app_size]
            have PLS : Hid (∀ r ∈ (l' ++ [q]) ++ [p], r ∈ piecesL) := by
              intro r hr
              rcases List.mem_append.1 hr with h | h
              · exact hpl.out r h
              · rw [List.mem_singleton.1 h]; exact HPM.out
            clear own own2 hg2
            go_wp2
            go_roundw
            case rel => exact ⟨(m + 1) + 1, (l' ++ [q]) ++ [p], S ++ P, A2, c2, by omega, by simp at hl ⊢; omega, by go_num, rfl, rfl, PLS, GL, by have := GS.out; omega, OWN.out, G2.out⟩
            case measure => simp [intOf]; omega
          · skip
            have pnb48 : decide (48 ≤ P[0].toNat) = true := by simp; omega
            have pib48 : decide ((48 : Int) ≤ (P[0].toNat : Int)) = true := by simp; omega
            have pnb57 : decide (P[0].toNat ≤ 57) = false := by simp; omega
            have pib57 : decide ((P[0].toNat : Int) ≤ (57 : Int)) = false := by simp; omega
            have pnb97 : decide (97 ≤ P[0].toNat) = false := by simp; omega
            have pib97 : decide ((97 : Int) ≤ (P[0].toNat : Int)) = false := by simp; omega
            have pnb122 : decide (P[0].toNat ≤ 122) = true := by simp; omega
            have pib122 : decide ((P[0].toNat : Int) ≤ (122 : Int)) = true := by simp; omega
            have pn61 : decide (P[0].toNat = 61) = false := by simp; omega
            have pi61 : ((P[0].toNat : Int) == 61) = false := by simp; omega
            have NB : Hid (needB (List.getLastD (l' ++ [q]) []) p = false) := by
              show needB _ p = _
              rw [List.getLastD_concat, need_by HQH.out HPH.out, pnb48, pnb57, pnb97, pnb122, pn61, qnb48, qnb57, qnb97, qnb122, HQ61.out]; rfl
            clear qnb48 qnb57 qnb97 qnb122 pnb48 pnb57 pnb97 pnb122 pn61 h1
            obtain ⟨A2, c2, w2, hrun, own2, hg2⟩ := run_append1 (P := Try.prog) W1.heap.size 28 28 9 _ 16 Try.underlying28 el9 (by omega) _ (m + 1) c' _ own (.string P) rfl (by omega) hsz
            have G2 := Lib.hid (hb.grown hg2 hsz (fun q hq => (own.lt q hq).1))
            have OWN : Hid (w2.ownsRow W1.heap.size 9 1 (.slice A2 ((m + 1) + 1) c2) ((m + 1) + 1) (((l' ++ [q]) ++ [p]).map sv)) := by
              show World.ownsRow _ _ _ _ _ _ _
              rw [List.map_append]; show World.ownsRow _ _ _ _ _ _ (_ ++ [sv p])
              show World.ownsRow _ _ _ _ _ _ (_ ++ [Value.string (bsB p)])
              rw [← HPE.out]; exact own2
            have GL : Hid ((S ++ P).data.toList = glue (mItems ((l' ++ [q]) ++ [p]))) := by
              show _ = _
              rw [mItems_snoc, NB.out, app_data, hS.out, HPE.out, bsB_data]
              simp
            have GS : Hid ((S ++ P).size = S.size + P.size) := by
              show _ = _
              rw [app_size]
            have PLS : Hid (∀ r ∈ (l' ++ [q]) ++ [p], r ∈ piecesL) := by
              intro r hr
              rcases List.mem_append.1 hr with h | h
              · exact hpl.out r h
              · rw [List.mem_singleton.1 h]; exact HPM.out
            clear own own2 hg2
            go_wp2
            go_roundw
            case rel => exact ⟨(m + 1) + 1, (l' ++ [q]) ++ [p], S ++ P, A2, c2, by omega, by simp at hl ⊢; omega, by go_num, rfl, rfl, PLS, GL, by have := GS.out; omega, OWN.out, G2.out⟩
            case measure => simp [intOf]; omega
          · skip
            have pnb48 : decide (48 ≤ P[0].toNat) = false := by simp; omega
            have pib48 : decide ((48 : Int) ≤ (P[0].toNat : Int)) = false := by simp; omega
            have pnb57 : decide (P[0].toNat ≤ 57) = true := by simp; omega
            have pib57 : decide ((P[0].toNat : Int) ≤ (57 : Int)) = true := by simp; omega
            have pnb97 : decide (97 ≤ P[0].toNat) = false := by simp; omega
            have pib97 : decide ((97 : Int) ≤ (P[0].toNat : Int)) = false := by simp; omega
            have pnb122 : decide (P[0].toNat ≤ 122) = true := by simp; omega
            have pib122 : decide ((P[0].toNat : Int) ≤ (122 : Int)) = true := by simp; omega
            have pn61 : decide (P[0].toNat = 61) = false := by simp; omega
            have pi61 : ((P[0].toNat : Int) == 61) = false := by simp; omega
            have NB : Hid (needB (List.getLastD (l' ++ [q]) []) p = false) := by
              show needB _ p = _
              rw [List.getLastD_concat, need_by HQH.out HPH.out, pnb48, pnb57, pnb97, pnb122, pn61, qnb48, qnb57, qnb97, qnb122, HQ61.out]; rfl
            clear qnb48 qnb57 qnb97 qnb122 pnb48 pnb57 pnb97 pnb122 pn61 h1
            obtain ⟨A2, c2, w2, hrun, own2, hg2⟩ := run_append1 (P := Try.prog) W1.heap.size 28 28 9 _ 16 Try.underlying28 el9 (by omega) _ (m + 1) c' _ own (.string P) rfl (by omega) hsz
            have G2 := Lib.hid (hb.grown hg2 hsz (fun q hq => (own.lt q hq).1))
            have OWN : Hid (w2.ownsRow W1.heap.size 9 1 (.slice A2 ((m + 1) + 1) c2) ((m + 1) + 1) (((l' ++ [q]) ++ [p]).map sv)) := by
              show World.ownsRow _ _ _ _ _ _ _
              rw [List.map_append]; show World.ownsRow _ _ _ _ _ _ (_ ++ [sv p])
              show World.ownsRow _ _ _ _ _ _ (_ ++ [Value.string (bsB p)])
              rw [← HPE.out]; exact own2
            have GL : Hid ((S ++ P).data.toList = glue (mItems ((l' ++ [q]) ++ [p]))) := by
              show _ = _
              rw [mItems_snoc, NB.out, app_data, hS.out, HPE.out, bsB_data]
              simp
            have GS : Hid ((S ++ P).size = S.size + P.size) := by
              show _ = _
              rw [app_size]
            have PLS : Hid (∀ r ∈ (l' ++ [q]) ++ [p], r ∈ piecesL) := by
              intro r hr
              rcases List.mem_append.1 hr with h | h
              · exact hpl.out r h
              · rw [List.mem_singleton.1 h]; exact HPM.out
            clear own own2 hg2
            go_wp2
            go_roundw
            case rel => exact ⟨(m + 1) + 1, (l' ++ [q]) ++ [p], S ++ P, A2, c2, by omega, by simp at hl ⊢; omega, by go_num, rfl, rfl, PLS, GL, by have := GS.out; omega, OWN.out, G2.out⟩
            case measure => simp [intOf]; omega
    · obtain rfl : k = n := by omega
      obtain ⟨toks, hsc, htx⟩ := munch_all l hpl.out (by omega)
      have SC : Hid (scanA S.data.toList = .ok toks) := by show _ = _; rw [hS.out]; exact hsc
      have hlen : toks.length = k := by have := congrArg List.length htx; rw [List.length_map] at this; omega
      have HL := Lib.hid hl
      have HTX := Lib.hid htx
      clear hsc htx hl
      go_wp2_with fail
      refine (scan_is S _ (by omega) _ SC.out).mono ?_
      rintro e w2 ⟨A2, c2, rfl, own2, hb2⟩
      have tz := toks_own own2
      have tw := (Sl.of_own own).below hb2
      rw [hlen]
      have HLEN := Lib.hid hlen
      have HB := Lib.hid (below_next (below_trans' hbw hb) hb2)
      clear own own2 hlen hb hb2
      have hb0 := Below.refl w2.heap.size w2
      go_wp2_with fail
      go_loopw [17, 136] (fun _ v136 wq => ∃ i : Nat, i ≤ k ∧ v136 = .int .i64 i ∧ Below w2.heap.size w2 wq) (fun _ v136 _ => k - (intOf v136).toNat)
      case atStart => exact ⟨0, by omega, rfl, hb0⟩
      case round =>
        obtain ⟨i, hi, rfl, hb⟩ := hrel
        by_cases hlt2 : i < k
        · obtain ⟨zb, zo, rfl, z0, z1, z2⟩ := (tz.below hb).get (k := i) (by rw [HLEN.out]; exact hlt2)
          obtain ⟨tb, to_, rfl, ht⟩ := (tw.below hb).at_ (k := i) (by rw [List.length_map, HL.out]; exact hlt2)
          rw [List.getElem_map] at ht
          have he : (toks[i]'(by rw [HLEN.out]; exact hlt2)).bytes = bsB (l[i]'(by rw [HL.out]; exact hlt2)) := by
            have : (toks.map Tok.text)[i]? = l[i]? := by rw [HTX.out]
            rw [List.getElem?_map, List.getElem?_eq_getElem (by rw [HLEN.out]; exact hlt2), List.getElem?_eq_getElem (by rw [HL.out]; exact hlt2)] at this
            unfold Tok.bytes bsB
            rw [show (toks[i]'(by rw [HLEN.out]; exact hlt2)).text = l[i]'(by rw [HL.out]; exact hlt2) from Option.some.inj this]
          rw [he] at z1
          clear he
          have ht' : _ = some (Value.string (bsB (l[i]'(by rw [HL.out]; exact hlt2)))) := ht
          clear ht z0 z2
          generalize bsB (l[i]'(by rw [HL.out]; exact hlt2)) = B at *
          have hi0 : (0 : Int) ≤ (i : Int) := by omega
          have him : (i : Int) < (k : Int) := by omega
          go_wp2_with fail
          go_quiet (fail)
          go_wp2
          go_roundw
          case rel => exact ⟨i + 1, by omega, by go_num, below_drewN' hb _⟩
          case measure => simp [intOf]; omega
        · obtain rfl : i = k := by omega
          go_wp2_with fail
          refine (awake_any _).mono ?_
          rintro e w4 ⟨rfl, hb4⟩
          go_wp2
          go_ret
          exact ⟨rfl, below_next (below_next HB.out hb) hb4⟩
end Go.Proofs.Ytmjnipklbmokjaa
