/- The inner loops of SumMoves; conditions: the two layouts and the bytes are readable.  -/
import Derived.Test.YtamhigknobdloaaUv
import Derived.Test.YtamhigknobdloaaLh
import Derived.Outline
namespace Go.Proofs.Ytamhigknobdloaa
open Go.RowKit
set_option linter.unusedVariables false

/-- The loops of a text that lie in no other loop. -/
def loopsIn : Code → List Code
  | .loop c => [.loop c]
  | .seq a b => loopsIn a ++ loopsIn b
  | .block _ c => loopsIn c
  | .scope c => loopsIn c
  | .cond _ a b => loopsIn a ++ loopsIn b
  | _ => []
def loopAt (f : Func) (i : Nat) : Code := ((f.body.bind fun c => (loopsIn c)[i]?)).getD .skip
set_option pp.deepTerms true in
set_option pp.maxSteps 1000000 in
set_option maxHeartbeats 20000000 in
set_option maxRecDepth 100000 in
theorem moves_loop (Q : Exit → Act → World → Prop) (Ab : Option Addr) (nb cb : Nat) (bb : List UInt8) (kk : Int) (A15 : Option Addr) (N c15 : Nat) (X : List UInt8) (gz : Nat) (zs : List Part) (V7 : World) (k0 k3 k4 k5 k6 k7 k8 k9 k10 k11 k12 k13 k14 k16 k17 k18 k19 k20 k21 k22 k23 k24 k25 k26 k27 k28 k29 k30 k31 k32 k33 k34 k35 k36 k37 k38 k39 k40 k41 k42 k43 k44 k45 k46 k47 k48 k49 k50 k51 k52 k53 k54 k55 k56 k57 k58 k59 k60 k61 k62 k63 k64 k65 k66 k67 k68 k69 k70 k71 k72 k73 k74 k75 k76 k77 k78 k79 k80 k81 k82 k83 k84 k85 k86 k87 k88 k89 k90 k91 k92 k93 k94 k95 k96 k97 k98 k99 k100 k101 k102 k103 k104 k105 k106 k107 k108 k109 k110 k111 k112 k113 k114 k115 k116 k117 k118 k119 k120 k121 k122 k123 k124 k125 k126 k127 k128 k129 k130 k131 k132 k133 k134 k135 k136 k137 k138 k139 k140 k141 k142 k146 k147 k148 k149 k150 k151 k152 k153 k154 k155 k156 k157 k158 k159 k160 k161 k162 k163 k164 k165 k166 k167 k168 k169 k170 k171 k172 k173 k174 k175 k176 k177 k178 k179 k180 k181 k182 k183 k184 k185 k186 k187 k188 k189 k190 k191 k192 k193 k194 k195 k196 k197 k198 k199 k200 k201 k202 k203 k204 k205 k206 k207 k208 k209 k210 k211 k212 k213 k214 k215 k216 k217 k218 k219 k220 k221 k222 k223 k224 k225 k226 k227 k228 k229 k230 k231 k232 k233 k234 k235 k236 k237 k238 k239 k240 k241 k242 k243 k244 k245 k246 k247 k248 k249 k250 k251 k252 k253 k254 : Value)
    (HXZ : Hid (∀ (j : Nat) (hj : j < 2), ∃ pz : Part, zs[j]? = some pz ∧ ZOk V7 pz ∧ pz.one)) (HPA : Hid (Parts V7 (some ⟨gz, 0, none⟩) zs)) (HX3 : Hid (Sl V7 A15 (X.map bv))) (HSB7 : Hid (Sl V7 Ab (bb.map bv))) (HX1 : Hid (X.length = N)) (HNB : Hid (bb.length = nb))
    (hcap15 : N ≤ c15) (hcb : nb ≤ cb) (hlb : nb ≤ 2000) (hN1 : N ≤ 1024) (hk0 : -9223372036854775808 ≤ kk) (hk1 : kk ≤ 9223372036854775807) (hzl : zs.length = 2)
    (hexit : ∀ (m8 m18 m20 m21 m22 m23 m24 m25 m26 m27 m28 m29 m30 m31 m32 m33 m34 m35 m36 m37 m38 m145 m146 m147 m148 m149 m150 m151 m152 m153 m154 m155 m156 m157 m158 m159 m160 m161 m162 m163 m164 m165 m166 m167 m168 m169 m170 m171 m172 m173 m174 m175 m176 m177 m178 m179 m180 m181 m182 m183 m184 m185 m186 m187 m188 m189 m190 m191 m192 m193 m194 m195 m196 m197 m198 m199 m200 m201 m202 m203 m204 m205 m206 m207 m208 m209 m210 m211 m212 m213 m214 m215 m216 m217 m218 m219 m220 m221 m222 m223 m224 m225 m226 m227 m228 m229 m230 m231 m232 m233 m234 m235 m236 m237 m238 m239 m240 m241 m242 m243 m244 m245 m246 m247 m248 m249 m250 m251 m252 m253 : Value) (w' : World), Below V7.heap.size V7 w' → Q (.exit 2) ⟨(k0 :: (.slice Ab nb cb) :: (.int .i64 kk) :: k3 :: k4 :: k5 :: k6 :: k7 :: m8 :: k9 :: k10 :: k11 :: k12 :: k13 :: k14 :: (.slice A15 N c15) :: k16 :: k17 :: m18 :: k19 :: m20 :: m21 :: m22 :: m23 :: m24 :: m25 :: m26 :: m27 :: m28 :: m29 :: m30 :: m31 :: m32 :: m33 :: m34 :: m35 :: m36 :: m37 :: m38 :: k39 :: k40 :: k41 :: k42 :: k43 :: k44 :: k45 :: k46 :: k47 :: k48 :: k49 :: k50 :: k51 :: k52 :: k53 :: k54 :: k55 :: k56 :: k57 :: k58 :: k59 :: k60 :: k61 :: k62 :: k63 :: k64 :: k65 :: k66 :: k67 :: k68 :: k69 :: k70 :: k71 :: k72 :: k73 :: k74 :: k75 :: k76 :: k77 :: k78 :: k79 :: k80 :: k81 :: k82 :: k83 :: k84 :: k85 :: k86 :: k87 :: k88 :: k89 :: k90 :: k91 :: k92 :: k93 :: k94 :: k95 :: k96 :: k97 :: k98 :: k99 :: k100 :: k101 :: k102 :: k103 :: k104 :: k105 :: k106 :: k107 :: k108 :: k109 :: k110 :: k111 :: k112 :: k113 :: k114 :: k115 :: k116 :: k117 :: k118 :: k119 :: k120 :: k121 :: k122 :: k123 :: k124 :: k125 :: k126 :: k127 :: k128 :: k129 :: k130 :: k131 :: k132 :: k133 :: k134 :: k135 :: k136 :: k137 :: k138 :: k139 :: k140 :: k141 :: k142 :: (.slice (some ⟨gz, 0, none⟩) 2 2) :: (.int .i64 2) :: m145 :: m146 :: m147 :: m148 :: m149 :: m150 :: m151 :: m152 :: m153 :: m154 :: m155 :: m156 :: m157 :: m158 :: m159 :: m160 :: m161 :: m162 :: m163 :: m164 :: m165 :: m166 :: m167 :: m168 :: m169 :: m170 :: m171 :: m172 :: m173 :: m174 :: m175 :: m176 :: m177 :: m178 :: m179 :: m180 :: m181 :: m182 :: m183 :: m184 :: m185 :: m186 :: m187 :: m188 :: m189 :: m190 :: m191 :: m192 :: m193 :: m194 :: m195 :: m196 :: m197 :: m198 :: m199 :: m200 :: m201 :: m202 :: m203 :: m204 :: m205 :: m206 :: m207 :: m208 :: m209 :: m210 :: m211 :: m212 :: m213 :: m214 :: m215 :: m216 :: m217 :: m218 :: m219 :: m220 :: m221 :: m222 :: m223 :: m224 :: m225 :: m226 :: m227 :: m228 :: m229 :: m230 :: m231 :: m232 :: m233 :: m234 :: m235 :: m236 :: m237 :: m238 :: m239 :: m240 :: m241 :: m242 :: m243 :: m244 :: m245 :: m246 :: m247 :: m248 :: m249 :: m250 :: m251 :: m252 :: m253 :: k254 :: []).toArray, []⟩ w') :
    Code.wp Try.prog (loopAt Try.f15 1) Q ⟨(k0 :: (.slice Ab nb cb) :: (.int .i64 kk) :: k3 :: k4 :: k5 :: k6 :: k7 :: k8 :: k9 :: k10 :: k11 :: k12 :: k13 :: k14 :: (.slice A15 N c15) :: k16 :: k17 :: k18 :: k19 :: k20 :: k21 :: k22 :: k23 :: k24 :: k25 :: k26 :: k27 :: k28 :: k29 :: k30 :: k31 :: k32 :: k33 :: k34 :: k35 :: k36 :: k37 :: k38 :: k39 :: k40 :: k41 :: k42 :: k43 :: k44 :: k45 :: k46 :: k47 :: k48 :: k49 :: k50 :: k51 :: k52 :: k53 :: k54 :: k55 :: k56 :: k57 :: k58 :: k59 :: k60 :: k61 :: k62 :: k63 :: k64 :: k65 :: k66 :: k67 :: k68 :: k69 :: k70 :: k71 :: k72 :: k73 :: k74 :: k75 :: k76 :: k77 :: k78 :: k79 :: k80 :: k81 :: k82 :: k83 :: k84 :: k85 :: k86 :: k87 :: k88 :: k89 :: k90 :: k91 :: k92 :: k93 :: k94 :: k95 :: k96 :: k97 :: k98 :: k99 :: k100 :: k101 :: k102 :: k103 :: k104 :: k105 :: k106 :: k107 :: k108 :: k109 :: k110 :: k111 :: k112 :: k113 :: k114 :: k115 :: k116 :: k117 :: k118 :: k119 :: k120 :: k121 :: k122 :: k123 :: k124 :: k125 :: k126 :: k127 :: k128 :: k129 :: k130 :: k131 :: k132 :: k133 :: k134 :: k135 :: k136 :: k137 :: k138 :: k139 :: k140 :: k141 :: k142 :: (.slice (some ⟨gz, 0, none⟩) 2 2) :: (.int .i64 2) :: (.int .i64 0) :: k146 :: k147 :: k148 :: k149 :: k150 :: k151 :: k152 :: k153 :: k154 :: k155 :: k156 :: k157 :: k158 :: k159 :: k160 :: k161 :: k162 :: k163 :: k164 :: k165 :: k166 :: k167 :: k168 :: k169 :: k170 :: k171 :: k172 :: k173 :: k174 :: k175 :: k176 :: k177 :: k178 :: k179 :: k180 :: k181 :: k182 :: k183 :: k184 :: k185 :: k186 :: k187 :: k188 :: k189 :: k190 :: k191 :: k192 :: k193 :: k194 :: k195 :: k196 :: k197 :: k198 :: k199 :: k200 :: k201 :: k202 :: k203 :: k204 :: k205 :: k206 :: k207 :: k208 :: k209 :: k210 :: k211 :: k212 :: k213 :: k214 :: k215 :: k216 :: k217 :: k218 :: k219 :: k220 :: k221 :: k222 :: k223 :: k224 :: k225 :: k226 :: k227 :: k228 :: k229 :: k230 :: k231 :: k232 :: k233 :: k234 :: k235 :: k236 :: k237 :: k238 :: k239 :: k240 :: k241 :: k242 :: k243 :: k244 :: k245 :: k246 :: k247 :: k248 :: k249 :: k250 :: k251 :: k252 :: k253 :: k254 :: []).toArray, []⟩ V7 := by
  have HEX := Lib.hid hexit
  clear hexit
  have hbr := Below.refl V7.heap.size V7
  conv => arg 2; whnf
  go_loopw [145] (fun v145 wr => ∃ j : Nat, j ≤ 2 ∧ v145 = .int .i64 j ∧ Below V7.heap.size V7 wr) (fun v145 _ => 2 - (intOf v145).toNat)
  case atStart => exact ⟨0, by omega, rfl, hbr⟩
  case round =>
  obtain ⟨j, hj, rfl, hb⟩ := hrel
  clear hbr
  by_cases hj2 : j < 2
  · obtain ⟨pz, hpz, hZ, hzo⟩ := HXZ.out j hj2
    have hpz := (List.getElem?_eq_some_iff.1 hpz).2
    obtain ⟨gz', oz, hgo, q0, q1, q2, q3, q4, q5, q6, q7⟩ := (HPA.out.below hb).get (k := j) (by omega)
    injection hgo with hgo
    injection hgo with e1 e2
    subst e1 e2
    rw [hpz] at q0 q1 q2 q3 q4 q5 q6 q7
    simp only [Nat.zero_add] at q0 q1 q2 q3 q4 q5 q6 q7
    have sz3 := store_var (P := Try.prog) hzo.h3
    have sz4 := store_var (P := Try.prog) hzo.h4
    have sz5 := store_var (P := Try.prog) hzo.h5
    have sz6 := store_var (P := Try.prog) hzo.h6
    have sz7 := store_var (P := Try.prog) hzo.h7
    obtain ⟨csz, tz, hLz, hxz, hspz, htz⟩ := hZ
    have hj0 : (0 : Int) ≤ (j : Int) := Int.natCast_nonneg _
    have hj1 : (j : Int) < 2 := by omega
    obtain ⟨V8, hV8⟩ : ∃ V8, V8 = wr.alloc (.cells #[.int .i64 pz.s, .int .i64 pz.al, .slice pz.A pz.sp.length pz.c, pz.x3, pz.x4, pz.x5, pz.x6, pz.x7] 31) := ⟨_, rfl⟩
    have b78 : Below wr.heap.size wr V8 := by rw [hV8]; exact (Below.refl _ _).alloc (Nat.le_refl _) _
    have hZB : Blk V8 wr.heap.size 31 #[.int .i64 pz.s, .int .i64 pz.al, .slice pz.A pz.sp.length pz.c, pz.x3, pz.x4, pz.x5, pz.x6, pz.x7] := by rw [hV8]; exact Blk.new _ _ _
    obtain ⟨V9, hV9⟩ : ∃ V9, V9 = V8.alloc (.cells #[.slice Ab nb cb, .slice A15 N c15] 27) := ⟨_, rfl⟩
    have b89 : Below V8.heap.size V8 V9 := by rw [hV9]; exact (Below.refl _ _).alloc (Nat.le_refl _) _
    have hPR : Blk V9 V8.heap.size 27 #[.slice Ab nb cb, .slice A15 N c15] := by rw [hV9]; exact Blk.new _ _ _
    have hV8s : V8.heap.size = wr.heap.size + 1 := by rw [hV8]; simp
    obtain ⟨gzb, hgzb⟩ : ∃ gzb, gzb = wr.heap.size := ⟨_, rfl⟩
    have b79 := below_next hb (below_next b78 b89)
    rw [← hgzb] at hZB hV8s
    rw [hV8s] at hPR
    have hZB9 := hZB.below b89
    have HV8 := Lib.hid hV8
    have HV9 := Lib.hid hV9
    have HGZB := Lib.hid hgzb
    have HZB := Lib.hid hZB9
    have HPR := Lib.hid hPR
    have HB9 := Lib.hid b79
    have HLZ := Lib.hid (hLz.below b79)
    have HXZ2 := Lib.hid hxz
    have hbr9 := Below.refl V9.heap.size V9
    clear hpz hb hZB hZB9 hPR hV8 hV9 hgzb b78 b89 b79 hzo hLz hxz hV8s
    go_wp2_with fail
    rw [← HV8.out, ← HGZB.out, ← HV9.out]
    clear q0 q1 q2 q3 q4 q5 q6 q7 sz3 sz4 sz5 sz6 sz7
    go_loopw [153] (fun v153 wr => ∃ i : Nat, i ≤ 2 ∧ v153 = .int .i64 i ∧ Below V9.heap.size V9 wr) (fun v153 _ => 2 - (intOf v153).toNat)
    case atStart => exact ⟨0, by omega, rfl, hbr9⟩
    case round =>
      obtain ⟨i, hi, rfl, hb⟩ := hrel
      clear hbr9
      by_cases hi2 : i < 2
      · have hgen : ∃ (Aw : Option Addr) (nw cw : Nat) (lw : List UInt8), wr.cell? ⟨gzb + 1, i, none⟩ = some (.slice Aw nw cw) ∧ Sl V9 Aw (lw.map bv) ∧ lw.length = nw ∧ nw ≤ cw ∧ nw ≤ 2000 := by
          have hc := (HPR.out.below hb).cell i
          rcases i with _ | _ | i
          · exact ⟨Ab, nb, cb, bb, hc, HSB7.out.below HB9.out, HNB.out, hcb, hlb⟩
          · exact ⟨A15, N, c15, X, hc, HX3.out.below HB9.out, HX1.out, hcap15, by omega⟩
          · omega
        obtain ⟨Aw, nw, cw, lw, hcw, hsw, hlw, hncw, hnw2⟩ := hgen
        have hi0 : (0 : Int) ≤ (i : Int) := Int.natCast_nonneg _
        have hi1 : (i : Int) < 2 := by omega
        have hLr := HLZ.out.below hb
        have hwr := hsw.below hb
        have hZr := HZB.out.below hb
        have htz2 : tz.length ≤ 1000000 := by omega
        obtain ⟨r, hr⟩ : ∃ r, r = projR pz csz tz lw := ⟨_, rfl⟩
        have hbd := projR_bd pz csz tz lw
        rw [← hr] at hbd
        have hpj := fun (W : World) (hL : LayOf W pz csz tz) (hs : Sl W Aw (lw.map bv)) => proj_any pz csz tz Aw nw cw lw W hL hlw hs (by omega) hncw hspz htz2
        have hrpj := fun (W : World) (hL : LayOf W pz csz tz) (hs : Sl W Aw (lw.map bv)) => rproj_any pz csz tz Aw nw cw lw W hL HXZ2.out hlw hs (by omega) hncw hspz htz2
        have htg := fun (W : World) (hL : LayOf W pz csz tz) (hs : Sl W Aw (lw.map bv)) => tag_any pz csz tz Aw nw cw lw W hL hlw hs (by omega) hncw hspz htz2
        have hrtg := fun (W : World) (hL : LayOf W pz csz tz) (hs : Sl W Aw (lw.map bv)) => rtag_any pz csz tz Aw nw cw lw W hL HXZ2.out hlw hs (by omega) hncw hspz htz2
        rw [← hr] at hpj hrpj htg hrtg
        have HPJ := Lib.hid hpj
        have HRPJ := Lib.hid hrpj
        have HTJ := Lib.hid htg
        have HRTJ := Lib.hid hrtg
        have HBR := Lib.hid hb
        have HLR := Lib.hid hLr
        have HWR := Lib.hid hwr
        have HZR := Lib.hid hZr
        have HLW := Lib.hid hlw
        obtain ⟨⟨z0, z1, z2, z3, z4, z5, z6, z7⟩, zf⟩ := hZr.eight
        clear hr hpj hrpj htg hrtg hb hLr hwr hZr hsw hlw
        go_wp2_with fail
        refine (HPJ.out _ HLR.out HWR.out).mono ?_
        intro e v1 h1
        obtain ⟨hb1, Aq, cq, rfl, hq1, hq2⟩ := h1.uni
        have HB1 := Lib.hid hb1
        have HQ1 := Lib.hid hq1
        clear z0 z1 z2 z3 z4 z5 z6 z7 zf h1
        obtain ⟨⟨z0, z1, z2, z3, z4, z5, z6, z7⟩, zf⟩ := (HZR.out.below hb1).eight
        clear hb1 hq1 hq2
        go_wp2_with fail
        refine (HRPJ.out _ (HLR.out.below HB1.out) (HWR.out.below HB1.out)).mono ?_
        intro e v2 h2
        obtain ⟨hb2, Ay, cy, rfl, hy1, hy2⟩ := h2.uni
        have HB2 := Lib.hid (below_next HB1.out hb2)
        have HQ2 := Lib.hid (HQ1.out.below hb2)
        have HY1 := Lib.hid hy1
        clear z0 z1 z2 z3 z4 z5 z6 z7 zf h2
        obtain ⟨⟨z0, z1, z2, z3, z4, z5, z6, z7⟩, zf⟩ := (HZR.out.below HB2.out).eight
        clear hb2 hy1
        go_wp2_with fail
        refine (HTJ.out _ (HLR.out.below HB2.out) (HWR.out.below HB2.out)).mono ?_
        intro e v3 h3
        obtain ⟨hb3, rfl⟩ := h3.uni
        have HB3 := Lib.hid (below_next HB2.out hb3)
        have HQ3 := Lib.hid (HQ2.out.below hb3)
        have HY3 := Lib.hid (HY1.out.below hb3)
        clear z0 z1 z2 z3 z4 z5 z6 z7 zf h3
        obtain ⟨⟨z0, z1, z2, z3, z4, z5, z6, z7⟩, zf⟩ := (HZR.out.below HB3.out).eight
        clear hb3
        go_wp2_with fail
        refine (HRTJ.out _ (HLR.out.below HB3.out) (HWR.out.below HB3.out)).mono ?_
        intro e v4 h4
        obtain ⟨hb4, rfl⟩ := h4.uni
        have hB4 := below_next HB3.out hb4
        have cv1 := run_convb (P := Try.prog) v4 27 9 5 Aq (projU r).length cq (projU r) Try.underlying27 Try.underlying5 Try.underlying9 (HQ3.out.sl.below hb4) rfl
        have cv2 := run_convb (P := Try.prog) v4 27 9 5 Ay (projU r).length cy (projU r) Try.underlying27 Try.underlying5 Try.underlying9 (HY3.out.sl.below hb4) rfl
        have hs1 : (projE r != projE r) = false := by simp
        have hs2 : ((projK r : Int) != projK r) = false := by simp
        obtain ⟨V5, hV5⟩ : ∃ V5, V5 = v4.alloc (.cells #[.slice Aw nw cw, .slice Ay (projU r).length cy] 27) := ⟨_, rfl⟩
        have b45 : Below v4.heap.size v4 V5 := by rw [hV5]; exact (Below.refl _ _).alloc (Nat.le_refl _) _
        have hPR5 : Blk V5 v4.heap.size 27 #[.slice Aw nw cw, .slice Ay (projU r).length cy] := by rw [hV5]; exact Blk.new _ _ _
        obtain ⟨g5, hg5⟩ : ∃ g5, g5 = v4.heap.size := ⟨_, rfl⟩
        rw [← hg5] at hPR5
        have hB5 := below_next hB4 b45
        have hU2000 : (projU r).length ≤ 2000 := by have := hbd.2; have := HLW.out; omega
        have hK62 := hbd.1
        have hY5 := ((HY3.out.below hb4).below b45)
        have HY5 := Lib.hid hY5
        have HU2 := Lib.hid hU2000
        have HV5 := Lib.hid hV5
        have HG5 := Lib.hid hg5
        have HP5 := Lib.hid hPR5
        have HB5 := Lib.hid hB5
        have HW5 := Lib.hid (HWR.out.below hB5)
        have HL5 := Lib.hid (HLR.out.below hB5)
        have HZ5 := Lib.hid (HZR.out.below hB5)
        have hbr5 := Below.refl V5.heap.size V5
        generalize projK r = K at *
        generalize projU r = U at *
        generalize projE r = E at *
        clear z0 z1 z2 z3 z4 z5 z6 z7 zf h4 hb4 hB4 hV5 b45 hPR5 hg5 hB5 hY5 hbd hU2000 HPJ HRPJ HTJ HRTJ HQ1 HQ2 HQ3 HY1 HY3 HB1 HB2 HB3
        go_wp2_with fail
        rw [← HG5.out, ← HV5.out]
        clear cv1 cv2 hs1 hs2
        go_loopw [212] (fun v212 wr => ∃ a : Nat, a ≤ 2 ∧ v212 = .int .i64 a ∧ Below V5.heap.size V5 wr) (fun v212 _ => 2 - (intOf v212).toNat)
        case atStart => exact ⟨0, by omega, rfl, hbr5⟩
        case round =>
          obtain ⟨a, ha, rfl, hb⟩ := hrel
          clear hbr5
          by_cases ha2 : a < 2
          · have hgen : ∃ (As' : Option Addr) (ns cs' : Nat) (l' : List UInt8), wr.cell? ⟨g5, a, none⟩ = some (.slice As' ns cs') ∧ Sl V5 As' (l'.map bv) ∧ l'.length = ns ∧ ns ≤ cs' ∧ ns ≤ 2000 := by
              have hc := (HP5.out.below hb).cell a
              rcases a with _ | _ | a
              · exact ⟨Aw, nw, cw, lw, hc, HW5.out, HLW.out, hncw, hnw2⟩
              · exact ⟨Ay, U.length, cy, U, hc, HY5.out.sl, rfl, hy2, HU2.out⟩
              · omega
            obtain ⟨At, nt, ct, lt, hct, hst, hlt_, hnct, hnt2⟩ := hgen
            have ha0 : (0 : Int) ≤ (a : Int) := Int.natCast_nonneg _
            have ha1 : (a : Int) < 2 := by omega
            have t5a := Int.lt_tmod_of_pos kk (show (0 : Int) < 5 by omega)
            have t5b := Int.tmod_lt_of_pos kk (show (0 : Int) < 5 by omega)
            obtain ⟨V10, hV10⟩ : ∃ V10, V10 = wr.alloc (.cells #[.int .i64 kk, .int .i64 (K : Int), .int .i64 (kk.tmod 5)] 3) := ⟨_, rfl⟩
            have b10 : Below wr.heap.size wr V10 := by rw [hV10]; exact (Below.refl _ _).alloc (Nat.le_refl _) _
            have hT10 : Blk V10 wr.heap.size 3 #[.int .i64 kk, .int .i64 (K : Int), .int .i64 (kk.tmod 5)] := by rw [hV10]; exact Blk.new _ _ _
            obtain ⟨g10, hg10⟩ : ∃ g10, g10 = wr.heap.size := ⟨_, rfl⟩
            rw [← hg10] at hT10
            have hB10 := below_next hb b10
            have HV10 := Lib.hid hV10
            have HG10 := Lib.hid hg10
            have HT10 := Lib.hid hT10
            have HB10 := Lib.hid hB10
            have HST := Lib.hid (hst.below hB10)
            have HLT := Lib.hid hlt_
            have HL10 := Lib.hid (HL5.out.below hB10)
            have HZ10 := Lib.hid (HZ5.out.below hB10)
            have hbr10 := Below.refl V10.heap.size V10
            clear hb hV10 b10 hT10 hg10 hB10 hst hlt_
            go_wp2_with fail
            rw [← HG10.out, ← HV10.out]
            go_loopw [222] (fun v222 wr => ∃ t : Nat, t ≤ 3 ∧ v222 = .int .i64 t ∧ Below V10.heap.size V10 wr) (fun v222 _ => 3 - (intOf v222).toNat)
            case atStart => exact ⟨0, by omega, rfl, hbr10⟩
            case round =>
              obtain ⟨t, ht, rfl, hb⟩ := hrel
              clear hbr10
              by_cases ht3 : t < 3
              · have hgen : ∃ tv : Int, wr.cell? ⟨g10, t, none⟩ = some (.int .i64 tv) ∧ -9223372036854775808 ≤ tv ∧ tv ≤ 9223372036854775807 := by
                  have hc := (HT10.out.below hb).cell t
                  rcases t with _ | _ | _ | t
                  · exact ⟨kk, hc, hk0, hk1⟩
                  · exact ⟨K, hc, by omega, by omega⟩
                  · exact ⟨kk.tmod 5, hc, by omega, by omega⟩
                  · omega
                obtain ⟨tv, htv, htv0, htv1⟩ := hgen
                have ht0 : (0 : Int) ≤ (t : Int) := Int.natCast_nonneg _
                have ht1 : (t : Int) < 3 := by omega
                have hij := inj_any pz csz tz tv At nt ct lt wr (HL10.out.below hb) HLT.out (HST.out.below hb) (by omega) hnct hspz htz2 htv0 htv1
                have hrij := fun (W : World) (hL : LayOf W pz csz tz) (hs : Sl W At (lt.map bv)) => rinj_any pz csz tz tv At nt ct lt W hL HXZ2.out HLT.out hs (by omega) hnct hspz htz htv0 htv1
                obtain ⟨r, hr⟩ : ∃ r, r = injR pz csz tz tv lt := ⟨_, rfl⟩
                rw [← hr] at hij hrij
                have HIJ := Lib.hid hij
                have HRIJ := Lib.hid hrij
                have HBB := Lib.hid hb
                obtain ⟨⟨z0, z1, z2, z3, z4, z5, z6, z7⟩, zf⟩ := (HZ10.out.below hb).eight
                clear hr hij hrij hb
                go_wp2_with fail
                refine HIJ.out.mono ?_
                rintro e v1 ⟨hb1, Aq, cq, rfl, hq1, hq2⟩
                have HB1 := Lib.hid (below_next HBB.out hb1)
                have HQ1 := Lib.hid hq1
                clear z0 z1 z2 z3 z4 z5 z6 z7 zf
                obtain ⟨⟨z0, z1, z2, z3, z4, z5, z6, z7⟩, zf⟩ := (HZ10.out.below HB1.out).eight
                clear hb1 hq1 hq2
                go_wp2_with fail
                refine (HRIJ.out _ (HL10.out.below HB1.out) (HST.out.below HB1.out)).mono ?_
                rintro e v2 ⟨hb2, Ao, co, rfl, ho1, ho2⟩
                have cv1 := run_convb (P := Try.prog) v2 27 9 5 Aq r.2.length cq r.2 Try.underlying27 Try.underlying5 Try.underlying9 (HQ1.out.sl.below hb2) rfl
                have cv2 := run_convb (P := Try.prog) v2 27 9 5 Ao r.2.length co r.2 Try.underlying27 Try.underlying5 Try.underlying9 ho1.sl rfl
                have hs1 : (r.1 != r.1) = false := by simp
                have HB2 := Lib.hid (below_next HB1.out hb2)
                generalize r.1 = rE at *
                generalize r.2 = rL at *
                clear z0 z1 z2 z3 z4 z5 z6 z7 zf hb2 ho1 ho2
                go_wp2_with fail
                go_roundw
                case rel => exact ⟨t + 1, by omega, by go_num, HB2.out⟩
                case measure => simp [intOf]; omega
              · obtain rfl : t = 3 := by omega
                have HBE := Lib.hid (below_next HB10.out hb)
                clear hb
                go_wp2_with fail
                go_roundw
                case rel => exact ⟨a + 1, by omega, by go_num, HBE.out⟩
                case measure => simp [intOf]; omega
          · obtain rfl : a = 2 := by omega
            have HBE := Lib.hid (below_next HBR.out (below_next HB5.out hb))
            clear hb
            go_wp2_with fail
            go_roundw
            case rel => exact ⟨i + 1, by omega, by go_num, HBE.out⟩
            case measure => simp [intOf]; omega
      · obtain rfl : i = 2 := by omega
        have HBE := Lib.hid (below_next HB9.out hb)
        clear hb
        go_wp2_with fail
        go_roundw
        case rel => exact ⟨j + 1, by omega, by go_num, HBE.out⟩
        case measure => simp [intOf]; omega
  · obtain rfl : j = 2 := by omega
    have HBE := Lib.hid hb
    clear hb
    go_wp2_with fail
    exact HEX.out _ _ _ _ _ _ _ _ _ _ _ _ _ _ _ _ _ _ _ _ _ _ _ _ _ _ _ _ _ _ _ _ _ _ _ _ _ _ _ _ _ _ _ _ _ _ _ _ _ _ _ _ _ _ _ _ _ _ _ _ _ _ _ _ _ _ _ _ _ _ _ _ _ _ _ _ _ _ _ _ _ _ _ _ _ _ _ _ _ _ _ _ _ _ _ _ _ _ _ _ _ _ _ _ _ _ _ _ _ _ _ _ _ _ _ _ _ _ _ _ _ _ _ _ _ _ _ _ _ _ _ HBE.out

end Go.Proofs.Ytamhigknobdloaa
