/- Parts of the proof; no condition. -/
import Derived.Test.YthlkmffimhnehaaGreatZad
import Derived.Test.YthlkmffimhnehaaGreatZaa
set_option linter.unusedSimpArgs false
set_option linter.unusedVariables false
namespace Go.Ev
noncomputable section
set_option maxRecDepth 100000
set_option maxHeartbeats 2000000
def yK:XC:=(.seq (.seq (.aQ
 [aA 5 1,
  aA 6 0,
  aC 7 (.lens (.t 6)),
  aC 8 (.bin .lss .int (.t 5) (.t 7)),
  aA 9 8,
  bW 10 9 true (.move (.t 0)),
  bW 11 9 true (.move (.t 1)),
  bW 12 9 true (.tz (.t 10) (.t 11)),
  ⟨some 13,some (9,true),(.e (.call (.c (.fn 163 [] [])) [(.t 12)]))⟩,
  bW 14 9 true (.move (.t 13)),
  bW 15 14 false (.move (.t 0)),
  bW 16 14 false (.move (.t 1)),
  bW 17 14 false (.tz (.t 15) (.t 16)),
  ⟨some 18,some (14,false),(.e (.call (.c (.fn 165 [] [])) [(.t 17)]))⟩,
  bW 19 9 true (.pick (.t 14) (.c (.bool true)) (.t 18)),
  aC 20 (.pick (.t 9) (.t 19) (.c (.bool false)))]) (.cond (.t 20) .skip (.exit 0))) (.block 1 (.aQ
 [aA 21 1,
  aC 22 (.bin .add .int (.t 21) (.c (.int .i64 1))),
  aA 1 22])))
def Re:XC:=(.seq (.aQ
 [aC 4 (.move (.c (.int .i64 0)))]) (.seq (.block 0 (.loop yK)) (.seq (.aQ
 [aA 23 1,
  aA 4 23]) .ret)))
def y3:XC:=(.seq (.seq (.aQ
 [aA 5 1,
  aA 6 0,
  aC 7 (.lens (.t 6)),
  aC 8 (.bin .lss .int (.t 5) (.t 7)),
  aA 9 8,
  bW 10 9 true (.move (.t 0)),
  bW 11 9 true (.move (.t 1)),
  bW 12 9 true (.tz (.t 10) (.t 11)),
  ⟨some 13,some (9,true),(.e (.call (.c (.fn 165 [] [])) [(.t 12)]))⟩,
  aC 14 (.pick (.t 9) (.t 13) (.c (.bool false)))]) (.cond (.t 14) .skip (.exit 0))) (.block 1 (.aQ
 [aA 15 1,
  aC 16 (.bin .add .int (.t 15) (.c (.int .i64 1))),
  aA 1 16])))
def Rd:XC:=(.seq (.aQ
 [aC 4 (.move (.c (.int .i64 0)))]) (.seq (.block 0 (.loop y3)) (.seq (.aQ
 [aA 17 1,
  aA 4 17]) .ret)))
def yT:XC:=(.seq (.seq (.aQ
 [aA 30 6,
  aA 31 5,
  aC 32 (.lens (.t 31)),
  aC 33 (.bin .lss .int (.t 30) (.t 32))]) (.cond (.t 33) .skip (.exit 0))) (.seq (.block 1 (.seq (.nL []
 [aA 36 0,
  aA 37 1,
  aC 38 (.tz (.t 36) (.t 37)),
  aA 39 5,
  aA 40 6,
  aC 41 (.tz (.t 39) (.t 40)),
  aC 42 (.bin .eql .int (.t 38) (.t 41))] []) (.cond (.t 42) (.seq (.aQ
 [aA 43 1,
  aC 44 (.bin .add .int (.t 43) (.c (.int .i64 1))),
  aA 4 44]) .ret) .skip))) (.aQ
 [aA 34 6,
  aC 35 (.bin .add .int (.t 34) (.c (.int .i64 1))),
  aA 6 35])))
def Lt:XC:=(.seq (.aQ
 [aC 4 (.move (.c (.int .i64 0)))]) (.seq (.seq (.aQ
 [aA 7 1,
  aC 8 (.bin .add .int (.t 7) (.c (.int .i64 1))),
  aA 9 0,
  aC 10 (.lens (.t 9)),
  aC 11 (.bin .lss .int (.t 8) (.t 10)),
  aA 12 11,
  bW 13 12 true (.move (.t 0)),
  bW 14 12 true (.move (.t 1)),
  bW 15 12 true (.move (.t 1)),
  bW 16 12 true (.bin .add .int (.t 15) (.c (.int .i64 2))),
  bW 17 12 true (.lZ (.t 13) (some (.t 14)) (some (.t 16))),
  bW 18 12 true (.bin .eql .str (.t 17) (.c (.str [61,61]))),
  bW 19 12 true (.move (.t 18)),
  bW 20 19 false (.move (.t 0)),
  bW 21 19 false (.move (.t 1)),
  bW 22 19 false (.move (.t 1)),
  bW 23 19 false (.bin .add .int (.t 22) (.c (.int .i64 2))),
  bW 24 19 false (.lZ (.t 20) (some (.t 21)) (some (.t 23))),
  bW 25 19 false (.bin .eql .str (.t 24) (.c (.str [45,62]))),
  bW 26 12 true (.pick (.t 19) (.c (.bool true)) (.t 25)),
  aC 27 (.pick (.t 12) (.t 26) (.c (.bool false)))]) (.cond (.t 27) (.seq (.aQ
 [aA 28 1,
  aC 29 (.bin .add .int (.t 28) (.c (.int .i64 2))),
  aA 4 29]) .ret) .skip)) (.seq (.aQ
 [aC 5 (.move (.c (.str [123,125,91,93,40,41,59,58,44,46,61,60,43,45,42,47,37])))]) (.seq (.seq (.aQ
 [aC 6 (.move (.c (.int .i64 0)))]) (.block 0 (.loop yT))) (.seq (.aQ
 [aA 45 1,
  aA 4 45]) .ret)))))
def uy:XC:=(.seq (.seq (.aQ
 [aA 11 6,
  aA 12 0,
  aC 13 (.lens (.t 12)),
  aC 14 (.bin .lss .int (.t 11) (.t 13))]) (.cond (.t 14) .skip (.exit 0))) (.seq (.block 1 (.seq (.aQ
 [aA 19 0,
  aA 20 6,
  fL 21 (.call (.c (.fn 84 [] [])) [(.t 19),(.t 20)]),
  aA 18 21,
  aC 22 (.ext (.t 18) 0),
  aC 23 (.ext (.t 18) 1),
  fL 7 (.alloc [(.int .i64 0),(.str []),(.int .i64 0)]),
  ⟨none,none,(.e (.store 3 (.t 7) (.t 22)))⟩,
  aA 8 23]) (.seq (.seq (.aQ
 [aA 24 8,
  aC 25 (.bin .neq .int (.t 24) (.c (.int .i64 0)))]) (.cond (.t 25) (.seq (.aQ
 [aA 26 6,
  aA 27 8,
  aC 2 (.move (.c .az)),
  aA 3 26,
  aA 4 27]) .ret) .skip)) (.seq (.seq (.aQ
 [aA 28 5,
  aC 29 (.kA (.t 28)),
  aC 30 (.bin .geq .int (.t 29) (.c (.int .i64 6000)))]) (.cond (.t 30) (.seq (.aQ
 [aA 31 6,
  aC 2 (.move (.c .az)),
  aA 3 31,
  aC 4 (.move (.c (.int .i64 4)))]) .ret) .skip)) (.seq (.aQ
 [aA 32 5,
  om 33 (.load 3 true (.t 7)),
  aC 34 (.fv 3 [(.agg [(.int .i64 0),(.str []),(.int .i64 0)])] [(0,(.t 33))]),
  fL 35 (.app 3 32 (.t 32) (.t 34)),
  aA 5 35]) (.aQ
 [aA 36 6,
  aC 37 (.iq 1 (.t 7)),
  om 38 (.load 1 false (.t 37)),
  aC 39 (.lens (.t 38)),
  aC 40 (.bin .add .int (.t 36) (.t 39)),
  aA 6 40])))))) (.aQ
 [aA 15 0,
  aA 16 6,
  fL 17 (.call (.c (.fn 83 [] [])) [(.t 15),(.t 16)]),
  aA 6 17])))
def y39:XC:=(.seq (.aQ
 [aC 2 (.move (.c .az)),
  aC 3 (.move (.c (.int .i64 0))),
  aC 4 (.move (.c (.int .i64 0)))]) (.seq (.aQ
 [aC 5 (.move (.c .az))]) (.seq (.seq (.aQ
 [aA 9 0,
  fL 10 (.call (.c (.fn 83 [] [])) [(.t 9),(.c (.int .i64 0))]),
  aA 6 10]) (.block 0 (.loop uy))) (.seq (.aQ
 [aA 41 5,
  aA 2 41,
  aC 3 (.move (.c (.int .i64 0))),
  aC 4 (.move (.c (.int .i64 0)))]) .ret))))
def Rc:XC:=(.seq (.aQ
 [aC 2 (.move (.c (.bool false)))]) (.seq (.aQ
 [aC 3 (.move (.c (.str [57,50,50,51,51,55,50,48,51,54,56,53,52,55,55,53,56,48,56])))]) (.seq (.aQ
 [aA 4 0,
  aC 5 (.lens (.t 4)),
  aA 6 3,
  aC 7 (.lens (.t 6)),
  aC 8 (.bin .gtr .int (.t 5) (.t 7)),
  aA 9 8,
  bW 10 9 false (.move (.t 0)),
  bW 11 9 false (.lens (.t 10)),
  bW 12 9 false (.move (.t 3)),
  bW 13 9 false (.lens (.t 12)),
  bW 14 9 false (.bin .eql .int (.t 11) (.t 13)),
  bW 15 9 false (.move (.t 14)),
  bW 16 15 true (.move (.t 0)),
  bW 17 15 true (.move (.t 3)),
  bW 18 15 true (.bin .gtr .str (.t 16) (.t 17)),
  bW 19 9 false (.pick (.t 15) (.t 18) (.c (.bool false))),
  aC 20 (.pick (.t 9) (.c (.bool true)) (.t 19)),
  aA 2 20]) .ret)))
def QK:XC:=(.seq (.aQ
 [fL 4 (.alloc [(.int .i64 0),(.str []),(.int .i64 0)]),
  aC 5 (.move (.c (.int .i64 0)))]) (.seq (.seq (.aQ
 [aA 9 0,
  aA 10 1,
  aC 11 (.tz (.t 9) (.t 10)),
  fL 12 (.call (.c (.fn 163 [] [])) [(.t 11)])]) (.cond (.t 12) (.seq (.aQ
 [aA 13 0,
  aA 14 1,
  fL 15 (.call (.c (.fn 164 [] [])) [(.t 13),(.t 14)]),
  aA 6 15]) (.seq (.seq (.aQ
 [aA 16 6,
  aA 17 1,
  aC 18 (.bin .sub .int (.t 16) (.t 17)),
  aC 19 (.bin .gtr .int (.t 18) (.c (.int .i64 16)))]) (.cond (.t 19) (.seq (.aQ
 [aC 20 (.build [(.int .i64 0),(.str []),(.int .i64 0)] []),
  ⟨none,none,(.e (.store 3 (.t 4) (.t 20)))⟩,
  aC 5 (.move (.c (.int .i64 4)))]) .ret) .skip)) (.seq (.aQ
 [aA 21 0,
  aA 22 1,
  aA 23 6,
  aC 24 (.lZ (.t 21) (some (.t 22)) (some (.t 23))),
  aA 25 1,
  aC 26 (.build [(.int .i64 0),(.str []),(.int .i64 0)] [(0,1,(.c (.int .i64 1))),(1,1,(.t 24)),(2,1,(.t 25))]),
  ⟨none,none,(.e (.store 3 (.t 4) (.t 26)))⟩,
  aC 5 (.move (.c (.int .i64 0)))]) .ret))) .skip)) (.seq (.seq (.aQ
 [aA 27 0,
  aA 28 1,
  aC 29 (.tz (.t 27) (.t 28)),
  fL 30 (.call (.c (.fn 165 [] [])) [(.t 29)])]) (.cond (.t 30) (.seq (.aQ
 [aA 31 0,
  aA 32 1,
  fL 33 (.call (.c (.fn 166 [] [])) [(.t 31),(.t 32)]),
  aA 7 33]) (.seq (.block 0 (.seq (.aQ
 [aA 35 7,
  aA 36 1,
  aC 37 (.bin .sub .int (.t 35) (.t 36)),
  aC 38 (.bin .gtr .int (.t 37) (.c (.int .i64 1))),
  aA 39 38,
  bW 40 39 true (.move (.t 0)),
  bW 41 39 true (.move (.t 1)),
  bW 42 39 true (.tz (.t 40) (.t 41)),
  bW 43 39 true (.bin .eql .int (.t 42) (.c (.int .u8 48))),
  aC 44 (.pick (.t 39) (.t 43) (.c (.bool false))),
  aA 34 44]) (.cond (.t 34) (.seq (.aQ
 [aC 45 (.build [(.int .i64 0),(.str []),(.int .i64 0)] []),
  ⟨none,none,(.e (.store 3 (.t 4) (.t 45)))⟩,
  aC 5 (.move (.c (.int .i64 1)))]) .ret) (.seq (.aQ
 [aA 47 0,
  aA 48 1,
  aA 49 7,
  aC 50 (.lZ (.t 47) (some (.t 48)) (some (.t 49))),
  fL 51 (.call (.c (.fn 167 [] [])) [(.t 50)]),
  aA 46 51]) (.cond (.t 46) (.seq (.aQ
 [aC 52 (.build [(.int .i64 0),(.str []),(.int .i64 0)] []),
  ⟨none,none,(.e (.store 3 (.t 4) (.t 52)))⟩,
  aC 5 (.move (.c (.int .i64 4)))]) .ret) .skip))))) (.seq (.aQ
 [aA 53 0,
  aA 54 1,
  aA 55 7,
  aC 56 (.lZ (.t 53) (some (.t 54)) (some (.t 55))),
  aA 57 1,
  aC 58 (.build [(.int .i64 0),(.str []),(.int .i64 0)] [(0,1,(.c (.int .i64 2))),(1,1,(.t 56)),(2,1,(.t 57))]),
  ⟨none,none,(.e (.store 3 (.t 4) (.t 58)))⟩,
  aC 5 (.move (.c (.int .i64 0)))]) .ret))) .skip)) (.seq (.aQ
 [aA 59 0,
  aA 60 1,
  fL 61 (.call (.c (.fn 168 [] [])) [(.t 59),(.t 60)]),
  aA 8 61]) (.seq (.seq (.aQ
 [aA 62 8,
  aA 63 1,
  aC 64 (.bin .eql .int (.t 62) (.t 63))]) (.cond (.t 64) (.seq (.aQ
 [aC 65 (.build [(.int .i64 0),(.str []),(.int .i64 0)] []),
  ⟨none,none,(.e (.store 3 (.t 4) (.t 65)))⟩,
  aC 5 (.move (.c (.int .i64 1)))]) .ret) .skip)) (.seq (.aQ
 [aA 66 0,
  aA 67 1,
  aA 68 8,
  aC 69 (.lZ (.t 66) (some (.t 67)) (some (.t 68))),
  aA 70 1,
  aC 71 (.build [(.int .i64 0),(.str []),(.int .i64 0)] [(0,1,(.c (.int .i64 3))),(1,1,(.t 69)),(2,1,(.t 70))]),
  ⟨none,none,(.e (.store 3 (.t 4) (.t 71)))⟩,
  aC 5 (.move (.c (.int .i64 0)))]) .ret))))))
def y18:XC:=(.seq (.aQ
 [aC 2 (.move (.c .az)),
  aC 3 (.move (.c (.int .i64 0))),
  aC 4 (.move (.c (.int .i64 0)))]) (.seq (.seq (.aQ
 [aA 8 0,
  aC 9 (.lens (.t 8)),
  aC 10 (.bin .gtr .int (.t 9) (.c (.int .i64 16384)))]) (.cond (.t 10) (.seq (.aQ
 [aC 2 (.move (.c .az)),
  aC 3 (.move (.c (.int .i64 0))),
  aC 4 (.move (.c (.int .i64 4)))]) .ret) .skip)) (.seq (.aQ
 [aA 12 0,
  fL 13 (.call (.c (.fn 39 [] [])) [(.t 12)]),
  aA 11 13,
  aC 14 (.ext (.t 11) 0),
  aC 15 (.ext (.t 11) 1),
  aC 16 (.ext (.t 11) 2),
  aA 5 14,
  aA 6 15,
  aA 7 16]) (.seq (.seq (.aQ
 [aA 17 7,
  aC 18 (.bin .neq .int (.t 17) (.c (.int .i64 0)))]) (.cond (.t 18) (.seq (.aQ
 [aA 19 6,
  aA 20 7,
  aC 2 (.move (.c .az)),
  aA 3 19,
  aA 4 20]) .ret) .skip)) (.seq (.aQ
 [aA 21 5,
  aA 2 21,
  aC 3 (.move (.c (.int .i64 0))),
  aC 4 (.move (.c (.int .i64 0)))]) .ret)))))
structure CallR (call:e8):Prop where
 l:nJ call 163 isLet
 d:nJ call 165 cP
theorem IN {call:e8} (hc:CallR call) {ag:Nat} {st:St} {s:List UInt8} (hs:s.length<1000000):∀ (l:List UInt8) (n m:Nat) (tm:Tr AV),s.drop n=l->n<=s.length->l.length<m->tm.get 0=some (.str s)->tm.get 1=some (.int .i64 (.ofNat n)) ->
  ah (aY (ak call ag yK) m tm st) (cR n (aM fX l) st):=by
 intro l
 induction l with
 |nil =>
  intro n m tm hl hn hm h0 h1;obtain⟨m,rfl⟩:∃ k,m=k+1:=⟨m-1,by simp at hm; omega⟩
  have aO:decide (n<s.length)=false:=nM (by have:=drop_nil hl hn; omega)
  simp only[ax,yK,bF,aw,aF,av,ah,Nat.reduceEqDiff,reduceCtorEq,h0,h1,aI,aS,aO];exact⟨rfl,.inl ⟨rfl,by simp only[aE,Nat.reduceEqDiff,reduceCtorEq,h1]; rfl⟩⟩
 |cons b l ih =>
  intro n m tm hl hn hm h0 h1;obtain⟨m,rfl⟩:∃ k,m=k+1:=⟨m-1,by simp at hm; omega⟩
  obtain⟨hb,dt,jm⟩:=dx hl;have aO:decide (n<s.length)=true:=fM dt;have dw:=add_one (n:=n) (by omega)
  have dX:=gw hb;have hL:=hc.l b st;have hD:=hc.d b st;have more:∀ tm:Tr AV,tm.get 0=some (.str s)->tm.get 1=some (.int .i64 (.ofNat (n+1)))->ah (aY (ak call ag yK) m tm st) (cR n (aM fX l+1) st):=by
   intro tm h0 h1;have:=ih (n+1) m tm jm (by omega) (by simp at hm; omega) h0 h1
   unfold cR at this ⊢;rw[show n+1+aM fX l=n+(aM fX l+1) by omega] at this
   exact this
  rw[fT];unfold fX;cases hl:isLet b.toNat<;>cases hd:cP b.toNat<;>rw[hl] at hL<;>rw[hd] at hD
  all_goals simp only[ax,yK,bF,aw,aF,av,ah,Nat.reduceEqDiff,reduceCtorEq,h0,h1,aI,aS,aX,aO,dw,dX,hL,hD,Bool.or_true,nO,e7,oo]
  all_goals first
   |exact⟨rfl,.inl ⟨rfl,by simp only[aE,Nat.reduceEqDiff,reduceCtorEq,h1]; rfl⟩⟩
   |exact more _ (by simp only[aE,Nat.reduceEqDiff,reduceCtorEq,h0]) (by simp only[aE,Nat.reduceEqDiff,reduceCtorEq])
theorem IP {call:e8} (hc:CallR call) {ag:Nat} (st:St) {s:List UInt8} (hs:s.length<1000000) (hl:s.length<ag) {n:Nat} (hn:n<=s.length) :
  bg [.t 4] (ak call ag Re (bb [.str s,.int .i64 (.ofNat n)] 0 .nil) st)=some (.int .i64 (.ofNat (n+aM fX (s.drop n))),st):=by
 simp only[Re,bn,bF,aw,aF,av,ah,Nat.reduceEqDiff,reduceCtorEq];refine sF (oA:=yK) (fun tm h0 h1=>IN hc (st:=st) hs (s.drop n) n ag tm rfl hn (by rw[gL]; omega) h0 h1) _ _ ?_ ?_ fun ay h=>?_
 ·simp only[aE,Nat.reduceEqDiff,reduceCtorEq,bx]
 ·simp only[aE,Nat.reduceEqDiff,reduceCtorEq,bu]
 ·simp only[bF,aw,aF,av,ah,Nat.reduceEqDiff,reduceCtorEq,h]
  exact b9 4 (by simp only[aE,Nat.reduceEqDiff,reduceCtorEq])
theorem JL {call:e8} (hc:CallR call) {ag:Nat} {st:St} {s:List UInt8} (hs:s.length<1000000):∀ (l:List UInt8) (n m:Nat) (tm:Tr AV),s.drop n=l->n<=s.length->l.length<m->tm.get 0=some (.str s)->tm.get 1=some (.int .i64 (.ofNat n)) ->
  ah (aY (ak call ag y3) m tm st) (cR n (aM cP l) st):=by
 intro l
 induction l with
 |nil =>
  intro n m tm hl hn hm h0 h1;obtain⟨m,rfl⟩:∃ k,m=k+1:=⟨m-1,by simp at hm; omega⟩
  have aO:decide (n<s.length)=false:=nM (by have:=drop_nil hl hn; omega)
  simp only[ax,y3,bF,aw,aF,av,ah,Nat.reduceEqDiff,reduceCtorEq,h0,h1,aI,aS,aO];exact⟨rfl,.inl ⟨rfl,by simp only[aE,Nat.reduceEqDiff,reduceCtorEq,h1]; rfl⟩⟩
 |cons b l ih =>
  intro n m tm hl hn hm h0 h1;obtain⟨m,rfl⟩:∃ k,m=k+1:=⟨m-1,by simp at hm; omega⟩
  obtain⟨hb,dt,jm⟩:=dx hl;have aO:decide (n<s.length)=true:=fM dt;have dw:=add_one (n:=n) (by omega)
  have dX:=gw hb;have hD:=hc.d b st;have more:∀ tm:Tr AV,tm.get 0=some (.str s)->tm.get 1=some (.int .i64 (.ofNat (n+1)))->ah (aY (ak call ag y3) m tm st) (cR n (aM cP l+1) st):=by
   intro tm h0 h1;have:=ih (n+1) m tm jm (by omega) (by simp at hm; omega) h0 h1
   unfold cR at this ⊢;rw[show n+1+aM cP l=n+(aM cP l+1) by omega] at this
   exact this
  rw[fT];cases hd:cP b.toNat<;>rw[hd] at hD
  all_goals simp only[ax,y3,bF,aw,aF,av,ah,Nat.reduceEqDiff,reduceCtorEq,h0,h1,aI,aS,aX,aO,dw,dX,hD,Bool.or_true,nO,e7,oo]
  all_goals first
   |exact⟨rfl,.inl ⟨rfl,by simp only[aE,Nat.reduceEqDiff,reduceCtorEq,h1]; rfl⟩⟩
   |exact more _ (by simp only[aE,Nat.reduceEqDiff,reduceCtorEq,h0]) (by simp only[aE,Nat.reduceEqDiff,reduceCtorEq])
theorem JM {call:e8} (hc:CallR call) {ag:Nat} (st:St) {s:List UInt8} (hs:s.length<1000000) (hl:s.length<ag) {n:Nat} (hn:n<=s.length) :
  bg [.t 4] (ak call ag Rd (bb [.str s,.int .i64 (.ofNat n)] 0 .nil) st)=some (.int .i64 (.ofNat (n+aM cP (s.drop n))),st):=by
 simp only[Rd,bn,bF,aw,aF,av,ah,Nat.reduceEqDiff,reduceCtorEq];refine sF (oA:=y3) (fun tm h0 h1=>JL hc (st:=st) hs (s.drop n) n ag tm rfl hn (by rw[gL]; omega) h0 h1) _ _ ?_ ?_ fun ay h=>?_
 ·simp only[aE,Nat.reduceEqDiff,reduceCtorEq,bx]
 ·simp only[aE,Nat.reduceEqDiff,reduceCtorEq,bu]
 ·simp only[bF,aw,aF,av,ah,Nat.reduceEqDiff,reduceCtorEq,h]
  exact b9 4 (by simp only[aE,Nat.reduceEqDiff,reduceCtorEq])
def vk (s:List UInt8):Nat:=match s with
 | []=>0
 |c::_=>match sY s with
  |true=>2
  |false=>match iv SG c with
   |true=>1
   |false=>0
def IA (n:Nat) (b:Bool) (st:St) (e:Ex) (ay:Tr AV) (ae:St):Prop:=ae=st/\(e = .exit 0/\b=false/\ay.get 1=some (.int .i64 (.ofNat n))\/e = .ret/\b=true/\ay.get 4=some (.int .i64 (.ofNat (n+1))))
theorem Jj {call:e8} {ag:Nat} {st:St} {s G:List UInt8} {n:Nat} {c:UInt8} (hn:n<1000000) (hG:G.length<1000) (hc:nth s n=some c):∀ (l:List UInt8) (i m:Nat) (tm:Tr AV),G.drop i=l->i<=G.length->l.length<m->tm.get 0=some (.str s)->tm.get 1=some (.int .i64 (.ofNat n))->tm.get 5=some (.str G)->tm.get 6=some (.int .i64 (.ofNat i)) ->
  ah (aY (ak call ag yT) m tm st) (IA n (iv l c) st):=by
 intro l
 induction l with
 |nil =>
  intro i m tm hl hi hm h0 h1 h5 h6;obtain⟨m,rfl⟩:∃ k,m=k+1:=⟨m-1,by simp at hm; omega⟩
  have aO:decide (i<G.length)=false:=nM (by have:=drop_nil hl hi; omega)
  simp only[ax,yT,bF,aw,aF,av,ah,Nat.reduceEqDiff,reduceCtorEq,h0,h1,h5,h6,aI,aS,aX,aO];exact⟨rfl,.inl ⟨rfl,rfl,by simp only[aE,Nat.reduceEqDiff,reduceCtorEq,h1]⟩⟩
 |cons b l ih =>
  intro i m tm hl hi hm h0 h1 h5 h6;obtain⟨m,rfl⟩:∃ k,m=k+1:=⟨m-1,by simp at hm; omega⟩
  obtain⟨hb,dt,jm⟩:=dx hl;have aO:decide (i<G.length)=true:=fM dt;have dw:=add_one (n:=n) (by omega)
  have haddi:=add_one (n:=i) (by omega)
  have dX:=gw hb;have hixs:=gw hc;have more:∀ tm:Tr AV,tm.get 0=some (.str s)->tm.get 1=some (.int .i64 (.ofNat n))->tm.get 5=some (.str G)->tm.get 6=some (.int .i64 (.ofNat (i+1)))->ah (aY (ak call ag yT) m tm st) (IA n (iv l c) st) :=
   fun tm=>ih (i+1) m tm jm (by omega) (by simp at hm; omega)
  unfold iv;cases k:Nat.beq c.toNat b.toNat
  all_goals simp only[ax,yT,bF,aw,aF,av,ah,Nat.reduceEqDiff,reduceCtorEq,h0,h1,h5,h6,aI,aS,aX,aO,dw,haddi,dX,hixs,X2,k,e7,oo]
  ·exact more _ (by simp only[aE,Nat.reduceEqDiff,reduceCtorEq,h0]) (by simp only[aE,Nat.reduceEqDiff,reduceCtorEq,h1]) (by simp only[aE,Nat.reduceEqDiff,reduceCtorEq,h5]) (by simp only[aE,Nat.reduceEqDiff,reduceCtorEq])
  ·exact⟨rfl,.inr ⟨rfl,rfl,by simp only[aE,Nat.reduceEqDiff,reduceCtorEq]⟩⟩
theorem Ji {call:e8} {ag:Nat} {st:St} {s:List UInt8} {n:Nat} {c:UInt8} (hn:n<1000000) (hl:1000<=ag) (hc:nth s n=some c) (F:RF) (tm:Tr AV) (h0:tm.get 0=some (.str s)) (h1:tm.get 1=some (.int .i64 (.ofNat n))) (h5:tm.get 5=some (.str SG)) (h6:tm.get 6=some (.int .i64 0))
  (hF:∀ ay:Tr AV,ay.get 1=some (.int .i64 (.ofNat n))->bg [.t 4] (F ay st)=some (.int .i64 (.ofNat n),st)) :
  bg [.t 4] (R.andThen (R.block 0 (aY (ak call ag yT) ag tm st)) F)=some (.int .i64 (.ofNat (n+match iv SG c with |true=>1 |false=>0)),st):=by
 obtain⟨e,ay,ae,h,rfl,h2⟩:=bq (Jj (call:=call) (ag:=ag) (st:=st) hn (by decide) hc SG 0 ag tm rfl (by decide) (by show 17<ag; omega) h0 h1 h5 h6)
 rw[h];rcases h2 with⟨rfl,h2,h3⟩ |⟨rfl,h2,h3⟩
 ·rw[h2,bT,cT]
  exact hF ay h3
 ·rw[h2,jc,lP]
  exact b9 4 h3
theorem Jk {call:e8} {ag:Nat} (st:St) {s:List UInt8} (hs:s.length<1000000) (hl:1000<=ag) {n:Nat} (hn:n<s.length) :
  bg [.t 4] (ak call ag Lt (bb [.str s,.int .i64 (.ofNat n)] 0 .nil) st)=some (.int .i64 (.ofNat (n+vk (s.drop n))),st):=by
 obtain⟨c,l,hd⟩:∃ c l,s.drop n=c::l:=by rw[EU hn]; exact⟨_,_,rfl⟩
 obtain⟨hc,_,dA⟩:=dx hd;have U6:=add_one (n:=n) (by omega)
 have hadd2:=Iu (n:=n) (by omega)
 have tl:=fun F tm=>Ji (call:=call) (ag:=ag) (st:=st) (s:=s) (n:=n) (c:=c) (by omega) hl hc F tm
 rw[hd];unfold vk sY;cases l with
 |nil =>
  have aO:decide (n+1<s.length)=false:=nM (by have:=drop_nil dA (by omega); omega)
  have q1:jM [61,61] [c]=false:=rfl;have q2:jM [45,62] [c]=false:=rfl;simp only[Lt,bn,bF,aw,aF,av,ah,Nat.reduceEqDiff,reduceCtorEq,bx,bu,U6,aI,aS,aO,q1,q2,nO];refine tl _ _ ?_ ?_ ?_ ?_ fun ay h=>?_
  ·simp only[aE,Nat.reduceEqDiff,reduceCtorEq,bx]
  ·simp only[aE,Nat.reduceEqDiff,reduceCtorEq,bu]
  ·simp only[aE,Nat.reduceEqDiff,reduceCtorEq]<;>rfl
  ·simp only[aE,Nat.reduceEqDiff,reduceCtorEq]
  ·simp only[bF,aw,aF,av,ah,Nat.reduceEqDiff,reduceCtorEq,h]
   exact b9 4 (by simp only[aE,Nat.reduceEqDiff,reduceCtorEq])
 |cons d l =>
  obtain⟨hd2,dt,_⟩:=dx dA;have aO:decide (n+1<s.length)=true:=fM dt;have bH:vT s (some n) (some (n+2))=some (.str [c,d]):=by
   rw[vS (by omega) (by omega)]
   congr 2
   rw[List.drop_take,hd,show n+2-n=2 by omega]; rfl
  have q1:jM [61,61] (c::d::l)=mW [c,d] [61,61]:=by
   unfold jM;rw[fM (by simp)]; rfl
  have q2:jM [45,62] (c::d::l)=mW [c,d] [45,62]:=by
   unfold jM;rw[fM (by simp)]; rfl
  rw[q1,q2];cases k1:mW [c,d] [61,61]<;>cases k2:mW [c,d] [45,62]
  all_goals simp only[Lt,bn,dB,cH,bF,aw,aF,av,ah,Nat.reduceEqDiff,reduceCtorEq,bx,bu,U6,hadd2,aI,aS,aX,aO,bH,lB,k1,k2,Bool.or_true,nO,e7,oo]
  ·refine tl _ _ ?_ ?_ ?_ ?_ fun ay h=>?_
   ·simp only[aE,Nat.reduceEqDiff,reduceCtorEq,bx]
   ·simp only[aE,Nat.reduceEqDiff,reduceCtorEq,bu]
   ·simp only[aE,Nat.reduceEqDiff,reduceCtorEq]<;>rfl
   ·simp only[aE,Nat.reduceEqDiff,reduceCtorEq]
   ·simp only[bF,aw,aF,av,ah,Nat.reduceEqDiff,reduceCtorEq,h]
    exact b9 4 (by simp only[aE,Nat.reduceEqDiff,reduceCtorEq])
  all_goals exact b9 4 (by simp only[aE,Nat.reduceEqDiff,reduceCtorEq])
theorem Fb {call:e8} {ag:Nat} (st:St) (w:List UInt8):bg [.t 2] (ak call ag Rc (bb [.str w] 0 .nil) st)=some (.bool (iQ w),st):=by
 unfold iQ;have hl:ur (.str [57,50,50,51,51,55,50,48,51,54,56,53,52,55,55,53,56,48,56])=some (.int .i64 (.ofNat 19)):=rfl;have Lo:bE .gtr .int (.int .i64 (.ofNat w.length)) (.int .i64 (.ofNat 19))=some (.bool (decide (19<w.length))):=mS _ _;have e19:bE .eql .int (.int .i64 (.ofNat w.length)) (.int .i64 (.ofNat 19))=some (.bool (Nat.beq w.length 19)):=rfl;cases q1:decide (19<w.length)<;>rw[q1] at Lo<;>cases q2:Nat.beq w.length 19<;>rw[q2] at e19
 all_goals simp only[Rc,bF,aw,aF,av,ah,Nat.reduceEqDiff,reduceCtorEq,bz,hl,aS,Lo,e19,Dd,oo,e7,gI,jh]
 all_goals exact b9 2 (by simp only[aE,Nat.reduceEqDiff,reduceCtorEq])
structure QI (ag:Nat) (call:e8):Prop extends CallR call where
 w:∀ (s:List UInt8) (n:Nat) st,s.length<1000000->s.length<ag->n<=s.length->call 164 [.str s,.int .i64 (.ofNat n)] st=some (.int .i64 (.ofNat (n+aM fX (s.drop n))),st)
 m:∀ (s:List UInt8) (n:Nat) st,s.length<1000000->s.length<ag->n<=s.length->call 166 [.str s,.int .i64 (.ofNat n)] st=some (.int .i64 (.ofNat (n+aM cP (s.drop n))),st)
 g:∀ (s:List UInt8) (n:Nat) st,s.length<1000000->1000<=ag->n<s.length->call 168 [.str s,.int .i64 (.ofNat n)] st=some (.int .i64 (.ofNat (n+vk (s.drop n))),st)
 t:∀ (w:List UInt8) st,call 167 [.str w] st=some (.bool (iQ w),st)
def tokZ:AV:=.agg [.int .i64 0,.str [],.int .i64 0]
def Hd (e:Nat) (t:AV):AV:=.cv [match e with
 |0=>t
 |_+1=>tokZ,.int .i64 (.ofNat e)]
theorem PC {tm:Tr AV} {st:St} {k:Nat} {a b c v:AV} (h:tm.get 4=some (.ptr k 0)) (h1:st.heap.get k=some (.box 1 [a,b,c])) (h5:tm.get 5=some v):bg [.cell 4 3 true,.t 5] (.ok .ret tm st)=some (.cv [.agg [a,b,c],v],st):=by
 have e1:aD tm (.t 4) = .ptr k 0:=by rw[dC,h]; rfl
 have e2:l8 tm st (.cell 4 3 true)=some (.agg [a,b,c]):=by
  unfold l8;simp only[e1,cc,h1]
  rfl
 have e3:l8 tm st (.t 5)=some v:=by
  show some (aD tm (.t 5))=_
  rw[dC,h5]; rfl
 show(match gu tm st [.cell 4 3 true,.t 5] with |some vs=>some (jJ vs,st) |none=>none)=_
 have e4:gu tm st [.cell 4 3 true,.t 5]=some [.agg [a,b,c],v]:=by
  unfold gu;rw[e2];unfold gu;rw[e3]
  rfl
 rw[e4]
 rfl
def BA (r:Option (AV × St)) (v:AV) (st:St):Prop:=∃ ae,r=some (v,ae)/\ae.next=st.next+1/\∀ j,j<st.next->ae.heap.get j=st.heap.get j
theorem ky {tm:Tr AV} {st:St} {x y z a b c v w:AV} (h:tm.get 4=some (.ptr st.next 0)) (h5:tm.get 5=some v) (hw:w = .cv [.agg [a,b,c],v]):BA (bg [.cell 4 3 true,.t 5] (.ok .ret tm ((st.new (.box 0 [x,y,z])).put st.next (.box 1 [a,b,c])))) w st:=by
 subst hw;exact⟨_,PC h ((aK _ _ _ _).trans (bJ rfl)) h5,rfl,fun j hj=>by rw[aK,ba (by omega),aJ,ba (by omega)]⟩
theorem EG {call:e8} {ag:Nat} (hc:QI ag call) (st:St) {s:List UInt8} (hs:s.length<1000000) (hl:s.length<ag) (lU:1000<=ag) {n:Nat} (hn:n<s.length) :
  BA (bg [.cell 4 3 true,.t 5] (ak call ag QK (bb [.str s,.int .i64 (.ofNat n)] 0 .nil) st)) (Hd (mV (bP (s.drop n)).1 ((s.drop n).take (bP (s.drop n)).2)) (jA (bP (s.drop n)).1 n ((s.drop n).take (bP (s.drop n)).2))) st:=by
 obtain⟨c,l,hd⟩:∃ c l,s.drop n=c::l:=by rw[EU hn]; exact⟨_,_,rfl⟩
 obtain⟨hcc,_,dA⟩:=dx hd;have dX:=gw hcc;have hw:=mB fX (s.drop n);have hm:=mB cP (s.drop n);have hlen:(s.drop n).length=s.length-n:=gL ..;have kw:=fun st=>hc.w s n st hs hl (by omega)
 have km:=fun st=>hc.m s n st hs hl (by omega)
 have kg:=fun st=>hc.g s n st hs lU (by omega)
 have kt:=hc.t;have kl:=hc.l c;have kd:=hc.d c;obtain⟨nk1,Sc,WA⟩:=rP (s.drop n);have bH:∀ k,k<=s.length-n->vT s (some n) (some (n+k))=some (.str ((s.drop n).take k)):=by
  intro k hk;rw[vS (by omega) (by omega),List.drop_take,ES]
 have QR:∀ k,k<=s.length-n->bE .sub .int (.int .i64 (.ofNat (n+k))) (.int .i64 (.ofNat n))=some (.int .i64 (.ofNat k)):=by
  intro k hk;rw[GK (by omega) (by omega),ES]
 rw[hlen] at hw hm Sc;rw[hd] at hw hm kw km kg bH nk1 Sc WA ⊢;rw[mM] at nk1 Sc WA ⊢;unfold Hd mV;have E0:Nat.beq 0 0=true:=rfl;have b02:Nat.beq 0 2=false:=rfl;have YC:Nat.beq 1 2=false:=rfl;have Ua:Nat.beq 1 0=false:=rfl;have YD:Nat.beq 1 1=true:=rfl;have Lp:Nat.beq 2 0=false:=rfl;have Q6:Nat.beq 2 1=false:=rfl;have Q5:Nat.beq 2 2=true:=rfl;have b30:Nat.beq 3 0=false:=rfl;have b31:Nat.beq 3 1=false:=rfl;have b32:Nat.beq 3 2=false:=rfl;have XI:∀ k,Nat.beq (n+k) n=Nat.beq k 0:=fun k=>by
  rw[bo,bo]
  by_cases h:k=0
  ·subst h; simp
  ·rw[nM h,nM (by omega)]
 cases q1:isLet c.toNat<;>rw[q1] at kl nk1 Sc WA
 ·cases q2:cP c.toNat<;>rw[q2] at kd nk1 Sc WA
  ·have hsg:vk (c::l)=(match sY (c::l) with |true=>(3,2) |false=>match iv SG c with |true=>(3,1) |false=>(0,0):Nat × Nat).2:=by
    show(match sY (c::l) with |true=>2 |false=>match iv SG c with |true=>1 |false=>0)=_
    cases sY (c::l)<;>cases iv SG c<;>rfl
   rw[hsg] at kg;cases q3:sY (c::l)<;>rw[q3] at kg nk1 Sc WA
   ·cases q4:iv SG c<;>rw[q4] at kg nk1 Sc WA
    ·simp only[QK,dB,cH,eV,eU,fm,mX,dH,lH,bF,aw,aF,av,ah,Nat.reduceEqDiff,reduceCtorEq,bx,bu,dX,kl,kd,kg,Ba,XI,aX,E0,oo]
     exact ky (by simp only[aE,Nat.reduceEqDiff,reduceCtorEq]) (by simp only[aE,Nat.reduceEqDiff,reduceCtorEq]<;>rfl) rfl
    ·have h1:=bH 1 Sc
     have iB:((c::l).take 1).length=1:=rfl;have Ua:Nat.beq 1 0=false:=rfl;simp only[QK,dB,cH,eV,eU,fm,mX,dH,lH,bF,aw,aF,av,ah,Nat.reduceEqDiff,reduceCtorEq,bx,bu,dX,kl,kd,kg,Ba,XI,aX,h1,b30,b31,b32,Ua,e7,jh];exact ky (by simp only[aE,Nat.reduceEqDiff,reduceCtorEq]) (by simp only[aE,Nat.reduceEqDiff,reduceCtorEq]<;>rfl) rfl
   ·have h1:=bH 2 Sc
    have Lp:Nat.beq 2 0=false:=rfl;simp only[QK,dB,cH,eV,eU,fm,mX,dH,lH,bF,aw,aF,av,ah,Nat.reduceEqDiff,reduceCtorEq,bx,bu,dX,kl,kd,kg,Ba,XI,aX,h1,b30,b31,b32,Lp,e7,jh];exact ky (by simp only[aE,Nat.reduceEqDiff,reduceCtorEq]) (by simp only[aE,Nat.reduceEqDiff,reduceCtorEq]<;>rfl) rfl
  ·have yA:=WA (by show 2≠0; omega)
   obtain⟨hz,qH⟩:=Ht (c:=c) (l:=l) yA;have h1:=bH _ hm;have h2:=QR _ hm;have ktw:=kt ((c::l).take (aM cP (c::l)));have SZ:((c::l).take (aM cP (c::l))).length=aM cP (c::l):=by rw[mG]; rw[<-hd,hlen,hd]; omega
   cases q3:decide (1<aM cP (c::l))
   ·cases q5:iQ ((c::l).take (aM cP (c::l)))<;>rw[q5] at ktw
    all_goals simp only[QK,dB,cH,eV,eU,fm,mX,dH,lH,bF,aw,aF,av,ah,Nat.reduceEqDiff,reduceCtorEq,bx,bu,dX,kl,kd,km,ktw,h1,h2,FJ,Yk,SZ,q3,q5,aX,Lp,Q6,Q5,e7,gI,jh]
    all_goals exact ky (by simp only[aE,Nat.reduceEqDiff,reduceCtorEq]) (by simp only[aE,Nat.reduceEqDiff,reduceCtorEq]<;>rfl) rfl
   ·cases q4:Nat.beq c.toNat 48
    ·cases q5:iQ ((c::l).take (aM cP (c::l)))<;>rw[q5] at ktw
     all_goals simp only[QK,dB,cH,eV,eU,fm,mX,dH,lH,bF,aw,aF,av,ah,Nat.reduceEqDiff,reduceCtorEq,bx,bu,dX,kl,kd,km,ktw,h1,h2,FJ,Yk,SZ,qH,q3,q4,q5,aX,Lp,Q6,Q5,e7,gI,jh]
     all_goals exact ky (by simp only[aE,Nat.reduceEqDiff,reduceCtorEq]) (by simp only[aE,Nat.reduceEqDiff,reduceCtorEq]<;>rfl) rfl
    ·simp only[QK,dB,cH,eV,eU,fm,mX,dH,lH,bF,aw,aF,av,ah,Nat.reduceEqDiff,reduceCtorEq,bx,bu,dX,kl,kd,km,ktw,h1,h2,FJ,Yk,SZ,qH,q3,q4,aX,Lp,Q6,Q5,e7,gI,jh]
     exact ky (by simp only[aE,Nat.reduceEqDiff,reduceCtorEq]) (by simp only[aE,Nat.reduceEqDiff,reduceCtorEq]<;>rfl) rfl
 ·have h1:=bH _ hw
  have h2:=QR _ hw;have SZ:((c::l).take (aM fX (c::l))).length=aM fX (c::l):=by rw[mG]; rw[<-hd,hlen,hd]; omega
  cases q3:decide (16<aM fX (c::l))
  all_goals simp only[QK,dB,cH,eV,eU,fm,mX,dH,lH,bF,aw,aF,av,ah,Nat.reduceEqDiff,reduceCtorEq,bx,bu,dX,kl,kd,kw,h1,h2,qi,SZ,q3,aX,Ua,YD,YC,e7,nO,gI,jh]
  all_goals exact ky (by simp only[aE,Nat.reduceEqDiff,reduceCtorEq]) (by simp only[aE,Nat.reduceEqDiff,reduceCtorEq]<;>rfl) rfl
structure Gr (ag:Nat) (call:e8):Prop where
 b:∀ (s:List UInt8) (n:Nat) st,s.length<1000000->s.length<ag->n<=s.length->call 83 [.str s,.int .i64 (.ofNat n)] st=some (.int .i64 (.ofNat (n+bc false (s.drop n))),st)
 x:∀ (s:List UInt8) (n:Nat) st,s.length<1000000->s.length<ag->1000<=ag->n<s.length->BA (call 84 [.str s,.int .i64 (.ofNat n)] st) (Hd (mV (bP (s.drop n)).1 ((s.drop n).take (bP (s.drop n)).2)) (jA (bP (s.drop n)).1 n ((s.drop n).take (bP (s.drop n)).2))) st
theorem HJ (a:Nat):bE .geq .int (.int .i64 (.ofNat a)) (.int .i64 6000)=some (.bool (Nat.ble 6000 a)):=by
 have h:=vE a 6000;have e:decide (6000<=a)=Nat.ble 6000 a:=by
  cases q:Nat.ble 6000 a with
  |true=>rw[gJ] at q; exact fM q
  |false=>exact nM (by have:=oZ q; omega)
 rw[e] at h;exact h
theorem Sf (a:Nat):bE .neq .int (.int .i64 (.ofNat a)) (.int .i64 0)=some (.bool (!(Nat.beq a 0))):=rfl
theorem IY {call:e8} {ag:Nat} (hc:Gr ag call) {s:List UInt8} (hs:s.length<1000000) (hl:s.length<ag) (lU:1000<=ag):∀ (f n m:Nat) (tm:Tr AV) (st:St) (es:List AV) (o:AV),(s.drop n).length<f->n<=s.length->f<=m->es.length<=6000->tm.get 0=some (.str s)->tm.get 6=some (.int .i64 (.ofNat n))->tm.get 5=some o->Out es o st ->
  ah (aY (ak call ag uy) m tm st) (jd es (iF f (s.drop n) n es.length)):=by
 intro f
 induction f with
 |zero=>intro n m tm st es o h; omega
 |succ f ih =>
  intro n m tm st es o hf hn hm hlen h0 h6 h5 hO;obtain⟨m,rfl⟩:∃ k,m=k+1:=⟨m-1,by omega⟩
  cases hd:s.drop n with
  |nil =>
   have aO:decide (n<s.length)=false:=nM (by have:=drop_nil hd hn; omega)
   simp only[ax,uy,bF,aw,aF,av,ah,Nat.reduceEqDiff,reduceCtorEq,h0,h6,aI,aS,aO];exact⟨rfl,o,by simp only[aE,Nat.reduceEqDiff,reduceCtorEq,h5],by simpa using hO⟩
  |cons c l =>
   obtain⟨hcc,dt,dA⟩:=dx hd;have aO:decide (n<s.length)=true:=fM dt;obtain⟨bY,hx,SY,Ob⟩:=hc.x s n st hs hl lU dt;obtain⟨k1,k2,k3⟩:=rP (s.drop n);have nE:(s.drop n).length=s.length-n:=gL ..;rw[hd] at hx k1 k2 k3;rw[ko]
   generalize hK:bP (c::l)=K at hx k1 k2 k3 ⊢
   obtain⟨K,k⟩:=K;simp only at hx k1 k2 k3 ⊢;have hk:n+k<=s.length:=by rw[<-hd] at k2; omega
   have Ln:(c::l).drop k=s.drop (n+k):=by rw[<-hd,yp]
   have hb:=fun st=>hc.b s (n+k) st hs hl hk
   have hw:((c::l).take k).length=k:=by rw[mG]; omega
   have mj:=hO.len;have err:∀ (tm:Tr AV) (st:St) (e:Nat),tm.get 2=some .az->tm.get 3=some (.int .i64 (.ofNat n))->tm.get 4=some (.int .i64 (.ofNat e))->jd es (.error (e,n)) .ret tm st:=fun tm st e a b c=>⟨rfl,a,b,c⟩
   have h00:Nat.beq 0 0=true:=rfl;cases he:mV K ((c::l).take k) with
   |succ e =>
    rw[he] at hx;unfold Hd tokZ at hx;have QS:Nat.beq (e+1) 0=false:=rfl;simp only[ax,uy,eV,eU,lH,fp,tR,tQ,bF,aw,aF,av,ah,Nat.reduceEqDiff,reduceCtorEq,h0,h5,h6,aI,aS,aO,hx,Sf,QS];exact err _ _ _ (by simp only[aE,Nat.reduceEqDiff,reduceCtorEq]) (by simp only[aE,Nat.reduceEqDiff,reduceCtorEq,h6]<;>rfl) (by simp only[aE,Nat.reduceEqDiff,reduceCtorEq])
   |zero =>
    rw[he] at hx;have hK1:K≠0:=fun h=>by
     subst h;unfold mV at he;have h00:Nat.beq 0 0=true:=rfl;simp only[h00,oo] at he;cases he
    have yA:=k3 hK1;have hx:call 84 [.str s,.int .i64 (.ofNat n)] st=some (.cv [.agg [.int .i64 (.ofNat K),.str ((c::l).take k),.int .i64 (.ofNat n)],.int .i64 (.ofNat 0)],bY):=hx;cases q6:Nat.ble 6000 es.length
    ·have tJ:=oZ q6
     have hO1:Out es o ((bY.new (.box 0 [.int .i64 0,.str [],.int .i64 0])).put bY.next (.box 1 [.int .i64 (.ofNat K),.str ((c::l).take k),.int .i64 (.ofNat n)])) :=
      hO.cI (by show st.next<=bY.next+1; omega) fun j hj=>by rw[aK,ba (by omega),aJ,ba (by omega),Ob j hj]
     obtain⟨o',fJ,tK,hO2,nD,hh2⟩:=hO1.app (v:=jA K n ((c::l).take k)) tJ;unfold jA at tK;have OS:((bY.new (.box 0 [.int .i64 0,.str [],.int .i64 0])).put bY.next (.box 1 [.int .i64 (.ofNat K),.str ((c::l).take k),.int .i64 (.ofNat n)])).heap.get bY.next=some (.box 1 [.int .i64 (.ofNat K),.str ((c::l).take k),.int .i64 (.ofNat n)]):=by rw[aK,bJ rfl]
     have qQ:fJ.heap.get bY.next=some (.box 1 [.int .i64 (.ofNat K),.str ((c::l).take k),.int .i64 (.ofNat n)]):=by
      rw[hh2 bY.next (by show bY.next<bY.next+1; omega) (by rw[OS]; intro e; cases e),OS]
     have iB:=ND OS;have w9:=NC qQ;have dw:=sH (a:=n) (b:=k) (by omega)
     have more:∀ tm:Tr AV,tm.get 0=some (.str s)->tm.get 6=some (.int .i64 (.ofNat (n+k+bc false (s.drop (n+k)))))->tm.get 5=some o' ->
       ah (aY (ak call ag uy) m tm fJ) (jd es (zA (jA K n ((c::l).take k)) (iF f (((c::l).drop k).drop (bc false ((c::l).drop k))) (n+k+bc false ((c::l).drop k)) (es.length+1)))):=by
      intro tm g0 g6 g5;have hle:=jf false (s.drop (n+k));have w9:(s.drop (n+k)).length=s.length-(n+k):=gL ..;have:=ih (n+k+bc false (s.drop (n+k))) m tm fJ (es++[jA K n ((c::l).take k)]) o' (by rw[gL]; rw[nE] at hf; omega) (by omega) (by omega) (by rw[mF]; show es.length+1<=6000; omega) g0 g6 g5 hO2
      rw[Ln,yp];rw[mF] at this;obtain⟨e,cB,fJ,h1,h2⟩:=bq this;rw[h1];exact yV h2
     simp only[ax,uy,eV,eU,lH,fp,tR,tQ,eM,pJ,jE,gh,gx,su,fad1,bF,aw,aF,av,ah,Nat.reduceEqDiff,reduceCtorEq,h0,h5,h6,aI,aS,aO,hx,Sf,h00,mj,HJ,q6,iB,tK,w9,hw,dw,hb];exact more _ (by simp only[aE,Nat.reduceEqDiff,reduceCtorEq,h0]) (by simp only[aE,Nat.reduceEqDiff,reduceCtorEq]) (by simp only[aE,Nat.reduceEqDiff,reduceCtorEq])
    ·simp only[ax,uy,eV,eU,lH,fp,tR,tQ,eM,pJ,jE,gh,gx,su,fad1,bF,aw,aF,av,ah,Nat.reduceEqDiff,reduceCtorEq,h0,h5,h6,aI,aS,aO,hx,Sf,h00,mj,HJ,q6]
     exact err _ _ _ (by simp only[aE,Nat.reduceEqDiff,reduceCtorEq]) (by simp only[aE,Nat.reduceEqDiff,reduceCtorEq,h6]<;>rfl) (by simp only[aE,Nat.reduceEqDiff,reduceCtorEq]<;>rfl)
theorem IZ {call:e8} {ag:Nat} (hc:Gr ag call) (st:St) {s:List UInt8} (hl:20000<=ag) (hle:s.length<=16384) :
  ∃ v ae,bg [.t 2,.t 3,.t 4] (ak call ag y39 (bb [.str s] 0 .nil) st)=some (v,ae)/\zU (iF (s.length+1) (s.drop (bc false s)) (bc false s) 0) v ae:=by
 have jx:=fun st=>hc.b s 0 st (by omega) (by omega) (by omega)
 simp only[List.drop_zero,kT] at jx;have e0:(AV.int .i64 (.ofNat 0)) = .int .i64 0:=rfl;rw[e0] at jx;have uJ:=jf false s;simp only[y39,bn,bF,aw,aF,av,ah,Nat.reduceEqDiff,reduceCtorEq,bz,jx];refine B9 (oA:=uy) (IY hc (s:=s) (by omega) (by omega) (by omega) (s.length+1) (bc false s) ag _ st [] .az (by rw[gL]; omega) uJ (by omega) (by simp) ?_ ?_ ?_ (.inl ⟨rfl,rfl⟩)) _ fun ay ae o h5=>?_
 ·simp only[aE,Nat.reduceEqDiff,reduceCtorEq,bz]
 ·simp only[aE,Nat.reduceEqDiff,reduceCtorEq]
 ·simp only[aE,Nat.reduceEqDiff,reduceCtorEq]
 ·simp only[bF,aw,aF,av,ah,Nat.reduceEqDiff,reduceCtorEq,h5]
  exact kH 2 3 4 (by simp only[aE,Nat.reduceEqDiff,reduceCtorEq]) (by simp only[aE,Nat.reduceEqDiff,reduceCtorEq]) (by simp only[aE,Nat.reduceEqDiff,reduceCtorEq])
theorem yM:∀ (f:Nat) (l:List UInt8) (n k e p:Nat),iF f l n k = .error (e,p)->Nat.beq e 0=false:=by
 intro f
 induction f with
 |zero=>intro l n k e p h; cases h
 |succ f ih =>
  intro l n k e p h;cases l with
  |nil=>cases h
  |cons c l =>
   rw[ko] at h;split at h
   ·split at h
    ·cases h; rfl
    ·cases hq:iF f (((c::l).drop (bP (c::l)).2).drop (bc false ((c::l).drop (bP (c::l)).2))) (n+(bP (c::l)).2+bc false ((c::l).drop (bP (c::l)).2)) (k+1) with
     |error q=>rw[hq] at h; cases h; exact ih _ _ _ _ _ hq
     |ok ts=>rw[hq] at h; cases h
   ·cases h; rfl
theorem EF {call:e8} {ag:Nat} (h39:∀ (s:List UInt8) st,s.length<=16384->∃ v ae,call 39 [.str s] st=some (v,ae)/\zU (iF (s.length+1) (s.drop (bc false s)) (bc false s) 0) v ae) (st:St) (s:List UInt8) :
  ∃ v ae,bg [.t 2,.t 3,.t 4] (ak call ag y18 (bb [.str s] 0 .nil) st)=some (v,ae)/\zU (gC s) v ae:=by
 unfold gC;cases hq:decide (16384<s.length)
 ·have hle:=MU hq
  obtain⟨v,ae,h1,h2⟩:=h39 s st (by omega)
  cases hr:iF (s.length+1) (s.drop (bc false s)) (bc false s) 0 with
  |ok ts =>
   rw[hr] at h2;obtain⟨o,rfl,hO⟩:=h2;have n0:bE .neq .int (.int .i64 0) (.int .i64 0)=some (.bool false):=rfl;simp only[y18,fp,TJ,TH,TG,bF,aw,aF,av,ah,Nat.reduceEqDiff,reduceCtorEq,bz,aS,oK,hq,h1,n0];exact⟨_,ae,kH 2 3 4 (by simp only[aE,Nat.reduceEqDiff,reduceCtorEq]) (by simp only[aE,Nat.reduceEqDiff,reduceCtorEq]) (by simp only[aE,Nat.reduceEqDiff,reduceCtorEq]),o,rfl,hO⟩
  |error q =>
   obtain⟨e,p⟩:=q;rw[hr] at h2;have h2:v = .cv [.az,.int .i64 (.ofNat p),.int .i64 (.ofNat e)]:=h2;subst h2;have he:=yM _ _ _ _ _ _ hr;simp only[y18,fp,TJ,TH,TG,bF,aw,aF,av,ah,Nat.reduceEqDiff,reduceCtorEq,bz,aS,oK,hq,h1,Sf,he];exact⟨_,ae,kH 2 3 4 (by simp only[aE,Nat.reduceEqDiff,reduceCtorEq]) (by simp only[aE,Nat.reduceEqDiff,reduceCtorEq]) (by simp only[aE,Nat.reduceEqDiff,reduceCtorEq]),rfl⟩
 ·simp only[y18,bF,aw,aF,av,ah,Nat.reduceEqDiff,reduceCtorEq,bz,aS,oK,hq]
  exact⟨_,st,kH 2 3 4 (by simp only[aE,Nat.reduceEqDiff,reduceCtorEq]) (by simp only[aE,Nat.reduceEqDiff,reduceCtorEq]<;>rfl) (by simp only[aE,Nat.reduceEqDiff,reduceCtorEq]<;>rfl),rfl⟩
end
end Go.Ev
theorem EN:type_of% @Nat.div_add_mod:=@Nat.div_add_mod
theorem RY:type_of% @Nat.eq_of_mul_eq_mul_right:=@Nat.eq_of_mul_eq_mul_right
namespace Go.Ev
open Go.RowKit
structure Wr where
 s:Nat
 fo:Nat
 new:List AV
 Lb:List AV
 home:Option (Nat × Nat)
def yd (a b:AV):Prop:=match a with
 | .int k n=>b = .int k n\/b = .any
 | .bool x=>b = .bool x\/b = .any
 | .str s=>b = .str s\/b = .any
 |_=>True
def pO (W:Wr) (cs:List AV):Prop:=∀ j a b,W.Lb[j]?=some a->cs[W.fo+j]?=some b->yd a b
def vK (e e':AV):Prop:=(∃ cs cD,e = .agg cs/\e' = .agg cD)\/(e.cells=[e]/\e'.cells=[e'])\/(e.cells=[]/\e'=e)
def La (W:Wr) (size:Nat) (m:Bool) (e:AV) (cy:List AV) (e':AV):Prop:=vK e e'/\((m=false/\e'.cells=cy)\/(size=W.s/\W.fo+W.new.length<=cy.length/\pO W cy/\e'.cells=aZ cy W.fo W.new))
def yu (W:Wr) (size n:Nat) (t:lV):Option Nat:=match W.home,t with
 |some (id,back),.at N8=>bif Nat.beq id N8&&(Nat.beq size W.s&&(Nat.beq (back % size) 0&&(Nat.ble 1 (back / size)&&Nat.ble (back / size) n))) then some (n-back / size) else none
 |_,_=>none
def yj:Option Nat->Bool
 |some 0=>true
 |_=>false
def UE:Option Nat->Option Nat
 |some (k+1)=>some k
 |_=>none
mutual
inductive Up (W:Wr):AV->AV->Prop where
 |same (a:AV):Up W a a
 |ro (cs cD:List AV) (off:Nat) (h:Option (Nat × Nat)):DZ W cs.length none [.agg cs] [.agg cD]->Up W (.ro cs off h) (.ro cD off h)
 |sl (size:Nat) (es cr:List AV) (t:lV):DZ W size (yu W size es.length t) es cr->Up W (.sl size es t) (.sl size cr t)
 |fn (f:Nat) (a b a' b':List AV):kS W a a'->kS W b b'->Up W (.fn f a b) (.fn f a' b')
 |agg (cs cD:List AV):kS W cs cD->Up W (.agg cs) (.agg cD)
 |cv (cs cD:List AV):kS W cs cD->Up W (.cv cs) (.cv cD)
inductive kS (W:Wr):List AV->List AV->Prop where
 |nil:kS W [] []
 |cons (a a':AV) (l l':List AV):Up W a a'->kS W l l'->kS W (a::l) (a'::l')
inductive DZ (W:Wr):Nat->Option Nat->List AV->List AV->Prop where
 |nil (size:Nat) (m:Option Nat):DZ W size m [] []
 |cons (size:Nat) (m:Option Nat) (e e':AV) (cy es cr:List AV):kS W e.cells cy->La W size (yj m) e cy e'->DZ W size (UE m) es cr->DZ W size m (e::es) (e'::cr)
end
section
variable {W : Wr}
theorem kS.length {l l':List AV} (h:kS W l l'):l'.length=l.length:=by
 induction l generalizing l' with
 |nil=>cases h; rfl
 |cons a l ih=>cases h with |cons _ _ _ _ _ h2=>simp[ih h2]
theorem DZ.length {size:Nat} {m:Option Nat} {l l':List AV} (h:DZ W size m l l'):l'.length=l.length:=by
 induction l generalizing l' m with
 |nil=>cases h; rfl
 |cons a l ih=>cases h with |cons _ _ _ _ _ _ _ _ _ h2=>simp[ih h2]
theorem kS.split {a b c:List AV} (h:kS W (a++b) c):∃ c1 c2,c=c1++c2/\kS W a c1/\kS W b c2:=by
 induction a generalizing c with
 |nil=>exact⟨[],c,rfl,.nil,h⟩
 |cons x a ih=>cases h with
  |cons _ y _ l' h1 h2 =>
   obtain⟨c1,c2,rfl,h3,h4⟩:=ih h2;exact⟨y::c1,c2,rfl,.cons _ _ _ _ h1 h3,h4⟩
theorem kS.get {l l':List AV} (h:kS W l l') {i:Nat} {a a':AV} (ha:l[i]?=some a) (u4:l'[i]?=some a'):Up W a a':=by
 induction l generalizing l' i with
 |nil=>simp at ha
 |cons x l ih=>cases h with
  |cons _ y _ l'' h1 h2=>cases i with
   |zero=>simp at ha u4; subst ha u4; exact h1
   |succ i=>simp at ha u4; exact ih h2 ha u4
def UN (m:Option Nat) (i:Nat):Bool:=match m with
 |some k=>Nat.beq k i
 |none=>false
theorem CP (m:Option Nat):UN m 0=yj m:=by
 cases m with
 |none=>rfl
 |some k=>cases k<;>rfl
theorem CQ (m:Option Nat) (i:Nat):UN (UE m) i=UN m (i+1):=by
 cases m with
 |none=>rfl
 |some k=>cases k<;>rfl
theorem LQ {size:Nat}:∀ {es cr:List AV} {m:Option Nat},cr.length=es.length->(∀ (i:Nat) (e e':AV),es[i]?=some e->cr[i]?=some e'->∃ cy,kS W e.cells cy/\La W size (UN m i) e cy e')->DZ W size m es cr:=by
 intro es
 induction es with
 |nil=>intro cr m h _; have h0:cr=[]:=qz (by simpa using h); subst h0; exact .nil _ _
 |cons e es ih =>
  intro cr m h hx;cases cr with
  |nil=>simp at h
  |cons e' cr =>
   obtain⟨cy,h1,h2⟩:=hx 0 e e' rfl rfl;rw[CP] at h2;exact .cons _ _ _ _ cy _ _ h1 h2 (ih (by simpa using h) fun i a b ha hb=>by rw[CQ]; exact hx (i+1) a b (by simpa using ha) (by simpa using hb))
theorem DZ.get {size:Nat}:∀ {es cr:List AV} {m:Option Nat},DZ W size m es cr->∀ {i:Nat} {e e':AV},es[i]?=some e->cr[i]?=some e'->∃ cy,kS W e.cells cy/\La W size (UN m i) e cy e':=by
 intro es
 induction es with
 |nil=>intro cr m h i e e' he; simp at he
 |cons a es ih =>
  intro cr m h i e e' he eO;cases h with
  |cons _ _ _ a' cy _ X1 h1 h2 h3 =>
   cases i with
   |zero=>simp at he eO; subst he eO; exact⟨cy,h1,by rw[CP]; exact h2⟩
   |succ i=>simp at he eO; obtain⟨cy,q1,q2⟩:=ih h3 he eO; exact⟨cy,q1,by rw[CQ] at q2; exact q2⟩
theorem VP {k:IntKind} {n:Int} {x:AV} (h:Up W (.int k n) x):x = .int k n:=by cases h; rfl
theorem Rq {b:Bool} {x:AV} (h:Up W (.bool b) x):x = .bool b:=by cases h; rfl
theorem VN {s:List UInt8} {x:AV} (h:Up W (.str s) x):x = .str s:=by cases h; rfl
theorem Ec {x:AV} (h:Up W .any x):x = .any:=by cases h; rfl
theorem uR (e:AV):(∃ cs,e = .agg cs)\/e.cells=[e]\/e.cells=[]:=by
 cases e<;>first |exact .inl ⟨_,rfl⟩ |exact .inr (.inl rfl) |exact .inr (.inr rfl)
theorem Rr {e c:AV} (h:Up W e c) (he:e.cells=[e]):c.cells=[c]:=by
 cases h with
 |same=>exact he
 |ro=>rfl
 |sl=>rfl
 |fn=>rfl
 |agg cs cD=>exfalso; have h2:=congrArg List.head? he; cases cs with
  |nil=>cases he
  |cons a l =>
   have h3:some a=some (AV.agg (a::l)):=h2;injection h3 with h3
   have h4:=congrArg (fun x:AV=>SizeOf.sizeOf x) h3
   simp at h4;omega
 |cv=>cases he
theorem RU {size:Nat}:∀ {es cD:List AV},(∀ e∈es,e.cells.length=size)->kS W (flat es) cD->∃ qS,flat qS=cD/\qS.length=es.length/\(∀ e∈qS,e.cells.length=size) /\
  ∀ (i:Nat) (e e':AV),es[i]?=some e->qS[i]?=some e'->kS W e.cells e'.cells/\vK e e':=by
 intro es
 induction es with
 |nil=>intro cD _ h; cases h; exact⟨[],rfl,rfl,(fun _ h=>by cases h),fun i e e' h=>by simp at h⟩
 |cons e es ih =>
  intro cD hs h;rw[b8] at h;obtain⟨c1,c2,rfl,h1,h2⟩:=h.split;obtain⟨qS,h3,h4,h5,h6⟩:=ih (fun x hx=>hs x (by simp[hx])) h2
  obtain⟨e1,h7,h8⟩:∃ e1:AV,e1.cells=c1/\vK e e1:=by
   rcases uR e with⟨cs,rfl⟩ |he |he
   ·exact⟨.agg c1,rfl,.inl ⟨_,_,rfl,rfl⟩⟩
   ·rw[he] at h1
    cases h1 with
    |cons _ c _ l' h1 hn =>
     cases hn
     have hc:=Rr h1 he;exact⟨c,hc,.inr (.inl ⟨he,hc⟩)⟩
   ·rw[he] at h1
    cases h1
    exact⟨e,he,.inr (.inr ⟨he,rfl⟩)⟩
  refine⟨e1::qS,by rw[b8,h7,h3],by simp[h4],?_,?_⟩
  ·intro x hx
   rcases lI.1 hx with rfl |hx
   ·rw[h7,h1.length]; exact hs e (by simp)
   ·exact h5 x hx
  ·intro i a b ha hb
   cases i with
   |zero=>simp at ha hb; subst ha hb; rw[h7]; exact⟨h1,h8⟩
   |succ i=>exact h6 i a b (by simpa using ha) (by simpa using hb)
theorem uO {size:Nat}:∀ {es:List AV} {j:Nat} {x:AV},(∀ e∈es,e.cells.length=size)->x.cells.length=size->j<es.length->flat (es.set j x)=(flat es).take (j*size)++x.cells++(flat es).drop (j*size+size):=by
 intro es
 induction es with
 |nil=>intro j x _ _ h; simp at h
 |cons e es ih =>
  intro j x hs hx hj;have he:e.cells.length=size:=hs e (by simp)
  cases j with
  |zero =>
   rw[List.set_cons_zero,b8,b8,Nat.zero_mul,kT,List.take_zero,EV,<-he,List.drop_left]
  |succ j =>
   rw[List.set_cons_succ,b8,b8,ih (fun y hy=>hs y (by simp[hy])) hx (by simpa using hj)]
   have e1:(j+1)*size=e.cells.length+j*size:=by rw[jS,he]; omega
   have e2:(j+1)*size+size=e.cells.length+(j*size+size):=by rw[e1]; omega
   rw[e2,List.drop_append,List.drop_of_length_le (l:=e.cells) (by omega),EV,e1,MZ,JF (l:=e.cells) (by omega)]
   have e3:e.cells.length+j*size-e.cells.length=j*size:=by omega
   have e4:e.cells.length+(j*size+size)-e.cells.length=j*size+size:=by omega
   rw[e3,e4];simp
end
section
variable {W : Wr} {w w' : World} {g : G} {A o : Nat} {us : List Value}
structure DY (W:Wr) (w w':World) (g:G) (A o:Nat) (us:List Value):Prop where
 al:Al g A o W.s
 home:o9 g A o W.home
 s2:2<=W.s
 fits:W.fo+us.length<=W.s
 new:RL w' g W.new us
 one:One us
 Lb:∀ j a,W.Lb[j]?=some a->∃ v,w.cell? ⟨A,o+W.fo+j,none⟩=some v/\bI w g a v
 VJ:W.Lb.length=us.length
 sz:∀ b s t,g.sz b s->g.sz b t->s=t
 out:∀ c i,g.dL c i->¬ (c=A/\o+W.fo<=i/\i<o+W.fo+us.length)->w'.cell? ⟨c,i,none⟩=w.cell? ⟨c,i,none⟩
 lQ:∀ j v,us[j]?=some v->w'.cell? ⟨A,o+W.fo+j,none⟩=some v
theorem SK {a c c':AV} {v:Value} (ha:bI w g a v) (hc:bI w g c v) (hu:Up W c c'):yd a c':=by
 cases a with
 |int k n =>
  have:=bK ha;subst this;cases hc with
  |int=>exact .inl (VP hu)
  |any=>exact .inr (Ec hu)
 |bool b =>
  have:=dI ha;subst this;cases hc with
  |bool=>exact .inl (Rq hu)
  |any=>exact .inr (Ec hu)
 |str s =>
  have:=cF ha;subst this;have h:c = .str s\/c = .any:=by
   cases c with
   |str t =>
    have:=cF hc;injection this with this
    injection this with this
    have h2:s=t:=by simpa using this
    exact .inl (by rw[h2])
   |any=>exact .inr rfl
   |_=>cases hc
  rcases h with rfl |rfl
  ·exact .inl (VN hu)
  ·exact .inr (Ec hu)
 |_=>trivial
theorem Row.kept {b p:Nat} {vs:List Value} (h:Row w g b p vs) (hW:DY W w w' g A o us) (hd:b=A->p+vs.length<=o\/o+W.s<=p):Row w' g b p vs:=by
 intro i v hv;obtain⟨h1,h2⟩:=h i v hv;refine⟨h1,(hW.out b (p+i) h1 ?_).trans h2⟩
 rintro ⟨rfl,h3,h4⟩
 have hi:=(fU.1 hv).1
 have:=hW.fits;rcases hd rfl with h5 |h5<;>omega
theorem LM (hW:DY W w w' g A o us) {size:Nat} {es:List AV} {vs:List Value} {b p:Nat} {m:Option Nat} (h2:Row w g b p vs) (h3:One vs) (h4:∀ e∈es,e.cells.length=size) (h7:es=[]\/Al g b p size)
  (hm:∀ j,m=some j->size=W.s/\b=A/\j<es.length/\o=p+j*size)
  (h1:RL w g (flat es) vs) {cD:List AV} (i1:RL w' g cD vs) (i2:kS W (flat es) cD):∃ cr jz,RL w' g (flat cr) jz/\Row w' g b p jz/\One jz/\cr.length=es.length/\(∀ e∈cr,e.cells.length=size)/\DZ W size m es cr:=by
 obtain⟨qS,rfl,r1,r2,r3⟩:=RU h4 i2;have CU:vs.length=es.length*size:=by rw[h1.length,bC es size h4]
 have plain:(∀ i,UN m i=false)->Row w' g b p vs->∃ cr jz,RL w' g (flat cr) jz/\Row w' g b p jz/\One jz/\cr.length=es.length/\(∀ e∈cr,e.cells.length=size)/\DZ W size m es cr:=fun hn yy =>
  ⟨qS,vs,i1,yy,h3,r1,r2,LQ r1 fun i e e' he eO=>⟨e'.cells,(r3 i e e' he eO).1,(r3 i e e' he eO).2,.inl ⟨hn i,rfl⟩⟩⟩
 have noM:m=none->∀ i,UN m i=false:=fun h i=>by rw[h]; rfl
 refine(Classical.em (b=A)).elim (fun hb=>?_) (fun hb=>plain (noM (by
  cases gO:m with
  |none=>rfl
  |some j=>exact absurd (hm j gO).2.1 hb)) (h2.kept hW fun h=>absurd h hb))
 subst hb
 by_cases tJ:es=[]
 ·refine plain (noM (by
   cases gO:m with
   |none=>rfl
   |some j=>have:=(hm j gO).2.2.1; rw[tJ] at this; simp at this)) fun i v hv=>?_
  have:vs=[]:=qz (by rw[CU,tJ]; simp)
  subst this; simp at hv
 have jX:Al g b p size:=h7.resolve_left tJ;have US:size=W.s:=hW.sz b _ _ jX.1 hW.al.1;subst US;obtain⟨m0,Ll⟩:∃ m0,p=m0*W.s:=⟨p / W.s,by have:=EN p W.s; rw[jX.2] at this; rw[wz]; omega⟩
 obtain⟨q,hq⟩:∃ q,o=q*W.s:=⟨o / W.s,by have:=EN o W.s; rw[hW.al.2] at this; rw[wz]; omega⟩
 by_cases h8:q<m0
 ·refine plain (noM (by
   cases gO:m with
   |none=>rfl
   |some j =>
    obtain⟨_,_,_,dc⟩:=hm j gO;exfalso;have:=rI W.s (show q+1<=m0 from h8)
    rw[jS,Av] at this;have:=hW.s2;omega)) (h2.kept hW fun _=>.inr ?_)
  have:=rI W.s (show q+1<=m0 from h8)
  rw[jS,Av] at this;omega
 by_cases h9:m0+es.length<=q
 ·refine plain (noM (by
   cases gO:m with
   |none=>rfl
   |some j =>
    obtain⟨_,_,ik,dc⟩:=hm j gO;exfalso;have kG:=rI W.s h9;have kY:=rI W.s (show j+1<=es.length from ik)
    rw[jS] at kG kY;have:=hW.s2;omega)) (h2.kept hW fun _=>.inl ?_)
  have:=rI W.s h9;rw[jS] at this;omega
 obtain⟨j,hj⟩:∃ j,q=m0+j:=⟨q-m0,by omega⟩
 have hjl:j<es.length:=by omega
 have OE:j<qS.length:=by omega
 have lT:o=p+j*W.s:=by rw[hq,hj,jS,Ll]
 obtain⟨e,he⟩:∃ e,es[j]?=some e:=⟨_,ey hjl⟩
 obtain⟨e1,QX⟩:∃ e,qS[j]?=some e:=⟨_,ey OE⟩
 obtain⟨u1,u2⟩:=r3 j e e1 he QX;have iB:e1.cells.length=W.s:=r2 e1 (pT QX);have S8:=hW.s2;obtain⟨c1,nU⟩:∃ c1,e1 = .agg c1:=by
  rcases uR e1 with h |h |h
  ·exact h
  ·rw[h] at iB; simp at iB; omega
  ·rw[h] at iB; simp at iB; omega
 have hnl:W.new.length=us.length:=hW.new.length.symm;have fY:W.fo+W.new.length<=c1.length:=by
  have:c1.length=W.s:=by rw[nU] at iB; exact iB
  have:=hW.fits; omega
 have CY:=l6 c1 W.fo W.new fY;have hspl:(aZ c1 W.fo W.new).length=W.s:=by
  have:c1.length=W.s:=by rw[nU] at iB; exact iB
  rw[CY]; simp; omega
 have FA:flat (qS.set j (.agg (aZ c1 W.fo W.new)))=(flat qS).take (j*W.s+W.fo)++W.new++(flat qS).drop (j*W.s+W.fo+W.new.length):=by
  rw[uO (x:=.agg (aZ c1 W.fo W.new)) r2 hspl OE];show _++aZ c1 W.fo W.new++_=_
  have hcell:((flat qS).drop (j*W.s)).take W.s=c1:=by
   have h:=uO (x:=e1) r2 iB OE;have qK:qS.set j e1=qS:=by
    obtain⟨aO,hv⟩:=fU.1 QX
    rw[<-hv]; simp
   rw[qK] at h;have aO:((flat qS).take (j*W.s)).length=j*W.s:=by
    rw[mG,bC qS W.s r2];have:=rI W.s (Nat.le_of_lt OE);omega
   have h2:((flat qS).drop (j*W.s)).take W.s=(((flat qS).take (j*W.s)++e1.cells++(flat qS).drop (j*W.s+W.s)).drop (j*W.s)).take W.s:=congrArg (fun l:List AV=>(l.drop (j*W.s)).take W.s) h
   rw[h2,Cn,List.drop_append,List.drop_of_length_le (by omega),aO,Nat.sub_self,List.drop_zero,EV,MZ,JF (by omega)]
   rw[nU] at iB ⊢;have:c1.length=W.s:=iB;show c1++_=c1
   simp[AV.cells,this]
  have hc1l:c1.length=W.s:=by rw[nU] at iB; exact iB
  have U3:(flat qS).drop (j*W.s)=c1++(flat qS).drop (j*W.s+W.s):=by
   have h:=(List.take_append_drop W.s ((flat qS).drop (j*W.s))).symm;rw[hcell,yp] at h;exact h
  have e1':(flat qS).take (j*W.s+W.fo)=(flat qS).take (j*W.s)++c1.take W.fo:=by
   rw[List.take_add,U3,List.take_append_of_le_length (by have:=hW.fits; omega)]
  have e2':(flat qS).drop (j*W.s+W.fo+W.new.length)=c1.drop (W.fo+W.new.length)++(flat qS).drop (j*W.s+W.s):=by
   rw[qB,<-yp,U3,List.drop_append_of_le_length (by omega)]
  rw[e1',e2',CY];simp
 have C1:j*W.s+W.fo+us.length<=vs.length:=by
  rw[CU];have:=rI W.s (show j+1<=es.length from hjl)
  rw[jS,Av] at this;have:=hW.fits; omega
 have Ta:RL w' g (flat (qS.set j (.agg (aZ c1 W.fo W.new)))) (vs.take (j*W.s+W.fo)++us++vs.drop (j*W.s+W.fo+us.length)):=by
  rw[FA,hnl];exact((i1.take _).append hW.new).append (i1.drop _)
 have yy:Row w' g b p (vs.take (j*W.s+W.fo)++us++vs.drop (j*W.s+W.fo+us.length)):=by
  intro i v hv;have nE:(vs.take (j*W.s+W.fo)).length=j*W.s+W.fo:=by rw[mG]; omega
  rw[Cn,List.getElem?_append,nE] at hv
  split at hv
  ·rename_i hi
   rw[List.getElem?_take_of_lt hi] at hv
   obtain⟨k1,k2⟩:=h2 i v hv;refine⟨k1,(hW.out b (p+i) k1 ?_).trans k2⟩
   rintro ⟨_,h,_⟩; omega
  ·rename_i hi
   rw[List.getElem?_append] at hv
   split at hv
   ·rename_i hi2
    have:=hW.lQ _ v hv;have e5:o+W.fo+(i-(j*W.s+W.fo))=p+i:=by omega
    rw[e5] at this;refine⟨?_,this⟩
    have aO:i<vs.length:=by omega
    exact(h2 i _ (ey aO)).1
   ·rename_i hi2
    rw[rJ] at hv
    have e5:j*W.s+W.fo+us.length+(i-(j*W.s+W.fo)-us.length)=i:=by omega
    rw[e5] at hv;obtain⟨k1,k2⟩:=h2 i v hv;refine⟨k1,(hW.out b (p+i) k1 ?_).trans k2⟩
    rintro ⟨_,_,h⟩; omega
 have qN:One (vs.take (j*W.s+W.fo)++us++vs.drop (j*W.s+W.fo+us.length)):=((h3.take _).append hW.one).append (h3.drop _);have hls:∀ x∈qS.set j (.agg (aZ c1 W.fo W.new)),x.cells.length=W.s:=by
  intro x hx;rcases ET hx with h |h
  ·exact r2 x h
  ·rw[h]; exact hspl
 have UZ:(qS.set j (.agg (aZ c1 W.fo W.new))).length=es.length:=by rw[List.length_set,r1]
 refine⟨_,_,Ta,yy,qN,UZ,hls,LQ UZ fun i x x' hx kC=>?_⟩
 rw[List.getElem?_set] at kC
 by_cases Ke:j=i
 ·subst Ke
  rw[bJ rfl,bJ OE] at kC;injection kC with kC
  rw[he] at hx; injection hx with hx
  subst hx kC;refine⟨c1,by rw[nU] at u1; exact u1,?_,.inr ⟨rfl,fY,?_,rfl⟩⟩
  ·rcases u2 with⟨cs,cD,h,_⟩ |⟨h,h'⟩ |⟨h,h'⟩
   ·exact .inl ⟨cs,_,h,rfl⟩
   ·exfalso; have:=h4 e (pT he); rw[h] at this; simp at this; omega
   ·exfalso; have:=h4 e (pT he); rw[h] at this; simp at this; omega
  ·intro k a c' ha jW
   obtain⟨v,qJ,vz⟩:=hW.Lb k a ha;have hk:k<us.length:=by rw[<-hW.VJ]; exact(fU.1 ha).1
   have hfo:W.fo+k<e.cells.length:=by
    have:=h4 e (pT he);have:=hW.fits; omega
   obtain⟨c,hc⟩:∃ c,e.cells[W.fo+k]?=some c:=⟨_,ey hfo⟩
   obtain⟨us',q1,q2,_⟩:=Dw h1 h2 h3 h4 he;obtain⟨v',q3,q4⟩:=q1.get hc;have q5:=(q2 (W.fo+k) v' q3).2;have e6:p+j*W.s+(W.fo+k)=o+W.fo+k:=by omega
   rw[e6] at q5;rw[qJ] at q5; injection q5 with q5; subst q5
   have u1':kS W e.cells c1:=by rw[nU] at u1; exact u1
   exact SK vz q4 (u1'.get hc jW)
 ·rw[ba Ke] at kC
  refine⟨x'.cells,(r3 i x x' hx kC).1,(r3 i x x' hx kC).2,.inl ⟨?_,rfl⟩⟩
  cases gO:m with
  |none=>rfl
  |some k =>
   obtain⟨_,_,_,dc⟩:=hm k gO;show Nat.beq k i=false
   rw[bo];refine nM fun hki=>Ke ?_
   subst hki;have:j*W.s=k*W.s:=by omega
   exact RY (by have:=hW.s2; omega) this
theorem JS {size n:Nat} {t:lV} {j:Nat} (h:yu W size n t=some j):∃ id back,W.home=some (id,back)/\t = .at id/\size=W.s/\back=(n-j)*size/\j<n:=by
 unfold yu at h;split at h
 ·rename_i id back N8 h1
  cases hb:(Nat.beq id N8&&(Nat.beq size W.s&&(Nat.beq (back % size) 0&&(Nat.ble 1 (back / size)&&Nat.ble (back / size) n)))) with
  |false=>rw[hb] at h; cases h
  |true =>
   rw[hb] at h;have h:some (n-back / size)=some j:=h;injection h with h
   simp only[kQ,bo,pQ] at hb;obtain⟨a1,a2,a3,a4,a5⟩:=hb;have a4:=gW a4;have a5:=gW a5;refine⟨id,back,h1,by rw[a1],a2,?_,by omega⟩
   have e:n-j=back / size:=by omega
   rw[e];have:=EN back size;rw[a3] at this;rw[wz]; omega
 ·cases h
theorem Uw (hW:DY W w w' g A o us) {size:Nat} {es:List AV} {t:lV} {vs:List Value} {b p cap:Nat} (h2:Row w g b p vs) (h3:One vs) (h4:∀ e∈es,e.cells.length=size) (h5:es.length<=cap) (h6:zP g size es.length cap b p t) (h7:Vy g b p size es t)
  (h1:RL w g (flat es) vs) {cD:List AV} (i1:RL w' g cD vs) (i2:kS W (flat es) cD):∃ cr,bI w' g (.sl size cr t) (.slice (some ⟨b,p,none⟩) es.length cap)/\DZ W size (yu W size es.length t) es cr:=by
 obtain⟨cr,jz,k1,k2,k3,k4,k5,k6⟩:=LM (m:=yu W size es.length t) hW h2 h3 h4 (h7.imp (·.1) id) (fun j hj=>by
  obtain⟨id,back,e1,e2,e3,e4,e5⟩:=JS hj;obtain⟨x,hx⟩:=hW.home id back e1;subst e2;have h6:g.aN id=some (b,p+es.length*size,p+cap*size):=h6;rw[h6] at hx;injection hx with hx
  injection hx with hb hx
  injection hx with hx _
  refine⟨e3,hb,e5,?_⟩
  have:es.length*size=(es.length-j)*size+j*size:=by rw[<-jS]; congr 1; omega
  omega) h1 i1 i2
 have hals:Vy g b p size cr t:=h7.imp (fun q=>⟨qz (by rw[k4,q.1]; rfl),q.2⟩) id
 have:=bI.sl (w:=w') (g:=g) size cr t jz b p cap k1 k2 k3 k5 (by rw[k4]; exact h5) (by rw[k4]; exact h6) hals
 rw[k4] at this;exact⟨_,this,k6⟩
theorem up_ro (hW:DY W w w' g A o us) {cs:List AV} {off:Nat} {h:Option (Nat × Nat)} {vs:List Value} {b p:Nat} (h1:RL w g cs vs) (h2:Row w g b p vs) (h3:One vs) (h4:Al g b p cs.length) (h5:o9 g b p h) {cD:List AV} (i1:RL w' g cD vs) (i2:kS W cs cD) :
  ∃ a',bI w' g a' (.pointer (some ⟨b,p+off,none⟩))/\Up W (.ro cs off h) a':=by
 have hf:flat [AV.agg cs]=cs:=by simp[flat,AV.cells]
 obtain⟨cr,jz,k1,k2,k3,k4,k5,k6⟩:=LM (m:=none) (es:=[.agg cs]) (size:=cs.length) hW h2 h3 (fun e he=>by simp at he; subst he; rfl) (.inr h4) (fun j hj=>by cases hj) (by rw[hf]; exact h1) i1 (by rw[hf]; exact i2)
 match cr,k4,k6 with
 | [e'],_,k6 =>
  cases k6 with
  |cons _ _ _ _ cy _ _ q1 q2 q3 =>
   rcases q2.1 with⟨c,c',hc,jW⟩ |⟨hc,_⟩ |⟨hc,jW⟩
   ·subst jW
    have hl:c'.length=cs.length:=k5 (.agg c') (by simp)
    have Tl:flat [AV.agg c']=c':=by simp[flat,AV.cells]
    rw[Tl] at k1;exact⟨.ro c' off h,.ro c' off h jz b p k1 k2 k3 (by rw[hl]; exact h4) h5,.ro _ _ _ _ (.cons _ _ _ _ cy _ _ q1 q2 q3)⟩
   ·exfalso
    have hc:cs=[AV.agg cs]:=hc;have h8:=congrArg (fun l:List AV=>SizeOf.sizeOf l) hc
    simp at h8;omega
   ·have hc:cs=[]:=hc
    have:=h4.2;have h9:=hW.s2;subst hc jW;have k1:RL w' g [] jz:=by simpa[flat,AV.cells] using k1
    exact⟨.ro [] off h,.ro [] off h jz b p k1 k2 k3 h4 h5,.ro _ _ _ _ (.cons _ _ _ _ cy _ _ q1 q2 q3)⟩
theorem Eb (hW:DY W w w' g A o us) {a:AV} {v:Value} (h:bI w g a v):∃ a',bI w' g a' v/\Up W a a' :=
 bI.rec (motive_1:=fun a v _=>∃ a',bI w' g a' v/\Up W a a') (motive_2:=fun bh vs _=>∃ Lq,RL w' g Lq vs/\kS W bh Lq)
  (fun b=>⟨_,.bool b,.same _⟩) (fun k n=>⟨_,.int k n,.same _⟩) (fun s=>⟨_,.str s,.same _⟩) ⟨_,.iL,.same _⟩ (fun key off b h=>⟨_,.ptr key off b h,.same _⟩)
  (fun cs off h vs b o h1 h2 h3 h4 h5 ih=>let ⟨_,i1,i2⟩:=ih; up_ro hW h1 h2 h3 h4 h5 i1 i2) ⟨_,.az,.same _⟩
  (fun size es t vs b o cap h1 h2 h3 h4 h5 h6 h7 ih=>let ⟨_,i1,i2⟩:=ih; let ⟨_,j1,j2⟩:=Uw hW h2 h3 h4 h5 h6 h7 h1 i1 i2; ⟨_,j1,.sl _ _ _ _ j2⟩)
  (fun key off n b cap h h'=>⟨_,.ks key off n b cap h h',.same _⟩) ⟨_,.kU,.same _⟩ (fun key b h=>⟨_,.mp key b h,.same _⟩) ⟨_,.kV,.same _⟩
  (fun f first la u v _ _ i1 i2=>let ⟨_,a1,a2⟩:=i1; let ⟨_,b1,b2⟩:=i2; ⟨_,.fn f _ _ u v a1 b1,.fn _ _ _ _ _ a2 b2⟩)
  (fun cs vs _ h2 ih=>let ⟨_,a1,a2⟩:=ih; ⟨_,.agg _ vs a1 h2,.agg _ _ a2⟩) (fun bh vs _ ih=>let ⟨_,a1,a2⟩:=ih; ⟨_,.cv _ vs a1,.cv _ _ a2⟩) (fun v=>⟨_,.any v,.same _⟩)
  ⟨_,.nil,.nil⟩ (fun a v bh vs _ _ i1 i2=>let ⟨_,a1,a2⟩:=i1; let ⟨_,b1,b2⟩:=i2; ⟨_,.cons _ _ _ _ a1 b1,.cons _ _ _ _ a2 b2⟩) h
theorem zY (hW:DY W w w' g A o us):∀ {bh:List AV} {vs:List Value},RL w g bh vs->∃ Lq,RL w' g Lq vs/\kS W bh Lq:=by
 intro bh
 induction bh with
 |nil=>intro vs h; cases h; exact⟨_,.nil,.nil⟩
 |cons a bh ih =>
  intro vs h;cases h with
  |cons _ v _ vs h1 h2 =>
   obtain⟨a',q1,q2⟩:=Eb hW h1;obtain⟨Lq,q3,q4⟩:=ih h2;exact⟨_,.cons _ _ _ _ q1 q3,.cons _ _ _ _ q2 q4⟩
def zT (W:Wr) (ds oR:List AV):Prop:=∀ (j:Nat) s es t i,ds[j]?=some (.sl s es t)->yu W s es.length t=some i->∃ cr,oR[j]?=some (.sl s cr t)/\DZ W s (some i) es cr
theorem Rp (hW:DY W w w' g A o us):∀ {bh:List AV} {vs:List Value},RL w g bh vs->∃ Lq,RL w' g Lq vs/\kS W bh Lq/\zT W bh Lq:=by
 intro bh
 induction bh with
 |nil=>intro vs h; cases h; exact⟨_,.nil,.nil,fun j _ _ _ _ h=>by simp at h⟩
 |cons a bh ih =>
  intro vs h;cases h with
  |cons _ v _ vs h1 h2 =>
   obtain⟨Lq,q3,q4,q5⟩:=ih h2;have h0:∃ a',bI w' g a' v/\Up W a a'/\∀ s es t i,a = .sl s es t->yu W s es.length t=some i->∃ cr,a' = .sl s cr t/\DZ W s (some i) es cr:=by
    cases a with
    |sl s es t =>
     obtain⟨vs1,b,p,cap,r1,r2,r3,r4,r5,r6,hv,r7⟩:=gU h1;obtain⟨cD,i1,i2⟩:=zY hW r1;obtain⟨cr,j1,j2⟩:=Uw hW r2 r3 r4 r5 r6 r7 r1 i1 i2;refine⟨_,by rw[hv]; exact j1,.sl _ _ _ _ j2,fun s' Vb t' i e hm=>?_⟩
     injection e with e1 e2 e3
     subst e1 e2 e3;rw[hm] at j2;exact⟨cr,rfl,j2⟩
    |_ =>
     obtain⟨a',q1,q2⟩:=Eb hW h1;exact⟨a',q1,q2,fun _ _ _ _ e=>by cases e⟩
   obtain⟨a',q1,q2,q6⟩:=h0;refine⟨a'::Lq,.cons _ _ _ _ q1 q3,.cons _ _ _ _ q2 q4,fun j s es t i hj hm=>?_⟩
   cases j with
   |zero =>
    have hj:a = .sl s es t:=by simpa using hj
    obtain⟨cr,e1,e2⟩:=q6 s es t i hj hm;exact⟨cr,by rw[e1]; rfl,e2⟩
   |succ j=>exact q5 j s es t i (by simpa using hj) hm
end
end Go.Ev
theorem Ck:type_of% @Int.neg_mul:=@Int.neg_mul
theorem rH:type_of% @Int.ofNat_eq_natCast:=@Int.ofNat_eq_natCast
namespace Go.Ab
noncomputable section
open Go.Ev
abbrev cz:=Nat->AV
def intOf:AV->Int
 | .int _ n=>n
 |_=>0
def strOf:AV->List UInt8
 | .str s=>s
 |_=>[]
def keyOf:AV->Nat
 | .ptr k _=>k
 | .ks k _ _=>k
 |_=>0
def bN:AV->AV
 | .sl s e t=>.sl s e t
 | .ks k o n=>.ks k o n
 |_=>.az
def elems:AV->List AV
 | .sl _ e _=>e
 |_=>[]
def bB:AV->Nat
 | .sl _ e _=>e.length
 | .ks _ _ n=>n
 |_=>0
mutual
def wt:AV->Nat
 | .str s=>s.length+1
 | .sl _ es _=>eB es+es.length+1
 | .ks _ _ n=>n+1
 | .agg cs=>eB cs
 | .cv _=>0
 | .any=>0
 |_=>1
def eB:List AV->Nat
 | []=>0
 |v::vs=>wt v+eB vs
end
def nX (v:AV):Nat:=wt (bN v)
def yY (v:AV) (k:Nat):Nat:=eB ((elems v).take k)+((elems v).take k).length
def gf (ρ:cz) (a:Nat):Int :=
 bif Nat.beq (a % 8) 0 then intOf (ρ (a / 8)) else
 bif Nat.beq (a % 8) 1 then ((strOf (ρ (a / 8))).length:Int) else
 bif Nat.beq (a % 8) 2 then (bB (ρ (a / 8)):Int) else
 bif Nat.beq (a % 8) 3 then (nX (ρ (a / 8)):Int) else
 (yY (ρ (a / 8 / 4294967296-1)) ((bif Nat.beq (a / 8 / 65536 % 65536) 0 then 0 else intOf (ρ (a / 8 / 65536 % 65536-1)))+((a / 8 % 65536:Nat):Int)).toNat:Int)
def yN (m n:Nat):Int:=Nat.rec (.ofNat (Nat.sub m n)) (fun k _=>.negSucc k) (Nat.sub n m)
def JP (n:Nat):Int:=Nat.rec (.ofNat 0) (fun k _=>.negSucc k) n
def ia (a b:Int):Int:=Int.rec (fun m=>Int.rec (fun n=>.ofNat (Nat.add m n)) (fun n=>yN m (Nat.succ n)) b) (fun m=>Int.rec (fun n=>yN n (Nat.succ m)) (fun n=>.negSucc (Nat.succ (Nat.add m n))) b) a
def im (a b:Int):Int:=Int.rec (fun m=>Int.rec (fun n=>.ofNat (Nat.mul m n)) (fun n=>JP (Nat.mul m (Nat.succ n))) b) (fun m=>Int.rec (fun n=>JP (Nat.mul (Nat.succ m) n)) (fun n=>.ofNat (Nat.mul (Nat.succ m) (Nat.succ n))) b) a
def nabs (q:Int):Int:=Int.rec (fun n=>JP n) (fun n=>.negSucc n) q
def JT:Int:=.negSucc 0
theorem AI (n:Nat):JP n = -(n:Int):=by
 cases n with
 |zero=>rfl
 |succ k=>show Int.negSucc k=_; omega
theorem BY (m n:Nat):yN m n=(m:Int)-n:=by
 unfold yN;cases h:Nat.sub n m with
 |zero =>
  have h:n-m=0:=h;show Int.ofNat (m-n)=_
  rw[rH]; omega
 |succ k =>
  have h:n-m=k+1:=h;show Int.negSucc k=_
  omega
theorem oH (a b:Int):ia a b=a+b:=by
 cases a with
 |ofNat m =>
  cases b with
  |ofNat n=>rfl
  |negSucc n=>show yN m (n+1)=_; rw[BY,rH]; omega
 |negSucc m =>
  cases b with
  |ofNat n=>show yN n (m+1)=_; rw[BY,rH]; omega
  |negSucc n=>show Int.negSucc (m+n+1)=_; omega
theorem nC (a b:Int):im a b=a*b:=by
 cases a with
 |ofNat m =>
  cases b with
  |ofNat n=>rfl
  |negSucc n=>show JP (m*(n+1))=_; rw[AI,rH,Int.negSucc_eq,Int.mul_neg]; norm_cast
 |negSucc m =>
  cases b with
  |ofNat n=>show JP ((m+1)*n)=_; rw[AI,rH,Int.negSucc_eq,Ck]; norm_cast
  |negSucc n=>rfl
structure af where
 c:Int
 ts:List (Nat × Int)
def eA (ρ:cz):List (Nat × Int)->Int
 | []=>0
 |p::t=>p.2*gf ρ p.1+eA ρ t
def af.ev (ρ:cz) (l:af):Int:=l.c+eA ρ l.ts
def yj (n:Int):Bool:=Int.rec (fun n=>Nat.beq n 0) (fun _=>false) n
def isNeg (n:Int):Bool:=Int.rec (fun _=>false) (fun _=>true) n
theorem mP (n:Int):yj n=true↔n=0:=by
 cases n with
 |ofNat n=>simp[yj]
 |negSucc n=>simp[yj]
theorem tD (n:Int):isNeg n=true↔n<0:=by
 cases n with
 |ofNat n=>simp only[isNeg,rH]; simp
 |negSucc n=>simp only[isNeg,true_iff]; exact Int.negSucc_lt_zero n
def uQ (a:Nat) (k:Int) (t:List (Nat × Int)):List (Nat × Int):=Bool.rec ((a,k)::t) t (yj k)
def CS (a:Nat) (k:Int) (l:List (Nat × Int)):List (Nat × Int) :=
 List.rec (motive:=fun _=>List (Nat × Int)) (uQ a k [])
  (fun p t ih=>Bool.rec (Bool.rec (p::ih) (uQ a k (p::t)) (Nat.blt p.1 a)) (uQ a (ia k p.2) t) (Nat.beq a p.1)) l
def Uf (k:Int) (x y:List (Nat × Int)):List (Nat × Int):=List.rec (motive:=fun _=>List (Nat × Int)) y (fun p _ ih=>CS p.1 (im k p.2) ih) x
def Mu (k:Int) (x:List (Nat × Int)):List (Nat × Int):=List.rec (motive:=fun _=>List (Nat × Int)) [] (fun p _ ih=>(p.1,im k p.2)::ih) x
def af.add (y:af) (k:Int) (x:af):af:=⟨ia y.c (im k x.c),Uf k x.ts y.ts⟩
def af.EA (k:Int) (x:af):af:=Bool.rec ⟨im k x.c,Mu k x.ts⟩ ⟨0,[]⟩ (yj k)
def af.n (c:Int):af:=⟨c,[]⟩
def af.at (a:Nat):af:=⟨0,[(a,1)]⟩
def af.plus (l:af) (c:Int):af:=⟨ia l.c c,l.ts⟩
def af.from (c:Int) (l:af):af:=⟨ia c (im JT l.c),Mu JT l.ts⟩
variable {ρ : cz}
theorem xG (a k t):eA ρ (uQ a k t)=k*gf ρ a+eA ρ t:=by
 unfold uQ;cases h:yj k with
 |false=>rfl
 |true=>rw[mP] at h; subst h; simp
theorem HV (a k l):eA ρ (CS a k l)=k*gf ρ a+eA ρ l:=by
 induction l with
 |nil=>exact xG a k []
 |cons p t ih =>
  show eA ρ (Bool.rec (Bool.rec (p::CS a k t) (uQ a k (p::t)) (Nat.blt p.1 a)) (uQ a (ia k p.2) t) (Nat.beq a p.1))=_
  cases h:Nat.beq a p.1 with
  |true =>
   have h:a=p.1:=kr h;subst h;show eA ρ (uQ p.1 (ia k p.2) t)=_
   rw[xG,oH]; simp only[eA,Int.add_mul]; omega
  |false =>
   cases Nat.blt p.1 a with
   |true=>exact xG a k (p::t)
   |false=>show p.2*gf ρ p.1+eA ρ (CS a k t)=_; rw[ih]; simp only[eA]; omega
theorem TK (k x y):eA ρ (Uf k x y)=eA ρ y+k*eA ρ x:=by
 induction x with
 |nil=>simp[Uf,eA]
 |cons p t ih =>
  show eA ρ (CS p.1 (im k p.2) (Uf k t y))=_
  rw[HV,ih,nC]; simp only[eA,Int.mul_add,Int.mul_assoc]; omega
theorem HU (k x):eA ρ (Mu k x)=k*eA ρ x:=by
 induction x with
 |nil=>simp[Mu,eA]
 |cons p t ih=>show im k p.2*gf ρ p.1+eA ρ (Mu k t)=_; rw[ih,nC]; simp only[eA,Int.mul_add,Int.mul_assoc]
theorem af.aP (y k x):(af.add y k x).ev ρ=y.ev ρ+k*x.ev ρ:=by simp only[af.add,af.ev,TK,Int.mul_add,oH,nC]; omega
theorem af.mU (k x):(af.EA k x).ev ρ=k*x.ev ρ:=by
 unfold af.EA;cases h:yj k with
 |false=>simp only[af.ev,HU,Int.mul_add,nC]
 |true=>rw[mP] at h; subst h; simp[af.ev,eA]
theorem af.oO (c):(af.n c).ev ρ=c:=by simp[af.n,af.ev,eA]
theorem af.aR (a):(af.at a).ev ρ=gf ρ a:=by simp[af.at,af.ev,eA]
theorem af.bf (l:af) (c):(l.plus c).ev ρ=l.ev ρ+c:=by simp only[af.plus,af.ev,oH]; omega
theorem af.da (c) (l:af):(af.from c l).ev ρ=c-l.ev ρ:=by simp only[af.from,af.ev,HU,oH,nC,show JT = -1 from rfl]; omega
def Ip (x y:List (Nat × Int)):Bool :=
 List.rec (motive:=fun _=>List (Nat × Int)->Bool) (fun y=>List.rec (motive:=fun _=>Bool) true (fun _ _ _=>false) y)
  (fun p _ ih y=>List.rec (motive:=fun _=>Bool) false (fun q t _=>Bool.rec false (Bool.rec false (ih t) (cE p.2 q.2)) (Nat.beq p.1 q.1)) y) x y
def af.beq (x y:af):Bool:=Bool.rec false (Ip x.ts y.ts) (cE x.c y.c)
theorem ug {a b:Int} (h:cE a b=true):a=b:=by
 cases a<;>cases b<;>simp only[cE] at h<;>first |cases h |(rw[kr h])
theorem Qj:∀ {x y:List (Nat × Int)},Ip x y=true->x=y:=by
 intro x
 induction x with
 |nil=>intro y h; cases y with
  |nil=>rfl
  |cons q t=>cases h
 |cons p s ih =>
  intro y h;cases y with
  |nil=>cases h
  |cons q t =>
   have h:(Bool.rec false (Bool.rec false (Ip s t) (cE p.2 q.2)) (Nat.beq p.1 q.1):Bool)=true:=h;cases h1:Nat.beq p.1 q.1 with
   |false=>rw[h1] at h; cases h
   |true =>
    rw[h1] at h;have h:(Bool.rec false (Ip s t) (cE p.2 q.2):Bool)=true:=h;cases h2:cE p.2 q.2 with
    |false=>rw[h2] at h; cases h
    |true =>
     rw[h2] at h;have e1:=kr h1;have e2:=ug h2;rw[ih h,Prod.ext e1 e2]
theorem af.bU {x y:af} (h:af.beq x y=true):x=y:=by
 unfold af.beq at h;cases h1:cE x.c y.c with
 |false=>rw[h1] at h; cases h
 |true =>
  rw[h1] at h;have:=Qj h;have:=ug h1;cases x; cases y; simp_all
def wG (a:Nat):Bool:=Bool.rec true false (Nat.beq (a % 8) 0)
theorem Rm (v:AV):1<=nX v:=by
 unfold nX;cases v<;>simp only[bN,wt]<;>omega
theorem E4 {a:Nat} (h:wG a=true):0<=gf ρ a/\(Nat.beq (a % 8) 3=true->1<=gf ρ a):=by
 unfold wG at h;unfold gf;cases h1:Nat.beq (a % 8) 0 with
 |true=>rw[h1] at h; cases h
 |false =>
  simp only[cond_false];refine⟨?_,fun h3=>?_⟩
  ·cases Nat.beq (a % 8) 1<;>cases Nat.beq (a % 8) 2<;>cases Nat.beq (a % 8) 3<;>simp
  ·have e:a % 8=3:=kr h3
   rw[e];have:=Rm (ρ (a / 8));simp[Nat.beq]; omega
def lb (a:Nat):Int:=Bool.rec 0 1 (Nat.beq (a % 8) 3)
theorem JO {a:Nat} (h:wG a=true):lb a<=gf ρ a:=by
 have key:0<=gf ρ a/\(Nat.beq (a % 8) 3=true->1<=gf ρ a):=E4 h;unfold lb;cases h3:Nat.beq (a % 8) 3 with
 |true=>exact key.2 h3
 |false=>exact key.1
def F5 (a:Nat) (l:List (Nat × Int)):Int:=List.rec (motive:=fun _=>Int) 0 (fun p _ ih=>Bool.rec ih p.2 (Nat.beq a p.1)) l
def og (p q:Int):Bool:=Int.rec (fun n=>Int.rec (fun m=>Bool.rec (Bool.rec true false (Nat.beq m 0)) false (Nat.beq n 0)) (fun _=>false) q) (fun _=>Int.rec (fun _=>false) (fun _=>true) q) p
def DW (p:Int):Int:=Int.rec (fun n=>.ofNat n) (fun n=>.ofNat (n+1)) p
abbrev Ix:=Tr (List af)
def uh (ix:Ix) (a:Nat):List af:=Option.rec [] (fun l=>l) (ix.get a)
def dY {α:Type} (p:α->Bool) (l:List α):Bool:=List.rec (motive:=fun _=>Bool) false (fun a _ ih=>Bool.rec ih true (p a)) l
def aU {α:Type} (p:α->Bool) (l:List α):Bool:=List.rec (motive:=fun _=>Bool) true (fun a _ ih=>Bool.rec false ih (p a)) l
theorem bL {α:Type} {p:α->Bool} {l:List α} (h:dY p l=true):∃ a,a∈l/\p a=true:=by
 induction l with
 |nil=>cases h
 |cons a t ih =>
  have h:(Bool.rec (dY p t) true (p a):Bool)=true:=h;cases h1:p a with
  |true=>exact⟨a,.head _,h1⟩
  |false=>rw[h1] at h; obtain⟨b,h2,h3⟩:=ih h; exact⟨b,.tail _ h2,h3⟩
theorem aB {α:Type} {p:α->Bool} {l:List α} (h:aU p l=true):∀ a∈l,p a=true:=by
 induction l with
 |nil=>intro a h; cases h
 |cons a t ih =>
  have h:(Bool.rec false (aU p t) (p a):Bool)=true:=h;cases h1:p a with
  |false=>rw[h1] at h; cases h
  |true =>
   rw[h1] at h;intro b hb;cases hb with
   |head=>exact h1
   |tail _ hb=>exact ih h b hb
theorem BM (es:List AV):∀ k,eB (es.take k)+(es.take k).length<=eB es+es.length:=by
 induction es with
 |nil=>intro k; simp[eB]
 |cons v t ih =>
  intro k;cases k with
  |zero=>simp[eB]
  |succ k=>have:=ih k; simp only[List.take_succ_cons,eB,mE]; omega
theorem M4 (v:AV) (k:Nat):yY v k+1<=nX v:=by
 unfold yY nX;cases v<;>simp only[elems,bN,wt,List.take_nil,eB,Cp]<;>first |omega |skip
 rename_i s es t;have:=BM es k;omega
theorem WM (v:AV):bB v+1<=nX v:=by
 unfold nX;cases v<;>simp only[bB,bN,wt]<;>omega
end
end Go.Ab
theorem EM:type_of% @Int.le_of_lt:=@Int.le_of_lt
theorem Jy:type_of% @Int.mul_le_mul_of_nonneg_left:=@Int.mul_le_mul_of_nonneg_left
namespace Go.Ab
noncomputable section
open Go.Ev
variable {ρ : cz}
inductive SS where
 |v (n:Nat)
 |c (s:List UInt8)
def SS.ev (ρ:cz):SS->List UInt8
 | .v n=>strOf (ρ n)
 | .c s=>s
def SS.len:SS->af
 | .v n=>af.at (8*n+1)
 | .c s=>af.n s.length
theorem o4 (n:Nat):gf ρ (8*n+1)=(strOf (ρ n)).length:=by
 have h1:(8*n+1) % 8=1:=by omega
 have h2:(8*n+1) / 8=n:=by omega
 simp[gf,h1,h2,Nat.beq]
theorem dz (n:Nat):gf ρ (8*n)=intOf (ρ n):=by
 have h1:(8*n) % 8=0:=by omega
 have h2:(8*n) / 8=n:=by omega
 simp[gf,h1,h2,Nat.beq]
theorem cU (n:Nat):gf ρ (8*n+2)=bB (ρ n):=by
 have h1:(8*n+2) % 8=2:=by omega
 have h2:(8*n+2) / 8=n:=by omega
 simp[gf,h1,h2,Nat.beq]
theorem ju (n:Nat):gf ρ (8*n+3)=nX (ρ n):=by
 have h1:(8*n+3) % 8=3:=by omega
 have h2:(8*n+3) / 8=n:=by omega
 simp[gf,h1,h2,Nat.beq]
theorem SS.fQ (s:SS):(s.len).ev ρ=(s.ev ρ).length:=by
 cases s with
 |v n=>rw[SS.len,af.aR,o4]; rfl
 |c s=>rw[SS.len,af.oO]; rfl
inductive BF where
 |k (b:Bool)
 |ge (l:af)
 |eq (l:af)
 |u (n:Nat)
 |seq (x y:SS)
 |dot (n:Nat)
 |not (f:BF)
 |and (f g:BF)
 |or (f g:BF)
 |imp (f g:BF)
def BF.ev (ρ:cz):BF->Prop
 | .k b=>b=true
 | .ge l=>0<=l.ev ρ
 | .eq l=>l.ev ρ=0
 | .u n=>ρ n = .bool true
 | .seq x y=>x.ev ρ=y.ev ρ
 | .dot n=>(46:UInt8)∈strOf (ρ n)
 | .not f=>¬ f.ev ρ
 | .and f g=>f.ev ρ/\g.ev ρ
 | .or f g=>f.ev ρ\/g.ev ρ
 | .imp f g=>f.ev ρ->g.ev ρ
inductive Fact where
 |f (b:BF)
 |ty (n t:Nat)
 |sz (n s:Nat)
 |el (n:Nat) (i:af) (b k:Nat)
 |pf (n:Nat) (i:af) (t:Nat)
 |cd (t b:Nat)
 |tp (n:Nat)
abbrev Bd:=Tr (Option Int × Option Int)
structure ai where
 ix:Ix
 fs:Tr (List Fact)
 df:Tr af
 bd:Bd
 bad:Bool
 st:Nat
def fF (t:Tr (List Fact)) (a:Nat):List Fact:=Option.rec [] (fun l=>l) (t.get a)
theorem Pz:∀ {s t:List UInt8},mW s t=true->s=t:=by
 intro s
 induction s with
 |nil=>intro t h; cases t with
  |nil=>rfl
  |cons b t=>cases h
 |cons a s ih =>
  intro t h;cases t with
  |nil=>cases h
  |cons b t =>
   have h:(Bool.rec false (mW s t) (Nat.beq a.toNat b.toNat):Bool)=true:=h;cases h1:Nat.beq a.toNat b.toNat with
   |false=>rw[h1] at h; cases h
   |true =>
    rw[h1] at h;rw[ih h,UInt8.toNat_inj.1 (kr h1)]
theorem Dt (s:List UInt8):mW s s=true:=by
 induction s with
 |nil=>rfl
 |cons a s ih =>
  show(Bool.rec false (mW s s) (Nat.beq a.toNat a.toNat):Bool)=true
  rw[fV]; exact ih
def SS.beq (x y:SS):Bool:=SS.rec (fun n=>SS.rec (fun m=>Nat.beq n m) (fun _=>false) y) (fun s=>SS.rec (fun _=>false) (fun t=>mW s t) y) x
theorem SS.bU {x y:SS} (h:SS.beq x y=true):x=y:=by
 cases x<;>cases y
 ·rw[kr h]
 ·cases h
 ·cases h
 ·rw[Pz h]
def SS.differ (x y:SS):Bool:=SS.rec (fun _=>false) (fun s=>SS.rec (fun _=>false) (fun t=>Bool.rec true false (mW s t)) y) x
theorem SS.tV {x y:SS} (h:SS.differ x y=true):x.ev ρ≠y.ev ρ:=by
 cases x with
 |v n=>cases h
 |c s=>cases y with
  |v n=>cases h
  |c t =>
   intro e;have e:s=t:=e;subst e;have h:(Bool.rec true false (mW s s):Bool)=true:=h;rw[Dt] at h; cases h
def isU (n:Nat) (neg:Bool) (f:Fact):Bool :=
 match f with
 | .f (.u m)=>Bool.rec (Nat.beq n m) false neg
 | .f (.not (.u m))=>Bool.rec false (Nat.beq n m) neg
 |_=>false
def Hq (x y:SS) (f:Fact):Bool :=
 match f with
 | .f (.seq a b)=>Bool.rec (Bool.rec false (SS.beq y a) (SS.beq x b)) true (Bool.rec false (SS.beq y b) (SS.beq x a))
 |_=>false
def AT (x y:SS) (f:Fact):Bool :=
 match f with
 | .f (.not (.seq a b))=>Bool.rec (Bool.rec false (SS.beq y a) (SS.beq x b)) true (Bool.rec false (SS.beq y b) (SS.beq x a))
 | .f (.seq a b)=>Bool.rec (Bool.rec false (SS.differ y a) (SS.beq x b)) true (Bool.rec false (SS.differ y b) (SS.beq x a))
 |_=>false
def Hs (l:af) (f:Fact):Bool :=
 match f with
 | .f (.not (.eq m))=>Bool.rec (af.beq (af.EA (-1) l) m) true (af.beq l m)
 |_=>false
def wQ (n:Nat) (f:Fact):Bool :=
 match f with
 | .f (.dot m)=>Nat.beq n m
 |_=>false
def LJ (x:SS):Nat:=SS.rec (fun n=>n) (fun _=>0) x
def VM (l:af):Nat:=List.rec 0 (fun p _ _=>p.1 / 8) l.ts
def uF (s:List UInt8):Bool:=aU (fun b=>Bool.rec true false (Nat.beq b.toNat 46)) s
def vI (F:ai) (x y:SS):Bool:=SS.rec (fun n=>SS.rec (fun _=>false) (fun s=>Bool.rec false (dY (wQ n) (fF F.fs n)) (uF s)) y) (fun _=>false) x
def fN (a b:Bool):Bool:=Bool.rec b true a
def aq (a b:Bool):Bool:=Bool.rec false b a
theorem bw {a b:Bool} (h:fN a b=true):a=true\/b=true:=by cases a<;>simp_all [fN]
theorem ad {a b:Bool} (h:aq a b=true):a=true/\b=true:=by cases a<;>simp_all [aq]
def Lc (a:Nat):Nat:=8*(a / 8 / 4294967296-1)+3
def loK (a:Nat):Option Int:=Bool.rec (Bool.rec (some 0) (some 1) (Nat.beq (a % 8) 3)) none (Nat.beq (a % 8) 0)
def lo (bd:Bd) (a:Nat):Option Int:=match bd.get a with
 |some (some v,_)=>some v
 |_=>loK a
def lo0 (bd:Bd) (a:Nat):Option Int:=match bd.get a with
 |some (v,_)=>v
 |_=>none
def BG (bd:Bd) (a:Nat):Option Int:=match bd.get a with
 |some (_,v)=>v
 |_=>none
def hi (bd:Bd) (a:Nat):Option Int:=match BG bd a with
 |some v=>some v
 |none=>Bool.rec none (match BG bd (Lc a) with
  |some v=>some (v-1)
  |none=>none) (Nat.beq (a % 8) 4)
def wL (bd:Bd) (ts:List (Nat × Int)):Int->Option Int :=
 List.rec (motive:=fun _=>Int->Option Int) (fun c=>some c) (fun p _ ih c=>Option.rec none (fun x=>ih (ia c (im p.2 x))) (Bool.rec (lo bd p.1) (hi bd p.1) (isNeg p.2))) ts
def IV (bd:Bd) (ts:List (Nat × Int)):Int->Option Int :=
 List.rec (motive:=fun _=>Int->Option Int) (fun c=>some c) (fun p _ ih c=>Option.rec none (fun x=>ih (ia c (im p.2 x))) (Bool.rec (hi bd p.1) (lo bd p.1) (isNeg p.2))) ts
def Xq (ts:List (Nat × Int)) (a:Nat):Bool:=List.rec false (fun p _ ih=>Bool.rec (Bool.rec false ih (Nat.beq (p.1 % 8) 4)) true (Nat.beq p.1 a)) ts
def Wk (x:Option Int):Bool:=Option.rec false (fun v=>Bool.rec true false (isNeg v)) x
def comb (q:Int) (g:af) (p:Int) (f:af):af:=af.add (af.EA (DW p) g) (nabs q) f
def GF:=Nat->af->Bool
def O6 (ih:GF) (k:Nat) (one:Bool) (g:af):Bool :=
 Nat.rec (motive:=fun _=>Bool) false (fun k1 _=>Bool.rec (Nat.rec (motive:=fun _=>Bool) false (fun k2 _=>ih k2 g) k1) (ih k1 g) one) k
def A5 (ih:GF) (ix:Ix) (k:Nat) (p:Nat × Int) (g:af):Bool :=
 dY (fun f=>Bool.rec false (O6 ih k (Xq f.ts p.1) (comb p.2 g (F5 p.1 f.ts) f)) (og (F5 p.1 f.ts) p.2)) (uh ix p.1)
def geP (ih:GF) (k:Nat) (p:Nat × Int) (c:Int) (t:List (Nat × Int)):Bool :=
 Bool.rec false (Bool.rec false (Bool.rec (O6 ih k false (af.add ⟨c-p.2,t⟩ p.2 (af.at (Lc p.1)))) (ih k (af.add ⟨c-p.2,t⟩ p.2 (af.at (Lc p.1)))) (og (F5 (Lc p.1) t) 1)) (Nat.beq (p.1 % 8) 4)) (isNeg p.2)
def geW (ih:GF) (k:Nat) (p:Nat × Int) (c:Int) (t:List (Nat × Int)):Bool :=
 Bool.rec (Bool.rec false (List.rec (motive:=fun _=>Bool) false (fun r _ _=>Bool.rec false (ih k (af.add ⟨c+p.2,t⟩ p.2 (af.at (p.1-1)))) (Nat.beq (r.1+1) p.1)) t) (Nat.beq (p.1 % 8) 3)) false (isNeg p.2)
def FO (ih:GF) (bd:Bd) (k:Nat) (p:Nat × Int) (c:Int) (t:List (Nat × Int)):Bool :=
 Option.rec false (fun x=>ih k ⟨ia c (im p.2 x),t⟩) (Bool.rec (lo bd p.1) (hi bd p.1) (isNeg p.2))
def GO (l:List (Nat × Int)):Bool:=dY (fun p=>Bool.rec (Nat.beq (Nat.mod p.1 8) 3) (Nat.beq (Nat.mod p.1 8) 4) (isNeg p.2)) l
def xx (ih:GF) (bd:Bd) (k:Nat) (p:Nat × Int) (c:Int) (t:List (Nat × Int)):Bool:=fN (geP ih k p c t) (fN (geW ih k p c t) (FO ih bd k p c t))
def O7 (ih:GF) (F:ai) (k:Nat) (p:Nat × Int) (t:List (Nat × Int)) (g:af):Bool :=
 Nat.rec (motive:=fun _=>Bool) (Bool.rec false (xx ih F.bd k p g.c t) (GO g.ts)) (fun _ _=>fN (A5 ih F.ix k p g) (xx ih F.bd k p g.c t)) k
def U8 (F:ai) (n:Nat):GF :=
 Nat.rec (motive:=fun _=>GF) (fun _ _=>false)
  (fun _ ih k g=>List.rec (motive:=fun _=>Bool) (Bool.rec true false (isNeg g.c)) (fun p t _=>fN (Wk (wL F.bd g.ts g.c)) (O7 ih F k p t g)) g.ts) n
def OW (df:Tr af) (ts:List (Nat × Int)):Bool:=dY (fun p=>Option.rec false (fun _=>true) (df.get p.1)) ts
def CB (df:Tr af) (l:af):af :=
 (List.rec (motive:=fun _=>af) (af.n 0) (fun p _ ih=>Option.rec ⟨ih.c,CS p.1 p.2 ih.ts⟩ (fun d=>af.add ih p.2 d) (df.get p.1)) l.ts:af).plus l.c
def Hb (df:Tr af) (n:Nat):af->af:=Nat.rec (motive:=fun _=>af->af) (fun l=>l) (fun _ ih l=>Bool.rec l (ih (CB df l)) (OW df l.ts)) n
def ai.norm (F:ai) (l:af):af:=Hb F.df 4 l
def fuel:Nat:=60
def geD (F:ai) (l:af):Bool:=Bool.rec (U8 F fuel F.st l) (fN (U8 F fuel 3 l) (U8 F fuel F.st l)) (Nat.blt 3 F.st)
def ov (F:ai) (l:af):Bool:=fN F.bad (geD F l)
def bV (F:ai) (l:af):Bool:=fN F.bad (geD F (F.norm l))
def yt (F:ai) (l:af):Bool:=fN F.bad (List.rec (yj (F.norm l).c) (fun _ _ _=>aq (ov F (F.norm l)) (ov F (af.EA (-1) (F.norm l)))) (F.norm l).ts)
def JI (F:ai) (l:af):Bool:=fN F.bad (List.rec (Bool.rec true false (yj (F.norm l).c)) (fun _ _ _=>fN (dY (Hs l) (fF F.fs (VM l))) (fN (ov F ((F.norm l).plus (-1))) (ov F (af.from (-1) (F.norm l))))) (F.norm l).ts)
def G7 (F:ai) (x y:SS):Bool:=fN (SS.beq x y) (fN (dY (Hq x y) (fF F.fs (LJ x))) (dY (Hq x y) (fF F.fs (LJ y))))
def EY (F:ai) (x y:SS):Bool :=
 fN (SS.differ x y) (fN (dY (AT x y) (fF F.fs (LJ x))) (fN (dY (AT y x) (fF F.fs (LJ y))) (fN (vI F x y) (fN (vI F y x) (JI F (af.add x.len (-1) y.len))))))
def put (t:Tr (List Fact)) (a:Nat) (f:Fact):Tr (List Fact):=t.set a (f::fF t a)
def UO (l:af) (ix:Ix):Ix:=List.rec (motive:=fun _=>Ix) ix (fun p _ ih=>ih.set p.1 (l::uh ih p.1)) l.ts
def fdiv (c:Int) (r:Nat):Int:=Int.rec (fun m=>.ofNat (m / r)) (fun m=>.negSucc (m / r)) c
abbrev BS:=Bd × Bool
def G5 (a:Nat) (v:Int) (s:BS):BS:=⟨s.1.set a (some v,BG s.1 a),fN s.2 (Option.rec false (fun h=>isNeg (h-v)) (BG s.1 a))⟩
def G6 (a:Nat) (v:Int) (s:BS):BS:=⟨s.1.set a (lo0 s.1 a,some v),fN s.2 (Option.rec false (fun h=>isNeg (v-h)) (lo s.1 a))⟩
def Mn (a:Nat) (v:Int) (s:BS):BS:=Option.rec (G5 a v s) (fun o=>Bool.rec s (G5 a v s) (isNeg (o-v))) (lo s.1 a)
def Mp (a:Nat) (v:Int) (s:BS):BS:=Option.rec (G6 a v s) (fun o=>Bool.rec s (G6 a v s) (isNeg (v-o))) (hi s.1 a)
def Gd (a:Nat) (q:Int) (s:BS) (c:Int):BS :=
 Int.rec (fun n=>Nat.rec (motive:=fun _=>BS) s (fun m _=>Mn a (-(fdiv c (Nat.succ m))) s) n) (fun n=>Mp a (fdiv c (Nat.succ n)) s) q
def Gc (p:Nat × Int) (pre post:List (Nat × Int)) (c:Int) (s:BS):BS :=
 Option.rec s (fun x=>Option.rec s (Gd p.1 p.2 s) (IV s.1 post x)) (IV s.1 pre c)
def P8 (c:Int) (ts:List (Nat × Int)):List (Nat × Int)->BS->BS :=
 List.rec (motive:=fun _=>List (Nat × Int)->BS->BS) (fun _ s=>s) (fun p t ih pre s=>ih (p::pre) (Gc p pre t c s)) ts
def ai.with (F:ai) (ix:Ix) (s:BS):ai:=⟨ix,F.fs,F.df,s.1,s.2,F.st⟩
def ai.fail (F:ai):ai:=⟨F.ix,F.fs,F.df,F.bd,true,F.st⟩
def ai.Df (F:ai) (l:af):ai :=
 List.rec (Bool.rec F F.fail (isNeg l.c)) (fun _ _ _=>F.with (UO l F.ix) (P8 l.c l.ts [] (F.bd,F.bad))) l.ts
def ai.ge (F:ai) (l:af):ai:=F.Df (F.norm l)
def ai.fact (F:ai) (a:Nat) (f:Fact):ai:=⟨F.ix,put F.fs a f,F.df,F.bd,F.bad,F.st⟩
def nB (q:Int):Bool:=Int.rec (fun n=>Nat.beq n 1) (fun n=>Nat.beq n 0) q
def cX {α β:Type} (p:α->Option β) (l:List α):Option β:=List.rec none (fun a _ ih=>Option.rec ih some (p a)) l
def NM (b:Bool) (a:Nat):Bool:=Bool.rec (Nat.beq (a % 8) 0) (aq (Nat.ble 1 (a % 8)) (Nat.ble (a % 8) 3)) b
def oT (b:Bool) (p:Nat × Int):Option (Nat × Int):=Bool.rec none (some p) (aq (NM b p.1) (nB p.2))
def Ia (ts:List (Nat × Int)):Option (Nat × Int):=Option.rec (cX (oT false) ts) some (cX (oT true) ts)
def XX (F:ai) (f:Int->af) (x:Option Int):ai:=Option.rec F (fun v=>F.Df (f v)) x
def H9 (F:ai) (old:List af):ai:=List.rec F (fun f _ ih=>ih.Df (ih.norm f)) old
def Vh (F:ai) (a:Nat) (d:af):ai:=XX F (fun x=>d.plus (-x)) (lo F.bd a)
def defn3 (F:ai) (a:Nat) (d:af):ai:=XX F (fun x=>af.from x d) (hi F.bd a)
def ai.defn (F:ai) (a:Nat) (d:af):ai:=defn3 (Vh (H9 ⟨F.ix,F.fs,F.df.set a d,F.bd,F.bad,F.st⟩ (uh F.ix a)) a d) a d
def eqAt (F:ai) (l:af) (p:Nat × Int):ai:=F.defn p.1 (Bool.rec (af.EA (-1) (af.add l (-p.2) (af.at p.1))) (af.add l (-p.2) (af.at p.1)) (isNeg p.2))
def eqN (F:ai) (l:af):ai:=Option.rec ((F.Df l).Df (af.EA (-1) l)) (eqAt F l) (Ia l.ts)
def ai.eq (F:ai) (l:af):ai:=eqN F (F.norm l)
def L1 (F:ai) (a:Nat) (l:af):ai:=Bool.rec (F.defn a l) (F.eq (af.add (af.at a) (-1) l)) (fN (Option.rec false (fun _=>true) (F.df.get a)) (dY (fun p=>Nat.beq p.1 a) l.ts))
def ai.tell (F:ai) (a:Nat) (l:af):ai:=L1 F a (F.norm l)
def neN (F:ai) (m:af):ai:=Bool.rec (Bool.rec F (F.Df (af.from (-1) m)) (ov F (af.EA (-1) m))) (F.Df (m.plus (-1))) (ov F m)
def ai.ne (F:ai) (l:af):ai:=neN F (F.norm l)
def tT (x:SS):Bool:=SS.rec (fun _=>false) (fun s=>List.rec true (fun _ _ _=>false) s) x
def Ns (F:ai) (x y:SS):ai:=Bool.rec (Bool.rec F (F.ge (y.len.plus (-1))) (tT x)) (F.ge (x.len.plus (-1))) (tT y)
def keyS (x y:SS):Nat:=SS.rec (fun n=>n) (fun _=>LJ y) x
def BF.add (f:BF):ai->Bool->ai :=
 BF.rec (motive:=fun _=>ai->Bool->ai) (fun _ F _=>F)
  (fun l F b=>Bool.rec (F.ge (af.from (-1) l)) (F.ge l) b)
  (fun l F b=>Bool.rec ((F.fact (VM l) (.f (.not (.eq l)))).ne l) (F.eq l) b)
  (fun n F b=>Bool.rec (F.fact n (.f (.not (.u n)))) (F.fact n (.f (.u n))) b)
  (fun x y F b=>Bool.rec (Ns (F.fact (keyS x y) (.f (.not (.seq x y)))) x y) ((F.fact (keyS x y) (.f (.seq x y))).eq (af.add x.len (-1) y.len)) b)
  (fun n F b=>Bool.rec F (F.fact n (.f (.dot n))) b)
  (fun _ ih F b=>ih F (Bool.rec true false b))
  (fun _ _ jU jl F b=>Bool.rec F (jl (jU F true) true) b)
  (fun _ _ jU jl F b=>Bool.rec (jl (jU F false) false) F b)
  (fun _ _ jU jl F b=>Bool.rec (jl (jU F true) false) F b) f
def BF.pr (f:BF):ai->Bool->Bool :=
 BF.rec (motive:=fun _=>ai->Bool->Bool) (fun c _ b=>Bool.rec (Bool.rec true false c) c b)
  (fun l F b=>Bool.rec (bV F (af.from (-1) l)) (bV F l) b)
  (fun l F b=>Bool.rec (JI F l) (yt F l) b)
  (fun n F b=>Bool.rec (dY (isU n true) (fF F.fs n)) (dY (isU n false) (fF F.fs n)) b)
  (fun x y F b=>Bool.rec (EY F x y) (G7 F x y) b)
  (fun n F b=>Bool.rec false (dY (wQ n) (fF F.fs n)) b)
  (fun _ ih F b=>ih F (Bool.rec true false b))
  (fun _ _ jU jl F b=>Bool.rec (fN (jU F false) (jl F false)) (aq (jU F true) (jl F true)) b)
  (fun _ _ jU jl F b=>Bool.rec (aq (jU F false) (jl F false)) (fN (jU F true) (jl F true)) b)
  (fun f _ jU jl F b=>Bool.rec (aq (jU F true) (jl F false)) (jl (BF.add f F true) true) b) f
def FsOk (ev:Fact->Prop) (t:Tr (List Fact)):Prop:=∀ a,∀ f∈fF t a,ev f
def Gp (ρ:cz) (ix:Ix):Prop:=∀ a,∀ f∈uh ix a,0<=f.ev ρ
def YS (ρ:cz) (df:Tr af):Prop:=∀ a d,df.get a=some d->d.ev ρ=gf ρ a
def vf (ρ:cz) (bd:Bd):Prop:=∀ a v,(lo bd a=some v->v<=gf ρ a)/\(BG bd a=some v->gf ρ a<=v)
structure ai.Ok (ρ:cz) (ev:Fact->Prop) (F:ai):Prop where
 ix:Gp ρ F.ix
 fs:FsOk ev F.fs
 df:YS ρ F.df
 bd:vf ρ F.bd
 bad:F.bad=false
theorem Ql (ix:Ix) (k j:Nat) (l:List af):uh (ix.set k l) j=if j=k then l else uh ix j:=by
 unfold uh; rw[Tr.cb]; by_cases h:j=k<;>simp[h]
theorem Qm (t:Tr (List Fact)) (k j:Nat) (l:List Fact):fF (t.set k l) j=if j=k then l else fF t j:=by
 unfold fF; rw[Tr.cb]; by_cases h:j=k<;>simp[h]
theorem Cb {p q:Int} (h:og p q=true):(0<p/\0<q)\/(p<0/\q<0):=by
 cases p with
 |ofNat n =>
  cases q with
  |ofNat m =>
   have h:(Bool.rec (Bool.rec true false (Nat.beq m 0)) false (Nat.beq n 0):Bool)=true:=h;cases n with
   |zero=>cases h
   |succ n=>cases m with
    |zero=>cases h
    |succ m=>left; constructor<;>simp only[rH]<;>omega
  |negSucc m=>cases h
 |negSucc n =>
  cases q with
  |ofNat m=>cases h
  |negSucc m=>right; constructor<;>exact Int.negSucc_lt_zero _
theorem DV {p:Int} (h:0<p\/p<0):0<DW p:=by
 cases p with
 |ofNat n=>simp only[DW,rH] at *; rcases h with h |h<;>omega
 |negSucc n=>simp only[DW,rH]; omega
theorem oF {c:Int} (h:isNeg c=false):0<=c:=by
 have:¬ c<0:=fun hc=>by rw[(tD c).2 hc] at h; cases h
 omega
theorem mg {c:Int} (h:isNeg c=true):c<0:=(tD c).1 h
theorem pt {c:Int} (h:(Bool.rec true false (isNeg c):Bool)=true):0<=c:=by
 cases h1:isNeg c with
 |true=>rw[h1] at h; cases h
 |false=>exact oF h1
theorem AJ {q x y:Int} (h:x<=y) (hq:q<=0):q*y<=q*x:=by
 have:=Jy h (show 0<=-q by omega)
 rw[Ck,Ck] at this; omega
theorem EW {a:Nat} (h:Nat.beq (a % 8) 4=true):gf ρ a+1<=gf ρ (Lc a):=by
 have e:a % 8=4:=kr h;rw[Lc,ju];unfold gf;rw[e];simp only[show Nat.beq 4 0=false from rfl,show Nat.beq 4 1=false from rfl,show Nat.beq 4 2=false from rfl,show Nat.beq 4 3=false from rfl,cond_false]
 have:=M4 (ρ (a / 8 / 4294967296-1)) ((bif Nat.beq (a / 8 / 65536 % 65536) 0 then 0 else intOf (ρ (a / 8 / 65536 % 65536-1)))+((a / 8 % 65536:Nat):Int)).toNat
 omega
theorem NG {a:Nat} (h:Nat.beq (a % 8) 3=true):gf ρ (a-1)+1<=gf ρ a:=by
 have e:a % 8=3:=kr h;have e1:a=8*(a / 8)+3:=by omega
 rw[e1,ju,show 8*(a / 8)+3-1=8*(a / 8)+2 by omega,cU]
 have:=WM (ρ (a / 8));omega
theorem WK {a:Nat} {v:Int} (h:loK a=some v):v<=gf ρ a:=by
 unfold loK at h;cases h0:Nat.beq (a % 8) 0 with
 |true=>rw[h0] at h; cases h
 |false =>
  rw[h0] at h;have hn:wG a=true:=by unfold wG; rw[h0]
  have:=JO (ρ:=ρ) hn;unfold lb at this;cases h3:Nat.beq (a % 8) 3 with
  |true =>
   rw[h3] at h this;have h:some (1:Int)=some v:=h;cases h; exact this
  |false =>
   rw[h3] at h this;have h:some (0:Int)=some v:=h;cases h; exact this
theorem vf.hi {bd:Bd} (hb:vf ρ bd) {a:Nat} {v:Int} (h:Ab.hi bd a=some v):gf ρ a<=v:=by
 unfold Ab.hi at h;split at h
 ·rename_i v' h1; cases h; exact(hb a v).2 h1
 ·cases h2:Nat.beq (a % 8) 4 with
  |false=>rw[h2] at h; cases h
  |true =>
   rw[h2] at h;have h:(match BG bd (Lc a) with |some v=>some (v-1) |none=>none)=some v:=h
   split at h
   ·rename_i v' h3
    cases h
    have h4:=(hb (Lc a) v').2 h3;have h5:=EW (ρ:=ρ) h2;omega
   ·cases h
theorem vf.lo {bd:Bd} (hb:vf ρ bd) {a:Nat} {v:Int} (h:Ab.lo bd a=some v):v<=gf ρ a:=(hb a v).1 h
theorem Hg {bd:Bd} (hb:vf ρ bd):∀ {ts:List (Nat × Int)} {c x:Int},wL bd ts c=some x->x<=c+eA ρ ts:=by
 intro ts
 induction ts with
 |nil=>intro c x h; have h:some c=some x:=h; cases h; simp[eA]
 |cons p t ih =>
  intro c x h;have h:(Option.rec none (fun x=>wL bd t (ia c (im p.2 x))) (Bool.rec (lo bd p.1) (hi bd p.1) (isNeg p.2):Option Int):Option Int)=some x:=h
  cases h1:isNeg p.2 with
  |true =>
   rw[h1] at h;have h:(Option.rec none (fun x=>wL bd t (ia c (im p.2 x))) (hi bd p.1):Option Int)=some x:=h
   cases h2:hi bd p.1 with
   |none=>rw[h2] at h; cases h
   |some v =>
    rw[h2] at h;have h3:=ih (show wL bd t (ia c (im p.2 v))=some x from h)
    rw[oH,nC] at h3;have h4:=AJ (hb.hi h2) (EM (mg h1));simp only[eA]; omega
  |false =>
   rw[h1] at h;have h:(Option.rec none (fun x=>wL bd t (ia c (im p.2 x))) (lo bd p.1):Option Int)=some x:=h
   cases h2:lo bd p.1 with
   |none=>rw[h2] at h; cases h
   |some v =>
    rw[h2] at h;have h3:=ih (show wL bd t (ia c (im p.2 v))=some x from h)
    rw[oH,nC] at h3;have h4:=Jy (hb.lo h2) (oF h1);simp only[eA]; omega
theorem Ed {bd:Bd} (hb:vf ρ bd):∀ {ts:List (Nat × Int)} {c x:Int},IV bd ts c=some x->c+eA ρ ts<=x:=by
 intro ts
 induction ts with
 |nil=>intro c x h; have h:some c=some x:=h; cases h; simp[eA]
 |cons p t ih =>
  intro c x h;have h:(Option.rec none (fun x=>IV bd t (ia c (im p.2 x))) (Bool.rec (hi bd p.1) (lo bd p.1) (isNeg p.2):Option Int):Option Int)=some x:=h
  cases h1:isNeg p.2 with
  |false =>
   rw[h1] at h;have h:(Option.rec none (fun x=>IV bd t (ia c (im p.2 x))) (hi bd p.1):Option Int)=some x:=h
   cases h2:hi bd p.1 with
   |none=>rw[h2] at h; cases h
   |some v =>
    rw[h2] at h;have h3:=ih (show IV bd t (ia c (im p.2 v))=some x from h)
    rw[oH,nC] at h3;have h4:=Jy (hb.hi h2) (oF h1);simp only[eA]; omega
  |true =>
   rw[h1] at h;have h:(Option.rec none (fun x=>IV bd t (ia c (im p.2 x))) (lo bd p.1):Option Int)=some x:=h
   cases h2:lo bd p.1 with
   |none=>rw[h2] at h; cases h
   |some v =>
    rw[h2] at h;have h3:=ih (show IV bd t (ia c (im p.2 v))=some x from h)
    rw[oH,nC] at h3;have h4:=AJ (hb.lo h2) (EM (mg h1));simp only[eA]; omega
theorem HM {c x:Int} {r:Nat} (hr:0<r) (h:x*r<=c):x<=fdiv c r:=by
 cases c with
 |ofNat m =>
  show x<=((m / r:Nat):Int)
  rw[Int.natCast_ediv];exact(Int.le_ediv_iff_mul_le (by omega)).2 h
 |negSucc m =>
  show x<=Int.negSucc (m / r)
  rw[Int.negSucc_eq] at h ⊢;have h1:x+1<=-(((m / r:Nat):Int)):=by
   have h2:m<r*(m / r+1):=by
    have:=EN m r;have:=Nat.mod_lt m hr;rw[Nat.mul_add]; omega
   have h3:x*(r:Int) < -((m / r:Nat):Int)*(r:Int):=by
    have h4:=Nat.div_mul_le_self m r;have h5:((m / r*r:Nat):Int)<=m:=by exact_mod_cast h4
    have h6:-((m / r:Nat):Int)*(r:Int) = -((m / r*r:Nat):Int):=by rw[Int.natCast_mul,Ck]
    rw[h6]; omega
   exact Int.lt_of_mul_lt_mul_right h3 (by omega)
  omega
def pa (ρ:cz) (s:BS):Prop:=vf ρ s.1/\s.2=false
theorem NF (bd:Bd) (a:Nat) (x y:Option Int) (b:Nat):lo (bd.set a (x,y)) b=if b=a then (Option.rec (loK b) some x:Option Int) else lo bd b:=by
 unfold lo; rw[Tr.cb]
 by_cases h:b=a
 ·simp only[h,oq]; cases x<;>rfl
 ·simp only[h,pP]
theorem HA (bd:Bd) (a:Nat) (x y:Option Int) (b:Nat):BG (bd.set a (x,y)) b=if b=a then y else BG bd b:=by
 unfold BG; rw[Tr.cb]
 by_cases h:b=a
 ·simp only[h,oq]
 ·simp only[h,pP]
theorem WJ (bd:Bd) (a:Nat):(Option.rec (loK a) some (lo0 bd a):Option Int)=lo bd a:=by
 unfold lo lo0;cases bd.get a with
 |none=>rfl
 |some p=>obtain⟨x,y⟩:=p; cases x<;>rfl
theorem orF {a b:Bool} (h:a=false) (h':b=false):fN a b=false:=by rw[h,h']; rfl
theorem mL {c:Int} (h:0<=c):isNeg c=false:=by
 cases h1:isNeg c with
 |true=>have:=mg h1; omega
 |false=>rfl
theorem Cr {s:BS} (hs:pa ρ s) {a:Nat} {v:Int} (h:v<=gf ρ a):pa ρ (G5 a v s):=by
 refine⟨fun b u=>⟨fun h1=>?_,fun h1=>?_⟩,orF hs.2 ?_⟩
 ·have h1:lo (s.1.set a (some v,BG s.1 a)) b=some u:=h1
  rw[NF] at h1;split at h1
  ·rename_i e; cases h1; rw[e]; exact h
  ·exact hs.1.lo h1
 ·have h1:BG (s.1.set a (some v,BG s.1 a)) b=some u:=h1
  rw[HA] at h1;split at h1
  ·rename_i e; rw[e]; exact(hs.1 a u).2 h1
  ·exact(hs.1 b u).2 h1
 ·cases h2:BG s.1 a with
  |none=>rfl
  |some x=>have:=(hs.1 a x).2 h2; exact mL (by omega)
theorem Cs {s:BS} (hs:pa ρ s) {a:Nat} {v:Int} (h:gf ρ a<=v):pa ρ (G6 a v s):=by
 refine⟨fun b u=>⟨fun h1=>?_,fun h1=>?_⟩,orF hs.2 ?_⟩
 ·have h1:lo (s.1.set a (lo0 s.1 a,some v)) b=some u:=h1
  rw[NF] at h1;split at h1
  ·rename_i e; rw[e,WJ] at h1; rw[e]; exact hs.1.lo h1
  ·exact hs.1.lo h1
 ·have h1:BG (s.1.set a (lo0 s.1 a,some v)) b=some u:=h1
  rw[HA] at h1;split at h1
  ·rename_i e; cases h1; rw[e]; exact h
  ·exact(hs.1 b u).2 h1
 ·cases h2:lo s.1 a with
  |none=>rfl
  |some x=>have:=hs.1.lo h2; exact mL (by omega)
theorem Mm {s:BS} (hs:pa ρ s) {a:Nat} {v:Int} (h:v<=gf ρ a):pa ρ (Mn a v s):=by
 unfold Mn;cases lo s.1 a with
 |none=>exact Cr hs h
 |some o =>
  show pa ρ (Bool.rec s (G5 a v s) (isNeg (o-v)))
  cases isNeg (o-v) with
  |false=>exact hs
  |true=>exact Cr hs h
theorem Mo {s:BS} (hs:pa ρ s) {a:Nat} {v:Int} (h:gf ρ a<=v):pa ρ (Mp a v s):=by
 unfold Mp;cases hi s.1 a with
 |none=>exact Cs hs h
 |some o =>
  show pa ρ (Bool.rec s (G6 a v s) (isNeg (v-o)))
  cases isNeg (v-o) with
  |false=>exact hs
  |true=>exact Cs hs h
theorem KZ {s:BS} (hs:pa ρ s) {a:Nat} {q c:Int} (h:0<=q*gf ρ a+c):pa ρ (Gd a q s c):=by
 cases q with
 |ofNat n =>
  cases n with
  |zero=>exact hs
  |succ m =>
   refine Mm hs ?_
   have:=HM (c:=c) (x:=-gf ρ a) (r:=m+1) (by omega) (by
    rw[Ck,Int.mul_comm];have:((m+1:Nat):Int)*gf ρ a=Int.ofNat (m+1)*gf ρ a:=rfl;omega)
   show -(fdiv c (m+1))<=gf ρ a
   omega
 |negSucc n =>
  refine Mo hs (HM (by omega) ?_)
  rw[Int.negSucc_eq,Ck] at h;rw[Int.mul_comm,show((n.succ:Nat):Int)=(n:Int)+1 by omega]
  omega
theorem KX {s:BS} (hs:pa ρ s) {p:Nat × Int} {pre post:List (Nat × Int)} {c:Int} (h:0<=c+eA ρ pre+p.2*gf ρ p.1+eA ρ post):pa ρ (Gc p pre post c s):=by
 unfold Gc;cases h1:IV s.1 pre c with
 |none=>exact hs
 |some x =>
  show pa ρ (Option.rec s (Gd p.1 p.2 s) (IV s.1 post x))
  cases h2:IV s.1 post x with
  |none=>exact hs
  |some y =>
   have h3:=Ed hs.1 h1;have h4:=Ed hs.1 h2;exact KZ hs (by omega)
theorem KY {c:Int}:∀ {ts pre:List (Nat × Int)} {s:BS},pa ρ s->0<=c+eA ρ pre+eA ρ ts->pa ρ (P8 c ts pre s):=by
 intro ts
 induction ts with
 |nil=>intro pre s hs _; exact hs
 |cons p t ih =>
  intro pre s hs h;simp only[eA] at h;exact ih (KX hs (by omega)) (by simp only[eA]; omega)
theorem De {ih:GF} {k:Nat} {one:Bool} {g:af} (hi:∀ k g,ih k g=true->0<=g.ev ρ) (h:O6 ih k one g=true):0<=g.ev ρ:=by
 cases k with
 |zero=>cases h
 |succ k =>
  cases one with
  |true=>exact hi _ _ h
  |false=>cases k with
   |zero=>cases h
   |succ k=>exact hi _ _ h
theorem Sk (q:Int):nabs q = -(DW q):=by
 cases q with
 |ofNat n=>exact AI n
 |negSucc n=>rfl
theorem FN {ih:GF} {ix:Ix} {k:Nat} {p:Nat × Int} {g:af} (hx:Gp ρ ix) (hi:∀ k g,ih k g=true->0<=g.ev ρ) (h:A5 ih ix k p g=true):0<=g.ev ρ:=by
 obtain⟨f,hf,h2⟩:=bL (show dY _ (uh ix p.1)=true from h)
 cases h3:og (F5 p.1 f.ts) p.2 with
 |false=>rw[h3] at h2; cases h2
 |true =>
  rw[h3] at h2;have h4:=De hi h2;have h5:=hx _ f hf;have hs:=Cb h3;have hp:0<DW (F5 p.1 f.ts):=DV (hs.imp And.left And.left);have hq:0<DW p.2:=DV (hs.imp And.right And.right);unfold comb at h4;rw[af.aP,af.mU] at h4;have h6:=Int.mul_nonneg (EM hq) h5;have h7:0<=DW (F5 p.1 f.ts)*af.ev ρ g:=by
   rw[Sk,Ck] at h4; omega
  exact Int.nonneg_of_mul_nonneg_right h7 hp
theorem qW {a b:Bool} (h:(Bool.rec false b a:Bool)=true):a=true/\b=true:=by cases a with
 |false=>cases h
 |true=>exact⟨rfl,h⟩
theorem Vk {a b:Bool} (h:(Bool.rec b false a:Bool)=true):a=false/\b=true:=by cases a with
 |true=>cases h
 |false=>exact⟨rfl,h⟩
theorem XW {ih:GF} {k:Nat} {p:Nat × Int} {c:Int} {t:List (Nat × Int)} (hi:∀ k g,ih k g=true->0<=g.ev ρ) (h:geP ih k p c t=true):0<=af.ev ρ ⟨c,p::t⟩:=by
 obtain⟨h1,h⟩:=qW h;obtain⟨h2,h⟩:=qW h;have h3:0<=af.ev ρ (af.add ⟨c-p.2,t⟩ p.2 (af.at (Lc p.1))):=by
  cases hs:og (F5 (Lc p.1) t) 1 with
  |true=>rw[hs] at h; exact hi _ _ h
  |false=>rw[hs] at h; exact De hi h
 rw[af.aP,af.aR] at h3;have h4:=EW (ρ:=ρ) h2;have h5:=AJ (show gf ρ p.1<=gf ρ (Lc p.1)-1 by omega) (EM (mg h1))
 rw[Int.mul_sub] at h5;simp only[af.ev,eA] at h3 ⊢;omega
theorem XV {ih:GF} {k:Nat} {p:Nat × Int} {c:Int} {t:List (Nat × Int)} (hi:∀ k g,ih k g=true->0<=g.ev ρ) (h:geW ih k p c t=true):0<=af.ev ρ ⟨c,p::t⟩:=by
 obtain⟨h1,h⟩:=Vk h;obtain⟨h2,h⟩:=qW h;cases t with
 |nil=>cases h
 |cons r t =>
  obtain⟨_,h⟩:=qW h;have h3:=hi _ _ h;rw[af.aP,af.aR] at h3;have h4:=NG (ρ:=ρ) h2;have h5:=Jy h4 (oF h1);rw[Int.mul_add] at h5;simp only[af.ev,eA] at h3 ⊢;omega
theorem Kp {ih:GF} {bd:Bd} (hb:vf ρ bd) {k:Nat} {p:Nat × Int} {c:Int} {t:List (Nat × Int)} (hI:∀ k g,ih k g=true->0<=g.ev ρ) (h:FO ih bd k p c t=true):0<=af.ev ρ ⟨c,p::t⟩:=by
 unfold FO at h;cases h1:isNeg p.2 with
 |true =>
  rw[h1] at h;have h:(Option.rec false (fun x=>ih k ⟨ia c (im p.2 x),t⟩) (hi bd p.1):Bool)=true:=h
  cases h2:hi bd p.1 with
  |none=>rw[h2] at h; cases h
  |some v =>
   rw[h2] at h;have h3:=hI _ _ (show ih k ⟨ia c (im p.2 v),t⟩=true from h)
   have h4:=AJ (hb.hi h2) (EM (mg h1));simp only[af.ev,eA,oH,nC] at h3 ⊢; omega
 |false =>
  rw[h1] at h;have h:(Option.rec false (fun x=>ih k ⟨ia c (im p.2 x),t⟩) (lo bd p.1):Bool)=true:=h
  cases h2:lo bd p.1 with
  |none=>rw[h2] at h; cases h
  |some v =>
   rw[h2] at h;have h3:=hI _ _ (show ih k ⟨ia c (im p.2 v),t⟩=true from h)
   have h4:=Jy (hb.lo h2) (oF h1);simp only[af.ev,eA,oH,nC] at h3 ⊢; omega
theorem zk {ih:GF} {bd:Bd} (hb:vf ρ bd) {k:Nat} {p:Nat × Int} {c:Int} {t:List (Nat × Int)} (hi:∀ k g,ih k g=true->0<=g.ev ρ) (h:xx ih bd k p c t=true):0<=af.ev ρ ⟨c,p::t⟩:=by
 rcases bw h with h |h
 ·exact XW hi h
 rcases bw h with h |h
 ·exact XV hi h
 ·exact Kp hb hi h
theorem FM {F:ai} (hx:Gp ρ F.ix) (hb:vf ρ F.bd):∀ (n k:Nat) (g:af),U8 F n k g=true->0<=g.ev ρ:=by
 intro n
 induction n with
 |zero=>intro k g h; cases h
 |succ n ih =>
  intro k g h;obtain⟨c,ts⟩:=g;cases ts with
  |nil =>
   have:=pt (show(Bool.rec true false (isNeg c):Bool)=true from h)
   simp only[af.ev,eA]; omega
  |cons p t =>
   rcases bw (show fN (Wk (wL F.bd (p::t) c)) (O7 (U8 F n) F k p t ⟨c,p::t⟩)=true from h) with h |h
   ·unfold Wk at h
    cases h1:wL F.bd (p::t) c with
    |none=>rw[h1] at h; cases h
    |some x =>
     rw[h1] at h;have h2:=pt (show(Bool.rec true false (isNeg x):Bool)=true from h)
     have h3:=Hg hb h1;show 0<=c+eA ρ (p::t)
     omega
   cases k with
   |zero=>exact zk hb ih (qW (show(Bool.rec false (xx (U8 F n) F.bd 0 p c t) (GO (p::t)):Bool)=true from h)).2
   |succ k =>
    rcases bw (show fN (A5 (U8 F n) F.ix (k+1) p ⟨c,p::t⟩) (xx (U8 F n) F.bd (k+1) p c t)=true from h) with h |h
    ·exact FN hx ih h
    ·exact zk hb ih h
theorem Nu {df:Tr af} (hd:YS ρ df) (l:af):(CB df l).ev ρ=l.ev ρ:=by
 obtain⟨c,ts⟩:=l;unfold CB;rw[af.bf];show af.ev ρ (List.rec (motive:=fun _=>af) (af.n 0) (fun p _ ih=>Option.rec ⟨ih.c,CS p.1 p.2 ih.ts⟩ (fun d=>af.add ih p.2 d) (df.get p.1)) ts:af)+c=c+eA ρ ts
 have key:∀ ts:List (Nat × Int),af.ev ρ (List.rec (motive:=fun _=>af) (af.n 0) (fun p _ ih=>Option.rec ⟨ih.c,CS p.1 p.2 ih.ts⟩ (fun d=>af.add ih p.2 d) (df.get p.1)) ts:af)=eA ρ ts:=by
  intro ts
  induction ts with
  |nil=>rfl
  |cons p t ih =>
   show af.ev ρ (Option.rec _ _ (df.get p.1))=p.2*gf ρ p.1+eA ρ t
   cases h:df.get p.1 with
   |none =>
    rw[<-ih];simp only[af.ev,HV]; omega
   |some d =>
    show af.ev ρ (af.add _ p.2 d)=_
    rw[af.aP,ih,hd _ _ h]; omega
 rw[key]; omega
theorem Nt {df:Tr af} (hd:YS ρ df):∀ (n:Nat) (l:af),(Hb df n l).ev ρ=l.ev ρ:=by
 intro n
 induction n with
 |zero=>intro l; rfl
 |succ n ih =>
  intro l;show af.ev ρ (Bool.rec l (Hb df n (CB df l)) (OW df l.ts))=_
  cases OW df l.ts with
  |false=>rfl
  |true=>show af.ev ρ (Hb df n (CB df l))=_; rw[ih,Nu hd]
variable {ev : Fact → Prop} {F : ai}
theorem ai.Ok.norm (h:F.Ok ρ ev) (l:af):(F.norm l).ev ρ=l.ev ρ:=Nt h.df 4 l
theorem O8 (h:F.Ok ρ ev) {l:af} (hp:geD F l=true):0<=l.ev ρ:=by
 unfold geD at hp;cases hb:Nat.blt 3 F.st with
 |false=>rw[hb] at hp; exact FM h.ix h.bd _ _ _ hp
 |true =>
  rw[hb] at hp;rcases bw hp with h1 |h1
  ·exact FM h.ix h.bd _ _ _ h1
  ·exact FM h.ix h.bd _ _ _ h1
theorem mc (h:F.Ok ρ ev) {l:af} (hp:ov F l=true):0<=l.ev ρ:=by
 rcases bw hp with h1 |h1
 ·rw[h.bad] at h1; cases h1
 ·exact O8 h h1
theorem aW (h:F.Ok ρ ev) {l:af} (hp:bV F l=true):0<=l.ev ρ:=by
 rcases bw hp with h1 |h1
 ·rw[h.bad] at h1; cases h1
 ·rw[<-h.norm l]; exact O8 h h1
theorem JZ {l:af} (hl:0<=l.ev ρ):∀ (ts:List (Nat × Int)) (ix:Ix),Gp ρ ix->Gp ρ (List.rec (motive:=fun _=>Ix) ix (fun p _ ih=>ih.set p.1 (l::uh ih p.1)) ts):=by
 intro ts ix hx
 induction ts with
 |nil=>exact hx
 |cons p t ih =>
  intro a f hf;have hf:f∈uh (Tr.set _ p.1 (l::uh _ p.1)) a:=hf;rw[Ql] at hf;split at hf
  ·cases hf with
   |head=>exact hl
   |tail _ hf=>exact ih _ f hf
  ·exact ih _ f hf
theorem N3 {l:af} (hl:0<=l.ev ρ) {ix:Ix} (hx:Gp ρ ix):Gp ρ (UO l ix):=JZ hl l.ts ix hx
theorem ai.Ok.Df (h:F.Ok ρ ev) {l:af} (hl:0<=l.ev ρ):(F.Df l).Ok ρ ev:=by
 obtain⟨c,ts⟩:=l;cases ts with
 |nil =>
  show ai.Ok ρ ev (Bool.rec F F.fail (isNeg c))
  have:isNeg c=false:=mL (by simpa[af.ev,eA] using hl)
  rw[this]; exact h
 |cons p t =>
  have hb:=KY (ρ:=ρ) (c:=c) (ts:=p::t) (pre:=[]) (s:=(F.bd,F.bad)) ⟨h.bd,h.bad⟩ (by simpa[af.ev,eA] using hl)
  exact⟨N3 hl h.ix,h.fs,h.df,hb.1,hb.2⟩
theorem ai.Ok.ge (h:F.Ok ρ ev) {l:af} (hl:0<=l.ev ρ):(F.ge l).Ok ρ ev:=h.Df (by rw[h.norm]; exact hl)
theorem ai.Ok.fact (h:F.Ok ρ ev) {a:Nat} {f:Fact} (hf:ev f):(F.fact a f).Ok ρ ev:=by
 refine⟨h.ix,fun b g hg=>?_,h.df,h.bd,h.bad⟩
 have hg:g∈fF (F.fs.set a (f::fF F.fs a)) b:=hg;rw[Qm] at hg;split at hg
 ·cases hg with
  |head=>exact hf
  |tail _ hg=>exact h.fs _ g hg
 ·exact h.fs _ g hg
theorem HK (h:F.Ok ρ ev) {f:Int->af} {x:Option Int} (hx:∀ v,x=some v->0<=(f v).ev ρ):(XX F f x).Ok ρ ev:=by
 cases x with
 |none=>exact h
 |some v=>exact h.Df (hx v rfl)
theorem PN (h:F.Ok ρ ev):∀ {old:List af},(∀ f∈old,0<=f.ev ρ)->(H9 F old).Ok ρ ev:=by
 intro old
 induction old with
 |nil=>intro _; exact h
 |cons f t ih =>
  intro ho;have h1:=ih (fun g hg=>ho g (.tail _ hg))
  show ai.Ok ρ ev ((H9 F t).Df ((H9 F t).norm f))
  exact h1.Df (by rw[h1.norm]; exact ho f (.head _))
theorem ai.Ok.defn (h:F.Ok ρ ev) {a:Nat} {d:af} (hd:d.ev ρ=gf ρ a):(F.defn a d).Ok ρ ev:=by
 have h0:ai.Ok ρ ev ⟨F.ix,F.fs,F.df.set a d,F.bd,F.bad,F.st⟩:=by
  refine⟨h.ix,h.fs,fun b e hb=>?_,h.bd,h.bad⟩
  have hb:(F.df.set a d).get b=some e:=hb;rw[Tr.cb] at hb;split at hb
  ·rename_i e1; cases hb; rw[e1]; exact hd
  ·exact h.df _ _ hb
 have h1:=PN h0 (old:=uh F.ix a) (h.ix a);have h2:(Vh _ a d).Ok ρ ev:=HK h1 (fun v hv=>by rw[af.bf,hd]; have:=h1.bd.lo hv; omega)
 exact HK h2 (fun v hv=>by rw[af.da,hd]; have:=h2.bd.hi hv; omega)
theorem wO {q:Int} (h:nB q=true):if isNeg q then q = -1 else q=1:=by
 cases q with
 |ofNat n=>have:=kr (show Nat.beq n 1=true from h); subst this; rfl
 |negSucc n=>have:=kr (show Nat.beq n 0=true from h); subst this; rfl
theorem jo {α β:Type} {p:α->Option β} {l:List α} {b:β} (h:cX p l=some b):∃ a,a∈l/\p a=some b:=by
 induction l with
 |nil=>cases h
 |cons a t ih =>
  have h:(Option.rec (cX p t) some (p a):Option β)=some b:=h;cases h1:p a with
  |some c=>rw[h1] at h; exact⟨a,.head _,by rw[h1]; exact h⟩
  |none=>rw[h1] at h; obtain⟨c,h2,h3⟩:=ih h; exact⟨c,.tail _ h2,h3⟩
theorem oS {b:Bool} {p r:Nat × Int} (h:oT b p=some r):nB r.2=true:=by
 unfold oT at h;cases h1:aq (NM b p.1) (nB p.2) with
 |false=>rw[h1] at h; cases h
 |true=>rw[h1] at h; have h:some p=some r:=h; cases h; exact(ad h1).2
theorem PO {ts:List (Nat × Int)} {r:Nat × Int} (h:Ia ts=some r):nB r.2=true:=by
 unfold Ia at h;cases h1:cX (oT true) ts with
 |some c=>rw[h1] at h; have h:some c=some r:=h; cases h; obtain⟨a,_,h2⟩:=jo h1; exact oS h2
 |none=>rw[h1] at h; obtain⟨a,_,h2⟩:=jo (show cX (oT false) ts=some r from h); exact oS h2
theorem Yc (h:F.Ok ρ ev) {l:af} (hl:l.ev ρ=0):(eqN F l).Ok ρ ev:=by
 unfold eqN;cases h1:Ia l.ts with
 |none=>refine(h.Df (by omega)).Df ?_; rw[af.mU]; omega
 |some p =>
  have h2:=wO (PO h1);refine h.defn ?_
  cases h3:isNeg p.2 with
  |true =>
   rw[h3] at h2;show af.ev ρ (af.add l (-p.2) (af.at p.1))=_
   rw[af.aP,af.aR,hl,show p.2 = -1 from h2]; omega
  |false =>
   rw[h3] at h2;show af.ev ρ (af.EA (-1) (af.add l (-p.2) (af.at p.1)))=_
   rw[af.mU,af.aP,af.aR,hl,show p.2=1 from h2]; omega
theorem ai.Ok.eq (h:F.Ok ρ ev) {l:af} (hl:l.ev ρ=0):(F.eq l).Ok ρ ev:=Yc h (by rw[h.norm]; exact hl)
theorem ai.Ok.tell (h:F.Ok ρ ev) {a:Nat} {l:af} (hl:l.ev ρ=gf ρ a):(F.tell a l).Ok ρ ev:=by
 show ai.Ok ρ ev (L1 F a (F.norm l))
 rw[<-h.norm l] at hl
 revert hl
 generalize F.norm l=m
 intro hl;unfold L1;cases fN (Option.rec false (fun _=>true) (F.df.get a)) (dY (fun p=>Nat.beq p.1 a) m.ts) with
 |false=>exact h.defn hl
 |true=>refine h.eq ?_; rw[af.aP,af.aR,hl]; omega
theorem ai.Ok.ne (h:F.Ok ρ ev) {l:af} (hl:l.ev ρ≠0):(F.ne l).Ok ρ ev:=by
 show ai.Ok ρ ev (neN F (F.norm l))
 rw[<-h.norm l] at hl
 revert hl
 generalize F.norm l=m
 intro hl;unfold neN;cases h1:ov F m with
 |true =>
  have:=mc h h1;refine h.Df ?_
  rw[af.bf]; omega
 |false =>
  cases h2:ov F (af.EA (-1) m) with
  |true =>
   have:=mc h h2;rw[af.mU] at this;refine h.Df ?_
   rw[af.da]; omega
  |false=>exact h
theorem zu {x:SS} (h:tT x=true):x.ev ρ=[]:=by
 cases x with
 |v n=>cases h
 |c s=>cases s with
  |nil=>rfl
  |cons b t=>cases h
theorem Nr (h:F.Ok ρ ev) {x y:SS} (hn:x.ev ρ≠y.ev ρ):(Ns F x y).Ok ρ ev:=by
 unfold Ns;have key:∀ s:List UInt8,s≠[]->(0:Int)<=(s.length:Int) + -1:=by
  intro s hs;cases s with
  |nil=>exact absurd rfl hs
  |cons b t=>simp only[mE]; omega
 cases h1:tT y with
 |true =>
  refine h.ge ?_
  rw[af.bf,SS.fQ];exact key _ (fun e=>hn (by rw[e,zu h1]))
 |false =>
  show ai.Ok ρ ev (Bool.rec F (F.ge (y.len.plus (-1))) (tT x))
  cases h2:tT x with
  |false=>exact h
  |true =>
   refine h.ge ?_
   rw[af.bf,SS.fQ];exact key _ (fun e=>hn (by rw[e,zu h2]))
def vc (ρ:cz) (ev:Fact->Prop):Prop:=∀ b,ev (.f b)↔b.ev ρ
theorem BF.Bv (hs:vc ρ ev) (f:BF):∀ {F:ai} {b:Bool},F.Ok ρ ev->(if b then f.ev ρ else ¬ f.ev ρ)->(f.add F b).Ok ρ ev:=by
 induction f with
 |k c=>intro F b h _; exact h
 |ge l =>
  intro F b h hf;cases b with
  |true=>exact h.ge (by simpa[BF.ev] using hf)
  |false=>refine h.ge ?_; rw[af.da]; simp[BF.ev] at hf; omega
 |eq l =>
  intro F b h hf;cases b with
  |true=>exact h.eq (by simpa[BF.ev] using hf)
  |false=>exact(h.fact ((hs _).2 (by simpa[BF.ev] using hf))).ne (by simpa[BF.ev] using hf)
 |u n =>
  intro F b h hf;cases b with
  |true=>exact h.fact ((hs _).2 (by simpa[BF.ev] using hf))
  |false=>exact h.fact ((hs _).2 (by simpa[BF.ev] using hf))
 |seq x y =>
  intro F b h hf;cases b with
  |true =>
   have hf:x.ev ρ=y.ev ρ:=by simpa[BF.ev] using hf
   refine(h.fact ((hs (.seq x y)).2 hf)).eq ?_
   rw[af.aP,SS.fQ,SS.fQ,hf]; omega
  |false=>exact Nr (h.fact ((hs _).2 (by simpa[BF.ev] using hf))) (by simpa[BF.ev] using hf)
 |dot n =>
  intro F b h hf;cases b with
  |true=>exact h.fact ((hs _).2 (by simpa[BF.ev] using hf))
  |false=>exact h
 |not f ih =>
  intro F b h hf;cases b with
  |true=>exact ih (b:=false) h (by simpa[BF.ev] using hf)
  |false=>exact ih (b:=true) h (by simpa[BF.ev] using hf)
 |and f g jU jl =>
  intro F b h hf;cases b with
  |true =>
   have hf:f.ev ρ/\g.ev ρ:=by simpa[BF.ev] using hf
   exact jl (b:=true) (jU (b:=true) h (by simpa using hf.1)) (by simpa using hf.2)
  |false=>exact h
 |or f g jU jl =>
  intro F b h hf;cases b with
  |true=>exact h
  |false =>
   have hf:¬ f.ev ρ/\¬ g.ev ρ:=by simpa[BF.ev,not_or] using hf
   exact jl (b:=false) (jU (b:=false) h (by simpa using hf.1)) (by simpa using hf.2)
 |imp f g jU jl =>
  intro F b h hf;cases b with
  |true=>exact h
  |false =>
   have hf:f.ev ρ/\¬ g.ev ρ:=by simpa[BF.ev] using hf
   exact jl (b:=false) (jU (b:=true) h (by simpa using hf.1)) (by simpa using hf.2)
theorem rK (h:F.Ok ρ ev) {l:af} (hp:yt F l=true):l.ev ρ=0:=by
 rw[<-h.norm l];rcases bw hp with h1 |hp
 ·rw[h.bad] at h1; cases h1
 revert hp
 generalize F.norm l=m
 intro hp;obtain⟨c,ts⟩:=m;cases ts with
 |nil =>
  have hp:yj c=true:=hp;rw[mP] at hp;simp[af.ev,eA,hp]
 |cons p t =>
  have hp:aq (ov F ⟨c,p::t⟩) (ov F (af.EA (-1) ⟨c,p::t⟩))=true:=hp;obtain⟨h1,h2⟩:=ad hp;have h1:=mc h h1;have h2:=mc h h2;rw[af.mU] at h2;omega
theorem NZ (hs:vc ρ ev) {l:af} {f:Fact} (hf:ev f) (h:Hs l f=true):l.ev ρ≠0:=by
 unfold Hs at h;split at h
 ·rename_i m
  have hf:¬ m.ev ρ=0:=(hs _).1 hf;cases h1:af.beq l m with
  |true=>rw[af.bU h1]; exact hf
  |false =>
   rw[h1] at h;have:=af.bU (show af.beq _ _=true from h)
   rw[<-this,af.mU] at hf;omega
 ·cases h
theorem vn (hs:vc ρ ev) (h:F.Ok ρ ev) {l:af} (hp:JI F l=true):l.ev ρ≠0:=by
 rw[<-h.norm l];rcases bw hp with h1 |hp
 ·rw[h.bad] at h1; cases h1
 have hq:dY (Hs l) (fF F.fs (VM l))=true->(F.norm l).ev ρ≠0:=by
  intro h1;obtain⟨f,hf,h2⟩:=bL h1;rw[h.norm l];exact NZ hs (h.fs _ f hf) h2
 revert hp hq
 generalize F.norm l=m
 intro hp hq;obtain⟨c,ts⟩:=m;cases ts with
 |nil =>
  have hp:(Bool.rec true false (yj c):Bool)=true:=hp;cases h1:yj c with
  |true=>rw[h1] at hp; cases hp
  |false =>
   have:c≠0:=fun e=>by rw[(mP c).2 e] at h1; cases h1
   simp[af.ev,eA,this]
 |cons p t =>
  rcases bw (show fN _ _=true from hp) with h1 |h1
  ·exact hq h1
  ·rcases bw h1 with h1 |h1
   ·have h1:=mc h h1; rw[af.bf] at h1; omega
   ·have h1:=mc h h1; rw[af.da] at h1; omega
theorem nY {a b:Bool} (h:(Bool.rec false b a:Bool)=true):a=true/\b=true:=by cases a with
 |false=>cases h
 |true=>exact⟨rfl,h⟩
theorem Gk {a b:Bool} (h:(Bool.rec b true a:Bool)=true):a=true\/b=true:=by cases a with
 |false=>exact .inr h
 |true=>exact .inl rfl
theorem NW (hs:vc ρ ev) {x y:SS} {f:Fact} (hf:ev f) (h:Hq x y f=true):x.ev ρ=y.ev ρ:=by
 unfold Hq at h;split at h
 ·rename_i a b
  have hf:a.ev ρ=b.ev ρ:=(hs _).1 hf;rcases Gk h with h |h
  ·obtain⟨h1,h2⟩:=nY h
   rw[SS.bU h1,SS.bU h2]; exact hf
  ·obtain⟨h1,h2⟩:=nY h
   rw[SS.bU h1,SS.bU h2]; exact hf.symm
 ·cases h
theorem zb (hs:vc ρ ev) {x y:SS} {f:Fact} (hf:ev f) (h:AT x y f=true):x.ev ρ≠y.ev ρ:=by
 unfold AT at h;split at h
 ·rename_i a b
  have hf:a.ev ρ≠b.ev ρ:=(hs _).1 hf;rcases Gk h with h |h
  ·obtain⟨h1,h2⟩:=nY h
   rw[SS.bU h1,SS.bU h2]; exact hf
  ·obtain⟨h1,h2⟩:=nY h
   rw[SS.bU h1,SS.bU h2]; exact hf.symm
 ·rename_i a b
  have hf:a.ev ρ=b.ev ρ:=(hs _).1 hf;rcases Gk h with h |h
  ·obtain⟨h1,h2⟩:=nY h
   have:=SS.tV (ρ:=ρ) h2;rw[SS.bU h1,hf]; exact this.symm
  ·obtain⟨h1,h2⟩:=nY h
   have:=SS.tV (ρ:=ρ) h2;rw[SS.bU h1,<-hf]; exact this.symm
 ·cases h
theorem Ct (hs:vc ρ ev) (h:F.Ok ρ ev) {x y:SS} (hp:G7 F x y=true):x.ev ρ=y.ev ρ:=by
 rcases bw hp with h1 |h1
 ·rw[SS.bU h1]
 ·rcases bw h1 with h1 |h1<;>(obtain⟨f,hf,h2⟩:=bL h1; exact NW hs (h.fs _ f hf) h2)
theorem wP (hs:vc ρ ev) {n:Nat} {f:Fact} (hf:ev f) (h:wQ n f=true):(46:UInt8)∈strOf (ρ n):=by
 unfold wQ at h;split at h
 ·rename_i m
  rw[kr h];exact(hs _).1 hf
 ·cases h
theorem xM (hs:vc ρ ev) (h:F.Ok ρ ev) {x y:SS} (hp:vI F x y=true):x.ev ρ≠y.ev ρ:=by
 unfold vI at hp;cases x with
 |c s=>cases hp
 |v n =>
  cases y with
  |v m=>cases hp
  |c s =>
   obtain⟨h1,h2⟩:=nY (show(Bool.rec false (dY (wQ n) (fF F.fs n)) (uF s):Bool)=true from hp)
   obtain⟨f,hf,h3⟩:=bL h2;have h4:=wP hs (h.fs _ f hf) h3;intro e;have e:strOf (ρ n)=s:=e;rw[e] at h4;have:=aB h1 _ h4;cases this
theorem JH (hs:vc ρ ev) (h:F.Ok ρ ev) {x y:SS} (hp:EY F x y=true):x.ev ρ≠y.ev ρ:=by
 rcases bw hp with h1 |h1
 ·exact SS.tV h1
 rcases bw h1 with h1 |h1
 ·obtain⟨f,hf,h2⟩:=bL h1; exact zb hs (h.fs _ f hf) h2
 rcases bw h1 with h1 |h1
 ·obtain⟨f,hf,h2⟩:=bL h1; exact(zb hs (h.fs _ f hf) h2).symm
 rcases bw h1 with h1 |h1
 ·exact xM hs h h1
 rcases bw h1 with h1 |h1
 ·exact(xM hs h h1).symm
 ·have:=vn hs h h1
  rw[af.aP,SS.fQ,SS.fQ] at this;intro e;rw[e] at this;omega
theorem NV (hs:vc ρ ev) {n:Nat} {b:Bool} {f:Fact} (hf:ev f) (h:isU n b f=true):if b then ¬ ρ n = .bool true else ρ n = .bool true:=by
 unfold isU at h;split at h
 ·rename_i m
  cases b with
  |true=>cases h
  |false=>rw[kr (show Nat.beq n m=true from h)]; exact(hs _).1 hf
 ·rename_i m
  cases b with
  |false=>cases h
  |true=>rw[kr (show Nat.beq n m=true from h)]; exact(hs _).1 hf
 ·cases h
theorem BF.UF (hs:vc ρ ev) (f:BF):∀ {F:ai} {b:Bool},F.Ok ρ ev->f.pr F b=true->(if b then f.ev ρ else ¬ f.ev ρ):=by
 induction f with
 |k c=>intro F b _ h; cases b<;>cases c<;>simp_all [BF.pr,BF.ev]
 |ge l =>
  intro F b hF h;cases b with
  |true=>have:=aW hF (show bV F l=true from h); simpa[BF.ev] using this
  |false =>
   have:=aW hF (show bV F (af.from (-1) l)=true from h)
   rw[af.da] at this;simp[BF.ev]; omega
 |eq l =>
  intro F b hF h;cases b with
  |true=>have:=rK hF (show yt F l=true from h); simpa[BF.ev] using this
  |false=>have:=vn hs hF (show JI F l=true from h); simpa[BF.ev] using this
 |u n =>
  intro F b hF h;cases b with
  |true =>
   obtain⟨f,hf,h2⟩:=bL (show dY (isU n false) (fF F.fs n)=true from h)
   have:=NV hs (hF.fs _ f hf) h2
   simpa[BF.ev] using this
  |false =>
   obtain⟨f,hf,h2⟩:=bL (show dY (isU n true) (fF F.fs n)=true from h)
   have:=NV hs (hF.fs _ f hf) h2
   simpa[BF.ev] using this
 |seq x y =>
  intro F b hF h;cases b with
  |true=>have:=Ct hs hF (show G7 F x y=true from h); simpa[BF.ev] using this
  |false=>have:=JH hs hF (show EY F x y=true from h); simpa[BF.ev] using this
 |dot n =>
  intro F b hF h;cases b with
  |true =>
   obtain⟨f,hf,h2⟩:=bL (show dY (wQ n) (fF F.fs n)=true from h)
   have:=wP hs (hF.fs _ f hf) h2
   simpa[BF.ev] using this
  |false=>cases h
 |not f ih =>
  intro F b hF h;cases b with
  |true=>have:=ih (b:=false) hF h; simpa[BF.ev] using this
  |false=>have:=ih (b:=true) hF h; simpa[BF.ev] using this
 |and f g jU jl =>
  intro F b hF h;cases b with
  |true =>
   obtain⟨h1,h2⟩:=ad (show aq (f.pr F true) (g.pr F true)=true from h)
   have h1:=jU (b:=true) hF h1;have h2:=jl (b:=true) hF h2;simp only[oq] at h1 h2 ⊢; exact⟨h1,h2⟩
  |false =>
   rcases bw (show fN (f.pr F false) (g.pr F false)=true from h) with h1 |h1
   ·have h1:=jU (b:=false) hF h1; simp[BF.ev] at h1 ⊢; intro h2; exact absurd h2 h1
   ·have h1:=jl (b:=false) hF h1; simp[BF.ev] at h1 ⊢; intro _; exact h1
 |or f g jU jl =>
  intro F b hF h;cases b with
  |true =>
   rcases bw (show fN (f.pr F true) (g.pr F true)=true from h) with h1 |h1
   ·have h1:=jU (b:=true) hF h1; simp[BF.ev] at h1 ⊢; exact .inl h1
   ·have h1:=jl (b:=true) hF h1; simp[BF.ev] at h1 ⊢; exact .inr h1
  |false =>
   obtain⟨h1,h2⟩:=ad (show aq (f.pr F false) (g.pr F false)=true from h)
   have h1:=jU (b:=false) hF h1;have h2:=jl (b:=false) hF h2;simp[BF.ev,not_or] at h1 h2 ⊢; exact⟨h1,h2⟩
 |imp f g jU jl =>
  intro F b hF h;cases b with
  |true =>
   have h:g.pr (f.add F true) true=true:=h;simp only[oq];intro hf;have:=jl (b:=true) (BF.Bv hs f (b:=true) hF (by simpa using hf)) h
   simpa using this
  |false =>
   obtain⟨h1,h2⟩:=ad (show aq (f.pr F true) (g.pr F false)=true from h)
   have h1:=jU (b:=true) hF h1;have h2:=jl (b:=false) hF h2;simp[BF.ev] at h1 h2 ⊢; exact⟨h1,h2⟩
end
end Go.Ab
