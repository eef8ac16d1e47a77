/- Parts of the proof; no condition. -/
import Derived.Test.YthlkmffimhnehaaGreatZai
set_option linter.unusedSimpArgs false
set_option linter.unusedVariables false
namespace Go.Proofs.YthlkmffimhnehaaGreat
open Go Go.Ev Go.Ab Go.Pk
noncomputable section
set_option maxRecDepth 100000
set_option maxHeartbeats 2000000
def Sz:List (Nat × (List AV->Option AV)):=(17,rL)::SB
theorem Hi:sM Sz:=ou R9 AP
def AD:List AV->Option AV
 | []=>some (.bool true)
 |_=>none
theorem K1:ao (iw Sz) 1000 2 11 [] ⟨.nil,0⟩=some (.bool true,⟨.nil,0⟩):=by kernel_rfl
theorem Ni (base:Nat):nq Tryz.prog base 11 AD:=by
 refine Az Hi Tryz.func11 (by kernel_rfl) (by kernel_rfl) (fun args r h=>?_) base
 unfold AD at h;split at h<;>cases h
 exact⟨[],1000,2,_,_,rfl,K1,rfl⟩
def NH:List (Nat × (List AV->Option AV)):=(11,AD)::(18,rL)::Sz
theorem Hh:sM NH:=ou Ni (ou R8 Hi)
def eE:Env:=iw NH
def zw:XC:=(.seq (.seq (.aQ
 [aA 5 4,
  aA 6 0,
  aC 7 (.lens (.t 6)),
  aC 8 (.bin .lss .int (.t 5) (.t 7))]) (.cond (.t 8) .skip (.exit 0))) (.seq (.block 1 (.seq (.aQ
 [aA 11 0,
  aA 12 4,
  aC 13 (.tz (.t 11) (.t 12)),
  aC 14 (.bin .eql .int (.t 13) (.c (.int .u8 46)))]) (.cond (.t 14) (.aQ
 [aA 15 3,
  aC 16 (.bin .add .int (.t 15) (.c (.int .i64 1))),
  aA 3 16]) .skip))) (.aQ
 [aA 9 4,
  aC 10 (.bin .add .int (.t 9) (.c (.int .i64 1))),
  aA 4 10])))
def Rg:XC:=(.seq (.aQ
 [aC 2 (.move (.c (.int .i64 0)))]) (.seq (.aQ
 [aC 3 (.move (.c (.int .i64 0)))]) (.seq (.seq (.aQ
 [aC 4 (.move (.c (.int .i64 0)))]) (.block 0 (.loop zw))) (.seq (.aQ
 [aA 17 3,
  aA 2 17]) .ret))))
def Mj:XC:=(.seq (.seq (.aQ
 [aA 22 0,
  aA 23 5,
  aC 24 (.tz (.t 22) (.t 23)),
  aC 25 (.bin .neq .int (.t 24) (.c (.int .u8 46)))]) (.cond (.t 25) .skip (.exit 0))) (.block 1 (.aQ
 [aA 26 5,
  aC 27 (.bin .add .int (.t 26) (.c (.int .i64 1))),
  aA 5 27])))
def y49:XC:=(.seq (.aQ
 [aC 2 (.move (.c (.str []))),
  aC 3 (.move (.c (.str []))),
  aC 4 (.move (.c (.bool false)))]) (.seq (.seq (.aQ
 [aA 6 0,
  fL 7 (.call (.c (.fn 106 [] [])) [(.t 6)]),
  aC 8 (.bin .neq .int (.t 7) (.c (.int .i64 1))),
  aA 9 8,
  bW 10 9 false (.move (.t 0)),
  bW 11 9 false (.tz (.t 10) (.c (.int .i64 0))),
  bW 12 9 false (.bin .eql .int (.t 11) (.c (.int .u8 46))),
  aC 13 (.pick (.t 9) (.c (.bool true)) (.t 12)),
  aA 14 13,
  bW 15 14 false (.move (.t 0)),
  bW 16 14 false (.move (.t 0)),
  bW 17 14 false (.lens (.t 16)),
  bW 18 14 false (.bin .sub .int (.t 17) (.c (.int .i64 1))),
  bW 19 14 false (.tz (.t 15) (.t 18)),
  bW 20 14 false (.bin .eql .int (.t 19) (.c (.int .u8 46))),
  aC 21 (.pick (.t 14) (.c (.bool true)) (.t 20))]) (.cond (.t 21) (.seq (.aQ
 [aC 2 (.move (.c (.str []))),
  aC 3 (.move (.c (.str []))),
  aC 4 (.move (.c (.bool false)))]) .ret) .skip)) (.seq (.aQ
 [aC 5 (.move (.c (.int .i64 0)))]) (.seq (.block 0 (.loop Mj)) (.seq (.nL []
 [aA 28 0,
  aA 29 5,
  aC 30 (.lZ (.t 28) none (some (.t 29))),
  aA 31 0,
  aA 32 5,
  aC 33 (.bin .add .int (.t 32) (.c (.int .i64 1))),
  aC 34 (.lZ (.t 31) (some (.t 33)) none),
  aA 2 30,
  aA 3 34,
  aC 4 (.move (.c (.bool true)))] []) .ret)))))
def E3:XC:=(.seq (.seq (.aQ
 [aA 13 4,
  aC 14 (.bin .gtr .int (.t 13) (.c (.int .u64 0)))]) (.cond (.t 14) .skip (.exit 0))) (.seq (.block 1 (.aQ
 [aA 17 4,
  aC 18 (.bin .rem .int (.t 17) (.c (.int .u64 10))),
  aC 19 (.bin .add .int (.c (.int .u64 48)) (.t 18)),
  aC 20 (.KP .u8 (.t 19)),
  aC 21 (.fv 1 [(.int .u8 0)] [(0,(.t 20))]),
  aC 22 (.ud (.t 21)),
  aA 23 3,
  aC 24 (.bin .add .str (.t 22) (.t 23)),
  aA 3 24])) (.aQ
 [aA 15 4,
  aC 16 (.bin .quo .int (.t 15) (.c (.int .u64 10))),
  aA 4 16])))
def Lu:XC:=(.seq (.aQ
 [aC 2 (.move (.c (.str [])))]) (.seq (.seq (.aQ
 [aA 5 0,
  aC 6 (.bin .eql .int (.t 5) (.c (.int .i64 0)))]) (.cond (.t 6) (.seq (.aQ
 [aC 2 (.move (.c (.str [48])))]) .ret) .skip)) (.seq (.aQ
 [aA 7 0,
  aC 8 (.KP .u64 (.t 7)),
  aC 3 (.move (.c (.str []))),
  aA 4 8]) (.seq (.seq (.aQ
 [aA 9 0,
  aC 10 (.bin .lss .int (.t 9) (.c (.int .i64 0)))]) (.cond (.t 10) (.aQ
 [aA 11 4,
  aC 12 (.neg (.t 11)),
  aA 4 12]) .skip)) (.seq (.block 0 (.loop E3)) (.seq (.seq (.aQ
 [aA 25 0,
  aC 26 (.bin .lss .int (.t 25) (.c (.int .i64 0)))]) (.cond (.t 26) (.aQ
 [aA 27 3,
  aC 28 (.bin .add .str (.c (.str [45])) (.t 27)),
  aA 3 28]) .skip)) (.seq (.aQ
 [aA 29 3,
  aA 2 29]) .ret)))))))
def EI:XC:=(.seq (.aQ
 [aC 8 (.bin .lss .int (.t 7) (.t 6))]) (.seq (.cond (.t 8) .skip (.exit 0)) (.seq (.block 1 (.seq (.aQ
 [aC 9 (.gE 1 (.t 5) (.t 7)),
  om 10 (.load 1 false (.t 9)),
  aA 4 10]) (.seq (.aQ
 [aA 11 4,
  aA 12 0,
  aC 13 (.bin .eql .str (.t 11) (.t 12))]) (.cond (.t 13) (.seq (.aQ
 [aC 2 (.move (.c (.bool true)))]) .ret) .skip)))) (.aQ
 [aC 14 (.bin .add .int (.t 7) (.c (.int .i64 1))),
  aA 7 14]))))
def VB:XC:=(.seq (.aQ
 [aC 2 (.move (.c (.bool false)))]) (.seq (.seq (.aQ
 [fL 5 (.call (.c (.fn 253 [] [])) []),
  aC 6 (.kA (.t 5)),
  aC 7 (.move (.c (.int .i64 0)))]) (.block 0 (.loop EI))) (.seq (.aQ
 [aC 2 (.move (.c (.bool false)))]) .ret)))
def y253:XC:=(.seq (.aQ
 [aC 0 (.move (.c .az))]) (.seq (.aQ
 [aC 1 (.fv 1 [(.str []),(.str []),(.str []),(.str []),(.str []),(.str []),(.str []),(.str []),(.str []),(.str []),(.str []),(.str []),(.str []),(.str []),(.str []),(.str []),(.str []),(.str []),(.str []),(.str []),(.str []),(.str []),(.str []),(.str []),(.str []),(.str []),(.str []),(.str []),(.str []),(.str []),(.str []),(.str []),(.str []),(.str []),(.str []),(.str []),(.str []),(.str []),(.str []),(.str []),(.str []),(.str []),(.str []),(.str [])] [(0,(.c (.str [108,105,98,114,97,114,121]))),(1,(.c (.str [99,108,105,101,110,116]))),(2,(.c (.str [105,110,116,101,114,102,97,99,101]))),(3,(.c (.str [114,101,108,101,97,115,101]))),(4,(.c (.str [105,109,112,111,114,116]))),(5,(.c (.str [115,105,110,99,101]))),(6,(.c (.str [112,117,98,108,105,99]))),(7,(.c (.str [102,114,111,122,101,110]))),(8,(.c (.str [115,101,97,108,101,100]))),(9,(.c (.str [105,110,108,105,110,101]))),(10,(.c (.str [105,110,100,105,114,101,99,116]))),(11,(.c (.str [115,116,114,117,99,116]))),(12,(.c (.str [117,110,105,111,110]))),(13,(.c (.str [116,114,97,105,116]))),(14,(.c (.str [99,111,110,102,111,114,109]))),(15,(.c (.str [102,111,114]))),(16,(.c (.str [102,117,110,99]))),(17,(.c (.str [100,101,102,97,117,108,116]))),(18,(.c (.str [108,101,116]))),(19,(.c (.str [105,110]))),(20,(.c (.str [105,102]))),(21,(.c (.str [116,104,101,110]))),(22,(.c (.str [101,108,115,101]))),(23,(.c (.str [112,114,105,110,116]))),(24,(.c (.str [116,114,117,101]))),(25,(.c (.str [102,97,108,115,101]))),(26,(.c (.str [99,97,115,101]))),(27,(.c (.str [111,102]))),(28,(.c (.str [99,97,108,108]))),(29,(.c (.str [109,97,116,99,104]))),(30,(.c (.str [97,114,114,97,121]))),(31,(.c (.str [99,111,117,110,116]))),(32,(.c (.str [97,116]))),(33,(.c (.str [97,112,112,101,110,100]))),(34,(.c (.str [97,118,97,105,108,97,98,108,101]))),(35,(.c (.str [102,97,105,108]))),(36,(.c (.str [98,121,116,101]))),(37,(.c (.str [111,114,100]))),(38,(.c (.str [119,105,116,104]))),(39,(.c (.str [73,110,116]))),(40,(.c (.str [66,121,116,101]))),(41,(.c (.str [66,111,111,108]))),(42,(.c (.str [65,114,114,97,121]))),(43,(.c (.str [83,101,108,102])))]),
  aA 0 1]) .ret))
theorem r49 (ag d:Nat) (args:List AV) (st:St):ao eE ag (d+1) 49 args st=bg [.t 2,.t 3,.t 4] (ak (ao eE ag d) ag y49 (bb args 0 .nil) st):=bp Tryz.func49 (by decide) (x:=⟨y49,[.t 2,.t 3,.t 4]⟩) (by kernel_rfl) rfl ag d args st
theorem r106 (ag d:Nat) (args:List AV) (st:St):ao eE ag (d+1) 106 args st=bg [.t 2] (ak (ao eE ag d) ag Rg (bb args 0 .nil) st):=bp Tryz.func106 (by decide) (x:=⟨Rg,[.t 2]⟩) (by kernel_rfl) rfl ag d args st
theorem r149 (ag d:Nat) (args:List AV) (st:St):ao eE ag (d+1) 149 args st=bg [.t 2] (ak (ao eE ag d) ag Lu (bb args 0 .nil) st):=bp Tryz.func149 (by decide) (x:=⟨Lu,[.t 2]⟩) (by kernel_rfl) rfl ag d args st
theorem r195 (ag d:Nat) (args:List AV) (st:St):ao eE ag (d+1) 195 args st=bg [.t 2] (ak (ao eE ag d) ag VB (bb args 0 .nil) st):=bp Tryz.func195 (by decide) (x:=⟨VB,[.t 2]⟩) (by kernel_rfl) rfl ag d args st
theorem r253 (ag d:Nat) (args:List AV) (st:St):ao eE ag (d+1) 253 args st=bg [.t 0] (ak (ao eE ag d) ag y253 (bb args 0 .nil) st):=bp Tryz.func253 (by decide) (x:=⟨y253,[.t 0]⟩) (by kernel_rfl) rfl ag d args st
def jq:List UInt8->Nat
 | []=>0
 |b::l=>match Nat.beq b.toNat 46 with
  |true=>jq l+1
  |false=>jq l
theorem zv (b:UInt8) (l:List UInt8):jq (b::l)=match Nat.beq b.toNat 46 with
  |true=>jq l+1
  |false=>jq l:=rfl
theorem e46 (a:Nat):bE .eql .int (.int .u8 (.ofNat a)) (.int .u8 46)=some (.bool (Nat.beq a 46)):=rfl
theorem nq46 (a:Nat):bE .neq .int (.int .u8 (.ofNat a)) (.int .u8 46)=some (.bool (!(Nat.beq a 46))):=rfl
def bR (n:Nat):Bool:=!(Nat.beq n 46)
theorem KC {call:Ev.e8} {ag:Nat} {st:St} {s:List UInt8} (hs:s.length<2000000000):∀ (l:List UInt8) (n k m:Nat) (tm:Tr AV),s.drop n=l->n<=s.length->k<=n->l.length<m->tm.get 0=some (.str s)->tm.get 3=some (.int .i64 (.ofNat k))->tm.get 4=some (.int .i64 (.ofNat n)) ->
  ah (aY (ak call ag zw) m tm st) fun e ay ae=>e = .exit 0/\ae=st/\ay.get 3=some (.int .i64 (.ofNat (k+jq l))):=by
 intro l
 induction l with
 |nil =>
  intro n k m tm hl hn hk hm h0 h3 h4;obtain⟨m,rfl⟩:∃ k,m=k+1:=⟨m-1,by simp at hm; omega⟩
  have aO:decide (n<s.length)=false:=nM (by have:=drop_nil hl hn; omega)
  simp only[ax,zw,bF,aw,aF,av,ah,Nat.reduceEqDiff,reduceCtorEq,h0,h3,h4,aI,aS,aO];exact⟨trivial,trivial,rfl⟩
 |cons b l ih =>
  intro n k m tm hl hn hk hm h0 h3 h4;obtain⟨m,rfl⟩:∃ k,m=k+1:=⟨m-1,by simp at hm; omega⟩
  obtain⟨hb,dt,jm⟩:=dx hl;have aO:decide (n<s.length)=true:=fM dt;have dw:=add_one (n:=n) (by omega)
  have hadk:=add_one (n:=k) (by omega)
  have dX:=gw hb;rw[zv];cases q:Nat.beq b.toNat 46
  ·simp only[ax,zw,bF,aw,aF,av,ah,Nat.reduceEqDiff,reduceCtorEq,h0,h3,h4,aI,aS,aX,aO,dw,dX,e46,q]
   exact ih (n+1) k m _ jm (by omega) (by omega) (by simp at hm; omega) (by simp only[aE,Nat.reduceEqDiff,reduceCtorEq,h0]) (by simp only[aE,Nat.reduceEqDiff,reduceCtorEq,h3]) (by simp only[aE,Nat.reduceEqDiff,reduceCtorEq])
  ·simp only[ax,zw,bF,aw,aF,av,ah,Nat.reduceEqDiff,reduceCtorEq,h0,h3,h4,aI,aS,aX,aO,dw,hadk,dX,e46,q]
   have:=ih (n+1) (k+1) m;rw[show k+(jq l+1)=k+1+jq l by omega]
   exact this _ jm (by omega) (by omega) (by simp at hm; omega) (by simp only[aE,Nat.reduceEqDiff,reduceCtorEq,h0]) (by simp only[aE,Nat.reduceEqDiff,reduceCtorEq]) (by simp only[aE,Nat.reduceEqDiff,reduceCtorEq])
theorem KD {call:Ev.e8} {ag:Nat} (st:St) {s:List UInt8} (hs:s.length<2000000000) (hl:s.length<ag):bg [.t 2] (ak call ag Rg (bb [.str s] 0 .nil) st)=some (.int .i64 (.ofNat (jq s)),st):=by
 have go:∀ (F:RF) (tm:Tr AV),tm.get 0=some (.str s)->tm.get 3=some (.int .i64 0)->tm.get 4=some (.int .i64 0)->(∀ ay:Tr AV,ay.get 3=some (.int .i64 (.ofNat (jq s)))->bg [.t 2] (F ay st)=some (.int .i64 (.ofNat (jq s)),st))->bg [.t 2] (R.andThen (R.block 0 (aY (ak call ag zw) ag tm st)) F)=some (.int .i64 (.ofNat (jq s)),st):=by
  intro F tm h0 h3 h4 hF;obtain⟨e,ay,ae,h5,rfl,rfl,h6⟩:=bq (KC (call:=call) (ag:=ag) (st:=st) hs s 0 0 ag tm rfl (by omega) (by omega) hl h0 h3 h4)
  rw[kT] at h6;rw[h5,bT,cT];exact hF ay h6
 simp only[Rg,bn,bF,aw,aF,av,ah,Nat.reduceEqDiff,reduceCtorEq];refine go _ _ ?_ ?_ ?_ fun ay h=>?_
 ·simp only[aE,Nat.reduceEqDiff,reduceCtorEq,bz]
 ·simp only[aE,Nat.reduceEqDiff,reduceCtorEq]
 ·simp only[aE,Nat.reduceEqDiff,reduceCtorEq]
 ·simp only[bF,aw,aF,av,ah,Nat.reduceEqDiff,reduceCtorEq,h]
  exact b9 2 (by simp only[aE,Nat.reduceEqDiff,reduceCtorEq])
theorem H2:∀ {l:List UInt8},jq l≠0->(46:UInt8)∈l/\aM bR l<l.length:=by
 intro l
 induction l with
 |nil=>intro h; exact absurd rfl h
 |cons b l ih =>
  intro h;rw[zv] at h;rw[fT];unfold bR;cases q:Nat.beq b.toNat 46 with
  |true =>
   have:b=46:=UInt8.toNat_inj.1 (kr q);exact⟨by rw[this]; exact List.mem_cons_self ..,by show 0<l.length+1; omega⟩
  |false =>
   rw[q] at h;obtain⟨h1,h2⟩:=ih h;exact⟨List.mem_cons_of_mem _ h1,by show aM bR l+1<l.length+1; omega⟩
theorem Mi {call:Ev.e8} {ag:Nat} {st:St} {s:List UInt8} (hs:s.length<2000000000):∀ (l:List UInt8) (n m:Nat) (tm:Tr AV),s.drop n=l->aM bR l<l.length->l.length<m->tm.get 0=some (.str s)->tm.get 5=some (.int .i64 (.ofNat n)) ->
  ah (aY (ak call ag Mj) m tm st) fun e ay ae=>e = .exit 0/\ae=st/\ay.get 0=some (.str s)/\ay.get 5=some (.int .i64 (.ofNat (n+aM bR l))):=by
 intro l
 induction l with
 |nil=>intro n m tm hl hr; simp at hr
 |cons b l ih =>
  intro n m tm hl hr hm h0 h5;obtain⟨m,rfl⟩:∃ k,m=k+1:=⟨m-1,by omega⟩
  obtain⟨hb,dt,jm⟩:=dx hl;have dw:=add_one (n:=n) (by omega)
  have dX:=gw hb;rw[fT] at hr ⊢;unfold bR at hr ⊢;cases q:Nat.beq b.toNat 46<;>rw[q] at hr
  ·simp only[ax,Mj,bF,aw,aF,av,ah,Nat.reduceEqDiff,reduceCtorEq,h0,h5,aX,dw,dX,nq46,q]
   have:=ih (n+1) m;have hr:aM bR l+1<l.length+1:=hr;rw[show n+((aM (fun n=>!(Nat.beq n 46)) l)+1)=n+1+aM bR l from by show n+(aM bR l+1)=_; omega]
   exact this _ jm (by omega) (by simp at hm; omega) (by simp only[aE,Nat.reduceEqDiff,reduceCtorEq,h0]) (by simp only[aE,Nat.reduceEqDiff,reduceCtorEq])
  ·simp only[ax,Mj,bF,aw,aF,av,ah,Nat.reduceEqDiff,reduceCtorEq,h0,h5,aX,dw,dX,nq46,q]
   exact⟨trivial,trivial,trivial,rfl⟩
def isQ (s:List UInt8):Bool:=Nat.beq (jq s) 1&&(match s with
 | []=>false
 |c::_=>!(Nat.beq c.toNat 46))&&(match nth s (s.length-1) with
 |some c=>!(Nat.beq c.toNat 46)
 |none=>false)
def Af (s:List UInt8):AV:=match isQ s with
 |true=>.cv [.str (s.take (aM bR s)),.str (s.drop (aM bR s+1)),.bool true]
 |false=>.cv [.str [],.str [],.bool false]
theorem Se (a:Nat):bE .neq .int (.int .i64 (.ofNat a)) (.int .i64 1)=some (.bool (!(Nat.beq a 1))):=rfl
theorem Nq {s:List UInt8} {n:Nat} (h:n<s.length):∃ c,nth s n=some c:=by
 rw[jC,ey h]; exact⟨_,rfl⟩
theorem TW {tm:Tr AV} (x a:XO):mw tm (.lZ x none (some a))=kf tm none (some a) (aD tm x):=rfl
theorem Eu {ag:Nat} (d:Nat) (st:St) {s:List UInt8} (hs:s.length<2000000000) (hl:s.length<ag):ao eE ag (d+2) 49 [.str s] st=some (Af s,st):=by
 rw[r49];have hd:∀ st,ao eE ag (d+1) 106 [.str s] st=some (.int .i64 (.ofNat (jq s)),st):=fun st=>by rw[r106]; exact KD (call:=ao eE ag d) st hs hl
 have CF:ch (.int .i64 0)=some 0:=rfl;unfold Af isQ;cases q1:Nat.beq (jq s) 1
 ·simp only[y49,bn,bF,aw,aF,av,ah,Nat.reduceEqDiff,reduceCtorEq,bz,hd,Se,q1,jh]
  exact kH 2 3 4 (by simp only[aE,Nat.reduceEqDiff,reduceCtorEq]) (by simp only[aE,Nat.reduceEqDiff,reduceCtorEq]) (by simp only[aE,Nat.reduceEqDiff,reduceCtorEq])
 ·have Ts:jq s≠0:=by
   have:=kr q1;omega
  obtain⟨hm,hr⟩:=H2 Ts;cases s with
  |nil=>exact absurd rfl Ts
  |cons c l =>
   have dX:=gw (s:=c::l) (n:=0) (b:=c) rfl;have bH:bE .sub .int (.int .i64 (.ofNat (c::l).length)) (.int .i64 1)=some (.int .i64 (.ofNat ((c::l).length-1))):=GK (b:=1) (by simp) (by simp at hs; simp; omega)
   obtain⟨z,hz⟩:=Nq (s:=c::l) (n:=(c::l).length-1) (by simp)
   have hiz:=gw hz;rw[hz];cases q2:Nat.beq c.toNat 46
   ·cases q3:Nat.beq z.toNat 46
    ·have go:∀ (F:RF) (tm:Tr AV),tm.get 0=some (.str (c::l))->tm.get 5=some (.int .i64 0)->(∀ ay:Tr AV,ay.get 0=some (.str (c::l))->ay.get 5=some (.int .i64 (.ofNat (aM bR (c::l))))->bg [.t 2,.t 3,.t 4] (F ay st)=some (.cv [.str ((c::l).take (aM bR (c::l))),.str ((c::l).drop (aM bR (c::l)+1)),.bool true],st))->bg [.t 2,.t 3,.t 4] (R.andThen (R.block 0 (aY (ak (ao eE ag (d+1)) ag Mj) ag tm st)) F)=some (.cv [.str ((c::l).take (aM bR (c::l))),.str ((c::l).drop (aM bR (c::l)+1)),.bool true],st):=by
      intro F tm h0 h5 hF;obtain⟨e,ay,ae,h6,rfl,rfl,h7,h8⟩:=bq (Mi (call:=ao eE ag (d+1)) (ag:=ag) (st:=st) hs (c::l) 0 ag tm rfl hr hl h0 h5);rw[kT] at h8;rw[h6,bT,cT];exact hF ay h7 h8
     simp only[y49,bn,bF,aw,aF,av,ah,Nat.reduceEqDiff,reduceCtorEq,bz,hd,Se,q1,CF,dX,e46,q2,aS,bH,aX,hiz,q3,gI,Bool.not_false,wy];refine go _ _ ?_ ?_ fun ay h0 h5=>?_
     ·simp only[aE,Nat.reduceEqDiff,reduceCtorEq,bz]
     ·simp only[aE,Nat.reduceEqDiff,reduceCtorEq]
     ·have hh:=C7 (s:=c::l) (n:=aM bR (c::l)) (by omega)
      have ht:=BX (s:=c::l) (n:=aM bR (c::l)+1) hr;have ha:=add_one (n:=aM bR (c::l)) (by omega)
      simp only[TW,C6,pL,lY,bF,aw,aF,av,ah,Nat.reduceEqDiff,reduceCtorEq,h0,h5,aX,hh,ha,ht];exact kH 2 3 4 (by simp only[aE,Nat.reduceEqDiff,reduceCtorEq]) (by simp only[aE,Nat.reduceEqDiff,reduceCtorEq]) (by simp only[aE,Nat.reduceEqDiff,reduceCtorEq])
    ·simp only[y49,bn,bF,aw,aF,av,ah,Nat.reduceEqDiff,reduceCtorEq,bz,hd,Se,q1,CF,dX,e46,q2,aS,bH,aX,hiz,q3,gI,Bool.and_false,Bool.not_false,wy]
     exact kH 2 3 4 (by simp only[aE,Nat.reduceEqDiff,reduceCtorEq]) (by simp only[aE,Nat.reduceEqDiff,reduceCtorEq]) (by simp only[aE,Nat.reduceEqDiff,reduceCtorEq])
   ·simp only[y49,bn,bF,aw,aF,av,ah,Nat.reduceEqDiff,reduceCtorEq,bz,hd,Se,q1,CF,dX,e46,q2,aS,bH,aX,hiz,gI,Bool.and_false,jh,Bool.not_false,wy]
    exact kH 2 3 4 (by simp only[aE,Nat.reduceEqDiff,reduceCtorEq]) (by simp only[aE,Nat.reduceEqDiff,reduceCtorEq]) (by simp only[aE,Nat.reduceEqDiff,reduceCtorEq])
theorem SP {s:List UInt8} (h:isQ s=true):(46:UInt8)∈s/\1<=aM bR s/\aM bR s+1<s.length:=by
 unfold isQ at h;rw[kQ,kQ] at h;obtain⟨⟨h1,h2⟩,h3⟩:=h;have h1:=kr h1;obtain⟨hm,hr⟩:=H2 (l:=s) (by omega)
 refine⟨hm,?_,?_⟩
 ·cases s with
  |nil=>cases h2
  |cons c l =>
   have h2:(!(Nat.beq c.toNat 46))=true:=h2;rw[fT,show bR c.toNat=true from h2]
   show 1<=aM bR l+1
   omega
 ·by_cases e:aM bR s+1=s.length
  ·exfalso
   have hdot:∀ (l:List UInt8),aM bR l<l.length->∃ c,nth l (aM bR l)=some c/\Nat.beq c.toNat 46=true:=by
    intro l
    induction l with
    |nil=>intro h; simp at h
    |cons c l ih =>
     intro h;rw[fT] at h ⊢;unfold bR at h ⊢;cases q:Nat.beq c.toNat 46 with
     |true=>exact⟨c,rfl,q⟩
     |false =>
      rw[q] at h;have h:aM bR l+1<l.length+1:=h;exact ih (by omega)
   obtain⟨c,nU,hc2⟩:=hdot s hr;rw[show s.length-1=aM bR s by omega,nU] at h3
   have h3:(!(Nat.beq c.toNat 46))=true:=h3;rw[hc2] at h3;cases h3
  ·omega
def Dy:Nat->Nat->Nat
 |0,_=>0
 |f+1,u=>match Nat.beq u 0 with
  |true=>0
  |false=>Dy f (u / 10)+1
def u7:Nat->Nat->List UInt8->List UInt8
 |0,_,s=>s
 |f+1,u,s=>match Nat.beq u 0 with
  |true=>s
  |false=>u7 f (u / 10) ([UInt8.ofNat (48+u % 10)]++s)
theorem Dz:∀ (f u:Nat) (s:List UInt8),(u7 f u s).length=s.length+Dy f u:=by
 intro f
 induction f with
 |zero=>intro u s; rfl
 |succ f ih =>
  intro u s;unfold u7 Dy;cases Nat.beq u 0 with
  |true=>rfl
  |false =>
   show(u7 f (u / 10) ([UInt8.ofNat (48+u % 10)]++s)).length=s.length+(Dy f (u / 10)+1)
   rw[ih]; simp; omega
theorem H7:∀ (f k u:Nat),u<10 ^ k->Dy f u<=k:=by
 intro f
 induction f with
 |zero=>intro k u _; exact tc _
 |succ f ih =>
  intro k u h;unfold Dy;cases q:Nat.beq u 0 with
  |true=>exact tc _
  |false =>
   have hu:u≠0:=fun e=>by rw[e] at q; cases q
   cases k with
   |zero=>simp at h; omega
   |succ k =>
    have:u / 10<10 ^ k:=by rw[Nat.pow_succ] at h; omega
    have:=ih k (u / 10) this;show Dy f (u / 10)+1<=k+1
    omega
theorem Aa (n:Int):∃ u:Nat,IntKind.u64.wrap n=(u:Int)/\u<18446744073709551616:=by
 have h1:=Int.emod_nonneg n (show(18446744073709551616:Int)≠0 by omega)
 have h2:=Int.emod_lt_of_pos n (show(0:Int)<18446744073709551616 by omega)
 refine⟨(n % 18446744073709551616).toNat,?_,by omega⟩
 have e:IntKind.u64.wrap n=n % 18446744073709551616:=rfl;rw[e]; omega
theorem HI (u:Nat):bE .gtr .int (.int .u64 (.ofNat u)) (.int .u64 0)=some (.bool (!(Nat.beq u 0))):=by
 show some (AV.bool (decide ((u:Int)>0)))=_
 have:decide ((u:Int)>0) = !(Nat.beq u 0):=by
  rw[bo]
  by_cases h:u=0
  ·subst h; rfl
  ·rw[fM (by omega),nM h]; rfl
 rw[this]
theorem RS (u:Nat):bE .rem .int (.int .u64 (.ofNat u)) (.int .u64 10)=some (.int .u64 (.ofNat (u % 10))):=rfl
theorem RX (u:Nat) (h:u<18446744073709551616):bE .quo .int (.int .u64 (.ofNat u)) (.int .u64 10)=some (.int .u64 (.ofNat (u / 10))):=by
 show some (AV.int .u64 (IntKind.u64.wrap (Int.tdiv (u:Int) 10)))=_
 have e1:Int.tdiv (u:Int) 10=((u / 10:Nat):Int):=rfl;have e2:IntKind.u64.wrap ((u / 10:Nat):Int)=((u / 10:Nat):Int) % 18446744073709551616:=rfl;rw[e1,e2,EO (by omega) (by omega)]; rfl
theorem add48 (u:Nat) (h:u<10):bE .add .int (.int .u64 48) (.int .u64 (.ofNat u))=some (.int .u64 (.ofNat (48+u))):=by
 show some (AV.int .u64 (IntKind.u64.wrap (48+(u:Int))))=_
 have e2:IntKind.u64.wrap (48+(u:Int))=(48+(u:Int)) % 18446744073709551616:=rfl;rw[e2,EO (by omega) (by omega)]; rfl
theorem cint8 (u:Nat) (h:u<256):vM .u8 (.int .u64 (.ofNat u))=some (.int .u8 (.ofNat u)):=by
 show some (AV.int .u8 (IntKind.u8.wrap (u:Int)))=_
 have e2:IntKind.u8.wrap (u:Int)=(u:Int) % 256:=rfl;rw[e2,EO (by omega) (by omega)]; rfl
theorem Bg {tm:Tr AV} (k:IntKind) (x:XO):mw tm (.KP k x)=vM k (aD tm x):=rfl
theorem Yl {tm:Tr AV} (x:XO):mw tm (.neg x)=II (aD tm x):=rfl
def Vj (v:AV):Option AV:=Rh 1 (Bool.rec (motive:=fun _=>Option (List AV)) none (some ([(.int .u8 0)].set 0 v)) (Nat.beq v.cells.length 1))
theorem Yn {tm:Tr AV} (x:XO):mw tm (.fv 1 [(.int .u8 0)] [(0,x)])=Vj (aD tm x):=rfl
theorem P6 (u:Nat):Vj (.int .u8 (.ofNat u))=some (.sl 1 [.int .u8 (.ofNat u)] .full):=rfl
theorem dp_cb {tm:Tr AV} (x:XO):mw tm (.ud x)=lg (aD tm x):=rfl
theorem Yw (u:Nat):lg (.sl 1 [.int .u8 (.ofNat u)] .full)=some (.str [UInt8.ofNat u]):=rfl
theorem Iv {a b:List UInt8} (h:a.length+b.length<1000000):bE .add .str (.str a) (.str b)=some (.str (a++b)):=by
 show(match Nat.ble (a.length+b.length) 9223372036854775807 with |true=>some (AV.str (a++b)) |false=>none)=_
 rw[show Nat.ble (a.length+b.length) 9223372036854775807=true from by rw[gJ]; omega]
theorem No {call:Ev.e8} {ag:Nat} {st:St}:∀ (f u m:Nat) (s:List UInt8) (tm:Tr AV),u<10 ^ f->u<18446744073709551616->f<m->s.length+f<1000->tm.get 3=some (.str s)->tm.get 4=some (.int .u64 (.ofNat u)) ->
  ah (aY (ak call ag E3) m tm st) fun e ay ae=>e = .exit 0/\ae=st/\ay.get 0=tm.get 0/\ay.get 3=some (.str (u7 f u s)):=by
 intro f
 induction f with
 |zero =>
  intro u m s tm hu CV hm hs h3 h4;obtain⟨m,rfl⟩:∃ k,m=k+1:=⟨m-1,by omega⟩
  have:u=0:=by simp at hu; exact hu
  subst this;have hg:=HI 0;have b0:Nat.beq 0 0=true:=rfl;simp only[ax,E3,bF,aw,aF,av,ah,Nat.reduceEqDiff,reduceCtorEq,h3,h4,hg,b0];exact⟨trivial,trivial,trivial,rfl⟩
 |succ f ih =>
  intro u m s tm hu CV hm hs h3 h4;obtain⟨m,rfl⟩:∃ k,m=k+1:=⟨m-1,by omega⟩
  have hg:=HI u;unfold u7;cases q:Nat.beq u 0<;>rw[q] at hg
  ·have a1:=RS u
   have a2:=add48 (u % 10) (by omega)
   have a3:=cint8 (48+u % 10) (by omega)
   have a4:=Iv (a:=[UInt8.ofNat (48+u % 10)]) (b:=s) (by simp; omega)
   have a5:=RX u CV;have UR:u / 10<10 ^ f:=by rw[Nat.pow_succ] at hu; omega
   have more:∀ cB:Tr AV,cB.get 0=tm.get 0->cB.get 3=some (.str ([UInt8.ofNat (48+u % 10)]++s))->cB.get 4=some (.int .u64 (.ofNat (u / 10)))->ah (aY (ak call ag E3) m cB st) fun e ay ae=>e = .exit 0/\ae=st/\ay.get 0=tm.get 0/\ay.get 3=some (.str (u7 f (u / 10) ([UInt8.ofNat (48+u % 10)]++s))):=by
    intro cB g0 g3 g4;obtain⟨e,ay,ae,h,rfl,rfl,h0,ht⟩:=bq (ih (u / 10) m ([UInt8.ofNat (48+u % 10)]++s) cB UR (by omega) (by omega) (by simp; omega) g3 g4)
    rw[h];exact⟨rfl,rfl,h0.trans g0,ht⟩
   simp only[ax,E3,Bg,Yn,P6,dp_cb,Yw,bF,aw,aF,av,ah,Nat.reduceEqDiff,reduceCtorEq,h3,h4,hg,a1,a2,a3,a4,a5,Bool.not_false];exact more _ (by simp only[aE,Nat.reduceEqDiff,reduceCtorEq]) (by simp only[aE,Nat.reduceEqDiff,reduceCtorEq]) (by simp only[aE,Nat.reduceEqDiff,reduceCtorEq])
  ·simp only[ax,E3,bF,aw,aF,av,ah,Nat.reduceEqDiff,reduceCtorEq,h3,h4,hg,wy]
   exact⟨trivial,trivial,trivial,trivial⟩
theorem Sw (n:Int):bE .lss .int (.int .i64 n) (.int .i64 0)=some (.bool (decide (n<0))):=rfl
theorem X3 (n:Int):bE .eql .int (.int .i64 n) (.int .i64 0)=some (.bool (cE n 0)):=rfl
theorem P1 (n:Int):vM .u64 (.int .i64 n)=some (.int .u64 (IntKind.u64.wrap n)):=rfl
theorem neg64 (n:Int):II (.int .u64 n)=some (.int .u64 (IntKind.u64.wrap (0-n))):=rfl
def CA (n:Int):List UInt8:=match cE n 0 with
 |true=>[48]
 |false=>match decide (n<0) with
  |true=>[45]++u7 20 (IntKind.u64.wrap (0-IntKind.u64.wrap n)).toNat []
  |false=>u7 20 (IntKind.u64.wrap n).toNat []
theorem Np (n:Int):(CA n).length<=21:=by
 have key:∀ m:Int,(u7 20 (IntKind.u64.wrap m).toNat []).length<=20:=by
  intro m;obtain⟨u,uH,CV⟩:=Aa m;rw[uH,Dz];have:=H7 20 20 u (by omega)
  show([]:List UInt8).length+Dy 20 u<=20
  simpa using this
 unfold CA;split
 ·decide
 ·split
  ·have:=key (0-IntKind.u64.wrap n)
   rw[mF];show 1+_<=21
   omega
  ·have:=key n
   omega
theorem Cz {ag:Nat} (d:Nat) (st:St) (n:Int) (hl:100<=ag):ao eE ag (d+1) 149 [.int .i64 n] st=some (.str (CA n),st):=by
 rw[r149];have go:∀ (F:RF) (tm:Tr AV) (u:Nat) (t':List UInt8),u<18446744073709551616->tm.get 0=some (.int .i64 n)->tm.get 3=some (.str [])->tm.get 4=some (.int .u64 (.ofNat u))->(∀ ay:Tr AV,ay.get 0=some (.int .i64 n)->ay.get 3=some (.str (u7 20 u []))->bg [.t 2] (F ay st)=some (.str t',st))->bg [.t 2] (R.andThen (R.block 0 (aY (ak (ao eE ag d) ag E3) ag tm st)) F)=some (.str t',st):=by
  intro F tm u t' hu h0 h3 h4 hF;obtain⟨e,ay,ae,h5,rfl,rfl,h6,h7⟩:=bq (No (call:=ao eE ag d) (ag:=ag) (st:=st) 20 u ag [] tm (by omega) hu (by omega) (by simp) h3 h4)
  rw[h5,bT,cT];exact hF ay (h6.trans h0) h7
 unfold CA;cases q0:cE n 0
 ·cases q1:decide (n<0)
  ·obtain⟨u,uH,CV⟩:=Aa n
   have QP:(IntKind.u64.wrap n).toNat=u:=by rw[uH]; omega
   have uH:IntKind.u64.wrap n=Int.ofNat u:=uH;rw[QP];simp only[Lu,bn,Bg,P1,bF,aw,aF,av,ah,Nat.reduceEqDiff,reduceCtorEq,bz,X3,q0,Sw,q1,uH];refine go _ _ u _ CV ?_ ?_ ?_ fun ay h0 h3=>?_
   ·simp only[aE,Nat.reduceEqDiff,reduceCtorEq,bz]
   ·simp only[aE,Nat.reduceEqDiff,reduceCtorEq]
   ·simp only[aE,Nat.reduceEqDiff,reduceCtorEq]
   ·simp only[bF,aw,aF,av,ah,Nat.reduceEqDiff,reduceCtorEq,h0,h3,Sw,q1]
    exact b9 2 (by simp only[aE,Nat.reduceEqDiff,reduceCtorEq])
  ·obtain⟨u,uH,CV⟩:=Aa (0-IntKind.u64.wrap n)
   have QP:(IntKind.u64.wrap (0-IntKind.u64.wrap n)).toNat=u:=by rw[uH]; omega
   have uH:IntKind.u64.wrap (0-IntKind.u64.wrap n)=Int.ofNat u:=uH;rw[QP];simp only[Lu,bn,Bg,P1,Yl,neg64,bF,aw,aF,av,ah,Nat.reduceEqDiff,reduceCtorEq,bz,X3,q0,Sw,q1,uH];refine go _ _ u _ CV ?_ ?_ ?_ fun ay h0 h3=>?_
   ·simp only[aE,Nat.reduceEqDiff,reduceCtorEq,bz]
   ·simp only[aE,Nat.reduceEqDiff,reduceCtorEq]
   ·simp only[aE,Nat.reduceEqDiff,reduceCtorEq]
   ·have hd:=H7 20 20 u (by omega)
    have ha:=Iv (a:=[45]) (b:=u7 20 u []) (by rw[Dz]; simp; omega)
    simp only[bF,aw,aF,av,ah,Nat.reduceEqDiff,reduceCtorEq,h0,h3,Sw,q1,ha];exact b9 2 (by simp only[aE,Nat.reduceEqDiff,reduceCtorEq])
 ·simp only[Lu,bF,aw,aF,av,ah,Nat.reduceEqDiff,reduceCtorEq,bz,X3,q0]
  exact b9 2 (by simp only[aE,Nat.reduceEqDiff,reduceCtorEq])
def lE:List (List UInt8):=[[108,105,98,114,97,114,121],[99,108,105,101,110,116],[105,110,116,101,114,102,97,99,101],[114,101,108,101,97,115,101],[105,109,112,111,114,116],[115,105,110,99,101],[112,117,98,108,105,99],[102,114,111,122,101,110],[115,101,97,108,101,100],[105,110,108,105,110,101],[105,110,100,105,114,101,99,116],[115,116,114,117,99,116],[117,110,105,111,110],[116,114,97,105,116],[99,111,110,102,111,114,109],[102,111,114],[102,117,110,99],[100,101,102,97,117,108,116],[108,101,116],[105,110],[105,102],[116,104,101,110],[101,108,115,101],[112,114,105,110,116],[116,114,117,101],[102,97,108,115,101],[99,97,115,101],[111,102],[99,97,108,108],[109,97,116,99,104],[97,114,114,97,121],[99,111,117,110,116],[97,116],[97,112,112,101,110,100],[97,118,97,105,108,97,98,108,101],[102,97,105,108],[98,121,116,101],[111,114,100],[119,105,116,104],[73,110,116],[66,121,116,101],[66,111,111,108],[65,114,114,97,121],[83,101,108,102]]
theorem D9 (ag d:Nat) (st:St):ao eE ag (d+1) 253 [] st=some (.sl 1 (lE.map AV.str) .full,st):=by
 rw[r253]
 kernel_rfl
def u9 (s:List UInt8):List (List UInt8)->Bool
 | []=>false
 |w::l=>mW w s ||u9 s l
theorem wT {es:List AV} {t:lV} {n:Nat} {v:AV} (h:nth es n=some v):gQ 1 (.sl 1 es t) (some n)=some (.ro v.cells 0 (kE t ((es.length-n)*1))):=by
 show(match Nat.beq 1 1 with |true=>(match nth es n with |some v=>some (AV.ro v.cells 0 (kE t ((es.length-n)*1))) |none=>none) |false=>none:Option AV)=_
 rw[h]
theorem oD {H:Tr Ev.dR} (s:List UInt8) (h:Option (Nat × Nat)):fH H 1 false (.ro [.str s] 0 h)=some (.str s):=rfl
theorem ph (s:List UInt8):(AV.str s).cells=[.str s]:=rfl
theorem PF {α β:Type} {f:α->β} {l:List α} {n:Nat} {b:α} {r:List α} (h:l.drop n=b::r):nth (l.map f) n=some (f b)/\n<l.length/\l.drop (n+1)=r:=by
 have h1:n<l.length:=by
  by_cases e:n<l.length
  ·exact e
  ·rw[M0 (by omega)] at h; cases h
 rw[EU h1] at h;injection h with ha hb
 refine⟨?_,h1,hb⟩
 rw[jC,jB,ey h1,ha]; rfl
theorem MP {call:Ev.e8} {ag:Nat} {st:St} {s:List UInt8} {L:List (List UInt8)} (hL:L.length<1000000):∀ (l:List (List UInt8)) (n m:Nat) (tm:Tr AV),L.drop n=l->n<=L.length->l.length<m->tm.get 0=some (.str s)->tm.get 5=some (.sl 1 (L.map AV.str) .full)->tm.get 6=some (.int .i64 (.ofNat L.length))->tm.get 7=some (.int .i64 (.ofNat n)) ->
  ah (aY (ak call ag EI) m tm st) fun e ay ae=>ae=st/\(e = .exit 0/\u9 s l=false\/e = .ret/\u9 s l=true/\ay.get 2=some (.bool true)):=by
 intro l
 induction l with
 |nil =>
  intro n m tm hl hn hm h0 h5 h6 h7;obtain⟨m,rfl⟩:∃ k,m=k+1:=⟨m-1,by simp at hm; omega⟩
  have aO:decide (n<L.length)=false:=nM (by have:=congrArg List.length hl; simp at this; omega)
  simp only[ax,EI,bF,aw,aF,av,ah,Nat.reduceEqDiff,reduceCtorEq,h0,h5,h6,h7,aI,aO];exact⟨trivial,.inl ⟨trivial,rfl⟩⟩
 |cons b l ih =>
  intro n m tm hl hn hm h0 h5 h6 h7;obtain⟨m,rfl⟩:∃ k,m=k+1:=⟨m-1,by simp at hm; omega⟩
  obtain⟨hb,dt,jm⟩:=PF (f:=AV.str) hl;have aO:decide (n<L.length)=true:=fM dt;have dw:=add_one (n:=n) (by omega)
  have dX:=wT (t:=.full) hb;unfold u9;cases q:mW b s
  ·have more:∀ tm:Tr AV,tm.get 0=some (.str s)->tm.get 5=some (.sl 1 (L.map AV.str) .full)->tm.get 6=some (.int .i64 (.ofNat L.length))->tm.get 7=some (.int .i64 (.ofNat (n+1)))->ah (aY (ak call ag EI) m tm st) fun e ay ae=>ae=st/\(e = .exit 0/\(false ||u9 s l)=false\/e = .ret/\(false ||u9 s l)=true/\ay.get 2=some (.bool true)):=by
    intro tm g0 g5 g6 g7;rw[e7];exact ih (n+1) m tm jm (by omega) (by simp at hm; omega) g0 g5 g6 g7
   simp only[ax,EI,sq,pJ,ph,oD,bF,aw,aF,av,ah,Nat.reduceEqDiff,reduceCtorEq,h0,h5,h6,h7,aI,aX,aO,dw,dX,lB,q];exact more _ (by simp only[aE,Nat.reduceEqDiff,reduceCtorEq,h0]) (by simp only[aE,Nat.reduceEqDiff,reduceCtorEq,h5]) (by simp only[aE,Nat.reduceEqDiff,reduceCtorEq,h6]) (by simp only[aE,Nat.reduceEqDiff,reduceCtorEq])
  ·simp only[ax,EI,sq,pJ,ph,oD,bF,aw,aF,av,ah,Nat.reduceEqDiff,reduceCtorEq,h0,h5,h6,h7,aI,aX,aO,dw,dX,lB,q,oo]
   exact⟨trivial,.inr ⟨trivial,trivial,trivial⟩⟩
theorem IM:jI (.sl 1 (lE.map AV.str) .full)=some (.int .i64 (.ofNat lE.length)):=rfl
theorem yo {ag:Nat} (d:Nat) (st:St) (s:List UInt8) (hl:100<=ag):ao eE ag (d+2) 195 [.str s] st=some (.bool (u9 s lE),st):=by
 rw[r195];have hw:=D9 ag d st;have go:∀ (F:RF) (tm:Tr AV),tm.get 0=some (.str s)->tm.get 5=some (.sl 1 (lE.map AV.str) .full)->tm.get 6=some (.int .i64 (.ofNat lE.length))->tm.get 7=some (.int .i64 0)->(∀ ay:Tr AV,bg [.t 2] (F ay st)=some (.bool false,st))->bg [.t 2] (R.andThen (R.block 0 (aY (ak (ao eE ag (d+1)) ag EI) ag tm st)) F)=some (.bool (u9 s lE),st):=by
  intro F tm h0 h5 h6 h7 hF;obtain⟨e,ay,ae,h8,rfl,h9⟩:=bq (MP (call:=ao eE ag (d+1)) (ag:=ag) (st:=st) (s:=s) (L:=lE) (by decide) lE 0 ag tm rfl (by decide) (by show 44<ag; omega) h0 h5 h6 h7)
  rw[h8];rcases h9 with⟨rfl,h9⟩ |⟨rfl,h9,dc⟩
  ·rw[h9,bT,cT]; exact hF ay
  ·rw[h9,jc,lP]; exact b9 2 dc
 generalize hW:(AV.sl 1 (lE.map AV.str) .full)=W at hw go
 have hlen:=IM;rw[hW] at hlen;simp only[VB,bn,eM,bF,aw,aF,av,ah,Nat.reduceEqDiff,reduceCtorEq,hw,hlen];refine go _ _ ?_ ?_ ?_ ?_ fun ay=>?_
 ·simp only[aE,Nat.reduceEqDiff,reduceCtorEq,bz]
 ·simp only[aE,Nat.reduceEqDiff,reduceCtorEq]
 ·simp only[aE,Nat.reduceEqDiff,reduceCtorEq]
 ·simp only[aE,Nat.reduceEqDiff,reduceCtorEq]
 ·simp only[bF,aw,aF,av,ah,Nat.reduceEqDiff,reduceCtorEq]
  exact b9 2 (by simp only[aE,Nat.reduceEqDiff,reduceCtorEq])
theorem JN {s:List UInt8} (h:u9 s lE=false):s≠[65,114,114,97,121]:=by
 intro e;subst e;have:u9 [65,114,114,97,121] lE=true:=by decide
 rw[this] at h; cases h
def yb (v:AV):Prop:=∃ K n w,v=jA K n w/\w.length<=20
theorem Ky {K:Nat} {w:List UInt8} (h:mV K w=0) (h3:K=3->w.length<=2) (hK:K<=3):w.length<=20:=by
 have hc:K=0\/K=1\/K=2\/K=3:=by omega
 unfold mV at h;have b00:Nat.beq 0 0=true:=rfl;have b02:Nat.beq 0 2=false:=rfl;have YC:Nat.beq 1 2=false:=rfl;have Ua:Nat.beq 1 0=false:=rfl;have YD:Nat.beq 1 1=true:=rfl;have Lp:Nat.beq 2 0=false:=rfl;have Q6:Nat.beq 2 1=false:=rfl;have Q5:Nat.beq 2 2=true:=rfl;rcases hc with rfl |rfl |rfl |rfl
 ·simp only[b00,oo] at h; cases h
 ·simp only[Ua,YD,YC,e7,nO,gI,jh] at h
  cases q:decide (16<w.length) with
  |true=>rw[q] at h; cases h
  |false=>have:=MU q; omega
 ·simp only[Lp,Q6,Q5,e7,gI,jh] at h
  cases q1:(decide (1<w.length)&&is0 w) with
  |true=>rw[q1] at h; cases h
  |false =>
   rw[q1] at h;cases q:iQ w with
   |true=>rw[q] at h; cases h
   |false =>
    unfold iQ at q;rw[Bool.or_eq_false_iff] at q;have:=MU q.1;omega
 ·have:=h3 rfl; omega
theorem CE {l:List UInt8} (h:(bP l).1=3):(bP l).2<=2:=by
 cases l with
 |nil=>cases h
 |cons c l =>
  rw[mM] at h ⊢;cases q1:isLet c.toNat with
  |true=>rw[q1] at h; cases h
  |false =>
   rw[q1] at h;cases q2:cP c.toNat with
   |true=>rw[q2] at h; cases h
   |false =>
    cases q3:sY (c::l) with
    |true=>show 2<=2; omega
    |false =>
     cases q4:iv SG c with
     |true=>show 1<=2; omega
     |false=>show 0<=2; omega
theorem LX:∀ (f:Nat) (l:List UInt8) (n k:Nat) (r:List AV),k<=6000->iF f l n k = .ok r->k+r.length<=6000/\∀ v∈r,yb v:=by
 intro f
 induction f with
 |zero=>intro l n k r hk h; cases h; exact⟨by simpa using hk,fun v hv=>nomatch hv⟩
 |succ f ih =>
  intro l n k r hk h;cases l with
  |nil=>cases h; exact⟨by simpa using hk,fun v hv=>nomatch hv⟩
  |cons c l =>
   rw[ko] at h;split at h
   ·rename_i he
    split at h
    ·cases h
    ·rename_i hb
     have hb:=oZ hb;cases hq:iF f (((c::l).drop (bP (c::l)).2).drop (bc false ((c::l).drop (bP (c::l)).2))) (n+(bP (c::l)).2+bc false ((c::l).drop (bP (c::l)).2)) (k+1) with
     |error e=>rw[hq] at h; cases h
     |ok ts =>
      rw[hq] at h;cases h;obtain⟨h1,h2⟩:=ih _ _ _ _ (by omega) hq
      refine⟨by simp; omega,fun v hv=>?_⟩
      rcases lI.1 hv with rfl |hv
      ·refine⟨_,_,_,rfl,Ky he (fun h3=>?_) (rP _).1⟩
       have:=CE h3;rw[mG]; omega
      ·exact h2 v hv
   ·cases h
theorem Ca {s:List UInt8} {r:List AV} (h:gC s = .ok r):r.length<=6000/\∀ v∈r,yb v:=by
 unfold gC at h;split at h
 ·cases h
 ·have:=LX _ _ _ _ _ (by omega) h
  exact⟨by omega,this.2⟩
theorem Jo {s:List UInt8} {e p:Nat} (h:gC s = .error (e,p)):1<=e:=by
 have hb:Nat.beq e 0=false:=by
  unfold gC at h;split at h
  ·cases h; rfl
  ·exact yM _ _ _ _ _ _ h
 cases e with
 |zero=>cases hb
 |succ e=>omega
end
end Go.Proofs.YthlkmffimhnehaaGreat
namespace Go.Proofs.YthlkmffimhnehaaGreat
open Go Go.Ev Go.Ab Go.Pk
noncomputable section
set_option maxRecDepth 100000
set_option maxHeartbeats 2000000
mutual
def eL:AV->Nat
 | .agg cs=>dJ cs+1
 | .sl _ es _=>dJ es
 |_=>0
def dJ:List AV->Nat
 | []=>0
 |v::vs=>eL v+dJ vs
end
inductive nV:AV->Prop
 |az {n:List UInt8}:n.length<=64->nV (.agg [.str n,.az])
 |sl {n:List UInt8} {es:List AV} {t:lV}:n.length<=64->es.length<=4->(∀ e∈es,nV e)->nV (.agg [.str n,.sl 2 es t])
theorem nV.form {v:AV} (h:nV v):∃ n a,v = .agg [.str n,a]:=by cases h<;>exact⟨_,_,rfl⟩
theorem VE {es:List AV} (h:∀ e∈es,wt e+1<=67*eL e):eB es+es.length<=67*dJ es:=by
 induction es with
 |nil=>simp[eB,dJ]
 |cons e es ih =>
  have h1:=h e (.head _);have h2:=ih fun x hx=>h x (.tail _ hx)
  simp only[eB,dJ,mE];omega
theorem VF {v:AV} (h:nV v):wt v+1<=67*eL v:=by
 induction h with
 |az hn=>simp only[wt,eB,eL,dJ]; omega
 |sl hn hl _ ih =>
  have:=VE ih;simp only[wt,eB,eL,dJ]; omega
structure fz (st ae:St):Prop where
 next:st.next<=ae.next
 same:∀ j,j<st.next->ae.heap.get j=st.heap.get j
theorem fz.refl (st:St):fz st st:=⟨dN _,fun _ _=>rfl⟩
theorem fz.trans {a b c:St} (h:fz a b) (k:fz b c):fz a c:=⟨lS h.next k.next,fun j hj=>(k.same j (qy hj h.next)).trans (h.same j hj)⟩
theorem ml (st:St) (e:Ev.dR):fz st (st.new e):=⟨ma _,fun j hj=>by rw[Ev.aJ,ba (by omega)]⟩
theorem sf (st:St) (e f:Ev.dR):fz st ((st.new e).put st.next f):=⟨ma _,fun j hj=>by rw[Ev.aK,ba (by omega),Ev.aJ,ba (by omega)]⟩
theorem vV {st:St} (x y a b:AV):cZ (st.new (.box 0 [x,y])) 2 (.ptr st.next 0) (.agg [a,b])=some (gg,(st.new (.box 0 [x,y])).put st.next (.box 1 [a,b])):=sZ 2 _ rfl rfl
theorem oC {H:Tr Ev.dR} {k v:Nat} {a b:AV} (h:H.get k=some (.box v [a,b])):fH H 2 true (.ptr k 0)=some (.agg [a,b]):=by
 unfold fH cc;simp only[h]
 rfl
theorem oB {H:Tr Ev.dR} {k v:Nat} {a b:AV} (h:H.get k=some (.box v [a,b])):fH H 1 false (.ptr k 0)=some a:=by
 unfold fH cc;simp only[h]
 rfl
theorem iM {H:Tr Ev.dR} {k v:Nat} {a b:AV} (h:H.get k=some (.box v [a,b])):fH H 1 false (.ptr k 1)=some b:=by
 unfold fH cc;simp only[h]
 rfl
theorem qE {H:Tr Ev.dR} (a b:AV) (h:Option (Nat × Nat)):fH H 2 true (.ro [a,b] 0 h)=some (.agg [a,b]):=rfl
theorem u5 (k:Nat):gR 0 (.ptr k 0)=some (.ptr k 0):=rfl
theorem lA (k:Nat):gR 1 (.ptr k 0)=some (.ptr k 1):=rfl
theorem ke (a b:AV):(AV.agg [a,b]).cells=[a,b]:=rfl
theorem wR {es:List AV} {t:lV} {n:Nat} {v:AV} (h:nth es n=some v):gQ 2 (.sl 2 es t) (some n)=some (.ro v.cells 0 (kE t ((es.length-n)*2))):=by
 show(match Nat.beq 2 2 with |true=>(match nth es n with |some v=>some (AV.ro v.cells 0 (kE t ((es.length-n)*2))) |none=>none) |false=>none:Option AV)=_
 rw[h]
def Yz (st:St) (size:Nat) (v:AV):Option (AV × St):=match Nat.beq v.cells.length size with
 |true=>some (.ptr st.next 0,st.new (.box 0 v.cells))
 |false=>none
theorem PE {call:Ev.e8} {tm:Tr AV} {st:St} (size:Nat) (x:XO):mY call st tm (.e (.box size x))=Yz st size (aD tm x):=rfl
theorem iE:type_of% (And.intro (And.intro (And.intro @eV @eU) (And.intro @pJ @PE)) (And.intro (And.intro @su @sq) (And.intro @eM @fp))):=(And.intro (And.intro (And.intro @eV @eU) (And.intro @pJ @PE)) (And.intro (And.intro @su @sq) (And.intro @eM @fp)))
theorem Gb (st:St) (a b:AV):Yz st 2 (.agg [a,b])=some (.ptr st.next 0,st.new (.box 0 [a,b])):=rfl
theorem ie (s:Nat) (es:List AV) (t:lV):jI (.sl s es t)=some (.int .i64 (.ofNat es.length)):=rfl
theorem mf:jI .az=some (.int .i64 0):=rfl
theorem mq {s:List AV} {n:Nat} {b:AV} {l:List AV} (h:s.drop n=b::l):nth s n=some b/\n<s.length/\s.drop (n+1)=l/\b∈s:=by
 have h1:n<s.length:=by
  by_cases e:n<s.length
  ·exact e
  ·rw[M0 (by omega)] at h; cases h
 rw[EU h1] at h;injection h with ha hb
 refine⟨?_,h1,hb,ha▸nN h1⟩
 rw[jC,ey h1,ha]
theorem pK {s:List AV} {n:Nat} (h:s.drop n=[]) (hn:n<=s.length):n=s.length:=by
 have:=congrArg List.length h;simp at this;omega
theorem xE {α:Type} {l:List α} {Q:α->Nat->Nat->Prop} (h:∀ a∈l,∃ n0,∀ ag d,n0<=ag->n0<=d->Q a ag d):∃ n0,∀ a∈l,∀ ag d,n0<=ag->n0<=d->Q a ag d:=by
 induction l with
 |nil=>exact⟨0,fun _ h=>nomatch h⟩
 |cons a l ih =>
  obtain⟨n1,h1⟩:=h a (.head _);obtain⟨n2,h2⟩:=ih fun b hb=>h b (.tail _ hb)
  refine⟨max n1 n2,fun b hb ag d hl hd=>?_⟩
  rcases lI.1 hb with rfl |hb
  ·exact h1 ag d (by omega) (by omega)
  ·exact h2 b hb ag d (by omega) (by omega)
def wc:XC:=(.seq (.aQ
 [aC 10 (.bin .lss .int (.t 9) (.t 8))]) (.seq (.cond (.t 10) .skip (.exit 0)) (.seq (.block 1 (.seq (.aQ
 [aC 11 (.gE 2 (.t 7) (.t 9)),
  om 12 (.load 2 true (.t 11)),
  fL 5 (.alloc [(.str []),.az]),
  ⟨none,none,(.e (.store 2 (.t 5) (.t 12)))⟩]) (.aQ
 [aA 13 3,
  om 14 (.load 2 true (.t 5)),
  fL 15 (.call (.c (.fn 318 [] [])) [(.t 14)]),
  aC 16 (.bin .add .int (.t 13) (.t 15)),
  aA 3 16]))) (.aQ
 [aC 17 (.bin .add .int (.t 9) (.c (.int .i64 1))),
  aA 9 17]))))
def Ra:XC:=(.seq (.aQ
 [fL 1 (.box 2 (.t 0)),
  aC 2 (.move (.c (.int .i64 0)))]) (.seq (.aQ
 [aC 3 (.move (.c (.int .i64 1)))]) (.seq (.seq (.aQ
 [aC 6 (.iq 1 (.t 1)),
  om 7 (.load 1 false (.t 6)),
  aC 8 (.kA (.t 7)),
  aC 9 (.move (.c (.int .i64 0)))]) (.block 0 (.loop wc))) (.seq (.aQ
 [aA 18 3,
  aA 2 18]) .ret))))
theorem s318 (ag d:Nat) (args:List AV) (st:St):ao eE ag (d+1) 318 args st=bg [.t 2] (ak (ao eE ag d) ag Ra (bb args 0 .nil) st):=bp Tryz.func318 (by decide) (x:=⟨Ra,[.t 2]⟩) (by kernel_rfl) rfl ag d args st
theorem Jg {call:Ev.e8} {ag:Nat} {es:List AV} {t:lV} (tJ:es.length<1000000) (jv:∀ e∈es,nV e) (hc:∀ e∈es,∀ st,∃ ae,call 318 [e] st=some (.int .i64 (.ofNat (eL e)),ae)/\fz st ae):∀ (l:List AV) (i m acc:Nat) (tm:Tr AV) (st:St),es.drop i=l->i<=es.length->l.length<m->acc+dJ l<9223372036854775808->tm.get 7=some (.sl 2 es t)->tm.get 8=some (.int .i64 (.ofNat es.length))->tm.get 9=some (.int .i64 (.ofNat i))->tm.get 3=some (.int .i64 (.ofNat acc)) ->
  ah (aY (ak call ag wc) m tm st) fun e ay ae=>e = .exit 0/\fz st ae/\ay.get 3=some (.int .i64 (.ofNat (acc+dJ l))):=by
 intro l
 induction l with
 |nil =>
  intro i m acc tm st hl hi hm ha h7 h8 h9 h3;obtain⟨m,rfl⟩:∃ k,m=k+1:=⟨m-1,by simp at hm; omega⟩
  have aO:decide (i<es.length)=false:=nM (by have:=pK hl hi; omega)
  simp only[ax,wc,iE,bF,aw,aF,av,ah,Nat.reduceEqDiff,reduceCtorEq,h7,h8,h9,aI,aO];exact⟨trivial,.refl st,by simp only[aE,Nat.reduceEqDiff,reduceCtorEq,h3]; rfl⟩
 |cons e l ih =>
  intro i m acc tm st hl hi hm ha h7 h8 h9 h3;obtain⟨m,rfl⟩:∃ k,m=k+1:=⟨m-1,by simp at hm; omega⟩
  obtain⟨hb,dt,jm,cn⟩:=mq hl;have aO:decide (i<es.length)=true:=fM dt;obtain⟨n,a,rfl⟩:=(jv e cn).form;have dw:=add_one (n:=i) (by omega)
  have dX:=wR (t:=t) hb;rw[ke] at dX;simp only[dJ] at ha;have FH:((st.new (.box 0 [.str [],.az])).put st.next (.box 1 [.str n,a])).heap.get st.next=some (.box 1 [.str n,a]):=by rw[Ev.aK,bJ rfl]
  have iB:=oC FH;obtain⟨ae,iC,hg⟩:=hc _ cn ((st.new (.box 0 [.str [],.az])).put st.next (.box 1 [.str n,a]));have hac:=sH (a:=acc) (b:=eL (.agg [.str n,a])) (by omega)
  have more:∀ tm:Tr AV,tm.get 7=some (.sl 2 es t)->tm.get 8=some (.int .i64 (.ofNat es.length))->tm.get 9=some (.int .i64 (.ofNat (i+1)))->tm.get 3=some (.int .i64 (.ofNat (acc+eL (.agg [.str n,a]))))->ah (aY (ak call ag wc) m tm ae) fun e ay ae=>e = .exit 0/\fz st ae/\ay.get 3=some (.int .i64 (.ofNat (acc+dJ (.agg [.str n,a]::l)))):=by
   intro tm g7 g8 g9 g3;obtain⟨e,cB,fJ,q1,q2,q3,q4⟩:=bq (ih (i+1) m _ tm ae jm (by omega) (by simp at hm; omega) (by omega) g7 g8 g9 g3)
   rw[q1];refine⟨q2,((sf st _ _).trans hg).trans q3,?_⟩
   rw[q4];simp only[dJ];rw[qB]
  simp only[ax,wc,iE,bF,aw,aF,av,ah,Nat.reduceEqDiff,reduceCtorEq,h7,h8,h9,h3,aI,aX,aO,dw,dX,qE,vV,iB,iC,hac];exact more _ (by simp only[aE,Nat.reduceEqDiff,reduceCtorEq,h7]) (by simp only[aE,Nat.reduceEqDiff,reduceCtorEq,h8]) (by simp only[aE,Nat.reduceEqDiff,reduceCtorEq]) (by simp only[aE,Nat.reduceEqDiff,reduceCtorEq])
theorem Jh {v:AV} (h:nV v):eL v<4611686018427387904->∃ n0,∀ ag d,n0<=ag->n0<=d->∀ st,∃ ae,ao eE ag d 318 [v] st=some (.int .i64 (.ofNat (eL v)),ae)/\fz st ae:=by
 induction h with
 |@az n hn =>
  intro _;refine⟨1,fun ag d hl hd st=>?_⟩
  obtain⟨d,rfl⟩:∃ j,d=j+1:=⟨d-1,by omega⟩
  obtain⟨ag,rfl⟩:∃ j,ag=j+1:=⟨ag-1,by omega⟩
  have FH:(st.new (.box 0 [.str n,.az])).heap.get st.next=some (.box 0 [.str n,.az]):=by rw[Ev.aJ,bJ rfl]
  have iB:=iM FH;have l0:bE .lss .int (.int .i64 0) (.int .i64 0)=some (.bool false):=rfl;refine⟨st.new (.box 0 [.str n,.az]),?_,ml st _⟩
  rw[s318];simp only[Ra,wc,bn,ax,bT,iE,bF,aw,aF,av,ah,Nat.reduceEqDiff,reduceCtorEq,bz,Gb,lA,iB,mf,l0];exact b9 2 (by simp only[aE,Nat.reduceEqDiff,reduceCtorEq]<;>rfl)
 |@sl n es t hn hlen jv ih =>
  intro hnod;simp only[eL,dJ] at hnod;have hsum:∀ e∈es,eL e<4611686018427387904:=by
   intro e he;have:eL e<=dJ es:=by
    clear hnod ih jv hlen
    induction es with
    |nil=>cases he
    |cons x es WS =>
     simp only[dJ];rcases lI.1 he with rfl |he
     ·omega
     ·have:=WS he; omega
   omega
  obtain⟨n0,h0⟩:=xE (Q:=fun e ag d=>∀ st,∃ ae,ao eE ag d 318 [e] st=some (.int .i64 (.ofNat (eL e)),ae)/\fz st ae) fun e he=>ih e he (hsum e he)
  refine⟨n0+10,fun ag d hl hd st=>?_⟩
  obtain⟨d,rfl⟩:∃ j,d=j+1:=⟨d-1,by omega⟩
  have FH:(st.new (.box 0 [.str n,.sl 2 es t])).heap.get st.next=some (.box 0 [.str n,.sl 2 es t]):=by rw[Ev.aJ,bJ rfl]
  have iB:=iM FH;have go:∀ (F:RF) (tm:Tr AV),tm.get 7=some (.sl 2 es t)->tm.get 8=some (.int .i64 (.ofNat es.length))->tm.get 9=some (.int .i64 0)->tm.get 3=some (.int .i64 1)->(∀ (ay:Tr AV) ae,ay.get 3=some (.int .i64 (.ofNat (1+dJ es)))->bg [.t 2] (F ay ae)=some (.int .i64 (.ofNat (1+dJ es)),ae))->∃ ae,bg [.t 2] (R.andThen (R.block 0 (aY (ak (ao eE ag d) ag wc) ag tm (st.new (.box 0 [.str n,.sl 2 es t])))) F)=some (.int .i64 (.ofNat (1+dJ es)),ae)/\fz st ae:=by
   intro F tm g7 g8 g9 g3 hF;obtain⟨e,cB,fJ,q1,rfl,q3,q4⟩:=bq (Jg (call:=ao eE ag d) (ag:=ag) (es:=es) (t:=t) (by omega) jv (fun e he st=>h0 e he ag d (by omega) (by omega) st) es 0 ag 1 tm (st.new (.box 0 [.str n,.sl 2 es t])) rfl (by omega) (by omega) (by omega) g7 g8 g9 g3)
   refine⟨fJ,?_,(ml st (.box 0 [.str n,.sl 2 es t])).trans q3⟩
   rw[q1,bT,cT];exact hF cB fJ q4
  have e1:eL (.agg [.str n,.sl 2 es t])=1+dJ es:=by simp only[eL,dJ]; omega
  rw[e1,s318];simp only[Ra,bn,iE,bF,aw,aF,av,ah,Nat.reduceEqDiff,reduceCtorEq,bz,Gb,lA,iB,ie];refine go _ _ ?_ ?_ ?_ ?_ fun ay ae hq=>?_
  ·simp only[aE,Nat.reduceEqDiff,reduceCtorEq]
  ·simp only[aE,Nat.reduceEqDiff,reduceCtorEq]
  ·simp only[aE,Nat.reduceEqDiff,reduceCtorEq]
  ·simp only[aE,Nat.reduceEqDiff,reduceCtorEq]
  ·simp only[bF,aw,aF,av,ah,Nat.reduceEqDiff,reduceCtorEq,hq]
   exact b9 2 (by simp only[aE,Nat.reduceEqDiff,reduceCtorEq])
def Fj:XC:=(.seq (.aQ
 [aC 10 (.bin .lss .int (.t 9) (.t 8))]) (.seq (.cond (.t 10) .skip (.exit 0)) (.seq (.block 1 (.seq (.aQ
 [aA 11 9,
  aC 12 (.gE 1 (.t 7) (.t 9)),
  om 13 (.load 1 false (.t 12)),
  aA 5 11,
  aA 6 13]) (.seq (.aQ
 [aA 14 6,
  aA 15 1,
  aC 16 (.bin .eql .str (.t 14) (.t 15))]) (.cond (.t 16) (.seq (.aQ
 [aA 17 5,
  aA 4 17]) .ret) .skip)))) (.aQ
 [aC 18 (.bin .add .int (.t 9) (.c (.int .i64 1))),
  aA 9 18]))))
def Vz:XC:=(.seq (.aQ
 [aC 4 (.move (.c (.int .i64 0)))]) (.seq (.seq (.aQ
 [aA 7 0,
  aC 8 (.kA (.t 7)),
  aC 9 (.move (.c (.int .i64 0)))]) (.block 0 (.loop Fj))) (.seq (.aQ
 [aC 4 (.move (.c (.int .i64 (-1))))]) .ret)))
def hasB:XC:=(.seq (.aQ
 [aC 10 (.bin .lss .int (.t 9) (.t 8))]) (.seq (.cond (.t 10) .skip (.exit 0)) (.seq (.block 1 (.seq (.aQ
 [aC 11 (.gE 1 (.t 7) (.t 9)),
  om 12 (.load 1 false (.t 11)),
  aA 6 12]) (.seq (.aQ
 [aA 13 6,
  aA 14 1,
  aC 15 (.bin .eql .str (.t 13) (.t 14))]) (.cond (.t 15) (.seq (.aQ
 [aC 4 (.move (.c (.bool true)))]) .ret) .skip)))) (.aQ
 [aC 16 (.bin .add .int (.t 9) (.c (.int .i64 1))),
  aA 9 16]))))
def VA:XC:=(.seq (.aQ
 [aC 4 (.move (.c (.bool false)))]) (.seq (.seq (.aQ
 [aA 7 0,
  aC 8 (.kA (.t 7)),
  aC 9 (.move (.c (.int .i64 0)))]) (.block 0 (.loop hasB))) (.seq (.aQ
 [aC 4 (.move (.c (.bool false)))]) .ret)))
theorem s314 (ag d:Nat) (args:List AV) (st:St):ao eE ag (d+1) 314 args st=bg [.t 4] (ak (ao eE ag d) ag VA (bb args 0 .nil) st):=bp Tryz.func314 (by decide) (x:=⟨VA,[.t 4]⟩) (by kernel_rfl) rfl ag d args st
theorem s346 (ag d:Nat) (args:List AV) (st:St):ao eE ag (d+1) 346 args st=bg [.t 4] (ak (ao eE ag d) ag Vz (bb args 0 .nil) st):=bp Tryz.func346 (by decide) (x:=⟨Vz,[.t 4]⟩) (by kernel_rfl) rfl ag d args st
def Strs (v:AV) (L:List (List UInt8)):Prop:=(v = .az/\L=[])\/∃ t,v = .sl 1 (L.map AV.str) t
theorem Strs.len {v:AV} {L:List (List UInt8)} (h:Strs v L):jI v=some (.int .i64 (.ofNat L.length)):=by
 rcases h with⟨rfl,rfl⟩ |⟨t,rfl⟩
 ·rfl
 ·rw[ie,gK]
theorem Strs.ix {v:AV} {L:List (List UInt8)} (h:Strs v L) {n:Nat} {b:List UInt8} {r:List (List UInt8)} (hd:L.drop n=b::r):∃ x,gQ 1 v (some n)=some (.ro [.str b] 0 x)/\n<L.length/\L.drop (n+1)=r:=by
 obtain⟨h1,h2,h3⟩:=PF (f:=AV.str) hd;rcases h with⟨rfl,rfl⟩ |⟨t,rfl⟩
 ·simp at h2
 ·exact⟨_,wT h1,h2,h3⟩
def tF:List (List UInt8)->List UInt8->Nat->Int
 | [],_,_=>-1
 |w::l,s,n=>match mW w s with
  |true=>.ofNat n
  |false=>tF l s (n+1)
theorem N6 {call:Ev.e8} {ag:Nat} {st:St} {s:List UInt8} {v:AV} {L:List (List UInt8)} (hv:Strs v L) (hL:L.length<1000000000):∀ (l:List (List UInt8)) (n m:Nat) (tm:Tr AV),L.drop n=l->n<=L.length->l.length<m->tm.get 1=some (.str s)->tm.get 7=some v->tm.get 8=some (.int .i64 (.ofNat L.length))->tm.get 9=some (.int .i64 (.ofNat n)) ->
  ah (aY (ak call ag Fj) m tm st) fun e ay ae=>ae=st/\(e = .exit 0/\tF l s n = -1\/e = .ret/\ay.get 4=some (.int .i64 (tF l s n))):=by
 intro l
 induction l with
 |nil =>
  intro n m tm hl hn hm h1 h7 h8 h9;obtain⟨m,rfl⟩:∃ k,m=k+1:=⟨m-1,by simp at hm; omega⟩
  have aO:decide (n<L.length)=false:=nM (by have:=congrArg List.length hl; simp at this; omega)
  simp only[ax,Fj,iE,bF,aw,aF,av,ah,Nat.reduceEqDiff,reduceCtorEq,h1,h7,h8,h9,aI,aO];exact⟨trivial,.inl ⟨trivial,rfl⟩⟩
 |cons b l ih =>
  intro n m tm hl hn hm h1 h7 h8 h9;obtain⟨m,rfl⟩:∃ k,m=k+1:=⟨m-1,by simp at hm; omega⟩
  obtain⟨x,dX,dt,jm⟩:=hv.ix hl;have aO:decide (n<L.length)=true:=fM dt;have dw:=add_one (n:=n) (by omega)
  unfold tF;cases q:mW b s
  ·have more:∀ tm:Tr AV,tm.get 1=some (.str s)->tm.get 7=some v->tm.get 8=some (.int .i64 (.ofNat L.length))->tm.get 9=some (.int .i64 (.ofNat (n+1)))->ah (aY (ak call ag Fj) m tm st) fun e ay ae=>ae=st/\(e = .exit 0/\tF l s (n+1) = -1\/e = .ret/\ay.get 4=some (.int .i64 (tF l s (n+1)))) :=
    fun tm=>ih (n+1) m tm jm (by omega) (by simp at hm; omega)
   simp only[ax,Fj,iE,bF,aw,aF,av,ah,Nat.reduceEqDiff,reduceCtorEq,h1,h7,h8,h9,aI,aX,aO,dw,dX,oD,lB,q];exact more _ (by simp only[aE,Nat.reduceEqDiff,reduceCtorEq,h1]) (by simp only[aE,Nat.reduceEqDiff,reduceCtorEq,h7]) (by simp only[aE,Nat.reduceEqDiff,reduceCtorEq,h8]) (by simp only[aE,Nat.reduceEqDiff,reduceCtorEq])
  ·simp only[ax,Fj,iE,bF,aw,aF,av,ah,Nat.reduceEqDiff,reduceCtorEq,h1,h7,h8,h9,aI,aX,aO,dw,dX,oD,lB,q]
   exact⟨trivial,.inr ⟨trivial,by simp only[aE,Nat.reduceEqDiff,reduceCtorEq]⟩⟩
theorem oG {v:AV} {L:List (List UInt8)} (hv:Strs v L) (hL:L.length<1000000000) (s:List UInt8) (ag d:Nat) (hl:L.length<ag) (st:St):ao eE ag (d+1) 346 [v,.str s] st=some (.int .i64 (tF L s 0),st):=by
 rw[s346];have go:∀ (F:RF) (tm:Tr AV),tm.get 1=some (.str s)->tm.get 7=some v->tm.get 8=some (.int .i64 (.ofNat L.length))->tm.get 9=some (.int .i64 0)->(∀ ay:Tr AV,bg [.t 4] (F ay st)=some (.int .i64 (-1),st))->bg [.t 4] (R.andThen (R.block 0 (aY (ak (ao eE ag d) ag Fj) ag tm st)) F)=some (.int .i64 (tF L s 0),st):=by
  intro F tm h1 h7 h8 h9 hF;obtain⟨e,ay,ae,q1,rfl,q2⟩:=bq (N6 (call:=ao eE ag d) (ag:=ag) (st:=st) (s:=s) hv hL L 0 ag tm rfl (by omega) hl h1 h7 h8 h9)
  rw[q1];rcases q2 with⟨rfl,q2⟩ |⟨rfl,q2⟩
  ·rw[q2,bT,cT]; exact hF ay
  ·rw[jc,lP]; exact b9 4 q2
 have hlen:=hv.len;simp only[Vz,bn,iE,bF,aw,aF,av,ah,Nat.reduceEqDiff,reduceCtorEq,bx,bu,hlen];refine go _ _ ?_ ?_ ?_ ?_ fun ay=>?_
 ·simp only[aE,Nat.reduceEqDiff,reduceCtorEq,bu]
 ·simp only[aE,Nat.reduceEqDiff,reduceCtorEq]
 ·simp only[aE,Nat.reduceEqDiff,reduceCtorEq]
 ·simp only[aE,Nat.reduceEqDiff,reduceCtorEq]
 ·simp only[bF,aw,aF,av,ah,Nat.reduceEqDiff,reduceCtorEq]
  exact b9 4 (by simp only[aE,Nat.reduceEqDiff,reduceCtorEq])
theorem OU {call:Ev.e8} {ag:Nat} {st:St} {s:List UInt8} {v:AV} {L:List (List UInt8)} (hv:Strs v L) (hL:L.length<1000000000):∀ (l:List (List UInt8)) (n m:Nat) (tm:Tr AV),L.drop n=l->n<=L.length->l.length<m->tm.get 1=some (.str s)->tm.get 7=some v->tm.get 8=some (.int .i64 (.ofNat L.length))->tm.get 9=some (.int .i64 (.ofNat n)) ->
  ah (aY (ak call ag hasB) m tm st) fun e ay ae=>ae=st/\(e = .exit 0\/e = .ret/\ay.get 4=some (.bool true)):=by
 intro l
 induction l with
 |nil =>
  intro n m tm hl hn hm h1 h7 h8 h9;obtain⟨m,rfl⟩:∃ k,m=k+1:=⟨m-1,by simp at hm; omega⟩
  have aO:decide (n<L.length)=false:=nM (by have:=congrArg List.length hl; simp at this; omega)
  simp only[ax,hasB,iE,bF,aw,aF,av,ah,Nat.reduceEqDiff,reduceCtorEq,h1,h7,h8,h9,aI,aO];exact⟨trivial,.inl trivial⟩
 |cons b l ih =>
  intro n m tm hl hn hm h1 h7 h8 h9;obtain⟨m,rfl⟩:∃ k,m=k+1:=⟨m-1,by simp at hm; omega⟩
  obtain⟨x,dX,dt,jm⟩:=hv.ix hl;have aO:decide (n<L.length)=true:=fM dt;have dw:=add_one (n:=n) (by omega)
  cases q:mW b s
  ·have more:∀ tm:Tr AV,tm.get 1=some (.str s)->tm.get 7=some v->tm.get 8=some (.int .i64 (.ofNat L.length))->tm.get 9=some (.int .i64 (.ofNat (n+1)))->ah (aY (ak call ag hasB) m tm st) fun e ay ae=>ae=st/\(e = .exit 0\/e = .ret/\ay.get 4=some (.bool true)) :=
    fun tm=>ih (n+1) m tm jm (by omega) (by simp at hm; omega)
   simp only[ax,hasB,iE,bF,aw,aF,av,ah,Nat.reduceEqDiff,reduceCtorEq,h1,h7,h8,h9,aI,aX,aO,dw,dX,oD,lB,q];exact more _ (by simp only[aE,Nat.reduceEqDiff,reduceCtorEq,h1]) (by simp only[aE,Nat.reduceEqDiff,reduceCtorEq,h7]) (by simp only[aE,Nat.reduceEqDiff,reduceCtorEq,h8]) (by simp only[aE,Nat.reduceEqDiff,reduceCtorEq])
  ·simp only[ax,hasB,iE,bF,aw,aF,av,ah,Nat.reduceEqDiff,reduceCtorEq,h1,h7,h8,h9,aI,aX,aO,dw,dX,oD,lB,q]
   exact⟨trivial,.inr ⟨trivial,by simp only[aE,Nat.reduceEqDiff,reduceCtorEq]⟩⟩
theorem OV {v:AV} {L:List (List UInt8)} (hv:Strs v L) (hL:L.length<1000000000) (s:List UInt8) (ag d:Nat) (hl:L.length<ag) (st:St):∃ b,ao eE ag (d+1) 314 [v,.str s] st=some (.bool b,st):=by
 rw[s314];have go:∀ (F:RF) (tm:Tr AV),tm.get 1=some (.str s)->tm.get 7=some v->tm.get 8=some (.int .i64 (.ofNat L.length))->tm.get 9=some (.int .i64 0)->(∀ ay:Tr AV,bg [.t 4] (F ay st)=some (.bool false,st))->∃ b,bg [.t 4] (R.andThen (R.block 0 (aY (ak (ao eE ag d) ag hasB) ag tm st)) F)=some (.bool b,st):=by
  intro F tm h1 h7 h8 h9 hF;obtain⟨e,ay,ae,q1,rfl,q2⟩:=bq (OU (call:=ao eE ag d) (ag:=ag) (st:=st) (s:=s) hv hL L 0 ag tm rfl (by omega) hl h1 h7 h8 h9)
  rw[q1];rcases q2 with rfl |⟨rfl,q2⟩
  ·refine⟨false,?_⟩
   rw[bT,cT]; exact hF ay
  ·refine⟨true,?_⟩
   rw[jc,lP]; exact b9 4 q2
 have hlen:=hv.len;simp only[VA,bn,iE,bF,aw,aF,av,ah,Nat.reduceEqDiff,reduceCtorEq,bx,bu,hlen];refine go _ _ ?_ ?_ ?_ ?_ fun ay=>?_
 ·simp only[aE,Nat.reduceEqDiff,reduceCtorEq,bu]
 ·simp only[aE,Nat.reduceEqDiff,reduceCtorEq]
 ·simp only[aE,Nat.reduceEqDiff,reduceCtorEq]
 ·simp only[aE,Nat.reduceEqDiff,reduceCtorEq]
 ·simp only[bF,aw,aF,av,ah,Nat.reduceEqDiff,reduceCtorEq]
  exact b9 4 (by simp only[aE,Nat.reduceEqDiff,reduceCtorEq])
def sizedB:XC:=(.seq (.aQ
 [aC 31 (.bin .lss .int (.t 30) (.t 29))]) (.seq (.cond (.t 31) .skip (.exit 0)) (.seq (.block 1 (.seq (.aQ
 [aC 32 (.gE 2 (.t 28) (.t 30)),
  om 33 (.load 2 true (.t 32)),
  fL 10 (.alloc [(.str []),.az]),
  ⟨none,none,(.e (.store 2 (.t 10) (.t 33)))⟩]) (.seq (.aQ
 [aA 34 8,
  om 35 (.load 2 true (.t 10)),
  aA 36 1,
  aA 37 2,
  fL 38 (.call (.c (.fn 319 [] [])) [(.t 35),(.t 36),(.t 37)]),
  aC 39 (.bin .add .int (.t 34) (.t 38)),
  aA 8 39]) (.seq (.aQ
 [aA 40 8,
  aC 41 (.bin .gtr .int (.t 40) (.c (.int .i64 4096)))]) (.cond (.t 41) (.seq (.aQ
 [aC 6 (.move (.c (.int .i64 4097)))]) .ret) .skip))))) (.aQ
 [aC 42 (.bin .add .int (.t 30) (.c (.int .i64 1))),
  aA 30 42]))))
def IH:XC:=(.seq (.aQ
 [fL 3 (.box 2 (.t 0)),
  aC 6 (.move (.c (.int .i64 0)))]) (.seq (.seq (.aQ
 [aA 11 1,
  aC 12 (.iq 0 (.t 3)),
  om 13 (.load 1 false (.t 12)),
  fL 14 (.call (.c (.fn 346 [] [])) [(.t 11),(.t 13)]),
  aA 7 14]) (.seq (.aQ
 [aA 15 7,
  aC 16 (.bin .geq .int (.t 15) (.c (.int .i64 0))),
  aA 17 16,
  bW 18 17 true (.iq 1 (.t 3)),
  ⟨some 19,some (17,true),(.l (.load 1 false (.t 18)))⟩,
  bW 20 17 true (.kA (.t 19)),
  bW 21 17 true (.bin .eql .int (.t 20) (.c (.int .i64 0))),
  aC 22 (.pick (.t 17) (.t 21) (.c (.bool false)))]) (.cond (.t 22) (.seq (.aQ
 [aA 23 2,
  aA 24 7,
  aC 25 (.gE 1 (.t 23) (.t 24)),
  om 26 (.load 1 false (.t 25)),
  aA 6 26]) .ret) .skip))) (.seq (.aQ
 [aC 8 (.move (.c (.int .i64 1)))]) (.seq (.seq (.aQ
 [aC 27 (.iq 1 (.t 3)),
  om 28 (.load 1 false (.t 27)),
  aC 29 (.kA (.t 28)),
  aC 30 (.move (.c (.int .i64 0)))]) (.block 0 (.loop sizedB))) (.seq (.aQ
 [aA 43 8,
  aA 6 43]) .ret)))))
theorem s319 (ag d:Nat) (args:List AV) (st:St):ao eE ag (d+1) 319 args st=bg [.t 6] (ak (ao eE ag d) ag IH (bb args 0 .nil) st):=bp Tryz.func319 (by decide) (x:=⟨IH,[.t 6]⟩) (by kernel_rfl) rfl ag d args st
theorem vy:∀ (l:List (List UInt8)) (s:List UInt8) (n:Nat),tF l s n = -1\/∃ k,tF l s n = .ofNat (n+k)/\k<l.length:=by
 intro l
 induction l with
 |nil=>intro s n; exact .inl rfl
 |cons w l ih =>
  intro s n;unfold tF;cases mW w s with
  |true=>exact .inr ⟨0,rfl,by simp⟩
  |false =>
   rcases ih s (n+1) with h |⟨k,h,hk⟩
   ·exact .inl h
   ·exact .inr ⟨k+1,by show tF l s (n+1)=_; rw[h]; congr 1; omega,by simp; omega⟩
def hit (L:List (List UInt8)) (bs:List AV) (n:List UInt8):Option AV:=match tF L n 0 with
 | .ofNat k=>bs[k]?
 | .negSucc _=>none
def uW (H:List UInt8->Option Nat):Nat->AV->Nat
 |0,_=>0
 |f+1,v=>match v with
  | .agg [.str _,.sl _ (e::es) _]=>((e::es).map (uW H f)).sum+1
  | .agg [.str n,_]=>(H n).getD 1
  |_=>0
def zS (v:AV) (bs:List AV):Prop:=(v = .az/\bs=[])\/∃ t,v = .sl 1 (bs.map fun b=>.int .i64 (.ofNat (eL b))) t
theorem zS.ix {v:AV} {bs:List AV} (h:zS v bs) {k:Nat} {b:AV} (hb:bs[k]?=some b):∃ x,gQ 1 v (some k)=some (.ro [.int .i64 (.ofNat (eL b))] 0 x):=by
 rcases h with⟨rfl,rfl⟩ |⟨t,rfl⟩
 ·simp at hb
 ·exact⟨_,wT (es:=bs.map fun b=>.int .i64 (.ofNat (eL b))) (v:=.int .i64 (.ofNat (eL b))) (by rw[jC,jB,hb]; rfl)⟩
theorem WI {H:Tr Ev.dR} (n:Int) (h:Option (Nat × Nat)):fH H 1 false (.ro [.int .i64 n] 0 h)=some (.int .i64 n):=rfl
theorem Ty (k:Nat):bE .geq .int (.int .i64 (.ofNat k)) (.int .i64 0)=some (.bool true):=by
 have:=vE k 0;rw[fM (tc k)] at this;exact this
theorem Tx:bE .geq .int (.int .i64 (-1)) (.int .i64 0)=some (.bool false):=rfl
theorem A4 (a:Nat):bE .gtr .int (.int .i64 (.ofNat a)) (.int .i64 4096)=some (.bool (decide (4096<a))):=mS a 4096
theorem Vc (a:Nat):bE .eql .int (.int .i64 (.ofNat a)) (.int .i64 0)=some (.bool (Nat.beq a 0)):=rfl
theorem Hc {e:AV}:∀ {es:List AV},e∈es->eL e<=dJ es:=by
 intro es
 induction es with
 |nil=>intro h; cases h
 |cons x es ih =>
  intro h;simp only[dJ];rcases lI.1 h with rfl |h
  ·omega
  ·have:=ih h; omega
theorem Ey {call:Ev.e8} {ag:Nat} {es:List AV} {t:lV} {nm sz:AV} {R:AV->Nat} (tJ:es.length<1000000) (jv:∀ e∈es,nV e) (hc:∀ e∈es,∀ st,∃ (S:Nat) (ae:St),call 319 [e,nm,sz] st=some (.int .i64 (.ofNat S),ae)/\fz st ae/\S<4611686018427387904/\(S<=4096->S=R e)):∀ (l:List AV) (i m acc:Nat) (tm:Tr AV) (st:St),es.drop i=l->i<=es.length->l.length<m->acc<=4096->tm.get 1=some nm->tm.get 2=some sz->tm.get 28=some (.sl 2 es t)->tm.get 29=some (.int .i64 (.ofNat es.length))->tm.get 30=some (.int .i64 (.ofNat i))->tm.get 8=some (.int .i64 (.ofNat acc)) ->
  ah (aY (ak call ag sizedB) m tm st) fun e ay ae=>fz st ae/\(e = .exit 0/\ay.get 8=some (.int .i64 (.ofNat (acc+(l.map R).sum)))/\acc+(l.map R).sum<=4096\/e = .ret/\ay.get 6=some (.int .i64 4097)):=by
 intro l
 induction l with
 |nil =>
  intro i m acc tm st hl hi hm ha h1 h2 h28 h29 h30 h8;obtain⟨m,rfl⟩:∃ k,m=k+1:=⟨m-1,by simp at hm; omega⟩
  have aO:decide (i<es.length)=false:=nM (by have:=pK hl hi; omega)
  simp only[ax,sizedB,iE,bF,aw,aF,av,ah,Nat.reduceEqDiff,reduceCtorEq,h1,h2,h28,h29,h30,aI,aO];exact⟨.refl st,.inl ⟨trivial,by simp only[aE,Nat.reduceEqDiff,reduceCtorEq,h8]; rfl,ha⟩⟩
 |cons e l ih =>
  intro i m acc tm st hl hi hm ha h1 h2 h28 h29 h30 h8;obtain⟨m,rfl⟩:∃ k,m=k+1:=⟨m-1,by simp at hm; omega⟩
  obtain⟨hb,dt,jm,cn⟩:=mq hl;have aO:decide (i<es.length)=true:=fM dt;obtain⟨n,a,rfl⟩:=(jv e cn).form;have dw:=add_one (n:=i) (by omega)
  have dX:=wR (t:=t) hb;rw[ke] at dX;have FH:((st.new (.box 0 [.str [],.az])).put st.next (.box 1 [.str n,a])).heap.get st.next=some (.box 1 [.str n,a]):=by rw[Ev.aK,bJ rfl]
  have iB:=oC FH;obtain⟨S,ae,iC,hg,hS,hR⟩:=hc _ cn ((st.new (.box 0 [.str [],.az])).put st.next (.box 1 [.str n,a]));have hac:=sH (a:=acc) (b:=S) (by omega)
  have U2:=A4 (acc+S);have hG:=(sf st (.box 0 [.str [],.az]) (.box 1 [.str n,a])).trans hg;cases q:decide (4096<acc+S)<;>rw[q] at U2
  ·have hle:=MU q
   have hSe:=hR (by omega)
   have more:∀ tm:Tr AV,tm.get 1=some nm->tm.get 2=some sz->tm.get 28=some (.sl 2 es t)->tm.get 29=some (.int .i64 (.ofNat es.length))->tm.get 30=some (.int .i64 (.ofNat (i+1)))->tm.get 8=some (.int .i64 (.ofNat (acc+S)))->ah (aY (ak call ag sizedB) m tm ae) fun e ay ae=>fz st ae/\(e = .exit 0/\ay.get 8=some (.int .i64 (.ofNat (acc+((.agg [.str n,a]::l).map R).sum)))/\acc+((.agg [.str n,a]::l).map R).sum<=4096\/e = .ret/\ay.get 6=some (.int .i64 4097)):=by
    intro tm g1 g2 g28 g29 g30 g8;obtain⟨e,cB,fJ,q1,q2,q3⟩:=bq (ih (i+1) m _ tm ae jm (by omega) (by simp at hm; omega) (by omega) g1 g2 g28 g29 g30 g8)
    rw[q1];refine⟨hG.trans q2,?_⟩
    rw[hSe,qB] at q3;rw[ot,List.sum_cons];exact q3
   simp only[ax,sizedB,iE,bF,aw,aF,av,ah,Nat.reduceEqDiff,reduceCtorEq,h1,h2,h28,h29,h30,h8,aI,aX,aO,dw,dX,qE,vV,iB,iC,hac,U2];exact more _ (by simp only[aE,Nat.reduceEqDiff,reduceCtorEq,h1]) (by simp only[aE,Nat.reduceEqDiff,reduceCtorEq,h2]) (by simp only[aE,Nat.reduceEqDiff,reduceCtorEq,h28]) (by simp only[aE,Nat.reduceEqDiff,reduceCtorEq,h29]) (by simp only[aE,Nat.reduceEqDiff,reduceCtorEq]) (by simp only[aE,Nat.reduceEqDiff,reduceCtorEq])
  ·simp only[ax,sizedB,iE,bF,aw,aF,av,ah,Nat.reduceEqDiff,reduceCtorEq,h1,h2,h28,h29,h30,h8,aI,aX,aO,dw,dX,qE,vV,iB,iC,hac,U2]
   exact⟨hG,.inr ⟨trivial,by simp only[aE,Nat.reduceEqDiff,reduceCtorEq]⟩⟩
theorem Ez {nm:AV} {L:List (List UInt8)} {bs:List AV} (AZ:Strs nm L) (hL:L.length<1000000000) (hlen:L.length=bs.length) (hb:∀ b∈bs,eL b<4611686018427387904):∀ (f:Nat) (v:AV),nV v->eL v<=f ->
  ∃ n0,∀ ag d,n0<=ag->n0<=d->∀ sz,zS sz bs->∀ st,∃ (S:Nat) (ae:St),ao eE ag d 319 [v,nm,sz] st=some (.int .i64 (.ofNat S),ae)/\fz st ae/\S<4611686018427387904/\(S<=4096->S=uW (fun n=>(hit L bs n).map eL) f v):=by
 intro f
 induction f with
 |zero =>
  intro v h hn;obtain⟨n,a,rfl⟩:=h.form;simp only[eL] at hn;omega
 |succ f ih =>
  intro v h hn;have Ti:∀ (st:St) (n:List UInt8) (a:AV),(st.new (.box 0 [.str n,a])).heap.get st.next=some (.box 0 [.str n,a]):=fun st n a=>by rw[Ev.aJ,bJ rfl]
  have leaf:∀ (n:List UInt8) (a:AV),jI a=some (.int .i64 0)->∃ n0,∀ ag d,n0<=ag->n0<=d->∀ sz,zS sz bs->∀ st,∃ (S:Nat) (ae:St),ao eE ag d 319 [.agg [.str n,a],nm,sz] st=some (.int .i64 (.ofNat S),ae)/\fz st ae/\S<4611686018427387904/\S=((hit L bs n).map eL).getD 1:=by
   intro n a hla;refine⟨L.length+5,fun ag d hl hd sz cJ st=>?_⟩
   obtain⟨d,rfl⟩:∃ j,d=j+2:=⟨d-2,by omega⟩
   obtain⟨ag,rfl⟩:∃ j,ag=j+1:=⟨ag-1,by omega⟩
   have hx:=fun st=>oG AZ hL n (ag+1) d (by omega) st
   have iB:=oB (Ti st n a);have lU:=iM (Ti st n a);rw[s319];unfold hit;have e0:bE .eql .int (.int .i64 0) (.int .i64 0)=some (.bool true):=rfl;have l0:bE .lss .int (.int .i64 0) (.int .i64 0)=some (.bool false):=rfl;rcases vy L n 0 with hi |⟨k,hi,hk⟩
   ·rw[hi] at hx ⊢
    refine⟨1,st.new (.box 0 [.str n,a]),?_,ml st (.box 0 [.str n,a]),by omega,rfl⟩
    simp only[IH,sizedB,bn,ax,bT,iE,bF,aw,aF,av,ah,Nat.reduceEqDiff,reduceCtorEq,iz,ed,ec,Gb,u5,lA,iB,lU,hx,Tx,hla,l0];exact b9 6 (by simp only[aE,Nat.reduceEqDiff,reduceCtorEq]<;>rfl)
   ·rw[kT] at hi
    have U1:k<bs.length:=by omega
    have XH:bs[k]?=some bs[k]:=ey U1
    obtain⟨x,dX⟩:=cJ.ix XH;rw[hi] at hx ⊢;have hg:=Ty k;refine⟨eL bs[k],st.new (.box 0 [.str n,a]),?_,ml st (.box 0 [.str n,a]),hb _ (nN U1),?_⟩
    ·simp only[IH,bn,iE,bF,aw,aF,av,ah,Nat.reduceEqDiff,reduceCtorEq,iz,ed,ec,Gb,u5,lA,iB,lU,hx,hg,hla,e0,aX,dX,WI]
     exact b9 6 (by simp only[aE,Nat.reduceEqDiff,reduceCtorEq])
    ·show eL bs[k]=((bs[k]?).map eL).getD 1
     rw[XH]; rfl
  cases h with
  |@az n kR =>
   obtain⟨n0,h0⟩:=leaf n .az mf;refine⟨n0,fun ag d hl hd sz cJ st=>?_⟩
   obtain⟨S,ae,h1,h2,h3,h4⟩:=h0 ag d hl hd sz cJ st;exact⟨S,ae,h1,h2,h3,fun _=>h4⟩
  |@sl n es t kR nE jv =>
   cases es with
   |nil =>
    obtain⟨n0,h0⟩:=leaf n (.sl 2 [] t) rfl;refine⟨n0,fun ag d hl hd sz cJ st=>?_⟩
    obtain⟨S,ae,h1,h2,h3,h4⟩:=h0 ag d hl hd sz cJ st;exact⟨S,ae,h1,h2,h3,fun _=>h4⟩
   |cons e es =>
    obtain⟨n0,h0⟩:=xE (l:=e::es) (Q:=fun v ag d=>∀ sz,zS sz bs->∀ st,∃ (S:Nat) (ae:St),ao eE ag d 319 [v,nm,sz] st=some (.int .i64 (.ofNat S),ae)/\fz st ae/\S<4611686018427387904/\(S<=4096->S=uW (fun n=>(hit L bs n).map eL) f v)) fun x hx=>ih x (jv x hx) (by
     have:=Hc hx;simp only[eL] at hn;have e1:dJ [AV.str n,AV.sl 2 (e::es) t]=dJ (e::es):=by simp[dJ,eL]
     rw[e1] at hn;omega)
    refine⟨n0+L.length+20,fun ag d hl hd sz cJ st=>?_⟩
    obtain⟨d,rfl⟩:∃ j,d=j+2:=⟨d-2,by omega⟩
    have hx:=fun st=>oG AZ hL n ag d (by omega) st
    have iB:=oB (Ti st n (.sl 2 (e::es) t));have lU:=iM (Ti st n (.sl 2 (e::es) t));have go:∀ (F:RF) (tm:Tr AV),tm.get 1=some nm->tm.get 2=some sz->tm.get 28=some (.sl 2 (e::es) t)->tm.get 29=some (.int .i64 (.ofNat (e::es).length))->tm.get 30=some (.int .i64 0)->tm.get 8=some (.int .i64 1)->(∀ (ay:Tr AV) ae (S:Nat),ay.get 8=some (.int .i64 (.ofNat S))->bg [.t 6] (F ay ae)=some (.int .i64 (.ofNat S),ae)) ->
      ∃ (S:Nat) (ae:St),bg [.t 6] (R.andThen (R.block 0 (aY (ak (ao eE ag (d+1)) ag sizedB) ag tm (st.new (.box 0 [.str n,.sl 2 (e::es) t])))) F)=some (.int .i64 (.ofNat S),ae)/\fz st ae/\S<4611686018427387904/\(S<=4096->S=((e::es).map (uW (fun n=>(hit L bs n).map eL) f)).sum+1):=by
     intro F tm g1 g2 g28 g29 g30 g8 hF;obtain⟨x,cB,fJ,q1,q2,q3⟩:=bq (Ey (call:=ao eE ag (d+1)) (ag:=ag) (es:=e::es) (t:=t) (nm:=nm) (sz:=sz) (R:=uW (fun n=>(hit L bs n).map eL) f) (by omega) jv (fun x hx st=>h0 x hx ag (d+1) (by omega) (by omega) sz cJ st) (e::es) 0 ag 1 tm (st.new (.box 0 [.str n,.sl 2 (e::es) t])) rfl (by omega) (by omega) (by omega) g1 g2 g28 g29 g30 g8)
     rw[q1];rcases q3 with⟨rfl,q4,q5⟩ |⟨rfl,q4⟩
     ·refine⟨1+((e::es).map (uW (fun n=>(hit L bs n).map eL) f)).sum,fJ,?_,(ml st (.box 0 [.str n,.sl 2 (e::es) t])).trans q2,by omega,fun _=>by omega⟩
      rw[bT,cT];exact hF cB fJ _ q4
     ·refine⟨4097,fJ,?_,(ml st (.box 0 [.str n,.sl 2 (e::es) t])).trans q2,by omega,fun h=>by omega⟩
      rw[jc,lP];exact b9 6 q4
    have hlc:Nat.beq (e::es).length 0=false:=rfl;show ∃ (S:Nat) (ae:St),_/\_/\_/\(S<=4096->S=((e::es).map (uW (fun n=>(hit L bs n).map eL) f)).sum+1)
    rw[s319];rcases vy L n 0 with hi |⟨k,hi,hk⟩
    ·rw[hi] at hx
     simp only[IH,bn,iE,bF,aw,aF,av,ah,Nat.reduceEqDiff,reduceCtorEq,iz,ed,ec,Gb,u5,lA,iB,lU,hx,Tx,ie];refine go _ _ ?_ ?_ ?_ ?_ ?_ ?_ fun ay ae S hq=>?_
     ·simp only[aE,Nat.reduceEqDiff,reduceCtorEq,ed]
     ·simp only[aE,Nat.reduceEqDiff,reduceCtorEq,ec]
     ·simp only[aE,Nat.reduceEqDiff,reduceCtorEq]
     ·simp only[aE,Nat.reduceEqDiff,reduceCtorEq]
     ·simp only[aE,Nat.reduceEqDiff,reduceCtorEq]
     ·simp only[aE,Nat.reduceEqDiff,reduceCtorEq]
     ·simp only[bF,aw,aF,av,ah,Nat.reduceEqDiff,reduceCtorEq,hq]
      exact b9 6 (by simp only[aE,Nat.reduceEqDiff,reduceCtorEq])
    ·rw[kT] at hi
     rw[hi] at hx;have hg:=Ty k;simp only[IH,bn,iE,bF,aw,aF,av,ah,Nat.reduceEqDiff,reduceCtorEq,iz,ed,ec,Gb,u5,lA,iB,lU,hx,hg,ie,Vc,hlc];refine go _ _ ?_ ?_ ?_ ?_ ?_ ?_ fun ay ae S hq=>?_
     ·simp only[aE,Nat.reduceEqDiff,reduceCtorEq,ed]
     ·simp only[aE,Nat.reduceEqDiff,reduceCtorEq,ec]
     ·simp only[aE,Nat.reduceEqDiff,reduceCtorEq]
     ·simp only[aE,Nat.reduceEqDiff,reduceCtorEq]
     ·simp only[aE,Nat.reduceEqDiff,reduceCtorEq]
     ·simp only[aE,Nat.reduceEqDiff,reduceCtorEq]
     ·simp only[bF,aw,aF,av,ah,Nat.reduceEqDiff,reduceCtorEq,hq]
      exact b9 6 (by simp only[aE,Nat.reduceEqDiff,reduceCtorEq])
def xR:XC:=(.seq (.aQ
 [aC 13 (.bin .lss .int (.t 12) (.t 11))]) (.seq (.cond (.t 13) .skip (.exit 0)) (.seq (.block 1 (.seq (.aQ
 [aC 14 (.gE 2 (.t 10) (.t 12)),
  om 15 (.load 2 true (.t 14)),
  fL 5 (.alloc [(.str []),.az]),
  ⟨none,none,(.e (.store 2 (.t 5) (.t 15)))⟩]) (.nL []
 [aC 16 (.iq 1 (.t 3)),
  om 17 (.load 1 false (.t 16)),
  om 18 (.load 2 true (.t 5)),
  fL 19 (.call (.c (.fn 323 [] [])) [(.t 18)]),
  aC 20 (.fv 2 [(.agg [(.str []),.az])] [(0,(.t 19))]),
  fL 21 (.app 2 40 (.t 17) (.t 20)),
  aC 22 (.iq 1 (.t 3)),
  ⟨none,none,(.e (.store 1 (.t 22) (.t 21)))⟩] [(1,3)]))) (.aQ
 [aC 23 (.bin .add .int (.t 12) (.c (.int .i64 1))),
  aA 12 23]))))
def Q9:XC:=(.seq (.aQ
 [fL 1 (.box 2 (.t 0)),
  fL 2 (.alloc [(.str []),.az])]) (.seq (.aQ
 [aC 6 (.iq 0 (.t 1)),
  om 7 (.load 1 false (.t 6)),
  aC 8 (.build [(.str []),.az] [(0,1,(.t 7))]),
  fL 3 (.alloc [(.str []),.az]),
  ⟨none,none,(.e (.store 2 (.t 3) (.t 8)))⟩]) (.seq (.seq (.aQ
 [aC 9 (.iq 1 (.t 1)),
  om 10 (.load 1 false (.t 9)),
  aC 11 (.kA (.t 10)),
  aC 12 (.move (.c (.int .i64 0)))]) (.block 0 (.loop xR))) (.seq (.aQ
 [om 24 (.load 2 true (.t 3)),
  ⟨none,none,(.e (.store 2 (.t 2) (.t 24)))⟩]) .ret))))
def wj:XC:=(.seq (.aQ
 [aC 35 (.bin .lss .int (.t 34) (.t 33))]) (.seq (.cond (.t 35) .skip (.exit 0)) (.seq (.block 1 (.seq (.aQ
 [aC 36 (.gE 2 (.t 32) (.t 34)),
  om 37 (.load 2 true (.t 36)),
  fL 10 (.alloc [(.str []),.az]),
  ⟨none,none,(.e (.store 2 (.t 10) (.t 37)))⟩]) (.nL []
 [aC 38 (.iq 1 (.t 8)),
  om 39 (.load 1 false (.t 38)),
  om 40 (.load 2 true (.t 10)),
  aA 41 1,
  aA 42 2,
  fL 43 (.call (.c (.fn 320 [] [])) [(.t 40),(.t 41),(.t 42)]),
  aC 44 (.fv 2 [(.agg [(.str []),.az])] [(0,(.t 43))]),
  fL 45 (.app 2 40 (.t 39) (.t 44)),
  aC 46 (.iq 1 (.t 8)),
  ⟨none,none,(.e (.store 1 (.t 46) (.t 45)))⟩] [(1,5)]))) (.aQ
 [aC 47 (.bin .add .int (.t 34) (.c (.int .i64 1))),
  aA 34 47]))))
def IG:XC:=(.seq (.aQ
 [fL 3 (.box 2 (.t 0)),
  fL 6 (.alloc [(.str []),.az])]) (.seq (.seq (.aQ
 [aA 11 1,
  aC 12 (.iq 0 (.t 3)),
  om 13 (.load 1 false (.t 12)),
  fL 14 (.call (.c (.fn 346 [] [])) [(.t 11),(.t 13)]),
  aA 7 14]) (.seq (.aQ
 [aA 15 7,
  aC 16 (.bin .geq .int (.t 15) (.c (.int .i64 0))),
  aA 17 16,
  bW 18 17 true (.iq 1 (.t 3)),
  ⟨some 19,some (17,true),(.l (.load 1 false (.t 18)))⟩,
  bW 20 17 true (.kA (.t 19)),
  bW 21 17 true (.bin .eql .int (.t 20) (.c (.int .i64 0))),
  aC 22 (.pick (.t 17) (.t 21) (.c (.bool false)))]) (.cond (.t 22) (.seq (.aQ
 [aA 23 2,
  aA 24 7,
  aC 25 (.gE 2 (.t 23) (.t 24)),
  om 26 (.load 2 true (.t 25)),
  fL 27 (.call (.c (.fn 323 [] [])) [(.t 26)]),
  ⟨none,none,(.e (.store 2 (.t 6) (.t 27)))⟩]) .ret) .skip))) (.seq (.aQ
 [aC 28 (.iq 0 (.t 3)),
  om 29 (.load 1 false (.t 28)),
  aC 30 (.build [(.str []),.az] [(0,1,(.t 29))]),
  fL 8 (.alloc [(.str []),.az]),
  ⟨none,none,(.e (.store 2 (.t 8) (.t 30)))⟩]) (.seq (.seq (.aQ
 [aC 31 (.iq 1 (.t 3)),
  om 32 (.load 1 false (.t 31)),
  aC 33 (.kA (.t 32)),
  aC 34 (.move (.c (.int .i64 0)))]) (.block 0 (.loop wj))) (.seq (.aQ
 [om 48 (.load 2 true (.t 8)),
  ⟨none,none,(.e (.store 2 (.t 6) (.t 48)))⟩]) .ret)))))
theorem s323 (ag d:Nat) (args:List AV) (st:St):ao eE ag (d+1) 323 args st=bg [.cell 2 2 true] (ak (ao eE ag d) ag Q9 (bb args 0 .nil) st):=bp Tryz.func323 (by decide) (x:=⟨Q9,[.cell 2 2 true]⟩) (by kernel_rfl) rfl ag d args st
theorem We (ag d:Nat) (args:List AV) (st:St):ao eE ag (d+1) 320 args st=bg [.cell 6 2 true] (ak (ao eE ag d) ag IG (bb args 0 .nil) st):=bp Tryz.func320 (by decide) (x:=⟨IG,[.cell 6 2 true]⟩) (by kernel_rfl) rfl ag d args st
def Ku (ps:List (Nat × Nat)) (r:Option (Tr AV × St × List (Option Nat × Tr Ev.dR))):Option (Tr AV × St):=match r with
 |some (ay,ae,l)=>match ps.all (kx l) with
  |true=>some (ay,ae)
  |false=>none
 |none=>none
def GG (k:Option Nat) (st:St) (r:Option (Tr AV × St × List (Option Nat × Tr Ev.dR))):Option (Tr AV × St × List (Option Nat × Tr Ev.dR)):=match r with
 |some (ay,gn,l)=>some (ay,gn,(k,st.heap)::l)
 |none=>none
def LZ (k:Option Nat) (st:St) (ih:Tr AV->St->Option (Tr AV × St × List (Option Nat × Tr Ev.dR))) (tm:Tr AV) (d:Option Nat) (r:Option (AV × St)):Option (Tr AV × St × List (Option Nat × Tr Ev.dR)):=match r with
 |some (v,ae)=>GG k st (ih (eH tm d v) ae)
 |none=>none
def kOf:AV->Option Nat
 | .ptr k _=>some k
 |_=>none
section
variable {call : Ev.e8} {ag : Nat} {tm : Tr AV} {st : St}
theorem Dp (ops:List XR) (p:Nat × Nat) (ps:List (Nat × Nat)):ak call ag (.nL [] ops (p::ps)) tm st=R.of (Ku (p::ps) (eJ call ops tm st)):=by
 show R.of (mC call ops (p::ps) tm st)=_
 unfold mC Ku
 rfl
theorem LW:eJ call [] tm st=some (tm,st,[(none,st.heap)]):=rfl
theorem GA (d:Option Nat) (op:Iz) (l:List XR):eJ call (⟨d,none,op⟩::l) tm st=LZ (cO tm ⟨d,none,op⟩) st (eJ call l) tm d (mY call st tm op):=by
 show(match mY call st tm op with
  |some (v,ae)=>(match eJ call l (eH tm d v) ae with
   |some (ay,gn,l)=>some (ay,gn,(cO tm ⟨d,none,op⟩,st.heap)::l)
   |none=>none)
  |none=>none:Option (Tr AV × St × List (Option Nat × Tr Ev.dR)))=_
 unfold LZ GG
 rfl
theorem GC (k:Option Nat) (ih:Tr AV->St->Option (Tr AV × St × List (Option Nat × Tr Ev.dR))) (d:Option Nat) (v:AV) (ae:St):LZ k st ih tm d (some (v,ae))=GG k st (ih (eH tm d v) ae):=rfl
theorem GH (k:Option Nat) (ay:Tr AV) (gn:St) (l:List (Option Nat × Tr Ev.dR)):GG k st (some (ay,gn,l))=some (ay,gn,(k,st.heap)::l):=rfl
theorem kr_p (d:Option Nat) (o:XP):cO tm ⟨d,none,.p o⟩=none:=rfl
theorem kr_e (d:Option Nat) (o:XE):cO tm ⟨d,none,.e o⟩=none:=rfl
theorem kr_l (d:Option Nat) (s:Nat) (b:Bool) (a:XO):cO tm ⟨d,none,.l (.load s b a)⟩=kOf (aD tm a):=rfl
theorem Hp (k o:Nat):kOf (.ptr k o)=some k:=rfl
end
theorem Wn {k v:Nat} {a:Option Nat × Tr Ev.dR} {H1 H3 H4:Tr Ev.dR} {b:Option Nat × Tr Ev.dR} {x y:Option Nat} {l:List (Option Nat × Tr Ev.dR)} (h3:fI (H3.get k)=some v) (h4:fI (H4.get k)=some v) (TM:Tr AV) (ST:St):Ku [(1,3)] (some (TM,ST,a::(some k,H1)::b::(x,H3)::(y,H4)::l))=some (TM,ST):=by
 have e:kx (a::(some k,H1)::b::(x,H3)::(y,H4)::l) (1,3)=true:=by
  show(match fI (H3.get k),fI (H4.get k) with
   |some a,some b=>Nat.beq a b
   |_,_=>false)=true
  rw[h3,h4];exact fV v
 unfold Ku;simp only[List.all_cons,List.all_nil,e,Bool.and_true]
theorem Wm {k v:Nat} {a:Option Nat × Tr Ev.dR} {H1 H3 H4:Tr Ev.dR} {b b2 b3:Option Nat × Tr Ev.dR} {x y:Option Nat} {l:List (Option Nat × Tr Ev.dR)} (h3:fI (H3.get k)=some v) (h4:fI (H4.get k)=some v) (TM:Tr AV) (ST:St):Ku [(1,5)] (some (TM,ST,a::(some k,H1)::b::b2::b3::(x,H3)::(y,H4)::l))=some (TM,ST):=by
 have e:kx (a::(some k,H1)::b::b2::b3::(x,H3)::(y,H4)::l) (1,5)=true:=by
  show(match fI (H3.get k),fI (H4.get k) with
   |some a,some b=>Nat.beq a b
   |_,_=>false)=true
  rw[h3,h4];exact fV v
 unfold Ku;simp only[List.all_cons,List.all_nil,e,Bool.and_true]
def qX (base:Nat) (es:List AV) (o:AV) (st:St):Prop:=(es=[]/\o = .az)\/∃ id,es≠[]/\o = .sl 2 es (.at id)/\base<=id/\id<st.next/\st.heap.get id=some .aN
theorem qX.cI {base:Nat} {es:List AV} {o:AV} {st ae:St} (h:qX base es o st) (hg:fz st ae):qX base es o ae:=by
 rcases h with h |⟨id,h1,h2,h3,h4,h5⟩
 ·exact .inl h
 ·exact .inr ⟨id,h1,h2,h3,qy h4 hg.next,by rw[hg.same id h4]; exact h5⟩
theorem qX.app {base:Nat} {es:List AV} {o v:AV} {st:St} (h:qX base es o st) (hl:es.length<1000) (hb:base<=st.next):∃ o' ae,sT 2 40 st o (.sl 2 [v] .full)=some (o',ae)/\qX base (es++[v]) o' ae/\o'.cells=[o']/\st.next<=ae.next/\(∀ j,j<st.next->st.heap.get j≠some .aN->ae.heap.get j=st.heap.get j)/\∀ j,j<base->ae.heap.get j=st.heap.get j:=by
 rcases h with⟨rfl,rfl⟩ |⟨id,h1,rfl,h3,h4,h5⟩
 ·refine⟨.sl 2 [v] (.at st.next),st.new .aN,rfl,.inr ⟨st.next,by simp,rfl,hb,qA _,by rw[Ev.aJ,bJ rfl]⟩,rfl,ma _,fun j hj _=>by rw[Ev.aJ,ba (by omega)],fun j hj=>by rw[Ev.aJ,ba (by omega)]⟩
 ·refine⟨.sl 2 (es++[v]) (.at st.next),(st.put id .gone).new .aN,?_,.inr ⟨st.next,by simp,rfl,hb,qA _,?_⟩,rfl,ma _,fun j hj ht=>?_,fun j hj=>?_⟩
  ·have hf:zt (es.length+1) 40=true:=by
    unfold zt;have e1:Nat.ble (es.length+1) 1073741824=true:=by rw[gJ]; omega
    rw[e1]; rfl
   show fy 2 40 st (.sl 2 es (.at id)) [v]=_
   unfold fy;have e2:(Nat.beq 2 2&&zt (es.length+[v].length) 40)=true:=hf;simp only[e2,h5]
  ·show((st.put id .gone).new .aN).heap.get (st.put id .gone).next=_
   rw[Ev.aJ,bJ rfl]
  ·rw[Ev.aJ,ba (by show ¬ j=st.next; omega),Ev.aK,ba (by intro e; subst e; exact ht h5)]
  ·rw[Ev.aJ,ba (by show ¬ j=st.next; omega),Ev.aK,ba (by omega)]
theorem GM {st:St} {k bX:Nat} {a b v:AV} (h:st.heap.get k=some (.box bX [a,b])) (hv:v.cells=[v]):cZ st 1 (.ptr k 1) v=some (gg,st.put k (.box (bX+1) [a,v])):=by
 unfold cZ;simp only[h,hv]
 rfl
theorem mz {st:St} {k bX:Nat} {x y a b:AV} (h:st.heap.get k=some (.box bX [x,y])):cZ st 2 (.ptr k 0) (.agg [a,b])=some (gg,st.put k (.box (bX+1) [a,b])):=by
 unfold cZ;simp only[h]
 rfl
def typS (v:AV):Option AV:=Rh 2 (Bool.rec (motive:=fun _=>Option (List AV)) none (some ([(.agg [(.str []),.az])].set 0 v)) (Nat.beq v.cells.length 2))
theorem PI {tm:Tr AV} (x:XO):mw tm (.fv 2 [(.agg [(.str []),.az])] [(0,x)])=typS (aD tm x):=rfl
theorem Gy (a b:AV):typS (.agg [a,b])=some (.sl 2 [.agg [a,b]] .full):=rfl
def typB (x:AV):Option AV:=D8 (Bool.rec (motive:=fun _=>Option (List AV)) none (some (aZ [(.str []),.az] 0 x.cells)) (Nat.beq x.cells.length 1))
theorem xL {tm:Tr AV} (x:XO):mw tm (.build [(.str []),.az] [(0,1,x)])=typB (aD tm x):=rfl
theorem rl (n:List UInt8):typB (.str n)=some (.agg [.str n,.az]):=rfl
inductive BC (P:AV->AV->Prop):List AV->List AV->Prop
 |nil:BC P [] []
 |cons {a b:AV} {l m:List AV}:P a b->BC P l m->BC P (a::l) (b::m)
theorem KK {call:Ev.e8} {ag:Nat} {es:List AV} {t:lV} {n:List UInt8} {P:AV->AV->Prop} {K base:Nat} (tJ:es.length<900) (hK:K<base) (jv:∀ e∈es,nV e) (hc:∀ e∈es,∀ st,∃ r ae,call 323 [e] st=some (r,ae)/\fz st ae/\P e r/\∃ a b,r = .agg [a,b]):∀ (l:List AV) (i m:Nat) (tm:Tr AV) (st:St) (rs:List AV) (o:AV) (bX:Nat),es.drop i=l->i<=es.length->l.length<m->rs.length<=i->base<=st.next->st.heap.get K=some (.box bX [.str n,o])->qX base rs o st->tm.get 10=some (.sl 2 es t)->tm.get 11=some (.int .i64 (.ofNat es.length))->tm.get 12=some (.int .i64 (.ofNat i))->tm.get 3=some (.ptr K 0) ->
  ah (aY (ak call ag xR) m tm st) fun e ay ae=>e = .exit 0/\base<=ae.next/\(∀ j,j<base->j≠K->ae.heap.get j=st.heap.get j)/\ay.get 2=tm.get 2/\ay.get 3=some (.ptr K 0)/\∃ yi o' iJ,ae.heap.get K=some (.box iJ [.str n,o'])/\qX base (rs++yi) o' ae/\BC P l yi:=by
 intro l
 induction l with
 |nil =>
  intro i m tm st rs o bX hl hi hm S9 hb FH hO h1 h2 h3 h4;obtain⟨m,rfl⟩:∃ k,m=k+1:=⟨m-1,by simp at hm; omega⟩
  have aO:decide (i<es.length)=false:=nM (by have:=pK hl hi; omega)
  simp only[ax,xR,iE,bF,aw,aF,av,ah,Nat.reduceEqDiff,reduceCtorEq,h1,h2,h3,h4,aI,aO];exact⟨trivial,hb,fun _ _ _=>(by first |rfl |trivial),by simp only[aE,Nat.reduceEqDiff,reduceCtorEq],by simp only[aE,Nat.reduceEqDiff,reduceCtorEq,h4],[],o,bX,FH,by simpa using hO,.nil⟩
 |cons e l ih =>
  intro i m tm st rs o bX hl hi hm S9 hb FH hO h1 h2 h3 h4;obtain⟨m,rfl⟩:∃ k,m=k+1:=⟨m-1,by simp at hm; omega⟩
  obtain⟨hbi,dt,jm,cn⟩:=mq hl;have aO:decide (i<es.length)=true:=fM dt;obtain⟨nn,a,rfl⟩:=(jv e cn).form;have dw:=add_one (n:=i) (by omega)
  have dX:=wR (t:=t) hbi;rw[ke] at dX;have XD:((st.new (.box 0 [.str [],.az])).put st.next (.box 1 [.str nn,a])).heap.get st.next=some (.box 1 [.str nn,a]):=by rw[Ev.aK,bJ rfl]
  have iB:=oC XD;have QW:=sf st (.box 0 [.str [],.az]) (.box 1 [.str nn,a]);have FG:((st.new (.box 0 [.str [],.az])).put st.next (.box 1 [.str nn,a])).heap.get K=some (.box bX [.str n,o]):=by rw[QW.same K (by omega)]; exact FH
  have lU:=iM FG;obtain⟨r,yR,iC,hg,hP,ra,rb,rfl⟩:=hc _ cn ((st.new (.box 0 [.str [],.az])).put st.next (.box 1 [.str nn,a]));have FF:yR.heap.get K=some (.box bX [.str n,o]):=by rw[hg.same K (by show K<st.next+1; omega)]; exact FG
  have UY:st.next<=yR.next:=lS QW.next hg.next;obtain⟨o',D3,tK,hO4,hoc,hn4,hs4,hs5⟩:=((hO.cI QW).cI hg).app (v:=.agg [ra,rb]) (by omega) (by omega)
  have XB:D3.heap.get K=some (.box bX [.str n,o]):=by rw[hs4 K (by omega) (by rw[FF]; intro e; cases e)]; exact FF
  have qf:=GM XB hoc;have v2:fI (((st.new (.box 0 [.str [],.az])).put st.next (.box 1 [.str nn,a])).heap.get K)=some bX:=by rw[FG]; rfl
  have v3:fI (yR.heap.get K)=some bX:=by rw[FF]; rfl
  have more:∀ cB:Tr AV,cB.get 2=tm.get 2->cB.get 10=some (.sl 2 es t)->cB.get 11=some (.int .i64 (.ofNat es.length))->cB.get 12=some (.int .i64 (.ofNat (i+1)))->cB.get 3=some (.ptr K 0)->ah (aY (ak call ag xR) m cB (D3.put K (.box (bX+1) [.str n,o']))) fun e ay ae=>e = .exit 0/\base<=ae.next/\(∀ j,j<base->j≠K->ae.heap.get j=st.heap.get j)/\ay.get 2=tm.get 2/\ay.get 3=some (.ptr K 0)/\∃ yi o' iJ,ae.heap.get K=some (.box iJ [.str n,o'])/\qX base (rs++yi) o' ae/\BC P (.agg [.str nn,a]::l) yi:=by
   intro cB g6 q1 q2 q3 q4;have hO5:qX base (rs++[.agg [ra,rb]]) o' (D3.put K (.box (bX+1) [.str n,o'])):=by
    rcases hO4 with h |⟨id,p1,p2,p3,p4,p5⟩
    ·exact .inl h
    ·exact .inr ⟨id,p1,p2,p3,p4,by rw[Ev.aK,ba (by omega)]; exact p5⟩
   obtain⟨x,I0,l5,z1,z2,z3,z4,z6,z7,yi,o2,VK,z8,z9,z10⟩:=bq (ih (i+1) m cB (D3.put K (.box (bX+1) [.str n,o'])) (rs++[.agg [ra,rb]]) o' (bX+1) jm (by omega) (by simp at hm; omega) (by simp; omega) (by show base<=D3.next; omega) (by rw[Ev.aK,bJ rfl]) hO5 q1 q2 q3 q4)
   rw[z1];refine⟨z2,z3,fun j hj oI=>?_,z6.trans g6,z7,.agg [ra,rb]::yi,o2,VK,z8,by rw[Cn] at z9; exact z9,.cons hP z10⟩
   rw[z4 j hj oI,Ev.aK,ba oI,hs5 j hj,hg.same j (by show j<st.next+1; omega),QW.same j (by omega)]
  simp only[ax,xR,Dp,LW,GA,GC,GH,kr_p,kr_e,kr_l,Hp,PI,Gy,gx,iE,bF,aw,aF,av,ah,Nat.reduceEqDiff,reduceCtorEq,h1,h2,h3,h4,aI,aX,aO,dw,dX,qE,vV,u5,lA,iB,lU,iC,tK,qf,Wn v2 v3];exact more _ (by simp only[aE,Nat.reduceEqDiff,reduceCtorEq]) (by simp only[aE,Nat.reduceEqDiff,reduceCtorEq,h1]) (by simp only[aE,Nat.reduceEqDiff,reduceCtorEq,h2]) (by simp only[aE,Nat.reduceEqDiff,reduceCtorEq]) (by simp only[aE,Nat.reduceEqDiff,reduceCtorEq,h4])
theorem Ju {call:Ev.e8} {ag:Nat} {es:List AV} {t:lV} {n:List UInt8} {P:AV->AV->Prop} {K base:Nat} {nm:AV} {Bp:AV} (tJ:es.length<900) (hK:K<base) (jv:∀ e∈es,nV e) (hc:∀ e∈es,∀ st,∃ r ae,call 320 [e,nm,Bp] st=some (r,ae)/\fz st ae/\P e r/\∃ a b,r = .agg [a,b]):∀ (l:List AV) (i m:Nat) (tm:Tr AV) (st:St) (rs:List AV) (o:AV) (bX:Nat),es.drop i=l->i<=es.length->l.length<m->rs.length<=i->base<=st.next->st.heap.get K=some (.box bX [.str n,o])->qX base rs o st->tm.get 32=some (.sl 2 es t)->tm.get 33=some (.int .i64 (.ofNat es.length))->tm.get 34=some (.int .i64 (.ofNat i))->tm.get 8=some (.ptr K 0)->tm.get 1=some nm->tm.get 2=some Bp ->
  ah (aY (ak call ag wj) m tm st) fun e ay ae=>e = .exit 0/\base<=ae.next/\(∀ j,j<base->j≠K->ae.heap.get j=st.heap.get j)/\ay.get 6=tm.get 6/\ay.get 8=some (.ptr K 0)/\∃ yi o' iJ,ae.heap.get K=some (.box iJ [.str n,o'])/\qX base (rs++yi) o' ae/\BC P l yi:=by
 intro l
 induction l with
 |nil =>
  intro i m tm st rs o bX hl hi hm S9 hb FH hO h1 h2 h3 h4 e1 e2;obtain⟨m,rfl⟩:∃ k,m=k+1:=⟨m-1,by simp at hm; omega⟩
  have aO:decide (i<es.length)=false:=nM (by have:=pK hl hi; omega)
  simp only[ax,wj,iE,bF,aw,aF,av,ah,Nat.reduceEqDiff,reduceCtorEq,h1,h2,h3,h4,aI,aO];exact⟨trivial,hb,fun _ _ _=>(by first |rfl |trivial),by simp only[aE,Nat.reduceEqDiff,reduceCtorEq],by simp only[aE,Nat.reduceEqDiff,reduceCtorEq,h4],[],o,bX,FH,by simpa using hO,.nil⟩
 |cons e l ih =>
  intro i m tm st rs o bX hl hi hm S9 hb FH hO h1 h2 h3 h4 e1 e2;obtain⟨m,rfl⟩:∃ k,m=k+1:=⟨m-1,by simp at hm; omega⟩
  obtain⟨hbi,dt,jm,cn⟩:=mq hl;have aO:decide (i<es.length)=true:=fM dt;obtain⟨nn,a,rfl⟩:=(jv e cn).form;have dw:=add_one (n:=i) (by omega)
  have dX:=wR (t:=t) hbi;rw[ke] at dX;have XD:((st.new (.box 0 [.str [],.az])).put st.next (.box 1 [.str nn,a])).heap.get st.next=some (.box 1 [.str nn,a]):=by rw[Ev.aK,bJ rfl]
  have iB:=oC XD;have QW:=sf st (.box 0 [.str [],.az]) (.box 1 [.str nn,a]);have FG:((st.new (.box 0 [.str [],.az])).put st.next (.box 1 [.str nn,a])).heap.get K=some (.box bX [.str n,o]):=by rw[QW.same K (by omega)]; exact FH
  have lU:=iM FG;obtain⟨r,yR,iC,hg,hP,ra,rb,rfl⟩:=hc _ cn ((st.new (.box 0 [.str [],.az])).put st.next (.box 1 [.str nn,a]));have FF:yR.heap.get K=some (.box bX [.str n,o]):=by rw[hg.same K (by show K<st.next+1; omega)]; exact FG
  have UY:st.next<=yR.next:=lS QW.next hg.next;obtain⟨o',D3,tK,hO4,hoc,hn4,hs4,hs5⟩:=((hO.cI QW).cI hg).app (v:=.agg [ra,rb]) (by omega) (by omega)
  have XB:D3.heap.get K=some (.box bX [.str n,o]):=by rw[hs4 K (by omega) (by rw[FF]; intro e; cases e)]; exact FF
  have qf:=GM XB hoc;have v2:fI (((st.new (.box 0 [.str [],.az])).put st.next (.box 1 [.str nn,a])).heap.get K)=some bX:=by rw[FG]; rfl
  have v3:fI (yR.heap.get K)=some bX:=by rw[FF]; rfl
  have more:∀ cB:Tr AV,cB.get 6=tm.get 6->cB.get 32=some (.sl 2 es t)->cB.get 33=some (.int .i64 (.ofNat es.length))->cB.get 34=some (.int .i64 (.ofNat (i+1)))->cB.get 8=some (.ptr K 0)->cB.get 1=some nm->cB.get 2=some Bp->ah (aY (ak call ag wj) m cB (D3.put K (.box (bX+1) [.str n,o']))) fun e ay ae=>e = .exit 0/\base<=ae.next/\(∀ j,j<base->j≠K->ae.heap.get j=st.heap.get j)/\ay.get 6=tm.get 6/\ay.get 8=some (.ptr K 0)/\∃ yi o' iJ,ae.heap.get K=some (.box iJ [.str n,o'])/\qX base (rs++yi) o' ae/\BC P (.agg [.str nn,a]::l) yi:=by
   intro cB g6 q1 q2 q3 q4 q1_ q2_;have hO5:qX base (rs++[.agg [ra,rb]]) o' (D3.put K (.box (bX+1) [.str n,o'])):=by
    rcases hO4 with h |⟨id,p1,p2,p3,p4,p5⟩
    ·exact .inl h
    ·exact .inr ⟨id,p1,p2,p3,p4,by rw[Ev.aK,ba (by omega)]; exact p5⟩
   obtain⟨x,I0,l5,z1,z2,z3,z4,z6,z7,yi,o2,VK,z8,z9,z10⟩:=bq (ih (i+1) m cB (D3.put K (.box (bX+1) [.str n,o'])) (rs++[.agg [ra,rb]]) o' (bX+1) jm (by omega) (by simp at hm; omega) (by simp; omega) (by show base<=D3.next; omega) (by rw[Ev.aK,bJ rfl]) hO5 q1 q2 q3 q4 q1_ q2_)
   rw[z1];refine⟨z2,z3,fun j hj oI=>?_,z6.trans g6,z7,.agg [ra,rb]::yi,o2,VK,z8,by rw[Cn] at z9; exact z9,.cons hP z10⟩
   rw[z4 j hj oI,Ev.aK,ba oI,hs5 j hj,hg.same j (by show j<st.next+1; omega),QW.same j (by omega)]
  simp only[ax,wj,Dp,LW,GA,GC,GH,kr_p,kr_e,kr_l,Hp,PI,Gy,gx,iE,bF,aw,aF,av,ah,Nat.reduceEqDiff,reduceCtorEq,h1,h2,h3,h4,e1,e2,aI,aX,aO,dw,dX,qE,vV,u5,lA,iB,lU,iC,tK,qf,Wm v2 v3];exact more _ (by simp only[aE,Nat.reduceEqDiff,reduceCtorEq]) (by simp only[aE,Nat.reduceEqDiff,reduceCtorEq,h1]) (by simp only[aE,Nat.reduceEqDiff,reduceCtorEq,h2]) (by simp only[aE,Nat.reduceEqDiff,reduceCtorEq]) (by simp only[aE,Nat.reduceEqDiff,reduceCtorEq,h4]) (by simp only[aE,Nat.reduceEqDiff,reduceCtorEq,e1]) (by simp only[aE,Nat.reduceEqDiff,reduceCtorEq,e2])
theorem Ue {f:AV->Nat}:∀ {es rs:List AV},BC (fun e r=>nV r/\eL r=f e) es rs->(∀ r∈rs,nV r)/\rs.length=es.length/\dJ rs=(es.map f).sum:=by
 intro es
 induction es with
 |nil=>intro rs h; cases h; exact⟨(fun _ h=>nomatch h),rfl,rfl⟩
 |cons e es ih =>
  intro rs h;cases h with
  |@cons _ b _ m h1 h2 =>
   obtain⟨k1,k2,k3⟩:=ih h2;refine⟨fun r hr=>?_,by simp[k2],?_⟩
   ·rcases lI.1 hr with rfl |hr
    ·exact h1.1
    ·exact k1 r hr
   ·simp only[dJ,ot,List.sum_cons]
    rw[k3,h1.2]
theorem CD:∀ es:List AV,dJ es=(es.map eL).sum
 | []=>rfl
 |e::es=>by simp only[dJ,ot,List.sum_cons,CD es]
theorem j7 {tm:Tr AV} {st:St} {k K bX:Nat} {a b:AV} (h:tm.get k=some (.ptr K 0)) (h1:st.heap.get K=some (.box bX [a,b])):bg [.cell k 2 true] (.ok .ret tm st)=some (.agg [a,b],st):=by
 have e1:aD tm (.t k) = .ptr K 0:=by rw[dC,h]; rfl
 have e2:l8 tm st (.cell k 2 true)=some (.agg [a,b]):=by
  unfold l8;simp only[e1,cc,h1]
  rfl
 show(match gu tm st [.cell k 2 true] with |some vs=>some (jJ vs,st) |none=>none)=_
 have e4:gu tm st [.cell k 2 true]=some [.agg [a,b]]:=by
  unfold gu;rw[e2]
  rfl
 rw[e4]
 rfl
def three (st:St) (n:List UInt8) (a:AV):St:=((((st.new (.box 0 [.str n,a])).new (.box 0 [.str [],.az])).new (.box 0 [.str [],.az])).put (st.next+2) (.box 1 [.str n,.az]))
theorem Ek (st:St) (n:List UInt8) (a:AV):(three st n a).next=st.next+3:=rfl
theorem I1 (st:St) (n:List UInt8) (a:AV) {j:Nat} (hj:j<st.next):(three st n a).heap.get j=st.heap.get j:=by
 unfold three;rw[Ev.aK,ba (by omega),Ev.aJ,ba (by show ¬ j=st.next+2; omega),Ev.aJ,ba (by show ¬ j=st.next+1; omega),Ev.aJ,ba (by omega)]
theorem Ry (st:St) (n:List UInt8) (a:AV):(three st n a).heap.get (st.next+1)=some (.box 0 [.str [],.az]):=by
 unfold three;rw[Ev.aK,ba (by omega),Ev.aJ,ba (by show ¬ st.next+1=st.next+2; omega),Ev.aJ]
 exact bJ rfl
theorem pc (st:St) (n:List UInt8) (a:AV):(three st n a).heap.get (st.next+2)=some (.box 1 [.str n,.az]):=by
 unfold three;rw[Ev.aK,bJ rfl]
theorem rr (st:St) (n:List UInt8) (a:AV):(three st n a).heap.get st.next=some (.box 0 [.str n,a]):=by
 unfold three;rw[Ev.aK,ba (by omega),Ev.aJ,ba (by show ¬ st.next=st.next+2; omega),Ev.aJ,ba (by show ¬ st.next=st.next+1; omega),Ev.aJ,bJ rfl]
def two (st:St) (n:List UInt8) (a:AV):St:=(st.new (.box 0 [.str n,a])).new (.box 0 [.str [],.az])
theorem rm (st:St) (n:List UInt8) (a:AV):(two st n a).heap.get st.next=some (.box 0 [.str n,a]):=by
 unfold two;rw[Ev.aJ,ba (by show ¬ st.next=st.next+1; omega),Ev.aJ,bJ rfl]
theorem BT (st:St) (n:List UInt8) (a:AV):(two st n a).heap.get (st.next+1)=some (.box 0 [.str [],.az]):=by
 unfold two;rw[Ev.aJ];exact bJ rfl
theorem Rw (st:St) (n:List UInt8) (a:AV) {j:Nat} (hj:j<st.next):(two st n a).heap.get j=st.heap.get j:=by
 unfold two;rw[Ev.aJ,ba (by show ¬ j=st.next+1; omega),Ev.aJ,ba (by omega)]
theorem lC (st:St) (n:List UInt8) (a:AV):Yz st 2 (.agg [.str n,a])=some (.ptr st.next 0,st.new (.box 0 [.str n,a])):=rfl
theorem lp (st:St) (n:List UInt8) (a:AV):(st.new (.box 0 [.str n,a])).new (.box 0 [.str [],.az])=two st n a:=rfl
theorem jk (st:St) (n:List UInt8) (a:AV):(st.new (.box 0 [.str n,a])).next=st.next+1:=rfl
theorem jj (st:St) (n:List UInt8) (a:AV):(two st n a).next=st.next+2:=rfl
theorem je (st:St) (n:List UInt8) (a:AV):cZ ((two st n a).new (.box 0 [.str [],.az])) 2 (.ptr (st.next+2) 0) (.agg [.str n,.az])=some (gg,three st n a):=sZ (st:=two st n a) 2 [.str n,.az] rfl rfl
theorem sn {st l5:St} {n:List UInt8} {a o':AV} {yi es:List AV} {iJ:Nat} {f:AV->Nat} (hn:n.length<=64) (tJ:es.length<=4) (h1:st.next+3<=l5.next) (h2:∀ j,j<st.next+3->j≠st.next+2->l5.heap.get j=(three st n a).heap.get j) (h3:l5.heap.get (st.next+2)=some (.box iJ [.str n,o'])) (h4:qX (st.next+3) ([]++yi) o' l5) (h5:BC (fun e r=>nV r/\eL r=f e) es yi) :
  cZ l5 2 (.ptr (st.next+1) 0) (.agg [.str n,o'])=some (gg,l5.put (st.next+1) (.box 1 [.str n,o']))/\fz st (l5.put (st.next+1) (.box 1 [.str n,o']))/\nV (.agg [.str n,o'])/\eL (.agg [.str n,o'])=(es.map f).sum+1:=by
 obtain⟨k1,k2,k3⟩:=Ue h5;have e2:l5.heap.get (st.next+1)=some (.box 0 [.str [],.az]):=by rw[h2 (st.next+1) (by omega) (by omega),Ry]
 refine⟨mz e2,⟨by show st.next<=l5.next; omega,fun j hj=>?_⟩,?_⟩
 ·rw[Ev.aK,ba (by omega),h2 j (by omega) (by omega),I1 st n a hj]
 ·rw[EV] at h4
  rcases h4 with⟨rfl,rfl⟩ |⟨id,_,rfl,_⟩
  ·refine⟨.az hn,?_⟩
   simp only[dJ] at k3;simp only[eL,dJ];omega
  ·refine⟨.sl hn (by omega) k1,?_⟩
   simp only[eL,dJ];rw[k3]; omega
theorem KL {v:AV} (h:nV v):∃ n0,∀ ag d,n0<=ag->n0<=d->∀ st,∃ r ae,ao eE ag d 323 [v] st=some (r,ae)/\fz st ae/\nV r/\eL r=eL v:=by
 induction h with
 |@az n hn =>
  refine⟨1,fun ag d hl hd st=>?_⟩
  obtain⟨d,rfl⟩:∃ j,d=j+1:=⟨d-1,by omega⟩
  obtain⟨ag,rfl⟩:∃ j,ag=j+1:=⟨ag-1,by omega⟩
  have iB:=oB (rm st n .az);have lU:=iM (rr st n .az);have w9:=oC (pc st n .az);have l0:bE .lss .int (.int .i64 0) (.int .i64 0)=some (.bool false):=rfl;obtain⟨k1,k2,k3,k4⟩:=sn (st:=st) (l5:=three st n .az) (n:=n) (a:=.az) (o':=.az) (yi:=[]) (es:=[]) (f:=eL) hn (by simp) (dN _) (fun _ _ _=>rfl) (pc st n .az) (.inl ⟨rfl,rfl⟩) .nil
  refine⟨_,_,?_,k2,k3,k4⟩
  rw[s323];simp only[Q9,xR,bn,ax,bT,iE,bF,aw,aF,av,ah,Nat.reduceEqDiff,reduceCtorEq,bz,lC,lp,jk,jj,u5,lA,iB,xL,rl,je,lU,mf,l0,w9,k1];exact j7 (K:=st.next+1) (bX:=1) (by simp only[aE,Nat.reduceEqDiff,reduceCtorEq]) (by rw[Ev.aK,bJ rfl])
 |@sl n es t hn hlen jv ih =>
  obtain⟨n0,h0⟩:=xE (Q:=fun e ag d=>∀ st,∃ r ae,ao eE ag d 323 [e] st=some (r,ae)/\fz st ae/\nV r/\eL r=eL e) ih
  refine⟨n0+10,fun ag d hl hd st=>?_⟩
  obtain⟨d,rfl⟩:∃ j,d=j+1:=⟨d-1,by omega⟩
  have iB:=oB (rm st n (.sl 2 es t));have lU:=iM (rr st n (.sl 2 es t));have go:∀ (F:RF) (tm:Tr AV),tm.get 10=some (.sl 2 es t)->tm.get 11=some (.int .i64 (.ofNat es.length))->tm.get 12=some (.int .i64 0)->tm.get 3=some (.ptr (st.next+2) 0)->tm.get 2=some (.ptr (st.next+1) 0)->(∀ (ay:Tr AV) l5 o' iJ,ay.get 2=some (.ptr (st.next+1) 0)->ay.get 3=some (.ptr (st.next+2) 0)->l5.heap.get (st.next+2)=some (.box iJ [.str n,o'])->cZ l5 2 (.ptr (st.next+1) 0) (.agg [.str n,o'])=some (gg,l5.put (st.next+1) (.box 1 [.str n,o']))->bg [.cell 2 2 true] (F ay l5)=some (.agg [.str n,o'],l5.put (st.next+1) (.box 1 [.str n,o']))) ->
    ∃ r ae,bg [.cell 2 2 true] (R.andThen (R.block 0 (aY (ak (ao eE ag d) ag xR) ag tm (three st n (.sl 2 es t)))) F)=some (r,ae)/\fz st ae/\nV r/\eL r=dJ es+1:=by
   intro F tm g1 g2 g3 g4 g5 hF;obtain⟨x,cB,l5,q1,rfl,q2,q3,q4,q5,yi,o',iJ,q6,q7,q8⟩:=bq (KK (call:=ao eE ag d) (ag:=ag) (es:=es) (t:=t) (n:=n) (P:=fun e r=>nV r/\eL r=eL e) (K:=st.next+2) (base:=st.next+3) (by omega) (by omega) jv (fun e he s=>by
    obtain⟨r,s',p1,p2,p3,p4⟩:=h0 e he ag d (by omega) (by omega) s
    obtain⟨a,b,hf⟩:=p3.form;exact⟨r,s',p1,p2,⟨p3,p4⟩,_,_,hf⟩) es 0 ag tm (three st n (.sl 2 es t)) [] .az 1 rfl (by omega) (by omega) (by simp) (by rw[Ek]; omega) (pc st n (.sl 2 es t)) (.inl ⟨rfl,rfl⟩) g1 g2 g3 g4)
   obtain⟨k1,k2,k3,k4⟩:=sn hn hlen q2 q3 q6 q7 q8;refine⟨_,_,?_,k2,k3,by rw[k4,CD]⟩
   rw[q1,bT,cT];exact hF cB l5 o' iJ (q4.trans g5) q5 q6 k1
  have e1:eL (.agg [.str n,.sl 2 es t])=dJ es+1:=by simp only[eL,dJ]; omega
  rw[e1,s323];simp only[Q9,bn,iE,bF,aw,aF,av,ah,Nat.reduceEqDiff,reduceCtorEq,bz,lC,lp,jk,jj,u5,lA,iB,xL,rl,je,lU,ie];refine go _ _ ?_ ?_ ?_ ?_ ?_ fun ay l5 o' iJ h2 h3 h4 h5=>?_
  ·simp only[aE,Nat.reduceEqDiff,reduceCtorEq]
  ·simp only[aE,Nat.reduceEqDiff,reduceCtorEq]
  ·simp only[aE,Nat.reduceEqDiff,reduceCtorEq]
  ·simp only[aE,Nat.reduceEqDiff,reduceCtorEq]
  ·simp only[aE,Nat.reduceEqDiff,reduceCtorEq]
  ·have w9:=oC h4
   simp only[iE,bF,aw,aF,av,ah,Nat.reduceEqDiff,reduceCtorEq,h2,h3,w9,h5];exact j7 (K:=st.next+1) (bX:=1) (by simp only[aE,Nat.reduceEqDiff,reduceCtorEq,h2]) (by rw[Ev.aK,bJ rfl])
def Vx (v:AV) (bs:List AV):Prop:=(v = .az/\bs=[])\/∃ t,v = .sl 2 bs t
theorem Vx.ix {v:AV} {bs:List AV} (h:Vx v bs) {k:Nat} {b:AV} (hb:bs[k]?=some b):∃ x,gQ 2 v (some k)=some (.ro b.cells 0 x):=by
 rcases h with⟨rfl,rfl⟩ |⟨t,rfl⟩
 ·simp at hb
 ·exact⟨_,wR (by rw[jC]; exact hb)⟩
theorem Vx.len {v:AV} {bs:List AV} (h:Vx v bs):jI v=some (.int .i64 (.ofNat bs.length)):=by
 rcases h with⟨rfl,rfl⟩ |⟨t,rfl⟩<;>rfl
theorem Jv {nm Bp:AV} {L:List (List UInt8)} {bs:List AV} (AZ:Strs nm L) (hL:L.length<1000000000) (Kj:Vx Bp bs) (hlen:L.length=bs.length) (hb:∀ b∈bs,nV b):∀ (f:Nat) (v:AV),nV v->eL v<=f ->
  ∃ n0,∀ ag d,n0<=ag->n0<=d->∀ st,∃ r ae,ao eE ag d 320 [v,nm,Bp] st=some (r,ae)/\fz st ae/\nV r/\eL r=uW (fun n=>(hit L bs n).map eL) f v:=by
 intro f
 induction f with
 |zero =>
  intro v h hn;obtain⟨n,a,rfl⟩:=h.form;simp only[eL] at hn;omega
 |succ f ih =>
  intro v h hn;have e0:bE .eql .int (.int .i64 0) (.int .i64 0)=some (.bool true):=rfl;have l0:bE .lss .int (.int .i64 0) (.int .i64 0)=some (.bool false):=rfl;have leaf:∀ (n:List UInt8) (a:AV),n.length<=64->jI a=some (.int .i64 0)->∃ n0,∀ ag d,n0<=ag->n0<=d->∀ st,∃ r ae,ao eE ag d 320 [.agg [.str n,a],nm,Bp] st=some (r,ae)/\fz st ae/\nV r/\eL r=((hit L bs n).map eL).getD 1:=by
   intro n a hnl hla;unfold hit;rcases vy L n 0 with hi |⟨k,hi,hk⟩
   ·refine⟨L.length+5,fun ag d hl hd st=>?_⟩
    obtain⟨d,rfl⟩:∃ j,d=j+2:=⟨d-2,by omega⟩
    obtain⟨ag,rfl⟩:∃ j,ag=j+1:=⟨ag-1,by omega⟩
    have hx:=fun st=>oG AZ hL n (ag+1) d (by omega) st
    rw[hi] at hx ⊢;have iB:=oB (rm st n a);have lU:=iM (rm st n a);have w9:=iM (rr st n a);have hl4:=oC (pc st n a);obtain⟨k1,k2,k3,k4⟩:=sn (st:=st) (l5:=three st n a) (n:=n) (a:=a) (o':=.az) (yi:=[]) (es:=[]) (f:=eL) hnl (by simp) (dN _) (fun _ _ _=>rfl) (pc st n a) (.inl ⟨rfl,rfl⟩) .nil
    refine⟨_,_,?_,k2,k3,k4⟩
    rw[We];simp only[IG,wj,bn,ax,bT,iE,bF,aw,aF,av,ah,Nat.reduceEqDiff,reduceCtorEq,iz,ed,ec,lC,lp,jk,jj,u5,lA,iB,hx,Tx,xL,rl,je,w9,hla,l0,hl4,k1];exact j7 (K:=st.next+1) (bX:=1) (by simp only[aE,Nat.reduceEqDiff,reduceCtorEq]) (by rw[Ev.aK,bJ rfl])
   ·rw[kT] at hi
    have U1:k<bs.length:=by omega
    have XH:bs[k]?=some bs[k]:=ey U1
    obtain⟨x,dX⟩:=Kj.ix XH;have htb:=hb _ (nN U1);obtain⟨nb,ab,C5⟩:=htb.form;obtain⟨n1,h1⟩:=KL htb;refine⟨n1+L.length+5,fun ag d hl hd st=>?_⟩
    obtain⟨d,rfl⟩:∃ j,d=j+2:=⟨d-2,by omega⟩
    have hx:=fun st=>oG AZ hL n ag d (by omega) st
    rw[hi] at hx ⊢;have hg:=Ty k;have iB:=oB (rm st n a);have lU:=iM (rm st n a);obtain⟨r,bY,c1,c2,c3,c4⟩:=h1 ag (d+1) (by omega) (by omega) (two st n a)
    obtain⟨ra,rb,hr⟩:=c3.form;have BE:bY.heap.get (st.next+1)=some (.box 0 [.str [],.az]):=by rw[c2.same _ (by show st.next+1<st.next+2; omega),BT]
    rw[C5] at c1 dX;rw[ke] at dX;rw[hr] at c1;have qf:=mz (a:=.str ra) (b:=rb) BE;refine⟨r,bY.put (st.next+1) (.box 1 [.str ra,rb]),?_,⟨lS (by show st.next<=st.next+2; omega) c2.next,fun j hj=>?_⟩,c3,?_⟩
    ·rw[hr,We]
     simp only[IG,bn,iE,bF,aw,aF,av,ah,Nat.reduceEqDiff,reduceCtorEq,iz,ed,ec,lC,lp,jk,jj,u5,lA,iB,lU,hx,hg,hla,e0,aX,dX,qE,c1,qf];exact j7 (K:=st.next+1) (bX:=1) (by simp only[aE,Nat.reduceEqDiff,reduceCtorEq]) (by rw[Ev.aK,bJ rfl])
    ·rw[Ev.aK,ba (by omega),c2.same j (by show j<st.next+2; omega),Rw st n a hj]
    ·rw[c4]
     show eL bs[k]=((bs[k]?).map eL).getD 1
     rw[XH]; rfl
  cases h with
  |@az n kR =>
   obtain⟨n0,h0⟩:=leaf n .az kR mf;exact⟨n0,h0⟩
  |@sl n es t kR nE jv =>
   cases es with
   |nil =>
    obtain⟨n0,h0⟩:=leaf n (.sl 2 [] t) kR rfl;exact⟨n0,h0⟩
   |cons e es =>
    obtain⟨n0,h0⟩:=xE (l:=e::es) (Q:=fun v ag d=>∀ st,∃ r ae,ao eE ag d 320 [v,nm,Bp] st=some (r,ae)/\fz st ae/\nV r/\eL r=uW (fun n=>(hit L bs n).map eL) f v) fun x hx=>ih x (jv x hx) (by
     have:=Hc hx;simp only[eL] at hn;have e1:dJ [AV.str n,AV.sl 2 (e::es) t]=dJ (e::es):=by simp[dJ,eL]
     rw[e1] at hn;omega)
    refine⟨n0+L.length+20,fun ag d hl hd st=>?_⟩
    obtain⟨d,rfl⟩:∃ j,d=j+2:=⟨d-2,by omega⟩
    have hx:=fun st=>oG AZ hL n ag d (by omega) st
    have iB:=oB (rm st n (.sl 2 (e::es) t));have lU:=iM (rm st n (.sl 2 (e::es) t));have w9:=iM (rr st n (.sl 2 (e::es) t));have hl4:=oB (rr st n (.sl 2 (e::es) t));have go:∀ (F:RF) (tm:Tr AV),tm.get 32=some (.sl 2 (e::es) t)->tm.get 33=some (.int .i64 (.ofNat (e::es).length))->tm.get 34=some (.int .i64 0)->tm.get 8=some (.ptr (st.next+2) 0)->tm.get 6=some (.ptr (st.next+1) 0)->tm.get 1=some nm->tm.get 2=some Bp->(∀ (ay:Tr AV) l5 o' iJ,ay.get 6=some (.ptr (st.next+1) 0)->ay.get 8=some (.ptr (st.next+2) 0)->l5.heap.get (st.next+2)=some (.box iJ [.str n,o'])->cZ l5 2 (.ptr (st.next+1) 0) (.agg [.str n,o'])=some (gg,l5.put (st.next+1) (.box 1 [.str n,o']))->bg [.cell 6 2 true] (F ay l5)=some (.agg [.str n,o'],l5.put (st.next+1) (.box 1 [.str n,o']))) ->
      ∃ r ae,bg [.cell 6 2 true] (R.andThen (R.block 0 (aY (ak (ao eE ag (d+1)) ag wj) ag tm (three st n (.sl 2 (e::es) t)))) F)=some (r,ae)/\fz st ae/\nV r/\eL r=((e::es).map (uW (fun n=>(hit L bs n).map eL) f)).sum+1:=by
     intro F tm g1 g2 g3 g4 g5 g6 g7 hF;obtain⟨x,cB,l5,q1,rfl,q2,q3,q4,q5,yi,o',iJ,q6,q7,q8⟩:=bq (Ju (call:=ao eE ag (d+1)) (ag:=ag) (es:=e::es) (t:=t) (n:=n) (P:=fun v r=>nV r/\eL r=uW (fun n=>(hit L bs n).map eL) f v) (K:=st.next+2) (base:=st.next+3) (nm:=nm) (Bp:=Bp) (by omega) (by omega) jv (fun v hv s=>by
      obtain⟨r,s',p1,p2,p3,p4⟩:=h0 v hv ag (d+1) (by omega) (by omega) s
      obtain⟨a,b,hf⟩:=p3.form;exact⟨r,s',p1,p2,⟨p3,p4⟩,_,_,hf⟩) (e::es) 0 ag tm (three st n (.sl 2 (e::es) t)) [] .az 1 rfl (by omega) (by omega) (by simp) (dN _) (pc st n (.sl 2 (e::es) t)) (.inl ⟨rfl,rfl⟩) g1 g2 g3 g4 g6 g7)
     obtain⟨k1,k2,k3,k4⟩:=sn kR nE q2 q3 q6 q7 q8;refine⟨_,_,?_,k2,k3,k4⟩
     rw[q1,bT,cT];exact hF cB l5 o' iJ (q4.trans g5) q5 q6 k1
    have hlc:Nat.beq (e::es).length 0=false:=rfl;show ∃ r ae,_/\_/\_/\eL r=((e::es).map (uW (fun n=>(hit L bs n).map eL) f)).sum+1
    rw[We];rcases vy L n 0 with hi |⟨k,hi,hk⟩
    ·rw[hi] at hx
     simp only[IG,bn,iE,bF,aw,aF,av,ah,Nat.reduceEqDiff,reduceCtorEq,iz,ed,ec,lC,lp,jk,jj,u5,lA,iB,lU,hx,Tx,xL,rl,je,w9,ie];refine go _ _ ?_ ?_ ?_ ?_ ?_ ?_ ?_ fun ay l5 o' iJ h2 h3 h4 h5=>?_
     ·simp only[aE,Nat.reduceEqDiff,reduceCtorEq]
     ·simp only[aE,Nat.reduceEqDiff,reduceCtorEq]
     ·simp only[aE,Nat.reduceEqDiff,reduceCtorEq]
     ·simp only[aE,Nat.reduceEqDiff,reduceCtorEq]
     ·simp only[aE,Nat.reduceEqDiff,reduceCtorEq]
     ·simp only[aE,Nat.reduceEqDiff,reduceCtorEq,ed]
     ·simp only[aE,Nat.reduceEqDiff,reduceCtorEq,ec]
     ·have w9:=oC h4
      simp only[iE,bF,aw,aF,av,ah,Nat.reduceEqDiff,reduceCtorEq,h2,h3,w9,h5];exact j7 (K:=st.next+1) (bX:=1) (by simp only[aE,Nat.reduceEqDiff,reduceCtorEq,h2]) (by rw[Ev.aK,bJ rfl])
    ·rw[kT] at hi
     rw[hi] at hx;have hg:=Ty k;simp only[IG,bn,iE,bF,aw,aF,av,ah,Nat.reduceEqDiff,reduceCtorEq,iz,ed,ec,lC,lp,jk,jj,u5,lA,iB,lU,hx,hg,Vc,hlc,xL,rl,je,w9,ie];refine go _ _ ?_ ?_ ?_ ?_ ?_ ?_ ?_ fun ay l5 o' iJ h2 h3 h4 h5=>?_
     ·simp only[aE,Nat.reduceEqDiff,reduceCtorEq]
     ·simp only[aE,Nat.reduceEqDiff,reduceCtorEq]
     ·simp only[aE,Nat.reduceEqDiff,reduceCtorEq]
     ·simp only[aE,Nat.reduceEqDiff,reduceCtorEq]
     ·simp only[aE,Nat.reduceEqDiff,reduceCtorEq]
     ·simp only[aE,Nat.reduceEqDiff,reduceCtorEq,ed]
     ·simp only[aE,Nat.reduceEqDiff,reduceCtorEq,ec]
     ·have w9:=oC h4
      simp only[iE,bF,aw,aF,av,ah,Nat.reduceEqDiff,reduceCtorEq,h2,h3,w9,h5];exact j7 (K:=st.next+1) (bX:=1) (by simp only[aE,Nat.reduceEqDiff,reduceCtorEq,h2]) (by rw[Ev.aK,bJ rfl])
end
end Go.Proofs.YthlkmffimhnehaaGreat
namespace Go.Proofs.YthlkmffimhnehaaGreat
open Go Go.Ev Go.Ab Go.Pk
noncomputable section
set_option maxRecDepth 100000
set_option maxHeartbeats 2000000
def wg:XC:=(.seq (.seq (.aQ
 [aA 11 5,
  aA 12 0,
  aC 13 (.kA (.t 12)),
  aC 14 (.bin .lss .int (.t 11) (.t 13))]) (.cond (.t 14) .skip (.exit 0))) (.seq (.block 1 (.seq (.nL []
 [aA 17 0,
  aA 18 5,
  aC 19 (.gE 3 (.t 17) (.t 18)),
  om 20 (.load 3 true (.t 19)),
  aA 21 1,
  aA 22 5,
  aC 23 (.gE 3 (.t 21) (.t 22)),
  om 24 (.load 3 true (.t 23)),
  aC 25 (.bin .neq (.struct [(.int .i64 0),(.str []),(.int .i64 0)]) (.t 20) (.t 24))] []) (.cond (.t 25) (.seq (.aQ
 [aC 4 (.move (.c (.bool false)))]) .ret) .skip))) (.aQ
 [aA 15 5,
  aC 16 (.bin .add .int (.t 15) (.c (.int .i64 1))),
  aA 5 16])))
def y19:XC:=(.seq (.aQ
 [aC 4 (.move (.c (.bool false)))]) (.seq (.seq (.aQ
 [aA 6 0,
  aC 7 (.kA (.t 6)),
  aA 8 1,
  aC 9 (.kA (.t 8)),
  aC 10 (.bin .neq .int (.t 7) (.t 9))]) (.cond (.t 10) (.seq (.aQ
 [aC 4 (.move (.c (.bool false)))]) .ret) .skip)) (.seq (.seq (.aQ
 [aC 5 (.move (.c (.int .i64 0)))]) (.block 0 (.loop wg))) (.seq (.aQ
 [aC 4 (.move (.c (.bool true)))]) .ret))))
def y10:XC:=(.seq (.aQ
 [aC 2 (.move (.c (.bool false)))]) (.seq (.aQ
 [aA 3 0,
  aC 4 (.kA (.t 3)),
  aC 5 (.bin .leq .int (.t 4) (.c (.int .i64 700))),
  aA 2 5]) .ret))
def y12:XC:=(.seq (.aQ
 [aC 2 (.move (.c .iL))]) (.seq (.aQ
 [aA 3 0,
  aC 4 (.build [.az,(.int .i64 0)] [(0,1,(.t 3))]),
  fL 5 (.box 2 (.t 4)),
  aA 2 5]) .ret))
def Fa:XC:=(.seq (.aQ
 [aC 45 (.bin .lss .int (.t 44) (.t 43))]) (.seq (.cond (.t 45) .skip (.exit 0)) (.seq (.block 1 (.seq (.aQ
 [aC 46 (.gE 1 (.t 42) (.t 44)),
  om 47 (.load 1 false (.t 46)),
  aA 9 47]) (.seq (.aQ
 [aA 49 9,
  fL 50 (.call (.c (.fn 17 [] [])) [(.t 49)]),
  aA 48 50,
  aC 51 (.ext (.t 48) 0),
  aC 52 (.ext (.t 48) 1),
  aC 53 (.ext (.t 48) 2),
  aA 10 51,
  aA 11 52,
  aA 12 53]) (.seq (.aQ
 [aA 55 9,
  fL 56 (.call (.c (.fn 18 [] [])) [(.t 55)]),
  aA 54 56,
  aC 57 (.ext (.t 54) 0),
  aC 58 (.ext (.t 54) 1),
  aC 59 (.ext (.t 54) 2),
  aA 13 57,
  aA 14 58,
  aA 15 59]) (.seq (.aQ
 [aA 60 12,
  aA 61 15,
  aC 62 (.bin .neq .int (.t 60) (.t 61)),
  aA 63 62,
  bW 64 63 false (.move (.t 11)),
  bW 65 63 false (.move (.t 14)),
  bW 66 63 false (.bin .neq .int (.t 64) (.t 65)),
  aC 67 (.pick (.t 63) (.c (.bool true)) (.t 66)),
  aA 68 67,
  bW 69 68 false (.move (.t 10)),
  bW 70 68 false (.move (.t 13)),
  ⟨some 71,some (68,false),(.e (.call (.c (.fn 19 [] [])) [(.t 69),(.t 70)]))⟩,
  bW 72 68 false (.not (.t 71)),
  aC 73 (.pick (.t 68) (.c (.bool true)) (.t 72))]) (.cond (.t 73) (.seq (.aQ
 [aC 4 (.move (.c (.bool false)))]) .ret) .skip)))))) (.aQ
 [aC 74 (.bin .add .int (.t 44) (.c (.int .i64 1))),
  aA 44 74]))))
def UK:XC:=(.aQ
 [aC 4 (.move (.c (.bool false)))])
def Hl:XC:=(.seq (.aQ
 [aA 16 0,
  aC 17 (.lens (.t 16)),
  aC 18 (.bin .gtr .int (.t 17) (.c (.int .i64 20000))),
  aA 19 18,
  bW 20 19 false (.move (.t 1)),
  ⟨some 21,some (19,false),(.e (.call (.c (.fn 10 [] [])) [(.t 20)]))⟩,
  bW 22 19 false (.not (.t 21)),
  aC 23 (.pick (.t 19) (.c (.bool true)) (.t 22))]) (.cond (.t 23) (.seq (.aQ
 [fL 24 (.call (.c (.fn 11 [] [])) []),
  aA 4 24]) .ret) .skip))
def UJ:XC:=(.aQ
 [aA 25 1,
  fL 26 (.call (.c (.fn 12 [] [])) [(.t 25)]),
  aA 5 26])
def NK:List XR:=[aA 28 5]
def Hk:List XR:=[aA 27 29,
 aC 30 (.ext (.t 27) 0),
 aC 31 (.ext (.t 27) 1),
 aA 6 30,
 aA 7 31]
def NL:XC:=(.seq (.seq (.aQ
 [aA 32 0,
  aA 33 5,
  fL 34 (.call (.c (.fn 14 [] [])) [(.t 33),(.c (.int .i64 40))]),
  aA 35 5,
  aA 36 6,
  aA 37 5,
  fL 38 (.call (.c (.fn 16 [] [])) [(.t 37),(.c (.int .i64 3))]),
  aC 39 (.gE 1 (.t 36) (.t 38)),
  om 40 (.load 1 false (.t 39)),
  fL 41 (.call (.c (.fn 15 [] [])) [(.t 35),(.t 40)]),
  aC 42 (.fv 1 [(.str []),(.str []),(.str [])] [(0,(.t 32)),(1,(.t 34)),(2,(.t 41))]),
  aC 43 (.kA (.t 42)),
  aC 44 (.move (.c (.int .i64 0)))]) (.block 0 (.loop Fa))) (.seq (.aQ
 [fL 75 (.call (.c (.fn 11 [] [])) []),
  aA 4 75]) .ret))
def s3:SC:=.seq (.x UK) (.seq (.x Hl) (.seq (.x UJ) (.seq (.call NK (some 29) 13 [.t 28] Hk) (.x NL))))
theorem s19 (ag d:Nat) (args:List AV) (st:St):ao eE ag (d+1) 19 args st=bg [.t 4] (ak (ao eE ag d) ag y19 (bb args 0 .nil) st):=bp Tryz.func19 (by decide) (x:=⟨y19,[.t 4]⟩) (by kernel_rfl) rfl ag d args st
theorem s10 (ag d:Nat) (args:List AV) (st:St):ao eE ag (d+1) 10 args st=bg [.t 2] (ak (ao eE ag d) ag y10 (bb args 0 .nil) st):=bp Tryz.func10 (by decide) (x:=⟨y10,[.t 2]⟩) (by kernel_rfl) rfl ag d args st
theorem s12 (ag d:Nat) (args:List AV) (st:St):ao eE ag (d+1) 12 args st=bg [.t 2] (ak (ao eE ag d) ag y12 (bb args 0 .nil) st):=bp Tryz.func12 (by decide) (x:=⟨y12,[.t 2]⟩) (by kernel_rfl) rfl ag d args st
theorem SD (a b:Nat):bE .leq .int (.int .i64 (.ofNat a)) (.int .i64 (.ofNat b))=some (.bool (decide (a<=b))):=by
 show some (AV.bool (decide ((a:Int)<=(b:Int))))=_
 rw[show decide ((a:Int)<=(b:Int))=decide (a<=b) from by simp]
theorem WL (a:Nat):bE .leq .int (.int .i64 (.ofNat a)) (.int .i64 700)=some (.bool (decide (a<=700))):=SD a 700
theorem xu (a:Nat):bE .gtr .int (.int .i64 (.ofNat a)) (.int .i64 20000)=some (.bool (decide (20000<a))):=mS a 20000
theorem E7 {v:AV} {n:Nat} (h:jI v=some (.int .i64 (.ofNat n))) (ag d:Nat) (st:St):ao eE ag (d+1) 10 [v] st=some (.bool (decide (n<=700)),st):=by
 rw[s10];simp only[y10,iE,bF,aw,aF,av,ah,Nat.reduceEqDiff,reduceCtorEq,bz,h,WL];exact b9 2 (by simp only[aE,Nat.reduceEqDiff,reduceCtorEq])
def Vg (v:AV):Option AV:=D8 (Bool.rec (motive:=fun _=>Option (List AV)) none (some (aZ [.az,(.int .i64 0)] 0 v.cells)) (Nat.beq v.cells.length 1))
theorem TX {tm:Tr AV} (x:XO):mw tm (.build [.az,(.int .i64 0)] [(0,1,x)])=Vg (aD tm x):=rfl
def IsL (v:AV):Prop:=v = .az\/∃ es t,v = .sl 1 es t
theorem PL {v:AV} (h:IsL v):Vg v=some (.agg [v,.int .i64 0]):=by
 rcases h with rfl |⟨es,t,rfl⟩<;>rfl
theorem AQ {v:AV} (h:IsL v):jI v=some (.int .i64 (.ofNat (bB v))):=by
 rcases h with rfl |⟨es,t,rfl⟩<;>rfl
theorem Js {v:AV} (h:IsL v) (ag d:Nat) (st:St):ao eE ag (d+1) 12 [v] st=some (.ptr st.next 0,st.new (.box 0 [v,.int .i64 0])):=by
 rw[s12];have hb:=PL h;simp only[y12,iE,bF,aw,aF,av,ah,Nat.reduceEqDiff,reduceCtorEq,bz,TX,hb,Gb];exact b9 2 (by simp only[aE,Nat.reduceEqDiff,reduceCtorEq])
theorem WH {H:Tr Ev.dR} (a b c:AV) (h:Option (Nat × Nat)):fH H 3 true (.ro [a,b,c] 0 h)=some (.agg [a,b,c]):=rfl
theorem WT {es:List AV} {t:lV} {n:Nat} {v:AV} (h:nth es n=some v):gQ 3 (.sl 3 es t) (some n)=some (.ro v.cells 0 (kE t ((es.length-n)*3))):=by
 show(match Nat.beq 3 3 with |true=>(match nth es n with |some v=>some (AV.ro v.cells 0 (kE t ((es.length-n)*3))) |none=>none) |false=>none:Option AV)=_
 rw[h]
theorem LY (K n:Nat) (w:List UInt8):bE .neq (.struct [(.int .i64 0),(.str []),(.int .i64 0)]) (jA K n w) (jA K n w)=some (.bool false):=by
 have h1:cE (.ofNat K) (.ofNat K)=true:=fV K;have h2:cE (.ofNat n) (.ofNat n)=true:=fV n;have h3:mW w w=true:=by rw[lL]; exact fM rfl
 have h4:D7 (.struct [(.int .i64 0),(.str []),(.int .i64 0)]) (jA K n w) (jA K n w)=some true:=by
  unfold jA;simp only[D7,AV.cells,pI,PA,h1,h2,h3]
  rfl
 show(match D7 (.struct [(.int .i64 0),(.str []),(.int .i64 0)]) (jA K n w) (jA K n w) with |some b=>some (AV.bool (!b)) |none=>none)=_
 rw[h4]
 rfl
theorem Jp {call:Ev.e8} {ag:Nat} {st:St} {es:List AV} {t:lV} (tJ:es.length<10000) (jv:∀ e∈es,yb e) :
  ∀ (l:List AV) (i m:Nat) (tm:Tr AV),es.drop i=l->i<=es.length->l.length<m->tm.get 0=some (.sl 3 es t)->tm.get 1=some (.sl 3 es t)->tm.get 5=some (.int .i64 (.ofNat i)) ->
  ah (aY (ak call ag wg) m tm st) fun e ay ae=>e = .exit 0/\ae=st:=by
 intro l
 induction l with
 |nil =>
  intro i m tm hl hi hm h0 h1 h5;obtain⟨m,rfl⟩:∃ k,m=k+1:=⟨m-1,by simp at hm; omega⟩
  have Xi:i=es.length:=by have:=congrArg List.length hl; simp at this; omega
  have aO:decide (i<es.length)=false:=nM (by omega)
  simp only[ax,wg,iE,bF,aw,aF,av,ah,Nat.reduceEqDiff,reduceCtorEq,h0,h1,h5,ie,aI,aO];exact⟨trivial,trivial⟩
 |cons s l ih =>
  intro i m tm hl hi hm h0 h1 h5;obtain⟨m,rfl⟩:∃ k,m=k+1:=⟨m-1,by simp at hm; omega⟩
  obtain⟨hn,dt,jm,cn⟩:=mq hl;have aO:decide (i<es.length)=true:=fM dt;have dw:=add_one (n:=i) (by omega)
  obtain⟨K,n,w,rfl,_⟩:=jv _ cn;have dX:=WT (t:=t) hn;have hsm:=LY K n w;have more:∀ cB:Tr AV,cB.get 0=some (.sl 3 es t)->cB.get 1=some (.sl 3 es t)->cB.get 5=some (.int .i64 (.ofNat (i+1)))->ah (aY (ak call ag wg) m cB st) fun e ay ae=>e = .exit 0/\ae=st:=fun cB q0 q1 q5=>ih (i+1) m cB jm (by omega) (by simp at hm; omega) q0 q1 q5
  unfold jA at dX hsm;simp only[AV.cells] at dX;simp only[ax,wg,iE,bF,aw,aF,av,ah,Nat.reduceEqDiff,reduceCtorEq,h0,h1,h5,ie,aI,aX,aO,dw,dX,WH,hsm];refine more _ ?_ ?_ ?_
  ·simp only[aE,Nat.reduceEqDiff,reduceCtorEq,h0]
  ·simp only[aE,Nat.reduceEqDiff,reduceCtorEq,h1]
  ·simp only[aE,Nat.reduceEqDiff,reduceCtorEq]
theorem Jq {r:List AV} (hr:r.length<=6000) (jv:∀ e∈r,yb e) (ag d:Nat) (hl:6001<=ag) (st:St):ao eE ag (d+1) 19 [nP r,nP r] st=some (.bool true,st):=by
 rw[s19];cases r with
 |nil =>
  obtain⟨ag,rfl⟩:∃ j,ag=j+1:=⟨ag-1,by omega⟩
  have l0:bE .lss .int (.int .i64 0) (.int .i64 0)=some (.bool false):=rfl;have n0:bE .neq .int (.int .i64 0) (.int .i64 0)=some (.bool false):=rfl;simp only[nP,y19,wg,bn,ax,bT,iE,bF,aw,aF,av,ah,Nat.reduceEqDiff,reduceCtorEq,bx,bu,mf,l0,n0];exact b9 4 (by simp only[aE,Nat.reduceEqDiff,reduceCtorEq])
 |cons a l =>
  have hb:=fV (a::l).length;have go:∀ (F:RF) (tm:Tr AV),tm.get 0=some (.sl 3 (a::l) .dead)->tm.get 1=some (.sl 3 (a::l) .dead)->tm.get 5=some (.int .i64 0)->(∀ ay:Tr AV,bg [.t 4] (F ay st)=some (.bool true,st))->bg [.t 4] (R.andThen (R.block 0 (aY (ak (ao eE ag d) ag wg) ag tm st)) F)=some (.bool true,st):=by
   intro F tm h0 h1 h5 hF;obtain⟨e,ay,ae,q1,rfl,rfl⟩:=bq (Jp (call:=ao eE ag d) (ag:=ag) (st:=st) (t:=.dead) (by simp at hr ⊢; omega) jv (a::l) 0 ag tm rfl (by omega) (by omega) h0 h1 h5)
   rw[q1,bT,cT];exact hF ay
  simp only[nP,y19,bn,iE,bF,aw,aF,av,ah,Nat.reduceEqDiff,reduceCtorEq,bx,bu,ie,vu,hb];refine go _ _ ?_ ?_ ?_ fun ay=>?_
  ·simp only[aE,Nat.reduceEqDiff,reduceCtorEq,bx]
  ·simp only[aE,Nat.reduceEqDiff,reduceCtorEq,bu]
  ·simp only[aE,Nat.reduceEqDiff,reduceCtorEq]
  ·simp only[iE,bF,aw,aF,av,ah,Nat.reduceEqDiff,reduceCtorEq]
   exact b9 4 (by simp only[aE,Nat.reduceEqDiff,reduceCtorEq])
end
end Go.Proofs.YthlkmffimhnehaaGreat
