/- Parts of the proof; no condition. -/
import Derived.Test.YthlkmffimhnehaaGreatZac
import Derived.Laws.Sem
import Derived.Test.YthlkmffimhnehaaGreatZab
set_option linter.unusedSimpArgs false
set_option linter.unusedVariables false
namespace Go.Ev
open Go.RowKit
section
variable {P : Program} {T : Nat → Option TI} {base : Nat} {g : G} {st : St} {w : World} {tm : Tr AV} {n : Nat} {a : Act}
def qv (tmps:Array Value):ResultVar->Sem Value
 | .tmp t=>pure (tmps.getD t undef)
 | .cell a t=>do loadVar t (<-asAddr (tmps.getD a undef))
def Wf:List Value->Value
 | [v]=>v
 |us=>.tuple us.toArray
theorem uC {fn:Func} {tmps:Array Value} {us:List Value} (h:(fn.results.toList.mapM (qv tmps)).run P w = .ok us w) :
  (results fn tmps).run P w = .ok (Wf us) w:=by
 have e:(fn.results.mapM (qv tmps)).run P w = .ok us.toArray w:=by
  rw[Array.mapM_eq_mapM_toList];simp[h]
 have e2:results fn tmps=(fn.results.mapM (qv tmps)) >>= fun vs=>pure (if h:vs.size=1 then vs[0] else .tuple vs):=rfl
 rw[e2,Sem.run_bind,e]
 match us with
 | []=>rfl
 | [v]=>rfl
 |x::y::l=>simp[Wf]
def RR (T:Nat->Option TI):ResultVar->Option mv
 | .tmp t=>some (.t t)
 | .cell a t=>opt (T t) fun i=>match gG i,Nat.beq i.size 1 with
   |true,_=>some (.cell a i.size true)
   |false,true=>some (.cell a 1 false)
   |false,false=>none
theorem Jt (hT:bD P T) (hS:cM w g n tm a) (hI:Inv base g st w) {r:ResultVar} {x:mv} (hc:RR T r=some x) {v:AV} (hv:l8 tm st x=some v):∃ u,(qv a.tmps r).run P w = .ok u w/\bI w g v u:=by
 cases r with
 |tmp t =>
  injection hc with hc; subst hc
  injection hv with hv; subst hv
  exact⟨a.tmps.getD t undef,by simp[qv],hS.rep t⟩
 |cell c t =>
  obtain⟨i,hi,hc⟩:=au hc;have hx:∃ s,x = .cell c s (gG i)/\(∀ cs off,partOf s (gG i) cs off=partOf i.size (gG i) cs off):=by
   cases ha:gG i with
   |true=>rw[ha] at hc; injection hc with hc; exact⟨_,hc.symm,fun _ _=>rfl⟩
   |false =>
    rw[ha] at hc;cases hb:Nat.beq i.size 1 with
    |true=>rw[hb] at hc; injection hc with hc; exact⟨_,hc.symm,fun cs off=>by rw[mK,mK]⟩
    |false=>rw[hb] at hc; cases hc
  obtain⟨s,rfl,hs⟩:=hx;have hv:(match aD tm (.t c) with
   | .ptr key off=>match cc st.heap key with
    |some cs=>partOf s (gG i) cs off
    |none=>none
   |_=>none)=some v:=hv
  split at hv<;>try cases hv
  rename_i key off he;cases hcs:cc st.heap key with
  |none=>rw[hcs] at hv; cases hv
  |some cs =>
  rw[hcs] at hv;have hv:partOf s (gG i) cs off=some v:=hv;rw[hs] at hv;have h1:=hS.rep c;rw[he] at h1;obtain⟨b,hb,hval⟩:=gV h1;obtain⟨_,vs,h2,h3,h4,_⟩:=Ik hI hcs hb;obtain⟨u,hu,hr⟩:=wM (hT t i hi) h2 h3 hv h4;rw[kT] at hu;refine⟨u,?_,hr⟩
  have hval:a.tmps.getD c undef = .pointer (some ⟨b,off,none⟩):=hval;have hu:(Instr.loadAt t (.pointer (some ⟨b,off,none⟩))).run P w = .ok u w:=hu;simp only[Instr.loadAt,Instr.sureAddr,pure_bind] at hu;simp only[qv,hval,asAddr,pure_bind];exact hu
theorem wi (hT:bD P T) (hS:cM w g n tm a) (hI:Inv base g st w):∀ (l:List ResultVar) (rs:List mv),iy T l=some rs->∀ vs,gu tm st rs=some vs->∃ us,(l.mapM (qv a.tmps)).run P w = .ok us w/\RL w g vs us:=by
 intro l
 induction l with
 |nil =>
  intro rs hc vs hv;injection hc with hc; subst hc
  injection hv with hv; subst hv
  exact⟨[],by simp,.nil⟩
 |cons r l ih =>
  intro rs hc vs hv;have jW:∃ x rest,rs=x::rest/\iy T l=some rest/\RR T r=some x:=by
   cases r with
   |tmp t =>
    unfold iy at hc;obtain⟨rest,h1,hc⟩:=au hc;injection hc with hc
    exact⟨_,rest,hc.symm,h1,rfl⟩
   |cell c t =>
    unfold iy at hc;obtain⟨i,hi,hc⟩:=au hc;obtain⟨rest,h1,hc⟩:=au hc;cases ha:gG i with
    |true =>
     simp only[ha] at hc;injection hc with hc
     exact⟨_,rest,hc.symm,h1,by simp only[RR,opt,hi,ha]⟩
    |false =>
     cases hb:Nat.beq i.size 1 with
     |true =>
      simp only[ha,hb] at hc;injection hc with hc
      exact⟨_,rest,hc.symm,h1,by simp only[RR,opt,hi,ha,hb]⟩
     |false=>simp only[ha,hb] at hc; cases hc
  obtain⟨x,rest,rfl,h1,h2⟩:=jW;unfold gu at hv;split at hv<;>try cases hv
  rename_i v jz h3 h4;obtain⟨u,h5,h6⟩:=Jt hT hS hI h2 h3;obtain⟨us,h7,h8⟩:=ih rest h1 jz h4;refine⟨u::us,?_,.cons _ _ _ _ h6 h8⟩
  simp[List.mapM_cons,h5,h7]
theorem Gz {vs:List AV} {us:List Value} (h:RL w g vs us):bI w g (jJ vs) (Wf us):=by
 match vs,us,h with
 | [],[],_=>exact .cv [] [] .nil
 | [v],[u],.cons _ _ _ _ h _=>exact h
 |x::y::l,u::v::m,h=>exact .cv _ _ h
 | [_],_::_::_,.cons _ _ _ _ _ h=>cases h
 |_::_::_,[_],.cons _ _ _ _ _ h=>cases h
theorem K2:∀ (l:List AV) (m:Nat) (t:Tr AV) (k:Nat),(bb l m t).get k=if m<=k/\k<m+l.length then l[k-m]? else t.get k:=by
 intro l
 induction l with
 |nil =>
  intro m t k;rw[ba (by simp only[Cp]; omega)]; rfl
 |cons v l ih =>
  intro m t k;show(bb l (m+1) (t.set m v)).get k=_
  rw[ih,Tr.cb];simp only[mE]
  by_cases hk:k=m
  ·subst hk
   rw[ba (by omega),bJ rfl,bJ (by omega)]; simp
  ·by_cases hm:m+1<=k/\k<m+1+l.length
   ·rw[bJ hm,bJ (by omega)]
    have:k-m=(k-(m+1))+1:=by omega
    rw[this]; simp
   ·rw[ba hm,ba hk,ba (by omega)]
theorem x7 {args:List AV} {vs:List Value} (h:RL w g args vs) (n:Nat):cM w g n (bb args 0 .nil) {tmps:=vs.toArray++Array.replicate (n-vs.toArray.size) undef,defers:=[] }:=by
 refine⟨rfl,by simp; omega,fun t=>?_⟩
 rw[dC,K2];show bI w g _ ((vs.toArray++Array.replicate (n-vs.toArray.size) undef).getD t undef)
 rw[mD];have hl:=h.length
 by_cases ht:t<args.length
 ·rw[bJ (by omega)]
  obtain⟨v,hv,hr⟩:=h.get (i:=t) (ey ht)
  rw[Array.getElem?_append,bJ (by simp; omega)]
  rw[Nat.sub_zero,ey ht]
  have J4:vs.toArray[t]?=some v:=by simpa using hv
  rw[J4];exact hr
 ·rw[ba (by omega)]
  rw[Array.getElem?_append,ba (by simp; omega)]
  have e:((Array.replicate (n-vs.toArray.size) undef)[t-vs.toArray.size]?).getD undef=undef:=by
   rw[RZ]
   split<;>rfl
  rw[e];exact fC
def nq (P:Program) (base f:Nat) (p:List AV->Option AV):Prop :=
 (∃ fn,P.funcs[f]?=some fn/\fn.body.isNone=false/\(fn.name == "runtime.NumGoroutine")=false) /\
 ∀ args r,p args=some r->∀ st w g vs,RL w g args vs->Inv base g st w->Yields P base f vs r g st w st
structure D2 (P:Program) (T:Nat->Option TI) (base:Nat) (E:Env):Prop where
 fn:∀ f x,E.F.get f=some x->∃ fn kd,P.funcs[f]?=some fn/\mu T kd fn=some x
 AA:∀ f p,E.AA f=some p->nq P base f p
theorem Pa (hT:bD P T) {call:e8} (cL:gA P base call) (hD:D1 P T base call) (ag:Nat) {f:Nat} {fn:Func} {kd:Nat->Nat} {x:XF} (hf:P.funcs[f]?=some fn) (hx:mu T kd fn=some x)
  {args:List AV} {r:AV} {ae:St} (hr:bg x.res (ak call ag x.body (bb args 0 .nil) st)=some (r,ae)) {vs:List Value} (hA:RL w g args vs) (hI:Inv base g st w):Yields P base f vs r g st w ae:=by
 unfold mu at hx;split at hx<;>try cases hx
 rename_i c hb hn;obtain⟨b,h1,hx⟩:=au hx;obtain⟨rs,h2,hx⟩:=au hx;injection hx with hx; subst hx
 have hr:bg rs (ak call ag b (bb args 0 .nil) st)=some (r,ae):=hr;cases hq:ak call ag b (bb args 0 .nil) st with
 |fail=>rw[hq] at hr; cases hr
 |ok e ay bY =>
  rw[hq] at hr;refine calls_of_wp hf hb ?_
  refine HN hT cL hD ag c b h1 _ st e ay bY hq _ w g (x7 hA fn.ntmps) hI _ fun a' w' g' iP p6 D5=>?_
  have fin:∀ jz,gu ay bY rs=some jz->jJ jz=r->bY=ae->a'.defers=[]/\∃ v,(results fn a'.tmps).run P w' = .ok v w'/\(∃ u zl,Ending.returned v = .returned u/\bI w' zl r u/\Inv base zl ae w'/\Ext base g st w zl ae w'):=by
   rintro jz h3 rfl rfl
   obtain⟨us,h4,h5⟩:=wi hT iP p6 _ _ h2 jz h3;exact⟨iP.defers,_,uC h4,_,g',rfl,Gz h5,p6,D5⟩
  cases e with
  |exit i=>cases hr
  |norm =>
   have hr:(match gu ay bY rs with |some vs=>some (jJ vs,bY) |none=>none)=some (r,ae):=hr
   cases h3:gu ay bY rs with
   |none=>rw[h3] at hr; cases hr
   |some jz =>
    rw[h3] at hr;injection hr with hr
    injection hr with h4 h5
    exact fin jz h3 h4 h5
  |ret =>
   have hr:(match gu ay bY rs with |some vs=>some (jJ vs,bY) |none=>none)=some (r,ae):=hr
   cases h3:gu ay bY rs with
   |none=>rw[h3] at hr; cases hr
   |some jz =>
    rw[h3] at hr;injection hr with hr
    injection hr with h4 h5
    exact fin jz h3 h4 h5
theorem DJ (hT:bD P T) {E:Env} (hE:D2 P T base E) (hD:∀ call,gA P base call->nI call->D1 P T base call) (ag:Nat):∀ d,gA P base (ao E ag d):=by
 intro d
 induction d with
 |zero=>intro f args st r ae h; cases h
 |succ d ih =>
  intro f args st r ae h;have h:oX E ag (ao E ag d) f args st=some (r,ae):=h;unfold oX at h;split at h
  ·rename_i r1 Lj
   injection h with h
   injection h with h1 h2
   subst h1 h2;unfold uE at Lj;split at Lj
   ·rename_i p hp
    obtain⟨h2,h3⟩:=hE.AA f p hp;exact⟨h2,fun w g vs hA hI=>h3 args r1 Lj _ w g vs hA hI⟩
   ·cases Lj
  split at h
  ·rename_i x hx
   obtain⟨fn,kd,hf,hc⟩:=hE.fn f x hx;refine⟨?_,fun w g vs hA hI=>Pa hT ih (hD _ ih (Bo E ag d)) ag hf hc h hA hI⟩
   unfold mu at hc;split at hc<;>try cases hc
   rename_i c hb hn;exact⟨fn,hf,by rw[hb]; rfl,hn⟩
  ·cases h
theorem Inv.start (w:World):Inv w.heap.size ⟨fun _=>none,fun _=>none,fun _ _=>False,fun _ _=>False,0⟩ ⟨.nil,0⟩ w :=
 ⟨dN _,fun k e h=>(by cases h),fun k b h=>(by cases h),fun k b s e h=>(by cases h),fun b i h=>h.elim,fun k e b h=>(by cases h),fun id b s e h=>(by cases h),fun k b i _ h=>(by cases h),fun k j b _ _ h=>(by cases h),fun k id b s e _ _ h=>(by cases h),fun i j b s e s' e' h=>(by cases h),⟨fun _ _ h=>h.elim,fun _ _ _ h=>h.elim,fun _ _ h=>h.elim,tc _,fun _ _ h=>h.elim,fun _ _ _ h=>h.elim⟩⟩
end
end Go.Ev
namespace Go.Ev
open Go.RowKit
section
variable {P : Program} {T : Nat → Option TI} {base : Nat}
theorem Qq {o:Oper} {a:Nat} {s:Operand} {u t tu:Nat} (h:DQ o=some (a,s,u,t,tu)):∃ c:Call,o.dst=some a/\o.guard=none/\o.op = .call c/\c.callee = .builtin .append/\c.args.toList=[s,.tmp u]/\c.argTypes.toList=[t,tu]:=by
 unfold DQ at h;split at h<;>try cases h
 rename_i a' c h1 h2 h3;split at h<;>cases h
 rename_i h4 h5 h6;exact⟨c,h1,h2,h3,h4,h5,h6⟩
theorem N7 {o:Oper} {b t a q:Nat} (h:idxOf o=some (b,t,a,q)):o.dst=some b/\o.guard=none/\o.op = .indexAddr t (.tmp a) (.tmp q):=by
 unfold idxOf at h;split at h<;>cases h
 rename_i h1 h2 h3;exact⟨h2,h1,h3⟩
theorem Md {o:Oper} {et b:Nat} {v:Operand} (h:B3 o=some (et,b,v)):o.dst=none/\o.guard=none/\o.op = .store et (.tmp b) v:=by
 unfold B3 at h;split at h<;>cases h
 rename_i h1 h2 h3;exact⟨h1,h2,h3⟩
theorem fB {α:Type} (y:α):∀ (l:List α) (k:Nat),(setAt l k y).length=l.length:=by
 intro l
 induction l with
 |nil=>intro k; rfl
 |cons x l ih =>
  intro k;cases k with
  |zero=>rfl
  |succ k=>simp[setAt,ih]
theorem s8 {α:Type} (y:α):∀ (l:List α) (k i:Nat),k<l.length->(setAt l k y)[i]?=if i=k then some y else l[i]?:=by
 intro l
 induction l with
 |nil=>intro k i h; cases h
 |cons x l ih =>
  intro k i h;cases k with
  |zero=>cases i<;>simp[setAt]
  |succ k =>
   cases i with
   |zero=>simp[setAt]
   |succ i =>
    simp only[setAt,List.getElem?_cons_succ]
    rw[ih k i (by simpa using h)]
    simp
theorem oS {l:List Oper} {k q:Nat} (h:oT (l.take k) q=true):∃ (j:Nat) (o:Oper),j<k/\l[j]?=some o/\o.dst=some q:=by
 unfold oT at h;obtain⟨o,ho,hd⟩:=List.any_eq_true.1 h;obtain⟨j,hj⟩:=MV ho
 rw[pS] at hj
 split at hj
 ·rename_i aO
  refine⟨j,o,aO,hj,?_⟩
  unfold rA at hd;split at hd
  ·rename_i x y h1 h2
   rw[bo] at hd;have:=jT hd;subst this;rw[h1,<-h2]
  ·cases hd
 ·cases hj
theorem wk (hm:P.follows .mixedOrders=true) (hT:bD P T) {call:e8} (cL:gA P base call) (hV:nI call):D1 P T base call:=by
 intro kd n id ops iH xs hs b7 hc hd tm st ay ae hr a w g hS hI Q hQ;unfold ua at hd;split at hd
 ·rename_i c h
  injection hd with hd
  subst hd;exact RW hm hT cL hV hc h hr hS hI hQ
 ·unfold Ij at hd
  obtain⟨k,_,hd⟩:=au hd;obtain⟨⟨fa,fs,fu,ft,ftu⟩,h1,hd⟩:=au hd;obtain⟨⟨gb,gt,ga,gq⟩,h2,hd⟩:=au hd;obtain⟨⟨het,hb,hv⟩,h3,hd⟩:=au hd;obtain⟨i,h4,hd⟩:=au hd;obtain⟨i2,h5,hd⟩:=au hd;obtain⟨ei,h6,hd⟩:=au hd;obtain⟨sx,h7,hd⟩:=au hd;simp only at h4 h5 h6 h7 hd;cases hv with
  |const _=>cases hd
  |global _=>cases hd
  |func _=>cases hd
  |tmp vt =>
  simp only at hd;split at hd
  ·cases hd
  rename_i qP;have Ln:=hd
  clear hd
  simp only[kQ,bo,pQ] at qP;obtain⟨⟨⟨⟨⟨⟨⟨⟨e1,e2⟩,e3⟩,e4⟩,ep⟩,hdq⟩,hdv⟩,hbef⟩,htl⟩:=qP;subst e1 e2;cases Xc:ops.toList[k]? with
  |none=>rw[Xc] at h1; cases h1
  |some o0 =>
  cases zd:ops.toList[k+1]? with
  |none=>rw[zd] at h2; cases h2
  |some o1 =>
  cases Lk:ops.toList[k+2]? with
  |none=>rw[Lk] at h3; cases h3
  |some o2 =>
  rw[Xc] at h1; rw[zd] at h2; rw[Lk] at h3;obtain⟨c,q1,q2,q3,q4,q5,q6⟩:=Qq (show DQ o0=_ from h1)
  obtain⟨r1,r2,r3⟩:=N7 (show idxOf o1=_ from h2)
  obtain⟨s1,s2,s3⟩:=Md (show B3 o2=_ from h3)
  obtain⟨hlen,hidx⟩:=zE ops.toList iH hc;have BE:k+2<iH.length:=by have:=(fU.1 Lk).1; omega
  have jn:∀ (A B C:XR) (j:Nat),(setAt (setAt (setAt iH k A) (k+1) B) (k+2) C)[j]?=if j=k+2 then some C else if j=k+1 then some B else if j=k then some A else iH[j]?:=by
   intro A B C j;rw[s8 C _ _ _ (by rw[fB,fB]; omega),s8 B _ _ _ (by rw[fB]; omega),s8 A _ _ _ (by omega)]
  refine RT (ks:=some k) (kd:=kd) hm hT cL hV (by rw[fB,fB,fB]; exact hlen) ?_ (fun k' bQ=>?_) Ln hr hS hI hQ (i0:=i) (i2:=i2) (ei:=ei) (sA:=fa) (sB:=gb) (sQ:=gq) (sV:=vt) (sS:=fs) (sU:=fu) (tA:=ft) (tU:=ftu) (tI:=gt) (tE:=het) (sx:=sx)
  ·intro j o ho
   obtain⟨x,hx,g1,g2,g3,g4⟩:=hidx j o ho;rw[jn]
   by_cases j2:j=k+2
   ·subst j2
    rw[bJ rfl];rw[ho] at Lk; injection Lk with Lk; subst Lk
    exact⟨_,rfl,(fun h=>by rcases h k rfl with h |h<;>omega),s1.symm,(fun d h=>by cases h),.inl ⟨s2,rfl⟩⟩
   ·rw[ba j2]
    by_cases j1:j=k+1
    ·subst j1
     rw[bJ rfl];rw[ho] at zd; injection zd with zd; subst zd
     exact⟨_,rfl,(fun h=>by rcases h k rfl with h |h<;>omega),r1.symm,(fun d h=>g3 d (by rw[g2,r1]; exact h)),.inl ⟨r2,rfl⟩⟩
    ·rw[ba j1]
     by_cases j0:j=k
     ·subst j0
      rw[bJ rfl];rw[ho] at Xc; injection Xc with Xc; subst Xc
      exact⟨_,rfl,(fun h=>by rcases h j rfl with h |h<;>omega),q1.symm,(fun d h=>g3 d (by rw[g2,q1]; exact h)),.inl ⟨q2,rfl⟩⟩
     ·rw[ba j0]
      exact⟨x,hx,fun _=>g1,g2,g3,g4⟩
  ·injection bQ with bQ; subst bQ
   refine⟨⟨o0,c,Xc,q1,q2,q3,q4,q5,q6⟩,⟨o1,zd,r1,r2,r3⟩,⟨o2,Lk,s1,s2,s3⟩,?_,?_,?_,h4,h5,h6,e3.symm,e4.symm,ep,h7,oS hdq,oS hdv,fun j hj=>?_,fun j o hj ho=>?_⟩
   ·rw[jn,ba (by omega),ba (by omega),bJ rfl]
   ·rw[jn,ba (by omega),bJ rfl]
   ·rw[jn,bJ rfl]
   ·have:=JA.1 hbef j (tb.2 hj)
    unfold cmp at this;have e1:Nat.max j k=k:=by simp[wu]; omega
    have e2:Nat.min j k=j:=by simp[wq]; omega
    rwa[e1,e2] at this
   ·refine JA.1 htl o ?_
    refine pT (i:=j-(k+3)) ?_
    rw[rJ]
    have:k+3+(j-(k+3))=j:=by omega
    rw[this]; exact ho
end
end Go.Ev
namespace Go.Ev
open Go.RowKit
mutual
def AV.dead:AV->Option AV
 | .bool b=>some (.bool b)
 | .int k n=>some (.int k n)
 | .str s=>some (.str s)
 | .iL=>some .iL
 | .ptr _ _=>none
 | .ro cs o _=>match AV.cQ cs with
  |some l=>some (.ro l o none)
  |none=>none
 | .az=>some .az
 | .sl n es _=>match AV.cQ es with
  |some l=>some (.sl n l .dead)
  |none=>none
 | .ks _ _ _=>none
 | .kU=>some .kU
 | .mp _=>none
 | .kV=>some .kV
 | .fn f a c=>match AV.cQ a,AV.cQ c with
  |some a,some c=>some (.fn f a c)
  |_,_=>none
 | .agg cs=>match AV.cQ cs with
  |some l=>some (.agg l)
  |none=>none
 | .cv cs=>match AV.cQ cs with
  |some l=>some (.cv l)
  |none=>none
 | .any=>some .any
def AV.cQ:List AV->Option (List AV)
 | []=>some []
 |a::l=>match AV.dead a,AV.cQ l with
  |some b,some m=>some (b::m)
  |_,_=>none
end
def G.forget (g g':G):G:=⟨g.key,g.aN,g'.dL,g'.sz,g.kZ⟩
def G.bare (g:G):G:=⟨fun _=>none,fun _=>none,g.dL,g.sz,g.kZ⟩
section
variable {base : Nat} {g g' : G} {st : St} {w w' : World}
theorem Inv.bare (h:Inv base g st w):Inv w.heap.size g.bare ⟨.nil,0⟩ w :=
 ⟨dN _,(fun k e h=>by cases h),(fun k b h=>by cases h),(fun k b s e h=>by cases h),h.eQ,(fun k e b h=>by cases h),(fun id b s e h=>by cases h),(fun k b i h=>by obtain⟨_,h,_⟩:=h; cases h),(fun k j b h=>by obtain⟨_,h,_⟩:=h; cases h),(fun k id b s e h=>by obtain⟨_,h,_⟩:=h; cases h),(fun i j b s e s' e' h=>by cases h),⟨h.gH.lt,h.gH.one,h.gH.own,lS h.gH.kZ h.cf,h.gH.dL,h.gH.Nw⟩⟩
theorem Inv.forget {ae:St} (h:Inv base g st w) (hI:Inv w.heap.size g' ae w') (hE:Ext w.heap.size g.bare ⟨.nil,0⟩ w g' ae w'):Inv base (g.forget g') st w'/\Ext base g st w (g.forget g') st w':=by
 have hle:g.le (g.forget g'):=⟨fun _ _ h=>h,fun _ _ h=>h,fun b i hf=>hE.le.dL b i hf,fun b s hs=>hE.le.sz b s hs,rfl⟩
 have hs:gN g w w':=hE.same;have cJ:w.heap.size<=w'.heap.size:=hE.below.size;have A3:∀ b,b<w.heap.size->w'.heap[b]?=w.heap[b]?:=fun b hb=>hE.below.block b hb
 have hold:∀ b i,b<w.heap.size->g'.dL b i->g.dL b i:=fun b i hb hf=>(hE.Kr b i hf).elim id fun h=>by omega
 refine⟨⟨lS h.cf cJ,h.fl,fun k b hk=>?_,fun k b s e hk=>?_,hI.eQ,fun k e b hk hb=>?_,fun id b s e hid hb=>?_,fun k b i hl hb hf=>?_,h.gv,h.eX,h.gk,⟨hI.gH.lt,hI.gH.one,fun b s hb pE=>by have:=hI.gH.own b s hb pE; rwa[hE.le.kZ] at this,h.gH.kZ,hI.gH.dL,hI.gH.Nw⟩⟩,⟨hle,hs,hE.below.mono h.cf,dN _,fun b i hf=>(hE.Kr b i hf).imp (fun h=>h) (fun h'=>by have:=h.cf; omega),fun _ _ h _ hn=>⟨h,hn⟩⟩⟩
 ·have:=h.cK k b hk; exact⟨this.1,by omega⟩
 ·have:=h.dS k b s e hk; exact⟨this.1,by omega⟩
 ·obtain⟨h1,h2⟩:=h.xI k e b hk hb
  exact⟨h1.mono hs hle (A3 b (h.cK k b hb).2),h2⟩
 ·obtain⟨h1,h2,h3,h4⟩:=h.aN id b s e hid hb
  have aO:=(h.dS id b s e hb).2;exact⟨h1,h2,gB h3 (A3 b aO),fun i hi pF hf=>h4 i hi pF (hold b i aO hf)⟩
 ·exact h.dP k b i hl hb (hold b i (h.cK k b hb).2 hf)
end
section
variable {w : World} {g g2 : G}
theorem Row.dL {b o:Nat} {vs:List Value} (h:Row w g b o vs) (hf:∀ b i,g.dL b i->g2.dL b i):Row w g2 b o vs:=fun i v hv=>⟨hf _ _ (h i v hv).1,(h i v hv).2⟩
theorem iS {a:AV} {l m:List AV} (h:AV.cQ (a::l)=some m):∃ b n,m=b::n/\AV.dead a=some b/\AV.cQ l=some n:=by
 unfold AV.cQ at h;split at h<;>try cases h
 rename_i b n h1 h2;exact⟨b,n,rfl,h1,h2⟩
theorem pM {a b:AV} (h:AV.dead a=some b):AV.cQ [a]=some [b]:=by
 simp[AV.cQ,h]
theorem mZ:∀ {l m:List AV},AV.cQ l=some m->m.length=l.length:=by
 intro l
 induction l with
 |nil=>intro m h; simp[AV.cQ] at h; subst h; rfl
 |cons a l ih =>
  intro m h;obtain⟨b,n,rfl,_,h2⟩:=iS h;simp[ih h2]
theorem Bi:∀ {l m l' m':List AV},AV.cQ l=some l'->AV.cQ m=some m'->AV.cQ (l++m)=some (l'++m'):=by
 intro l
 induction l with
 |nil=>intro m l' m' h k; simp[AV.cQ] at h; subst h; exact k
 |cons a l ih =>
  intro m l' m' h k;obtain⟨b,n,rfl,h1,h2⟩:=iS h;have:=ih h2 k;simp[AV.cQ,h1,this]
theorem AV.xQ {a b:AV} (h:AV.dead a=some b):AV.cQ a.cells=some b.cells:=by
 cases a with
 |agg cs =>
  unfold AV.dead at h;split at h<;>cases h
  assumption
 |cv cs =>
  unfold AV.dead at h;split at h<;>cases h
  rfl
 |any=>unfold AV.dead at h; cases h; rfl
 |sl n es t =>
  have h0:=h;unfold AV.dead at h;split at h<;>cases h
  exact pM h0
 |ro cs o hm =>
  have h0:=h;unfold AV.dead at h;split at h<;>cases h
  exact pM h0
 |fn f x y =>
  have h0:=h;unfold AV.dead at h;split at h<;>cases h
  exact pM h0
 |ptr _ _=>unfold AV.dead at h; cases h
 |ks _ _ _=>unfold AV.dead at h; cases h
 |mp _=>unfold AV.dead at h; cases h
 |_ =>
  have h0:=h;unfold AV.dead at h;cases h;exact pM h0
theorem Ks:∀ {es l:List AV},AV.cQ es=some l->AV.cQ (flat es)=some (flat l):=by
 intro es
 induction es with
 |nil=>intro l h; simp[AV.cQ] at h; subst h; rfl
 |cons a es ih =>
  intro l h;obtain⟨b,n,rfl,h1,h2⟩:=iS h;rw[b8,b8];exact Bi (AV.xQ h1) (ih h2)
theorem PQ {size:Nat}:∀ {es l:List AV},AV.cQ es=some l->(∀ e∈es,e.cells.length=size)->∀ e∈l,e.cells.length=size:=by
 intro es
 induction es with
 |nil=>intro l h _; simp[AV.cQ] at h; subst h; exact fun _ h=>by cases h
 |cons a es ih =>
  intro l h hs;obtain⟨b,n,rfl,h1,h2⟩:=iS h;intro e he;rcases lI.1 he with rfl |he
  ·rw[mZ (AV.xQ h1)]; exact hs a (by simp)
  ·exact ih h2 (fun e he=>hs e (by simp[he])) e he
theorem bI.dead (hf:∀ b i,g.dL b i->g2.dL b i) (hz:∀ b s,g.sz b s->g2.sz b s) {a:AV} {v:Value} (h:bI w g a v):∀ b,AV.dead a=some b->bI w g2 b v :=
 bI.rec (motive_1:=fun a v _=>∀ b,AV.dead a=some b->bI w g2 b v) (motive_2:=fun bh vs _=>∀ bs,AV.cQ bh=some bs->RL w g2 bs vs)
  (fun b c h=>by unfold AV.dead at h; cases h; exact .bool b) (fun k n c h=>by unfold AV.dead at h; cases h; exact .int k n) (fun s c h=>by unfold AV.dead at h; cases h; exact .str s) (fun c h=>by unfold AV.dead at h; cases h; exact .iL)
  (fun key off b _ c h=>by unfold AV.dead at h; cases h)
  (fun cs off hm vs b o _ h2 h3 h4 _ ih c h=>by
   unfold AV.dead at h;split at h<;>cases h
   rename_i l hl;exact .ro l off none vs b o (ih l hl) (h2.dL hf) h3 (by rw[mZ hl]; exact⟨hz _ _ h4.1,h4.2⟩) (fun _ _ h=>by cases h))
  (fun c h=>by unfold AV.dead at h; cases h; exact .az)
  (fun size es t vs b o cap _ h2 h3 h4 h5 h6 h7 ih c h=>by
   unfold AV.dead at h;split at h<;>cases h
   rename_i l hl;have hlen:=mZ hl;rw[<-hlen];exact .sl size l .dead vs b o cap (ih _ (Ks hl)) (h2.dL hf) h3 (PQ hl h4) (by rw[hlen]; exact h5) trivial (h7.imp (fun q=>⟨qz (by rw[hlen,q.1]; rfl),fun _ h=>by cases h⟩) (fun q=>⟨hz _ _ q.1,q.2⟩)))
  (fun key off n b cap _ _ c h=>by unfold AV.dead at h; cases h) (fun c h=>by unfold AV.dead at h; cases h; exact .kU) (fun key b _ c h=>by unfold AV.dead at h; cases h) (fun c h=>by unfold AV.dead at h; cases h; exact .kV)
  (fun f first la u v _ _ i1 i2 c h=>by
   unfold AV.dead at h;split at h<;>cases h
   rename_i a1 c1 e1 e2;exact .fn f a1 c1 u v (i1 _ e1) (i2 _ e2))
  (fun cs vs _ h2 ih c h=>by
   unfold AV.dead at h;split at h<;>cases h
   rename_i l hl;exact .agg l vs (ih l hl) h2)
  (fun cs vs _ ih c h=>by
   unfold AV.dead at h;split at h<;>cases h
   rename_i l hl;exact .cv l vs (ih l hl))
  (fun v c h=>by unfold AV.dead at h; cases h; exact .any v)
  (fun bs h=>by simp[AV.cQ] at h; subst h; exact .nil)
  (fun a v bh vs _ _ i1 i2 bs h=>by
   obtain⟨b,n,rfl,h1,h2⟩:=iS h;exact .cons _ _ _ _ (i1 b h1) (i2 n h2)) h
theorem RL.dead (hf:∀ b i,g.dL b i->g2.dL b i) (hz:∀ b s,g.sz b s->g2.sz b s):∀ {bh:List AV} {vs:List Value},RL w g bh vs->∀ bs,AV.cQ bh=some bs->RL w g2 bs vs:=by
 intro bh
 induction bh with
 |nil=>intro vs h bs hb; cases h; simp[AV.cQ] at hb; subst hb; exact .nil
 |cons a bh ih =>
  intro vs h bs hb;cases h with
  |cons _ v _ vs h1 h2 =>
   obtain⟨b,n,rfl,h3,h4⟩:=iS hb;exact .cons _ _ _ _ (h1.dead hf hz b h3) (ih h2 n h4)
end
section
variable {P : Program} {T : Nat → Option TI}
noncomputable def apart (call:Nat->List AV->St->Option (AV × St)) (f:Nat) (args:List AV):Option AV:=match AV.cQ args with
 |some bh=>match call f bh ⟨.nil,0⟩ with
  |some (r,_)=>AV.dead r
  |none=>none
 |none=>none
theorem Qr {call:e8} (cL:∀ base,gA P base call) {base f:Nat} {args:List AV} {r:AV} (h:apart call f args=some r) {st:St} {w:World} {g:G} {vs:List Value} (hA:RL w g args vs) (hI:Inv base g st w):Yields P base f vs r g st w st:=by
 unfold apart at h;split at h<;>try cases h
 rename_i bs hbs;split at h<;>try cases h
 rename_i r0 V1 hr;have h1:=(cL w.heap.size f bs ⟨.nil,0⟩ r0 V1 hr).2 w g.bare vs (RL.dead (g:=g) (g2:=g.bare) (fun _ _ h=>h) (fun _ _ h=>h) hA bs hbs) hI.bare
 refine h1.mono fun e w' ⟨v,g',h2,h3,h4,h5⟩=>?_
 obtain⟨h6,h7⟩:=hI.forget h4 h5;exact⟨v,g.forget g',h2,bI.dead (g:=g') (g2:=g.forget g') (fun _ _ h=>h) (fun _ _ h=>h) h3 r h,h6,h7⟩
end
end Go.Ev
theorem EO:type_of% @Int.emod_eq_of_lt:=@Int.emod_eq_of_lt
theorem fV:type_of% @Nat.beq_refl:=@Nat.beq_refl
theorem gJ:type_of% @Nat.ble_eq:=@Nat.ble_eq
namespace Go.Ev
noncomputable section
section
variable {call : e8} {ag : Nat} {tm : Tr AV} {st : St}
abbrev aC (d:Nat) (o:XP):XR:=⟨some d,none,.p o⟩
abbrev fL (d:Nat) (o:XE):XR:=⟨some d,none,.e o⟩
abbrev om (d:Nat) (o:XL):XR:=⟨some d,none,.l o⟩
abbrev bW (d g:Nat) (b:Bool) (o:XP):XR:=⟨some d,some (g,b),.p o⟩
abbrev aA (d s:Nat):XR:=⟨some d,none,.p (.move (.t s))⟩
theorem MD:dm call [] tm st=some (tm,st):=rfl
theorem GX (d:Option Nat) (op:Iz) (l:List XR):dm call (⟨d,none,op⟩::l) tm st=qd (dm call l) tm d (mY call st tm op):=rfl
theorem GW (d:Option Nat) (g:Nat) (c:Bool) (op:Iz) (l:List XR):dm call (⟨d,some (g,c),op⟩::l) tm st=p9 call (dm call l) ⟨d,some (g,c),op⟩ tm st (uv c (tm.get g)):=rfl
theorem L5 (ih:Step) (o:XR):p9 call ih o tm st (some true)=qd ih tm o.dst (mY call st tm o.op):=rfl
theorem Uz (ih:Step) (o:XR):p9 call ih o tm st (some false)=ih (eH tm o.dst gg) st:=rfl
theorem Gu (c b:Bool):uv c (some (.bool b))=some (b==c):=rfl
theorem Lx (c:Bool):uv c (some gg)=some false:=rfl
theorem Ha (ih:Step) (d:Option Nat) (v:AV) (ae:St):qd ih tm d (some (v,ae))=ih (eH tm d v) ae:=rfl
theorem GR (d:Nat) (v:AV):eH tm (some d) v=tm.set d v:=rfl
theorem GS (v:AV):eH tm none v=tm:=rfl
theorem dx_p (o:XP):mY call st tm (.p o)=rM st (mw tm o):=rfl
theorem G9 (v:AV):rM st (some v)=some (v,st):=rfl
theorem HZ (x:XO):mw tm (.move x)=some (aD tm x):=rfl
theorem H0 (x:XO):mw tm (.lens x)=ur (aD tm x):=rfl
theorem eM (x:XO):mw tm (.kA x)=jI (aD tm x):=rfl
theorem PJ (op:BinOp) (k:EK) (x y:XO):mw tm (.bin op k x y)=bE op k (aD tm x) (aD tm y):=rfl
theorem PH (x y:XO):mw tm (.tz x y)=BL (aD tm x) (ch (aD tm y)):=rfl
theorem HY (c a b:XO):mw tm (.pick c a b)=aw (aD tm c) (aD tm a) (aD tm b):=rfl
theorem PG (x:XO):mw tm (.not x)=aF (aD tm x):=rfl
theorem fp (x:XO) (i:Nat):mw tm (.ext x i)=sR (aD tm x) i:=rfl
theorem dB (x a b:XO):mw tm (.lZ x (some a) (some b))=kf tm (some a) (some b) (aD tm x):=rfl
theorem su (off:Nat) (x:XO):mw tm (.iq off x)=gR off (aD tm x):=rfl
theorem sq (size:Nat) (x i:XO):mw tm (.gE size x i)=gQ size (aD tm x) (ch (aD tm i)):=rfl
theorem HX (f:Nat) (args:List XO):mY call st tm (.e (.call (.c (.fn f [] [])) args))=call f (nR tm args++[]) st:=rfl
theorem PD (n:Nat) (args:List XO):mY call st tm (.e (.call (.t n) args))=uu call st (aD tm (.t n)) (nR tm args):=rfl
theorem Lv (f:Nat) (args:List AV):uu call st (.fn f [] []) args=call f (args++[]) st:=rfl
theorem eV (cs:List AV):mY call st tm (.e (.alloc cs))=some (.ptr st.next 0,st.new (.box 0 cs)):=rfl
theorem eU (size:Nat) (a x:XO):mY call st tm (.e (.store size a x))=cZ st size (aD tm a) (aD tm x):=rfl
theorem pJ (size:Nat) (agg:Bool) (a:XO):mY call st tm (.l (.load size agg a))=rM st (fH st.heap size agg (aD tm a)):=rfl
theorem gx (size bytes:Nat) (a x:XO):mY call st tm (.e (.app size bytes a x))=sT size bytes st (aD tm a) (aD tm x):=rfl
theorem xF:nR tm []=[]:=rfl
theorem tS (x:XO) (l:List XO):nR tm (x::l)=aD tm x::nR tm l:=rfl
theorem Pr (ops:List XR):ak call ag (.aQ ops) tm st=R.of (dm call ops tm st):=rfl
theorem Dq (ops:List XR):ak call ag (.nL [] ops []) tm st=R.of (dm call ops tm st):=rfl
theorem Pp (a b:XC):ak call ag (.seq a b) tm st=(ak call ag a tm st).andThen (ak call ag b):=rfl
theorem HQ (c:XO) (a b:XC):ak call ag (.cond c a b) tm st=av (aD tm c) (ak call ag a tm st) (ak call ag b tm st):=rfl
theorem Dr (id:Nat) (b:XC):ak call ag (.block id b) tm st=(ak call ag b tm st).block id:=rfl
theorem bn (b:XC):ak call ag (.loop b) tm st=aY (ak call ag b) ag tm st:=rfl
theorem HO:ak call ag .skip tm st = .ok .norm tm st:=rfl
theorem HP (id:Nat):ak call ag (.exit id) tm st = .ok (.exit id) tm st:=rfl
theorem Pq:ak call ag .ret tm st = .ok .ret tm st:=rfl
theorem GZ (p:Tr AV × St):R.of (some p) = .ok .norm p.1 p.2:=rfl
theorem cT (f:RF):R.andThen (.ok .norm tm st) f=f tm st:=rfl
theorem Ir (f:RF) (id:Nat):R.andThen (.ok (.exit id) tm st) f = .ok (.exit id) tm st:=rfl
theorem lP (f:RF):R.andThen (.ok .ret tm st) f = .ok .ret tm st:=rfl
theorem bb1:(true==true)=true:=rfl
theorem bb2:(true==false)=false:=rfl
theorem bb3:(false==true)=false:=rfl
theorem bb4:(false==false)=true:=rfl
theorem sE (id:Nat):R.block id (.ok .norm tm st) = .ok .norm tm st:=rfl
theorem jc (id:Nat):R.block id (.ok .ret tm st) = .ok .ret tm st:=rfl
theorem bT (id:Nat):R.block id (.ok (.exit id) tm st) = .ok .norm tm st:=by
 show(match Nat.beq id id with |true=>R.ok .norm tm st |false=>R.ok (.exit id) tm st)=_
 rw[fV]
theorem ax (f:RF) (n:Nat):aY f (n+1) tm st=(f tm st).andThen (aY f n):=rfl
theorem b9 (k:Nat) {v:AV} (h:tm.get k=some v):bg [.t k] (.ok .ret tm st)=some (v,st):=by
 show some (aD tm (.t k),st)=_
 rw[dC,h]; rfl
theorem xJ (a b:Nat) {x y:AV} (ha:tm.get a=some x) (hb:tm.get b=some y):bg [.t a,.t b] (.ok .ret tm st)=some (.cv [x,y],st):=by
 show some (AV.cv [aD tm (.t a),aD tm (.t b)],st)=_
 rw[dC,dC,ha,hb]; rfl
theorem kH (a b c:Nat) {x y z:AV} (ha:tm.get a=some x) (hb:tm.get b=some y) (hc:tm.get c=some z):bg [.t a,.t b,.t c] (.ok .ret tm st)=some (.cv [x,y,z],st):=by
 show some (AV.cv [aD tm (.t a),aD tm (.t b),aD tm (.t c)],st)=_
 rw[dC,dC,dC,ha,hb,hc]; rfl
end
def ah (r:R) (P:Ex->Tr AV->St->Prop):Prop:=match r with
 | .ok e tm st=>P e tm st
 | .fail=>False
theorem bq {r:R} {P:Ex->Tr AV->St->Prop} (h:ah r P):∃ e tm st,r = .ok e tm st/\P e tm st:=by
 cases r with
 |fail=>exact absurd h id
 |ok e tm st=>exact⟨e,tm,st,rfl,h⟩
theorem tR (a b:AV):sR (.cv [a,b]) 0=some a:=rfl
theorem tQ (a b:AV):sR (.cv [a,b]) 1=some b:=rfl
theorem TJ (a b c:AV):sR (.cv [a,b,c]) 0=some a:=rfl
theorem TH (a b c:AV):sR (.cv [a,b,c]) 1=some b:=rfl
theorem TG (a b c:AV):sR (.cv [a,b,c]) 2=some c:=rfl
theorem bz (a:AV):(bb [a] 0 .nil).get 0=some a:=rfl
theorem bx (a b:AV):(bb [a,b] 0 .nil).get 0=some a:=rfl
theorem bu (a b:AV):(bb [a,b] 0 .nil).get 1=some b:=rfl
theorem iz (a b c:AV):(bb [a,b,c] 0 .nil).get 0=some a:=rfl
theorem ed (a b c:AV):(bb [a,b,c] 0 .nil).get 1=some b:=rfl
theorem ec (a b c:AV):(bb [a,b,c] 0 .nil).get 2=some c:=rfl
theorem Gv {n:Int} (h0:-9223372036854775808<=n) (h1:n<9223372036854775808):IntKind.i64.wrap n=n:=by
 unfold IntKind.wrap;have hb:(2:Int) ^ IntKind.i64.bits=18446744073709551616:=rfl;simp only[hb]
 by_cases h:0<=n
 ·have e:n % 18446744073709551616=n:=EO h (by omega)
  rw[e,ba];simp only[kQ,pQ,not_and];intro _;show ¬ ((9223372036854775808:Int)<=_)
  omega
 ·have e:n % 18446744073709551616=n+18446744073709551616:=by omega
  rw[e,bJ]
  ·omega
  ·simp only[kQ,pQ]
   refine⟨rfl,?_⟩
   show((9223372036854775808:Int)<=_)
   omega
theorem aI (a b:Nat):bE .lss .int (.int .i64 (.ofNat a)) (.int .i64 (.ofNat b))=some (.bool (decide (a<b))):=by
 show some (AV.bool (decide ((a:Int)<(b:Int))))=_
 rw[show decide ((a:Int)<(b:Int))=decide (a<b) from by simp]
theorem mS (a b:Nat):bE .gtr .int (.int .i64 (.ofNat a)) (.int .i64 (.ofNat b))=some (.bool (decide (b<a))):=by
 show some (AV.bool (decide ((a:Int)>(b:Int))))=_
 rw[show decide ((a:Int)>(b:Int))=decide (b<a) from by simp]
theorem vE (a b:Nat):bE .geq .int (.int .i64 (.ofNat a)) (.int .i64 (.ofNat b))=some (.bool (decide (b<=a))):=by
 show some (AV.bool (decide ((a:Int)≥(b:Int))))=_
 rw[show decide ((a:Int)≥(b:Int))=decide (b<=a) from by simp]
theorem Ba (a b:Nat):bE .eql .int (.int .i64 (.ofNat a)) (.int .i64 (.ofNat b))=some (.bool (Nat.beq a b)):=rfl
theorem vu (a b:Nat):bE .neq .int (.int .i64 (.ofNat a)) (.int .i64 (.ofNat b))=some (.bool (!(Nat.beq a b))):=rfl
theorem sH {a b:Nat} (h:a+b<9223372036854775808):bE .add .int (.int .i64 (.ofNat a)) (.int .i64 (.ofNat b))=some (.int .i64 (.ofNat (a+b))):=by
 show some (AV.int .i64 (IntKind.i64.wrap ((a:Int)+b)))=_
 rw[Gv (by omega) (by omega)]; rfl
theorem GK {a b:Nat} (h:b<=a) (ha:a<9223372036854775808):bE .sub .int (.int .i64 (.ofNat a)) (.int .i64 (.ofNat b))=some (.int .i64 (.ofNat (a-b))):=by
 show some (AV.int .i64 (IntKind.i64.wrap ((a:Int)-b)))=_
 rw[Gv (by omega) (by omega),show(a:Int)-b=((a-b:Nat):Int) by omega]; rfl
theorem add_one {n:Nat} (h:n<2000000000):bE .add .int (.int .i64 (.ofNat n)) (.int .i64 1)=some (.int .i64 (.ofNat (n+1))):=sH (b:=1) (by omega)
theorem Iu {n:Nat} (h:n<1000000000):bE .add .int (.int .i64 (.ofNat n)) (.int .i64 2)=some (.int .i64 (.ofNat (n+2))):=sH (b:=2) (by omega)
theorem X2 (a c:Nat):bE .eql .int (.int .u8 (.ofNat a)) (.int .u8 (.ofNat c))=some (.bool (Nat.beq a c)):=rfl
theorem lB (a b:List UInt8):bE .eql .str (.str a) (.str b)=some (.bool (mW a b)):=rfl
theorem aS (s:List UInt8):ur (.str s)=some (.int .i64 (.ofNat s.length)):=rfl
theorem aX (n:Nat):ch (.int .i64 (.ofNat n))=some n:=rfl
theorem gw {s:List UInt8} {n:Nat} {b:UInt8} (h:nth s n=some b):BL (.str s) (some n)=some (.int .u8 (.ofNat b.toNat)):=by unfold BL; simp only[h]
theorem dx {s:List UInt8} {n:Nat} {b:UInt8} {l:List UInt8} (h:s.drop n=b::l):nth s n=some b/\n<s.length/\s.drop (n+1)=l:=by
 have h1:n<s.length:=by
  by_cases e:n<s.length
  ·exact e
  ·rw[M0 (by omega)] at h; cases h
 rw[EU h1] at h;injection h with ha hb
 refine⟨?_,h1,hb⟩
 rw[jC,ey h1,ha]
theorem drop_nil {s:List UInt8} {n:Nat} (h:s.drop n=[]) (hn:n<=s.length):n=s.length:=by
 have:=congrArg List.length h;simp at this;omega
def vT (s:List UInt8):Option Nat->Option Nat->Option AV
 |some l,some h=>match Nat.ble l h&&Nat.ble h s.length with
  |true=>some (.str ((s.take h).drop l))
  |false=>none
 |_,_=>none
theorem cH {tm:Tr AV} (a b:XO) (s:List UInt8):kf tm (some a) (some b) (.str s)=vT s (ch (aD tm a)) (ch (aD tm b)):=by
 unfold kf bounds vT
 dsimp only
 cases ch (aD tm a)<;>cases ch (aD tm b)<;>dsimp only
 rename_i l h;cases Nat.ble l h&&Nat.ble h s.length<;>rfl
theorem vS {s:List UInt8} {l h:Nat} (h1:l<=h) (h2:h<=s.length):vT s (some l) (some h)=some (.str ((s.take h).drop l)):=by
 unfold vT;have e1:Nat.ble l h=true:=by rw[gJ]; exact h1
 have e2:Nat.ble h s.length=true:=by rw[gJ]; exact h2
 simp only[e1,e2,Bool.and_true]
theorem oZ {a b:Nat} (h:Nat.ble a b=false):b<a:=by
 by_cases q:a<=b
 ·rw[<-gJ] at q
  rw[q] at h; cases h
 ·omega
theorem Bb (a b:List UInt8):mW a b=decide (a=b):=by rw[lL]
theorem sZ {st:St} {cs:List AV} (size:Nat) (v:List AV) (h:v.length=size) (h2:cs.length=size):cZ (st.new (.box 0 cs)) size (.ptr st.next 0) (.agg v)=some (gg,(st.new (.box 0 cs)).put st.next (.box 1 (aZ cs 0 v))):=by
 have e:(st.new (.box 0 cs)).heap.get st.next=some (.box 0 cs):=by rw[aJ]; rw[bJ rfl]
 unfold cZ;simp only[e];have e1:Nat.beq (AV.agg v).cells.length size=true:=by show Nat.beq v.length size=true; rw[h,bo]; simp
 have e2:Nat.ble (0+size) cs.length=true:=by rw[gJ]; omega
 simp only[e1,e2,Bool.and_true]
 rfl
theorem lH {st:St} (x y z a b c:AV):cZ (st.new (.box 0 [x,y,z])) 3 (.ptr st.next 0) (.agg [a,b,c])=some (gg,(st.new (.box 0 [x,y,z])).put st.next (.box 1 [a,b,c])):=sZ 3 _ rfl rfl
theorem ND {H:Tr dR} {k v:Nat} {a b c:AV} (h:H.get k=some (.box v [a,b,c])):fH H 3 true (.ptr k 0)=some (.agg [a,b,c]):=by
 unfold fH cc;simp only[h]
 rfl
theorem NC {H:Tr dR} {k v:Nat} {a b c:AV} (h:H.get k=some (.box v [a,b,c])):fH H 1 false (.ptr k 1)=some b:=by
 unfold fH cc;simp only[h]
 rfl
theorem fad1 (k:Nat):gR 1 (.ptr k 0)=some (.ptr k 1):=rfl
theorem bF:type_of% (And.intro (And.intro (And.intro (And.intro (And.intro @Pp (And.intro @Pr @Dq)) (And.intro @MD (And.intro @GX @GW))) (And.intro (And.intro @L5 (And.intro @Uz @Gu)) (And.intro @Lx (And.intro @Ha @GR)))) (And.intro (And.intro (And.intro @GS (And.intro @dx_p @G9)) (And.intro @HZ (And.intro @H0 @PJ))) (And.intro (And.intro @PH (And.intro @HY @PG)) (And.intro @HX (And.intro @xF @tS))))) (And.intro (And.intro (And.intro (And.intro @dC (And.intro @Va @Tr.cb)) (And.intro @List.append_nil.{0} (And.intro @Option.getD_some.{0} @HQ))) (And.intro (And.intro @Dr (And.intro @HO @HP)) (And.intro @Pq (And.intro @GZ @cT)))) (And.intro (And.intro (And.intro @Ir (And.intro @lP @sE)) (And.intro @jc (And.intro @if_true.{1} @if_false.{1}))) (And.intro (And.intro @bb1 (And.intro @bb2 @bb3)) (And.intro @bb4 (And.intro @Bool.not_true @Bool.not_false)))))):=(And.intro (And.intro (And.intro (And.intro (And.intro @Pp (And.intro @Pr @Dq)) (And.intro @MD (And.intro @GX @GW))) (And.intro (And.intro @L5 (And.intro @Uz @Gu)) (And.intro @Lx (And.intro @Ha @GR)))) (And.intro (And.intro (And.intro @GS (And.intro @dx_p @G9)) (And.intro @HZ (And.intro @H0 @PJ))) (And.intro (And.intro @PH (And.intro @HY @PG)) (And.intro @HX (And.intro @xF @tS))))) (And.intro (And.intro (And.intro (And.intro @dC (And.intro @Va @Tr.cb)) (And.intro @List.append_nil.{0} (And.intro @Option.getD_some.{0} @HQ))) (And.intro (And.intro @Dr (And.intro @HO @HP)) (And.intro @Pq (And.intro @GZ @cT)))) (And.intro (And.intro (And.intro @Ir (And.intro @lP @sE)) (And.intro @jc (And.intro @if_true.{1} @if_false.{1}))) (And.intro (And.intro @bb1 (And.intro @bb2 @bb3)) (And.intro @bb4 (And.intro @Bool.not_true @Bool.not_false))))))
theorem aE:type_of% (And.intro @Tr.cb (And.intro @if_true.{1} @if_false.{1})):=(And.intro @Tr.cb (And.intro @if_true.{1} @if_false.{1}))
end
end Go.Ev
theorem nO:type_of% @Bool.or_false:=@Bool.or_false
theorem oo:type_of% @Bool.true_or:=@Bool.true_or
theorem yp:type_of% @List.drop_drop:=@List.drop_drop
theorem fM:type_of% @decide_eq_true:=@decide_eq_true
namespace Go.Ev
noncomputable section
set_option maxRecDepth 100000
def isLet (n:Nat):Bool:=Nat.ble 97 n&&Nat.ble n 122 ||Nat.ble 65 n&&Nat.ble n 90
def cP (n:Nat):Bool:=Nat.ble 48 n&&Nat.ble n 57
def fX (n:Nat):Bool:=isLet n ||cP n
def AS (n:Nat):Bool:=Nat.beq n 32 ||Nat.beq n 9 ||Nat.beq n 10 ||Nat.beq n 13
def dp (n:Nat):Bool:=!(Nat.beq n 10)
def aM (p:Nat->Bool):List UInt8->Nat
 | []=>0
 |b::l=>match p b.toNat with
  |true=>aM p l+1
  |false=>0
def bc:Bool->List UInt8->Nat
 |_,[]=>0
 |true,b::l=>match dp b.toNat with
  |true=>bc true l+1
  |false=>bc false l+1
 |false,b::l=>match AS b.toNat with
  |true=>bc false l+1
  |false=>match Nat.beq b.toNat 35 with
   |true=>bc true l+1
   |false=>0
theorem fT (p:Nat->Bool) (b:UInt8) (l:List UInt8):aM p (b::l)=match p b.toNat with
  |true=>aM p l+1
  |false=>0:=rfl
theorem v7 (b:UInt8) (l:List UInt8):bc true (b::l)=match dp b.toNat with
  |true=>bc true l+1
  |false=>bc false l+1:=rfl
theorem pj (b:UInt8) (l:List UInt8):bc false (b::l)=match AS b.toNat with
  |true=>bc false l+1
  |false=>match Nat.beq b.toNat 35 with
   |true=>bc true l+1
   |false=>0:=rfl
theorem mB (p:Nat->Bool):∀ l:List UInt8,aM p l<=l.length
 | []=>dN _
 |b::l=>by
  have:=mB p l;rw[fT];split<;>simp<;>omega
theorem jf:∀ (c:Bool) (l:List UInt8),bc c l<=l.length
 |true,[]=>dN _
 |false,[]=>dN _
 |true,b::l=>by
  have h1:=jf true l;have h2:=jf false l;rw[v7];split<;>simp<;>omega
 |false,b::l=>by
  have h1:=jf true l;have h2:=jf false l;rw[pj];split
  ·simp; omega
  ·split<;>simp<;>omega
theorem yS:∀ l:List UInt8,bc true l=aM dp l+bc false (l.drop (aM dp l)):=by
 intro l
 induction l with
 |nil=>rfl
 |cons b l ih =>
  rw[v7,fT];cases h:dp b.toNat with
  |true =>
   show bc true l+1=aM dp l+1+bc false (l.drop (aM dp l))
   rw[ih]; omega
  |false =>
   have dc:Nat.beq b.toNat 10=true:=by
    unfold dp at h;cases q:Nat.beq b.toNat 10 with
    |true=>rfl
    |false=>rw[q] at h; cases h
   have e3:AS b.toNat=true:=by unfold AS; rw[dc]; simp
   show bc false l+1=0+bc false (b::l)
   rw[pj,e3,kT]
def MK:XC:=(.seq (.seq (.aQ
 [aA 7 1,
  aA 8 0,
  aC 9 (.lens (.t 8)),
  aC 10 (.bin .lss .int (.t 7) (.t 9)),
  aA 11 10,
  bW 12 11 true (.move (.t 2)),
  bW 13 11 true (.move (.t 0)),
  bW 14 11 true (.move (.t 1)),
  bW 15 11 true (.tz (.t 13) (.t 14)),
  ⟨some 16,some (11,true),(.e (.call (.t 12) [(.t 15)]))⟩,
  aC 17 (.pick (.t 11) (.t 16) (.c (.bool false)))]) (.cond (.t 17) .skip (.exit 0))) (.block 1 (.aQ
 [aA 18 1,
  aC 19 (.bin .add .int (.t 18) (.c (.int .i64 1))),
  aA 1 19])))
def y77:XC:=(.seq (.aQ
 [aC 6 (.move (.c (.int .i64 0)))]) (.seq (.block 0 (.loop MK)) (.seq (.aQ
 [aA 20 1,
  aA 6 20]) .ret)))
def nJ (call:e8) (f:Nat) (p:Nat->Bool):Prop:=∀ (b:UInt8) st,call f [.int .u8 (.ofNat b.toNat)] st=some (.bool (p b.toNat),st)
theorem ME {call:e8} {f:Nat} {p:Nat->Bool} (hc:nJ call f p) {ag:Nat} {st:St} {s:List UInt8} (hs:s.length<1000000):∀ (l:List UInt8) (n m:Nat) (tm:Tr AV),s.drop n=l->n<=s.length->l.length<m->tm.get 0=some (.str s)->tm.get 1=some (.int .i64 (.ofNat n))->tm.get 2=some (.fn f [] []) ->
  ah (aY (ak call ag MK) m tm st) fun e ay ae=>e = .exit 0/\ae=st/\ay.get 1=some (.int .i64 (.ofNat (n+aM p l))):=by
 intro l
 induction l with
 |nil =>
  intro n m tm hl hn hm h0 h1 h2;obtain⟨m,rfl⟩:∃ k,m=k+1:=⟨m-1,by simp at hm; omega⟩
  have aO:decide (n<s.length)=false:=nM (by have:=drop_nil hl hn; omega)
  simp only[ax,MK,bF,aw,aF,av,ah,Nat.reduceEqDiff,reduceCtorEq,h0,h1,h2,aI,aS,aO,aM,pR];exact⟨trivial,trivial,trivial⟩
 |cons b l ih =>
  intro n m tm hl hn hm h0 h1 h2;obtain⟨m,rfl⟩:∃ k,m=k+1:=⟨m-1,by simp at hm; omega⟩
  obtain⟨hb,dt,jm⟩:=dx hl;have aO:decide (n<s.length)=true:=fM dt;have dw:=add_one (n:=n) (by omega)
  have dX:=gw hb;have hf:=hc b st;cases hp:p b.toNat<;>rw[hp] at hf
  all_goals simp only[ax,MK,PD,Lv,bF,aw,aF,av,ah,Nat.reduceEqDiff,reduceCtorEq,h0,h1,h2,aI,aS,aX,aO,dw,dX,hf,hp,aM,pR]
  ·exact⟨trivial,trivial,trivial⟩
  ·refine(show n+(aM p l+1)=n+1+aM p l by omega)▸ih (n+1) m _ jm (by omega) (by simp at hm; omega) ?_ ?_ ?_<;>simp only[aE,Nat.reduceEqDiff,reduceCtorEq,h0,h1,h2]
theorem wh {call:e8} {f:Nat} {p:Nat->Bool} (hc:nJ call f p) {ag:Nat} (st:St) {s:List UInt8} (hs:s.length<1000000) (hl:s.length<ag) {n:Nat} (hn:n<=s.length) :
  bg [.t 6] (ak call ag y77 (bb [.str s,.int .i64 (.ofNat n),.fn f [] []] 0 .nil) st)=some (.int .i64 (.ofNat (n+aM p (s.drop n))),st):=by
 have go:∀ (F:RF) (tm:Tr AV),tm.get 0=some (.str s)->tm.get 1=some (.int .i64 (.ofNat n))->tm.get 2=some (.fn f [] [])->(∀ ay:Tr AV,ay.get 1=some (.int .i64 (.ofNat (n+aM p (s.drop n))))->bg [.t 6] (F ay st)=some (.int .i64 (.ofNat (n+aM p (s.drop n))),st))->bg [.t 6] (R.andThen (R.block 0 (aY (ak call ag MK) ag tm st)) F)=some (.int .i64 (.ofNat (n+aM p (s.drop n))),st):=by
  intro F tm h0 h1 h2 hF;obtain⟨e,ay,ae,h3,rfl,rfl,h4⟩:=bq (ME hc (ag:=ag) (st:=st) hs (s.drop n) n ag tm rfl hn (by rw[gL]; omega) h0 h1 h2)
  rw[h3,bT,cT];exact hF ay h4
 simp only[y77,bn,bF,aw,aF,av,ah,Nat.reduceEqDiff,reduceCtorEq];refine go _ _ ?_ ?_ ?_ fun ay h=>?_
 ·simp only[aE,Nat.reduceEqDiff,reduceCtorEq,iz]
 ·simp only[aE,Nat.reduceEqDiff,reduceCtorEq,ed]
 ·simp only[aE,Nat.reduceEqDiff,reduceCtorEq,ec]
 ·simp only[bF,aw,aF,av,ah,Nat.reduceEqDiff,reduceCtorEq,h]
  exact b9 6 (by simp only[aE,Nat.reduceEqDiff,reduceCtorEq])
def PZ:XC:=(.seq (.seq (.aQ
 [aA 40 1,
  aA 41 0,
  aC 42 (.lens (.t 41)),
  aC 43 (.bin .lss .int (.t 40) (.t 42)),
  aA 44 43,
  bW 45 44 true (.move (.t 0)),
  bW 46 44 true (.move (.t 1)),
  bW 47 44 true (.tz (.t 45) (.t 46)),
  bW 48 44 true (.bin .neq .int (.t 47) (.c (.int .u8 10))),
  aC 49 (.pick (.t 44) (.t 48) (.c (.bool false)))]) (.cond (.t 49) .skip (.exit 3))) (.block 4 (.aQ
 [aA 50 1,
  aC 51 (.bin .add .int (.t 50) (.c (.int .i64 1))),
  aA 1 51])))
def o3:XC:=(.seq (.seq (.aQ
 [aA 5 1,
  aA 6 0,
  aC 7 (.lens (.t 6)),
  aC 8 (.bin .lss .int (.t 5) (.t 7))]) (.cond (.t 8) .skip (.exit 0))) (.block 1 (.block 2 (.seq (.aQ
 [aA 11 0,
  aA 12 1,
  aC 13 (.tz (.t 11) (.t 12)),
  aC 14 (.bin .eql .int (.t 13) (.c (.int .u8 32))),
  aA 15 14,
  bW 16 15 false (.move (.t 0)),
  bW 17 15 false (.move (.t 1)),
  bW 18 15 false (.tz (.t 16) (.t 17)),
  bW 19 15 false (.bin .eql .int (.t 18) (.c (.int .u8 9))),
  aC 20 (.pick (.t 15) (.c (.bool true)) (.t 19)),
  aA 21 20,
  bW 22 21 false (.move (.t 0)),
  bW 23 21 false (.move (.t 1)),
  bW 24 21 false (.tz (.t 22) (.t 23)),
  bW 25 21 false (.bin .eql .int (.t 24) (.c (.int .u8 10))),
  aC 26 (.pick (.t 21) (.c (.bool true)) (.t 25)),
  aA 27 26,
  bW 28 27 false (.move (.t 0)),
  bW 29 27 false (.move (.t 1)),
  bW 30 27 false (.tz (.t 28) (.t 29)),
  bW 31 27 false (.bin .eql .int (.t 30) (.c (.int .u8 13))),
  aC 32 (.pick (.t 27) (.c (.bool true)) (.t 31)),
  aA 10 32]) (.cond (.t 10) (.aQ
 [aA 33 1,
  aC 34 (.bin .add .int (.t 33) (.c (.int .i64 1))),
  aA 1 34]) (.seq (.aQ
 [aA 36 0,
  aA 37 1,
  aC 38 (.tz (.t 36) (.t 37)),
  aC 39 (.bin .eql .int (.t 38) (.c (.int .u8 35))),
  aA 35 39]) (.cond (.t 35) (.block 3 (.loop PZ)) (.seq (.aQ
 [aA 9 1,
  aA 4 9]) .ret))))))))
def y83:XC:=(.seq (.aQ
 [aC 4 (.move (.c (.int .i64 0)))]) (.seq (.block 0 (.loop o3)) (.seq (.aQ
 [aA 52 1,
  aA 4 52]) .ret)))
def uB:XC:=(.seq (.seq (.aQ
 [aA 5 1,
  aA 6 0,
  aC 7 (.lens (.t 6)),
  aC 8 (.bin .lss .int (.t 5) (.t 7))]) (.cond (.t 8) .skip (.exit 0))) (.block 1 (.block 2 (.seq (.aQ
 [aA 11 0,
  aA 12 1,
  aC 13 (.tz (.t 11) (.t 12)),
  fL 14 (.call (.c (.fn 76 [] [])) [(.c (.str [32,9,10,13])),(.t 13)]),
  aC 15 (.bin .geq .int (.t 14) (.c (.int .i64 0))),
  aA 10 15]) (.cond (.t 10) (.aQ
 [aA 16 1,
  aC 17 (.bin .add .int (.t 16) (.c (.int .i64 1))),
  aA 1 17]) (.seq (.aQ
 [aA 19 0,
  aA 20 1,
  aC 21 (.tz (.t 19) (.t 20)),
  aC 22 (.bin .eql .int (.t 21) (.c (.int .u8 35))),
  aA 18 22]) (.cond (.t 18) (.aQ
 [aA 23 0,
  aA 24 1,
  fL 25 (.call (.c (.fn 77 [] [])) [(.t 23),(.t 24),(.c (.fn 78 [] []))]),
  aA 1 25]) (.seq (.aQ
 [aA 9 1,
  aA 4 9]) .ret))))))))
def y36:XC:=(.seq (.aQ
 [aC 4 (.move (.c (.int .i64 0)))]) (.seq (.block 0 (.loop uB)) (.seq (.aQ
 [aA 26 1,
  aA 4 26]) .ret)))
theorem e32 (a:Nat):bE .eql .int (.int .u8 (.ofNat a)) (.int .u8 32)=some (.bool (Nat.beq a 32)):=rfl
theorem e9 (a:Nat):bE .eql .int (.int .u8 (.ofNat a)) (.int .u8 9)=some (.bool (Nat.beq a 9)):=rfl
theorem e10 (a:Nat):bE .eql .int (.int .u8 (.ofNat a)) (.int .u8 10)=some (.bool (Nat.beq a 10)):=rfl
theorem e13 (a:Nat):bE .eql .int (.int .u8 (.ofNat a)) (.int .u8 13)=some (.bool (Nat.beq a 13)):=rfl
theorem e35 (a:Nat):bE .eql .int (.int .u8 (.ofNat a)) (.int .u8 35)=some (.bool (Nat.beq a 35)):=rfl
theorem Yk (a:Nat):bE .eql .int (.int .u8 (.ofNat a)) (.int .u8 48)=some (.bool (Nat.beq a 48)):=rfl
theorem nq10 (a:Nat):bE .neq .int (.int .u8 (.ofNat a)) (.int .u8 10)=some (.bool (dp a)):=rfl
theorem PY {call:e8} {ag:Nat} {st:St} {s:List UInt8} (hs:s.length<1000000):∀ (l:List UInt8) (n m:Nat) (tm:Tr AV),s.drop n=l->n<=s.length->l.length<m->tm.get 0=some (.str s)->tm.get 1=some (.int .i64 (.ofNat n)) ->
  ah (aY (ak call ag PZ) m tm st) fun e ay ae=>e = .exit 3/\ae=st/\ay.get 0=some (.str s)/\ay.get 1=some (.int .i64 (.ofNat (n+aM dp l))):=by
 intro l
 induction l with
 |nil =>
  intro n m tm hl hn hm h0 h1;obtain⟨m,rfl⟩:∃ k,m=k+1:=⟨m-1,by simp at hm; omega⟩
  have aO:decide (n<s.length)=false:=nM (by have:=drop_nil hl hn; omega)
  simp only[ax,PZ,bF,aw,aF,av,ah,Nat.reduceEqDiff,reduceCtorEq,h0,h1,aI,aS,aO,aM,pR];exact⟨trivial,trivial,trivial,trivial⟩
 |cons b l ih =>
  intro n m tm hl hn hm h0 h1;obtain⟨m,rfl⟩:∃ k,m=k+1:=⟨m-1,by simp at hm; omega⟩
  obtain⟨hb,dt,jm⟩:=dx hl;have aO:decide (n<s.length)=true:=fM dt;have dw:=add_one (n:=n) (by omega)
  have dX:=gw hb;cases hp:dp b.toNat
  all_goals simp only[ax,PZ,bF,aw,aF,av,ah,Nat.reduceEqDiff,reduceCtorEq,h0,h1,aI,aS,aX,aO,dw,dX,nq10,hp,aM,pR]
  ·exact⟨trivial,trivial,trivial,trivial⟩
  ·refine(show n+(aM dp l+1)=n+1+aM dp l by omega)▸ih (n+1) m _ jm (by omega) (by simp at hm; omega) ?_ ?_<;>simp only[aE,Nat.reduceEqDiff,reduceCtorEq,h0,h1]
def cR (n k:Nat) (st:St) (e:Ex) (ay:Tr AV) (ae:St):Prop:=ae=st/\(e = .exit 0/\ay.get 1=some (.int .i64 (.ofNat (n+k)))\/e = .ret/\ay.get 4=some (.int .i64 (.ofNat (n+k))))
theorem Cd {b:UInt8} {l:List UInt8} (h:Nat.beq b.toNat 35=true):aM dp (b::l)=aM dp l+1:=by
 have e:dp b.toNat=true:=by
  have:=jT ((bo _ _).symm.trans h);rw[this]; rfl
 show(match dp b.toNat with |true=>aM dp l+1 |false=>0)=_
 rw[e]
theorem Ge {call:e8} {ag:Nat} {st:St} {s:List UInt8} (hs:s.length<1000000) (hlim:s.length<ag):∀ (f:Nat) (l:List UInt8) (n m:Nat) (tm:Tr AV),l.length<=f->s.drop n=l->n<=s.length->l.length<m->tm.get 0=some (.str s)->tm.get 1=some (.int .i64 (.ofNat n)) ->
  ah (aY (ak call ag o3) m tm st) (cR n (bc false l) st):=by
 intro f
 induction f with
 |zero =>
  intro l n m tm hf hl hn hm h0 h1;obtain⟨m,rfl⟩:∃ k,m=k+1:=⟨m-1,by omega⟩
  cases l with
  |cons=>simp at hf
  |nil =>
   have aO:decide (n<s.length)=false:=nM (by have:=drop_nil hl hn; omega)
   simp only[ax,o3,bF,aw,aF,av,ah,Nat.reduceEqDiff,reduceCtorEq,h0,h1,aI,aS,aO];exact⟨rfl,.inl ⟨rfl,by simp only[aE,Nat.reduceEqDiff,reduceCtorEq,h1]; rfl⟩⟩
 |succ f ih =>
  intro l n m tm hf hl hn hm h0 h1;obtain⟨m,rfl⟩:∃ k,m=k+1:=⟨m-1,by omega⟩
  cases l with
  |nil =>
   have aO:decide (n<s.length)=false:=nM (by have:=drop_nil hl hn; omega)
   simp only[ax,o3,bF,aw,aF,av,ah,Nat.reduceEqDiff,reduceCtorEq,h0,h1,aI,aS,aO];exact⟨rfl,.inl ⟨rfl,by simp only[aE,Nat.reduceEqDiff,reduceCtorEq,h1]; rfl⟩⟩
  |cons b l =>
   obtain⟨hb,dt,jm⟩:=dx hl;have aO:decide (n<s.length)=true:=fM dt;have dw:=add_one (n:=n) (by omega)
   have dX:=gw hb;simp at hm hf;have ze:∀ tm:Tr AV,tm.get 0=some (.str s)->tm.get 1=some (.int .i64 (.ofNat n))->Nat.beq b.toNat 35=true->ah (R.andThen (R.block 1 (R.block 2 (R.block 3 (aY (ak call ag PZ) ag tm st)))) (aY (ak call ag o3) m)) (cR n (bc true l+1) st):=by
    intro tm h0 h1 h35;obtain⟨e,ay,ae,h2,rfl,rfl,h3,h4⟩:=bq (PY (call:=call) (ag:=ag) (st:=st) hs (b::l) n ag tm hl hn (by have:=congrArg List.length hl; simp at this; simp; omega) h0 h1)
    have hr:=Cd (l:=l) h35;have hle:=mB dp l;have hlen:l.length=s.length-(n+1):=by rw[<-jm,gL]
    rw[h2,bT,sE,sE,cT];have:=ih (l.drop (aM dp l)) (n+aM dp (b::l)) m ay (by rw[gL]; omega) (by rw[hr,<-jm,yp]; congr 1; omega) (by omega) (by rw[gL]; omega) h3 h4
    rw[hr] at this;have e:n+(aM dp l+1)+bc false (l.drop (aM dp l))=n+(bc true l+1):=by rw[yS]; omega
    unfold cR at this ⊢;rw[e] at this;exact this
   have CY:∀ tm:Tr AV,tm.get 0=some (.str s)->tm.get 1=some (.int .i64 (.ofNat (n+1)))->ah (aY (ak call ag o3) m tm st) (cR n (bc false l+1) st):=by
    intro tm h0 h1;have:=ih l (n+1) m tm (by omega) jm (by omega) (by omega) h0 h1
    unfold cR at this ⊢;rw[show n+1+bc false l=n+(bc false l+1) by omega] at this
    exact this
   rw[pj];unfold AS;cases k5:Nat.beq b.toNat 35
   all_goals cases k1:Nat.beq b.toNat 32<;>cases k2:Nat.beq b.toNat 9<;>cases k3:Nat.beq b.toNat 10<;>cases k4:Nat.beq b.toNat 13
   all_goals simp only[ax,o3,bn,bF,aw,aF,av,ah,Nat.reduceEqDiff,reduceCtorEq,h0,h1,aI,aS,aX,aO,dw,dX,e32,e9,e10,e13,e35,k1,k2,k3,k4,k5,Bool.or_true,nO,e7,oo]
   all_goals first
    |exact⟨rfl,.inr ⟨rfl,by simp only[aE,Nat.reduceEqDiff,reduceCtorEq,h1,pR,JC]⟩⟩
    |exact CY _ (by simp only[aE,Nat.reduceEqDiff,reduceCtorEq,h0]) (by simp only[aE,Nat.reduceEqDiff,reduceCtorEq])
    |exact ze _ (by simp only[aE,Nat.reduceEqDiff,reduceCtorEq,h0]) (by simp only[aE,Nat.reduceEqDiff,reduceCtorEq,h1]) k5
theorem sF {call:e8} {ag:Nat} {st:St} {s:List UInt8} {n k:Nat} {oA:XC} (h:∀ tm:Tr AV,tm.get 0=some (.str s)->tm.get 1=some (.int .i64 (.ofNat n))->ah (aY (ak call ag oA) ag tm st) (cR n k st)) (F:RF) (tm:Tr AV) (h0:tm.get 0=some (.str s)) (h1:tm.get 1=some (.int .i64 (.ofNat n)))
  (hF:∀ ay:Tr AV,ay.get 1=some (.int .i64 (.ofNat (n+k)))->bg [.t 4] (F ay st)=some (.int .i64 (.ofNat (n+k)),st)):bg [.t 4] (R.andThen (R.block 0 (aY (ak call ag oA) ag tm st)) F)=some (.int .i64 (.ofNat (n+k)),st):=by
 obtain⟨e,ay,ae,h3,rfl,h4⟩:=bq (h tm h0 h1);rw[h3];rcases h4 with⟨rfl,h4⟩ |⟨rfl,h4⟩
 ·rw[bT,cT]
  exact hF ay h4
 ·rw[jc,lP]
  exact b9 4 h4
theorem Gf {call:e8} {ag:Nat} (st:St) {s:List UInt8} (hs:s.length<1000000) (hl:s.length<ag) {n:Nat} (hn:n<=s.length) :
  bg [.t 4] (ak call ag y83 (bb [.str s,.int .i64 (.ofNat n)] 0 .nil) st)=some (.int .i64 (.ofNat (n+bc false (s.drop n))),st):=by
 simp only[y83,bn,bF,aw,aF,av,ah,Nat.reduceEqDiff,reduceCtorEq];refine sF (oA:=o3) (fun tm h0 h1=>Ge (call:=call) (st:=st) hs hl _ (s.drop n) n ag tm (dN _) rfl hn (by rw[gL]; omega) h0 h1) _ _ ?_ ?_ fun ay h=>?_
 ·simp only[aE,Nat.reduceEqDiff,reduceCtorEq,bx]
 ·simp only[aE,Nat.reduceEqDiff,reduceCtorEq,bu]
 ·simp only[bF,aw,aF,av,ah,Nat.reduceEqDiff,reduceCtorEq,h]
  exact b9 4 (by simp only[aE,Nat.reduceEqDiff,reduceCtorEq])
def iv:List UInt8->UInt8->Bool
 | [],_=>false
 |x::l,c=>Nat.beq c.toNat x.toNat ||iv l c
def SG:List UInt8:=[123,125,91,93,40,41,59,58,44,46,61,60,43,45,42,47,37]
def Ul:List UInt8:=[57,50,50,51,51,55,50,48,51,54,56,53,52,55,55,53,56,48,56]
def jM (p s:List UInt8):Bool:=decide (p.length<=s.length)&&mW (s.take p.length) p
def sY (s:List UInt8):Bool:=jM [61,61] s ||jM [45,62] s
def iQ (w:List UInt8):Bool:=decide (19<w.length) ||(Nat.beq w.length 19 && !(Op.bytesLess w Ul ||mW w Ul))
def bP:List UInt8->Nat × Nat
 | []=>(0,0)
 |c::l=>match isLet c.toNat with
  |true=>(1,aM fX (c::l))
  |false=>match cP c.toNat with
   |true=>(2,aM cP (c::l))
   |false=>match sY (c::l) with
    |true=>(3,2)
    |false=>match iv SG c with
     |true=>(3,1)
     |false=>(0,0)
def is0:List UInt8->Bool
 | []=>false
 |c::_=>Nat.beq c.toNat 48
def mV (k:Nat) (w:List UInt8):Nat:=match Nat.beq k 0 ||(Nat.beq k 2&&(decide (1<w.length)&&is0 w)) with
 |true=>1
 |false=>match (Nat.beq k 1&&decide (16<w.length)) ||(Nat.beq k 2&&iQ w) with
  |true=>4
  |false=>0
def jA (t n:Nat) (w:List UInt8):AV:=.agg [.int .i64 (.ofNat t),.str w,.int .i64 (.ofNat n)]
def zA (a:AV):Except (Nat × Nat) (List AV)->Except (Nat × Nat) (List AV)
 | .ok ts=>.ok (a::ts)
 | .error e=>.error e
def iF:Nat->List UInt8->Nat->Nat->Except (Nat × Nat) (List AV)
 |0,_,_,_=>.ok []
 |f+1,l,n,k=>match l with
  | []=>.ok []
  |c::r=>match mV (bP (c::r)).1 ((c::r).take (bP (c::r)).2) with
   |0=>match Nat.ble 6000 k with
    |true=>.error (4,n)
    |false=>zA (jA (bP (c::r)).1 n ((c::r).take (bP (c::r)).2)) (iF f (((c::r).drop (bP (c::r)).2).drop (bc false ((c::r).drop (bP (c::r)).2))) (n+(bP (c::r)).2+bc false ((c::r).drop (bP (c::r)).2)) (k+1))
   |e+1=>.error (e+1,n)
def gC (s:List UInt8):Except (Nat × Nat) (List AV):=match decide (16384<s.length) with
 |true=>.error (4,0)
 |false=>iF (s.length+1) (s.drop (bc false s)) (bc false s) 0
def nP (r:List AV):AV:=match r with
 | []=>.az
 |a::l=>.sl 3 (a::l) .dead
def Bt:Except (Nat × Nat) (List AV)->AV
 | .ok r=>.cv [nP r,.int .i64 0,.int .i64 0]
 | .error (e,p)=>.cv [.az,.int .i64 (.ofNat p),.int .i64 (.ofNat e)]
theorem JX {p s:List UInt8} (h:jM p s=true):p.length<=s.length:=by
 unfold jM at h;rw[kQ] at h;exact jT h.1
theorem LV {s:List UInt8} (h:sY s=true):2<=s.length:=by
 unfold sY at h;rw[Bool.or_eq_true] at h;rcases h with h |h<;>exact JX h
theorem mM (c:UInt8) (l:List UInt8):bP (c::l)=match isLet c.toNat with
  |true=>(1,aM fX (c::l))
  |false=>match cP c.toNat with
   |true=>(2,aM cP (c::l))
   |false=>match sY (c::l) with
    |true=>(3,2)
    |false=>match iv SG c with
     |true=>(3,1)
     |false=>(0,0):=rfl
theorem rP (l:List UInt8):(bP l).1<=3/\(bP l).2<=l.length/\((bP l).1≠0->1<=(bP l).2):=by
 cases l with
 |nil=>exact⟨by decide,by decide,fun h=>absurd rfl h⟩
 |cons c l =>
  have h1:=mB fX (c::l);have h2:=mB cP (c::l);rw[mM];cases h:isLet c.toNat with
  |true =>
   refine⟨by show 1<=3; omega,h1,fun _=>?_⟩
   show 1<=aM fX (c::l)
   rw[fT,show fX c.toNat=true from by unfold fX; rw[h]; rfl]
   show 1<=aM fX l+1
   omega
  |false =>
   cases h3:cP c.toNat with
   |true =>
    refine⟨by show 2<=3; omega,h2,fun _=>?_⟩
    show 1<=aM cP (c::l)
    rw[fT,h3];show 1<=aM cP l+1
    omega
   |false =>
    cases h4:sY (c::l) with
    |true=>exact⟨by show 3<=3; omega,LV h4,fun _=>by show 1<=2; omega⟩
    |false =>
     cases h5:iv SG c with
     |true=>exact⟨by show 3<=3; omega,by simp,fun _=>by show 1<=1; omega⟩
     |false=>exact⟨by show 0<=3; omega,by simp,fun h=>absurd rfl h⟩
def Out (es:List AV) (o:AV) (st:St):Prop:=(es=[]/\o = .az)\/∃ id,es≠[]/\o = .sl 3 es (.at id)/\id<st.next/\st.heap.get id=some .aN
theorem Out.cI {es:List AV} {o:AV} {st ae:St} (h:Out es o st) (hn:st.next<=ae.next) (hh:∀ j,j<st.next->ae.heap.get j=st.heap.get j):Out es o ae:=by
 rcases h with h |⟨id,h1,h2,h3,h4⟩
 ·exact .inl h
 ·exact .inr ⟨id,h1,h2,by omega,by rw[hh id h3]; exact h4⟩
theorem Out.len {es:List AV} {o:AV} {st:St} (h:Out es o st):jI o=some (.int .i64 (.ofNat es.length)):=by
 rcases h with⟨rfl,rfl⟩ |⟨id,h1,rfl,h3,h4⟩<;>rfl
theorem Out.app {es:List AV} {o v:AV} {st:St} (h:Out es o st) (hl:es.length<6000):∃ o' ae,sT 3 32 st o (.sl 3 [v] .full)=some (o',ae)/\Out (es++[v]) o' ae/\ae.next=st.next+1/\∀ j,j<st.next->st.heap.get j≠some .aN->ae.heap.get j=st.heap.get j:=by
 rcases h with⟨rfl,rfl⟩ |⟨id,h1,rfl,h3,h4⟩
 ·refine⟨.sl 3 [v] (.at st.next),st.new .aN,rfl,.inr ⟨st.next,by simp,rfl,by show st.next<st.next+1; omega,by rw[aJ,bJ rfl]⟩,rfl,fun j hj _=>by rw[aJ,ba (by omega)]⟩
 ·refine⟨.sl 3 (es++[v]) (.at st.next),(st.put id .gone).new .aN,?_,.inr ⟨st.next,by simp,rfl,by show st.next<st.next+1; omega,?_⟩,rfl,fun j hj ht=>?_⟩
  ·have hf:zt (es.length+1) 32=true:=by
    unfold zt;have e1:Nat.ble (es.length+1) 1073741824=true:=by rw[gJ]; omega
    rw[e1]; rfl
   show fy 3 32 st (.sl 3 es (.at id)) [v]=_
   unfold fy;have e2:(Nat.beq 3 3&&zt (es.length+[v].length) 32)=true:=hf;simp only[e2,h4]
  ·show((st.put id .gone).new .aN).heap.get (st.put id .gone).next=_
   rw[aJ,bJ rfl]
  ·rw[aJ,aK]
   rw[ba (by show ¬ j=st.next; omega),ba (by intro e; subst e; exact ht h4)]
def jd (es:List AV) (r:Except (Nat × Nat) (List AV)) (e:Ex) (tm:Tr AV) (st:St):Prop:=match r with
 | .ok ts=>e = .exit 0/\∃ o,tm.get 5=some o/\Out (es++ts) o st
 | .error (c,p)=>e = .ret/\tm.get 2=some .az/\tm.get 3=some (.int .i64 (.ofNat p))/\tm.get 4=some (.int .i64 (.ofNat c))
theorem yV {es:List AV} {a:AV} {r:Except (Nat × Nat) (List AV)} {e:Ex} {tm:Tr AV} {st:St} (h:jd (es++[a]) r e tm st):jd es (zA a r) e tm st:=by
 cases r with
 |ok ts =>
  obtain⟨h1,o,h2,h3⟩:=h;exact⟨h1,o,h2,by rw[Cn] at h3; exact h3⟩
 |error e=>exact h
def tokV (v x y:AV):Option AV:=D8 (Bool.rec (motive:=fun _=>Option (List AV)) none (Bool.rec (motive:=fun _=>Option (List AV)) none (Bool.rec (motive:=fun _=>Option (List AV)) none (some (aZ (aZ (aZ [(.int .i64 0),(.str []),(.int .i64 0)] 0 v.cells) 1 x.cells) 2 y.cells)) (Nat.beq y.cells.length 1)) (Nat.beq x.cells.length 1)) (Nat.beq v.cells.length 1))
theorem fm {tm:Tr AV} (v a b:XO):mw tm (.build [(.int .i64 0),(.str []),(.int .i64 0)] [(0,1,v),(1,1,a),(2,1,b)])=tokV (aD tm v) (aD tm a) (aD tm b):=rfl
theorem mX {tm:Tr AV}:mw tm (.build [(.int .i64 0),(.str []),(.int .i64 0)] [])=some (.agg [(.int .i64 0),(.str []),(.int .i64 0)]):=rfl
theorem dH (k:Int) (t:List UInt8) (n:Int):tokV (.int .i64 k) (.str t) (.int .i64 n)=some (.agg [.int .i64 k,.str t,.int .i64 n]):=rfl
def tokS (v:AV):Option AV:=Rh 3 (Bool.rec (motive:=fun _=>Option (List AV)) none (some ([(.agg [(.int .i64 0),(.str []),(.int .i64 0)])].set 0 v)) (Nat.beq v.cells.length 3))
theorem jE {tm:Tr AV} (x:XO):mw tm (.fv 3 [(.agg [(.int .i64 0),(.str []),(.int .i64 0)])] [(0,x)])=tokS (aD tm x):=rfl
theorem gh (a b c:AV):tokS (.agg [a,b,c])=some (.sl 3 [.agg [a,b,c]] .full):=rfl
theorem Ht {c:UInt8} {l:List UInt8} {k:Nat} (hk:1<=k):nth ((c::l).take k) 0=some c/\is0 ((c::l).take k)=Nat.beq c.toNat 48:=by
 obtain⟨k,rfl⟩:∃ j,k=j+1:=⟨k-1,by omega⟩
 exact⟨rfl,rfl⟩
end
end Go.Ev
theorem jh:type_of% @Bool.false_and:=@Bool.false_and
theorem gI:type_of% @Bool.true_and:=@Bool.true_and
theorem MU:type_of% @of_decide_eq_false:=@of_decide_eq_false
namespace Go.Ev
noncomputable section
set_option maxRecDepth 100000
set_option maxHeartbeats 2000000
def Ur:XC:=(.seq (.aQ
 [aC 4 (.move (.c (.int .i64 0))),
  aC 5 (.move (.c (.int .i64 0)))]) (.seq (.aQ
 [aA 7 0,
  aA 8 1,
  aC 9 (.tz (.t 7) (.t 8)),
  aA 6 9]) (.seq (.block 0 (.seq (.aQ
 [aA 11 6,
  fL 12 (.call (.c (.fn 79 [] [])) [(.t 11)]),
  aA 10 12]) (.cond (.t 10) (.seq (.aQ
 [aA 13 0,
  aA 14 1,
  fL 15 (.call (.c (.fn 77 [] [])) [(.t 13),(.t 14),(.c (.fn 80 [] []))]),
  aC 4 (.move (.c (.int .i64 1))),
  aA 5 15]) .ret) (.seq (.aQ
 [aA 17 6,
  fL 18 (.call (.c (.fn 81 [] [])) [(.t 17)]),
  aA 16 18]) (.cond (.t 16) (.seq (.aQ
 [aA 19 0,
  aA 20 1,
  fL 21 (.call (.c (.fn 77 [] [])) [(.t 19),(.t 20),(.c (.fn 81 [] []))]),
  aC 4 (.move (.c (.int .i64 2))),
  aA 5 21]) .ret) (.seq (.aQ
 [aA 23 0,
  aA 24 1,
  aC 25 (.lZ (.t 23) (some (.t 24)) none),
  fL 26 (.call (.c (.fn 82 [] [])) [(.t 25),(.c (.str [61,61]))]),
  aA 27 26,
  bW 28 27 false (.move (.t 0)),
  bW 29 27 false (.move (.t 1)),
  bW 30 27 false (.lZ (.t 28) (some (.t 29)) none),
  ⟨some 31,some (27,false),(.e (.call (.c (.fn 82 [] [])) [(.t 30),(.c (.str [45,62]))]))⟩,
  aC 32 (.pick (.t 27) (.c (.bool true)) (.t 31)),
  aA 22 32]) (.cond (.t 22) (.seq (.aQ
 [aA 33 1,
  aC 34 (.bin .add .int (.t 33) (.c (.int .i64 2))),
  aC 4 (.move (.c (.int .i64 3))),
  aA 5 34]) .ret) (.seq (.aQ
 [aA 36 6,
  fL 37 (.call (.c (.fn 76 [] [])) [(.c (.str [123,125,91,93,40,41,59,58,44,46,61,60,43,45,42,47,37])),(.t 36)]),
  aC 38 (.bin .geq .int (.t 37) (.c (.int .i64 0))),
  aA 35 38]) (.cond (.t 35) (.seq (.aQ
 [aA 39 1,
  aC 40 (.bin .add .int (.t 39) (.c (.int .i64 1))),
  aC 4 (.move (.c (.int .i64 3))),
  aA 5 40]) .ret) .skip))))))))) (.seq (.aQ
 [aA 41 1,
  aC 4 (.move (.c (.int .i64 0))),
  aA 5 41]) .ret))))
def y38:XC:=(.seq (.aQ
 [aC 2 (.move (.c (.bool false)))]) (.seq (.aQ
 [aA 3 0,
  aC 4 (.lens (.t 3)),
  aC 5 (.bin .gtr .int (.t 4) (.c (.int .i64 19))),
  aA 6 5,
  bW 7 6 false (.move (.t 0)),
  bW 8 6 false (.lens (.t 7)),
  bW 9 6 false (.bin .eql .int (.t 8) (.c (.int .i64 19))),
  bW 10 6 false (.move (.t 9)),
  bW 11 10 true (.move (.t 0)),
  bW 12 10 true (.bin .gtr .str (.t 11) (.c (.str [57,50,50,51,51,55,50,48,51,54,56,53,52,55,55,53,56,48,56]))),
  bW 13 6 false (.pick (.t 10) (.t 12) (.c (.bool false))),
  aC 14 (.pick (.t 6) (.c (.bool true)) (.t 13)),
  aA 2 14]) .ret))
def jK:XC:=(.seq (.seq (.aQ
 [aA 16 6,
  aA 17 0,
  aC 18 (.lens (.t 17)),
  aC 19 (.bin .lss .int (.t 16) (.t 18))]) (.cond (.t 19) .skip (.exit 0))) (.seq (.block 1 (.seq (.aQ
 [aA 24 0,
  aA 25 6,
  fL 26 (.call (.c (.fn 37 [] [])) [(.t 24),(.t 25)]),
  aA 23 26,
  aC 27 (.ext (.t 23) 0),
  aC 28 (.ext (.t 23) 1),
  aA 7 27,
  aA 8 28]) (.seq (.aQ
 [aA 29 0,
  aA 30 6,
  aA 31 8,
  aC 32 (.lZ (.t 29) (some (.t 30)) (some (.t 31))),
  aA 9 32]) (.seq (.aQ
 [aA 33 7,
  aC 34 (.bin .eql .int (.t 33) (.c (.int .i64 2))),
  aA 10 34]) (.seq (.block 2 (.seq (.aQ
 [aA 36 7,
  aC 37 (.bin .eql .int (.t 36) (.c (.int .i64 0))),
  aA 38 37,
  bW 39 38 false (.move (.t 10)),
  bW 40 38 false (.move (.t 39)),
  bW 41 40 true (.move (.t 9)),
  bW 42 40 true (.lens (.t 41)),
  bW 43 40 true (.bin .gtr .int (.t 42) (.c (.int .i64 1))),
  bW 44 38 false (.pick (.t 40) (.t 43) (.c (.bool false))),
  bW 45 38 false (.move (.t 44)),
  bW 46 45 true (.move (.t 9)),
  bW 47 45 true (.tz (.t 46) (.c (.int .i64 0))),
  bW 48 45 true (.bin .eql .int (.t 47) (.c (.int .u8 48))),
  bW 49 38 false (.pick (.t 45) (.t 48) (.c (.bool false))),
  aC 50 (.pick (.t 38) (.c (.bool true)) (.t 49)),
  aA 35 50]) (.cond (.t 35) (.seq (.aQ
 [aA 51 6,
  aC 2 (.move (.c .az)),
  aA 3 51,
  aC 4 (.move (.c (.int .i64 1)))]) .ret) (.seq (.aQ
 [aA 53 7,
  aC 54 (.bin .eql .int (.t 53) (.c (.int .i64 1))),
  aA 55 54,
  bW 56 55 true (.move (.t 9)),
  bW 57 55 true (.lens (.t 56)),
  bW 58 55 true (.bin .gtr .int (.t 57) (.c (.int .i64 16))),
  aC 59 (.pick (.t 55) (.t 58) (.c (.bool false))),
  aA 60 59,
  bW 61 60 false (.move (.t 10)),
  bW 62 60 false (.move (.t 61)),
  bW 63 62 true (.move (.t 9)),
  ⟨some 64,some (62,true),(.e (.call (.c (.fn 38 [] [])) [(.t 63)]))⟩,
  bW 65 60 false (.pick (.t 62) (.t 64) (.c (.bool false))),
  aC 66 (.pick (.t 60) (.c (.bool true)) (.t 65)),
  aA 67 66,
  bW 68 67 false (.move (.t 5)),
  bW 69 67 false (.kA (.t 68)),
  bW 70 67 false (.bin .eql .int (.t 69) (.c (.int .i64 6000))),
  aC 71 (.pick (.t 67) (.c (.bool true)) (.t 70)),
  aA 52 71]) (.cond (.t 52) (.seq (.aQ
 [aA 72 6,
  aC 2 (.move (.c .az)),
  aA 3 72,
  aC 4 (.move (.c (.int .i64 4)))]) .ret) .skip))))) (.seq (.aQ
 [aA 73 5,
  aA 74 7,
  aA 75 9,
  aA 76 6,
  aC 77 (.build [(.int .i64 0),(.str []),(.int .i64 0)] [(0,1,(.t 74)),(1,1,(.t 75)),(2,1,(.t 76))]),
  aC 78 (.fv 3 [(.agg [(.int .i64 0),(.str []),(.int .i64 0)])] [(0,(.t 77))]),
  fL 79 (.app 3 32 (.t 73) (.t 78)),
  aA 5 79]) (.aQ
 [aA 80 8,
  aA 6 80]))))))) (.aQ
 [aA 20 0,
  aA 21 6,
  fL 22 (.call (.c (.fn 36 [] [])) [(.t 20),(.t 21)]),
  aA 6 22])))
def y17:XC:=(.seq (.aQ
 [aC 2 (.move (.c .az)),
  aC 3 (.move (.c (.int .i64 0))),
  aC 4 (.move (.c (.int .i64 0)))]) (.seq (.seq (.aQ
 [aA 11 0,
  aC 12 (.lens (.t 11)),
  aC 13 (.bin .gtr .int (.t 12) (.c (.int .i64 16384)))]) (.cond (.t 13) (.seq (.aQ
 [aC 2 (.move (.c .az)),
  aC 3 (.move (.c (.int .i64 0))),
  aC 4 (.move (.c (.int .i64 4)))]) .ret) .skip)) (.seq (.aQ
 [aC 5 (.move (.c .az))]) (.seq (.seq (.aQ
 [aA 14 0,
  fL 15 (.call (.c (.fn 36 [] [])) [(.t 14),(.c (.int .i64 0))]),
  aA 6 15]) (.block 0 (.loop jK))) (.seq (.aQ
 [aA 81 5,
  aA 2 81,
  aC 3 (.move (.c (.int .i64 0))),
  aC 4 (.move (.c (.int .i64 0)))]) .ret)))))
structure IE (ag:Nat) (call:e8):Prop where
 sp:∀ (b:UInt8) st,∃ k:Int,call 76 [.str [32,9,10,13],.int .u8 (.ofNat b.toNat)] st=some (.int .i64 k,st)/\bE .geq .int (.int .i64 k) (.int .i64 0)=some (.bool (AS b.toNat))
 sg:∀ (b:UInt8) st,∃ k:Int,call 76 [.str SG,.int .u8 (.ofNat b.toNat)] st=some (.int .i64 k,st)/\bE .geq .int (.int .i64 k) (.int .i64 0)=some (.bool (iv SG b))
 nl:∀ (s:List UInt8) (n:Nat) st,s.length<1000000->s.length<ag->n<=s.length->call 77 [.str s,.int .i64 (.ofNat n),.fn 78 [] []] st=some (.int .i64 (.ofNat (n+aM dp (s.drop n))),st)
 al:∀ (s:List UInt8) (n:Nat) st,s.length<1000000->s.length<ag->n<=s.length->call 77 [.str s,.int .i64 (.ofNat n),.fn 80 [] []] st=some (.int .i64 (.ofNat (n+aM fX (s.drop n))),st)
 dg:∀ (s:List UInt8) (n:Nat) st,s.length<1000000->s.length<ag->n<=s.length->call 77 [.str s,.int .i64 (.ofNat n),.fn 81 [] []] st=some (.int .i64 (.ofNat (n+aM cP (s.drop n))),st)
 l:nJ call 79 isLet
 d:nJ call 81 cP
 hp:∀ (s p:List UInt8) st,call 82 [.str s,.str p] st=some (.bool (jM p s),st)
 gr:∀ (w:List UInt8) st,call 38 [.str w] st=some (.bool (iQ w),st)
theorem Je {call:e8} {ag:Nat} (hc:IE ag call) {st:St} {s:List UInt8} (hs:s.length<1000000) (hlim:s.length<ag):∀ (f:Nat) (l:List UInt8) (n m:Nat) (tm:Tr AV),l.length<=f->s.drop n=l->n<=s.length->l.length<m->tm.get 0=some (.str s)->tm.get 1=some (.int .i64 (.ofNat n)) ->
  ah (aY (ak call ag uB) m tm st) (cR n (bc false l) st):=by
 intro f
 induction f with
 |zero =>
  intro l n m tm hf hl hn hm h0 h1;obtain⟨m,rfl⟩:∃ k,m=k+1:=⟨m-1,by omega⟩
  cases l with
  |cons=>simp at hf
  |nil =>
   have aO:decide (n<s.length)=false:=nM (by have:=drop_nil hl hn; omega)
   simp only[ax,uB,bF,aw,aF,av,ah,Nat.reduceEqDiff,reduceCtorEq,h0,h1,aI,aS,aO];exact⟨rfl,.inl ⟨rfl,by simp only[aE,Nat.reduceEqDiff,reduceCtorEq,h1]; rfl⟩⟩
 |succ f ih =>
  intro l n m tm hf hl hn hm h0 h1;obtain⟨m,rfl⟩:∃ k,m=k+1:=⟨m-1,by omega⟩
  cases l with
  |nil =>
   have aO:decide (n<s.length)=false:=nM (by have:=drop_nil hl hn; omega)
   simp only[ax,uB,bF,aw,aF,av,ah,Nat.reduceEqDiff,reduceCtorEq,h0,h1,aI,aS,aO];exact⟨rfl,.inl ⟨rfl,by simp only[aE,Nat.reduceEqDiff,reduceCtorEq,h1]; rfl⟩⟩
  |cons b l =>
   obtain⟨hb,dt,jm⟩:=dx hl;have aO:decide (n<s.length)=true:=fM dt;have dw:=add_one (n:=n) (by omega)
   have dX:=gw hb;simp at hm hf;obtain⟨k,yA,BE⟩:=hc.sp b st;have hle:=mB dp l;have hlen:l.length=s.length-(n+1):=by rw[<-jm,gL]
   have hrn:=hc.nl s n st hs hlim hn;rw[hl] at hrn;have ze:∀ tm:Tr AV,tm.get 0=some (.str s)->tm.get 1=some (.int .i64 (.ofNat (n+aM dp (b::l))))->Nat.beq b.toNat 35=true->ah (aY (ak call ag uB) m tm st) (cR n (bc true l+1) st):=by
    intro tm h0 h1 h35;have hr:=Cd (l:=l) h35;have:=ih (l.drop (aM dp l)) (n+aM dp (b::l)) m tm (by rw[gL]; omega) (by rw[hr,<-jm,yp]; congr 1; omega) (by omega) (by rw[gL]; omega) h0 h1
    rw[hr] at this;have e:n+(aM dp l+1)+bc false (l.drop (aM dp l))=n+(bc true l+1):=by rw[yS]; omega
    unfold cR at this ⊢;rw[e] at this;exact this
   have CY:∀ tm:Tr AV,tm.get 0=some (.str s)->tm.get 1=some (.int .i64 (.ofNat (n+1)))->ah (aY (ak call ag uB) m tm st) (cR n (bc false l+1) st):=by
    intro tm h0 h1;have:=ih l (n+1) m tm (by omega) jm (by omega) (by omega) h0 h1
    unfold cR at this ⊢;rw[show n+1+bc false l=n+(bc false l+1) by omega] at this
    exact this
   rw[pj];cases k1:AS b.toNat<;>rw[k1] at BE<;>cases k5:Nat.beq b.toNat 35
   all_goals simp only[ax,uB,bF,aw,aF,av,ah,Nat.reduceEqDiff,reduceCtorEq,h0,h1,aI,aS,aX,aO,dw,dX,yA,BE,e35,k5,hrn]
   all_goals first
    |exact⟨rfl,.inr ⟨rfl,by simp only[aE,Nat.reduceEqDiff,reduceCtorEq,h1,pR,JC]⟩⟩
    |exact CY _ (by simp only[aE,Nat.reduceEqDiff,reduceCtorEq,h0]) (by simp only[aE,Nat.reduceEqDiff,reduceCtorEq])
    |exact ze _ (by simp only[aE,Nat.reduceEqDiff,reduceCtorEq,h0]) (by simp only[aE,Nat.reduceEqDiff,reduceCtorEq,h1]) k5
theorem Jf {call:e8} {ag:Nat} (hc:IE ag call) (st:St) {s:List UInt8} (hs:s.length<1000000) (hl:s.length<ag) {n:Nat} (hn:n<=s.length) :
  bg [.t 4] (ak call ag y36 (bb [.str s,.int .i64 (.ofNat n)] 0 .nil) st)=some (.int .i64 (.ofNat (n+bc false (s.drop n))),st):=by
 simp only[y36,bn,bF,aw,aF,av,ah,Nat.reduceEqDiff,reduceCtorEq];refine sF (oA:=uB) (fun tm h0 h1=>Je hc (st:=st) hs hl _ (s.drop n) n ag tm (dN _) rfl hn (by rw[gL]; omega) h0 h1) _ _ ?_ ?_ fun ay h=>?_
 ·simp only[aE,Nat.reduceEqDiff,reduceCtorEq,bx]
 ·simp only[aE,Nat.reduceEqDiff,reduceCtorEq,bu]
 ·simp only[bF,aw,aF,av,ah,Nat.reduceEqDiff,reduceCtorEq,h]
  exact b9 4 (by simp only[aE,Nat.reduceEqDiff,reduceCtorEq])
theorem pL {tm:Tr AV} (x a:XO):mw tm (.lZ x (some a) none)=kf tm (some a) none (aD tm x):=rfl
def GI (s:List UInt8):Option Nat->Option AV
 |some l=>match Nat.ble l s.length with
  |true=>some (.str (s.drop l))
  |false=>none
 |none=>none
theorem lY {tm:Tr AV} (a:XO) (s:List UInt8):kf tm (some a) none (.str s)=GI s (ch (aD tm a)):=by
 unfold kf bounds GI
 dsimp only
 cases ch (aD tm a)<;>dsimp only
 rename_i l;have e:Nat.ble s.length s.length=true:=by rw[gJ]; omega
 rw[e,Bool.and_true];cases Nat.ble l s.length
 ·rfl
 ·show some (AV.str ((s.take s.length).drop l))=_
  rw[List.take_length]
theorem BX {s:List UInt8} {n:Nat} (h:n<=s.length):GI s (some n)=some (.str (s.drop n)):=by
 unfold GI;have e1:Nat.ble n s.length=true:=by rw[gJ]; exact h
 simp only[e1]
theorem tj {call:e8} {ag:Nat} (hc:IE ag call) (st:St) {s:List UInt8} (hs:s.length<1000000) (hl:s.length<ag) {n:Nat} (hn:n<s.length) :
  bg [.t 4,.t 5] (ak call ag Ur (bb [.str s,.int .i64 (.ofNat n)] 0 .nil) st)=some (.cv [.int .i64 (.ofNat (bP (s.drop n)).1),.int .i64 (.ofNat (n+(bP (s.drop n)).2))],st):=by
 obtain⟨c,l,hd⟩:∃ c l,s.drop n=c::l:=by rw[EU hn]; exact⟨_,_,rfl⟩
 obtain⟨hcc,_,dA⟩:=dx hd;have dX:=gw hcc;have kl:=hc.l c st;have kd:=hc.d c st;have ka:=hc.al s n st hs hl (by omega)
 have kn:=hc.dg s n st hs hl (by omega)
 have ht:=BX (s:=s) (n:=n) (by omega)
 have h1:=hc.hp (s.drop n) [61,61] st;have h2:=hc.hp (s.drop n) [45,62] st;obtain⟨k,yA,BE⟩:=hc.sg c st;have a1:=add_one (n:=n) (by omega)
 have a2:=Iu (n:=n) (by omega)
 rw[hd] at ka kn h1 h2 ht ⊢;unfold SG at yA;rw[mM];unfold sY;cases q1:isLet c.toNat<;>rw[q1] at kl
 ·cases q2:cP c.toNat<;>rw[q2] at kd
  ·cases q3:jM [61,61] (c::l)<;>rw[q3] at h1
   ·cases q4:jM [45,62] (c::l)<;>rw[q4] at h2
    ·cases q5:iv SG c<;>rw[q5] at BE
     all_goals simp only[Ur,bF,aw,aF,av,ah,Nat.reduceEqDiff,reduceCtorEq,bx,bu,dX,aX,kl,kd,ka,kn,pL,lY,ht,h1,h2,yA,BE,a1,a2,nO]
     all_goals exact xJ 4 5 (by simp only[aE,Nat.reduceEqDiff,reduceCtorEq]; rfl) (by simp only[aE,Nat.reduceEqDiff,reduceCtorEq,pR])
    ·simp only[Ur,bF,aw,aF,av,ah,Nat.reduceEqDiff,reduceCtorEq,bx,bu,dX,aX,kl,kd,ka,kn,pL,lY,ht,h1,h2,yA,BE,a1,a2,Bool.or_true]
     exact xJ 4 5 (by simp only[aE,Nat.reduceEqDiff,reduceCtorEq]; rfl) (by simp only[aE,Nat.reduceEqDiff,reduceCtorEq,pR])
   ·simp only[Ur,bF,aw,aF,av,ah,Nat.reduceEqDiff,reduceCtorEq,bx,bu,dX,aX,kl,kd,ka,kn,pL,lY,ht,h1,h2,yA,BE,a1,a2,oo]
    exact xJ 4 5 (by simp only[aE,Nat.reduceEqDiff,reduceCtorEq]; rfl) (by simp only[aE,Nat.reduceEqDiff,reduceCtorEq,pR])
  ·simp only[Ur,bF,aw,aF,av,ah,Nat.reduceEqDiff,reduceCtorEq,bx,bu,dX,aX,kl,kd,ka,kn,pL,lY,ht,h1,h2,yA,BE,a1,a2]
   exact xJ 4 5 (by simp only[aE,Nat.reduceEqDiff,reduceCtorEq]; rfl) (by simp only[aE,Nat.reduceEqDiff,reduceCtorEq,pR])
 ·simp only[Ur,bF,aw,aF,av,ah,Nat.reduceEqDiff,reduceCtorEq,bx,bu,dX,aX,kl,kd,ka,kn,pL,lY,ht,h1,h2,yA,BE,a1,a2]
  exact xJ 4 5 (by simp only[aE,Nat.reduceEqDiff,reduceCtorEq]; rfl) (by simp only[aE,Nat.reduceEqDiff,reduceCtorEq,pR])
theorem gtr19 (a:Nat):bE .gtr .int (.int .i64 (.ofNat a)) (.int .i64 19)=some (.bool (decide (19<a))):=mS a 19
theorem eql19 (a:Nat):bE .eql .int (.int .i64 (.ofNat a)) (.int .i64 19)=some (.bool (Nat.beq a 19)):=rfl
theorem Dd (w:List UInt8):bE .gtr .str (.str w) (.str [57,50,50,51,51,55,50,48,51,54,56,53,52,55,55,53,56,48,56])=some (.bool (!(Op.bytesLess w Ul ||mW w Ul))):=rfl
theorem FK {call:e8} {ag:Nat} (st:St) (w:List UInt8):bg [.t 2] (ak call ag y38 (bb [.str w] 0 .nil) st)=some (.bool (iQ w),st):=by
 unfold iQ;cases q1:decide (19<w.length)<;>cases q2:Nat.beq w.length 19
 all_goals simp only[y38,bF,aw,aF,av,ah,Nat.reduceEqDiff,reduceCtorEq,bz,aS,gtr19,eql19,Dd,q1,q2,oo,e7,gI,jh]
 all_goals exact b9 2 (by simp only[aE,Nat.reduceEqDiff,reduceCtorEq])
structure Gs (ag:Nat) (call:e8):Prop where
 sk:∀ (s:List UInt8) (n:Nat) st,s.length<1000000->s.length<ag->n<=s.length->call 36 [.str s,.int .i64 (.ofNat n)] st=some (.int .i64 (.ofNat (n+bc false (s.drop n))),st)
 nx:∀ (s:List UInt8) (n:Nat) st,s.length<1000000->s.length<ag->n<s.length->call 37 [.str s,.int .i64 (.ofNat n)] st=some (.cv [.int .i64 (.ofNat (bP (s.drop n)).1),.int .i64 (.ofNat (n+(bP (s.drop n)).2))],st)
 gr:∀ (w:List UInt8) st,call 38 [.str w] st=some (.bool (iQ w),st)
theorem FJ (a:Nat):bE .gtr .int (.int .i64 (.ofNat a)) (.int .i64 1)=some (.bool (decide (1<a))):=mS a 1
theorem qi (a:Nat):bE .gtr .int (.int .i64 (.ofNat a)) (.int .i64 16)=some (.bool (decide (16<a))):=mS a 16
theorem jY (a:Nat):bE .eql .int (.int .i64 (.ofNat a)) (.int .i64 6000)=some (.bool (Nat.beq a 6000)):=rfl
theorem QN (k:Nat):bE .eql .int (.int .i64 (.ofNat k)) (.int .i64 0)=some (.bool (Nat.beq k 0)):=rfl
theorem QM (k:Nat):bE .eql .int (.int .i64 (.ofNat k)) (.int .i64 1)=some (.bool (Nat.beq k 1)):=rfl
theorem QL (k:Nat):bE .eql .int (.int .i64 (.ofNat k)) (.int .i64 2)=some (.bool (Nat.beq k 2)):=rfl
theorem ko (f:Nat) (c:UInt8) (r:List UInt8) (n k:Nat):iF (f+1) (c::r) n k=match mV (bP (c::r)).1 ((c::r).take (bP (c::r)).2) with
   |0=>match Nat.ble 6000 k with
    |true=>.error (4,n)
    |false=>zA (jA (bP (c::r)).1 n ((c::r).take (bP (c::r)).2)) (iF f (((c::r).drop (bP (c::r)).2).drop (bc false ((c::r).drop (bP (c::r)).2))) (n+(bP (c::r)).2+bc false ((c::r).drop (bP (c::r)).2)) (k+1))
   |e+1=>.error (e+1,n):=rfl
theorem Jm {call:e8} {ag:Nat} (hc:Gs ag call) {s:List UInt8} (hs:s.length<1000000) (hl:s.length<ag):∀ (f n m:Nat) (tm:Tr AV) (st:St) (es:List AV) (o:AV),(s.drop n).length<f->n<=s.length->f<=m->es.length<=6000->tm.get 0=some (.str s)->tm.get 6=some (.int .i64 (.ofNat n))->tm.get 5=some o->Out es o st ->
  ah (aY (ak call ag jK) m tm st) (jd es (iF f (s.drop n) n es.length)):=by
 intro f
 induction f with
 |zero=>intro n m tm st es o h; omega
 |succ f ih =>
  intro n m tm st es o hf hn hm hlen h0 h6 h5 hO;obtain⟨m,rfl⟩:∃ k,m=k+1:=⟨m-1,by omega⟩
  cases hd:s.drop n with
  |nil =>
   have aO:decide (n<s.length)=false:=nM (by have:=drop_nil hd hn; omega)
   simp only[ax,jK,bF,aw,aF,av,ah,Nat.reduceEqDiff,reduceCtorEq,h0,h6,aI,aS,aO];exact⟨rfl,o,by simp only[aE,Nat.reduceEqDiff,reduceCtorEq,h5],by simpa using hO⟩
  |cons c l =>
   obtain⟨hcc,dt,dA⟩:=dx hd;have aO:decide (n<s.length)=true:=fM dt;have vC:=hc.nx s n st hs hl dt;obtain⟨k1,k2,k3⟩:=rP (s.drop n);have nE:(s.drop n).length=s.length-n:=gL ..;rw[hd] at vC k1 k2 k3;rw[ko]
   generalize hK:bP (c::l)=K at vC k1 k2 k3 ⊢
   obtain⟨K,k⟩:=K;simp only at vC k1 k2 k3 ⊢;have hk:n+k<=s.length:=by rw[<-hd] at k2; omega
   have bH:vT s (some n) (some (n+k))=some (.str ((c::l).take k)):=by
    rw[vS (by omega) hk,List.drop_take,ES,hd]
   have Ln:(c::l).drop k=s.drop (n+k):=by rw[<-hd,yp]
   have hsk:=fun st=>hc.sk s (n+k) st hs hl hk
   have U2:=hc.gr ((c::l).take k) st;have mj:=hO.len;have hw:((c::l).take k).length=k:=by rw[mG]; omega
   have more:∀ (tm:Tr AV) (o':AV) (ae:St),1<=k->es.length<6000->tm.get 0=some (.str s)->tm.get 6=some (.int .i64 (.ofNat (n+k+bc false (s.drop (n+k)))))->tm.get 5=some o'->Out (es++[jA K n ((c::l).take k)]) o' ae ->
     ah (aY (ak call ag jK) m tm ae) (jd es (zA (jA K n ((c::l).take k)) (iF f (((c::l).drop k).drop (bc false ((c::l).drop k))) (n+k+bc false ((c::l).drop k)) (es.length+1)))):=by
    intro tm o' ae yA hlen2 g0 g6 g5 hO';have hle:=jf false (s.drop (n+k));have w9:(s.drop (n+k)).length=s.length-(n+k):=gL ..;have:=ih (n+k+bc false (s.drop (n+k))) m tm ae (es++[jA K n ((c::l).take k)]) o' (by rw[gL]; rw[nE] at hf; omega) (by omega) (by omega) (by rw[mF]; show es.length+1<=6000; omega) g0 g6 g5 hO'
    rw[Ln,yp];rw[mF] at this;have this:ah _ _:=this;obtain⟨e,cB,fJ,h1,h2⟩:=bq this;rw[h1];exact yV h2
   have tK:es.length<6000->∃ o' ae,sT 3 32 st o (.sl 3 [jA K n ((c::l).take k)] .full)=some (o',ae)/\Out (es++[jA K n ((c::l).take k)]) o' ae:=fun h=>by
    obtain⟨o',ae,a,b,_⟩:=hO.app (v:=jA K n ((c::l).take k)) h;exact⟨o',ae,a,b⟩
   have fin:1<=k->es.length<6000->∃ o' ae,sT 3 32 st o (.sl 3 [.agg [.int .i64 (.ofNat K),.str ((c::l).take k),.int .i64 (.ofNat n)]] .full)=some (o',ae)/\∀ tm:Tr AV,tm.get 0=some (.str s)->tm.get 6=some (.int .i64 (.ofNat (n+k+bc false (s.drop (n+k)))))->tm.get 5=some o'->ah (aY (ak call ag jK) m tm ae) (jd es (zA (jA K n ((c::l).take k)) (iF f (((c::l).drop k).drop (bc false ((c::l).drop k))) (n+k+bc false ((c::l).drop k)) (es.length+1)))):=fun a b=>by
    obtain⟨o',ae,q1,q2⟩:=tK b;exact⟨o',ae,q1,fun tm g0 g6 g5=>more tm o' ae a b g0 g6 g5 q2⟩
   clear more tK
   have r8:Nat.beq es.length 6000=Nat.ble 6000 es.length:=by
    rw[bo]
    by_cases h:es.length=6000
    ·rw[h]; rfl
    ·rw[nM h]
     cases q:Nat.ble 6000 es.length with
     |false=>rfl
     |true=>rw[gJ] at q; omega
   have hK4:K=0\/K=1\/K=2\/K=3:=by omega
   have err:∀ (tm:Tr AV) (e:Nat),tm.get 2=some .az->tm.get 3=some (.int .i64 (.ofNat n))->tm.get 4=some (.int .i64 (.ofNat e))->jd es (.error (e,n)) .ret tm st:=fun tm e a b c=>⟨rfl,a,b,c⟩
   have b00:Nat.beq 0 0=true:=rfl;have b02:Nat.beq 0 2=false:=rfl;have YC:Nat.beq 1 2=false:=rfl;have Ua:Nat.beq 1 0=false:=rfl;have YD:Nat.beq 1 1=true:=rfl;have Lp:Nat.beq 2 0=false:=rfl;have Q6:Nat.beq 2 1=false:=rfl;have Q5:Nat.beq 2 2=true:=rfl;have b30:Nat.beq 3 0=false:=rfl;have b31:Nat.beq 3 1=false:=rfl;have b32:Nat.beq 3 2=false:=rfl;have CF:ch (.int .i64 0)=some 0:=rfl;rcases hK4 with rfl |rfl |rfl |rfl
   ·simp only[ax,jK,fp,tR,tQ,eM,dB,cH,jE,fm,dH,gh,gx,bF,aw,aF,av,ah,Nat.reduceEqDiff,reduceCtorEq,h0,h5,h6,aI,aS,aX,aO,vC,bH,mj,hw,QN,QM,QL,b00,b02,mV,oo,Bool.or_true]
    exact err _ _ (by simp only[aE,Nat.reduceEqDiff,reduceCtorEq]) (by simp only[aE,Nat.reduceEqDiff,reduceCtorEq]) (by simp only[aE,Nat.reduceEqDiff,reduceCtorEq]<;>rfl)
   ·have yA:=k3 (by omega)
    cases q:decide (16<k)
    ·cases q6:Nat.ble 6000 es.length<;>rw[q6] at r8
     ·obtain⟨o',ae,ha,Xj⟩:=fin yA (oZ q6)
      simp only[ax,jK,fp,tR,tQ,eM,dB,cH,jE,fm,dH,gh,gx,bF,aw,aF,av,ah,Nat.reduceEqDiff,reduceCtorEq,h0,h5,h6,aI,aS,aX,aO,vC,bH,mj,hw,QN,QM,QL,Ua,YD,YC,qi,jY,q,q6,r8,mV,ha,hsk,e7,nO,gI,jh];exact Xj _ (by simp only[aE,Nat.reduceEqDiff,reduceCtorEq,h0]) (by simp only[aE,Nat.reduceEqDiff,reduceCtorEq]) (by simp only[aE,Nat.reduceEqDiff,reduceCtorEq])
     ·simp only[ax,jK,fp,tR,tQ,eM,dB,cH,jE,fm,dH,gh,gx,bF,aw,aF,av,ah,Nat.reduceEqDiff,reduceCtorEq,h0,h5,h6,aI,aS,aX,aO,vC,bH,mj,hw,QN,QM,QL,Ua,YD,YC,qi,jY,q,q6,r8,mV,e7,nO,gI,jh]
      exact err _ _ (by simp only[aE,Nat.reduceEqDiff,reduceCtorEq]) (by simp only[aE,Nat.reduceEqDiff,reduceCtorEq]) (by simp only[aE,Nat.reduceEqDiff,reduceCtorEq]<;>rfl)
    ·simp only[ax,jK,fp,tR,tQ,eM,dB,cH,jE,fm,dH,gh,gx,bF,aw,aF,av,ah,Nat.reduceEqDiff,reduceCtorEq,h0,h5,h6,aI,aS,aX,aO,vC,bH,mj,hw,QN,QM,QL,Ua,YD,YC,qi,jY,q,mV,e7,nO,gI,jh]
     exact err _ _ (by simp only[aE,Nat.reduceEqDiff,reduceCtorEq]) (by simp only[aE,Nat.reduceEqDiff,reduceCtorEq]) (by simp only[aE,Nat.reduceEqDiff,reduceCtorEq]<;>rfl)
   ·have yA:=k3 (by omega)
    obtain⟨hz,qH⟩:=Ht (c:=c) (l:=l) yA;have hiw:=gw hz;cases q7:decide (1<k)&&Nat.beq c.toNat 48
    ·cases q:iQ ((c::l).take k)<;>rw[q] at U2
     ·cases q6:Nat.ble 6000 es.length<;>rw[q6] at r8
      ·obtain⟨o',ae,ha,Xj⟩:=fin yA (oZ q6)
       cases q8:decide (1<k)<;>rw[q8] at q7<;>try rw[gI] at q7
       all_goals simp only[ax,jK,fp,tR,tQ,eM,dB,cH,jE,fm,dH,gh,gx,bF,aw,aF,av,ah,Nat.reduceEqDiff,reduceCtorEq,h0,h5,h6,aI,aS,aX,CF,aO,vC,bH,mj,hw,hiw,Yk,QN,QM,QL,Lp,Q6,Q5,FJ,qi,jY,q,q6,q7,q8,qH,U2,r8,mV,ha,hsk,e7,nO,gI,jh]
       all_goals exact Xj _ (by simp only[aE,Nat.reduceEqDiff,reduceCtorEq,h0]) (by simp only[aE,Nat.reduceEqDiff,reduceCtorEq]) (by simp only[aE,Nat.reduceEqDiff,reduceCtorEq])
      ·cases q8:decide (1<k)<;>rw[q8] at q7<;>try rw[gI] at q7
       all_goals simp only[ax,jK,fp,tR,tQ,eM,dB,cH,jE,fm,dH,gh,gx,bF,aw,aF,av,ah,Nat.reduceEqDiff,reduceCtorEq,h0,h5,h6,aI,aS,aX,CF,aO,vC,bH,mj,hw,hiw,Yk,QN,QM,QL,Lp,Q6,Q5,FJ,qi,jY,q,q6,q7,q8,qH,U2,r8,mV,e7,nO,gI,jh]
       all_goals exact err _ _ (by simp only[aE,Nat.reduceEqDiff,reduceCtorEq]) (by simp only[aE,Nat.reduceEqDiff,reduceCtorEq]) (by simp only[aE,Nat.reduceEqDiff,reduceCtorEq]<;>rfl)
     ·cases q8:decide (1<k)<;>rw[q8] at q7<;>try rw[gI] at q7
      all_goals simp only[ax,jK,fp,tR,tQ,eM,dB,cH,jE,fm,dH,gh,gx,bF,aw,aF,av,ah,Nat.reduceEqDiff,reduceCtorEq,h0,h5,h6,aI,aS,aX,CF,aO,vC,bH,mj,hw,hiw,Yk,QN,QM,QL,Lp,Q6,Q5,FJ,qi,jY,q,q7,q8,qH,U2,mV,e7,nO,gI,jh]
      all_goals exact err _ _ (by simp only[aE,Nat.reduceEqDiff,reduceCtorEq]) (by simp only[aE,Nat.reduceEqDiff,reduceCtorEq]) (by simp only[aE,Nat.reduceEqDiff,reduceCtorEq]<;>rfl)
    ·rw[kQ] at q7
     obtain⟨q8,q7⟩:=q7;simp only[ax,jK,fp,tR,tQ,eM,dB,cH,jE,fm,dH,gh,gx,bF,aw,aF,av,ah,Nat.reduceEqDiff,reduceCtorEq,h0,h5,h6,aI,aS,aX,CF,aO,vC,bH,mj,hw,hiw,Yk,QN,QM,QL,Lp,Q6,Q5,FJ,qi,jY,q7,q8,qH,mV,e7,nO,gI,jh];exact err _ _ (by simp only[aE,Nat.reduceEqDiff,reduceCtorEq]) (by simp only[aE,Nat.reduceEqDiff,reduceCtorEq]) (by simp only[aE,Nat.reduceEqDiff,reduceCtorEq]<;>rfl)
   ·have yA:=k3 (by omega)
    cases q6:Nat.ble 6000 es.length<;>rw[q6] at r8
    ·obtain⟨o',ae,ha,Xj⟩:=fin yA (oZ q6)
     simp only[ax,jK,fp,tR,tQ,eM,dB,cH,jE,fm,dH,gh,gx,bF,aw,aF,av,ah,Nat.reduceEqDiff,reduceCtorEq,h0,h5,h6,aI,aS,aX,aO,vC,bH,mj,hw,QN,QM,QL,b30,b31,b32,qi,jY,q6,r8,mV,ha,hsk,e7,nO,gI,jh];exact Xj _ (by simp only[aE,Nat.reduceEqDiff,reduceCtorEq,h0]) (by simp only[aE,Nat.reduceEqDiff,reduceCtorEq]) (by simp only[aE,Nat.reduceEqDiff,reduceCtorEq])
    ·simp only[ax,jK,fp,tR,tQ,eM,dB,cH,jE,fm,dH,gh,gx,bF,aw,aF,av,ah,Nat.reduceEqDiff,reduceCtorEq,h0,h5,h6,aI,aS,aX,aO,vC,bH,mj,hw,QN,QM,QL,b30,b31,b32,qi,jY,q6,r8,mV,e7,nO,gI,jh]
     exact err _ _ (by simp only[aE,Nat.reduceEqDiff,reduceCtorEq]) (by simp only[aE,Nat.reduceEqDiff,reduceCtorEq]) (by simp only[aE,Nat.reduceEqDiff,reduceCtorEq]<;>rfl)
theorem oK (a:Nat):bE .gtr .int (.int .i64 (.ofNat a)) (.int .i64 16384)=some (.bool (decide (16384<a))):=mS a 16384
def zU (r:Except (Nat × Nat) (List AV)) (v:AV) (st:St):Prop:=match r with
 | .ok ts=>∃ o,v = .cv [o,.int .i64 0,.int .i64 0]/\Out ts o st
 | .error (e,p)=>v = .cv [.az,.int .i64 (.ofNat p),.int .i64 (.ofNat e)]
theorem B9 {call:e8} {ag:Nat} {V1:St} {oA:XC} {r:Except (Nat × Nat) (List AV)} {tm:Tr AV} (h:ah (aY (ak call ag oA) ag tm V1) (jd [] r)) (F:RF)
  (hF:∀ (ay:Tr AV) (ae:St) (o:AV),ay.get 5=some o->bg [.t 2,.t 3,.t 4] (F ay ae)=some (.cv [o,.int .i64 0,.int .i64 0],ae)) :
  ∃ v ae,bg [.t 2,.t 3,.t 4] (R.andThen (R.block 0 (aY (ak call ag oA) ag tm V1)) F)=some (v,ae)/\zU r v ae:=by
 obtain⟨e,ay,ae,h3,h4⟩:=bq h;rw[h3];cases r with
 |ok ts =>
  obtain⟨rfl,o,h5,h6⟩:=h4;refine⟨_,ae,?_,o,rfl,by simpa using h6⟩
  rw[bT,cT];exact hF ay ae o h5
 |error q =>
  obtain⟨c,p⟩:=q;obtain⟨rfl,a,b,d⟩:=h4;refine⟨_,ae,?_,rfl⟩
  rw[jc,lP];exact kH 2 3 4 a b d
theorem Jn {call:e8} {ag:Nat} (hc:Gs ag call) (st:St) {s:List UInt8} (hl:20000<=ag) :
  ∃ v ae,bg [.t 2,.t 3,.t 4] (ak call ag y17 (bb [.str s] 0 .nil) st)=some (v,ae)/\zU (gC s) v ae:=by
 unfold gC;cases hq:decide (16384<s.length)
 ·have hle:=MU hq
  have jx:=fun st=>hc.sk s 0 st (by omega) (by omega) (by omega)
  simp only[List.drop_zero,kT] at jx;have e0:(AV.int .i64 (.ofNat 0)) = .int .i64 0:=rfl;rw[e0] at jx;have uJ:=jf false s;simp only[y17,bn,bF,aw,aF,av,ah,Nat.reduceEqDiff,reduceCtorEq,bz,aS,oK,hq,jx];refine B9 (oA:=jK) (Jm hc (s:=s) (by omega) (by omega) (s.length+1) (bc false s) ag _ st [] .az (by rw[gL]; omega) uJ (by omega) (by simp) ?_ ?_ ?_ (.inl ⟨rfl,rfl⟩)) _ fun ay ae o h5=>?_
  ·simp only[aE,Nat.reduceEqDiff,reduceCtorEq,bz]
  ·simp only[aE,Nat.reduceEqDiff,reduceCtorEq]
  ·simp only[aE,Nat.reduceEqDiff,reduceCtorEq]
  ·simp only[bF,aw,aF,av,ah,Nat.reduceEqDiff,reduceCtorEq,h5]
   exact kH 2 3 4 (by simp only[aE,Nat.reduceEqDiff,reduceCtorEq]) (by simp only[aE,Nat.reduceEqDiff,reduceCtorEq]) (by simp only[aE,Nat.reduceEqDiff,reduceCtorEq])
 ·simp only[y17,bn,bF,aw,aF,av,ah,Nat.reduceEqDiff,reduceCtorEq,bz,aS,oK,hq]
  exact⟨_,st,kH 2 3 4 (by simp only[aE,Nat.reduceEqDiff,reduceCtorEq]) (by simp only[aE,Nat.reduceEqDiff,reduceCtorEq]<;>rfl) (by simp only[aE,Nat.reduceEqDiff,reduceCtorEq]<;>rfl),rfl⟩
theorem Ei:∀ (f:Nat) (l:List UInt8) (n k:Nat) (r:List AV),iF f l n k = .ok r->AV.cQ r=some r:=by
 intro f
 induction f with
 |zero=>intro l n k r h; cases h; rfl
 |succ f ih =>
  intro l n k r h;cases l with
  |nil=>cases h; rfl
  |cons c l =>
   rw[ko] at h;split at h
   ·split at h
    ·cases h
    ·cases hq:iF f (((c::l).drop (bP (c::l)).2).drop (bc false ((c::l).drop (bP (c::l)).2))) (n+(bP (c::l)).2+bc false ((c::l).drop (bP (c::l)).2)) (k+1) with
     |error e=>rw[hq] at h; cases h
     |ok ts =>
      rw[hq] at h;cases h;have:=ih _ _ _ _ hq;simp only[AV.cQ,jA,AV.dead,this]
   ·cases h
theorem DR {s:List UInt8} {v:AV} {st:St} (h:zU (gC s) v st):AV.dead v=some (Bt (gC s)):=by
 cases hr:gC s with
 |error q =>
  obtain⟨e,p⟩:=q;rw[hr] at h;have h:v = .cv [.az,.int .i64 (.ofNat p),.int .i64 (.ofNat e)]:=h;rw[h]; rfl
 |ok ts =>
  rw[hr] at h;obtain⟨o,rfl,h⟩:=h;have hd:AV.cQ ts=some ts:=by
   unfold gC at hr;split at hr
   ·cases hr
   ·exact Ei _ _ _ _ _ hr
  have ho:AV.dead o=some (nP ts):=by
   rcases h with⟨rfl,rfl⟩ |⟨id,h1,rfl,_,_⟩
   ·rfl
   ·cases ts with
    |nil=>exact absurd rfl h1
    |cons a l =>
     unfold AV.dead;simp only[hd]
     rfl
  show AV.dead (.cv [o,.int .i64 0,.int .i64 0])=some (.cv [nP ts,.int .i64 0,.int .i64 0])
  simp only[AV.dead,AV.cQ,ho]
end
end Go.Ev
