/- Parts of the proof; no condition. -/
import Derived.Test.YthlkmffimhnehaaGreatZah
import Derived.Test.YthlkmffimhnehaaGreatZad
import Derived.Test.YthlkmffimhnehaaGreatProg
import Derived.Test.YthlkmffimhnehaaGreatRows
import Derived.WalkKit
import Derived.Laws.StructEq
import Derived.Shelf.Small.Strs
import Derived.Shelf.Strings.Search1
import Derived.Shelf.Strings.Search2
import Derived.Shelf.Strings.Search3
import Derived.Shelf.Strings.Cut
import Derived.Shelf.LaysM
import Derived.Shelf.Strings.Shaped
import Derived.Shelf.Strings.Prefix
import Derived.Test.YthlkmffimhnehaaGreatZae
set_option linter.unusedSimpArgs false
set_option linter.unusedVariables false
namespace Go.Ab
noncomputable section
open Go.Ev
open Go.RowKit
open Classical
variable {T : TT} {K : Nat → Bool}
structure p7 (T:TT) (K:Nat->Bool) (base:Nat) (g:G) (w:World) (g':G) (w':World):Prop where
 rep:∀ a v,bI w g a v->∃ a',bI w' g' a' v/\Pv T K a a'
 below:Below base w w'
 kZ:g'.kZ=g.kZ
theorem p7.refl (base:Nat) (g:G) (w:World):p7 T K base g w g w:=⟨fun a _ h=>⟨a,h,.same a⟩,.refl base w,rfl⟩
theorem p7.trans {base:Nat} {g g' zl:G} {w w' IU:World} (h:p7 T K base g w g' w') (k:p7 T K base g' w' zl IU):p7 T K base g w zl IU :=
 ⟨fun a v hr=>let ⟨_,h1,h2⟩:=h.rep a v hr; let ⟨a2,h3,h4⟩:=k.rep _ v h1; ⟨a2,h3,h2.trans _ h4⟩,h.below.trans k.below,k.kZ.trans h.kZ⟩
theorem p7.ext {base:Nat} {g g':G} {st ae:St} {w w':World} (h:Ext base g st w g' ae w'):p7 T K base g w g' w':=⟨fun a v hr=>⟨a,hr.ext h,.same a⟩,h.below,h.le.kZ⟩
def Vu (R:AV->AV->Prop) (tm ay:Tr AV):Prop:=∀ k,(tm.get k=none->ay.get k=none)/\∀ x,tm.get k=some x->∃ y,ay.get k=some y/\R x y
theorem vZ {w w':World} {g g':G} {n:Nat} {tm:Tr AV} {a:Act} {R:AV->AV->Prop} (hr:∀ x v,bI w g x v->∃ y,bI w' g' y v/\R x y) (hS:cM w g n tm a) :
  ∃ ay:Tr AV,cM w' g' n ay a/\Vu R tm ay:=by
 obtain⟨ay,h⟩:=yL tm (fun k x y=>bI w' g' y (a.tmps.getD k undef)/\R x y) fun k x hx=>by
  have:=hS.rep k;rw[dC,hx] at this;exact hr x _ this
 have key:∀ t,bI w' g' (aD ay (.t t)) (a.tmps.getD t undef):=fun t=>by
  rw[dC];cases hq:tm.get t with
  |none =>
   rw[(h t).1 hq];have h0:=hS.rep t;rw[dC,hq] at h0;have h0:bI w g gg (a.tmps.getD t undef):=h0;obtain⟨vs,h3,h4⟩:=Ar h0;cases h3;have hv:a.tmps.getD t undef=undef:=h4;rw[hv];exact fC
  |some x =>
   obtain⟨y,hy,hR⟩:=(h t).2 x hq;rw[hy];exact hR.1
 exact⟨ay,⟨hS.defers,hS.size,key⟩,fun k=>⟨(h k).1,fun x hx=>let ⟨y,hy,hR⟩:=(h k).2 x hx; ⟨y,hy,hR.2⟩⟩⟩
abbrev QE:=List AV->St->(AV->St->Prop)->Prop
def iA (P:Program) (T:TT) (K:Nat->Bool) (base f:Nat) (S:QE):Prop :=
 (∃ fn,P.funcs[f]?=some fn/\fn.body.isNone=false/\(fn.name == "runtime.NumGoroutine")=false) /\
  ∀ args st Q,S args st Q->∀ w g vs,g.kZ=base->RL w g args vs->Inv base g st w->Calls P f vs.toArray w fun e w'=>∃ v r g' ae,e = .returned v/\Q r ae/\bI w' g' r v/\Inv base g' ae w'/\p7 T K base g w g' w'
inductive SC where
 |x (c:XC)
 |seq (a b:SC)
 |cond (o:XO) (a b:SC)
 |block (id:Nat) (a:SC)
 |loop (a:SC)
 |ev (pre:XC) (size:Nat) (p v:XO)
 |call (pre:List XR) (dst:Option Nat) (f:Nat) (args:List XO) (post:List XR)
def ym (Tp:Nat->Option TI) (kd:Nat->Nat) (n:Nat):SC->Code->Prop
 | .x xc,c=>jP Tp kd n c=some xc
 | .seq a b,c=>∃ c1 c2,c = .seq c1 c2/\ym Tp kd n a c1/\ym Tp kd n b c2
 | .cond o a b,c=>∃ b' c1 c2,c = .cond b' c1 c2/\aH b'=some o/\ym Tp kd n a c1/\ym Tp kd n b c2
 | .block id a,c=>∃ c1,c = .block id c1/\ym Tp kd n a c1
 | .loop a,c=>∃ c1,c = .loop c1/\ym Tp kd n a c1
 | .ev pre size p v,c=>∃ id l o t x y i draw,c = .region id (l++[o]).toArray draw/\o.op = .store t x y/\o.guard=none/\o.dst=none/\Tp t=some i/\i.size=size/\size≠0/\aH x=some p/\aH y=some v /\
   ((draw=false/\∃ xs,fK Tp kd n (l++[o]) l=some xs/\pre = .aQ xs) \/
    (draw=true/\∃ iH,fK Tp kd n l l=some iH/\oU l iH=some pre/\oz 0 (l++[o])=true/\∀ j,j<l.length->Nat.testBit ((cC [] (l++[o])).getD l.length 0) j=true))
 | .call pre dst f args post,c=>∃ id l1 o l2 cl fo,c = .region id (l1++o::l2).toArray false/\o.op = .call cl/\o.guard=none/\o.dst=dst/\(∀ d,dst=some d->d<n)/\cl.callee = .value fo/\aH fo=some (.c (.fn f [] [])) /\
   jF cl.args.toList=some args/\fK Tp kd n (l1++o::l2) l1=some pre/\fK Tp kd n (l1++o::l2) l2=some post
def Ds (E:Env) (c:XC) (Q:Ex->Tr AV->St->Prop) (tm:Tr AV) (st:St):Prop:=∃ ag d e ay ae,ak (ao E ag d) ag c tm st = .ok e ay ae/\Q e ay ae
def BO (cs:List AV) (off:Nat) (new:List AV) (home:Option (Nat × Nat)):Wr:=⟨cs.length,off,new,(cs.drop off).take new.length,home⟩
def Wrt (T:TT) (K:Nat->Bool) (size:Nat) (pv xv:AV) (Q:Tr AV->St->Prop) (tm:Tr AV) (st:St):Prop :=
 ∃ cs off home M aV,pv = .ro cs off home/\xv.cells.length=size/\off+size<=cs.length/\2<=cs.length/\qZ T aV xv.cells/\(∀ ct∈aV,kK M ct=true)/\nk T (BO cs off xv.cells home) M K /\
  ∀ ay ae,Vu (Up (BO cs off xv.cells home)) tm ay->ae.next=st.next->(∀ k,ve T K (st.heap.get k) (ae.heap.get k)) ->
   (∀ k bX ds,st.heap.get k=some (.box bX ds)->∃ oR,ae.heap.get k=some (.box bX oR)/\kS (BO cs off xv.cells home) ds oR/\((∃ t o,tm.get t=some (.ptr k o))->zT (BO cs off xv.cells home) ds oR))->Q ay ae
def ML (W:(Ex->Tr AV->St->Prop)->Tr AV->St->Prop) (Q:Ex->Tr AV->St->Prop):Nat->Tr AV->St->Prop
 |0,_,_=>False
 |m+1,tm,st=>W (fun e tm st=>match e with
   | .norm=>ML W Q m tm st
   |e=>Q e tm st) tm st
def yh (T:TT) (K:Nat->Bool) (E:Env) (Sg:Nat->QE):SC->(Ex->Tr AV->St->Prop)->Tr AV->St->Prop
 | .x c,Q=>Ds E c Q
 | .seq a b,Q=>yh T K E Sg a fun e tm st=>match e with
   | .norm=>yh T K E Sg b Q tm st
   |e=>Q e tm st
 | .cond o a b,Q=>fun tm st=>∃ t,aD tm o = .bool t/\(t=true->yh T K E Sg a Q tm st)/\(t=false->yh T K E Sg b Q tm st)
 | .block id a,Q=>yh T K E Sg a fun e tm st=>match e with
   | .exit i=>if i=id then Q .norm tm st else Q (.exit i) tm st
   |e=>Q e tm st
 | .loop a,Q=>fun tm st=>∃ m,ML (yh T K E Sg a) Q m tm st
 | .ev pre size p v,Q=>Ds E pre fun e tm st=>e = .norm/\Wrt T K size (aD tm p) (aD tm v) (Q .norm) tm st
 | .call pre dst f args post,Q=>Ds E (.aQ pre) fun e tm st=>e = .norm/\Sg f (nR tm args) st fun r bY=>∀ dh,Vu (Pv T K) tm dh->Ds E (.aQ post) Q (eH dh dst r) bY
section
variable {P : Program} {Tp : Nat → Option TI} {base : Nat} {E : Env} {Sg : Nat → QE} {kd : Nat → Nat} {n : Nat}
theorem Au {call:e8} {ag:Nat} {xs:List XR} {tm ay:Tr AV} {st ae:St} {e:Ex} (h:ak call ag (.aQ xs) tm st = .ok e ay ae):e = .norm/\dm call xs tm st=some (ay,ae):=by
 have h:R.of (dm call xs tm st) = .ok e ay ae:=h;cases hq:dm call xs tm st with
 |none=>rw[hq] at h; cases h
 |some p =>
  obtain⟨dh,bY⟩:=p;rw[hq] at h;have h:R.ok .norm dh bY = .ok e ay ae:=h;injection h with h1 h2 h3
  subst h1 h2 h3;exact⟨rfl,rfl⟩
theorem MQ {call:e8} {ag:Nat} {xs:List XR} {hs:List (Nat × List AV)} {ps:List (Nat × Nat)} {tm ay:Tr AV} {st ae:St} {e:Ex} (h:ak call ag (.nL hs xs ps) tm st = .ok e ay ae):e = .norm/\mC call xs ps (hoist hs tm st).1 (hoist hs tm st).2=some (ay,ae):=by
 have h:R.of (mC call xs ps (hoist hs tm st).1 (hoist hs tm st).2) = .ok e ay ae:=h;cases hq:mC call xs ps (hoist hs tm st).1 (hoist hs tm st).2 with
 |none=>rw[hq] at h; cases h
 |some p =>
  obtain⟨dh,bY⟩:=p;rw[hq] at h;have h:R.ok .norm dh bY = .ok e ay ae:=h;injection h with h1 h2 h3
  subst h1 h2 h3;exact⟨rfl,rfl⟩
theorem LB (hT:bD P Tp) {o:Oper} {t:TypeId} {x y:Operand} {i:TI} {size:Nat} {p v:XO} (ho:o.op = .store t x y) (hd:o.dst=none) (hi:Tp t=some i) (hs:i.size=size) (hz:size≠0) (hp:aH x=some p) (hv:aH y=some v)
  {tm:Tr AV} {st:St} {Q:Tr AV->St->Prop} (hW:Wrt T K size (aD tm p) (aD tm v) Q tm st) {a:Act} {w:World} {g:G} (hS:cM w g n tm a) (hI:Inv base g st w) (kF:g.kZ=base) {Ka:Act->World->Prop} {R:Exit->Act->World->Prop}
  (hK:∀ ay ae a' w' g',Q ay ae->cM w' g' n ay a'->Inv base g' ae w'->p7 T K base g w g' w'->Ka a' w'):Oper.wp P o a w Ka R:=by
 obtain⟨cs,off,home,M,aV,h1,h2,h3,h4,h5,h6,h7,h8⟩:=hW;have hpr:=hS.Cy x p hp;have hvr:=hS.Cy y v hv;rw[h1] at hpr;obtain⟨us,q1,q2,q3,q4⟩:=kM hvr h2 hz;have hul:us.length=(aD tm v).cells.length:=by rw[h2,q4]
 obtain⟨b,k,ae,e1,pU,p6,hA,hup,qQ,vC⟩:=LC (W:=BO cs off (aD tm v).cells home) hI kF h7 hpr (by unfold BO; rw[hul]) q2 q3 (by omega) (by omega) h4 h5 h6
 have cm:=Go.Ev.run_store (hT t i hi) q1 (by rw[q4,hs]) q3 pU
 unfold Oper.wp;have hex:(execOp a.eval o).run P w = .ok .skip (w.setCells b (k+off) us):=by
  simp[execOp,ho,e1,cm]
 rw[hex];show Ka (a.put o.dst undef) _
 rw[hd];obtain⟨ay,iP,hR⟩:=vZ (R:=Up (BO cs off (aD tm v).cells home)) hup hS;refine hK ay ae _ _ g (h8 ay ae hR vC (fun k=>hA.yD k id) fun k bX ds hk=>?_) iP p6 ⟨hA.rep,hA.below,hA.kZ⟩
 obtain⟨oR,d1,d2,d3⟩:=qQ k bX ds hk;refine⟨oR,d1,d2,fun⟨t,o,ht⟩=>d3 ?_⟩
 have:=hS.rep t;rw[dC,ht] at this;obtain⟨b',zg,_⟩:=gV this;rw[zg]; exact fun q=>by cases q
theorem V6 (hm:P.follows .mixedOrders=true) (hT:bD P Tp) (hE:D2 P Tp base E) (hSg:∀ f args st Q,Sg f args st Q->iA P T K base f (Sg f)):∀ (s:SC) (c:Code),ym Tp kd n s c->∀ (Q:Ex->Tr AV->St->Prop) (tm:Tr AV) (st:St),yh T K E Sg s Q tm st ->
  ∀ (a:Act) (w:World) (g:G),cM w g n tm a->Inv base g st w->g.kZ=base->∀ (R:Exit->Act->World->Prop),
   (∀ e ay ae a' w' g',Q e ay ae->cM w' g' n ay a'->Inv base g' ae w'->p7 T K base g w g' w'->R (TF e) a' w')->c.wp P R a w:=by
 have cL:∀ ag d,gA P base (ao E ag d):=fun ag d=>DJ hT hE (fun _ hc hv=>wk hm hT hc hv) ag d
 have hreg:∀ ag d,D1 P Tp base (ao E ag d):=fun ag d=>wk hm hT (cL ag d) (Bo E ag d)
 intro s
 induction s with
 |x xc =>
  intro c hc Q tm st hW a w g hS hI kF R hR;obtain⟨ag,d,e,ay,ae,hx,hQ⟩:=hW;exact HN hT (cL ag d) (hreg ag d) ag c xc hc tm st e ay ae hx a w g hS hI R fun a' w' g' iP p6 D5=>hR e ay ae a' w' g' hQ iP p6 (.ext D5)
 |seq s1 s2 i1 i2 =>
  intro c hc Q tm st hW a w g hS hI kF R hR;obtain⟨c1,c2,rfl,h1,h2⟩:=hc;refine wp_seq (i1 c1 h1 _ tm st hW a w g hS hI kF _ fun e ay ae a' w' g' hQ iP p6 hA=>?_)
  cases e with
  |norm=>exact i2 c2 h2 Q ay ae hQ a' w' g' iP p6 (hA.kZ.trans kF) R fun e cB fJ a2 w2 g2 Tu iO xt Q3=>hR e cB fJ a2 w2 g2 Tu iO xt (hA.trans Q3)
  |exit i=>exact pd (by exact fun h=>by cases h) (hR (.exit i) ay ae a' w' g' hQ iP p6 hA)
  |ret=>exact pd (by exact fun h=>by cases h) (hR .ret ay ae a' w' g' hQ iP p6 hA)
 |cond o s1 s2 i1 i2 =>
  intro c hc Q tm st hW a w g hS hI kF R hR;obtain⟨b',c1,c2,rfl,h0,h1,h2⟩:=hc;obtain⟨t,ht,hW1,hW2⟩:=hW;have hb:=hS.Cy b' o h0;rw[ht] at hb;cases t with
  |true=>exact wp_cond (dI hb) (i1 c1 h1 Q tm st (hW1 rfl) a w g hS hI kF R hR)
  |false=>exact wp_cond (dI hb) (i2 c2 h2 Q tm st (hW2 rfl) a w g hS hI kF R hR)
 |block id s1 i1 =>
  intro c hc Q tm st hW a w g hS hI kF R hR;obtain⟨c1,rfl,h1⟩:=hc;refine wp_block (i1 c1 h1 _ tm st hW a w g hS hI kF _ fun e ay ae a' w' g' hQ iP p6 hA=>?_)
  cases e with
  |norm=>exact hR .norm ay ae a' w' g' hQ iP p6 hA
  |ret=>exact hR .ret ay ae a' w' g' hQ iP p6 hA
  |exit i =>
   show if i=id then R .normal a' w' else R (.exit i) a' w'
   have hQ:if i=id then Q .norm ay ae else Q (.exit i) ay ae:=hQ
   by_cases hi:i=id
   ·rw[bJ hi] at hQ ⊢
    exact hR .norm ay ae a' w' g' hQ iP p6 hA
   ·rw[ba hi] at hQ ⊢
    exact hR (.exit i) ay ae a' w' g' hQ iP p6 hA
 |loop s1 i1 =>
  intro c hc Q tm st hW a w g hS hI kF R hR;obtain⟨c1,rfl,h1⟩:=hc;obtain⟨m,hW⟩:=hW;have key:∀ (m:Nat) (tm:Tr AV) (st:St),ML (yh T K E Sg s1) Q m tm st->∀ (a:Act) (w:World) (g:G),cM w g n tm a->Inv base g st w->g.kZ=base ->
    (∀ e ay ae a' w' g',Q e ay ae->cM w' g' n ay a'->Inv base g' ae w'->p7 T K base g w g' w'->R (TF e) a' w')->Code.rounds P c1 R m a w:=by
   intro m
   induction m with
   |zero=>intro tm st h; exact h.elim
   |succ m ih =>
    intro tm st h a w g hS hI kF hR;rw[rounds_succ];refine i1 c1 h1 _ tm st h a w g hS hI kF _ fun e ay ae a' w' g' hQ iP p6 hA=>?_
    cases e with
    |norm=>exact ih ay ae hQ a' w' g' iP p6 (hA.kZ.trans kF) fun e cB fJ a2 w2 g2 Tu iO xt Q3=>hR e cB fJ a2 w2 g2 Tu iO xt (hA.trans Q3)
    |exit i=>exact pd (by exact fun h=>by cases h) (hR (.exit i) ay ae a' w' g' hQ iP p6 hA)
    |ret=>exact pd (by exact fun h=>by cases h) (hR .ret ay ae a' w' g' hQ iP p6 hA)
  exact wp_loop_rounds m (key m tm st hW a w g hS hI kF hR)
 |ev pre size p v =>
  intro c hc Q tm st hW a w g hS hI kF R hR;obtain⟨id,l,o,t,x,y,i,draw,rfl,ho,hg,hd,hi,hs,hz,hp,hv,zf⟩:=hc;obtain⟨ag,d,e,ay,ae,hx,he,hW⟩:=hW;subst he;rcases zf with⟨rfl,xs,h1,rfl⟩ |⟨rfl,iH,h1,h2,h3,h4⟩
  ·obtain⟨_,hx⟩:=Au hx
   refine wp_region_list ?_
   have hl:(l++[o]).toArray.toList=l++[o]:=rfl;rw[hl];refine Ce hT (cL ag d) (ops:=(l++[o]).toArray) l xs tm st ay ae h1 hx a w g hS hI fun a1 w1 g1 fP uK sP=>?_
   refine vP hg (LB hT ho hd hi hs hz hp hv hW fP uK (sP.le.kZ.trans kF) fun cB fJ a2 w2 g2 Tu iO xt Q3=>?_)
   exact hR .norm cB fJ a2 w2 g2 Tu iO xt ((p7.ext sP).trans Q3)
  ·obtain⟨pE,xs,ps,rfl⟩:=qV h2
   obtain⟨_,hx⟩:=MQ hx;have hpush:(l++[o]).toArray=l.toArray.push o:=by simp
   rw[hpush];refine wp_region_any hm ?_
   have hany:=Ch (Q:=Uo fun a1 w1=>∃ g1,cM w1 g1 n ay a1/\Inv base g1 ae w1/\Ext base g st w g1 ae w1) (ops:=l.toArray) hT (cL ag d) (Bo E ag d) (kd:=kd) (n:=n) (iH:=iH) h1 h2 hx hS hI fun a1 w1 g1 fP uK sP=>⟨g1,fP,uK,sP⟩
   have hcut:=IK (P:=P) (pre:=l.toArray) (o:=o) (Q:=R) (Z:=fun a1 w1=>∃ g1,cM w1 g1 n ay a1/\Inv base g1 ae w1/\Ext base g st w g1 ae w1) (by simpa using h3) (fun j hj=>by simpa using h4 j (by simpa using hj)) ?_ _ _ a w.drew (by simp) ?_ hany
   ·have e1:(Array.replicate l.toArray.size false).push false=Array.replicate (l.toArray.push o).size false:=by
     rw[<-Array.replicate_succ]; simp
    have e2:l.toArray.size+1=(l.toArray.push o).size:=by simp
    rw[e1,e2] at hcut;exact hcut
   ·rintro a1 w1 ⟨g1,fP,uK,sP⟩
    refine wpOp_step (o:=o) (by simp) fun K' hK=>?_
    have hwt:Region.wanted o (yielded (l.toArray.push o) a1.tmps)=true:=by simp[Region.wanted,hg]
    rw[bJ hwt];refine LB hT ho hd hi hs hz hp hv hW fP uK (sP.le.kZ.trans kF) fun cB fJ a2 w2 g2 Tu iO xt Q3=>hK _ _ ?_
    exact hR .norm cB fJ a2 w2 g2 Tu iO xt ((p7.ext sP).trans Q3)
   ·intro j oj _ Kb
    exfalso
    unfold marks at Kb;rw[mD,RZ] at Kb
    split at Kb<;>simp at Kb
 |call pre dst f args post =>
  intro c hc Q tm st hW a w g hS hI kF R hR;obtain⟨id,l1,o,l2,cl,fo,rfl,ho,hg,hd,aO,iC,hfo,hargs,h1,h2⟩:=hc;obtain⟨ag,d,e,ay,ae,hx,he,hW⟩:=hW;subst he;obtain⟨_,hx⟩:=Au hx;refine wp_region_list ?_
  have hl:(l1++o::l2).toArray.toList=l1++o::l2:=rfl;rw[hl];refine Ce hT (cL ag d) (ops:=(l1++o::l2).toArray) l1 pre tm st ay ae h1 hx a w g hS hI fun a1 w1 g1 fP uK sP=>?_
  refine vP hg ?_
  obtain⟨⟨fn,Xn,C9,Ox⟩,hspec⟩:=hSg f _ _ _ hW;have hof:=fP.Cy fo _ hfo;obtain⟨us,vs,q2,q3,hv⟩:=At hof;cases q2;cases q3;have Ta:=nd hargs fun x _=>fP.Cy x
  have cm:(execOp a1.eval o).run P w1 = .ok (.enter f (cl.args.toList.map a1.eval).toArray) w1:=by
   have Fu:¬ fn.name = "runtime.NumGoroutine":=by simpa using Ox
   have FI:¬ fn.body=none:=fun h=>by rw[h] at C9; cases C9
   have hmap:cl.args.map a1.eval=(cl.args.toList.map a1.eval).toArray:=by
    apply Array.ext'
    simp
   simp[execOp,ho,resolve,iC,hv,Deferred.ofValue,invoke,callFunc,Sem.run_bind,Xn,FI,Fu,hmap]
  unfold Oper.wp;rw[cm];refine(hspec _ _ _ hW w1 g1 _ (sP.le.kZ.trans kF) Ta uK).mono fun e w2 ⟨v,r,g2,fJ,he,hQ,hr,xt,Q3⟩=>?_
  subst he;show wpList P _ R l2 (a1.put o.dst v) w2
  obtain⟨dh,iO,hR2⟩:=vZ (R:=Pv T K) Q3.rep fP;obtain⟨lim2,d2,e2,I0,yR,Ob,Tu⟩:=hQ dh hR2;obtain⟨rfl,hx3⟩:=Au Ob;have O1:cM w2 g2 n (eH dh dst r) (a1.put o.dst v):=by
   rw[hd];exact iO.put aO hr
  refine GY hT (cL lim2 d2) (ops:=(l1++o::l2).toArray) l2 post _ fJ I0 yR h2 hx3 _ w2 g2 O1 xt fun a4 w4 g4 hS4 hI4 hE4=>?_
  exact hR .norm I0 yR a4 w4 g4 Tu hS4 hI4 (((p7.ext sP).trans Q3).trans (.ext hE4))
end
end
end Go.Ab
namespace Go.Ab
open Go.Ev
open Go.RowKit
inductive Sh where
 |x
 |seq (a b:Sh)
 |cond (a b:Sh)
 |block (a:Sh)
 |loop (a:Sh)
 |ev
 |call (k:Nat)
def vW {α:Type}:List α->Option (List α × α)
 | []=>none
 |x::l=>match vW l with
  |none=>some ([],x)
  |some p=>some (x::p.1,p.2)
def Ag {α:Type}:List α->Nat->Option (List α × α × List α)
 | [],_=>none
 |x::l,0=>some ([],x,l)
 |x::l,k+1=>match Ag l k with
  |none=>none
  |some p=>some (x::p.1,p.2.1,p.2.2)
def dstOk (n:Nat):Option Nat->Bool
 |none=>true
 |some d=>Nat.blt d n
def na (Tp:Nat->Option TI) (kd:Nat->Nat) (n:Nat):Sh->Code->Option SC
 | .x,c=>opt (jP Tp kd n c) fun x=>some (.x x)
 | .seq a b,.seq c d=>opt (na Tp kd n a c) fun x=>opt (na Tp kd n b d) fun y=>some (.seq x y)
 | .cond a b,.cond o c d=>opt (aH o) fun o=>opt (na Tp kd n a c) fun x=>opt (na Tp kd n b d) fun y=>some (.cond o x y)
 | .block a,.block id c=>opt (na Tp kd n a c) fun x=>some (.block id x)
 | .loop a,.loop c=>opt (na Tp kd n a c) fun x=>some (.loop x)
 | .ev,.region id ops draw=>opt (vW ops.toList) fun p=>match p.2.op,p.2.guard,p.2.dst with
  | .store t x y,none,none=>opt (Tp t) fun i=>match Nat.beq i.size 0 with
   |true=>none
   |false=>opt (aH x) fun a=>opt (aH y) fun v=>match draw with
    |false=>opt (fK Tp kd n (p.1++[p.2]) p.1) fun xs=>some (.ev (.aQ xs) i.size a v)
    |true=>opt (fK Tp kd n p.1 p.1) fun iH=>opt (oU p.1 iH) fun pre=>match oz 0 (p.1++[p.2])&&(List.range p.1.length).all (fun j=>Nat.testBit ((cC [] (p.1++[p.2])).getD p.1.length 0) j) with
     |true=>some (.ev pre i.size a v)
     |false=>none
  |_,_,_=>none
 | .call k,.region id ops false=>opt (Ag ops.toList k) fun p=>match p.2.1.op,p.2.1.guard with
  | .call cl,none=>match cl.callee with
   | .value fo=>match aH fo with
    |some (.c (.fn f [] []))=>match dstOk n p.2.1.dst with
     |true=>opt (jF cl.args.toList) fun args=>opt (fK Tp kd n (p.1++p.2.1::p.2.2) p.1) fun pre=>opt (fK Tp kd n (p.1++p.2.1::p.2.2) p.2.2) fun post=>some (.call pre p.2.1.dst f args post)
     |false=>none
    |_=>none
   |_=>none
  |_,_=>none
 |_,_=>none
theorem Jb {α:Type}:∀ {l:List α} {p:List α × α},vW l=some p->l=p.1++[p.2]:=by
 intro l
 induction l with
 |nil=>intro p h; cases h
 |cons x l ih =>
  intro p h;unfold vW at h;split at h
  ·rename_i hq
   cases h
   cases l with
   |nil=>rfl
   |cons y l =>
    unfold vW at hq;split at hq<;>cases hq
  ·rename_i q hq
   cases h
   rw[ih hq]; rfl
theorem Jc {α:Type}:∀ {l:List α} {k:Nat} {p:List α × α × List α},Ag l k=some p->l=p.1++p.2.1::p.2.2:=by
 intro l
 induction l with
 |nil=>intro k p h; cases h
 |cons x l ih =>
  intro k p h;cases k with
  |zero=>cases h; rfl
  |succ k =>
   unfold Ag at h;split at h
   ·cases h
   ·rename_i q hq
    cases h
    rw[ih hq]; rfl
theorem Qn {ops:Array Oper} {l:List Oper} (h:ops.toList=l):ops=l.toArray:=by
 rw[<-h]
section
variable {Tp : Nat → Option TI} {kd : Nat → Nat} {n : Nat}
theorem zD:∀ (sh:Sh) (c:Code) (s:SC),na Tp kd n sh c=some s->ym Tp kd n s c:=by
 intro sh
 induction sh with
 |x =>
  intro c s h;have h:opt (jP Tp kd n c) (fun x=>some (.x x))=some s:=by
   unfold na at h; exact h
  obtain⟨x,h1,h⟩:=au h;cases h;exact h1
 |seq a b ia ib =>
  intro c s h;cases c<;>first |(cases h; done) |skip
  obtain⟨x,h1,h⟩:=au h;obtain⟨y,h2,h⟩:=au h;cases h;exact⟨_,_,rfl,ia _ _ h1,ib _ _ h2⟩
 |cond a b ia ib =>
  intro c s h;cases c<;>first |(cases h; done) |skip
  obtain⟨o,h0,h⟩:=au h;obtain⟨x,h1,h⟩:=au h;obtain⟨y,h2,h⟩:=au h;cases h;exact⟨_,_,_,rfl,h0,ia _ _ h1,ib _ _ h2⟩
 |block a ia =>
  intro c s h;cases c<;>first |(cases h; done) |skip
  obtain⟨x,h1,h⟩:=au h;cases h;exact⟨_,rfl,ia _ _ h1⟩
 |loop a ia =>
  intro c s h;cases c<;>first |(cases h; done) |skip
  obtain⟨x,h1,h⟩:=au h;cases h;exact⟨_,rfl,ia _ _ h1⟩
 |ev =>
  intro c s h;cases c<;>first |(cases h; done) |skip
  rename_i id ops draw;obtain⟨⟨l,o⟩,h1,h⟩:=au h;have J8:=Qn (Jb h1);simp only at h J8;split at h<;>try cases h
  rename_i t x y ho hg hd;obtain⟨i,hi,h⟩:=au h;split at h<;>try cases h
  rename_i hz;have hz:i.size≠0:=by
   intro e;rw[e] at hz; cases hz
  obtain⟨p,hp,h⟩:=au h;obtain⟨v,hv,h⟩:=au h;cases draw with
  |false =>
   obtain⟨xs,hx,h⟩:=au h;cases h;exact⟨id,l,o,t,x,y,i,false,by rw[J8],ho,hg,hd,hi,rfl,hz,hp,hv,.inl ⟨rfl,xs,hx,rfl⟩⟩
  |true =>
   obtain⟨iH,hx,h⟩:=au h;obtain⟨pre,u3,h⟩:=au h;cases hb:(oz 0 (l++[o])&&(List.range l.length).all fun j=>Nat.testBit ((cC [] (l++[o])).getD l.length 0) j) with
   |false=>rw[hb] at h; cases h
   |true =>
    rw[hb] at h;cases h;have hb:=Bool.and_eq_true_iff.1 hb;exact⟨id,l,o,t,x,y,i,true,by rw[J8],ho,hg,hd,hi,rfl,hz,hp,hv,.inr ⟨rfl,iH,hx,u3,hb.1,fun j hj=>JA.1 hb.2 j (tb.2 hj)⟩⟩
 |call k =>
  intro c s h;cases c<;>first |(cases h; done) |skip
  rename_i id ops draw;cases draw with
  |true=>cases h
  |false =>
   obtain⟨⟨l1,o,l2⟩,h1,h⟩:=au h;have J8:=Qn (Jc h1);simp only at h J8;split at h<;>try cases h
   rename_i cl ho hg;split at h<;>try cases h
   rename_i fo iC;split at h<;>try cases h
   rename_i f hfo;split at h<;>try cases h
   rename_i hd;obtain⟨args,ha,h⟩:=au h;obtain⟨pre,u3,h⟩:=au h;obtain⟨post,hpost,h⟩:=au h;cases h;refine⟨id,l1,o,l2,cl,fo,by rw[J8],ho,hg,rfl,fun d he=>?_,iC,hfo,ha,u3,hpost⟩
   rw[he] at hd;exact Nat.lt_of_succ_le (gW hd)
end
noncomputable section
open Classical
variable {T : TT} {K : Nat → Bool}
def KA (rs:List mv) (Q:AV->St->Prop) (e:Ex) (tm:Tr AV) (st:St):Prop:=(e = .norm\/e = .ret)/\∃ vs,gu tm st rs=some vs/\Q (jJ vs) st
def GP (T:TT) (K:Nat->Bool) (E:Env) (Sg:Nat->QE) (s:SC) (rs:List mv):QE:=fun args st Q=>yh T K E Sg s (KA rs Q) (bb args 0 .nil) st
section
variable {P : Program} {Tp : Nat → Option TI} {base : Nat} {E : Env} {Sg : Nat → QE} {kd : Nat → Nat}
theorem MN (hm:P.follows .mixedOrders=true) (hT:bD P Tp) (hE:D2 P Tp base E) (hSg:∀ f args st Q,Sg f args st Q->iA P T K base f (Sg f)) {f:Nat} {fn:Func} {c:Code} {s:SC} {rs:List mv} (hf:P.funcs[f]?=some fn) (hb:fn.body=some c)
  (hn:(fn.name == "runtime.NumGoroutine")=false) (hs:ym Tp kd fn.ntmps s c) (S9:iy Tp fn.results.toList=some rs):iA P T K base f (GP T K E Sg s rs):=by
 refine⟨⟨fn,hf,by rw[hb]; rfl,hn⟩,fun args st Q hW w g vs kF hA hI=>?_⟩
 refine calls_of_wp hf hb ?_
 refine V6 hm hT hE hSg s c hs _ _ st hW _ w g (x7 hA fn.ntmps) hI kF _ fun e ay ae a' w' g' hQ iP p6 BI=>?_
 obtain⟨he,us,h3,hq⟩:=hQ;have fin:a'.defers=[]/\∃ v,(results fn a'.tmps).run P w' = .ok v w'/\(∃ u r zl gn,Ending.returned v = .returned u/\Q r gn/\bI w' zl r u/\Inv base zl gn w'/\p7 T K base g w zl w'):=by
  obtain⟨us',h4,h5⟩:=wi hT iP p6 _ _ S9 us h3;exact⟨iP.defers,_,uC h4,_,_,g',ae,rfl,hq,Gz h5,p6,BI⟩
 rcases he with rfl |rfl
 ·exact fin
 ·exact fin
theorem iA.mono {f:Nat} {S S':QE} (h:iA P T K base f S) (hs:∀ args st Q,S' args st Q->S args st Q):iA P T K base f S' :=
 ⟨h.1,fun args st Q hq=>h.2 args st Q (hs args st Q hq)⟩
end
end
end Go.Ab
namespace Go.Ab
noncomputable section
open Go.Ev
open Classical
variable {T : TT} {K X : Nat → Bool} {R : AV → AV → Prop} {ρ ρ' : cz}
inductive L2 (R:AV->AV->Prop):List AV->List AV->Prop
 |nil:L2 R [] []
 |cons {a b:AV} {l m:List AV}:R a b->L2 R l m->L2 R (a::l) (b::m)
theorem L2.refl (h:∀ a,R a a):∀ l,L2 R l l
 | []=>.nil
 |a::l=>.cons (h a) (L2.refl h l)
theorem L2.length {l m:List AV} (h:L2 R l m):m.length=l.length:=by
 induction h with
 |nil=>rfl
 |cons _ _ ih=>simp[ih]
def wA:AV->Bool
 | .bool _=>true
 | .int _ _=>true
 | .str _=>true
 | .iL=>true
 | .ptr _ _=>true
 | .az=>true
 | .ks _ _ _=>true
 | .kU=>true
 | .mp _=>true
 | .kV=>true
 | .any=>true
 | .cv []=>true
 |_=>false
structure qq (T:TT) (K X:Nat->Bool) (R:AV->AV->Prop):Prop where
 plain:∀ a b,R a b->wA a=true->b=a
 sl:∀ s es t b,R (.sl s es t) b->∃ cr,b = .sl s cr t/\cr.length=es.length/\∀ (i:Nat) e e',es[i]?=some e->cr[i]?=some e'->∀ τ d,K τ=true->T.get τ=some d->d.aV.length=s->HT T τ e->HT T τ e'
 agg:∀ cs b,R (.agg cs) b->∃ cD,b = .agg cD/\L2 R cs cD
 ro:∀ cs off h b,R (.ro cs off h) b->∃ cD,b = .ro cD off h/\cD.length=cs.length/\(∀ τ,K τ=true->HT T τ (.agg cs)->HT T τ (.agg cD))/\(X cs.length=true->L2 R cs cD)
section
variable {W : Wr} {M : Nat → Bool}
theorem zZ:∀ {a b:List AV},kS W a b->L2 (Up W) a b
 |_,_,.nil=>.nil
 |_,_,.cons _ _ _ _ h1 h2=>.cons h1 (zZ h2)
theorem VO (hS:nk T W M K):qq T K (fun n=>!(Nat.beq n W.s)) (Up W):=by
 refine⟨fun a b h hp=>?_,fun s es t b h=>?_,fun cs b h=>?_,fun cs off hm b h=>?_⟩
 ·cases h with
  |same=>rfl
  |ro=>cases hp
  |sl=>cases hp
  |fn=>cases hp
  |agg=>cases hp
  |cv cs cD h =>
   cases cs with
   |nil=>cases h; rfl
   |cons=>cases hp
 ·cases h with
  |same=>exact⟨es,rfl,rfl,fun i e e' he eO τ d _ _ _ q=>by rw[he] at eO; cases eO; exact q⟩
  |sl _ _ cr _ h=>exact⟨cr,rfl,h.length,fun i e e' he eO τ d q1 q2 q3 q4=>Bf hS h he eO ((q4.len q2).get.1.trans q3) q1 q4⟩
 ·cases h with
  |same=>exact⟨cs,rfl,L2.refl (fun a=>.same a) _⟩
  |agg _ cD h=>exact⟨cD,rfl,zZ h⟩
 ·cases h with
  |same=>exact⟨cs,rfl,rfl,fun _ _ q=>q,fun _=>L2.refl (fun a=>.same a) _⟩
  |ro _ cD _ _ hm =>
   cases hm with
   |cons _ _ _ _ cy _ _ h1 h2 h3 =>
    have hml:cy.length=cs.length:=h1.length;refine⟨cD,rfl,?_,fun τ hk q=>GB hS q hk cy h1 _ _ h2,fun hX=>?_⟩
    ·rcases h2.2 with⟨_,e⟩ |⟨_,e2,_,e⟩
     ·have e:cD=cy:=e
      rw[e,hml]
     ·have e:cD=aZ cy W.fo W.new:=e
      rw[e,l6 cy W.fo W.new e2]; simp; omega
    ·rcases h2.2 with⟨_,e⟩ |⟨e1,_⟩
     ·have e:cD=cy:=e
      rw[e]; exact zZ h1
     ·rw[e1,fV] at hX; cases hX
theorem EX:∀ {a b:List AV},uo T K a b->L2 (Pv T K) a b
 |_,_,.nil=>.nil
 |_,_,.cons _ _ _ _ h1 h2=>.cons h1 (EX h2)
theorem Wj:qq T K (fun _=>false) (Pv T K):=by
 refine⟨fun a b h hp=>?_,fun s es t b h=>?_,fun cs b h=>?_,fun cs off hm b h=>?_⟩
 ·cases h with
  |same=>rfl
  |ro=>cases hp
  |sl=>cases hp
  |fn=>cases hp
  |agg=>cases hp
  |cv cs cD h =>
   cases cs with
   |nil=>cases h; rfl
   |cons=>cases hp
 ·cases h with
  |same=>exact⟨es,rfl,rfl,fun i e e' he eO τ d _ _ _ q=>by rw[he] at eO; cases eO; exact q⟩
  |sl _ _ cr _ h1 h2=>exact⟨cr,rfl,h1,h2⟩
 ·cases h with
  |same=>exact⟨cs,rfl,L2.refl (fun a=>.same a) _⟩
  |agg _ cD h=>exact⟨cD,rfl,EX h⟩
 ·cases h with
  |same=>exact⟨cs,rfl,rfl,fun _ _ q=>q,fun hX=>by cases hX⟩
  |ro _ cD _ _ h1 h2=>exact⟨cD,rfl,h1,h2,fun hX=>by cases hX⟩
end
def QD (a b:AV):Prop:=b=a\/∃ s es cr t,a = .sl s es t/\b = .sl s cr t/\cr.length=es.length
structure QF (T:TT) (K:Nat->Bool) (x y:AV):Prop where
 bN:bN y=y
 len:bB y=bB x
 aN:QD x y
 sz:∀ s,zQ s x->zQ s y
 tp:yc x->yc y
 ty:∀ t,K t=true->j3 T t x->j3 T t y
 pf:∀ t i d,K t=true->T.get t=some d->zQ d.aV.length x->(∀ e∈(elems x).take i,HT T t e)->∀ e∈(elems y).take i,HT T t e
theorem Jw (hR:qq T K X R) {x y:AV} (hs:bN x=x) (h:R x y):QF T K x y:=by
 have same:y=x->QF T K x y:=by
  rintro rfl
  exact⟨hs,rfl,.inl rfl,fun _ q=>q,fun q=>q,fun _ _ q=>q,fun _ _ _ _ _ _ q=>q⟩
 cases x with
 |az=>exact same (hR.plain _ _ h rfl)
 |ks=>exact same (hR.plain _ _ h rfl)
 |sl s es t =>
  obtain⟨cr,rfl,hl,he⟩:=hR.sl _ _ _ _ h;have get:∀ (i:Nat) e',cr[i]?=some e'->∃ e,es[i]?=some e:=fun i e' hi=>by
   obtain⟨q,_⟩:=fU.1 hi
   exact⟨_,ey (by omega)⟩
  refine⟨rfl,hl,.inr ⟨s,es,cr,t,rfl,rfl,hl⟩,fun s' q=>?_,fun q=>?_,fun τ hk q=>?_,fun τ i d hk hd hz q e hm=>?_⟩
  ·rcases q with q |⟨_,_,q⟩
   ·cases q
   ·cases q; exact .inr ⟨_,_,rfl⟩
  ·rcases q with q |⟨_,_,_,q⟩
   ·cases q
   ·cases q; exact .inr ⟨_,_,_,rfl⟩
  ·rcases q with q |⟨d,Vb,aN,hd,q,hq⟩
   ·cases q
   ·injection q with q1 q2 q3
    subst q2;refine .inr ⟨d,cr,t,hd,by rw[q1],fun e' hm=>?_⟩
    obtain⟨i,hi⟩:=MV hm
    obtain⟨e,pF⟩:=get i e' hi;exact he i e e' pF hi τ d hk hd q1.symm (hq e (pT pF))
  ·rcases hz with hz |⟨_,_,hz⟩
   ·cases hz
   ·injection hz with q1 q2 q3
    obtain⟨j,hj⟩:=MV hm
    have hj2:(cr.take i)[j]?=some e:=hj;rw[pS] at hj2
    split at hj2
    ·rename_i aO
     obtain⟨e0,QY⟩:=get j e hj2;refine he j e0 e QY hj2 τ d hk hd q1.symm (q e0 ?_)
     refine pT (i:=j) ?_
     show(es.take i)[j]?=some e0
     rw[pS,bJ aO]; exact QY
    ·cases hj2
 |_=>cases hs
structure HS where
 mp:List (Nat × Nat)
 F:ai
 nx:Nat
def Hf (l:List (Nat × Nat)) (n:Nat):Option Nat:=cX (fun p=>Bool.rec none (some p.2) (Nat.beq p.1 n)) l
def Og (T:TT) (K:Nat->Bool) (F0:ai) (n v:Nat) (F:ai) (f:Fact):ai:=match f with
 | .ty m t=>Bool.rec F (Bool.rec (Option.rec F (fun d=>F.fact v (.sz v d.aV.length)) (T.get t)) (oN T F v t) (K t)) (Nat.beq m n)
 | .sz m s=>Bool.rec F (F.fact v (.sz v s)) (Nat.beq m n)
 | .tp m=>Bool.rec F (F.fact v (.tp v)) (Nat.beq m n)
 | .pf m i t=>Bool.rec F (F.fact v (.pf v i t)) (aq (aq (Nat.beq m n) (K t)) (Option.rec false (fun d=>gF T F0 n d.aV.length) (T.get t)))
 |_=>F
def hvN (T:TT) (K:Nat->Bool) (F0:ai) (n:Nat) (h:HS):HS :=
 ⟨(n,h.nx)::h.mp,bm (Og T K F0 n h.nx) (fF F0.fs n) (h.F.eq (af.add (af.at (8*h.nx+2)) (-1) (af.at (8*n+2)))),h.nx+1⟩
def hvA (T:TT) (K:Nat->Bool) (F0:ai) (x:SA) (h:HS):Option (SA × HS):=match x with
 | .sl n=>some (.sl h.nx,hvN T K F0 n h)
 | .int k l=>some (.int k l,h)
 | .bl f=>some (.bl f,h)
 | .str s=>some (.str s,h)
 | .ptr n o=>some (.ptr n o,h)
 | .iD v=>Bool.rec none (some (.iD v,h)) (wA v)
 |_=>none
def J3 (T:TT) (K:Nat->Bool) (F0:ai):List SA->HS->Option (List SA × HS)
 | [],h=>some ([],h)
 |x::l,h=>match hvA T K F0 x h with
  |none=>none
  |some (y,h1)=>match J3 T K F0 l h1 with
   |none=>none
   |some (m,h2)=>some (y::m,h2)
def hvB (T:TT) (K:Nat->Bool) (F0:ai):List uq->HS->Option (List uq × HS)
 | [],h=>some ([],h)
 |p::l,h=>match J3 T K F0 p.2.2 h with
  |none=>none
  |some (cs,h1)=>match hvB T K F0 l ⟨h1.mp,h1.F,h1.nx+1⟩ with
   |none=>none
   |some (m,h2)=>some ((p.1,h1.nx,cs)::m,h2)
def te (h:HS) (n:Nat):Nat:=Option.rec n (fun v=>v) (Hf h.mp n)
def Of (T:TT) (K:Nat->Bool) (F0:ai) (Le:List Nat) (cs:List SA) (off n:Nat) (i:af) (h:HS):Option (SV × HS):=match Le with
 | []=>none
 |t::ts=>match T.get t with
  |none=>none
  |some d=>br (aq (Nat.beq d.aV.length cs.length) (aU (fun t=>aq (K t) (ly T F0 (.agg cs) t)) (t::ts)))
    (some (.ro (eZ d.aV h.nx) off (te h n) i,⟨h.mp,bm (kO T h.nx) (t::ts) h.F,h.nx+cs.length⟩))
def WZ:List SA->Nat->ai->ai
 | [],_,F=>F
 |x::l,v,F=>WZ l (v+1) (match x with
  | .int _ c=>F.eq (af.add (af.at (8*v)) (-1) c)
  |_=>F)
def Oe (T:TT) (K:Nat->Bool) (F0:ai) (Le:List Nat) (cs:List SA) (off n:Nat) (i:af) (h:HS):Option (SV × HS):=match Le with
 | []=>(match J3 T K F0 cs h with
  |none=>none
  |some (y,h1)=>some (.ro y off (te h1 n) i,h1))
 |t::ts=>(match Of T K F0 (t::ts) cs off n i h with
  |none=>none
  |some (v,h1)=>some (v,⟨h1.mp,WZ cs h.nx h1.F,h1.nx⟩))
def hvV (T:TT) (K X:Nat->Bool) (F0:ai) (Le:List Nat) (v:SV) (h:HS):Option (SV × HS):=match v with
 | .e (.a x)=>(match hvA T K F0 x h with
  |none=>none
  |some (y,h1)=>some (.e (.a y),h1))
 | .e (.agg cs)=>(match J3 T K F0 cs h with
  |none=>none
  |some (y,h1)=>some (.e (.agg y),h1))
 | .ro cs off n i=>Bool.rec (Of T K F0 Le cs off n i h) (Oe T K F0 Le cs off n i h) (X cs.length)
 |_=>none
def Od (T:TT) (K X:Nat->Bool) (F0:ai) (old:Tr SV):List (Nat × List Nat)->Tr SV->HS->Option (Tr SV × HS)
 | [],s,h=>some (s,h)
 |p::l,s,h=>match old.get p.1 with
  |none=>Od T K X F0 old l s h
  |some v=>match hvV T K X F0 p.2 v h with
   |none=>none
   |some (v',h')=>Od T K X F0 old l (s.set p.1 v') h'
def hv (T:TT) (K X:Nat->Bool) (cI:List (Nat × List Nat)) (S:Sy):Option (Sy × HS):=match hvB T K S.F S.hp ⟨[],S.F,S.nx⟩ with
 |none=>none
 |some (hp,h1)=>match Od T K X S.F S.sl cI .nil h1 with
  |none=>none
  |some (sl,h2)=>some ({sl:=sl,hp:=hp,ar:=[],live:=S.live.filterMap (Hf h2.mp),F:=h2.F,nx:=h2.nx },h2)
structure lf (T:TT) (S:Sy) (ρ:cz) (R:AV->AV->Prop) (h:HS) (ρ1:cz):Prop where
 agree:aj ρ ρ1 S.nx
 le:S.nx<=h.nx
 yC:∀ ρ2,aj ρ1 ρ2 h.nx->Good T ρ2 h.F
 mp:∀ n v,(n,v)∈h.mp->∃ x y,(∀ ρ2,aj ρ ρ2 S.nx->bN (ρ2 n)=x)/\(∀ ρ2,aj ρ1 ρ2 h.nx->bN (ρ2 v)=y)/\R x y/\QD x y
theorem me {l:List (Nat × Nat)} {n v:Nat} (h:Hf l n=some v):(n,v)∈l:=by
 obtain⟨p,hp,h1⟩:=jo h;cases hb:Nat.beq p.1 n with
 |false=>rw[hb] at h1; cases h1
 |true =>
  rw[hb] at h1;have h1:some p.2=some v:=h1;cases h1;have:p.1=n:=bt hb;rw[<-this]; exact hp
variable {own : Nat → Prop} {S : Sy} {tm ay : Tr AV} {st ae : St}
theorem Sat.yC (hS:Sat T own ρ S tm st) {ρ2:cz} (h:aj ρ ρ2 S.nx):Good T ρ2 S.F:=(hS.lQ ρ2 h).fs
theorem lf.low {h:HS} {ρ1 ρ2:cz} (hI:lf T S ρ R h ρ1) (h2:aj ρ1 ρ2 h.nx):aj ρ ρ2 S.nx:=hI.agree.trans (h2.le hI.le)
theorem J2 {F0 F:ai} {n v:Nat} {f:Fact} {ρ2:cz} (h0:Good T ρ2 F0) (h:Good T ρ2 F) (hr:QF T K (bN (ρ2 n)) (bN (ρ2 v))) (hf:Fact.ev T ρ2 f):Good T ρ2 (Og T K F0 n v F f):=by
 cases f with
 |ty m t =>
  show Good T ρ2 (Bool.rec F (Bool.rec (Option.rec F (fun d=>F.fact v (.sz v d.aV.length)) (T.get t)) (oN T F v t) (K t)) (Nat.beq m n))
  cases hb:Nat.beq m n with
  |false=>exact h
  |true =>
   have hf:j3 T t (bN (ρ2 m)):=hf;rw[bt hb] at hf;cases hk:K t with
   |true=>exact mn h (hr.ty t hk hf)
   |false =>
    show Good T ρ2 (Option.rec F (fun d=>F.fact v (.sz v d.aV.length)) (T.get t))
    cases hd:T.get t with
    |none=>exact h
    |some d =>
     refine h.fact ?_
     refine hr.sz _ ?_
     rcases hf with hf |⟨d',es,aN,dA,hf,_⟩
     ·exact .inl hf
     ·rw[hd] at dA; cases dA; exact .inr ⟨_,_,hf⟩
 |sz m s =>
  show Good T ρ2 (Bool.rec F (F.fact v (.sz v s)) (Nat.beq m n))
  cases hb:Nat.beq m n with
  |false=>exact h
  |true =>
   have hf:zQ s (bN (ρ2 m)):=hf;rw[bt hb] at hf;exact h.fact (hr.sz _ hf)
 |tp m =>
  show Good T ρ2 (Bool.rec F (F.fact v (.tp v)) (Nat.beq m n))
  cases hb:Nat.beq m n with
  |false=>exact h
  |true =>
   have hf:yc (bN (ρ2 m)):=hf;rw[bt hb] at hf;exact h.fact (hr.tp hf)
 |pf m i t =>
  show Good T ρ2 (Bool.rec F (F.fact v (.pf v i t)) (aq (aq (Nat.beq m n) (K t)) (Option.rec false (fun d=>gF T F0 n d.aV.length) (T.get t))))
  cases hb:aq (aq (Nat.beq m n) (K t)) (Option.rec false (fun d=>gF T F0 n d.aV.length) (T.get t)) with
  |false=>exact h
  |true =>
   obtain⟨b1,b2⟩:=ad hb;obtain⟨b3,b4⟩:=ad b1;refine h.fact ?_
   have hf:∀ e∈(elems (ρ2 m)).take (i.ev ρ2).toNat,HT T t e:=hf;rw[bt b3,<-eW] at hf;obtain⟨d,hd,hz⟩:=szd h0 b2;show ∀ e∈(elems (ρ2 v)).take (i.ev ρ2).toNat,HT T t e
   rw[<-eW];exact hr.pf t _ d b4 hd hz hf
 |f b=>exact h
 |el n i b k=>exact h
 |cd t b=>exact h
theorem WY (hS:Sat T own ρ S tm st) (hR:qq T K X R) {h:HS} {ρ1:cz} {n:Nat} {x0 y:AV} (hx:∀ ρ2,aj ρ ρ2 S.nx->bN (ρ2 n)=x0) (Fl:R x0 y) (hI:lf T S ρ R h ρ1) :
  ∃ pb,aj ρ1 pb h.nx/\lf T S ρ R (hvN T K S.F n h) pb/\∀ ρ2,aj pb ρ2 (h.nx+1)->bN (ρ2 h.nx)=y:=by
 have QS:bN x0=x0:=by rw[<-hx ρ (aj.refl _ _),jR]
 have hr:=Jw hR QS Fl;have jV:∀ ρ2,aj (Ld ρ1 h.nx y) ρ2 (h.nx+1)->bN (ρ2 h.nx)=y:=fun ρ2 h2=>by
  rw[h2 _ (qA _),rj,hr.bN]
 have tL:∀ ρ2,aj (Ld ρ1 h.nx y) ρ2 (h.nx+1)->aj ρ1 ρ2 h.nx:=fun ρ2 h2=>(en _ _ _).trans (h2.le (ma _))
 refine⟨Ld ρ1 h.nx y,en _ _ _,⟨hI.agree.trans ((en _ _ _).le hI.le),Nat.le_succ_of_le hI.le,fun ρ2 h2=>?_,fun n' v' hm=>?_⟩,jV⟩
 ·have h2:aj (Ld ρ1 h.nx y) ρ2 (h.nx+1):=h2
  have h3:=tL ρ2 h2;have h4:=hI.low h3;have e1:=jV ρ2 h2;have e2:=hx ρ2 h4;refine fj (fun f hf G hG=>J2 (hS.yC h4) hG (by rw[e1,e2]; exact hr) ((hS.yC h4).fs n f hf)) ((hI.yC ρ2 h3).eq ?_)
  rw[af.aP,af.aR,af.aR,cU,cU];have:=hr.len;rw[<-e1,<-e2,cj,cj] at this;omega
 ·cases hm with
  |head=>exact⟨x0,y,hx,jV,Fl,hr.aN⟩
  |tail _ hm =>
   obtain⟨x,y',h1,h2,h3⟩:=hI.mp n' v' hm;exact⟨x,y',h1,fun ρ2 q=>h2 ρ2 (tL ρ2 q),h3⟩
theorem Oh (hS:Sat T own ρ S tm st) (hR:qq T K X R) {h h':HS} {ρ1:cz} {x x':SA} {x0 y:AV} (hx:∀ ρ2,aj ρ ρ2 S.nx->x.ev ρ2=x0) (Fl:R x0 y) (hI:lf T S ρ R h ρ1) (he:hvA T K S.F x h=some (x',h')) :
  ∃ pb,aj ρ1 pb h.nx/\lf T S ρ R h' pb/\h.nx<=h'.nx/\∀ ρ2,aj pb ρ2 h'.nx->x'.ev ρ2=y:=by
 have same:wA x0=true->some (x,h)=some (x',h')->∃ pb,aj ρ1 pb h.nx/\lf T S ρ R h' pb/\h.nx<=h'.nx/\∀ ρ2,aj pb ρ2 h'.nx->x'.ev ρ2=y:=by
  intro hp hq;cases hq;refine⟨ρ1,aj.refl _ _,hI,dN _,fun ρ2 h2=>?_⟩
  rw[hx ρ2 (hI.low h2),hR.plain _ _ Fl hp]
 have h0:=hx ρ (aj.refl _ _);cases x with
 |sl n =>
  have he:some (SA.sl h.nx,hvN T K S.F n h)=some (x',h'):=he;cases he;obtain⟨pb,q1,q2,q3⟩:=WY hS hR hx Fl hI;exact⟨pb,q1,q2,ma _,q3⟩
 |int k l=>exact same (by rw[<-h0]; rfl) he
 |bl f=>exact same (by rw[<-h0]; rfl) he
 |str s=>exact same (by rw[<-h0]; rfl) he
 |ptr n o=>exact same (by rw[<-h0]; rfl) he
 |iD v =>
  have he:(Bool.rec none (some (.iD v,h)) (wA v):Option (SA × HS))=some (x',h'):=he;cases hp:wA v with
  |false=>rw[hp] at he; cases he
  |true=>rw[hp] at he; exact same (by rw[<-h0]; exact hp) he
 |ks=>cases he
 |var=>cases he
theorem AU (hS:Sat T own ρ S tm st) (hR:qq T K X R):∀ {l l':List SA} {h h':HS} {ρ1:cz} {xs ys:List AV},(∀ ρ2,aj ρ ρ2 S.nx->l.map (SA.ev ρ2)=xs)->L2 R xs ys->lf T S ρ R h ρ1->J3 T K S.F l h=some (l',h') ->
  ∃ pb,aj ρ1 pb h.nx/\lf T S ρ R h' pb/\h.nx<=h'.nx/\∀ ρ2,aj pb ρ2 h'.nx->l'.map (SA.ev ρ2)=ys:=by
 intro l
 induction l with
 |nil =>
  intro l' h h' ρ1 xs ys hx Fl hI he;cases he;have h0:[]=xs:=hx ρ (aj.refl _ _);subst h0;cases Fl;exact⟨ρ1,aj.refl _ _,hI,dN _,fun _ _=>rfl⟩
 |cons x l ih =>
  intro l' h h' ρ1 xs ys hx Fl hI he;unfold J3 at he;split at he
  ·cases he
  ·rename_i y h1 e1
   split at he
   ·cases he
   ·rename_i m h2 e2
    cases he
    have h0:=hx ρ (aj.refl _ _);cases Fl with
    |nil=>cases h0
    |@cons a b xs ys r1 r2 =>
     have SY:∀ ρ2,aj ρ ρ2 S.nx->x.ev ρ2=a:=fun ρ2 q=>by have:=hx ρ2 q; simp only[ot] at this; injection this
     have Ob:∀ ρ2,aj ρ ρ2 S.nx->l.map (SA.ev ρ2)=xs:=fun ρ2 q=>by have:=hx ρ2 q; simp only[ot] at this; injection this
     obtain⟨ρa,q1,q2,q3,q4⟩:=Oh hS hR SY r1 hI e1;obtain⟨ρb,p1,p2,p3,p4⟩:=ih Ob r2 q2 e2;refine⟨ρb,q1.trans (p1.le q3),p2,lS q3 p3,fun ρ2 h2=>?_⟩
     rw[ot,p4 ρ2 h2,q4 ρ2 (p1.trans (h2.le p3))]
theorem SL {k n N:Nat} (h:∀ ρ2,aj ρ ρ2 n->aT ρ2 k<N):k<n:=by
 refine Nat.lt_of_not_le fun hle=>?_
 have:=h (Ld ρ k (.ptr N 0)) ((en _ _ _).le hle);unfold aT at this;rw[rj] at this;exact Nat.lt_irrefl _ this
def BoxR (R:AV->AV->Prop) (st ae:St) (k:Nat):Prop:=∀ bX ds,st.heap.get k=some (.box bX ds)->∃ iJ oR,ae.heap.get k=some (.box iJ oR)/\L2 R ds oR
theorem W0 (hS:Sat T own ρ S tm st) (hR:qq T K X R) (hn:st.next<=ae.next):∀ {l l':List uq} {h h':HS} {ρ1:cz},(∀ p∈l,p∈S.hp)->(∀ p∈l,BoxR R st ae (aT ρ p.1))->lf T S ρ R h ρ1->hvB T K S.F l h=some (l',h') ->
  ∃ pb,aj ρ1 pb h.nx/\lf T S ρ R h' pb/\h.nx<=h'.nx/\l'.map (fun p=>p.1)=l.map (fun p=>p.1)/\∀ ρ2,aj pb ρ2 h'.nx->∀ p∈l',vd ρ2 own ae p:=by
 intro l
 induction l with
 |nil =>
  intro l' h h' ρ1 _ _ hI he;cases he;exact⟨ρ1,aj.refl _ _,hI,dN _,rfl,fun _ _ p hp=>by cases hp⟩
 |cons p l ih =>
  intro l' h h' ρ1 hm hb hI he;unfold hvB at he;split at he
  ·cases he
  ·rename_i cs h1 e1
   split at he
   ·cases he
   ·rename_i m h2 e2
    cases he
    have hp:=hm p (.head _);have xn:∀ ρ2,aj ρ ρ2 S.nx->vd ρ2 own st p:=fun ρ2 q=>(hS.lQ ρ2 q).mem.qM p hp
    have hk:p.1<S.nx:=SL fun ρ2 q=>(xn ρ2 q).lt
    have kW:∀ ρ2,aj ρ ρ2 S.nx->aT ρ2 p.1=aT ρ p.1:=fun ρ2 q=>by unfold aT; rw[q _ hk]
    have h0:=(xn ρ (aj.refl _ _)).box;obtain⟨iJ,oR,b1,b2⟩:=hb p (.head _) _ _ h0;have FE:∀ ρ2,aj ρ ρ2 S.nx->p.2.2.map (SA.ev ρ2)=p.2.2.map (SA.ev ρ):=fun ρ2 q=>by
     have:=(xn ρ2 q).box;rw[kW ρ2 q,h0] at this;injection this with this; injection this with _ this
     exact this.symm
    obtain⟨ρa,q1,q2,q3,q4⟩:=AU hS hR FE b2 hI e1;have q2':lf T S ρ R ⟨h1.mp,h1.F,h1.nx+1⟩ (Ld ρa h1.nx (.int .i64 (.ofNat iJ))):=by
     refine⟨q2.agree.trans ((en _ _ _).le q2.le),Nat.le_succ_of_le q2.le,fun ρ2 g=>q2.yC ρ2 ((en _ _ _).trans (g.le (ma _))),fun n v hv=>?_⟩
     obtain⟨x,y,g1,g2,g3⟩:=q2.mp n v hv;exact⟨x,y,g1,fun ρ2 g=>g2 ρ2 ((en _ _ _).trans (g.le (ma _))),g3⟩
    obtain⟨ρb,p1,p2,p3,p4,p5⟩:=ih (fun r hr=>hm r (.tail _ hr)) (fun r hr=>hb r (.tail _ hr)) q2' e2
    have p1:aj (Ld ρa h1.nx (.int .i64 (.ofNat iJ))) ρb (h1.nx+1):=p1;have p3:h1.nx+1<=h'.nx:=p3;refine⟨ρb,q1.trans (((en _ _ _).trans (p1.le (ma _))).le q3),p2,by omega,by simp[p4],fun ρ2 g r hr=>?_⟩
    cases hr with
    |head =>
     have ga:aj ρa ρ2 h1.nx:=(en _ _ _).trans ((p1.le (ma _)).trans (g.le (by omega)))
     have gl:=q2.low ga;refine⟨?_,?_,?_⟩
     ·show own (aT ρ2 p.1); exact(xn ρ2 gl).own
     ·show aT ρ2 p.1<ae.next; exact qy (xn ρ2 gl).lt hn
     ·show ae.heap.get (aT ρ2 p.1)=some (.box (dD ρ2 h1.nx) (cs.map (SA.ev ρ2)))
      rw[kW ρ2 gl,b1,q4 ρ2 ga];have ev:ρ2 h1.nx = .int .i64 (.ofNat iJ):=by
       rw[g _ (by omega),p1 _ (qA _),rj]
      unfold dD;rw[ev]; rfl
    |tail _ hr=>exact p5 ρ2 g r hr
theorem Cv {h:HS} {ρ1 ρ2:cz} (hI:lf T S ρ R h ρ1) {n:Nat} (h2:aj ρ1 ρ2 h.nx) (j:Nat):dT (ρ2 (te h n)) j=dT (ρ2 n) j:=by
 unfold te;cases hm:Hf h.mp n with
 |none=>rfl
 |some v =>
  obtain⟨x,y,g1,g2,_,g3⟩:=hI.mp n v (me hm);show dT (ρ2 v) j=dT (ρ2 n) j
  unfold dT;rw[g2 ρ2 h2,g1 ρ2 (hI.low h2)];rcases g3 with rfl |⟨s,es,cr,t,rfl,rfl,hl⟩
  ·rfl
  ·simp only[hl]
theorem Hv (hS:Sat T own ρ S tm st) {h h':HS} {ρ1:cz} {v':SV} {cD:List AV} {cs:List SA} {off n:Nat} {i:af} {Le:List Nat} (hlen:cD.length=(cs.map (SA.ev ρ)).length) (jv:∀ τ,K τ=true->HT T τ (.agg (cs.map (SA.ev ρ)))->HT T τ (.agg cD))
  (hc:∀ ρ2,aj ρ ρ2 S.nx->cs.map (SA.ev ρ2)=cs.map (SA.ev ρ)/\dT (ρ2 n) (i.ev ρ2).toNat=dT (ρ n) (i.ev ρ).toNat) (hI:lf T S ρ R h ρ1) (he:Of T K S.F Le cs off n i h=some (v',h')) :
  ∃ pb,aj ρ1 pb h.nx/\lf T S ρ R h' pb/\h.nx<=h'.nx/\(∀ ρ2,aj pb ρ2 h'.nx->v'.ev ρ2 = .ro cD off (dT (ρ n) (i.ev ρ).toNat))/\∀ ρ2,aj pb ρ2 h'.nx->∀ (j:Nat) c,cD[j]?=some c->ρ2 (h.nx+j)=c:=by
 unfold Of at he;split at he
 ·cases he
 ·rename_i t ts
  split at he
  ·cases he
  ·rename_i d hd
   cases hg:aq (Nat.beq d.aV.length cs.length) (aU (fun t=>aq (K t) (ly T S.F (.agg cs) t)) (t::ts)) with
   |false=>rw[hg] at he; cases he
   |true =>
    rw[hg] at he;have he:some (SV.ro (eZ d.aV h.nx) off (te h n) i,(⟨h.mp,bm (kO T h.nx) (t::ts) h.F,h.nx+cs.length⟩:HS))=some (v',h'):=he;cases he;obtain⟨g1,g2⟩:=ad hg;have hty':∀ τ∈t::ts,HT T τ (.agg cD):=fun τ hτ=>by
     obtain⟨a1,a2⟩:=ad (aB g2 τ hτ);exact jv τ a1 (kB (hS.yC (aj.refl _ _)) a2)
    have iC:cD.length=cs.length:=by rw[hlen,gK]
    have jV:∀ ρ2,aj (yl ρ1 h.nx cD) ρ2 (h.nx+cs.length)->∀ (j:Nat) c,cD[j]?=some c->ρ2 (h.nx+j)=c:=fun ρ2 q j c hj=>by
     have aO:j<cD.length:=by
      obtain⟨w,_⟩:=fU.1 hj
      exact w
     rw[q _ (by omega),BP _ _ hj]
    have tL:∀ ρ2,aj (yl ρ1 h.nx cD) ρ2 (h.nx+cs.length)->aj ρ1 ρ2 h.nx:=fun ρ2 q=>(kj _ _ _).trans (q.le (by omega))
    have p6:lf T S ρ R ⟨h.mp,bm (kO T h.nx) (t::ts) h.F,h.nx+cs.length⟩ (yl ρ1 h.nx cD):=by
     refine⟨hI.agree.trans ((kj _ _ _).le hI.le),lS hI.le (lJ _ _),fun ρ2 q=>?_,fun n' w hw=>?_⟩
     ·show Good T ρ2 (bm (kO T h.nx) (t::ts) h.F)
      exact fj (l:=t::ts) (fun τ hτ G hG=>sI hG (hty' τ hτ) (jV ρ2 q)) (hI.yC ρ2 (tL ρ2 q))
     ·obtain⟨x,y,a1,a2,a3⟩:=hI.mp n' w hw
      exact⟨x,y,a1,fun ρ2 q=>a2 ρ2 (tL ρ2 q),a3⟩
    refine⟨yl ρ1 h.nx cD,kj _ _ _,p6,lJ _ _,fun ρ2 q=>?_,jV⟩
    show AV.ro _ _ _=_
    have hH:=(hty' t (.head _)).len hd;rw[kJ (T:=T) hH (jV ρ2 q)];have e1:dT (ρ2 (te h n)) (i.ev ρ2).toNat=dT (ρ2 n) (i.ev ρ2).toNat:=Cv hI (tL ρ2 q) _;rw[e1,(hc ρ2 (hI.low (tL ρ2 q))).2]
    rfl
theorem WN {R:AV->AV->Prop} {l m:List AV} (h:L2 R l m):∀ {j:Nat} {a:AV},l[j]?=some a->∃ b,m[j]?=some b/\R a b:=by
 induction h with
 |nil=>intro j a h; simp at h
 |cons h1 _ ih =>
  intro j a h;cases j with
  |zero=>simp at h; subst h; exact⟨_,rfl,h1⟩
  |succ j=>exact ih (by simpa using h)
theorem S5 {ρ2:cz} {cD:List AV}:∀ {cs:List SA} {v:Nat} {F:ai},Good T ρ2 F->(∀ (j:Nat) k c,cs[j]?=some (.int k c)->intOf (ρ2 (v+j))=c.ev ρ2)->Good T ρ2 (WZ cs v F):=by
 intro cs
 induction cs with
 |nil=>intro v F h _; exact h
 |cons x l ih =>
  intro v F h hj;refine ih ?_ fun j k c hk=>by
   have:=hj (j+1) k c hk;rw[show v+(j+1)=v+1+j by omega] at this
   exact this
  split
  ·rename_i k c
   refine h.eq ?_
   rw[af.aP,af.aR,dz];have:=hj 0 k c rfl;rw[pR] at this;omega
  ·exact h
theorem WX (hS:Sat T own ρ S tm st) (hR:qq T K X R) {h h':HS} {ρ1:cz} {v v':SV} {x0 y:AV} {Le:List Nat} (hx:∀ ρ2,aj ρ ρ2 S.nx->v.ev ρ2=x0) (Fl:R x0 y) (hI:lf T S ρ R h ρ1) (he:hvV T K X S.F Le v h=some (v',h')) :
  ∃ pb,aj ρ1 pb h.nx/\lf T S ρ R h' pb/\h.nx<=h'.nx/\∀ ρ2,aj pb ρ2 h'.nx->v'.ev ρ2=y:=by
 unfold hvV at he;split at he
 ·rename_i x
  split at he
  ·cases he
  ·rename_i z h1 e1
   cases he
   exact Oh hS hR hx Fl hI e1
 ·rename_i cs
  split at he
  ·cases he
  ·rename_i z h1 e1
   cases he
   have h0:AV.agg (cs.map (SA.ev ρ))=x0:=hx ρ (aj.refl _ _);subst h0;obtain⟨cD,rfl,hl⟩:=hR.agg _ _ Fl;have hc:∀ ρ2,aj ρ ρ2 S.nx->cs.map (SA.ev ρ2)=cs.map (SA.ev ρ):=fun ρ2 q=>by have:=hx ρ2 q; injection this
   obtain⟨ρa,q1,q2,q3,q4⟩:=AU hS hR hc hl hI e1;exact⟨ρa,q1,q2,q3,fun ρ2 g=>by show AV.agg _=_; rw[q4 ρ2 g]⟩
 ·rename_i cs off n i
  have h0:AV.ro (cs.map (SA.ev ρ)) off (dT (ρ n) (i.ev ρ).toNat)=x0:=hx ρ (aj.refl _ _);subst h0;obtain⟨cD,rfl,hlen,jv,hXX⟩:=hR.ro _ _ _ _ Fl;have hc:∀ ρ2,aj ρ ρ2 S.nx->cs.map (SA.ev ρ2)=cs.map (SA.ev ρ)/\dT (ρ2 n) (i.ev ρ2).toNat=dT (ρ n) (i.ev ρ).toNat:=fun ρ2 q=>by
   have:=hx ρ2 q;simp only[SV.ev] at this;injection this with a b c
   exact⟨a,c⟩
  cases hb:X cs.length with
  |true =>
   rw[hb] at he;have he:Oe T K S.F Le cs off n i h=some (v',h'):=he;have lU:=hXX (by rw[gK]; exact hb)
   unfold Oe at he;split at he
   ·split at he
    ·cases he
    ·rename_i z h1 e1
     cases he
     obtain⟨ρa,q1,q2,q3,q4⟩:=AU hS hR (fun ρ2 q=>(hc ρ2 q).1) lU hI e1
     refine⟨ρa,q1,q2,q3,fun ρ2 g=>?_⟩
     show AV.ro _ _ _=_
     rw[q4 ρ2 g,Cv q2 g,(hc ρ2 (q2.low g)).2]
   ·split at he
    ·cases he
    ·rename_i z h1 e1
     cases he
     obtain⟨ρa,q1,q2,q3,q4,q5⟩:=Hv hS hlen jv hc hI e1;refine⟨ρa,q1,⟨q2.agree,q2.le,fun ρ2 g=>?_,q2.mp⟩,q3,q4⟩
     refine S5 (cD:=cD) (q2.yC ρ2 g) fun j k c hk=>?_
     have Fx:=q2.low g;have hcell:(cs.map (SA.ev ρ))[j]?=some (.int k (c.ev ρ2)):=by
      rw[<-(hc ρ2 Fx).1,jB,hk]; rfl
     obtain⟨b,uJ,U5⟩:=WN lU hcell;have:=hR.plain _ _ U5 rfl;rw[q5 ρ2 g j b uJ,this]
     rfl
  |false =>
   rw[hb] at he;obtain⟨ρa,q1,q2,q3,q4,_⟩:=Hv hS hlen jv hc hI (show Of T K S.F Le cs off n i h=some (v',h') from he)
   exact⟨ρa,q1,q2,q3,q4⟩
 ·cases he
theorem S4 (hS:Sat T own ρ S tm st) (hR:qq T K X R) (ht:Vu R tm ay):∀ {cI:List (Nat × List Nat)} {s s':Tr SV} {h h':HS} {ρ1:cz},(∀ ρ2,aj ρ1 ρ2 h.nx->∀ k v,s.get k=some v->ay.get k=some (v.ev ρ2))->lf T S ρ R h ρ1->Od T K X S.F S.sl cI s h=some (s',h') ->
  ∃ pb,aj ρ1 pb h.nx/\lf T S ρ R h' pb/\h.nx<=h'.nx/\∀ ρ2,aj pb ρ2 h'.nx->∀ k v,s'.get k=some v->ay.get k=some (v.ev ρ2):=by
 intro cI
 induction cI with
 |nil =>
  intro s s' h h' ρ1 hs hI he;cases he;exact⟨ρ1,aj.refl _ _,hI,dN _,hs⟩
 |cons p l ih =>
  intro s s' h h' ρ1 hs hI he;unfold Od at he;split at he
  ·exact ih hs hI he
  ·rename_i v hv
   split at he
   ·cases he
   ·rename_i v' h1 e1
    obtain⟨y,hy,hRy⟩:=(ht p.1).2 _ (hS.here.sl _ _ hv);have hx:∀ ρ2,aj ρ ρ2 S.nx->v.ev ρ2=v.ev ρ:=fun ρ2 q=>by
     have a:=(hS.lQ ρ2 q).sl _ _ hv;have b:=hS.here.sl _ _ hv;rw[a] at b;exact Option.some.inj b
    obtain⟨ρa,q1,q2,q3,q4⟩:=WX hS hR hx hRy hI e1;have pE:∀ ρ2,aj ρa ρ2 h1.nx->∀ k u,(s.set p.1 v').get k=some u->ay.get k=some (u.ev ρ2):=by
     intro ρ2 g k u hu;rw[Tr.cb] at hu;split at hu
     ·rename_i hk
      cases hu
      rw[hk,hy,q4 ρ2 g]
     ·exact hs ρ2 (q1.trans (g.le q3)) k u hu
    obtain⟨ρb,p1,p2,p3,p4⟩:=ih pE q2 he;exact⟨ρb,q1.trans (p1.le q3),p2,lS q3 p3,p4⟩
theorem Ax {r r':Nat->Nat->Prop} {f:Nat->Option Nat} (H:∀ n m a b,f n=some a->f m=some b->r n m->r' a b):∀ {l:List Nat},l.Pairwise r->(l.filterMap f).Pairwise r':=by
 intro l
 induction l with
 |nil=>intro _; exact .nil
 |cons n l ih =>
  intro h;obtain⟨h1,h2⟩:=List.pairwise_cons.1 h;rw[List.filterMap_cons];split
  ·exact ih h2
  ·rename_i a ha
   refine List.pairwise_cons.2 ⟨fun b hb=>?_,ih h2⟩
   obtain⟨m,hm,hfm⟩:=List.mem_filterMap.1 hb;exact H n m a b ha hfm (h1 m hm)
def TipR (ρ:cz) (st ae:St) (live:List Nat):Prop:=∀ n∈live,∀ id,cG (ρ n)=some id->st.heap.get id=some .aN->ae.heap.get id=some .aN
theorem UQ (hS:Sat T own ρ S tm st) (hR:qq T K X R) (ht:Vu R tm ay) (hn:st.next<=ae.next) (qQ:∀ p∈S.hp,BoxR R st ae (aT ρ p.1)) (jD:TipR ρ st ae S.live) {cI:List (Nat × List Nat)} {S':Sy} {h2:HS} (he:hv T K X cI S=some (S',h2)) :
  ∃ ρ',aj ρ ρ' S.nx/\S.nx<=S'.nx/\Sat T own ρ' S' ay ae/\lf T S ρ R h2 ρ'/\S'.nx=h2.nx/\(∀ ρ2,aj ρ' ρ2 S'.nx->bj ρ2 S'.hp []=bj ρ2 S.hp [])/\S'.ar=[]/\∀ ρ2,aj ρ' ρ2 S'.nx->∀ m∈S'.live,∃ n∈S.live,cG (ρ2 m)=cG (ρ2 n):=by
 unfold hv at he;split at he
 ·cases he
 ·rename_i hp h1 e1
  split at he
  ·cases he
  ·rename_i sl h2' e2
   cases he
   have Tv:lf T S ρ R ⟨[],S.F,S.nx⟩ ρ:=⟨aj.refl _ _,dN _,fun ρ2 q=>hS.yC q,fun _ _ h=>by cases h⟩
   obtain⟨ρa,q1,q2,q3,q4,q5⟩:=W0 hS hR hn (fun p hp=>hp) qQ Tv e1
   obtain⟨ρb,p1,p2,p3,p4⟩:=S4 hS hR ht (s:=.nil) (fun ρ2 _ k v hk=>by cases hk) q2 e2
   have U0:∀ ρ2,aj ρb ρ2 h2.nx->bj ρ2 hp []=bj ρ2 S.hp []:=fun ρ2 g=>by
    unfold bj;have:hp.map (fun p=>aT ρ2 p.1)=(hp.map fun p=>p.1).map (aT ρ2):=by rw[yr]; rfl
    rw[this,q4,yr]; rfl
   have tq:∀ {x y:AV},QD x y->cG y=cG x:=by
    rintro x y (rfl |⟨s,es,cr,t,rfl,rfl,_⟩)
    ·rfl
    ·cases t<;>rfl
   refine⟨ρb,p2.agree,p2.le,⟨fun ρ2 g=>?_,fun k hk=>hS.fresh k (lS hn hk)⟩,p2,rfl,U0,rfl,fun ρ2 g m hm=>?_⟩
   case refine_2 =>
    obtain⟨n,kR,nD⟩:=List.mem_filterMap.1 hm;obtain⟨x,y,a1,a2,_,a3⟩:=p2.mp n m (me nD);refine⟨n,kR,?_⟩
    rw[<-dG,a2 ρ2 g,tq a3,<-a1 ρ2 (p2.low g),dG]
   have g:aj ρb ρ2 h2.nx:=g;have gl:=p2.low g;refine⟨p4 ρ2 g,⟨q5 ρ2 (p1.trans (g.le p3)),fun p hp=>(by cases hp),fun v hv=>?_,?_,?_⟩,p2.yC ρ2 g⟩
   ·obtain⟨n,kR,nD⟩:=List.mem_filterMap.1 hv
    obtain⟨x,y,a1,a2,_,a3⟩:=p2.mp n v (me nD);rw[a2 ρ2 g];have hl:=(hS.lQ ρ2 gl).mem.nz n kR;rw[a1 ρ2 gl] at hl;have Ti:=hS.here.mem.nz n kR;have Lh:=a1 ρ (aj.refl _ _);have Ho:∀ s es id,x = .sl s es (.at id)->st.heap.get id=some .aN->ae.heap.get id=some .aN:=fun s es id hx h0=>by
     refine jD n kR id ?_ h0
     rw[<-dG,Lh,hx]; rfl
    rcases a3 with rfl |⟨s,es,cr,t,rfl,rfl,hlen⟩
    ·rcases hl with hl |⟨s,es,hl |⟨id,hl,b1,b2,b3⟩⟩
     ·exact .inl hl
     ·exact .inr ⟨s,es,.inl hl⟩
     ·exact .inr ⟨s,es,.inr ⟨id,hl,b1,qy b2 hn,Ho s es id hl b3⟩⟩
    ·rcases hl with hl |⟨s2,Vb,hl |⟨id,hl,b1,b2,b3⟩⟩
     ·cases hl
     ·cases hl; exact .inr ⟨s,cr,.inl rfl⟩
     ·cases hl; exact .inr ⟨s,cr,.inr ⟨id,rfl,b1,qy b2 hn,Ho s es id rfl b3⟩⟩
   ·show(bj ρ2 hp []).Nodup
    rw[U0 ρ2 g];exact(hS.lQ ρ2 gl).mem.keys.sublist (pA (List.Sublist.refl _) (List.nil_sublist _))
   ·refine Ax (fun n m a b ha hb AZ id hid=>?_) ((hS.lQ ρ2 gl).mem.rq)
    obtain⟨x,y,a1,a2,_,a3⟩:=p2.mp n a (me ha);obtain⟨x',y',b1,b2,_,b3⟩:=p2.mp m b (me hb);rw[<-dG,a2 ρ2 g,tq a3] at hid;rw[<-dG,b2 ρ2 g,tq b3];have:=AZ id (by rw[<-dG,a1 ρ2 gl]; exact hid)
    rw[<-dG,b1 ρ2 gl] at this;exact this
end
end Go.Ab
namespace Go.Ab
noncomputable section
open Go.Ev
open Classical
variable {T : TT} {ρ ρ' : cz}
structure Site where
 s:Nat
 fo:Nat
 len:Nat
 new:List Nat
 int:Bool
 mks:List (Nat × Nat)
 M:List Nat
def JQ (b:Bool):Bool:=Bool.rec true false b
def ja (l:List Nat) (t:Nat):Bool:=qD t l
def uc (aV:List CT) (fo:Nat):Bool:=match nth aV fo with
 |some ct=>sC ct (.int .i64 0)
 |none=>false
def emF:ai:=⟨.nil,.nil,.nil,.nil,false,5⟩
def Ut (T:TT) (σ:Site) (d:Lr) (t t':Nat):Bool:=match σ.new with
 | []=>false
 |u::us=>(match T.get u with
  |none=>false
  |some c=>aq d.agg (aq (Nat.beq c.aV.length σ.len) (ly T (bm (kO T d.aV.length) (u::us) (kO T 0 emF t)) (.agg (gS (eZ d.aV 0) σ.fo (eZ c.aV d.aV.length))) t')))
def we (T:TT) (K:List Nat) (σ:Site):Bool :=
 aq (aU (fun t=>Option.rec true (fun d=>aq (fN (JQ (Nat.beq d.aV.length σ.s)) (aq σ.int (uc d.aV σ.fo))) (aU (kK (ja σ.M)) d.aV)) (T.get t)) σ.M)
 (aq (aU (fun t=>Option.rec true (fun d=>aq (aU (ctK (ja K)) d.aV) (aU (stB (ja σ.M) (PU d.aV)) d.conds)) (T.get t)) K)
 (aq (aU (fun t=>Option.rec true (fun d=>fN (JQ (Nat.beq d.aV.length σ.s)) (fN (aq σ.int (uc d.aV σ.fo)) (Ut T σ d t t))) (T.get t)) K)
  (aU (fun p=>Option.rec false (fun d=>aq (Nat.beq d.aV.length σ.s) (Ut T σ d p.1 p.2)) (T.get p.1)) σ.mks)))
structure Ui (T:TT) (σ:Site) (W:Wr):Prop where
 s:W.s=σ.s
 fo:W.fo=σ.fo
 len:W.new.length=σ.len
 new:∃ v:AV,v.cells=W.new/\∀ t∈σ.new,HT T t v
 int:σ.int=true->∃ k n,W.Lb[0]?=some (.int k n)
 fits:W.fo+W.new.length<=W.s
theorem vx {l:List Nat} {t:Nat} (h:ja l t=true):t∈l:=py h
theorem KO {ct:CT} {a b:AV} (h:sC ct a=true) (hb:∃ k n,b = .int k n):sC ct b=true:=by
 obtain⟨k,n,rfl⟩:=hb;obtain⟨k',n',rfl⟩:=ub h;cases ct<;>first |rfl |cases h
theorem zF {σ:Site} {W:Wr} (hW:Ui T σ W) {aV:List CT} (h:aq σ.int (uc aV σ.fo)=true):ID W aV:=by
 obtain⟨h1,h2⟩:=ad h;obtain⟨k,n,hw⟩:=hW.int h1;unfold uc at h2;rw[cS] at h2;split at h2
 ·rename_i ct hct
  exact⟨0,_,ct,hw,by rw[hW.fo]; exact hct,KO h2 ⟨k,n,rfl⟩⟩
 ·cases h2
theorem LF {σ:Site} {W:Wr} (hW:Ui T σ W) {d:Lr} {t t':Nat} (hd:T.get t=some d) (hl:d.aV.length=σ.s) (h:Ut T σ d t t'=true) {cy:List AV} (hm:qZ T d.aV cy) (hc:∀ f∈d.conds,f.ev (fq cy)):HT T t' (.agg (aZ cy W.fo W.new)):=by
 unfold Ut at h;split at h
 ·cases h
 ·rename_i u us hu
  split at h
  ·cases h
  ·rename_i c hcu
   obtain⟨h1,h2⟩:=ad h;obtain⟨h3,h4⟩:=ad h2;obtain⟨v,hv,hvt⟩:=hW.new;have hml:cy.length=d.aV.length:=hm.get.1;have Kf:∀ (j:Nat) x,(cy++W.new)[j]?=some x->(fun n=>((cy++W.new)[n]?).getD gg) j=x:=fun j x hj=>by show((cy++W.new)[j]?).getD gg=x; rw[hj]; rfl
   obtain⟨ρ,hρ⟩:∃ ρ:cz,ρ=fun n=>((cy++W.new)[n]?).getD gg:=⟨_,rfl⟩
   have Tg:∀ (j:Nat) x,cy[j]?=some x->ρ (0+j)=x:=fun j x hj=>by
    obtain⟨q,_⟩:=fU.1 hj
    rw[hρ];show((cy++W.new)[0+j]?).getD gg=x
    rw[kT,yq q,hj]; rfl
   have jV:∀ (j:Nat) x,W.new[j]?=some x->ρ (d.aV.length+j)=x:=fun j x hj=>by
    rw[hρ];show((cy++W.new)[d.aV.length+j]?).getD gg=x
    rw[JE (by omega),show d.aV.length+j-cy.length=j by omega,hj]; rfl
   have hH:HT T t (.agg cy):=.mk hd (fun _=>⟨_,rfl⟩) (fun q=>by rw[h1] at q; cases q) hm hc
   have g0:Good T ρ emF:=xw 5;have g1:Good T ρ (kO T 0 emF t):=sI g0 hH Tg;have g2:Good T ρ (bm (kO T d.aV.length) (u::us) (kO T 0 emF t)):=fj (l:=u::us) (fun τ hτ G hG=>sI hG (hvt τ (by rw[hu]; exact hτ)) (by rw[hv]; exact jV)) g1
   have:=kB g2 h4;have e:SE.ev ρ (.agg (gS (eZ d.aV 0) σ.fo (eZ c.aV d.aV.length))) = .agg (aZ cy W.fo W.new):=by
    show AV.agg _=_
    have nU:=(hvt u (by rw[hu]; exact .head _)).len hcu
    rw[hv] at nU;rw[oa,kJ (T:=T) hm Tg,kJ (T:=T) nU jV,hW.fo]
   rw[e] at this;exact this
theorem Ny {a b:Nat} (h:JQ (Nat.beq a b)=true):a≠b:=by
 rintro rfl
 rw[fV] at h; cases h
theorem RI {K:List Nat} {σ:Site} (h:we T K σ=true) {W:Wr} (hW:Ui T σ W):nk T W (ja σ.M) (ja K)/\∀ p∈σ.mks,∃ d,T.get p.1=some d/\d.aV.length=σ.s/\d.agg=true/\∀ cy,HT T p.1 (.agg cy)->HT T p.2 (.agg (aZ cy W.fo W.new)):=by
 obtain⟨h1,h⟩:=ad h;obtain⟨h2,h⟩:=ad h;obtain⟨h3,h4⟩:=ad h;have YH:∀ {d:Lr} {t t':Nat},Ut T σ d t t'=true->d.agg=true:=by
  intro d t t' q;unfold Ut at q;split at q
  ·cases q
  ·split at q
   ·cases q
   ·exact(ad q).1
 refine⟨⟨⟨fun t d ht hd=>?_⟩,fun t d ht hd=>?_,fun t d ht hd=>?_,fun t d ht hd hl cy hm hc hk=>?_⟩,fun p hp=>?_⟩
 ·have q:=aB h1 t (vx ht)
  rw[hd] at q;obtain⟨q1,q2⟩:=ad (show aq (fN (JQ (Nat.beq d.aV.length σ.s)) (aq σ.int (uc d.aV σ.fo))) (aU (kK (ja σ.M)) d.aV)=true from q)
  refine⟨?_,aB q2⟩
  rcases bw q1 with q1 |q1
  ·left; rw[hW.s]; exact Ny q1
  ·right; exact zF hW q1
 ·have q:=aB h2 t (vx ht)
  rw[hd] at q;exact aB (ad (show aq (aU (ctK (ja K)) d.aV) (aU (stB (ja σ.M) (PU d.aV)) d.conds)=true from q)).1
 ·have q:=aB h2 t (vx ht)
  rw[hd] at q;exact aB (ad (show aq (aU (ctK (ja K)) d.aV) (aU (stB (ja σ.M) (PU d.aV)) d.conds)=true from q)).2
 ·have q:=aB h3 t (vx ht)
  rw[hd] at q;have jm:d.aV.length=σ.s:=by rw[<-hW.s]; exact hl
  rcases bw (show fN (JQ (Nat.beq d.aV.length σ.s)) (fN (aq σ.int (uc d.aV σ.fo)) (Ut T σ d t t))=true from q) with q |q
  ·exact absurd jm (Ny q)
  ·rcases bw q with q |q
   ·exact absurd hk ((zF hW q).no hm)
   ·have:=LF hW hd jm q hm hc
    cases this with
    |@mk _ _ d' dA _ _ a b=>rw[hd] at dA; cases dA; exact⟨a,b⟩
 ·have q:=aB h4 p hp
  cases hd:T.get p.1 with
  |none=>rw[hd] at q; cases q
  |some d =>
   rw[hd] at q;obtain⟨q1,q2⟩:=ad (show aq (Nat.beq d.aV.length σ.s) (Ut T σ d p.1 p.2)=true from q)
   refine⟨d,rfl,bt q1,YH q2,fun cy hm=>?_⟩
   cases hm with
   |@mk _ _ d' dA _ _ a b=>rw[hd] at dA; cases dA; exact LF hW hd (bt q1) q2 a b
end
end Go.Ab
namespace Go.Ab
noncomputable section
open Go.Ev
open Classical
structure Str where
 t:Nat
 k:Nat
 j:Nat
 a:Nat
 b:Nat
inductive qp where
 |o
 |x (a:An)
 |s (a:qp) (ts:List Tm) (bs:List qp)
 |c (bh:List qp)
 |l (ts:List Tm) (bh:List qp)
 |ev (a:An) (j:Nat) (cI:List (Nat × List Nat)) (st:Option Str)
 |call (cI:List (Nat × List Nat))
 |fk (f:BF) (fa fb:List Fact) (a b:qp)
structure D0 where
 C:Cx
 K:List Nat
 sites:List Site
 KS:Nat->List fS
def xAn (an:qp):An:=match an with
 | .x a=>a
 |_=>.o
def sAs (an:qp):List qp:=match an with
 | .c bh=>bh
 |_=>[]
def lG {α:Type}:List α->List qp->List (α × qp)
 | [],_=>[]
 |a::l,[]=>(a,.o)::lG l []
 |a::l,n::t=>(a,n)::lG l t
def UA (D:D0) (S:Sy) (ts:List Tm) (bs:List qp) (l:List Sy) (b:qp->Sy->fG):fG:=match ts with
 | []=>fE (fun p=>b p.2 p.1) (lG l bs)
 |t::ts=>br (aU (vR D.C S (t::ts)) l) (fE (fun p=>b p.2 (p.1.val S D.C.T)) (lG (t::ts) bs))
def Ms (D:D0) (S:Sy) (ts:List Tm) (bs:List qp) (a:fG) (b:qp->Sy->fG):fG:=match a with
 |none=>none
 |some l=>K4 (some (rC l)) (UA D S ts bs (jL l) b)
def yU (D:D0) (ra rb:qp->Sy->fG) (an:qp) (S:Sy):fG:=match an with
 | .s aa ts bs=>Ms D S ts bs (ra aa S) rb
 |_=>Ms D S [] [] (ra .o S) rb
def Qx (T:TT) (fs:List Fact) (S:Sy):Option Sy:=br (aU (M6 T S.F .var) fs) (some {S with F:=bm (Bx T .var) fs S.F })
def XZ (D:D0) (f:BF) (fa fb:List Fact) (k:Bool->Sy->fG) (S:Sy):fG:=br (scB S.nx f) (fE (fun p=>match Qx D.C.T (Bool.rec fb fa p.1) p.2 with
 |some S'=>k p.1 S'
 |none=>none) (xA D.C.T S f))
def E6 (D:D0) (S:Sy) (ts:List Tm) (bh:List qp) (b:qp->Sy->fG):fG:=br (vR D.C S ts S) (fE (fun p=>match b p.2 (p.1.val S D.C.T) with
 |none=>none
 |some l=>br (aU (L0 D.C S ts p.1.dE) (jL l)) (some (rC l))) (lG ts bh))
def N0 (x:Option SA):Bool:=match x with
 |some (.int _ _)=>true
 |_=>false
def Bn (l:List uq) (k j:Nat):Option SA:=match qj l k with
 |some q=>nth q.2 j
 |none=>none
def NY (S:Sy) (t k:Nat):Bool:=match S.sl.get t with
 |some (.e (.a (.ptr n _)))=>Nat.beq n k
 |_=>false
def Ae (D:D0) (σ:Site) (S S':Sy) (n:Nat) (i:af) (p:Str):Option Sy:=match Bn S.hp p.k p.j,Bn S'.hp p.k p.j with
 |some (.sl m),some (.sl v)=>br (aq (Nat.beq m n) (aq (NY S p.t p.k) (aq (dY (fun q=>aq (Nat.beq q.1 p.a) (Nat.beq q.2 p.b)) σ.mks) (aq (HH S.F n) (aq (Da S.F n p.a) (aq (ja D.K p.a) (aq (ja D.K p.b)
   (aq (bV S.F i) (aq (bV S.F ((af.add (af.at (8*n+2)) (-1) i).plus (-1))) (pf1 S.F n p.b i))))))))))
   (some {S' with F:=S'.F.fact v (.pf v (i.plus 1) p.b) })
 |_,_=>none
def HF (T:TT) (σ:Site):Bool:=match σ.new with
 | []=>false
 |u::_=>Option.rec false (fun c=>aU (kK (ja σ.M)) c.aV) (T.get u)
def A9 (D:D0) (S:Sy) (j size:Nat) (p v:XO) (cI:List (Nat × List Nat)) (str:Option Str):Option Sy:=match nth D.sites j,rf S p,FV S v with
 |some σ,some (.ro cs off n i),some e=>(match e.cells with
  |some vs=>br (aq (aq (Nat.ble 1 size) (Nat.beq vs.length size)) (aq (Nat.beq size σ.len) (aq (Nat.beq cs.length σ.s) (aq (Nat.beq off σ.fo) (aq (Nat.ble (off+size) cs.length) (aq (Nat.ble 2 cs.length)
    (aq (aU (ly D.C.T S.F e) σ.new) (aq (HF D.C.T σ) (fN (JQ σ.int) (N0 (nth cs off)))))))))))
    (match hv D.C.T (ja D.K) (fun m=>!(Nat.beq m σ.s)) cI S with
     |some (S',h)=>(match str with
      |none=>some S'
      |some q=>Ae D σ S S' n i q)
     |none=>none)
  |none=>none)
 |_,_,_=>none
def X0 (D:D0) (pre:XC) (size:Nat) (p v:XO) (an:qp) (S:Sy):fG:=match an with
 | .ev a j cI str=>(match eR D.C pre a S with
  |none=>none
  |some l=>fE (fun q=>match q.1 with
   | .norm=>(match A9 D q.2 j size p v cI str with
    |some S'=>some [(Ex.norm,S')]
    |none=>none)
   |_=>none) l)
 |_=>none
def Br (D:D0) (S:Sy) (xs:List SE) (cI:List (Nat × List Nat)) (k:fS):ER :=
 let σ:=Io S k xs
 match eo σ k.hp,eo σ k.ar,fe σ k.live with
 |some hs,some bh,some ls=>br
   (aq (kN (vU S.F σ) k.args xs) (aq (aU (C2 S σ) k.hp) (aq (aU (DP S σ) k.ar) (aq (iG hs) (aq (iG bh) (aq (tv S σ k.live) (aq (aU (fun n=>UB S.nx (σ n)) (List.range k.np)) (aU (M6 D.C.T S.F σ) k.facts))))))))
   (match hv D.C.T (ja D.K) (fun _=>false) cI {S with hp:=fR hs S.hp,ar:=[],live:=bm (fun l n=>lM n l) ls S.live } with
    |none=>none
    |some q=>fE (Cu D.C q.1 k σ [] [] []) k.ny)
 |_,_,_=>none
def F9 (D:D0) (pre:List XR) (dst:Option Nat) (f:Nat) (args:List XO) (post:List XR) (an:qp) (S:Sy):fG:=match an with
 | .call cI=>(match Cf D.C pre S with
  |none=>none
  |some l=>outs (fE (fun S1=>match dO (rf S1) args with
   |none=>none
   |some vs=>(match Gi vs with
    |none=>none
    |some xs=>(match cX (Br D S1 xs cI) (D.KS f) with
     |none=>none
     |some r=>fE (fun q=>Cf D.C post (ry q.2 dst q.1)) r))) l))
 |_=>none
def cg (D:D0):SC->qp->Sy->fG
 | .x c,an,S=>eR D.C c (xAn an) S
 | .seq a b,an,S=>match an with
  | .fk f fa fb x y=>XZ D f fa fb (fun t S=>yU D (cg D a) (cg D b) (Bool.rec y x t) S) S
  |an=>yU D (cg D a) (cg D b) an S
 | .cond o a b,an,S=>match mo S o with
  |some (.bl f)=>fE (fun p=>(Bool.rec (cg D b p.2 p.1.2) (cg D a p.2 p.1.2) p.1.1:fG)) (lG (uM D.C.T S o f) (sAs an))
  |_=>none
 | .block id a,an,S=>Option.rec none (fun l=>some (l.map fun p=>(oY id p.1,p.2))) (cg D a an S)
 | .loop a,an,S=>match an with
  | .l ts bh=>E6 D S ts bh (cg D a)
  |_=>none
 | .ev pre size p v,an,S=>X0 D pre size p v an S
 | .call pre dst f args post,an,S=>F9 D pre dst f args post an S
def Bl (D:D0) (n:Nat) (k:fS) (s:SC) (rs:List mv) (an:qp):Bool:=aq (nw D.C.T k) (aq (aU (we D.C.T D.K) D.sites) (Option.rec false (fun l=>aU (Kz D.C k rs) l) (cg D s an (s7 D.C.T n k))))
end
end Go.Ab
namespace Go.Ab
noncomputable section
open Go.Ev
inductive MA where
 |k
 |w (a:An)
 |sa (ts:List Tm) (x:MA)
 |sb (ts:List Tm) (a:An) (ms:List MA)
 |c (bh:List MA)
 |l (ts:List Tm) (bh:List MA)
variable {C : Cx}
end
end Go.Ab
namespace Go.Pk
open Go Go.Ev Go.Ab
noncomputable section
structure iW (α:Type) where
 run:{β:Type}->List Nat->(α->List Nat->Option β)->Option β
 law:∀ {β:Type} (s:List Nat) (k:α->List Nat->Option β),run s k=(run s fun a r=>some (a,r)).bind fun p=>k p.1 p.2
def iW.val {α:Type} (p:iW α) (s:List Nat):Option (α × List Nat):=p.run s fun a r=>some (a,r)
theorem iW.l7 {α β:Type} {p:iW α} {s:List Nat} {k:α->List Nat->Option β} {b:β} (h:p.run s k=some b):∃ a r,p.val s=some (a,r)/\k a r=some b:=by
 rw[p.law] at h;cases hv:p.val s with
 |none=>unfold iW.val at hv; rw[hv] at h; cases h
 |some q=>unfold iW.val at hv; rw[hv] at h; exact⟨q.1,q.2,rfl,h⟩
def ret {α:Type} (a:α):iW α:=⟨fun s k=>k a s,fun _ _=>rfl⟩
def non {α:Type}:iW α:=⟨fun _ _=>none,fun _ _=>rfl⟩
def iW.bind {α γ:Type} (p:iW α) (q:α->iW γ):iW γ:=⟨fun s k=>p.run s fun a r=>(q a).run r k,fun{β} s k=>by
 rw[p.law s (fun a r=>(q a).run r k),p.law s (fun a r=>(q a).run r fun a r=>some (a,r))]
 cases p.run s (fun a r=>some (a,r)) with
 |none=>rfl
 |some x=>exact(q x.1).law x.2 k⟩
def nx:iW Nat:=⟨fun s k=>List.rec none (fun a t _=>k a t) s,fun s k=>by cases s<;>rfl⟩
def rep {α:Type} (p:iW α) (n:Nat):iW (List α):=Nat.rec (ret []) (fun _ ih=>p.bind fun a=>ih.bind fun t=>ret (a::t)) n
def lq {α:Type} (p:iW α):iW (List α):=nx.bind (rep p)
def pk {α:Type} (l:List (iW α)):Nat->iW α:=List.rec (motive:=fun _=>Nat->iW α) (fun _=>non) (fun a _ ih n=>Bool.rec (ih (Nat.sub n 1)) a (Nat.beq n 0)) l
def ofO {α:Type} (o:Option α):iW α:=Option.rec non ret o
section
variable (IT : Tr Int) (ST : Tr (List UInt8))
def intP:iW Int:=nx.bind fun n=>ofO (IT.get n)
def M7 {α β:Type} (p:iW α) (q:iW β):iW (α × β):=p.bind fun a=>q.bind fun b=>ret (a,b)
def AO:iW af:=(intP IT).bind fun c=>(lq (M7 nx (intP IT))).bind fun t=>ret ⟨c,t⟩
def ssP:iW SS:=nx.bind (pk [nx.bind fun n=>ret (.v n),nx.bind fun n=>(ofO (ST.get n)).bind fun s=>ret (.c s)])
def P9:iW Bool:=nx.bind (pk [ret false,ret true])
def bfP (d:Nat):iW BF:=Nat.rec non (fun _ ih=>nx.bind (pk [P9.bind fun b=>ret (.k b),(AO IT).bind fun l=>ret (.ge l),(AO IT).bind fun l=>ret (.eq l),nx.bind fun n=>ret (.u n),
 (ssP ST).bind fun x=>(ssP ST).bind fun y=>ret (.seq x y),nx.bind fun n=>ret (.dot n),ih.bind fun f=>ret (.not f),
 ih.bind fun f=>ih.bind fun g=>ret (.and f g),ih.bind fun f=>ih.bind fun g=>ret (.or f g),ih.bind fun f=>ih.bind fun g=>ret (.imp f g)])) d
def kindP:iW IntKind:=nx.bind (pk [ret .i64,ret .u8,ret .u64,ret .i32,ret .u32])
def cstP:iW AV:=nx.bind (pk [ret .az,ret .iL,ret .kV,ret .kU,ret .any,ret (.cv []),nx.bind fun n=>ret (.fn n [] [])])
def saP:iW SA:=nx.bind (pk [kindP.bind fun k=>(AO IT).bind fun l=>ret (.int k l),(bfP IT ST 8).bind fun f=>ret (.bl f),(ssP ST).bind fun s=>ret (.str s),nx.bind fun n=>ret (.sl n),
 nx.bind fun n=>nx.bind fun m=>ret (.ptr n m),nx.bind fun n=>nx.bind fun m=>ret (.ks n m),nx.bind fun n=>ret (.var n),cstP.bind fun v=>ret (.iD v)])
def seP:iW SE:=nx.bind (pk [(saP IT ST).bind fun x=>ret (.a x),(lq (saP IT ST)).bind fun l=>ret (.agg l)])
def svP:iW SV:=nx.bind (pk [(seP IT ST).bind fun x=>ret (.e x),(lq (seP IT ST)).bind fun l=>ret (.cv l),
 (lq (saP IT ST)).bind fun l=>nx.bind fun o=>nx.bind fun n=>(AO IT).bind fun i=>ret (.ro l o n i),nx.bind fun n=>(AO IT).bind fun i=>nx.bind fun s=>nx.bind fun o=>ret (.ap n i s o)])
def Dn:iW Fact:=nx.bind (pk [(bfP IT ST 8).bind fun f=>ret (.f f),nx.bind fun n=>nx.bind fun t=>ret (.ty n t),nx.bind fun n=>nx.bind fun t=>ret (.sz n t),
 nx.bind fun n=>(AO IT).bind fun i=>nx.bind fun b=>nx.bind fun k=>ret (.el n i b k),nx.bind fun n=>(AO IT).bind fun i=>nx.bind fun t=>ret (.pf n i t),
 nx.bind fun t=>nx.bind fun b=>ret (.cd t b),nx.bind fun n=>ret (.tp n)])
def hpP:iW (Nat × Nat × List SA):=M7 nx (M7 nx (lq (saP IT ST)))
def arP:iW (Nat × Nat × Nat × Nat):=M7 nx (M7 nx (M7 nx nx))
def tmP:iW Tm:=nx.bind fun nv=>(lq nx).bind fun cI=>(lq (M7 nx (svP IT ST))).bind fun sl=>(lq (hpP IT ST)).bind fun hp=>(lq arP).bind fun ar=>(lq nx).bind fun live=>(lq (Dn IT ST)).bind fun fs=>(AO IT).bind fun m=>ret ⟨nv,cI,sl,hp,ar,live,fs,m⟩
def anP (d:Nat):iW An:=Nat.rec non (fun _ ih=>nx.bind (pk [ret .o,(lq (tmP IT ST)).bind fun ts=>ih.bind fun a=>(lq ih).bind fun bs=>ret (.s ts a bs),(lq ih).bind fun bh=>ret (.c bh),(lq (tmP IT ST)).bind fun ts=>(lq ih).bind fun bh=>ret (.l ts bh)])) d
def postP:iW QG:=nx.bind fun nv=>(lq (seP IT ST)).bind fun res=>(lq (hpP IT ST)).bind fun hp=>(lq arP).bind fun ar=>(lq nx).bind fun live=>(lq (Dn IT ST)).bind fun fs=>ret ⟨nv,res,hp,ar,live,fs⟩
def qT:iW fS:=nx.bind fun np=>(lq (seP IT ST)).bind fun args=>(lq (hpP IT ST)).bind fun hp=>(lq arP).bind fun ar=>(lq nx).bind fun live=>(lq (Dn IT ST)).bind fun fs=>nx.bind fun lz=>(AO IT).bind fun m=>(lq (postP IT ST)).bind fun ps=>ret ⟨np,args,hp,ar,live,fs,lz,m,ps⟩
end
def grab (b x i:Nat):Nat:=Nat.mod (Nat.shiftRight x (Nat.mul b i)) (Nat.pow 2 b)
def xY (x o l:Nat):Nat:=Nat.mod (Nat.shiftRight x o) (Nat.pow 2 l)
structure Gm where
 nt:Nat
 ns:Nat
 tsm:Nat
 tbg:Nat
 rule:Tr Nat
def UD (x k:Nat):Nat:=Nat.add 18 (Nat.mul k (Nat.add 14 (xY x 14 4)))
def TC (G:Gm) (d:Nat):Nat->List Nat->List Nat:=Nat.rec (motive:=fun _=>Nat->List Nat->List Nat) (fun _ r=>r) (fun _ ih s r=>Bool.rec
 (Option.rec r (fun x=>ih (Nat.add (xY x 0 14) (xY x (Nat.add (UD x (Nat.mod (Nat.sub s G.nt) 64)) 14) (xY x 14 4))) (ih (xY x (UD x (Nat.mod (Nat.sub s G.nt) 64)) 14) r)) (G.rule.get (Nat.div (Nat.sub s G.nt) 64)))
 (Bool.rec (motive:=fun _=>Nat) (xY G.tbg (Nat.mul 41 (Nat.sub s G.ns)) 41) (xY G.tsm (Nat.mul 11 s) 11) (Nat.blt s G.ns)::r) (Nat.blt s G.nt)) d
def symsG (G:Gm) (x n:Nat):Nat->List Nat:=Nat.rec (motive:=fun _=>Nat->List Nat) (fun _=>[]) (fun _ ih i=>TC G 40 (grab 14 x i) (ih (Nat.succ i))) n
def qt (G:Gm) (n x:Nat):List Nat:=symsG G x n 0
structure dR where
 f:Nat
 j:Nat
 pw:Bool
 st:Nat
 used:List Nat
 cV:List (Nat × List Nat)
 an:An
structure Db where
 T:TT
 IT:Tr Int
 ST:Tr (List UInt8)
 G:Gm
 Vi:Tr (Nat × Nat × Nat)
 nc:Nat
def entP (D:Db):iW dR:=nx.bind fun f=>nx.bind fun j=>P9.bind fun pw=>nx.bind fun st=>(lq nx).bind fun used=>(lq (M7 nx (lq nx))).bind fun cV=>(anP D.IT D.ST 60).bind fun an=>ret ⟨f,j,pw,st,used,cV,an⟩
def dU (D:Db) (j:Nat):Option (Nat × fS):=Option.rec none (fun p=>(qT D.IT D.ST).run (qt D.G p.2.1 p.2.2) fun k _=>some (p.1,k)) (D.Vi.get j)
def jt (D:Db) {β:Type} (l:List Nat):(List (Nat × fS)->Option β)->Option β:=List.rec (motive:=fun _=>(List (Nat × fS)->Option β)->Option β) (fun k=>k [])
 (fun j _ ih k=>Option.rec none (fun p=>(qT D.IT D.ST).run (qt D.G p.2.1 p.2.2) fun c _=>ih fun t=>k ((p.1,c)::t)) (D.Vi.get j)) l
def eY (l:List (Nat × fS)) (g:Nat):List fS:=List.rec [] (fun p _ ih=>Bool.rec ih (p.2::ih) (Nat.beq p.1 g)) l
def xU (l:List (Nat × List Nat)):Tr (List Nat):=bm (fun t p=>Tr.set t p.1 p.2) l .nil
def LK (T:TT) (lz:Nat) (l:List (Nat × fS)):Bool:=aU (fun p=>Nat.ble p.2.lz lz) l
def chkW (D:Db) (N J n s:Nat) (g:Cx->Nat->fS->An->Bool):Option Unit:=(entP D).run (qt D.G n s) fun e _=>jt D (e.j::e.used) fun l=>match l with
 | []=>none
 |k::us=>Bool.rec none (some ()) (aq (aq (Nat.beq k.1 N) (aq (Nat.beq e.j J) (aU (fun j=>Nat.blt j D.nc) e.used))) (aq (LK D.T k.2.lz us) (g ⟨D.T,eY us,xU e.cV,e.pw,k.2.lz,k.2.dE⟩ e.st k.2 e.an)))
def F6 (D:Db) (N J:Nat) (x:Option XF) (n s:Nat):Option Unit:=chkW D N J n s fun C st k an=>Option.rec false (fun x=>Bm C st k x an) x
theorem gy {D:Db} {β:Type}:∀ {l:List Nat} {k:List (Nat × fS)->Option β} {b:β},jt D l k=some b->∃ r,k r=some b/\∀ (γ:Type) (k':List (Nat × fS)->Option γ),jt D l k'=k' r:=by
 intro l
 induction l with
 |nil=>intro k b h; exact⟨[],h,fun _ _=>rfl⟩
 |cons j l ih =>
  intro k b h;have e:∀ (γ:Type) (k:List (Nat × fS)->Option γ),jt D (j::l) k=Option.rec none (fun p=>(qT D.IT D.ST).run (qt D.G p.2.1 p.2.2) fun c _=>jt D l fun t=>k ((p.1,c)::t)) (D.Vi.get j):=fun _ _=>rfl
  rw[e] at h;cases hg:D.Vi.get j with
  |none=>rw[hg] at h; cases h
  |some p =>
   rw[hg] at h;obtain⟨c,r,hv,h⟩:=iW.l7 (show(qT D.IT D.ST).run (qt D.G p.2.1 p.2.2) (fun c _=>jt D l fun t=>k ((p.1,c)::t))=some b from h)
   obtain⟨t,h1,h2⟩:=ih h;refine⟨(p.1,c)::t,h1,fun γ k'=>?_⟩
   rw[e,hg];show(qT D.IT D.ST).run (qt D.G p.2.1 p.2.2) (fun c _=>jt D l fun t=>k' ((p.1,c)::t))=_
   rw[(qT D.IT D.ST).law];have hv:(qT D.IT D.ST).run (qt D.G p.2.1 p.2.2) (fun a r=>some (a,r))=some (c,r):=hv
   rw[hv];exact h2 _ _
theorem uf {b:Bool} (h:(Bool.rec none (some ()) b:Option Unit)=some ()):b=true:=by cases b with
 |false=>cases h
 |true=>rfl
theorem KQ {D:Db} {N J n s:Nat} {g:Cx->Nat->fS->An->Bool} (h:chkW D N J n s g=some ()):∃ (e:dR) (k:Nat × fS) (us:List (Nat × fS)),aq (Nat.beq k.1 N) (aq (Nat.beq e.j J) (aU (fun j=>Nat.blt j D.nc) e.used))=true/\LK D.T k.2.lz us=true/\g ⟨D.T,eY us,xU e.cV,e.pw,k.2.lz,k.2.dE⟩ e.st k.2 e.an=true /\
  (∃ r,(entP D).val (qt D.G n s)=some (e,r))/\∀ (γ:Type) (k':List (Nat × fS)->Option γ),jt D (e.j::e.used) k'=k' (k::us):=by
 obtain⟨e,r,hv,h⟩:=iW.l7 h;obtain⟨l,h1,h2⟩:=gy h;cases l with
 |nil=>cases h1
 |cons k us =>
  have h1:=uf h1;obtain⟨a,b⟩:=ad h1;obtain⟨b,c⟩:=ad b;exact⟨e,k,us,a,b,c,⟨r,hv⟩,h2⟩
end
end Go.Pk
namespace Go.Pk
open Go Go.Ev Go.Ab
noncomputable section
variable {E : Env} {D : Db}
def jH (E:Env) (D:Db) (f:Nat) (k:fS):Prop:=nw D.T k=true/\∀ ρ,lF E D.T f k ρ
def yI (E:Env) (D:Db) (J:Nat):Prop:=∃ N x n s,E.F.get N=x/\E.AA N=none/\F6 D N J x n s=some ()
def Hand (E:Env) (D:Db) (J:Nat):Prop:=∀ f k,dU D J=some (f,k)->(∀ J' f' k',J'<D.nc->dU D J'=some (f',k')->k'.lz<k.lz->jH E D f' k')->jH E D f k
theorem sy:∀ {l:List Nat} {r:List (Nat × fS)},jt D l some=some r->∀ p∈r,∃ j∈l,dU D j=some p:=by
 intro l
 induction l with
 |nil=>intro r h p hp; have h:some []=some r:=h; cases h; cases hp
 |cons j l ih =>
  intro r h p hp;have h:Option.rec none (fun p=>(qT D.IT D.ST).run (qt D.G p.2.1 p.2.2) fun c _=>jt D l fun t=>some ((p.1,c)::t)) (D.Vi.get j)=some r:=h
  cases hg:D.Vi.get j with
  |none=>rw[hg] at h; cases h
  |some q =>
   rw[hg] at h;obtain⟨c,rest,hv,h⟩:=iW.l7 (show(qT D.IT D.ST).run (qt D.G q.2.1 q.2.2) (fun c _=>jt D l fun t=>some ((q.1,c)::t))=some r from h)
   obtain⟨t,h1,h2⟩:=gy h;cases h1;rcases lI.1 hp with rfl |hp
   ·refine⟨j,.head _,?_⟩
    unfold dU;rw[hg];show(qT D.IT D.ST).run (qt D.G q.2.1 q.2.2) (fun k _=>some (q.1,k))=_
    rw[(qT D.IT D.ST).law];unfold iW.val at hv;rw[hv]; rfl
   ·obtain⟨i,hi,e⟩:=ih (h2 _ some) p hp
    exact⟨i,.tail _ hi,e⟩
theorem DE {j:Nat} {l:List Nat} {k:Nat × fS} {us:List (Nat × fS)} (h:∀ (γ:Type) (k':List (Nat × fS)->Option γ),jt D (j::l) k'=k' (k::us)):dU D j=some k/\jt D l some=some us:=by
 have h1:=h _ some;have h1:Option.rec none (fun p=>(qT D.IT D.ST).run (qt D.G p.2.1 p.2.2) fun c _=>jt D l fun t=>some ((p.1,c)::t)) (D.Vi.get j)=some (k::us):=h1
 cases hg:D.Vi.get j with
 |none=>rw[hg] at h1; cases h1
 |some q =>
  rw[hg] at h1;obtain⟨c,rest,hv,h1⟩:=iW.l7 (show(qT D.IT D.ST).run (qt D.G q.2.1 q.2.2) (fun c _=>jt D l fun t=>some ((q.1,c)::t))=some (k::us) from h1)
  obtain⟨t,e,h2⟩:=gy h1;injection e with e
  injection e with e1 e2
  subst e1 e2;refine⟨?_,h2 _ some⟩
  unfold dU;rw[hg];show(qT D.IT D.ST).run (qt D.G q.2.1 q.2.2) (fun k _=>some (q.1,k))=_
  rw[(qT D.IT D.ST).law];unfold iW.val at hv;rw[hv]; rfl
theorem kL {us:List (Nat × fS)} {g:Nat} {k:fS}:k∈eY us g->(g,k)∈us:=by
 induction us with
 |nil=>intro h; cases h
 |cons p us ih =>
  intro h;have h:k∈(Bool.rec (eY us g) (p.2::eY us g) (Nat.beq p.1 g):List fS):=h;cases hb:Nat.beq p.1 g with
  |false=>rw[hb] at h; exact .tail _ (ih h)
  |true =>
   have e:(Bool.rec (eY us g) (p.2::eY us g) (Nat.beq p.1 g):List fS)=p.2::eY us g:=by rw[hb]
   rw[e] at h;have:=bt hb;subst this;rcases lI.1 h with rfl |h
   ·exact .head _
   ·exact .tail _ (ih h)
theorem zx {N J n s:Nat} {x:Option XF} (h:F6 D N J x n s=some ()):∃ (e:dR) (k:fS) (us:List (Nat × fS)) (fx:XF),x=some fx/\dU D J=some (N,k)/\(∀ p∈us,p.2.lz<=k.lz/\∃ j,j<D.nc/\dU D j=some p) /\
  Bm ⟨D.T,eY us,xU e.cV,e.pw,k.lz,k.dE⟩ e.st k fx e.an=true:=by
 obtain⟨e,k,us,a,b,c,_,h2⟩:=KQ h;obtain⟨a1,a⟩:=ad a;obtain⟨a2,a3⟩:=ad a;obtain⟨h3,h4⟩:=DE h2;cases x with
 |none=>cases c
 |some fx =>
  refine⟨e,k.2,us,fx,rfl,?_,fun p hp=>⟨gW (aB b p hp),?_⟩,c⟩
  ·rw[<-bt a2,h3,<-bt a1]
  ·obtain⟨j,hj,e⟩:=sy h4 p hp
   exact⟨j,gW (aB a3 j hj),e⟩
theorem H6 {J f:Nat} {k:fS} (h:yI E D J) (hc:dU D J=some (f,k)):nw D.T k=true:=by
 obtain⟨N,x,n,s,_,_,h⟩:=h;obtain⟨e,k',us,fx,_,h1,_,h2⟩:=zx h;rw[h1] at hc;cases hc;exact(ad h2).1
theorem NR (h:∀ J,J<D.nc->yI E D J\/Hand E D J):∀ J f k,J<D.nc->dU D J=some (f,k)->jH E D f k:=by
 have key:∀ g J f k,J<D.nc->dU D J=some (f,k)->k.lz=g->jH E D f k:=by
  intro g
  induction g using Nat.strongRecOn with
  |ind g ih =>
   have hand:∀ J f k,dU D J=some (f,k)->k.lz=g->Hand E D J->jH E D f k:=fun J f k hc hg hH=>hH f k hc fun J' f' k' hJ' jW BH=>ih k'.lz (by omega) J' f' k' hJ' jW rfl
   have done:∀ f k,(∃ J,J<D.nc/\dU D J=some (f,k)/\k.lz=g/\yI E D J)->∀ ρ,lF E D.T f k ρ:=by
    refine O4 (lz:=g) ?_
    rintro f k ⟨J,hJ,hc,hg,N,x,n,s,hx,hp,qP⟩
    obtain⟨e,k',us,fx,rfl,h1,h2,h3⟩:=zx qP;rw[h1] at hc;cases hc;refine⟨_,fx,e.an,e.st,rfl,rfl,hg,hx,hp,h3,fun g' k' bQ=>?_⟩
    obtain⟨h4,j,hj,h5⟩:=h2 _ (kL bQ);have h4:k'.lz<=k.lz:=h4
    by_cases aO:k'.lz<g
    ·have:=ih k'.lz aO j g' k' hj h5 rfl
     exact⟨this.1,.inr this.2⟩
    ·have he:k'.lz=g:=by omega
     rcases h j hj with hd |hh
     ·refine⟨H6 hd h5,.inl ⟨by rw[he]; exact fV g,j,hj,h5,he,hd⟩⟩
     ·have:=hand j g' k' h5 he hh
      exact⟨this.1,.inr this.2⟩
   intro J f k hJ hc hg;rcases h J hJ with hd |hh
   ·exact⟨H6 hd hc,done f k ⟨J,hJ,hc,hg,hd⟩⟩
   ·exact hand J f k hc hg hh
 exact fun J f k hJ hc=>key _ J f k hJ hc rfl
def dV (E:Env) (D:Db):Nat->Prop:=fun n=>∀ J,J<n->yI E D J\/Hand E D J
theorem all_zero:dV E D 0:=fun J h=>absurd h (by omega)
theorem all_succ {n:Nat} (h:dV E D n) (hd:yI E D n):dV E D (n+1):=fun J hJ=>if e:J=n then e ▸ .inl hd else h J (by omega)
theorem Qs {n:Nat} (h:dV E D n) (hd:Hand E D n):dV E D (n+1):=fun J hJ=>if e:J=n then e ▸ .inr hd else h J (by omega)
def YA {α:Type}:Nat->(Nat->Option α)->Tr α
 |0,_=>.nil
 |d+1,g=>.node (g 0) (YA d fun i=>g (2*i+1)) (YA d fun i=>g (2*i+2))
theorem Il {α:Type}:∀ (d:Nat) (g:Nat->Option α) (k:Nat),(YA d g).get k=if k+1<2 ^ d then g k else none:=by
 intro d
 induction d with
 |zero =>
  intro g k;have:¬ k+1<2 ^ 0:=by simp
  rw[ba this]; rfl
 |succ d ih =>
  intro g k;have e:(YA (d+1) g).get k=(Bool.rec (Bool.rec ((YA d fun i=>g (2*i+2)).get (Nat.sub (Nat.div k 2) 1)) ((YA d fun i=>g (2*i+1)).get (Nat.div k 2)) (Nat.beq (Nat.mod k 2) 1)) (g 0) (Nat.beq k 0):Option α):=rfl
  rw[e];have hp:2 ^ (d+1)=2*2 ^ d:=by rw[Nat.pow_succ,wz]
  have C1:0<2 ^ d:=Nat.two_pow_pos d;have s:Nat.div k 2=k / 2:=rfl;have t:Nat.mod k 2=k % 2:=rfl;have u:Nat.sub (k / 2) 1=k / 2-1:=rfl;rw[s,t,u,ih,ih];cases h0:Nat.beq k 0 with
  |true =>
   have:=bt h0;subst this;show g 0=if 0+1<2 ^ (d+1) then g 0 else none
   rw[bJ (by omega)]
  |false =>
   have hk:k≠0:=fun e=>by subst e; cases h0
   cases h1:Nat.beq (k % 2) 1 with
   |true =>
    have h1:=bt h1;show(if k / 2+1<2 ^ d then g (2*(k / 2)+1) else none)=_
    rw[show 2*(k / 2)+1=k by omega]
    by_cases aO:k / 2+1<2 ^ d
    ·rw[bJ aO,bJ (by omega)]
    ·rw[ba aO,ba (by omega)]
   |false =>
    have h1:k % 2≠1:=fun e=>by rw[e] at h1; cases h1
    show(if k / 2-1+1<2 ^ d then g (2*(k / 2-1)+2) else none)=_
    rw[show 2*(k / 2-1)+2=k by omega]
    by_cases aO:k / 2-1+1<2 ^ d
    ·rw[bJ aO,bJ (by omega)]
    ·rw[ba aO,ba (by omega)]
end
end Go.Pk
namespace Go.Ev
open Go.RowKit
def WO:TypeDesc->Option Kd
 | .bool=>some .bool
 | .int k=>some (.int k)
 | .string=>some .str
 | .pointer _=>some .ptr
 | .slice e=>some (.slice e)
 | .struct fs=>some (.struct (fs.toList.map fun f=>(f.offset,f.type)))
 | .map k e=>some (.map k e)
 | .func _ _ _=>some .func
 |_=>none
def R2 (P:Program):TypeDesc->Bool
 | .struct fs=>fs.toList.all fun f=>(P.info? f.type).isSome
 |_=>true
def AK (P:Program) (t:Nat) (e:Bool):Option TI:=match P.underlying t with
 |some d=>match P.info? t with
  |some inf=>match WO d,inf.zero with
   |some kd,some z=>match Ug z with
    |some a=>match Nat.beq a.cells.length inf.size&&R2 P d with
     |true=>some ⟨kd,inf.size,inf.bytes,a,e⟩
     |false=>none
    |none=>none
   |_,_=>none
  |none=>none
 |none=>none
def Gq (P:Program) (t:Nat) (z:List AV):Prop:=P.eqGuardType P.depth t=false /\
  ∀ (w w':World) (g:G) (bh bs:List AV) (us vs:List Value) (r:Bool),RL w g bh us->RL w g bs vs->jg z bh=true->jg z bs=true->pI bh bs=some r->(Op.equal t (.agg us.toArray) (.agg vs.toArray)).run P w' = .ok r w'
theorem SO {P:Program} {d:TypeDesc} {kd:Kd} (h:WO d=some kd):ld P kd d:=by
 unfold WO at h;split at h<;>cases h<;>simp[ld]
theorem mapM_some {α β:Type} (f:α->Option β):∀ (l:List α),(l.all fun x=>(f x).isSome)=true->∃ r,l.mapM f=some r:=by
 intro l
 induction l with
 |nil=>intro _; exact⟨[],rfl⟩
 |cons x l ih =>
  intro h;simp only[List.all_cons,kQ] at h;obtain⟨r,hr⟩:=ih h.2;cases hx:f x with
  |none=>rw[hx] at h; cases h.1
  |some y=>exact⟨y::r,by simp[List.mapM_cons,hx,hr]⟩
theorem Sp {P:Program} {t:Nat} {i:TI} (h:AK P t i.Ps=some i) (he:i.Ps=true->Gq P t i.zero.cells):uj P t i:=by
 unfold AK at h;split at h
 ·rename_i d hd
  split at h
  ·rename_i inf hinf
   split at h
   ·rename_i kd z hk hz
    split at h
    ·rename_i a ha
     split at h
     ·rename_i hc
      simp only[kQ,bo,pQ] at hc;obtain⟨hc,Hw⟩:=hc;injection h with h
      have h1:i.kd=kd:=by rw[<-h]
      have h2:i.size=inf.size:=by rw[<-h]
      have h3:i.bytes=inf.bytes:=by rw[<-h]
      have h4:i.zero=a:=by rw[<-h]
      refine⟨⟨inf,z,hinf,h2.symm,h3.symm,hz,fun w g=>by rw[h4]; exact sK ha w g,by rw[h4,h2]; exact hc,fun jO he=>?_⟩,⟨d,hd,by rw[h1]; exact SO hk⟩,fun k9 hf=>?_,he⟩
      ·rw[h4] at he
       rw[h2,<-hc,he] at jO;exact jO rfl
      ·rw[hd] at hf
       injection hf with hf
       subst hf;refine mapM_some _ _ ?_
       have Hw:(k9.toList.all fun f=>(P.info? f.type).isSome)=true:=Hw
       rw[<-Hw]
       congr 1
       funext f
       cases P.info? f.type<;>rfl
     ·cases h
    ·cases h
   ·cases h
  ·cases h
 ·cases h
end Go.Ev
namespace Go.Proofs.YthlkmffimhnehaaGreat
open Go Go.Ev
noncomputable section
def K0 {α:Type}:Nat->(Nat->Option α)->Tr α
 |0,_=>.nil
 |d+1,g=>.node (g 0) (K0 d fun i=>g (2*i+1)) (K0 d fun i=>g (2*i+2))
theorem Qa {α:Type}:∀ (d:Nat) (g:Nat->Option α) (k:Nat) (x:α),(K0 d g).get k=some x->g k=some x:=by
 intro d
 induction d with
 |zero =>
  intro g k x h;cases h
 |succ d ih =>
  intro g k x h;show g k=some x
  have h:(Tr.node (g 0) (K0 d fun i=>g (2*i+1)) (K0 d fun i=>g (2*i+2))).get k=some x:=h
  rw[Tr.eP] at h;split at h
  ·rename_i hk; rw[hk]; exact h
  ·split at h
   ·have:=ih _ _ _ h
    rw[show k=2*(k / 2)+1 by omega]
    exact this
   ·have:=ih _ _ _ h
    rw[show k=2*(k / 2-1)+2 by omega]
    exact this
def TN (i:Nat):Bool:=Nat.beq i 54 ||Nat.beq i 80
def Ef:Tr TI:=K0 9 fun i=>AK Tryz.prog i (TN i)
end
end Go.Proofs.YthlkmffimhnehaaGreat
namespace Go.Proofs.YthlkmffimhnehaaGreat
open Go Go.Ev
theorem mixed:(Tryz.prog).follows .mixedOrders=true:=by kernel_rfl
end Go.Proofs.YthlkmffimhnehaaGreat
namespace Go.Proofs.YthlkmffimhnehaaGreat
open Go Go.Ev
theorem GU {a:AV} {s:List UInt8} (h:sameAt (.str s) a=true):∃ t,a = .str t:=by
 cases a<;>first |exact⟨_,rfl⟩ |cases h
theorem yW {a:AV} {k:IntKind} {n:Int} (h:sameAt (.int k n) a=true):∃ m,a = .int k m:=by
 cases a<;>first |(cases h; done) |skip
 rename_i j m;have h:decide (k=j)=true:=h;have:=jT h;subst this; exact⟨m,rfl⟩
theorem qb {z:AV} {zs cs:List AV} (h:jg (z::zs) cs=true):∃ a l,cs=a::l/\sameAt z a=true/\jg zs l=true:=by
 cases cs with
 |nil=>cases h
 |cons a l =>
  have h:(sameAt z a&&jg zs l)=true:=h;rw[kQ] at h;exact⟨a,l,rfl,h.1,h.2⟩
theorem GV {cs:List AV} (h:jg [] cs=true):cs=[]:=by
 cases cs with
 |nil=>rfl
 |cons a l=>cases h
theorem iY {w:World} {g:G} {a:AV} {cs:List AV} {us:List Value} (h:RL w g (a::cs) us):∃ v vs,us=v::vs/\bI w g a v/\RL w g cs vs:=by
 cases h with
 |cons _ v _ vs h1 h2=>exact⟨v,vs,rfl,h1,h2⟩
theorem Ap {w:World} {g:G} {us:List Value} (h:RL w g [] us):us=[]:=by
 cases h; rfl
def Q4 (d:Nat) (xs ys:Array Value):List (Bool × TypeId × Nat)->Sem Bool
 | []=>pure true
 |(u,t,o)::fs =>
  if u=false then do
   let a <-part t xs o
   let b <-part t ys o
   let r <-Op.equalIn d t a b
   if (!r)=true then pure false else Q4 d xs ys fs
  else Q4 d xs ys fs
theorem Bc (d:Nat) (xs ys:Array Value):∀ fs:List Field,Op.eqFields d xs ys fs=Q4 d xs ys (fs.map fun f=>(f.name == "_",f.type,f.offset)):=by
 intro fs
 induction fs with
 |nil=>rfl
 |cons f fs ih =>
  simp only[Op.eqFields,ot,Q4,ih]
  by_cases h:f.name = "_"<;>simp[h]
section
variable {P : Program}
theorem oQ {d:Nat} {xs ys:Array Value} {t o:Nat} {fs:List (Bool × TypeId × Nat)} {x y:Value} {r:Bool} {w:World} (hg:(isAgg t).run P w = .ok false w) (hx:xs[o]?=some x) (hy:ys[o]?=some y) (he:(Op.equalIn d t x y).run P w = .ok r w) {q:Bool}
  (hq:(Q4 d xs ys fs).run P w = .ok q w):(Q4 d xs ys ((false,t,o)::fs)).run P w = .ok (r&&q) w:=by
 have h1:(part t xs o).run P w = .ok x w:=by unfold part; simp[Sem.run_bind,hg,hx]
 have h2:(part t ys o).run P w = .ok y w:=by unfold part; simp[Sem.run_bind,hg,hy]
 unfold Q4;rw[bJ rfl];simp only[Sem.run_bind,h1,h2,he,Result.andThen_ok];cases r with
 |true=>simpa using hq
 |false=>simp
theorem yP {t:TypeId} {xs ys:Array Value} {l:List (Bool × TypeId × Nat)} (ht:P.underlying t=some (.struct (P.fieldsOf t))) (hp:P.stoodInHeld t=false) (hl:((P.fieldsOf t).toList.map fun f=>(f.name == "_",f.type,f.offset))=l) {r:Bool} {w:World}
  (h:(Q4 9999 xs ys l).run P w = .ok r w):(Op.equal t (.agg xs) (.agg ys)).run P w = .ok r w:=by
 rw[eqd,run_equalIn_struct w 9999 t xs ys ht hp,Bc,hl,h]
end
theorem YJ (w:World):(isAgg 3).run Tryz.prog w = .ok false w:=by
 have h:Tryz.prog.underlying 3=some (.int .i64):=by kernel_rfl
 unfold isAgg;simp[Sem.run_bind,run_underlying h]
theorem agg9 (w:World):(isAgg 9).run Tryz.prog w = .ok false w:=by
 have h:Tryz.prog.underlying 9=some .string:=by kernel_rfl
 unfold isAgg;simp[Sem.run_bind,run_underlying h]
theorem eqI (m n:Int) (w:World):(Op.equalIn 9999 3 (.int .i64 m) (.int .i64 n)).run Tryz.prog w = .ok (cE m n) w:=by
 have h:Tryz.prog.underlying 3=some (.int .i64):=by kernel_rfl
 rw[run_equalIn_int w 9998 3 .i64 .i64 m n h,iV]
 congr 1
theorem eqS (s t:List UInt8) (w:World):(Op.equalIn 9999 9 (.string ⟨s.toArray⟩) (.string ⟨t.toArray⟩)).run Tryz.prog w = .ok (mW s t) w:=by
 have h:Tryz.prog.underlying 9=some .string:=by kernel_rfl
 rw[run_equalIn_string w 9998 9 _ _ h,lL,ByteArray.toList_eq,ByteArray.toList_eq];have:(s==t)=decide (s=t):=by rw[Bool.eq_iff_iff]; simp
 simp[this]
theorem u54:Tryz.prog.underlying 54=some (.struct (Tryz.prog.fieldsOf 54)):=by kernel_rfl
theorem p54:Tryz.prog.stoodInHeld 54=false:=by kernel_rfl
theorem f54:((Tryz.prog.fieldsOf 54).toList.map fun f=>(f.name == "_",f.type,f.offset))=[(false,9,0),(false,3,1)]:=by kernel_rfl
theorem u80:Tryz.prog.underlying 80=some (.struct (Tryz.prog.fieldsOf 80)):=by kernel_rfl
theorem p80:Tryz.prog.stoodInHeld 80=false:=by kernel_rfl
theorem f80:((Tryz.prog.fieldsOf 80).toList.map fun f=>(f.name == "_",f.type,f.offset))=[(false,3,0),(false,9,1),(false,3,2)]:=by kernel_rfl
def ti54:TI:=⟨(.struct [(0,9),(1,3)]),2,24,(.agg [(.str []),(.int .i64 0)]),true⟩
def ti80:TI:=⟨(.struct [(0,3),(1,9),(2,3)]),3,32,(.agg [(.int .i64 0),(.str []),(.int .i64 0)]),true⟩
theorem tok54:AK Tryz.prog 54 true=some ti54:=by kernel_rfl
theorem tok80:AK Tryz.prog 80 true=some ti80:=by kernel_rfl
theorem eq54:Gq Tryz.prog 54 ti54.zero.cells:=by
 refine⟨by kernel_rfl,?_⟩
 intro w w' g cs bs us vs r ha hb W6 QR he;have W6:jg [.str [],.int .i64 0] cs=true:=W6;have QR:jg [.str [],.int .i64 0] bs=true:=QR;obtain⟨a1,l1,rfl,h1,h2⟩:=qb W6;obtain⟨s,rfl⟩:=GU h1;obtain⟨a2,l2,rfl,h3,h4⟩:=qb h2;obtain⟨m,rfl⟩:=yW h3;obtain rfl:=GV h4;obtain⟨b1,l1,rfl,h1,h2⟩:=qb QR;obtain⟨s',rfl⟩:=GU h1;obtain⟨b2,l2,rfl,h3,h4⟩:=qb h2;obtain⟨m',rfl⟩:=yW h3;obtain rfl:=GV h4;obtain⟨v1,us,rfl,q1,ha⟩:=iY ha;obtain⟨v2,us,rfl,q2,ha⟩:=iY ha;obtain rfl:=Ap ha;obtain⟨u1,vs,rfl,q3,hb⟩:=iY hb;obtain⟨u2,vs,rfl,q4,hb⟩:=iY hb;obtain rfl:=Ap hb;rw[cF q1,bK q2,cF q3,bK q4];have he:some (mW s s'&&(cE m m'&&true))=some r:=he;replace he:=Option.some.inj he;subst he;have e1:=oQ (xs:=#[Value.string ⟨s.toArray⟩,.int .i64 m]) (ys:=#[Value.string ⟨s'.toArray⟩,.int .i64 m']) (fs:=[]) (YJ w') (o:=1) rfl rfl (eqI m m' w') (q:=true) (by simp[Q4])
 have e2:=oQ (agg9 w') (o:=0) rfl rfl (eqS s s' w') e1;have e3:=yP u54 p54 f54 e2;exact e3
theorem eq80:Gq Tryz.prog 80 ti80.zero.cells:=by
 refine⟨by kernel_rfl,?_⟩
 intro w w' g cs bs us vs r ha hb W6 QR he;have W6:jg [.int .i64 0,.str [],.int .i64 0] cs=true:=W6;have QR:jg [.int .i64 0,.str [],.int .i64 0] bs=true:=QR;obtain⟨a0,l0,rfl,h0,hsa2⟩:=qb W6;obtain⟨n,rfl⟩:=yW h0;obtain⟨a1,l1,rfl,h1,h2⟩:=qb hsa2;obtain⟨s,rfl⟩:=GU h1;obtain⟨a2,l2,rfl,h3,h4⟩:=qb h2;obtain⟨m,rfl⟩:=yW h3;obtain rfl:=GV h4;obtain⟨b0,l0,rfl,h0,hsb2⟩:=qb QR;obtain⟨n',rfl⟩:=yW h0;obtain⟨b1,l1,rfl,h1,h2⟩:=qb hsb2;obtain⟨s',rfl⟩:=GU h1;obtain⟨b2,l2,rfl,h3,h4⟩:=qb h2;obtain⟨m',rfl⟩:=yW h3;obtain rfl:=GV h4;obtain⟨v0,us,rfl,q0,ha⟩:=iY ha;obtain⟨v1,us,rfl,q1,ha⟩:=iY ha;obtain⟨v2,us,rfl,q2,ha⟩:=iY ha;obtain rfl:=Ap ha;obtain⟨u0,vs,rfl,q5,hb⟩:=iY hb;obtain⟨u1,vs,rfl,q3,hb⟩:=iY hb;obtain⟨u2,vs,rfl,q4,hb⟩:=iY hb;obtain rfl:=Ap hb;rw[bK q0,cF q1,bK q2,bK q5,cF q3,bK q4]
 have he:some (cE n n'&&(mW s s'&&(cE m m'&&true)))=some r:=he;replace he:=Option.some.inj he;subst he;have e1:=oQ (xs:=#[Value.int .i64 n,.string ⟨s.toArray⟩,.int .i64 m]) (ys:=#[Value.int .i64 n',.string ⟨s'.toArray⟩,.int .i64 m']) (fs:=[]) (YJ w') (o:=2) rfl rfl (eqI m m' w') (q:=true) (by simp[Q4])
 have e2:=oQ (agg9 w') (o:=1) rfl rfl (eqS s s' w') e1;have e3:=oQ (YJ w') (o:=0) rfl rfl (eqI n n' w') e2;have e4:=yP u80 p80 f80 e3;exact e4
theorem So {P:Program} {t:Nat} {e:Bool} {i:TI} (h:AK P t e=some i):i.Ps=e:=by
 unfold AK at h
 repeat' split at h
 all_goals first |(cases h; done) |(cases h; rfl)
theorem tab:bD Tryz.prog Ef.get:=by
 intro t i h;have h1:AK Tryz.prog t (TN t)=some i:=Qa 9 (fun i=>AK Tryz.prog i (TN i)) t i (by unfold Ef at h; exact h)
 have h2:=So h1;refine Sp (by rw[h2]; exact h1) fun he=>?_
 rw[h2] at he;rw[he] at h1;unfold TN at he;simp only[bo,Bool.or_eq_true,pQ] at he;rcases he with rfl |rfl
 ·rw[tok54] at h1; injection h1 with h1; subst h1; exact eq54
 ·rw[tok80] at h1; injection h1 with h1; subst h1; exact eq80
end Go.Proofs.YthlkmffimhnehaaGreat
namespace Go.Proofs
open Go.Shelf
def Tryz.CL:Go.Shelf.Ren:=⟨fun |217=>161 |266=>242 |n=>n,fun |9=>9 |5=>5 |3=>3 |n=>n,fun |n=>n⟩
theorem Tryz.SI:Go.Proofs.Lays.n217 Tryz.prog Tryz.CL:={
 mixed:=by kernel_rfl
 f217:=Tryz.func161.trans (congrArg some (by kernel_rfl))
 f266:=Tryz.func242.trans (congrArg some (by kernel_rfl))
 t3:=Tryz.underlying3
 a3:=Tryz.isAgg3
 z3:=Tryz.sizeOf3
 v3:=Tryz.zeroValue3
 t5:=Tryz.underlying5
 a5:=Tryz.isAgg5
 z5:=Tryz.sizeOf5
 v5:=Tryz.zeroValue5
 t9:=Tryz.underlying9
 a9:=Tryz.isAgg9
 z9:=Tryz.sizeOf9
 v9:=Tryz.zeroValue9 }
open Go.RowKit Go.Lib in
theorem Tryz.stringslite_IndexByte (s:ByteArray) (c:Int) (w:World) :
  Calls Tryz.prog 161 #[.string s,.int .u8 c] w fun e w'=>e = .returned (.int .i64 (Lib.indexByte s.data.toList c.toNat.toUInt8))/\w'=w:=Any.stringslite_IndexByte Tryz.SI s c w
def Tryz.CK:Go.Shelf.Ren:=⟨fun |219=>252 |217=>161 |225=>304 |224=>305 |267=>306 |266=>242 |314=>345 |n=>n,fun |9=>9 |3=>3 |4=>4 |5=>5 |46=>336 |146=>360 |51=>359 |n=>n,fun |1=>0 |n=>n⟩
theorem Tryz.SH:Go.Proofs.Lays.n219 Tryz.prog Tryz.CK:={
 mixed:=by kernel_rfl
 f217:=Tryz.func161.trans (congrArg some (by kernel_rfl))
 f219:=Tryz.func252.trans (congrArg some (by kernel_rfl))
 f224:=Tryz.func305.trans (congrArg some (by kernel_rfl))
 f225:=Tryz.func304.trans (congrArg some (by kernel_rfl))
 f266:=Tryz.func242.trans (congrArg some (by kernel_rfl))
 f267:=Tryz.func306.trans (congrArg some (by kernel_rfl))
 f314:=Tryz.func345.trans (congrArg some (by kernel_rfl))
 t3:=Tryz.underlying3
 a3:=Tryz.isAgg3
 z3:=Tryz.sizeOf3
 v3:=Tryz.zeroValue3
 t4:=Tryz.underlying4
 a4:=Tryz.isAgg4
 z4:=Tryz.sizeOf4
 v4:=Tryz.zeroValue4
 t5:=Tryz.underlying5
 a5:=Tryz.isAgg5
 z5:=Tryz.sizeOf5
 v5:=Tryz.zeroValue5
 t9:=Tryz.underlying9
 a9:=Tryz.isAgg9
 z9:=Tryz.sizeOf9
 v9:=Tryz.zeroValue9
 t46:=Tryz.underlying336
 a46:=Tryz.isAgg336
 z46:=Tryz.sizeOf336
 v46:=Tryz.zeroValue336
 t51:=Tryz.underlying359
 a51:=Tryz.isAgg359
 z51:=Tryz.sizeOf359
 v51:=Tryz.zeroValue359
 t146:=Tryz.underlying360
 a146:=Tryz.isAgg360
 z146:=Tryz.sizeOf360
 v146:=Tryz.zeroValue360
 g1:=by kernel_rfl }
open Go.RowKit Go.Lib in
theorem Tryz.stringslite_Index_one (s:ByteArray) (c:UInt8) (w:World) :
  Calls Tryz.prog 252 #[.string s,.string ⟨#[c]⟩] w fun e w'=>e = .returned (.int .i64 (Lib.indexByte s.data.toList c))/\w'=w:=Any.stringslite_Index_one Tryz.SH s c w
end Go.Proofs
namespace Go.Proofs.YthlkmffimhnehaaGreat
open Go Go.Ev
noncomputable section
def cX (c:UInt8):List UInt8->Nat->Option Nat :=
 List.rec (motive:=fun _=>Nat->Option Nat) (fun _=>none) (fun b _ ih n=>Bool.rec (ih (Nat.succ n)) (some n) (Nat.beq b.toNat c.toNat))
def tO (r:Option Nat):AV:=Option.rec (motive:=fun _=>AV) (.int .i64 (-1)) (fun i=>.int .i64 (.ofNat i)) r
def G8:List AV->Option AV
 | [.str s,.int .u8 (.ofNat c)]=>some (tO (cX (UInt8.ofNat c) s 0))
 |_=>none
def E2:List AV->Option AV
 | [.str s,.str [c]]=>some (tO (cX c s 0))
 |_=>none
theorem Pm (c:UInt8):∀ (l:List UInt8) (n:Nat),cX c l n=if Lib.indexByte l c = -1 then none else some ((Lib.indexByte l c).toNat+n):=by
 intro l
 induction l with
 |nil=>intro n; simp[Lib.indexByte,cX]
 |cons b l ih =>
  intro n;have h1:cX c (b::l) n=(if b=c then some n else cX c l (n+1)):=by
   show(Bool.rec (motive:=fun _=>Option Nat) (cX c l (n+1)) (some n) (Nat.beq b.toNat c.toNat))=_
   rw[bo]
   by_cases h:b=c
   ·subst h; simp
   ·have:¬ b.toNat=c.toNat:=fun e=>h (UInt8.toNat_inj.1 e)
    simp[h,this]
  rw[h1];have OJ:=Lib.indexByte_ge l c
  by_cases h:b=c
  ·subst h; simp[Lib.indexByte]
  ·rw[ba h,ih]
   have hbc:(b==c)=false:=by simpa using h
   simp only[Lib.indexByte,hbc,JB,pP]
   by_cases h2:Lib.indexByte l c = -1
   ·simp[h2]
   ·have h3:(Lib.indexByte l c == -1)=false:=by simpa using h2
    have h4:¬ (Lib.indexByte l c+1 = -1):=by omega
    simp only[h3,JB,pP,h2,h4]
    congr 1; omega
theorem zm (c:UInt8) (l:List UInt8) (w:World) (g:G):bI w g (tO (cX c l 0)) (.int .i64 (Lib.indexByte l c)):=by
 rw[Pm];have OJ:=Lib.indexByte_ge l c
 by_cases h:Lib.indexByte l c = -1
 ·rw[bJ h,h]; exact .int _ _
 ·rw[ba h]
  have e:Lib.indexByte l c=Int.ofNat ((Lib.indexByte l c).toNat+0):=by
   show _=(((Lib.indexByte l c).toNat+0:Nat):Int)
   omega
  conv=>rhs; rw[e]
  exact .int _ _
theorem MM {w:World} {g:G} {a b:AV} {vs:List Value} (h:RL w g [a,b] vs):∃ u v,vs=[u,v]/\bI w g a u/\bI w g b v:=by
 cases h with
 |cons _ u _ us h1 h2=>cases h2 with
  |cons _ v _ us h3 h4=>cases h4; exact⟨u,v,rfl,h1,h3⟩
theorem Nh (base:Nat):nq Tryz.prog base 161 G8:=by
 refine⟨⟨Tryz.f161,Tryz.func161,by kernel_rfl,by kernel_rfl⟩,fun args r h st w g vs hA hI=>?_⟩
 unfold G8 at h;split at h<;>cases h
 rename_i s c;obtain⟨u,v,rfl,h1,h2⟩:=MM hA;rw[cF h1,bK h2];refine(Tryz.stringslite_IndexByte ⟨s.toArray⟩ (c:Int) w).mono fun e w' ⟨he,hw⟩=>?_
 subst hw;have e1:((c:Int).toNat).toUInt8=UInt8.ofNat c:=by simp
 have e1':(Int.ofNat c).toNat.toUInt8=UInt8.ofNat c:=e1;refine⟨_,g,he,?_,hI,.refl ..⟩
 rw[e1];exact zm (UInt8.ofNat c) s _ g
theorem JJ (base:Nat):nq Tryz.prog base 252 E2:=by
 refine⟨⟨Tryz.f252,Tryz.func252,by kernel_rfl,by kernel_rfl⟩,fun args r h st w g vs hA hI=>?_⟩
 unfold E2 at h;split at h<;>cases h
 rename_i s c;obtain⟨u,v,rfl,h1,h2⟩:=MM hA;rw[cF h1,cF h2];refine(Tryz.stringslite_Index_one ⟨s.toArray⟩ c w).mono fun e w' ⟨he,hw⟩=>?_
 subst hw;exact⟨_,g,he,zm c s _ g,hI,.refl ..⟩
end
end Go.Proofs.YthlkmffimhnehaaGreat
namespace Go.Ev
open Go.RowKit
noncomputable section
def lV.beq:lV->lV->Bool
 | .full,.full=>true
 | .dead,.dead=>true
 | .at a,.at b=>Nat.beq a b
 |_,_=>false
mutual
def AV.beq:AV->AV->Bool
 | .bool a,.bool b=>a==b
 | .int k n,.int j m=>match decide (k=j) with
  |true=>cE n m
  |false=>false
 | .str s,.str t=>mW s t
 | .iL,.iL=>true
 | .ptr a b,.ptr c d=>Nat.beq a c&&Nat.beq b d
 | .ro cs o none,.ro ds p none=>Nat.beq o p&&AV.x4 cs ds
 | .az,.az=>true
 | .sl n es t,.sl m fs u=>Nat.beq n m&&lV.beq t u&&AV.x4 es fs
 | .ks a b c,.ks d e f=>Nat.beq a d&&Nat.beq b e&&Nat.beq c f
 | .kU,.kU=>true
 | .mp a,.mp b=>Nat.beq a b
 | .kV,.kV=>true
 | .fn f a c,.fn g b d=>Nat.beq f g&&AV.x4 a b&&AV.x4 c d
 | .agg cs,.agg ds=>AV.x4 cs ds
 | .cv cs,.cv ds=>AV.x4 cs ds
 | .any,.any=>true
 |_,_=>false
def AV.x4:List AV->List AV->Bool
 | [],[]=>true
 |a::l,b::m=>AV.beq a b&&AV.x4 l m
 |_,_=>false
end
theorem lV.bU {a b:lV} (h:lV.beq a b=true):a=b:=by
 cases a<;>cases b<;>first |rfl |(cases h; done) |skip
 have h:Nat.beq _ _=true:=h;rw[bo] at h;rw[jT h]
mutual
theorem AV.bU:∀ (a b:AV),AV.beq a b=true->a=b
 | .bool a,b,h=>by cases b<;>simp[AV.beq] at h; rw[h]
 | .int k n,b,h=>by
  cases b<;>try (simp[AV.beq] at h; done)
  rename_i j m;unfold AV.beq at h;split at h
  ·rename_i hk
   rw[jT hk];rw[iV] at h;rw[jT h]
  ·cases h
 | .str s,b,h=>by
  cases b<;>simp[AV.beq] at h
  rw[lL] at h;rw[jT h]
 | .iL,b,h=>by cases b<;>simp[AV.beq] at h; rfl
 | .ptr x y,b,h=>by
  cases b<;>simp[AV.beq] at h
  rw[h.1,h.2]
 | .ro cs o hm,b,h=>by
  cases b with
  |ro ds q hn =>
   cases hm<;>cases hn<;>simp[AV.beq] at h
   rw[h.1,AV.ng cs _ h.2]
  |_=>cases hm<;>simp[AV.beq] at h
 | .az,b,h=>by cases b<;>simp[AV.beq] at h; rfl
 | .sl n es t,b,h=>by
  cases b<;>simp[AV.beq] at h
  rw[h.1.1,lV.bU h.1.2,AV.ng es _ h.2]
 | .ks x y z,b,h=>by
  cases b<;>simp[AV.beq] at h
  rw[h.1.1,h.1.2,h.2]
 | .kU,b,h=>by cases b<;>simp[AV.beq] at h; rfl
 | .mp x,b,h=>by
  cases b<;>simp[AV.beq] at h
  rw[h]
 | .kV,b,h=>by cases b<;>simp[AV.beq] at h; rfl
 | .fn f x y,b,h=>by
  cases b<;>simp[AV.beq] at h
  rw[h.1.1,AV.ng x _ h.1.2,AV.ng y _ h.2]
 | .agg cs,b,h=>by
  cases b<;>simp[AV.beq] at h
  rw[AV.ng cs _ h]
 | .cv cs,b,h=>by
  cases b<;>simp[AV.beq] at h
  rw[AV.ng cs _ h]
 | .any,b,h=>by cases b<;>simp[AV.beq] at h; rfl
theorem AV.ng:∀ (a b:List AV),AV.x4 a b=true->a=b
 | [],b,h=>by cases b<;>simp[AV.x4] at h; rfl
 |a::l,b,h=>by
  cases b with
  |nil=>simp[AV.x4] at h
  |cons b m =>
   simp[AV.x4] at h;rw[AV.bU a b h.1,AV.ng l m h.2]
end
end
end Go.Ev
namespace Go.Proofs.YthlkmffimhnehaaGreat
open Go Go.Ev Go.Ab Go.Pk
noncomputable section
def kd0:Nat->Nat:=fun _=>0
def UM:Nat->Nat:=fun s=>if s=49 then 2 else 0
def kdF (i:Nat):Nat->Nat:=if i=266 then UM else kd0
def eF:Tr XF:=YA 9 fun i=>(Tryz.prog.funcs[i]?).bind fun fn=>mu Ef.get (kdF i) fn
theorem Yj:∀ f x,eF.get f=some x->∃ fn kd,Tryz.prog.funcs[f]?=some fn/\mu Ef.get kd fn=some x:=by
 intro f x h;unfold eF at h;rw[Il] at h;split at h
 ·cases hf:Tryz.prog.funcs[f]? with
  |none=>rw[hf] at h; cases h
  |some fn=>rw[hf] at h; exact⟨fn,_,rfl,h⟩
 ·cases h
theorem Ve {f:Nat} {fn:Func} (hf:Tryz.prog.funcs[f]?=some fn) (aO:f<511):eF.get f=mu Ef.get (kdF f) fn:=by
 unfold eF;rw[Il,bJ (by omega),hf]; rfl
def AB (l:List (Nat × (List AV->Option AV))) (f:Nat):Option (List AV->Option AV):=match l with
 | []=>none
 |(g,p)::l=>match Nat.beq f g with
  |true=>some p
  |false=>AB l f
def iw (l:List (Nat × (List AV->Option AV))):Env:=⟨eF,AB l⟩
theorem M5 {f:Nat} {p:List AV->Option AV}:∀ {l:List (Nat × (List AV->Option AV))},AB l f=some p->(f,p)∈l:=by
 intro l
 induction l with
 |nil=>intro h; cases h
 |cons q l ih =>
  intro h;obtain⟨g,r⟩:=q;unfold AB at h;split at h
  ·rename_i hb
   cases h
   rw[bt hb]; exact .head _
  ·exact .tail _ (ih h)
def sM (l:List (Nat × (List AV->Option AV))):Prop:=∀ q∈l,∀ base,nq Tryz.prog base q.1 q.2
theorem R1:sM []:=fun _ h=>nomatch h
theorem ou {f:Nat} {p:List AV->Option AV} {l:List (Nat × (List AV->Option AV))} (h:∀ base,nq Tryz.prog base f p) (hl:sM l):sM ((f,p)::l):=by
 intro q hq;rcases lI.1 hq with rfl |hq
 ·exact h
 ·exact hl q hq
variable {l : List (Nat × (List AV → Option AV))}
theorem xH (h:sM l) (base:Nat):D2 Tryz.prog Ef.get base (iw l):=⟨Yj,fun _ _ hp=>h _ (M5 hp) base⟩
theorem KV (h:sM l) (ag d base:Nat):gA Tryz.prog base (ao (iw l) ag d):=DJ tab (xH h base) (fun _ hc hv=>wk mixed tab hc hv) ag d
theorem Az (h:sM l) {f:Nat} {fn:Func} (hf:Tryz.prog.funcs[f]?=some fn) (hb:fn.body.isNone=false) (hn:(fn.name == "runtime.NumGoroutine")=false) {p:List AV->Option AV}
  (hp:∀ args r,p args=some r->∃ bs ag d r0 V1,AV.cQ args=some bs/\ao (iw l) ag d f bs ⟨.nil,0⟩=some (r0,V1)/\AV.dead r0=some r) (base:Nat):nq Tryz.prog base f p:=by
 refine⟨⟨fn,hf,hb,hn⟩,fun args r hr st w g vs hA hI=>?_⟩
 obtain⟨bs,ag,d,r0,V1,h1,h2,h3⟩:=hp args r hr;refine Qr (fun base=>KV h ag d base) (r:=r) ?_ hA hI
 unfold apart;rw[h1];simp only[h2];exact h3
theorem bp {f:Nat} {fn:Func} (hf:Tryz.prog.funcs[f]?=some fn) (aO:f<511) {x:XF} (hx:mu Ef.get (kdF f) fn=some x) (hp:AB l f=none) (ag d:Nat) (args:List AV) (st:St) :
  ao (iw l) ag (d+1) f args st=bg x.res (ak (ao (iw l) ag d) ag x.body (bb args 0 .nil) st):=by
 show oX (iw l) ag (ao (iw l) ag d) f args st=_
 have h1:uE (iw l) f args=none:=by
  unfold uE;rw[show(iw l).AA f=none from hp]
 have h2:(iw l).F.get f=some x:=(Ve hf aO).trans hx;unfold oX;rw[h1,h2]
theorem sD {f:Nat} {p:List AV->Option AV} (hp:AB l f=some p) {args:List AV} {r:AV} (hr:p args=some r) (ag d:Nat) (st:St):ao (iw l) ag (d+1) f args st=some (r,st):=by
 show oX (iw l) ag (ao (iw l) ag d) f args st=_
 have h1:uE (iw l) f args=some r:=by
  unfold uE;rw[show(iw l).AA f=some p from hp]
  exact hr
 unfold oX;rw[h1]
def SB:List (Nat × (List AV->Option AV)):=[(161,G8),(252,E2)]
theorem AP:sM SB:=ou Nh (ou JJ R1)
theorem TY {D:Db} {f J n s:Nat} {fn:Func} {kd:Nat->Nat} (hf:Tryz.prog.funcs[f]?=some fn) (aO:f<511) (hk:kdF f=kd) (hp:AB l f=none) (hc:F6 D f J (mu Ef.get kd fn) n s=some ()):yI (iw l) D J :=
 ⟨f,_,n,s,(Ve hf aO).trans (by rw[hk]),hp,hc⟩
end
end Go.Proofs.YthlkmffimhnehaaGreat
namespace Go.Proofs.YthlkmffimhnehaaGreat
open Go Go.Ev Go.Ab Go.Pk
noncomputable section
set_option maxRecDepth 100000
set_option maxHeartbeats 2000000
abbrev cu:Env:=iw SB
def y76:XC:=(.seq (.aQ
 [aC 4 (.move (.c (.int .i64 0)))]) (.seq (.aQ
 [aA 5 0,
  aA 6 1,
  fL 7 (.call (.c (.fn 161 [] [])) [(.t 5),(.t 6)]),
  aA 4 7]) .ret))
def y78:XC:=(.seq (.aQ
 [aC 2 (.move (.c (.bool false)))]) (.seq (.aQ
 [aA 3 0,
  aC 4 (.bin .neq .int (.t 3) (.c (.int .u8 10))),
  aA 2 4]) .ret))
def y79:XC:=(.seq (.aQ
 [aC 2 (.move (.c (.bool false)))]) (.seq (.aQ
 [aA 3 0,
  aC 4 (.bin .geq .int (.t 3) (.c (.int .u8 97))),
  aA 5 4,
  bW 6 5 true (.move (.t 0)),
  bW 7 5 true (.bin .leq .int (.t 6) (.c (.int .u8 122))),
  aC 8 (.pick (.t 5) (.t 7) (.c (.bool false))),
  aA 9 8,
  bW 10 9 false (.move (.t 0)),
  bW 11 9 false (.bin .geq .int (.t 10) (.c (.int .u8 65))),
  bW 12 9 false (.move (.t 11)),
  bW 13 12 true (.move (.t 0)),
  bW 14 12 true (.bin .leq .int (.t 13) (.c (.int .u8 90))),
  bW 15 9 false (.pick (.t 12) (.t 14) (.c (.bool false))),
  aC 16 (.pick (.t 9) (.c (.bool true)) (.t 15)),
  aA 2 16]) .ret))
def y80:XC:=(.seq (.aQ
 [aC 2 (.move (.c (.bool false)))]) (.seq (.aQ
 [aA 3 0,
  fL 4 (.call (.c (.fn 79 [] [])) [(.t 3)]),
  aA 5 4,
  bW 6 5 false (.move (.t 0)),
  ⟨some 7,some (5,false),(.e (.call (.c (.fn 81 [] [])) [(.t 6)]))⟩,
  aC 8 (.pick (.t 5) (.c (.bool true)) (.t 7)),
  aA 2 8]) .ret))
def y81:XC:=(.seq (.aQ
 [aC 2 (.move (.c (.bool false)))]) (.seq (.aQ
 [aA 3 0,
  aC 4 (.bin .geq .int (.t 3) (.c (.int .u8 48))),
  aA 5 4,
  bW 6 5 true (.move (.t 0)),
  bW 7 5 true (.bin .leq .int (.t 6) (.c (.int .u8 57))),
  aC 8 (.pick (.t 5) (.t 7) (.c (.bool false))),
  aA 2 8]) .ret))
def y82:XC:=(.seq (.aQ
 [aC 4 (.move (.c (.bool false)))]) (.seq (.aQ
 [aA 5 0,
  aA 6 1,
  fL 7 (.call (.c (.fn 162 [] [])) [(.t 5),(.t 6)]),
  aA 4 7]) .ret))
def Rf:XC:=(.seq (.aQ
 [aC 4 (.move (.c (.bool false)))]) (.seq (.aQ
 [aA 5 0,
  aC 6 (.lens (.t 5)),
  aA 7 1,
  aC 8 (.lens (.t 7)),
  aC 9 (.bin .geq .int (.t 6) (.t 8)),
  aA 10 9,
  bW 11 10 true (.move (.t 0)),
  bW 12 10 true (.move (.t 1)),
  bW 13 10 true (.lens (.t 12)),
  bW 14 10 true (.lZ (.t 11) none (some (.t 13))),
  bW 15 10 true (.move (.t 1)),
  bW 16 10 true (.bin .eql .str (.t 14) (.t 15)),
  aC 17 (.pick (.t 10) (.t 16) (.c (.bool false))),
  aA 4 17]) .ret))
def VD:XC:=(.seq (.aQ
 [aC 2 (.move (.c (.bool false)))]) (.seq (.aQ
 [aA 3 0,
  aC 4 (.bin .geq .int (.t 3) (.c (.int .u8 97))),
  aA 5 4,
  bW 6 5 true (.move (.t 0)),
  bW 7 5 true (.bin .leq .int (.t 6) (.c (.int .u8 122))),
  aC 8 (.pick (.t 5) (.t 7) (.c (.bool false))),
  aA 9 8,
  bW 10 9 false (.move (.t 0)),
  bW 11 9 false (.bin .geq .int (.t 10) (.c (.int .u8 65))),
  bW 12 9 false (.move (.t 11)),
  bW 13 12 true (.move (.t 0)),
  bW 14 12 true (.bin .leq .int (.t 13) (.c (.int .u8 90))),
  bW 15 9 false (.pick (.t 12) (.t 14) (.c (.bool false))),
  aC 16 (.pick (.t 9) (.c (.bool true)) (.t 15)),
  aA 2 16]) .ret))
def VC:XC:=(.seq (.aQ
 [aC 2 (.move (.c (.bool false)))]) (.seq (.aQ
 [aA 3 0,
  aC 4 (.bin .geq .int (.t 3) (.c (.int .u8 48))),
  aA 5 4,
  bW 6 5 true (.move (.t 0)),
  bW 7 5 true (.bin .leq .int (.t 6) (.c (.int .u8 57))),
  aC 8 (.pick (.t 5) (.t 7) (.c (.bool false))),
  aA 2 8]) .ret))
theorem q17 (ag d:Nat) (args:List AV) (st:St):ao cu ag (d+1) 17 args st=bg [.t 2,.t 3,.t 4] (ak (ao cu ag d) ag y17 (bb args 0 .nil) st):=bp Tryz.func17 (by decide) (x:=⟨y17,[.t 2,.t 3,.t 4]⟩) (by kernel_rfl) rfl ag d args st
theorem q18 (ag d:Nat) (args:List AV) (st:St):ao cu ag (d+1) 18 args st=bg [.t 2,.t 3,.t 4] (ak (ao cu ag d) ag y18 (bb args 0 .nil) st):=bp Tryz.func18 (by decide) (x:=⟨y18,[.t 2,.t 3,.t 4]⟩) (by kernel_rfl) rfl ag d args st
theorem q36 (ag d:Nat) (args:List AV) (st:St):ao cu ag (d+1) 36 args st=bg [.t 4] (ak (ao cu ag d) ag y36 (bb args 0 .nil) st):=bp Tryz.func36 (by decide) (x:=⟨y36,[.t 4]⟩) (by kernel_rfl) rfl ag d args st
theorem q37 (ag d:Nat) (args:List AV) (st:St):ao cu ag (d+1) 37 args st=bg [.t 4,.t 5] (ak (ao cu ag d) ag Ur (bb args 0 .nil) st):=bp Tryz.func37 (by decide) (x:=⟨Ur,[.t 4,.t 5]⟩) (by kernel_rfl) rfl ag d args st
theorem q38 (ag d:Nat) (args:List AV) (st:St):ao cu ag (d+1) 38 args st=bg [.t 2] (ak (ao cu ag d) ag y38 (bb args 0 .nil) st):=bp Tryz.func38 (by decide) (x:=⟨y38,[.t 2]⟩) (by kernel_rfl) rfl ag d args st
theorem q39 (ag d:Nat) (args:List AV) (st:St):ao cu ag (d+1) 39 args st=bg [.t 2,.t 3,.t 4] (ak (ao cu ag d) ag y39 (bb args 0 .nil) st):=bp Tryz.func39 (by decide) (x:=⟨y39,[.t 2,.t 3,.t 4]⟩) (by kernel_rfl) rfl ag d args st
theorem q76 (ag d:Nat) (args:List AV) (st:St):ao cu ag (d+1) 76 args st=bg [.t 4] (ak (ao cu ag d) ag y76 (bb args 0 .nil) st):=bp Tryz.func76 (by decide) (x:=⟨y76,[.t 4]⟩) (by kernel_rfl) rfl ag d args st
theorem q77 (ag d:Nat) (args:List AV) (st:St):ao cu ag (d+1) 77 args st=bg [.t 6] (ak (ao cu ag d) ag y77 (bb args 0 .nil) st):=bp Tryz.func77 (by decide) (x:=⟨y77,[.t 6]⟩) (by kernel_rfl) rfl ag d args st
theorem q78 (ag d:Nat) (args:List AV) (st:St):ao cu ag (d+1) 78 args st=bg [.t 2] (ak (ao cu ag d) ag y78 (bb args 0 .nil) st):=bp Tryz.func78 (by decide) (x:=⟨y78,[.t 2]⟩) (by kernel_rfl) rfl ag d args st
theorem q79 (ag d:Nat) (args:List AV) (st:St):ao cu ag (d+1) 79 args st=bg [.t 2] (ak (ao cu ag d) ag y79 (bb args 0 .nil) st):=bp Tryz.func79 (by decide) (x:=⟨y79,[.t 2]⟩) (by kernel_rfl) rfl ag d args st
theorem q80 (ag d:Nat) (args:List AV) (st:St):ao cu ag (d+1) 80 args st=bg [.t 2] (ak (ao cu ag d) ag y80 (bb args 0 .nil) st):=bp Tryz.func80 (by decide) (x:=⟨y80,[.t 2]⟩) (by kernel_rfl) rfl ag d args st
theorem q81 (ag d:Nat) (args:List AV) (st:St):ao cu ag (d+1) 81 args st=bg [.t 2] (ak (ao cu ag d) ag y81 (bb args 0 .nil) st):=bp Tryz.func81 (by decide) (x:=⟨y81,[.t 2]⟩) (by kernel_rfl) rfl ag d args st
theorem q82 (ag d:Nat) (args:List AV) (st:St):ao cu ag (d+1) 82 args st=bg [.t 4] (ak (ao cu ag d) ag y82 (bb args 0 .nil) st):=bp Tryz.func82 (by decide) (x:=⟨y82,[.t 4]⟩) (by kernel_rfl) rfl ag d args st
theorem q83 (ag d:Nat) (args:List AV) (st:St):ao cu ag (d+1) 83 args st=bg [.t 4] (ak (ao cu ag d) ag y83 (bb args 0 .nil) st):=bp Tryz.func83 (by decide) (x:=⟨y83,[.t 4]⟩) (by kernel_rfl) rfl ag d args st
theorem q84 (ag d:Nat) (args:List AV) (st:St):ao cu ag (d+1) 84 args st=bg [.cell 4 3 true,.t 5] (ak (ao cu ag d) ag QK (bb args 0 .nil) st):=bp Tryz.func84 (by decide) (x:=⟨QK,[.cell 4 3 true,.t 5]⟩) (by kernel_rfl) rfl ag d args st
theorem q162 (ag d:Nat) (args:List AV) (st:St):ao cu ag (d+1) 162 args st=bg [.t 4] (ak (ao cu ag d) ag Rf (bb args 0 .nil) st):=bp Tryz.func162 (by decide) (x:=⟨Rf,[.t 4]⟩) (by kernel_rfl) rfl ag d args st
theorem q163 (ag d:Nat) (args:List AV) (st:St):ao cu ag (d+1) 163 args st=bg [.t 2] (ak (ao cu ag d) ag VD (bb args 0 .nil) st):=bp Tryz.func163 (by decide) (x:=⟨VD,[.t 2]⟩) (by kernel_rfl) rfl ag d args st
theorem q164 (ag d:Nat) (args:List AV) (st:St):ao cu ag (d+1) 164 args st=bg [.t 4] (ak (ao cu ag d) ag Re (bb args 0 .nil) st):=bp Tryz.func164 (by decide) (x:=⟨Re,[.t 4]⟩) (by kernel_rfl) rfl ag d args st
theorem q165 (ag d:Nat) (args:List AV) (st:St):ao cu ag (d+1) 165 args st=bg [.t 2] (ak (ao cu ag d) ag VC (bb args 0 .nil) st):=bp Tryz.func165 (by decide) (x:=⟨VC,[.t 2]⟩) (by kernel_rfl) rfl ag d args st
theorem q166 (ag d:Nat) (args:List AV) (st:St):ao cu ag (d+1) 166 args st=bg [.t 4] (ak (ao cu ag d) ag Rd (bb args 0 .nil) st):=bp Tryz.func166 (by decide) (x:=⟨Rd,[.t 4]⟩) (by kernel_rfl) rfl ag d args st
theorem q167 (ag d:Nat) (args:List AV) (st:St):ao cu ag (d+1) 167 args st=bg [.t 2] (ak (ao cu ag d) ag Rc (bb args 0 .nil) st):=bp Tryz.func167 (by decide) (x:=⟨Rc,[.t 2]⟩) (by kernel_rfl) rfl ag d args st
theorem q168 (ag d:Nat) (args:List AV) (st:St):ao cu ag (d+1) 168 args st=bg [.t 4] (ak (ao cu ag d) ag Lt (bb args 0 .nil) st):=bp Tryz.func168 (by decide) (x:=⟨Lt,[.t 4]⟩) (by kernel_rfl) rfl ag d args st
theorem FL (a c:Nat):bE .geq .int (.int .u8 (.ofNat a)) (.int .u8 (.ofNat c))=some (.bool (Nat.ble c a)):=by
 show some (AV.bool (decide ((a:Int)≥(c:Int))))=_
 have:decide ((a:Int)≥(c:Int))=Nat.ble c a:=by
  cases q:Nat.ble c a with
  |true=>rw[gJ] at q; exact fM (by omega)
  |false=>exact nM (by have:=oZ q; omega)
 rw[this]
theorem E8 (a c:Nat):bE .leq .int (.int .u8 (.ofNat a)) (.int .u8 (.ofNat c))=some (.bool (Nat.ble a c)):=by
 show some (AV.bool (decide ((a:Int)<=(c:Int))))=_
 have:decide ((a:Int)<=(c:Int))=Nat.ble a c:=by
  cases q:Nat.ble a c with
  |true=>rw[gJ] at q; exact fM (by omega)
  |false=>exact nM (by have:=oZ q; omega)
 rw[this]
theorem g97 (a:Nat):bE .geq .int (.int .u8 (.ofNat a)) (.int .u8 97)=some (.bool (Nat.ble 97 a)):=FL a 97
theorem g65 (a:Nat):bE .geq .int (.int .u8 (.ofNat a)) (.int .u8 65)=some (.bool (Nat.ble 65 a)):=FL a 65
theorem g48 (a:Nat):bE .geq .int (.int .u8 (.ofNat a)) (.int .u8 48)=some (.bool (Nat.ble 48 a)):=FL a 48
theorem l122 (a:Nat):bE .leq .int (.int .u8 (.ofNat a)) (.int .u8 122)=some (.bool (Nat.ble a 122)):=E8 a 122
theorem l90 (a:Nat):bE .leq .int (.int .u8 (.ofNat a)) (.int .u8 90)=some (.bool (Nat.ble a 90)):=E8 a 90
theorem l57 (a:Nat):bE .leq .int (.int .u8 (.ofNat a)) (.int .u8 57)=some (.bool (Nat.ble a 57)):=E8 a 57
theorem P7 (ag d:Nat):nJ (ao cu ag (d+1)) 79 isLet:=fun b st=>by
 rw[q79];unfold isLet;cases k1:Nat.ble 97 b.toNat<;>cases k2:Nat.ble b.toNat 122<;>cases k3:Nat.ble 65 b.toNat<;>cases k4:Nat.ble b.toNat 90
 all_goals simp only[y79,bF,aw,aF,av,ah,Nat.reduceEqDiff,reduceCtorEq,bz,g97,g65,l122,l90,k1,k2,k3,k4,gI,jh,oo,e7]
 all_goals exact b9 2 (by simp only[aE,Nat.reduceEqDiff,reduceCtorEq])
theorem T8 (ag d:Nat):nJ (ao cu ag (d+1)) 163 isLet:=fun b st=>by
 rw[q163];unfold isLet;cases k1:Nat.ble 97 b.toNat<;>cases k2:Nat.ble b.toNat 122<;>cases k3:Nat.ble 65 b.toNat<;>cases k4:Nat.ble b.toNat 90
 all_goals simp only[VD,bF,aw,aF,av,ah,Nat.reduceEqDiff,reduceCtorEq,bz,g97,g65,l122,l90,k1,k2,k3,k4,gI,jh,oo,e7]
 all_goals exact b9 2 (by simp only[aE,Nat.reduceEqDiff,reduceCtorEq])
theorem Ga (ag d:Nat):nJ (ao cu ag (d+1)) 81 cP:=fun b st=>by
 rw[q81];unfold cP;cases k1:Nat.ble 48 b.toNat<;>cases k2:Nat.ble b.toNat 57
 all_goals simp only[y81,bF,aw,aF,av,ah,Nat.reduceEqDiff,reduceCtorEq,bz,g48,l57,k1,k2,gI,jh]
 all_goals exact b9 2 (by simp only[aE,Nat.reduceEqDiff,reduceCtorEq])
theorem T7 (ag d:Nat):nJ (ao cu ag (d+1)) 165 cP:=fun b st=>by
 rw[q165];unfold cP;cases k1:Nat.ble 48 b.toNat<;>cases k2:Nat.ble b.toNat 57
 all_goals simp only[VC,bF,aw,aF,av,ah,Nat.reduceEqDiff,reduceCtorEq,bz,g48,l57,k1,k2,gI,jh]
 all_goals exact b9 2 (by simp only[aE,Nat.reduceEqDiff,reduceCtorEq])
theorem Yy (ag d:Nat):nJ (ao cu ag (d+1)) 78 dp:=fun b st=>by
 rw[q78];simp only[y78,bF,aw,aF,av,ah,Nat.reduceEqDiff,reduceCtorEq,bz,nq10];exact b9 2 (by simp only[aE,Nat.reduceEqDiff,reduceCtorEq])
theorem Yx (ag d:Nat):nJ (ao cu ag (d+2)) 80 fX:=fun b st=>by
 rw[q80];have h1:=P7 ag d b st;have h2:=Ga ag d b st;unfold fX;cases k1:isLet b.toNat<;>rw[k1] at h1<;>cases k2:cP b.toNat<;>rw[k2] at h2
 all_goals simp only[y80,bF,aw,aF,av,ah,Nat.reduceEqDiff,reduceCtorEq,bz,h1,h2,oo,e7]
 all_goals exact b9 2 (by simp only[aE,Nat.reduceEqDiff,reduceCtorEq])
theorem call161 (ag d:Nat) (s:List UInt8) (b:UInt8) (st:St):ao cu ag (d+1) 161 [.str s,.int .u8 (.ofNat b.toNat)] st=some (tO (cX (UInt8.ofNat b.toNat) s 0),st):=sD (p:=G8) rfl rfl ag d st
theorem call76 (ag d:Nat) (s:List UInt8) (b:UInt8) (st:St):ao cu ag (d+2) 76 [.str s,.int .u8 (.ofNat b.toNat)] st=some (tO (cX b s 0),st):=by
 rw[q76];have h:=call161 ag d s b st;rw[show UInt8.ofNat b.toNat=b from by simp] at h
 simp only[y76,bF,aw,aF,av,ah,Nat.reduceEqDiff,reduceCtorEq,bx,bu,h];exact b9 4 (by simp only[aE,Nat.reduceEqDiff,reduceCtorEq])
theorem zn (b:UInt8):∀ (l:List UInt8) (n:Nat),∃ k:Int,tO (cX b l n) = .int .i64 k/\bE .geq .int (.int .i64 k) (.int .i64 0)=some (.bool (iv l b)):=by
 intro l
 induction l with
 |nil=>intro n; exact⟨-1,rfl,rfl⟩
 |cons c l ih =>
  intro n;have e:cX b (c::l) n=Bool.rec (cX b l (n+1)) (some n) (Nat.beq c.toNat b.toNat):=rfl;rw[e];unfold iv;have hs:Nat.beq c.toNat b.toNat=Nat.beq b.toNat c.toNat:=by
   rw[bo,bo];exact MS.2 ⟨fun h=>h.symm,fun h=>h.symm⟩
  rw[hs];cases q:Nat.beq b.toNat c.toNat with
  |false=>rw[e7]; exact ih (n+1)
  |true =>
   refine⟨.ofNat n,rfl,?_⟩
   have:=vE n 0;rw[fM (tc n)] at this;rw[oo];exact this
theorem V5 (b:UInt8):iv [32,9,10,13] b=AS b.toNat:=by
 show(Nat.beq b.toNat 32 ||(Nat.beq b.toNat 9 ||(Nat.beq b.toNat 10 ||(Nat.beq b.toNat 13 ||false))))=_
 unfold AS;rw[nO,Bool.or_assoc,Bool.or_assoc]
def HD (s:List UInt8):Option Nat->Option AV
 |some l=>match Nat.ble l s.length with
  |true=>some (.str (s.take l))
  |false=>none
 |none=>none
theorem C6 {tm:Tr AV} (a:XO) (s:List UInt8):kf tm none (some a) (.str s)=HD s (ch (aD tm a)):=by
 unfold kf bounds HD
 dsimp only
 cases ch (aD tm a)<;>dsimp only
 rename_i l;have e:Nat.ble 0 l=true:=by rw[gJ]; omega
 rw[e,gI];cases Nat.ble l s.length<;>rfl
theorem C7 {s:List UInt8} {n:Nat} (h:n<=s.length):HD s (some n)=some (.str (s.take n)):=by
 unfold HD;have e1:Nat.ble n s.length=true:=by rw[gJ]; exact h
 simp only[e1]
theorem call162 (ag d:Nat) (s p:List UInt8) (st:St):ao cu ag (d+1) 162 [.str s,.str p] st=some (.bool (jM p s),st):=by
 rw[q162];unfold jM;have hg:bE .geq .int (.int .i64 (.ofNat s.length)) (.int .i64 (.ofNat p.length))=some (.bool (decide (p.length<=s.length))):=vE _ _;have hd:∀ (tm:Tr AV) (x a:XO),mw tm (.lZ x none (some a))=kf tm none (some a) (aD tm x):=fun _ _ _=>rfl
 cases q:decide (p.length<=s.length)<;>rw[q] at hg
 ·simp only[Rf,bF,aw,aF,av,ah,Nat.reduceEqDiff,reduceCtorEq,bx,bu,aS,hg,jh]
  exact b9 4 (by simp only[aE,Nat.reduceEqDiff,reduceCtorEq])
 ·have hle:=jT q
  have hh:=C7 hle;simp only[Rf,hd,C6,bF,aw,aF,av,ah,Nat.reduceEqDiff,reduceCtorEq,bx,bu,aS,hg,aX,hh,lB,gI];exact b9 4 (by simp only[aE,Nat.reduceEqDiff,reduceCtorEq])
theorem call82 (ag d:Nat) (s p:List UInt8) (st:St):ao cu ag (d+2) 82 [.str s,.str p] st=some (.bool (jM p s),st):=by
 rw[q82];have h:=call162 ag d s p st;simp only[y82,bF,aw,aF,av,ah,Nat.reduceEqDiff,reduceCtorEq,bx,bu,h];exact b9 4 (by simp only[aE,Nat.reduceEqDiff,reduceCtorEq])
theorem P5 (ag d:Nat):IE ag (ao cu ag (d+3)) where
 sp b st:=by
  obtain⟨k,h1,h2⟩:=zn b [32,9,10,13] 0;exact⟨k,by rw[call76 ag (d+1),h1],by rw[h2,V5]⟩
 sg b st:=by
  obtain⟨k,h1,h2⟩:=zn b SG 0;exact⟨k,by rw[call76 ag (d+1),h1],h2⟩
 nl s n st h1 h2 h3:=by rw[q77]; exact wh (Yy ag (d+1)) st h1 h2 h3
 al s n st h1 h2 h3:=by rw[q77]; exact wh (Yx ag d) st h1 h2 h3
 dg s n st h1 h2 h3:=by rw[q77]; exact wh (Ga ag (d+1)) st h1 h2 h3
 l:=P7 ag (d+2)
 d:=Ga ag (d+2)
 hp s p st:=call82 ag (d+1) s p st
 gr w st:=by rw[q38]; exact FK st w
theorem Yu (ag d:Nat):Gs ag (ao cu ag (d+4)) where
 sk s n st h1 h2 h3:=by rw[q36]; exact Jf (P5 ag d) st h1 h2 h3
 nx s n st h1 h2 h3:=by rw[q37]; exact tj (P5 ag d) st h1 h2 h3
 gr w st:=(P5 ag (d+1)).gr w st
theorem P4 (ag d:Nat):CallR (ao cu ag (d+1)):=⟨T8 ag d,T7 ag d⟩
theorem Yt (ag d:Nat):QI ag (ao cu ag (d+2)) where
 toCallR:=P4 ag (d+1)
 w s n st h1 h2 h3:=by rw[q164]; exact IP (P4 ag d) st h1 h2 h3
 m s n st h1 h2 h3:=by rw[q166]; exact JM (P4 ag d) st h1 h2 h3
 g s n st h1 h2 h3:=by rw[q168]; exact Jk st h1 h2 h3
 t w st:=by rw[q167]; exact Fb st w
theorem Ys (ag d:Nat):Gr ag (ao cu ag (d+3)) where
 b s n st h1 h2 h3:=by rw[q83]; exact Gf st h1 h2 h3
 x s n st h1 h2 h3 h4:=by rw[q84]; exact EG (Yt ag d) st h1 h2 h3 h4
def rL:List AV->Option AV
 | [.str s]=>some (Bt (gC s))
 |_=>none
theorem R9 (base:Nat):nq Tryz.prog base 17 rL:=by
 refine Az AP Tryz.func17 (by kernel_rfl) (by kernel_rfl) (fun args r h=>?_) base
 unfold rL at h;split at h<;>cases h
 rename_i s;obtain⟨v,ae,h1,h2⟩:=Go.Ev.Jn (Yu 20000 0) ⟨.nil,0⟩ (s:=s) (dN _);exact⟨[.str s],20000,5,v,ae,rfl,by rw[q17]; exact h1,DR h2⟩
theorem R8 (base:Nat):nq Tryz.prog base 18 rL:=by
 refine Az AP Tryz.func18 (by kernel_rfl) (by kernel_rfl) (fun args r h=>?_) base
 unfold rL at h;split at h<;>cases h
 rename_i s;obtain⟨v,ae,h1,h2⟩:=EF (call:=ao cu 20000 4) (ag:=20000) (fun s st hle=>by rw[q39]; exact IZ (Ys 20000 0) st (dN _) hle) ⟨.nil,0⟩ s
 exact⟨[.str s],20000,5,v,ae,rfl,by rw[q18]; exact h1,DR h2⟩
end
end Go.Proofs.YthlkmffimhnehaaGreat
