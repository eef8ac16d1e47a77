/- Parts of the proof; no condition. -/
import Derived.Test.YthlkmffimhnehaaGreatZab
import Derived.LoopN
set_option linter.unusedSimpArgs false
set_option linter.unusedVariables false
theorem Cm:type_of% @List.nodup_cons:=@List.nodup_cons
namespace Go.Ev
open Go.RowKit
abbrev e8:=Nat->List AV->St->Option (AV × St)
def Vt (call:e8) (xs:List XR) (S:Nat->Tr AV × St) (V:Nat->AV):Prop :=
 ∀ i x,xs[i]?=some x->∃ q,eg (S i).1 x.guard=some q/\(S (i+1)).1=eH (S i).1 x.dst (V i) /\
  ((q=false/\V i=gg/\(S (i+1)).2=(S i).2)\/(q=true/\mY call (S i).2 (S i).1 x.op=some (V i,(S (i+1)).2)))
def Ii (s:Tr AV × St) (S:Nat->Tr AV × St):Nat->Tr AV × St
 |0=>s
 |i+1=>S i
def Ih (v:AV) (V:Nat->AV):Nat->AV
 |0=>v
 |i+1=>V i
theorem Eg {call:e8}:∀ (xs:List XR) (tm:Tr AV) (st:St) (ay:Tr AV) (ae:St),dm call xs tm st=some (ay,ae)->∃ S V,S 0=(tm,st)/\S xs.length=(ay,ae)/\Vt call xs S V:=by
 intro xs
 induction xs with
 |nil =>
  intro tm st ay ae h;have h:some (tm,st)=some (ay,ae):=h;cases h;exact⟨fun _=>(tm,st),fun _=>gg,rfl,rfl,fun i x h=>by simp at h⟩
 |cons x xs ih =>
  intro tm st ay ae h;have h:p9 call (dm call xs) x tm st (eg tm x.guard)=some (ay,ae):=h;cases hq:eg tm x.guard with
  |none=>rw[hq] at h; cases h
  |some q =>
   rw[hq] at h;cases q with
   |false =>
    obtain⟨S,V,h0,h1,h2⟩:=ih _ st ay ae h;refine⟨Ii (tm,st) S,Ih gg V,rfl,h1,fun i y hy=>?_⟩
    cases i with
    |zero =>
     simp at hy; subst hy;exact⟨false,hq,by show(S 0).1=_; rw[h0]; rfl,.inl ⟨rfl,rfl,by show(S 0).2=_; rw[h0]; rfl⟩⟩
    |succ i=>exact h2 i y (by simpa using hy)
   |true =>
    have h:qd (dm call xs) tm x.dst (mY call st tm x.op)=some (ay,ae):=h;cases hd:mY call st tm x.op with
    |none=>rw[hd] at h; cases h
    |some p =>
     obtain⟨r,bY⟩:=p;rw[hd] at h;obtain⟨S,V,h0,h1,h2⟩:=ih _ bY ay ae h;refine⟨Ii (tm,st) S,Ih r V,rfl,h1,fun i y hy=>?_⟩
     cases i with
     |zero =>
      simp at hy; subst hy;exact⟨true,hq,by show(S 0).1=_; rw[h0]; rfl,.inr ⟨rfl,by show mY call st tm x.op=some (r,(S 0).2); rw[h0]; exact hd⟩⟩
     |succ i=>exact h2 i y (by simpa using hy)
theorem Ac {call:e8}:∀ (xs:List XR) (tm:Tr AV) (st:St) (ay:Tr AV) (ae:St) (l:List (Option Nat × Tr dR)),eJ call xs tm st=some (ay,ae,l) ->
  ∃ S V,S 0=(tm,st)/\S xs.length=(ay,ae)/\Vt call xs S V/\(∀ i,i<=xs.length->∃ k,l[i]?=some (k,(S i).2.heap)) /\
   ∀ i x,xs[i]?=some x->eg (S i).1 x.guard=some true->∃ h,l[i]?=some (cO (S i).1 x,h):=by
 intro xs
 induction xs with
 |nil =>
  intro tm st ay ae l h;have h:some (tm,st,[(none,st.heap)])=some (ay,ae,l):=h;cases h;refine⟨fun _=>(tm,st),fun _=>gg,rfl,rfl,fun i x h=>by simp at h,fun i hi=>?_,fun i x h=>by simp at h⟩
  have:i=0:=by simpa using hi
  subst this;exact⟨none,rfl⟩
 |cons x xs ih =>
  intro tm st ay ae l h;have h:(match eg tm x.guard with
   |some true=>match mY call st tm x.op with
    |some (v,ae)=>match eJ call xs (eH tm x.dst v) ae with
     |some (ay,gn,l)=>some (ay,gn,(cO tm x,st.heap)::l)
     |none=>none
    |none=>none
   |some false=>match eJ call xs (eH tm x.dst gg) st with
    |some (ay,gn,l)=>some (ay,gn,(none,st.heap)::l)
    |none=>none
   |none=>none)=some (ay,ae,l):=h
  split at h<;>try cases h
  ·rename_i hq
   split at h<;>try cases h
   rename_i v bY hd;split at h<;>cases h
   rename_i l2 ht;obtain⟨S,V,h0,h1,h2,h3,h4⟩:=ih _ _ _ _ _ ht;refine⟨Ii (tm,st) S,Ih v V,rfl,h1,fun i y hy=>?_,fun i hi=>?_,fun i y hy hw=>?_⟩
   ·cases i with
    |zero =>
     simp at hy; subst hy;exact⟨true,hq,by show(S 0).1=_; rw[h0]; rfl,.inr ⟨rfl,by show mY call st tm x.op=some (v,(S 0).2); rw[h0]; exact hd⟩⟩
    |succ i=>exact h2 i y (by simpa using hy)
   ·cases i with
    |zero=>exact⟨_,rfl⟩
    |succ i =>
     show ∃ k,l2[i]?=some (k,(S i).2.heap)
     exact h3 i (by simpa using hi)
   ·cases i with
    |zero=>simp at hy; subst hy; exact⟨_,rfl⟩
    |succ i =>
     show ∃ h,l2[i]?=some (cO (S i).1 y,h)
     exact h4 i y (by simpa using hy) hw
  ·rename_i hq
   split at h<;>cases h
   rename_i l2 ht;obtain⟨S,V,h0,h1,h2,h3,h4⟩:=ih _ _ _ _ _ ht;refine⟨Ii (tm,st) S,Ih gg V,rfl,h1,fun i y hy=>?_,fun i hi=>?_,fun i y hy hw=>?_⟩
   ·cases i with
    |zero =>
     simp at hy; subst hy;exact⟨false,hq,by show(S 0).1=_; rw[h0]; rfl,.inl ⟨rfl,rfl,by show(S 0).2=_; rw[h0]; rfl⟩⟩
    |succ i=>exact h2 i y (by simpa using hy)
   ·cases i with
    |zero=>exact⟨_,rfl⟩
    |succ i =>
     show ∃ k,l2[i]?=some (k,(S i).2.heap)
     exact h3 i (by simpa using hi)
   ·cases i with
    |zero =>
     simp at hy; subst hy;have hw:eg tm x.guard=some true:=hw;rw[hq] at hw; cases hw
    |succ i =>
     show ∃ h,l2[i]?=some (cO (S i).1 y,h)
     exact h4 i y (by simpa using hy) hw
def Uk (xs:List XR) (b7:List (Nat × Nat)) (S:Nat->Tr AV × St):Prop :=
 ∀ i c x,(i,c)∈b7->xs[i]?=some x->c<xs.length->eg (S i).1 x.guard=some true->∀ key,cO (S i).1 x=some key ->
  ∃ v,fI ((S c).2.heap.get key)=some v/\fI ((S (c+1)).2.heap.get key)=some v
theorem ux {call:e8} {xs:List XR} {b7:List (Nat × Nat)} {tm:Tr AV} {st:St} {ay:Tr AV} {ae:St} (h:mC call xs b7 tm st=some (ay,ae)) :
  ∃ S V,S 0=(tm,st)/\S xs.length=(ay,ae)/\Vt call xs S V/\Uk xs b7 S:=by
 obtain⟨h1,h2⟩:=Cg h;rcases h2 with rfl |⟨l,h2,h3⟩
 ·obtain⟨S,V,h4,h5,h6⟩:=Eg xs tm st ay ae h1
  exact⟨S,V,h4,h5,h6,fun i c x h=>by cases h⟩
 ·obtain⟨S,V,h4,h5,h6,h7,h8⟩:=Ac xs tm st ay ae l h2
  refine⟨S,V,h4,h5,h6,fun i c x hp hx hc hw key hk=>?_⟩
  have nS:=JA.1 h3 (i,c) hp;obtain⟨hh,h9⟩:=h8 i x hx hw;obtain⟨k1,dc⟩:=h7 c (by omega)
  obtain⟨k2,ik⟩:=h7 (c+1) (by omega)
  unfold kx at nS;simp only[jC,Nat.succ_eq_add_one] at nS;rw[h9,dc,ik,hk] at nS;simp only at nS;split at nS<;>try cases nS
  rename_i a b ha hb;rw[bo] at nS;have:=jT nS;subst this;exact⟨a,ha,hb⟩
section
variable {base : Nat} {g : G} {w : World}
theorem Inv.Xb {st:St} (h:Inv base g st w) (e:dR) (he:e≠.aN):Inv base g (st.new e) w/\Ext base g st w g (st.new e) w:=by
 have hk:∀ k b,g.key k=some b->k≠st.next:=fun k b hb e=>by have:=(h.cK k b hb).1; omega
 have ht:∀ k t,g.aN k=some t->k≠st.next:=fun k t hb e=>by obtain⟨b,s,x⟩:=t; have:=(h.dS k b s x hb).1; omega
 have jn:∀ k,k≠st.next->(st.new e).heap.get k=st.heap.get k:=fun k hn=>by rw[aJ,ba hn]
 have mR:∀ k b,g.key k=some b->live (st.new e).heap k->live st.heap k:=fun k b hb ⟨x,hx,hy⟩=>⟨x,by rw[jn k (hk k b hb)] at hx; exact hx,hy⟩
 have mh:∀ k,(st.new e).heap.get k=some .aN->st.heap.get k=some .aN:=fun k hx=>by
  rw[aJ] at hx
  by_cases hn:k=st.next
  ·rw[bJ hn] at hx; injection hx with hx; exact absurd hx he
  ·rw[ba hn] at hx; exact hx
 refine⟨⟨h.cf,fun k x hx=>?_,fun k b hb=>⟨M1 (h.cK k b hb).1,(h.cK k b hb).2⟩,fun k b s x hb=>⟨M1 (h.dS k b s x hb).1,(h.dS k b s x hb).2⟩,h.eQ,
  fun k x b hx hb=>h.xI k x b (by rw[jn k (hk k b hb)] at hx; exact hx) hb,fun id b s x hx hb=>h.aN id b s x (mh id hx) hb,fun k b i hl hb=>h.dP k b i (mR k b hb hl) hb,
  fun k j b hl jm hb zg=>h.gv k j b (mR k b hb hl) (mR j b zg jm) hb zg,fun k id b s x hl hx hb=>h.eX k id b s x (mR k b hb hl) (mh id hx) hb,
  fun i j b s x s' x' hi hj=>h.gk i j b s x s' x' (mh i hi) (mh j hj),h.gH⟩,⟨.refl g,fun _ _ _=>rfl,.refl base w,ma _,fun _ _ h=>.inl h,fun k x hx _ hn=>⟨?_,hn⟩⟩⟩
 ·rw[aJ] at hx
  show k<st.next+1
  by_cases hn:k=st.next
  ·omega
  ·rw[ba hn] at hx; have:=h.fl k x hx; omega
 ·have:=h.fl k x hx
  rw[jn k (by omega)]; exact hx
theorem zc:∀ (hs:List (Nat × List AV)) (tm:Tr AV) (st:St),Inv base g st w->Inv base g (hoist hs tm st).2 w/\Ext base g st w g (hoist hs tm st).2 w:=by
 intro hs
 induction hs with
 |nil=>intro tm st h; exact⟨h,.refl ..⟩
 |cons p hs ih =>
  intro tm st h;obtain⟨d,cs⟩:=p;obtain⟨h1,h2⟩:=h.Xb (.box 0 cs) (fun e=>by cases e)
  obtain⟨h3,h4⟩:=ih (tm.set d (.ptr st.next 0)) _ h1;exact⟨h3,h2.trans h4⟩
theorem w6:∀ (hs:List (Nat × List AV)) (tm:Tr AV) (st:St),WF st->(hs.map (·.1)).Nodup->∃ κ:Nat->Option Nat,
  (∀ t,aD (hoist hs tm st).1 (.t t)=match κ t with |some k=>.ptr k 0 |none=>aD tm (.t t)) /\
  (∀ d cs,(d,cs)∈hs->∃ k,κ d=some k/\(hoist hs tm st).2.heap.get k=some (.box 0 cs)) /\
  (∀ d k,κ d=some k->st.next<=k/\k<(hoist hs tm st).2.next/\∃ cs,(d,cs)∈hs)/\(∀ d d' k,κ d=some k->κ d'=some k->d=d'):=by
 intro hs
 induction hs with
 |nil=>intro tm st hw _; exact⟨fun _=>none,fun t=>rfl,fun d cs h=>(by cases h),fun d k h=>(by cases h),fun d d' k h=>(by cases h)⟩
 |cons p hs ih =>
  intro tm st hw hnd;obtain⟨d0,cs0⟩:=p;simp only[ot,Cm] at hnd;obtain⟨Fv,hnd⟩:=hnd;have hv:=VL.new hw (.box 0 cs0);obtain⟨κ,h1,h2,h3,h4⟩:=ih (tm.set d0 (.ptr st.next 0)) (st.new (.box 0 cs0)) hv.wf hnd;have vz:=vB hs (tm.set d0 (.ptr st.next 0)) (st.new (.box 0 cs0)) hv.wf;have hκ0:κ d0=none:=by
   cases hk:κ d0 with
   |none=>rfl
   |some k =>
    obtain⟨_,_,cs,hm⟩:=h3 d0 k hk;exact absurd (fD.2 ⟨_,hm,rfl⟩) Fv
  have hnext:st.next<(hoist hs (tm.set d0 (.ptr st.next 0)) (st.new (.box 0 cs0))).2.next:=qy (qA _) vz.next;have hstay:∀ (hs:List (Nat × List AV)) (tm:Tr AV) (st:St) (k:Nat),k<st.next->(hoist hs tm st).2.heap.get k=st.heap.get k:=by
   intro hs
   induction hs with
   |nil=>intro tm st k _; rfl
   |cons p hs ih =>
    intro tm st k hk;obtain⟨d,cs⟩:=p;show(hoist hs (tm.set d (.ptr st.next 0)) (st.new (.box 0 cs))).2.heap.get k=_
    rw[ih _ _ k (M1 hk),aJ,ba (by omega)]
  refine⟨fun t=>if t=d0 then some st.next else κ t,fun t=>?_,fun d cs hm=>?_,fun d k hk=>?_,fun d d' k hk bQ=>?_⟩
  ·show aD (hoist hs (tm.set d0 (.ptr st.next 0)) (st.new (.box 0 cs0))).1 (.t t)=_
   rw[h1 t]
   by_cases ht:t=d0
   ·subst ht
    rw[hκ0];show aD (tm.set t (.ptr st.next 0)) (.t t)=(match (if t=t then some st.next else κ t) with |some k=>.ptr k 0 |none=>aD tm (.t t))
    rw[bJ rfl,dC,Tr.cb,bJ rfl]; rfl
   ·show _=(match (if t=d0 then some st.next else κ t) with |some k=>AV.ptr k 0 |none=>aD tm (.t t))
    rw[ba ht];cases κ t with
    |some k=>rfl
    |none =>
     show aD (tm.set d0 (.ptr st.next 0)) (.t t)=aD tm (.t t)
     rw[dC,dC,Tr.cb,ba ht]
  ·rcases lI.1 hm with he |hm
   ·injection he with QX he2
    subst QX he2;refine⟨st.next,by simp,?_⟩
    show(hoist hs (tm.set d (.ptr st.next 0)) (st.new (.box 0 cs))).2.heap.get st.next=_
    rw[hstay _ _ _ _ (qA _),aJ,bJ rfl]
   ·obtain⟨k,hk,hg⟩:=h2 d cs hm
    have hd:d≠d0:=fun e=>by rw[e,hκ0] at hk; cases hk
    exact⟨k,by simp[hd,hk],hg⟩
  ·by_cases hd:d=d0
   ·simp only[hd,oq] at hk
    injection hk with hk
    subst hk;exact⟨dN _,hnext,cs0,by rw[hd]; simp⟩
   ·simp only[hd,pP] at hk
    obtain⟨h5,h6,cs,h7⟩:=h3 d k hk;exact⟨Nat.le_of_succ_le h5,h6,cs,by simp[h7]⟩
  ·by_cases hd:d=d0<;>by_cases dA:d'=d0
   ·rw[hd,dA]
   ·simp only[hd,oq] at hk
    simp only[dA,pP] at bQ;injection hk with hk; subst hk
    have h5:st.next+1<=st.next:=(h3 d' _ bQ).1;omega
   ·simp only[dA,oq] at bQ
    simp only[hd,pP] at hk;injection bQ with bQ; subst bQ
    have h5:st.next+1<=st.next:=(h3 d _ hk).1;omega
   ·simp only[hd,pP] at hk
    simp only[dA,pP] at bQ;exact h4 d d' k hk bQ
theorem Inv.realize {st:St} (h:Inv base g st w) {k:Nat} {cs:List AV} (hk:st.heap.get k=some (.box 0 cs)) (hg:g.key k=none) {us:List Value} (hr:RL w g cs us) (ho:One us) (t:TypeId) :
  ∃ g',Inv base g' st (w.alloc (.cells us.toArray t))/\g'.key=(fun j=>if j=k then some w.heap.size else g.key j)/\g.le g'/\gN g w (w.alloc (.cells us.toArray t))/\Below base w (w.alloc (.cells us.toArray t))/\(∀ b i,g'.dL b i->g.dL b i):=by
 obtain⟨h1,h2⟩:=h.alloc (.cells us.toArray t);have hb:(w.alloc (.cells us.toArray t)).heap[w.heap.size]?=some (.cells us.toArray t (0,0)):=heap_alloc_new w _;have hcell:∀ i,(w.alloc (.cells us.toArray t)).cell? ⟨w.heap.size,i,none⟩=us[i]?:=fun i=>by
  rw[cell_of_row _ w.heap.size i us.toArray t (0,0) hb]; simp
 have hl:g.le {g with key:=fun j=>if j=k then some w.heap.size else g.key j }:=⟨fun j b hj=>by
  have:j≠k:=fun e=>by rw[e,hg] at hj; cases hj
  simpa[this] using hj,fun _ _ h=>h,fun _ _ h=>h,fun _ _ h=>h,rfl⟩
 have QS:gN g (w.alloc (.cells us.toArray t)) (w.alloc (.cells us.toArray t)):=fun _ _ _=>rfl
 have rX:∀ j,g.key j≠some w.heap.size:=fun j hj=>by have:=(h.cK j _ hj).2; omega
 have hnt:∀ j s e,g.aN j≠some (w.heap.size,s,e):=fun j s e hj=>by have:=(h.dS j _ s e hj).2; omega
 have A0:∀ i,¬ g.dL w.heap.size i:=fun i hf=>by
  obtain⟨v,hv⟩:=h.eQ _ _ hf;have:=gj hv; omega
 have cJ:(w.alloc (.cells us.toArray t)).heap.size=w.heap.size+1:=by simp
 refine⟨{g with key:=fun j=>if j=k then some w.heap.size else g.key j },⟨h1.cf,h1.fl,fun j b hj=>?_,h1.dS,h1.eQ,fun j e b hj hjb=>?_,fun id b s e hid hgi=>h1.aN id b s e hid hgi,fun j b i mR hj=>?_,fun i j b hli hlj hi hj=>?_,fun j id b s e mR hid hj hgi=>?_,h1.gk,⟨h1.gH.lt,h1.gH.one,h1.gH.own,h1.gH.kZ,h1.gH.dL,h1.gH.Nw⟩⟩,rfl,hl,h2.same,h2.below,fun _ _ h=>h⟩
 ·by_cases oI:j=k
  ·simp[oI] at hj; subst hj
   exact⟨by rw[oI]; exact h.fl k _ hk,by omega⟩
  ·simp[oI] at hj
   exact h1.cK j b hj
 ·by_cases oI:j=k
  ·simp[oI] at hjb; subst hjb
   rw[oI,hk] at hj; injection hj with hj; subst hj
   refine⟨⟨us,(hr.ext h2).mono QS hl,ho,fun i v hv=>by rw[kT,hcell]; exact hv,fun i hi=>⟨by rw[kT,hcell,ey hi]; rfl,fh hb _⟩⟩,fun _=>h.cf⟩
  ·simp[oI] at hjb
   obtain⟨h3,h4⟩:=h1.xI j e b hj hjb;exact⟨h3.mono QS hl rfl,h4⟩
 ·by_cases oI:j=k
  ·simp[oI] at hj; subst hj; exact A0 i
  ·simp[oI] at hj; exact h1.dP j b i mR hj
 ·by_cases hik:i=k<;>by_cases oI:j=k
  ·rw[hik,oI]
  ·simp[hik] at hi; simp[oI] at hj; subst hi; exact absurd hj (rX j)
  ·simp[hik] at hi; simp[oI] at hj; subst hj; exact absurd hi (rX i)
  ·simp[hik] at hi; simp[oI] at hj; exact h1.gv i j b hli hlj hi hj
 ·by_cases oI:j=k
  ·simp[oI] at hj; subst hj; exact hnt id s e hgi
  ·simp[oI] at hj; exact h1.eX j id b s e mR hid hj hgi
end
end Go.Ev
namespace Go.Ev
open Go.RowKit
section
variable {P : Program} {T : Nat → Option TI} {base : Nat}
theorem zE {kd:Nat->Nat} {n:Nat} {all:List Oper}:∀ (l:List Oper) (xs:List XR),fK T kd n all l=some xs->l.length=xs.length/\∀ (i:Nat) (o:Oper),l[i]?=some o ->
  ∃ x:XR,xs[i]?=some x/\lN T (Fh kd o.dst) o.op=some x.op/\x.dst=o.dst/\(∀ d,x.dst=some d->d<n)/\((o.guard=none/\x.guard=none)\/∃ j b d,o.guard=some (j,b)/\(all[j]?).bind (·.dst)=some d/\x.guard=some (d,b)):=by
 intro l
 induction l with
 |nil=>intro xs h; simp[fK] at h; subst h; exact⟨rfl,fun i o h=>by simp at h⟩
 |cons o l ih =>
  intro xs h;obtain⟨x,rest,rfl,w3,h1⟩:=qU h;obtain⟨h2,h3⟩:=ih rest w3;refine⟨by simp[h2],fun i q hq=>?_⟩
  cases i with
  |zero=>simp at hq; subst hq; exact⟨x,rfl,h1⟩
  |succ i=>simpa using h3 i q (by simpa using hq)
def Made (o:Oper) (x0 x:XR) (hs:List (Nat × List AV)):Prop:=∃ t d cs,o.op = .alloc t/\x0=⟨some d,none,.e (.alloc cs)⟩/\x=⟨some d,none,.p (.move (.t d))⟩/\(d,cs)∈hs
theorem w7:∀ (l:List Oper) (xs:List XR),l.length=xs.length->(bZ l xs).1.length=xs.length /\
  (∀ (i:Nat) (o:Oper) (x0:XR),l[i]?=some o->xs[i]?=some x0->∃ x,(bZ l xs).1[i]?=some x/\(x=x0\/Made o x0 x (bZ l xs).2)) /\
  (∀ d cs,(d,cs)∈(bZ l xs).2->∃ (i:Nat) (o:Oper) (t:TypeId),l[i]?=some o/\o.op = .alloc t/\xs[i]?=some ⟨some d,none,.e (.alloc cs)⟩/\(bZ l xs).1[i]?=some ⟨some d,none,.p (.move (.t d))⟩) /\
  ((bZ l xs).2.map (·.1)).Sublist (xs.filterMap (·.dst)):=by
 intro l
 induction l with
 |nil =>
  intro xs h;have:xs=[]:=qz h.symm;subst this;exact⟨rfl,(fun i o x h=>by simp at h),(fun d cs h=>by cases h),List.Sublist.slnil⟩
 |cons o l ih =>
  intro xs h;cases xs with
  |nil=>cases h
  |cons x xs =>
   obtain⟨h1,h2,h3,h4⟩:=ih xs (by simpa using h)
   have plain:∀ pE,pE=(bZ l xs).2->bZ (o::l) (x::xs)=(x::(bZ l xs).1,pE)->_:=fun pE he hh=>by
    subst he;have goal:(bZ (o::l) (x::xs)).1.length=(x::xs).length /\
     (∀ (i:Nat) (q:Oper) (x0:XR),(o::l)[i]?=some q->(x::xs)[i]?=some x0->∃ y,(bZ (o::l) (x::xs)).1[i]?=some y/\(y=x0\/Made q x0 y (bZ (o::l) (x::xs)).2)) /\
     (∀ d cs,(d,cs)∈(bZ (o::l) (x::xs)).2->∃ (i:Nat) (q:Oper) (t:TypeId),(o::l)[i]?=some q/\q.op = .alloc t/\(x::xs)[i]?=some ⟨some d,none,.e (.alloc cs)⟩/\(bZ (o::l) (x::xs)).1[i]?=some ⟨some d,none,.p (.move (.t d))⟩) /\
     ((bZ (o::l) (x::xs)).2.map (·.1)).Sublist ((x::xs).filterMap (·.dst)):=by
     rw[hh];refine⟨by simp[h1],fun i q x0 hq hx=>?_,fun d cs hm=>?_,?_⟩
     ·cases i with
      |zero=>simp at hq hx; subst hx; exact⟨x,rfl,.inl rfl⟩
      |succ i=>simpa using h2 i q x0 (by simpa using hq) (by simpa using hx)
     ·obtain⟨i,q,t,h5,h6,h7,h8⟩:=h3 d cs hm
      exact⟨i+1,q,t,by simpa using h5,h6,by simpa using h7,by simpa using h8⟩
     ·rw[List.filterMap_cons]
      split
      ·exact h4
      ·exact h4.cons _
    exact goal
   by_cases hc:∃ t d cs,o.op = .alloc t/\x=⟨some d,none,.e (.alloc cs)⟩
   ·obtain⟨t,d,cs,ho,rfl⟩:=hc
    have hh:bZ (o::l) (⟨some d,none,.e (.alloc cs)⟩::xs)=(⟨some d,none,.p (.move (.t d))⟩::(bZ l xs).1,(d,cs)::(bZ l xs).2):=by
     simp only[bZ,ho]
    rw[hh];refine⟨by simp[h1],fun i q x0 hq hx=>?_,fun d' cD hm=>?_,?_⟩
    ·cases i with
     |zero =>
      simp at hq hx; subst hq hx;exact⟨_,rfl,.inr ⟨t,d,cs,ho,rfl,rfl,by simp⟩⟩
     |succ i =>
      obtain⟨y,h5,h6⟩:=h2 i q x0 (by simpa using hq) (by simpa using hx)
      refine⟨y,by simpa using h5,h6.imp id fun⟨t',d',cD,a,b,c,e⟩=>⟨t',d',cD,a,b,c,by simp[e]⟩⟩
    ·rcases lI.1 hm with he |hm
     ·injection he with QX he2
      subst QX he2;exact⟨0,o,t,rfl,ho,rfl,rfl⟩
     ·obtain⟨i,q,t',h5,h6,h7,h8⟩:=h3 d' cD hm
      exact⟨i+1,q,t',by simpa using h5,h6,by simpa using h7,by simpa using h8⟩
    ·simpa using h4.cons_cons d
   ·have hh:bZ (o::l) (x::xs)=(x::(bZ l xs).1,(bZ l xs).2):=by
     conv=>lhs; unfold bZ
     split
     ·rename_i t d cs nQ
      exact absurd ⟨t,d,cs,nQ,rfl⟩ hc
     ·rfl
    exact plain _ rfl hh
theorem zy {H H':Tr dR} {tm:Tr AV} {x:XR} {xl:XL} (hx:x.op = .l xl) (h:∀ key,cO tm x=some key->H.get key=H'.get key):KE H tm xl=KE H' tm xl:=by
 cases xl with
 |load size agg a =>
  show fH H size agg (aD tm a)=fH H' size agg (aD tm a)
  have hk:∀ key off,aD tm a = .ptr key off->H.get key=H'.get key:=fun key off he=>h key (by simp[cO,hx,he])
  cases ha:aD tm a with
  |ptr key off=>simp only[fH,cc,hk key off ha]
  |_=>rfl
 |look k z ok m ix =>
  show yJ H k z ok (aD tm m) (aD tm ix)=yJ H' k z ok (aD tm m) (aD tm ix)
  have hk:∀ key,aD tm m = .mp key->H.get key=H'.get key:=fun key he=>h key (by simp[cO,hx,he])
  cases ha:aD tm m with
  |mp key=>simp only[yJ,hk key ha]
  |_=>rfl
theorem LH {st ae:St} (h:VL st ae) {key v:Nat} (h1:fI (st.heap.get key)=some v) (h2:fI (ae.heap.get key)=some v):ae.heap.get key=st.heap.get key:=by
 cases he:st.heap.get key with
 |none=>rw[he] at h1; cases h1
 |some e =>
  have hk:=h.cI key e he;rw[he] at h1;cases e with
  |box v' cs =>
   injection h1 with h1; subst h1
   rcases hk with⟨v2,cs2,h3,h4,h5⟩ |h3
   ·rw[h3] at h2
    injection h2 with h2; subst h2
    rw[h3,h5 rfl]
   ·rw[h3] at h2; cases h2
  |map v' cs =>
   injection h1 with h1; subst h1
   rcases hk with⟨v2,cs2,h3,h4,h5⟩ |h3
   ·rw[h3] at h2
    injection h2 with h2; subst h2
    rw[h3,h5 rfl]
   ·rw[h3] at h2; cases h2
  |aN=>cases h1
  |gone=>cases h1
theorem BV {call:e8} {xs:List XR} {S:Nat->Tr AV × St} {V:Nat->AV} (h:Vt call xs S V) {i:Nat} {x:XR} (hx:xs[i]?=some x) (jO:x.op.cl≠.rh):(S (i+1)).2=(S i).2:=by
 obtain⟨q,_,_,⟨_,_,h1⟩ |⟨_,h1⟩⟩:=h i x hx
 ·exact h1
 ·cases ho:x.op with
  |p o=>rw[ho] at h1; exact(fO (show rM (S i).2 (mw (S i).1 o)=_ from h1)).2
  |l o=>rw[ho] at h1; exact(fO (show rM (S i).2 (KE (S i).2.heap (S i).1 o)=_ from h1)).2
  |e o=>rw[ho] at jO; exact absurd rfl jO
theorem VT {call:e8} (hc:nI call) {xs:List XR} {S:Nat->Tr AV × St} {V:Nat->AV} (h:Vt call xs S V) (h0:WF (S 0).2):∀ i,i<=xs.length->WF (S i).2/\∀ x,xs[i]?=some x->VL (S i).2 (S (i+1)).2:=by
 have one:∀ i,WF (S i).2->∀ x,xs[i]?=some x->VL (S i).2 (S (i+1)).2:=by
  intro i hw x hx;obtain⟨q,_,_,⟨_,_,h1⟩ |⟨_,h1⟩⟩:=h i x hx
  ·rw[h1]; exact .refl hw
  ·exact Vf hc h1 hw
 intro i
 induction i with
 |zero=>intro _; exact⟨h0,one 0 h0⟩
 |succ i ih =>
  intro hi;obtain⟨h1,h2⟩:=ih (by omega)
  have hw:=(h2 xs[i] (ey (by omega))).wf
  exact⟨hw,one _ hw⟩
theorem vi {call:e8} (hc:nI call) {xs:List XR} {S:Nat->Tr AV × St} {V:Nat->AV} (h:Vt call xs S V) (h0:WF (S 0).2) {key lo:Nat}:∀ hi,lo<=hi->hi<=xs.length ->
  (∀ (c:Nat) (x:XR),lo<=c->c<hi->xs[c]?=some x->x.op.cl = .rh->∃ v,fI ((S c).2.heap.get key)=some v/\fI ((S (c+1)).2.heap.get key)=some v)->(S hi).2.heap.get key=(S lo).2.heap.get key:=by
 intro hi
 induction hi with
 |zero=>intro Kc _ _; have:lo=0:=by omega
        rw[this]
 |succ hi ih =>
  intro Kc hle hv
  by_cases he:lo=hi+1
  ·rw[he]
  ·rw[<-ih (by omega) (by omega) (fun c x h1 h2=>hv c x h1 (by omega))]
   have hx:xs[hi]?=some xs[hi]:=ey (by omega)
   by_cases hf:xs[hi].op.cl = .rh
   ·obtain⟨v,h1,h2⟩:=hv hi xs[hi] (by omega) (by omega) hx hf
    exact LH ((VT hc h h0 hi (by omega)).2 _ hx) h1 h2
   ·rw[BV h hx hf]
theorem BU {call:e8} {xs:List XR} {S:Nat->Tr AV × St} {V:Nat->AV} (h:Vt call xs S V) (hd:∀ (i j:Nat) (x y:XR) (t:Nat),xs[i]?=some x->xs[j]?=some y->x.dst=some t->y.dst=some t->i=j):∀ i,i<=xs.length->∀ t,
  (∀ (j:Nat) (x:XR),j<i->xs[j]?=some x->x.dst=some t->aD (S i).1 (.t t)=V j)/\((∀ (j:Nat) (x:XR),j<i->xs[j]?=some x->x.dst≠some t)->aD (S i).1 (.t t)=aD (S 0).1 (.t t)):=by
 intro i
 induction i with
 |zero=>intro _ t; exact⟨fun j x h=>by omega,fun _=>rfl⟩
 |succ i ih =>
  intro hi t;obtain⟨h1,h2⟩:=ih (by omega) t
  have hx:xs[i]?=some xs[i]:=ey (by omega)
  obtain⟨q,_,h3,_⟩:=h i _ hx;have qK:aD (S (i+1)).1 (.t t)=if xs[i].dst=some t then V i else aD (S i).1 (.t t):=by
   rw[h3];cases hds:xs[i].dst with
   |none=>simp[eH]
   |some d =>
    show aD ((S i).1.set d (V i)) (.t t)=_
    rw[dC,Tr.cb]
    by_cases e:t=d
    ·subst e; simp
    ·have:¬ (some d=some t):=fun h=>e (by injection h with h; exact h.symm)
     rw[ba e,ba this,dC]
  refine⟨fun j x hj fg lK=>?_,fun pV=>?_⟩
  ·rw[qK]
   by_cases e:j=i
   ·subst e
    rw[hx] at fg; injection fg with fg; subst fg
    rw[bJ lK]
   ·have:¬ xs[i].dst=some t:=fun h'=>e (hd j i x _ t fg hx lK h')
    rw[ba this];exact h1 j x (by omega) fg lK
  ·rw[qK,ba (pV i _ (by omega) hx)]
   exact h2 fun j x hj=>pV j x (by omega)
theorem rO {call:e8} {xs:List XR} {S:Nat->Tr AV × St} {V:Nat->AV} (h:Vt call xs S V):∀ (k p:Nat),xs.length-p=k->p<=xs.length->∃ p',p<=p'/\p'<=xs.length/\(∀ (c:Nat) (x:XR),p<=c->c<p'->xs[c]?=some x->x.op.cl≠.rh) /\
  (p'=xs.length\/∃ x:XR,xs[p']?=some x/\x.op.cl = .rh)/\(S p').2=(S p).2:=by
 intro k
 induction k with
 |zero=>intro p hk hp; exact⟨p,dN _,hp,fun c x h1 h2=>by omega,.inl (by omega),rfl⟩
 |succ k ih =>
  intro p hk hp;have hx:xs[p]?=some xs[p]:=ey (by omega)
  by_cases he:xs[p].op.cl = .rh
  ·exact⟨p,dN _,hp,fun c x h1 h2=>by omega,.inr ⟨_,hx,he⟩,rfl⟩
  ·obtain⟨p',h1,h2,h3,h4,h5⟩:=ih (p+1) (by omega) (by omega)
   refine⟨p',by omega,h2,fun c x hc jW hxc=>?_,h4,h5.trans (BV h hx he)⟩
   by_cases hcp:c=p
   ·subst hcp; rw[hx] at hxc; injection hxc with hxc; subst hxc; exact he
   ·exact h3 c x (by omega) jW hxc
end
end Go.Ev
theorem MV:type_of% @List.getElem?_of_mem:=@List.getElem?_of_mem
theorem Jz:type_of% @Nat.lt_trichotomy:=@Nat.lt_trichotomy
theorem wu:type_of% @Nat.max_def:=@Nat.max_def
theorem wq:type_of% @Nat.min_def:=@Nat.min_def
namespace Go.Ev
open Go.RowKit
structure J (base:Nat) (g0:G) (st:St) (w0:World) (n:Nat) (tm:Tr AV) (xs:List XR) (S:Nat->Tr AV × St) (V:Nat->AV) (κ:Nat->Option Nat) (hs:List (Nat × List AV)) (D:Nat->Bool) (a:Act) (w:World) (g:G) (p:Nat):Prop where
 ple:p<=xs.length
 lo:∀ (c:Nat) (x:XR),c<p->xs[c]?=some x->x.op.cl = .rh->D c=true
 hi:∀ (c:Nat) (x:XR),p<=c->xs[c]?=some x->x.op.cl = .rh->D c=false
 pe:p=xs.length\/∃ x:XR,xs[p]?=some x/\x.op.cl = .rh
 inv:Inv base g (S p).2 w
 ext:Ext base g0 st w0 g (S p).2 w
 defers:a.defers=[]
 size:n<=a.tmps.size
 done:∀ (i:Nat) (x:XR) (d:Nat),xs[i]?=some x->x.dst=some d->D i=true->bI w g (V i) (a.eval (.tmp d))
 old:∀ t,(∀ (i:Nat) (x:XR),xs[i]?=some x->x.dst=some t->D i=false)->bI w g (aD tm (.t t)) (a.eval (.tmp t))
 nT:∀ d k cs,κ d=some k->(d,cs)∈hs->(∀ (i:Nat) (x:XR),xs[i]?=some x->x.dst=some d->D i=false)->g.key k=none/\(S p).2.heap.get k=some (.box 0 cs)
section
variable {base : Nat} {g0 : G} {st : St} {w0 : World} {n : Nat} {tm : Tr AV} {xs : List XR} {S : Nat → Tr AV × St} {V : Nat → AV} {κ : Nat → Option Nat} {hs : List (Nat × List AV)} {D : Nat → Bool} {a : Act} {w : World} {g : G} {p : Nat}
theorem J.next (h:J base g0 st w0 n tm xs S V κ hs D a w g p) (hd:∀ (i j:Nat) (x y:XR) (t:Nat),xs[i]?=some x->xs[j]?=some y->x.dst=some t->y.dst=some t->i=j) {i:Nat} {x:XR} (hx:xs[i]?=some x) (hD:D i=false)
  (aO:∀ d,x.dst=some d->d<n) {v:Value} {w':World} {g':G} {p':Nat} (hr:bI w' g' (V i) v) (hI:Inv base g' (S p').2 w') (hE:Ext base g0 st w0 g' (S p').2 w') (hl:g.le g') (hsm:gN g w w')
  (hh:∀ d k cs,κ d=some k->x.dst≠some d->g.key k=none->(S p).2.heap.get k=some (.box 0 cs)->g'.key k=none/\(S p').2.heap.get k=some (.box 0 cs))
  (h1:p'<=xs.length) (h2:∀ (c:Nat) (y:XR),c<p'->xs[c]?=some y->y.op.cl = .rh->c=i\/D c=true) (h3:∀ (c:Nat) (y:XR),p'<=c->xs[c]?=some y->y.op.cl = .rh->c≠i/\D c=false)
  (h4:p'=xs.length\/∃ x:XR,xs[p']?=some x/\x.op.cl = .rh) :
  J base g0 st w0 n tm xs S V κ hs (fun j=>if j=i then true else D j) (a.put x.dst v) w' g' p':=by
 have jw:∀ t,(a.put x.dst v).eval (.tmp t)=if x.dst=some t then v else a.eval (.tmp t):=by
  intro t;cases hds:x.dst with
  |none=>simp[Act.put]
  |some d =>
   rw[eval_put a d t v (qy (aO d hds) h.size)]
   by_cases e:t=d
   ·subst e; simp
   ·have:¬ (some d=some t):=fun h=>e (by injection h with h; exact h.symm)
    rw[ba e,ba this]
 refine⟨h1,fun c y hc hy he=>?_,fun c y hc hy he=>?_,h4,hI,hE,?_,?_,fun j y d hy r9 re=>?_,fun t ht=>?_,fun d k cs hk hm pV=>?_⟩
 ·rcases h2 c y hc hy he with e |e
  ·simp[e]
  ·simp[e]
 ·obtain⟨e1,e2⟩:=h3 c y hc hy he
  simp[e1,e2]
 ·have:=h.defers
  cases x.dst<;>simpa[Act.put] using this
 ·have:=h.size
  cases x.dst<;>simpa[Act.put] using this
 ·rw[jw]
  by_cases e:j=i
  ·subst e
   rw[hx] at hy; injection hy with hy; subst hy
   rw[bJ r9]; exact hr
  ·have:¬ x.dst=some d:=fun h'=>e (hd j i y x d hy hx r9 h')
   rw[ba this];exact(h.done j y d hy r9 (by simpa[e] using re)).mono hsm hl
 ·have jO:¬ x.dst=some t:=fun h'=>by have:=ht i x hx h'; simp at this
  rw[jw,ba jO];refine(h.old t fun j y hy r9=>?_).mono hsm hl
  have:=ht j y hy r9
  by_cases e:j=i
  ·simp[e] at this
  ·simpa[e] using this
 ·have jO:x.dst≠some d:=fun h'=>by have:=pV i x hx h'; simp at this
  obtain⟨h5,h7⟩:=h.nT d k cs hk hm fun j y hy r9=>by
   have:=pV j y hy r9
   by_cases e:j=i
   ·simp[e] at this
   ·simpa[e] using this
  exact hh d k cs hk jO h5 h7
end
theorem y4:∀ (xs:List XR),(∀ (i j:Nat) (x y:XR) (t:Nat),xs[i]?=some x->xs[j]?=some y->x.dst=some t->y.dst=some t->i=j)->(xs.filterMap (·.dst)).Nodup:=by
 intro xs
 induction xs with
 |nil=>intro _; exact List.nodup_nil
 |cons x xs ih =>
  intro h;have ih':=ih fun i j y z t hy hz r9 hdz=>by
   have:=h (i+1) (j+1) y z t (by simpa using hy) (by simpa using hz) r9 hdz
   omega
  rw[List.filterMap_cons];split
  ·exact ih'
  ·rename_i d hd
   refine Cm.2 ⟨fun hm=>?_,ih'⟩
   obtain⟨y,hy,r9⟩:=List.mem_filterMap.1 hm;obtain⟨j,hj⟩:=MV hy
   have:=h 0 (j+1) x y d rfl (by simpa using hj) hd r9
   omega
section
variable {P : Program} {T : Nat → Option TI} {base : Nat} {g : G} {st : St} {w : World} {tm : Tr AV}
theorem Ch (hT:bD P T) {call:e8} (cL:gA P base call) (hV:nI call) {kd:Nat->Nat} {n:Nat} {ops:Array Oper} {iH xs:List XR} {hs:List (Nat × List AV)} {b7:List (Nat × Nat)}
  (hc:fK T kd n ops.toList ops.toList=some iH) (hd:oU ops.toList iH=some (.nL hs xs b7)) {ay:Tr AV} {ae:St} (hr:mC call xs b7 (hoist hs tm st).1 (hoist hs tm st).2=some (ay,ae))
  {a:Act} (hS:cM w g n tm a) (hI:Inv base g st w) {Q:Exit->Act->World->Prop} (hQ:∀ a' w' g',cM w' g' n ay a'->Inv base g' ae w'->Ext base g st w g' ae w'->Q .normal a' w'):wpAny P .any ops Q ops.size (Array.replicate ops.size false) a w.drew:=by
 unfold oU at hd;cases rZ:(oz 0 ops.toList&&sX (cC [] ops.toList) 0 ops.toList (bZ ops.toList iH).1) with
 |false=>rw[rZ] at hd; cases hd
 |true =>
 rw[rZ] at hd;injection hd with hd
 injection hd with hhs WU qM
 simp only[kQ] at rZ;obtain⟨kD,Oi⟩:=rZ;obtain⟨C3,OG⟩:=zE ops.toList iH hc;obtain⟨nE,qh,rY,bH⟩:=w7 ops.toList iH C3;rw[WU] at nE qh rY Oi qM;rw[hhs] at qh rY bH;have hlen:ops.toList.length=xs.length:=by omega
 obtain⟨_,htw⟩:=uw _ _ _ 0 Oi;have two:∀ (i j:Nat) (oi oj:Oper) (xi xj:XR),i<j->ops.toList[i]?=some oi->ops.toList[j]?=some oj->xs[i]?=some xi->xs[j]?=some xj->lj (cC [] ops.toList) i j oi oj xi xj=true:=by
  intro i j oi oj xi xj Ke nT lT WV fg;have:=htw i j oi oj xi xj Ke nT lT WV fg
  simpa using this
 have tN:∀ i x,xs[i]?=some x->∃ o,ops.toList[i]?=some o:=fun i x hx=>⟨ops.toList[i]'(by have:=(fU.1 hx).1; omega),ey _⟩
 have idx:∀ (i:Nat) (o:Oper) (x:XR),ops.toList[i]?=some o->xs[i]?=some x->x.dst=o.dst/\(∀ d,x.dst=some d->d<n) /\
   ((o.guard=none/\x.guard=none)\/∃ j b d,o.guard=some (j,b)/\(ops[j]?).bind (·.dst)=some d/\x.guard=some (d,b)) /\
   (lN T (Fh kd o.dst) o.op=some x.op\/∃ t d cs ti,o.op = .alloc t/\T t=some ti/\ti.zero.cells=cs/\cs≠[]/\x=⟨some d,none,.p (.move (.t d))⟩/\o.guard=none/\(d,cs)∈hs):=by
  intro i o x ho hx;obtain⟨x0,Lh,h1,h2,h3,h4⟩:=OG i o ho;obtain⟨y,hy,h5⟩:=qh i o x0 ho Lh;rw[hx] at hy; injection hy with hy; subst hy
  have XT:(o.guard=none/\x0.guard=none)\/∃ j b d,o.guard=some (j,b)/\(ops[j]?).bind (·.dst)=some d/\x0.guard=some (d,b):=by simpa using h4
  rcases h5 with rfl |⟨t,d,cs,h6,rfl,rfl,h7⟩
  ·exact⟨h2,h3,XT,.inl h1⟩
  ·have hg:o.guard=none:=by
    rcases XT with h |⟨j,b,d',_,_,h⟩
    ·exact h.1
    ·cases h
   refine⟨h2,h3,.inl ⟨hg,rfl⟩,.inr ?_⟩
   rw[h6] at h1;obtain⟨ti,vA,h1⟩:=au h1;cases hz:ti.zero.cells with
   |nil=>simp only[hz] at h1; cases h1
   |cons z zs =>
    simp only[hz] at h1;injection h1 with h1
    injection h1 with h1
    injection h1 with h1
    exact⟨t,d,cs,ti,h6,vA,by rw[hz]; exact h1,(by rw[<-h1]; exact(fun h=>by cases h)),rfl,hg,h7⟩
 have du:∀ (i j:Nat) (x y:XR) (t:Nat),xs[i]?=some x->xs[j]?=some y->x.dst=some t->y.dst=some t->i=j:=by
  have key:∀ (i j:Nat) (x y:XR) (t:Nat),i<j->xs[i]?=some x->xs[j]?=some y->x.dst=some t->y.dst=some t->False:=by
   intro i j x y t Ke hx hy yB r9;obtain⟨oi,nT⟩:=tN i x hx;obtain⟨oj,lT⟩:=tN j y hy;have h:=two i j oi oj x y Ke nT lT hx hy;unfold lj at h;simp only[kQ] at h;have h1:=h.1.1.1.1;rw[<-(idx i oi x nT hx).1,<-(idx j oj y lT hy).1,yB,r9] at h1;simp[rA] at h1
  intro i j x y t hx hy yB r9;rcases Jz i j with h |h |h
  ·exact(key i j x y t h hx hy yB r9).elim
  ·exact h
  ·exact(key j i y x t h hy hx r9 yB).elim
 have hnd:(hs.map (·.1)).Nodup:=by
  have FD:∀ (i j:Nat) (x y:XR) (t:Nat),iH[i]?=some x->iH[j]?=some y->x.dst=some t->y.dst=some t->i=j:=by
   intro i j x0 y0 t hx hy yB r9;have e0:∀ (i:Nat) (x0:XR),iH[i]?=some x0->∃ x,xs[i]?=some x/\x.dst=x0.dst:=by
    intro i x0 hx;have ho:ops.toList[i]?=some _:=ey (by have:=(fU.1 hx).1; omega)
    obtain⟨x,h1,h2⟩:=qh i _ x0 ho hx;refine⟨x,h1,?_⟩
    rcases h2 with rfl |⟨t,d,cs,_,rfl,rfl,_⟩<;>rfl
   obtain⟨x,h1,h2⟩:=e0 i x0 hx;obtain⟨y,h3,h4⟩:=e0 j y0 hy;exact du i j x y t h1 h3 (h2.trans yB) (h4.trans r9)
  exact(y4 iH FD).sublist bH
 have hwf:WF st:=hI.fl;obtain⟨κ,hκ1,hκ2,SW,hκ4⟩:=w6 hs tm st hwf hnd;obtain⟨Tv,XQ⟩:=zc hs tm st hI;obtain⟨S,V,Tt,XN,CW,w5⟩:=ux hr;have Oc:WF (S 0).2:=by rw[Tt]; exact(vB hs tm st hwf).wf
 have jN:=BU CW du;have SU:∀ d k,κ d=some k->∃ (i:Nat) (x:XR),xs[i]?=some x/\x=⟨some d,none,.p (.move (.t d))⟩:=by
  intro d k hk;obtain⟨_,_,cs,gO⟩:=SW d k hk;obtain⟨i,o,t,_,_,_,hx⟩:=rY d cs gO;exact⟨i,_,hx,rfl⟩
 have start:∀ t,κ t=none->aD (S 0).1 (.t t)=aD tm (.t t):=fun t ht=>by
  rw[Tt];have:=hκ1 t;rw[ht] at this; exact this
 refine vQ (ops:=ops) (Q:=Q) (fun i o ho e he hb=>?_) (fun D a w'=>∃ g' p,J base g st w n tm xs S V κ hs D a w' g' p) ?_ ?_ ?_
 ·have:=(fc ops.toList 0 kD i o (by simpa using ho)).1 e (by simpa using he) (by rw[db]; exact hb)
  simpa using this
 ·
  obtain⟨hId,hEd⟩:=Tv.drew;obtain⟨p,h1,h2,h3,h4,h5⟩:=rO CW xs.length 0 (by omega) (by omega)
  have e0:(S p).2=(hoist hs tm st).2:=by rw[h5,Tt]
  have hE:=XQ.trans hEd;refine⟨g,p,h2,fun c x hc hx he=>absurd he (h3 c x (by omega) hc hx),fun c x _ _ _=>rfl,h4,by rw[e0]; exact hId,by rw[e0]; exact hE,hS.defers,hS.size,(fun i x d _ _ h=>by cases h),fun t _=>(hS.rep t).ext hEd,fun d k cs hk h8 _=>?_⟩
  obtain⟨h6,h7,_⟩:=SW d k hk;obtain⟨k',h9,dc⟩:=hκ2 d cs h8;rw[hk] at h9; injection h9 with h9; subst h9
  refine⟨?_,by rw[e0]; exact dc⟩
  cases hg:g.key k with
  |none=>rfl
  |some b=>have:=(hI.cK k b hg).1; omega
 ·
  rintro D a1 w1 i o ho zh u3 iC ⟨g1,p,hJ⟩ K hK
  have nQ:ops.toList[i]?=some o:=by simpa using ho
  obtain⟨x,hx⟩:∃ x,xs[i]?=some x:=⟨xs[i]'(by have:=(fU.1 nQ).1; omega),ey _⟩
  obtain⟨pY,aO,Lm,zf⟩:=idx i o x nQ hx;have C0:∀ e∈o.after.toList,dK e=true->D e.on=true:=fun e he hb=>u3 e (by simpa using he) (by rw[<-db]; exact hb)
  have A2:∀ j oj,ops.toList[j]?=some oj->D j=true->∀ e∈oj.after.toList,dK e=true->D e.on=true:=fun j oj hj re e he hb=>iC j oj (by simpa using hj) re e (by simpa using he) (by rw[<-db]; exact hb)
  have before:∀ j,Nat.testBit ((cC [] ops.toList).getD i 0) j=true->D j=true:=gD kD A2 i o nQ C0;have ya:∀ j oj,ops.toList[j]?=some oj->Nat.testBit ((cC [] ops.toList).getD j 0) i=true->D j=false:=by
   intro j oj hj hb;cases re:D j with
   |false=>rfl
   |true =>
    have:=gD kD A2 j oj hj (A2 j oj hj re) i hb;rw[zh] at this; cases this
  have pW:i<=xs.length:=by have:=(fU.1 hx).1; omega
  have rW:(∀ d,x=⟨some d,none,.p (.move (.t d))⟩->κ d=none\/o.op.operands.toList=[])->∀ y∈o.op.operands.toList,b6 w1 g1 (S i).1 a1.eval y:=by
   intro qg y hy z hz;cases y with
   |const v =>
    simp only[aH] at hz;split at hz<;>try cases hz
    rename_i a' ha;exact sK ha w1 g1
   |global g'=>cases hz
   |func f=>simp only[aH] at hz; injection hz with hz; subst hz; exact .fn f [] [] [] [] .nil .nil
   |tmp t =>
    simp only[aH] at hz; injection hz with hz; subst hz
    have qL:kq o t=true:=by
     unfold kq;exact List.any_eq_true.2 ⟨.tmp t,hy,by simp[CN]⟩
    by_cases hw:∃ (j:Nat) (xj:XR),xs[j]?=some xj/\xj.dst=some t
    ·obtain⟨j,xj,fg,lK⟩:=hw
     obtain⟨oj,lT⟩:=tN j xj fg;have OP:=(idx j oj xj lT fg).1;rcases Jz j i with q9 |q9 |q9
     ·have h:=two j i oj o xj x q9 lT nQ fg hx
      unfold lj at h;simp only[kQ] at h;have h1:=h.1.1.1.2;rw[<-OP,lK] at h1;simp only[qL,wy,e7] at h1;unfold cmp at h1;have e1:Nat.max j i=i:=by simp[wu]; omega
      have e2:Nat.min j i=j:=by simp[wq]; omega
      rw[e1,e2] at h1;have re:=before j h1;rw[(jN i pW t).1 j xj q9 fg lK];exact hJ.done j xj t fg lK re
     ·replace q9:=q9.symm; subst q9
      rw[hx] at fg; injection fg with fg; subst fg
      have pV:∀ (j:Nat) (y:XR),j<i->xs[j]?=some y->y.dst≠some t:=fun j' y' uI pC dA=>by
       have:=du j' i y' x t pC hx dA lK; omega
      have Fk:κ t=none:=by
       cases hk:κ t with
       |none=>rfl
       |some k =>
        obtain⟨i',x',kC,eO⟩:=SU t k hk;have OF:i=i':=(du i' i x' x t kC hx (by rw[eO]) lK).symm
        subst OF;rw[hx] at kC; injection kC with kC; subst kC
        rcases qg t eO with h |h
        ·rw[hk] at h; cases h
        ·rw[h] at hy; cases hy
      rw[(jN i pW t).2 pV,start t Fk];refine hJ.old t fun j' y' pC dA=>?_
      have:=du j' i y' x t pC hx dA lK;rw[this]; exact zh
     ·have h:=two i j o oj x xj q9 nQ lT hx fg
      unfold lj at h;simp only[kQ] at h;have h1:=h.1.1.2;have h2:=h.2;rw[<-OP,lK] at h1;simp only[qL,wy,e7] at h1;unfold cmp at h1;have e1:Nat.max i j=j:=by simp[wu]; omega
      have e2:Nat.min i j=i:=by simp[wq]; omega
      rw[e1,e2] at h1;have re:=ya j oj lT h1;have pV:∀ (j':Nat) (y:XR),j'<i->xs[j']?=some y->y.dst≠some t:=fun j' y' uI pC dA=>by
       have:=du j' j y' xj t pC fg dA lK; omega
      have Fk:κ t=none:=by
       cases hk:κ t with
       |none=>rfl
       |some k =>
        obtain⟨i',x',kC,eO⟩:=SU t k hk;have OF:i'=j:=du i' j x' xj t kC fg (by rw[eO]) lK
        subst OF;rw[fg] at kC; injection kC with kC; subst kC
        rw[eO] at h2;simp[isH,qL] at h2
      rw[(jN i pW t).2 pV,start t Fk];refine hJ.old t fun j' y' pC dA=>?_
      have:=du j' j y' xj t pC fg dA lK;rw[this]; exact re
    ·have pV:∀ (j:Nat) (y:XR),xs[j]?=some y->y.dst≠some t:=fun j y pC dA=>hw ⟨j,y,pC,dA⟩
     have Fk:κ t=none:=by
      cases hk:κ t with
      |none=>rfl
      |some k =>
       obtain⟨i',x',kC,eO⟩:=SU t k hk;exact absurd (by rw[eO]) (pV i' x' kC)
     rw[(jN i pW t).2 fun j y _=>pV j y,start t Fk]
     exact hJ.old t fun j y pC dA=>absurd dA (pV j y pC)
  have hilt:i<xs.length:=(fU.1 hx).1
  obtain⟨q,QT,AX,W8⟩:=CW i x hx;have rT:Region.wanted o (yielded ops a1.tmps)=q:=my (w:=w1) (g:=g1) Lm QT fun d b hgx=>by
   rcases Lm with⟨_,h⟩ |⟨j,b',d',QU,lT,SX⟩
   ·rw[hgx] at h; cases h
   ·rw[hgx] at SX
    injection SX with SX
    injection SX with WW hxg2
    subst WW;obtain⟨e,he,hb,Xp⟩:=(fc ops.toList 0 kD i o nQ).2 j b' QU;have Th:=(fc ops.toList 0 kD i o nQ).1 e he hb;have re:D j=true:=by rw[<-Xp]; exact C0 e he hb
    cases hq:ops[j]? with
    |none=>rw[hq] at lT; cases lT
    |some oj =>
     rw[hq] at lT;have Ou:ops.toList[j]?=some oj:=by simpa using hq
     obtain⟨xj,fg⟩:∃ x,xs[j]?=some x:=⟨xs[j]'(by have:=(fU.1 Ou).1; omega),ey _⟩
     have lK:xj.dst=some d:=by rw[(idx j oj xj Ou fg).1]; exact lT
     rw[(jN i pW d).1 j xj (by omega) fg lK]
     exact hJ.done j xj d fg lK re
  have Tj:x.op.cl = .rh->i=p:=by
   intro he;rcases Jz i p with h |h |h
   ·have:=hJ.lo i x h hx he
    rw[zh] at this; cases this
   ·exact h
   ·rcases hJ.pe with h' |⟨y,hy,qI⟩
    ·omega
    ·obtain⟨oy,Tc⟩:=tN p y hy
     have h2:=two p i oy o y x h Tc nQ hy hx;unfold lj at h2;simp only[kQ] at h2;have h3:=h2.1.2;rw[qI,he] at h3;simp only at h3;unfold cmp at h3;have e1:Nat.max p i=i:=by simp[wu]; omega
     have e2:Nat.min p i=p:=by simp[wq]; omega
     rw[e1,e2] at h3;have:=before p h3;rw[hJ.hi p y (dN _) hy qI] at this; cases this
  have mT:x.op.cl≠.rh->∀ v w' g',bI w' g' (V i) v->Inv base g' (S p).2 w'->Ext base g st w g' (S p).2 w'->g1.le g'->gN g1 w1 w' ->
    (∀ d k cs,κ d=some k->x.dst≠some d->g1.key k=none->(S p).2.heap.get k=some (.box 0 cs)->g'.key k=none/\(S p).2.heap.get k=some (.box 0 cs))->K (a1.put o.dst v) w':=by
   intro jO v w' g' h1 h2 h3 h4 h5 h6;rw[<-pY];exact hK _ _ ⟨g',p,hJ.next du hx zh aO h1 h2 h3 h4 h5 h6 hJ.ple (fun c y hc hy he=>.inr (hJ.lo c y hc hy he)) (fun c y hc hy he=>⟨fun e=>by
    subst e;rw[hx] at hy; injection hy with hy; subst hy
    exact jO he,hJ.hi c y hc hy he⟩) hJ.pe⟩
  have Dl:x.op.cl = .rh->∀ v w' g',bI w' g' (V i) v->Inv base g' (S (i+1)).2 w'->Ext base g st w g' (S (i+1)).2 w'->g1.le g'->gN g1 w1 w' ->
    (∀ d k cs,κ d=some k->x.dst≠some d->g1.key k=none->(S p).2.heap.get k=some (.box 0 cs)->g'.key k=none/\(S (i+1)).2.heap.get k=some (.box 0 cs))->K (a1.put o.dst v) w':=by
   intro he v w' g' h1 h2 h3 h4 h5 h6;have rU:=Tj he;obtain⟨p',h7,h8,h9,dc,ik⟩:=rO CW _ (i+1) rfl (by omega)
   rw[<-ik] at h2 h3 h6;rw[<-pY];exact hK _ _ ⟨g',p',hJ.next du hx zh aO h1 h2 h3 h4 h5 h6 h8 (fun c y hc hy qI=>by
    by_cases e1:c=i
    ·exact .inl e1
    ·by_cases e2:c<p
     ·exact .inr (hJ.lo c y e2 hy qI)
     ·exact absurd qI (h9 c y (by omega) hc hy)) (fun c y hc hy qI=>⟨by omega,hJ.hi c y (by omega) hy qI⟩) dc⟩
  rw[rT];rcases W8 with⟨rfl,Kk,XM⟩ |⟨rfl,oJ⟩
  ·
   simp only[JB,pP]
   by_cases he:x.op.cl = .rh
   ·have rU:=Tj he
    refine Dl he undef w1 g1 (by rw[Kk]; exact fC) (by rw[XM,rU]; exact hJ.inv) (by rw[XM,rU]; exact hJ.ext) (.refl _) (fun _ _ _=>rfl) fun d k cs _ _ h1 h2=>⟨h1,by rw[XM,rU]; exact h2⟩
   ·exact mT he undef w1 g1 (by rw[Kk]; exact fC) hJ.inv hJ.ext (.refl _) (fun _ _ _=>rfl) fun d k cs _ _ h1 h2=>⟨h1,h2⟩
  ·simp only[oq]
   rcases zf with bM |⟨t,d,cs,ti,cW,vA,hz,jO,QO,QU,cn⟩
   ·have qg:∀ d,x=⟨some d,none,.p (.move (.t d))⟩->κ d=none\/o.op.operands.toList=[]:=by
     intro d J1;cases hk:κ d with
     |none=>exact .inl rfl
     |some k =>
      obtain⟨_,_,cs,hmm⟩:=SW d k hk;obtain⟨i',o',t',h1,h2,_,h3⟩:=rY d cs hmm;have OF:i'=i:=du i' i _ x d h3 hx rfl (by rw[J1])
      subst OF;rw[nQ] at h1; injection h1 with h1; subst h1
      exact .inr (by rw[h2]; rfl)
    have hρ:=rW qg;cases uZ:x.op with
    |p xp =>
     rw[uZ] at bM oJ;obtain⟨h1,_⟩:=fO (show rM (S i).2 (mw (S i).1 xp)=some (V i,(S (i+1)).2) from oJ)
     have FC:mY call (S p).2 (S i).1 (.p xp)=some (V i,(S p).2):=by
      show rM (S p).2 (mw (S i).1 xp)=_
      rw[h1]; rfl
     refine ji hT cL bM hJ.inv hρ FC fun v w' g' h2 h3 h4=>?_
     exact mT (by rw[uZ]; exact fun h=>by cases h) v w' g' h2 h3 (hJ.ext.trans h4) h4.le h4.same fun d k cs _ _ h5 h6=>(h4.jG k _ h6 rfl h5).symm
    |l xl =>
     rw[uZ] at bM oJ;obtain⟨h1,_⟩:=fO (show rM (S i).2 (KE (S i).2.heap (S i).1 xl)=some (V i,(S (i+1)).2) from oJ)
     have qO:x.op.cl = .load:=by rw[uZ]; rfl
     have kW:∀ key,cO (S i).1 x=some key->(S p).2.heap.get key=(S i).2.heap.get key:=by
      intro key hk;have hw':eg (S i).1 x.guard=some true:=QT;rcases Nat.le_total p i with rU |rU
      ·refine(vi hV CW Oc i rU pW fun c y hc jW hy qI=>?_).symm
       obtain⟨oy,Tc⟩:=tN c y hy;have XS:=hJ.hi c y hc hy qI;have Xw:cmp (cC [] ops.toList) c i=false:=by
        cases hb:cmp (cC [] ops.toList) c i with
        |false=>rfl
        |true =>
         unfold cmp at hb;have e1:Nat.max c i=i:=by simp[wu]; omega
         have e2:Nat.min c i=c:=by simp[wq]; omega
         rw[e1,e2] at hb;have:=before c hb;rw[XS] at this; cases this
       have cn:(i,c)∈b7:=by
        rw[<-qM];refine ln _ xs 0 c i y x jW hy hx (i,c) ?_
        rw[kT,kT];unfold tf;rw[qI,qO];simp[Xw]
       exact w5 i c x cn hx (fU.1 hy).1 hw' key hk
      ·refine vi hV CW Oc p rU hJ.ple fun c y hc jW hy qI=>?_
       have hci:c≠i:=fun e=>by
        subst e;rw[hx] at hy; injection hy with hy; subst hy
        rw[qO] at qI; cases qI
       obtain⟨oy,Tc⟩:=tN c y hy;have XS:=hJ.lo c y jW hy qI;have Xw:cmp (cC [] ops.toList) i c=false:=by
        cases hb:cmp (cC [] ops.toList) i c with
        |false=>rfl
        |true =>
         unfold cmp at hb;have e1:Nat.max i c=c:=by simp[wu]; omega
         have e2:Nat.min i c=i:=by simp[wq]; omega
         rw[e1,e2] at hb;have:=ya c oy Tc hb;rw[XS] at this; cases this
       have cn:(i,c)∈b7:=by
        rw[<-qM];refine ln _ xs 0 i c x y (by omega) hx hy (i,c) ?_
        rw[kT,kT];unfold tf;rw[qI,qO];simp[Xw]
       exact w5 i c x cn hx (fU.1 hy).1 hw' key hk
     have FC:mY call (S p).2 (S i).1 (.l xl)=some (V i,(S p).2):=by
      show rM (S p).2 (KE (S p).2.heap (S i).1 xl)=_
      rw[zy uZ kW,h1]; rfl
     refine ji hT cL bM hJ.inv hρ FC fun v w' g' h2 h3 h4=>?_
     exact mT (by rw[qO]; exact fun h=>by cases h) v w' g' h2 h3 (hJ.ext.trans h4) h4.le h4.same fun d k cs _ _ h5 h6=>(h4.jG k _ h6 rfl h5).symm
    |e xe =>
     have qO:x.op.cl = .rh:=by rw[uZ]; rfl
     have rU:=Tj qO;rw[uZ] at bM oJ;have hinv:=hJ.inv;have xm:=hJ.ext;rw[<-rU] at hinv xm;refine ji hT cL bM hinv hρ oJ fun v w' g' h2 h3 h4=>?_
     exact Dl qO v w' g' h2 h3 (xm.trans h4) h4.le h4.same fun d k cs _ _ h5 h6=>by
      rw[<-rU] at h6;exact(h4.jG k _ h6 rfl h5).symm
   ·
    obtain⟨k,hk,_⟩:=hκ2 d cs cn;have yB:x.dst=some d:=by rw[QO]
    have pV:∀ (j:Nat) (y:XR),j<i->xs[j]?=some y->y.dst≠some d:=fun j y hj hy dA=>by
     have:=du j i y x d hy hx dA yB; omega
    have Kk:V i = .ptr k 0:=by
     rw[QO] at oJ;obtain⟨h1,_⟩:=fO (show rM (S i).2 (some (aD (S i).1 (.t d)))=some (V i,(S (i+1)).2) from oJ)
     injection h1 with h1
     rw[<-h1,(jN i pW d).2 pV,Tt];have:=hκ1 d;rw[hk] at this; exact this
    obtain⟨hgk,jn⟩:=hJ.nT d k cs hk cn fun j y hy r9=>by
     have:=du j i y x d hy hx r9 yB;rw[this]; exact zh
    obtain⟨inf,z,h2,h3,h4,h5,h6,h7,h8⟩:=(hT t ti vA).info;obtain⟨us,h9,dc,ik⟩:=(h6 w1 g1).cells (by rw[hz]; exact jO)
    rw[hz] at dc;obtain⟨g',kG,kY,zi,Km,U7,Lo⟩:=hJ.inv.realize jn hgk dc ik t;have cm:(execOp a1.eval o).run P w1 = .ok (.value (.pointer (some ⟨w1.heap.size,0,none⟩))) (w1.alloc (.cells us.toArray t)):=by
     simp[execOp,cW,Instr.alloc,Sem.run_bind,zeroValue,typeInfo,h2,h5,newVar,newRow,h9]
    unfold Oper.wp;rw[cm];refine mT (by rw[QO]; exact fun h=>by cases h) (.pointer (some ⟨w1.heap.size,0,none⟩)) _ g' (by rw[Kk]; exact .ptr k 0 _ (by rw[kY]; simp)) kG ⟨hJ.ext.le.trans zi,hJ.ext.same.trans hJ.ext.le Km,hJ.ext.below.trans U7,hJ.ext.next,fun b i hx=>hJ.ext.Kr b i (Lo b i hx),fun k0 e0 hk0 QY Fv=>?_⟩ zi Km
     fun d' k' cD bQ Ow Dc D6=>⟨?_,D6⟩
    ·obtain⟨Dc,D6⟩:=hJ.ext.jG k0 e0 hk0 QY Fv
     refine⟨Dc,?_⟩
     rw[kY];have dt:=hI.fl k0 e0 hk0;have OJ:=(SW d k hk).1;have:k0≠k:=by omega
     simp[this,D6]
    ·rw[kY]
     have:k'≠k:=fun e=>by
      subst e;exact Ow (by rw[yB,hκ4 d d' k' hk bQ])
     simp[this,Dc]
 ·
  rintro D a1 w1 gM ⟨g1,p,hJ⟩
  have hpN:p=xs.length:=by
   rcases hJ.pe with h |⟨x,hx,he⟩
   ·exact h
   ·have aO:p<ops.size:=by have:=(fU.1 hx).1; have:=hlen; simp at this; omega
    have:=hJ.hi p x (dN _) hx he;rw[gM p aO] at this; cases this
  subst hpN;have OZ:∀ (j:Nat) (y:XR),xs[j]?=some y->D j=true:=fun j y hy=>gM j (by have:=(fU.1 hy).1; have:=hlen; simp at this; omega)
  refine hQ a1 w1 g1 ⟨hJ.defers,hJ.size,fun t=>?_⟩ (by have:=hJ.inv; rw[XN] at this; exact this) (by have:=hJ.ext; rw[XN] at this; exact this)
  have pE:=jN xs.length (dN _) t;rw[XN] at pE
  by_cases hw:∃ (j:Nat) (xj:XR),xs[j]?=some xj/\xj.dst=some t
  ·obtain⟨j,xj,fg,lK⟩:=hw
   rw[pE.1 j xj (fU.1 fg).1 fg lK]
   exact hJ.done j xj t fg lK (OZ j xj fg)
  ·have pV:∀ (j:Nat) (y:XR),xs[j]?=some y->y.dst≠some t:=fun j y pC dA=>hw ⟨j,y,pC,dA⟩
   have Fk:κ t=none:=by
    cases hk:κ t with
    |none=>rfl
    |some k =>
     obtain⟨i',x',kC,eO⟩:=SU t k hk;exact absurd (by rw[eO]) (pV i' x' kC)
   rw[pE.2 fun j y _=>pV j y,start t Fk]
   exact hJ.old t fun j y pC dA=>absurd dA (pV j y pC)
theorem RW (hm:P.follows .mixedOrders=true) (hT:bD P T) {call:e8} (cL:gA P base call) (hV:nI call) {kd:Nat->Nat} {n id:Nat} {ops:Array Oper} {iH xs:List XR} {hs:List (Nat × List AV)} {b7:List (Nat × Nat)}
  (hc:fK T kd n ops.toList ops.toList=some iH) (hd:oU ops.toList iH=some (.nL hs xs b7)) {ay:Tr AV} {ae:St} (hr:mC call xs b7 (hoist hs tm st).1 (hoist hs tm st).2=some (ay,ae))
  {a:Act} (hS:cM w g n tm a) (hI:Inv base g st w) {Q:Exit->Act->World->Prop} (hQ:∀ a' w' g',cM w' g' n ay a'->Inv base g' ae w'->Ext base g st w g' ae w'->Q .normal a' w'):(Code.region id ops true).wp P Q a w :=
 wp_region_any hm (Ch hT cL hV hc hd hr hS hI hQ)
end
end Go.Ev
theorem Av:type_of% @Nat.one_mul:=@Nat.one_mul
namespace Go.Ev
open Go.RowKit
section
variable {P : Program} {T : Nat → Option TI} {base : Nat} {g : G} {st : St} {w : World} {r : AV}
theorem Ai (w:World) (b c i j:Nat) (u v:Value) (h:b≠c):(w.setCell ⟨b,i,none⟩ u).setCell ⟨c,j,none⟩ v=(w.setCell ⟨c,j,none⟩ v).setCell ⟨b,i,none⟩ u:=by
 unfold World.setCell
 congr 1
 apply Array.ext
 ·simp
 ·intro k h1 h2
  simp only[Array.getElem_modify]
  by_cases hb:b=k
  ·subst hb
   rw[ba (fun e=>h e.symm)]
   simp[h.symm]
  ·simp[hb]
theorem nK (b c j:Nat) (v:Value) (h:b≠c):∀ (us:List Value) (i:Nat) (w:World),(w.setCells b i us).setCell ⟨c,j,none⟩ v=(w.setCell ⟨c,j,none⟩ v).setCells b i us:=by
 intro us
 induction us with
 |nil=>intro i w; rfl
 |cons u us ih =>
  intro i w;rw[World.setCells,World.setCells,ih,Ai w b c i j u v h]
theorem yn (b c:Nat) (h:b≠c) (us:List Value) (i:Nat):∀ (vs:List Value) (j:Nat) (w:World),(w.setCells b i us).setCells c j vs=(w.setCells c j vs).setCells b i us:=by
 intro vs
 induction vs with
 |nil=>intro j w; rfl
 |cons v vs ih =>
  intro j w;rw[World.setCells,World.setCells,nK b c j v h,ih]
def Grown (P:Program) (base:Nat) (g:G) (st:St) (w:World) (t u ty:TypeId) (sv y:Value) (n size:Nat) (us:List Value) (r:AV) (ae:St):Prop :=
 ∃ b off cap w1 g',(Builtin.append_ #[t,u] ty #[sv,y]).run P w = .ok (.slice (some ⟨b,off,none⟩) (n+1) cap) w1/\w1.there b (off+n*size) us.length /\
  bI (w1.setCells b (off+n*size) us) g' r (.slice (some ⟨b,off,none⟩) (n+1) cap)/\Inv base g' ae (w1.setCells b (off+n*size) us)/\Ext base g st w g' ae (w1.setCells b (off+n*size) us)/\∀ j,j<us.length->g'.dL b (off+n*size+j)
theorem HL {size:Nat} {es:List AV} {x:AV} {t:lV} {b off n cap m:Nat} (h:bI w g (.sl size (es++[x]) t) (.slice (some ⟨b,off,none⟩) n cap)) (hm:m=size):∀ j,j<m->g.dL b (off+es.length*size+j):=by
 obtain⟨vs,b',o',cap',h1,h2,h3,h4,h5,h6,hv,_⟩:=gU h;injection hv with h7 h8 h9
 injection h7 with h7
 injection h7 with dc ik kG
 subst dc ik;intro j hj;have hl:vs.length=(es.length+1)*size:=by rw[h1.length,bC _ size h4]; simp
 rw[jS,Av] at hl;have:=(h2 (es.length*size+j) _ (ey (by omega))).1
 rwa[<-qB] at this
theorem ui (hT:bD P T) {t u ty:TypeId} {i:TI} {e:Nat} (hu:P.underlying t=some (.slice e)) (pZ:T e=some i) (hz:i.size≠0) {bs:Option Addr} {cap:Nat} {y:Value} {es:List AV} {x z0:AV} {vs news us:List Value} (ep:zR P w g i.size u y [z0] news)
  (hx:RL w g x.cells us) (uZ:One us) (Oa:x.cells.length=i.size)
  (hI:Inv base g st w) (h1:RL w g (flat es) vs) (zd:One vs) (mQ:∀ e∈es,e.cells.length=i.size)
  (hold:(Builtin.firstCells i.size es.length (.slice bs es.length cap)).run P w.drew = .ok vs.toArray w.drew) (hg:cap<es.length+1) (iN:zt (es.length+1) i.bytes=true) :
  Grown P base g st w t u ty (.slice bs es.length cap) y es.length i.size us (.sl i.size (es++[x]) (.at st.next)) (st.new .aN):=by
 obtain⟨inf,z,h2,h3,h4,h5,h6,h7,h8⟩:=(hT e i pZ).info;obtain⟨zs,h9,dc,_⟩:=(h6 w g).cells (h8 hz);have UP:z.cells.size=i.size:=by rw[h9]; simpa[dc.length] using h7
 unfold zt at iN;simp only[kQ] at iN;have hn:=gW iN.1;have Kj:=gW iN.2;have fY:Builtin.nextslicecap (es.length+1) cap*inf.bytes<=281474976710656:=by
  have ik:=wI hg;rw[h4]
  calc _<=(2*1073741824+192)*4096:=Nat.mul_le_mul (by omega) Kj
   _<=_:=by decide
 have cm:=run_append_grow_src (P:=P) w t u ty e inf z hu h2 h5 bs es.length cap vs (by rw[h3]; exact hold) y 1 news (by rw[h3]; exact ep.src) hg (by omega) fY
 have OJ:=grownCap_ge w (es.length+1) cap e
 generalize grownCap w (es.length+1) cap e=C at cm OJ
 have iB:vs.length=es.length*i.size:=by rw[h1.length,bC es i.size mQ]
 have lU:news.length=i.size:=by rw[ep.rep.length,bC [z0] i.size ep.len]; simp
 have w9:us.length=i.size:=by rw[hx.length,Oa]
 obtain⟨uK,sP⟩:=hI.drew;obtain⟨xt,O3⟩:=uK.alloc (.cells ((vs++news).toArray++Builtin.zeroCells z.cells (C-(es.length+1))) e);have hE:=sP.trans O3;have cJ:(w.drew.alloc (.cells ((vs++news).toArray++Builtin.zeroCells z.cells (C-(es.length+1))) e)).heap.size=w.heap.size+1:=by simp
 have hb:(w.drew.alloc (.cells ((vs++news).toArray++Builtin.zeroCells z.cells (C-(es.length+1))) e)).heap[w.heap.size]?=some (.cells ((vs++news).toArray++Builtin.zeroCells z.cells (C-(es.length+1))) e (0,0)):=heap_alloc_new w.drew _
 generalize hcs:(vs++news).toArray++Builtin.zeroCells z.cells (C-(es.length+1))=cs at *
 have hcsz:cs.size=C*i.size:=by
  rw[<-hcs,Array.size_append,size_zeroCells,UP];simp only[List.size_toArray,mF,iB,lU];have:es.length*i.size+i.size=(es.length+1)*i.size:=by rw[jS,Av]
  rw[this,<-jS]
  congr 1; omega
 have hcell:∀ j,(w.drew.alloc (.cells cs e)).cell? ⟨w.heap.size,j,none⟩=cs[j]?:=fun j=>cell_of_row _ w.heap.size j cs e (0,0) hb
 have u3:∀ j v,(vs++news)[j]?=some v->cs[j]?=some v:=fun j v hv=>by
  rw[<-hcs,Array.getElem?_append_left (by simpa using(fU.1 hv).1)]
  simpa using hv
 have rX:∀ k,g.key k≠some w.heap.size:=fun k hk=>by have:=(hI.cK k _ hk).2; omega
 have hnt:∀ k s e,g.aN k≠some (w.heap.size,s,e):=fun k s e hk=>by have:=(hI.dS k _ s e hk).2; omega
 have A0:∀ j,¬ g.dL w.heap.size j:=fun j hf=>by
  obtain⟨v,hv⟩:=hI.eQ _ _ hf;have:=gj hv; omega
 have hmul:(es.length+1)*i.size<=C*i.size:=rI _ OJ;rw[jS,Av] at hmul;have Oj:(w.drew.alloc (.cells cs e)).there w.heap.size 0 cs.size:=fun j hj=>by
  refine⟨?_,fh hb _⟩
  rw[kT,hcell,MY hj]; rfl
 have pU:(w.drew.alloc (.cells cs e)).there w.heap.size (0+es.length*i.size) us.length:=fun j hj=>by
  have:=Oj (es.length*i.size+j) (by omega)
  rwa[<-qB] at this
 have XJ:Below base (w.drew.alloc (.cells cs e)) ((w.drew.alloc (.cells cs e)).setCells w.heap.size (0+es.length*i.size) us):=dy hI.cf;have hsz3:w.heap.size<((w.drew.alloc (.cells cs e)).setCells w.heap.size (0+es.length*i.size) us).heap.size:=by have:=XJ.size; omega
 obtain⟨hI3,hE3⟩:=xt.other (w':=(w.drew.alloc (.cells cs e)).setCells w.heap.size (0+es.length*i.size) us)
  (fun c j hf=>World.cell?_setCells_out w.heap.size us _ _ ⟨c,j,none⟩ (fun hc _=>by
   have hc:c=w.heap.size:=hc;subst hc;exact absurd hf (A0 j)))
  XJ.size XJ (fun _ _ _=>World.frozen?_setCells _ _ _ _ _)
  (fun k b hk BH=>World.heap_setCells_other _ w.heap.size _ us (xt.cK k b BH).2 (fun e'=>by subst e'; exact rX k BH))
  (fun id b s e' hk BH=>World.heap_setCells_other _ w.heap.size _ us (xt.dS id b s e' BH).2 (fun e'=>by subst e'; exact hnt id s _ BH))
 have hEa:=hE.trans hE3;obtain⟨g',ik,kG,kY⟩:=Bj hI3 (cap:=C) (b:=w.heap.size) (off:=0) (xs:=[x]) (h1.ext hEa) (by have:=hx.ext hEa; simpa[flat] using this) zd uZ mQ (fun e he=>by simp at he; subst he; exact Oa) hI.cf hsz3 (by simpa using OJ)
  (World.rangeAt_setCells_apart (fun j v hv=>by rw[kT,hcell]; exact u3 j v (by rw[yq (fU.1 hv).1]; exact hv)) _ _ us (.inr (.inl (by omega))))
  (by rw[iB]; exact World.rangeAt_setCells_same _ _ _ us pU)
  (fun j hj=>by
   have:=World.there_setCells Oj w.heap.size (0+es.length*i.size) us (vs.length+us.length+j) (by omega)
   have e':0+vs.length+us.length+j=0+(vs.length+us.length+j):=by omega
   rw[e']; exact this)
  (fun k _=>rX k) (fun k s e _ h=>absurd h (hnt k s e)) (fun j _ _=>A0 j) (.inr ⟨rfl,by simp,hz,fun t ht=>by have:=hI.gH.lt _ _ ht; omega⟩) (fun _ i _ _=>by rw[World.frozen?_setCells]; exact fh hb i) (fun _ i _=>by rw[World.frozen?_setCells]; exact fh hb i)
 exact⟨w.heap.size,0,C,_,g',cm,pU,kY,ik,hEa.trans kG,HL kY w9⟩
theorem K5 (hT:bD P T) {t u ty:TypeId} {i:TI} (hi:cN T t=some i) {sv y:Value} {a:AV} (hs:bI w g a sv) {z0 x:AV} {news us:List Value} (ep:zR P w g i.size u y [z0] news)
  (hx:RL w g x.cells us) (uZ:One us) (Oa:x.cells.length=i.size) {n:Nat} (hn:SF a=some n) {ae:St}
  (hr:fy i.size i.bytes st a [x]=some (r,ae)) (hI:Inv base g st w):Grown P base g st w t u ty sv y n i.size us r ae:=by
 obtain⟨e,hu,pZ,hz⟩:=dM hT hi;obtain⟨inf,h2,h3,_⟩:=(hT e i pZ).rB;unfold fy at hr;simp only at hr;split at hr
 ·split at hr<;>try cases hr
  rename_i iN;injection hn with hn
  subst hn;rw[dn hs];exact ui hT hu pZ hz ep hx uZ Oa hI (es:=[]) (bs:=none) (cap:=0) .nil One.nil (fun _ h=>by cases h) (run_firstCells_none w.drew i.size 0 0 0) (by simp) (by simpa using iN)
 ·rename_i m es aN
  injection hn with hn
  subst hn;split at hr<;>try cases hr
  rename_i hc;simp only[kQ,bo,pQ] at hc;obtain⟨hn,iN⟩:=hc;subst hn;obtain⟨vs,b,o',cap,h4,h5,h6,h7,h8,h9,hv,jX⟩:=gU hs;have hl:vs.length=es.length*i.size:=by rw[h4.length,bC es i.size h7]
  have hold:(Builtin.firstCells i.size es.length (.slice (some ⟨b,o',none⟩) es.length cap)).run P w.drew = .ok vs.toArray w.drew :=
   run_firstCells_some w.drew i.size es.length _ es.length cap vs hl (fun j u hu=>by rw[Addr.add_mid]; simpa using(h5 j u hu).2)
  rw[hv];split at hr
  ·injection hr with hr
   injection hr with Lj AW
   subst Lj AW;have Ki:cap=es.length:=h9;exact ui hT hu pZ hz ep hx uZ Oa hI h4 h6 h7 hold (by omega) iN
  ·rename_i id
   split at hr<;>try cases hr
   rename_i hid;have jD:g.aN id=some (b,o'+es.length*i.size,o'+cap*i.size):=h9;obtain⟨jx,hse,pU,A0⟩:=hI.aN id _ _ _ hid jD;obtain⟨Tv,XQ⟩:=vH hI hid
   by_cases wZ:es.length+1<=cap
   ·have lU:news.length=i.size:=by rw[ep.rep.length,bC [z0] i.size ep.len]; simp
    have w9:us.length=i.size:=by rw[hx.length,Oa]
    have hmul:es.length*i.size+i.size<=cap*i.size:=by
     have:=rI i.size wZ;rwa[jS,Av] at this
    have cm:=run_append_room_src (P:=P) w t u ty e inf hu h2 b o' es.length cap y 1 news (by rw[h3]; exact ep.src) wZ
     (fun j hj=>by rw[h3]; exact(pU j (by omega)).1) (fun j hj=>by rw[h3]; exact(pU j (by omega)).2)
    rw[h3] at cm;have dF:∀ c,c≠b->c<w.heap.size->(w.setCells b (o'+es.length*i.size) news).heap[c]?=w.heap[c]?:=fun c hc aO=>World.heap_setCells_other w b _ news aO hc
    obtain⟨hIn,hEn⟩:=hI.vN hid jD (vs:=news) (by omega) (dy jx) dF
    have S6:=World.there_setCells pU b (o'+es.length*i.size) news
    generalize w.setCells b (o'+es.length*i.size) news=w1 at *
    have Td:∀ c,c≠b->c<w1.heap.size->(w1.setCells b (o'+es.length*i.size) us).heap[c]?=w1.heap[c]?:=fun c hc aO=>World.heap_setCells_other w1 b _ us aO hc
    obtain⟨uK,sP⟩:=hIn.vN hid jD (vs:=us) (by omega) (dy jx) Td
    obtain⟨xt,O3⟩:=vH uK hid;have hE:=hEn.trans (sP.trans O3);have XG:b<(w1.setCells b (o'+es.length*i.size) us).heap.size:=(uK.dS id _ _ _ jD).2;have mh:∀ k,(st.put id .gone).heap.get k=some .aN->k≠id/\st.heap.get k=some .aN:=fun k hk=>by
     rw[aK] at hk
     by_cases e':k=id
     ·rw[bJ e'] at hk; cases hk
     ·rw[ba e'] at hk; exact⟨e',hk⟩
    have mR:∀ k,live (st.put id .gone).heap k->live st.heap k:=fun k ⟨q,hq,AX⟩=>by
     rw[aK] at hq
     by_cases e':k=id
     ·rw[bJ e'] at hq; injection hq with hq; subst hq; cases AX
     ·rw[ba e'] at hq; exact⟨q,hq,AX⟩
    obtain⟨g',ik,kG,kY⟩:=Bj xt (size:=i.size) (cap:=cap) (b:=b) (off:=o' ) (xs:=[x]) (h4.ext hE) (by have:=hx.ext hE; simpa[flat] using this) h6 uZ h7 (fun e he=>by simp at he; subst he; exact Oa) jx XG (by simpa using wZ)
     (h5.mono hE.same hE.le).rangeAt
     (by rw[hl]; exact World.rangeAt_setCells_same w1 b _ us (fun j hj=>S6 j (by omega)))
     (fun j hj=>by
      have:=World.there_setCells S6 b (o'+es.length*i.size) us (us.length+j) (by omega)
      have e':o'+vs.length+us.length+j=o'+es.length*i.size+(us.length+j):=by omega
      rw[e']; exact this)
     (fun k hk BH=>hI.eX k id b _ _ (mR k hk) hid BH jD)
     (fun k s' e' hk BH=>by
      obtain⟨jO,bQ⟩:=mh k hk;have hd:=hI.gk k id b s' e' _ _ bQ hid jO BH jD;refine⟨fun j hj uI hx=>?_,by omega⟩
      have aO:j<o'+es.length*i.size:=by omega
      have hf:=(h5 (j-o') _ (ey (by omega))).1
      have e2:o'+(j-o')=j:=by omega
      rw[e2] at hf;exact(hI.aN k b s' e' bQ BH).2.2.2 j hj uI hf)
     (fun j hj uI=>A0 j (by omega) uI) (.inl ((jX.resolve_left (fun h=>h.2 _ rfl)).mono hE.le)) (fun mQ j hj uI=>by
      rw[World.frozen?_setCells]
      by_cases aO:j<o'+es.length*i.size
      ·have hf:=(h5 (j-o') _ (ey (by omega))).1
       have e2:o'+(j-o')=j:=by omega
       rw[e2] at hf;exact hIn.gH.Nw b _ j ((jX.resolve_left (fun h=>h.2 _ rfl)).mono hEn.le).1 mQ hf
      ·have:=(S6 (j-(o'+es.length*i.size)) (by omega)).2
       have e2:o'+es.length*i.size+(j-(o'+es.length*i.size))=j:=by omega
       rwa[e2] at this) (fun hn=>absurd ((jX.resolve_left (fun h=>h.2 _ rfl)).mono hE.le).1 (hn _))
    exact⟨b,o',cap,w1,g',cm,(fun j hj=>S6 j (by omega)),kY,ik,hE.trans kG,HL kY w9⟩
   ·obtain⟨b1,o1,c1,w',g',ik,kG,kY,zi,Km,U7⟩:=ui (st:=st.put id .gone) (ty:=ty) hT hu pZ hz ep hx uZ Oa Tv h4 h6 h7 hold (by omega) iN
    exact⟨b1,o1,c1,w',g',ik,kG,kY,zi,XQ.trans Km,U7⟩
  ·cases hr
 ·cases hr
end
end Go.Ev
namespace Go.Ev
open Go.RowKit
section
variable {P : Program} {T : Nat → Option TI} {base : Nat} {g : G} {st : St} {w : World} {ρ : Operand → Value} {o : Oper} {tm : Tr AV} {r : AV}
theorem MG (hT:bD P T) {ti a q:Nat} {i2:TI} (hi:cN T ti=some i2) (ho:o.op = .indexAddr ti (.tmp a) (.tmp q)) {bk off m cap:Nat} {kk:IntKind} (hva:ρ (.tmp a) = .slice (some ⟨bk,off,none⟩) (m+1) cap) (hvq:ρ (.tmp q) = .int kk (m:Int)) (w:World) :
  (execOp ρ o).run P w = .ok (.value (.pointer (some ⟨bk,off+m*i2.size,none⟩))) w:=by
 obtain⟨e,hu,pZ,hz⟩:=dM hT hi;have aO:m<m+1:=qA m;have h0:(0:Int)<=(m:Int)/\(m:Int)<((m+1:Nat):Int):=by omega
 simp[execOp,ho,hva,hvq,Instr.indexAt,asIntOf,Sem.run_bind,run_underlying hu,aO,(hT _ i2 pZ).dj,Addr.add_mid]
theorem MF (hT:bD P T) {et b:Nat} {v:Operand} {ei:TI} (hi:T et=some ei) (ho:o.op = .store et (.tmp b) v) {bk s:Nat} {us:List Value} (hvb:ρ (.tmp b) = .pointer (some ⟨bk,s,none⟩)) (hv:(ρ v).cells=us.toArray) (hl:us.length=ei.size) (qN:One us) {w:World} (pU:w.there bk s us.length) :
  (execOp ρ o).run P w = .ok .skip (w.setCells bk s us):=by
 have cm:=run_store (P:=P) (hT et ei hi) hv hl qN pU;simp[execOp,ho,hvb,cm]
theorem I3 {x:Operand} {a:XO} (ho:o.op = .nilCheck x) (ha:aH x=some a) (hx:b6 w g tm ρ x) (hr:ri (aD tm a)=some r):∃ v,(∀ w',(execOp ρ o).run P w' = .ok (.value v) w')/\bI w g r v:=by
 have h1:=hx a ha;unfold ri at hr;split at hr
 ·rename_i k off he
  injection hr with hr; subst hr
  rw[he] at h1;obtain⟨b,hb,hv⟩:=gV h1;exact⟨ρ x,fun w'=>by simp[execOp,ho,hv],h1⟩
 ·rename_i c off he
  injection hr with hr; subst hr
  rw[he] at h1;obtain⟨vs,b,o',_,_,_,hv,_⟩:=oh h1;exact⟨ρ x,fun w'=>by simp[execOp,ho,hv],h1⟩
 ·cases hr
theorem Em {t:TypeId} {x:Operand} {i:Nat} {f:Nat × Nat × Bool} {a:XO} (hT:bD P T) (ho:o.op = .fieldAddr t x i) (hf:gi T t i=some f) (ha:aH x=some a) (hx:b6 w g tm ρ x)
  (hr:gR f.1 (aD tm a)=some r):∃ v,(∀ w',(execOp ρ o).run P w' = .ok (.value v) w')/\bI w g r v:=by
 have h1:=hx a ha;unfold gi at hf;split at hf<;>try cases hf
 rename_i ti vA;split at hf<;>try cases hf
 rename_i fs hfs;split at hf<;>try cases hf
 rename_i off ft mi;split at hf<;>try cases hf
 rename_i fi Kh;split at hf<;>try cases hf
 rename_i cJ;obtain⟨d,hd,hk⟩:=(hT t ti vA).kd;rw[hfs] at hk;cases d<;>simp only[ld] at hk
 rename_i k9;have FA:∃ fd:Field,k9[i]?=some fd/\fd.offset=off/\fd.type=ft:=by
  rw[<-hk,jB] at mi
  cases hq:k9.toList[i]? with
  |none=>rw[hq] at mi; cases mi
  |some fd =>
   rw[hq] at mi;simp at mi;exact⟨fd,by simpa using hq,mi⟩
 obtain⟨fd,Tk,rfl,rfl⟩:=FA;have Ol:fi.size≠0:=by
  rw[bo] at cJ
  simpa using cJ
 unfold gR at hr;split at hr
 ·rename_i k off he
  injection hr with hr; subst hr
  rw[he] at h1;obtain⟨b,hb,hv⟩:=gV h1;refine⟨.pointer (some ⟨b,off+fd.offset,none⟩),fun w'=>?_,.ptr _ _ b hb⟩
  simp[execOp,ho,hv,Instr.fieldAt,Sem.run_bind,run_underlying hd,Tk,Instr.sureAddr,fieldPlace,(hT _ fi Kh).dj,Ol,Addr.add_mid]
 ·rename_i cs off hm he
  injection hr with hr; subst hr
  rw[he] at h1;obtain⟨vs,b,o',h2,h3,h4,hv,jX,hho⟩:=oh h1;refine⟨.pointer (some ⟨b,o'+(off+fd.offset),none⟩),fun w'=>?_,.ro _ _ _ vs b o' h2 h3 h4 jX hho⟩
  simp[execOp,ho,hv,Instr.fieldAt,Sem.run_bind,run_underlying hd,Tk,Instr.sureAddr,fieldPlace,(hT _ fi Kh).dj,Ol,Addr.add_mid,qB]
 ·cases hr
theorem El {t:TypeId} {x y:Operand} {i:TI} {a c:XO} {ae:St} (hT:bD P T) (ho:o.op = .store t x y) (hI:Inv base g st w) (hi:T t=some i) (hz:i.size≠0) (ha:aH x=some a) (hc:aH y=some c)
  (hx:b6 w g tm ρ x) (hy:b6 w g tm ρ y) (hr:cZ st i.size (aD tm a) (aD tm c)=some (r,ae)) :
  r=gg/\∃ b off us,(∀ w',w'.there b off us.length->(execOp ρ o).run P w' = .ok .skip (w'.setCells b off us))/\w.there b off us.length/\b<w.heap.size/\(∀ j,¬ g.dL b j)/\Inv base g ae (w.setCells b off us)/\Ext base g st w g ae (w.setCells b off us):=by
 have h1:=hx a ha;have h2:=hy c hc;unfold cZ at hr;split at hr<;>try cases hr
 rename_i key off he;split at hr<;>try cases hr
 rename_i bX cs hcs;split at hr<;>try cases hr
 rename_i jx;simp only[kQ,bo,pQ] at jx;have hle:=gW jx.2;rw[he] at h1;obtain⟨b,hb,hv⟩:=gV h1;obtain⟨⟨vs,h3,h4,h5,h6⟩,HG⟩:=hI.xI key _ b hcs hb;obtain⟨us,h7,h8,h9,dc⟩:=kM h2 jx.1 hz;have CU:=h3.length;have wW:w.there b off us.length:=fun j hj=>by
  have:=h6 (off+j) (by omega)
  rwa[kT] at this
 obtain⟨ik,kG⟩:=od h5 h6 (off:=off) (us:=us) (by omega)
 have aO:b<w.heap.size:=(hI.cK key b hb).2;have qR:=dy (w:=w) (off:=off) (us:=us) (HG rfl);have dF:∀ c,c≠b->c<w.heap.size->(w.setCells b off us).heap[c]?=w.heap[c]?:=fun c hc aO=>World.heap_setCells_other w b off us aO hc
 have A0:∀ j,¬ g.dL b j:=fun j=>hI.dP key b j ⟨_,hcs,rfl⟩ hb
 have wY:gN g w (w.setCells b off us):=fun c j hf=>by
  obtain⟨v,hv⟩:=hI.eQ c j hf;exact World.cell?_of_block (a:=⟨c,j,none⟩) (dF c (fun e=>by subst e; exact A0 j hf) (gj hv))
 have nS:nH (w.setCells b off us) g b (.box (Nat.succ bX) (aZ cs off (aD tm c).cells)) :=
  ⟨_,(vX h3 h8 off (by omega)).mono wY (.refl g),((h4.take _).append h9).append (h4.drop _),ik,kG⟩
 obtain⟨kY,zi⟩:=hI.VS key b _ (.box (Nat.succ bX) (aZ cs off (aD tm c).cells)) hcs rfl rfl hb qR.size (fun _=>qR) dF nS
 refine⟨rfl,b,off,us,fun w' pU=>?_,wW,aO,A0,kY,zi⟩
 have cm:=run_store (P:=P) (hT t i hi) h7 dc h9 pU;simp[execOp,ho,hv,cm]
end
end Go.Ev
namespace Go.Ev
open Go.RowKit
structure SpAt (T:Nat->Option TI) (ops:List Oper) (xs:List XR) (ms:List Nat) (k a:Nat) (s:Operand) (u t tu b ti q et vt:Nat) (i i2 ei:TI) (sx:XO):Prop where
 o0:∃ (o:Oper) (c:Call),ops[k]?=some o/\o.dst=some a/\o.guard=none/\o.op = .call c/\c.callee = .builtin .append/\c.args.toList=[s,.tmp u]/\c.argTypes.toList=[t,tu]
 o1:∃ o:Oper,ops[k+1]?=some o/\o.dst=some b/\o.guard=none/\o.op = .indexAddr ti (.tmp a) (.tmp q)
 o2:∃ o:Oper,ops[k+2]?=some o/\o.dst=none/\o.guard=none/\o.op = .store et (.tmp b) (.tmp vt)
 x0:xs[k]?=some ⟨some a,none,.e (.K6 i.size i.bytes sx (.t vt) (.t q) (.t u))⟩
 x1:xs[k+1]?=some ⟨some b,none,.p (.move (.c .any))⟩
 x2:xs[k+2]?=some ⟨none,none,.p (.move (.c gg))⟩
 ti0:cN T t=some i
 ti1:cN T ti=some i2
 ti2:T et=some ei
 s1:i2.size=i.size
 s2:ei.size=i.size
 src:rv T tu=true
 sxo:aH s=some sx
 dq:∃ (j:Nat) (o:Oper),j<k/\ops[j]?=some o/\o.dst=some q
 dv:∃ (j:Nat) (o:Oper),j<k/\ops[j]?=some o/\o.dst=some vt
 before:∀ j,j<k->Nat.testBit (ms.getD k 0) j=true
 tail:∀ (j:Nat) (o:Oper),k+3<=j->ops[j]?=some o->En o=true
structure IB (k a b q vt size:Nat) (D:Nat->Bool) (act:Act) (w ws:World) (g:G) (bk off m cap:Nat) (us:List Value):Prop where
 dk:D k=true
 d2:D (k+2)=false
 ws:ws=w.setCells bk (off+m*size) us
 th:w.there bk (off+m*size) us.length
 len:us.length=size
 one:One us
 va:act.eval (.tmp a) = .slice (some ⟨bk,off,none⟩) (m+1) cap
 vq:∃ kk,act.eval (.tmp q) = .int kk (m:Int)
 vv:(act.eval (.tmp vt)).cells=us.toArray
 vb:D (k+1)=true->act.eval (.tmp b) = .pointer (some ⟨bk,off+m*size,none⟩)
 dL:∀ j,j<us.length->g.dL bk (off+m*size+j)
def YQ (ks:Option Nat) (a b q vt size:Nat) (D:Nat->Bool) (act:Act) (w ws:World) (g:G):Prop :=
 ((∀ k,ks=some k->D k=false\/D (k+2)=true)/\ws=w)\/∃ k bk off m cap us,ks=some k/\IB k a b q vt size D act w ws g bk off m cap us
theorem gX (a:Act) (d:Option Nat) (t:Nat) (v:Value) (hd:∀ x,d=some x->x<a.tmps.size) (jO:d≠some t):(a.put d v).eval (.tmp t)=a.eval (.tmp t):=by
 cases d with
 |none=>rfl
 |some d=>rw[eval_put a d t v (hd d rfl),ba (fun e=>jO (by rw[e]))]
theorem IB.put {k a b q vt size:Nat} {D:Nat->Bool} {act:Act} {w ws w' ws':World} {g g':G} {bk off m cap:Nat} {us:List Value} (h:IB k a b q vt size D act w ws g bk off m cap us) {i:Nat} (hi:i≠k+1) (hi2:i≠k+2)
  {d:Option Nat} {v:Value} (hd:∀ x,d=some x->x<act.tmps.size) (ha:d≠some a) (hb:d≠some b) (hq:d≠some q) (hv:d≠some vt) (hws:ws'=w'.setCells bk (off+m*size) us) (pU:w'.there bk (off+m*size) us.length) (hl:g.le g') :
  IB k a b q vt size (fun j=>if j=i then true else D j) (act.put d v) w' ws' g' bk off m cap us:=by
 refine⟨?_,?_,hws,pU,h.len,h.one,?_,?_,?_,fun hk=>?_,fun j hj=>hl.dL _ _ (h.dL j hj)⟩
 ·simp[h.dk]
 ·have:=h.d2
  have e:¬ k+2=i:=fun e=>hi2 e.symm
  simp[e,this]
 ·rw[gX _ _ _ _ hd ha]; exact h.va
 ·rw[gX _ _ _ _ hd hq]; exact h.vq
 ·rw[gX _ _ _ _ hd hv]; exact h.vv
 ·rw[gX _ _ _ _ hd hb]
  have e:¬ k+1=i:=fun e=>hi e.symm
  simp only[e,pP] at hk;exact h.vb hk
theorem v8 (b:Nat):∀ (vs:List Value) (o:Nat) (w:World),(w.setCells b o vs).heap.size=w.heap.size:=by
 intro vs
 induction vs with
 |nil=>intro o w; rfl
 |cons v vs ih =>
  intro o w;rw[World.setCells,ih];simp[World.setCell]
theorem TO {a b:Option Nat} (h:Py a b=true):∃ m,a=some m/\b=some m:=by
 unfold Py at h;split at h
 ·rw[bo] at h
  have:=jT h;subst this;exact⟨_,rfl,rfl⟩
 ·cases h
theorem JY {size:Nat} {u:AV} (h:tC size u=true):∃ z,qa size u=some [z]:=by
 unfold tC at h;split at h
 ·exact⟨_,by assumption⟩
 ·cases h
section
variable {P : Program} {T : Nat → Option TI} {base : Nat} {g : G} {st : St} {w : World} {tm : Tr AV}
theorem RT (hm:P.follows .mixedOrders=true) (hT:bD P T) {call:e8} (cL:gA P base call) (hV:nI call) {kd:Nat->Nat} {n id:Nat} {ops:Array Oper} {iH xs:List XR} {hs:List (Nat × List AV)} {b7:List (Nat × Nat)}
  (ks:Option Nat) {sA sB sQ sV:Nat} {sS:Operand} {sU tA tU tI tE:Nat} {i0 i2 ei:TI} {sx:XO} (C3:ops.toList.length=iH.length)
  (OG:∀ (i:Nat) (o:Oper),ops.toList[i]?=some o->∃ x:XR,iH[i]?=some x/\((∀ k,ks=some k->i<k\/k+3<=i)->lN T (Fh kd o.dst) o.op=some x.op)/\x.dst=o.dst/\(∀ d,x.dst=some d->d<n)/\((o.guard=none/\x.guard=none)\/∃ j b d,o.guard=some (j,b)/\(ops.toList[j]?).bind (·.dst)=some d/\x.guard=some (d,b)))
  (CY:∀ k,ks=some k->SpAt T ops.toList iH (cC [] ops.toList) k sA sS sU tA tU sB tI sQ tE sV i0 i2 ei sx)
  (hd:oU ops.toList iH=some (.nL hs xs b7)) {ay:Tr AV} {ae:St} (hr:mC call xs b7 (hoist hs tm st).1 (hoist hs tm st).2=some (ay,ae))
  {a0:Act} (hS:cM w g n tm a0) (hI:Inv base g st w) {Q:Exit->Act->World->Prop} (hQ:∀ a' w' g',cM w' g' n ay a'->Inv base g' ae w'->Ext base g st w g' ae w'->Q .normal a' w'):(Code.region id ops true).wp P Q a0 w:=by
 unfold oU at hd;cases rZ:(oz 0 ops.toList&&sX (cC [] ops.toList) 0 ops.toList (bZ ops.toList iH).1) with
 |false=>rw[rZ] at hd; cases hd
 |true =>
 rw[rZ] at hd;injection hd with hd
 injection hd with hhs WU qM
 simp only[kQ] at rZ;obtain⟨kD,Oi⟩:=rZ;obtain⟨nE,qh,rY,bH⟩:=w7 ops.toList iH C3;rw[WU] at nE qh rY Oi qM;rw[hhs] at qh rY bH;have hlen:ops.toList.length=xs.length:=by omega
 obtain⟨_,htw⟩:=uw _ _ _ 0 Oi;have two:∀ (i j:Nat) (oi oj:Oper) (xi xj:XR),i<j->ops.toList[i]?=some oi->ops.toList[j]?=some oj->xs[i]?=some xi->xs[j]?=some xj->lj (cC [] ops.toList) i j oi oj xi xj=true:=by
  intro i j oi oj xi xj Ke nT lT WV fg;have:=htw i j oi oj xi xj Ke nT lT WV fg
  simpa using this
 have tN:∀ i x,xs[i]?=some x->∃ o,ops.toList[i]?=some o:=fun i x hx=>⟨ops.toList[i]'(by have:=(fU.1 hx).1; omega),ey _⟩
 have idx:∀ (i:Nat) (o:Oper) (x:XR),ops.toList[i]?=some o->xs[i]?=some x->x.dst=o.dst/\(∀ d,x.dst=some d->d<n) /\
   ((o.guard=none/\x.guard=none)\/∃ j b d,o.guard=some (j,b)/\(ops[j]?).bind (·.dst)=some d/\x.guard=some (d,b)) /\
   (((∀ k,ks=some k->i<k\/k+3<=i)->lN T (Fh kd o.dst) o.op=some x.op)\/∃ t d cs ti,o.op = .alloc t/\T t=some ti/\ti.zero.cells=cs/\cs≠[]/\x=⟨some d,none,.p (.move (.t d))⟩/\o.guard=none/\(d,cs)∈hs):=by
  intro i o x ho hx;obtain⟨x0,Lh,h1,h2,h3,h4⟩:=OG i o ho;obtain⟨y,hy,h5⟩:=qh i o x0 ho Lh;rw[hx] at hy; injection hy with hy; subst hy
  have XT:(o.guard=none/\x0.guard=none)\/∃ j b d,o.guard=some (j,b)/\(ops[j]?).bind (·.dst)=some d/\x0.guard=some (d,b):=by simpa using h4
  rcases h5 with rfl |⟨t,d,cs,h6,rfl,rfl,h7⟩
  ·exact⟨h2,h3,XT,.inl h1⟩
  ·have h1:=h1 (fun k hk=>by
    rcases Nat.lt_or_ge i k with h |h
    ·exact .inl h
    ·by_cases h':k+3<=i
     ·exact .inr h'
     ·exfalso
      have sp:=CY k hk;have h8:i=k\/i=k+1\/i=k+2:=by omega
      rcases h8 with rfl |rfl |rfl
      ·obtain⟨o',c,h9,_,_,dc,_⟩:=sp.o0
       rw[ho] at h9; injection h9 with h9; subst h9
       rw[h6] at dc; cases dc
      ·obtain⟨o',h9,_,_,dc⟩:=sp.o1
       rw[ho] at h9; injection h9 with h9; subst h9
       rw[h6] at dc; cases dc
      ·obtain⟨o',h9,_,_,dc⟩:=sp.o2
       rw[ho] at h9; injection h9 with h9; subst h9
       rw[h6] at dc; cases dc)
   have hg:o.guard=none:=by
    rcases XT with h |⟨j,b,d',_,_,h⟩
    ·exact h.1
    ·cases h
   refine⟨h2,h3,.inl ⟨hg,rfl⟩,.inr ?_⟩
   rw[h6] at h1;obtain⟨ti,vA,h1⟩:=au h1;cases hz:ti.zero.cells with
   |nil=>simp only[hz] at h1; cases h1
   |cons z zs =>
    simp only[hz] at h1;injection h1 with h1
    injection h1 with h1
    injection h1 with h1
    exact⟨t,d,cs,ti,h6,vA,by rw[hz]; exact h1,(by rw[<-h1]; exact(fun h=>by cases h)),rfl,hg,h7⟩
 have du:∀ (i j:Nat) (x y:XR) (t:Nat),xs[i]?=some x->xs[j]?=some y->x.dst=some t->y.dst=some t->i=j:=by
  have key:∀ (i j:Nat) (x y:XR) (t:Nat),i<j->xs[i]?=some x->xs[j]?=some y->x.dst=some t->y.dst=some t->False:=by
   intro i j x y t Ke hx hy yB r9;obtain⟨oi,nT⟩:=tN i x hx;obtain⟨oj,lT⟩:=tN j y hy;have h:=two i j oi oj x y Ke nT lT hx hy;unfold lj at h;simp only[kQ] at h;have h1:=h.1.1.1.1;rw[<-(idx i oi x nT hx).1,<-(idx j oj y lT hy).1,yB,r9] at h1;simp[rA] at h1
  intro i j x y t hx hy yB r9;rcases Jz i j with h |h |h
  ·exact(key i j x y t h hx hy yB r9).elim
  ·exact h
  ·exact(key j i y x t h hy hx r9 yB).elim
 have hnd:(hs.map (·.1)).Nodup:=by
  have FD:∀ (i j:Nat) (x y:XR) (t:Nat),iH[i]?=some x->iH[j]?=some y->x.dst=some t->y.dst=some t->i=j:=by
   intro i j x0 y0 t hx hy yB r9;have e0:∀ (i:Nat) (x0:XR),iH[i]?=some x0->∃ x,xs[i]?=some x/\x.dst=x0.dst:=by
    intro i x0 hx;have ho:ops.toList[i]?=some _:=ey (by have:=(fU.1 hx).1; omega)
    obtain⟨x,h1,h2⟩:=qh i _ x0 ho hx;refine⟨x,h1,?_⟩
    rcases h2 with rfl |⟨t,d,cs,_,rfl,rfl,_⟩<;>rfl
   obtain⟨x,h1,h2⟩:=e0 i x0 hx;obtain⟨y,h3,h4⟩:=e0 j y0 hy;exact du i j x y t h1 h3 (h2.trans yB) (h4.trans r9)
  exact(y4 iH FD).sublist bH
 have hwf:WF st:=hI.fl;obtain⟨κ,hκ1,hκ2,SW,hκ4⟩:=w6 hs tm st hwf hnd;obtain⟨Tv,XQ⟩:=zc hs tm st hI;obtain⟨S,V,Tt,XN,CW,w5⟩:=ux hr;have Oc:WF (S 0).2:=by rw[Tt]; exact(vB hs tm st hwf).wf
 have jN:=BU CW du;have SU:∀ d k,κ d=some k->∃ (i:Nat) (x:XR),xs[i]?=some x/\x=⟨some d,none,.p (.move (.t d))⟩:=by
  intro d k hk;obtain⟨_,_,cs,gO⟩:=SW d k hk;obtain⟨i,o,t,_,_,_,hx⟩:=rY d cs gO;exact⟨i,_,hx,rfl⟩
 have start:∀ t,κ t=none->aD (S 0).1 (.t t)=aD tm (.t t):=fun t ht=>by
  rw[Tt];have:=hκ1 t;rw[ht] at this; exact this
 have W3:∀ k,ks=some k->∀ (i:Nat) (o:Oper) (x:XR),ops.toList[i]?=some o->(∀ t,o.op≠.alloc t)->iH[i]?=some x->xs[i]?=some x:=by
  intro k hk i o x ho jO hx;obtain⟨y,hy,h5⟩:=qh i o x ho hx;rcases h5 with rfl |⟨t,d,cs,h6,_⟩
  ·exact hy
  ·exact absurd h6 (jO t)
 have hsx:∀ k,ks=some k->xs[k]?=some ⟨some sA,none,.e (.K6 i0.size i0.bytes sx (.t sV) (.t sQ) (.t sU))⟩/\xs[k+1]?=some ⟨some sB,none,.p (.move (.c .any))⟩/\xs[k+2]?=some ⟨none,none,.p (.move (.c gg))⟩:=by
  intro k hk;have sp:=CY k hk;obtain⟨o0,c,h1,_,_,h2,_⟩:=sp.o0;obtain⟨o1,h3,_,_,h4⟩:=sp.o1;obtain⟨o2,h5,_,_,h6⟩:=sp.o2;exact⟨W3 k hk k o0 _ h1 (fun t h=>by rw[h2] at h; cases h) sp.x0,W3 k hk _ o1 _ h3 (fun t h=>by rw[h4] at h; cases h) sp.x1,W3 k hk _ o2 _ h5 (fun t h=>by rw[h6] at h; cases h) sp.x2⟩
 have XA:∀ k,ks=some k->Nat.testBit ((cC [] ops.toList).getD (k+1) 0) k=true/\Nat.testBit ((cC [] ops.toList).getD (k+2) 0) (k+1)=true:=by
  intro k hk;have sp:=CY k hk;obtain⟨h7,h8,h9⟩:=hsx k hk;obtain⟨o0,c,h1,hd0,_,h2,_⟩:=sp.o0;obtain⟨o1,h3,Ts,_,h4⟩:=sp.o1;obtain⟨o2,h5,_,_,h6⟩:=sp.o2;have r1:kq o1 sA=true:=by
   unfold kq;rw[h4];simp[Op.operands,CN]
  have r2:kq o2 sB=true:=by
   unfold kq;rw[h6];simp[Op.operands,CN]
  constructor
  ·have h:=two k (k+1) o0 o1 _ _ (by omega) h1 h3 h7 h8
   unfold lj at h;simp only[kQ] at h;have dc:=h.1.1.1.2;rw[hd0] at dc;simp only[r1,wy,e7] at dc;unfold cmp at dc;have e1:Nat.max k (k+1)=k+1:=by simp
   have e2:Nat.min k (k+1)=k:=by simp
   rwa[e1,e2] at dc
  ·have h:=two (k+1) (k+2) o1 o2 _ _ (by omega) h3 h5 h8 h9
   unfold lj at h;simp only[kQ] at h;have dc:=h.1.1.1.2;rw[Ts] at dc;simp only[r2,wy,e7] at dc;unfold cmp at dc;have e1:Nat.max (k+1) (k+2)=k+2:=by simp
   have e2:Nat.min (k+1) (k+2)=k+1:=by simp
   rwa[e1,e2] at dc
 refine vO (ops:=ops) (Q:=Q) hm (fun i o ho e he hb=>?_) (fun D a' w'=>∃ ws g' p,YQ ks sA sB sQ sV i0.size D a' w' ws g'/\J base g st w n tm xs S V κ hs D a' ws g' p) ?_ ?_ ?_
 ·have:=(fc ops.toList 0 kD i o (by simpa using ho)).1 e (by simpa using he) (by rw[db]; exact hb)
  simpa using this
 ·
  obtain⟨hId,hEd⟩:=Tv.drew;obtain⟨p,h1,h2,h3,h4,h5⟩:=rO CW xs.length 0 (by omega) (by omega)
  have e0:(S p).2=(hoist hs tm st).2:=by rw[h5,Tt]
  have hE:=XQ.trans hEd;refine⟨w.drew,g,p,.inl ⟨fun _ _=>.inl rfl,rfl⟩,h2,fun c x hc hx he=>absurd he (h3 c x (by omega) hc hx),fun c x _ _ _=>rfl,h4,by rw[e0]; exact hId,by rw[e0]; exact hE,hS.defers,hS.size,(fun i x d _ _ h=>by cases h),fun t _=>(hS.rep t).ext hEd,fun d k cs hk h8 _=>?_⟩
  obtain⟨h6,h7,_⟩:=SW d k hk;obtain⟨k',h9,dc⟩:=hκ2 d cs h8;rw[hk] at h9; injection h9 with h9; subst h9
  refine⟨?_,by rw[e0]; exact dc⟩
  cases hg:g.key k with
  |none=>rfl
  |some b=>have:=(hI.cK k b hg).1; omega
 ·
  rintro D a1 w1 i o ho zh u3 iC ⟨ws,g1,p,hL,hJ⟩ K hK
  have nQ:ops.toList[i]?=some o:=by simpa using ho
  obtain⟨x,hx⟩:∃ x,xs[i]?=some x:=⟨xs[i]'(by have:=(fU.1 nQ).1; omega),ey _⟩
  obtain⟨pY,aO,Lm,zf⟩:=idx i o x nQ hx;have C0:∀ e∈o.after.toList,dK e=true->D e.on=true:=fun e he hb=>u3 e (by simpa using he) (by rw[<-db]; exact hb)
  have A2:∀ j oj,ops.toList[j]?=some oj->D j=true->∀ e∈oj.after.toList,dK e=true->D e.on=true:=fun j oj hj re e he hb=>iC j oj (by simpa using hj) re e (by simpa using he) (by rw[<-db]; exact hb)
  have before:∀ j,Nat.testBit ((cC [] ops.toList).getD i 0) j=true->D j=true:=gD kD A2 i o nQ C0;have ya:∀ j oj,ops.toList[j]?=some oj->Nat.testBit ((cC [] ops.toList).getD j 0) i=true->D j=false:=by
   intro j oj hj hb;cases re:D j with
   |false=>rfl
   |true =>
    have:=gD kD A2 j oj hj (A2 j oj hj re) i hb;rw[zh] at this; cases this
  have pW:i<=xs.length:=by have:=(fU.1 hx).1; omega
  have rW:(∀ d,x=⟨some d,none,.p (.move (.t d))⟩->κ d=none\/o.op.operands.toList=[])->∀ y∈o.op.operands.toList,b6 ws g1 (S i).1 a1.eval y:=by
   intro qg y hy z hz;cases y with
   |const v =>
    simp only[aH] at hz;split at hz<;>try cases hz
    rename_i a' ha;exact sK ha ws g1
   |global g'=>cases hz
   |func f=>simp only[aH] at hz; injection hz with hz; subst hz; exact .fn f [] [] [] [] .nil .nil
   |tmp t =>
    simp only[aH] at hz; injection hz with hz; subst hz
    have qL:kq o t=true:=by
     unfold kq;exact List.any_eq_true.2 ⟨.tmp t,hy,by simp[CN]⟩
    by_cases hw:∃ (j:Nat) (xj:XR),xs[j]?=some xj/\xj.dst=some t
    ·obtain⟨j,xj,fg,lK⟩:=hw
     obtain⟨oj,lT⟩:=tN j xj fg;have OP:=(idx j oj xj lT fg).1;rcases Jz j i with q9 |q9 |q9
     ·have h:=two j i oj o xj x q9 lT nQ fg hx
      unfold lj at h;simp only[kQ] at h;have h1:=h.1.1.1.2;rw[<-OP,lK] at h1;simp only[qL,wy,e7] at h1;unfold cmp at h1;have e1:Nat.max j i=i:=by simp[wu]; omega
      have e2:Nat.min j i=j:=by simp[wq]; omega
      rw[e1,e2] at h1;have re:=before j h1;rw[(jN i pW t).1 j xj q9 fg lK];exact hJ.done j xj t fg lK re
     ·replace q9:=q9.symm; subst q9
      rw[hx] at fg; injection fg with fg; subst fg
      have pV:∀ (j:Nat) (y:XR),j<i->xs[j]?=some y->y.dst≠some t:=fun j' y' uI pC dA=>by
       have:=du j' i y' x t pC hx dA lK; omega
      have Fk:κ t=none:=by
       cases hk:κ t with
       |none=>rfl
       |some k =>
        obtain⟨i',x',kC,eO⟩:=SU t k hk;have OF:i=i':=(du i' i x' x t kC hx (by rw[eO]) lK).symm
        subst OF;rw[hx] at kC; injection kC with kC; subst kC
        rcases qg t eO with h |h
        ·rw[hk] at h; cases h
        ·rw[h] at hy; cases hy
      rw[(jN i pW t).2 pV,start t Fk];refine hJ.old t fun j' y' pC dA=>?_
      have:=du j' i y' x t pC hx dA lK;rw[this]; exact zh
     ·have h:=two i j o oj x xj q9 nQ lT hx fg
      unfold lj at h;simp only[kQ] at h;have h1:=h.1.1.2;have h2:=h.2;rw[<-OP,lK] at h1;simp only[qL,wy,e7] at h1;unfold cmp at h1;have e1:Nat.max i j=j:=by simp[wu]; omega
      have e2:Nat.min i j=i:=by simp[wq]; omega
      rw[e1,e2] at h1;have re:=ya j oj lT h1;have pV:∀ (j':Nat) (y:XR),j'<i->xs[j']?=some y->y.dst≠some t:=fun j' y' uI pC dA=>by
       have:=du j' j y' xj t pC fg dA lK; omega
      have Fk:κ t=none:=by
       cases hk:κ t with
       |none=>rfl
       |some k =>
        obtain⟨i',x',kC,eO⟩:=SU t k hk;have OF:i'=j:=du i' j x' xj t kC fg (by rw[eO]) lK
        subst OF;rw[fg] at kC; injection kC with kC; subst kC
        rw[eO] at h2;simp[isH,qL] at h2
      rw[(jN i pW t).2 pV,start t Fk];refine hJ.old t fun j' y' pC dA=>?_
      have:=du j' j y' xj t pC fg dA lK;rw[this]; exact re
    ·have pV:∀ (j:Nat) (y:XR),xs[j]?=some y->y.dst≠some t:=fun j y pC dA=>hw ⟨j,y,pC,dA⟩
     have Fk:κ t=none:=by
      cases hk:κ t with
      |none=>rfl
      |some k =>
       obtain⟨i',x',kC,eO⟩:=SU t k hk;exact absurd (by rw[eO]) (pV i' x' kC)
     rw[(jN i pW t).2 fun j y _=>pV j y,start t Fk]
     exact hJ.old t fun j y pC dA=>absurd dA (pV j y pC)
  have hilt:i<xs.length:=(fU.1 hx).1
  obtain⟨q,QT,AX,W8⟩:=CW i x hx;have rT:Region.wanted o (yielded ops a1.tmps)=q:=my (w:=ws) (g:=g1) Lm QT fun d b hgx=>by
   rcases Lm with⟨_,h⟩ |⟨j,b',d',QU,lT,SX⟩
   ·rw[hgx] at h; cases h
   ·rw[hgx] at SX
    injection SX with SX
    injection SX with WW hxg2
    subst WW;obtain⟨e,he,hb,Xp⟩:=(fc ops.toList 0 kD i o nQ).2 j b' QU;have Th:=(fc ops.toList 0 kD i o nQ).1 e he hb;have re:D j=true:=by rw[<-Xp]; exact C0 e he hb
    cases hq:ops[j]? with
    |none=>rw[hq] at lT; cases lT
    |some oj =>
     rw[hq] at lT;have Ou:ops.toList[j]?=some oj:=by simpa using hq
     obtain⟨xj,fg⟩:∃ x,xs[j]?=some x:=⟨xs[j]'(by have:=(fU.1 Ou).1; omega),ey _⟩
     have lK:xj.dst=some d:=by rw[(idx j oj xj Ou fg).1]; exact lT
     rw[(jN i pW d).1 j xj (by omega) fg lK]
     exact hJ.done j xj d fg lK re
  have Tj:x.op.cl = .rh->i=p:=by
   intro he;rcases Jz i p with h |h |h
   ·have:=hJ.lo i x h hx he
    rw[zh] at this; cases this
   ·exact h
   ·rcases hJ.pe with h' |⟨y,hy,qI⟩
    ·omega
    ·obtain⟨oy,Tc⟩:=tN p y hy
     have h2:=two p i oy o y x h Tc nQ hy hx;unfold lj at h2;simp only[kQ] at h2;have h3:=h2.1.2;rw[qI,he] at h3;simp only at h3;unfold cmp at h3;have e1:Nat.max p i=i:=by simp[wu]; omega
     have e2:Nat.min p i=p:=by simp[wq]; omega
     rw[e1,e2] at h3;have:=before p h3;rw[hJ.hi p y (dN _) hy qI] at this; cases this
  have sm:x.op.cl≠.rh->∀ v wa w' g',bI w' g' (V i) v->Inv base g' (S p).2 w'->Ext base g st w g' (S p).2 w'->g1.le g'->gN g1 ws w' ->
    (∀ d k cs,κ d=some k->x.dst≠some d->g1.key k=none->(S p).2.heap.get k=some (.box 0 cs)->g'.key k=none/\(S p).2.heap.get k=some (.box 0 cs))->YQ ks sA sB sQ sV i0.size (fun j=>if j=i then true else D j) (a1.put o.dst v) wa w' g'->K (a1.put o.dst v) wa:=by
   intro jO v wa w' g' h1 h2 h3 h4 h5 h6 D4;rw[<-pY] at D4 ⊢;exact hK _ _ ⟨w',g',p,D4,hJ.next du hx zh aO h1 h2 h3 h4 h5 h6 hJ.ple (fun c y hc hy he=>.inr (hJ.lo c y hc hy he)) (fun c y hc hy he=>⟨fun e=>by
    subst e;rw[hx] at hy; injection hy with hy; subst hy
    exact jO he,hJ.hi c y hc hy he⟩) hJ.pe⟩
  have FQ:x.op.cl = .rh->∀ v wa w' g',bI w' g' (V i) v->Inv base g' (S (i+1)).2 w'->Ext base g st w g' (S (i+1)).2 w'->g1.le g'->gN g1 ws w' ->
    (∀ d k cs,κ d=some k->x.dst≠some d->g1.key k=none->(S p).2.heap.get k=some (.box 0 cs)->g'.key k=none/\(S (i+1)).2.heap.get k=some (.box 0 cs))->YQ ks sA sB sQ sV i0.size (fun j=>if j=i then true else D j) (a1.put o.dst v) wa w' g'->K (a1.put o.dst v) wa:=by
   intro he v wa w' g' h1 h2 h3 h4 h5 h6 D4;have rU:=Tj he;obtain⟨p',h7,h8,h9,dc,ik⟩:=rO CW _ (i+1) rfl (by omega)
   rw[<-ik] at h2 h3 h6;rw[<-pY] at D4 ⊢;exact hK _ _ ⟨w',g',p',D4,hJ.next du hx zh aO h1 h2 h3 h4 h5 h6 h8 (fun c y hc hy qI=>by
    by_cases e1:c=i
    ·exact .inl e1
    ·by_cases e2:c<p
     ·exact .inr (hJ.lo c y e2 hy qI)
     ·exact absurd qI (h9 c y (by omega) hc hy)) (fun c y hc hy qI=>⟨by omega,hJ.hi c y (by omega) hy qI⟩) dc⟩
  have yx:∀ y,o.dst=some y->y<a1.tmps.size:=fun y hy=>qy (aO y (by rw[pY]; exact hy)) hJ.size
  have pG:∀ j oj,ops.toList[j]?=some oj->D j=true->∀ l,Nat.testBit ((cC [] ops.toList).getD j 0) l=true->D l=true:=fun j oj hj re=>gD kD A2 j oj hj (A2 j oj hj re)
  have U4:(∀ j,j<i->D j=true)->∀ t,(∃ (j:Nat) (o:Oper),j<i/\ops.toList[j]?=some o/\o.dst=some t)->bI ws g1 (aD (S i).1 (.t t)) (a1.eval (.tmp t)):=by
   rintro gM t ⟨j,oj,q9,lT,lK⟩
   obtain⟨xj,fg⟩:∃ x,xs[j]?=some x:=⟨xs[j]'(by have:=(fU.1 lT).1; omega),ey _⟩
   have hdj':xj.dst=some t:=by rw[(idx j oj xj lT fg).1]; exact lK
   rw[(jN i pW t).1 j xj q9 fg hdj'];exact hJ.done j xj t fg hdj' (gM j q9)
  rw[rT];rcases hL with⟨OQ,hww⟩ |⟨k,bk,off,m,cap,us,tH,hB⟩
  ·replace hww:=hww.symm
   subst hww
   by_cases Oz:ks=some i
   ·have sp:=CY i Oz
    obtain⟨Lh,SY,Ob⟩:=hsx i Oz;obtain⟨c1,c2⟩:=XA i Oz;rw[hx] at Lh; injection Lh with Lh; subst Lh
    obtain⟨o1,zd,_⟩:=sp.o1;obtain⟨o2,Lk,_⟩:=sp.o2;obtain⟨o',c,h1,hd0,QW,cW,Xz,hargs,W2⟩:=sp.o0;rw[nQ] at h1; injection h1 with h1; subst h1
    have W7:q=true:=by
     have:some true=some q:=QT;injection this with this; exact this.symm
    subst W7;simp only[oq];rcases W8 with⟨hf,_⟩ |⟨_,oJ⟩
    ·cases hf
    have oJ:sL (S i).2 (S i).1 i0.size i0.bytes sx (.t sV) (.t sQ) (.t sU)=some (V i,(S (i+1)).2):=oJ;unfold sL at oJ;split at oJ<;>try cases oJ
    rename_i hc;simp only[kQ,bo,pQ] at hc;obtain⟨⟨nU,hc2⟩,hc3⟩:=hc;obtain⟨m,hm1,hm2⟩:=TO hc2;obtain⟨z0,hz0⟩:=JY hc3;have gM:∀ j,j<i->D j=true:=fun j hj=>before j (sp.before j hj)
    have OX:c.args = #[sS,.tmp sU]:=by cases jW:c.args; rw[jW] at hargs; simp at hargs; rw[hargs]
    have S9:=rW (fun d J1=>by cases J1) sS (by rw[cW]; simp[Op.operands,Call.operands,Xz,OX]) sx sp.sxo
    have hru:=rW (fun d J1=>by cases J1) (.tmp sU) (by rw[cW]; simp[Op.operands,Call.operands,Xz,OX]) (.t sU) rfl
    have hrq:=U4 gM sQ sp.dq;have hrv:=U4 gM sV sp.dv;obtain⟨kk,hkq⟩:=kz hm1;rw[hkq] at hrq;have hvq:=bK hrq;obtain⟨_,_,_,hz⟩:=dM hT sp.ti0;obtain⟨us,uH,CV,QP,W1⟩:=kM hrv nU hz;obtain⟨news,ep⟩:=Mg (P:=P) hT sp.src hru hz0;have rU:=Tj rfl;have hinv:=hJ.inv;have xm:=hJ.ext;rw[<-rU] at hinv xm;obtain⟨bk,off,cap,w',g',cm,pU,tG,p6,D5,Xl⟩:=K5 (ty:=o.type) hT sp.ti0 S9 ep CV QP nU hm2 oJ hinv;have BI:c.args = #[sS,.tmp sU]:=by cases jW:c.args; rw[jW] at hargs; simp at hargs; rw[hargs]
    have Tw:c.argTypes = #[tA,tU]:=by cases jW:c.argTypes; rw[jW] at W2; simp at W2; rw[W2]
    have hexec:(execOp a1.eval o).run P w1 = .ok (.value (.slice (some ⟨bk,off,none⟩) (m+1) cap)) w':=by
     simp[execOp,cW,resolve,Xz,BI,Tw,invoke,builtin,cm]
    have w8:∀ t,(∃ (j:Nat) (o:Oper),j<i/\ops.toList[j]?=some o/\o.dst=some t)->o.dst≠some t:=by
     rintro t ⟨j,oj,q9,lT,lK⟩ he
     obtain⟨xj,fg⟩:∃ x,xs[j]?=some x:=⟨xs[j]'(by have:=(fU.1 lT).1; omega),ey _⟩
     have:=du j i xj _ t fg hx (by rw[(idx j oj xj lT fg).1]; exact lK) (by rw[pY]; exact he)
     omega
    unfold Oper.wp;rw[hexec];refine FQ rfl _ w' _ g' tG p6 (xm.trans D5) D5.le D5.same (fun d k cs _ _ h5 h6=>by
     rw[<-rU] at h6;exact(D5.jG k _ h6 rfl h5).symm) (.inr ⟨i,bk,off,m,cap,us,Oz,?_⟩)
    refine⟨by simp,?_,rfl,pU,W1,QP,?_,⟨kk,?_⟩,?_,fun h=>?_,Xl⟩
    ·have e:¬ i+2=i:=by omega
     simp only[e,pP];cases h2:D (i+2) with
     |false=>rfl
     |true =>
      have h3:=pG _ o1 zd (pG _ o2 Lk h2 _ c2) _ c1;rw[zh] at h3; cases h3
    ·rw[hd0,eval_put _ _ _ _ (yx sA hd0),bJ rfl]
    ·rw[gX _ _ _ _ yx (w8 sQ sp.dq)]; exact hvq
    ·rw[gX _ _ _ _ yx (w8 sV sp.dv)]; exact uH
    ·exfalso
     have e:¬ i+1=i:=by omega
     simp only[e,pP] at h;have h3:=pG _ o1 zd h _ c1;rw[zh] at h3; cases h3
   ·have BI:∀ k,ks=some k->(if k=i then true else D k)=false\/(if k+2=i then true else D (k+2))=true:=by
     intro k hk;have jO:k≠i:=fun e=>Oz (by rw[<-e]; exact hk)
     rcases OQ k hk with h |h
     ·exact .inl (by rw[ba jO]; exact h)
     ·exact .inr (by rw[h]; simp)
    have W9:∀ k,ks=some k->i<k\/k+3<=i:=by
     intro k hk;have jO:k≠i:=fun e=>Oz (by rw[<-e]; exact hk)
     have sp:=CY k hk;obtain⟨c1,c2⟩:=XA k hk;obtain⟨o1,h3,_⟩:=sp.o1;obtain⟨o2,h5,_⟩:=sp.o2
     by_cases e1:i=k+1
     ·subst e1
      have hDk:=before k c1;rcases OQ k hk with h |h
      ·rw[hDk] at h; cases h
      ·have:=pG (k+2) o2 h5 h (k+1) c2
       rw[zh] at this; cases this
     ·by_cases e2:i=k+2
      ·subst e2
       have hD1:=before (k+1) c2;have hDk:=pG (k+1) o1 h3 hD1 k c1;rcases OQ k hk with h |h
       ·rw[hDk] at h; cases h
       ·rw[zh] at h; cases h
      ·omega
    have mT:x.op.cl≠.rh->∀ v w' g',bI w' g' (V i) v->Inv base g' (S p).2 w'->Ext base g st w g' (S p).2 w'->g1.le g'->gN g1 w1 w' ->
      (∀ d k cs,κ d=some k->x.dst≠some d->g1.key k=none->(S p).2.heap.get k=some (.box 0 cs)->g'.key k=none/\(S p).2.heap.get k=some (.box 0 cs))->K (a1.put o.dst v) w':=fun h0 v w' g' h1 h2 h3 h4 h5 h6=>sm h0 v w' w' g' h1 h2 h3 h4 h5 h6 (.inl ⟨BI,rfl⟩)
    have Dl:x.op.cl = .rh->∀ v w' g',bI w' g' (V i) v->Inv base g' (S (i+1)).2 w'->Ext base g st w g' (S (i+1)).2 w'->g1.le g'->gN g1 w1 w' ->
      (∀ d k cs,κ d=some k->x.dst≠some d->g1.key k=none->(S p).2.heap.get k=some (.box 0 cs)->g'.key k=none/\(S (i+1)).2.heap.get k=some (.box 0 cs))->K (a1.put o.dst v) w':=fun h0 v w' g' h1 h2 h3 h4 h5 h6=>FQ h0 v w' w' g' h1 h2 h3 h4 h5 h6 (.inl ⟨BI,rfl⟩)
    rcases W8 with⟨rfl,Kk,XM⟩ |⟨rfl,oJ⟩
    ·
     simp only[JB,pP]
     by_cases he:x.op.cl = .rh
     ·have rU:=Tj he
      refine Dl he undef w1 g1 (by rw[Kk]; exact fC) (by rw[XM,rU]; exact hJ.inv) (by rw[XM,rU]; exact hJ.ext) (.refl _) (fun _ _ _=>rfl) fun d k cs _ _ h1 h2=>⟨h1,by rw[XM,rU]; exact h2⟩
     ·exact mT he undef w1 g1 (by rw[Kk]; exact fC) hJ.inv hJ.ext (.refl _) (fun _ _ _=>rfl) fun d k cs _ _ h1 h2=>⟨h1,h2⟩
    ·simp only[oq]
     rcases zf with Xv |⟨t,d,cs,ti,cW,vA,hz,jO,QO,QU,cn⟩
     ·have bM:=Xv W9
      have qg:∀ d,x=⟨some d,none,.p (.move (.t d))⟩->κ d=none\/o.op.operands.toList=[]:=by
       intro d J1;cases hk:κ d with
       |none=>exact .inl rfl
       |some k =>
        obtain⟨_,_,cs,hmm⟩:=SW d k hk;obtain⟨i',o',t',h1,h2,_,h3⟩:=rY d cs hmm;have OF:i'=i:=du i' i _ x d h3 hx rfl (by rw[J1])
        subst OF;rw[nQ] at h1; injection h1 with h1; subst h1
        exact .inr (by rw[h2]; rfl)
      have hρ:=rW qg;cases uZ:x.op with
      |p xp =>
       rw[uZ] at bM oJ;obtain⟨h1,_⟩:=fO (show rM (S i).2 (mw (S i).1 xp)=some (V i,(S (i+1)).2) from oJ)
       have FC:mY call (S p).2 (S i).1 (.p xp)=some (V i,(S p).2):=by
        show rM (S p).2 (mw (S i).1 xp)=_
        rw[h1]; rfl
       refine ji hT cL bM hJ.inv hρ FC fun v w' g' h2 h3 h4=>?_
       exact mT (by rw[uZ]; exact fun h=>by cases h) v w' g' h2 h3 (hJ.ext.trans h4) h4.le h4.same fun d k cs _ _ h5 h6=>(h4.jG k _ h6 rfl h5).symm
      |l xl =>
       rw[uZ] at bM oJ;obtain⟨h1,_⟩:=fO (show rM (S i).2 (KE (S i).2.heap (S i).1 xl)=some (V i,(S (i+1)).2) from oJ)
       have qO:x.op.cl = .load:=by rw[uZ]; rfl
       have kW:∀ key,cO (S i).1 x=some key->(S p).2.heap.get key=(S i).2.heap.get key:=by
        intro key hk;have hw':eg (S i).1 x.guard=some true:=QT;rcases Nat.le_total p i with rU |rU
        ·refine(vi hV CW Oc i rU pW fun c y hc jW hy qI=>?_).symm
         obtain⟨oy,Tc⟩:=tN c y hy;have XS:=hJ.hi c y hc hy qI;have Xw:cmp (cC [] ops.toList) c i=false:=by
          cases hb:cmp (cC [] ops.toList) c i with
          |false=>rfl
          |true =>
           unfold cmp at hb;have e1:Nat.max c i=i:=by simp[wu]; omega
           have e2:Nat.min c i=c:=by simp[wq]; omega
           rw[e1,e2] at hb;have:=before c hb;rw[XS] at this; cases this
         have cn:(i,c)∈b7:=by
          rw[<-qM];refine ln _ xs 0 c i y x jW hy hx (i,c) ?_
          rw[kT,kT];unfold tf;rw[qI,qO];simp[Xw]
         exact w5 i c x cn hx (fU.1 hy).1 hw' key hk
        ·refine vi hV CW Oc p rU hJ.ple fun c y hc jW hy qI=>?_
         have hci:c≠i:=fun e=>by
          subst e;rw[hx] at hy; injection hy with hy; subst hy
          rw[qO] at qI; cases qI
         obtain⟨oy,Tc⟩:=tN c y hy;have XS:=hJ.lo c y jW hy qI;have Xw:cmp (cC [] ops.toList) i c=false:=by
          cases hb:cmp (cC [] ops.toList) i c with
          |false=>rfl
          |true =>
           unfold cmp at hb;have e1:Nat.max i c=c:=by simp[wu]; omega
           have e2:Nat.min i c=i:=by simp[wq]; omega
           rw[e1,e2] at hb;have:=ya c oy Tc hb;rw[XS] at this; cases this
         have cn:(i,c)∈b7:=by
          rw[<-qM];refine ln _ xs 0 i c x y (by omega) hx hy (i,c) ?_
          rw[kT,kT];unfold tf;rw[qI,qO];simp[Xw]
         exact w5 i c x cn hx (fU.1 hy).1 hw' key hk
       have FC:mY call (S p).2 (S i).1 (.l xl)=some (V i,(S p).2):=by
        show rM (S p).2 (KE (S p).2.heap (S i).1 xl)=_
        rw[zy uZ kW,h1]; rfl
       refine ji hT cL bM hJ.inv hρ FC fun v w' g' h2 h3 h4=>?_
       exact mT (by rw[qO]; exact fun h=>by cases h) v w' g' h2 h3 (hJ.ext.trans h4) h4.le h4.same fun d k cs _ _ h5 h6=>(h4.jG k _ h6 rfl h5).symm
      |e xe =>
       have qO:x.op.cl = .rh:=by rw[uZ]; rfl
       have rU:=Tj qO;rw[uZ] at bM oJ;have hinv:=hJ.inv;have xm:=hJ.ext;rw[<-rU] at hinv xm;refine ji hT cL bM hinv hρ oJ fun v w' g' h2 h3 h4=>?_
       exact Dl qO v w' g' h2 h3 (xm.trans h4) h4.le h4.same fun d k cs _ _ h5 h6=>by
        rw[<-rU] at h6;exact(h4.jG k _ h6 rfl h5).symm
     ·
      obtain⟨k,hk,_⟩:=hκ2 d cs cn;have yB:x.dst=some d:=by rw[QO]
      have pV:∀ (j:Nat) (y:XR),j<i->xs[j]?=some y->y.dst≠some d:=fun j y hj hy dA=>by
       have:=du j i y x d hy hx dA yB; omega
      have Kk:V i = .ptr k 0:=by
       rw[QO] at oJ;obtain⟨h1,_⟩:=fO (show rM (S i).2 (some (aD (S i).1 (.t d)))=some (V i,(S (i+1)).2) from oJ)
       injection h1 with h1
       rw[<-h1,(jN i pW d).2 pV,Tt];have:=hκ1 d;rw[hk] at this; exact this
      obtain⟨hgk,jn⟩:=hJ.nT d k cs hk cn fun j y hy r9=>by
       have:=du j i y x d hy hx r9 yB;rw[this]; exact zh
      obtain⟨inf,z,h2,h3,h4,h5,h6,h7,h8⟩:=(hT t ti vA).info;obtain⟨us,h9,dc,ik⟩:=(h6 w1 g1).cells (by rw[hz]; exact jO)
      rw[hz] at dc;obtain⟨g',kG,kY,zi,Km,U7,Lo⟩:=hJ.inv.realize jn hgk dc ik t;have cm:(execOp a1.eval o).run P w1 = .ok (.value (.pointer (some ⟨w1.heap.size,0,none⟩))) (w1.alloc (.cells us.toArray t)):=by
       simp[execOp,cW,Instr.alloc,Sem.run_bind,zeroValue,typeInfo,h2,h5,newVar,newRow,h9]
      unfold Oper.wp;rw[cm];refine mT (by rw[QO]; exact fun h=>by cases h) (.pointer (some ⟨w1.heap.size,0,none⟩)) _ g' (by rw[Kk]; exact .ptr k 0 _ (by rw[kY]; simp)) kG ⟨hJ.ext.le.trans zi,hJ.ext.same.trans hJ.ext.le Km,hJ.ext.below.trans U7,hJ.ext.next,fun b i hx=>hJ.ext.Kr b i (Lo b i hx),fun k0 e0 hk0 QY Fv=>?_⟩ zi Km
       fun d' k' cD bQ Ow Dc D6=>⟨?_,D6⟩
      ·obtain⟨Dc,D6⟩:=hJ.ext.jG k0 e0 hk0 QY Fv
       refine⟨Dc,?_⟩
       rw[kY];have dt:=hI.fl k0 e0 hk0;have OJ:=(SW d k hk).1;have:k0≠k:=by omega
       simp[this,D6]
      ·rw[kY]
       have:k'≠k:=fun e=>by
        subst e;exact Ow (by rw[yB,hκ4 d d' k' hk bQ])
       simp[this,Dc]
  ·have sp:=CY k tH
   obtain⟨Lh,SY,Ob⟩:=hsx k tH;obtain⟨c1,c2⟩:=XA k tH;have hik:i≠k:=by
    rintro rfl
    rw[hB.dk] at zh; cases zh
   obtain⟨ok,ck,nS,_⟩:=sp.o0;have hki:k<i:=by
    rcases Nat.lt_or_ge k i with h |h
    ·exact h
    ·have:=pG k ok nS hB.dk i (sp.before i (by omega))
     rw[zh] at this; cases this
   have w8:∀ t,(∃ (j:Nat) (o:Oper),j<k/\ops.toList[j]?=some o/\o.dst=some t)->o.dst≠some t:=by
    rintro t ⟨j,oj,q9,lT,lK⟩ he
    obtain⟨xj,fg⟩:∃ x,xs[j]?=some x:=⟨xs[j]'(by have:=(fU.1 lT).1; omega),ey _⟩
    have:=du j i xj _ t fg hx (by rw[(idx j oj xj lT fg).1]; exact lK) (by rw[pY]; exact he)
    omega
   have hnA:o.dst≠some sA:=fun he=>hik (du i k x _ sA hx Lh (by rw[pY]; exact he) rfl)
   have hgt:∀ (h:o.guard=none),q=true:=by
    intro h;rcases Lm with⟨_,h2⟩ |⟨j,b,d,h2,_⟩
    ·rw[h2] at QT
     have:some true=some q:=QT;injection this with this; exact this.symm
    ·rw[h] at h2; cases h2
   by_cases e1:i=k+1
   ·subst e1
    rw[hx] at SY; injection SY with SY; subst SY
    obtain⟨o',h1,Ts,Kf,cW⟩:=sp.o1;rw[nQ] at h1; injection h1 with h1; subst h1
    have W7:=hgt Kf;subst W7;simp only[oq];rcases W8 with⟨hf,_⟩ |⟨_,oJ⟩
    ·cases hf
    have Kk:V (k+1) = .any:=by
     obtain⟨h3,_⟩:=fO (show rM (S (k+1)).2 (some AV.any)=some (V (k+1),(S (k+1+1)).2) from oJ)
     injection h3 with h3; exact h3.symm
    obtain⟨kk,hvq⟩:=hB.vq;have cm:=MG (P:=P) hT sp.ti1 cW hB.va hvq w1;rw[sp.s1] at cm;unfold Oper.wp;rw[cm];refine sm (fun h=>by cases h) _ w1 ws g1 (by rw[Kk]; exact .any _) hJ.inv hJ.ext (.refl _) (fun _ _ _=>rfl) (fun d k cs _ _ h5 h6=>⟨h5,h6⟩) (.inr ⟨k,bk,off,m,cap,us,tH,?_⟩)
    refine⟨by simp[hB.dk],by simp[hB.d2],hB.ws,hB.th,hB.len,hB.one,?_,⟨kk,?_⟩,?_,fun h=>?_,hB.dL⟩
    ·rw[gX _ _ _ _ yx hnA]; exact hB.va
    ·rw[gX _ _ _ _ yx (w8 sQ sp.dq)]; exact hvq
    ·rw[gX _ _ _ _ yx (w8 sV sp.dv)]; exact hB.vv
    ·rw[Ts,eval_put _ _ _ _ (yx sB Ts),bJ rfl]
   by_cases e2:i=k+2
   ·subst e2
    rw[hx] at Ob; injection Ob with Ob; subst Ob
    obtain⟨o',h1,hd2,hg2,cW⟩:=sp.o2;rw[nQ] at h1; injection h1 with h1; subst h1
    have W7:=hgt hg2;subst W7;simp only[oq];rcases W8 with⟨hf,_⟩ |⟨_,oJ⟩
    ·cases hf
    have Kk:V (k+2)=gg:=by
     obtain⟨h3,_⟩:=fO (show rM (S (k+2)).2 (some gg)=some (V (k+2),(S (k+2+1)).2) from oJ)
     injection h3 with h3; exact h3.symm
    have cm:=MF (P:=P) (w:=w1) hT sp.ti2 cW (hB.vb (before (k+1) c2)) hB.vv (by rw[sp.s2]; exact hB.len) hB.one hB.th
    rw[<-hB.ws] at cm;unfold Oper.wp;rw[cm];exact sm (fun h=>by cases h) undef ws ws g1 (by rw[Kk]; exact fC) hJ.inv hJ.ext (.refl _) (fun _ _ _=>rfl) (fun d k cs _ _ h5 h6=>⟨h5,h6⟩) (.inl ⟨fun k' bQ=>by
     rw[tH] at bQ; injection bQ with bQ; subst bQ
     exact .inr (by simp),rfl⟩)
   have h3:k+3<=i:=by omega
   have htl:=sp.tail i o h3 nQ;unfold En at htl;simp only[kQ] at htl;obtain⟨htg,hto⟩:=htl;have QU:o.guard=none:=by simpa using htg
   have W7:=hgt QU;subst W7;simp only[oq];rcases W8 with⟨hf,_⟩ |⟨_,oJ⟩
   ·cases hf
   have hop3:(∃ y,o.op = .nilCheck y)\/(∃ t y f,o.op = .fieldAddr t y f)\/∃ t y z,o.op = .store t y z:=by
    revert hto
    cases o.op<;>simp
   have hnB:o.dst≠some sB:=fun he=>e1 (du i (k+1) x _ sB hx SY (by rw[pY]; exact he) rfl)
   have bM:lN T (Fh kd o.dst) o.op=some x.op:=by
    rcases zf with h |⟨t,d,cs,ti,h,_⟩
    ·exact h fun k' bQ=>by rw[tH] at bQ; injection bQ with bQ; subst bQ; exact .inr h3
    ·rcases hop3 with⟨y,h2⟩ |⟨_,_,_,h2⟩ |⟨_,_,_,h2⟩<;>(rw[h] at h2; cases h2)
   rcases hop3 with⟨y,cW⟩ |⟨t,y,f,cW⟩ |⟨t,y,z,cW⟩
   ·rw[cW] at bM
    obtain⟨xa,ha,bM⟩:=au bM;injection bM with bM
    rw[<-bM] at oJ;obtain⟨h4,_⟩:=fO (show rM (S i).2 (ri (aD (S i).1 xa))=some (V i,(S (i+1)).2) from oJ)
    obtain⟨v,cm,tG⟩:=I3 (P:=P) cW ha (rW (fun d J1=>by rw[J1] at bM; cases bM) y (by rw[cW]; simp[Op.operands])) h4
    unfold Oper.wp;rw[cm w1];exact sm (by rw[<-bM]; exact fun h=>by cases h) v w1 ws g1 tG hJ.inv hJ.ext (.refl _) (fun _ _ _=>rfl) (fun d k cs _ _ h5 h6=>⟨h5,h6⟩) (.inr ⟨k,bk,off,m,cap,us,tH,hB.put e1 e2 yx hnA hnB (w8 sQ sp.dq) (w8 sV sp.dv) hB.ws hB.th (.refl _)⟩)
   ·rw[cW] at bM
    obtain⟨fi,Kh,bM⟩:=au bM;obtain⟨xa,ha,bM⟩:=au bM;injection bM with bM
    rw[<-bM] at oJ;obtain⟨h4,_⟩:=fO (show rM (S i).2 (gR fi.1 (aD (S i).1 xa))=some (V i,(S (i+1)).2) from oJ)
    obtain⟨v,cm,tG⟩:=Em (P:=P) hT cW Kh ha (rW (fun d J1=>by rw[J1] at bM; cases bM) y (by rw[cW]; simp[Op.operands])) h4
    unfold Oper.wp;rw[cm w1];exact sm (by rw[<-bM]; exact fun h=>by cases h) v w1 ws g1 tG hJ.inv hJ.ext (.refl _) (fun _ _ _=>rfl) (fun d k cs _ _ h5 h6=>⟨h5,h6⟩) (.inr ⟨k,bk,off,m,cap,us,tH,hB.put e1 e2 yx hnA hnB (w8 sQ sp.dq) (w8 sV sp.dv) hB.ws hB.th (.refl _)⟩)
   ·rw[cW] at bM
    obtain⟨ti,vA,bM⟩:=au bM;cases hzb:Nat.beq ti.size 0 with
    |true=>simp only[hzb] at bM; cases bM
    |false =>
    simp only[hzb] at bM;obtain⟨xa,ha,bM⟩:=au bM;obtain⟨xc,hc,bM⟩:=au bM;injection bM with bM
    rw[<-bM] at oJ;have hzt:ti.size≠0:=by
     rw[bo] at hzb
     simpa using hzb
    have QO:x.op.cl = .rh:=by rw[<-bM]; rfl
    have rU:=Tj QO;have hinv:=hJ.inv;have xm:=hJ.ext;rw[<-rU] at hinv xm;have qg:∀ d,x=⟨some d,none,.p (.move (.t d))⟩->κ d=none\/o.op.operands.toList=[]:=fun d J1=>by rw[J1] at bM; cases bM
    obtain⟨hund,b',off',us',cm,hth',Th,A0,p6,D5⟩:=El (P:=P) hT cW hinv vA hzt ha hc (rW qg y (by rw[cW]; simp[Op.operands])) (rW qg z (by rw[cW]; simp[Op.operands])) (show cZ (S i).2 ti.size (aD (S i).1 xa) (aD (S i).1 xc)=some (V i,(S (i+1)).2) from oJ)
    obtain⟨_,_,_,hz⟩:=dM hT sp.ti0;have Q0:bk≠b':=by
     rintro rfl
     exact A0 _ (hB.dL 0 (by rw[hB.len]; omega))
    have hsz1:ws.heap.size=w1.heap.size:=by rw[hB.ws,v8]
    have A3:w1.heap[b']?=ws.heap[b']?:=by
     rw[hB.ws];exact(World.heap_setCells_other w1 bk _ us (by omega) (fun e=>Q0 e.symm)).symm
    have hth1:=gB hth' A3;unfold Oper.wp;rw[cm w1 hth1];refine FQ QO undef _ _ g1 (by rw[hund]; exact fC) p6 (xm.trans D5) D5.le D5.same (fun d k cs _ _ h5 h6=>by
     rw[<-rU] at h6;exact(D5.jG k _ h6 rfl h5).symm) (.inr ⟨k,bk,off,m,cap,us,tH,hB.put e1 e2 yx hnA hnB (w8 sQ sp.dq) (w8 sV sp.dv) ?_ (World.there_setCells hB.th _ _ _) (.refl _)⟩)
    rw[hB.ws];exact yn bk b' Q0 us _ us' off' w1
 ·
  rintro D a1 w1 gM ⟨ws,g1,p,hL,hJ⟩
  have hww:w1=ws:=by
   rcases hL with⟨_,h⟩ |⟨k,bk,off,m,cap,us,tH,hB⟩
   ·exact h.symm
   ·obtain⟨o2,h5,_⟩:=(CY k tH).o2
    have h6:=gM (k+2) (by have:=(fU.1 h5).1; simpa using this)
    rw[hB.d2] at h6; cases h6
  subst hww;have hpN:p=xs.length:=by
   rcases hJ.pe with h |⟨x,hx,he⟩
   ·exact h
   ·have aO:p<ops.size:=by have:=(fU.1 hx).1; have:=hlen; simp at this; omega
    have:=hJ.hi p x (dN _) hx he;rw[gM p aO] at this; cases this
  subst hpN;have OZ:∀ (j:Nat) (y:XR),xs[j]?=some y->D j=true:=fun j y hy=>gM j (by have:=(fU.1 hy).1; have:=hlen; simp at this; omega)
  refine hQ a1 w1 g1 ⟨hJ.defers,hJ.size,fun t=>?_⟩ (by have:=hJ.inv; rw[XN] at this; exact this) (by have:=hJ.ext; rw[XN] at this; exact this)
  have pE:=jN xs.length (dN _) t;rw[XN] at pE
  by_cases hw:∃ (j:Nat) (xj:XR),xs[j]?=some xj/\xj.dst=some t
  ·obtain⟨j,xj,fg,lK⟩:=hw
   rw[pE.1 j xj (fU.1 fg).1 fg lK]
   exact hJ.done j xj t fg lK (OZ j xj fg)
  ·have pV:∀ (j:Nat) (y:XR),xs[j]?=some y->y.dst≠some t:=fun j y pC dA=>hw ⟨j,y,pC,dA⟩
   have Fk:κ t=none:=by
    cases hk:κ t with
    |none=>rfl
    |some k =>
     obtain⟨i',x',kC,eO⟩:=SU t k hk;exact absurd (by rw[eO]) (pV i' x' kC)
   rw[pE.2 fun j y _=>pV j y,start t Fk]
   exact hJ.old t fun j y pC dA=>absurd dA (pV j y pC)
end
end Go.Ev
namespace Go.Ev
open Go.RowKit
section
variable {P : Program} {T : Nat → Option TI} {base : Nat}
def TF:Ex->Exit
 | .norm=>.normal
 | .exit id=>.exit id
 | .ret=>.ret
def Ends (base:Nat) (g:G) (st:St) (w:World) (n:Nat) (Q:Exit->Act->World->Prop) (e:Ex) (ay:Tr AV) (ae:St):Prop :=
 ∀ a' w' g',cM w' g' n ay a'->Inv base g' ae w'->Ext base g st w g' ae w'->Q (TF e) a' w'
def D1 (P:Program) (T:Nat->Option TI) (base:Nat) (call:e8):Prop :=
 ∀ (kd:Nat->Nat) (n id:Nat) (ops:Array Oper) (iH xs:List XR) (hs:List (Nat × List AV)) (b7:List (Nat × Nat)),fK T kd n ops.toList ops.toList=some iH->ua T ops.toList iH=some (.nL hs xs b7) ->
 ∀ (tm:Tr AV) (st:St) (ay:Tr AV) (ae:St),mC call xs b7 (hoist hs tm st).1 (hoist hs tm st).2=some (ay,ae) ->
 ∀ (a:Act) (w:World) (g:G),cM w g n tm a->Inv base g st w->∀ (Q:Exit->Act->World->Prop),Ends base g st w n Q .norm ay ae->(Code.region id ops true).wp P Q a w
theorem qV {ops:List Oper} {iH:List XR} {x:XC} (h:oU ops iH=some x):∃ hs xs ps,x = .nL hs xs ps:=by
 unfold oU at h;split at h
 ·injection h with h; exact⟨_,_,_,h.symm⟩
 ·cases h
theorem F4 {ops:List Oper} {iH:List XR} {x:XC} (h:Ij T ops iH=some x):∃ hs xs ps,x = .nL hs xs ps:=by
 unfold Ij at h;obtain⟨_,_,h⟩:=au h;obtain⟨_,_,h⟩:=au h;obtain⟨_,_,h⟩:=au h;obtain⟨_,_,h⟩:=au h;obtain⟨_,_,h⟩:=au h;obtain⟨_,_,h⟩:=au h;obtain⟨_,_,h⟩:=au h;obtain⟨_,_,h⟩:=au h;split at h
 ·split at h
  ·cases h
  ·exact qV h
 ·cases h
theorem DF {ops:List Oper} {iH:List XR} {x:XC} (h:ua T ops iH=some x):∃ hs xs ps,x = .nL hs xs ps:=by
 unfold ua at h;split at h
 ·injection h with h; subst h; exact qV (by assumption)
 ·exact F4 h
theorem andThen_ok {r:R} {f:Tr AV->St->R} {e:Ex} {ay:Tr AV} {ae:St} (h:r.andThen f = .ok e ay ae):(∃ dh bY,r = .ok .norm dh bY/\f dh bY = .ok e ay ae)\/(r = .ok e ay ae/\TF e≠.normal):=by
 cases r with
 |fail=>cases h
 |ok e1 dh bY=>cases e1 with
  |norm=>exact .inl ⟨dh,bY,rfl,h⟩
  |exit id =>
   have h:R.ok (.exit id) dh bY = .ok e ay ae:=h;injection h with h1 h2 h3
   subst h1 h2 h3;exact .inr ⟨rfl,fun h=>by cases h⟩
  |ret =>
   have h:R.ok .ret dh bY = .ok e ay ae:=h;injection h with h1 h2 h3
   subst h1 h2 h3;exact .inr ⟨rfl,fun h=>by cases h⟩
theorem pd {next:Act->World->Prop} {Q:Exit->Act->World->Prop} {e:Exit} {a:Act} {w:World} (he:e≠.normal) (h:Q e a w):Exit.then next Q e a w:=by
 cases e<;>first |exact h |exact absurd rfl he
theorem HN (hT:bD P T) {call:e8} (cL:gA P base call) (hD:D1 P T base call) (ag:Nat) {kd:Nat->Nat} {n:Nat}:∀ (c:Code) (x:XC),jP T kd n c=some x->∀ (tm:Tr AV) (st:St) (e:Ex) (ay:Tr AV) (ae:St),ak call ag x tm st = .ok e ay ae ->
  ∀ (a:Act) (w:World) (g:G),cM w g n tm a->Inv base g st w->∀ (Q:Exit->Act->World->Prop),Ends base g st w n Q e ay ae->c.wp P Q a w:=by
 intro c
 induction c with
 |skip =>
  intro x hc tm st e ay ae hr a w g hS hI Q hQ;injection hc with hc; subst hc
  have hr:R.ok .norm tm st = .ok e ay ae:=hr;injection hr with h1 h2 h3
  subst h1 h2 h3;exact wp_skip (hQ a w g hS hI (.refl ..))
 |region id ops draw =>
  intro x hc tm st e ay ae hr a w g hS hI Q hQ;unfold jP at hc;obtain⟨iH,h1,hc⟩:=au hc;cases draw with
  |true =>
   have hc:ua T ops.toList iH=some x:=hc;obtain⟨hs,xs,ps,rfl⟩:=DF hc;have hr:R.of (mC call xs ps (hoist hs tm st).1 (hoist hs tm st).2) = .ok e ay ae:=hr;cases hq:mC call xs ps (hoist hs tm st).1 (hoist hs tm st).2 with
   |none=>rw[hq] at hr; cases hr
   |some p =>
    obtain⟨dh,bY⟩:=p;rw[hq] at hr;have hr:R.ok .norm dh bY = .ok e ay ae:=hr;injection hr with h2 h3 h4
    subst h2 h3 h4;exact hD _ n id ops iH xs hs ps h1 hc tm st dh bY hq a w g hS hI Q hQ
  |false =>
   have hc:some (XC.aQ iH)=some x:=hc;injection hc with hc; subst hc
   have hr:R.of (dm call iH tm st) = .ok e ay ae:=hr;cases hq:dm call iH tm st with
   |none=>rw[hq] at hr; cases hr
   |some p =>
    obtain⟨dh,bY⟩:=p;rw[hq] at hr;have hr:R.ok .norm dh bY = .ok e ay ae:=hr;injection hr with h2 h3 h4
    subst h2 h3 h4;exact wp_region_list (GY hT cL ops.toList iH tm st dh bY h1 hq a w g hS hI hQ)
 |seq c d ic id =>
  intro x hc tm st e ay ae hr a w g hS hI Q hQ;unfold jP at hc;obtain⟨y,h1,hc⟩:=au hc;obtain⟨z,h2,hc⟩:=au hc;injection hc with hc; subst hc
  have hr:(ak call ag y tm st).andThen (ak call ag z) = .ok e ay ae:=hr;refine wp_seq ?_
  rcases andThen_ok hr with⟨dh,bY,h3,h4⟩ |⟨h3,he⟩
  ·refine ic y h1 tm st .norm dh bY h3 a w g hS hI _ fun a1 w1 g1 fP uK sP=>?_
   exact id z h2 dh bY e ay ae h4 a1 w1 g1 fP uK Q fun a2 w2 g2 iO xt O3=>hQ a2 w2 g2 iO xt (sP.trans O3)
  ·exact ic y h1 tm st e ay ae h3 a w g hS hI _ fun a1 w1 g1 fP uK sP=>pd he (hQ a1 w1 g1 fP uK sP)
 |cond b c d ic id =>
  intro x hc tm st e ay ae hr a w g hS hI Q hQ;unfold jP at hc;obtain⟨xb,h0,hc⟩:=au hc;obtain⟨y,h1,hc⟩:=au hc;obtain⟨z,h2,hc⟩:=au hc;injection hc with hc; subst hc
  have hr:av (aD tm xb) (ak call ag y tm st) (ak call ag z tm st) = .ok e ay ae:=hr;have hb:=hS.Cy b xb h0;unfold av at hr;split at hr
  ·rename_i hv
   rw[hv] at hb;exact wp_cond (dI hb) (ic y h1 tm st e ay ae hr a w g hS hI Q hQ)
  ·rename_i hv
   rw[hv] at hb;exact wp_cond (dI hb) (id z h2 tm st e ay ae hr a w g hS hI Q hQ)
  ·cases hr
 |block id c ic =>
  intro x hc tm st e ay ae hr a w g hS hI Q hQ;unfold jP at hc;obtain⟨y,h1,hc⟩:=au hc;injection hc with hc; subst hc
  have hr:(ak call ag y tm st).block id = .ok e ay ae:=hr;refine wp_block ?_
  cases hq:ak call ag y tm st with
  |fail=>rw[hq] at hr; cases hr
  |ok e1 dh bY =>
   rw[hq] at hr;refine ic y h1 tm st e1 dh bY hq a w g hS hI _ ?_
   cases e1 with
   |norm =>
    have hr:R.ok .norm dh bY = .ok e ay ae:=hr;injection hr with h2 h3 h4
    subst h2 h3 h4;exact hQ
   |ret =>
    have hr:R.ok .ret dh bY = .ok e ay ae:=hr;injection hr with h2 h3 h4
    subst h2 h3 h4;exact hQ
   |exit i =>
    have hr:(match Nat.beq i id with |true=>R.ok .norm dh bY |false=>R.ok (.exit i) dh bY) = .ok e ay ae:=hr
    rw[bo] at hr;intro a' w' g' iP p6 D5;show if i=id then Q .normal a' w' else Q (.exit i) a' w'
    by_cases hi:i=id
    ·rw[bJ hi]
     simp only[hi,decide_true] at hr;injection hr with h2 h3 h4
     subst h2 h3 h4;exact hQ a' w' g' iP p6 D5
    ·rw[ba hi]
     simp only[hi,decide_false] at hr;injection hr with h2 h3 h4
     subst h2 h3 h4;exact hQ a' w' g' iP p6 D5
 |loop c ic =>
  intro x hc tm st e ay ae hr a w g hS hI Q hQ;unfold jP at hc;obtain⟨y,h1,hc⟩:=au hc;injection hc with hc; subst hc
  have hr:aY (ak call ag y) ag tm st = .ok e ay ae:=hr;have key:∀ (m:Nat) (tm:Tr AV) (st:St),aY (ak call ag y) m tm st = .ok e ay ae->∀ (a:Act) (w:World) (g:G),cM w g n tm a->Inv base g st w->Ends base g st w n Q e ay ae->Code.rounds P c Q m a w:=by
   intro m
   induction m with
   |zero=>intro tm st hr; cases hr
   |succ m ih =>
    intro tm st hr a w g hS hI hQ;have hr:(ak call ag y tm st).andThen (aY (ak call ag y) m) = .ok e ay ae:=hr;rw[rounds_succ];rcases andThen_ok hr with⟨dh,bY,h3,h4⟩ |⟨h3,he⟩
    ·refine ic y h1 tm st .norm dh bY h3 a w g hS hI _ fun a1 w1 g1 fP uK sP=>?_
     exact ih dh bY h4 a1 w1 g1 fP uK fun a2 w2 g2 iO xt O3=>hQ a2 w2 g2 iO xt (sP.trans O3)
    ·exact ic y h1 tm st e ay ae h3 a w g hS hI _ fun a1 w1 g1 fP uK sP=>pd he (hQ a1 w1 g1 fP uK sP)
  exact wp_loop_rounds ag (key ag tm st hr a w g hS hI hQ)
 |exit id =>
  intro x hc tm st e ay ae hr a w g hS hI Q hQ;injection hc with hc; subst hc
  have hr:R.ok (.exit id) tm st = .ok e ay ae:=hr;injection hr with h1 h2 h3
  subst h1 h2 h3;exact wp_exit (hQ a w g hS hI (.refl ..))
 |ret =>
  intro x hc tm st e ay ae hr a w g hS hI Q hQ;injection hc with hc; subst hc
  have hr:R.ok .ret tm st = .ok e ay ae:=hr;injection hr with h1 h2 h3
  subst h1 h2 h3;exact wp_ret (hQ a w g hS hI (.refl ..))
 |_=>intro x hc; cases hc
end
end Go.Ev
