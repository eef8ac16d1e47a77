/- Parts of the proof; no condition. -/
import Derived.Test.YthlkmffimhnehaaGreatZag
import Derived.Test.YthlkmffimhnehaaGreatZae
set_option linter.unusedSimpArgs false
set_option linter.unusedVariables false
namespace Go.Ab
noncomputable section
open Go.Ev
open Classical
variable {ρ ρ' ca : cz} {T : TT} {F : ai} {σ : Sub} {own tg : Nat → Prop} {S : Sy} {tm : Tr AV} {st ae : St} {x : Option AV} {nx : Nat} {hp dZ : List uq} {ar x8 : List yg} {live hY : List Nat}
structure Start (T:TT) (k:fS) (ρ:cz) (args:List AV) (st:St):Prop where
 args:args=k.args.map (SE.ev ρ)
 mem:bA ρ (fun _=>True) k.hp k.ar k.live st
 facts:∀ f∈k.facts,Fact.ev T ρ f
def ow (k:fS) (ρ:cz) (st:St) (key:Nat):Prop:=key∈bj ρ k.hp k.ar\/(∃ n∈k.live,cG (ρ n)=some key)\/st.next<=key
structure Vw (T:TT) (k:fS) (ρ:cz) (st:St) (v:AV) (ae:St):Prop where
 fr:Fr (ow k ρ st) st ae
 post:∃ p∈k.ny,∃ ρ',aj ρ ρ' k.np/\v=jJ (p.res.map (SE.ev ρ'))/\bA ρ' (ow k ρ st) p.hp p.ar p.live ae/\∀ f∈p.facts,Fact.ev T ρ' f
def sN (E:Env) (P:Nat->(Nat->List AV->St->Option (AV × St))->Prop):Prop:=∃ n0,∀ ag d,n0<=ag->n0<=d->P ag (ao E ag d)
def Ev (E:Env) (f:Nat) (args:List AV) (st:St) (v:AV) (ae:St):Prop:=sN E fun _ call=>call f args st=some (v,ae)
theorem sN.mono {E:Env} {P Q:Nat->(Nat->List AV->St->Option (AV × St))->Prop} (h:sN E P) (hq:∀ ag call,P ag call->Q ag call):sN E Q:=by
 obtain⟨n,hn⟩:=h; exact⟨n,fun ag d h1 h2=>hq ag _ (hn ag d h1 h2)⟩
theorem sN.all {E:Env} {P:Nat->(Nat->List AV->St->Option (AV × St))->Prop} (h:∀ ag call,P ag call):sN E P:=⟨0,fun ag d _ _=>h ag _⟩
theorem sN.and {E:Env} {P Q:Nat->(Nat->List AV->St->Option (AV × St))->Prop} (h:sN E P) (h':sN E Q):sN E fun ag call=>P ag call/\Q ag call:=by
 obtain⟨n,hn⟩:=h;obtain⟨m,hm⟩:=h';exact⟨max n m,fun ag d h1 h2=>⟨hn ag d (by omega) (by omega),hm ag d (by omega) (by omega)⟩⟩
def lF (E:Env) (T:TT) (f:Nat) (k:fS) (ρ:cz):Prop:=∀ args st,Start T k ρ args st->∃ v ae,Ev E f args st v ae/\Vw T k ρ st v ae
def kP (E:Env) (C:Cx) (m0:Int):Prop:=∀ f k,k∈C.K f->nw C.T k=true/\∀ ρ,(Nat.beq k.lz C.lz=true->0<=k.dE.ev ρ/\k.dE.ev ρ<m0)->lF E C.T f k ρ
theorem bA.IQ (h:bA ρ own hp ar live st) (hw:∀ k,own k->tg k):bA ρ tg hp ar live st:=by
 refine⟨fun p dZ=>?_,fun p dZ=>?_,fun n hn=>?_,h.keys,h.rq⟩
 ·obtain⟨a,b,c⟩:=h.qM p dZ; exact⟨hw _ a,b,c⟩
 ·obtain⟨a,b,c⟩:=h.uU p dZ; exact⟨hw _ a,b,c⟩
 ·rcases h.nz n hn with q |⟨s,es,q |⟨id,q,q1,q2⟩⟩
  ·exact .inl q
  ·exact .inr ⟨s,es,.inl q⟩
  ·exact .inr ⟨s,es,.inr ⟨id,q,hw _ q1,q2⟩⟩
theorem Fr.IQ (h:Fr own st ae) (hw:∀ k,own k->tg k):Fr tg st ae:=⟨h.next,fun k hk=>h.same k fun q=>hk (hw k q)⟩
theorem dQ {α:Type} {ks:List Nat} {l:List (Nat × α)}:List.Sublist (fR ks l) l:=by
 unfold fR
 induction ks generalizing l with
 |nil=>exact List.Sublist.refl _
 |cons k t ih=>exact(ih (l:=Ab.fZ l k)).trans iR
theorem tW {α:Type} {ks:List Nat} {l:List (Nat × α)} {p:Nat × α} (h:p∈fR ks l):p.1∉ks:=by
 unfold fR at h
 induction ks generalizing l with
 |nil=>intro q; cases q
 |cons k t ih =>
  intro q;have h:p∈bm (fun l k=>Ab.fZ l k) t (Ab.fZ l k):=h
  cases q with
  |head=>exact xP ((dQ (ks:=t)).subset h) rfl
  |tail _ q=>exact ih h q
theorem mr {ks l:List Nat}:List.Sublist (bm (fun l n=>lM n l) ks l) l:=by
 induction ks generalizing l with
 |nil=>exact List.Sublist.refl _
 |cons k t ih=>exact(ih (l:=lM k l)).trans xO
theorem DA {ks l:List Nat} {p:Nat} (h:p∈bm (fun l n=>lM n l) ks l):p∉ks:=by
 induction ks generalizing l with
 |nil=>intro q; cases q
 |cons k t ih =>
  intro q;have h:p∈bm (fun l n=>lM n l) t (lM k l):=h
  cases q with
  |head=>exact H8 ((mr (ks:=t)).subset h) rfl
  |tail _ q=>exact ih h q
theorem cw {α β:Type} {f:α->Option (List β)}:∀ {l:List α} {r:List β},fE f l=some r->∀ a∈l,∃ s,f a=some s/\∀ b∈s,b∈r:=by
 intro l
 induction l with
 |nil=>intro r _ a ha; cases ha
 |cons a t ih =>
  intro r h c hc;have h:(Option.rec none (fun b=>Option.rec none (fun t=>some (b++t)) (fE f t)) (f a):Option (List β))=some r:=h
  cases h1:f a with
  |none=>rw[h1] at h; cases h
  |some b =>
   rw[h1] at h;have h:(Option.rec none (fun t=>some (b++t)) (fE f t):Option (List β))=some r:=h
   cases h2:fE f t with
   |none=>rw[h2] at h; cases h
   |some s =>
    rw[h2] at h;have h:some (b++s)=some r:=h;cases h;cases hc with
    |head=>exact⟨b,h1,fun x hx=>ku.2 (.inl hx)⟩
    |tail _ hc =>
     obtain⟨s',q1,q2⟩:=ih h2 c hc;exact⟨s',q1,fun x hx=>ku.2 (.inr (q2 x hx))⟩
theorem G1 (l:List SE):(EH l).ev ρ=jJ (l.map (SE.ev ρ)):=by
 unfold EH;split
 ·rfl
 ·rename_i h
  cases l with
  |nil=>rfl
  |cons a t=>cases t with
   |nil=>exact absurd rfl (h a)
   |cons b t=>rfl
theorem I7 {l l':List uq} (h:dO (B0 σ) l=some l') (hm:∀ p∈l,vd (σ.val ρ) own st p):(∀ p∈l',vd ρ own st p)/\l'.map (fun p=>aT ρ p.1)=l.map (fun p=>aT (σ.val ρ) p.1):=by
 have key:∀ a b,B0 σ a=some b->aT ρ b.1=aT (σ.val ρ) a.1/\(vd (σ.val ρ) own st a->vd ρ own st b):=by
  intro a b Q1;unfold B0 at Q1;split at Q1
  ·rename_i m w cs h1 h2 h3
   cases Q1
   have ek:=rS (ρ:=ρ) h1;refine⟨ek.symm,fun⟨a1,a2,a3⟩=>⟨by rw[ek] at a1; exact a1,by rw[ek] at a2; exact a2,?_⟩⟩
   rw[ek] at a3;have ev:dD (σ.val ρ) a.2.1=dD ρ w:=by
    unfold dD;show(intOf ((σ a.2.1).ev ρ)).toNat=_
    rw[h2]; rfl
   rw[ev,<-fW (fun x y q=>SA.bG (ρ:=ρ) q) h3] at a3
   exact a3
  ·cases Q1
 refine⟨fun p dZ=>?_,fW (g:=fun p:uq=>aT (σ.val ρ) p.1) (h:=fun p:uq=>aT ρ p.1) (fun a b q=>(key a b q).1) h⟩
 obtain⟨h1,h2⟩:=pz h;obtain⟨j,hj,e⟩:=Cj dZ;have aO:j<l.length:=by omega
 exact(key l[j] p (h2 j _ _ (ey aO) (by rw[<-e]; exact ey hj))).2 (hm _ (nN aO))
theorem I9 {l l':List yg} (h:dO (B1 σ) l=some l') (hm:∀ p∈l,vg (σ.val ρ) own st p):(∀ p∈l',vg ρ own st p)/\l'.map (fun p=>aT ρ p.1)=l.map (fun p=>aT (σ.val ρ) p.1):=by
 have key:∀ a b,B1 σ a=some b->aT ρ b.1=aT (σ.val ρ) a.1/\(vg (σ.val ρ) own st a->vg ρ own st b):=by
  intro a b Q1;have gen:∀ m w v,nA σ a.1=some m->σ a.2.1 = .var w->bN ((σ a.2.2.1).ev ρ)=bN (ρ v)->b=(m,w,v,a.2.2.2)->aT ρ b.1=aT (σ.val ρ) a.1/\(vg (σ.val ρ) own st a->vg ρ own st b):=by
   intro m w v h1 h2 h3 hb;subst hb;have ek:=rS (ρ:=ρ) h1;refine⟨ek.symm,fun⟨a1,a2,es,aN,a3,a4,a5⟩=>⟨by rw[ek] at a1; exact a1,by rw[ek] at a2; exact a2,es,aN,?_,a4,?_⟩⟩
   ·show bN (ρ v)=_; rw[<-h3]; exact a3
   ·rw[ek] at a5
    have ev:dD (σ.val ρ) a.2.1=dD ρ w:=by
     unfold dD;show(intOf ((σ a.2.1).ev ρ)).toNat=_
     rw[h2]; rfl
    rw[ev] at a5; exact a5
  unfold B1 at Q1;split at Q1
  ·rename_i m w v h1 h2 h3
   cases Q1
   exact gen m w v h1 h2 (by rw[h3]; exact jR _) rfl
  ·rename_i m w v h1 h2 h3
   cases Q1
   exact gen m w v h1 h2 (by rw[h3]; rfl) rfl
  ·cases Q1
 refine⟨fun p dZ=>?_,fW (g:=fun p:yg=>aT (σ.val ρ) p.1) (h:=fun p:yg=>aT ρ p.1) (fun a b q=>(key a b q).1) h⟩
 obtain⟨h1,h2⟩:=pz h;obtain⟨j,hj,e⟩:=Cj dZ;have aO:j<l.length:=by omega
 exact(key l[j] p (h2 j _ _ (ey aO) (by rw[<-e]; exact ey hj))).2 (hm _ (nN aO))
theorem yO {a a':List uq} {b b':List yg} {c c':List Nat} (h1:dO (B0 σ) a=some a') (h2:dO (B1 σ) b=some b') (h3:fe σ c=some c') (h:bA (σ.val ρ) own a b c st):bA ρ own a' b' c' st:=by
 obtain⟨p1,p2⟩:=I7 h1 h.qM;obtain⟨q1,q2⟩:=I9 h2 h.uU;refine⟨p1,q1,fun m hm=>?_,?_,AL h3 h.rq⟩
 ·obtain⟨n,hn,q⟩:=uG h3 m hm
  rw[<-(lr q).1]; exact h.nz n hn
 ·unfold bj
  rw[p2,q2]; exact h.keys
theorem K3 {E:Env} {C:Cx} {m0:Int} {f:Nat} {k:fS} (hC:kP E C m0) (hk:k∈C.K f) (h:Sat C.T own ρ S tm st) (hm:∀ ρ',aj ρ ρ' S.nx->C.dE.ev ρ'<=m0) {xs:List SE} {l:List (SV × Sy)} (hl:Bs C S xs k=some l) :
  ∃ w ae,Ev E f (xs.map (SE.ev ρ)) st w ae/\Uq C.T own ρ S tm st l w ae:=by
 obtain⟨pD,hkeep⟩:=hC f k hk;unfold Bs at hl
 generalize hσ:Io S k xs=σ at hl
 simp only at hl;split at hl
 ·rename_i hs bh ls e1 e2 e3
  have gd:∀ {b:Bool} {r:Option (List (SV × Sy))},br b r=some l->b=true/\r=some l:=by
   intro b r q;cases b with
   |false=>cases q
   |true=>exact⟨rfl,q⟩
  obtain⟨g,Xy⟩:=gd hl;obtain⟨g1,g⟩:=ad g;obtain⟨g2,g⟩:=ad g;obtain⟨g3,g⟩:=ad g;obtain⟨g4,g⟩:=ad g;obtain⟨g5,g⟩:=ad g;obtain⟨g6,g⟩:=ad g;obtain⟨g7,g⟩:=ad g;obtain⟨g8,g9⟩:=ad g;have h0:=h.here;have cn:bA (σ.val ρ) own k.hp k.ar k.live st:=wB h0 g2 g3 g6 e1 e2 g4 g5;have Fo:Start C.T k (σ.val ρ) (xs.map (SE.ev ρ)) st:=by
   refine⟨?_,cn.IQ fun _ _=>trivial,fun f hf=>td h0.fs (aB g8 f hf)⟩
   exact(rQ (fun a b q=>pg h0.fs q) g1).symm
  have hmeas:Nat.beq k.lz C.lz=true->0<=k.dE.ev (σ.val ρ)/\k.dE.ev (σ.val ρ)<m0:=by
   intro hb;have g9:(Bool.rec true (Option.rec false (fun m=>aq (bV S.F m) (bV S.F ((af.add C.dE (-1) m).plus (-1)))) (k.dE.sub σ)) (Nat.beq k.lz C.lz):Bool)=true:=g9
   rw[hb] at g9;cases hms:k.dE.sub σ with
   |none=>rw[hms] at g9; cases g9
   |some m =>
    rw[hms] at g9;obtain⟨q1,q2⟩:=ad (show aq (bV S.F m) (bV S.F ((af.add C.dE (-1) m).plus (-1)))=true from g9)
    have q1:=aW h0.fs q1;have q2:=aW h0.fs q2;rw[af.bf,af.aP] at q2;have:=hm ρ (aj.refl _ _);rw[<-af.bG hms];omega
  obtain⟨w,ae,jw,pX,p,hp,ρc,ha,hw,hpm,Oo⟩:=hkeep (σ.val ρ) hmeas _ st Fo;refine⟨w,ae,jw,?_⟩
  have Oq:∀ key,ow k (σ.val ρ) st key->own key:=by
   intro key q;rcases q with q |⟨n,hn,q⟩ |q
   ·exact cn.JK q
   ·exact(cn.aN hn q).1
   ·exact h.fresh key q
  have Xm:Fr own st ae:=pX.IQ Oq;refine⟨Xm,?_⟩
  obtain⟨rp,CZ,bH⟩:=cw Xy p hp;unfold Cu at CZ;simp only at CZ;split at CZ
  ·rename_i r dZ x8 lv q1 q2 q3 q4
   obtain⟨ρ1,hρ1⟩:∃ ρ1:cz,ρ1=fun j=>if j<S.nx then ρ j else ρc (k.np+(j-S.nx)):=⟨_,rfl⟩
   have gP:aj ρ ρ1 S.nx:=fun j hj=>by rw[hρ1]; simp[hj]
   have hval:∀ ca,aj ρ1 ca (S.nx+p.nv)->aj ρc ((gY k.np S.nx σ).val ca) (k.np+p.nv):=by
    intro ca hq n hn;show((gY k.np S.nx σ) n).ev ca=ρc n
    unfold gY;cases hb:Nat.blt n k.np with
    |true =>
     have aO:=bO hb;show(σ n).ev ca=_
     rw[oe (gP.trans (hq.le (by omega))) (aB g7 n (tb.2 aO))]
     exact(ha n aO).symm
    |false =>
     have OJ:¬ n<k.np:=fun q=>by
      have:Nat.blt n k.np=true:=by rw[Nat.blt_eq]; exact q
      rw[this] at hb; cases hb
     show ca (S.nx+(n-k.np))=_
     rw[hq _ (by omega),hρ1]
     show(if S.nx+(n-k.np)<S.nx then _ else _)=_
     rw[ba (by omega)]
     congr 1; omega
   have W4:EC C.T k.np p=true:=by
    obtain⟨_,c⟩:=ad pD;obtain⟨_,c⟩:=ad c;obtain⟨_,c⟩:=ad c;obtain⟨_,c⟩:=ad c;obtain⟨_,c⟩:=ad c;obtain⟨_,c⟩:=ad c;exact aB c p hp
   obtain⟨c1,c⟩:=ad W4;obtain⟨c2,c⟩:=ad c;obtain⟨c3,c⟩:=ad c;obtain⟨c4,c5⟩:=ad c;obtain⟨G,hG,_⟩:=sJ (T:=C.T) (σ:=gY k.np S.nx σ) (l:=p.facts) (h.lQ ρ1 gP).fs (pn (hval ρ1 (aj.refl _ _)) c5 Oo);rw[hG] at CZ;have CZ:some [(EH r,{S with hp:=dZ++fR hs S.hp,ar:=x8++fR bh S.ar,live:=lv++bm (fun l n=>lM n l) ls S.live,F:=G,nx:=S.nx+p.nv })]=some rp:=CZ
   cases CZ
   refine⟨_,bH _ (.head _),ρ1,gP,lJ _ _,⟨fun ca hq=>?_,fun key kW=>h.fresh key (lS pX.next kW)⟩,fun ca hq=>?_⟩
   ·have h2:=h.lQ ca (gP.trans (hq.le (lJ _ _)))
    have hv:=hval ca hq;have jV:bA ca (ow k (σ.val ρ) st) dZ x8 lv ae:=yO q2 q3 q4 (hpm.agree hv c2 c3 c4);have i1:∀ m∈hs,∃ q,(m,q)∈S.hp:=tw h0 g2 e1;have i2:∀ m∈bh,∃ q,(m,q)∈S.ar:=qG h0 g3 e2;have hpatK:bj (σ.val ρ) k.hp k.ar=hs.map (aT ρ)++bh.map (aT ρ):=by unfold bj; rw[ff e1,ff e2]
    have Ft:bj (σ.val ρ) k.hp k.ar=hs.map (aT ca)++bh.map (aT ca):=by
     have:bj (σ.val ρ) k.hp k.ar=bj (σ.val ca) k.hp k.ar:=by
      have O0:aj (σ.val ρ) (σ.val ca) k.np:=fun n hn=>oe (gP.trans (hq.le (lJ _ _))) (aB g7 n (tb.2 hn))
      obtain⟨_,d⟩:=ad pD;obtain⟨d1,d⟩:=ad d;obtain⟨d2,_⟩:=ad d;unfold bj aT
      congr 1
      ·exact wo fun p dZ=>by rw[O0 _ (bO (ad (aB d1 p dZ)).1)]
      ·exact wo fun p dZ=>by rw[O0 _ (bO (ad (aB d2 p dZ)).1)]
     rw[this]; unfold bj; rw[ff e1,ff e2]
    have qQ:∀ key,key∈bj (σ.val ρ) k.hp k.ar->∃ v cs,st.heap.get key=some (.box v cs):=fun key q=>cn.CR q
    have jD:∀ n∈k.live,∀ id,cG (σ.val ρ n)=some id->st.heap.get id=some .aN:=fun n hn id q=>(cn.aN hn q).2.2
    have wF:∀ key,key∈bj ca (fR hs S.hp) (fR bh S.ar)->¬ ow k (σ.val ρ) st key:=by
     intro key kW q;have ze:key∈bj ca S.hp S.ar:=(pA dQ dQ).subset kW;rcases q with q |⟨n,hn,q⟩ |q
     ·rw[Ft] at q
      rcases mem_keys.1 kW with⟨p',dZ,e⟩ |⟨p',dZ,e⟩
      ·have UX:p'∈S.hp:=dQ.subset dZ
       rcases ku.1 q with q |q
       ·obtain⟨m,gO,e'⟩:=fD.1 q
        have:=wN h2.mem (i1 m gO) ⟨p'.2,UX⟩ (e'.trans e.symm);exact tW dZ (by rw[<-this]; exact gO)
       ·obtain⟨m,gO,e'⟩:=fD.1 q
        exact mO h2.mem ⟨p'.2,UX⟩ (i2 m gO) (e.trans e'.symm)
      ·have UX:p'∈S.ar:=dQ.subset dZ
       rcases ku.1 q with q |q
       ·obtain⟨m,gO,e'⟩:=fD.1 q
        exact mO h2.mem (i1 m gO) ⟨p'.2,UX⟩ (e'.trans e.symm)
       ·obtain⟨m,gO,e'⟩:=fD.1 q
        have:=y7 h2.mem (i2 m gO) ⟨p'.2,UX⟩ (e'.trans e.symm);exact tW dZ (by rw[<-this]; exact gO)
     ·obtain⟨v,cs,hb⟩:=h2.mem.CR ze
      have:=jD n hn key q;rw[hb] at this; cases this
     ·have:=h2.mem.lt ze; omega
    have Xe:∀ n∈k.live,∀ id,cG (σ.val ρ n)=some id->∃ m∈ls,cG (ca m)=some id:=by
     intro n hn id q;have yk:n<k.np:=by
      obtain⟨_,d⟩:=ad pD;obtain⟨_,d⟩:=ad d;obtain⟨_,d⟩:=ad d;obtain⟨d,_⟩:=ad d;exact bO (aB d n hn)
     rcases mN e3 n hn with r |⟨m,gO,r⟩
     ·unfold Sub.val at q; rw[r] at q; cases q
     ·refine⟨m,gO,?_⟩
      have h5:(σ n).ev ca=(σ n).ev ρ:=oe (gP.trans (hq.le (lJ _ _))) (aB g7 n (tb.2 yk));rw[<-(lr (σ:=σ) r).2];show cG ((σ n).ev ca)=_
      rw[h5]; exact q
    have Xd:∀ m∈ls,m∈S.live:=by
     have g6:(Option.rec false (fun t=>aq (iG t) (subset t S.live)) (fe σ k.live):Bool)=true:=g6
     rw[e3] at g6;intro m gO;exact py (aB (ad (show aq (iG ls) (subset ls S.live)=true from g6)).2 m gO)
    have rN:∀ n∈bm (fun l n=>lM n l) ls S.live,∀ id,cG (ca n)=some id->¬ ow k (σ.val ρ) st id:=by
     intro n hn id hid q;have hnS:n∈S.live:=mr.subset hn;obtain⟨_,t1,t2⟩:=h2.mem.aN hnS hid;rcases q with q |⟨n',yk,q⟩ |q
     ·obtain⟨v,cs,hb⟩:=qQ id q
      rw[hb] at t2; cases t2
     ·obtain⟨m,gO,e⟩:=Xe n' yk id q
      exact vj h2.mem.rq hnS (Xd m gO) (fun e=>DA hn (by rw[e]; exact gO)) hid e
     ·omega
    have hold:bA ca own (fR hs S.hp) (fR bh S.ar) (bm (fun l n=>lM n l) ls S.live) ae:=by
     refine(h2.mem.sub dQ dQ mr).cI pX.next (fun key kW=>pX.same key (wF key kW)) (fun n hn id hid=>pX.same id (rN n hn id hid))
    refine⟨fun j u hu=>h2.sl j u hu,(jV.IQ Oq).app hold (fun key kW q=>wF key q (jV.JK kW)) (fun n hn m gO id hid q=>rN m gO id q ((jV.aN hn hid).1)),?_⟩
    obtain⟨G',hG',O2⟩:=sJ (T:=C.T) (σ:=gY k.np S.nx σ) (l:=p.facts) h2.fs (pn hv c5 Oo);rw[hG] at hG'; cases hG';exact O2
   ·have hv:=hval ca hq
    rw[hw];show _=(EH r).ev ca
    rw[G1,fW (fun a b q=>SE.bG (ρ:=ca) q) q1]
    rw[vl hv c1]
  ·cases CZ
 ·cases hl
end
end Go.Ab
namespace Go.Ab
noncomputable section
open Go.Ev
open Classical
variable {ρ ρ' ca : cz} {T : TT} {F : ai} {σ : Sub} {own tg : Nat → Prop} {S : Sy} {tm ay : Tr AV} {st ae : St} {x : Option AV} {nx : Nat} {hp dZ : List uq} {ar x8 : List yg} {live hY : List Nat} {E : Env} {C : Cx} {m0 : Int}
abbrev e8:=Nat->List AV->St->Option (AV × St)
def Out (T:TT) (own:Nat->Prop) (ρ:cz) (nx:Nat) (st:St) (ay:Tr AV) (ae:St) (l:List Sy):Prop :=
 Fr own st ae/\∃ S'∈l,∃ ρ',aj ρ ρ' nx/\nx<=S'.nx/\Sat T own ρ' S' ay ae
theorem Sat.set (h:Sat T own ρ S tm st) {d:Option Nat} {v:SV} {w:AV} (hv:∀ ρ',aj ρ ρ' S.nx->w=v.ev ρ'):Sat T own ρ (ry S d v) (eH tm d w) st:=by
 cases d with
 |none=>exact h
 |some d =>
  refine⟨fun ρ' ha=>?_,h.fresh⟩
  have h':=h.lQ ρ' ha;refine⟨fun k u hu=>?_,h'.mem,h'.fs⟩
  have hu:(S.sl.set d v).get k=some u:=hu;show(tm.set d w).get k=_
  rw[Tr.cb] at hu ⊢
  by_cases e:k=d
  ·rw[bJ e] at hu ⊢; cases hu; rw[hv ρ' ha]
  ·rw[ba e] at hu ⊢; exact h'.sl k u hu
theorem CH {α β:Type} {f:α->Option β} {l:List α} {r:List β} (h:dO f l=some r) {a:α} (ha:a∈l):∃ b,f a=some b/\b∈r:=by
 obtain⟨h1,h2⟩:=pz h;obtain⟨j,hj,e⟩:=Cj ha;have aO:j<r.length:=by omega
 exact⟨r[j],h2 j a _ (by rw[<-e]; exact ey hj) (ey aO),nN aO⟩
theorem kdec (b:Bool):decide (BF.ev ρ (.k b))=b:=by cases b<;>simp[BF.ev]
theorem AF {p q:Bool × Sy} {l:List (Bool × Sy)} (h:q∈l\/(q=p/\p.2.F.bad=false)):q∈okS p l:=by
 show q∈(Bool.rec (p::l) l p.2.F.bad:List (Bool × Sy))
 rcases h with h |⟨h,hb⟩
 ·cases p.2.F.bad with
  |true=>exact h
  |false=>exact .tail _ h
 ·rw[hb,h]; exact .head _
theorem xz (h:Sat T own ρ S tm st) {f:BF} {b:Bool} (hf:∀ ρ',aj ρ ρ' S.nx->decide (f.ev ρ')=b):∃ p∈xA T S f,p.1=b/\p.2.nx=S.nx/\p.2.sl=S.sl/\Sat T own ρ p.2 tm st:=by
 have h0:=h.here;have jx:=hf ρ (aj.refl _ _);show ∃ p∈(Bool.rec (Bool.rec (okS (true,{S with F:=assume T S.F f true }) (okS (false,{S with F:=assume T S.F f false }) [])) [(false,S)] (f.pr (S.F.Ep 3) false)) [(true,S)] (f.pr (S.F.Ep 3) true):List (Bool × Sy)),_
 cases h1:f.pr (S.F.Ep 3) true with
 |true =>
  have:=mH (h0.fs.Ep 3) h1;exact⟨(true,S),.head _,by rw[<-jx]; simp[this],rfl,rfl,h⟩
 |false =>
  cases h2:f.pr (S.F.Ep 3) false with
  |true =>
   have:=mb (h0.fs.Ep 3) h2;exact⟨(false,S),.head _,by rw[<-jx]; simp[this],rfl,rfl,h⟩
  |false =>
   have hG:∀ ρ',aj ρ ρ' S.nx->Good T ρ' (assume T S.F f b):=by
    intro ρ' ha;have:=hf ρ' ha;refine zM (h.lQ ρ' ha).fs ?_
    cases b with
    |true=>simpa using this
    |false=>simpa using this
   have hS:Sat T own ρ {S with F:=assume T S.F f b } tm st:=⟨fun ρ' ha=>⟨(h.lQ ρ' ha).sl,(h.lQ ρ' ha).mem,hG ρ' ha⟩,h.fresh⟩
   have hbad:=(hG ρ (aj.refl _ _)).bad;refine⟨(b,{S with F:=assume T S.F f b }),?_,rfl,rfl,rfl,hS⟩
   cases b with
   |true=>exact AF (.inr ⟨rfl,hbad⟩)
   |false=>exact AF (.inl (AF (.inr ⟨rfl,hbad⟩)))
theorem sj (h:Sat T own ρ S tm st) {x:XO} {f:BF} (hx:mo S x=some (.bl f)):∃ b,aD tm x = .bool b/\∃ p∈uM T S x f,p.1=b/\p.2.nx=S.nx/\Sat T own ρ p.2 tm st:=by
 have hv:∀ ρ',aj ρ ρ' S.nx->aD tm x = .bool (decide (f.ev ρ')):=fun ρ' ha=>bS (h.lQ ρ' ha) hx
 have hf:∀ ρ',aj ρ ρ' S.nx->decide (f.ev ρ')=decide (f.ev ρ):=by
  intro ρ' ha;have:=(hv ρ' ha).symm.trans (hv ρ (aj.refl _ _));injection this
 refine⟨decide (f.ev ρ),hv ρ (aj.refl _ _),?_⟩
 have gen:∃ p∈(xA T S f).map (V8 x),p.1=decide (f.ev ρ)/\p.2.nx=S.nx/\Sat T own ρ p.2 tm st:=by
  obtain⟨p,hp,h1,h2,h3,h4⟩:=xz h hf;refine⟨V8 x p,fD.2 ⟨p,hp,rfl⟩,?_⟩
  cases x with
  |c v=>exact⟨h1,h2,h4⟩
  |t n =>
   refine⟨h1,h2,⟨fun ρ' ha=>?_,h4.fresh⟩⟩
   have u4:aj ρ ρ' S.nx:=by rw[<-h2]; exact ha
   have h5:=h4.lQ ρ' ha;refine⟨fun k u hu=>?_,h5.mem,h5.fs⟩
   have hu:(p.2.sl.set n (.e (.a (.bl (.k p.1))))).get k=some u:=hu;rw[Tr.cb] at hu
   by_cases e:k=n
   ·rw[bJ e] at hu
    cases hu
    rw[e];have hs:S.sl.get n=some (.e (.a (.bl f))):=by
     unfold mo at hx;split at hx
     ·rename_i y hy; cases hx; exact hy
     ·cases hx
    have:=(h.lQ ρ' u4).sl n _ hs;rw[this];show some (AV.bool (decide (f.ev ρ')))=some (AV.bool (decide (BF.ev ρ' (.k p.1))))
    rw[hf ρ' u4,kdec,h1]
   ·rw[ba e] at hu; exact h5.sl k u hu
 unfold uM;split
 ·rename_i b
  refine⟨(b,S),.head _,?_,rfl,h⟩
  show b=decide (BF.ev ρ (.k b))
  rw[kdec]
 ·exact gen
theorem HR (h:cp T own ρ S tm st):∀ {l:List XO} {vs:List SV} {xs:List SE},dO (rf S) l=some vs->Gi vs=some xs->nR tm l=xs.map (SE.ev ρ):=by
 intro l
 induction l with
 |nil=>intro vs xs h1 h2; have h1:some []=some vs:=h1; cases h1; have h2:some []=some xs:=h2; cases h2; rfl
 |cons a t ih =>
  intro vs xs h1 h2;have h1:(Option.rec none (fun b=>Option.rec none (fun t=>some (b::t)) (dO (rf S) t)) (rf S a):Option (List SV))=some vs:=h1
  cases ha:rf S a with
  |none=>rw[ha] at h1; cases h1
  |some v =>
   rw[ha] at h1;have h1:(Option.rec none (fun t=>some (v::t)) (dO (rf S) t):Option (List SV))=some vs:=h1
   cases ht:dO (rf S) t with
   |none=>rw[ht] at h1; cases h1
   |some ws =>
    rw[ht] at h1;have h1:some (v::ws)=some vs:=h1;cases h1;have h2:(Option.rec none (fun b=>Option.rec none (fun t=>some (b::t)) (Gi ws)) (match v with | .e x=>some x |_=>none):Option (List SE))=some xs:=h2
    cases v with
    |e y =>
     have h2:(Option.rec none (fun t=>some (y::t)) (Gi ws):Option (List SE))=some xs:=h2
     cases hw:Gi ws with
     |none=>rw[hw] at h2; cases h2
     |some ys =>
      rw[hw] at h2;have h2:some (y::ys)=some xs:=h2;cases h2;show aD tm a::nR tm t=_
      rw[cq h ha,ih ht hw]; rfl
    |_=>cases h2
theorem T6 (hC:kP E C m0) (h:Sat C.T own ρ S tm st) (hm:∀ ρ',aj ρ ρ' S.nx->C.dE.ev ρ'<=m0) {cV:List Nat} {f:XO} {args:List XO} {l:List (SV × Sy)} (hl:u6 C S cV (xW C S) (.call f args)=some l) :
  ∃ w ae,sN E (fun _ call=>Vs call st tm f args=some (w,ae))/\Uq C.T own ρ S tm st l w ae:=by
 simp only[u6] at hl;split at hl
 ·rename_i g vs hf Hu
  unfold xW at hl;cases hx:Gi vs with
  |none=>rw[hx] at hl; cases hl
  |some xs =>
   rw[hx] at hl;obtain⟨k,hk,hap⟩:=jo (show cX (Bs C S xs) (C.K g)=some l from hl)
   obtain⟨w,ae,jw,her⟩:=K3 hC hk h hm hap;refine⟨w,ae,jw.mono fun ag call hc=>?_,her⟩
   show uu call st (aD tm f) (nR tm args)=_
   rw[cq h.here hf,HR h.here Hu hx];show call g ([]++xs.map (SE.ev ρ)++[]) st=_
   rw[EV,List.append_nil]; exact hc
 ·cases hl
theorem Nl (h:Sat T own ρ S tm st) {d:Option Nat} {r:PR} {x:Option AV} {l:List Sy} (hr:aL T ρ S.nx r x) (hl:ofP S d r=some l):∃ w,x=some w/\Out T own ρ S.nx st (eH tm d w) st l:=by
 unfold ofP at hl;cases r with
 |none=>cases hl
 |some p =>
  obtain⟨v,F,n,lv⟩:=p;have hl:some [ry {S with F:=F,nx:=S.nx+n,live:=lv++S.live } d v]=some l:=hl
  cases hl
  obtain⟨w,ρ',hx,ha,hn⟩:=hr v F n lv rfl;refine⟨w,hx,Fr.refl _ _,_,.head _,ρ',ha,?_,Sat.set (S:={S with F:=F,nx:=S.nx+n,live:=lv++S.live }) ⟨fun ca u4=>?_,h.fresh⟩ fun ca u4=>(hn ca u4).1⟩
  ·cases d<;>exact lJ _ _
  ·have h':=h.lQ ca (ha.trans (u4.le (lJ _ _)))
   obtain⟨_,h2,h3⟩:=hn ca u4;refine⟨h'.sl,?_,h2⟩
   have jV:bA ca own [] [] lv st:=by
    refine⟨fun p hp=>(by cases hp),fun p hp=>(by cases hp),fun m hm=>?_,by simp[bj],?_⟩
    ·obtain⟨_,s,es,e⟩:=h3 m hm
     rw[e]; exact .inr ⟨s,es,.inl rfl⟩
    ·have:∀ l:List Nat,(∀ m∈l,∃ s es,ca m = .sl s es .full)->kp ca l:=by
      intro l
      induction l with
      |nil=>intro _; exact .nil
      |cons a t ih =>
       intro hl;refine List.Pairwise.cons (fun m hm id hid=>?_) (ih fun m hm=>hl m (.tail _ hm))
       obtain⟨s,es,e⟩:=hl a (.head _);rw[e] at hid; cases hid
     exact this lv fun m hm=>(h3 m hm).2
   refine jV.app h'.mem (fun k hk=>by simp[bj] at hk) (fun m hm j hj id hid=>?_)
   obtain⟨_,s,es,e⟩:=h3 m hm;rw[e] at hid; cases hid
theorem Nn (h:Sat T own ρ S tm st) {d:Option Nat} {r:List (SV × Sy)} {w:AV} {l:List Sy} (hr:Uq T own ρ S tm st r w ae) (hl:ofE d (some r)=some l):Out T own ρ S.nx st (eH tm d w) ae l:=by
 obtain⟨fr,p,hp,ρ',ha,vC,hS,hv⟩:=hr;have hl:some (r.map fun p=>ry p.2 d p.1)=some l:=hl
 cases hl
 refine⟨fr,_,fD.2 ⟨p,hp,rfl⟩,ρ',ha,?_,hS.set hv⟩
 cases d<;>exact vC
theorem Nk (hC:kP E C m0) (h:Sat C.T own ρ S tm st) (hm:∀ ρ',aj ρ ρ' S.nx->C.dE.ev ρ'<=m0) {d:Option Nat} {o:Iz} {l:List Sy} (hl:opS C S d o=some l) :
  ∃ v ae,sN E (fun _ call=>mY call st tm o=some (v,ae))/\Out C.T own ρ S.nx st (eH tm d v) ae l:=by
 have pure:∀ (o':XP) ,ofP S d (jr C S (xV C d) o')=some l->∃ v ae,sN E (fun _ call=>mY call st tm (.p o')=some (v,ae))/\Out C.T own ρ S.nx st (eH tm d v) ae l:=by
  intro o' hl;obtain⟨w,hx,ho⟩:=Nl h (TZ h o') hl;refine⟨w,st,sN.all fun ag call=>?_,ho⟩
  show rM st (mw tm o')=_
  rw[hx]; rfl
 cases o with
 |p o =>
  cases o with
  |pick c a b =>
   simp only[opS] at hl;split at hl
   ·rename_i f hc
    obtain⟨t,ht,p,hp,h1,h2,h3⟩:=sj h hc;unfold UG at hl;obtain⟨S',iP,cn⟩:=CH hl hp;rw[h1] at iP;cases hv:rf p.2 (Bool.rec b a t) with
    |none=>rw[hv] at iP; cases iP
    |some v =>
     rw[hv] at iP;have iP:some (ry p.2 d v)=some S':=iP;cases iP;have jw:∀ ρ',aj ρ ρ' p.2.nx->(Bool.rec (aD tm b) (aD tm a) t:AV)=v.ev ρ':=by
      intro ρ' ha;have:=cq (h3.lQ ρ' ha) hv;cases t<;>exact this
     refine⟨Bool.rec (aD tm b) (aD tm a) t,st,sN.all fun ag call=>?_,Fr.refl _ _,_,cn,ρ,aj.refl _ _,?_,h3.set jw⟩
     ·show rM st (aw (aD tm c) (aD tm a) (aD tm b))=_
      rw[ht]; rfl
     ·cases d<;>exact Nat.le_of_eq h2.symm
   ·cases hl
  |_=>exact pure _ hl
 |l o =>
  obtain⟨w,hx,ho⟩:=Nl h (T0 h o) hl;refine⟨w,st,sN.all fun ag call=>?_,ho⟩
  show rM st (KE st.heap tm o)=_
  rw[hx]; rfl
 |e o =>
  replace hl:ofE d (u6 C S (xV C d) (xW C S) o)=some l:=hl;cases hr:u6 C S (xV C d) (xW C S) o with
  |none=>rw[hr] at hl; cases hl
  |some r =>
   rw[hr] at hl;cases hc:N1 o with
   |false =>
    obtain⟨w,ae,hx,ho⟩:=T1 (call:=fun _ _ _=>none) h o hc r hr
    refine⟨w,ae,sN.all fun ag call=>?_,Nn h ho hl⟩
    have same:Yp call st tm o=Yp (fun _ _ _=>none) st tm o:=by cases o<;>first |rfl |cases hc
    show Yp call st tm o=_
    rw[same,hx]
   |true =>
    cases o with
    |call f args =>
     obtain⟨w,ae,jw,ho⟩:=T6 hC h hm hr;exact⟨w,ae,jw,Nn h ho hl⟩
    |_=>cases hc
def ru (call:e8) (o:XR) (tm:Tr AV) (st:St):Option (Tr AV × St):=match eg tm o.guard with
 |some true=>(match mY call st tm o.op with
  |some (v,ae)=>some (eH tm o.dst v,ae)
  |none=>none)
 |some false=>some (eH tm o.dst gg,st)
 |none=>none
theorem Jr {call:e8} {o:XR} {ops:List XR} {r:Tr AV × St} (h:ru call o tm st=some r):dm call (o::ops) tm st=dm call ops r.1 r.2:=by
 show p9 call (dm call ops) o tm st (eg tm o.guard)=_
 unfold ru at h;split at h
 ·rename_i hw
  split at h
  ·rename_i v ae hd
   cases h
   rw[hw];show qd (dm call ops) tm o.dst (mY call st tm o.op)=_
   rw[hd]; rfl
  ·cases h
 ·rename_i hw; cases h; rw[hw]; rfl
 ·cases h
theorem Ea:eg tm none=some true:=rfl
theorem Ye {a b:Bool}:eqB a b=(a==b):=by cases a<;>cases b<;>rfl
theorem B4 (hC:kP E C m0) (h:Sat C.T own ρ S tm st) (hm:∀ ρ',aj ρ ρ' S.nx->C.dE.ev ρ'<=m0) {o:XR} {l:List Sy} (hl:uA C S o=some l) :
  ∃ ay ae,sN E (fun _ call=>ru call o tm st=some (ay,ae))/\Out C.T own ρ S.nx st ay ae l:=by
 unfold uA at hl;split at hl
 ·rename_i hg
  obtain⟨v,ae,jw,ho⟩:=Nk hC h hm hl;refine⟨_,ae,jw.mono fun ag call hc=>?_,ho⟩
  unfold ru;rw[hg,Ea];simp only[hc]
 ·rename_i g c hg
  split at hl
  ·rename_i f hs
   have hx:mo S (.t g)=some (.bl f):=by
    show(match S.sl.get g with |some (.e (.a x))=>some x |_=>none)=_
    rw[hs]
   obtain⟨b,hb,p,hp,h1,h2,h3⟩:=sj h hx;obtain⟨r,hr,bH⟩:=cw hl p hp;have QQ:tm.get g=some (.bool b):=by
    have:=h.here.sl g _ hs;have e:aD tm (.t g)=(SV.e (.a (.bl f))).ev ρ:=by
     show(Option.rec gg (fun v=>v) (tm.get g):AV)=_
     rw[this]
    rw[this,<-e,hb]
   have hw:eg tm o.guard=some (b==c):=by rw[hg]; show uv c (tm.get g)=_; rw[QQ]; rfl
   simp only[Ye,h1] at hr;cases hbc:b==c with
   |true =>
    rw[hbc] at hr hw;have hr:opS C p.2 o.dst o.op=some r:=hr;obtain⟨v,ae,jw,fr,S',iP,ρ',ha,hn,kX⟩:=Nk hC h3 (by rw[h2]; exact hm) hr
    refine⟨_,ae,jw.mono fun ag call hc=>?_,fr,S',bH S' iP,ρ',by rw[<-h2]; exact ha,by rw[<-h2]; exact hn,kX⟩
    unfold ru;rw[hw];simp only[hc]
   |false =>
    rw[hbc] at hr hw;have hr:some [ry p.2 o.dst BR]=some r:=hr;cases hr;refine⟨eH tm o.dst gg,st,sN.all fun ag call=>?_,Fr.refl _ _,_,bH _ (.head _),ρ,aj.refl _ _,?_,h3.set fun _ _=>rfl⟩
    ·unfold ru; rw[hw]
    ·cases o.dst<;>exact Nat.le_of_eq h2.symm
  ·rename_i hs
   cases hl
   have QQ:tm.get g=some (.cv []):=h.here.sl g _ hs;refine⟨eH tm o.dst gg,st,sN.all fun ag call=>?_,Fr.refl _ _,_,.head _,ρ,aj.refl _ _,?_,h.set fun _ _=>rfl⟩
   ·have hw:eg tm o.guard=some false:=by rw[hg]; show uv c (tm.get g)=_; rw[QQ]; rfl
    unfold ru; rw[hw]
   ·cases o.dst<;>exact dN _
  ·cases hl
structure Ls (C:Cx) (m0:Int) (ρ:cz) (nx:Nat):Prop where
 le:∀ ρ',aj ρ ρ' nx->C.dE.ev ρ'<=m0
theorem Ls.next {n m:Nat} (h:Ls C m0 ρ n) (ha:aj ρ ρ' n) (hn:n<=m):Ls C m0 ρ' m:=⟨fun ca hb=>h.le ca (ha.trans (hb.le hn))⟩
theorem vm (hC:kP E C m0):∀ {ops:List XR} {S:Sy} {ρ:cz} {tm:Tr AV} {st:St} {l:List Sy},Sat C.T own ρ S tm st->Ls C m0 ρ S.nx->Cf C ops S=some l ->
  ∃ ay ae,sN E (fun _ call=>dm call ops tm st=some (ay,ae))/\Out C.T own ρ S.nx st ay ae l:=by
 intro ops
 induction ops with
 |nil =>
  intro S ρ tm st l h hm hl;have hl:some [S]=some l:=hl;cases hl;exact⟨tm,st,sN.all fun _ _=>rfl,Fr.refl _ _,S,.head _,ρ,aj.refl _ _,dN _,h⟩
 |cons o ops ih =>
  intro S ρ tm st l h hm hl;have hl:(Option.rec none (fun l=>fE (Cf C ops) l) (uA C S o):Option (List Sy))=some l:=hl
  cases hs:uA C S o with
  |none=>rw[hs] at hl; cases hl
  |some l1 =>
   rw[hs] at hl;obtain⟨dh,bY,jw,fr,S1,fP,ρ1,gP,kR,kX⟩:=B4 hC h hm.le hs;obtain⟨r,hr,bH⟩:=cw (show fE (Cf C ops) l1=some l from hl) S1 fP
   obtain⟨cB,fJ,OK,XY,S2,iO,ρ2,pH,nD,xr⟩:=ih kX (hm.next gP kR) hr;refine⟨cB,fJ,(jw.and OK).mono fun ag call hc=>?_,fr.trans XY,S2,bH S2 iO,ρ2,gP.trans (pH.le kR),lS kR nD,xr⟩
   rw[Jr hc.1]; exact hc.2
end
end Go.Ab
namespace Go.Ab
noncomputable section
open Go.Ev
open Classical
variable {ρ ρ' ca : cz} {T : TT} {F : ai} {σ : Sub} {own tg : Nat → Prop} {S : Sy} {tm ay : Tr AV} {st ae : St} {x : Option AV} {nx : Nat} {hp dZ : List uq} {ar x8 : List yg} {live hY : List Nat} {E : Env} {C : Cx} {m0 : Int}
abbrev TE:=Option (Option Nat) × Mem
structure TeOk (ρ:cz) (s:TE) (r:Option Nat × Tr dR):Prop where
 no:s.1=some none->r.1=none
 key:∀ n,s.1=some (some n)->r.1=some (aT ρ n)\/r.1=none
 bX:∀ n v,LI s.2 n=some v->fI (r.2.get (aT ρ n))=some (dD ρ v)
inductive Gn (ρ:cz):List TE->List (Option Nat × Tr dR)->Prop
 |nil:Gn ρ [] []
 |cons {s r l m}:TeOk ρ s r->Gn ρ l m->Gn ρ (s::l) (r::m)
theorem Gn.get {l:List TE} {m:List (Option Nat × Tr dR)} (h:Gn ρ l m):∀ (j:Nat) s,l[j]?=some s->∃ r,m[j]?=some r/\TeOk ρ s r:=by
 induction h with
 |nil=>intro j s hs; simp at hs
 |cons h1 h2 ih =>
  intro j s hs;cases j with
  |zero=>simp at hs; subst hs; exact⟨_,rfl,h1⟩
  |succ j=>simp at hs; obtain⟨r,hr,q⟩:=ih j s hs; exact⟨r,by simpa using hr,q⟩
theorem Gw (h:cp T own ρ S tm st) {n v:Nat} (hv:LI (S.hp,S.ar) n=some v):fI (st.heap.get (aT ρ n))=some (dD ρ v):=by
 unfold LI at hv;split at hv
 ·rename_i q hq
  cases hv
  have:=(h.mem.qM _ (mm hq)).box;rw[show st.heap.get (aT ρ n)=_ from this]; rfl
 ·split at hv
  ·rename_i q hq
   cases hv
   obtain⟨es,aN,_,_,this⟩:=(h.mem.uU _ (j6 hq)).box;rw[show st.heap.get (aT ρ n)=_ from this]; rfl
  ·cases hv
def G3 (v:Option SV):Option (Option Nat):=match v with
 |some (.e (.a (.ptr n _)))=>some (some n)
 |some (.ap n _ _ _)=>some (some n)
 |some (.ro _ _ _ _)=>some none
 |some (.e (.a (.iD (.cv _))))=>some none
 |some (.e (.a (.iD .iL)))=>some none
 |_=>none
def SM (v:AV):Option Nat:=match v with
 | .ptr key _=>some key
 |_=>none
theorem MR {v:SV}:(G3 (some v)=some none->SM (v.ev ρ)=none)/\∀ n,G3 (some v)=some (some n)->SM (v.ev ρ)=some (aT ρ n):=by
 cases v with
 |e y =>
  cases y with
  |agg cs=>exact⟨fun q=>(by cases q),fun n q=>(by cases q)⟩
  |a z =>
   cases z with
   |ptr n off=>exact⟨fun q=>(by cases q),fun m q=>(by cases q; rfl)⟩
   |iD w=>cases w<;>first |exact⟨fun _=>rfl,fun n q=>(by cases q)⟩ |exact⟨fun q=>(by cases q),fun n q=>(by cases q)⟩
   |_=>exact⟨fun q=>(by cases q),fun n q=>(by cases q)⟩
 |cv l=>exact⟨fun q=>(by cases q),fun n q=>(by cases q)⟩
 |ro cs off=>exact⟨fun _=>rfl,fun n q=>(by cases q)⟩
 |ap n i s off=>exact⟨fun q=>(by cases q),fun m q=>(by cases q; rfl)⟩
theorem Ci (h:cp T own ρ S tm st) {o:XR}:(yX S o=some none->cO tm o=none)/\∀ n,yX S o=some (some n)->cO tm o=some (aT ρ n):=by
 obtain⟨dst,guard,op⟩:=o;cases op with
 |p o=>exact⟨fun _=>rfl,fun n q=>by cases q⟩
 |e o=>exact⟨fun _=>rfl,fun n q=>by cases q⟩
 |l o =>
  cases o with
  |look k z ok m ix=>exact⟨fun q=>(by cases q),fun n q=>(by cases q)⟩
  |load size agg a =>
   show(G3 (rf S a)=some none->SM (aD tm a)=none)/\∀ n,G3 (rf S a)=some (some n)->SM (aD tm a)=some (aT ρ n)
   cases ha:rf S a with
   |none=>exact⟨fun q=>(by cases q),fun n q=>(by cases q)⟩
   |some v=>rw[cq h ha]; exact MR
def NP (tm:Tr AV) (o:XR):Option Nat:=match eg tm o.guard with
 |some true=>cO tm o
 |_=>none
theorem BW {call:e8} {o:XR} {ops:List XR} {r:Tr AV × St} {r2:Tr AV × St × List (Option Nat × Tr dR)} (h:ru call o tm st=some r) (h2:eJ call ops r.1 r.2=some r2):eJ call (o::ops) tm st=some (r2.1,r2.2.1,(NP tm o,st.heap)::r2.2.2):=by
 show(match eg tm o.guard with
   |some true=>match mY call st tm o.op with
    |some (v,ae)=>match eJ call ops (eH tm o.dst v) ae with
     |some (ay,gn,l)=>some (ay,gn,(cO tm o,st.heap)::l)
     |none=>none
    |none=>none
   |some false=>match eJ call ops (eH tm o.dst gg) st with
    |some (ay,gn,l)=>some (ay,gn,(none,st.heap)::l)
    |none=>none
   |none=>none)=_
 unfold ru at h;unfold NP;split at h
 ·rename_i hw
  split at h
  ·rename_i v ae hd
   cases h
   rw[hw];simp only[hd,h2]
  ·cases h
 ·rename_i hw; cases h; rw[hw]; simp only[h2]
 ·cases h
theorem IX (hC:kP E C m0):∀ {ops:List XR} {S:Sy} {ρ:cz} {tm:Tr AV} {st:St} {l:List (Sy × List TE)},Sat C.T own ρ S tm st->Ls C m0 ρ S.nx->qs C ops S=some l ->
  ∃ ay ae tr,sN E (fun _ call=>eJ call ops tm st=some (ay,ae,tr))/\Fr own st ae/\∃ p∈l,∃ ρ',aj ρ ρ' S.nx/\S.nx<=p.1.nx/\Sat C.T own ρ' p.1 ay ae/\Gn ρ' p.2 tr:=by
 intro ops
 induction ops with
 |nil =>
  intro S ρ tm st l h hm hl;have hl:some [(S,[(some none,(S.hp,S.ar))])]=some l:=hl;cases hl;refine⟨tm,st,[(none,st.heap)],sN.all fun _ _=>rfl,Fr.refl _ _,_,.head _,ρ,aj.refl _ _,dN _,h,.cons ⟨fun _=>rfl,fun n q=>(by cases q),fun n v hv=>Gw h.here hv⟩ .nil⟩
 |cons o ops ih =>
  intro S ρ tm st l h hm hl;have hl:(Option.rec none (fun l=>fE (fun S'=>Option.rec none (fun r=>some (r.map fun q=>(q.1,(yX S o,(S.hp,S.ar))::q.2))) (qs C ops S')) l) (uA C S o):Option (List (Sy × List TE)))=some l:=hl
  cases hs:uA C S o with
  |none=>rw[hs] at hl; cases hl
  |some l1 =>
   rw[hs] at hl;obtain⟨dh,bY,jw,fr,S1,fP,ρ1,gP,kR,kX⟩:=B4 hC h hm.le hs;obtain⟨r,hr,bH⟩:=cw (show fE (fun S'=>(Option.rec none (fun r=>some (r.map fun q=>(q.1,(yX S o,(S.hp,S.ar))::q.2))) (qs C ops S'):Option (List (Sy × List TE)))) l1=some l from hl) S1 fP
   cases ht:qs C ops S1 with
   |none=>rw[ht] at hr; cases hr
   |some l2 =>
    rw[ht] at hr;have hr:some (l2.map fun q=>(q.1,(yX S o,(S.hp,S.ar))::q.2))=some r:=hr
    cases hr
    obtain⟨cB,fJ,tr,OK,XY,p,hp,ρ2,pH,nD,xr,CW⟩:=ih kX (hm.next gP kR) ht;have haa:aj ρ ρ2 S.nx:=gP.trans (pH.le kR);refine⟨cB,fJ,(NP tm o,st.heap)::tr,(jw.and OK).mono fun ag call hc=>?_,fr.trans XY,_,bH _ (fD.2 ⟨p,hp,rfl⟩),ρ2,haa,lS kR nD,xr,.cons ⟨fun q=>?_,fun n q=>?_,fun n v hv=>Gw (h.lQ ρ2 haa) hv⟩ CW⟩
    ·exact BW hc.1 hc.2
    ·unfold NP
     split
     ·exact(Ci (h.lQ ρ2 haa)).1 q
     ·rfl
    ·unfold NP
     split
     ·exact .inl ((Ci (h.lQ ρ2 haa)).2 n q)
     ·exact .inr rfl
theorem Nb {ts:List TE} {tr:List (Option Nat × Tr dR)} (h:Gn ρ ts tr) {p:Nat × Nat} (hp:y1 ts p=true):kx tr p=true:=by
 unfold y1 at hp;split at hp
 ·rename_i m h1
  rw[cS] at h1;obtain⟨r,hr,q⟩:=h.get _ _ h1;have:=q.no rfl;unfold kx;rw[cS,hr];obtain⟨a,b⟩:=r;simp only at this;subst this
  rfl
 ·rename_i k m H a b H' h1 h2 h3
  rw[cS] at h1 h2 h3;obtain⟨r1,Lj,q1⟩:=h.get _ _ h1;obtain⟨r2,AW,q2⟩:=h.get _ _ h2;obtain⟨r3,hr3,q3⟩:=h.get _ _ h3;obtain⟨a1,b1⟩:=r1;obtain⟨a2,b2⟩:=r2;obtain⟨a3,b3⟩:=r3;split at hp
  ·rename_i u v hu hv
   have e1:=q2.bX _ _ hu;have e2:=q3.bX _ _ hv;rw[bt hp] at e1;unfold kx;rw[cS,cS,cS,Lj,AW,hr3];rcases q1.key k rfl with q |q<;>simp only at q<;>subst q
   ·simp only at e1 e2 ⊢
    rw[e1,e2];exact fV _
   ·rfl
  ·cases hp
 ·cases hp
theorem Ov:∀ {hs:List (Nat × List AV)} {S:Sy} {ρ:cz} {tm:Tr AV} {st:St},Sat T own ρ S tm st->Fr own st (hoist hs tm st).2/\∃ ρ',aj ρ ρ' S.nx/\S.nx<=(AY hs S).nx/\Sat T own ρ' (AY hs S) (hoist hs tm st).1 (hoist hs tm st).2:=by
 intro hs
 induction hs with
 |nil=>intro S ρ tm st h; exact⟨Fr.refl _ _,ρ,aj.refl _ _,dN _,h⟩
 |cons p hs ih =>
  intro S ρ tm st h;obtain⟨d,cs⟩:=p;have hv:∀ ρ',cp T own ρ' S tm st->cs=(cs.map qF).map (SA.ev ρ'):=by
   intro ρ' h';rw[yr,show(SA.ev ρ' ∘ qF)=id from funext fun v=>rR v,List.map_id]
  obtain⟨w,bY,hx,fr,p,hp,ρ1,gP,kR,fP,qJ⟩:=s9 (vs:=cs) h (x:=some (.ptr st.next 0,st.new (.box 0 cs))) rfl hv _ rfl;cases hx;cases hp with
  |tail _ hp=>cases hp
  |head =>
   have qK:=fP.set (d:=some d) qJ;obtain⟨XY,ρ2,pH,nD,iO⟩:=ih (S:=ry {S with hp:=(S.nx,S.nx+1,cs.map qF)::S.hp,nx:=S.nx+2 } (some d) (.e (.a (.ptr S.nx 0)))) qK
   exact⟨fr.trans XY,ρ2,gP.trans (pH.le (show S.nx<=S.nx+2 by omega)),lS (show S.nx<=S.nx+2 by omega) nD,iO⟩
theorem MI (hC:kP E C m0) {ops:List XR} {b7:List (Nat × Nat)} {l:List Sy} (h:Sat C.T own ρ S tm st) (hm:Ls C m0 ρ S.nx) (hl:MJ C ops b7 S=some l) :
  ∃ ay ae,sN E (fun _ call=>mC call ops b7 tm st=some (ay,ae))/\Out C.T own ρ S.nx st ay ae l:=by
 cases b7 with
 |nil=>exact vm hC h hm hl
 |cons p ps =>
  have hl:(Option.rec none (fun l=>dO (fun q=>br (aU (y1 q.2) (p::ps)) (some q.1)) l) (qs C ops S):Option (List Sy))=some l:=hl
  cases ht:qs C ops S with
  |none=>rw[ht] at hl; cases hl
  |some l1 =>
   rw[ht] at hl;obtain⟨ay,ae,tr,jw,fr,q,hq,ρ',ha,hn,hS,CW⟩:=IX hC h hm ht;obtain⟨S',iP,cn⟩:=CH (show dO (fun q:Sy × List TE=>br (aU (y1 q.2) (p::ps)) (some q.1)) l1=some l from hl) hq
   cases hg:aU (y1 q.2) (p::ps) with
   |false=>rw[hg] at iP; cases iP
   |true =>
    rw[hg] at iP;have iP:some q.1=some S':=iP;cases iP;refine⟨ay,ae,jw.mono fun ag call hc=>?_,fr,q.1,cn,ρ',ha,hn,hS⟩
    show(match eJ call ops tm st with |some (ay,ae,l)=>(match (p::ps).all (kx l) with |true=>some (ay,ae) |false=>none) |none=>none)=_
    rw[hc];have:(p::ps).all (kx tr)=true:=by
     rw[JA];intro r hr;exact Nb CW (aB hg r hr)
    simp only[this]
theorem GJ:Sub.val .var ρ=ρ:=rfl
theorem x6 {lo n:Nat} {t:Tr SA} (h:n<lo):nG lo t n = .var n:=by
 unfold nG;rw[show Nat.blt n lo=true by rw[Nat.blt_eq]; exact h]
theorem Dh {l:List (Nat × SV)}:∀ {t:Tr SV} {k:Nat} {v:SV},(bm (fun sl p=>Tr.set sl p.1 p.2) l t).get k=some v->(k,v)∈l\/t.get k=some v:=by
 induction l with
 |nil=>intro t k v h; exact .inr h
 |cons p l ih =>
  intro t k v h;rcases ih (show(bm (fun sl p=>Tr.set sl p.1 p.2) l (t.set p.1 p.2)).get k=some v from h) with q |q
  ·exact .inl (.tail _ q)
  ·rw[Tr.cb] at q
   split at q
   ·rename_i e; cases q; left; rw[e]; exact .head _
   ·exact .inr q
theorem A6 {s:Tr SV} {l:List Nat}:∀ {t:Tr SV} {k:Nat} {v:SV},(bm (fun sl k=>(Option.rec sl (fun v=>Tr.set sl k v) (s.get k):Tr SV)) l t).get k=some v->(k∈l/\s.get k=some v)\/t.get k=some v:=by
 induction l with
 |nil=>intro t k v h; exact .inr h
 |cons p l ih =>
  intro t k v h;rcases ih (show(bm (fun sl k=>(Option.rec sl (fun v=>Tr.set sl k v) (s.get k):Tr SV)) l (Option.rec t (fun v=>Tr.set t p v) (s.get p))).get k=some v from h) with q |q
  ·exact .inl ⟨.tail _ q.1,q.2⟩
  ·cases hp:s.get p with
   |none=>rw[hp] at q; exact .inr q
   |some u =>
    rw[hp] at q;have q:(t.set p u).get k=some v:=q;rw[Tr.cb] at q;split at q
    ·rename_i e; cases q; left; rw[e]; exact⟨.head _,hp⟩
    ·exact .inr q
theorem lX {S S1:Sy} {ρ ρ1:cz} {tm dh:Tr AV} {st bY:St} {t:Tm} {m:af} (h:Sat C.T own ρ S tm st) (h1:Sat C.T own ρ1 S1 dh bY) (ha:aj ρ ρ1 S.nx) (hf:lk C S S1 t=some m) :
  Mv C.T (S.nx+t.nv) t=true/\∃ ρ2,aj ρ ρ2 S.nx/\Sat C.T own ρ2 (t.val S C.T) dh bY/\m.ev ρ1=t.dE.ev ρ2:=by
 unfold lk at hf
 generalize hσ:GD S S1 t=σ at hf
 cases hg:aq (Mv C.T (S.nx+t.nv) t) (VW C S S1 σ t) with
 |false=>rw[hg] at hf; cases hf
 |true =>
  rw[hg] at hf;have hf:t.dE.sub σ=some m:=hf;obtain⟨pD,nS⟩:=ad hg;refine⟨pD,?_⟩
  have lo:∀ n,n<S.nx->σ n = .var n:=by
   intro n hn;rw[<-hσ];unfold GD;exact x6 hn
  have tL:aj ρ (σ.val ρ1) S.nx:=by
   intro n hn;show(σ n).ev ρ1=ρ n
   rw[lo n hn]; exact ha n hn
  unfold VW at nS;obtain⟨k1,nS⟩:=ad nS;obtain⟨k2,nS⟩:=ad nS;obtain⟨k3,nS⟩:=ad nS;obtain⟨k4,nS⟩:=ad nS;obtain⟨k5,nS⟩:=ad nS;obtain⟨k6,nS⟩:=ad nS;obtain⟨k7,k8⟩:=ad nS;obtain⟨s1,s⟩:=ad pD;obtain⟨s2,s⟩:=ad s;obtain⟨s3,s⟩:=ad s;obtain⟨s4,s⟩:=ad s;obtain⟨s5,s6⟩:=ad s;have dc:=h1.here;cases e1:eo σ t.hp with
  |none=>rw[e1] at k7; cases k7
  |some hs =>
   cases e2:eo σ t.ar with
   |none=>rw[e2] at k8; cases k8
   |some bh =>
    rw[e1] at k7;rw[e2] at k8;have cn:bA (σ.val ρ1) own t.hp t.ar t.live bY:=wB dc k3 k4 k5 e1 e2 k7 k8;refine⟨σ.val ρ1,tL,⟨fun ca hq=>?_,h1.fresh⟩,af.bG hf⟩
    have hq:aj (σ.val ρ1) ca (S.nx+t.nv):=hq;have hagq:aj ρ ca S.nx:=tL.trans (hq.le (lJ _ _));have hS:=h.lQ ca hagq;refine⟨fun k v hv=>?_,cn.agree hq s2 s3 s4,?_⟩
    ·rcases Dh hv with q |q
     ·have q1:=aB k2 _ q
      simp only at q1;cases hw:S1.sl.get k with
      |none=>rw[hw] at q1; cases q1
      |some w =>
       rw[hw] at q1;have q2:=I8 dc.fs (show Ad S1.F σ v w=true from q1)
       rw[dc.sl k w hw,<-q2,Wa hq (aB s1 _ q)]
     ·rcases A6 q with⟨q1,q2⟩ |q
      ·have q3:=aB k1 k q1
       unfold NT at q3;rw[q2] at q3;split at q3
       ·rename_i v' w J4 hw
        cases J4
        have q4:=SV.gT dc.fs q3;have hSρ1:=h.lQ ρ1 ha;have a1:=hSρ1.sl k v q2;have a2:=hS.sl k v q2;rw[a1] at a2;rw[dc.sl k w hw,<-q4];exact a2
       ·rename_i hc; cases hc
       ·cases q3
      ·cases q
    ·exact zO (σ:=.var) hS.fs (pn hq s5 fun f Tl=>td dc.fs (aB k6 f Tl))
end
end Go.Ab
namespace Go.Ab
noncomputable section
open Go.Ev
open Classical
variable {ρ ρ' ca : cz} {T : TT} {F : ai} {σ : Sub} {own tg : Nat → Prop} {S : Sy} {tm ay : Tr AV} {st ae : St} {x : Option AV} {nx : Nat} {E : Env} {C : Cx} {m0 : Int}
def Ran (E:Env) (C:Cx) (own:Nat->Prop) (ρ:cz) (nx:Nat) (st:St) (run:Nat->e8->R) (l:List (Ex × Sy)):Prop :=
 ∃ e ay ae,sN E (fun ag call=>run ag call = .ok e ay ae)/\Fr own st ae/\∃ p∈l,p.1=e/\∃ ρ',aj ρ ρ' nx/\nx<=p.2.nx/\Sat C.T own ρ' p.2 ay ae
def BB (E:Env) (C:Cx) (m0:Int) (own:Nat->Prop) (c:XC):Prop :=
 ∀ (an:An) (S:Sy) (ρ:cz) (tm:Tr AV) (st:St) (l:List (Ex × Sy)),Sat C.T own ρ S tm st->Ls C m0 ρ S.nx->eR C c an S=some l->Ran E C own ρ S.nx st (fun ag call=>ak call ag c tm st) l
theorem ki {α:Type} {l:List α}:∀ {bh:List An} {a:α},a∈l->∃ n,(a,n)∈jy l bh:=by
 induction l with
 |nil=>intro bh a h; cases h
 |cons b t ih =>
  intro bh a h;cases bh with
  |nil =>
   show ∃ n,(a,n)∈(b,An.o)::jy t []
   cases h with
   |head=>exact⟨.o,.head _⟩
   |tail _ h=>obtain⟨n,hn⟩:=ih (bh:=[]) h; exact⟨n,.tail _ hn⟩
  |cons n bh =>
   show ∃ m,(a,m)∈(b,n)::jy t bh
   cases h with
   |head=>exact⟨n,.head _⟩
   |tail _ h=>obtain⟨m,hm⟩:=ih (bh:=bh) h; exact⟨m,.tail _ hm⟩
theorem j5 {l:List (Ex × Sy)} {p:Ex × Sy} (h:p∈l) (he:p.1 = .norm):p.2∈jL l :=
 fD.2 ⟨p,xB.2 ⟨h,by rw[he]; rfl⟩,rfl⟩
theorem j4 {l:List (Ex × Sy)} {p:Ex × Sy} (h:p∈l) (he:p.1≠.norm):p∈rC l:=by
 refine xB.2 ⟨h,?_⟩
 cases hp:p.1 with
 |norm=>exact absurd hp he
 |exit i=>rfl
 |ret=>rfl
theorem de {α:Type} {b:Bool} {r:Option α} {x:α} (h:br b r=some x):b=true/\r=some x:=by
 cases b with
 |false=>cases h
 |true=>exact⟨rfl,h⟩
theorem AE {r:Option (List Sy)} {l:List (Ex × Sy)} (h:outs r=some l):∃ s,r=some s/\∀ S∈s,(Ex.norm,S)∈l:=by
 cases r with
 |none=>cases h
 |some s =>
  have h:some (s.map fun S=>(Ex.norm,S))=some l:=h
  cases h
  exact⟨s,rfl,fun S hS=>fD.2 ⟨S,hS,rfl⟩⟩
theorem lR {e:Ex} {tm:Tr AV} {st:St} {f:Tr AV->St->R} (he:e≠.norm):R.andThen (.ok e tm st) f = .ok e tm st:=by
 cases e with
 |norm=>exact absurd rfl he
 |exit i=>rfl
 |ret=>rfl
def V9 (C:Cx) (S:Sy) (ts:List Tm) (bs:List An) (l:List Sy) (b:An->Sy->fG):fG:=match ts with
 | []=>fE (fun p=>b p.2 p.1) (jy l bs)
 |t::ts=>br (aU (vR C S (t::ts)) l) (fE (fun p=>b p.2 (p.1.val S C.T)) (jy (t::ts) bs))
theorem Mr {a b:XC} (sO:BB E C m0 own a) (qe:BB E C m0 own b) {ts:List Tm} {aa:An} {bs:List An} {l:List (Ex × Sy)} (h:Sat C.T own ρ S tm st) (hm:Ls C m0 ρ S.nx) (hl:Mt C S ts bs (eR C a aa S) (eR C b)=some l) :
  Ran E C own ρ S.nx st (fun ag call=>ak call ag (.seq a b) tm st) l:=by
 cases ha:eR C a aa S with
 |none=>rw[ha] at hl; cases hl
 |some l1 =>
  rw[ha] at hl;obtain⟨e,dh,bY,jw,fr,p,hp,yz,ρ1,gP,kR,fP⟩:=sO aa S ρ tm st l1 h hm ha;have hl:K4 (some (rC l1)) (V9 C S ts bs (jL l1) (eR C b))=some l:=hl;obtain⟨l2,h2,Om,CX⟩:∃ l2,V9 C S ts bs (jL l1) (eR C b)=some l2/\(∀ q∈rC l1,q∈l)/\(∀ q∈l2,q∈l):=by
   cases hy:V9 C S ts bs (jL l1) (eR C b) with
   |none=>rw[hy] at hl; cases hl
   |some l2 =>
    rw[hy] at hl;have hl:some (rC l1++l2)=some l:=hl;cases hl;exact⟨l2,rfl,fun q hq=>ku.2 (.inl hq),fun q hq=>ku.2 (.inr hq)⟩
  by_cases he:e = .norm
  ·subst he
   have hpn:p.2∈jL l1:=j5 hp yz;have go:∀ (an:An) (S2:Sy) (ρ2:cz) (r:List (Ex × Sy)),aj ρ ρ2 S.nx->S.nx<=S2.nx->Sat C.T own ρ2 S2 dh bY->eR C b an S2=some r->(∀ q∈r,q∈l2)->Ran E C own ρ S.nx st (fun ag call=>ak call ag (.seq a b) tm st) l:=by
    intro an S2 ρ2 r pH nD iO hr bH;obtain⟨e',cB,fJ,OK,XY,q,hq,J6,ρ3,Q2,UY,O1⟩:=qe an S2 ρ2 dh bY r iO (hm.next pH nD) hr;refine⟨e',cB,fJ,(jw.and OK).mono fun ag call hc=>?_,fr.trans XY,q,CX q (bH q hq),J6,ρ3,pH.trans (Q2.le nD),lS nD UY,O1⟩
    show(ak call ag a tm st).andThen (ak call ag b)=_
    have nU:ak call ag a tm st = .ok .norm dh bY:=hc.1;rw[nU]; exact hc.2
   cases ts with
   |nil =>
    obtain⟨n,hn⟩:=ki (bh:=bs) hpn;obtain⟨r,hr,bH⟩:=cw (show fE (fun p=>eR C b p.2 p.1) (jy (jL l1) bs)=some l2 from h2) _ hn
    exact go n p.2 ρ1 r gP kR fP hr bH
   |cons t ts =>
    obtain⟨g1,g2⟩:=de (show br (aU (vR C S (t::ts)) (jL l1)) (fE (fun p=>eR C b p.2 (p.1.val S C.T)) (jy (t::ts) bs))=some l2 from h2)
    obtain⟨t',Fm,fY⟩:=bL (aB g1 p.2 hpn);cases gO:lk C S p.2 t' with
    |none=>rw[gO] at fY; cases fY
    |some m =>
     obtain⟨_,ρ2,pH,iO,_⟩:=lX h fP gP gO;obtain⟨n,hn⟩:=ki (bh:=bs) Fm;obtain⟨r,hr,bH⟩:=cw g2 _ hn;exact go n _ ρ2 r pH (show S.nx<=S.nx+t'.nv from lJ _ _) iO hr bH
  ·refine⟨e,dh,bY,jw.mono fun ag call hc=>?_,fr,p,Om p (j4 hp (by rw[yz]; exact he)),yz,ρ1,gP,kR,fP⟩
   show(ak call ag a tm st).andThen (ak call ag b)=_
   have nU:ak call ag a tm st = .ok e dh bY:=hc;rw[nU]; exact lR he
theorem Sx {b:XC} (qe:BB E C m0 own b) {ts:List Tm} {bh:List An} {l:List (Ex × Sy)} (h:Sat C.T own ρ S tm st) (hm:Ls C m0 ρ S.nx) (hl:NB C S ts bh (eR C b)=some l) :
  Ran E C own ρ S.nx st (fun ag call=>ak call ag (.loop b) tm st) l:=by
 unfold NB at hl;obtain⟨g1,g2⟩:=de hl;have key:∀ (N:Nat) (t:Tm) (ρ1:cz) (dh:Tr AV) (bY:St),t∈ts->Mv C.T (S.nx+t.nv) t=true->aj ρ ρ1 S.nx->Sat C.T own ρ1 (t.val S C.T) dh bY->(t.dE.ev ρ1).toNat<=N ->
   ∃ e ay ae n0,(∀ ag d fuel,n0<=ag->n0<=d->n0<=fuel->aY (ak (ao E ag d) ag b) fuel dh bY = .ok e ay ae)/\Fr own bY ae/\∃ p∈l,p.1=e/\∃ ρ',aj ρ ρ' S.nx/\S.nx<=p.2.nx/\Sat C.T own ρ' p.2 ay ae:=by
  intro N
  induction N with
  |zero =>
   intro t ρ1 dh bY ht pD gP fP hN;obtain⟨n,hn⟩:=ki (bh:=bh) ht;obtain⟨r,hr,bH⟩:=cw g2 _ hn;simp only at hr;cases hx:eR C b n (t.val S C.T) with
   |none=>rw[hx] at hr; cases hr
   |some l1 =>
    rw[hx] at hr;obtain⟨q1,q2⟩:=de hr;cases q2;obtain⟨e,cB,fJ,⟨n0,jw⟩,fr,p,hp,yz,ρ2,pH,nD,iO⟩:=qe n (t.val S C.T) ρ1 dh bY l1 fP (hm.next gP (show S.nx<=S.nx+t.nv from lJ _ _)) hx
    have J9:S.nx<=(t.val S C.T).nx:=lJ _ _
    by_cases he:e = .norm
    ·exfalso
     subst he;obtain⟨t',Fm,hd⟩:=bL (aB q1 p.2 (j5 hp yz));cases hf:lk C S p.2 t' with
     |none=>rw[hf] at hd; cases hd
     |some m =>
      rw[hf] at hd;obtain⟨d1,d2⟩:=ad (show aq (bV p.2.F m) (bV p.2.F ((af.add t.dE (-1) m).plus (-1)))=true from hd)
      have d1:=aW iO.here.fs d1;have d2:=aW iO.here.fs d2;rw[af.bf,af.aP] at d2;obtain⟨_,s⟩:=ad pD;obtain⟨_,s⟩:=ad s;obtain⟨_,s⟩:=ad s;obtain⟨_,s⟩:=ad s;obtain⟨_,s⟩:=ad s;have:=iK (pH:aj ρ1 ρ2 (S.nx+t.nv)) s;omega
    ·refine⟨e,cB,fJ,n0+1,fun ag d fuel h1 h2 h3=>?_,fr,p,bH p (j4 hp (by rw[yz]; exact he)),yz,ρ2,gP.trans (pH.le J9),lS J9 nD,iO⟩
     cases fuel with
     |zero=>omega
     |succ fuel =>
      show(ak (ao E ag d) ag b dh bY).andThen (aY (ak (ao E ag d) ag b) fuel)=_
      have nU:ak (ao E ag d) ag b dh bY = .ok e cB fJ:=jw ag d (by omega) (by omega)
      rw[nU]; exact lR he
  |succ N ih =>
   intro t ρ1 dh bY ht pD gP fP hN;obtain⟨n,hn⟩:=ki (bh:=bh) ht;obtain⟨r,hr,bH⟩:=cw g2 _ hn;simp only at hr;cases hx:eR C b n (t.val S C.T) with
   |none=>rw[hx] at hr; cases hr
   |some l1 =>
    rw[hx] at hr;obtain⟨q1,q2⟩:=de hr;cases q2;obtain⟨e,cB,fJ,⟨n0,jw⟩,fr,p,hp,yz,ρ2,pH,nD,iO⟩:=qe n (t.val S C.T) ρ1 dh bY l1 fP (hm.next gP (show S.nx<=S.nx+t.nv from lJ _ _)) hx
    have J9:S.nx<=(t.val S C.T).nx:=lJ _ _
    by_cases he:e = .norm
    ·subst he
     obtain⟨t',Fm,hd⟩:=bL (aB q1 p.2 (j5 hp yz));cases hf:lk C S p.2 t' with
     |none=>rw[hf] at hd; cases hd
     |some m =>
      rw[hf] at hd;obtain⟨d1,d2⟩:=ad (show aq (bV p.2.F m) (bV p.2.F ((af.add t.dE (-1) m).plus (-1)))=true from hd)
      have d1:=aW iO.here.fs d1;have d2:=aW iO.here.fs d2;rw[af.bf,af.aP] at d2;obtain⟨_,s⟩:=ad pD;obtain⟨_,s⟩:=ad s;obtain⟨_,s⟩:=ad s;obtain⟨_,s⟩:=ad s;obtain⟨_,s⟩:=ad s;have hme:=iK (pH:aj ρ1 ρ2 (S.nx+t.nv)) s;obtain⟨W5,ρ3,Q2,O1,hmm⟩:=lX h iO (gP.trans (pH.le J9)) hf;obtain⟨e',I0,yR,n1,Xo,fr3,q,hq,J6,ρ4,ha4,hn4,hS4⟩:=ih t' ρ3 cB fJ Fm W5 Q2 O1 (by omega)
      refine⟨e',I0,yR,max n0 n1+1,fun ag d fuel h1 h2 h3=>?_,fr.trans fr3,q,hq,J6,ρ4,ha4,hn4,hS4⟩
      cases fuel with
      |zero=>omega
      |succ fuel =>
       show(ak (ao E ag d) ag b dh bY).andThen (aY (ak (ao E ag d) ag b) fuel)=_
       have nU:ak (ao E ag d) ag b dh bY = .ok .norm cB fJ:=jw ag d (by omega) (by omega)
       rw[nU];exact Xo ag d fuel (by omega) (by omega) (by omega)
    ·refine⟨e,cB,fJ,n0+1,fun ag d fuel h1 h2 h3=>?_,fr,p,bH p (j4 hp (by rw[yz]; exact he)),yz,ρ2,gP.trans (pH.le J9),lS J9 nD,iO⟩
     cases fuel with
     |zero=>omega
     |succ fuel =>
      show(ak (ao E ag d) ag b dh bY).andThen (aY (ak (ao E ag d) ag b) fuel)=_
      have nU:ak (ao E ag d) ag b dh bY = .ok e cB fJ:=jw ag d (by omega) (by omega)
      rw[nU]; exact lR he
 obtain⟨t,ht,fY⟩:=bL (show dY (fun t=>(Option.rec false (fun _=>true) (lk C S S t):Bool)) ts=true from g1)
 cases hf:lk C S S t with
 |none=>rw[hf] at fY; cases fY
 |some m =>
  obtain⟨pD,ρ1,gP,fP,_⟩:=lX h h (aj.refl _ _) hf;obtain⟨e,ay,ae,n0,jw,fr,p,hp,yz,ρ2,pH,nD,iO⟩:=key _ t ρ1 tm st ht pD gP fP (dN _);exact⟨e,ay,ae,⟨n0,fun ag d h1 h2=>jw ag d ag h1 h2 h1⟩,fr,p,hp,yz,ρ2,pH,nD,iO⟩
theorem Bk (hC:kP E C m0) (c:XC):BB E C m0 own c:=by
 induction c with
 |skip =>
  intro an S ρ tm st l h hm hl;have hl:some [(Ex.norm,S)]=some l:=hl;cases hl;exact⟨.norm,tm,st,sN.all fun _ _=>rfl,Fr.refl _ _,_,.head _,rfl,ρ,aj.refl _ _,dN _,h⟩
 |aQ ops =>
  intro an S ρ tm st l h hm hl;obtain⟨s,hs,bH⟩:=AE (show outs (Cf C ops S)=some l from hl)
  obtain⟨ay,ae,jw,fr,S',iP,ρ',ha,hn,kX⟩:=vm hC h hm hs;refine⟨.norm,ay,ae,jw.mono fun ag call hc=>?_,fr,_,bH S' iP,rfl,ρ',ha,hn,kX⟩
  show R.of (dm call ops tm st)=_
  have nU:dm call ops tm st=some (ay,ae):=hc;rw[nU]; rfl
 |nL hs ops b7 =>
  intro an S ρ tm st l h hm hl;obtain⟨s,pE,bH⟩:=AE (show outs (MJ C ops b7 (AY hs S))=some l from hl)
  obtain⟨fr0,ρ1,gP,kR,fP⟩:=Ov (hs:=hs) h;obtain⟨ay,ae,jw,fr,S',iP,ρ',ha,hn,kX⟩:=MI hC fP (hm.next gP kR) pE;refine⟨.norm,ay,ae,jw.mono fun ag call hc=>?_,fr0.trans fr,_,bH S' iP,rfl,ρ',gP.trans (ha.le kR),lS kR hn,kX⟩
  show R.of (mC call ops b7 (hoist hs tm st).1 (hoist hs tm st).2)=_
  rw[hc]; rfl
 |seq a b sO qe =>
  intro an S ρ tm st l h hm hl;cases an with
  |s ts aa bs=>exact Mr sO qe h hm (show Mt C S ts bs (eR C a aa S) (eR C b)=some l from hl)
  |_=>exact Mr sO qe h hm (show Mt C S [] [] (eR C a .o S) (eR C b)=some l from hl)
 |cond x a b sO qe =>
  intro an S ρ tm st l h hm hl;have hl:(match mo S x with
   |some (.bl f)=>fE (fun p=>(Bool.rec (eR C b p.2 p.1.2) (eR C a p.2 p.1.2) p.1.1:fG)) (jy (uM C.T S x f) (YF an))
   |_=>none)=some l:=hl
  split at hl
  ·rename_i f hx
   obtain⟨t,ht,p,hp,h1,h2,h3⟩:=sj h hx;obtain⟨n,hn⟩:=ki (bh:=YF an) hp;obtain⟨r,hr,bH⟩:=cw hl _ hn;simp only[h1] at hr;have gO:Ls C m0 ρ p.2.nx:=by rw[h2]; exact hm
   cases t with
   |true =>
    obtain⟨e,ay,ae,jw,fr,q,hq,J6,ρ',ha,yk,kX⟩:=sO n p.2 ρ tm st r h3 gO hr;refine⟨e,ay,ae,jw.mono fun ag call hc=>?_,fr,q,bH q hq,J6,ρ',by rw[<-h2]; exact ha,by rw[<-h2]; exact yk,kX⟩
    show av (aD tm x) (ak call ag a tm st) (ak call ag b tm st)=_
    rw[ht]; exact hc
   |false =>
    obtain⟨e,ay,ae,jw,fr,q,hq,J6,ρ',ha,yk,kX⟩:=qe n p.2 ρ tm st r h3 gO hr;refine⟨e,ay,ae,jw.mono fun ag call hc=>?_,fr,q,bH q hq,J6,ρ',by rw[<-h2]; exact ha,by rw[<-h2]; exact yk,kX⟩
    show av (aD tm x) (ak call ag a tm st) (ak call ag b tm st)=_
    rw[ht]; exact hc
  ·cases hl
 |block id b qe =>
  intro an S ρ tm st l h hm hl;have hl:(Option.rec none (fun l=>some (l.map fun p=>(oY id p.1,p.2))) (eR C b an S):fG)=some l:=hl
  cases hb:eR C b an S with
  |none=>rw[hb] at hl; cases hl
  |some l1 =>
   rw[hb] at hl;have hl:some (l1.map fun p=>(oY id p.1,p.2))=some l:=hl
   cases hl
   obtain⟨e,ay,ae,jw,fr,q,hq,J6,ρ',ha,yk,kX⟩:=qe an S ρ tm st l1 h hm hb;refine⟨oY id e,ay,ae,jw.mono fun ag call hc=>?_,fr,_,fD.2 ⟨q,hq,rfl⟩,by rw[J6],ρ',ha,yk,kX⟩
   show(ak call ag b tm st).block id=_
   have nU:ak call ag b tm st = .ok e ay ae:=hc;rw[nU];cases e with
   |exit i =>
    show(match Nat.beq i id with |true=>R.ok .norm ay ae |false=>R.ok (.exit i) ay ae)=R.ok (Bool.rec (.exit i) .norm (Nat.beq i id)) ay ae
    cases Nat.beq i id<;>rfl
   |_=>rfl
 |loop b qe =>
  intro an S ρ tm st l h hm hl;cases an with
  |l ts bh=>exact Sx qe h hm hl
  |_=>cases hl
 |exit id =>
  intro an S ρ tm st l h hm hl;have hl:some [(Ex.exit id,S)]=some l:=hl;cases hl;exact⟨.exit id,tm,st,sN.all fun _ _=>rfl,Fr.refl _ _,_,.head _,rfl,ρ,aj.refl _ _,dN _,h⟩
 |ret =>
  intro an S ρ tm st l h hm hl;have hl:some [(Ex.ret,S)]=some l:=hl;cases hl;exact⟨.ret,tm,st,sN.all fun _ _=>rfl,Fr.refl _ _,_,.head _,rfl,ρ,aj.refl _ _,dN _,h⟩
end
end Go.Ab
namespace Go.Ab
noncomputable section
open Go.Ev
open Classical
variable {ρ ρ' ca : cz} {T : TT} {F : ai} {σ : Sub} {own tg : Nat → Prop} {S : Sy} {tm ay : Tr AV} {st ae : St} {x : Option AV} {nx : Nat} {E : Env} {C : Cx} {m0 : Int}
theorem Qo {l:List SE}:∀ {n:Nat} {t:Tr SV} {u:Tr AV},(∀ k v,t.get k=some v->u.get k=some (v.ev ρ))->∀ k v,(Vl l n t).get k=some v->(bb (l.map (SE.ev ρ)) n u).get k=some (v.ev ρ):=by
 induction l with
 |nil=>intro n t u h; exact h
 |cons a l ih =>
  intro n t u h;refine ih (n:=n+1) (t:=t.set n (.e a)) (u:=u.set n (a.ev ρ)) fun k v hv=>?_
  rw[Tr.cb] at hv ⊢
  by_cases e:k=n
  ·rw[bJ e] at hv ⊢; cases hv; rfl
  ·rw[ba e] at hv ⊢; exact h k v hv
theorem xw (n:Nat):Good T ρ ⟨.nil,.nil,.nil,.nil,false,n⟩:=by
 refine⟨fun a f hf=>?_,fun a f hf=>?_,fun a d hd=>?_,fun a v=>⟨fun h=>?_,fun h=>?_⟩,rfl⟩
 ·have:uh (.nil:Ix) a=[]:=rfl
  rw[this] at hf; cases hf
 ·have:fF (.nil:Tr (List Fact)) a=[]:=rfl
  rw[this] at hf; cases hf
 ·have:(Tr.nil:Tr af).get a=none:=rfl
  rw[this] at hd; cases hd
 ·have:lo (.nil:Bd) a=loK a:=rfl
  rw[this] at h; exact WK h
 ·have:BG (.nil:Bd) a=none:=rfl
  rw[this] at h; cases h
theorem Start.agree {k:fS} {args:List AV} (h:Start T k ρ args st) (pD:nw T k=true) (ha:aj ρ ρ' k.np):Start T k ρ' args st:=by
 obtain⟨a1,a⟩:=ad pD;obtain⟨a2,a⟩:=ad a;obtain⟨a3,a⟩:=ad a;obtain⟨a4,a⟩:=ad a;obtain⟨a5,a⟩:=ad a;exact⟨by rw[vl ha a1]; exact h.args,h.mem.agree ha a2 a3 a4,pn ha a5 h.facts⟩
theorem Start.JK {k:fS} {args:List AV} (h:Start T k ρ args st):bA ρ (ow k ρ st) k.hp k.ar k.live st:=by
 refine⟨fun p hp=>?_,fun p hp=>?_,fun n hn=>?_,h.mem.keys,h.mem.rq⟩
 ·obtain⟨_,b,c⟩:=h.mem.qM p hp; exact⟨.inl (mem_keys.2 (.inl ⟨p,hp,rfl⟩)),b,c⟩
 ·obtain⟨_,b,c⟩:=h.mem.uU p hp; exact⟨.inl (mem_keys.2 (.inr ⟨p,hp,rfl⟩)),b,c⟩
 ·rcases h.mem.nz n hn with q |⟨s,es,q |⟨id,q,_,q2⟩⟩
  ·exact .inl q
  ·exact .inr ⟨s,es,.inl q⟩
  ·exact .inr ⟨s,es,.inr ⟨id,q,.inr (.inl ⟨n,hn,by rw[<-dG,q]; rfl⟩),q2⟩⟩
theorem yQ {k:fS} {args:List AV} {n:Nat} (h:Start T k ρ args st) (pD:nw T k=true):Sat T (ow k ρ st) ρ (s7 T n k) (bb args 0 .nil) st:=by
 refine⟨fun ρ' ha=>?_,fun key hk=>.inr (.inr hk)⟩
 have ha:aj ρ ρ' k.np:=ha;have h':=h.agree pD ha;have cn:bA ρ' (ow k ρ st) k.hp k.ar k.live st:=by
  obtain⟨a1,a⟩:=ad pD;obtain⟨a2,a⟩:=ad a;obtain⟨a3,a⟩:=ad a;obtain⟨a4,a⟩:=ad a;exact h.JK.agree ha a2 a3 a4
 refine⟨fun j v hv=>?_,cn,zO (σ:=.var) (xw n) h'.facts⟩
 rw[h'.args];exact Qo (t:=.nil) (u:=.nil) (fun k v h=>by have:(Tr.nil:Tr SV).get k=none:=rfl; rw[this] at h; cases h) j v hv
theorem RQ (h:cp T own ρ S tm st) {r:mv} {e:SE} (hr:rD S r=some e):l8 tm st r=some (e.ev ρ):=by
 cases r with
 |t n =>
  simp only[rD] at hr;split at hr
  ·rename_i y hy
   cases hr
   show some (aD tm (.t n))=_
   rw[cq (x:=.t n) h hy]; rfl
  ·cases hr
 |cell a size agg =>
  simp only[rD] at hr;split at hr
  ·rename_i n off ha
   split at hr
   ·rename_i p hp
    split at hr
    ·rename_i y hy
     cases hr
     show(match aD tm (.t a) with | .ptr key off=>(match cc st.heap key with |some cs=>partOf size agg cs off |none=>none) |_=>none)=_
     rw[cq (x:=.t a) h ha];have:=(h.mem.qM _ (mm hp)).box;show(match cc st.heap (keyOf (ρ n)) with |some cs=>partOf size agg cs off |none=>none)=_
     unfold cc;rw[show st.heap.get (keyOf (ρ n))=_ from this]
     exact mJ hy
    ·cases hr
   ·cases hr
  ·cases hr
theorem G2 (h:cp T own ρ S tm st):∀ {l:List mv} {rs:List SE},dO (rD S) l=some rs->gu tm st l=some (rs.map (SE.ev ρ)):=by
 intro l
 induction l with
 |nil=>intro rs hr; have hr:some []=some rs:=hr; cases hr; rfl
 |cons r l ih =>
  intro rs hr;have hr:(Option.rec none (fun b=>Option.rec none (fun t=>some (b::t)) (dO (rD S) l)) (rD S r):Option (List SE))=some rs:=hr
  cases h1:rD S r with
  |none=>rw[h1] at hr; cases hr
  |some e =>
   rw[h1] at hr;have hr:(Option.rec none (fun t=>some (e::t)) (dO (rD S) l):Option (List SE))=some rs:=hr
   cases h2:dO (rD S) l with
   |none=>rw[h2] at hr; cases hr
   |some t =>
    rw[h2] at hr;have hr:some (e::t)=some rs:=hr;cases hr;simp only[gu,RQ h h1,ih h2,ot]
theorem Ib (h:Good T ρ F) {e:SE}:(Bh F e).ev ρ=e.ev ρ:=by
 unfold Bh;split
 ·rfl
 ·rename_i f _
  cases h1:f.pr F true with
  |true =>
   show AV.bool (decide (BF.ev ρ (.k true))) = .bool (decide (f.ev ρ))
   have:=mH h h1
   congr 1; simp[BF.ev,this]
  |false =>
   cases h2:f.pr F false with
   |true =>
    show AV.bool (decide (BF.ev ρ (.k false))) = .bool (decide (f.ev ρ))
    have:=mb h h2
    congr 1; simp[BF.ev,this]
   |false=>rfl
 ·rfl
theorem Kq {l:List Sy} {S:Sy} {f:BF} {p:Bool × Sy} (hS:S∈l) (hp:p∈xA T S f):p.2∈qm T l (.a (.bl f)):=by
 induction l with
 |nil=>cases hS
 |cons a t ih =>
  show p.2∈(xA T a f).map (fun p=>p.2)++qm T t (.a (.bl f))
  cases hS with
  |head=>exact ku.2 (.inl (fD.2 ⟨p,hp,rfl⟩))
  |tail _ hS=>exact ku.2 (.inr (ih hS))
theorem Dg:∀ {rs:List SE} {l:List Sy} {S:Sy},S∈l->Sat T own ρ S tm st->(∀ r∈rs,∀ ρ',aj ρ ρ' S.nx->r.ev ρ'=r.ev ρ)->∃ S'∈bm (qm T) rs l,S'.nx=S.nx/\Sat T own ρ S' tm st:=by
 intro rs
 induction rs with
 |nil=>intro l S hS h _; exact⟨S,hS,rfl,h⟩
 |cons r rs ih =>
  intro l S hS h hr;have step:∃ S1∈qm T l r,S1.nx=S.nx/\Sat T own ρ S1 tm st:=by
   unfold qm;split
   ·rename_i f
    have hf:∀ ρ',aj ρ ρ' S.nx->decide (f.ev ρ')=decide (f.ev ρ):=by
     intro ρ' ha;have:=hr _ (.head _) ρ' ha;simp only[SE.ev,SA.ev] at this;injection this
    obtain⟨p,hp,h1,h2,h3,h4⟩:=xz h hf;exact⟨p.2,Kq hS hp,h2,h4⟩
   ·exact⟨S,hS,rfl,h⟩
  obtain⟨S1,fP,kR,h1⟩:=step;obtain⟨S2,iO,nD,h2⟩:=ih fP h1 (fun q hq ρ' ha=>hr q (.tail _ hq) ρ' (by rw[<-kR]; exact ha))
  exact⟨S2,iO,by rw[nD,kR],h2⟩
theorem zH (hC:kP E C m0) {n f:Nat} {k:fS} {fx:XF} {an:An} {args:List AV} (hf:Bm C n k fx an=true) (hF:E.F.get f=some fx) (hP:E.AA f=none) (hm:C.dE=k.dE) (Ll:m0=k.dE.ev ρ) (qf:Start C.T k ρ args st) :
  ∃ v ae,Ev E f args st v ae/\Vw C.T k ρ st v ae:=by
 obtain⟨pD,hf⟩:=ad hf;cases hx:eR C fx.body an (s7 C.T n k) with
 |none=>rw[hx] at hf; cases hf
 |some l =>
  rw[hx] at hf;have hf:aU (Kz C k fx.res) l=true:=hf;have hmsc:Mw k.np k.dE=true:=by
   obtain⟨_,a⟩:=ad pD;obtain⟨_,a⟩:=ad a;obtain⟨_,a⟩:=ad a;obtain⟨_,a⟩:=ad a;obtain⟨_,a⟩:=ad a;exact(ad a).1
  have OT:Ls C m0 ρ (s7 C.T n k).nx:=⟨fun ρ' ha=>by
   have ha:aj ρ ρ' k.np:=ha;rw[hm,Ll,iK ha hmsc]; exact Int.le_refl _⟩
  obtain⟨e,ay,ae,jw,fr,p,hp,yz,ρ1,gP,kR,fP⟩:=Bk hC fx.body an _ ρ _ st l (yQ qf pD) OT hx;have gP:aj ρ ρ1 k.np:=gP;have eN:=aB hf p hp;unfold Kz at eN;have jO:∀ id,e≠.exit id:=by
   intro id he;rw[yz,he] at eN;cases eN
  have eN:(Option.rec false (fun rs=>aU (fun S=>dY (mI C k S (rs.map (Bh S.F))) k.ny) (bm (qm C.T) rs [p.2])) (dO (rD p.2) fx.res):Bool)=true:=by
   cases hq:p.1 with
   |exit id=>exact absurd (yz.symm.trans hq) (jO id)
   |norm=>rw[hq] at eN; exact eN
   |ret=>rw[hq] at eN; exact eN
  cases hr:dO (rD p.2) fx.res with
  |none=>rw[hr] at eN; cases eN
  |some rs =>
   rw[hr] at eN;have eN:aU (fun S=>dY (mI C k S (rs.map (Bh S.F))) k.ny) (bm (qm C.T) rs [p.2])=true:=eN
   have Fq:∀ ρ',aj ρ1 ρ' p.2.nx->gu ay ae fx.res=some (rs.map (SE.ev ρ')):=fun ρ' ha=>G2 (fP.lQ ρ' ha) hr
   have Fp:∀ r∈rs,∀ ρ',aj ρ1 ρ' p.2.nx->r.ev ρ'=r.ev ρ1:=by
    intro r Fs ρ' ha;have e:=(Fq ρ' ha).symm.trans (Fq ρ1 (aj.refl _ _));have e:=Option.some.inj e;obtain⟨j,hj,e2⟩:=Cj Fs;have:=congrArg (fun l:List AV=>l[j]?) e
    simp only[jB,ey hj,JD,e2] at this
    exact Option.some.inj this
   obtain⟨S2,iO,nD,xr⟩:=Dg (l:=[p.2]) (.head _) fP Fp;obtain⟨q,hq,fY⟩:=bL (aB eN S2 iO);have h2:=xr.here;unfold mI at fY;simp only at fY
   generalize hσ:nG k.np (bm (DN k.np (k.np+q.nv) S2.F) q.facts (bm (x3 k.np (k.np+q.nv) S2.ar) q.ar (bm (xZ k.np (k.np+q.nv) S2.hp) q.hp (oM (zK k.np (k.np+q.nv)) q.res (rs.map (Bh S2.F)) .nil))))=σ at fY
   obtain⟨g1,g⟩:=ad fY;obtain⟨g2,g⟩:=ad g;obtain⟨g3,g⟩:=ad g;obtain⟨g4,g⟩:=ad g;obtain⟨g5,g⟩:=ad g;obtain⟨g6,g7⟩:=ad g;cases e1:eo σ q.hp with
   |none=>rw[e1] at g6; cases g6
   |some hs =>
    cases e2:eo σ q.ar with
    |none=>rw[e2] at g7; cases g7
    |some bh =>
     rw[e1] at g6;rw[e2] at g7;have cn:bA (σ.val ρ1) (ow k ρ st) q.hp q.ar q.live ae:=wB h2 g2 g3 g4 e1 e2 g6 g7;have tL:aj ρ (σ.val ρ1) k.np:=by
      intro j hj;show(σ j).ev ρ1=ρ j
      rw[<-hσ,x6 hj]; exact gP j hj
     have hv:rs.map (SE.ev ρ1)=q.res.map (SE.ev (σ.val ρ1)):=by
      rw[rQ (fun a b q=>pg h2.fs q) g1,yr]
      exact wo fun r _=>(Ib h2.fs).symm
     refine⟨jJ (rs.map (SE.ev ρ1)),ae,?_,fr,q,hq,σ.val ρ1,tL,by rw[hv],cn,fun f hf=>td h2.fs (aB g5 f hf)⟩
     obtain⟨n0,jw⟩:=jw;refine⟨n0+1,fun ag d h3 h4=>?_⟩
     cases d with
     |zero=>omega
     |succ d =>
      show oX E ag (ao E ag d) f args st=_
      have hp:uE E f args=none:=by unfold uE; rw[hP]
      unfold oX;rw[hp,hF];simp only;have nU:ak (ao E ag d) ag fx.body (bb args 0 .nil) st = .ok e ay ae:=jw ag d (by omega) (by omega)
      rw[nU];have UU:=Fq ρ1 (aj.refl _ _);cases e with
      |exit id=>exact absurd rfl (jO id)
      |norm=>simp only[bg,UU]
      |ret=>simp only[bg,UU]
theorem O4 {T:TT} {lz:Nat} {G:Nat->fS->Prop}
  (h:∀ f k,G f k->∃ (C:Cx) (fx:XF) (an:An) (n:Nat),C.T=T/\C.dE=k.dE/\C.lz=lz/\E.F.get f=some fx/\E.AA f=none/\Bm C n k fx an=true /\
   ∀ g k',k'∈C.K g->nw T k'=true/\((Nat.beq k'.lz lz=true/\G g k')\/∀ ρ,lF E T g k' ρ)) :
  ∀ f k,G f k->∀ ρ,lF E T f k ρ:=by
 have key:∀ (N:Nat) f k ρ,G f k->(k.dE.ev ρ).toNat<=N->lF E T f k ρ:=by
  intro N
  induction N with
  |zero =>
   intro f k ρ hG hN args st qf;obtain⟨C,fx,an,n,hT,hm,hg,hF,hP,qP,hK⟩:=h f k hG;subst hT;refine zH (m0:=k.dE.ev ρ) (fun g k' bQ=>?_) qP hF hP hm rfl qf
   obtain⟨a,b⟩:=hK g k' bQ;refine⟨a,fun ρ' hb=>?_⟩
   rcases b with⟨b1,_⟩ |b
   ·rw[hg] at hb
    have:=hb b1;omega
   ·exact b ρ'
  |succ N ih =>
   intro f k ρ hG hN args st qf;obtain⟨C,fx,an,n,hT,hm,hg,hF,hP,qP,hK⟩:=h f k hG;subst hT;refine zH (m0:=k.dE.ev ρ) (fun g k' bQ=>?_) qP hF hP hm rfl qf
   obtain⟨a,b⟩:=hK g k' bQ;refine⟨a,fun ρ' hb=>?_⟩
   rcases b with⟨b1,b2⟩ |b
   ·rw[hg] at hb
    have:=hb b1;exact ih g k' ρ' b2 (by omega)
   ·exact b ρ'
 exact fun f k hG ρ=>key _ f k ρ hG (dN _)
end
end Go.Ab
namespace Go.Ab
noncomputable section
open Go.Ev
open Classical
variable {T : TT} {W : Wr} {M K : Nat → Bool}
def kK (M:Nat->Bool):CT->Bool
 | .sl t _=>M t
 | .lens _=>false
 | .any=>false
 |_=>true
def sC (ct:CT) (a:AV):Bool:=match a,ct with
 | .int _ _,.str _=>true
 | .int _ _,.bool=>true
 | .int _ _,.sl _ _=>true
 |_,_=>false
theorem ub {ct:CT} {a:AV} (h:sC ct a=true):∃ k n,a = .int k n:=by
 cases a<;>first |exact⟨_,_,rfl⟩ |(unfold sC at h; cases h)
theorem P0 {ct:CT} {a b:AV} (h:sC ct a=true) (hc:HC T ct b) (hk:yd a b):False:=by
 obtain⟨k,n,rfl⟩:=ub h;have hk:b = .int k n\/b = .any:=hk;cases hc<;>first |(rcases hk with hk |hk<;>cases hk; done) |(unfold sC at h; cases h; done)
def ID (W:Wr) (aV:List CT):Prop:=∃ j a ct,W.Lb[j]?=some a/\aV[W.fo+j]?=some ct/\sC ct a=true
theorem ID.no {aV:List CT} {cs:List AV} (h:ID W aV) (hc:qZ T aV cs):¬ pO W cs:=by
 obtain⟨j,a,ct,h1,h2,h3⟩:=h;intro hk;obtain⟨hl,hg⟩:=hc.get;have aO:W.fo+j<cs.length:=by
  obtain⟨q,_⟩:=fU.1 h2
  omega
 have e:=ey aO
 exact P0 h3 (hg _ _ _ h2 e) (hk j a _ h1 e)
structure ye (T:TT) (W:Wr) (M:Nat->Bool):Prop where
 ok:∀ t d,M t=true->T.get t=some d->(d.aV.length≠W.s\/ID W d.aV)/\∀ ct∈d.aV,kK M ct=true
theorem KB {size:Nat} {m:Bool} {e e':AV} (hs:size≠W.s\/¬ pO W e.cells) (h:La W size m e e.cells e'):e'=e:=by
 obtain⟨h1,h2⟩:=h;rcases h2 with⟨_,h2⟩ |⟨h2,_,hk,_⟩
 ·rcases h1 with⟨cs,cD,rfl,rfl⟩ |⟨h3,h4⟩ |⟨_,h4⟩
  ·have:cD=cs:=h2; rw[this]
  ·rw[h3,h4] at h2; injection h2
  ·exact h4
 ·exact absurd hk (hs.resolve_left fun h=>h h2)
theorem BQ {size:Nat}:∀ {es cr:List AV} {m:Option Nat},DZ W size m es cr->(∀ e∈es,size≠W.s\/¬ pO W e.cells)->(∀ e∈es,∀ cy,kS W e.cells cy->cy=e.cells)->cr=es:=by
 intro es
 induction es with
 |nil=>intro cr m h _ _; cases h; rfl
 |cons e es ih =>
  intro cr m h hs he;cases h with
  |cons _ _ _ e' cy _ X1 h1 h2 h3 =>
   have:=he e (by simp) cy h1
   subst this;rw[KB (hs e (by simp)) h2,ih h3 (fun x hx=>hs x (by simp[hx])) fun x hx=>he x (by simp[hx])]
theorem ye.no (hM:ye T W M) {t:Nat} {d:Lr} (ht:M t=true) (hd:T.get t=some d) {es:List AV} (he:∀ e∈es,HT T t e):∀ e∈es,d.aV.length≠W.s\/¬ pO W e.cells:=fun e hm =>
 (hM.ok t d ht hd).1.imp id fun h=>h.no ((he e hm).len hd)
theorem J0 (hM:ye T W M) {t:Nat} {v:AV} (h:HT T t v):M t=true->∀ cy,kS W v.cells cy->cy=v.cells :=
 HT.rec (motive_1:=fun t v _=>M t=true->∀ cy,kS W v.cells cy->cy=v.cells) (motive_2:=fun ct c _=>kK M ct=true->∀ c',Up W c c'->c'=c)
  (motive_3:=fun aV cs _=>(∀ ct∈aV,kK M ct=true)->∀ cy,kS W cs cy->cy=cs)
  (fun{t v d} hd _ _ _ _ ih ht cy hu=>ih (hM.ok t d ht hd).2 cy hu)
  (fun{k n} _ _ c' h=>by cases h; rfl) (fun{m s} _ _ c' h=>by cases h; rfl) (fun b _ c' h=>by cases h; rfl) (fun{t m} _ c' h=>by cases h; rfl)
  (fun{t m d es aN} hd _ tJ ih ht c' h=>by
   cases h with
   |same=>rfl
   |sl _ _ cr _ h=>rw[BQ h (hM.no ht hd tJ) fun e he cy hu=>ih e he ht cy hu])
  (fun{m v} _ _ ht=>by cases ht) (fun v ht=>by cases ht)
  (fun _ cy h=>by cases h; rfl)
  (fun{c cs v vs} _ _ i1 i2 ht cy h=>by
   cases h with
   |cons _ a' _ l' h1 h2=>rw[i1 (ht c (by simp)) a' h1,i2 (fun x hx=>ht x (by simp[hx])) l' h2]) h
theorem N4 (hM:ye T W M) {ct:CT} {c c':AV} (h:HC T ct c) (ht:kK M ct=true) (hu:Up W c c'):c'=c:=by
 cases h with
 |int |str |bool |az=>cases hu; rfl
 |sl hd hl he =>
  cases hu with
  |same=>rfl
  |sl _ _ cr _ h=>rw[BQ h (hM.no ht hd he) fun e hm cy hu=>J0 hM (he e hm) ht cy hu]
 |lens=>cases ht
 |any=>cases ht
theorem LN {a b:AV} (h:Up W a b):intOf b=intOf a:=by cases h<;>rfl
theorem LL {a b:AV} (h:Up W a b):strOf b=strOf a:=by cases h<;>rfl
theorem Gx {a b:AV} (h:Up W a b):bB b=bB a:=by
 cases h with
 |same=>rfl
 |sl _ _ _ _ h=>exact h.length
 |_=>rfl
theorem LO {a b:AV} {x:Bool} (h:Up W a b):b = .bool x↔a = .bool x:=by
 constructor
 ·rintro rfl; cases h; rfl
 ·rintro rfl; cases h; rfl
def RD (M:Nat->Bool) (ct:Nat->Option CT) (a:Nat):Bool:=fN (Nat.ble (a % 8) 2) (aq (Nat.beq (a % 8) 3) (match ct (a / 8) with
 |some c=>kK M c
 |none=>false))
def stL (M:Nat->Bool) (ct:Nat->Option CT) (l:af):Bool:=aU (fun p=>RD M ct p.1) l.ts
def stB (M:Nat->Bool) (ct:Nat->Option CT) (f:BF):Bool:=BF.rec (fun _=>true) (stL M ct) (stL M ct) (fun _=>true) (fun _ _=>true) (fun _=>true) (fun _ h=>h) (fun _ _ a b=>aq a b) (fun _ _ a b=>aq a b) (fun _ _ a b=>aq a b) f
structure Alike (M:Nat->Bool) (ct:Nat->Option CT) (ρ ρ':cz):Prop where
 int:∀ n,intOf (ρ' n)=intOf (ρ n)
 str:∀ n,strOf (ρ' n)=strOf (ρ n)
 len:∀ n,bB (ρ' n)=bB (ρ n)
 bool:∀ n x,ρ' n = .bool x↔ρ n = .bool x
 imm:∀ n c,ct n=some c->kK M c=true->ρ' n=ρ n
variable {ct : Nat → Option CT} {ρ ρ' : cz}
theorem RC (h:Alike M ct ρ ρ') {a:Nat} (hs:RD M ct a=true):gf ρ' a=gf ρ a:=by
 unfold RD at hs;unfold gf;rcases bw hs with h1 |h1
 ·have h1:=iU h1
  have:a % 8=0\/a % 8=1\/a % 8=2:=by omega
  rcases this with q |q |q<;>rw[q]
  ·show intOf _=intOf _; rw[h.int]
  ·show((strOf _).length:Int)=_; rw[h.str]; rfl
  ·show(bB _:Int)=_; rw[h.len]; rfl
 ·obtain⟨h1,h2⟩:=ad h1
  rw[bt h1];split at h2
  ·rename_i c hc
   show(nX _:Int)=(nX _:Int)
   rw[h.imm _ c hc h2]
  ·cases h2
theorem Mf (h:Alike M ct ρ ρ') {l:af} (hs:stL M ct l=true):l.ev ρ'=l.ev ρ:=by
 have:∀ ts:List (Nat × Int),(∀ p∈ts,RD M ct p.1=true)->eA ρ' ts=eA ρ ts:=by
  intro ts
  induction ts with
  |nil=>intro _; rfl
  |cons p t ih=>intro hs; simp only[eA]; rw[RC h (hs p (.head _)),ih (fun q hq=>hs q (.tail _ hq))]
 simp only[af.ev]; rw[this _ (aB hs)]
theorem V0 (h:Alike M ct ρ ρ') {f:BF}:stB M ct f=true->(f.ev ρ'↔f.ev ρ):=by
 have hS:∀ s:SS,s.ev ρ'=s.ev ρ:=by intro s; cases s with
  |c s=>rfl
  |v n=>exact h.str n
 induction f with
 |k b=>intro _; rfl
 |ge l=>intro hs; simp only[BF.ev]; rw[Mf h hs]
 |eq l=>intro hs; simp only[BF.ev]; rw[Mf h hs]
 |u n=>intro _; exact h.bool n true
 |seq x y=>intro _; simp only[BF.ev]; rw[hS,hS]
 |dot n=>intro _; simp only[BF.ev]; rw[h.str]
 |not f ih=>intro hs; simp only[BF.ev]; rw[ih hs]
 |and f g i1 i2=>intro hs; obtain⟨a,b⟩:=ad hs; simp only[BF.ev]; rw[i1 a,i2 b]
 |or f g i1 i2=>intro hs; obtain⟨a,b⟩:=ad hs; simp only[BF.ev]; rw[i1 a,i2 b]
 |imp f g i1 i2=>intro hs; obtain⟨a,b⟩:=ad hs; simp only[BF.ev]; rw[i1 a,i2 b]
def PU (aV:List CT) (n:Nat):Option CT:=aV[n]?
theorem DS (hM:ye T W M) {aV:List CT} {cs cy:List AV} (h:qZ T aV cs) (hu:kS W cs cy):Alike M (PU aV) (fq cs) (fq cy):=by
 have hl:=hu.length;have key:∀ n:Nat,(cs[n]?=none/\cy[n]?=none)\/∃ a b:AV,cs[n]?=some a/\cy[n]?=some b/\Up W a b:=by
  intro n
  by_cases hn:n<cs.length
  ·exact .inr ⟨_,_,ey hn,ey (by omega),hu.get (ey hn) (ey (by omega))⟩
  ·exact .inl ⟨wv (by omega),wv (by omega)⟩
 have SN:∀ n:Nat,Up W (fq cs n) (fq cy n):=by
  intro n;unfold fq;rcases key n with⟨h1,h2⟩ |⟨a,b,h1,h2,h3⟩
  ·rw[h1,h2]; exact .same _
  ·rw[h1,h2]; exact h3
 refine⟨fun n=>LN (SN n),fun n=>LL (SN n),fun n=>Gx (SN n),fun n x=>LO (SN n),fun n c hc hi=>?_⟩
 unfold fq;rcases key n with⟨h1,h2⟩ |⟨a,b,h1,h2,h3⟩
 ·rw[h1,h2]
 ·rw[h1,h2]
  exact N4 hM (h.get.2 n c a hc h1) hi h3
def ctK (K:Nat->Bool):CT->Bool
 | .sl t _=>K t
 |_=>true
structure nk (T:TT) (W:Wr) (M K:Nat->Bool):Prop where
 imm:ye T W M
 closed:∀ t d,K t=true->T.get t=some d->∀ ct∈d.aV,ctK K ct=true
 conds:∀ t d,K t=true->T.get t=some d->∀ f∈d.conds,stB M (PU d.aV) f=true
 wr:∀ t d,K t=true->T.get t=some d->d.aV.length=W.s->∀ cy,qZ T d.aV cy->(∀ f∈d.conds,f.ev (fq cy))->pO W cy->qZ T d.aV (aZ cy W.fo W.new)/\∀ f∈d.conds,f.ev (fq (aZ cy W.fo W.new))
theorem Bu (cs:List AV):cs≠[AV.agg cs]:=fun h=>by
 have h8:=congrArg (fun l:List AV=>SizeOf.sizeOf l) h
 simp at h8;omega
theorem Ml {d:Lr} {v v':AV} (h1:d.agg=true->∃ cs,v = .agg cs) (h2:d.agg=false->atomic v) (hs:vK v v'):(d.agg=true->∃ cs,v' = .agg cs)/\(d.agg=false->atomic v'):=by
 constructor
 ·intro ha
  obtain⟨cs,rfl⟩:=h1 ha;rcases hs with⟨_,cD,_,h⟩ |⟨h,_⟩ |⟨_,h⟩
  ·exact⟨_,h⟩
  ·exact absurd h (Bu cs)
  ·exact⟨_,h⟩
 ·intro ha
  have xn:v.cells=[v]:=h2 ha;rcases hs with⟨cs,cD,rfl,_⟩ |⟨_,h⟩ |⟨h,_⟩
  ·exact absurd xn (Bu cs)
  ·exact h
  ·rw[xn] at h; cases h
theorem GB (hS:nk T W M K) {t:Nat} {v:AV} (h:HT T t v):K t=true->∀ cy,kS W v.cells cy->∀ m v',La W v.cells.length m v cy v'->HT T t v' :=
 HT.rec (motive_1:=fun t v _=>K t=true->∀ cy,kS W v.cells cy->∀ m v',La W v.cells.length m v cy v'->HT T t v') (motive_2:=fun ct c _=>ctK K ct=true->∀ c',Up W c c'->HC T ct c')
  (motive_3:=fun aV cs _=>(∀ ct∈aV,ctK K ct=true)->∀ cy,kS W cs cy->qZ T aV cy)
  (fun{t v d} hd h1 h2 h3 h4 ih hK cy hu m v' he=>by
   have hm:=ih (hS.closed t d hK hd) cy hu;have hc:∀ f∈d.conds,f.ev (fq cy):=fun f hf=>(V0 (DS hS.imm h3 hu) (hS.conds t d hK hd f hf)).2 (h4 f hf)
   obtain⟨a1,a2⟩:=Ml h1 h2 he.1;rcases he.2 with⟨_,e⟩ |⟨e1,e2,e3,e⟩
   ·exact .mk hd a1 a2 (by rw[e]; exact hm) (by rw[e]; exact hc)
   ·have hl:d.aV.length=W.s:=by rw[<-h3.get.1]; exact e1
    obtain⟨b1,b2⟩:=hS.wr t d hK hd hl cy hm hc e3;exact .mk hd a1 a2 (by rw[e]; exact b1) (by rw[e]; exact b2))
  (fun{k n} hk _ c' h=>by cases h; exact .int hk) (fun{m s} hs _ c' h=>by cases h; exact .str hs) (fun b _ c' h=>by cases h; exact .bool b) (fun{t m} _ c' h=>by cases h; exact .az)
  (fun{t m d es aN} hd hl he ih hK c' h=>by
   cases h with
   |same=>exact .sl hd hl he
   |sl _ _ cr _ h =>
    refine .sl hd (by rw[h.length]; exact hl) fun e' eO=>?_
    obtain⟨i,hi,e2⟩:=Cj eO;have pF:i<es.length:=by have:=h.length; omega
    obtain⟨cy,q1,q2⟩:=h.get (ey pF) (by rw[ey hi,e2])
    have hm:=nN pF;have hlen:es[i].cells.length=d.aV.length:=by have:=(he _ hm).len hd; exact this.get.1
    exact ih _ hm hK cy q1 _ e' (by rw[hlen]; exact q2))
  (fun{m v} h1 h2 _ c' h=>by
   refine .lens ?_ (by rw[Gx h]; exact h2)
   cases h with
   |same=>exact h1
   |sl=>rfl
   |ro=>cases h1
   |fn=>cases h1
   |agg=>cases h1
   |cv=>cases h1)
  (fun v _ c' h=>.any c')
  (fun _ cy h=>by cases h; exact .nil)
  (fun{c cs v vs} _ _ i1 i2 hK cy h=>by
   cases h with
   |cons _ a' _ l' h1 h2=>exact .cons (i1 (hK c (by simp)) a' h1) (i2 (fun x hx=>hK x (by simp[hx])) l' h2)) h
theorem Bf (hS:nk T W M K) {size:Nat} {es cr:List AV} {m:Option Nat} (h:DZ W size m es cr) {i:Nat} {e e':AV} (he:es[i]?=some e) (eO:cr[i]?=some e') (hs:e.cells.length=size) {t:Nat} (hK:K t=true) (ht:HT T t e):HT T t e':=by
 obtain⟨cy,q1,q2⟩:=h.get he eO;exact GB hS ht hK cy q1 _ e' (by rw[hs]; exact q2)
end
end Go.Ab
namespace Go.Ab
noncomputable section
open Go.Ev
open Go.RowKit
open Classical
variable {T : TT} {W : Wr} {M K : Nat → Bool}
mutual
inductive Pv (T:TT) (K:Nat->Bool):AV->AV->Prop where
 |same (a:AV):Pv T K a a
 |sl (size:Nat) (es cr:List AV) (t:lV):cr.length=es.length->(∀ (i:Nat) e e',es[i]?=some e->cr[i]?=some e'->∀ τ d,K τ=true->T.get τ=some d->d.aV.length=size->HT T τ e->HT T τ e')->Pv T K (.sl size es t) (.sl size cr t)
 |ro (cs cD:List AV) (off:Nat) (h:Option (Nat × Nat)):cD.length=cs.length->(∀ τ,K τ=true->HT T τ (.agg cs)->HT T τ (.agg cD))->Pv T K (.ro cs off h) (.ro cD off h)
 |fn (f:Nat) (a b a' b':List AV):Pv T K (.fn f a b) (.fn f a' b')
 |agg (cs cD:List AV):uo T K cs cD->Pv T K (.agg cs) (.agg cD)
 |cv (cs cD:List AV):uo T K cs cD->Pv T K (.cv cs) (.cv cD)
inductive uo (T:TT) (K:Nat->Bool):List AV->List AV->Prop where
 |nil:uo T K [] []
 |cons (a a':AV) (l l':List AV):Pv T K a a'->uo T K l l'->uo T K (a::l) (a'::l')
end
theorem uo.refl:∀ l:List AV,uo T K l l
 | []=>.nil
 |a::l=>.cons _ _ _ _ (.same a) (uo.refl l)
theorem uo.length {l l':List AV} (h:uo T K l l'):l'.length=l.length:=by
 induction l generalizing l' with
 |nil=>cases h; rfl
 |cons a l ih=>cases h with |cons _ _ _ _ _ h2=>simp[ih h2]
theorem uo.get {l l':List AV} (h:uo T K l l') {i:Nat} {a a':AV} (ha:l[i]?=some a) (u4:l'[i]?=some a'):Pv T K a a':=by
 induction l generalizing l' i with
 |nil=>simp at ha
 |cons x l ih=>cases h with
  |cons _ y _ l'' h1 h2=>cases i with
   |zero=>simp at ha u4; subst ha u4; exact h1
   |succ i=>simp at ha u4; exact ih h2 ha u4
theorem Pv.trans {a b:AV} (h:Pv T K a b):∀ c,Pv T K b c->Pv T K a c :=
 Pv.rec (motive_1:=fun a b _=>∀ c,Pv T K b c->Pv T K a c) (motive_2:=fun a b _=>∀ c,uo T K b c->uo T K a c)
  (fun a c h=>h)
  (fun size es cr t h1 h2 c h=>by
   cases h with
   |same=>exact .sl _ _ _ _ h1 h2
   |sl _ _ X1 _ h3 h4 =>
    refine .sl _ _ _ _ (h3.trans h1) fun i e e'' he he'' τ d q1 q2 q3 q4=>?_
    have hi:i<cr.length:=by
     obtain⟨q,_⟩:=fU.1 he
     omega
    have e1:=ey hi
    exact h4 i _ e'' e1 he'' τ d q1 q2 q3 (h2 i e _ he e1 τ d q1 q2 q3 q4))
  (fun cs cD off hm h1 h2 c h=>by
   cases h with
   |same=>exact .ro _ _ _ _ h1 h2
   |ro _ KJ _ _ h3 h4=>exact .ro _ _ _ _ (h3.trans h1) fun τ hk q=>h4 τ hk (h2 τ hk q))
  (fun f a b a' b' c h=>by
   cases h with
   |same=>exact .fn _ _ _ _ _
   |fn=>exact .fn _ _ _ _ _)
  (fun cs cD _ ih c h=>by
   cases h with
   |same=>exact .agg _ _ (ih _ (uo.refl _))
   |agg _ KJ h=>exact .agg _ _ (ih _ h))
  (fun cs cD _ ih c h=>by
   cases h with
   |same=>exact .cv _ _ (ih _ (uo.refl _))
   |cv _ KJ h=>exact .cv _ _ (ih _ h))
  (fun c h=>h)
  (fun a a' l l' _ _ i1 i2 c h=>by
   cases h with
   |cons _ a'' _ l'' h1 h2=>exact .cons _ _ _ _ (i1 _ h1) (i2 _ h2)) h
theorem uo.trans:∀ {a b c:List AV},uo T K a b->uo T K b c->uo T K a c
 | [],_,_,.nil,h=>h
 |_::_,_::_,_,.cons _ _ _ _ h1 h2,.cons _ _ _ _ h3 h4=>.cons _ _ _ _ (h1.trans _ h3) (h2.trans h4)
theorem kS.refl:∀ l:List AV,kS W l l
 | []=>.nil
 |a::l=>.cons _ _ _ _ (.same a) (kS.refl l)
theorem Ux (hS:nk T W M K) {a b:AV} (h:Up W a b):Pv T K a b :=
 Up.rec (motive_1:=fun a b _=>Pv T K a b) (motive_2:=fun a b _=>uo T K a b) (motive_3:=fun _ _ _ _ _=>True)
  (fun a=>.same a)
  (fun cs cD off hm h _=>by
   cases h with
   |cons _ _ _ _ cy _ _ h1 h2 h3 =>
    refine .ro _ _ _ _ ?_ fun τ hk q=>GB hS q hk cy h1 _ _ h2
    have hml:cy.length=cs.length:=h1.length;rcases h2.2 with⟨_,e⟩ |⟨_,e2,_,e⟩
    ·have e:cD=cy:=e
     rw[e,hml]
    ·have e:cD=aZ cy W.fo W.new:=e
     rw[e,l6 cy W.fo W.new e2]; simp; omega)
  (fun size es cr t h _=>.sl _ _ _ _ h.length fun i e e' he eO τ d q1 q2 q3 q4=>Bf hS h he eO (by rw[<-(q4.len q2).get.1] at q3; exact q3) q1 q4)
  (fun f a b a' b' _ _ _ _=>.fn _ _ _ _ _) (fun cs cD _ ih=>.agg _ _ ih) (fun cs cD _ ih=>.cv _ _ ih)
  .nil (fun a a' l l' _ _ i1 i2=>.cons _ _ _ _ i1 i2) (fun _ _=>trivial) (fun _ _ _ _ _ _ _ _ _ _ _ _=>trivial) h
theorem LP (hS:nk T W M K):∀ {a b:List AV},kS W a b->uo T K a b
 |_,_,.nil=>.nil
 |_,_,.cons _ _ _ _ h1 h2=>.cons _ _ _ _ (Ux hS h1) (LP hS h2)
theorem yL {α β:Type}:∀ (t:Tr α) (R:Nat->α->β->Prop),(∀ k x,t.get k=some x->∃ y,R k x y)->∃ t':Tr β,∀ k,(t.get k=none->t'.get k=none)/\∀ x,t.get k=some x->∃ y,t'.get k=some y/\R k x y:=by
 intro t
 induction t with
 |nil=>intro R _; exact⟨.nil,fun k=>⟨fun _=>rfl,fun x h=>by cases h⟩⟩
 |node v l r il ir =>
  intro R h;have hg:∀ k,(Tr.node v l r).get k=if k=0 then v else if k % 2=1 then l.get (k / 2) else r.get (k / 2-1):=fun k=>Tr.eP v l r k
  obtain⟨l',hl⟩:=il (fun k x y=>R (2*k+1) x y) fun k x hx=>h (2*k+1) x (by
   rw[hg,ba (by omega),bJ (by omega)]
   have:(2*k+1) / 2=k:=by omega
   rw[this]; exact hx)
  obtain⟨r',hr⟩:=ir (fun k x y=>R (2*k+2) x y) fun k x hx=>h (2*k+2) x (by
   rw[hg,ba (by omega),ba (by omega)]
   have:(2*k+2) / 2-1=k:=by omega
   rw[this]; exact hx)
  have hv:∃ v':Option β,(v=none->v'=none)/\∀ x,v=some x->∃ y,v'=some y/\R 0 x y:=by
   cases v with
   |none=>exact⟨none,fun _=>rfl,fun x h=>by cases h⟩
   |some x =>
    obtain⟨y,hy⟩:=h 0 x (by rw[hg,bJ rfl])
    refine⟨some y,fun h=>(by simp at h),fun x' h=>?_⟩
    cases h
    exact⟨y,rfl,hy⟩
  obtain⟨v',hv⟩:=hv;refine⟨.node v' l' r',fun k=>?_⟩
  have BH:(Tr.node v' l' r').get k=if k=0 then v' else if k % 2=1 then l'.get (k / 2) else r'.get (k / 2-1):=Tr.eP v' l' r' k
  rw[hg,BH]
  by_cases h0:k=0
  ·subst h0; simpa using hv
  ·rw[ba h0,ba h0]
   by_cases h1:k % 2=1
   ·rw[bJ h1,bJ h1]
    have e:2*(k / 2)+1=k:=by omega
    have:=hl (k / 2);rwa[e] at this
   ·rw[ba h1,ba h1]
    have e:2*(k / 2-1)+2=k:=by omega
    have:=hr (k / 2-1);rwa[e] at this
def ve (T:TT) (K:Nat->Bool):Option dR->Option dR->Prop
 |none,none=>True
 |some (.box _ cs),some (.box _ cD)=>uo T K cs cD
 |some .aN,some .aN=>True
 |some .gone,some .gone=>True
 |some (.map _ _),some (.map _ _)=>True
 |_,_=>False
theorem ve.refl:∀ e:Option dR,ve T K e e
 |none=>trivial
 |some (.box _ cs)=>uo.refl cs
 |some .aN=>trivial
 |some .gone=>trivial
 |some (.map _ _)=>trivial
theorem ve.trans {a b c:Option dR} (h:ve T K a b) (k:ve T K b c):ve T K a c:=by
 match a,b,c,h,k with
 |none,none,none,_,_=>trivial
 |some (.box _ _),some (.box _ _),some (.box _ _),h,k=>exact uo.trans h k
 |some .aN,some .aN,some .aN,_,_=>trivial
 |some .gone,some .gone,some .gone,_,_=>trivial
 |some (.map _ _),some (.map _ _),some (.map _ _),_,_=>trivial
 |none,none,some _,_,k=>exact absurd k id
 |none,some _,_,h,_=>exact absurd h id
structure Q8 (T:TT) (K:Nat->Bool) (own:Nat->Prop) (base:Nat) (g:G) (st:St) (w:World) (g':G) (ae:St) (w':World):Prop where
 rep:∀ a v,bI w g a v->∃ a',bI w' g' a' v/\Pv T K a a'
 next:st.next<=ae.next
 yD:∀ k,¬ own k->ve T K (st.heap.get k) (ae.heap.get k)
 below:Below base w w'
 kZ:g'.kZ=g.kZ
theorem Q8.trans {own:Nat->Prop} {base:Nat} {g g' zl:G} {st ae gn:St} {w w' IU:World} (h:Q8 T K own base g st w g' ae w') (k:Q8 T K own base g' ae w' zl gn IU):Q8 T K own base g st w zl gn IU :=
 ⟨fun a v hr=>let ⟨_,h1,h2⟩:=h.rep a v hr; let ⟨a2,h3,h4⟩:=k.rep _ v h1; ⟨a2,h3,h2.trans _ h4⟩,lS h.next k.next,fun j hj=>(h.yD j hj).trans (k.yD j hj),h.below.trans k.below,k.kZ.trans h.kZ⟩
theorem Q8.mono {own tg:Nat->Prop} {base:Nat} {g g':G} {st ae:St} {w w':World} (h:Q8 T K own base g st w g' ae w') (ho:∀ k,own k->tg k):Q8 T K tg base g st w g' ae w' :=
 ⟨h.rep,h.next,fun k hk=>h.yD k fun q=>hk (ho k q),h.below,h.kZ⟩
theorem Q8.ext {own:Nat->Prop} {base:Nat} {g g':G} {st ae:St} {w w':World} (h:Ext base g st w g' ae w') (hf:Fr own st ae):Q8 T K own base g st w g' ae w' :=
 ⟨fun a v hr=>⟨a,hr.ext h,.same a⟩,hf.next,fun k hk=>by rw[hf.same k hk]; exact .refl _,h.below,h.le.kZ⟩
section
variable {w w' : World} {g : G} {A o : Nat} {us : List Value}
theorem flat_get {s k r:Nat} {es:List AV} {e:AV} (h:∀ e∈es,e.cells.length=s) (he:es[k]?=some e) (hr:r<s):(flat es)[k*s+r]?=e.cells[r]?:=by
 rw[<-vG h he,pS,bJ hr,rJ]
theorem KN {ct:CT} {a c:AV} {u:Value} (h:sC ct a=true) (hc:HC T ct c) (h1:bI w g a u) (h2:bI w g c u):False:=by
 obtain⟨k,n,rfl⟩:=ub h;rw[bK h1] at h2;cases hc with
 |str=>cases cF h2
 |bool=>cases dI h2
 |az=>cases dn h2
 |sl=>obtain⟨_,_,_,_,_,_,_,_,_,_,hv,_⟩:=gU h2; cases hv
 |int=>cases h
 |lens=>cases h
 |any=>cases h
theorem NQ (hM:ye T W M) (jX:Al g A o W.s) (qN:∀ b s t,g.sz b s->g.sz b t->s=t) (SZ:W.Lb.length=us.length) (fY:W.fo+us.length<=W.s) (S0:∀ j a,W.Lb[j]?=some a->∃ v,w.cell? ⟨A,o+W.fo+j,none⟩=some v/\bI w g a v)
  (Ot:∀ c i,g.dL c i->¬ (c=A/\o+W.fo<=i/\i<o+W.fo+us.length)->w'.cell? ⟨c,i,none⟩=w.cell? ⟨c,i,none⟩) {aV:List CT} {cs:List AV} (h:qZ T aV cs) :
  (∀ ct∈aV,kK M ct=true)->∀ vs,RL w g cs vs->RL w' g cs vs :=
 qZ.rec (motive_1:=fun t v _=>M t=true->∀ vs,RL w g v.cells vs->RL w' g v.cells vs) (motive_2:=fun ct c _=>kK M ct=true->∀ v,bI w g c v->bI w' g c v)
  (motive_3:=fun aV cs _=>(∀ ct∈aV,kK M ct=true)->∀ vs,RL w g cs vs->RL w' g cs vs)
  (fun{t v d} hd _ _ _ _ ih ht vs hr=>ih (hM.ok t d ht hd).2 vs hr)
  (fun{k n} _ _ v h=>by rw[bK h]; exact .int k n) (fun{m s} _ _ v h=>by rw[cF h]; exact .str s) (fun b _ v h=>by rw[dI h]; exact .bool b) (fun{t m} _ v h=>by rw[dn h]; exact .az)
  (fun{t m d es aN} hd _ tJ ih ht v h=>by
   obtain⟨vs,b,p,cap,h1,h2,h3,h4,h5,h6,hv,h7⟩:=gU h;rw[hv];have Ta:∀ (l:List AV),(∀ e∈l,e∈es)->∀ us,RL w g (flat l) us->RL w' g (flat l) us:=by
    intro l
    induction l with
    |nil=>intro _ us h; cases h; exact .nil
    |cons e l ihl =>
     intro hm us h;rw[b8] at h ⊢;have hl:=h.length;have h8:=h.take e.cells.length;have h9:=h.drop e.cells.length;rw[List.take_left] at h8;rw[List.drop_left] at h9;have:=(ih e (hm e (by simp)) ht _ h8).append (ihl (fun x hx=>hm x (by simp[hx])) _ h9)
     rwa[List.take_append_drop] at this
   refine .sl _ _ _ vs b p cap (Ta es (fun _ h=>h) vs h1) (fun i u hu=>?_) h3 h4 h5 h6 h7
   obtain⟨q1,q2⟩:=h2 i u hu;refine⟨q1,(Ot b (p+i) q1 ?_).trans q2⟩
   rintro ⟨rfl,Kc,OI⟩
   rcases h7 with⟨h7,_⟩ |h7
   ·subst h7
    have:vs=[]:=qz (by rw[h1.length]; rfl)
    subst this; simp at hu
   ·have cJ:d.aV.length=W.s:=qN b _ _ h7.1 jX.1
    rcases(hM.ok t d ht hd).1 with jO |⟨j,a,ct,c1,c2,c3⟩
    ·exact jO cJ
    ·
     have hi:i<vs.length:=by
      obtain⟨q,_⟩:=fU.1 hu
      exact q
     have CU:=h1.length;have FA:(flat es).length=es.length*W.s:=er fun e he=>by rw[h4 e he,cJ]
     have C1:0<W.s:=by
      have:0<us.length:=by omega
      omega
     have ho:=jX.2;have hp:p % W.s=0:=by rw[<-cJ]; exact h7.2
     have hj:j<us.length:=by
      obtain⟨q,_⟩:=fU.1 c1
      omega
     obtain⟨x,hx⟩:∃ x,o=W.s*x:=⟨o / W.s,by have:=EN o W.s; omega⟩
     obtain⟨y,hy⟩:∃ y,p=W.s*y:=⟨p / W.s,by have:=EN p W.s; omega⟩
     have hn:es.length*W.s=W.s*es.length:=wz _ _;have hyx:y<=x:=by
      refine Nat.le_of_not_lt fun aO=>?_
      have:W.s*(x+1)<=W.s*y:=Nat.mul_le_mul_left _ aO;rw[Nat.mul_add] at this;omega
     have hxn:x<y+es.length:=by
      refine Nat.lt_of_not_le fun hle=>?_
      have:W.s*(y+es.length)<=W.s*x:=Nat.mul_le_mul_left _ hle;rw[Nat.mul_add] at this;omega
     have hq:x-y<es.length:=by omega
     have heq:=ey hq
     have hte:=tJ _ (nN hq);have hcs:=(hte.len hd);obtain⟨hl9,hg9⟩:=hcs.get;have hjl:W.fo+j<es[x-y].cells.length:=by rw[hl9,cJ]; omega
     have Xx:=ey hjl
     have jv:=hg9 _ _ _ c2 Xx;have xn:(flat es)[(x-y)*W.s+(W.fo+j)]?=some (es[x-y].cells[W.fo+j]):=by
      rw[flat_get (s:=W.s) (fun e he=>by rw[h4 e he,cJ]) heq (by omega)]
      exact Xx
     obtain⟨u',uH,CV⟩:=h1.get xn;obtain⟨_,hcell⟩:=h2 _ u' uH;obtain⟨v',qJ,vz⟩:=S0 j a c1;have hmul:W.s*x=W.s*y+(x-y)*W.s:=by
      rw[wz (x-y),<-Nat.mul_add]
      congr 1
      omega
     have epos:p+((x-y)*W.s+(W.fo+j))=o+W.fo+j:=by omega
     rw[epos] at hcell;rw[hcell] at qJ;cases qJ;exact KN c3 jv vz CV)
  (fun{m v} _ _ ht=>by cases ht) (fun v ht=>by cases ht)
  (fun _ vs h=>by cases h; exact .nil)
  (fun{c cs v vs} _ _ i1 i2 ht us h=>by
   cases h with
   |cons _ u _ us h1 h2=>exact .cons _ _ _ _ (i1 (ht c (by simp)) u h1) (i2 (fun x hx=>ht x (by simp[hx])) us h2)) h
end
section
variable {P : Program} {base : Nat} {g : G} {st : St} {w : World}
theorem Ss {w':World} {g:G} {a b:List AV} {es:List MapEntry} (h1:RL w' g a (es.map (·.key))) (h2:RL w' g b (es.map (·.val))):qY w' g (a.zip b) es:=by
 have l1:=h1.length;have l2:=h2.length;simp only[gK] at l1 l2;exact⟨by rw[List.map_fst_zip (by omega)]; exact h1,by rw[List.map_snd_zip (by omega)]; exact h2⟩
theorem LC (hI:Inv base g st w) (kF:g.kZ=base) (hS:nk T W M K) {cs:List AV} {off:Nat} {home:Option (Nat × Nat)} {v:Value} (hp:bI w g (.ro cs off home) v) {us:List Value} (hW:W=⟨cs.length,off,W.new,(cs.drop off).take us.length,home⟩)
  (hu:RL w g W.new us) (qN:One us) (C1:0<us.length) (fY:off+us.length<=cs.length) (S8:2<=cs.length) {aV:List CT} (hn:qZ T aV W.new) (hni:∀ ct∈aV,kK M ct=true) :
  ∃ b p ae,v = .pointer (some ⟨b,p+off,none⟩)/\w.there b (p+off) us.length/\Inv base g ae (w.setCells b (p+off) us)/\Q8 T K (fun _=>False) base g st w g ae (w.setCells b (p+off) us) /\
   (∀ a u,bI w g a u->∃ a',bI (w.setCells b (p+off) us) g a' u/\Up W a a') /\
   (∀ k bX ds,st.heap.get k=some (.box bX ds)->∃ oR,ae.heap.get k=some (.box bX oR)/\kS W ds oR/\(g.key k≠none->zT W ds oR))/\ae.next=st.next:=by
 obtain⟨vs,b,p,h1,h2,h3,hv,jX,hho⟩:=oh hp;have CU:=h1.length;have es:W.s=cs.length:=by rw[hW]
 have ef:W.fo=off:=by rw[hW]
 have ew:W.Lb=(cs.drop off).take us.length:=by rw[hW]
 have eh:W.home=home:=by rw[hW]
 have Xl:∀ i,i<vs.length->g.dL b (p+i):=fun i hi=>(h2 i _ (ey hi)).1
 have jx:base<=b:=by
  have:=hI.gH.own b cs.length jX.1 (by omega)
  omega
 have pU:w.there b (p+off) us.length:=fun j hj=>by
  obtain⟨q1,q2⟩:=h2 (off+j) _ (ey (by omega))
  rw[<-qB] at q1 q2;exact⟨by rw[q2]; rfl,hI.gH.Nw b _ _ jX.1 (by omega) q1⟩
 have Ot:∀ c i,¬ (c=b/\p+off<=i/\i<p+off+us.length)->(w.setCells b (p+off) us).cell? ⟨c,i,none⟩=w.cell? ⟨c,i,none⟩:=fun c i hc =>
  World.cell?_setCells_out b us (p+off) w ⟨c,i,none⟩ (fun hb _=>by
   have hb:c=b:=hb
   by_cases aO:i<p+off
   ·exact .inl aO
   ·exact .inr (by show p+off+us.length<=i; exact Nat.le_of_not_lt fun h=>hc ⟨hb,by omega,h⟩))
 have qR:=dy (w:=w) (off:=p+off) (us:=us) jx;have dF:∀ c,c≠b->c<w.heap.size->(w.setCells b (p+off) us).heap[c]?=w.heap[c]?:=fun c hc aO=>World.heap_setCells_other w b _ us aO hc
 have SZ:W.Lb.length=us.length:=by rw[ew]; simp; omega
 have S0:∀ j a,W.Lb[j]?=some a->∃ v,w.cell? ⟨b,p+W.fo+j,none⟩=some v/\bI w g a v:=by
  intro j a ha;rw[ew,pS] at ha
  split at ha
  ·rename_i hj
   rw[rJ] at ha
   obtain⟨u,uH,CV⟩:=h1.get ha;have:=(h2 _ u uH).2;rw[ef];rw[<-qB] at this;exact⟨u,this,CV⟩
  ·cases ha
 have jV:RL (w.setCells b (p+off) us) g W.new us:=NQ (W:=W) hS.imm (by rw[es]; exact jX) hI.gH.one SZ (by rw[es,ef]; exact fY) S0 (fun c i _ h=>Ot c i (by rw[ef] at h; exact h)) hn hni us hu
 have XK:DY W w (w.setCells b (p+off) us) g b p us:=by
  refine⟨by rw[es]; exact jX,by rw[eh]; exact hho,by rw[es]; exact S8,by rw[es,ef]; exact fY,jV,qN,S0,SZ,hI.gH.one,fun c i _ h=>Ot c i (by rw[ef] at h; exact h),?_⟩
  ·intro j u hu
   rw[ef];exact World.rangeAt_setCells_same w b (p+off) us pU j u hu
 have up:∀ a u,bI w g a u->∃ a',bI (w.setCells b (p+off) us) g a' u/\Up W a a':=fun a u h=>Eb XK h
 have rX:∀ k b',live st.heap k->g.key k=some b'->b'≠b:=by
  rintro k b' hl hk rfl
  exact hI.dP k b' _ hl hk (Xl 0 (by omega))
 obtain⟨t',Fm⟩:=yL st.heap (fun k e e'=>(g.key k=none/\e'=e)\/∃ b',g.key k=some b'/\((∃ bX ds oR,e = .box bX ds/\e' = .box bX oR/\(kS W ds oR/\zT W ds oR)/\nH (w.setCells b (p+off) us) g b' e')\/(∃ bX kv kv',e = .map bX kv/\e' = .map bX kv'/\nH (w.setCells b (p+off) us) g b' e')\/(e.obj=false/\e'=e))) (by
  intro k e he;cases hk:g.key k with
  |none=>exact⟨e,.inl ⟨rfl,rfl⟩⟩
  |some b' =>
   cases e with
   |box bX ds =>
    have jO:=rX k b' ⟨_,he,rfl⟩ hk;have A3:=dF b' jO (hI.cK k b' hk).2;obtain⟨⟨us',q1,q2,q3,q4⟩,_⟩:=hI.xI k _ b' he hk;obtain⟨oR,r1,r2⟩:=Rp XK q1;exact⟨.box bX oR,.inr ⟨b',rfl,.inl ⟨bX,ds,oR,rfl,rfl,r2,us',r1,q2,qc q3 A3,gB q4 A3⟩⟩⟩
   |map bX kv =>
    have jO:=rX k b' ⟨_,he,rfl⟩ hk;have A3:=dF b' jO (hI.cK k b' hk).2;obtain⟨⟨cr,clock,q1,q2,q3⟩,_⟩:=hI.xI k _ b' he hk;obtain⟨a1,r1,_⟩:=zY XK q2;obtain⟨a2,r2,_⟩:=zY XK q3;exact⟨.map bX (a1.zip a2),.inr ⟨b',rfl,.inr (.inl ⟨bX,kv,_,rfl,rfl,cr,clock,A3.trans q1,Ss r1 r2⟩)⟩⟩
   |aN=>exact⟨.aN,.inr ⟨b',rfl,.inr (.inr ⟨rfl,rfl⟩)⟩⟩
   |gone=>exact⟨.gone,.inr ⟨b',rfl,.inr (.inr ⟨rfl,rfl⟩)⟩⟩)
 have get':∀ k e',t'.get k=some e'->∃ e,st.heap.get k=some e/\((g.key k=none/\e'=e)\/∃ b',g.key k=some b'/\((∃ bX ds oR,e = .box bX ds/\e' = .box bX oR/\(kS W ds oR/\zT W ds oR)/\nH (w.setCells b (p+off) us) g b' e')\/(∃ bX kv kv',e = .map bX kv/\e' = .map bX kv'/\nH (w.setCells b (p+off) us) g b' e')\/(e.obj=false/\e'=e))):=by
  intro k e' eO;cases he:st.heap.get k with
  |none=>rw[(Fm k).1 he] at eO; cases eO
  |some e =>
   obtain⟨y,hy,hR⟩:=(Fm k).2 e he;rw[eO] at hy; cases hy;exact⟨e,rfl,hR⟩
 have Hy:∀ k,live t' k->live st.heap k:=by
  rintro k ⟨e',eO,ho⟩
  obtain⟨e,he,hR⟩:=get' k e' eO;refine⟨e,he,?_⟩
  rcases hR with⟨_,rfl⟩ |⟨_,_,⟨_,_,_,rfl,_⟩ |⟨_,_,_,rfl,_⟩ |⟨_,rfl⟩⟩<;>first |exact ho |rfl
 have jD:∀ k,t'.get k=some .aN->st.heap.get k=some .aN:=by
  intro k hk;obtain⟨e,he,hR⟩:=get' k _ hk;rcases hR with⟨_,rfl⟩ |⟨_,_,⟨_,_,_,_,h,_⟩ |⟨_,_,_,_,h,_⟩ |⟨_,rfl⟩⟩<;>first |exact he |cases h
 refine⟨b,p,⟨t',st.next⟩,hv,pU,?_,?_,up,?_,rfl⟩
 ·refine⟨lS hI.cf qR.size,?_,fun k c hk=>?_,fun k c s e hk=>?_,fun c i hc=>?_,?_,?_,fun k c i hl=>hI.dP k c i (Hy k hl),fun k j c h1 h2=>hI.gv k j c (Hy k h1) (Hy j h2),fun k id c s e h1 h2=>hI.eX k id c s e (Hy k h1) (jD id h2),
   fun i j c s e s' e' h1 h2=>hI.gk i j c s e s' e' (jD i h1) (jD j h2),hI.gH.le qR.size fun _ _ _ _=>World.frozen?_setCells _ _ _ _ _⟩
  ·intro k e' eO
   obtain⟨e,he,_⟩:=get' k e' eO;exact hI.fl k e he
  ·have:=hI.cK k c hk; have q:=qR.size; exact⟨this.1,qy this.2 q⟩
  ·have:=hI.dS k c s e hk; have q:=qR.size; exact⟨this.1,qy this.2 q⟩
  ·by_cases hc2:c=b/\p+off<=i/\i<p+off+us.length
   ·obtain⟨rfl,q1,q2⟩:=hc2
    have:=World.rangeAt_setCells_same w c (p+off) us pU (i-(p+off)) _ (ey (by omega))
    have e:p+off+(i-(p+off))=i:=by omega
    rw[e] at this;exact⟨_,this⟩
   ·obtain⟨u,hu⟩:=hI.eQ c i hc
    exact⟨u,(Ot c i hc2).trans hu⟩
  ·intro k e' b' eO hk
   obtain⟨e,he,hR⟩:=get' k e' eO;obtain⟨q1,q2⟩:=hI.xI k e b' he hk;rcases hR with⟨h0,_⟩ |⟨b2,h0,hR⟩
   ·rw[hk] at h0; cases h0
   ·rw[hk] at h0; cases h0
    rcases hR with⟨_,_,_,rfl,rfl,_,h⟩ |⟨_,_,_,rfl,rfl,h⟩ |⟨h,rfl⟩
    ·exact⟨h,q2⟩
    ·exact⟨h,q2⟩
    ·refine⟨?_,q2⟩
     cases e'<;>first |trivial |simp[dR.obj] at h
  ·intro id c s e he hk
   obtain⟨q1,q2,q3,q4⟩:=hI.aN id c s e (jD id he) hk;exact⟨q1,q2,World.there_setCells q3 b _ us,q4⟩
 ·refine⟨fun a u h=>let ⟨a',q1,q2⟩:=up a u h; ⟨a',q1,Ux hS q2⟩,dN _,fun k _=>?_,qR,rfl⟩
  show ve T K (st.heap.get k) (t'.get k)
  cases he:st.heap.get k with
  |none=>rw[(Fm k).1 he]; trivial
  |some e =>
   obtain⟨y,hy,hR⟩:=(Fm k).2 e he;rw[hy];rcases hR with⟨_,rfl⟩ |⟨_,_,⟨_,_,_,rfl,rfl,h,_⟩ |⟨_,_,_,rfl,rfl,_⟩ |⟨_,rfl⟩⟩
   ·exact .refl _
   ·exact LP hS h.1
   ·trivial
   ·exact .refl _
 ·intro k bX ds he
  obtain⟨y,hy,hR⟩:=(Fm k).2 _ he;rcases hR with⟨h0,rfl⟩ |⟨b',h0,⟨_,_,oR,e1,rfl,h,_⟩ |⟨_,_,_,e1,_⟩ |⟨h,_⟩⟩
  ·exact⟨ds,hy,kS.refl _,fun q=>absurd h0 q⟩
  ·cases e1; exact⟨oR,hy,h.1,fun _=>h.2⟩
  ·cases e1
  ·cases h
end
end
end Go.Ab
theorem G4:type_of% @Array.getElem?_eq_some_iff:=@Array.getElem?_eq_some_iff
namespace Go.Ab
open Go.Ev
open Go.RowKit
section
variable {P : Program} {base : Nat} {g : G} {st : St} {w : World} {tm : Tr AV}
theorem Ce {Tp:Nat->Option TI} (hT:bD P Tp) {call:Nat->List AV->St->Option (AV × St)} (cL:gA P base call) {kd:Nat->Nat} {n:Nat} {ops:Array Oper} {Q:Exit->Act->World->Prop} {l2:List Oper}:∀ (l:List Oper) (xs:List XR) (tm:Tr AV) (st:St) (ay:Tr AV) (ae:St),
  fK Tp kd n ops.toList l=some xs->dm call xs tm st=some (ay,ae)->∀ (a:Act) (w:World) (g:G),cM w g n tm a->Inv base g st w ->
  (∀ a' w' g',cM w' g' n ay a'->Inv base g' ae w'->Ext base g st w g' ae w'->wpList P ops Q l2 a' w')->wpList P ops Q (l++l2) a w:=by
 intro l
 induction l with
 |nil =>
  intro xs tm st ay ae hc hr a w g hS hI hQ;simp[fK] at hc; subst hc;have hr:some (tm,st)=some (ay,ae):=hr;injection hr with hr
  injection hr with h1 h2
  subst h1 h2;exact hQ a w g hS hI (.refl ..)
 |cons o l ih =>
  intro xs tm st ay ae hc hr a w g hS hI hQ;obtain⟨x,rest,rfl,w3,cW,pY,aO,Lm⟩:=qU hc;have hr:p9 call (dm call rest) x tm st (eg tm x.guard)=some (ay,ae):=hr;have Xk:(o.guard=none/\x.guard=none)\/∃ j b d,o.guard=some (j,b)/\(ops[j]?).bind (·.dst)=some d/\x.guard=some (d,b):=by
   simpa using Lm
  show wpList P ops Q (o::(l++l2)) a w
  cases hq:eg tm x.guard with
  |none=>rw[hq] at hr; cases hr
  |some q =>
   rw[hq] at hr;have rT:=my Xk hq (fun d b _=>hS.rep d)
   unfold wpList;cases q with
   |false =>
    rw[rT];simp only[JB,pP];have hr:dm call rest (eH tm x.dst gg) st=some (ay,ae):=hr;refine ih rest _ st ay ae w3 hr _ w g ?_ hI hQ
    rw[<-pY];exact hS.put aO fC
   |true =>
    rw[rT];simp only[oq];have hr:qd (dm call rest) tm x.dst (mY call st tm x.op)=some (ay,ae):=hr;cases hd:mY call st tm x.op with
    |none=>rw[hd] at hr; cases hr
    |some p =>
     obtain⟨r,bY⟩:=p;rw[hd] at hr;have hr:dm call rest (eH tm x.dst r) bY=some (ay,ae):=hr;refine .inl (ji hT cL cW hI (fun y _=>hS.Cy y) hd fun v w' g' h1 h2 h3=>?_)
     refine ih rest _ bY ay ae w3 hr _ w' g' ?_ h2 (fun a'' IU zl h4 h5 h6=>hQ a'' IU zl h4 h5 (h3.trans h6))
     rw[<-pY];exact(hS.ext h3).put aO h1
theorem vP {ops:Array Oper} {Q:Exit->Act->World->Prop} {o:Oper} {l:List Oper} {a:Act} (hg:o.guard=none) (h:Oper.wp P o a w (wpList P ops Q l) Q):wpList P ops Q (o::l) a w:=by
 unfold wpList;have:Region.wanted o (yielded ops a.tmps)=true:=by simp[Region.wanted,hg]
 rw[bJ this];exact .inl h
end
section
variable {P : Program} {w : World}
def Uo (Z:Act->World->Prop):Exit->Act->World->Prop
 | .normal,a,w=>Z a w
 |_,_,_=>False
theorem Nj {o:Oper} {a:Act} {K:Act->World->Prop} {Z:Act->World->Prop} {Q':Exit->Act->World->Prop} (h:Oper.wp P o a w K (Uo Z)):Oper.wp P o a w K Q':=by
 unfold Oper.wp at *
 generalize (execOp a.eval o).run P w=r at *
 cases r with
 |ok n w' =>
  cases n<;>simp only[Oper.upon] at h ⊢ <;>
   first
    |exact h
    |exact h.mono (fun e IU he=>by
      cases e with
      |returned v=>exact he
      |panicked c=>exact he.elim
      |outgrown=>obtain⟨a,w,h⟩:=he; exact h.elim)
 |halt x w' =>
  cases x<;>simp only[Oper.upon] at h ⊢<;>first |exact h |exact h.elim
theorem dr {aG:Array Bool} {b:Bool} {i:Nat} (hi:i<aG.size):marks (aG.push b) i=marks aG i:=by
 unfold marks;rw[mD,mD,JG,ba (by omega)]
theorem wJ {aG:Array Bool} {b:Bool}:marks (aG.push b) aG.size=b:=by
 unfold marks;rw[mD,JG,bJ rfl]
 rfl
theorem po {ops:Array Oper} {aG:Array Bool} {i:Nat} {o:Oper} (cJ:aG.size=ops.size) (ho:ops[i]?=some o) (hm:marks aG i=false) (hd:∀ e∈o.after,Region.binds .any e=true->marks aG e.on=true):i∈Region.ready .any ops aG:=by
 have hi:i<ops.size:=by
  have:=(G4.1 ho).1; exact this
 unfold Region.ready;rw[List.mem_filter];refine⟨tb.2 hi,?_⟩
 rw[ho];simp only[kQ,JD,JC];refine⟨?_,Array.all_eq_true'.2 fun e he=>?_⟩
 ·unfold marks at hm
  have hl:i<aG.size:=by omega
  simp only[Array.getD,hl,dif_pos] at hm ⊢
  simpa using hm
 ·cases hb:Region.binds .any e with
  |false=>simp
  |true =>
   have:=hd e he hb;unfold marks at this;rw[this]; simp
theorem IK {pre:Array Oper} {o:Oper} {Q:Exit->Act->World->Prop} {Z:Act->World->Prop} (kD:oz 0 (pre.push o).toList=true) (hlast:∀ j,j<pre.size->Nat.testBit ((cC [] (pre.push o).toList).getD pre.size 0) j=true)
  (hZ:∀ a w,Z a w->wpOp P (pre.push o) Q pre.size (fun a w=>Q .normal a w) a w):∀ (fuel:Nat) (aG:Array Bool) (a:Act) (w:World),aG.size=pre.size ->
   (∀ (j:Nat) (oj:Oper),pre[j]?=some oj->marks aG j=true->∀ e∈oj.after,Region.binds .any e=true->marks aG e.on=true) ->
   wpAny P .any pre (Uo Z) fuel aG a w->wpAny P .any (pre.push o) Q (fuel+1) (aG.push false) a w:=by
 have Hw:(pre.push o).toList=pre.toList++[o]:=by simp
 have jn:∀ i,i<pre.size->(pre.push o)[i]?=pre[i]?:=fun i hi=>by rw[JG,ba (by omega)]
 have rV:∀ (i:Nat) (oi:Oper),(pre.push o)[i]?=some oi->(∀ e∈oi.after,Region.binds .any e=true->e.on<i)/\∀ j b,oi.guard=some (j,b)->j<i:=fun i oi ho=>by
  have h:=fc _ 0 kD i oi (by rw[MX]; exact ho)
  have h1:∀ e∈oi.after,Region.binds .any e=true->e.on<i:=fun e he hb=>by
   have:=h.1 e (by simpa using he) (by rw[db]; exact hb)
   simpa using this
  refine⟨h1,fun j b hg=>?_⟩
  obtain⟨e,he,hb,rfl⟩:=h.2 j b hg;exact h1 e (by simpa using he) (by rw[<-db]; exact hb)
 have Fw:(pre.push o)[pre.size]?=some o:=by rw[JG,bJ rfl]
 have gM:∀ (aG:Array Bool),aG.size=pre.size->(∀ (j:Nat) (oj:Oper),pre[j]?=some oj->marks aG j=true->∀ e∈oj.after,Region.binds .any e=true->marks aG e.on=true) ->
   pre.size∈Region.ready .any (pre.push o) (aG.push false)->∀ j,j<pre.size->marks aG j=true:=by
  intro aG cJ iC cn j hj;obtain⟨o',nQ,_,_,hd⟩:=Go.Ev.mem_ready cn (by simp[cJ])
  rw[Fw] at nQ; injection nQ with nQ; subst nQ
  have hb:∀ e∈o.after,Region.binds .any e=true->e.on<pre.size:=(rV _ o Fw).1;refine gD kD (D:=fun j=>if j=pre.size then false else marks aG j) ?_ pre.size o (by rw[MX]; exact Fw) (fun e he OT=>?_) j (hlast j hj) |> fun h=>by
   have h:(if j=pre.size then false else marks aG j)=true:=h
   rwa[ba (by omega)] at h
  ·intro i oi nT hD e he OT
   have nT:(pre.push o)[i]?=some oi:=by rw[MX] at nT; exact nT
   have OT:Region.binds .any e=true:=by rw[<-db]; exact OT
   have he:e∈oi.after:=by simpa using he
   have hD:(if i=pre.size then false else marks aG i)=true:=hD
   by_cases hi:i=pre.size
   ·rw[bJ hi] at hD; cases hD
   ·rw[ba hi] at hD
    have aO:i<pre.size:=by
     have:=(G4.1 nT).1
     simp at this; omega
    have h1:=(rV i oi nT).1 e he OT;rw[jn i aO] at nT;show(if e.on=pre.size then false else marks aG e.on)=true
    rw[ba (by omega)]
    exact iC i oi nT hD e he OT
  ·have OT:Region.binds .any e=true:=by rw[<-db]; exact OT
   have he:e∈o.after:=by simpa using he
   have h1:=hb e he OT;show(if e.on=pre.size then false else marks aG e.on)=true
   rw[ba (by omega)]
   have:=hd e he OT;rwa[dr (by omega)] at this
 intro fuel
 induction fuel with
 |zero =>
  intro aG a w cJ iC h;obtain⟨h0,h⟩:=h;have hA:∀ i,i<pre.size->marks aG i=true:=qx h0 cJ fun i oi nT e he hb=>(rV i oi (by rw[jn i (G4.1 nT).1]; exact nT)).1 e he hb
  have ze:pre.size∈Region.ready .any (pre.push o) (aG.push false):=po (by simp[cJ]) Fw (by rw[<-cJ]; exact wJ) fun e he hb=>by
   have h1:=(rV _ o Fw).1 e he hb;rw[dr (by omega)]; exact hA _ h1
  refine⟨fun hr=>(by rw[hr] at ze; cases ze),fun i hi=>?_⟩
  obtain⟨oi,_,hf,aO,_⟩:=Go.Ev.mem_ready hi (by simp[cJ])
  have Xi:i=pre.size:=by
   rcases Nat.lt_or_ge i pre.size with hh |hh
   ·rw[dr (by omega),hA i hh] at hf; cases hf
   ·simp at aO; omega
  subst Xi;refine wpOp_mono (fun a w hq=>wpAny_done ?_ hq _) (hZ a w h)
  rw[MW];intro k hk;obtain⟨_,_,hf,aO,_⟩:=Go.Ev.mem_ready hk (by simp[cJ])
  unfold marks at hf;rw[mD,EP] at hf
  by_cases he:pre.size=k
  ·rw[bJ he] at hf
   rw[bJ (by simp; omega)] at hf
   cases hf
  ·rw[ba he] at hf
   have bQ:k<pre.size:=by simp at aO; omega
   have:=hA k bQ;rw[<-dr (b:=false) (by omega)] at this
   unfold marks at this;rw[mD] at this;rw[this] at hf; cases hf
 |succ fuel ih =>
  intro aG a w cJ iC h;obtain⟨h0,h⟩:=h
  by_cases ze:pre.size∈Region.ready .any (pre.push o) (aG.push false)
  ·have hA:=gM aG cJ iC ze
   have hr0:Region.ready .any pre aG=[]:=by
    rw[MW];intro k hk;obtain⟨_,_,hf,aO,_⟩:=Go.Ev.mem_ready hk cJ;rw[hA k aO] at hf; cases hf
   refine⟨fun hr=>(by rw[hr] at ze; cases ze),fun i hi=>?_⟩
   obtain⟨oi,_,hf,aO,_⟩:=Go.Ev.mem_ready hi (by simp[cJ])
   have Xi:i=pre.size:=by
    rcases Nat.lt_or_ge i pre.size with hh |hh
    ·rw[dr (by omega),hA i hh] at hf; cases hf
    ·simp at aO; omega
   subst Xi;refine wpOp_mono (fun a w hq=>wpAny_done ?_ hq _) (hZ a w (h0 hr0))
   rw[MW];intro k hk;obtain⟨_,_,hf,aO,_⟩:=Go.Ev.mem_ready hk (by simp[cJ])
   unfold marks at hf;rw[mD,EP] at hf
   by_cases he:pre.size=k
   ·rw[bJ he] at hf
    rw[bJ (by simp; omega)] at hf
    cases hf
   ·rw[ba he] at hf
    have bQ:k<pre.size:=by simp at aO; omega
    have:=hA k bQ;rw[<-dr (b:=false) (by omega)] at this
    unfold marks at this;rw[mD] at this;rw[this] at hf; cases hf
  ·have Th:∀ i,i∈Region.ready .any (pre.push o) (aG.push false)->i<pre.size:=fun i hi=>by
    obtain⟨_,_,_,aO,_⟩:=Go.Ev.mem_ready hi (by simp[cJ])
    simp at aO;rcases Nat.lt_or_ge i pre.size with hh |hh
    ·exact hh
    ·have:i=pre.size:=by omega
     subst this; exact absurd hi ze
   refine⟨fun hr=>?_,fun i hi=>?_⟩
   ·have hr0:Region.ready .any pre aG=[]:=by
     rw[MW];intro k hk;obtain⟨ok,nS,hf,aO,hd⟩:=Go.Ev.mem_ready hk cJ;have:k∈Region.ready .any (pre.push o) (aG.push false):=po (by simp[cJ]) (by rw[jn k aO]; exact nS) (by rw[dr (by omega)]; exact hf) fun e he hb=>by
      have h1:=(rV k ok (by rw[jn k aO]; exact nS)).1 e he hb
      rw[dr (by omega)]; exact hd e he hb
     rw[hr] at this; cases this
    have hA:∀ i,i<pre.size->marks aG i=true:=qx hr0 cJ fun i oi nT e he hb=>(rV i oi (by rw[jn i (G4.1 nT).1]; exact nT)).1 e he hb
    refine absurd (po (by simp[cJ]) Fw (by rw[<-cJ]; exact wJ) fun e he hb=>?_) ze
    have h1:=(rV _ o Fw).1 e he hb;rw[dr (by omega)]; exact hA _ h1
   ·have aO:=Th i hi
    obtain⟨oi,nT,hf,_,hd⟩:=Go.Ev.mem_ready hi (by simp[cJ])
    have Te:=nT;rw[jn i aO] at Te;rw[dr (by omega)] at hf
    have dA:∀ e∈oi.after,Region.binds .any e=true->marks aG e.on=true:=fun e he hb=>by
     have h1:=(rV i oi nT).1 e he hb;have:=hd e he hb;rwa[dr (by omega)] at this
    have h2:=h i (po cJ Te hf dA);have qK:(aG.push false).setIfInBounds i true=(aG.setIfInBounds i true).push false:=by
     apply Array.ext_getElem?
     intro k;simp only[EP,JG,Array.size_push,Array.size_setIfInBounds]
     by_cases hk:i=k
     ·subst hk
      rw[bJ rfl,bJ (by omega),ba (by omega),bJ rfl,bJ (by omega)]
     ·rw[ba hk,ba hk]
    rw[qK];have hw:Region.wanted oi (yielded (pre.push o) a.tmps)=Region.wanted oi (yielded pre a.tmps):=by
     unfold Region.wanted;cases Lm:oi.guard with
     |none=>rfl
     |some jb =>
      obtain⟨j,b⟩:=jb;have:=(rV i oi nT).2 j b Lm;simp only;have:yielded (pre.push o) a.tmps j=yielded pre a.tmps j:=by
       unfold yielded;rw[jn j (by omega)]
      rw[this]
    have Kb:∀ j,marks (aG.setIfInBounds i true) j=if j=i then true else marks aG j:=by
     intro j;unfold marks
     by_cases hj:j=i
     ·subst hj
      have:j<aG.size:=by omega
      simp[mD,this]
     ·have:i≠j:=fun e=>hj e.symm
      simp[mD,this,hj]
    have next:∀ a w,wpAny P .any pre (Uo Z) fuel (aG.setIfInBounds i true) a w->wpAny P .any (pre.push o) Q (fuel+1) ((aG.setIfInBounds i true).push false) a w:=fun a w hh=>by
     refine ih _ a w (by simpa using cJ) (fun j oj hj hm e he hb=>?_) hh
     rw[Kb] at hm ⊢
     by_cases q9:j=i
     ·subst q9
      rw[Te] at hj; injection hj with hj; subst hj
      rw[dA e he hb]; simp
     ·rw[ba q9] at hm
      rw[iC j oj hj hm e he hb]; simp
    unfold wpOp at h2 ⊢;rw[Te] at h2;rw[nT];simp only at h2 ⊢;rw[hw];split
    ·rename_i hwt
     rw[bJ hwt] at h2;rcases h2 with h2 |⟨_,a,w,h2⟩
     ·exact .inl (Nj (Oper.wp_mono next h2))
     ·exact h2.elim
    ·rename_i hwt
     rw[ba hwt] at h2;exact next _ _ h2
end
end Go.Ab
