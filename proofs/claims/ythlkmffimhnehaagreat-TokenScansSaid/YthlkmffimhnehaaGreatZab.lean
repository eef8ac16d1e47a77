/- Parts of the proof; no condition. -/
import Derived.Test.YthlkmffimhnehaaGreatZaa
import Derived.Laws.MakeOwn
import Derived.Deep.Upon
import Derived.Calls
import Derived.RegionTactic
set_option linter.unusedSimpArgs false
set_option linter.unusedVariables false
theorem tc:type_of% @Nat.zero_le:=@Nat.zero_le
theorem nM:type_of% @decide_eq_false:=@decide_eq_false
namespace Go.Ev
open Go.RowKit
section
variable {P : Program} {T : Nat → Option TI} {base : Nat} {g : G} {st : St} {w : World} {ρ : Operand → Value} {o : Oper} {tm : Tr AV} {r : AV}
theorem xS {x:Option Operand} {y:Option XO} (h:lO x=some y):(x=none/\y=none)\/∃ a b,x=some a/\y=some b/\aH a=some b:=by
 unfold lO at h;split at h
 ·injection h with h; exact .inl ⟨rfl,h.symm⟩
 ·split at h
  ·injection h with h; subst h; exact .inr ⟨_,_,rfl,rfl,by assumption⟩
  ·cases h
theorem nf {n cap:Nat} (Ki:n<=cap) {isSlice:Bool} {lo hi:Option Operand} {UI pF:Option XO} {l h:Nat} (Kc:lO lo=some UI) (OI:lO hi=some pF) (hb:bounds tm n UI pF=some (l,h))
  (h1:∀ x,lo=some x->b6 w g tm ρ x) (h2:∀ x,hi=some x->b6 w g tm ρ x) (w':World) :
  (Instr.sliceBounds isSlice n cap (lo.map ρ) (hi.map ρ) none).run P w' = .ok (l,h,cap) w'/\l<=h/\h<=n:=by
 unfold bounds at hb;split at hb<;>try cases hb
 rename_i hh hhe;split at hb<;>try cases hb
 rename_i ll hle;split at hb<;>try cases hb
 rename_i Q0;simp only[kQ] at Q0;have Xf:=gW Q0.1;have hhn:=gW Q0.2;refine⟨?_,Xf,hhn⟩
 have eh:(hi=none/\h=n)\/∃ x k,hi=some x/\ρ x = .int k (h:Int):=by
  rcases xS OI with⟨rfl,rfl⟩ |⟨a,b,rfl,rfl,hc⟩
  ·simp at hhe; exact .inl ⟨rfl,hhe.symm⟩
  ·obtain⟨k,hk⟩:=kz hhe
   have:=h2 a rfl b hc;rw[hk] at this;exact .inr ⟨a,k,rfl,bK this⟩
 have el:(lo=none/\l=0)\/∃ x k,lo=some x/\ρ x = .int k (l:Int):=by
  rcases xS Kc with⟨rfl,rfl⟩ |⟨a,b,rfl,rfl,hc⟩
  ·simp at hle; exact .inl ⟨rfl,hle.symm⟩
  ·obtain⟨k,hk⟩:=kz hle
   have:=h1 a rfl b hc;rw[hk] at this;exact .inr ⟨a,k,rfl,bK this⟩
 have hhc:(h:Int)<=(cap:Int):=by omega
 rcases eh with⟨rfl,rfl⟩ |⟨x,k,rfl,hx⟩<;>rcases el with⟨rfl,rfl⟩ |⟨y,j,rfl,hy⟩
 ·simp[Instr.sliceBounds]
 ·simp[Instr.sliceBounds,hy,Instr.sliceBound,asIntOf,Xf]
 ·have:h<=cap:=by omega
  simp[Instr.sliceBounds,hx,Instr.sliceBound,asIntOf,this]
 ·have:h<=cap:=by omega
  simp[Instr.sliceBounds,hx,hy,Instr.sliceBound,asIntOf,this,Xf]
theorem Wo {t:TypeId} {x:Operand} {lo hi:Option Operand} {UI pF:Option XO} {a:XO} (hT:bD P T) (ho:o.op = .slice t x lo hi none) (hI:Inv base g st w) (ht:oE T t=true) (ha:aH x=some a)
  (Kc:lO lo=some UI) (OI:lO hi=some pF) (hx:b6 w g tm ρ x) (h1:∀ x,lo=some x->b6 w g tm ρ x) (h2:∀ x,hi=some x->b6 w g tm ρ x)
  (hr:kf tm UI pF (aD tm a)=some r):fA P base g st w ρ o r:=by
 have h3:=hx a ha;have hu:=tB hT ht;unfold kf at hr;split at hr<;>try cases hr
 rename_i s he;split at hr<;>try cases hr
 rename_i l h hb;rw[he] at h3;have hv:=cF h3;obtain⟨cm,Xf,hhn⟩:=nf (P:=P) (dN s.length) (isSlice:=false) Kc OI hb h1 h2 w;refine fA.of hI (v:=.string ⟨((s.take h).drop l).toArray⟩) ?_ (.str _)
 have cJ:(⟨s.toArray⟩:ByteArray).size=s.length:=rfl;have hex:(⟨s.toArray⟩:ByteArray).extract l h=⟨((s.take h).drop l).toArray⟩:=by
  apply ByteArray.ext
  simp[ByteArray.data_extract];rw[List.drop_take]
 simp[execOp,ho,hv,Instr.sliceAt,Instr.slice,Sem.run_bind,run_underlying hu,cJ,cm,hex]
theorem Wp {t:TypeId} {x:Operand} {lo hi:Option Operand} {UI pF:Option XO} {a:XO} {i:TI} (hT:bD P T) (ho:o.op = .slice t x lo hi none) (hI:Inv base g st w) (ht:cN T t=some i) (ha:aH x=some a)
  (Kc:lO lo=some UI) (OI:lO hi=some pF) (hx:b6 w g tm ρ x) (h1:∀ x,lo=some x->b6 w g tm ρ x) (h2:∀ x,hi=some x->b6 w g tm ρ x)
  (hr:nW tm i.size UI pF (aD tm a)=some r):fA P base g st w ρ o r:=by
 have h3:=hx a ha;obtain⟨e,hu,pZ,hz⟩:=dM hT ht;unfold nW at hr;split at hr<;>try cases hr
 ·rename_i n es aN he
  split at hr<;>try cases hr
  rename_i hn;rw[bo] at hn;have hn:=jT hn;subst hn;split at hr<;>try cases hr
  rename_i l h hb;rw[he] at h3;obtain⟨vs,b',o',cap,h4,h5,h6,h7,h8,h9,hv,jX⟩:=gU h3;obtain⟨cm,Xf,hhn⟩:=nf (P:=P) h8 (isSlice:=true) Kc OI hb h1 h2 w;have wV:(execOp ρ o).run P w = .ok (.value (.slice (if cap=l then some ⟨b',o',none⟩ else some ⟨b',o'+l*i.size,none⟩) (h-l) (cap-l))) w:=by
   by_cases iC:cap=l
   ·subst iC
    simp[execOp,ho,hv,Instr.sliceAt,Instr.slice,Sem.run_bind,run_underlying hu,cm,(hT _ i pZ).dj]
   ·simp[execOp,ho,hv,Instr.sliceAt,Instr.slice,Sem.run_bind,run_underlying hu,cm,(hT _ i pZ).dj,iC,Addr.add_mid]
  have hlen:((es.take h).drop l).length=h-l:=by rw[gL,mG]; omega
  by_cases hw:l=0/\h=es.length
  ·obtain⟨rfl,rfl⟩:=hw
   have e1:(es.take es.length).drop 0=es:=by simp
   have e2:(Nat.beq 0 0&&Nat.beq es.length es.length)=true:=by simp
   rw[e1];refine fA.of hI (v:=.slice (some ⟨b',o',none⟩) es.length cap) ?_ ?_
   ·rw[wV]; by_cases iC:cap=0<;>simp[iC]
   ·simp only[e2]
    rw[hv] at h3; exact h3
  ·have e2:(Nat.beq l 0&&Nat.beq h es.length)=false:=by
    rw[bo,bo];simp only[Bool.and_eq_false_iff,decide_eq_false_iff_not]
    by_cases hl:l=0
    ·exact .inr fun hh=>hw ⟨hl,hh⟩
    ·exact .inl hl
   simp only[e2];have pE:∀ x∈(es.take h).drop l,x.cells.length=i.size:=fun x hx=>h7 x (List.mem_of_mem_take (List.mem_of_mem_drop hx))
   have Ta:RL w g (flat ((es.take h).drop l)) ((vs.take (h*i.size)).drop (l*i.size)):=by
    rw[tP _ i.size l (fun x hx=>h7 x (List.mem_of_mem_take hx)),zo es i.size h h7]
    exact(h4.take _).drop _
   refine fA.of hI wV ?_
   by_cases iC:cap=l
   ·have e3:(es.take h).drop l=[]:=qz (by rw[hlen]; omega)
    rw[bJ iC,e3];have e4:h-l=([]:List AV).length:=by simp; omega
    rw[e4];exact .sl i.size [] .dead [] b' o' _ .nil (Row.nil _ _) One.nil (fun x hx=>by cases hx) (tc _) trivial (.inl ⟨rfl,fun _ h=>by cases h⟩)
   ·rw[ba iC,<-hlen]
    refine .sl i.size _ .dead _ b' _ _ Ta ?_ ((h6.take _).drop _) pE (by rw[hlen]; omega) trivial ?_
    ·exact(h5.take _).drop _
    ·rcases jX with⟨jX,_⟩ |jX
     ·subst jX; exact .inl ⟨by simp,fun _ h=>by cases h⟩
     ·exact .inr (jX.add l)
 ·rename_i he
  split at hr<;>try cases hr
  rename_i lh hb;obtain⟨l,h⟩:=lh;rw[he] at h3;have hv:=dn h3;obtain⟨cm,Xf,hhn⟩:=nf (P:=P) (dN 0) (isSlice:=true) Kc OI hb h1 h2 w;have hh0:h=0:=by omega
  have Ti:l=0:=by omega
  subst hh0 Ti;refine fA.of hI (v:=.slice none 0 0) ?_ .az
  simp[execOp,ho,hv,Instr.sliceAt,Instr.slice,Sem.run_bind,run_underlying hu,cm,(hT _ i pZ).dj]
 ·rename_i key off n he
  split at hr<;>try cases hr
  rename_i l h hb;rw[he] at h3;obtain⟨b',cap,hk,hn,hv⟩:=qw h3;obtain⟨cm,Xf,hhn⟩:=nf (P:=P) hn (isSlice:=true) Kc OI hb h1 h2 w;have wV:(execOp ρ o).run P w = .ok (.value (.slice (if cap=l then some ⟨b',off,none⟩ else some ⟨b',off+l*i.size,none⟩) (h-l) (cap-l))) w:=by
   by_cases iC:cap=l
   ·subst iC
    simp[execOp,ho,hv,Instr.sliceAt,Instr.slice,Sem.run_bind,run_underlying hu,cm,(hT _ i pZ).dj]
   ·simp[execOp,ho,hv,Instr.sliceAt,Instr.slice,Sem.run_bind,run_underlying hu,cm,(hT _ i pZ).dj,iC,Addr.add_mid]
  by_cases hc:l<n\/l=0
  ·have e2:(Nat.blt l n ||Nat.beq l 0)=true:=by
    rcases hc with hc |hc
    ·have:Nat.blt l n=true:=by rw[Nat.blt_eq]; exact hc
     rw[this]; rfl
    ·subst hc; simp
   simp only[e2];refine fA.of hI (v:=.slice (some ⟨b',off+l*i.size,none⟩) (h-l) (cap-l)) ?_ (.ks key _ _ b' _ hk (by omega))
   rw[wV]
   by_cases iC:cap=l
   ·have:l=0:=by omega
    subst this;simp
   ·rw[ba iC]
  ·have e2:(Nat.blt l n ||Nat.beq l 0)=false:=by
    have a1:Nat.blt l n=false:=by
     cases q:Nat.blt l n
     ·rfl
     ·rw[Nat.blt_eq] at q; omega
    have a2:Nat.beq l 0=false:=by rw[bo]; exact nM (by omega)
    rw[a1,a2]; rfl
   simp only[e2];have e4:h-l=([]:List AV).length:=by simp; omega
   refine fA.of hI wV ?_
   rw[e4]
   by_cases iC:cap=l
   ·rw[bJ iC]
    exact .sl i.size [] .dead [] b' _ _ .nil (Row.nil _ _) One.nil (fun x hx=>by cases hx) (tc _) trivial (.inl ⟨rfl,fun _ h=>by cases h⟩)
   ·rw[ba iC]
    exact .sl i.size [] .dead [] b' _ _ .nil (Row.nil _ _) One.nil (fun x hx=>by cases hx) (tc _) trivial (.inl ⟨rfl,fun _ h=>by cases h⟩)
theorem O9 (off:Nat):∀ (l:List Value) (k:Nat) (cs:Array Value),off+k+l.length<=cs.size ->
  ((l.zipIdx k).foldl (fun cs (p:Value × Nat)=>cs.setIfInBounds (off+p.2) p.1) cs).toList=cs.toList.take (off+k)++l++cs.toList.drop (off+k+l.length):=by
 intro l
 induction l with
 |nil=>intro k cs h; simp
 |cons c l ih =>
  intro k cs h;simp only[mE] at h;rw[List.zipIdx_cons,List.foldl_cons,ih (k+1) _ (by simp; omega)]
  rw[Array.toList_setIfInBounds];have aO:off+k<cs.toList.length:=by simp; omega
  have hA:(cs.toList.take (off+k)).length=off+k:=by rw[mG]; omega
  have e1:(cs.toList.set (off+k) c).take (off+(k+1))=cs.toList.take (off+k)++[c]:=by
   rw[List.set_eq_take_append_cons_drop,bJ aO,MZ,hA,JF (by rw[hA]; omega)]
   have:off+(k+1)-(off+k)=1:=by omega
   rw[this]; simp
  have e2:(cs.toList.set (off+k) c).drop (off+(k+1)+l.length)=cs.toList.drop (off+k+(l.length+1)):=by
   rw[List.drop_set_of_lt (by omega)]
   congr 1
   omega
  rw[e1,e2];simp
theorem yZ {cells:Array Value} {off:Nat} {us:List Value} (h:off+us.length<=cells.size) :
  (us.toArray.zipIdx.foldl (fun cs (p:Value × Nat)=>cs.setIfInBounds (off+p.2) p.1) cells).toList=cells.toList.take off++us++cells.toList.drop (off+us.length):=by
 have:=O9 off us 0 cells (by omega)
 rw[<-Array.foldl_toList]
 simpa using this
end
end Go.Ev
theorem Cn:type_of% @List.append_assoc:=@List.append_assoc
theorem Co:type_of% @List.ext_getElem?:=@List.ext_getElem?
theorem yq:type_of% @List.getElem?_append_left:=@List.getElem?_append_left
theorem gK:type_of% @List.length_map:=@List.length_map
theorem ot:type_of% @List.map_cons:=@List.map_cons
theorem yr:type_of% @List.map_map:=@List.map_map
theorem ET:type_of% @List.mem_or_eq_of_mem_set:=@List.mem_or_eq_of_mem_set
theorem wz:type_of% @Nat.mul_comm:=@Nat.mul_comm
theorem rI:type_of% @Nat.mul_le_mul_right:=@Nat.mul_le_mul_right
theorem kT:type_of% @Nat.zero_add:=@Nat.zero_add
namespace Go.Ev
open Go.RowKit
section
variable {P : Program} {T : Nat → Option TI} {base : Nat} {g : G} {st : St} {w : World} {ρ : Operand → Value} {o : Oper} {tm : Tr AV} {r : AV}
theorem Kv (cs:List AV):qn tm [] cs=some cs:=rfl
theorem FT (p:Nat × Nat × XO) (l:List (Nat × Nat × XO)) (cs:List AV):qn tm (p::l) cs=if (aD tm p.2.2).cells.length=p.2.1 then qn tm l (aZ cs p.1 (aD tm p.2.2).cells) else none:=by
 show Bool.rec (motive:=fun _=>Option (List AV)) none (qn tm l (aZ cs p.1 (aD tm p.2.2).cells)) (Nat.beq (aD tm p.2.2).cells.length p.2.1)=_
 rw[xX]
theorem Kw (size:Nat) (es:List AV):qo tm size [] es=some es:=rfl
theorem FU (size:Nat) (p:Nat × XO) (l:List (Nat × XO)) (es:List AV):qo tm size (p::l) es=if (aD tm p.2).cells.length=size then qo tm size l (es.set p.1 (aD tm p.2)) else none:=by
 show Bool.rec (motive:=fun _=>Option (List AV)) none (qo tm size l (es.set p.1 (aD tm p.2))) (Nat.beq (aD tm p.2).cells.length size)=_
 rw[xX]
theorem M9 (hT:bD P T) {t:Nat} {ti:TI} (vA:T t=some ti) {k9:Array Field} (hu:P.underlying t=some (.struct k9)) {pl:List (Nat × Nat)}
  (Hw:k9.toList.mapM (fun f=>(P.info? f.type).map fun i=>(f.offset,i.size))=some pl) {i:Nat} {f:Nat × Nat × Bool} (hf:gi T t i=some f):pl[i]?=some (f.1,f.2.1)/\f.2.1≠0:=by
 obtain⟨flds',fd,fi,UR,Tk,zd,Kh,hs,hg,hz⟩:=xC hT hf;rw[hu] at UR;injection UR with UR
 injection UR with UR
 subst UR;obtain⟨b,hb,Q0⟩:=Lib.mapM_at Hw i fd (by simpa using Tk)
 obtain⟨inf,h1,h2,_⟩:=(hT _ fi Kh).rB;rw[h1] at Q0;simp at Q0;rw[hb,<-Q0,zd,h2,hs];exact⟨rfl,by rw[<-hs]; exact hz⟩
theorem kM {a:AV} {v:Value} {n:Nat} (h:bI w g a v) (hl:a.cells.length=n) (hn:n≠0):∃ us,v.cells=us.toArray/\RL w g a.cells us/\One us/\us.length=n:=by
 obtain⟨us,h1,h2,h3⟩:=h.cells (fun e=>hn (by rw[<-hl,e]; rfl))
 exact⟨us,h1,h2,h3,by rw[h2.length,hl]⟩
theorem Dm {pl:List (Nat × Nat)} {t n:Nat} (Hw:∀ i f,gi T t i=some f->pl[i]?=some (f.1,f.2.1)/\f.2.1≠0):∀ (parts:List (Nat × Operand)) (ps:List (Nat × Nat × XO)) (cs cD:List AV) (vs:Array Value),
  j9 T t n parts=some ps->(∀ p∈parts,b6 w g tm ρ p.2)->RL w g cs vs.toList->One vs.toList->cs.length=n->qn tm ps cs=some cD ->
  ∃ jz,Instr.fill (pl.toArray[·]?) vs (parts.map fun p=>(p.1,ρ p.2))=some jz/\RL w g cD jz.toList/\One jz.toList:=by
 intro parts
 induction parts with
 |nil =>
  intro ps cs cD vs hc _ hr ho hn hf;simp[j9] at hc; subst hc;rw[Kv] at hf; injection hf with hf; subst hf
  exact⟨vs,rfl,hr,ho⟩
 |cons p parts ih =>
  intro ps cs cD vs hc hρ hr ho hn hf;obtain⟨i,x⟩:=p;unfold j9 at hc;split at hc<;>try cases hc
  rename_i off size agg a bh h1 h2 h3;split at hc<;>try cases hc
  rename_i hle;have hle:=gW hle;obtain⟨hp,hz⟩:=Hw i _ h1;rw[FT] at hf;split at hf<;>try cases hf
  rename_i hlen;simp only at hlen hf;have hrx:=hρ (i,x) (by simp) a h2
  obtain⟨us,uH,CV,QP,W1⟩:=kM hrx hlen hz;have CU:vs.size=n:=by have:=hr.length; simpa[hn] using this
  have hpa:pl.toArray[i]?=some (off,size):=by simpa using hp
  have On:=yZ (cells:=vs) (off:=off) (us:=us) (by omega)
  have CY:=l6 cs off (aD tm a).cells (by omega)
  have Fs:RL w g (aZ cs off (aD tm a).cells) ((us.toArray.zipIdx.foldl (fun cs (p:Value × Nat)=>cs.setIfInBounds (off+p.2) p.1) vs).toList):=by
   rw[On,CY,hlen,W1];exact((hr.take off).append CV).append (hr.drop (off+size))
  have nQ:One (us.toArray.zipIdx.foldl (fun cs (p:Value × Nat)=>cs.setIfInBounds (off+p.2) p.1) vs).toList:=by
   rw[On];exact((ho.take _).append QP).append (ho.drop _)
  obtain⟨jz,h5,h6,h7⟩:=ih bh _ cD _ h3 (fun q hq=>hρ q (by simp[hq])) Fs nQ (by rw[CY]; simp; omega) hf
  refine⟨jz,?_,h6,h7⟩
  simp only[ot,Instr.fill,hpa];have cJ:us.toArray.size=size:=by simpa using W1
  have hcond:¬ ((ρ x).cells.size≠size\/off+(ρ x).cells.size>vs.size):=by
   rw[uH,cJ]; omega
  simp only[uH,cJ];have hcond2:(decide (size≠size) ||decide (off+size>vs.size))=false:=by
   have:¬ (off+size>vs.size):=by omega
   simp[this]
  rw[ba (by simpa using(by omega:off+size<=vs.size))]
  exact h5
theorem R7 {t:TypeId} {parts:Array (Nat × Operand)} {i:TI} {l:List (Nat × Nat × XO)} {fs:List (Nat × Nat)} (hT:bD P T) (ho:o.op = .build t parts) (hI:Inv base g st w) (hi:T t=some i) (hk:i.kd = .struct fs) (cJ:i.size≠0)
  (hc:j9 T t i.zero.cells.length parts.toList=some l) (hρ:∀ p∈parts.toList,b6 w g tm ρ p.2) (hr:D8 (qn tm l i.zero.cells)=some r):fA P base g st w ρ o r:=by
 obtain⟨d,hu,BD⟩:=(hT t i hi).kd;rw[hk] at BD;cases d<;>simp only[ld] at BD
 rename_i k9;obtain⟨pl,Hw⟩:=(hT t i hi).Wl k9 hu;obtain⟨inf,z,h1,h2,h3,h4,h5,h6,h7⟩:=(hT t i hi).info;have hz:=h5 w g;unfold D8 at hr;split at hr<;>try cases hr
 rename_i cD hf;obtain⟨us,h8,h9,dc⟩:=hz.cells (h7 cJ);obtain⟨jz,ik,kG,kY⟩:=Dm (fun j f hj=>M9 hT hi hu Hw hj) parts.toList l _ cD us.toArray hc hρ (by simpa using h9) (by simpa using dc) rfl hf
 have hb:P.built t (parts.map fun(p:Nat × Operand)=>(p.1,ρ p.2)).toList=some jz:=by
  unfold Program.built;simp only[h1,hu,h4,Hw];rw[Array.toList_map,h8];exact ik
 have cm:=run_build (P:=P) w t (parts.map fun(p:Nat × Operand)=>(p.1,ρ p.2)) jz hb
 refine fA.of hI (v:=.agg jz) ?_ ?_
 ·simp only[execOp,ho]
  have:(Array.map (fun x=>match x with |(i,x)=>(i,ρ x)) parts)=parts.map fun(p:Nat × Operand)=>(p.1,ρ p.2):=rfl
  simp[cm]
 ·have:=bI.agg cD jz.toList kG kY
  simpa using this
theorem uD (z:Array Value) (s:Nat) (hs:z.size=s):∀ n,((Array.range (n*s)).map (z[· % z.size]!)).toList=(List.replicate n z.toList).flatten:=by
 intro n;rw[Array.toList_map,Array.toList_range]
 induction n with
 |zero=>simp
 |succ n ih =>
  rw[uX,List.range_add,List.map_append,ih,List.replicate_succ',List.flatten_append]
  congr 1
  simp only[List.flatten_singleton,yr];subst hs;apply Co;intro j;simp only[jB]
  by_cases hj:j<z.size
  ·have e:(n*z.size+j) % z.size=j:=by rw[wz,Nat.mul_add_mod,Nat.mod_eq_of_lt hj]
   simp[hj,e]
  ·simp[hj]
theorem FR {size n:Nat} (QS:size≠0):∀ (parts:List (Nat × Operand)) (ps:List (Nat × XO)) (es cr:List AV) (vs:Array Value),
  iT n parts=some ps->(∀ p∈parts,b6 w g tm ρ p.2)->RL w g (flat es) vs.toList->One vs.toList->(∀ e∈es,e.cells.length=size)->es.length=n->qo tm size ps es=some cr ->
  ∃ jz,Instr.fill (fun i=>some (i*size,size)) vs (parts.map fun p=>(p.1,ρ p.2))=some jz/\RL w g (flat cr) jz.toList/\One jz.toList/\(∀ e∈cr,e.cells.length=size)/\cr.length=n:=by
 intro parts
 induction parts with
 |nil =>
  intro ps es cr vs hc _ hr ho hs hn hf;simp[iT] at hc; subst hc;rw[Kw] at hf; injection hf with hf; subst hf
  exact⟨vs,rfl,hr,ho,hs,hn⟩
 |cons p parts ih =>
  intro ps es cr vs hc hρ hr ho hs hn hf;obtain⟨i,x⟩:=p;unfold iT at hc;split at hc<;>try cases hc
  rename_i a bh h2 h3;split at hc<;>try cases hc
  rename_i aO;have aO:i<n:=Nat.lt_of_succ_le (gW aO);rw[FU] at hf;split at hf<;>try cases hf
  rename_i hlen;simp only at hlen hf;have hrx:=hρ (i,x) (by simp) a h2
  obtain⟨us,uH,CV,QP,W1⟩:=kM hrx hlen QS;have FA:=bC es size hs;have CU:vs.size=n*size:=by
   have:=hr.length;rw[FA,hn] at this
   simpa using this
  have hbound:i*size+size<=n*size:=by
   have:(i+1)*size<=n*size:=rI _ (by omega)
   rw[uX] at this; exact this
  have On:=yZ (cells:=vs) (off:=i*size) (us:=us) (by omega)
  have qK:es.set i (aD tm a)=es.take i++aD tm a::es.drop (i+1):=by rw[List.set_eq_take_append_cons_drop,bJ (by omega)]
  have hflat:flat (es.set i (aD tm a))=(flat es).take (i*size)++(aD tm a).cells++(flat es).drop (i*size+size):=by
   rw[qK,uP,b8,zo es size i hs,tP es size (i+1) hs,uX,Cn]
  have Fs:RL w g (flat (es.set i (aD tm a))) ((us.toArray.zipIdx.foldl (fun cs (p:Value × Nat)=>cs.setIfInBounds (i*size+p.2) p.1) vs).toList):=by
   rw[On,hflat,W1];exact((hr.take _).append CV).append (hr.drop _)
  have nQ:One (us.toArray.zipIdx.foldl (fun cs (p:Value × Nat)=>cs.setIfInBounds (i*size+p.2) p.1) vs).toList:=by
   rw[On];exact((ho.take _).append QP).append (ho.drop _)
  have pE:∀ e∈es.set i (aD tm a),e.cells.length=size:=by
   intro e he;rcases ET he with h |h
   ·exact hs e h
   ·rw[h]; exact hlen
  obtain⟨jz,h5,h6,h7,h8,h9⟩:=ih bh _ cr _ h3 (fun q hq=>hρ q (by simp[hq])) Fs nQ pE (by simpa using hn) hf
  refine⟨jz,?_,h6,h7,h8,h9⟩
  simp only[ot,Instr.fill];have cJ:us.toArray.size=size:=by simpa using W1
  simp only[uH,cJ];rw[ba (by simpa using(by omega:i*size+size<=vs.size))]
  exact h5
theorem uL {w:World} {b:Nat} {c:Array Value} {t:TypeId} (h:w.heap[b]?=some (.cells c t (0,0))) (j:Nat):w.frozen? ⟨b,j,none⟩=false:=by
 unfold World.frozen?;rw[h];simp
theorem NA (hI:Inv base g st w) (size:Nat) (vs:List Value) (rest:List Value) (e:TypeId):∃ g',Inv base g' st (w.alloc (.cells (vs++rest).toArray e))/\Ext base g st w g' st (w.alloc (.cells (vs++rest).toArray e)) /\
  Row (w.alloc (.cells (vs++rest).toArray e)) g' w.heap.size 0 vs/\(∀ i,g'.dL w.heap.size i->i<vs.length)/\g'.key=g.key/\g'.aN=g.aN/\(vs=[]\/Al g' w.heap.size 0 size):=by
 obtain⟨h1,h2⟩:=hI.alloc (.cells (vs++rest).toArray e);have hcell:∀ i v,(vs++rest)[i]?=some v->(w.alloc (.cells (vs++rest).toArray e)).cell? ⟨w.heap.size,i,none⟩=some v:=by
  intro i v hv;rw[cell_of_row _ w.heap.size i (vs++rest).toArray e (0,0) (heap_alloc_new w _)]
  simpa using hv
 have hk:∀ k,g.key k≠some w.heap.size:=fun k hk=>by have:=(hI.cK k _ hk).2; omega
 have ht:∀ k s e,g.aN k≠some (w.heap.size,s,e):=fun k s e hk=>by have:=(hI.dS k _ s e hk).2; omega
 obtain⟨h3,h4⟩:=h1.freeze w.heap.size 0 vs.length hI.cf (fun k _=>hk k) (fun k s e _ h=>absurd h (ht k s e)) (fun i _ hi=>⟨vs[i],hcell i _ (by rw[yq hi]; exact ey hi)⟩) (fun _ i _ _ _ _=>uL (heap_alloc_new w _) i)
 have rest:∀ g1,g1 = {g with dL:=fun c i=>g.dL c i\/(c=w.heap.size/\0<=i/\i<vs.length) }->(∀ i v,vs[i]?=some v->g1.dL w.heap.size (0+i)/\(w.alloc (.cells (vs++rest).toArray e)).cell? ⟨w.heap.size,0+i,none⟩=some v)/\∀ i,g1.dL w.heap.size i->i<vs.length:=by
  rintro g1 rfl
  refine⟨fun i v hv=>?_,?_⟩
  ·have hi:i<vs.length:=(fU.1 hv).1
   rw[kT];exact⟨.inr ⟨rfl,tc _,hi⟩,hcell i v (by rw[yq hi]; exact hv)⟩
  ·rintro i (hf |⟨_,_,hi⟩)
   ·obtain⟨v,hv⟩:=hI.eQ _ _ hf
    have:=gj hv; omega
   ·exact hi
 obtain⟨r1,r2⟩:=rest _ rfl
 by_cases Hu:vs=[]
 ·exact⟨_,h3,h2.trans h4,r1,r2,rfl,rfl,.inl Hu⟩
 ·have hlen:0<vs.length:=List.length_pos_iff.2 Hu
  obtain⟨h5,h6⟩:=h3.Qt w.heap.size size hI.cf (by simp) (fun t ht=>by have:=hI.gH.lt _ _ ht; omega) ⟨0,.inr ⟨rfl,dN _,hlen⟩⟩ (fun _ i _=>uL (heap_alloc_new w _) i)
  exact⟨_,h5,(h2.trans h4).trans h6,r1,r2,rfl,rfl,.inr ⟨.inr ⟨rfl,rfl⟩,Nat.zero_mod _⟩⟩
theorem Ng {t:TypeId} {len:Nat} {parts:Array (Nat × Operand)} {i:TI} {l:List (Nat × XO)} (hT:bD P T) (ho:o.op = .buildSlice t len parts) (hI:Inv base g st w) (hi:cN T t=some i) (hsmall:len*i.size<=65536)
  (hc:iT len parts.toList=some l) (hρ:∀ p∈parts.toList,b6 w g tm ρ p.2) (hr:Rh i.size (qo tm i.size l (List.replicate len i.zero))=some r):fA P base g st w ρ o r:=by
 obtain⟨e,hu,pZ,hz⟩:=dM hT hi;obtain⟨inf,z,h1,h2,h3,h4,h5,h6,h7⟩:=(hT e i pZ).info;unfold Rh at hr;split at hr<;>try cases hr
 rename_i cr hf;obtain⟨us,h8,h9,dc⟩:=(h5 w g).cells (h7 hz);have hzl:z.cells.size=i.size:=by rw[h8]; simpa[h9.length] using h6
 have hrz:=uD z.cells i.size hzl len;have UP:z.cells.toList=us:=by rw[h8]
 have Fz:flat (List.replicate len i.zero)=(List.replicate len i.zero.cells).flatten:=by
  unfold flat;rw[List.flatMap_def,List.map_replicate]
 have hOneR:One (List.replicate len us).flatten:=by
  intro v hv;obtain⟨l',jm,J4⟩:=List.mem_flatten.1 hv;rw[(List.mem_replicate.1 jm).2] at J4;exact dc v J4
 obtain⟨jz,ik,kG,kY,zi,Km⟩:=FR hz parts.toList l (List.replicate len i.zero) cr ((Array.range (len*i.size)).map (z.cells[· % z.cells.size]!)) hc hρ
  (by rw[hrz,UP,Fz]; exact h9.replicate len) (by rw[hrz,UP]; exact hOneR) (fun e he=>by rw[(List.mem_replicate.1 he).2]; exact h6) (by simp) hf
 have Xa:(parts.map fun(p:Nat × Operand)=>(p.1,ρ p.2)).toList=parts.toList.map fun p=>(p.1,ρ p.2):=Array.toList_map
 obtain⟨g',U7,Dc,D6,_,_,_,jX⟩:=NA hI i.size jz.toList [] e;have Hu:(jz.toList++[]).toArray=jz:=by simp
 rw[Hu] at U7 Dc D6;refine⟨.slice (some ⟨w.heap.size,0,none⟩) len len,w.alloc (.cells jz e),g',?_,?_,U7,Dc⟩
 ·by_cases hl:len=0
  ·subst hl
   have hp0:parts = #[]:=by
    cases Hw:parts.toList with
    |nil=>exact Array.toList_eq_nil_iff.1 Hw
    |cons p ps =>
     rw[Hw] at hc;unfold iT at hc;split at hc<;>try cases hc
   have hv0:jz = #[]:=by
    have:jz.toList=[]:=qz (by rw[kG.length,bC cr i.size zi,Km]; omega)
    exact Array.toList_eq_nil_iff.1 this
   subst hp0 hv0;simp[execOp,ho,Instr.buildSlice,Sem.run_bind,run_underlying hu,(hT e i pZ).dj,Instr.fill,newRow]
   congr 2
   apply Array.ext'
   simp
  ·have cm:=run_buildSlice (P:=P) w t e len (parts.map fun(p:Nat × Operand)=>(p.1,ρ p.2)) jz inf z hu h1 h4 (by rw[h2]; omega) (by rw[h2]; exact Nat.mul_ne_zero hl hz) (by rw[Xa,h2]; exact ik)
   simp only[execOp,ho];simp[cm]
 ·have:=bI.sl (w:=w.alloc (.cells jz e)) (g:=g') i.size cr .full jz.toList w.heap.size 0 len (kG.ext Dc) D6 kY zi (by omega) (by show len=cr.length; exact Km.symm) (jX.imp (fun hv0=>⟨qz (by
   have h0:=kG.length;rw[hv0,bC cr i.size zi] at h0;exact(Nat.mul_eq_zero.1 h0.symm).resolve_right hz),fun _ h=>by cases h⟩) id)
  rw[Km] at this;exact this
theorem DK {es:List AV} {vs:List Value} {b:List UInt8} (h:bytesOf es=some b) (hr:RL w g (flat es) vs):∃ ns:List Int,vs=ns.map (Value.int .u8)/\b=ns.map fun n=>UInt8.ofNat n.toNat:=by
 induction es generalizing vs b with
 |nil=>cases hr; simp[bytesOf] at h; subst h; exact⟨[],rfl,rfl⟩
 |cons e es ih =>
  unfold bytesOf at h;split at h<;>try cases h
  rename_i c cs hc hcs;unfold byteOf at hc;split at hc<;>try cases hc
  rename_i n;rw[b8] at hr;cases hr with
  |cons _ v _ vs h1 h2 =>
   obtain⟨ns,h3,h4⟩:=ih hcs h2;exact⟨(n:Int)::ns,by rw[bK h1,h3]; rfl,by rw[h4]; simp⟩
theorem Nf {s d:TypeId} {x:Operand} {a:XO} {di si ei:TI} {e:Nat} (hT:bD P T) (ho:o.op = .convert s d x) (hI:Inv base g st w) (hd:T d=some di) (hk:di.kd = .str) (hs:T s=some si) (hq:si.kd = .slice e) (he:T e=some ei) (hu8:WQ ei=true)
  (ha:aH x=some a) (hx:b6 w g tm ρ x) (hr:lg (aD tm a)=some r):fA P base g st w ρ o r:=by
 have h1:=hx a ha;obtain⟨dd,Ln,BD⟩:=(hT d di hd).kd;obtain⟨ss,US,tH⟩:=(hT s si hs).kd;obtain⟨ee,hee,hke⟩:=(hT e ei he).kd;rw[hk] at BD; rw[hq] at tH;cases dd<;>simp only[ld] at BD
 cases ss<;>simp only[ld] at tH
 subst tH;have hu:P.underlying e=some (.int .u8):=by
  unfold WQ at hu8;split at hu8<;>try cases hu8
  rename_i hk8;rw[hk8] at hke;cases ee<;>simp only[ld] at hke
  subst hke;exact hee
 unfold lg at hr;split at hr<;>try cases hr
 ·rename_i n es aN hE
  split at hr<;>try cases hr
  rename_i b uJ U5;rw[hE] at h1;obtain⟨vs,b',o',cap,h3,h4,h5,h6,h7,h8,hv,_⟩:=gU h1;obtain⟨ns,h9,dc⟩:=DK U5 h3;have hlen:ns.length=es.length:=by
   have:=h3.length;rw[bC es n h6,h9,gK] at this;rw[bo] at uJ;have hn:=jT uJ;rw[hn,Nat.mul_one] at this; exact this
  have cm:=run_convert_bytes_arg (P:=P) w s e US hu b' o' es.length cap ns hlen (fun i hi=>by
   have:=(h4 i (.int .u8 (ns.getD i 0)) (by
    rw[h9,jB]
    simp[List.getD,ey (by omega:i<ns.length)])).2
   exact this) d Ln
  refine fA.of hI (v:=.string (strOfNums ns)) ?_ (by rw[dc]; exact .str _)
  simp[execOp,ho,hv,cm]
 ·rename_i hE
  rw[hE] at h1;have hv:=dn h1;have cm:=run_convert_bytes_nil (P:=P) w s e US hu 0 0 d Ln;refine fA.of hI (v:=.string ByteArray.empty) ?_ (by have:=bI.str (w:=w) (g:=g) []; exact this)
  simp[execOp,ho,hv,cm]
end
end Go.Ev
theorem JE:type_of% @List.getElem?_append_right:=@List.getElem?_append_right
theorem pR:type_of% @Nat.add_zero:=@Nat.add_zero
theorem pQ:type_of% @decide_eq_true_eq:=@decide_eq_true_eq
namespace Go.Ev
open Go.RowKit
section
variable {P : Program} {T : Nat → Option TI} {base : Nat} {g : G} {st : St} {w : World} {ρ : Operand → Value} {o : Oper} {tm : Tr AV} {r : AV}
theorem F8 {H:Tr dR} {key:Nat} {cs:List AV} (h:cc H key=some cs):∃ v,H.get key=some (.box v cs):=by
 unfold cc at h;split at h<;>try cases h
 exact⟨_,by assumption⟩
theorem Ik (hI:Inv base g st w) {key b:Nat} {cs:List AV} (h:cc st.heap key=some cs) (hb:g.key key=some b):base<=b/\∃ vs,RL w g cs vs/\One vs/\w.rangeAt b 0 vs/\w.there b 0 vs.length:=by
 obtain⟨v,hv⟩:=F8 h;obtain⟨h1,h2⟩:=hI.xI key _ b hv hb;exact⟨h2 rfl,h1⟩
theorem Nd {t:TypeId} {x:Operand} {i:TI} {a:XO} (hT:bD P T) (ho:o.op = .load t x) (hI:Inv base g st w) (hi:T t=some i) (ha:aH x=some a) (hx:b6 w g tm ρ x)
  (hr:fH st.heap i.size (gG i) (aD tm a)=some r):fA P base g st w ρ o r:=by
 have h1:=hx a ha;unfold fH at hr;split at hr<;>try cases hr
 ·rename_i key off he
  split at hr<;>try cases hr
  rename_i cs hcs;rw[he] at h1;obtain⟨b,hb,hv⟩:=gV h1;obtain⟨_,vs,h2,h3,h4,_⟩:=Ik hI hcs hb;obtain⟨v,vz,AW⟩:=wM (hT t i hi) h2 h3 hr h4;rw[kT] at vz;refine fA.of hI (v:=v) ?_ AW
  simp[execOp,ho,hv,vz]
 ·rename_i cs off he
  rw[he] at h1;obtain⟨vs,b,o',h2,h3,h4,hv,_⟩:=oh h1;obtain⟨v,vz,AW⟩:=wM (hT t i hi) h2 h4 hr h3.rangeAt;refine fA.of hI (v:=v) ?_ AW
  simp[execOp,ho,hv,vz]
def QH (P:Program) (base:Nat) (g:G) (st:St) (w:World) (ρ:Operand->Value) (o:Oper) (r:AV) (ae:St):Prop :=
 ∃ v w' g',((execOp ρ o).run P w = .ok (.value v) w'\/((execOp ρ o).run P w = .ok .skip w'/\v=undef))/\bI w' g' r v/\Inv base g' ae w'/\Ext base g st w g' ae w'
theorem fh {w:World} {b:Nat} {c:Array Value} {t:TypeId} (h:w.heap[b]?=some (.cells c t (0,0))) (j:Nat):w.frozen? ⟨b,j,none⟩=false:=by
 unfold World.frozen?;rw[h];simp
theorem AH (hI:Inv base g st w) {cs:List AV} {us:List Value} (h1:RL w g cs us) (h2:One us) (t:TypeId) :
  ∃ g',Inv base g' (st.new (.box 0 cs)) (w.alloc (.cells us.toArray t))/\Ext base g st w g' (st.new (.box 0 cs)) (w.alloc (.cells us.toArray t))/\g'.key st.next=some w.heap.size:=by
 obtain⟨h3,h4⟩:=hI.alloc (.cells us.toArray t);have hb:(w.alloc (.cells us.toArray t)).heap[w.heap.size]?=some (.cells us.toArray t (0,0)):=heap_alloc_new w _;have hcell:∀ i,(w.alloc (.cells us.toArray t)).cell? ⟨w.heap.size,i,none⟩=us[i]?:=fun i=>by
  rw[cell_of_row _ w.heap.size i us.toArray t (0,0) hb]; simp
 have hk:∀ k,g.key k≠some w.heap.size:=fun k hk=>by have:=(hI.cK k _ hk).2; omega
 have ht:∀ k s e,g.aN k≠some (w.heap.size,s,e):=fun k s e hk=>by have:=(hI.dS k _ s e hk).2; omega
 obtain⟨h5,h6⟩:=h3.Qv w.heap.size (.box 0 cs) rfl hI.cf (by simp) (fun k _=>hk k) (fun k s e _=>ht k s e) (fun i hf=>by
  obtain⟨v,hv⟩:=hI.eQ _ _ hf;have:=gj hv; omega)
  ⟨us,h1.ext h4,h2,fun j v hv=>by rw[kT,hcell]; exact hv,fun j hj=>⟨by rw[kT,hcell,ey hj]; rfl,fh hb _⟩⟩
 exact⟨_,h5,h4.trans h6,by simp⟩
theorem TU {t:TypeId} {i:TI} (hT:bD P T) (ho:o.op = .alloc t) (hI:Inv base g st w) (hi:T t=some i) (hz:i.zero.cells≠[]):QH P base g st w ρ o (.ptr st.next 0) (st.new (.box 0 i.zero.cells)):=by
 obtain⟨inf,z,h1,h2,h3,h4,h5,h6,h7⟩:=(hT t i hi).info;obtain⟨us,h8,h9,dc⟩:=(h5 w g).cells hz;obtain⟨g',ik,kG,kY⟩:=AH hI h9 dc t;refine⟨.pointer (some ⟨w.heap.size,0,none⟩),_,g',.inl ?_,.ptr _ _ _ kY,ik,kG⟩
 simp[execOp,ho,Instr.alloc,Sem.run_bind,zeroValue,typeInfo,h1,h4,newVar,newRow,h8]
theorem e_box {t:TypeId} {x:Operand} {i:TI} {a:XO} (ho:o.op = .box t x) (hI:Inv base g st w) (ha:aH x=some a) (hx:b6 w g tm ρ x) (hz:i.size≠0) (hl:(aD tm a).cells.length=i.size) :
  QH P base g st w ρ o (.ptr st.next 0) (st.new (.box 0 (aD tm a).cells)):=by
 obtain⟨us,h8,h9,dc,_⟩:=kM (hx a ha) hl hz;obtain⟨g',ik,kG,kY⟩:=AH hI h9 dc t;refine⟨.pointer (some ⟨w.heap.size,0,none⟩),_,g',.inl ?_,.ptr _ _ _ kY,ik,kG⟩
 simp[execOp,ho,Instr.box,newVar,newRow,h8]
theorem run_store {t:TypeId} {i:TI} (h:uj P t i) {v:Value} {us:List Value} (hv:v.cells=us.toArray) (hl:us.length=i.size) (ho:One us) {b off:Nat} (pU:w.there b off us.length) :
  (Instr.storeAt t (.pointer (some ⟨b,off,none⟩)) v).run P w = .ok () (w.setCells b off us):=by
 have:=run_storeCells_cells (P:=P) b off us 0 w (fun j hj=>by simpa using(pU j hj).1) (fun j hj=>by simpa using(pU j hj).2) ho
 rw[pR] at this;have cJ:us.toArray.size=i.size:=by simpa using hl
 simp[Instr.storeAt,Instr.sureAddr,storeVar,Sem.run_bind,hv,h.dj,cJ,this]
theorem vX {cs xs:List AV} {vs us:List Value} (h:RL w g cs vs) (k:RL w g xs us) (off:Nat) (hle:off+xs.length<=cs.length):RL w g (aZ cs off xs) (vs.take off++us++vs.drop (off+us.length)):=by
 rw[l6 cs off xs hle,k.length];exact((h.take off).append k).append (h.drop _)
theorem od {b off:Nat} {vs us:List Value} (h:w.rangeAt b 0 vs) (ht:w.there b 0 vs.length) (hle:off+us.length<=vs.length) :
  (w.setCells b off us).rangeAt b 0 (vs.take off++us++vs.drop (off+us.length))/\(w.setCells b off us).there b 0 (vs.take off++us++vs.drop (off+us.length)).length:=by
 have wW:w.there b off us.length:=fun j hj=>by
  have:=ht (off+j) (by omega)
  rwa[kT] at this
 have hlen:(vs.take off++us++vs.drop (off+us.length)).length=vs.length:=by simp; omega
 refine⟨fun j v hv=>?_,by rw[hlen]; exact World.there_setCells ht b off us⟩
 rw[kT]
 by_cases h1:j<off
 ·rw[Cn,yq (by simp; omega),pS,bJ h1] at hv
  rw[World.cell?_setCells_out b us off w ⟨b,j,none⟩ (fun _ _=>.inl h1)]
  have:=h j v hv;rwa[kT] at this
 ·by_cases h2:j<off+us.length
  ·have h3:=World.rangeAt_setCells_same w b off us wW
   have h4:=h3 (j-off) v (by
    rw[yq (by simp; omega),JE (by simp; omega)] at hv
    rw[<-hv]; congr 1; simp; omega)
   have e:off+(j-off)=j:=by omega
   rwa[e] at h4
  ·rw[JE (by simp; omega),rJ] at hv
   rw[World.cell?_setCells_out b us off w ⟨b,j,none⟩ (fun _ _=>.inr (by show off+us.length<=j; omega))]
   have:=h j v (by rw[<-hv]; congr 1; simp; omega)
   rwa[kT] at this
theorem dy {b off:Nat} {us:List Value} (hb:base<=b):Below base w (w.setCells b off us):=by
 induction us generalizing off w with
 |nil=>exact .refl base w
 |cons u us ih =>
  rw[World.setCells];exact((Below.refl base w).setCell hb u).trans ih
theorem TR {t:TypeId} {x y:Operand} {i:TI} {a c:XO} {ae:St} (hT:bD P T) (ho:o.op = .store t x y) (hI:Inv base g st w) (hi:T t=some i) (hz:i.size≠0) (ha:aH x=some a) (hc:aH y=some c)
  (hx:b6 w g tm ρ x) (hy:b6 w g tm ρ y) (hr:cZ st i.size (aD tm a) (aD tm c)=some (r,ae)):QH P base g st w ρ o r ae:=by
 have h1:=hx a ha;have h2:=hy c hc;unfold cZ at hr;split at hr<;>try cases hr
 rename_i key off he;split at hr<;>try cases hr
 rename_i bX cs hcs;split at hr<;>try cases hr
 rename_i jx;simp only[kQ,bo,pQ] at jx;have hle:=gW jx.2;rw[he] at h1;obtain⟨b,hb,hv⟩:=gV h1;obtain⟨⟨vs,h3,h4,h5,h6⟩,HG⟩:=hI.xI key _ b hcs hb;obtain⟨us,h7,h8,h9,dc⟩:=kM h2 jx.1 hz;have CU:=h3.length;have wW:w.there b off us.length:=fun j hj=>by
  have:=h6 (off+j) (by omega)
  rwa[kT] at this
 have cm:=run_store (hT t i hi) h7 dc h9 wW;obtain⟨ik,kG⟩:=od h5 h6 (off:=off) (us:=us) (by omega)
 have aO:b<w.heap.size:=(hI.cK key b hb).2;have qR:=dy (w:=w) (off:=off) (us:=us) (HG rfl);have dF:∀ c,c≠b->c<w.heap.size->(w.setCells b off us).heap[c]?=w.heap[c]?:=fun c hc aO=>World.heap_setCells_other w b off us aO hc
 have wY:gN g w (w.setCells b off us):=fun c j hf=>by
  obtain⟨v,hv⟩:=hI.eQ c j hf;exact World.cell?_of_block (a:=⟨c,j,none⟩) (dF c (fun e=>by subst e; exact hI.dP key c j ⟨_,hcs,rfl⟩ hb hf) (gj hv))
 have nS:nH (w.setCells b off us) g b (.box (Nat.succ bX) (aZ cs off (aD tm c).cells)) :=
  ⟨_,(vX h3 h8 off (by omega)).mono wY (.refl g),((h4.take _).append h9).append (h4.drop _),ik,kG⟩
 obtain⟨kY,zi⟩:=hI.VS key b _ (.box (Nat.succ bX) (aZ cs off (aD tm c).cells)) hcs rfl rfl hb qR.size (fun _=>qR) dF nS
 refine⟨undef,_,g,.inr ⟨?_,rfl⟩,fC,kY,zi⟩
 simp[execOp,ho,hv,cm]
end
end Go.Ev
theorem MY:type_of% @Array.getElem?_eq_getElem:=@Array.getElem?_eq_getElem
theorem lI:type_of% @List.mem_cons:=@List.mem_cons
theorem fD:type_of% @List.mem_map:=@List.mem_map
theorem ES:type_of% @Nat.add_sub_cancel_left:=@Nat.add_sub_cancel_left
namespace Go.Ev
open Go.RowKit
section
variable {P : Program} {T : Nat → Option TI} {base : Nat} {g : G} {st : St} {w : World} {ρ : Operand → Value} {o : Oper} {tm : Tr AV} {r : AV}
theorem Ko (n:Nat):∀ (k c:Nat),Builtin.growBy n k c<=max c (2*n+192):=by
 intro k
 induction k with
 |zero=>intro c; simp[Builtin.growBy]; omega
 |succ k ih =>
  intro c;unfold Builtin.growBy;split
  ·omega
  ·have:=ih (c+(c+768) / 4)
   omega
theorem wI {Si cap:Nat} (h:cap<Si):Builtin.nextslicecap Si cap<=2*Si+192:=by
 unfold Builtin.nextslicecap;split
 ·omega
 ·split
  ·omega
  ·have:=Ko Si 4 cap
   omega
structure zR (P:Program) (w:World) (g:G) (size:Nat) (u:TypeId) (y:Value) (xs:List AV) (news:List Value):Prop where
 src:Src P size u y xs.length news w
 rep:RL w g (flat xs) news
 one:One news
 len:∀ e∈xs,e.cells.length=size
theorem B5 (hT:bD P T) {u:Nat} (h:rv T u=true):(∃ e,P.underlying u=some (.slice e))\/P.underlying u=some .string:=by
 unfold rv at h;split at h<;>try cases h
 rename_i i hi;obtain⟨d,hd,hk⟩:=(hT u i hi).kd;split at h<;>try cases h
 ·rename_i e he
  rw[he] at hk;cases d<;>simp only[ld] at hk
  exact .inl ⟨_,hd⟩
 ·rename_i he
  rw[he] at hk;cases d<;>simp only[ld] at hk
  exact .inr hd
theorem Mg (hT:bD P T) {u size:Nat} (hu:rv T u=true) {a:AV} {y:Value} (hy:bI w g a y) {xs:List AV} (h:qa size a=some xs):∃ news,zR P w g size u y xs news:=by
 have hk:=B5 hT hu;cases a with
 |az =>
  simp only[qa] at h;injection h with h; subst h
  rw[dn hy];exact⟨[],⟨hk,fun _=>rfl,run_firstCells_none w size 0 0 0,run_firstCells_none w.drew size 0 0 0,by simp,fun _ h=>by cases h⟩,.nil,One.nil,fun _ h=>by cases h⟩
 |sl s es aN =>
  simp only[qa] at h;split at h<;>try cases h
  rename_i hs;rw[bo] at hs;have hs:=jT hs;subst hs;obtain⟨vs,b,o',cap,h1,h2,h3,h4,h5,h6,hv,_⟩:=gU hy;rw[hv];have hl:vs.length=xs.length*s:=by rw[h1.length,bC xs s h4]
  have hc:∀ j u,vs[j]?=some u->w.cell? ((⟨b,o',none⟩:Addr).add j)=some u:=fun j u hu=>by rw[Addr.add_mid]; exact(h2 j u hu).2
  exact⟨vs,⟨hk,fun _=>rfl,run_firstCells_some w s xs.length _ xs.length cap vs hl hc,run_firstCells_some w.drew s xs.length _ xs.length cap vs hl (by simpa using hc),hl,h3⟩,h1,h3,h4⟩
 |str s =>
  simp only[qa] at h;split at h<;>try cases h
  rename_i hs;rw[bo] at hs;have hs:=jT hs;subst hs;rw[cF hy];have Ta:∀ l:List UInt8,RL w g (flat (l.map fun b=>AV.int .u8 (.ofNat b.toNat))) (l.map fun b=>Value.int .u8 b.toNat):=by
   intro l
   induction l with
   |nil=>exact .nil
   |cons b l ih=>rw[ot,ot,b8]; exact(RL.one (.int _ _)).append ih
  have qN:One (s.map fun b=>Value.int .u8 b.toNat):=fun v hv=>by
   obtain⟨_,_,rfl⟩:=fD.1 hv; rfl
  refine⟨s.map fun b=>Value.int .u8 b.toNat,⟨hk,fun _=>?_,?_,?_,by simp,fun u hu=>qN u hu⟩,Ta s,qN,fun e he=>by obtain⟨_,_,rfl⟩:=fD.1 he; rfl⟩
  ·simp[Builtin.lenOf,ByteArray.size]
  ·have:=firstCells_string (P:=P) ⟨s.toArray⟩ w
   have e1:(⟨s.toArray⟩:ByteArray).size=(s.map fun b=>AV.int .u8 (.ofNat b.toNat)).length:=by simp[ByteArray.size]
   rw[<-e1]; exact this
  ·have:=firstCells_string (P:=P) ⟨s.toArray⟩ w.drew
   have e1:(⟨s.toArray⟩:ByteArray).size=(s.map fun b=>AV.int .u8 (.ofNat b.toNat)).length:=by simp[ByteArray.size]
   rw[<-e1]; exact this
 |_=>cases h
theorem jZ (size:Nat):∀ (n:Nat) (cs:List AV),(chunk size n cs).length=n
 |0,_=>rfl
 |n+1,cs=>by rw[chunk,mE,jZ size n]
theorem oW (size:Nat):∀ (n:Nat) (cs:List AV),n*size<=cs.length->∀ e∈chunk size n cs,e.cells.length=size
 |0,_,_,e,he=>by cases he
 |n+1,cs,h,e,he=>by
  have h1:n*size+size<=cs.length:=by rw[uX] at h; exact h
  rw[chunk] at he;rcases lI.1 he with rfl |he
  ·show(cs.take size).length=size
   rw[mG]; omega
  ·exact oW size n (cs.drop size) (by rw[gL]; omega) e he
theorem gz (size:Nat):∀ (n:Nat) (cs:List AV),flat (chunk size n cs)=cs.take (n*size)
 |0,cs=>by simp[chunk,flat]
 |n+1,cs=>by
  rw[chunk,b8,gz size n];show cs.take size++(cs.drop size).take (n*size)=_
  rw[uX,Nat.add_comm,List.take_add]
theorem RE (hT:bD P T) {u size:Nat} (hu:rv T u=true) {a:AV} {y:Value} (hy:bI w g a y) (hI:Inv base g st w) {xs:List AV} (h:Mh st.heap size a=some xs):∃ news,zR P w g size u y xs news:=by
 unfold Mh at h;split at h
 ·rename_i key off n
  split at h<;>try cases h
  rename_i cs hcs;split at h<;>cases h
  rename_i hle;have hle:=gW hle;obtain⟨b,cap,hk,hn,hv⟩:=qw hy;unfold cc at hcs;split at hcs<;>cases hcs
  rename_i bX hb;obtain⟨⟨vs,h1,h2,h3,h4⟩,_⟩:=hI.xI key _ b hb hk;have Oz:=B5 hT hu;have hlen:vs.length=cs.length:=h1.length;have hd:((vs.drop off).take (n*size)).length=n*size:=by rw[mG,gL,hlen]; omega
  rw[hv];have hl:((vs.drop off).take (n*size)).length=(chunk size n (cs.drop off)).length*size:=by rw[hd,jZ]
  have hc:∀ j u,((vs.drop off).take (n*size))[j]?=some u->w.cell? ((⟨b,off,none⟩:Addr).add j)=some u:=by
   intro j u hu;rw[Addr.add_mid];have hj:j<n*size:=by
    have:=(fU.1 hu).1
    omega
   rw[List.getElem?_take_of_lt hj,rJ] at hu
   have:=h3 (off+j) u hu
   simpa using this
  have qN:One ((vs.drop off).take (n*size)):=(h2.drop off).take _;have hchl:(chunk size n (cs.drop off)).length=n:=jZ size n _;refine⟨(vs.drop off).take (n*size),⟨Oz,fun _=>by rw[hchl]; rfl,?_,?_,hl,qN⟩,?_,qN,oW size n _ (by rw[gL]; omega)⟩
  ·have:=run_firstCells_some (P:=P) w size (chunk size n (cs.drop off)).length ⟨b,off,none⟩ n cap _ hl hc
   exact this
  ·have:=run_firstCells_some (P:=P) w.drew size (chunk size n (cs.drop off)).length ⟨b,off,none⟩ n cap _ hl (by simpa using hc)
   exact this
  ·rw[gz]
   exact(h1.drop _).take _
 ·exact Mg hT hu hy h
theorem Bj (hI:Inv base g st w) {size cap b off:Nat} {es xs:List AV} {vs news:List Value} (h1:RL w g (flat es) vs) (h2:RL w g (flat xs) news) (zd:One vs) (Lk:One news)
  (mQ:∀ e∈es,e.cells.length=size) (S8:∀ e∈xs,e.cells.length=size) (jx:base<=b) (uJ:b<w.heap.size) (Ki:es.length+xs.length<=cap)
  (Lj:w.rangeAt b off vs) (AW:w.rangeAt b (off+vs.length) news) (pU:w.there b (off+vs.length+news.length) ((off+cap*size)-(off+vs.length+news.length)))
  (hk:∀ k,live st.heap k->g.key k≠some b) (ht:∀ k s e,st.heap.get k=some .aN->g.aN k=some (b,s,e)->(∀ i,s<=i->i<e->¬ (off<=i/\i<off+cap*size))/\(e<=off+vs.length\/off+cap*size<=s))
  (hf:∀ i,off+vs.length+news.length<=i->i<off+cap*size->¬ g.dL b i) (jX:Al g b off size\/(off=0/\es.length+xs.length≠0/\size≠0/\∀ t,¬ g.sz b t)) (hfz:size≠1->∀ i,off<=i->i<off+vs.length+news.length->w.frozen? ⟨b,i,none⟩=false) (hfz2:(∀ t,¬ g.sz b t)->∀ i,g.dL b i->w.frozen? ⟨b,i,none⟩=false) :
  ∃ g',Inv base g' (st.new .aN) w/\Ext base g st w g' (st.new .aN) w/\bI w g' (.sl size (es++xs) (.at st.next)) (.slice (some ⟨b,off,none⟩) (es.length+xs.length) cap):=by
 have iB:vs.length=es.length*size:=by rw[h1.length,bC es size mQ]
 have lU:news.length=xs.length*size:=by rw[h2.length,bC xs size S8]
 have hmul:vs.length+news.length<=cap*size:=by rw[iB,lU,<-jS]; exact rI _ Ki
 have gM:w.rangeAt b off (vs++news):=fun j v hv=>by
  rw[List.getElem?_append] at hv
  split at hv
  ·exact Lj j v hv
  ·have:=AW _ _ hv
   have e:off+vs.length+(j-vs.length)=off+j:=by omega
   rwa[e] at this
 obtain⟨h3,h4⟩:=hI.freeze b off (off+vs.length+news.length) jx hk (fun k s e bQ hg i hi pF hx=>(ht k s e bQ hg).1 i hi pF ⟨hx.1,by omega⟩) (fun i hi pF=>by
   have hj:i-off<(vs++news).length:=by rw[mF]; omega
   have:=gM (i-off) _ (ey hj)
   have e:off+(i-off)=i:=by omega
   rw[e] at this;exact⟨_,this⟩) (fun s i hs mQ q1 q2=>hfz (fun e=>by
   rcases jX with jX |jX
   ·have:=hI.gH.one b s size hs jX.1; omega
   ·exact jX.2.2.2 _ hs) i q1 q2)
 obtain⟨g1,h3,h4,jX,Kf⟩:∃ g1,Inv base g1 st w/\Ext base g st w g1 st w/\Al g1 b off size/\g1 = {g1 with key:=g.key,aN:=g.aN,dL:=fun c i=>g.dL c i\/(c=b/\off<=i/\i<off+vs.length+news.length) }:=by
  rcases jX with jX |⟨rfl,jO,cJ,hn⟩
  ·exact⟨_,h3,h4,jX.mono h4.le,rfl⟩
  ·have C1:0<vs.length+news.length:=by
    rw[iB,lU,<-jS];exact Nat.mul_pos (Nat.pos_of_ne_zero jO) (Nat.pos_of_ne_zero cJ)
   obtain⟨h5,h6⟩:=h3.Qt b size jx uJ hn ⟨0,.inr ⟨rfl,dN _,by omega⟩⟩ (fun mQ i hi=>hi.elim (fun hi=>hfz2 hn i hi) fun hi=>hfz mQ i hi.2.1 hi.2.2)
   exact⟨_,h5,h4.trans h6,⟨.inr ⟨rfl,rfl⟩,Nat.zero_mod _⟩,rfl⟩
 have hf1:∀ c i,g1.dL c i↔(g.dL c i\/(c=b/\off<=i/\i<off+vs.length+news.length)):=fun c i=>by rw[Kf]
 have yA:g1.key=g.key:=by rw[Kf]
 have ht1:g1.aN=g.aN:=by rw[Kf]
 clear Kf
 obtain⟨h5,h6⟩:=h3.YL b (off+vs.length+news.length) (off+cap*size) jx uJ (by omega) pU (fun i hi pF=>by
  intro hx;rcases(hf1 b i).1 hx with hx |⟨_,_,hx⟩
  ·exact hf i hi pF hx
  ·omega) (by rw[yA]; exact hk) (fun k s e bQ hg=>by
  rw[ht1] at hg;rcases(ht k s e bQ hg).2 with h |h
  ·exact .inr (by omega)
  ·exact .inl h)
 have hE:=h4.trans h6;refine⟨_,h5,hE,?_⟩
 rw[<-mF];refine .sl size (es++xs) (.at st.next) (vs++news) b off cap ?_ ?_ (zd.append Lk) ?_ (by rw[mF]; exact Ki) ?_ (.inr (jX.mono h6.le))
 ·rw[uP]; exact(h1.append h2).ext hE
 ·intro j v hv
  have hj:j<(vs++news).length:=(fU.1 hv).1
  rw[mF] at hj;exact⟨(hf1 _ _).2 (.inr ⟨rfl,by omega,by omega⟩),gM j v hv⟩
 ·intro e he
  rcases ku.1 he with h |h
  ·exact mQ e h
  ·exact S8 e h
 ·show(if st.next=st.next then some (b,off+vs.length+news.length,off+cap*size) else g1.aN st.next)=some (b,off+(es++xs).length*size,off+cap*size)
  rw[bJ rfl,mF,jS,iB,lU,qB]
theorem vH (hI:Inv base g st w) {id:Nat} (h:st.heap.get id=some .aN):Inv base g (st.put id .gone) w/\Ext base g st w g (st.put id .gone) w :=
 ⟨hI.drop id ⟨_,h⟩,⟨.refl g,fun _ _ _=>rfl,.refl base w,dN _,fun _ _ h=>.inl h,fun k e hk ho hn=>⟨by
  rw[aK,ba (fun e'=>by rw[e',h] at hk; injection hk with hk; subst hk; cases ho)]; exact hk,hn⟩⟩⟩
theorem x9 (hT:bD P T) {t u ty:TypeId} {i:TI} {e:Nat} (hu:P.underlying t=some (.slice e)) (pZ:T e=some i) (hz:i.size≠0) {bs:Option Addr} {cap:Nat} {y:Value} {es xs:List AV} {vs news:List Value} (ep:zR P w g i.size u y xs news)
  (hI:Inv base g st w) (h1:RL w g (flat es) vs) (zd:One vs) (mQ:∀ e∈es,e.cells.length=i.size)
  (hold:(Builtin.firstCells i.size es.length (.slice bs es.length cap)).run P w.drew = .ok vs.toArray w.drew) (hg:cap<es.length+xs.length) (iN:zt (es.length+xs.length) i.bytes=true) :
  ∃ v w' g',(Builtin.append_ #[t,u] ty #[.slice bs es.length cap,y]).run P w = .ok v w'/\bI w' g' (.sl i.size (es++xs) (.at st.next)) v/\Inv base g' (st.new .aN) w'/\Ext base g st w g' (st.new .aN) w':=by
 obtain⟨inf,z,h2,h3,h4,h5,h6,h7,h8⟩:=(hT e i pZ).info;obtain⟨us,h9,dc,_⟩:=(h6 w g).cells (h8 hz);have UP:z.cells.size=i.size:=by rw[h9]; simpa[dc.length] using h7
 unfold zt at iN;simp only[kQ] at iN;have hn:=gW iN.1;have Kj:=gW iN.2;have fY:Builtin.nextslicecap (es.length+xs.length) cap*inf.bytes<=281474976710656:=by
  have ik:=wI hg;rw[h4]
  calc _<=(2*1073741824+192)*4096:=Nat.mul_le_mul (by omega) Kj
   _<=_:=by decide
 have cm:=run_append_grow_src (P:=P) w t u ty e inf z hu h2 h5 bs es.length cap vs (by rw[h3]; exact hold) y xs.length news (by rw[h3]; exact ep.src) hg (by omega) fY
 have OJ:=grownCap_ge w (es.length+xs.length) cap e
 generalize grownCap w (es.length+xs.length) cap e=C at cm OJ
 have iB:vs.length=es.length*i.size:=by rw[h1.length,bC es i.size mQ]
 have lU:news.length=xs.length*i.size:=by rw[ep.rep.length,bC xs i.size ep.len]
 obtain⟨uK,sP⟩:=hI.drew;obtain⟨xt,O3⟩:=uK.alloc (.cells ((vs++news).toArray++Builtin.zeroCells z.cells (C-(es.length+xs.length))) e);have hE:=sP.trans O3;have cJ:(w.drew.alloc (.cells ((vs++news).toArray++Builtin.zeroCells z.cells (C-(es.length+xs.length))) e)).heap.size=w.heap.size+1:=by simp
 have hb:(w.drew.alloc (.cells ((vs++news).toArray++Builtin.zeroCells z.cells (C-(es.length+xs.length))) e)).heap[w.heap.size]?=some (.cells ((vs++news).toArray++Builtin.zeroCells z.cells (C-(es.length+xs.length))) e (0,0)):=heap_alloc_new w.drew _
 generalize hcs:(vs++news).toArray++Builtin.zeroCells z.cells (C-(es.length+xs.length))=cs at *
 have hcsz:cs.size=C*i.size:=by
  rw[<-hcs,Array.size_append,size_zeroCells,UP];simp only[List.size_toArray,mF,iB,lU];rw[<-jS,<-jS]
  congr 1; omega
 have hcell:∀ j,(w.drew.alloc (.cells cs e)).cell? ⟨w.heap.size,j,none⟩=cs[j]?:=fun j=>cell_of_row _ w.heap.size j cs e (0,0) hb
 have u3:∀ j v,(vs++news)[j]?=some v->cs[j]?=some v:=fun j v hv=>by
  rw[<-hcs,Array.getElem?_append_left (by simpa using(fU.1 hv).1)]
  simpa using hv
 have rX:∀ k,g.key k≠some w.heap.size:=fun k hk=>by have:=(hI.cK k _ hk).2; omega
 have hnt:∀ k s e,g.aN k≠some (w.heap.size,s,e):=fun k s e hk=>by have:=(hI.dS k _ s e hk).2; omega
 obtain⟨g',ik,kG,kY⟩:=Bj xt (cap:=C) (b:=w.heap.size) (off:=0) (h1.ext hE) (ep.rep.ext hE) zd ep.one mQ ep.len hI.cf (by omega) (by omega)
  (fun j v hv=>by rw[kT,hcell]; exact u3 j v (by rw[yq (fU.1 hv).1]; exact hv))
  (fun j v hv=>by rw[kT,hcell]; exact u3 _ v (by rw[JE (by omega),ES]; exact hv))
  (fun j hj=>by
   refine⟨?_,fh hb _⟩
   rw[hcell,MY (by rw[hcsz]; omega)]; rfl)
  (fun k _=>rX k) (fun k s e _ h=>absurd h (hnt k s e)) (fun j _ _ hf=>by
   obtain⟨v,hv⟩:=hI.eQ _ _ hf;have:=gj hv; omega) (.inr ⟨rfl,by omega,hz,fun t ht=>by have:=hI.gH.lt _ _ ht; omega⟩) (fun _ i _ _=>fh hb i) (fun _ i _=>fh hb i)
 exact⟨_,_,g',cm,kY,ik,hE.trans kG⟩
theorem Qp (hT:bD P T) {t u ty:TypeId} {i:TI} (hi:cN T t=some i) {sv y:Value} {a:AV} (hs:bI w g a sv) {xs:List AV} {news:List Value} (ep:zR P w g i.size u y xs news) {ae:St}
  (hr:fy i.size i.bytes st a xs=some (r,ae)) (hI:Inv base g st w) :
  ∃ v w' g',(Builtin.append_ #[t,u] ty #[sv,y]).run P w = .ok v w'/\bI w' g' r v/\Inv base g' ae w'/\Ext base g st w g' ae w':=by
 obtain⟨e,hu,pZ,hz⟩:=dM hT hi;obtain⟨inf,h2,h3,_⟩:=(hT e i pZ).rB;unfold fy at hr;split at hr
 ·have Fv:news=[]:=qz (by have:=ep.src.newsLen; simpa using this)
  subst Fv;have UT:Src P inf.size u y 0 [] w:=by rw[h3]; exact ep.src
  split at hr<;>try cases hr
  ·rw[dn hs]
   exact⟨_,w,g,run_append_nothing w t u ty e inf hu h2 none 0 0 (dN 0) y UT,.az,hI,.refl ..⟩
  ·obtain⟨vs,b,o',cap,h4,h5,h6,h7,h8,h9,hv,_⟩:=gU hs
   have pE:=hs;rw[hv] at pE ⊢;exact⟨_,w,g,run_append_nothing w t u ty e inf hu h2 _ _ cap h8 y UT,pE,hI,.refl ..⟩
 ·rename_i x xs
  split at hr
  ·split at hr<;>try cases hr
   rename_i iN;rw[dn hs];exact x9 hT hu pZ hz ep hI (es:=[]) (bs:=none) (cap:=0) .nil One.nil (fun _ h=>by cases h) (run_firstCells_none w.drew i.size 0 0 0) (by simp) (by simpa using iN)
  ·rename_i n es aN
   split at hr<;>try cases hr
   rename_i hc;simp only[kQ,bo,pQ] at hc;obtain⟨hn,iN⟩:=hc;subst hn;obtain⟨vs,b,o',cap,h4,h5,h6,h7,h8,h9,hv,jX⟩:=gU hs;have hl:vs.length=es.length*i.size:=by rw[h4.length,bC es i.size h7]
   have hold:(Builtin.firstCells i.size es.length (.slice (some ⟨b,o',none⟩) es.length cap)).run P w.drew = .ok vs.toArray w.drew :=
    run_firstCells_some w.drew i.size es.length _ es.length cap vs hl (fun j u hu=>by rw[Addr.add_mid]; simpa using(h5 j u hu).2)
   rw[hv];split at hr
   ·injection hr with hr
    injection hr with Lj AW
    subst Lj AW;have Ki:cap=es.length:=h9;exact x9 hT hu pZ hz ep hI h4 h6 h7 hold (by simp; omega) iN
   ·rename_i id
    split at hr<;>try cases hr
    rename_i hid;have jD:g.aN id=some (b,o'+es.length*i.size,o'+cap*i.size):=h9;obtain⟨jx,hse,pU,A0⟩:=hI.aN id _ _ _ hid jD;obtain⟨Tv,XQ⟩:=vH hI hid
    by_cases wZ:es.length+(x::xs).length<=cap
    ·have lU:news.length=(x::xs).length*i.size:=by rw[ep.rep.length,bC _ i.size ep.len]
     have hmul:es.length*i.size+news.length<=cap*i.size:=by rw[lU,<-jS]; exact rI _ wZ
     have cm:=run_append_room_src (P:=P) w t u ty e inf hu h2 b o' es.length cap y (x::xs).length news (by rw[h3]; exact ep.src) wZ
      (fun j hj=>by rw[h3]; exact(pU j (by omega)).1) (fun j hj=>by rw[h3]; exact(pU j (by omega)).2)
     rw[h3] at cm;have qR:=dy (w:=w) (off:=o'+es.length*i.size) (us:=news) jx;have dF:∀ c,c≠b->c<w.heap.size->(w.setCells b (o'+es.length*i.size) news).heap[c]?=w.heap[c]?:=fun c hc aO=>World.heap_setCells_other w b _ news aO hc
     obtain⟨uK,sP⟩:=hI.vN hid jD (vs:=news) (by omega) qR dF
     obtain⟨xt,O3⟩:=vH uK hid;have hE:=sP.trans O3;have XG:b<(w.setCells b (o'+es.length*i.size) news).heap.size:=qy (hI.dS id _ _ _ jD).2 qR.size;have mh:∀ k,(st.put id .gone).heap.get k=some .aN->k≠id/\st.heap.get k=some .aN:=fun k hk=>by
      rw[aK] at hk
      by_cases e':k=id
      ·rw[bJ e'] at hk; cases hk
      ·rw[ba e'] at hk; exact⟨e',hk⟩
     have mR:∀ k,live (st.put id .gone).heap k->live st.heap k:=fun k ⟨q,hq,AX⟩=>by
      rw[aK] at hq
      by_cases e':k=id
      ·rw[bJ e'] at hq; injection hq with hq; subst hq; cases AX
      ·rw[ba e'] at hq; exact⟨q,hq,AX⟩
     obtain⟨g',ik,kG,kY⟩:=Bj xt (size:=i.size) (cap:=cap) (b:=b) (off:=o' ) (h4.ext hE) (ep.rep.ext hE) h6 ep.one h7 ep.len jx XG wZ
      (h5.mono hE.same hE.le).rangeAt
      (by rw[hl]; exact World.rangeAt_setCells_same w b _ news (fun j hj=>pU j (by omega)))
      (fun j hj=>by
       have:=World.there_setCells pU b (o'+es.length*i.size) news (news.length+j) (by omega)
       have e':o'+vs.length+news.length+j=o'+es.length*i.size+(news.length+j):=by omega
       rw[e']; exact this)
      (fun k hk BH=>hI.eX k id b _ _ (mR k hk) hid BH jD)
      (fun k s' e' hk BH=>by
       obtain⟨jO,bQ⟩:=mh k hk;have hd:=hI.gk k id b s' e' _ _ bQ hid jO BH jD;refine⟨fun j hj uI hx=>?_,by omega⟩
       have aO:j<o'+es.length*i.size:=by omega
       have hf:=(h5 (j-o') _ (ey (by omega))).1
       have e2:o'+(j-o')=j:=by omega
       rw[e2] at hf;exact(hI.aN k b s' e' bQ BH).2.2.2 j hj uI hf)
      (fun j hj uI=>A0 j (by omega) uI) (.inl ((jX.resolve_left (fun h=>h.2 _ rfl)).mono hE.le)) (fun mQ j hj uI=>by
       rw[World.frozen?_setCells]
       by_cases aO:j<o'+es.length*i.size
       ·have hf:=(h5 (j-o') _ (ey (by omega))).1
        have e2:o'+(j-o')=j:=by omega
        rw[e2] at hf;exact hI.gH.Nw b _ j (jX.resolve_left (fun h=>h.2 _ rfl)).1 mQ hf
       ·have:=(pU (j-(o'+es.length*i.size)) (by omega)).2
        have e2:o'+es.length*i.size+(j-(o'+es.length*i.size))=j:=by omega
        rwa[e2] at this) (fun hn=>absurd ((jX.resolve_left (fun h=>h.2 _ rfl)).mono hE.le).1 (hn _))
     exact⟨_,_,g',cm,kY,ik,hE.trans kG⟩
    ·obtain⟨v,w',g',ik,kG,kY,zi⟩:=x9 (st:=st.put id .gone) (ty:=ty) hT hu pZ hz ep Tv h4 h6 h7 hold (by omega) iN
     exact⟨v,w',g',ik,kG,kY,XQ.trans zi⟩
   ·cases hr
  ·cases hr
end
end Go.Ev
theorem EP:type_of% @Array.getElem?_setIfInBounds:=@Array.getElem?_setIfInBounds
theorem oq:type_of% @if_true:=@if_true
namespace Go.Ev
open Go.RowKit
section
variable {P : Program} {T : Nat → Option TI} {base : Nat} {g : G} {st : St} {w : World} {ρ : Operand → Value} {o : Oper} {tm : Tr AV} {r : AV}
theorem e_app {c:Call} {x y:Operand} {t u:TypeId} {i:TI} {a b:XO} {ae:St} (hT:bD P T) (ho:o.op = .call c) (hc:c.callee = .builtin .append) (hA:c.args.toList=[x,y]) (hB:c.argTypes.toList=[t,u]) (hI:Inv base g st w)
  (hi:cN T t=some i) (hu:rv T u=true) (ha:aH x=some a) (hb:aH y=some b) (hx:b6 w g tm ρ x) (hy:b6 w g tm ρ y) (hr:sT i.size i.bytes st (aD tm a) (aD tm b)=some (r,ae)):QH P base g st w ρ o r ae:=by
 have BI:c.args = #[x,y]:=by cases jW:c.args; rw[jW] at hA; simp at hA; rw[hA]
 have Tw:c.argTypes = #[t,u]:=by cases jW:c.argTypes; rw[jW] at hB; simp at hB; rw[hB]
 unfold sT at hr;split at hr<;>try cases hr
 rename_i xs WU;obtain⟨news,ep⟩:=RE (P:=P) hT hu (hy b hb) hI WU;obtain⟨v,w',g',h1,h2,h3,h4⟩:=Qp (ty:=o.type) hT hi (hx a ha) ep hr hI;refine⟨v,w',g',.inl ?_,h2,h3,h4⟩
 simp[execOp,ho,resolve,hc,BI,Tw,invoke,builtin,h1]
theorem Yi {t:TypeId} {l c:Operand} {i:TI} {a b:XO} {ae:St} (hT:bD P T) (ho:o.op = .makeSlice t l c) (hI:Inv base g st w) (hi:cN T t=some i) (ha:aH l=some a) (hb:aH c=some b)
  (hl:b6 w g tm ρ l) (hc:b6 w g tm ρ c) (hr:vL st i.bytes i.zero (ch (aD tm a)) (ch (aD tm b))=some (r,ae)):QH P base g st w ρ o r ae:=by
 obtain⟨e,hu,pZ,hz⟩:=dM hT hi;obtain⟨inf,z,h2,h3,h4,h5,h6,h7,h8⟩:=(hT e i pZ).info;obtain⟨us,h9,dc,ik⟩:=(h6 w g).cells (h8 hz);have UP:z.cells.size=i.size:=by rw[h9]; simpa[dc.length] using h7
 unfold vL at hr;split at hr<;>try cases hr
 rename_i n m hn hm;split at hr<;>try cases hr
 rename_i hc0;simp only[kQ,bo,pQ] at hc0;obtain⟨AZ,iN⟩:=hc0;subst AZ;unfold zt at iN;simp only[kQ] at iN;have kR:=gW iN.1;have Kj:=gW iN.2;obtain⟨kl,hkl⟩:=kz hn;obtain⟨kc,hkc⟩:=kz hm;have qJ:=hl a ha;have vz:=hc b hb;rw[hkl] at qJ; rw[hkc] at vz;have hmul:(inf.bytes:Int)*(n:Int)<=281474976710656:=by
  rw[h4];have:i.bytes*n<=4096*1073741824:=Nat.mul_le_mul Kj kR;have h:((i.bytes*n:Nat):Int)<=((4096*1073741824:Nat):Int):=Int.ofNat_le.2 this;rw[Int.natCast_mul] at h;omega
 have cm:=run_make (P:=P) w t e inf z hu h2 h5 kl kc n n (by omega) (by omega) hmul (by omega)
 have FE:madeCells z.cells ((n:Int).toNat*inf.size)=((List.replicate n us).flatten).toArray:=by
  apply Array.ext'
  rw[h3,Int.toNat_natCast];unfold madeCells;rw[uD z.cells i.size UP n,h9]
 rw[FE] at cm;have Fz:flat (List.replicate n i.zero)=(List.replicate n i.zero.cells).flatten:=by
  unfold flat;rw[List.flatMap_def,List.map_replicate]
 obtain⟨g',kG,kY,zi⟩:=AH hI (cs:=flat (List.replicate n i.zero)) (us:=(List.replicate n us).flatten) (by rw[Fz]; exact dc.replicate n) (fun v hv=>by
  obtain⟨l',jm,J4⟩:=List.mem_flatten.1 hv;rw[(List.mem_replicate.1 jm).2] at J4;exact ik v J4) e
 refine⟨_,_,g',.inl ?_,.ks _ 0 n _ n zi (dN n),kG,kY⟩
 simp[execOp,ho,bK qJ,bK vz,cm]
theorem e_frz {x:Operand} {a:XO} {size:Nat} {ae:St} (ho:o.op = .move x) (hI:Inv base g st w) (ha:aH x=some a) (hx:b6 w g tm ρ x) (hr:IJ st size (aD tm a)=some (r,ae)):QH P base g st w ρ o r ae:=by
 have h1:=hx a ha;unfold IJ at hr;split at hr<;>try cases hr
 rename_i key n he;rw[he] at h1;obtain⟨b,cap,hk,hn,hv⟩:=qw h1;split at hr<;>try cases hr
 rename_i bX cs hb;split at hr<;>try cases hr
 rename_i hc;simp only[kQ,bo,pQ] at hc;obtain⟨hlen,mQ⟩:=hc;have mQ:1<size:=by rwa[Nat.blt_eq] at mQ
 obtain⟨⟨vs,h2,h3,h4,h5⟩,h6⟩:=hI.xI key _ b hb hk;have jx:base<=b:=h6 rfl;have D4:live st.heap key:=⟨_,hb,rfl⟩;have uK:=hI.drop key ⟨_,hb⟩;have uJ:=(hI.cK key b hk).2;have sP:Ext base g st w g (st.put key .gone) w:=⟨.refl g,fun _ _ _=>rfl,.refl base w,dN _,fun _ _ h=>.inl h,fun k e bQ _ yk=>⟨by
  rw[aK,ba (fun e'=>by rw[e',hk] at yk; cases yk)]; exact bQ,yk⟩⟩
 have mR:∀ k,live (st.put key .gone).heap k->k≠key/\live st.heap k:=fun k ⟨q,hq,AX⟩=>by
  rw[aK] at hq
  by_cases e':k=key
  ·rw[bJ e'] at hq; injection hq with hq; subst hq; cases AX
  ·rw[ba e'] at hq; exact⟨e',q,hq,AX⟩
 have mh:∀ k,(st.put key .gone).heap.get k=some .aN->st.heap.get k=some .aN:=fun k hq=>by
  rw[aK] at hq
  by_cases e':k=key
  ·rw[bJ e'] at hq; cases hq
  ·rw[ba e'] at hq; exact hq
 have CU:vs.length=n*size:=by rw[h2.length,hlen]
 obtain⟨h7,h8⟩:=uK.freeze b 0 vs.length jx (fun k hl hg=>(mR k hl).1 (hI.gv k key b (mR k hl).2 D4 hg hk)) (fun k s e hq hg=>absurd hg (hI.eX key k b s e D4 (mh k hq) hk))
  (fun i _ hi=>⟨_,by have:=h4 i _ (ey hi); rwa[kT] at this⟩) (fun _ i _ _ _ hi=>by have:=(h5 i hi).2; rwa[kT] at this)
 have hE:=sP.trans h8;have yy:∀ g1:G,(∀ c i,g1.dL c i↔(g.dL c i\/(c=b/\0<=i/\i<vs.length)))->Row w g1 b 0 vs:=fun g1 hg i v hi=>⟨(hg _ _).2 (.inr ⟨rfl,tc _,by rw[kT]; exact(fU.1 hi).1⟩),h4 i v hi⟩
 have FA:flat (chunk size n cs)=cs:=by rw[gz,<-hlen,List.take_length]
 have iC:(chunk size n cs).length=n:=jZ size n cs;have fin:∀ g1:G,Inv base g1 (st.put key .gone) w->Ext base g st w g1 (st.put key .gone) w->(∀ c i,g1.dL c i↔(g.dL c i\/(c=b/\0<=i/\i<vs.length)))->Vy g1 b 0 size (chunk size n cs) .dead->QH P base g st w ρ o (.sl size (chunk size n cs) .dead) (st.put key .gone):=by
  intro g1 QV QX hf1 jX;refine⟨ρ x,w,g1,.inl ?_,?_,QV,QX⟩
  ·simp[execOp,ho]
  ·rw[hv]
   have:=bI.sl (w:=w) (g:=g1) size (chunk size n cs) .dead vs b 0 cap (by rw[FA]; exact h2.ext QX) (yy g1 hf1) h3 (oW size n cs (by omega)) (by rw[iC]; exact hn) trivial jX
   rwa[iC] at this
 by_cases Fv:n=0
 ·exact fin _ h7 hE (fun _ _=>Iff.rfl) (.inl ⟨qz (by rw[iC]; exact Fv),fun _ h=>by cases h⟩)
 ·have C1:0<vs.length:=by rw[CU]; exact Nat.mul_pos (Nat.pos_of_ne_zero Fv) (by omega)
  obtain⟨h9,dc⟩:=h7.Qt b size jx uJ (fun t ht=>by
   obtain⟨i,hi⟩:=hI.gH.dL b t ht;exact hI.dP key b i D4 hk hi) ⟨0,.inr ⟨rfl,dN _,C1⟩⟩ (fun _ i hi=>hi.elim (fun hi=>absurd hi (hI.dP key b i D4 hk)) fun hi=>by have:=(h5 i hi.2.2).2; rwa[kT] at this)
  exact fin _ h9 (hE.trans dc) (fun _ _=>Iff.rfl) (.inr ⟨.inr ⟨rfl,rfl⟩,Nat.zero_mod _⟩)
theorem Hm (hT:bD P T) {t:Nat} {k:EK} {z:AV} (h:JW T t=some (k,z)):∃ kt e ei d,P.underlying t=some (.map kt e)/\T e=some ei/\ei.zero=z/\P.underlying kt=some d /\
  ((k = .int/\∃ q,d = .int q)\/(k = .str/\d = .string)\/(k = .bool/\d = .bool)):=by
 unfold JW at h;split at h<;>try cases h
 rename_i ti vA;split at h<;>try cases h
 rename_i kt e hk;split at h<;>try cases h
 rename_i ei hei;obtain⟨d,hd,BD⟩:=(hT t ti vA).kd;rw[hk] at BD;cases d<;>simp only[ld] at BD
 obtain⟨rfl,rfl⟩:=BD;have hek:=HW hT kt;split at h<;>try cases h
 ·rename_i he
  rw[he] at hek;obtain⟨q,hq⟩:=hek;exact⟨kt,e,ei,_,hd,hei,rfl,hq,.inl ⟨rfl,q,rfl⟩⟩
 ·rename_i he
  rw[he] at hek;exact⟨kt,e,ei,_,hd,hei,rfl,hek,.inr (.inl ⟨rfl,rfl⟩)⟩
 ·rename_i he
  rw[he] at hek;exact⟨kt,e,ei,_,hd,hei,rfl,hek,.inr (.inr ⟨rfl,rfl⟩)⟩
def Um (k:EK) (d:TypeDesc):Prop:=(k = .int/\∃ q,d = .int q)\/(k = .str/\d = .string)\/(k = .bool/\d = .bool)
theorem Qk (a b:List UInt8):((⟨a.toArray⟩:ByteArray)==⟨b.toArray⟩)=decide (a=b):=by rw[beq_toListBytes,uz]
theorem rz {k:EK} {d:TypeDesc} (hd:Um k d) {x y:AV} {b:Bool} (h:D7 k x y=some b) {u v:Value} (hu:bI w g x u) (hv:bI w g y v):Instr.sameNow d u v=some b/\(b=true->Instr.sameBits 10000 v u=true):=by
 rcases hd with⟨rfl,q,rfl⟩ |⟨rfl,rfl⟩ |⟨rfl,rfl⟩
 ·cases x<;>cases y<;>simp only[D7] at h<;>first |cases h |skip
  split at h<;>try cases h
  rename_i oI;have oI:=jT oI;subst oI;rw[bK hu,bK hv,iV];refine⟨?_,fun hb=>?_⟩
  ·simp only[Instr.sameNow,oq]; rfl
  ·have:=jT hb
   simp[Instr.sameBits,this]
 ·cases x<;>cases y<;>simp only[D7] at h<;>first |cases h |skip
  rw[cF hu,cF hv,lL];refine⟨by simp[Instr.sameNow,Qk],fun hb=>?_⟩
  have:=jT hb;simp[Instr.sameBits,Qk,this]
 ·cases x<;>cases y<;>simp only[D7] at h<;>first |cases h |skip
  rw[dI hu,dI hv];refine⟨by simp[Instr.sameNow],fun hb=>?_⟩
  have:=by simpa using hb
  simp[Instr.sameBits,this]
theorem Dk {k:EK} {d:TypeDesc} (hd:Um k d) {x:AV} {u:Value} (hu:bI w g x u):∀ (kv:List (AV × AV)) (es:List MapEntry) (i:Nat) (res:Option AV),qY w g kv es->findKey k x kv=some res ->
  (res=none->Instr.findNow d u es i=some none)/\(∀ v,res=some v->∃ j val,Instr.findNow d u es i=some (some (j,val))/\bI w g v val):=by
 intro kv
 induction kv with
 |nil =>
  intro es i res hm hf;obtain⟨h1,h2⟩:=hm;cases es with
  |nil=>simp[findKey] at hf; subst hf; exact⟨fun _=>rfl,fun v h=>by cases h⟩
  |cons e es=>cases h1
 |cons p kv ih =>
  intro es i res hm hf;obtain⟨q,v⟩:=p;obtain⟨h1,h2⟩:=hm;cases es with
  |nil=>cases h1
  |cons e es =>
   cases h1 with
   |cons _ _ _ _ h3 h4=>cases h2 with
    |cons _ _ _ _ h5 h6 =>
     unfold findKey at hf;split at hf<;>try cases hf
     ·rename_i hq
      have hs:=(rz hd hq hu h3).1;refine⟨fun h=>(by cases h),fun v' J4=>⟨i,e.val,?_,?_⟩⟩
      ·simp[Instr.findNow,hs]
      ·injection J4 with J4; subst J4; exact h5
     ·rename_i hq
      have hs:=(rz hd hq hu h3).1;have:=ih es (i+1) res ⟨h4,h6⟩ hf;simp only[Instr.findNow,hs];exact this
theorem zG {k:EK} {d:TypeDesc} (hd:Um k d) {kt:TypeId} (hk:P.underlying kt=some d) (b:Bool) (n:Nat) (u:Value) (w':World):(Instr.checkKey b (n+1) kt u).run P w' = .ok () w':=by
 rcases hd with⟨_,q,rfl⟩ |⟨_,rfl⟩ |⟨_,rfl⟩<;>simp[Instr.checkKey,Sem.run_bind,run_underlying hk]
theorem Wt {t:TypeId} {m ix:Operand} {ok:Bool} {ez:EK × AV} {a b:XO} (hT:bD P T) (ho:o.op = .lookup t m ix ok) (hI:Inv base g st w) (hk:JW T t=some ez) (ha:aH m=some a) (hb:aH ix=some b)
  (hm:b6 w g tm ρ m) (dX:b6 w g tm ρ ix) (hr:yJ st.heap ez.1 ez.2 ok (aD tm a) (aD tm b)=some r):fA P base g st w ρ o r:=by
 obtain⟨kt,e,ei,d,hu,pZ,hz,Xh,hd⟩:=Hm hT hk;obtain⟨inf,z,h2,h3,h4,h5,h6,h7,h8⟩:=(hT e ei pZ).info;have h1:=hm a ha;have h1':=dX b hb;unfold yJ at hr;split at hr<;>try cases hr
 rename_i key he;split at hr<;>try cases hr
 rename_i bX kv Xg;rw[he] at h1;obtain⟨bl,qR,hv⟩:=As h1;obtain⟨⟨es,clock,tJ,Tb⟩,_⟩:=hI.xI key _ bl Xg qR;have jn:(getObj bl).run P w = .ok (.map es clock) w:=by simp[getObj,Sem.run,tJ]
 have OR:=zG (P:=P) hd Xh es.isEmpty 9999 (ρ ix) w;split at hr<;>try cases hr
 ·rename_i v hf
  obtain⟨j,val,Xn,tG⟩:=(Dk hd h1' kv es.toList 0 _ Tb hf).2 v rfl;refine fA.of hI (v:=if ok then .tuple #[val,.bool true] else val) ?_ ?_
  ·simp[execOp,ho,hv,Instr.lookup,Sem.run_bind,run_underlying hu,jn,OR,Instr.findKey,run_underlying Xh,Xn]
  ·cases ok with
   |true=>exact .cv _ [val,.bool true] (.cons _ _ _ _ tG (RL.one (.bool true)))
   |false=>exact tG
 ·rename_i hf
  have Xn:=(Dk hd h1' kv es.toList 0 _ Tb hf).1 rfl;refine fA.of hI (v:=if ok then .tuple #[z,.bool false] else z) ?_ ?_
  ·simp[execOp,ho,hv,Instr.lookup,Sem.run_bind,run_underlying hu,jn,OR,Instr.findKey,run_underlying Xh,Xn,zeroValue,typeInfo,h2,h5]
  ·rw[<-hz]
   cases ok with
   |true=>exact .cv _ [z,.bool false] (.cons _ _ _ _ (h6 w g) (RL.one (.bool false)))
   |false=>exact h6 w g
theorem TS {t:TypeId} (ho:o.op = .makeMap t none) (hI:Inv base g st w):QH P base g st w ρ o (.mp st.next) (st.new (.map 0 [])):=by
 obtain⟨h3,h4⟩:=hI.alloc (.map #[] 0);have hk:∀ k,g.key k≠some w.heap.size:=fun k hk=>by have:=(hI.cK k _ hk).2; omega
 have ht:∀ k s e,g.aN k≠some (w.heap.size,s,e):=fun k s e hk=>by have:=(hI.dS k _ s e hk).2; omega
 obtain⟨h5,h6⟩:=h3.Qv w.heap.size (.map 0 []) rfl hI.cf (by simp) (fun k _=>hk k) (fun k s e _=>ht k s e) (fun i hf=>by
  obtain⟨v,hv⟩:=hI.eQ _ _ hf;have:=gj hv; omega) ⟨#[],0,heap_alloc_new w _,.nil,.nil⟩
 refine⟨.map (some w.heap.size),_,_,.inl ?_,.mp _ _ (by simp),h5,h4.trans h6⟩
 simp[execOp,ho,Instr.makeMap,newObj,Sem.run]
theorem R0 {k:EK} {d:TypeDesc} (hd:Um k d) {x y:AV} {u yv:Value} (hu:bI w g x u) (hy:bI w g y yv):∀ (kv:List (AV × AV)) (es:List MapEntry) (i:Nat) (l:List (AV × AV)),qY w g kv es->putKey k x y kv=some l ->
  (∃ j val e,Instr.findNow d u es i=some (some (i+j,val))/\es[j]?=some e/\Instr.sameBits 10000 e.key u=true/\qY w g l (es.modify j fun e=>{e with key:=u,val:=yv })) \/
  (Instr.findNow d u es i=some none/\∀ c,qY w g l (es++[{key:=u,val:=yv,born:=c }])):=by
 intro kv
 induction kv with
 |nil =>
  intro es i l hm hf;obtain⟨h1,h2⟩:=hm;cases es with
  |nil=>simp[putKey] at hf; subst hf; exact .inr ⟨rfl,fun c=>⟨RL.one hu,RL.one hy⟩⟩
  |cons e es=>cases h1
 |cons p kv ih =>
  intro es i l hm hf;obtain⟨q,v⟩:=p;obtain⟨h1,h2⟩:=hm;cases es with
  |nil=>cases h1
  |cons e es =>
   cases h1 with
   |cons _ _ _ _ h3 h4=>cases h2 with
    |cons _ _ _ _ h5 h6 =>
     unfold putKey at hf;split at hf<;>try cases hf
     ·rename_i hq
      obtain⟨hs,hb⟩:=rz hd hq hu h3;refine .inl ⟨0,e.val,e,by simp[Instr.findNow,hs],rfl,hb rfl,?_⟩
      exact⟨.cons _ _ _ _ hu h4,.cons _ _ _ _ hy h6⟩
     ·rename_i hq
      obtain⟨hs,_⟩:=rz hd hq hu h3;split at hf<;>try cases hf
      rename_i l' jm;rcases ih es (i+1) l' ⟨h4,h6⟩ jm with⟨j,val,e',h7,h8,h9,dc,ik⟩ |⟨h7,h8⟩
      ·refine .inl ⟨j+1,val,e',?_,by simpa using h8,h9,?_⟩
       ·simp only[Instr.findNow,hs,h7]
        congr 3; omega
       ·exact⟨.cons _ _ _ _ h3 dc,.cons _ _ _ _ h5 ik⟩
      ·refine .inr ⟨by simp only[Instr.findNow,hs,h7],fun c=>?_⟩
       obtain⟨h9,dc⟩:=h8 c;exact⟨.cons _ _ _ _ h3 h9,.cons _ _ _ _ h5 dc⟩
theorem Vd {t:TypeId} {m k x:Operand} {ez:EK × AV} {a b c:XO} {ae:St} (hT:bD P T) (ho:o.op = .insert t m k x\/o.op = .mapUpdate t m k x) (hI:Inv base g st w) (hk:JW T t=some ez) (ha:aH m=some a) (hb:aH k=some b) (hc:aH x=some c)
  (hm:b6 w g tm ρ m) (Oz:b6 w g tm ρ k) (hx:b6 w g tm ρ x) (hr:Lw st ez.1 (aD tm a) (aD tm b) (aD tm c)=some (r,ae)):QH P base g st w ρ o r ae:=by
 obtain⟨kt,e,ei,d,hu,pZ,hz,Xh,hd⟩:=Hm hT hk;have h1:=hm a ha;have h1':=Oz b hb;have h1'':=hx c hc;unfold Lw at hr;split at hr<;>try cases hr
 rename_i key he;split at hr<;>try cases hr
 rename_i bX kv Xg;split at hr<;>try cases hr
 rename_i l hl;rw[he] at h1;obtain⟨bl,qR,hv⟩:=As h1;obtain⟨⟨es,clock,tJ,Tb⟩,HG⟩:=hI.xI key _ bl Xg qR;have jn:(getObj bl).run P w = .ok (.map es clock) w:=by simp[getObj,Sem.run,tJ]
 have OR:=zG (P:=P) hd Xh false 9999 (ρ k) w;have qK:∀ ob,(setObj bl ob).run P w = .ok () {w with heap:=w.heap.setIfInBounds bl ob }:=fun ob=>by simp[setObj,Sem.run,tJ]
 have aO:bl<w.heap.size:=(hI.cK key bl qR).2;have fin:∀ cr oV,qY w g l cr.toList->Inv base g (st.put key (.map (Nat.succ bX) l)) {w with heap:=w.heap.setIfInBounds bl (.map cr oV) }/\Ext base g st w g (st.put key (.map (Nat.succ bX) l)) {w with heap:=w.heap.setIfInBounds bl (.map cr oV) }:=by
  intro cr oV UW;have dF:∀ c,c≠bl->c<w.heap.size->(w.heap.setIfInBounds bl (Obj.map cr oV))[c]?=w.heap[c]?:=fun c hc _=>by
   rw[EP,ba (fun e=>hc e.symm)]
  have wY:gN g w {w with heap:=w.heap.setIfInBounds bl (.map cr oV) }:=fun c j hf=>by
   obtain⟨v,hv⟩:=hI.eQ c j hf;exact World.cell?_of_block (a:=⟨c,j,none⟩) (dF c (fun e=>by subst e; exact hI.dP key c j ⟨_,Xg,rfl⟩ qR hf) (gj hv))
  refine hI.VS key bl _ (.map (Nat.succ bX) l) Xg rfl rfl qR (by simp) (fun jx=>⟨rfl,rfl,rfl,by simp,fun j hj=>?_⟩) dF ⟨cr,oV,?_,UW.1.mono wY (.refl g),UW.2.mono wY (.refl g)⟩
  ·show(w.heap.setIfInBounds bl (Obj.map cr oV))[j]?=w.heap[j]?
   rw[EP,ba (by omega)]
  ·show(w.heap.setIfInBounds bl (Obj.map cr oV))[bl]?=_
   rw[EP,bJ rfl,bJ aO]
 rcases R0 hd h1' h1'' kv es.toList 0 l Tb hl with⟨j,val,e',h7,h8,h9,dc⟩ |⟨h7,h8⟩
 ·rw[kT] at h7
  obtain⟨ik,kG⟩:=fin (es.modify j fun e=>{e with key:=ρ k,val:=ρ x }) clock (by rw[Array.toList_modify]; exact dc)
  refine⟨undef,_,g,.inr ⟨?_,rfl⟩,fC,ik,kG⟩
  have h8':es[j]?=some e':=by simpa using h8
  rcases ho with ho |ho<;>simp[execOp,ho,hv,Instr.mapUpdate,Sem.run_bind,run_underlying hu,jn,OR,Instr.findKey,run_underlying Xh,h7,h8',Instr.keyThatStays,h9,qK]
 ·obtain⟨ik,kG⟩:=fin (es.push {key:=ρ k,val:=ρ x,born:=clock }) (clock+1) (by rw[Array.toList_push]; exact h8 clock)
  refine⟨undef,_,g,.inr ⟨?_,rfl⟩,fC,ik,kG⟩
  rcases ho with ho |ho<;>simp[execOp,ho,hv,Instr.mapUpdate,Sem.run_bind,run_underlying hu,jn,OR,Instr.findKey,run_underlying Xh,h7,qK]
end
end Go.Ev
namespace Go.Ev
open Go.RowKit
section
variable {P : Program} {T : Nat → Option TI} {base : Nat} {g : G} {st : St} {w : World} {tm : Tr AV} {r : AV}
def Yields (P:Program) (base:Nat) (f:Nat) (vs:List Value) (r:AV) (g:G) (st:St) (w:World) (ae:St):Prop :=
 Calls P f vs.toArray w fun e w'=>∃ v g',e = .returned v/\bI w' g' r v/\Inv base g' ae w'/\Ext base g st w g' ae w'
def gA (P:Program) (base:Nat) (call:Nat->List AV->St->Option (AV × St)):Prop :=
 ∀ f args st r ae,call f args st=some (r,ae)->(∃ fn,P.funcs[f]?=some fn/\fn.body.isNone=false/\(fn.name == "runtime.NumGoroutine")=false) /\
  ∀ w g vs,RL w g args vs->Inv base g st w->Yields P base f vs r g st w ae
theorem au {α β:Type} {x:Option α} {f:α->Option β} {b:β} (h:opt x f=some b):∃ a,x=some a/\f a=some b:=by
 unfold opt at h;split at h
 ·exact⟨_,rfl,h⟩
 ·cases h
theorem M8 {o:Oper} {a:Act} {K:Act->World->Prop} {Q:Exit->Act->World->Prop} (h:fA P base g st w a.eval o r) (hK:∀ v w' g',bI w' g' r v->Inv base g' st w'->Ext base g st w g' st w'->K (a.put o.dst v) w'):Oper.wp P o a w K Q:=by
 obtain⟨v,w',g',h1,h2,h3,h4⟩:=h;unfold Oper.wp;rw[h1];exact hK v w' g' h2 h3 h4
theorem Yf {o:Oper} {a:Act} {K:Act->World->Prop} {Q:Exit->Act->World->Prop} {ae:St} (h:QH P base g st w a.eval o r ae) (hK:∀ v w' g',bI w' g' r v->Inv base g' ae w'->Ext base g st w g' ae w'->K (a.put o.dst v) w'):Oper.wp P o a w K Q:=by
 obtain⟨v,w',g',h1,h2,h3,h4⟩:=h;unfold Oper.wp;rcases h1 with h1 |⟨h1,rfl⟩
 ·rw[h1]; exact hK v w' g' h2 h3 h4
 ·rw[h1]; exact hK undef w' g' h2 h3 h4
theorem fO {x:Option AV} {st ae:St} (h:rM st x=some (r,ae)):x=some r/\ae=st:=by
 cases x with
 |none=>cases h
 |some v =>
  have h:some (v,st)=some (r,ae):=h;injection h with h
  injection h with h1 h2
  exact⟨by rw[h1],h2.symm⟩
theorem T5 {call:Nat->List AV->St->Option (AV × St)} (cL:gA P base call) {o:Oper} {c:Call} {a:Act} {K:Act->World->Prop} {Q:Exit->Act->World->Prop} {f:Operand} {xf:XO} {xs:List XO} {ae:St} (ho:o.op = .call c)
  (hc:c.callee = .value f) (hf:aH f=some xf) (hx:jF c.args.toList=some xs) (hof:b6 w g tm a.eval f) (hox:∀ x∈c.args.toList,b6 w g tm a.eval x) (hI:Inv base g st w)
  (hr:uu call st (aD tm xf) (nR tm xs)=some (r,ae)) (hK:∀ v w' g',bI w' g' r v->Inv base g' ae w'->Ext base g st w g' ae w'->K (a.put o.dst v) w'):Oper.wp P o a w K Q:=by
 have h1:=hof xf hf;unfold uu at hr;split at hr<;>try cases hr
 rename_i id first la he
 rw[he] at h1;obtain⟨us,vs,h2,h3,hv⟩:=At h1;obtain⟨⟨fn,Xn,C9,Ox⟩,hy⟩:=cL _ _ _ _ _ hr;have h4:=(h2.append (nd hx hox)).append h3;have cm:(execOp a.eval o).run P w = .ok (.enter id ((us++(c.args.toList.map a.eval))++vs).toArray) w:=by
  have Fu:¬ fn.name = "runtime.NumGoroutine":=by simpa using Ox
  have FI:¬ fn.body=none:=fun h=>by rw[h] at C9; cases C9
  simp[execOp,ho,resolve,hc,hv,Deferred.ofValue,invoke,callFunc,Sem.run_bind,Xn,FI,Fu]
 unfold Oper.wp;rw[cm];exact(hy w g _ h4 hI).mono fun e w' ⟨v,g',eO,h5,h6,h7⟩=>by
  subst eO;exact hK v w' g' h5 h6 h7
theorem ji (hT:bD P T) {call:Nat->List AV->St->Option (AV × St)} (cL:gA P base call) {o:Oper} {kd:Nat} {xo:Iz} (hc:lN T kd o.op=some xo) {a:Act} (hI:Inv base g st w)
  (hρ:∀ x∈o.op.operands.toList,b6 w g tm a.eval x) {ae:St} (hr:mY call st tm xo=some (r,ae)) {K:Act->World->Prop} {Q:Exit->Act->World->Prop}
  (hK:∀ v w' g',bI w' g' r v->Inv base g' ae w'->Ext base g st w g' ae w'->K (a.put o.dst v) w'):Oper.wp P o a w K Q:=by
 have P':∀ {xp:XP},xo = .p xp->(∀ r,mw tm xp=some r->fA P base g st w a.eval o r)->Oper.wp P o a w K Q:=by
  rintro xp rfl hp
  obtain⟨h1,rfl⟩:=fO (show rM st (mw tm xp)=some (r,ae) from hr)
  exact M8 (hp r h1) hK
 have L':∀ {xl:XL},xo = .l xl->(∀ r,KE st.heap tm xl=some r->fA P base g st w a.eval o r)->Oper.wp P o a w K Q:=by
  rintro xl rfl hp
  obtain⟨h1,rfl⟩:=fO (show rM st (KE st.heap tm xl)=some (r,ae) from hr)
  exact M8 (hp r h1) hK
 have E':∀ {xe:XE},xo = .e xe->(Yp call st tm xe=some (r,ae)->QH P base g st w a.eval o r ae)->Oper.wp P o a w K Q:=by
  rintro xe rfl hp
  exact Yf (hp hr) hK
 cases cW:o.op with
 |move x =>
  rw[cW] at hc hρ;obtain⟨z,hz,hc⟩:=au hc;split at hc
  ·injection hc with hc
   refine P' hc.symm fun r hr=>?_
   injection hr with hr; subst hr
   exact Nc (.inl cW) hI hz (hρ x (by simp[Op.operands]))
  ·injection hc with hc
   exact E' hc.symm fun hr=>e_frz cW hI hz (hρ x (by simp[Op.operands])) hr
 |assign x =>
  rw[cW] at hc hρ;obtain⟨z,hz,hc⟩:=au hc;injection hc with hc
  refine P' hc.symm fun r hr=>?_
  injection hr with hr; subst hr
  exact Nc (.inr cW) hI hz (hρ x (by simp[Op.operands]))
 |pick c x y =>
  rw[cW] at hc hρ;obtain⟨z1,wU,hc⟩:=au hc;obtain⟨z2,qH,hc⟩:=au hc;obtain⟨z3,hz3,hc⟩:=au hc;injection hc with hc
  exact P' hc.symm fun r hr=>Wq cW hI wU qH hz3 (hρ c (by simp[Op.operands])) (hρ x (by simp[Op.operands])) (hρ y (by simp[Op.operands])) hr
 |alloc t =>
  rw[cW] at hc hρ;obtain⟨i,hi,hc⟩:=au hc;cases hz:i.zero.cells with
  |nil=>simp only[hz] at hc; cases hc
  |cons z zs =>
   simp only[hz] at hc;injection hc with hc
   refine E' hc.symm fun hr=>?_
   have hr:some (AV.ptr st.next 0,st.new (.box 0 (z::zs)))=some (r,ae):=hr;injection hr with hr
   injection hr with h1 h2
   subst h1 h2;have:=TU (ρ:=a.eval) hT cW hI hi (by rw[hz]; exact fun h=>by cases h)
   rwa[hz] at this
 |box t x =>
  rw[cW] at hc hρ;obtain⟨i,hi,hc⟩:=au hc;split at hc<;>try cases hc
  rename_i cJ;obtain⟨z,hz,hc⟩:=au hc;injection hc with hc
  refine E' hc.symm fun hr=>?_
  have hr:DX st tm i.size z=some (r,ae):=hr;rw[bo] at cJ;cases hl:Nat.beq (aD tm z).cells.length i.size with
  |false=>simp only[DX,hl] at hr; cases hr
  |true =>
   simp only[DX,hl] at hr;injection hr with hr
   injection hr with h1 h2
   subst h1 h2;rw[bo] at hl;exact e_box cW hI hz (hρ x (by simp[Op.operands])) (by simpa using cJ) (jT hl)
 |build t parts =>
  rw[cW] at hc hρ;obtain⟨i,hi,hc⟩:=au hc;split at hc<;>try cases hc
  rename_i fs hk;split at hc<;>try cases hc
  rename_i cJ;obtain⟨l,hl,hc⟩:=au hc;injection hc with hc
  rw[bo] at cJ;exact P' hc.symm fun r hr=>R7 hT cW hI hi hk (by simpa using cJ) hl (fun p hp=>hρ p.2 (by simp[Op.operands]; exact⟨p.1,by simpa using hp⟩)) hr
 |buildSlice t len parts =>
  rw[cW] at hc hρ;obtain⟨i,hi,hc⟩:=au hc;split at hc<;>try cases hc
  rename_i cJ;obtain⟨l,hl,hc⟩:=au hc;injection hc with hc
  exact P' hc.symm fun r hr=>Ng hT cW hI hi (gW cJ) hl (fun p hp=>hρ p.2 (by simp[Op.operands]; exact⟨p.1,by simpa using hp⟩)) hr
 |insert t m k x =>
  rw[cW] at hc hρ;obtain⟨e,he,hc⟩:=au hc;obtain⟨z1,wU,hc⟩:=au hc;obtain⟨z2,qH,hc⟩:=au hc;obtain⟨z3,hz3,hc⟩:=au hc;injection hc with hc
  exact E' hc.symm fun hr=>Vd hT (.inl cW) hI he wU qH hz3 (hρ m (by simp[Op.operands])) (hρ k (by simp[Op.operands])) (hρ x (by simp[Op.operands])) hr
 |mapUpdate t m k x =>
  rw[cW] at hc hρ;obtain⟨e,he,hc⟩:=au hc;obtain⟨z1,wU,hc⟩:=au hc;obtain⟨z2,qH,hc⟩:=au hc;obtain⟨z3,hz3,hc⟩:=au hc;injection hc with hc
  exact E' hc.symm fun hr=>Vd hT (.inr cW) hI he wU qH hz3 (hρ m (by simp[Op.operands])) (hρ k (by simp[Op.operands])) (hρ x (by simp[Op.operands])) hr
 |load t x =>
  rw[cW] at hc hρ;obtain⟨i,hi,hc⟩:=au hc;split at hc
  ·rename_i hg
   obtain⟨z,hz,hc⟩:=au hc;injection hc with hc
   exact L' hc.symm fun r hr=>Nd hT cW hI hi hz (hρ x (by simp[Op.operands])) (by rw[hg]; exact hr)
  ·rename_i hg hs
   obtain⟨z,hz,hc⟩:=au hc;injection hc with hc
   rw[bo] at hs;have hs:=jT hs;exact L' hc.symm fun r hr=>Nd hT cW hI hi hz (hρ x (by simp[Op.operands])) (by rw[hg,hs]; exact hr)
  ·cases hc
 |store t x y =>
  rw[cW] at hc hρ;obtain⟨i,hi,hc⟩:=au hc;split at hc<;>try cases hc
  rename_i cJ;obtain⟨z1,wU,hc⟩:=au hc;obtain⟨z2,qH,hc⟩:=au hc;injection hc with hc
  rw[bo] at cJ;exact E' hc.symm fun hr=>TR hT cW hI hi (by simpa using cJ) wU qH (hρ x (by simp[Op.operands])) (hρ y (by simp[Op.operands])) hr
 |nilCheck x =>
  rw[cW] at hc hρ;obtain⟨z,hz,hc⟩:=au hc;injection hc with hc
  exact P' hc.symm fun r hr=>Ws cW hI hz (hρ x (by simp[Op.operands])) hr
 |binOp op t x y t' =>
  rw[cW] at hc hρ;obtain⟨z1,wU,hc⟩:=au hc;obtain⟨z2,qH,hc⟩:=au hc;injection hc with hc
  exact P' hc.symm fun r hr=>p_bin hT cW hI wU qH (hρ x (by simp[Op.operands])) (hρ y (by simp[Op.operands])) hr
 |unOp op t x =>
  rw[cW] at hc hρ;cases op with
  |not =>
   obtain⟨z,hz,hc⟩:=au hc;injection hc with hc
   exact P' hc.symm fun r hr=>p_not cW hI hz (hρ x (by simp[Op.operands])) hr
  |neg =>
   obtain⟨z,hz,hc⟩:=au hc;injection hc with hc
   exact P' hc.symm fun r hr=>p_neg cW hI hz (hρ x (by simp[Op.operands])) hr
  |_=>cases hc
 |convert s d x =>
  rw[cW] at hc hρ;obtain⟨z,hz,hc⟩:=au hc;obtain⟨p,hp,hc⟩:=au hc;injection hc with hc
  have hx:=hρ x (by simp[Op.operands])
  unfold DG at hp;split at hp<;>try cases hp
  rename_i di hdi;split at hp<;>try cases hp
  ·rename_i k hk
   split at hp<;>try cases hp
   rename_i si hsi;split at hp<;>try cases hp
   rename_i q hq;exact P' hc.symm fun r hr=>Wx hT cW hI hdi hk hsi hq hz hx hr
  ·rename_i hk
   split at hp<;>try cases hp
   rename_i si hsi;split at hp<;>try cases hp
   ·rename_i hq
    exact P' hc.symm fun r hr=>Ww hT cW hI hdi hk hsi hq hz hx hr
   ·rename_i e hq
    split at hp<;>try cases hp
    rename_i ei hei;split at hp<;>try cases hp
    rename_i hu8;exact P' hc.symm fun r hr=>Nf hT cW hI hdi hk hsi hq hei hu8 hz hx hr
 |makeFunc f first la =>
  rw[cW] at hc hρ;cases f with
  |func f =>
   obtain⟨l,hl,hc⟩:=au hc;obtain⟨m,hm,hc⟩:=au hc;injection hc with hc
   refine P' hc.symm fun r hr=>?_
   injection hr with hr; subst hr
   exact p_mkf cW hI hl hm (fun x hx=>hρ x (by simp[Op.operands]; exact .inl (by simpa using hx))) (fun x hx=>hρ x (by simp[Op.operands]; exact .inr (by simpa using hx)))
  |_=>cases hc
 |makeSlice t l c =>
  rw[cW] at hc hρ;obtain⟨i,hi,hc⟩:=au hc;obtain⟨z1,wU,hc⟩:=au hc;obtain⟨z2,qH,hc⟩:=au hc;injection hc with hc
  exact E' hc.symm fun hr=>Yi hT cW hI hi wU qH (hρ l (by simp[Op.operands])) (hρ c (by simp[Op.operands])) hr
 |makeMap t rs =>
  rw[cW] at hc hρ;cases rs with
  |none =>
   injection hc with hc
   refine E' hc.symm fun hr=>?_
   have hr:some (AV.mp st.next,st.new (.map 0 []))=some (r,ae):=hr;injection hr with hr
   injection hr with h1 h2
   subst h1 h2;exact TS cW hI
  |some _=>cases hc
 |slice t x lo hi mx =>
  rw[cW] at hc hρ;cases mx with
  |some _=>cases hc
  |none =>
   obtain⟨z,hz,hc⟩:=au hc;obtain⟨l,hl,hc⟩:=au hc;obtain⟨h,hh,hc⟩:=au hc;have hx:=hρ x (by simp[Op.operands])
   have Kc:∀ y,lo=some y->b6 w g tm a.eval y:=fun y hy=>hρ y (by simp[Op.operands,hy])
   have OI:∀ y,hi=some y->b6 w g tm a.eval y:=fun y hy=>hρ y (by simp[Op.operands,hy])
   split at hc
   ·rename_i ht
    injection hc with hc
    exact P' hc.symm fun r hr=>Wo hT cW hI ht hz hl hh hx Kc OI hr
   ·obtain⟨i,pF,hc⟩:=au hc
    injection hc with hc
    exact P' hc.symm fun r hr=>Wp hT cW hI pF hz hl hh hx Kc OI hr
 |fieldAddr t x i =>
  rw[cW] at hc hρ;obtain⟨f,hf,hc⟩:=au hc;obtain⟨z,hz,hc⟩:=au hc;injection hc with hc
  exact P' hc.symm fun r hr=>R6 hT cW hI hf hz (hρ x (by simp[Op.operands])) hr
 |field t x i =>
  rw[cW] at hc hρ;obtain⟨f,hf,hc⟩:=au hc;obtain⟨z,hz,hc⟩:=au hc;injection hc with hc
  exact P' hc.symm fun r hr=>R5 hT cW hI hf hz (hρ x (by simp[Op.operands])) hr
 |indexAddr t x ix =>
  rw[cW] at hc hρ;obtain⟨i,hi,hc⟩:=au hc;obtain⟨z1,wU,hc⟩:=au hc;obtain⟨z2,qH,hc⟩:=au hc;injection hc with hc
  exact P' hc.symm fun r hr=>R4 hT cW hI hi wU qH (hρ x (by simp[Op.operands])) (hρ ix (by simp[Op.operands])) hr
 |index t x ix =>
  rw[cW] at hc hρ;simp only[lN] at hc;split at hc<;>try cases hc
  rename_i ht;obtain⟨z1,wU,hc⟩:=au hc;obtain⟨z2,qH,hc⟩:=au hc;injection hc with hc
  exact P' hc.symm fun r hr=>p_ixs hT cW hI ht wU qH (hρ x (by simp[Op.operands])) (hρ ix (by simp[Op.operands])) hr
 |lookup t m ix ok =>
  rw[cW] at hc hρ;obtain⟨e,he,hc⟩:=au hc;obtain⟨z1,wU,hc⟩:=au hc;obtain⟨z2,qH,hc⟩:=au hc;injection hc with hc
  exact L' hc.symm fun r hr=>Wt hT cW hI he wU qH (hρ m (by simp[Op.operands])) (hρ ix (by simp[Op.operands])) hr
 |extract x i =>
  rw[cW] at hc hρ;obtain⟨z,hz,hc⟩:=au hc;injection hc with hc
  exact P' hc.symm fun r hr=>p_ext cW hI hz (hρ x (by simp[Op.operands])) hr
 |call c =>
  rw[cW] at hc hρ;have hargs:∀ x∈c.args.toList,b6 w g tm a.eval x:=fun x hx=>hρ x (by simp[Op.operands,Call.operands]; exact .inr (by simpa using hx))
  simp only[lN] at hc;unfold DH at hc;split at hc
  ·rename_i f hf
   obtain⟨z,hz,hc⟩:=au hc;obtain⟨l,hl,hc⟩:=au hc;injection hc with hc
   subst hc;exact T5 cL cW hf hz hl (hρ f (by simp[Op.operands,Call.operands,hf])) hargs hI hr hK
  ·rename_i hf
   split at hc<;>try cases hc
   rename_i x t hA hB;obtain⟨z,hz,hc⟩:=au hc;have hx:=hargs x (by rw[hA]; simp)
   split at hc
   ·rename_i ht
    injection hc with hc
    exact P' hc.symm fun r hr=>Wu hT cW hf hA hB hI ht hz hx hr
   ·obtain⟨i,hi,hc⟩:=au hc
    injection hc with hc
    exact P' hc.symm fun r hr=>Wv hT cW hf hA hB hI hi hz hx hr
  ·rename_i hf
   split at hc<;>try cases hc
   rename_i x y hA;obtain⟨z1,wU,hc⟩:=au hc;obtain⟨z2,qH,hc⟩:=au hc;injection hc with hc
   exact P' hc.symm fun r hr=>p_max cW hf hA hI wU qH (hargs x (by rw[hA]; simp)) (hargs y (by rw[hA]; simp)) hr
  ·rename_i hf
   split at hc<;>try cases hc
   rename_i x y hA;obtain⟨z1,wU,hc⟩:=au hc;obtain⟨z2,qH,hc⟩:=au hc;injection hc with hc
   exact P' hc.symm fun r hr=>p_min cW hf hA hI wU qH (hargs x (by rw[hA]; simp)) (hargs y (by rw[hA]; simp)) hr
  ·rename_i hf
   split at hc<;>try cases hc
   rename_i x y t u hA hB;obtain⟨i,hi,hc⟩:=au hc;obtain⟨z1,wU,hc⟩:=au hc;obtain⟨z2,qH,hc⟩:=au hc;cases hu:rv T u with
   |false=>rw[hu] at hc; cases hc
   |true =>
   rw[hu] at hc;injection hc with hc
   exact E' hc.symm fun hr=>e_app hT cW hf hA hB hI hi hu wU qH (hargs x (by rw[hA]; simp)) (hargs y (by rw[hA]; simp)) hr
  ·cases hc
 |_=>rw[cW] at hc; cases hc
end
end Go.Ev
theorem mD:type_of% @Array.getD_eq_getD_getElem?:=@Array.getD_eq_getD_getElem?
theorem RZ:type_of% @Array.getElem?_replicate:=@Array.getElem?_replicate
theorem MX:type_of% @Array.getElem?_toList:=@Array.getElem?_toList
theorem e7:type_of% @Bool.false_or:=@Bool.false_or
theorem wy:type_of% @Bool.not_true:=@Bool.not_true
theorem MW:type_of% @List.eq_nil_iff_forall_not_mem:=@List.eq_nil_iff_forall_not_mem
theorem tb:type_of% @List.mem_range:=@List.mem_range
theorem JC:type_of% @Option.getD_some:=@Option.getD_some
theorem JD:type_of% @Option.map_some:=@Option.map_some
namespace Go.Ev
open Go.RowKit
def p8:List Bool->Nat
 | []=>0
 |b::t=>(if b then 0 else 1)+p8 t
theorem IW (l:List Bool):∀ (i:Nat),i<l.length->l[i]?=some false->p8 (l.set i true)+1=p8 l:=by
 induction l with
 |nil=>intro i h; simp at h
 |cons b t ih =>
  intro i h hi;cases i with
  |zero=>simp at hi; subst hi; simp[p8]; omega
  |succ i =>
   have:=ih i (by simpa using h) (by simpa using hi)
   simp only[List.set_cons_succ,p8];omega
theorem Ee (l:List Bool) (h:p8 l=0):∀ i,i<l.length->l[i]?=some true:=by
 induction l with
 |nil=>intro i hi; simp at hi
 |cons b t ih =>
  intro i hi;simp only[p8] at h;cases i with
  |zero=>cases b with
   |true=>rfl
   |false=>simp at h
  |succ i=>exact ih (by omega) i (by simpa using hi)
def marks (aG:Array Bool) (i:Nat):Bool:=aG.getD i false
section
variable {P : Program} {ops : Array Oper} {Q : Exit → Act → World → Prop}
theorem mem_ready {aG:Array Bool} {i:Nat} (h:i∈Region.ready .any ops aG) (cJ:aG.size=ops.size) :
  ∃ o,ops[i]?=some o/\marks aG i=false/\i<ops.size/\∀ e∈o.after,Region.binds .any e=true->marks aG e.on=true:=by
 unfold Region.ready at h;rw[List.mem_filter] at h;obtain⟨h1,h2⟩:=h;have hi:i<ops.size:=tb.1 h1;have ho:ops[i]?=some ops[i]:=MY hi
 rw[ho] at h2;simp only[kQ,JD,JC] at h2;obtain⟨h3,h4⟩:=h2;refine⟨ops[i],ho,?_,hi,?_⟩
 ·unfold marks
  have hl:i<aG.size:=by omega
  simp only[Array.getD,hl,dif_pos] at h3 ⊢
  simpa using h3
 ·intro e he hb
  have:=Array.all_eq_true'.1 h4 e he;simp only[hb,wy,e7] at this;exact this
theorem qx {aG:Array Bool} (h:Region.ready .any ops aG=[]) (cJ:aG.size=ops.size) (kD:∀ (i:Nat) (o:Oper),ops[i]?=some o->∀ e∈o.after,Region.binds .any e=true->e.on<i):∀ i,i<ops.size->marks aG i=true:=by
 intro i
 induction i using Nat.strongRecOn with
 |_ i ih =>
  intro hi;cases hm:marks aG i with
  |true=>rfl
  |false =>
   exfalso
   have ho:ops[i]?=some ops[i]:=MY hi
   have cn:i∈Region.ready .any ops aG:=by
    unfold Region.ready;rw[List.mem_filter];refine⟨tb.2 hi,?_⟩
    rw[ho];simp only[kQ,JD,JC];refine⟨?_,?_⟩
    ·unfold marks at hm
     have hl:i<aG.size:=by omega
     simp only[Array.getD,hl,dif_pos] at hm ⊢
     simpa using hm
    ·refine Array.all_eq_true'.2 fun e he=>?_
     cases hb:Region.binds .any e with
     |false=>simp
     |true =>
      have aO:=kD i ops[i] ho e he hb;have hd:=ih e.on aO (by omega)
      unfold marks at hd;rw[hd]; simp
   rw[h] at cn;cases cn
theorem vQ {a:Act} {w:World} (kD:∀ (i:Nat) (o:Oper),ops[i]?=some o->∀ e∈o.after,Region.binds .any e=true->e.on<i)
  (Inv:(Nat->Bool)->Act->World->Prop) (h0:Inv (fun _=>false) a w.drew)
  (step:∀ (D:Nat->Bool) (a:Act) (w:World) (i:Nat) (o:Oper),ops[i]?=some o->D i=false->(∀ e∈o.after,Region.binds .any e=true->D e.on=true) ->
   (∀ (j:Nat) (oj:Oper),ops[j]?=some oj->D j=true->∀ e∈oj.after,Region.binds .any e=true->D e.on=true)->Inv D a w ->
   ∀ K:Act->World->Prop,(∀ a' w',Inv (fun j=>if j=i then true else D j) a' w'->K a' w')->if Region.wanted o (yielded ops a.tmps)=true then Oper.wp P o a w K Q else K (a.put o.dst undef) w)
  (eN:∀ (D:Nat->Bool) (a:Act) (w:World),(∀ i,i<ops.size->D i=true)->Inv D a w->Q .normal a w):wpAny P .any ops Q ops.size (Array.replicate ops.size false) a w.drew:=by
 have key:∀ (fuel:Nat) (aG:Array Bool) (a:Act) (w:World),aG.size=ops.size->p8 aG.toList<=fuel ->
   (∀ (j:Nat) (oj:Oper),ops[j]?=some oj->marks aG j=true->∀ e∈oj.after,Region.binds .any e=true->marks aG e.on=true)->Inv (marks aG) a w->wpAny P .any ops Q fuel aG a w:=by
  intro fuel
  induction fuel with
  |zero =>
   intro aG a w cJ hu iC hI;have gM:∀ i,i<ops.size->marks aG i=true:=by
    intro i hi;have:=Ee aG.toList (by omega) i (by simpa[cJ] using hi)
    unfold marks;rw[MX] at this
    simp[mD,this]
   refine⟨?_,eN _ a w gM hI⟩
   rw[MW];intro i hi;obtain⟨o,_,hf,aO,_⟩:=mem_ready hi cJ;rw[gM i aO] at hf;cases hf
  |succ fuel ih =>
   intro aG a w cJ hu iC hI;refine⟨fun hr=>eN _ a w (qx hr cJ kD) hI,fun i hi=>?_⟩
   obtain⟨o,ho,hf,aO,hdep⟩:=mem_ready hi cJ;refine wpOp_step ho fun K' hK=>?_
   have Kb:marks (aG.setIfInBounds i true)=fun j=>if j=i then true else marks aG j:=by
    funext j
    unfold marks
    by_cases hj:j=i
    ·subst hj
     have:j<aG.size:=by omega
     simp[mD,this]
    ·have:i≠j:=fun e=>hj e.symm
     simp[mD,this,hj]
   refine step _ a w i o ho hf hdep iC hI K' fun a' w' p6=>hK a' w' (ih _ a' w' (by simpa using cJ) ?_ ?_ ?_)
   ·have hl:i<aG.size:=by omega
    have hg:aG.toList[i]?=some false:=by
     rw[MX,MY hl]
     unfold marks at hf;simp only[Array.getD,hl,dif_pos] at hf;exact congrArg some hf
    have:=IW aG.toList i (by simpa using hl) hg
    rw[Array.toList_setIfInBounds];omega
   ·rw[Kb]
    intro j oj hj re e he hb
    by_cases q9:j=i
    ·subst q9
     rw[hj] at ho;injection ho with ho
     subst ho;show(if e.on=j then true else marks aG e.on)=true
     rw[hdep e he hb]; simp
    ·have hDj':marks aG j=true:=by
      have:(if j=i then true else marks aG j)=true:=re
      rwa[ba q9] at this
     show(if e.on=i then true else marks aG e.on)=true
     rw[iC j oj hj hDj' e he hb]; simp
   ·rw[Kb]; exact p6
 refine key ops.size (Array.replicate ops.size false) a w.drew (by simp) ?_ ?_ ?_
 ·have:∀ n,p8 (List.replicate n false)=n:=by
   intro n
   induction n with
   |zero=>rfl
   |succ n ih=>simp only[List.replicate_succ,p8,ih]; simp; omega
  rw[Array.toList_replicate,this];exact dN _
 ·intro j oj hj re
  exfalso
  unfold marks at re;rw[mD,RZ] at re
  split at re<;>simp at re
 ·have:marks (Array.replicate ops.size false)=fun _=>false:=by
   funext j
   unfold marks;rw[mD,RZ]
   split<;>rfl
  rw[this];exact h0
theorem vO {id:Nat} {a:Act} {w:World} (hm:P.follows .mixedOrders=true) (kD:∀ (i:Nat) (o:Oper),ops[i]?=some o->∀ e∈o.after,Region.binds .any e=true->e.on<i)
  (Inv:(Nat->Bool)->Act->World->Prop) (h0:Inv (fun _=>false) a w.drew)
  (step:∀ (D:Nat->Bool) (a:Act) (w:World) (i:Nat) (o:Oper),ops[i]?=some o->D i=false->(∀ e∈o.after,Region.binds .any e=true->D e.on=true) ->
   (∀ (j:Nat) (oj:Oper),ops[j]?=some oj->D j=true->∀ e∈oj.after,Region.binds .any e=true->D e.on=true)->Inv D a w ->
   ∀ K:Act->World->Prop,(∀ a' w',Inv (fun j=>if j=i then true else D j) a' w'->K a' w')->if Region.wanted o (yielded ops a.tmps)=true then Oper.wp P o a w K Q else K (a.put o.dst undef) w)
  (eN:∀ (D:Nat->Bool) (a:Act) (w:World),(∀ i,i<ops.size->D i=true)->Inv D a w->Q .normal a w):(Code.region id ops true).wp P Q a w :=
 wp_region_any hm (vQ kD Inv h0 step eN)
end
end Go.Ev
theorem JB:type_of% @Bool.false_eq_true:=@Bool.false_eq_true
theorem pP:type_of% @if_false:=@if_false
namespace Go.Ev
open Go.RowKit
section
variable {P : Program} {T : Nat → Option TI} {base : Nat} {g : G} {st : St} {w : World} {tm : Tr AV}
theorem dC (tm:Tr AV) (n:Nat):aD tm (.t n)=(tm.get n).getD gg:=by
 show(Option.rec (motive:=fun _=>AV) gg (fun v=>v) (tm.get n))=_
 cases tm.get n<;>rfl
theorem Va (tm:Tr AV) (v:AV):aD tm (.c v)=v:=rfl
structure cM (w:World) (g:G) (n:Nat) (tm:Tr AV) (a:Act):Prop where
 defers:a.defers=[]
 size:n<=a.tmps.size
 rep:∀ t,bI w g (aD tm (.t t)) (a.eval (.tmp t))
theorem cM.ext {n:Nat} {a:Act} {g':G} {ae:St} {w':World} (h:cM w g n tm a) (hE:Ext base g st w g' ae w'):cM w' g' n tm a:=⟨h.defers,h.size,fun t=>(h.rep t).ext hE⟩
theorem eval_put (a:Act) (d t:Nat) (v:Value) (hd:d<a.tmps.size):(a.put (some d) v).eval (.tmp t)=if t=d then v else a.eval (.tmp t):=by
 simp only[Act.eval,Act.put,mD];rw[EP]
 by_cases h:t=d
 ·subst h; simp[hd]
 ·rw[ba (fun e=>h e.symm),ba h]
theorem cM.put {n:Nat} {a:Act} (h:cM w g n tm a) {d:Option Nat} (hd:∀ x,d=some x->x<n) {r:AV} {v:Value} (hr:bI w g r v):cM w g n (eH tm d r) (a.put d v):=by
 cases d with
 |none=>exact h
 |some d =>
  have aO:d<a.tmps.size:=qy (hd d rfl) h.size;refine⟨h.defers,by simpa[Act.put] using h.size,fun t=>?_⟩
  rw[eval_put a d t v aO,dC];show bI w g (((tm.set d r).get t).getD gg) _
  rw[Tr.cb]
  by_cases e:t=d
  ·rw[bJ e,bJ e]; exact hr
  ·rw[ba e,ba e,<-dC]; exact h.rep t
theorem zL {v:Value} {a:AV} (h:Iq v=some a) (w:World) (g:G):bI w g a v/\v.oneCell'=true:=by
 unfold Iq at h;split at h<;>(try cases h)
 ·exact⟨.bool _,rfl⟩
 ·exact⟨.int _ _,rfl⟩
 ·rename_i s
  refine⟨?_,rfl⟩
  have:s=⟨s.data.toList.toArray⟩:=by cases s; rfl
  rw[this];exact .str _
 ·exact⟨.iL,rfl⟩
 ·exact⟨.az,rfl⟩
 ·exact⟨.kU,rfl⟩
 ·exact⟨.kV,rfl⟩
theorem Gh {l:List Value} {bh:List AV} (h:x5 l=some bh) (w:World) (g:G):RL w g bh l/\One l:=by
 induction l generalizing bh with
 |nil=>simp[x5] at h; subst h; exact⟨.nil,One.nil⟩
 |cons v l ih =>
  unfold x5 at h;split at h<;>try cases h
  rename_i a bh h1 h2;obtain⟨h3,h4⟩:=zL h1 w g;obtain⟨h5,h6⟩:=ih h2;exact⟨.cons _ _ _ _ h3 h5,fun u hu=>by
   rcases lI.1 hu with e |e
   ·rw[e]; exact h4
   ·exact h6 u e⟩
theorem sK {v:Value} {a:AV} (h:Ug v=some a) (w:World) (g:G):bI w g a v:=by
 unfold Ug at h;split at h
 ·rename_i cs
  split at h<;>try cases h
  rename_i l hl;obtain⟨h1,h2⟩:=Gh hl w g;have:=bI.agg (w:=w) (g:=g) l cs.toList h1 h2
  simpa using this
 ·exact(zL h w g).1
theorem cM.Cy {n:Nat} {a:Act} (h:cM w g n tm a) (x:Operand):b6 w g tm a.eval x:=by
 intro z hz;cases x with
 |tmp t=>simp only[aH] at hz; injection hz with hz; subst hz; exact h.rep t
 |const v =>
  simp only[aH] at hz;split at hz<;>try cases hz
  rename_i a' ha;exact sK ha w g
 |global g'=>cases hz
 |func f=>simp only[aH] at hz; injection hz with hz; subst hz; exact .fn f [] [] [] [] .nil .nil
theorem zV {ops:Array Oper} {tmps:Array Value} {j d:Nat} (hj:(ops[j]?).bind (·.dst)=some d) {b:Bool} (h:tmps.getD d undef = .bool b):yielded ops tmps j=some b:=by
 unfold yielded;rw[hj];rw[mD] at h;cases hq:tmps[d]? with
 |none=>rw[hq] at h; cases h
 |some v =>
  rw[hq] at h;have h:v = .bool b:=h;subst h;simp[hq]
theorem BK {ops:Array Oper} {tmps:Array Value} {j d:Nat} (hj:(ops[j]?).bind (·.dst)=some d) (h:tmps.getD d undef=undef):yielded ops tmps j=none:=by
 unfold yielded;rw[hj];rw[mD] at h;cases hq:tmps[d]? with
 |none=>simp[hq]
 |some v =>
  rw[hq] at h;have h:v=undef:=h;subst h;simp[hq,undef]
theorem my {ops:Array Oper} {o:Oper} {tmps:Array Value} {gd:Option (Nat × Bool)} (hg:(o.guard=none/\gd=none)\/∃ j b d,o.guard=some (j,b)/\(ops[j]?).bind (·.dst)=some d/\gd=some (d,b)) {q:Bool}
  (hw:eg tm gd=some q) (tG:∀ d b,gd=some (d,b)->bI w g (aD tm (.t d)) (tmps.getD d undef)):Region.wanted o (yielded ops tmps)=q:=by
 rcases hg with⟨h1,rfl⟩ |⟨j,b,d,h1,h2,rfl⟩
 ·have hw:some true=some q:=hw
  injection hw with hw
  simp[Region.wanted,h1,hw]
 ·have hw:uv b (tm.get d)=some q:=hw
  have hr:=tG d b rfl;rw[dC] at hr;unfold uv at hw;split at hw<;>try cases hw
  ·rename_i b' zg
   rw[zg] at hr;have hv:=dI (v:=tmps.getD d undef) hr;simp[Region.wanted,h1,zV h2 hv]
  ·rename_i zg
   rw[zg] at hr;have hr:bI w g gg (tmps.getD d undef):=hr;obtain⟨vs,h3,h4⟩:=Ar hr;cases h3;have hv:tmps.getD d undef=undef:=h4;simp[Region.wanted,h1,BK h2 hv]
theorem qU {kd:Nat->Nat} {n:Nat} {all:List Oper} {o:Oper} {l:List Oper} {xs:List XR} (h:fK T kd n all (o::l)=some xs) :
  ∃ x rest,xs=x::rest/\fK T kd n all l=some rest/\lN T (Fh kd o.dst) o.op=some x.op/\x.dst=o.dst/\(∀ d,x.dst=some d->d<n) /\
   ((o.guard=none/\x.guard=none)\/∃ j b d,o.guard=some (j,b)/\(all[j]?).bind (·.dst)=some d/\x.guard=some (d,b)):=by
 unfold fK at h;obtain⟨dst,h1,h⟩:=au h;obtain⟨gd,h2,h⟩:=au h;obtain⟨xo,h3,h⟩:=au h;obtain⟨rest,h4,h⟩:=au h;injection h with h
 refine⟨_,rest,h.symm,h4,h3,?_,?_,?_⟩
 ·show dst=o.dst
  cases hod:o.dst with
  |none=>rw[hod] at h1; injection h1 with h1; exact h1.symm
  |some d =>
   rw[hod] at h1;simp only at h1;split at h1<;>try cases h1
   rfl
 ·intro d hd
  have hd:dst=some d:=hd;cases hod:o.dst with
  |none=>rw[hod] at h1; injection h1 with h1; rw[hd] at h1; cases h1
  |some d' =>
   rw[hod] at h1;simp only at h1;cases aO:Nat.blt d' n with
   |false=>rw[aO] at h1; cases h1
   |true =>
    rw[aO] at h1;injection h1 with h1
    rw[hd] at h1;injection h1 with h1
    subst h1;exact Nat.lt_of_succ_le (gW aO)
 ·show _\/∃ j b d,_/\_/\gd=some (d,b)
  cases QU:o.guard with
  |none=>rw[QU] at h2; injection h2 with h2; exact .inl ⟨rfl,h2.symm⟩
  |some jb =>
   obtain⟨j,b⟩:=jb;rw[QU] at h2;simp only at h2;cases hj:all[j]? with
   |none=>rw[hj] at h2; cases h2
   |some q =>
    rw[hj] at h2;simp only at h2;cases hd:q.dst with
    |none=>rw[hd] at h2; cases h2
    |some d =>
     rw[hd] at h2;injection h2 with h2
     exact .inr ⟨j,b,d,rfl,by rw[hj]; exact hd,h2.symm⟩
theorem GY (hT:bD P T) {call:Nat->List AV->St->Option (AV × St)} (cL:gA P base call) {kd:Nat->Nat} {n:Nat} {ops:Array Oper} {Q:Exit->Act->World->Prop}:∀ (l:List Oper) (xs:List XR) (tm:Tr AV) (st:St) (ay:Tr AV) (ae:St),
  fK T kd n ops.toList l=some xs->dm call xs tm st=some (ay,ae)->∀ (a:Act) (w:World) (g:G),cM w g n tm a->Inv base g st w ->
  (∀ a' w' g',cM w' g' n ay a'->Inv base g' ae w'->Ext base g st w g' ae w'->Q .normal a' w')->wpList P ops Q l a w:=by
 intro l
 induction l with
 |nil =>
  intro xs tm st ay ae hc hr a w g hS hI hQ;simp[fK] at hc; subst hc;have hr:some (tm,st)=some (ay,ae):=hr;injection hr with hr
  injection hr with h1 h2
  subst h1 h2;exact hQ a w g hS hI (.refl ..)
 |cons o l ih =>
  intro xs tm st ay ae hc hr a w g hS hI hQ;obtain⟨x,rest,rfl,w3,cW,pY,aO,Lm⟩:=qU hc;have hr:p9 call (dm call rest) x tm st (eg tm x.guard)=some (ay,ae):=hr;have Xk:(o.guard=none/\x.guard=none)\/∃ j b d,o.guard=some (j,b)/\(ops[j]?).bind (·.dst)=some d/\x.guard=some (d,b):=by
   simpa using Lm
  cases hq:eg tm x.guard with
  |none=>rw[hq] at hr; cases hr
  |some q =>
   rw[hq] at hr;have rT:=my Xk hq (fun d b _=>hS.rep d)
   unfold wpList;cases q with
   |false =>
    rw[rT];simp only[JB,pP];have hr:dm call rest (eH tm x.dst gg) st=some (ay,ae):=hr;refine ih rest _ st ay ae w3 hr _ w g ?_ hI hQ
    rw[<-pY];exact hS.put aO fC
   |true =>
    rw[rT];simp only[oq];have hr:qd (dm call rest) tm x.dst (mY call st tm x.op)=some (ay,ae):=hr;cases hd:mY call st tm x.op with
    |none=>rw[hd] at hr; cases hr
    |some p =>
     obtain⟨r,bY⟩:=p;rw[hd] at hr;have hr:dm call rest (eH tm x.dst r) bY=some (ay,ae):=hr;refine .inl (ji hT cL cW hI (fun y _=>hS.Cy y) hd fun v w' g' h1 h2 h3=>?_)
     refine ih rest _ bY ay ae w3 hr _ w' g' ?_ h2 (fun a'' IU zl h4 h5 h6=>hQ a'' IU zl h4 h5 (h3.trans h6))
     rw[<-pY];exact(hS.ext h3).put aO h1
end
end Go.Ev
namespace Go.Ev
def jH (e:dR) (o:Option dR):Prop:=match e with
 | .box v cs=>(∃ v' cD,o=some (.box v' cD)/\v<=v'/\(v=v'->cD=cs))\/o=some .gone
 | .map v kv=>(∃ v' kv',o=some (.map v' kv')/\v<=v'/\(v=v'->kv'=kv))\/o=some .gone
 | .aN=>o=some .aN\/o=some .gone
 | .gone=>o=some .gone
theorem jH.refl (e:dR):jH e (some e):=by
 cases e with
 |box v cs=>exact .inl ⟨v,cs,rfl,dN _,fun _=>rfl⟩
 |map v kv=>exact .inl ⟨v,kv,rfl,dN _,fun _=>rfl⟩
 |aN=>exact .inl rfl
 |gone=>exact rfl
theorem jH.trans {e:dR} {a b:Option dR} (h:jH e a) (k:∀ x,a=some x->jH x b):jH e b:=by
 cases e with
 |box v cs =>
  rcases h with⟨v',cD,rfl,h1,h2⟩ |rfl
  ·rcases k _ rfl with⟨v'',KJ,rfl,h3,h4⟩ |h3
   ·exact .inl ⟨v'',KJ,rfl,lS h1 h3,fun e=>by
     have e1:v=v':=by omega
     have e2:v'=v'':=by omega
     rw[h4 e2,h2 e1]⟩
   ·exact .inr h3
  ·exact .inr (k _ rfl)
 |map v cs =>
  rcases h with⟨v',cD,rfl,h1,h2⟩ |rfl
  ·rcases k _ rfl with⟨v'',KJ,rfl,h3,h4⟩ |h3
   ·exact .inl ⟨v'',KJ,rfl,lS h1 h3,fun e=>by
     have e1:v=v':=by omega
     have e2:v'=v'':=by omega
     rw[h4 e2,h2 e1]⟩
   ·exact .inr h3
  ·exact .inr (k _ rfl)
 |aN =>
  rcases h with rfl |rfl
  ·exact k _ rfl
  ·exact .inr (k _ rfl)
 |gone=>have h:a=some .gone:=h; subst h; exact k _ rfl
def WF (st:St):Prop:=∀ k e,st.heap.get k=some e->k<st.next
structure VL (st ae:St):Prop where
 wf:WF ae
 next:st.next<=ae.next
 cI:∀ k e,st.heap.get k=some e->jH e (ae.heap.get k)
theorem VL.refl {st:St} (h:WF st):VL st st:=⟨h,dN _,fun k e hk=>by rw[hk]; exact jH.refl e⟩
theorem VL.trans {a b c:St} (h:VL a b) (k:VL b c):VL a c:=⟨k.wf,lS h.next k.next,fun j e hj=>(h.cI j e hj).trans fun x hx=>k.cI j x hx⟩
theorem VL.new {st:St} (h:WF st) (e:dR):VL st (st.new e):=by
 refine⟨fun k x hk=>?_,ma _,fun k x hk=>?_⟩
 ·rw[aJ] at hk
  show k<st.next+1
  by_cases hn:k=st.next
  ·omega
  ·rw[ba hn] at hk; have:=h k x hk; omega
 ·have:=h k x hk
  rw[aJ,ba (by omega),hk]; exact jH.refl x
theorem VL.put {st:St} (h:WF st) {k:Nat} {e0 e:dR} (h0:st.heap.get k=some e0) (hk:jH e0 (some e)):VL st (st.put k e):=by
 refine⟨fun j x hj=>?_,dN _,fun j x hj=>?_⟩
 ·rw[aK] at hj
  by_cases hn:j=k
  ·rw[hn]; exact h k e0 h0
  ·rw[ba hn] at hj; exact h j x hj
 ·rw[aK]
  by_cases hn:j=k
  ·rw[bJ hn]; rw[hn,h0] at hj; injection hj with hj; subst hj; exact hk
  ·rw[ba hn,hj]; exact jH.refl x
def nI (call:Nat->List AV->St->Option (AV × St)):Prop:=∀ f args st r ae,call f args st=some (r,ae)->WF st->VL st ae
theorem Iw {size bytes:Nat} {st ae:St} {s r:AV} {xs:List AV} (h:fy size bytes st s xs=some (r,ae)) (hw:WF st):VL st ae:=by
 unfold fy at h;split at h
 ·split at h<;>cases h<;>exact .refl hw
 ·split at h
  ·split at h<;>cases h
   exact .new hw _
  ·split at h
   ·split at h
    ·cases h; exact .new hw _
    ·split at h<;>cases h
     rename_i hid;have h1:=VL.put (e:=.gone) hw hid (.inr rfl);exact h1.trans (.new h1.wf _)
    ·cases h
   ·cases h
  ·cases h
theorem doE_v {call:Nat->List AV->St->Option (AV × St)} (hc:nI call) {st ae:St} {tm:Tr AV} {o:XE} {r:AV} (h:Yp call st tm o=some (r,ae)) (hw:WF st):VL st ae:=by
 cases o with
 |alloc cs =>
  have h:some (AV.ptr st.next 0,st.new (.box 0 cs))=some (r,ae):=h;cases h; exact .new hw _
 |box size x =>
  have h:DX st tm size x=some (r,ae):=h;unfold DX at h;split at h<;>cases h
  exact .new hw _
 |store size a x =>
  have h:cZ st size (aD tm a) (aD tm x)=some (r,ae):=h;unfold cZ at h;split at h<;>try cases h
  split at h<;>try cases h
  rename_i bX cs hcs;split at h<;>cases h
  exact .put hw hcs (.inl ⟨_,_,rfl,ma _,fun e=>absurd e (by omega)⟩)
 |Sn size bytes z l c =>
  have h:vL st bytes z (ch (aD tm l)) (ch (aD tm c))=some (r,ae):=h;unfold vL at h;split at h<;>try cases h
  split at h<;>cases h
  exact .new hw _
 |He =>
  have h:some (AV.mp st.next,st.new (.map 0 []))=some (r,ae):=h;cases h; exact .new hw _
 |put k m q v =>
  have h:Lw st k (aD tm m) (aD tm q) (aD tm v)=some (r,ae):=h;unfold Lw at h;split at h<;>try cases h
  split at h<;>try cases h
  rename_i bX kv Xg;split at h<;>cases h
  exact .put hw Xg (.inl ⟨_,_,rfl,ma _,fun e=>absurd e (by omega)⟩)
 |app size bytes s x =>
  have h:sT size bytes st (aD tm s) (aD tm x)=some (r,ae):=h;unfold sT at h;split at h<;>try cases h
  exact Iw h hw
 |K6 size bytes s x q u =>
  have h:sL st tm size bytes s x q u=some (r,ae):=h;unfold sL at h;split at h<;>try cases h
  exact Iw h hw
 |dL size x =>
  have h:IJ st size (aD tm x)=some (r,ae):=h;unfold IJ at h;split at h<;>try cases h
  split at h<;>try cases h
  rename_i hcs;split at h<;>cases h
  exact VL.put (e:=.gone) hw hcs (.inr rfl)
 |call f args =>
  have h:uu call st (aD tm f) (nR tm args)=some (r,ae):=h;unfold uu at h;split at h<;>try cases h
  exact hc _ _ _ _ _ h hw
theorem Vf {call:Nat->List AV->St->Option (AV × St)} (hc:nI call) {st ae:St} {tm:Tr AV} {o:Iz} {r:AV} (h:mY call st tm o=some (r,ae)) (hw:WF st):VL st ae:=by
 cases o with
 |p o=>obtain⟨_,rfl⟩:=fO (show rM st (mw tm o)=some (r,ae) from h); exact .refl hw
 |l o=>obtain⟨_,rfl⟩:=fO (show rM st (KE st.heap tm o)=some (r,ae) from h); exact .refl hw
 |e o=>exact doE_v hc h hw
theorem MH {call:Nat->List AV->St->Option (AV × St)} (hc:nI call):∀ (xs:List XR) (tm:Tr AV) (st:St) (ay:Tr AV) (ae:St),dm call xs tm st=some (ay,ae)->WF st->VL st ae:=by
 intro xs
 induction xs with
 |nil =>
  intro tm st ay ae h hw;have h:some (tm,st)=some (ay,ae):=h;cases h; exact .refl hw
 |cons x xs ih =>
  intro tm st ay ae h hw;have h:p9 call (dm call xs) x tm st (eg tm x.guard)=some (ay,ae):=h;cases hq:eg tm x.guard with
  |none=>rw[hq] at h; cases h
  |some q =>
   rw[hq] at h;cases q with
   |false=>exact ih _ st ay ae h hw
   |true =>
    have h:qd (dm call xs) tm x.dst (mY call st tm x.op)=some (ay,ae):=h;cases hd:mY call st tm x.op with
    |none=>rw[hd] at h; cases h
    |some p =>
     obtain⟨r,bY⟩:=p;rw[hd] at h;have h1:=Vf hc hd hw;exact h1.trans (ih _ bY ay ae h h1.wf)
theorem Eh {call:Nat->List AV->St->Option (AV × St)}:∀ (xs:List XR) (tm:Tr AV) (st:St) (ay:Tr AV) (ae:St) (l:List (Option Nat × Tr dR)),eJ call xs tm st=some (ay,ae,l)->dm call xs tm st=some (ay,ae):=by
 intro xs
 induction xs with
 |nil =>
  intro tm st ay ae l h;have h:some (tm,st,[(none,st.heap)])=some (ay,ae,l):=h;cases h; rfl
 |cons x xs ih =>
  intro tm st ay ae l h;show p9 call (dm call xs) x tm st (eg tm x.guard)=some (ay,ae)
  have h:(match eg tm x.guard with
   |some true=>match mY call st tm x.op with
    |some (v,ae)=>match eJ call xs (eH tm x.dst v) ae with
     |some (ay,gn,l)=>some (ay,gn,(cO tm x,st.heap)::l)
     |none=>none
    |none=>none
   |some false=>match eJ call xs (eH tm x.dst gg) st with
    |some (ay,gn,l)=>some (ay,gn,(none,st.heap)::l)
    |none=>none
   |none=>none)=some (ay,ae,l):=h
  split at h<;>try cases h
  ·rename_i hq
   rw[hq];split at h<;>try cases h
   rename_i v bY hd;split at h<;>try cases h
   rename_i cB fJ l2 ht;show qd (dm call xs) tm x.dst (mY call st tm x.op)=_
   rw[hd];exact ih _ _ _ _ _ ht
  ·rename_i hq
   rw[hq];split at h<;>try cases h
   rename_i cB fJ l2 ht;exact ih _ _ _ _ _ ht
theorem vB:∀ (hs:List (Nat × List AV)) (tm:Tr AV) (st:St),WF st->VL st (hoist hs tm st).2:=by
 intro hs
 induction hs with
 |nil=>intro tm st hw; exact .refl hw
 |cons h hs ih =>
  intro tm st hw;obtain⟨d,cs⟩:=h;have h1:=VL.new hw (.box 0 cs);exact h1.trans (ih _ _ h1.wf)
theorem Cg {call:Nat->List AV->St->Option (AV × St)} {xs:List XR} {b7:List (Nat × Nat)} {tm:Tr AV} {st:St} {ay:Tr AV} {ae:St} (h:mC call xs b7 tm st=some (ay,ae)) :
  dm call xs tm st=some (ay,ae)/\(b7=[]\/∃ l,eJ call xs tm st=some (ay,ae,l)/\b7.all (kx l)=true):=by
 unfold mC at h;split at h
 ·exact⟨h,.inl rfl⟩
 ·split at h<;>try cases h
  rename_i cB fJ l ht;split at h<;>cases h
  rename_i hp;exact⟨Eh _ _ _ _ _ _ ht,.inr ⟨l,ht,hp⟩⟩
def RV (st:St):R->Prop
 | .fail=>True
 | .ok _ _ ae=>VL st ae
theorem zN {st:St} {r:R} {f:Tr AV->St->R} (h:RV st r) (hf:∀ tm ae,VL st ae->RV st (f tm ae)):RV st (r.andThen f):=by
 cases r with
 |fail=>trivial
 |ok e tm ae=>cases e with
  |norm=>exact hf tm ae h
  |exit id=>exact h
  |ret=>exact h
theorem T9 {st:St} {r:R} {id:Nat} (h:RV st r):RV st (r.block id):=by
 unfold R.block;split
 ·split<;>exact h
 ·exact h
theorem WG {f:RF} (hf:∀ tm st,WF st->RV st (f tm st)):∀ (n:Nat) (tm:Tr AV) (st:St),WF st->RV st (aY f n tm st):=by
 intro n
 induction n with
 |zero=>intro tm st hw; trivial
 |succ n ih =>
  intro tm st hw;show RV st ((f tm st).andThen (aY f n))
  refine zN (hf tm st hw) fun ay ae h=>?_
  have h2:=ih ay ae h.wf
  revert h2
  generalize aY f n ay ae=r
  cases r with
  |fail=>exact fun _=>trivial
  |ok e cB fJ=>exact fun h2=>h.trans h2
theorem TD {call:Nat->List AV->St->Option (AV × St)} (hc:nI call) (ag:Nat):∀ (c:XC) (tm:Tr AV) (st:St),WF st->RV st (ak call ag c tm st):=by
 have tr:∀ {st ae:St} {r:R},VL st ae->RV ae r->RV st r:=by
  intro st ae r h h2;cases r with
  |fail=>trivial
  |ok e cB fJ=>exact h.trans h2
 intro c
 induction c with
 |skip=>intro tm st hw; exact .refl hw
 |aQ ops =>
  intro tm st hw;show RV st (R.of (dm call ops tm st))
  cases h:dm call ops tm st with
  |none=>trivial
  |some p=>exact MH hc ops tm st p.1 p.2 h hw
 |nL hs ops b7 =>
  intro tm st hw;show RV st (R.of (mC call ops b7 (hoist hs tm st).1 (hoist hs tm st).2))
  have h1:=vB hs tm st hw;cases h:mC call ops b7 (hoist hs tm st).1 (hoist hs tm st).2 with
  |none=>trivial
  |some p =>
   obtain⟨a,b⟩:=p;exact h1.trans (MH hc ops _ _ a b (Cg h).1 h1.wf)
 |seq a b ia ib =>
  intro tm st hw;exact zN (ia tm st hw) fun ay ae h=>tr h (ib ay ae h.wf)
 |cond c a b ia ib =>
  intro tm st hw;show RV st (av (aD tm c) (ak call ag a tm st) (ak call ag b tm st))
  unfold av;split
  ·exact ia tm st hw
  ·exact ib tm st hw
  ·trivial
 |block id b ib=>intro tm st hw; exact T9 (ib tm st hw)
 |loop b ib=>intro tm st hw; exact WG ib ag tm st hw
 |exit id=>intro tm st hw; exact .refl hw
 |ret=>intro tm st hw; exact .refl hw
theorem Bo (E:Env) (ag:Nat):∀ d,nI (ao E ag d):=by
 intro d
 induction d with
 |zero=>intro f args st r ae h; cases h
 |succ d ih =>
  intro f args st r ae h hw;have h:oX E ag (ao E ag d) f args st=some (r,ae):=h;unfold oX at h;split at h
  ·cases h
   exact .refl hw
  split at h
  ·rename_i x hx
   have h1:=TD ih ag x.body (bb args 0 .nil) st hw
   revert h h1
   generalize ak (ao E ag d) ag x.body (bb args 0 .nil) st=q
   intro h h1;unfold bg at h;split at h<;>try cases h
   split at h<;>cases h
   exact h1
  ·cases h
end Go.Ev
theorem JA:type_of% @List.all_eq_true:=@List.all_eq_true
theorem wv:type_of% @List.getElem?_eq_none:=@List.getElem?_eq_none
namespace Go.Ev
open Go.RowKit
theorem db (e:Edge):dK e=Region.binds .any e:=by
 unfold dK Region.binds;cases e.ground<;>rfl
theorem testBit_or (a b i:Nat):Nat.testBit (Nat.lor a b) i=(Nat.testBit a i ||Nat.testBit b i):=Nat.testBit_or a b i
theorem CG (ms:List Nat):∀ (l:List Edge) (j:Nat),Nat.testBit (hU ms l) j=true->∃ e∈l,dK e=true/\(e.on=j\/Nat.testBit (ms.getD e.on 0) j=true):=by
 intro l
 induction l with
 |nil=>intro j h; simp[hU] at h
 |cons e l ih =>
  intro j h;unfold hU at h;split at h
  ·rename_i hb
   rw[testBit_or,testBit_or] at h;simp only[Bool.or_eq_true] at h;rcases h with(h |h) |h
   ·rw[Nat.testBit_two_pow] at h
    exact⟨e,by simp,hb,.inl (jT h)⟩
   ·exact⟨e,by simp,hb,.inr h⟩
   ·obtain⟨x,hx,h1,h2⟩:=ih j h
    exact⟨x,by simp[hx],h1,h2⟩
  ·obtain⟨x,hx,h1,h2⟩:=ih j h
   exact⟨x,by simp[hx],h1,h2⟩
theorem JU:∀ (ops:List Oper) (ms:List Nat),(∀ i,i<ms.length->(cC ms ops)[i]?=ms[i]?)/\(cC ms ops).length=ms.length+ops.length /\
  ∀ i o,ops[i]?=some o->(cC ms ops)[ms.length+i]?=some (hU ((cC ms ops).take (ms.length+i)) o.after.toList):=by
 intro ops
 induction ops with
 |nil=>intro ms; exact⟨fun i _=>rfl,by simp[cC],fun i o h=>by simp at h⟩
 |cons o ops ih =>
  intro ms;obtain⟨h1,h2,h3⟩:=ih (ms++[hU ms o.after.toList]);have hl:(ms++[hU ms o.after.toList]).length=ms.length+1:=by simp
  refine⟨fun i hi=>?_,?_,fun i q hq=>?_⟩
  ·show(cC (ms++[hU ms o.after.toList]) ops)[i]?=ms[i]?
   rw[h1 i (by omega),yq hi]
  ·show(cC (ms++[hU ms o.after.toList]) ops).length=_
   rw[h2,hl,mE]; omega
  ·show(cC (ms++[hU ms o.after.toList]) ops)[ms.length+i]?=some (hU ((cC (ms++[hU ms o.after.toList]) ops).take (ms.length+i)) q.after.toList)
   cases i with
   |zero =>
    simp at hq; subst hq;rw[pR,h1 ms.length (by omega),JE (dN _)]
    simp only[Nat.sub_self,List.getElem?_cons_zero]
    congr 2
    apply Co
    intro j;rw[pS]
    by_cases hj:j<ms.length
    ·rw[bJ hj,h1 j (by omega),yq hj]
    ·rw[ba hj,wv (by omega)]
   |succ i =>
    have:=h3 i q (by simpa using hq)
    rw[hl] at this;have e:ms.length+1+i=ms.length+(i+1):=by omega
    rw[e] at this; exact this
theorem fc:∀ (l:List Oper) (k:Nat),oz k l=true->∀ i o,l[i]?=some o->(∀ e∈o.after.toList,dK e=true->e.on<k+i) /\
  ∀ j b,o.guard=some (j,b)->∃ e∈o.after.toList,dK e=true/\e.on=j:=by
 intro l
 induction l with
 |nil=>intro k h i o ho; simp at ho
 |cons q l ih =>
  intro k h i o ho;unfold oz at h;simp only[kQ] at h;obtain⟨⟨h1,h2⟩,h3⟩:=h;cases i with
  |zero =>
   simp at ho; subst ho;refine⟨fun e he hb=>?_,fun j b hg=>?_⟩
   ·have:=JA.1 h1 e he
    rw[hb] at this
    simpa using this
   ·rw[hg] at h2
    obtain⟨e,he,h4⟩:=List.any_eq_true.1 h2;simp only[kQ,bo,pQ] at h4;exact⟨e,he,h4⟩
  |succ i =>
   have:=ih (k+1) h3 i o (by simpa using ho)
   have e:k+1+i=k+(i+1):=by omega
   rw[e] at this; exact this
theorem gD {ops:List Oper} (kD:oz 0 ops=true) {D:Nat->Bool} (iC:∀ j o,ops[j]?=some o->D j=true->∀ e∈o.after.toList,dK e=true->D e.on=true) :
  ∀ (i:Nat) (o:Oper),ops[i]?=some o->(∀ e∈o.after.toList,dK e=true->D e.on=true)->∀ j,Nat.testBit ((cC [] ops).getD i 0) j=true->D j=true:=by
 intro i
 induction i using Nat.strongRecOn with
 |_ i ih =>
  intro o ho hd j hj;have h1:=(JU ops []).2.2 i o ho;simp only[Cp,kT] at h1;rw[List.getD,h1] at hj;obtain⟨e,he,hb,h2⟩:=CG _ _ j hj;rcases h2 with rfl |h2
  ·exact hd e he hb
  ·have aO:=(fc ops 0 kD i o ho).1 e he hb
   rw[kT] at aO;rw[List.getD,pS,bJ aO] at h2
   have ze:e.on<ops.length:=by
    have:=(fU.1 ho).1; omega
   have nQ:ops[e.on]?=some ops[e.on]:=ey ze
   exact ih e.on aO ops[e.on] nQ (iC e.on _ nQ (hd e he hb)) j h2
theorem zX {f:Nat->Oper->XR->Bool}:∀ (ops:List Oper) (xs:List XR) (k:Nat),vh f k ops xs=true->ops.length=xs.length/\∀ i o x,ops[i]?=some o->xs[i]?=some x->f (k+i) o x=true:=by
 intro ops
 induction ops with
 |nil =>
  intro xs k h;cases xs with
  |nil=>exact⟨rfl,fun i o x h=>by simp at h⟩
  |cons x xs=>cases h
 |cons q ops ih =>
  intro xs k h;cases xs with
  |nil=>cases h
  |cons y xs =>
   unfold vh at h;simp only[kQ] at h;obtain⟨h1,h2⟩:=ih xs (k+1) h.2;refine⟨by simp[h1],fun i o x ho hx=>?_⟩
   cases i with
   |zero=>simp at ho hx; subst ho hx; exact h.1
   |succ i =>
    have:=h2 i o x (by simpa using ho) (by simpa using hx)
    have e:k+1+i=k+(i+1):=by omega
    rw[e] at this; exact this
theorem uw (ms:List Nat):∀ (ops:List Oper) (xs:List XR) (k:Nat),sX ms k ops xs=true->ops.length=xs.length /\
  ∀ i j oi oj xi xj,i<j->ops[i]?=some oi->ops[j]?=some oj->xs[i]?=some xi->xs[j]?=some xj->lj ms (k+i) (k+j) oi oj xi xj=true:=by
 intro ops
 induction ops with
 |nil =>
  intro xs k h;cases xs with
  |nil=>exact⟨rfl,fun i j oi oj xi xj _ h=>by simp at h⟩
  |cons x xs=>cases h
 |cons q ops ih =>
  intro xs k h;cases xs with
  |nil=>cases h
  |cons y xs =>
   unfold sX at h;simp only[kQ] at h;obtain⟨h1,h2⟩:=ih xs (k+1) h.2;obtain⟨_,h3⟩:=zX ops xs (k+1) h.1;refine⟨by simp[h1],fun i j oi oj xi xj Ke nT lT WV fg=>?_⟩
   cases j with
   |zero=>omega
   |succ j =>
    have e1:k+1+j=k+(j+1):=by omega
    cases i with
    |zero =>
     simp at nT WV; subst nT WV;have:=h3 j oj xj (by simpa using lT) (by simpa using fg)
     rw[e1] at this; simpa using this
    |succ i =>
     have:=h2 i j oi oj xi xj (by omega) (by simpa using nT) (by simpa using lT) (by simpa using WV) (by simpa using fg)
     have e2:k+1+i=k+(i+1):=by omega
     rw[e1,e2] at this; exact this
theorem Cw {f:Nat->XR->List (Nat × Nat)}:∀ (xs:List XR) (k j:Nat) (x:XR),xs[j]?=some x->∀ p∈f (k+j) x,p∈vp f k xs:=by
 intro xs
 induction xs with
 |nil=>intro k j x h; simp at h
 |cons y xs ih =>
  intro k j x h p hp;unfold vp;cases j with
  |zero=>simp at h; subst h; exact List.mem_append_left _ hp
  |succ j =>
   refine List.mem_append_right _ (ih (k+1) j x (by simpa using h) p ?_)
   have e:k+1+j=k+(j+1):=by omega
   rw[e]; exact hp
theorem ln (ms:List Nat):∀ (xs:List XR) (k i j:Nat) (xi xj:XR),i<j->xs[i]?=some xi->xs[j]?=some xj->∀ p∈tf ms (k+i) (k+j) xi xj,p∈vo ms k xs:=by
 intro xs
 induction xs with
 |nil=>intro k i j xi xj _ h; simp at h
 |cons y xs ih =>
  intro k i j xi xj Ke hi hj p hp;unfold vo;cases j with
  |zero=>omega
  |succ j =>
   have e1:k+1+j=k+(j+1):=by omega
   cases i with
   |zero =>
    simp at hi; subst hi;refine List.mem_append_left _ (Cw xs (k+1) j xj (by simpa using hj) p ?_)
    rw[e1]; exact hp
   |succ i =>
    refine List.mem_append_right _ (ih (k+1) i j xi xj (by omega) (by simpa using hi) (by simpa using hj) p ?_)
    have e2:k+1+i=k+(i+1):=by omega
    rw[e1,e2]; exact hp
end Go.Ev
