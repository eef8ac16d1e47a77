/- Parts of the proof; no condition. -/
import Derived.Test.YthlkmffimhnehaaGreatZaf
set_option linter.unusedSimpArgs false
set_option linter.unusedVariables false
namespace Go.Ab
noncomputable section
open Go.Ev
open Classical
variable {ρ ρ' ca : cz} {T : TT} {F : ai} {σ : Sub} {own : Nat → Prop} {S : Sy} {tm : Tr AV} {st : St} {x : Option AV} {nx : Nat}
theorem nh (a b:Int):cE a b=decide (a=b):=by
 cases h:cE a b with
 |true=>rw[ug h]; simp
 |false =>
  symm
  rw[decide_eq_false_iff_not];intro e;subst e;cases a<;>simp[cE,fV] at h
theorem zJ {f:BF} {p:Prop} [Decidable p] (h:p↔f.ev ρ):AV.bool (decide p)=(SA.bl f).ev ρ:=by
 simp only[SA.ev]; congr 1; exact MS.2 h
theorem Bq {f:BF} {p:Prop} [Decidable p] (h:p↔f.ev ρ):AV.bool (!decide p)=(SA.bl (.not f)).ev ρ:=by
 simp only[SA.ev]; congr 1
 by_cases hp:p
 ·have:=h.1 hp; simp[hp,BF.ev,this]
 ·have:¬ f.ev ρ:=fun q=>hp (h.2 q)
  simp[hp,BF.ev,this]
theorem iI (k:IntKind) (n:Int):inK k (k.wrap n):=by
 cases k<;>simp only[inK]
 ·unfold IntKind.wrap
  have h1:=Int.emod_nonneg n (show(256:Int)≠0 by omega)
  have h2:=Int.emod_lt_of_pos n (show(0:Int)<256 by omega)
  show 0<=(if (false&&_:Bool)=true then _ else n % 2 ^ IntKind.u8.bits)/\(if (false&&_:Bool)=true then _ else n % 2 ^ IntKind.u8.bits)<=255
  rw[ba (by simp)]
  show 0<=n % (256:Int)/\n % (256:Int)<=255
  omega
 ·unfold IntKind.wrap
  show 0<=(if (false&&_:Bool)=true then _ else n % 2 ^ IntKind.u64.bits)
  rw[ba (by simp)]
  exact Int.emod_nonneg n (by show(18446744073709551616:Int)≠0; omega)
theorem LD {k:IntKind} {n:Int} (h:match k with | .i64=>-9223372036854775808<=n/\n<=9223372036854775807 | .u8=>0<=n/\n<=255 | .u64=>0<=n/\n<=18446744073709551615 |_=>False):k.wrap n=n:=by
 cases k<;>first |exact absurd h id |skip
 ·unfold IntKind.wrap
  by_cases hn:0<=n
  ·have e:n % 2 ^ IntKind.i64.bits=n:=EO hn (by show _<(18446744073709551616:Int); omega)
   simp only[e];rw[ba];simp only[kQ,pQ,not_and];intro _;show ¬ ((9223372036854775808:Int)<=_)
   omega
  ·have e:n % 2 ^ IntKind.i64.bits=n+18446744073709551616:=by
    show n % (18446744073709551616:Int)=_
    omega
   simp only[e];rw[bJ]
   ·show n+18446744073709551616-18446744073709551616=n
    omega
   ·simp only[kQ,pQ]
    refine⟨rfl,?_⟩
    show(9223372036854775808:Int)<=_
    omega
 ·unfold IntKind.wrap
  have e:n % 2 ^ IntKind.u8.bits=n:=EO h.1 (by show _<(256:Int); omega)
  simp only[e];rw[ba];simp[IntKind.signed]
 ·unfold IntKind.wrap
  have e:n % 2 ^ IntKind.u64.bits=n:=EO h.1 (by show _<(18446744073709551616:Int); omega)
  simp only[e];rw[ba];simp[IntKind.signed]
theorem NN (h:Good T ρ F) {k:IntKind} {v:Nat} {n:Int} (hv:ρ v = .int k n) (hn:inK k n):Good T ρ (NO F k v):=by
 cases k<;>simp only[NO]<;>try exact h
 ·refine(h.ge ?_).ge ?_
  ·rw[af.aR,dz,hv]; exact hn.1
  ·rw[af.da,af.aR,dz,hv]; have:=hn.2; simp only[intOf]; omega
 ·refine h.ge ?_
  rw[af.aR,dz,hv]; exact hn
theorem px (h:Sat T own ρ S tm st) {k:IntKind} {n:Int} (hx:x=some (.int k n)) (hn:inK k n):aL T ρ S.nx (E5 S k) x :=
 aL.new h (.int k n) (.int k n) hx fun ρ' h' hv=>⟨by simp only[SV.ev,SE.ev,SA.ev,af.aR,dz,hv,intOf],NN h'.fs hv hn,fun m hm=>by cases hm⟩
theorem Sd (h:Sat T own ρ S tm st) {k:IntKind} {n:Int} (hx:x=some (.int k n)):aL T ρ S.nx (newR S k) x :=
 aL.new h (.int k n) (.int k n) hx fun ρ' h' hv=>⟨by simp only[SV.ev,SE.ev,SA.ev,af.aR,dz,hv,intOf],h'.fs,fun m hm=>by cases hm⟩
theorem vr (h:Sat T own ρ S tm st) {b:Bool} (hx:x=some (.bool b)):aL T ρ S.nx (Nx S) x :=
 aL.new h (.bool b) (.bool b) hx fun ρ' h' hv=>⟨by simp only[SV.ev,SE.ev,SA.ev,BF.ev,hv]; cases b<;>simp,h'.fs,fun m hm=>by cases hm⟩
theorem TB (h:Good T ρ F) {k:IntKind} {l:af} (hf:fits F k l=true):k.wrap (l.ev ρ)=l.ev ρ:=by
 apply LD
 cases k<;>simp only[fits] at hf<;>try cases hf
 all_goals
  obtain⟨h1,h2⟩:=ad hf;have h1:=aW h h1;have h2:=aW h h2;simp only[af.bf,af.da] at h1 h2;constructor<;>omega
theorem xD (h:Sat T own ρ S tm st) {k:IntKind} {l:af} (hx:∀ ρ',cp T own ρ' S tm st->x=some (.int k (k.wrap (l.ev ρ')))):aL T ρ S.nx (exact S k l) x:=by
 refine aL.ite (fun hf=>aL.dW h fun ρ' h'=>?_) (px h (hx ρ h.here) (iI _ _))
 rw[hx ρ' h',TB h'.fs hf]; rfl
theorem Qf (h:Sat T own ρ S tm st) {op:BinOp} {k:IntKind} {a b:af} (hx:∀ ρ',cp T own ρ' S tm st->x=DO op k (a.ev ρ') (b.ev ρ')):aL T ρ S.nx (Qg S op k a b) x:=by
 cases op<;>simp only[Qg]<;>try exact aL.none
 case add=>exact xD h fun ρ' h'=>by rw[hx ρ' h',af.aP,Int.one_mul]; rfl
 case sub =>
  exact xD h fun ρ' h'=>by
   rw[hx ρ' h',af.aP,show a.ev ρ' + -1*b.ev ρ'=a.ev ρ'-b.ev ρ' by omega]; rfl
 case mul=>exact px h (hx ρ h.here) (iI _ _)
 case quo =>
  refine aL.guard fun hb=>?_
  have key:∀ ρ',cp T own ρ' S tm st->b.ev ρ'≠0/\x=some (.int k (k.wrap ((a.ev ρ').tdiv (b.ev ρ')))):=by
   intro ρ' h';have hb:=vn (Ak T ρ') h'.fs hb;refine⟨hb,?_⟩
   rw[hx ρ' h'];simp only[DO,nh];rw[show decide (b.ev ρ'=0)=false from nM hb]
   simp only[Op.intDiv,ba hb]
   rfl
  split
  ·rename_i c
   refine aL.ite (fun ha=>?_) (px h (key ρ h.here).2 (iI _ _))
   refine aL.new h _ (.int .u64 (IntKind.u64.wrap ((a.ev ρ).tdiv (af.ev ρ ⟨.ofNat (c+1),[]⟩)))) (key ρ h.here).2 fun ρ' h' hv=>?_
   have ha:=aW h'.fs ha;have e1:IntKind.u64.wrap ((a.ev ρ).tdiv (af.ev ρ ⟨.ofNat (c+1),[]⟩))=IntKind.u64.wrap ((a.ev ρ').tdiv (af.ev ρ' ⟨.ofNat (c+1),[]⟩)):=by
    have:=(key ρ h.here).2.symm.trans (key ρ' h').2;injection this with this; injection this
   rw[e1] at hv ⊢;have e2:af.ev ρ' ⟨.ofNat (c+1),[]⟩=((c+1:Nat):Int):=by simp[af.ev,eA]
   rw[e2] at hv ⊢;have hq0:0<=(a.ev ρ').tdiv ((c+1:Nat):Int):=Int.tdiv_nonneg ha (by omega)
   have hw:IntKind.u64.wrap ((a.ev ρ').tdiv ((c+1:Nat):Int))<=(a.ev ρ').tdiv ((c+1:Nat):Int):=by
    unfold IntKind.wrap;show(if (false&&_:Bool)=true then _ else (a.ev ρ').tdiv ((c+1:Nat):Int) % 2 ^ IntKind.u64.bits)<=_
    rw[ba (by simp)]
    have h1:(0:Int)<2 ^ IntKind.u64.bits:=by show(0:Int)<18446744073709551616; omega
    have h2:=Int.emod_add_mul_ediv ((a.ev ρ').tdiv ((c+1:Nat):Int)) (2 ^ IntKind.u64.bits);have h3:=Int.mul_nonneg (EM h1) (Int.ediv_nonneg hq0 (EM h1));omega
   have hr:=iI .u64 ((a.ev ρ').tdiv ((c+1:Nat):Int));have hr:0<=IntKind.u64.wrap ((a.ev ρ').tdiv ((c+1:Nat):Int)):=hr
   generalize hg:IntKind.u64.wrap ((a.ev ρ').tdiv ((c+1:Nat):Int))=q at hv hw hr ⊢
   refine⟨by simp only[SV.ev,SE.ev,SA.ev,af.aR,dz,hv,intOf],?_,fun m hm=>by cases hm⟩
   refine(h'.fs.ge ?_).ge ?_
   ·rw[af.aR,dz,hv]; exact hr
   ·rw[af.aP,af.aR,dz,hv]
    have h4:=Jy hw (show(0:Int)<=((c+1:Nat):Int) by omega)
    have h5:=Int.tmod_add_mul_tdiv (a.ev ρ') ((c+1:Nat):Int);have h6:=Int.tmod_nonneg ((c+1:Nat):Int) ha;simp only[intOf];rw[Ck];omega
  ·exact px h (key ρ h.here).2 (iI _ _)
 case rem =>
  refine aL.guard fun hb=>?_
  have key:∀ ρ',cp T own ρ' S tm st->b.ev ρ'≠0/\x=some (.int k ((a.ev ρ').tmod (b.ev ρ'))):=by
   intro ρ' h';have hb:=vn (Ak T ρ') h'.fs hb;refine⟨hb,?_⟩
   rw[hx ρ' h'];simp only[DO,nh];rw[show decide (b.ev ρ'=0)=false from nM hb]
   simp only[Op.intDiv,ba hb]
   rfl
  refine aL.ite (fun hp=>?_) (Sd h (key ρ h.here).2)
  refine aL.new h _ (.int k ((a.ev ρ).tmod (b.ev ρ))) (key ρ h.here).2 fun ρ' h' hv=>?_
  have e1:(a.ev ρ).tmod (b.ev ρ)=(a.ev ρ').tmod (b.ev ρ'):=by
   have:=(key ρ h.here).2.symm.trans (key ρ' h').2;injection this with this; injection this
  rw[e1] at hv ⊢;have hp:=aW h'.fs hp;rw[af.bf] at hp;have h1:=Int.tmod_lt_of_pos (a.ev ρ') (show 0<b.ev ρ' by omega)
  have h2:-(b.ev ρ')<(a.ev ρ').tmod (b.ev ρ'):=Int.lt_tmod_of_pos (a.ev ρ') (show 0<b.ev ρ' by omega)
  have h3:Good T ρ' ((S.F.ge ((af.add b (-1) (af.at (8*S.nx))).plus (-1))).ge ((af.add b 1 (af.at (8*S.nx))).plus (-1))):=by
   refine(h'.fs.ge ?_).ge ?_
   ·rw[af.bf,af.aP,af.aR,dz,hv]; simp only[intOf]; omega
   ·rw[af.bf,af.aP,af.aR,dz,hv]; simp only[intOf]; omega
  refine⟨by simp only[SV.ev,SE.ev,SA.ev,af.aR,dz,hv,intOf],?_,fun m hm=>by cases hm⟩
  unfold ifF;cases hn:bV S.F a with
  |false=>exact h3
  |true =>
   refine ai.Ok.ge h3 ?_
   rw[af.aR,dz,hv];exact Int.tmod_nonneg _ (aW h'.fs hn)
 case eql =>
  refine aL.dW h fun ρ' h'=>?_
  rw[hx ρ' h'];simp only[DO,nh]
  congr 1
  refine zJ ?_
  simp only[BF.ev,af.aP]; omega
 case neq =>
  refine aL.dW h fun ρ' h'=>?_
  rw[hx ρ' h'];simp only[DO,nh]
  congr 1
  refine Bq ?_
  simp only[BF.ev,af.aP]; omega
 case lss =>
  refine aL.dW h fun ρ' h'=>?_
  rw[hx ρ' h'];show some (AV.bool (decide (a.ev ρ'<b.ev ρ')))=_
  congr 1
  refine zJ ?_
  simp only[BF.ev,af.aP,af.bf]; omega
 case leq =>
  refine aL.dW h fun ρ' h'=>?_
  rw[hx ρ' h'];show some (AV.bool (decide (a.ev ρ'<=b.ev ρ')))=_
  congr 1
  refine zJ ?_
  simp only[BF.ev,af.aP]; omega
 case gtr =>
  refine aL.dW h fun ρ' h'=>?_
  rw[hx ρ' h'];show some (AV.bool (decide (a.ev ρ'>b.ev ρ')))=_
  congr 1
  refine zJ ?_
  simp only[BF.ev,af.aP,af.bf]; omega
 case geq =>
  refine aL.dW h fun ρ' h'=>?_
  rw[hx ρ' h'];show some (AV.bool (decide (a.ev ρ'≥b.ev ρ')))=_
  congr 1
  refine zJ ?_
  simp only[BF.ev,af.aP]; omega
theorem Bb (s t:List UInt8):mW s t=decide (s=t):=by
 cases h:mW s t with
 |true=>rw[Pz h]; simp
 |false =>
  symm
  rw[decide_eq_false_iff_not];intro e;subst e;rw[Dt] at h; cases h
theorem H5 (h:Good T ρ F) {s:SS} (hd:PK F s=true):(46:UInt8)∈s.ev ρ:=by
 cases s with
 |v n =>
  obtain⟨f,hf,h1⟩:=bL hd;exact wP (Ak T ρ) (h.fs _ f hf) h1
 |c s =>
  have hd:(Bool.rec true false (uF s):Bool)=true:=hd
  by_cases hm:(46:UInt8)∈s
  ·exact hm
  ·rw[wH.2 hm] at hd; cases hd
theorem Qc (h:Sat T own ρ S tm st) {op:BinOp} {a b:SS} (hx:∀ ρ',cp T own ρ' S tm st->x=Gg op (a.ev ρ') (b.ev ρ')):aL T ρ S.nx (Qd S op a b) x:=by
 cases op<;>simp only[Qd]<;>try exact aL.none
 case add =>
  refine aL.guard fun hl=>?_
  have key:∀ ρ',cp T own ρ' S tm st->x=some (.str (a.ev ρ'++b.ev ρ')):=by
   intro ρ' h';have hl:=aW h'.fs hl;rw[af.da,af.aP,SS.fQ,SS.fQ] at hl;rw[hx ρ' h'];simp only[Gg];rw[show Nat.ble ((a.ev ρ').length+(b.ev ρ').length) 9223372036854775807=true from by rw[gJ]; omega]
  split
  ·rename_i s t
   exact aL.dW h fun ρ' h'=>key ρ' h'
  ·refine aL.new h _ (.str (a.ev ρ++b.ev ρ)) (key ρ h.here) fun ρ' h' hv=>?_
   have e1:a.ev ρ++b.ev ρ=a.ev ρ'++b.ev ρ':=by
    have:=(key ρ h.here).symm.trans (key ρ' h');injection this with this; injection this
   refine⟨by simp only[SV.ev,SE.ev,SA.ev,SS.ev,hv,strOf],?_,fun m hm=>by cases hm⟩
   rw[e1] at hv;have h2:Good T ρ' (S.F.eq (af.add (af.at (8*S.nx+1)) (-1) (af.add a.len 1 b.len))):=by
    refine h'.fs.eq ?_
    rw[af.aP,af.aP,af.aR,o4,SS.fQ,SS.fQ,hv];simp only[strOf,mF]; omega
   unfold ifF;cases hd:fN (PK S.F a) (PK S.F b) with
   |false=>exact h2
   |true =>
    refine h2.fact ?_
    show(46:UInt8)∈strOf (ρ' S.nx)
    rw[hv];rcases bw hd with hd |hd
    ·exact ku.2 (.inl (H5 h'.fs hd))
    ·exact ku.2 (.inr (H5 h'.fs hd))
 case eql =>
  refine aL.dW h fun ρ' h'=>?_
  rw[hx ρ' h'];simp only[Gg,Bb]
  congr 1
  exact zJ Iff.rfl
 case neq =>
  refine aL.dW h fun ρ' h'=>?_
  rw[hx ρ' h'];simp only[Gg,Bb]
  congr 1
  exact Bq Iff.rfl
 case lss=>exact vr h (hx ρ h.here)
 case leq=>exact vr h (hx ρ h.here)
 case gtr=>exact vr h (hx ρ h.here)
 case geq=>exact vr h (hx ρ h.here)
theorem DM (f g:BF):(decide (f.ev ρ)==decide (g.ev ρ))=decide (BF.ev ρ (.or (.and f g) (.and (.not f) (.not g)))):=by
 by_cases h1:f.ev ρ<;>by_cases h2:g.ev ρ<;>simp[h1,h2,BF.ev]
theorem Qh (h:Sat T own ρ S tm st) {op:BinOp} {f g:BF} (hx:∀ ρ',cp T own ρ' S tm st->x=bE op .bool ((SA.bl f).ev ρ') ((SA.bl g).ev ρ')):aL T ρ S.nx (Qi S op f g) x:=by
 cases op<;>simp only[Qi]<;>try exact aL.none
 case eql =>
  refine aL.dW h fun ρ' h'=>?_
  rw[hx ρ' h'];show some (AV.bool (decide (f.ev ρ')==decide (g.ev ρ')))=_
  rw[DM]; rfl
 case neq =>
  refine aL.dW h fun ρ' h'=>?_
  rw[hx ρ' h'];show some (AV.bool (!(decide (f.ev ρ')==decide (g.ev ρ'))))=_
  rw[DM]
  congr 1
  exact Bq Iff.rfl
theorem SQ {e:EK} (h:WR e=true):e = .bool:=by unfold WR at h; split at h<;>first |rfl |cases h
theorem RO (h:Sat T own ρ S tm st) {op:BinOp} {e:EK} {a b:SA} (hx:∀ ρ',cp T own ρ' S tm st->x=bE op e (a.ev ρ') (b.ev ρ')):aL T ρ S.nx (Wc S op e a b) x:=by
 unfold Wc;split
 ·rename_i k l j m
  cases hk:Fi k j with
  |false=>exact aL.none
  |true =>
   refine Qf h fun ρ' h'=>?_
   rw[hx ρ' h'];have hk:=vw hk;subst hk;simp only[SA.ev,bE,decide_true]
 ·exact Qc h fun ρ' h'=>hx ρ' h'
 ·refine aL.guard fun he=>Qh h fun ρ' h'=>?_
  rw[hx ρ' h',SQ he]
 ·exact aL.none
end
end Go.Ab
theorem EL:type_of% @Bool.and_self:=@Bool.and_self
theorem nN:type_of% @List.getElem_mem:=@List.getElem_mem
namespace Go.Ab
noncomputable section
open Go.Ev
open Classical
variable {ρ ρ' ca : cz} {T : TT} {F : ai} {σ : Sub} {own : Nat → Prop} {S : Sy} {tm : Tr AV} {st : St} {x : Option AV} {nx : Nat}
theorem oa:∀ (cs:List SA) (n:Nat) (vs:List SA),(gS cs n vs).map (SA.ev ρ)=aZ (cs.map (SA.ev ρ)) n (vs.map (SA.ev ρ)):=by
 intro cs
 induction cs with
 |nil=>intro n vs; rfl
 |cons c t ih =>
  intro n vs;show List.map _ (Bool.rec (c::gS t (Nat.pred n) vs) (vs++(c::t).drop vs.length) (Nat.beq n 0):List SA)=(Bool.rec (c.ev ρ::aZ (t.map (SA.ev ρ)) (Nat.pred n) (vs.map (SA.ev ρ))) (vs.map (SA.ev ρ)++(c.ev ρ::t.map (SA.ev ρ)).drop (vs.map (SA.ev ρ)).length) (Nat.beq n 0):List AV)
  cases Nat.beq n 0 with
  |true=>show List.map _ (vs++(c::t).drop vs.length)=_; simp[List.map_drop]
  |false=>show List.map _ (c::gS t (Nat.pred n) vs)=_; simp[ih]
theorem Po (h:cp T own ρ S tm st):∀ {parts:List (Nat × Nat × XO)} {cs r:List SA},zr S parts cs=some r->qn tm parts (cs.map (SA.ev ρ))=some (r.map (SA.ev ρ)):=by
 intro parts
 induction parts with
 |nil=>intro cs r hr; have hr:some cs=some r:=hr; cases hr; rfl
 |cons p t ih =>
  intro cs r hr;have hr:(match FV S p.2.2 with
   |some x=>(Option.rec none (fun vs=>Bool.rec none (zr S t (gS cs p.1 vs)) (Nat.beq vs.length p.2.1)) x.cells:Option (List SA))
   |none=>none)=some r:=hr
  split at hr
  ·rename_i y hy
   cases hc:y.cells with
   |none=>rw[hc] at hr; cases hr
   |some vs =>
    rw[hc] at hr;have hr:(Bool.rec none (zr S t (gS cs p.1 vs)) (Nat.beq vs.length p.2.1):Option (List SA))=some r:=hr;cases hl:Nat.beq vs.length p.2.1 with
    |false=>rw[hl] at hr; cases hr
    |true =>
     rw[hl] at hr;show(Bool.rec none (qn tm t (aZ (cs.map (SA.ev ρ)) p.1 (aD tm p.2.2).cells)) (Nat.beq (aD tm p.2.2).cells.length p.2.1):Option (List AV))=_
     rw[iu h hy,SE.cY hc,gK,hl,<-oa];exact ih hr
  ·cases hr
theorem Pn (h:cp T own ρ S tm st) {size:Nat}:∀ {parts:List (Nat × XO)} {cs r:List SE},zq S size parts cs=some r->qo tm size parts (cs.map (SE.ev ρ))=some (r.map (SE.ev ρ)):=by
 intro parts
 induction parts with
 |nil=>intro cs r hr; have hr:some cs=some r:=hr; cases hr; rfl
 |cons p t ih =>
  intro cs r hr;have hr:(match FV S p.2 with
   |some x=>(Option.rec none (fun vs=>Bool.rec none (zq S size t (cs.set p.1 x)) (Nat.beq vs.length size)) x.cells:Option (List SE))
   |none=>none)=some r:=hr
  split at hr
  ·rename_i y hy
   cases hc:y.cells with
   |none=>rw[hc] at hr; cases hr
   |some vs =>
    rw[hc] at hr;have hr:(Bool.rec none (zq S size t (cs.set p.1 y)) (Nat.beq vs.length size):Option (List SE))=some r:=hr;cases hl:Nat.beq vs.length size with
    |false=>rw[hl] at hr; cases hr
    |true =>
     rw[hl] at hr;show(Bool.rec none (qo tm size t ((cs.map (SE.ev ρ)).set p.1 (aD tm p.2))) (Nat.beq (aD tm p.2).cells.length size):Option (List AV))=_
     rw[iu h hy,SE.cY hc,gK,hl,<-List.map_set];exact ih hr
  ·cases hr
theorem SE.eB {y:SE} {cs:List SA} (h:y.cells=some cs):Ab.eB (y.ev ρ).cells=wt (y.ev ρ):=by
 cases y with
 |agg ds=>rfl
 |a z =>
  have h1:=SE.cY (ρ:=ρ) h;cases z with
  |iD v=>cases v<;>simp[SE.cells] at h<;>simp[SE.ev,SA.ev,AV.cells,Ab.eB,wt]
  |var n=>simp[SE.cells] at h
  |_=>simp[SE.cells] at h; subst h; rw[h1]; simp[Ab.eB,SE.ev]
theorem wE_ok:∀ {es:List SE} {l:af},wE es=some l->l.ev ρ=eB (es.map (SE.ev ρ))+es.length+1:=by
 intro es
 induction es with
 |nil=>intro l h; have h:some (af.n 1)=some l:=h; cases h; simp[af.oO,eB]
 |cons y t ih =>
  intro l h;have h:(Option.rec none (fun cs=>Option.rec none (fun l=>Bool.rec none (some ((af.add l 1 (wS cs)).plus 1)) (aU SA.IS cs)) (wE t)) y.cells:Option af)=some l:=h
  cases hc:y.cells with
  |none=>rw[hc] at h; cases h
  |some cs =>
   rw[hc] at h;have h:(Option.rec none (fun l=>Bool.rec none (some ((af.add l 1 (wS cs)).plus 1)) (aU SA.IS cs)) (wE t):Option af)=some l:=h
   cases ht:wE t with
   |none=>rw[ht] at h; cases h
   |some m =>
    rw[ht] at h;have h:(Bool.rec none (some ((af.add m 1 (wS cs)).plus 1)) (aU SA.IS cs):Option af)=some l:=h;cases hw:aU SA.IS cs with
    |false=>rw[hw] at h; cases h
    |true =>
     rw[hw] at h;have h:some ((af.add m 1 (wS cs)).plus 1)=some l:=h;cases h;rw[af.bf,af.aP,ih ht,LG hw,<-SE.cY hc,SE.eB hc];simp only[ot,eB,mE]; omega
theorem mJ {size off:Nat} {agg:Bool} {cs:List SA} {v:SV} (h:part size agg cs off=some v):partOf size agg (cs.map (SA.ev ρ)) off=some (v.ev ρ):=by
 unfold part at h;unfold partOf;cases agg with
 |false =>
  have h:(Option.rec none (fun x=>some (SV.e (.a x))) (nth cs off):Option SV)=some v:=h
  show nth (cs.map (SA.ev ρ)) off=_
  rw[cS] at h ⊢;rw[jB]
  cases hc:cs[off]? with
  |none=>rw[hc] at h; cases h
  |some y=>rw[hc] at h; cases h; rfl
 |true =>
  have h:(Bool.rec none (some (SV.e (.agg ((cs.drop off).take size)))) (Nat.ble (off+size) cs.length):Option SV)=some v:=h;show(Bool.rec none (some (AV.agg (((cs.map (SA.ev ρ)).drop off).take size))) (Nat.ble (off+size) (cs.map (SA.ev ρ)).length):Option AV)=_
  rw[gK];cases hb:Nat.ble (off+size) cs.length with
  |false=>rw[hb] at h; cases h
  |true=>rw[hb] at h; cases h; simp[SV.ev,SE.ev,List.map_take,List.map_drop]
theorem nZ {p:Nat->Bool} {ts:List Nat}:∀ t∈rn p ts,t∈ts/\p t=true:=by
 induction ts with
 |nil=>intro t h; cases h
 |cons a s ih =>
  intro t h;have h:t∈(Bool.rec (rn p s) (a::rn p s) (p a):List Nat):=h;cases hp:p a with
  |false=>rw[hp] at h; obtain⟨h1,h2⟩:=ih t h; exact⟨.tail _ h1,h2⟩
  |true =>
   rw[hp] at h;cases h with
   |head=>exact⟨.head _,hp⟩
   |tail _ h=>obtain⟨h1,h2⟩:=ih t h; exact⟨.tail _ h1,h2⟩
theorem L3 {size t:Nat} (h:Uy T size t=true):∃ d,T.get t=some d/\d.aV.length=size:=by
 unfold Uy at h;cases hd:T.get t with
 |none=>rw[hd] at h; cases h
 |some d=>rw[hd] at h; exact⟨d,rfl,bt h⟩
theorem qu (h:Good T ρ F) {v size:Nat} {len:af} {w:Option af} {ts:List Nat} (hs:zQ size (bN (ρ v))) (hl:len.ev ρ=bB (ρ v)) (hw:∀ l,w=some l->l.ev ρ=nX (ρ v)) (ht:∀ t∈ts,j3 T t (bN (ρ v))):Good T ρ (Lf T F v len w size ts):=by
 refine fj (fun t hm G hG=>mn hG (ht t hm)) (ai.Ok.fact ?_ hs)
 have h1:Good T ρ (F.eq (af.add (af.at (8*v+2)) (-1) len)):=h.eq (by rw[af.aP,af.aR,cU]; omega)
 cases w with
 |none=>exact h1
 |some l=>exact h1.eq (by rw[af.aP,af.aR,ju,hw l rfl]; omega)
theorem LS {t size:Nat} {v:AV} {es:List AV} {aN:lV} (hv:v = .sl size es aN) (hs:Uy T size t=true) (he:∀ e∈es,HT T t e):j3 T t v:=by
 obtain⟨d,hd,hl⟩:=L3 hs;exact .inr ⟨d,es,aN,hd,by rw[hl]; exact hv,he⟩
theorem ue (h:cp T own ρ S tm st) {n l u:af} {N:Nat} {lo hi:Option XO} (hn:n.ev ρ=N) (hb:lD S n lo hi=some (l,u)):bounds tm N lo hi=some ((l.ev ρ).toNat,(u.ev ρ).toNat)/\0<=l.ev ρ/\l.ev ρ<=u.ev ρ/\u.ev ρ<=N:=by
 unfold lD at hb;split at hb
 ·rename_i u' l' hu hl
  cases hc:aq (bV S.F l') (aq (bV S.F (af.add u' (-1) l')) (bV S.F (af.add n (-1) u'))) with
  |false=>rw[hc] at hb; cases hb
  |true =>
   rw[hc] at hb;have hb:some (l',u')=some (l,u):=hb;cases hb;obtain⟨h1,h2⟩:=ad hc;obtain⟨h2,h3⟩:=ad h2;have h1:=aW h.fs h1;have h2:=aW h.fs h2;have h3:=aW h.fs h3;rw[af.aP] at h2 h3;have eu:(hi=none/\N=(u.ev ρ).toNat)\/∃ v,hi=some v/\ch (aD tm v)=some (u.ev ρ).toNat:=by
    cases hi with
    |none=>cases hu; exact .inl ⟨rfl,by omega⟩
    |some v=>exact .inr ⟨v,rfl,gZ h hu (by omega)⟩
   have el:(lo=none/\(l.ev ρ).toNat=0)\/∃ v,lo=some v/\ch (aD tm v)=some (l.ev ρ).toNat:=by
    cases lo with
    |none=>cases hl; exact .inl ⟨rfl,by rw[af.oO]; rfl⟩
    |some v=>exact .inr ⟨v,rfl,gZ h hl h1⟩
   refine⟨?_,h1,by omega,by omega⟩
   have e1:Nat.ble (l.ev ρ).toNat (u.ev ρ).toNat=true:=by rw[gJ]; omega
   have e2:Nat.ble (u.ev ρ).toNat N=true:=by rw[gJ]; omega
   rcases eu with⟨e3,e4⟩ |⟨v,e3,e4⟩<;>rcases el with⟨e5,e6⟩ |⟨v',e5,e6⟩<;>subst e3<;>subst e5
   ·rw[e4] at e2 ⊢; rw[e6] at e1 ⊢; simp only[bounds,e1,e2,EL]
   ·rw[e4] at e2 ⊢; simp only[bounds,e6,e1,e2,EL]
   ·rw[e6] at e1 ⊢; simp only[bounds,e4,e1,e2,EL]
   ·simp only[bounds,e4,e6,e1,e2,EL]
 ·cases hb
theorem Rk {es:List AV} {k:Nat} {v:AV} (h:es[k]?=some v):wt v+1<=eB es+es.length:=by
 induction es generalizing k with
 |nil=>simp at h
 |cons a t ih =>
  cases k with
  |zero=>simp at h; subst h; simp only[eB,mE]; omega
  |succ k=>simp at h; have:=ih h; simp only[eB,mE]; omega
theorem HT.eB {t:Nat} {v:AV} (h:HT T t v):Ab.eB v.cells=wt v:=by
 cases h with
 |@mk _ _ d hd ha hn hc hf =>
  cases hg:d.agg with
  |true=>exact sW (.inl (ha hg))
  |false=>exact sW (.inr (hn hg))
theorem j3.size {t:Nat} {v:AV} {d:Lr} (h:j3 T t v) (hd:T.get t=some d) (hl:0<bB v):∃ es aN,v = .sl d.aV.length es aN:=by
 rcases h with h |⟨d',es,aN,dA,h,_⟩
 ·rw[h] at hl; exact absurd hl (by simp[bB])
 ·rw[hd] at dA; cases dA; exact⟨es,aN,h⟩
theorem HT.len {t:Nat} {v:AV} {d:Lr} (h:HT T t v) (hd:T.get t=some d):qZ T d.aV v.cells:=by
 cases h with
 |@mk _ _ d' dA ha hn hc hf=>rw[hd] at dA; cases dA; exact hc
theorem N5 {l:af} {m:Nat} {c:Int} (h:idx l=some (m,c)):l.ev ρ=(if m=0 then 0 else intOf (ρ (m-1)))+c:=by
 unfold idx at h;split at h
 ·cases h; simp[af.ev,eA]
 ·rename_i c' a
  cases ha:Nat.beq (a % 8) 0 with
  |false=>rw[ha] at h; cases h
  |true =>
   rw[ha] at h;have h:some (a / 8+1,c')=some (m,c):=h;cases h;have ea:a=8*(a / 8):=by have:=bt ha; omega
   rw[ba (by omega),Nat.add_sub_cancel]
   have e:gf ρ a=intOf (ρ (a / 8)):=by
    have:=dz (ρ:=ρ) (a / 8);rwa[<-ea] at this
   simp only[af.ev,eA,e,rH];omega
 ·cases h
theorem Cq {v e:AV} {k:Nat} (h:(elems v)[k]?=some e):yY v (k+1)=yY v k+wt e+1:=by
 unfold yY;rw[List.take_add_one,h];have:∀ l:List AV,eB (l++[e])=eB l+wt e:=by
  intro l
  induction l with
  |nil=>simp[eB]
  |cons a t ih=>simp only[List.cons_append,eB,ih]; omega
 simp only[Option.toList_some,this,mF,mE,Cp]; omega
theorem Sr {n m:Nat} {c:Int} {l:af} (h:Nz n m c=some l):∃ a,l=af.at a:=by
 unfold Nz at h;cases h0:Nat.blt 100000000 n with
 |true=>rw[h0] at h; cases h
 |false =>
  rw[h0] at h;cases h1:isNeg c with
  |true=>rw[h1] at h; cases h
  |false =>
   cases h2:Nat.blt m 65536 with
   |false=>rw[h1,h2] at h; cases h
   |true =>
    cases h3:Nat.blt c.toNat 65536 with
    |false=>rw[h1,h2,h3] at h; cases h
    |true =>
     rw[h1,h2,h3] at h;have h:some (af.at (8*(((n+1)*65536+m)*65536+c.toNat)+4))=some l:=h;exact⟨_,(Option.some.inj h).symm⟩
theorem WC {n m:Nat} {c:Int} {l:af} (h:Lg n m c=some l):(∃ a,l=af.at a)\/l=af.n 0:=by
 unfold Lg at h;cases h1:aq (Nat.beq m 0) (yj c) with
 |false=>rw[h1] at h; exact .inl (Sr h)
 |true=>rw[h1] at h; exact .inr (Option.some.inj h).symm
theorem Wi (h:Good T ρ F) {n:Nat} {i w:af} {e:AV} (h0:0<=i.ev ρ) (he:(elems (ρ n))[(i.ev ρ).toNat]?=some e) (hw:w.ev ρ=wt e):Good T ρ (pwF n i w F):=by
 unfold pwF;split
 ·rename_i m c hi
  split
  ·rename_i p q hp hq
   have e1:=N5 (ρ:=ρ) hi;have e2:=qC (ρ:=ρ) hp;have e3:=qC (ρ:=ρ) hq;rw[<-e1] at e2;rw[<-Int.add_assoc,<-e1,show(i.ev ρ+1).toNat=(i.ev ρ).toNat+1 by omega,Cq he] at e3
   have e4:=M4 (ρ n) ((i.ev ρ).toNat+1);rw[Cq he] at e4;split
   ·rename_i a k J5
    rcases WC hq with⟨b,hb⟩ |hb
    ·rw[hb] at J5
     have J5:[(b,(1:Int))]=[(a,k)]:=J5;cases J5;rw[hb,af.aR] at e3;refine ai.Ok.ge (h.tell ?_) ?_
     ·rw[af.bf,af.aP,e2,hw,e3]; omega
     ·rw[af.bf,af.aP,af.aR,ju,hb,af.aR,e3]; omega
    ·rw[hb] at J5; cases J5
   ·exact h
  ·exact h
 ·exact h
theorem Yh {C:Cx} {n b:Nat} {i:af} {d:Lr} {ts:List Nat} {e:AV} {t:Nat} (h:Good C.T ρ F) (hd:C.T.get t=some d) (J5:∀ s∈ts,HT C.T s e) (ht:HT C.T t e) (h0:0<=i.ev ρ) (he:(elems (ρ n))[(i.ev ρ).toNat]?=some e)
  (hv:∀ (j:Nat) c,e.cells[j]?=some c->ρ (b+j)=c):Good C.T ρ (elF C F n i b d ts):=by
 have hc:=ht.len hd;have h1:Good C.T ρ (bm (kO C.T b) ts F):=fj (fun s hs G hG=>sI hG (J5 s hs) hv) h
 have h2:Good C.T ρ ((bm (kO C.T b) ts F).fact n (.el n i b d.aV.length)):=h1.fact ⟨h0,e,he,hc.get.1,hv⟩;unfold elF;simp only;cases hw:aU SA.IS (eZ d.aV b) with
 |false=>exact h2
 |true =>
  have e1:(wS (eZ d.aV b)).ev ρ=wt e:=by rw[LG hw,kJ hc hv,ht.eB]
  have h3:Good C.T ρ (((bm (kO C.T b) ts F).fact n (.el n i b d.aV.length)).ge ((af.add (af.at (8*n+3)) (-1) (wS (eZ d.aV b))).plus (-2))):=by
   refine h2.ge ?_
   rw[af.bf,af.aP,af.aR,ju,e1];have:wt e+2<=nX (ρ n):=by
    unfold nX;have hm:=Rk he;cases hq:ρ n<;>rw[hq] at hm he<;>simp only[elems,bN,wt] at hm he ⊢<;>first |omega |(simp at he)
   omega
  show Good C.T ρ (Bool.rec _ (pwF n i (wS (eZ d.aV b)) _) C.pw)
  cases C.pw with
  |false=>exact h3
  |true=>exact Wi h3 h0 he e1
theorem y6 {C:Cx} (h:Sat C.T own ρ S tm st) {size n k:Nat} {i:af} {cs:List SA} {F:ai} (hl:tt C S size n i=some (cs,F,k)) :
  (∀ ρ',cp C.T own ρ' S tm st->0<=i.ev ρ'/\∃ es aN e,bN (ρ' n) = .sl size es aN/\es[(i.ev ρ').toNat]?=some e/\e.cells.length=size) /\
  ∀ c:List AV,(∀ ρ',cp C.T own ρ' S tm st->∀ es aN e,bN (ρ' n) = .sl size es aN->es[(i.ev ρ').toNat]?=some e->e.cells=c) ->
   ∃ ρ',aj ρ ρ' S.nx/\∀ ca,aj ρ' ca (S.nx+k)->cs.map (SA.ev ca)=c/\Good C.T ca F:=by
 unfold tt at hl;split at hl
 ·cases hl
 rename_i t ts J5;split at hl
 ·cases hl
 rename_i d hd;cases hg:aq (Nat.beq d.aV.length size) (aq (bV S.F i) (bV S.F ((af.add (af.at (8*n+2)) (-1) i).plus (-1)))) with
 |false=>rw[hg] at hl; cases hl
 |true =>
  rw[hg] at hl;obtain⟨h1,h2⟩:=ad hg;obtain⟨h2,h3⟩:=ad h2;have h1:=bt h1;subst h1;have key:∀ ρ',cp C.T own ρ' S tm st->0<=i.ev ρ'/\∃ es aN e,bN (ρ' n) = .sl d.aV.length es aN/\es[(i.ev ρ').toNat]?=some e/\∀ s∈t::ts,HT C.T s e:=by
   intro ρ' h';have h2:=aW h'.fs h2;have h3:=aW h'.fs h3;rw[af.bf,af.aP,af.aR,cU] at h3;have ht:∀ s∈t::ts,j3 C.T s (bN (ρ' n)):=by rw[<-J5]; exact lW h'.fs
   obtain⟨es,aN,hs⟩:=(ht t (.head _)).size hd (by rw[cj]; omega)
   have aO:(i.ev ρ').toNat<es.length:=by
    have:bB (bN (ρ' n))=es.length:=by rw[hs]; rfl
    rw[cj] at this; omega
   refine⟨h2,es,aN,_,hs,ey aO,?_⟩
   intro s pE;refine(ht s pE).elem ?_
   rw[hs]; exact nN aO
  refine⟨fun ρ' h'=>?_,fun c hc=>?_⟩
  ·obtain⟨h4,es,aN,e,h5,h6,h7⟩:=key ρ' h'
   exact⟨h4,es,aN,e,h5,h6,((h7 t (.head _)).len hd).get.1⟩
  ·have hl:(match A7 S.F n i with
    |some b=>some (eZ d.aV b,S.F,0)
    |none=>some (eZ d.aV S.nx,elF C S.F n i S.nx d (t::ts),d.aV.length))=some (cs,F,k):=hl
   split at hl
   ·rename_i b hb
    cases hl
    refine⟨ρ,aj.refl _ _,fun ca ha=>?_⟩
    have h':=h.lQ ca (ha.le (by omega))
    obtain⟨h4,es,aN,e,h5,h6,h7⟩:=key ca h';obtain⟨k',hE⟩:=Kt h'.fs hb;obtain⟨_,v,h8,h9,dc⟩:=hE;have:elems (ca n)=es:=by rw[<-eW,h5]; rfl
    rw[this,h6] at h8;cases h8;refine⟨?_,h'.fs⟩
    rw[<-hc ca h' es aN _ h5 h6];exact kJ ((h7 t (.head _)).len hd) dc
   ·cases hl
    obtain⟨ρ',hr⟩:∃ ρ':cz,ρ'=fun j=>if j<S.nx then ρ j else (c[j-S.nx]?).getD gg:=⟨_,rfl⟩
    have ha0:aj ρ ρ' S.nx:=fun j hj=>by rw[hr]; simp[hj]
    refine⟨ρ',ha0,fun ca ha=>?_⟩
    have h':=h.lQ ca (ha0.trans (ha.le (by omega)))
    obtain⟨h4,es,aN,e,h5,h6,h7⟩:=key ca h';have e1:=hc ca h' es aN _ h5 h6;have hcs:=(h7 t (.head _)).len hd;have hv:∀ (j:Nat) c',e.cells[j]?=some c'->ca (S.nx+j)=c':=by
     intro j c' hj;obtain⟨q,_⟩:=fU.1 hj
     rw[hcs.get.1] at q;rw[ha _ (by omega),hr]
     show(if S.nx+j<S.nx then _ else (c[S.nx+j-S.nx]?).getD gg)=c'
     rw[ba (by omega),ES,<-e1,hj]; rfl
    refine⟨by rw[kJ hcs hv]; exact e1,?_⟩
    refine Yh h'.fs hd h7 (h7 t (.head _)) h4 ?_ hv
    rw[<-eW,h5]; exact h6
end
end Go.Ab
theorem lJ:type_of% @Nat.le_add_right:=@Nat.le_add_right
namespace Go.Ab
noncomputable section
open Go.Ev
open Classical
variable {ρ ρ' ca : cz} {T : TT} {F : ai} {σ : Sub} {own : Nat → Prop} {S : Sy} {tm : Tr AV} {st : St} {x : Option AV} {nx : Nat}
theorem Rs (h:Rt T=true) {v:AV} (hv:HT T 0 v):∃ n:Nat,n<=255/\v = .int .u8 (.ofNat n):=by
 unfold Rt at h;split at h
 ·rename_i cs tr hd
  cases hv with
  |@mk _ _ d dA ha hn hc hf =>
   rw[hd] at dA; cases dA;have h1:=hn rfl;rw[h1] at hc;cases hc with
   |cons h2 h3 =>
    cases h2 with
    |@int k n hk =>
     cases n with
     |ofNat n=>have:=hk.2; simp only[rH] at this; exact⟨n,by omega,rfl⟩
     |negSucc n=>have:=hk.1; exact absurd this (by have:=Int.negSucc_lt_zero n; omega)
 ·cases h
theorem DL:∀ {es:List AV},(∀ e∈es,∃ n:Nat,n<=255/\e = .int .u8 (.ofNat n))->∃ bs,bytesOf es=some bs/\bs.length=es.length:=by
 intro es
 induction es with
 |nil=>intro _; exact⟨[],rfl,rfl⟩
 |cons e t ih =>
  intro h;obtain⟨bs,h1,h2⟩:=ih fun a ha=>h a (.tail _ ha)
  obtain⟨n,_,hn⟩:=h e (.head _);refine⟨UInt8.ofNat n::bs,?_,by simp[h2]⟩
  rw[hn];simp only[bytesOf,h1]; rfl
theorem ig {s:Nat} {es:List AV} {aN:lV} {n:Nat} (h:bN (ρ n) = .sl s es aN):bB (ρ n)=es.length:=by
 rw[<-cj,h]; rfl
theorem Us {s:Nat} {es:List AV} {aN:lV} {n:Nat} (h:bN (ρ n) = .sl s es aN):nX (ρ n)=eB es+es.length+1:=by
 unfold nX; rw[h]; rfl
theorem KW {C:Cx} (h:Sat C.T own ρ S tm st) {size:Nat} {z:List AV} {parts:List (Nat × XO)} {cV:List Nat} :
  aL C.T ρ S.nx (jr C S cV (.fv size z parts)) (Bz tm size z parts):=by
 show aL C.T ρ S.nx (Option.rec none (fun es=>some (.e (.a (.sl S.nx)),Lf C.T S.F S.nx (af.n es.length) (wE es) size (rn (fun t=>aq (Uy C.T size t) (aU (fun x=>ly C.T S.F x t) es)) cV),1,[S.nx])) (zq S size parts (z.map AN))) _
 cases hf:zq S size parts (z.map AN) with
 |none=>exact aL.none
 |some es =>
  have key:∀ ρ',cp C.T own ρ' S tm st->Bz tm size z parts=some (.sl size (es.map (SE.ev ρ')) .full):=by
   intro ρ' h';have:=Pn h' hf;rw[yr,show(SE.ev ρ' ∘ AN)=id from funext fun v=>AM v,List.map_id] at this
   show Rh size (qo tm size parts z)=_
   rw[this]; rfl
  refine aL.new h _ (.sl size (es.map (SE.ev ρ)) .full) (key ρ h.here) fun ρ' h' hv=>?_
  have e1:es.map (SE.ev ρ)=es.map (SE.ev ρ'):=by
   have:=(key ρ h.here).symm.trans (key ρ' h');injection this with this; injection this
  have hs:bN (ρ' S.nx) = .sl size (es.map (SE.ev ρ')) .full:=by rw[hv,e1]; rfl
  refine⟨?_,?_,?_⟩
  ·simp only[SV.ev,SE.ev,SA.ev]; rw[hv]; rfl
  ·refine qu h'.fs (.inr ⟨_,_,hs⟩) ?_ ?_ ?_
   ·rw[af.oO,ig hs,gK]
   ·intro l hl; rw[Us hs,wE_ok hl,gK]; omega
   ·intro t ht
    obtain⟨_,h1⟩:=nZ t ht;obtain⟨h2,h3⟩:=ad h1;refine LS hs h2 fun e he=>?_
    obtain⟨y,hy,rfl⟩:=fD.1 he;exact kB h'.fs (aB h3 y hy)
  ·intro m hm
   cases hm with
   |head=>exact⟨dN _,size,_,hv⟩
   |tail _ hm=>cases hm
theorem Rz {C:Cx} (h:Sat C.T own ρ S tm st) {y:XO} {lo hi:Option XO} {cV:List Nat} :
  aL C.T ρ S.nx (jr C S cV (.lZ y lo hi)) (Qy tm y lo hi):=by
 simp only[jr];split
 ·rename_i s hs
  cases hb:lD S s.len lo hi with
  |none=>exact aL.none
  |some p =>
   obtain⟨l,u⟩:=p;have key:∀ ρ',cp C.T own ρ' S tm st->Qy tm y lo hi=some (.str (((s.ev ρ').take (u.ev ρ').toNat).drop (l.ev ρ').toNat))/\0<=l.ev ρ'/\l.ev ρ'<=u.ev ρ'/\u.ev ρ'<=(s.ev ρ').length:=by
    intro ρ' h';obtain⟨h1,h2⟩:=ue h' (SS.fQ s) hb;refine⟨?_,h2⟩
    show kf tm lo hi (aD tm y)=_
    rw[bS h' hs];simp only[SA.ev,kf,h1]
   refine aL.new h _ (.str (((s.ev ρ).take (u.ev ρ).toNat).drop (l.ev ρ).toNat)) (key ρ h.here).1 fun ρ' h' hv=>?_
   obtain⟨k1,k2,k3,k4⟩:=key ρ' h';have e1:((s.ev ρ).take (u.ev ρ).toNat).drop (l.ev ρ).toNat=((s.ev ρ').take (u.ev ρ').toNat).drop (l.ev ρ').toNat:=by
    have:=(key ρ h.here).1.symm.trans k1;injection this with this; injection this
   refine⟨by simp only[SV.ev,SE.ev,SA.ev,SS.ev,hv,strOf],?_,fun m hm=>by cases hm⟩
   refine h'.fs.eq ?_
   rw[af.aP,af.aP,af.aR,o4,hv,e1];simp only[strOf,gL,mG]; omega
 ·exact aL.none
theorem Ru {n m t:Nat} {s:Nat} {es fs:List AV} {aN Ej:lV} (h:j3 T t (.sl s es aN)) (hf:∀ e∈fs,e∈es):j3 T t (.sl s fs Ej):=by
 rcases h with h |⟨d,cr,tp,hd,h,he⟩
 ·cases h
 ·cases h; exact .inr ⟨d,fs,Ej,hd,rfl,fun e eO=>he e (hf e eO)⟩
theorem Lz (a b:List AV):eB (a++b)=eB a+eB b:=by
 induction a with
 |nil=>simp[eB]
 |cons x t ih=>simp only[List.cons_append,eB,ih]; omega
theorem RA {C:Cx} (h:Sat C.T own ρ S tm st) {size:Nat} {y:XO} {lo hi:Option XO} {cV:List Nat} :
  aL C.T ρ S.nx (jr C S cV (.I5 size y lo hi)) (Qz tm size y lo hi):=by
 simp only[jr];split
 ·rename_i n hn
  refine aL.guard fun hz=>?_
  cases hb:lD S (af.at (8*n+2)) lo hi with
  |none=>exact aL.none
  |some p =>
   obtain⟨l,u⟩:=p;have key:∀ ρ',cp C.T own ρ' S tm st->∃ w,Qz tm size y lo hi=some w/\bN w=w/\zQ size w/\bB w+(l.ev ρ').toNat=(u.ev ρ').toNat/\0<=l.ev ρ'/\l.ev ρ'<=u.ev ρ'/\yY (ρ' n) (l.ev ρ').toNat+nX w<=nX (ρ' n)/\∀ t,j3 C.T t (bN (ρ' n))->j3 C.T t w:=by
    intro ρ' h';obtain⟨h1,h2,h3,h4⟩:=ue h' (N:=bB (ρ' n)) (by rw[af.aR,cU]) hb
    show ∃ w,nW tm size lo hi (aD tm y)=some w/\_
    rw[bS h' hn];simp only[SA.ev];rcases ij h'.fs hz with hs |⟨es,aN,hs⟩
    ·have e0:bB (ρ' n)=0:=by rw[<-cj,hs]; rfl
     rw[e0] at h1 h4;refine⟨.az,by rw[hs]; simp only[nW,h1],rfl,.inl rfl,by simp only[bB]; omega,h2,h3,?_,fun t _=>.inl rfl⟩
     have e9:yY (ρ' n) (l.ev ρ').toNat=0:=by rw[<-Aw,hs]; simp[yY,elems,eB]
     rw[e9]; unfold nX; rw[hs]; exact dN _
    ·have e0:=ig hs
     rw[e0] at h1 h4;refine⟨.sl size ((es.take (u.ev ρ').toNat).drop (l.ev ρ').toNat) (match Nat.beq (l.ev ρ').toNat 0&&Nat.beq (u.ev ρ').toNat es.length with |true=>aN |false=>.dead),?_,rfl,.inr ⟨_,_,rfl⟩,?_,h2,h3,?_,?_⟩
     ·rw[hs]
      have eb:Nat.beq size size=true:=fV _;simp only[nW,eb,h1]; rfl
     ·simp only[bB,gL,mG]; omega
     ·rw[Us hs]
      have a2:=BM es (u.ev ρ').toNat;have e9:yY (ρ' n) (l.ev ρ').toNat=eB (es.take (l.ev ρ').toNat)+(es.take (l.ev ρ').toNat).length:=by rw[<-Aw,hs]; rfl
      have a3:=List.take_append_drop (l.ev ρ').toNat (es.take (u.ev ρ').toNat);rw[List.take_take,Nat.min_eq_left (by omega)] at a3
      have a4:=congrArg eB a3;have a5:=congrArg List.length a3;rw[Lz] at a4;rw[mF] at a5;rw[e9];simp only[nX,bN,wt]; omega
     ·intro t ht
      rw[hs] at ht;exact Ru (n:=0) (m:=0) ht fun e he=>List.mem_of_mem_take (List.mem_of_mem_drop he)
   obtain⟨w,hw⟩:=key ρ h.here;refine aL.new h w w hw.1 fun ρ' h' hv=>?_
   obtain⟨w',k1,k2,k3,k4,k5,k6,k7,k8⟩:=key ρ' h';have e1:w=w':=Option.some.inj (hw.1.symm.trans k1);subst e1;refine⟨by simp only[SV.ev,SE.ev,SA.ev,hv,k2],?_,fun m hm=>by cases hm⟩
   refine ai.Ok.ge (qu h'.fs (by rw[hv,k2]; exact k3) ?_ (fun l hl=>by cases hl) ?_) ?_
   ·show af.ev ρ' (af.add u (-1) l)=_; rw[af.aP,hv]; omega
   ·intro t ht; rw[hv,k2]; exact k8 t (lW h'.fs t ht)
   ·have base:0<=af.ev ρ' (af.add (af.at (8*n+3)) (-1) (af.at (8*S.nx+3))):=by
     rw[af.aP,af.aR,af.aR,ju,ju,hv]; omega
    show 0<=af.ev ρ' (VY C.pw n S.nx l)
    unfold VY;cases C.pw with
    |false=>exact base
    |true =>
     show 0<=af.ev ρ' (match idx l with |some (m,c)=>(match Lg n m c with |some p=>_ |none=>_) |none=>_)
     split
     ·rename_i m c hi
      split
      ·rename_i p hp
       have e1:=N5 (ρ:=ρ') hi;have e2:=qC (ρ:=ρ') hp;rw[<-e1] at e2;rw[af.aP,e2,af.aP,af.aR,af.aR,ju,ju,hv]; omega
      ·exact base
     ·exact base
 ·rename_i hn
  cases hb:lD S (af.n 0) lo hi with
  |none=>exact aL.none
  |some p =>
   obtain⟨l,u⟩:=p;refine aL.dW h fun ρ' h'=>?_
   obtain⟨h1,_⟩:=ue h' (N:=0) (by rw[af.oO]; rfl) hb
   show nW tm size lo hi (aD tm y)=_
   rw[bS h' hn];simp only[SA.ev,nW,h1]
 ·exact aL.none
theorem N9 {C:Cx} (h:Sat C.T own ρ S tm st) {size:Nat} {y ix:XO} {cV:List Nat} :
  aL C.T ρ S.nx (jr C S cV (.gE size y ix)) (Gl tm size y ix):=by
 simp only[jr];split
 ·rename_i n i hn hi
  cases hl:tt C S size n i with
  |none=>exact aL.none
  |some p =>
   obtain⟨cs,F,k⟩:=p;obtain⟨h1,h2⟩:=y6 h hl;have ex:∀ ρ',cp C.T own ρ' S tm st->∀ es aN e,bN (ρ' n) = .sl size es aN->es[(i.ev ρ').toNat]?=some e->0<=i.ev ρ'->Gl tm size y ix=some (.ro e.cells 0 (kE aN ((es.length-(i.ev ρ').toNat)*size))):=by
    intro ρ' h' es aN e hs he h0;show gQ size (aD tm y) (ch (aD tm ix))=_
    rw[gZ h' hi h0,bS h' hn];simp only[SA.ev,hs,gQ,fV,cS,he]
   obtain⟨h3,es,aN,e,h4,h5,h6⟩:=h1 ρ h.here;obtain⟨ρ',ha,hr⟩:=h2 e.cells (by
    intro ρ' h' cr Ej e' XT h5';have a1:=ex ρ' h' cr Ej e' XT h5' (h1 ρ' h').1;have a2:=ex ρ h.here es aN e h4 h5 h3;rw[a1] at a2;injection a2 with a2; injection a2 with a2)
   intro v' F' n' lv' Fs;cases Fs;refine⟨.ro e.cells 0 (kE aN ((es.length-(i.ev ρ).toNat)*size)),ρ',ex ρ h.here es aN e h4 h5 h3,ha,fun ca u4=>?_⟩
   obtain⟨b1,b2⟩:=hr ca u4;have h'':=h.lQ ca (ha.trans (u4.le (lJ _ _)));obtain⟨c1,Vb,Rx,e2,c2,c3,c4⟩:=h1 ca h'';have a1:=ex ca h'' Vb Rx e2 c2 c3 c1;have a2:=ex ρ h.here es aN e h4 h5 h3;rw[a1] at a2;injection a2 with a2
   injection a2 with _ _ a2
   refine⟨?_,b2,fun m hm=>by cases hm⟩
   simp only[SV.ev,b1,dT,c2,a2]
 ·rename_i n m i hn hi
  refine aL.guard fun hg=>aL.old h fun ρ' h'=>?_
  obtain⟨h1,h2⟩:=ad hg;have h1:=aW h'.fs h1;have h2:=aW h'.fs h2;rw[af.bf,af.aP,af.aR,cU] at h2;show gQ size (aD tm y) (ch (aD tm ix))=_
  rw[gZ h' hi h1,bS h' hn];have e:Nat.blt (i.ev ρ').toNat (bB (ρ' m))=true:=by rw[Nat.blt_eq]; omega
  simp only[SA.ev,gQ,e,SV.ev,kT,pR]
 ·exact aL.none
theorem KU {C:Cx} (h:Sat C.T own ρ S tm st) {y:XO} {cV:List Nat} :
  aL C.T ρ S.nx (jr C S cV (.ud y)) (By tm y):=by
 simp only[jr];split
 ·rename_i n hn
  refine aL.guard fun hg=>?_
  obtain⟨h1,h2⟩:=ad hg;have key:∀ ρ',cp C.T own ρ' S tm st->∃ bs,By tm y=some (.str bs)/\bs.length=bB (ρ' n):=by
   intro ρ' h';show ∃ bs,lg (aD tm y)=_/\_
   rw[bS h' hn];simp only[SA.ev];rcases sd h'.fs h2 with hs |⟨d,es,aN,hd,hs,he⟩
   ·refine⟨[],by rw[hs]; rfl,by rw[<-cj,hs]; rfl⟩
   ·obtain⟨bs,h3,h4⟩:=DL fun e eO=>Rs h1 (he e eO)
    have e1:d.aV.length=1:=by
     unfold Rt at h1;split at h1
     ·rename_i cs tr dA; rw[hd] at dA; cases dA; rfl
     ·cases h1
    refine⟨bs,?_,by rw[ig hs,h4]⟩
    rw[hs,e1];simp only[lg,fV,h3]
  obtain⟨bs,hb,_⟩:=key ρ h.here;refine aL.new h _ (.str bs) hb fun ρ' h' hv=>?_
  obtain⟨bs',zg,hl⟩:=key ρ' h';have e1:bs=bs':=by
   have:=hb.symm.trans zg;injection this with this; injection this
  subst e1;refine⟨by simp only[SV.ev,SE.ev,SA.ev,SS.ev,hv,strOf],?_,fun m hm=>by cases hm⟩
  refine h'.fs.eq ?_
  rw[af.aP,af.aR,af.aR,o4,cU,hv];simp only[strOf]; omega
 ·rename_i hn
  refine aL.dW h fun ρ' h'=>?_
  show lg (aD tm y)=_
  rw[bS h' hn]; rfl
 ·exact aL.none
theorem AQ {v:AV} (h:bN v=v):jI v=some (.int .i64 (.ofNat (bB v))):=by
 cases v<;>simp only[bN] at h<;>first |rfl |cases h
theorem TZ {C:Cx} (h:Sat C.T own ρ S tm st) {cV:List Nat} (o:XP):aL C.T ρ S.nx (jr C S cV o) (mw tm o):=by
 cases o with
 |move y =>
  show aL C.T ρ S.nx (Option.rec none (old S) (rf S y)) (Vn tm y)
  cases hy:rf S y with
  |none=>exact aL.none
  |some v=>exact aL.old h fun ρ' h'=>by show some (aD tm y)=_; rw[cq h' hy]
 |pick c a b=>exact aL.none
 |build z parts =>
  show aL C.T ρ S.nx (Option.rec none (fun cs=>old S (.e (.agg cs))) (zr S parts (z.map qF))) (QC tm z parts)
  cases hf:zr S parts (z.map qF) with
  |none=>exact aL.none
  |some cs =>
   refine aL.old h fun ρ' h'=>?_
   have:=Po h' hf;rw[yr,show(SA.ev ρ' ∘ qF)=id from funext fun v=>rR v,List.map_id] at this
   show D8 (qn tm parts z)=_
   rw[this]; rfl
 |fv size z parts=>exact KW h
 |WB y =>
  show aL C.T ρ S.nx _ (Vm tm y)
  simp only[jr];split
  ·rename_i n o hy
   exact aL.dW h fun ρ' h'=>by show ri (aD tm y)=_; rw[cq h' hy]; rfl
  ·rename_i cs o hy
   exact aL.old h fun ρ' h'=>by show ri (aD tm y)=_; rw[cq h' hy]; rfl
  ·rename_i n i s o hy
   exact aL.old h fun ρ' h'=>by show ri (aD tm y)=_; rw[cq h' hy]; rfl
  ·exact aL.none
 |bin op e y z =>
  show aL C.T ρ S.nx _ (aBin tm op e y z)
  simp only[jr];split
  ·rename_i a b ha hb
   exact RO h fun ρ' h'=>by show bE op e (aD tm y) (aD tm z)=_; rw[bS h' ha,bS h' hb]
  ·exact aL.none
 |not y =>
  show aL C.T ρ S.nx _ (aNot tm y)
  simp only[jr];split
  ·rename_i f hy
   refine aL.dW h fun ρ' h'=>?_
   show aF (aD tm y)=_
   rw[bS h' hy];simp only[SA.ev,aF]
   congr 1
   exact Bq Iff.rfl
  ·exact aL.none
 |neg y =>
  show aL C.T ρ S.nx _ (aNeg tm y)
  simp only[jr];split
  ·rename_i k l hy
   refine px h (n:=k.wrap (0-l.ev ρ)) ?_ (iI _ _)
   show II (aD tm y)=_
   rw[bS h.here hy]; rfl
  ·exact aL.none
 |mkf f a b=>exact aL.none
 |lZ y lo hi=>exact Rz h
 |I5 size y lo hi=>exact RA h
 |iq off y =>
  show aL C.T ρ S.nx _ (QB tm off y)
  simp only[jr];split
  ·rename_i n o hy
   exact aL.dW h fun ρ' h'=>by show gR off (aD tm y)=_; rw[cq h' hy]; rfl
  ·rename_i cs o hy
   exact aL.old h fun ρ' h'=>by show gR off (aD tm y)=_; rw[cq h' hy]; rfl
  ·rename_i n i s o hy
   exact aL.old h fun ρ' h'=>by show gR off (aD tm y)=_; rw[cq h' hy]; simp only[SV.ev,gR,qB]
  ·exact aL.none
 |field off size agg y =>
  show aL C.T ρ S.nx _ (QA tm off size agg y)
  simp only[jr];split
  ·rename_i cs hy
   cases hp:part size agg cs off with
   |none=>exact aL.none
   |some v =>
    refine aL.old h fun ρ' h'=>?_
    show zW off size agg (aD tm y)=_
    rw[iu h' hy];exact mJ hp
  ·exact aL.none
 |gE size y ix=>exact N9 h
 |tz y ix =>
  show aL C.T ρ S.nx _ (aIxs tm y ix)
  simp only[jr];split
  ·rename_i s i hy hi
   refine aL.guard fun hg=>?_
   obtain⟨h1,h2⟩:=ad hg;have h1:=aW h.here.fs h1;have h2:=aW h.here.fs h2;rw[af.bf,af.aP,SS.fQ] at h2;have aO:(i.ev ρ).toNat<(s.ev ρ).length:=by omega
   refine px h (n:=.ofNat ((s.ev ρ)[(i.ev ρ).toNat]).toNat) ?_ ?_
   ·show BL (aD tm y) (ch (aD tm ix))=_
    rw[gZ h.here hi h1,bS h.here hy];simp only[SA.ev,BL,cS,ey aO]
   ·have:=UInt8.toNat_lt ((s.ev ρ)[(i.ev ρ).toNat])
    constructor<;>simp only[rH]<;>omega
  ·exact aL.none
 |ext y i =>
  show aL C.T ρ S.nx _ (aExt tm y i)
  simp only[jr];split
  ·rename_i l hy
   cases hi:nth l i with
   |none=>exact aL.none
   |some e =>
    refine aL.old h fun ρ' h'=>?_
    show sR (aD tm y) i=_
    rw[cq h' hy];simp only[SV.ev,sR];rw[cS] at hi ⊢;rw[jB,hi]; rfl
  ·exact aL.none
 |lens y =>
  show aL C.T ρ S.nx _ (Vo tm y)
  simp only[jr];split
  ·rename_i s hy
   refine aL.dW h fun ρ' h'=>?_
   show ur (aD tm y)=_
   rw[bS h' hy];simp only[SA.ev,ur,SS.fQ]; rfl
  ·exact aL.none
 |kA y =>
  show aL C.T ρ S.nx _ (Vp tm y)
  simp only[jr];split
  ·rename_i a hy
   cases hl:a.len with
   |none=>exact aL.none
   |some l =>
    refine aL.dW h fun ρ' h'=>?_
    show jI (aD tm y)=_
    obtain⟨h1,h2⟩:=SA.E9 (ρ:=ρ') hl;rw[bS h' hy,AQ h2];simp only[SA.ev,h1]; rfl
  ·exact aL.none
 |max y z =>
  show aL C.T ρ S.nx _ (YO tm y z)
  simp only[jr];split
  ·rename_i k a j b hy hz
   have key:∀ ρ',cp C.T own ρ' S tm st->YO tm y z=some (.int k (if b.ev ρ'>a.ev ρ' then b.ev ρ' else a.ev ρ')):=by
    intro ρ' h';show Rj (aD tm y) (aD tm z)=_
    rw[bS h' hy,bS h' hz]; rfl
   refine aL.new h _ (.int k (if b.ev ρ>a.ev ρ then b.ev ρ else a.ev ρ)) (key ρ h.here) fun ρ' h' hv=>?_
   have e1:(if b.ev ρ>a.ev ρ then b.ev ρ else a.ev ρ)=(if b.ev ρ'>a.ev ρ' then b.ev ρ' else a.ev ρ'):=by
    have:=(key ρ h.here).symm.trans (key ρ' h');injection this with this; injection this
   refine⟨by simp only[SV.ev,SE.ev,SA.ev,af.aR,dz,hv,intOf],?_,fun m hm=>by cases hm⟩
   rw[e1] at hv;refine ai.Ok.fact (ai.Ok.ge (h'.fs.ge ?_) ?_) ?_
   ·rw[af.aP,af.aR,dz,hv]; simp only[intOf]; split<;>omega
   ·rw[af.aP,af.aR,dz,hv]; simp only[intOf]; split<;>omega
   ·show af.ev ρ' _=0\/af.ev ρ' _=0
    rw[af.aP,af.aP,af.aR,dz,hv]; simp only[intOf]; split<;>omega
  ·exact aL.none
 |min y z =>
  show aL C.T ρ S.nx _ (YN tm y z)
  simp only[jr];split
  ·rename_i k a j b hy hz
   have key:∀ ρ',cp C.T own ρ' S tm st->YN tm y z=some (.int k (if b.ev ρ'<a.ev ρ' then b.ev ρ' else a.ev ρ')):=by
    intro ρ' h';show Ri (aD tm y) (aD tm z)=_
    rw[bS h' hy,bS h' hz]; rfl
   refine aL.new h _ (.int k (if b.ev ρ<a.ev ρ then b.ev ρ else a.ev ρ)) (key ρ h.here) fun ρ' h' hv=>?_
   have e1:(if b.ev ρ<a.ev ρ then b.ev ρ else a.ev ρ)=(if b.ev ρ'<a.ev ρ' then b.ev ρ' else a.ev ρ'):=by
    have:=(key ρ h.here).symm.trans (key ρ' h');injection this with this; injection this
   refine⟨by simp only[SV.ev,SE.ev,SA.ev,af.aR,dz,hv,intOf],?_,fun m hm=>by cases hm⟩
   rw[e1] at hv;refine ai.Ok.ge (h'.fs.ge ?_) ?_
   ·rw[af.aP,af.aR,dz,hv]; simp only[intOf]; split<;>omega
   ·rw[af.aP,af.aR,dz,hv]; simp only[intOf]; split<;>omega
  ·exact aL.none
 |KP k y =>
  show aL C.T ρ S.nx _ (Vr tm k y)
  simp only[jr];split
  ·rename_i j l hy
   exact xD h fun ρ' h'=>by show vM k (aD tm y)=_; rw[bS h' hy]; rfl
  ·exact aL.none
 |Yq y =>
  show aL C.T ρ S.nx _ (Vq tm y)
  simp only[jr];split
  ·rename_i s hy
   exact aL.dW h fun ρ' h'=>by show Gt (aD tm y)=_; rw[bS h' hy]; rfl
  ·exact aL.none
 |ud y=>exact KU h
end
end Go.Ab
theorem EJ:type_of% @List.nodup_append:=@List.nodup_append
namespace Go.Ab
noncomputable section
open Go.Ev
open Classical
variable {ρ ρ' ca : cz} {T : TT} {F : ai} {σ : Sub} {own : Nat → Prop} {S : Sy} {tm : Tr AV} {st ae : St} {x : Option AV} {nx : Nat} {hp dZ : List uq} {ar x8 : List yg} {live hY : List Nat}
theorem aJ (st:St) (e:dR) (k:Nat):(st.new e).heap.get k=if k=st.next then some e else st.heap.get k:=Tr.cb _ _ _ _
theorem aK (st:St) (j:Nat) (e:dR) (k:Nat):(st.put j e).heap.get k=if k=j then some e else st.heap.get k:=Tr.cb _ _ _ _
theorem mem_keys {k:Nat}:k∈bj ρ hp ar↔(∃ p∈hp,aT ρ p.1=k)\/∃ p∈ar,aT ρ p.1=k:=by
 unfold bj;rw[ku,fD,fD]
theorem bA.lt (h:bA ρ own hp ar live st) {k:Nat} (hk:k∈bj ρ hp ar):k<st.next:=by
 rcases mem_keys.1 hk with⟨p,hp,rfl⟩ |⟨p,hp,rfl⟩
 ·exact(h.qM p hp).lt
 ·exact(h.uU p hp).lt
theorem bA.JK (h:bA ρ own hp ar live st) {k:Nat} (hk:k∈bj ρ hp ar):own k:=by
 rcases mem_keys.1 hk with⟨p,hp,rfl⟩ |⟨p,hp,rfl⟩
 ·exact(h.qM p hp).own
 ·exact(h.uU p hp).own
theorem bA.CR (h:bA ρ own hp ar live st) {k:Nat} (hk:k∈bj ρ hp ar):∃ v cs,st.heap.get k=some (.box v cs):=by
 rcases mem_keys.1 hk with⟨p,hp,rfl⟩ |⟨p,hp,rfl⟩
 ·exact⟨_,_,(h.qM p hp).box⟩
 ·obtain⟨es,aN,_,_,h⟩:=(h.uU p hp).box; exact⟨_,_,h⟩
theorem o8.aN {v:AV} {id:Nat} (h:o8 own st (bN v)) (ht:cG v=some id):own id/\id<st.next/\st.heap.get id=some .aN:=by
 rw[<-dG] at ht;rcases h with h |⟨s,es,h |⟨N8,h,h1,h2,h3⟩⟩
 ·rw[h] at ht; cases ht
 ·rw[h] at ht; cases ht
 ·rw[h] at ht; cases ht; exact⟨h1,h2,h3⟩
theorem bA.aN (h:bA ρ own hp ar live st) {n id:Nat} (hn:n∈live) (ht:cG (ρ n)=some id):own id/\id<st.next/\st.heap.get id=some .aN:=(h.nz n hn).aN ht
theorem o8.cI {v:AV} (h:o8 own st (bN v)) (hn:st.next<=ae.next) (hs:∀ id,cG v=some id->ae.heap.get id=st.heap.get id):o8 own ae (bN v):=by
 rcases h with h |⟨s,es,h |⟨N8,h,h1,h2,h3⟩⟩
 ·exact .inl h
 ·exact .inr ⟨s,es,.inl h⟩
 ·exact .inr ⟨s,es,.inr ⟨N8,h,h1,by omega,by rw[hs N8 (by rw[<-dG,h]; rfl)]; exact h3⟩⟩
theorem bA.cI (h:bA ρ own hp ar live st) (hn:st.next<=ae.next) (hs:∀ k∈bj ρ hp ar,ae.heap.get k=st.heap.get k) (hl:∀ n∈live,∀ id,cG (ρ n)=some id->ae.heap.get id=st.heap.get id):bA ρ own hp ar live ae:=by
 refine⟨fun p dZ=>?_,fun p dZ=>?_,fun n yk=>(h.nz n yk).cI hn (hl n yk),h.keys,h.rq⟩
 ·obtain⟨a,b,c⟩:=h.qM p dZ
  exact⟨a,by omega,by rw[hs _ (mem_keys.2 (.inl ⟨p,dZ,rfl⟩))]; exact c⟩
 ·obtain⟨a,b,es,aN,c,d,e⟩:=h.uU p dZ
  exact⟨a,by omega,es,aN,c,d,by rw[hs _ (mem_keys.2 (.inr ⟨p,dZ,rfl⟩))]; exact e⟩
theorem bA.new (h:bA ρ own hp ar live st) (e:dR):bA ρ own hp ar live (st.new e):=by
 refine h.cI (ma _) (fun k hk=>?_) (fun n hn id hid=>?_)
 ·rw[aJ,ba (by have:=h.lt hk; omega)]
 ·rw[aJ,ba (by have:=(h.aN hn hid).2.1; omega)]
theorem Fc (hp dZ:List uq) (ar x8:List yg):List.Perm (bj ρ (hp++dZ) (ar++x8)) (bj ρ hp ar++bj ρ dZ x8):=by
 unfold bj;simp only[List.map_append,Cn];exact List.Perm.append_left _ (List.perm_append_comm_assoc _ _ _)
theorem bA.app (h:bA ρ own hp ar live st) (h':bA ρ own dZ x8 hY st) (hk:∀ k∈bj ρ hp ar,k∉bj ρ dZ x8) (ht:∀ n∈live,∀ m∈hY,∀ id,cG (ρ n)=some id->cG (ρ m)≠some id):bA ρ own (hp++dZ) (ar++x8) (live++hY) st:=by
 refine⟨fun p dZ=>?_,fun p dZ=>?_,fun n hn=>?_,?_,?_⟩
 ·rcases ku.1 dZ with q |q
  ·exact h.qM p q
  ·exact h'.qM p q
 ·rcases ku.1 dZ with q |q
  ·exact h.uU p q
  ·exact h'.uU p q
 ·rcases ku.1 hn with q |q
  ·exact h.nz n q
  ·exact h'.nz n q
 ·rw[(Fc hp dZ ar x8).nodup_iff,EJ]
  refine⟨h.keys,h'.keys,fun a ha b hb e=>?_⟩
  rw[e] at ha; exact hk b ha hb
 ·unfold kp
  rw[List.pairwise_append];exact⟨h.rq,h'.rq,fun n hn m hm=>ht n hn m hm⟩
theorem pA (hh:List.Sublist dZ hp) (ha:List.Sublist x8 ar):List.Sublist (bj ρ dZ x8) (bj ρ hp ar):=(hh.map _).append (ha.map _)
theorem bA.sub (h:bA ρ own hp ar live st) (hh:List.Sublist dZ hp) (ha:List.Sublist x8 ar) (hl:List.Sublist hY live):bA ρ own dZ x8 hY st :=
 ⟨fun p q=>h.qM p (hh.subset q),fun p q=>h.uU p (ha.subset q),fun n q=>h.nz n (hl.subset q),h.keys.sublist (pA hh ha),List.Pairwise.sublist hl h.rq⟩
theorem iR {α:Type} {l:List (Nat × α)} {n:Nat}:List.Sublist (fZ l n) l:=by
 induction l with
 |nil=>exact .slnil
 |cons p t ih =>
  show List.Sublist (Bool.rec (p::fZ t n) (fZ t n) (Nat.beq p.1 n)) _
  cases Nat.beq p.1 n with
  |true=>exact ih.cons _
  |false=>exact ih.cons_cons _
theorem xP {α:Type} {l:List (Nat × α)} {n:Nat} {p:Nat × α} (h:p∈fZ l n):p.1≠n:=by
 induction l with
 |nil=>cases h
 |cons q t ih =>
  have h:p∈(Bool.rec (q::fZ t n) (fZ t n) (Nat.beq q.1 n):List (Nat × α)):=h;cases hq:Nat.beq q.1 n with
  |true=>rw[hq] at h; exact ih h
  |false =>
   rw[hq] at h;cases h with
   |head=>exact M3 hq
   |tail _ h=>exact ih h
theorem xO {l:List Nat} {n:Nat}:List.Sublist (lM n l) l:=by
 induction l with
 |nil=>exact .slnil
 |cons p t ih =>
  show List.Sublist (Bool.rec (p::lM n t) (lM n t) (Nat.beq p n)) _
  cases Nat.beq p n with
  |true=>exact ih.cons _
  |false=>exact ih.cons_cons _
theorem H8 {l:List Nat} {n p:Nat} (h:p∈lM n l):p≠n:=by
 induction l with
 |nil=>cases h
 |cons q t ih =>
  have h:p∈(Bool.rec (q::lM n t) (lM n t) (Nat.beq q n):List Nat):=h;cases hq:Nat.beq q n with
  |true=>rw[hq] at h; exact ih h
  |false =>
   rw[hq] at h;cases h with
   |head=>exact M3 hq
   |tail _ h=>exact ih h
theorem py {n:Nat} {l:List Nat} (h:qD n l=true):n∈l:=by
 obtain⟨m,hm,he⟩:=bL h;rw[bt he]; exact hm
theorem get_mem {α:Type} {l:List (Nat × α)} {n:Nat} {p:α} (h:cX (fun p=>(Bool.rec none (some p.2) (Nat.beq p.1 n):Option α)) l=some p):(n,p)∈l:=by
 obtain⟨q,hq,h1⟩:=jo h;cases hb:Nat.beq q.1 n with
 |false=>rw[hb] at h1; cases h1
 |true =>
  rw[hb] at h1;have h1:some q.2=some p:=h1;cases h1;have:=bt hb;rw[<-this]; exact hq
theorem mm {n:Nat} {p:Nat × List SA} (h:qj hp n=some p):(n,p)∈hp:=get_mem h
theorem j6 {n:Nat} {p:Nat × Nat × Nat} (h:qk ar n=some p):(n,p)∈ar:=get_mem h
theorem iZ {α:Type} {f:α->Nat}:∀ {l:List α},(l.map f).Nodup->∀ a∈l,∀ b∈l,f a=f b->a=b:=by
 intro l
 induction l with
 |nil=>intro _ a ha; cases ha
 |cons c t ih =>
  intro h a ha b hb e;rw[ot,Cm] at h;cases ha with
  |head =>
   cases hb with
   |head=>rfl
   |tail _ hb=>exact absurd (fD.2 ⟨b,hb,e.symm⟩) h.1
  |tail _ ha =>
   cases hb with
   |head=>exact absurd (fD.2 ⟨a,ha,e⟩) h.1
   |tail _ hb=>exact ih h.2 a ha b hb e
theorem bA.fZ (h:bA ρ own hp ar live st) {n:Nat} {p:Nat × List SA} (hn:(n,p)∈hp):aT ρ n∉bj ρ (Ab.fZ hp n) ar:=by
 intro hk;have hd:=h.keys;unfold bj at hd;rw[EJ] at hd;rcases mem_keys.1 hk with⟨q,hq,e⟩ |⟨q,hq,e⟩
 ·have:=iZ hd.1 q (iR.subset hq) (n,p) hn e
  exact xP hq (by rw[this])
 ·exact hd.2.2 _ (fD.2 ⟨(n,p),hn,rfl⟩) _ (fD.2 ⟨q,hq,rfl⟩) e.symm
theorem bA.PM (h:bA ρ own hp ar live st) {n:Nat} {p:Nat × Nat × Nat} (hn:(n,p)∈ar):aT ρ n∉bj ρ hp (Ab.fZ ar n):=by
 intro hk;have hd:=h.keys;unfold bj at hd;rw[EJ] at hd;rcases mem_keys.1 hk with⟨q,hq,e⟩ |⟨q,hq,e⟩
 ·exact hd.2.2 _ (fD.2 ⟨q,hq,rfl⟩) _ (fD.2 ⟨(n,p),hn,rfl⟩) e
 ·have:=iZ hd.2.1 q (iR.subset hq) (n,p) hn e
  exact xP hq (by rw[this])
theorem bA.put (h:bA ρ own hp ar live st) {k v:Nat} {cs:List AV} {e:dR} (hb:st.heap.get k=some (.box v cs)) (hk:k∉bj ρ hp ar):bA ρ own hp ar live (st.put k e):=by
 refine h.cI (dN _) (fun j hj=>?_) (fun n hn id hid=>?_)
 ·rw[aK,ba (fun q:j=k=>hk (q▸hj))]
 ·rw[aK,ba]
  intro q;have:=(h.aN hn hid).2.2;rw[q,hb] at this; cases this
def Uq (T:TT) (own:Nat->Prop) (ρ:cz) (S:Sy) (tm:Tr AV) (st:St) (l:List (SV × Sy)) (w:AV) (ae:St):Prop :=
 Fr own st ae/\∃ p∈l,∃ ρ',aj ρ ρ' S.nx/\S.nx<=p.2.nx/\Sat T own ρ' p.2 tm ae/\∀ ca,aj ρ' ca p.2.nx->w=p.1.ev ca
def cA (T:TT) (own:Nat->Prop) (ρ:cz) (S:Sy) (tm:Tr AV) (st:St) (r:ER) (x:Option (AV × St)):Prop :=
 ∀ l,r=some l->∃ w ae,x=some (w,ae)/\Uq T own ρ S tm st l w ae
theorem cA.none {x:Option (AV × St)}:cA T own ρ S tm st none x:=fun l h=>by cases h
theorem cA.guard {b:Bool} {r:ER} {x:Option (AV × St)} (h:b=true->cA T own ρ S tm st r x):cA T own ρ S tm st (br b r) x:=by
 cases b with
 |false=>exact cA.none
 |true=>exact h rfl
def yl (ρ:cz) (n:Nat) (us:List AV):cz:=fun j=>if j<n then ρ j else (us[j-n]?).getD gg
theorem kj (ρ:cz) (n:Nat) (us:List AV):aj ρ (yl ρ n us) n:=fun j hj=>by unfold yl; rw[bJ hj]
theorem BP {us:List AV} {j:Nat} {u:AV} (ρ:cz) (n:Nat) (h:us[j]?=some u):yl ρ n us (n+j)=u:=by
 unfold yl; rw[ba (by omega),ES,h]; rfl
theorem cA.one (h:Sat T own ρ S tm st) {w:AV} {x:Option (AV × St)} (us:List AV) {v:SV} {S':Sy} (hx:x=some (w,ae)) (hS:S'.sl=S.sl) (vC:S'.nx=S.nx+us.length) (fr:Fr own st ae)
  (hn:∀ ρ',cp T own ρ' S tm st->(∀ (j:Nat) u,us[j]?=some u->ρ' (S.nx+j)=u)->bA ρ' own S'.hp S'.ar S'.live ae/\Good T ρ' S'.F/\w=v.ev ρ'):cA T own ρ S tm st (uY v S') x:=by
 intro l hl;have hl:some [(v,S')]=some l:=hl;cases hl;have key:∀ ca,aj (yl ρ S.nx us) ca S'.nx->bA ca own S'.hp S'.ar S'.live ae/\Good T ca S'.F/\w=v.ev ca/\cp T own ca S tm st:=by
  intro ca ha;have h0:=h.lQ ca ((kj ρ S.nx us).trans (ha.le (by omega)))
  obtain⟨a,b,c⟩:=hn ca h0 (fun j u hj=>by
   obtain⟨q,_⟩:=fU.1 hj
   rw[ha _ (by omega)]; exact BP ρ S.nx hj)
  exact⟨a,b,c,h0⟩
 refine⟨w,ae,hx,fr,_,.head _,yl ρ S.nx us,kj _ _ _,by rw[vC]; omega,⟨fun ca ha=>?_,fun k hk=>h.fresh k (lS fr.next hk)⟩,fun ca ha=>(key ca ha).2.2.1⟩
 obtain⟨a,b,c,d⟩:=key ca ha;exact⟨fun k u hu=>d.sl k u (by rw[<-hS]; exact hu),a,b⟩
theorem vG {sz:Nat}:∀ {es:List AV} {k:Nat} {e:AV},(∀ e∈es,e.cells.length=sz)->es[k]?=some e->((flat es).drop (k*sz)).take sz=e.cells:=by
 intro es
 induction es with
 |nil=>intro k e _ h; simp at h
 |cons a t ih =>
  intro k e hs h;have ha:=hs a (.head _);show(((a.cells++flat t)).drop (k*sz)).take sz=_
  cases k with
  |zero=>simp at h; subst h; rw[Nat.zero_mul,List.drop_zero,<-ha,List.take_left]
  |succ k =>
   simp at h;rw[uX,show k*sz+sz=a.cells.length+k*sz by omega,List.drop_append]
   simp only[M0 (lJ _ _),EV,ES];exact ih (fun e he=>hs e (.tail _ he)) h
theorem er {sz:Nat}:∀ {es:List AV},(∀ e∈es,e.cells.length=sz)->(flat es).length=es.length*sz:=by
 intro es
 induction es with
 |nil=>intro _; simp[flat]
 |cons a t ih =>
  intro hs;show(a.cells++flat t).length=_
  rw[mF,hs a (.head _),ih fun e he=>hs e (.tail _ he),mE,uX]; omega
theorem E1 {L c:List AV} {a sz size off:Nat} {agg:Bool} {v:AV} (hL:a<=L.length) (hc:(L.drop a).take sz=c) (h:partOf size agg c off=some v):partOf size agg L (a+off)=some v:=by
 unfold partOf at h ⊢;cases agg with
 |false =>
  have h:nth c off=some v:=h;show nth L (a+off)=some v
  rw[cS] at h ⊢;rw[<-hc,pS] at h
  split at h
  ·rw[rJ] at h; exact h
  ·cases h
 |true =>
  have h:(Bool.rec none (some (.agg ((c.drop off).take size))) (Nat.ble (off+size) c.length):Option AV)=some v:=h;show(Bool.rec none (some (.agg ((L.drop (a+off)).take size))) (Nat.ble (a+off+size) L.length):Option AV)=some v
  cases hb:Nat.ble (off+size) c.length with
  |false=>rw[hb] at h; cases h
  |true =>
   rw[hb] at h;have h:some (AV.agg ((c.drop off).take size))=some v:=h;have hle:=iU hb;have hl:c.length<=sz/\c.length<=L.length-a:=by rw[<-hc,mG,gL]; omega
   have U5:Nat.ble (a+off+size) L.length=true:=by rw[gJ]; omega
   rw[U5,<-h];show some (AV.agg _)=some (AV.agg _)
   rw[<-hc,List.drop_take,List.take_take,yp]
   congr 3
   omega
theorem vF {sz k:Nat} {es:List AV} (hs:∀ e∈es,e.cells.length=sz) (hk:k<es.length):k*sz+sz<=(flat es).length:=by
 rw[er hs];have:=rI sz (show k+1<=es.length by omega)
 rw[jS,Av] at this; exact this
theorem T0 {C:Cx} (h:Sat C.T own ρ S tm st) (o:XL):aL C.T ρ S.nx (Yo C S o) (KE st.heap tm o):=by
 cases o with
 |look k z ok m ix=>exact aL.none
 |load size agg a =>
  show aL C.T ρ S.nx _ (fH st.heap size agg (aD tm a))
  simp only[Yo];split
  ·rename_i n off ha
   cases hb:qj S.hp n with
   |none=>exact aL.none
   |some p =>
    show aL C.T ρ S.nx (Option.rec none (old S) (part size agg p.2 off)) _
    cases hv:part size agg p.2 off with
    |none=>exact aL.none
    |some v =>
     refine aL.old h fun ρ' h'=>?_
     have:=(h'.mem.qM _ (mm hb)).box;rw[cq h' ha];show(match cc st.heap (keyOf (ρ' n)) with |some cs=>partOf size agg cs off |none=>none)=_
     unfold cc;rw[show st.heap.get (keyOf (ρ' n))=_ from this]
     exact mJ hv
  ·rename_i cs off _ _ ha
   cases hv:part size agg cs off with
   |none=>exact aL.none
   |some v =>
    refine aL.old h fun ρ' h'=>?_
    rw[cq h' ha];exact mJ hv
  ·rename_i n i sz off ha
   split
   ·rename_i w m s hg
    refine aL.guard fun hs=>?_
    have hs:=bt hs;subst hs;cases hl:tt C S s m i with
    |none=>exact aL.none
    |some p =>
     obtain⟨cs,F,k⟩:=p;simp only;cases hv:part size agg cs off with
     |none=>exact aL.none
     |some v =>
      obtain⟨h1,h2⟩:=y6 h hl;have ptr:∀ ρ',cp C.T own ρ' S tm st->aD tm a = .ptr (keyOf (ρ' n)) ((i.ev ρ').toNat*s+off):=fun ρ' h'=>cq h' ha
      have arr:∀ ρ',cp C.T own ρ' S tm st->∃ es aN bX,bN (ρ' m) = .sl s es aN/\(∀ e∈es,e.cells.length=s)/\st.heap.get (keyOf (ρ' n))=some (.box bX (flat es)):=by
       intro ρ' h';obtain⟨es,aN,a1,a2,a3⟩:=(h'.mem.uU _ (j6 hg)).box;exact⟨es,aN,_,a1,a2,a3⟩
      obtain⟨h0,es0,tip0,e0,b1,b2,b3⟩:=h1 ρ h.here;obtain⟨es,aN,bX,c1,c2,c3⟩:=arr ρ h.here;rw[b1] at c1; cases c1;have aO:(i.ev ρ).toNat<es0.length:=by obtain⟨q,_⟩:=fU.1 b2; exact q
      have xn:=vG c2 b2;obtain⟨ρ',u4,hr⟩:=h2 e0.cells (by
       intro ρ' h' cr Ej e' d1 d2;obtain⟨X1,tip'',iJ,f1,f2,f3⟩:=arr ρ' h';rw[d1] at f1; cases f1;have p1:=(ptr ρ h.here).symm.trans (ptr ρ' h');injection p1 with p1 p2
       rw[<-p1,c3] at f3;injection f3 with f3; injection f3 with _ f3
       have:=vG f2 d2;rw[<-f3,show(i.ev ρ').toNat*s=(i.ev ρ).toNat*s by omega,xn] at this
       exact this.symm)
      intro v' F' n' lv' Fs;cases Fs;refine⟨v.ev ρ',ρ',?_,u4,fun ca ha''=>?_⟩
      ·rw[ptr ρ h.here]
       show(match cc st.heap (keyOf (ρ n)) with |some cs=>partOf size agg cs ((i.ev ρ).toNat*s+off) |none=>none)=_
       unfold cc;rw[c3];refine E1 (by have:=vF c2 aO; omega) xn ?_
       rw[<-(hr ρ' (aj.refl _ _)).1];exact mJ hv
      ·obtain⟨g1,g2⟩:=hr ca ha''
       refine⟨?_,g2,fun m hm=>by cases hm⟩
       have q1:=mJ (ρ:=ρ') hv;have q2:=mJ (ρ:=ca) hv;rw[(hr ρ' (aj.refl _ _)).1,<-g1,q2] at q1;exact(Option.some.inj q1).symm
   ·exact aL.none
  ·exact aL.none
end
end Go.Ab
namespace Go.Ab
noncomputable section
open Go.Ev
open Classical
variable {ρ ρ' ca : cz} {T : TT} {F : ai} {σ : Sub} {own : Nat → Prop} {S : Sy} {tm : Tr AV} {st ae : St} {x : Option AV} {nx : Nat} {hp dZ : List uq} {ar x8 : List yg} {live hY : List Nat}
theorem bA.J7 {p:uq} (h:vd ρ own st p):bA ρ own [p] [] [] st :=
 ⟨fun q hq=>(by cases hq with |head=>exact h |tail _ hq=>cases hq),fun q hq=>(by cases hq),fun q hq=>(by cases hq),by simp[bj],.nil⟩
theorem bA.ar1 {p:yg} (h:vg ρ own st p):bA ρ own [] [p] [] st :=
 ⟨fun q hq=>(by cases hq),fun q hq=>(by cases hq with |head=>exact h |tail _ hq=>cases hq),fun q hq=>(by cases hq),by simp[bj],.nil⟩
theorem bA.live1 {n:Nat} (h:o8 own st (bN (ρ n))):bA ρ own [] [] [n] st :=
 ⟨fun q hq=>(by cases hq),fun q hq=>(by cases hq),fun q hq=>(by cases hq with |head=>exact h |tail _ hq=>cases hq),by simp[bj],List.pairwise_singleton _ _⟩
theorem bA.PW (h:bA ρ own hp ar live st) {p:uq} (dZ:vd ρ own st p) (hk:aT ρ p.1∉bj ρ hp ar):bA ρ own (p::hp) ar live st :=
 (bA.J7 dZ).app h (fun k bQ=>by simp[bj] at bQ; rw[bQ]; exact hk) (fun n hn=>by cases hn)
theorem bA.FZ (h:bA ρ own hp ar live st) {p:yg} (dZ:vg ρ own st p) (hk:aT ρ p.1∉bj ρ hp ar):bA ρ own hp (p::ar) live st :=
 (bA.ar1 dZ).app h (fun k bQ=>by simp[bj] at bQ; rw[bQ]; exact hk) (fun n hn=>by cases hn)
theorem bA.PV (h:bA ρ own hp ar live st) {n:Nat} (hn:o8 own st (bN (ρ n))) (ht:∀ m∈live,∀ id,cG (ρ n)=some id->cG (ρ m)≠some id):bA ρ own hp ar (n::live) st :=
 (bA.live1 hn).app h (fun k bQ=>by simp[bj] at bQ) (fun m hm=>(by cases hm with |head=>exact ht |tail _ hm=>cases hm))
theorem FP (h:∀ k,st.next<=k->own k) (e:dR):Fr own st (st.new e) :=
 ⟨ma _,fun k hk=>by rw[aJ,ba (fun q:k=st.next=>hk (h k (by omega)))]⟩
theorem xy {k:Nat} (h:own k) (e:dR):Fr own st (st.put k e) :=
 ⟨dN _,fun j hj=>by rw[aK,ba (fun q:j=k=>hj (q▸h))]⟩
theorem vj {n m id:Nat} (h:kp ρ live) (hn:n∈live) (hm:m∈live) (hd:n≠m) (ht:cG (ρ n)=some id):cG (ρ m)≠some id:=by
 unfold kp at h
 induction live with
 |nil=>cases hn
 |cons a t ih =>
  rw[List.pairwise_cons] at h;cases hn with
  |head =>
   cases hm with
   |head=>exact absurd rfl hd
   |tail _ hm=>exact h.1 m hm id ht
  |tail _ hn =>
   cases hm with
   |head=>intro e; exact h.1 n hn id e ht
   |tail _ hm=>exact ih h.2 hn hm
theorem s9 (h:Sat T own ρ S tm st) {cs:List SA} {vs:List AV} {x:Option (AV × St)} (hx:x=some (.ptr st.next 0,st.new (.box 0 vs))) (hv:∀ ρ',cp T own ρ' S tm st->vs=cs.map (SA.ev ρ')):cA T own ρ S tm st (EE S cs) x:=by
 refine cA.one h [.ptr st.next 0,.int .i64 0] hx rfl rfl (FP h.fresh _) fun ρ' h' hu=>?_
 have e0:ρ' S.nx = .ptr st.next 0:=hu 0 _ rfl;have e1:ρ' (S.nx+1) = .int .i64 0:=hu 1 _ rfl;have ek:aT ρ' S.nx=st.next:=by unfold aT; rw[e0]; rfl
 have ev:dD ρ' (S.nx+1)=0:=by unfold dD; rw[e1]; rfl
 refine⟨(h'.mem.new _).PW ⟨?_,?_,?_⟩ ?_,h'.fs,?_⟩
 ·show own (aT ρ' S.nx); rw[ek]; exact h.fresh _ (dN _)
 ·show aT ρ' S.nx<_; rw[ek]; exact qA _
 ·show(st.new _).heap.get (aT ρ' S.nx)=some (.box (dD ρ' (S.nx+1)) _)
  rw[ek,ev,aJ,bJ rfl,hv ρ' h']
 ·show aT ρ' S.nx∉_; rw[ek]; intro q; have:=h'.mem.lt q; omega
 ·show AV.ptr st.next 0 = .ptr (keyOf (ρ' S.nx)) 0; rw[e0]; rfl
theorem Er (h:Sat T own ρ S tm st) {size n off w:Nat} {a y:XO} {e:SE} {vs cs:List SA} (he:FV S y=some e) (hc:e.cells=some vs) (hl:vs.length=size) (ha:rf S a=some (.e (.a (.ptr n off)))) (hg:qj S.hp n=some (w,cs)) (hle:off+size<=cs.length) :
  cA T own ρ S tm st (uY BR {S with hp:=(n,S.nx,gS cs off vs)::fZ S.hp n,nx:=S.nx+1 }) (o6 st tm size a y):=by
 have hm:=mm hg;have jx:=(h.here.mem.qM _ hm).box;have jx:st.heap.get (aT ρ n)=some (.box (dD ρ w) (cs.map (SA.ev ρ))):=jx;have key:∀ ρ',cp T own ρ' S tm st->aT ρ' n=aT ρ n:=by
  intro ρ' h';have:=(cq h.here ha).symm.trans (cq h' ha);simp only[SV.ev,SE.ev,SA.ev] at this;injection this with this; exact this.symm
 have hx:o6 st tm size a y=some (gg,st.put (aT ρ n) (.box (Nat.succ (dD ρ w)) (aZ (cs.map (SA.ev ρ)) off (vs.map (SA.ev ρ))))):=by
  show cZ st size (aD tm a) (aD tm y)=_
  rw[cq h.here ha,iu h.here he];simp only[SV.ev,SE.ev,SA.ev];show(match st.heap.get (aT ρ n) with |some (.box bX cs)=>(match Nat.beq (e.ev ρ).cells.length size&&Nat.ble (off+size) cs.length with |true=>some (gg,st.put (aT ρ n) (.box (Nat.succ bX) (aZ cs off (e.ev ρ).cells))) |false=>none) |_=>none)=_
  rw[jx];simp only;rw[SE.cY hc,gK,gK,hl,fV,show Nat.ble (off+size) cs.length=true by rw[gJ]; exact hle]
  rfl
 refine cA.one h [.int .i64 (.ofNat (Nat.succ (dD ρ w)))] hx rfl rfl (xy (h.here.mem.qM _ hm).own _) fun ρ' h' hu=>?_
 have e0:ρ' S.nx = .int .i64 (.ofNat (Nat.succ (dD ρ w))):=hu 0 _ rfl;have ek:=key ρ' h';have uJ:st.heap.get (aT ρ' n)=some (.box (dD ρ' w) (cs.map (SA.ev ρ'))):=(h'.mem.qM _ hm).box;have rX:=h'.mem.fZ hm;rw[ek] at uJ rX;refine⟨bA.PW ((h'.mem.sub iR (List.Sublist.refl _) (List.Sublist.refl _)).put jx rX) ⟨?_,?_,?_⟩ ?_,h'.fs,rfl⟩
 ·show own (aT ρ' n); rw[ek]; exact(h.here.mem.qM _ hm).own
 ·show aT ρ' n<st.next; rw[ek]; exact(h.here.mem.qM _ hm).lt
 ·show(st.put _ _).heap.get (aT ρ' n)=some (.box (dD ρ' S.nx) ((gS cs off vs).map (SA.ev ρ')))
  rw[ek,aK,bJ rfl,oa];have e1:cs.map (SA.ev ρ)=cs.map (SA.ev ρ'):=by
   have:=jx.symm.trans uJ;injection this with this; injection this
  have e2:vs.map (SA.ev ρ)=vs.map (SA.ev ρ'):=by
   rw[<-SE.cY hc,<-SE.cY hc,<-iu h.here he,iu h' he]
  rw[e1,e2];unfold dD;rw[e0]; rfl
 ·show aT ρ' n∉_; rw[ek]; exact rX
structure SrcOk (T:TT) (own:Nat->Prop) (S:Sy) (tm:Tr AV) (st:St) (xs:List AV) (lx wx:af) (tx:Nat->Bool):Prop where
 len:∀ ρ,cp T own ρ S tm st->lx.ev ρ=xs.length
 wt:∀ ρ,cp T own ρ S tm st->wx.ev ρ=eB xs+xs.length
 ty:∀ ρ,cp T own ρ S tm st->∀ t,tx t=true->∀ e∈xs,HT T t e
theorem Rl (a b:List AV):eB (a++b)=eB a+eB b:=by
 induction a with
 |nil=>simp[eB]
 |cons x t ih=>simp only[List.cons_append,eB,ih]; omega
structure QJ (own:Nat->Prop) (size:Nat) (st:St) (xs:List AV) (s v:AV) (ae:St):Prop where
 fr:Fr own st ae
 box:∀ k,k<st.next->∀ v cs,st.heap.get k=some (.box v cs)->ae.heap.get k=some (.box v cs)
 aN:∀ k,k<st.next->st.heap.get k=some .aN->cG s≠some k->ae.heap.get k=some .aN
 bN:bN v=v
 els:elems v=elems s++xs
 sz:zQ size v
 live:o8 own ae v
 rq:∀ id,cG v=some id->cG s=some id\/id=st.next
 tp:yc s\/xs≠[]->yc v
theorem Qu (hf:∀ k,st.next<=k->own k) {size bytes:Nat} {s:AV} {xs:List AV} (hs:zQ size s) (hv:o8 own st s) (hb:bytes<=4096) (hl:(elems s).length+xs.length<=1073741824) :
  ∃ v ae,fy size bytes st s xs=some (v,ae)/\QJ own size st xs s v ae:=by
 have iN:∀ n,n<=1073741824->zt n bytes=true:=by
  intro n hn;unfold zt;rw[show Nat.ble n 1073741824=true by rw[gJ]; exact hn,show Nat.ble bytes 4096=true by rw[gJ]; exact hb]; rfl
 have mk:∀ (es:List AV) (bY:St),bY.next=st.next->Fr own st bY->(∀ k,k<st.next->∀ v cs,st.heap.get k=some (.box v cs)->bY.heap.get k=some (.box v cs))->(∀ k,k<st.next->st.heap.get k=some .aN->cG s≠some k->bY.heap.get k=some .aN) ->
   es=elems s++xs->QJ own size st xs s (.sl size es (.at bY.next)) (bY.new .aN):=by
  intro es bY h1 h2 h3 h4 h5;refine⟨h2.trans (FP (by rw[h1]; exact hf) _),fun k hk v cs q=>?_,fun k hk q r=>?_,rfl,h5,.inr ⟨_,_,rfl⟩,.inr ⟨size,es,.inr ⟨bY.next,rfl,by rw[h1]; exact hf _ (dN _),qA _,by rw[aJ,bJ rfl]⟩⟩,fun id hid=>?_,fun _=>.inr ⟨_,_,_,rfl⟩⟩
  ·rw[aJ,ba (by omega)]; exact h3 k hk v cs q
  ·rw[aJ,ba (by omega)]; exact h4 k hk q r
  ·right; rw[<-h1]; exact(Option.some.inj hid).symm
 cases xs with
 |nil =>
  rcases hs with hs |⟨es,aN,hs⟩
  ·rw[hs] at hv ⊢
   exact⟨.az,st,rfl,Fr.refl _ _,fun _ _ _ _ q=>q,fun _ _ q _=>q,rfl,rfl,.inl rfl,hv,fun id hid=>.inl hid,fun q=>q.resolve_right fun q=>q rfl⟩
  ·rw[hs] at hv ⊢
   exact⟨_,st,rfl,Fr.refl _ _,fun _ _ _ _ q=>q,fun _ _ q _=>q,rfl,by simp[elems],.inr ⟨_,_,rfl⟩,hv,fun id hid=>.inl hid,fun q=>q.resolve_right fun q=>q rfl⟩
 |cons a xs =>
  rcases hs with hs |⟨es,aN,hs⟩
  ·subst hs
   refine⟨_,_,?_,mk (a::xs) st rfl (Fr.refl _ _) (fun _ _ _ _ q=>q) (fun _ _ q _=>q) rfl⟩
   simp only[fy];rw[iN _ (by simpa[elems] using hl)]
  ·subst hs
   have hfw:=iN (es.length+(a::xs).length) hl;rcases hv with hv |⟨s',cr,hv |⟨id,hv,h1,h2,h3⟩⟩
   ·cases hv
   ·cases hv
    refine⟨_,_,?_,mk (es++a::xs) st rfl (Fr.refl _ _) (fun _ _ _ _ q=>q) (fun _ _ q _=>q) rfl⟩
    simp only[fy,fV,hfw,EL]
   ·cases hv
    refine⟨_,_,?_,mk (es++a::xs) (st.put id .gone) rfl (xy h1 _) (fun k hk v cs q=>?_) (fun k hk q r=>?_) rfl⟩
    ·simp only[fy,fV,hfw,EL,h3]; rfl
    ·rw[aK,ba (fun e:k=id=>by rw[e,h3] at q; cases q)]; exact q
    ·rw[aK,ba (fun e:k=id=>r (by rw[e]; rfl))]; exact q
theorem bA.added (h:bA ρ own hp ar live st) {size:Nat} {xs:List AV} {s v:AV} {n m:Nat} (ha:QJ own size st xs s v ae) (hm:ρ m=v) (hs:(s = .az/\n=0)\/(n∈live/\bN (ρ n)=s)) (hY:List Nat) (hl:(s = .az/\hY=live)\/(hY=lM n live)) :
  bA ρ own hp ar (m::hY) ae:=by
 have bH:List.Sublist hY live:=by rcases hl with⟨_,hl⟩ |hl<;>rw[hl]; exact List.Sublist.refl _; exact xO
 have jO:∀ j∈hY,∀ id,cG (ρ j)=some id->cG s≠some id:=by
  intro j hj id hid he;rcases hs with⟨hs,_⟩ |⟨hn,hs⟩
  ·rw[hs] at he; cases he
  ·rcases hl with⟨hl,_⟩ |hl
   ·rw[hl] at he; cases he
   ·rw[hl] at hj
    rw[<-hs,dG] at he;exact vj h.rq hn (xO.subset hj) (fun e=>H8 hj e.symm) he hid
 have h1:bA ρ own hp ar hY st:=h.sub (List.Sublist.refl _) (List.Sublist.refl _) bH;have h2:bA ρ own hp ar hY ae:=by
  refine h1.cI ha.fr.next (fun k hk=>?_) (fun j hj id hid=>?_)
  ·obtain⟨v,cs,hb⟩:=h1.CR hk
   rw[hb]; exact ha.box k (h1.lt hk) v cs hb
  ·obtain⟨_,b,c⟩:=h1.aN hj hid
   rw[c]; exact ha.aN id b c (jO j hj id hid)
 refine h2.PV (by rw[hm,ha.bN]; exact ha.live) fun j hj id hid he=>?_
 rw[hm] at hid;rcases ha.rq id hid with q |q
 ·exact jO j hj id he q
 ·have:=(h1.aN hj he).2.1; omega
theorem VU {F:ai} {b c:Bool} {v:Nat} (hc:c=true->yc (bN (ρ v))) (h:Good T ρ F):Good T ρ (tpF b c v F):=by
 cases b with
 |false=>exact h
 |true =>
  cases c with
  |false=>exact h
  |true=>exact h.fact (hc rfl)
theorem Am {C:Cx} (h:Sat C.T own ρ S tm st) {cV:List Nat} {size bytes:Nat} {y:XO} {s:SA} {lx wx:af} {tx:Nat->Bool} {xs:List AV} {x:Option (AV × St)} (hs:mo S y=some s) (hx:x=fy size bytes st (aD tm y) xs) (ep:SrcOk C.T own S tm st xs lx wx tx) :
  cA C.T own ρ S tm st (Cc C S cV size bytes s lx wx tx) x:=by
 unfold Cc;split
 ·rename_i n ls ws hb
  refine cA.guard fun hg=>?_
  obtain⟨h1,h2⟩:=ad hg;have h1:=iU h1;have base:∀ ρ',cp C.T own ρ' S tm st->zQ size (s.ev ρ')/\o8 own st (s.ev ρ')/\bN (s.ev ρ')=s.ev ρ'/\ls.ev ρ'=(elems (s.ev ρ')).length/\ws.ev ρ'=eB (elems (s.ev ρ'))+(elems (s.ev ρ')).length+1:=by
   intro ρ' h';unfold ni at hb;split at hb
   ·cases hb
    exact⟨.inl rfl,.inl rfl,rfl,by rw[af.oO]; rfl,by rw[af.oO]; rfl⟩
   ·rename_i m
    cases hq:aq (qD m S.live) (gF C.T S.F m size) with
    |false=>rw[hq] at hb; cases hb
    |true =>
     rw[hq] at hb;have hb:some (some m,af.at (8*m+2),af.at (8*m+3))=some (n,ls,ws):=hb;cases hb;obtain⟨q1,q2⟩:=ad hq;have q3:=ij h'.fs q2;refine⟨q3,h'.mem.nz m (py q1),jR _,?_,?_⟩
     ·rw[af.aR,cU]
      show((bB (ρ' m):Nat):Int)=((elems (bN (ρ' m))).length:Int)
      rw[<-cj];rcases q3 with q3 |⟨es,aN,q3⟩<;>rw[q3]<;>rfl
     ·rw[af.aR,ju]
      show((wt (bN (ρ' m)):Nat):Int)=((eB (elems (bN (ρ' m))):Nat):Int)+((elems (bN (ρ' m))).length:Int)+1
      rcases q3 with q3 |⟨es,aN,q3⟩<;>rw[q3]<;>simp[wt,elems,eB]
   ·cases hb
  obtain⟨b1,b2,b3,b4,b5⟩:=base ρ h.here;have hlen:(elems (s.ev ρ)).length+xs.length<=1073741824:=by
   have:=aW h.here.fs h2;rw[af.da,af.aP,b4,ep.len ρ h.here] at this;omega
  obtain⟨v,ae,e1,e2⟩:=Qu (xs:=xs) h.fresh b1 b2 h1 hlen;rw[bS h.here hs,e1] at hx;refine cA.one h [v] hx rfl rfl e2.fr fun ρ' h' hu=>?_
  have e0:ρ' S.nx=v:=hu 0 _ rfl;have es:s.ev ρ=s.ev ρ':=by rw[<-bS h.here hs,<-bS h' hs]
  obtain⟨c1,c2,c3,c4,c5⟩:=base ρ' h';rw[es] at e2;have CU:bB v=(elems v).length:=by
   rcases e2.sz with q |⟨es,aN,q⟩<;>rw[q]<;>rfl
  refine⟨?_,VU ?_ (qu h'.fs (by rw[e0,e2.bN]; exact e2.sz) ?_ ?_ ?_),?_⟩
  ·cases n with
   |none =>
    refine h'.mem.added e2 e0 (n:=0) (.inl ⟨?_,rfl⟩) S.live (.inl ⟨?_,rfl⟩)
    all_goals
     unfold ni at hb;split at hb
     ·rfl
     ·rename_i m
      cases hq:aq (qD m S.live) (gF C.T S.F m size) with
      |false=>rw[hq] at hb; cases hb
      |true=>rw[hq] at hb; cases hb
     ·cases hb
   |some m =>
    refine h'.mem.added e2 e0 (n:=m) (.inr ?_) _ (.inr rfl)
    unfold ni at hb;split at hb
    ·cases hb
    ·rename_i m'
     cases hq:aq (qD m' S.live) (gF C.T S.F m' size) with
     |false=>rw[hq] at hb; cases hb
     |true =>
      rw[hq] at hb;have hb:some (some m',af.at (8*m'+2),af.at (8*m'+3))=some (some m,ls,ws):=hb;cases hb;exact⟨py (ad hq).1,rfl⟩
    ·cases hb
  ·intro hq
   rw[e0,e2.bN];refine e2.tp ?_
   rcases bw hq with hq |hq
   ·left
    unfold ni at hb;split at hb
    ·exact .inl rfl
    ·rename_i m'
     cases hq':aq (qD m' S.live) (gF C.T S.F m' size) with
     |false=>rw[hq'] at hb; cases hb
     |true =>
      rw[hq'] at hb;have hb:some (some m',af.at (8*m'+2),af.at (8*m'+3))=some (n,ls,ws):=hb;cases hb;exact xq h'.fs hq
    ·cases hb
   ·right
    have:=aW h'.fs hq;rw[af.bf,ep.len ρ' h'] at this;intro hx;rw[hx] at this;simp at this
  ·rw[af.aP,c4,ep.len ρ' h',e0,CU,e2.els,mF]; omega
  ·intro l hl
   cases hl
   rw[af.aP,c5,ep.wt ρ' h',e0];have:nX v=eB (elems v)+(elems v).length+1:=by
    unfold nX;rw[e2.bN];rcases e2.sz with q |⟨es,aN,q⟩<;>rw[q]<;>simp[wt,elems,eB]
   rw[this,e2.els,Rl,mF]; omega
  ·intro t ht
   obtain⟨_,ht⟩:=nZ t ht;obtain⟨t1,ht⟩:=ad ht;obtain⟨t2,t3⟩:=ad ht;rw[e0,e2.bN];obtain⟨d,hd,cJ⟩:=L3 t1;refine zQ.ty hd (by rw[cJ]; exact e2.sz) fun e he=>?_
   rw[e2.els] at he;rcases ku.1 he with he |he
   ·have:j3 C.T t (s.ev ρ'):=by
     unfold ni at hb;split at hb
     ·exact .inl rfl
     ·rename_i m' _
      cases hq:aq (qD m' S.live) (gF C.T S.F m' size) with
      |false=>rw[hq] at hb; cases hb
      |true =>
       rw[hq] at hb;have hb:some (some m',af.at (8*m'+2),af.at (8*m'+3))=some (n,ls,ws):=hb;cases hb;exact LU h'.fs t2
     ·cases hb
    exact this.elem he
   ·exact ep.ty ρ' h' t t3 e he
  ·show v=bN (ρ' S.nx); rw[e0,e2.bN]
 ·exact cA.none
end
end Go.Ab
namespace Go.Ab
noncomputable section
open Go.Ev
open Classical
variable {ρ ρ' ca : cz} {T : TT} {F : ai} {σ : Sub} {own : Nat → Prop} {S : Sy} {tm : Tr AV} {st ae : St} {x : Option AV} {nx : Nat} {hp dZ : List uq} {ar x8 : List yg} {live hY : List Nat}
theorem YG {C:Cx} (h:Sat C.T own ρ S tm st) {cV:List Nat} {size bytes:Nat} {y z:XO} {s:SA} {m:Nat} (hs:mo S y=some s) (hz:mo S z=some (.sl m)) (cJ:gF C.T S.F m size=true) :
  cA C.T own ρ S tm st (Cc C S cV size bytes s (af.at (8*m+2)) ((af.at (8*m+3)).plus (-1)) (fun t=>tyA C.T S.F m t)) (K9 st tm size bytes y z):=by
 have src:∀ ρ',cp C.T own ρ' S tm st->bN (ρ' m)=bN (ρ m):=fun ρ' h'=>((bS h' hz).symm.trans (bS h.here hz))
 have h0:=ij h.here.fs cJ;have hx:K9 st tm size bytes y z=fy size bytes st (aD tm y) (elems (bN (ρ m))):=by
  show sT size bytes st (aD tm y) (aD tm z)=_
  rw[bS h.here hz];show(match Mh st.heap size (bN (ρ m)) with |some xs=>fy size bytes st (aD tm y) xs |none=>none)=_
  rcases h0 with q |⟨es,aN,q⟩
  ·rw[q]; rfl
  ·rw[q]
   have:Mh st.heap size (.sl size es aN)=some es:=by
    show qa size (.sl size es aN)=_
    simp only[qa,fV]
   rw[this]; rfl
 refine Am h hs hx ⟨fun ρ' h'=>?_,fun ρ' h'=>?_,fun ρ' h' t ht e he=>?_⟩
 ·rw[af.aR,cU,<-src ρ' h',<-cj]
  rcases ij h'.fs cJ with q |⟨es,aN,q⟩<;>rw[q]<;>rfl
 ·rw[af.bf,af.aR,ju,<-src ρ' h']
  unfold nX;rcases ij h'.fs cJ with q |⟨es,aN,q⟩
  ·rw[q]; rfl
  ·rw[q]; simp only[wt,elems]; omega
 ·rw[<-src ρ' h'] at he
  exact(LU h'.fs ht).elem he
theorem Ub {C:Cx} (h:Sat C.T own ρ S tm st) {cV:List Nat} {size bytes:Nat} {y z:XO} {s:SA} (hs:mo S y=some s) (hz:mo S z=some (.iD .az)) :
  cA C.T own ρ S tm st (Cc C S cV size bytes s (af.n 0) (af.n 0) (fun t=>true)) (K9 st tm size bytes y z):=by
 have hx:K9 st tm size bytes y z=fy size bytes st (aD tm y) []:=by
  show sT size bytes st (aD tm y) (aD tm z)=_
  rw[bS h.here hz]; rfl
 exact Am h hs hx ⟨fun ρ' h'=>by rw[af.oO]; rfl,fun ρ' h'=>by rw[af.oO]; rfl,fun ρ' h' t ht e he=>by cases he⟩
theorem Ud {C:Cx} (h:Sat C.T own ρ S tm st) {cV:List Nat} {size bytes:Nat} {y z q u:XO} {s:SA} {e:SE} {ql:af} {um:Nat} {vs:List SA} {n:Option Nat} {ls ws:af}
  (hs:mo S y=some s) (hz:FV S z=some e) (hq:tk S q=some ql) (hu:mo S u=some (.sl um)) (hc:e.cells=some vs) (hb:ni C.T S size s=some (n,ls,ws)) (hl:vs.length=size) (hql:yt S.F (af.add ql (-1) ls)=true) (husz:gF C.T S.F um size=true) (uH:yt S.F ((af.at (8*um+2)).plus (-1))=true) (hw:aU SA.IS vs=true) :
  cA C.T own ρ S tm st (Cc C S cV size bytes s (af.n 1) ((wS vs).plus 1) (fun t=>ly C.T S.F e t)) (sL st tm size bytes y z q u):=by
 have e0:∀ ρ',cp C.T own ρ' S tm st->aD tm z=e.ev ρ':=fun ρ' h'=>iu h' hz
 have hx:sL st tm size bytes y z q u=fy size bytes st (aD tm y) [aD tm z]:=by
  unfold sL;have c1:Nat.beq (aD tm z).cells.length size=true:=by rw[e0 ρ h.here,SE.cY hc,gK,hl,fV]
  have c2:Py (ch (aD tm q)) (SF (aD tm y))=true:=by
   have hql:=rK h.here.fs hql;rw[af.aP] at hql;unfold ni at hb;split at hb
   ·cases hb
    rw[af.oO] at hql;rw[gZ h.here hq (by omega),bS h.here hs,show ql.ev ρ=0 by omega]; rfl
   ·rename_i m
    cases hg:aq (qD m S.live) (gF C.T S.F m size) with
    |false=>rw[hg] at hb; cases hb
    |true =>
     rw[hg] at hb;have hb:some (some m,af.at (8*m+2),af.at (8*m+3))=some (n,ls,ws):=hb;cases hb;rw[af.aR,cU] at hql;rw[gZ h.here hq (by omega),bS h.here hs]
     show Py (some (ql.ev ρ).toNat) (SF (bN (ρ m)))=true
     have hlen:bB (bN (ρ m))=(ql.ev ρ).toNat:=by rw[cj]; omega
     rcases ij h.here.fs (ad hg).2 with q |⟨es,aN,q⟩
     ·rw[q] at hlen ⊢; rw[<-hlen]; rfl
     ·rw[q] at hlen ⊢; rw[<-hlen]; exact fV _
   ·cases hb
  have c3:tC size (aD tm u)=true:=by
   have uH:=rK h.here.fs uH;rw[af.bf,af.aR,cU] at uH;rw[bS h.here hu];show tC size (bN (ρ um))=true
   have hlen:bB (bN (ρ um))=1:=by rw[cj]; omega
   rcases ij h.here.fs husz with q |⟨es,aN,q⟩
   ·rw[q] at hlen; cases hlen
   ·rw[q] at hlen ⊢
    have:∃ a,es=[a]:=by
     cases es with
     |nil=>cases hlen
     |cons a t=>cases t with
      |nil=>exact⟨a,rfl⟩
      |cons b t=>simp[bB] at hlen
    obtain⟨a,rfl⟩:=this;simp only[tC,qa,fV]
  rw[c1,c2,c3]; rfl
 refine Am h hs hx ⟨fun ρ' h'=>by rw[af.oO]; rfl,fun ρ' h'=>?_,fun ρ' h' t ht e' eO=>?_⟩
 ·rw[af.bf,LG hw,<-SE.cY hc,SE.eB hc,e0 ρ' h']
  simp only[eB,mE,Cp]; omega
 ·cases eO with
  |head=>rw[e0 ρ' h']; exact kB h'.fs ht
  |tail _ eO=>cases eO
theorem Di (v:AV) (n:Nat):∀ e∈List.replicate n v,e=v:=fun e he=>List.eq_of_mem_replicate he
theorem Sm {C:Cx} (h:Sat C.T own ρ S tm st) {cV:List Nat} {size bytes:Nat} {z:AV} {lx cx:XO} {l c:af} (hl:tk S lx=some l) (hc:tk S cx=some c) (he:af.beq l c=true) (hb:Nat.ble bytes 4096=true) (h0:bV S.F l=true) (h1:bV S.F (af.from 1073741824 l)=true) (hz:Nat.beq z.cells.length size=true) :
  cA C.T own ρ S tm st (uY (.e (.a (.ks S.nx (S.nx+2)))) {S with ar:=(S.nx,S.nx+1,S.nx+2,size)::S.ar,nx:=S.nx+3,F:=Lf C.T S.F (S.nx+2) l none size (rn (fun t=>aq (Uy C.T size t) (ly C.T S.F (AN z) t)) cV) }) (Iy st tm size bytes z lx cx):=by
 have key:∀ ρ',cp C.T own ρ' S tm st->0<=l.ev ρ'/\l.ev ρ'<=1073741824/\ch (aD tm lx)=some (l.ev ρ').toNat:=by
  intro ρ' h';have a:=aW h'.fs h0;have b:=aW h'.fs h1;rw[af.da] at b;exact⟨a,by omega,gZ h' hl a⟩
 obtain⟨k1,k2,k3⟩:=key ρ h.here;have hx:Iy st tm size bytes z lx cx=some (.ks st.next 0 (l.ev ρ).toNat,st.new (.box 0 (flat (List.replicate (l.ev ρ).toNat z)))):=by
  show vL st bytes z (ch (aD tm lx)) (ch (aD tm cx))=_
  rw[k3,gZ h.here hc (by rw[<-af.bU he]; exact k1),<-af.bU he]
  simp only[vL,fV,zt,hb,show Nat.ble (l.ev ρ).toNat 1073741824=true by rw[gJ]; omega,EL]
 refine cA.one h [.ptr st.next 0,.int .i64 0,.sl size (List.replicate (l.ev ρ).toNat z) .dead] hx rfl rfl (FP h.fresh _) fun ρ' h' hu=>?_
 have e0:ρ' S.nx = .ptr st.next 0:=hu 0 _ rfl;have e1:ρ' (S.nx+1) = .int .i64 0:=hu 1 _ rfl;have e2:ρ' (S.nx+2) = .sl size (List.replicate (l.ev ρ).toNat z) .dead:=hu 2 _ rfl;have ek:aT ρ' S.nx=st.next:=by unfold aT; rw[e0]; rfl
 have hs:bN (ρ' (S.nx+2)) = .sl size (List.replicate (l.ev ρ).toNat z) .dead:=by rw[e2]; rfl
 refine⟨(h'.mem.new _).FZ ⟨?_,?_,?_⟩ ?_,qu h'.fs (.inr ⟨_,_,hs⟩) ?_ (fun l hl=>by cases hl) ?_,?_⟩
 ·show own (aT ρ' S.nx); rw[ek]; exact h.fresh _ (dN _)
 ·show aT ρ' S.nx<_; rw[ek]; exact qA _
 ·refine⟨_,_,hs,fun e he=>?_,?_⟩
  ·rw[Di _ _ e he]; exact bt hz
  ·show(st.new _).heap.get (aT ρ' S.nx)=some (.box (dD ρ' (S.nx+1)) _)
   rw[ek,aJ,bJ rfl];unfold dD; rw[e1]; rfl
 ·show aT ρ' S.nx∉_; rw[ek]; intro q; have:=h'.mem.lt q; omega
 ·rw[ig hs,List.length_replicate]
  have a:=(key ρ' h').2.2;rw[k3] at a;have:=(key ρ' h').1;have b:=Option.some.inj a;omega
 ·intro t ht
  obtain⟨_,ht⟩:=nZ t ht;obtain⟨t1,t2⟩:=ad ht;refine LS hs t1 fun e he=>?_
  have:=kB h'.fs t2;rw[AM] at this;rw[Di _ _ e he]; exact this
 ·show AV.ks st.next 0 _ = .ks (keyOf (ρ' S.nx)) 0 (bB (ρ' (S.nx+2)))
  rw[e0,e2]; simp[keyOf,bB]
theorem mA:∀ {cs vs:List AV} {off j:Nat},off+vs.length<=cs.length->(aZ cs off vs)[j]?=if off<=j/\j<off+vs.length then vs[j-off]? else cs[j]?:=by
 intro cs
 induction cs with
 |nil =>
  intro vs off j h;have hv:vs=[]:=qz (by simp only[Cp] at h; omega)
  subst hv;show([]:List AV)[j]?=_
  rw[ba (by simp)]
 |cons c t ih =>
  intro vs off j h;show(Bool.rec (c::aZ t (Nat.pred off) vs) (vs++(c::t).drop vs.length) (Nat.beq off 0):List AV)[j]?=_
  cases hb:Nat.beq off 0 with
  |true =>
   have:=bt hb;subst this;show(vs++(c::t).drop vs.length)[j]?=_
   simp only[tc,true_and,kT,Nat.sub_zero]
   by_cases hj:j<vs.length
   ·rw[bJ hj,yq hj]
   ·rw[ba hj,JE (by omega),rJ,show vs.length+(j-vs.length)=j by omega]
  |false =>
   have h0:off≠0:=M3 hb;show(c::aZ t (Nat.pred off) vs)[j]?=_
   simp only[mE] at h;cases j with
   |zero=>rw[ba (by omega)]; rfl
   |succ j =>
    simp only[List.getElem?_cons_succ]
    rw[ih (by simp only[Nat.pred_eq_sub_one]; omega),Nat.pred_eq_sub_one]
    by_cases hj:off<=j+1/\j+1<off+vs.length
    ·rw[bJ hj,bJ (by omega),show j+1-off=j-(off-1) by omega]
    ·rw[ba hj,ba (by omega)]
theorem vY {cs vs:List AV} {off:Nat} (h:off+vs.length<=cs.length):(aZ cs off vs).length=cs.length:=by
 induction cs generalizing off with
 |nil =>
  have hv:vs=[]:=qz (by simp only[Cp] at h; omega)
  subst hv; rfl
 |cons c t ih =>
  show(Bool.rec (c::aZ t (Nat.pred off) vs) (vs++(c::t).drop vs.length) (Nat.beq off 0):List AV).length=_
  simp only[mE] at h;cases hb:Nat.beq off 0 with
  |true=>show(vs++(c::t).drop vs.length).length=_; have:=bt hb; simp; omega
  |false =>
   have h0:off≠0:=M3 hb;show(c::aZ t (Nat.pred off) vs).length=_
   rw[mE,ih (by simp only[Nat.pred_eq_sub_one]; omega),mE]
theorem uN {sz off:Nat} {vs:List AV}:∀ {es:List AV} {k:Nat} {e e':AV},(∀ e∈es,e.cells.length=sz)->es[k]?=some e->off+vs.length<=sz->e'.cells=aZ e.cells off vs->flat (es.set k e')=aZ (flat es) (k*sz+off) vs:=by
 intro es k e e' hs he ho hc;have aO:k<es.length:=(fU.1 he).1
 have pE:∀ a∈es.set k e',a.cells.length=sz:=by
  intro a ha;rcases ET ha with q |q
  ·exact hs a q
  ·rw[q,hc,vY (by rw[hs e (pT he)]; exact ho),hs e (pT he)]
 have hL:=vF hs aO;have hLe:k*sz+off+vs.length<=(flat es).length:=by omega
 apply Co
 intro j;rw[mA hLe]
 by_cases hj:j<(flat es).length
 ·
  have hz:0<sz:=by
   rcases Nat.eq_zero_or_pos sz with q |q
   ·rw[er hs,q] at hj; omega
   ·exact q
  have oI:j / sz<es.length:=by rw[er hs] at hj; exact Nat.div_lt_of_lt_mul (by rw[wz]; exact hj)
  have hjd:=EN j sz;have hjm:=Nat.mod_lt j hz;have cell:∀ (l:List AV) (a:AV),(∀ e∈l,e.cells.length=sz)->l[j / sz]?=some a->(flat l)[j]?=a.cells[j % sz]?:=by
   intro l a hl ha;rw[<-vG hl ha,pS,bJ hjm,rJ,wz,hjd]
  by_cases hk:j / sz=k
  ·have h1:(es.set k e')[j / sz]?=some e':=by rw[hk,List.getElem?_set_self aO]
   rw[cell _ _ pE h1,hc,mA (by rw[hs e (pT he)]; exact ho),cell es e hs (by rw[hk]; exact he)]
   have Oz:k*sz+j % sz=j:=by rw[<-hk,wz]; exact hjd
   by_cases hw:off<=j % sz/\j % sz<off+vs.length
   ·rw[bJ hw,bJ (by omega),show j-(k*sz+off)=j % sz-off by omega]
   ·rw[ba hw,ba (by omega)]
  ·have h1:(es.set k e')[j / sz]?=some es[j / sz]:=by
    rw[List.getElem?_set_ne (fun q=>hk q.symm)]; exact ey oI
   rw[cell _ _ pE h1,cell es _ hs (ey oI)]
   rw[ba];intro ⟨q1,q2⟩;apply hk;have a1:k*sz<=j:=by omega
   have a2:j<(k+1)*sz:=by rw[jS,Av]; omega
   exact Nat.div_eq_of_lt_le a1 a2
 ·rw[wv (by rw[er pE,List.length_set,<-er hs]; omega),ba (by omega),wv (by omega)]
theorem HC.atomic {ct:CT} {v:AV} (h:HC T ct v) (hn:AG ct=true):atomic v:=by
 cases h with
 |any v=>cases hn
 |@lens m v h1 h2=>rw[<-h1]; unfold Ab.atomic; cases v<;>rfl
 |_=>rfl
theorem YI {cs:List AV} (h:atomic (.agg cs)):False:=by
 have h:cs=[.agg cs]:=h;have:=congrArg (fun l:List AV=>SizeOf.sizeOf l) h
 simp at this; omega
theorem Es {C:Cx} (h:Sat C.T own ρ S tm st) {size n off s w m:Nat} {i:af} {a y:XO} {e:SE} {vs:List SA} (he:FV S y=some e) (hc:e.cells=some vs) (hl:vs.length=size) (ha:rf S a=some (.ap n i s off)) (hg:qk S.ar n=some (w,m,s)) (hle:off+size<=s) (hp:1<=s) (h0:bV S.F i=true) (h1:bV S.F ((af.add (af.at (8*m+2)) (-1) i).plus (-1))=true) :
  cA C.T own ρ S tm st (uY BR {S with ar:=(n,S.nx,S.nx+1,s)::fZ S.ar n,nx:=S.nx+2,F:=Lf C.T S.F (S.nx+1) (af.at (8*m+2)) none s (rn (Me C.T S.F off size vs) (nu S.F m)) }) (o6 st tm size a y):=by
 have hm:=j6 hg;obtain⟨es,aN,b1,b2,b3⟩:=(h.here.mem.uU _ hm).box;simp only at b1 b2 b3;have BG:=aW h.here.fs h0;have QV:=aW h.here.fs h1;rw[af.bf,af.aP,af.aR,cU,ig b1] at QV;have aO:(i.ev ρ).toNat<es.length:=by omega
 have hel:es[(i.ev ρ).toNat]?=some es[(i.ev ρ).toNat]:=ey aO
 have hco:∀ ρ',cp C.T own ρ' S tm st->aT ρ' n=aT ρ n/\(i.ev ρ').toNat*s=(i.ev ρ).toNat*s:=by
  intro ρ' h';have:=(cq h.here ha).symm.trans (cq h' ha);simp only[SV.ev] at this;injection this with p1 p2
  exact⟨p1.symm,by omega⟩
 have FA:=vF b2 aO;have hx:o6 st tm size a y=some (gg,st.put (aT ρ n) (.box (Nat.succ (dD ρ w)) (aZ (flat es) ((i.ev ρ).toNat*s+off) (vs.map (SA.ev ρ))))):=by
  show cZ st size (aD tm a) (aD tm y)=_
  rw[cq h.here ha,iu h.here he];simp only[SV.ev];show(match st.heap.get (aT ρ n) with |some (.box bX cs)=>(match Nat.beq (e.ev ρ).cells.length size&&Nat.ble ((i.ev ρ).toNat*s+off+size) cs.length with |true=>some (gg,st.put (aT ρ n) (.box (Nat.succ bX) (aZ cs ((i.ev ρ).toNat*s+off) (e.ev ρ).cells))) |false=>none) |_=>none)=_
  rw[b3];simp only;rw[SE.cY hc,gK,hl,fV,show Nat.ble ((i.ev ρ).toNat*s+off+size) (flat es).length=true by rw[gJ]; omega]
  rfl
 obtain⟨c',jW⟩:∃ c',c'=aZ (es[(i.ev ρ).toNat]).cells off (vs.map (SA.ev ρ)):=⟨_,rfl⟩;have cJ:(es[(i.ev ρ).toNat]).cells.length=s:=b2 _ (nN aO);have iC:c'.length=s:=by rw[jW,vY (by rw[gK,cJ,hl]; exact hle),cJ]
 have ht:∀ ρ',cp C.T own ρ' S tm st->∀ t,t∈rn (Me C.T S.F off size vs) (nu S.F m)->∃ d,C.T.get t=some d/\d.conds=[]/\qZ C.T d.aV c'/\(d.agg=false->∃ u,c'=[u]/\atomic u/\¬ ∃ q,es[(i.ev ρ).toNat] = .agg q)/\(d.agg=true->∃ q,es[(i.ev ρ).toNat] = .agg q)/\d.aV.length=s/\∀ q∈es,HT C.T t q:=by
  intro ρ' h' t ht;obtain⟨t1,t2⟩:=nZ t ht;unfold Me at t2;cases hd:C.T.get t with
  |none=>rw[hd] at t2; cases t2
  |some d =>
   rw[hd] at t2;obtain⟨t3,t4⟩:=ad (show aq (isNil d.conds) (aq (fN d.agg (aU AG d.aV)) (kN (KG C.T S.F) ((d.aV.drop off).take size) vs))=true from t2)
   obtain⟨t5,t6⟩:=ad t4;have hcn:d.conds=[]:=by cases hq:d.conds with
    |nil=>rfl
    |cons a b=>rw[hq] at t3; cases t3
   have jv:=lW h.here.fs t t1;rw[b1] at jv;have gM:∀ q∈es,HT C.T t q:=fun q hq=>jv.elem hq
   have hE:=gM _ (nN aO);have hcs:=hE.len hd;have QZ:d.aV.length=s:=by rw[<-hcs.get.1,cJ]
   have hH:qZ C.T d.aV c':=by
    refine qZ.of (by rw[iC,QZ]) fun j ct v hj hv=>?_
    rw[jW,mA (by rw[gK,cJ,hl]; exact hle)] at hv
    rw[gK,hl] at hv;split at hv
    ·rename_i hr
     rw[jB] at hv
     cases hvj:vs[j-off]? with
     |none=>rw[hvj] at hv; cases hv
     |some z =>
      rw[hvj] at hv;cases hv;refine Ie h.here.fs ((sG t6).2 (j-off) ct z ?_ hvj)
      rw[pS,bJ (by omega),rJ,show off+(j-off)=j by omega]; exact hj
    ·exact hcs.get.2 j ct v hj hv
   refine⟨d,rfl,hcn,hH,fun tL=>?_,fun tL=>?_,QZ,gM⟩
   ·cases hE with
    |@mk _ _ d' dA u4 yk _ _ =>
     rw[hd] at dA; cases dA;have xn:=yk tL;have mQ:s=1:=by rw[<-cJ,xn]; rfl
     have:∃ u,c'=[u]:=by
      cases hq:c' with
      |nil=>rw[hq,mQ] at iC; cases iC
      |cons u r=>cases r with
       |nil=>exact⟨u,rfl⟩
       |cons v r=>rw[hq,mQ] at iC; simp at iC
     obtain⟨u,hu⟩:=this;refine⟨u,hu,?_,fun⟨q,hq⟩=>by rw[hq] at xn; exact YI xn⟩
     rw[tL] at t5;have t5:aU AG d.aV=true:=t5;have OQ:∃ ct,d.aV=[ct]:=by
      cases hq:d.aV with
      |nil=>rw[hq,mQ] at QZ; cases QZ
      |cons a r=>cases r with
       |nil=>exact⟨a,rfl⟩
       |cons b r=>rw[hq,mQ] at QZ; simp at QZ
     obtain⟨ct,hct⟩:=OQ;exact(hH.get.2 0 ct u (by rw[hct]; rfl) (by rw[hu]; rfl)).atomic (aB t5 ct (by rw[hct]; exact .head _))
   ·cases hE with
    |@mk _ _ d' dA u4 yk _ _=>rw[hd] at dA; cases dA; exact u4 tL
 obtain⟨e',eO,bQ⟩:∃ e':AV,e'.cells=c'/\∀ ρ',cp C.T own ρ' S tm st->∀ t,t∈rn (Me C.T S.F off size vs) (nu S.F m)->HT C.T t e':=by
  by_cases hA:∃ q,es[(i.ev ρ).toNat] = .agg q
  ·refine⟨.agg c',rfl,fun ρ' h' t Li=>?_⟩
   obtain⟨d,d1,d2,d3,d4,d5,_⟩:=ht ρ' h' t Li;refine .mk d1 (fun _=>⟨_,rfl⟩) (fun tL=>?_) d3 (by rw[d2]; intro f hf; cases hf)
   obtain⟨_,_,_,d6⟩:=d4 tL;exact absurd hA d6
  ·by_cases hB:∃ u,c'=[u]/\atomic u
   ·obtain⟨u,hu,xn⟩:=hB
    refine⟨u,by rw[hu]; exact xn,fun ρ' h' t Li=>?_⟩
    obtain⟨d,d1,d2,d3,d4,d5,_⟩:=ht ρ' h' t Li;refine .mk d1 (fun tL=>absurd (d5 tL) hA) (fun _=>xn) (by rw[show u.cells=c' by rw[hu]; exact xn]; exact d3) (by rw[d2]; intro f hf; cases hf)
   ·refine⟨.agg c',rfl,fun ρ' h' t Li=>?_⟩
    obtain⟨d,d1,d2,d3,d4,d5,_⟩:=ht ρ' h' t Li;refine .mk d1 (fun _=>⟨_,rfl⟩) (fun tL=>?_) d3 (by rw[d2]; intro f hf; cases hf)
    obtain⟨u,hu,xn,_⟩:=d4 tL;exact absurd ⟨u,hu,xn⟩ hB
 refine cA.one h [.int .i64 (.ofNat (Nat.succ (dD ρ w))),.sl s (es.set (i.ev ρ).toNat e') .dead] hx rfl rfl (xy (h.here.mem.uU _ hm).own _) fun ρ' h' hu=>?_
 have e0:ρ' S.nx = .int .i64 (.ofNat (Nat.succ (dD ρ w))):=hu 0 _ rfl;have e1:ρ' (S.nx+1) = .sl s (es.set (i.ev ρ).toNat e') .dead:=hu 1 _ rfl;have mQ:bN (ρ' (S.nx+1)) = .sl s (es.set (i.ev ρ).toNat e') .dead:=by rw[e1]; rfl
 obtain⟨ek,_⟩:=hco ρ' h';have rX:=h'.mem.PM hm;rw[ek] at rX;have hlen:bB (ρ' m)=es.length:=by
  obtain⟨Vb,Rx,g1,g2,g3⟩:=(h'.mem.uU _ hm).box;simp only at g1 g2 g3;rw[ek,b3] at g3;injection g3 with g3; injection g3 with _ g3
  have l1:=er b2;have l2:=er g2;rw[ig g1];have hi1':=aW h'.fs h1;rw[af.bf,af.aP,af.aR,cU,ig g1] at hi1';rw[g3,l2] at l1;exact RY hp l1
 refine⟨bA.FZ ((h'.mem.sub (List.Sublist.refl _) iR (List.Sublist.refl _)).put b3 rX) ⟨?_,?_,?_⟩ ?_,qu h'.fs (.inr ⟨_,_,mQ⟩) ?_ (fun l hl=>by cases hl) ?_,rfl⟩
 ·show own (aT ρ' n); rw[ek]; exact(h.here.mem.uU _ hm).own
 ·show aT ρ' n<st.next; rw[ek]; exact(h.here.mem.uU _ hm).lt
 ·refine⟨_,_,mQ,fun q hq=>?_,?_⟩
  ·rcases ET hq with r |r
   ·exact b2 q r
   ·rw[r,eO,iC]
  ·show(st.put _ _).heap.get (aT ρ' n)=some (.box (dD ρ' S.nx) _)
   rw[ek,aK,bJ rfl,uN (vs:=vs.map (SA.ev ρ)) b2 hel (by rw[gK,hl]; exact hle) (by rw[eO,jW])]
   unfold dD; rw[e0]; rfl
 ·show aT ρ' n∉_; rw[ek]; exact rX
 ·rw[af.aR,cU,ig mQ,List.length_set,hlen]
 ·intro t Li
  obtain⟨d,d1,d2,d3,d4,d5,d6,d7⟩:=ht ρ' h' t Li;rw[mQ];refine .inr ⟨d,_,_,d1,by rw[d6],fun q hq=>?_⟩
  rcases ET hq with r |r
  ·exact d7 q r
  ·rw[r]; exact bQ ρ' h' t Li
theorem B2 {C:Cx} (h:Sat C.T own ρ S tm st) {size n w m:Nat} {i:af} {a y:XO} {e:SE} {vs:List SA} (he:FV S y=some e) (hc:e.cells=some vs) (hl:vs.length=size) (ha:rf S a=some (.ap n i size 0)) (hg:qk S.ar n=some (w,m,size)) (hp:1<=size) (h0:bV S.F i=true) (h1:bV S.F ((af.add (af.at (8*m+2)) (-1) i).plus (-1))=true) :
  cA C.T own ρ S tm st (uY BR {S with ar:=(n,S.nx,S.nx+1,size)::fZ S.ar n,nx:=S.nx+2,F:=Lf C.T S.F (S.nx+1) (af.at (8*m+2)) none size (rn (fun t=>ly C.T S.F e t) (nu S.F m)) }) (o6 st tm size a y):=by
 have hm:=j6 hg;obtain⟨es,aN,b1,b2,b3⟩:=(h.here.mem.uU _ hm).box;simp only at b1 b2 b3;have BG:=aW h.here.fs h0;have QV:=aW h.here.fs h1;rw[af.bf,af.aP,af.aR,cU,ig b1] at QV;have aO:(i.ev ρ).toNat<es.length:=by omega
 have hel:es[(i.ev ρ).toNat]?=some es[(i.ev ρ).toNat]:=ey aO
 have hco:∀ ρ',cp C.T own ρ' S tm st->aT ρ' n=aT ρ n:=by
  intro ρ' h';have:=(cq h.here ha).symm.trans (cq h' ha);simp only[SV.ev] at this;injection this with p1 p2
  exact p1.symm
 have Xx:(e.ev ρ).cells.length=size:=by rw[SE.cY hc,gK,hl]
 have wY:∀ ρ',cp C.T own ρ' S tm st->e.ev ρ'=e.ev ρ:=fun ρ' h'=>(iu h' he).symm.trans (iu h.here he)
 have FA:=vF b2 aO;have hx:o6 st tm size a y=some (gg,st.put (aT ρ n) (.box (Nat.succ (dD ρ w)) (aZ (flat es) ((i.ev ρ).toNat*size+0) (e.ev ρ).cells))):=by
  show cZ st size (aD tm a) (aD tm y)=_
  rw[cq h.here ha,iu h.here he];simp only[SV.ev];show(match st.heap.get (aT ρ n) with |some (.box bX cs)=>(match Nat.beq (e.ev ρ).cells.length size&&Nat.ble ((i.ev ρ).toNat*size+0+size) cs.length with |true=>some (gg,st.put (aT ρ n) (.box (Nat.succ bX) (aZ cs ((i.ev ρ).toNat*size+0) (e.ev ρ).cells))) |false=>none) |_=>none)=_
  rw[b3];simp only;rw[Xx,fV,show Nat.ble ((i.ev ρ).toNat*size+0+size) (flat es).length=true by rw[gJ]; omega]
  rfl
 have cJ:(es[(i.ev ρ).toNat]).cells.length=size:=b2 _ (nN aO);refine cA.one h [.int .i64 (.ofNat (Nat.succ (dD ρ w))),.sl size (es.set (i.ev ρ).toNat (e.ev ρ)) .dead] hx rfl rfl (xy (h.here.mem.uU _ hm).own _) fun ρ' h' hu=>?_
 have e0:ρ' S.nx = .int .i64 (.ofNat (Nat.succ (dD ρ w))):=hu 0 _ rfl;have e1:ρ' (S.nx+1) = .sl size (es.set (i.ev ρ).toNat (e.ev ρ)) .dead:=hu 1 _ rfl;have mQ:bN (ρ' (S.nx+1)) = .sl size (es.set (i.ev ρ).toNat (e.ev ρ)) .dead:=by rw[e1]; rfl
 have ek:=hco ρ' h';have rX:=h'.mem.PM hm;rw[ek] at rX;have hlen:bB (ρ' m)=es.length:=by
  obtain⟨Vb,Rx,g1,g2,g3⟩:=(h'.mem.uU _ hm).box;simp only at g1 g2 g3;rw[ek,b3] at g3;injection g3 with g3; injection g3 with _ g3
  have l1:=er b2;have l2:=er g2;rw[ig g1];rw[g3,l2] at l1;exact RY hp l1
 refine⟨bA.FZ ((h'.mem.sub (List.Sublist.refl _) iR (List.Sublist.refl _)).put b3 rX) ⟨?_,?_,?_⟩ ?_,qu h'.fs (.inr ⟨_,_,mQ⟩) ?_ (fun l hl=>by cases hl) ?_,rfl⟩
 ·show own (aT ρ' n); rw[ek]; exact(h.here.mem.uU _ hm).own
 ·show aT ρ' n<st.next; rw[ek]; exact(h.here.mem.uU _ hm).lt
 ·refine⟨_,_,mQ,fun q hq=>?_,?_⟩
  ·rcases ET hq with r |r
   ·exact b2 q r
   ·rw[r,Xx]
  ·show(st.put _ _).heap.get (aT ρ' n)=some (.box (dD ρ' S.nx) _)
   rw[ek,aK,bJ rfl,uN (off:=0) (vs:=(e.ev ρ).cells) b2 hel (by rw[Xx]; omega) ?_]
   ·unfold dD; rw[e0]; rfl
   ·refine Co fun j=>?_
    rw[mA (by rw[Xx,cJ]; omega)]
    split
    ·rfl
    ·rename_i hj
     rw[wv (by omega),wv (by omega)]
 ·show aT ρ' n∉_; rw[ek]; exact rX
 ·rw[af.aR,cU,ig mQ,List.length_set,hlen]
 ·intro t Li
  obtain⟨t1,t2⟩:=nZ t Li;have jv:=lW h.here.fs t t1;rw[b1] at jv;have gM:∀ q∈es,HT C.T t q:=fun q hq=>jv.elem hq
  have hE:=kB h.here.fs t2;rw[mQ];refine .inr ?_
  rcases jv with jv |⟨d,cr,Ej,hd,jv,_⟩
  ·cases jv
  ·injection jv with q1 q2 q3
   refine⟨d,_,_,hd,by rw[q1],fun q hq=>?_⟩
   rcases ET hq with r |r
   ·exact gM q r
   ·rw[r]; exact hE
theorem gz {s:Nat} (hs:2<=s):∀ {es:List AV},(∀ e∈es,e.cells.length=s)->chunk s es.length (flat es)=es:=by
 intro es
 induction es with
 |nil=>intro _; rfl
 |cons e es ih =>
  intro h;have he:=h e (by simp)
  obtain⟨cs,rfl⟩:∃ cs,e = .agg cs:=by
   cases e<;>first |exact⟨_,rfl⟩ |(simp[AV.cells] at he; omega)
  have he:cs.length=s:=he;have hf:flat (.agg cs::es)=cs++flat es:=by simp[flat,AV.cells]
  show AV.agg ((flat (.agg cs::es)).take s)::chunk s es.length ((flat (.agg cs::es)).drop s)=_
  rw[hf,<-he,List.take_left,List.drop_left,he,ih fun x hx=>h x (by simp[hx])]
theorem Tz {C:Cx} (h:Sat C.T own ρ S tm st) {size n q w m:Nat} {x:XO} (hx:mo S x=some (.ks n q)) (hg:qk S.ar n=some (w,m,size)) (hs:2<=size) (hq:yt S.F (af.add (af.at (8*q+2)) (-1) (af.at (8*m+2)))=true) :
  cA C.T own ρ S tm st (uY (.e (.a (.sl S.nx))) {S with ar:=fZ S.ar n,nx:=S.nx+1,F:=Lf C.T S.F S.nx (af.at (8*m+2)) (some (af.at (8*m+3))) size (nu S.F m) }) (Uh st tm size x):=by
 have hm:=j6 hg;obtain⟨es,aN,b1,b2,b3⟩:=(h.here.mem.uU _ hm).box;simp only at b1 b2 b3;have QT:=rK h.here.fs hq;rw[af.aP,af.aR,af.aR,cU,cU,ig b1] at QT;have hl:bB (ρ q)=es.length:=by omega
 have hco:∀ ρ',cp C.T own ρ' S tm st->aT ρ' n=aT ρ n:=by
  intro ρ' h';have:=(bS h.here hx).symm.trans (bS h' hx);simp only[SA.ev] at this;injection this with p1 p2
  exact p1.symm
 have hxx:Uh st tm size x=some (.sl size es .dead,st.put (aT ρ n) .gone):=by
  show IJ st size (aD tm x)=_
  rw[bS h.here hx];simp only[SA.ev];show(match st.heap.get (aT ρ n) with
   |some (.box _ cs)=>match Nat.beq cs.length (bB (ρ q)*size)&&Nat.blt 1 size with
    |true=>some (AV.sl size (chunk size (bB (ρ q)) cs) .dead,st.put (aT ρ n) .gone)
    |false=>none
   |_=>none)=_
  rw[b3];simp only;rw[hl,er b2,fV,show Nat.blt 1 size=true from Nat.ble_eq_true_of_le hs,gz hs b2]
  rfl
 refine cA.one h [.sl size es .dead] hxx rfl rfl (xy (h.here.mem.uU _ hm).own _) fun ρ' h' hu=>?_
 have e1:ρ' S.nx = .sl size es .dead:=hu 0 _ rfl;have mQ:bN (ρ' S.nx) = .sl size es .dead:=by rw[e1]; rfl
 have ek:=hco ρ' h';have rX:=h'.mem.PM hm;rw[ek] at rX;obtain⟨Vb,Rx,g1,g2,g3⟩:=(h'.mem.uU _ hm).box;simp only at g1 g2 g3;rw[ek,b3] at g3;injection g3 with g3; injection g3 with _ g3
 have tJ:Vb=es:=by
  have l1:=er b2;have l2:=er g2;rw[g3,l2] at l1;have l3:=RY (by omega) l1
  rw[<-gz hs b2,<-gz hs g2,g3,l3]
 subst tJ;refine⟨(h'.mem.sub (List.Sublist.refl _) iR (List.Sublist.refl _)).put b3 rX,qu h'.fs (.inr ⟨_,_,mQ⟩) ?_ (fun l hl=>?_) ?_,mQ.symm⟩
 ·rw[af.aR,cU,ig mQ,ig g1]
 ·cases hl
  rw[af.aR,ju];unfold nX;rw[mQ,g1]; rfl
 ·intro t Li
  have jv:=lW h'.fs t Li;rw[g1] at jv;rw[mQ];rcases jv with jv |⟨d,cr,Ej,hd,jv,he⟩
  ·cases jv
  ·injection jv with q1 q2 q3
   subst q2;exact .inr ⟨d,_,_,hd,by rw[q1],he⟩
def N1 (o:XE):Bool:=match o with
 | .call _ _=>true
 |_=>false
theorem T1 {C:Cx} (h:Sat C.T own ρ S tm st) {cV:List Nat} {xW:Nat->List SV->ER} {call:Nat->List AV->St->Option (AV × St)} (o:XE) (hc:N1 o=false):cA C.T own ρ S tm st (u6 C S cV xW o) (Yp call st tm o):=by
 cases o with
 |alloc cs =>
  refine s9 h (vs:=cs) rfl fun ρ' h'=>?_
  rw[yr,show(SA.ev ρ' ∘ qF)=id from funext fun v=>rR v,List.map_id]
 |box size x =>
  show cA _ _ _ _ _ _ _ (DX st tm size x)
  simp only[u6];split
  ·rename_i e he
   split
   ·rename_i cs hcs
    refine cA.guard fun hl=>?_
    refine s9 h (vs:=(aD tm x).cells) ?_ fun ρ' h'=>by rw[iu h' he,SE.cY hcs]
    unfold DX;rw[show Nat.beq (aD tm x).cells.length size=true by rw[iu h.here he,SE.cY hcs,gK]; exact hl]
   ·exact cA.none
  ·exact cA.none
 |store size a x =>
  show cA _ _ _ _ _ _ _ (o6 st tm size a x)
  simp only[u6];split
  ·rename_i e he
   split
   ·rename_i vs Hu
    refine cA.guard fun hl=>?_
    split
    ·rename_i n off ha
     split
     ·rename_i w cs hg
      exact cA.guard fun hle=>Er h he Hu (bt hl) ha hg (iU hle)
     ·exact cA.none
    ·rename_i n i sz off ha
     split
     ·rename_i w m s hg
      refine cA.guard fun hq=>?_
      obtain⟨q1,q2⟩:=ad hq;obtain⟨q3,q4⟩:=ad q1;obtain⟨q5,q6⟩:=ad q4;obtain⟨q7,q8⟩:=ad q2;have q3:=bt q3;subst q3;cases hw:aq (Nat.beq off 0) (Nat.beq size s) with
      |false=>exact Es h he Hu (bt hl) ha hg (iU q6) (iU q5) q7 q8
      |true =>
       obtain⟨w1,w2⟩:=ad hw;have w1:=bt w1;have w2:=bt w2;subst w1 w2;exact B2 h he Hu (bt hl) ha hg (iU q5) q7 q8
     ·exact cA.none
    ·exact cA.none
   ·exact cA.none
  ·exact cA.none
 |Sn size bytes z l c =>
  show cA _ _ _ _ _ _ _ (Iy st tm size bytes z l c)
  simp only[u6];split
  ·rename_i l' c' hl jW
   refine cA.guard fun hq=>?_
   obtain⟨q1,q2⟩:=ad hq;obtain⟨q3,q4⟩:=ad q2;obtain⟨q5,q6⟩:=ad q4;exact cA.guard fun hz=>Sm h hl jW q1 q3 q5 q6 hz
  ·exact cA.none
 |He=>exact cA.none
 |put k m q v=>exact cA.none
 |app size bytes s x =>
  show cA _ _ _ _ _ _ _ (K9 st tm size bytes s x)
  simp only[u6];split
  ·rename_i s' m hs hx
   exact cA.guard fun hz=>YG h hs hx hz
  ·rename_i s' hs hx
   exact Ub h hs hx
  ·exact cA.none
 |K6 size bytes s x q u =>
  show cA _ _ _ _ _ _ _ (sL st tm size bytes s x q u)
  simp only[u6];split
  ·rename_i s' e q' u' hs he hq hu
   split
   ·rename_i vs n ls ws hv hb
    refine cA.guard fun hg=>?_
    obtain⟨g1,g2⟩:=ad hg;obtain⟨g3,g4⟩:=ad g2;obtain⟨g5,g6⟩:=ad g4;obtain⟨g7,g8⟩:=ad g6;exact Ud h hs he hq hu hv hb (bt g1) g3 g5 g7 g8
   ·exact cA.none
  ·exact cA.none
 |dL size x =>
  show cA _ _ _ _ _ _ _ (Uh st tm size x)
  simp only[u6];split
  ·rename_i n q hx
   split
   ·rename_i w m s hg
    refine cA.guard fun hq=>?_
    obtain⟨q1,q2⟩:=ad hq;obtain⟨q3,q4⟩:=ad q1;have q3:=bt q3;subst q3;exact Tz h hx hg (bO q4) q2
   ·exact cA.none
  ·exact cA.none
 |call f args=>cases hc
end
end Go.Ab
theorem Cj:type_of% @List.getElem_of_mem:=@List.getElem_of_mem
namespace Go.Ab
noncomputable section
open Go.Ev
open Classical
variable {ρ ρ' ca : cz} {T : TT} {F : ai} {σ : Sub} {own : Nat → Prop} {S : Sy} {tm : Tr AV} {st ae : St} {x : Option AV} {nx : Nat} {hp dZ : List uq} {ar x8 : List yg} {live hY : List Nat}
theorem BF.bU:∀ {f g:BF},BF.beq f g=true->f=g:=by
 intro f
 induction f with
 |k b=>intro g h; cases g<;>first |(cases h; done) |skip
       rename_i c;cases b<;>cases c<;>first |rfl |cases h
 |ge l=>intro g h; cases g<;>first |(cases h; done) |(rw[af.bU h])
 |eq l=>intro g h; cases g<;>first |(cases h; done) |(rw[af.bU h])
 |u n=>intro g h; cases g<;>first |(cases h; done) |(rw[bt h])
 |seq x y=>intro g h; cases g<;>first |(cases h; done) |(obtain⟨h1,h2⟩:=ad h; rw[SS.bU h1,SS.bU h2])
 |dot n=>intro g h; cases g<;>first |(cases h; done) |(rw[bt h])
 |not f ih=>intro g h; cases g<;>first |(cases h; done) |(rw[ih h])
 |and f g jU jl=>intro g h; cases g<;>first |(cases h; done) |(obtain⟨h1,h2⟩:=ad h; rw[jU h1,jl h2])
 |or f g jU jl=>intro g h; cases g<;>first |(cases h; done) |(obtain⟨h1,h2⟩:=ad h; rw[jU h1,jl h2])
 |imp f g jU jl=>intro g h; cases g<;>first |(cases h; done) |(obtain⟨h1,h2⟩:=ad h; rw[jU h1,jl h2])
theorem KI {v w:AV} (h:FY v w=true):v=w:=by
 unfold FY at h;split at h<;>first |rfl |(rw[bt h]) |cases h
theorem Im {f g:BF} (h:f.ev ρ↔g.ev ρ):(SA.bl f).ev ρ=(SA.bl g).ev ρ:=by
 simp only[SA.ev]; congr 1; exact MS.2 h
theorem SA.gT (h:Good T ρ F) {x y:SA} (hs:SA.same F x y=true):x.ev ρ=y.ev ρ:=by
 unfold SA.same at hs;split at hs
 ·obtain⟨h1,h2⟩:=ad hs
  rw[vw h1];rcases bw h2 with h3 |h3
  ·rw[af.bU h3]
  ·have:=rK h h3
   rw[af.aP] at this;simp only[SA.ev]
   congr 1; omega
 ·rcases bw hs with h1 |h1
  ·rw[BF.bU h1]
  rcases bw h1 with h2 |h2
  ·obtain⟨h3,h4⟩:=ad h2
   exact Im ⟨fun _=>mH h h4,fun _=>mH h h3⟩
  ·obtain⟨h3,h4⟩:=ad h2
   exact Im ⟨fun q=>absurd q (mb h h3),fun q=>absurd q (mb h h4)⟩
 ·rcases bw hs with h1 |h1
  ·rw[SS.bU h1]
  ·simp only[SA.ev]; rw[Ct (Ak T ρ) h h1]
 ·rw[bt hs]
 ·obtain⟨h1,h2⟩:=ad hs; rw[bt h1,bt h2]
 ·obtain⟨h1,h2⟩:=ad hs; rw[bt h1,bt h2]
 ·rw[bt hs]
 ·rw[KI hs]
 ·cases hs
theorem wK {α:Type} {f:α->AV} {p:α->α->Bool} (hp:∀ a b,p a b=true->f a=f b) {x y:List α} (h:kN p x y=true):x.map f=y.map f:=by
 obtain⟨h1,h2⟩:=sG h;apply Co;intro j;simp only[jB]
 cases hx:x[j]? with
 |none =>
  rw[MT] at hx
  rw[wv (by omega)]
 |some a =>
  obtain⟨q,_⟩:=fU.1 hx
  have hy:y[j]?=some y[j]:=ey (by omega)
  rw[hy]; simp[hp _ _ (h2 j a _ hx hy)]
theorem SE.gT (h:Good T ρ F) {x y:SE} (hs:SE.same F x y=true):x.ev ρ=y.ev ρ:=by
 unfold SE.same at hs;split at hs
 ·exact SA.gT h hs
 ·simp only[SE.ev]; rw[wK (fun a b q=>SA.gT h q) hs]
 ·cases hs
theorem SV.gT (h:Good T ρ F) {x y:SV} (hs:SV.same F x y=true):x.ev ρ=y.ev ρ:=by
 unfold SV.same at hs;split at hs
 ·exact SE.gT h hs
 ·simp only[SV.ev]; rw[wK (fun a b q=>SE.gT h q) hs]
 ·obtain⟨h1,h2⟩:=ad hs
  obtain⟨h1,h3⟩:=ad h1;obtain⟨h3,h4⟩:=ad h3;simp only[SV.ev]; rw[wK (fun a b q=>SA.gT h q) h2,bt h1,bt h3,af.bU h4]
 ·obtain⟨h1,h2⟩:=ad hs
  obtain⟨h3,h4⟩:=ad h1;obtain⟨h5,h6⟩:=ad h2;rw[bt h3,bt h4,bt h5,af.bU h6]
 ·cases hs
theorem SE.bG {x y:SE} (h:x.sub σ=some y):y.ev ρ=x.ev (σ.val ρ):=by
 cases x with
 |a x =>
  have h:(Option.rec none (fun y=>some (SE.a y)) (x.sub σ):Option SE)=some y:=h
  cases hx:x.sub σ with
  |none=>rw[hx] at h; cases h
  |some z=>rw[hx] at h; cases h; exact SA.bG hx
 |agg cs =>
  have h:(Option.rec none (fun y=>some (SE.agg y)) (dO (SA.sub σ) cs):Option SE)=some y:=h
  cases hx:dO (SA.sub σ) cs with
  |none=>rw[hx] at h; cases h
  |some z=>rw[hx] at h; cases h; simp only[SE.ev]; rw[fW (fun a b q=>SA.bG q) hx]
theorem rS {n m:Nat} (h:nA σ n=some m):aT (σ.val ρ) n=aT ρ m:=by
 unfold nA at h;split at h
 ·rename_i m' o hs
  cases h
  have:=SA.bG (ρ:=ρ) hs;simp only[SA.ev] at this;injection this with this
  exact this.symm
 ·cases h
theorem I4 {n m k:Nat} (h:jQ (σ n)=some m):dT (ρ m) k=dT (σ.val ρ n) k:=by
 unfold Sub.val;cases hs:σ n with
 |sl q =>
  rw[hs] at h; cases h;simp only[SA.ev,dT];cases ρ m<;>rfl
 |var q=>rw[hs] at h; cases h; rfl
 |_=>rw[hs] at h; cases h
theorem SV.bG {x y:SV} (h:x.sub σ=some y):y.ev ρ=x.ev (σ.val ρ):=by
 cases x with
 |e x =>
  have h:(Option.rec none (fun y=>some (SV.e y)) (x.sub σ):Option SV)=some y:=h
  cases hx:x.sub σ with
  |none=>rw[hx] at h; cases h
  |some z=>rw[hx] at h; cases h; exact SE.bG hx
 |cv l =>
  have h:(Option.rec none (fun y=>some (SV.cv y)) (dO (SE.sub σ) l):Option SV)=some y:=h
  cases hx:dO (SE.sub σ) l with
  |none=>rw[hx] at h; cases h
  |some z=>rw[hx] at h; cases h; simp only[SV.ev]; rw[fW (fun a b q=>SE.bG q) hx]
 |ro cs off n i =>
  simp only[SV.sub] at h;split at h
  ·rename_i z m j h1 h2 h3
   cases h
   simp only[SV.ev];rw[fW (fun a b q=>SA.bG q) h1,af.bG h3,I4 h2]
  ·cases h
 |ap n i s o =>
  simp only[SV.sub] at h;split at h
  ·rename_i m o' j h1 h2
   cases h
   have:=SA.bG (ρ:=ρ) h1;simp only[SA.ev] at this;injection this with this
   simp only[SV.ev,this,af.bG h2]
  ·cases h
theorem Ma (h:Good T ρ F) {p x:SA} (hs:Mb F σ p x=true):p.ev (σ.val ρ)=x.ev ρ:=by
 unfold Mb at hs;cases hp:p.sub σ with
 |none=>rw[hp] at hs; cases hs
 |some y=>rw[hp] at hs; rw[<-SA.bG hp]; exact SA.gT h hs
theorem pg (h:Good T ρ F) {p x:SE} (hs:vU F σ p x=true):p.ev (σ.val ρ)=x.ev ρ:=by
 unfold vU at hs;cases hp:p.sub σ with
 |none=>rw[hp] at hs; cases hs
 |some y=>rw[hp] at hs; rw[<-SE.bG hp]; exact SE.gT h hs
theorem I8 (h:Good T ρ F) {p x:SV} (hs:Ad F σ p x=true):p.ev (σ.val ρ)=x.ev ρ:=by
 unfold Ad at hs;cases hp:p.sub σ with
 |none=>rw[hp] at hs; cases hs
 |some y=>rw[hp] at hs; rw[<-SV.bG hp]; exact SV.gT h hs
theorem rQ {α:Type} {f g:α->AV} {p:α->α->Bool} (hp:∀ a b,p a b=true->f a=g b) {x y:List α} (h:kN p x y=true):x.map f=y.map g:=by
 obtain⟨h1,h2⟩:=sG h;apply Co;intro j;simp only[jB]
 cases hx:x[j]? with
 |none =>
  rw[MT] at hx
  rw[wv (by omega)]; rfl
 |some a =>
  obtain⟨q,_⟩:=fU.1 hx
  have hy:y[j]?=some y[j]:=ey (by omega)
  rw[hy]; simp[hp _ _ (h2 j a _ hx hy)]
theorem Hx (h:cp T own ρ S tm st) {p:uq} (hp:C2 S σ p=true):∃ m q,nA σ p.1=some m/\(m,q)∈S.hp/\vd (σ.val ρ) own st p:=by
 unfold C2 at hp;split at hp
 ·rename_i m hm
  split at hp
  ·rename_i q hq
   obtain⟨h1,h2⟩:=ad hp;have cn:=mm hq;refine⟨m,q,hm,cn,?_⟩
   obtain⟨a,b,c⟩:=h.mem.qM _ cn;have ek:=rS (ρ:=ρ) hm;refine⟨by rw[ek]; exact a,by rw[ek]; exact b,?_⟩
   rw[ek];split at h1
   ·rename_i w hw
    have ev:dD (σ.val ρ) p.2.1=dD ρ q.1:=by
     unfold dD;show(intOf ((σ p.2.1).ev ρ)).toNat=_
     rw[hw,bt h1]; rfl
    rw[ev,rQ (fun a b q=>Ma h.fs q) h2]; exact c
   ·cases h1
  ·cases hp
 ·cases hp
theorem Is (h:cp T own ρ S tm st) {p:yg} (hp:DP S σ p=true):∃ m q,nA σ p.1=some m/\(m,q)∈S.ar/\vg (σ.val ρ) own st p:=by
 unfold DP at hp;split at hp
 ·rename_i m hm
  split at hp
  ·rename_i q hq
   obtain⟨h1,h2⟩:=ad hp;obtain⟨h3,h4⟩:=ad h2;have cn:=j6 hq;refine⟨m,q,hm,cn,?_⟩
   obtain⟨a,b,es,aN,c,d,e⟩:=h.mem.uU _ cn;have ek:=rS (ρ:=ρ) hm;refine⟨by rw[ek]; exact a,by rw[ek]; exact b,es,aN,?_,?_,?_⟩
   ·rw[bt h4]
    show bN ((σ p.2.2.1).ev ρ)=_
    split at h3
    ·rename_i w hw; rw[hw,bt h3]; show bN (bN _)=_; rw[jR]; exact c
    ·rename_i w hw; rw[hw,bt h3]; exact c
    ·cases h3
   ·rw[bt h4]; exact d
   ·rw[ek]
    split at h1
    ·rename_i w hw
     have ev:dD (σ.val ρ) p.2.1=dD ρ q.1:=by
      unfold dD;show(intOf ((σ p.2.1).ev ρ)).toNat=_
      rw[hw,bt h1]; rfl
     rw[ev]; exact e
    ·cases h1
  ·cases hp
 ·cases hp
theorem xN {l:List Nat} (h:iG l=true):l.Nodup:=by
 induction l with
 |nil=>exact .nil
 |cons a t ih =>
  obtain⟨h1,h2⟩:=Vk (show(Bool.rec (iG t) false (qD a t):Bool)=true from h)
  rw[Cm];refine⟨fun hm=>?_,ih h2⟩
  have:∀ {l:List Nat},a∈l->qD a l=true:=by
   intro l
   induction l with
   |nil=>intro q; cases q
   |cons b s ih =>
    intro q;show(Bool.rec (qD a s) true (Nat.beq a b):Bool)=true
    cases q with
    |head=>rw[fV]
    |tail _ q=>cases hb:Nat.beq a b with
     |true=>rfl
     |false=>exact ih q
  rw[this hm] at h1; cases h1
def lv1 (x:SA) (ih:Option (List Nat)):Option (List Nat):=Option.rec none (fun t=>match x with | .sl m=>some (m::t) | .var m=>some (m::t) | .iD .az=>some t |_=>none) ih
theorem CJ {n:Nat} {l:List Nat}:fe σ (n::l)=lv1 (σ n) (fe σ l):=rfl
theorem lu {n:Nat} {l t:List Nat} (h:fe σ (n::l)=some t):∃ t',fe σ l=some t'/\((σ n = .iD .az/\t=t')\/∃ m,t=m::t'/\(σ n = .sl m\/σ n = .var m)):=by
 rw[CJ] at h;cases hl:fe σ l with
 |none=>rw[hl] at h; cases h
 |some t' =>
  rw[hl] at h;refine⟨t',rfl,?_⟩
  have h:(match σ n with | .sl m=>some (m::t') | .var m=>some (m::t') | .iD .az=>some t' |_=>none)=some t:=h
  split at h
  ·rename_i m hm; cases h; exact .inr ⟨m,rfl,.inl hm⟩
  ·rename_i m hm; cases h; exact .inr ⟨m,rfl,.inr hm⟩
  ·rename_i hm; cases h; exact .inl ⟨hm,rfl⟩
  ·cases h
theorem lr {n m:Nat} (h:σ n = .sl m\/σ n = .var m):bN (σ.val ρ n)=bN (ρ m)/\cG (σ.val ρ n)=cG (ρ m):=by
 unfold Sub.val;rcases h with h |h<;>rw[h]
 ·exact⟨jR _,dG _⟩
 ·exact⟨rfl,rfl⟩
theorem mN:∀ {l t:List Nat},fe σ l=some t->∀ n∈l,σ n = .iD .az\/∃ m∈t,σ n = .sl m\/σ n = .var m:=by
 intro l
 induction l with
 |nil=>intro t _ n hn; cases hn
 |cons a l ih =>
  intro t h n hn;obtain⟨t',h1,h2⟩:=lu h;cases hn with
  |head =>
   rcases h2 with⟨h2,_⟩ |⟨m,h2,h3⟩
   ·exact .inl h2
   ·exact .inr ⟨m,by rw[h2]; exact .head _,h3⟩
  |tail _ hn =>
   rcases ih h1 n hn with q |⟨m,hm,q⟩
   ·exact .inl q
   ·refine .inr ⟨m,?_,q⟩
    rcases h2 with⟨_,h2⟩ |⟨m',h2,_⟩
    ·rw[h2]; exact hm
    ·rw[h2]; exact .tail _ hm
theorem uG:∀ {l t:List Nat},fe σ l=some t->∀ m∈t,∃ n∈l,σ n = .sl m\/σ n = .var m:=by
 intro l
 induction l with
 |nil=>intro t h m hm; have h:some []=some t:=h; cases h; cases hm
 |cons a l ih =>
  intro t h m hm;obtain⟨t',h1,h2⟩:=lu h;rcases h2 with⟨_,h2⟩ |⟨m',h2,h3⟩
  ·rw[h2] at hm; obtain⟨n,hn,q⟩:=ih h1 m hm; exact⟨n,.tail _ hn,q⟩
  ·rw[h2] at hm
   cases hm with
   |head=>exact⟨a,.head _,h3⟩
   |tail _ hm=>obtain⟨n,hn,q⟩:=ih h1 m hm; exact⟨n,.tail _ hn,q⟩
theorem CI {L:List Nat} (hL:kp ρ L):∀ {l t:List Nat},fe σ l=some t->t.Nodup->(∀ m∈t,m∈L)->kp (σ.val ρ) l:=by
 intro l
 induction l with
 |nil=>intro t _ _ _; exact .nil
 |cons a l ih =>
  intro t h hd hs;obtain⟨t',h1,h2⟩:=lu h;have dA:t'.Nodup:=by
   rcases h2 with⟨_,h2⟩ |⟨m',h2,_⟩<;>rw[h2] at hd
   ·exact hd
   ·exact(Cm.1 hd).2
  have pE:∀ m∈t',m∈L:=by
   intro m hm;rcases h2 with⟨_,h2⟩ |⟨m',h2,_⟩
   ·exact hs m (by rw[h2]; exact hm)
   ·exact hs m (by rw[h2]; exact .tail _ hm)
  refine List.Pairwise.cons (fun n hn id hid he=>?_) (ih h1 dA pE)
  rcases h2 with⟨h2,_⟩ |⟨m',h2,h3⟩
  ·unfold Sub.val at hid; rw[h2] at hid; cases hid
  ·rw[(lr h3).2] at hid
   rcases mN h1 n hn with q |⟨m,hm,q⟩
   ·unfold Sub.val at he; rw[q] at he; cases he
   ·rw[(lr q).2] at he
    rw[h2] at hd;refine vj hL (hs m' (by rw[h2]; exact .head _)) (pE m hm) (fun e=>?_) hid he
    rw[e] at hd;exact(Cm.1 hd).1 hm
theorem AL:∀ {l t:List Nat},fe σ l=some t->kp (σ.val ρ) l->kp ρ t:=by
 intro l
 induction l with
 |nil=>intro t h _; have h:some []=some t:=h; cases h; exact .nil
 |cons a l ih =>
  intro t h hp;obtain⟨t',h1,h2⟩:=lu h;unfold kp at hp;rw[List.pairwise_cons] at hp;have h4:=ih h1 hp.2;rcases h2 with⟨_,h2⟩ |⟨m',h2,h3⟩<;>rw[h2]
  ·exact h4
  ·refine List.Pairwise.cons (fun m hm id hid he=>?_) h4
   obtain⟨n,hn,q⟩:=uG h1 m hm;rw[<-(lr h3).2] at hid;rw[<-(lr q).2] at he;exact hp.1 n hn id hid he
theorem ff {α:Type} {l:List (Nat × α)} {hs:List Nat} (h:eo σ l=some hs):l.map (fun p=>aT (σ.val ρ) p.1)=hs.map (aT ρ):=by
 unfold eo at h;exact(fW (g:=fun p:Nat × α=>aT (σ.val ρ) p.1) (h:=aT ρ) (fun a b q=>(rS q).symm) h).symm
theorem y5 {f:Nat->Nat} {l:List Nat} (h:l.Nodup) (hf:∀ a∈l,∀ b∈l,f a=f b->a=b):(l.map f).Nodup:=by
 induction l with
 |nil=>exact .nil
 |cons a t ih =>
  rw[Cm] at h;rw[ot,Cm];refine⟨fun hm=>?_,ih h.2 fun b hb c hc=>hf b (.tail _ hb) c (.tail _ hc)⟩
  obtain⟨b,hb,e⟩:=fD.1 hm;have:=hf b (.tail _ hb) a (.head _) e;rw[this] at hb; exact h.1 hb
theorem wN (h:bA ρ own hp ar live st) {a b:Nat} (ha:(∃ p,(a,p)∈hp)) (hb:∃ p,(b,p)∈hp) (e:aT ρ a=aT ρ b):a=b:=by
 obtain⟨p,dZ⟩:=ha;obtain⟨q,hq⟩:=hb;have hd:=h.keys;unfold bj at hd;rw[EJ] at hd;have:=iZ hd.1 (a,p) dZ (b,q) hq e;injection this
theorem y7 (h:bA ρ own hp ar live st) {a b:Nat} (ha:(∃ p,(a,p)∈ar)) (hb:∃ p,(b,p)∈ar) (e:aT ρ a=aT ρ b):a=b:=by
 obtain⟨p,dZ⟩:=ha;obtain⟨q,hq⟩:=hb;have hd:=h.keys;unfold bj at hd;rw[EJ] at hd;have:=iZ hd.2.1 (a,p) dZ (b,q) hq e;injection this
theorem mO (h:bA ρ own hp ar live st) {a b:Nat} (ha:(∃ p,(a,p)∈hp)) (hb:∃ p,(b,p)∈ar) (e:aT ρ a=aT ρ b):False:=by
 obtain⟨p,dZ⟩:=ha;obtain⟨q,hq⟩:=hb;have hd:=h.keys;unfold bj at hd;rw[EJ] at hd;exact hd.2.2 _ (fD.2 ⟨(a,p),dZ,rfl⟩) _ (fD.2 ⟨(b,q),hq,rfl⟩) e
theorem tw (h:cp T own ρ S tm st) {hp:List uq} (hh:aU (C2 S σ) hp=true) {hs:List Nat} (hk:eo σ hp=some hs):∀ m∈hs,∃ q,(m,q)∈S.hp:=by
 intro m hm;obtain⟨h1,h2⟩:=pz hk;obtain⟨j,hj,e⟩:=Cj hm;have aO:j<hp.length:=by omega
 have:=h2 j hp[j] m (ey aO) (by rw[<-e]; exact ey hj)
 obtain⟨m',q,q1,q2,_⟩:=Hx h (aB hh hp[j] (nN aO));rw[this] at q1; cases q1;exact⟨q,q2⟩
theorem qG (h:cp T own ρ S tm st) {ar:List yg} (hh:aU (DP S σ) ar=true) {hs:List Nat} (hk:eo σ ar=some hs):∀ m∈hs,∃ q,(m,q)∈S.ar:=by
 intro m hm;obtain⟨h1,h2⟩:=pz hk;obtain⟨j,hj,e⟩:=Cj hm;have aO:j<ar.length:=by omega
 have:=h2 j ar[j] m (ey aO) (by rw[<-e]; exact ey hj)
 obtain⟨m',q,q1,q2,_⟩:=Is h (aB hh ar[j] (nN aO));rw[this] at q1; cases q1;exact⟨q,q2⟩
theorem wB (h:cp T own ρ S tm st) {hp:List uq} {ar:List yg} {live hs bh:List Nat} (h1:aU (C2 S σ) hp=true) (h2:aU (DP S σ) ar=true) (h3:tv S σ live=true) (h4:eo σ hp=some hs) (h5:eo σ ar=some bh) (h6:iG hs=true) (h7:iG bh=true) :
  bA (σ.val ρ) own hp ar live st:=by
 have i1:=tw h h1 h4;have i2:=qG h h2 h5;unfold tv at h3;cases hl:fe σ live with
 |none=>rw[hl] at h3; cases h3
 |some t =>
  rw[hl] at h3;obtain⟨d1,d2⟩:=ad (show aq (iG t) (subset t S.live)=true from h3)
  have d2:∀ m∈t,m∈S.live:=fun m hm=>py (aB d2 m hm)
  refine⟨fun p dZ=>?_,fun p dZ=>?_,fun n hn=>?_,?_,CI h.mem.rq hl (xN d1) d2⟩
  ·obtain⟨_,_,_,_,q⟩:=Hx h (aB h1 p dZ); exact q
  ·obtain⟨_,_,_,_,q⟩:=Is h (aB h2 p dZ); exact q
  ·rcases mN hl n hn with q |⟨m,hm,q⟩
   ·unfold Sub.val; rw[q]; exact .inl rfl
   ·rw[(lr q).1]; exact h.mem.nz m (d2 m hm)
  ·unfold bj
   rw[ff h4,ff h5,EJ];refine⟨y5 (xN h6) fun a ha b hb e=>wN h.mem (i1 a ha) (i1 b hb) e,y5 (xN h7) fun a ha b hb e=>y7 h.mem (i2 a ha) (i2 b hb) e,?_⟩
   intro a ha b hb e;obtain⟨m,hm,rfl⟩:=fD.1 ha;obtain⟨m',gO,rfl⟩:=fD.1 hb;exact mO h.mem (i1 m hm) (i2 m' gO) e
end
end Go.Ab
