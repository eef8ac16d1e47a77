/- Parts of the proof; no condition. -/
import Derived.Test.YthlkmffimhnehaaGreatZae
set_option linter.unusedSimpArgs false
set_option linter.unusedVariables false
namespace Go.Ab
noncomputable section
open Go.Ev
open Classical
variable {ρ : cz}
inductive SA where
 |int (k:IntKind) (l:af)
 |bl (f:BF)
 |str (s:SS)
 |sl (n:Nat)
 |ptr (n off:Nat)
 |ks (n m:Nat)
 |var (n:Nat)
 |iD (v:AV)
def SA.ev (ρ:cz):SA->AV
 | .int k l=>.int k (l.ev ρ)
 | .bl f=>.bool (decide (f.ev ρ))
 | .str s=>.str (s.ev ρ)
 | .sl n=>bN (ρ n)
 | .ptr n off=>.ptr (keyOf (ρ n)) off
 | .ks n m=>.ks (keyOf (ρ n)) 0 (bB (ρ m))
 | .var n=>ρ n
 | .iD v=>v
def atomic (v:AV):Prop:=v.cells=[v]
inductive SE where
 |a (x:SA)
 |agg (cs:List SA)
def SE.ev (ρ:cz):SE->AV
 | .a x=>x.ev ρ
 | .agg cs=>.agg (cs.map (SA.ev ρ))
inductive SV where
 |e (x:SE)
 |cv (l:List SE)
 |ro (cs:List SA) (off:Nat) (n:Nat) (i:af)
 |ap (n:Nat) (i:af) (size off:Nat)
def dT (v:AV) (i:Nat):Option (Nat × Nat):=match bN v with
 | .sl s es t=>kE t ((es.length-i)*s)
 |_=>none
def SV.ev (ρ:cz):SV->AV
 | .e x=>x.ev ρ
 | .cv l=>.cv (l.map (SE.ev ρ))
 | .ro cs off n i=>.ro (cs.map (SA.ev ρ)) off (dT (ρ n) (i.ev ρ).toNat)
 | .ap n i size off=>.ptr (keyOf (ρ n)) ((i.ev ρ).toNat*size+off)
def qF (v:AV):SA:=match v with
 | .int k n=>.int k (af.n n)
 | .bool b=>.bl (.k b)
 | .str s=>.str (.c s)
 |v=>.iD v
theorem rR (v:AV):(qF v).ev ρ=v:=by
 cases v<;>simp[qF,SA.ev,af.oO,SS.ev,BF.ev]
 rename_i b; cases b<;>simp
def AN (v:AV):SE:=match v with
 | .agg cs=>.agg (cs.map qF)
 |v=>.a (qF v)
theorem AM (v:AV):(AN v).ev ρ=v:=by
 cases v<;>simp[AN,SE.ev,rR]
 rename_i cs;rw[show(SA.ev ρ ∘ qF)=id from funext fun v=>rR v]; simp
def SE.cells (x:SE):Option (List SA):=match x with
 | .agg cs=>some cs
 | .a (.iD (.cv _))=>some []
 | .a (.iD .any)=>some []
 | .a (.iD (.agg _))=>none
 | .a (.var _)=>none
 | .a x=>some [x]
theorem SE.cY {x:SE} {cs:List SA} (h:x.cells=some cs):(x.ev ρ).cells=cs.map (SA.ev ρ):=by
 unfold SE.cells at h;split at h<;>first |cases h |skip
 ·rfl
 ·rfl
 ·rfl
 ·rename_i y h1 h2 h3 h4
  cases y with
  |iD v=>cases v<;>first |rfl |(exfalso; first |exact h1 _ rfl |exact h2 rfl |exact h3 _ rfl)
  |var n=>exact absurd rfl (h4 n)
  |sl n=>show AV.cells (bN (ρ n))=[bN (ρ n)]; cases ρ n<;>rfl
  |_=>rfl
theorem cj (v:AV):bB (bN v)=bB v:=by cases v<;>rfl
theorem jR (v:AV):bN (bN v)=bN v:=by cases v<;>rfl
def SA.w (x:SA):af:=match x with
 | .str s=>s.len.plus 1
 | .sl n=>af.at (8*n+3)
 | .iD v=>af.n (wt v)
 | .ks _ m=>(af.at (8*m+2)).plus 1
 |_=>af.n 1
def SA.IS (x:SA):Bool:=match x with
 | .var _=>false
 |_=>true
theorem SA.w_ok {x:SA} (h:x.IS=true):x.w.ev ρ=wt (x.ev ρ):=by
 cases x with
 |str s=>simp only[SA.w,af.bf,SS.fQ,SA.ev,wt]; omega
 |sl n=>simp only[SA.w,af.aR,ju,SA.ev]; rfl
 |var n=>cases h
 |iD v=>simp only[SA.w,af.oO,SA.ev]
 |ks n m=>simp only[SA.w,af.bf,af.aR,cU,SA.ev,wt]; omega
 |_=>simp[SA.w,af.oO,SA.ev,wt]
def wS (cs:List SA):af:=List.rec (motive:=fun _=>af) (af.n 0) (fun x _ ih=>af.add ih 1 x.w) cs
theorem LG {cs:List SA} (h:aU SA.IS cs=true):(wS cs).ev ρ=eB (cs.map (SA.ev ρ)):=by
 induction cs with
 |nil=>rfl
 |cons x t ih =>
  obtain⟨h1,h2⟩:=nY (show(Bool.rec false (aU SA.IS t) x.IS:Bool)=true from h)
  show(af.add (wS t) 1 x.w).ev ρ=_
  rw[af.aP,SA.w_ok h1,ih h2];simp only[ot,eB]; omega
theorem sW {v:AV} (h:(∃ cs,v = .agg cs)\/atomic v):eB v.cells=wt v:=by
 rcases h with⟨cs,rfl⟩ |h
 ·rfl
 ·rw[h]; simp[eB]
def SA.len (x:SA):Option af:=match x with
 | .sl n=>some (af.at (8*n+2))
 | .ks _ m=>some (af.at (8*m+2))
 | .iD .az=>some (af.n 0)
 |_=>none
theorem SA.E9 {x:SA} {l:af} (h:x.len=some l):l.ev ρ=bB (x.ev ρ)/\bN (x.ev ρ)=x.ev ρ:=by
 unfold SA.len at h;split at h<;>cases h
 ·exact⟨by rw[af.aR,cU,SA.ev,cj],jR _⟩
 ·exact⟨by rw[af.aR,cU]; rfl,rfl⟩
 ·exact⟨by rw[af.oO]; rfl,rfl⟩
inductive CT where
 |int (k:IntKind)
 |str (m:Nat)
 |bool
 |sl (t m:Nat)
 |lens (m:Nat)
 |any
structure Lr where
 agg:Bool
 aV:List CT
 conds:List BF
 trig:List Nat
 wb:Bool
abbrev TT:=Tr Lr
def inK (k:IntKind) (n:Int):Prop:=match k with
 | .u8=>0<=n/\n<=255
 | .u64=>0<=n
 |_=>True
def fq (cs:List AV) (j:Nat):AV:=(cs[j]?).getD gg
def yF (ct:CT) (v:Nat):SA:=match ct with
 | .int k=>.int k (af.at (8*v))
 | .str _=>.str (.v v)
 | .bool=>.bl (.u v)
 | .sl _ _=>.sl v
 | .lens _=>.sl v
 | .any=>.var v
def eZ (aV:List CT):Nat->List SA:=List.rec (motive:=fun _=>Nat->List SA) (fun _=>[]) (fun ct _ ih v=>yF ct v::ih (v+1)) aV
abbrev Sub:=Nat->SA
def Sub.val (σ:Sub) (ρ:cz):cz:=fun n=>(σ n).ev ρ
def kI (aV:List CT) (b:Nat):Sub:=fun j=>Option.rec (.iD gg) (fun ct=>yF ct (b+j)) (nth aV j)
mutual
inductive HT (T:TT):Nat->AV->Prop
 |mk {t:Nat} {v:AV} {d:Lr}:T.get t=some d->(d.agg=true->∃ cs,v = .agg cs)->(d.agg=false->atomic v)->qZ T d.aV v.cells->(∀ f∈d.conds,f.ev (fq v.cells))->HT T t v
inductive HC (T:TT):CT->AV->Prop
 |int {k n}:inK k n->HC T (.int k) (.int k n)
 |str {m s}:s.length<=m->HC T (.str m) (.str s)
 |bool (b:Bool):HC T .bool (.bool b)
 |az {t m}:HC T (.sl t m) .az
 |sl {t m d es aN}:T.get t=some d->es.length<=m->(∀ e,e∈es->HT T t e)->HC T (.sl t m) (.sl d.aV.length es aN)
 |lens {m v}:bN v=v->bB v<=m->HC T (.lens m) v
 |any (v:AV):HC T .any v
inductive qZ (T:TT):List CT->List AV->Prop
 |nil:qZ T [] []
 |cons {c cs v vs}:HC T c v->qZ T cs vs->qZ T (c::cs) (v::vs)
end
def j3 (T:TT) (t:Nat) (v:AV):Prop:=v = .az\/∃ d es aN,T.get t=some d/\v = .sl d.aV.length es aN/\∀ e∈es,HT T t e
def zQ (s:Nat) (v:AV):Prop:=v = .az\/∃ es aN,v = .sl s es aN
def yc (v:AV):Prop:=v = .az\/∃ s es id,v = .sl s es (.at id)
def Fact.ev (T:TT) (ρ:cz):Fact->Prop
 | .f b=>b.ev ρ
 | .ty n t=>j3 T t (bN (ρ n))
 | .sz n s=>zQ s (bN (ρ n))
 | .el n i b k=>0<=i.ev ρ/\∃ v,(elems (ρ n))[(i.ev ρ).toNat]?=some v/\v.cells.length=k/\∀ j c,v.cells[j]?=some c->ρ (b+j)=c
 | .pf n i t=>∀ e∈(elems (ρ n)).take (i.ev ρ).toNat,HT T t e
 | .cd t b=>∀ d,T.get t=some d->∀ f∈d.conds,f.ev ((kI d.aV b).val ρ)
 | .tp n=>yc (bN (ρ n))
theorem Ak (T:TT) (ρ:cz):vc ρ (Fact.ev T ρ):=fun _=>Iff.rfl
def Nz (n:Nat) (m:Nat) (c:Int):Option af:=Bool.rec
 (Bool.rec none (some (af.at (8*(((n+1)*65536+m)*65536+c.toNat)+4))) (Bool.rec (Bool.rec false (Nat.blt c.toNat 65536) (Nat.blt m 65536)) false (isNeg c))) none (Nat.blt 100000000 n)
def Lg (n m:Nat) (c:Int):Option af:=Bool.rec (Nz n m c) (some (af.n 0)) (aq (Nat.beq m 0) (yj c))
def VZ (σ:Sub) (n m c:Nat):Option af :=
 match (match σ n with | .sl n'=>some n' | .var n'=>some n' |_=>none) with
 |none=>none
 |some n'=>match m with
  |0=>Lg n' 0 c
  |m+1=>match σ m with
   | .int _ ⟨c',[]⟩=>Lg n' 0 (c+c')
   | .int _ ⟨c',[(a,.ofNat 1)]⟩=>match Nat.beq (a % 8) 0 with
    |true=>Lg n' (a / 8+1) (c+c')
    |false=>none
   | .var m'=>Lg n' (m'+1) c
   |_=>none
def GL (σ:Sub) (a:Nat):Option af :=
 bif Nat.beq (a % 8) 0 then (match σ (a / 8) with | .int _ l=>some l | .var m=>some (af.at (8*m)) |_=>none) else
 bif Nat.beq (a % 8) 1 then (match σ (a / 8) with | .str s=>some s.len | .var m=>some (af.at (8*m+1)) |_=>none) else
 bif Nat.beq (a % 8) 2 then (match σ (a / 8) with | .var m=>some (af.at (8*m+2)) |x=>x.len) else
 bif Nat.beq (a % 8) 3 then (match σ (a / 8) with | .sl m=>some (af.at (8*m+3)) | .var m=>some (af.at (8*m+3)) | .iD .az=>some (af.n 1) | .ks _ m=>some ((af.at (8*m+2)).plus 1) |_=>none) else
 VZ σ (a / 8 / 4294967296-1) (a / 8 / 65536 % 65536) (a / 8 % 65536)
def L9 (σ:Sub) (ts:List (Nat × Int)):Option af:=List.rec (motive:=fun _=>Option af) (some (af.n 0))
 (fun p _ ih=>match GL σ p.1,ih with |some l,some r=>some (af.add r p.2 l) |_,_=>none) ts
def af.sub (σ:Sub) (l:af):Option af:=match L9 σ l.ts with
 |some r=>some (r.plus l.c)
 |none=>none
def SS.sub (σ:Sub) (s:SS):Option SS:=match s with
 | .c s=>some (.c s)
 | .v n=>match σ n with
  | .str s=>some s
  | .var m=>some (.v m)
  |_=>none
def BF.sub (σ:Sub) (f:BF):Option BF:=match f with
 | .k b=>some (.k b)
 | .ge l=>match l.sub σ with |some l=>some (.ge l) |none=>none
 | .eq l=>match l.sub σ with |some l=>some (.eq l) |none=>none
 | .u n=>match σ n with | .bl f=>some f | .var m=>some (.u m) | .iD (.bool b)=>some (.k b) |_=>none
 | .seq x y=>match x.sub σ,y.sub σ with |some x,some y=>some (.seq x y) |_,_=>none
 | .dot n=>match σ n with | .str (.v m)=>some (.dot m) | .str (.c s)=>some (.k (Bool.rec true false (uF s))) | .var m=>some (.dot m) |_=>none
 | .not f=>match BF.sub σ f with |some f=>some (.not f) |none=>none
 | .and f g=>match BF.sub σ f,BF.sub σ g with |some f,some g=>some (.and f g) |_,_=>none
 | .or f g=>match BF.sub σ f,BF.sub σ g with |some f,some g=>some (.or f g) |_,_=>none
 | .imp f g=>match BF.sub σ f,BF.sub σ g with |some f,some g=>some (.imp f g) |_,_=>none
def SA.sub (σ:Sub) (x:SA):Option SA:=match x with
 | .int k l=>match l.sub σ with |some l=>some (.int k l) |none=>none
 | .bl f=>match f.sub σ with |some f=>some (.bl f) |none=>none
 | .str s=>match s.sub σ with |some s=>some (.str s) |none=>none
 | .sl n=>match σ n with | .sl m=>some (.sl m) | .var m=>some (.sl m) | .iD .az=>some (.iD .az) | .ks a b=>some (.ks a b) |_=>none
 | .ptr n off=>match σ n with | .ptr m _=>some (.ptr m off) | .var m=>some (.ptr m off) |_=>none
 | .ks n m=>match (match σ n with | .ptr a _=>some a | .var a=>some a | .ks a _=>some a |_=>none),(match σ m with | .sl b=>some b | .var b=>some b |_=>none) with
  |some a,some b=>some (.ks a b)
  |_,_=>none
 | .var n=>some (σ n)
 | .iD v=>some (.iD v)
theorem atV_P {n m c:Nat} (hm:m<65536) (hc:c<65536):gf ρ (8*(((n+1)*65536+m)*65536+c)+4)=yY (ρ n) ((if m=0 then 0 else intOf (ρ (m-1)))+(c:Int)).toNat:=by
 have h1:(8*(((n+1)*65536+m)*65536+c)+4) % 8=4:=by omega
 have h2:(8*(((n+1)*65536+m)*65536+c)+4) / 8=((n+1)*65536+m)*65536+c:=by omega
 have h3:(((n+1)*65536+m)*65536+c) / 4294967296=n+1:=by omega
 have h4:(((n+1)*65536+m)*65536+c) / 65536 % 65536=m:=by omega
 have h5:(((n+1)*65536+m)*65536+c) % 65536=c:=by omega
 unfold gf;rw[h1,h2,h3,h4,h5];cases m<;>simp[Nat.beq]
theorem Sq {n m:Nat} {c:Int} {l:af} (h:Nz n m c=some l):l.ev ρ=yY (ρ n) ((if m=0 then 0 else intOf (ρ (m-1)))+c).toNat:=by
 unfold Nz at h;cases h0:Nat.blt 100000000 n with
 |true=>rw[h0] at h; cases h
 |false =>
  rw[h0] at h;cases h1:isNeg c with
  |true=>rw[h1] at h; cases h
  |false =>
   cases h2:Nat.blt m 65536 with
   |false=>rw[h1,h2] at h; cases h
   |true =>
    cases h3:Nat.blt c.toNat 65536 with
    |false=>rw[h1,h2,h3] at h; cases h
    |true =>
     rw[h1,h2,h3] at h;have h:some (af.at (8*(((n+1)*65536+m)*65536+c.toNat)+4))=some l:=h;injection h with h
     subst h;have e2:m<65536:=gW (show Nat.ble (m+1) 65536=true from h2)
     have e3:c.toNat<65536:=gW (show Nat.ble (c.toNat+1) 65536=true from h3)
     have e1:¬ c<0:=fun hc=>by rw[(tD c).2 hc] at h1; cases h1
     rw[af.aR,atV_P e2 e3];rw[show((c.toNat:Nat):Int)=c by omega]
theorem qC {n m:Nat} {c:Int} {l:af} (h:Lg n m c=some l):l.ev ρ=yY (ρ n) ((if m=0 then 0 else intOf (ρ (m-1)))+c).toNat:=by
 unfold Lg at h;cases h1:aq (Nat.beq m 0) (yj c) with
 |false=>rw[h1] at h; exact Sq h
 |true =>
  rw[h1] at h;injection h with h
  subst h;obtain⟨h2,h3⟩:=ad h1;rw[(mP c).1 h3,bJ (kr h2),af.oO];simp[yY,eB]
theorem Aw (v:AV) (k:Nat):yY (bN v) k=yY v k:=by cases v<;>rfl
variable {σ : Sub}
theorem RB {n m c:Nat} {l:af} (h:VZ σ n m c=some l):l.ev ρ=yY (σ.val ρ n) ((if m=0 then 0 else intOf (σ.val ρ (m-1)))+(c:Int)).toNat:=by
 unfold VZ at h;split at h
 ·cases h
 rename_i n' hn;have e:∀ k,yY (σ.val ρ n) k=yY (ρ n') k:=by
  intro k;split at hn<;>cases hn
  ·rename_i h1; rw[Sub.val,h1,SA.ev,Aw]
  ·rename_i h1; rw[Sub.val,h1,SA.ev]
 rw[e];split at h
 ·rw[qC h]; rfl
 ·rename_i m'
  have ez:¬ (m'+1=0):=by omega
  rw[ba ez,show m'.succ-1=m' from rfl]
  split at h
  ·rename_i k c' hs
   rw[qC h,Sub.val,hs];simp only[oq,SA.ev,intOf,af.ev,eA]
   congr 2; omega
  ·rename_i k c' a hs
   split at h
   ·rename_i ha
    have ha:a % 8=0:=kr ha;rw[qC h,Sub.val,hs,ba (by omega),Nat.add_sub_cancel]
    have ea:a=8*(a / 8):=by omega
    have e2:af.ev ρ ⟨c',[(a,Int.ofNat 1)]⟩=intOf (ρ (a / 8))+c':=by
     have:gf ρ a=intOf (ρ (a / 8)):=by
      have:=dz (ρ:=ρ) (a / 8);rwa[<-ea] at this
     simp only[af.ev,eA,this,rH];omega
    show _=((yY (ρ n') (af.ev ρ ⟨c',[(a,Int.ofNat 1)]⟩+(c:Int)).toNat:Nat):Int)
    rw[e2,Int.add_assoc,Int.add_comm c' (c:Int)]
   ·cases h
  ·rename_i m2 hs
   rw[qC h,Sub.val,hs,ba (by omega),Nat.add_sub_cancel]; rfl
  ·cases h
theorem Mc {a:Nat} {l:af} (h:GL σ a=some l):l.ev ρ=gf (σ.val ρ) a:=by
 unfold GL at h;unfold gf;cases h0:Nat.beq (a % 8) 0 with
 |true =>
  rw[h0] at h;simp only[cond_true] at h ⊢;rw[Sub.val];split at h<;>cases h<;>rename_i h1<;>rw[h1]
  ·rfl
  ·rw[af.aR,dz]; rfl
 |false =>
  rw[h0] at h;simp only[cond_false] at h ⊢;cases h1:Nat.beq (a % 8) 1 with
  |true =>
   rw[h1] at h;simp only[cond_true] at h ⊢;rw[Sub.val];split at h<;>cases h<;>rename_i h1<;>rw[h1]
   ·rw[SS.fQ]; rfl
   ·rw[af.aR,o4]; rfl
  |false =>
   rw[h1] at h;simp only[cond_false] at h ⊢;cases h2:Nat.beq (a % 8) 2 with
   |true =>
    rw[h2] at h;simp only[cond_true] at h ⊢;rw[Sub.val];split at h
    ·rename_i h3; cases h; rw[h3,af.aR,cU]; rfl
    ·rename_i h3; exact(SA.E9 h).1
   |false =>
    rw[h2] at h;simp only[cond_false] at h ⊢;cases h3:Nat.beq (a % 8) 3 with
    |true =>
     rw[h3] at h;simp only[cond_true] at h ⊢;rw[Sub.val];split at h<;>cases h<;>rename_i h4<;>rw[h4]
     ·rw[af.aR,ju,SA.ev,nX,nX,jR]
     ·rw[af.aR,ju]; rfl
     ·rw[af.oO]; rfl
     ·rw[af.bf,af.aR,cU]; simp only[SA.ev,nX,bN,wt]; omega
    |false =>
     rw[h3] at h;simp only[cond_false] at h ⊢;rw[RB h];cases h4:Nat.beq (a / 8 / 65536 % 65536) 0 with
     |true=>have:=kr h4; simp[this]
     |false =>
      have:¬ (a / 8 / 65536 % 65536=0):=fun e=>by rw[e] at h4; cases h4
      simp[this]
theorem L8 {ts:List (Nat × Int)}:∀ {l:af},L9 σ ts=some l->l.ev ρ=eA (σ.val ρ) ts:=by
 induction ts with
 |nil=>intro l h; injection h with h; subst h; rfl
 |cons p t ih =>
  intro l h;have h:(match GL σ p.1,L9 σ t with |some l,some r=>some (af.add r p.2 l) |_,_=>none)=some l:=h
  split at h
  ·rename_i l1 r1 h1 h2
   cases h
   rw[af.aP,ih h2,Mc h1];simp only[eA]; omega
  ·cases h
theorem af.bG {l r:af} (h:l.sub σ=some r):r.ev ρ=l.ev (σ.val ρ):=by
 unfold af.sub at h;split at h
 ·rename_i r1 h1
  cases h
  rw[af.bf,L8 h1]; simp only[af.ev]; omega
 ·cases h
theorem SS.bG {s r:SS} (h:s.sub σ=some r):r.ev ρ=s.ev (σ.val ρ):=by
 unfold SS.sub at h;split at h
 ·cases h; rfl
 ·split at h<;>cases h<;>rename_i h1<;>simp[SS.ev,Sub.val,h1,SA.ev,strOf]
theorem wH {s:List UInt8}:uF s=true↔¬ (46:UInt8)∈s:=by
 constructor
 ·intro h hm
  have:=aB h _ hm;cases this
 ·intro h
  induction s with
  |nil=>rfl
  |cons b t ih =>
   show(Bool.rec false (uF t) (Bool.rec true false (Nat.beq b.toNat 46):Bool):Bool)=true
   have hb:Nat.beq b.toNat 46=false:=by
    cases hb:Nat.beq b.toNat 46 with
    |false=>rfl
    |true =>
     have:b=46:=UInt8.toNat_inj.1 (by rw[kr hb]; rfl)
     subst this;exact absurd (.head _) h
   rw[hb];exact ih (fun hm=>h (.tail _ hm))
theorem BF.bG {f:BF}:∀ {g:BF},f.sub σ=some g->(g.ev ρ↔f.ev (σ.val ρ)):=by
 induction f with
 |k b=>intro g h; cases h; rfl
 |ge l=>intro g h; simp only[BF.sub] at h; split at h<;>cases h; rename_i h1; simp only[BF.ev,af.bG h1]
 |eq l=>intro g h; simp only[BF.sub] at h; split at h<;>cases h; rename_i h1; simp only[BF.ev,af.bG h1]
 |u n =>
  intro g h;simp only[BF.sub] at h;split at h<;>cases h<;>rename_i h1<;>simp[BF.ev,Sub.val,h1,SA.ev]
 |seq x y =>
  intro g h;simp only[BF.sub] at h;split at h<;>cases h
  rename_i h1 h2;simp only[BF.ev,SS.bG h1,SS.bG h2]
 |dot n =>
  intro g h;simp only[BF.sub] at h;split at h<;>cases h<;>rename_i h1<;>simp only[BF.ev,Sub.val,h1,SA.ev,SS.ev,strOf]
  rename_i s;cases h2:uF s with
  |true=>have:=wH.1 h2; simp[this]
  |false=>simp; by_cases hm:(46:UInt8)∈s
          ·exact hm
          ·rw[wH.2 hm] at h2; cases h2
 |not f ih=>intro g h; simp only[BF.sub] at h; split at h<;>cases h; rename_i h1; simp only[BF.ev,ih h1]
 |and f g jU jl=>intro g h; simp only[BF.sub] at h; split at h<;>cases h; rename_i h1 h2; simp only[BF.ev,jU h1,jl h2]
 |or f g jU jl=>intro g h; simp only[BF.sub] at h; split at h<;>cases h; rename_i h1 h2; simp only[BF.ev,jU h1,jl h2]
 |imp f g jU jl=>intro g h; simp only[BF.sub] at h; split at h<;>cases h; rename_i h1 h2; simp only[BF.ev,jU h1,jl h2]
theorem SA.bG {x y:SA} (h:x.sub σ=some y):y.ev ρ=x.ev (σ.val ρ):=by
 cases x with
 |int k l=>simp only[SA.sub] at h; split at h<;>cases h; rename_i h1; simp only[SA.ev,af.bG h1]
 |bl f=>simp only[SA.sub] at h; split at h<;>cases h; rename_i h1; simp only[SA.ev,BF.bG h1]
 |str s=>simp only[SA.sub] at h; split at h<;>cases h; rename_i h1; simp only[SA.ev,SS.bG h1]
 |sl n=>simp only[SA.sub] at h; split at h<;>cases h<;>rename_i h1<;>simp only[SA.ev,Sub.val,h1,jR]<;>rfl
 |ptr n off=>simp only[SA.sub] at h; split at h<;>cases h<;>rename_i h1<;>simp only[SA.ev,Sub.val,h1,keyOf]
 |ks n m =>
  simp only[SA.sub] at h;split at h
  ·rename_i a b h1 h2
   cases h
   have e1:keyOf (σ.val ρ n)=keyOf (ρ a):=by split at h1<;>cases h1<;>rename_i h3<;>simp only[Sub.val,h3,SA.ev,keyOf]
   have e2:bB (σ.val ρ m)=bB (ρ b):=by split at h2<;>cases h2<;>rename_i h3<;>simp only[Sub.val,h3,SA.ev,cj]
   simp only[SA.ev,e1,e2]
  ·cases h
 |var n=>cases h; rfl
 |iD v=>cases h; rfl
end
end Go.Ab
namespace Go.Ab
noncomputable section
open Go.Ev
def dO {α β:Type} (f:α->Option β) (l:List α):Option (List β):=List.rec (some []) (fun a _ ih=>Option.rec none (fun b=>Option.rec none (fun t=>some (b::t)) ih) (f a)) l
def fE {α β:Type} (f:α->Option (List β)) (l:List α):Option (List β):=List.rec (some []) (fun a _ ih=>Option.rec none (fun b=>Option.rec none (fun t=>some (b++t)) ih) (f a)) l
def bm {α β:Type} (f:β->α->β) (l:List α):β->β:=List.rec (motive:=fun _=>β->β) (fun b=>b) (fun a _ ih b=>ih (f b a)) l
def qD (n:Nat) (l:List Nat):Bool:=dY (Nat.beq n) l
def lM (n:Nat) (l:List Nat):List Nat:=List.rec [] (fun a _ ih=>Bool.rec (a::ih) ih (Nat.beq a n)) l
def iG (l:List Nat):Bool:=List.rec true (fun a t ih=>Bool.rec ih false (qD a t)) l
def br {α:Type} (b:Bool) (x:Option α):Option α:=Bool.rec none x b
def NU {α:Type} (b:Bool) (x y:α):α:=Bool.rec y x b
def isNil {α:Type} (l:List α):Bool:=List.rec true (fun _ _ _=>false) l
structure Sy where
 sl:Tr SV
 hp:List (Nat × Nat × List SA)
 ar:List (Nat × Nat × Nat × Nat)
 live:List Nat
 F:ai
 nx:Nat
structure QG where
 nv:Nat
 res:List SE
 hp:List (Nat × Nat × List SA)
 ar:List (Nat × Nat × Nat × Nat)
 live:List Nat
 facts:List Fact
structure fS where
 np:Nat
 args:List SE
 hp:List (Nat × Nat × List SA)
 ar:List (Nat × Nat × Nat × Nat)
 live:List Nat
 facts:List Fact
 lz:Nat
 dE:af
 ny:List QG
structure Tm where
 nv:Nat
 cI:List Nat
 sl:List (Nat × SV)
 hp:List (Nat × Nat × List SA)
 ar:List (Nat × Nat × Nat × Nat)
 live:List Nat
 facts:List Fact
 dE:af
inductive An where
 |o
 |s (ts:List Tm) (a:An) (bs:List An)
 |c (bh:List An)
 |l (ts:List Tm) (bh:List An)
structure Cx where
 T:TT
 K:Nat->List fS
 cV:Tr (List Nat)
 pw:Bool
 lz:Nat
 dE:af
def BF.beq (f:BF):BF->Bool :=
 BF.rec (motive:=fun _=>BF->Bool) (fun b g=>match g with | .k c=>Bool.rec (Bool.rec true false c) c b |_=>false)
  (fun l g=>match g with | .ge m=>af.beq l m |_=>false)
  (fun l g=>match g with | .eq m=>af.beq l m |_=>false)
  (fun n g=>match g with | .u m=>Nat.beq n m |_=>false)
  (fun x y g=>match g with | .seq a b=>aq (SS.beq x a) (SS.beq y b) |_=>false)
  (fun n g=>match g with | .dot m=>Nat.beq n m |_=>false)
  (fun _ ih g=>match g with | .not h=>ih h |_=>false)
  (fun _ _ ih1 WS g=>match g with | .and a b=>aq (ih1 a) (WS b) |_=>false)
  (fun _ _ ih1 WS g=>match g with | .or a b=>aq (ih1 a) (WS b) |_=>false)
  (fun _ _ ih1 WS g=>match g with | .imp a b=>aq (ih1 a) (WS b) |_=>false) f
def FY (v w:AV):Bool:=match v,w with
 | .az,.az=>true
 | .iL,.iL=>true
 | .kV,.kV=>true
 | .kU,.kU=>true
 | .any,.any=>true
 | .cv [],.cv []=>true
 | .fn f [] [],.fn g [] []=>Nat.beq f g
 |_,_=>false
def Fi (k j:IntKind):Bool:=decide (k=j)
def SA.same (F:ai) (x y:SA):Bool:=match x,y with
 | .int k l,.int j m=>aq (Fi k j) (fN (af.beq l m) (yt F (af.add l (-1) m)))
 | .bl f,.bl g=>fN (BF.beq f g) (fN (aq (f.pr F true) (g.pr F true)) (aq (f.pr F false) (g.pr F false)))
 | .str s,.str t=>fN (SS.beq s t) (G7 F s t)
 | .sl n,.sl m=>Nat.beq n m
 | .ptr n o,.ptr m p=>aq (Nat.beq n m) (Nat.beq o p)
 | .ks n a,.ks m b=>aq (Nat.beq n m) (Nat.beq a b)
 | .var n,.var m=>Nat.beq n m
 | .iD v,.iD w=>FY v w
 |_,_=>false
def kN {α β:Type} (p:α->β->Bool) (x:List α):List β->Bool :=
 List.rec (motive:=fun _=>List β->Bool) (fun y=>isNil y) (fun a _ ih y=>List.rec (motive:=fun _=>Bool) false (fun b t _=>Bool.rec false (ih t) (p a b)) y) x
def SE.same (F:ai) (x y:SE):Bool:=match x,y with
 | .a x,.a y=>SA.same F x y
 | .agg x,.agg y=>kN (SA.same F) x y
 |_,_=>false
def SV.same (F:ai) (x y:SV):Bool:=match x,y with
 | .e x,.e y=>SE.same F x y
 | .cv x,.cv y=>kN (SE.same F) x y
 | .ro x a n i,.ro y b m j=>aq (aq (Nat.beq a b) (aq (Nat.beq n m) (af.beq i j))) (kN (SA.same F) x y)
 | .ap n i s o,.ap m j t p=>aq (aq (Nat.beq n m) (Nat.beq s t)) (aq (Nat.beq o p) (af.beq i j))
 |_,_=>false
def jQ (x:SA):Option Nat:=match x with
 | .sl m=>some m
 | .var m=>some m
 |_=>none
def SE.sub (σ:Sub) (x:SE):Option SE:=match x with
 | .a x=>Option.rec none (fun y=>some (.a y)) (x.sub σ)
 | .agg cs=>Option.rec none (fun y=>some (.agg y)) (dO (SA.sub σ) cs)
def SV.sub (σ:Sub) (x:SV):Option SV:=match x with
 | .e x=>Option.rec none (fun y=>some (.e y)) (x.sub σ)
 | .cv l=>Option.rec none (fun y=>some (.cv y)) (dO (SE.sub σ) l)
 | .ro cs off n i=>(match dO (SA.sub σ) cs,jQ (σ n),i.sub σ with
  |some y,some m,some j=>some (.ro y off m j)
  |_,_,_=>none)
 | .ap n i s o=>match SA.sub σ (.ptr n 0),i.sub σ with
  |some (.ptr m _),some j=>some (.ap m j s o)
  |_,_=>none
def ai.Ep (F:ai) (n:Nat):ai:=⟨F.ix,F.fs,F.df,F.bd,F.bad,n⟩
def zB (j:Nat) (f:BF):Option Nat:=match f with
 | .ge ⟨.ofNat c,[(a,.negSucc 0)]⟩=>Bool.rec none (some c) (Nat.beq a (8*j+3))
 |_=>none
def wbC (r:Nat->Option Nat) (conds:List BF) (j:Nat) (ct:CT):Option Nat:=match ct with
 | .int _=>some 1
 | .bool=>some 1
 | .str m=>some (m+1)
 | .sl t m=>(match cX (zB j) conds with
  |some c=>some c
  |none=>(match r t with
   |some w=>some (m*(w+1)+1)
   |none=>none))
 | .lens _=>cX (zB j) conds
 | .any=>none
def wbL (r:Nat->Option Nat) (conds:List BF) (aV:List CT):Nat->Option Nat:=List.rec (motive:=fun _=>Nat->Option Nat) (fun _=>some 0) (fun ct _ ih j=>match wbC r conds j ct,ih (j+1) with
 |some a,some b=>some (a+b)
 |_,_=>none) aV
def wbT (T:TT) (fuel:Nat):Nat->Option Nat:=Nat.rec (motive:=fun _=>Nat->Option Nat) (fun _=>none) (fun _ ih t=>match T.get t with
 |some d=>wbL ih d.conds d.aV 0
 |none=>none) fuel
def oN (T:TT) (F:ai) (v t:Nat):ai :=
 let F1:=F.fact v (.ty v t)
 Option.rec F1 (fun d=>Bool.rec F1 (Option.rec F1 (fun b=>F1.ge ((af.add (af.EA ((b+1:Nat):Int) (af.at (8*v+2))) (-1) (af.at (8*v+3))).plus 1)) (wbT T 6 t)) d.wb) (T.get t)
def FX (T:TT) (F:ai) (ct:CT) (v:Nat):ai:=match ct with
 | .int .u8=>(F.ge (af.at (8*v))).ge (af.from 255 (af.at (8*v)))
 | .int .u64=>F.ge (af.at (8*v))
 | .int _=>F
 | .str m=>F.ge (af.from m (af.at (8*v+1)))
 | .bool=>F
 | .sl t m=>oN T (F.ge (af.from m (af.at (8*v+2)))) v t
 | .lens m=>F.ge (af.from m (af.at (8*v+2)))
 | .any=>F
def Ig (T:TT) (aV:List CT):ai->Nat->ai:=List.rec (motive:=fun _=>ai->Nat->ai) (fun F _=>F) (fun ct _ ih F v=>ih (FX T F ct v) (v+1)) aV
def tight (x y:Option Int):Option Int:=match x,y with
 |some a,some b=>Bool.rec none (some a) (yj (ia a (im JT b)))
 |_,_=>none
def Ro (F:ai) (l:af):Option Int:=List.rec (some l.c) (fun _ _ _=>tight (wL F.bd l.ts l.c) (IV F.bd l.ts l.c)) l.ts
def tM (f:BF) (F:ai):Bool:=match f with
 | .eq l=>fN F.bad (Option.rec false yj (Ro F (F.norm l)))
 |f=>f.pr (F.Ep 1) true
def Pj (f:BF):ai->ai :=
 BF.rec (motive:=fun _=>ai->ai) (fun b F=>F) (fun l F=>F.ge l) (fun l F=>F.eq l) (fun n F=>(BF.u n).add F true) (fun x y F=>(BF.seq x y).add F true) (fun n F=>(BF.dot n).add F true)
  (fun f _ F=>f.add F false) (fun f g _ _ F=>g.add (f.add F true) true) (fun f g _ _ F=>F) (fun f _ _ ih F=>Bool.rec F (ih F) (tM f F)) f
def Pg (σ:Sub) (F:ai) (f:BF):ai:=Option.rec F (fun g=>Pj g F) (f.sub σ)
def pN (T:TT) (t:Nat):List BF:=Option.rec [] (fun d=>d.conds) (T.get t)
def js (T:TT) (t:Nat):List CT:=Option.rec [] (fun d=>d.aV) (T.get t)
def A8 {α:Type} (p:α->Bool) (l:List α):List α:=List.rec [] (fun a _ ih=>Bool.rec ih (a::ih) (p a)) l
def Yr (F:ai) (σ:Sub) (a:Nat):Option Int:=Option.rec none (fun l=>Ro F (F.norm l)) (af.sub σ ⟨0,[(a,1)]⟩)
def Wg (F:ai) (σ:Sub) (g:BF):Bool:=match g with
 | .eq ⟨c,[(a,q)]⟩=>Option.rec false (fun v=>yj (ia (im q v) c)) (Yr F σ a)
 |g=>Option.rec false (fun g=>tM g F) (g.sub σ)
def Wh (F:ai) (σ:Sub) (f:BF):Bool:=match f with
 | .imp g _=>Wg F σ g
 |_=>true
def Pc (T:TT) (F:ai) (t b:Nat):ai:=bm (Pg (kI (js T t) b)) (A8 (Wh F (kI (js T t) b)) (pN T t)) F
def Pe (T:TT) (F:ai) (f:Fact):ai:=match f with
 | .cd t b=>Pc T F t b
 |_=>F
def U9 (T:TT) (F:ai) (v:Nat):ai:=bm (Pe T) (fF F.fs v) F
def Uv (l:af):List Nat:=List.rec (motive:=fun _=>List Nat) [] (fun p _ ih=>(p.1 / 8)::ih) l.ts
def Uu (s:SS):List Nat:=match s with
 | .v n=>[n]
 | .c _=>[]
def varsB (f:BF):List Nat:=BF.rec (motive:=fun _=>List Nat) (fun _=>[]) (fun l=>Uv l) (fun l=>Uv l) (fun n=>[n]) (fun x y=>Uu x++Uu y) (fun n=>[n]) (fun _ ih=>ih) (fun _ _ a b=>a++b) (fun _ _ a b=>a++b) (fun _ _ a b=>a++b) f
def assume (T:TT) (F:ai) (f:BF) (b:Bool):ai:=bm (U9 T) (varsB f) (f.add F b)
def DU (T:TT) (F:ai) (t b:Nat):ai:=Option.rec F (fun d=>Pc T (bm (fun F j=>F.fact (b+j) (.cd t b)) d.trig F) t b) (T.get t)
def kO (T:TT) (b:Nat) (F:ai) (t:Nat):ai:=Option.rec F (fun d=>DU T (Ig T d.aV F b) t b) (T.get t)
def VR (n:Nat) (f:Fact) (ih:List Nat):List Nat:=match f with
 | .ty m t=>Bool.rec ih (t::ih) (Nat.beq m n)
 |_=>ih
def VQ (n:Nat) (l:List Fact):List Nat:=List.rec [] (fun f _ ih=>VR n f ih) l
def nu (F:ai) (n:Nat):List Nat:=VQ n (fF F.fs n)
def Da (F:ai) (n t:Nat):Bool:=dY (fun f=>match f with | .ty m s=>aq (Nat.beq m n) (Nat.beq s t) |_=>false) (fF F.fs n)
def gF (T:TT) (F:ai) (n s:Nat):Bool:=dY (fun f=>match f with
 | .sz m q=>aq (Nat.beq m n) (Nat.beq q s)
 | .ty m t=>aq (Nat.beq m n) (Option.rec false (fun d=>Nat.beq d.aV.length s) (T.get t))
 |_=>false) (fF F.fs n)
def A7 (F:ai) (n:Nat) (i:af):Option Nat:=cX (fun f=>match f with | .el m j b _=>Bool.rec none (some b) (aq (Nat.beq m n) (af.beq i j)) |_=>none) (fF F.fs n)
def Nv (F:ai) (n:Nat):Bool:=bV F (af.EA (-1) (af.at (8*n+2)))
def UH (F:ai) (m t:Nat) (f:Fact):Bool:=match f with
 | .pf k i s=>aq (aq (Nat.beq k m) (Nat.beq s t)) (bV F (af.add i (-1) (af.at (8*m+2))))
 |_=>false
def tyV (T:TT) (F:ai) (m t:Nat):Bool:=fN (Da F m t) (aq (Option.rec false (fun d=>gF T F m d.aV.length) (T.get t)) (fN (Nv F m) (dY (UH F m t) (fF F.fs m))))
def tyA (T:TT) (F:ai) (n t:Nat):Bool:=fN (Da F n t) (aq (Option.rec false (fun d=>gF T F n d.aV.length) (T.get t)) (Nv F n))
def KG (T:TT) (F:ai) (ct:CT) (x:SA):Bool:=match ct,x with
 | .int k,.int j l=>aq (Fi k j) (match k with | .u8=>aq (bV F l) (bV F (af.from 255 l)) | .u64=>bV F l |_=>true)
 | .str m,.str s=>bV F (af.from m s.len)
 | .bool,.bl _=>true
 | .sl t m,.iD .az=>true
 | .sl t m,.sl n=>aq (tyV T F n t) (bV F (af.from m (af.at (8*n+2))))
 | .lens m,x=>Option.rec false (fun l=>bV F (af.from m l)) x.len
 | .any,_=>true
 |_,_=>false
def I6 (cs:List SA):Sub:=fun j=>Option.rec (.iD gg) (fun x=>x) (nth cs j)
def varOf (x:SA):Option Nat:=match x with
 | .int _ ⟨0,[(a,1)]⟩=>some (a / 8)
 | .bl (.u n)=>some n
 | .str (.v n)=>some n
 | .sl n=>some n
 | .var n=>some n
 |_=>none
def F3 (T:TT) (f:BF):ai->Bool :=
 BF.rec (motive:=fun _=>ai->Bool) (fun b F=>(BF.k b).pr F true) (fun l F=>(BF.ge l).pr F true) (fun l F=>(BF.eq l).pr F true) (fun n F=>(BF.u n).pr F true) (fun x y F=>(BF.seq x y).pr F true) (fun n F=>(BF.dot n).pr F true)
  (fun f _ F=>(BF.not f).pr F true) (fun f g _ _ F=>(BF.and f g).pr F true) (fun f g _ _ F=>(BF.or f g).pr F true)
  (fun f _ _ ih F=>fN (f.pr F false) (fN (assume T F f true).bad (ih (assume T F f true)))) f
def tZ (T:TT) (σ:Sub) (F:ai) (f:BF):Bool:=Option.rec false (fun g=>F3 T g F) (f.sub σ)
def CO (T:TT) (F:ai) (cs:List SA) (t:Nat):Bool:=Option.rec false
 (fun d=>aq (kN (KG T F) d.aV cs) (fN (isNil d.conds) (aU (tZ T (I6 cs) F) d.conds))) (T.get t)
def It (agg:Bool) (n:Nat) (x:SE):Bool:=match x with
 | .agg _=>agg
 | .a _=>aq (Nat.beq n 1) (Bool.rec true false agg)
def ly (T:TT) (F:ai) (x:SE) (t:Nat):Bool:=Option.rec false (fun d=>Option.rec false (fun cs=>aq (It d.agg cs.length x) (CO T F cs t)) x.cells) (T.get t)
def eqB (a b:Bool):Bool:=Bool.rec (Bool.rec true false b) b a
def pfIs (m t:Nat) (j:af) (f:Fact):Bool:=match f with
 | .pf k q s=>aq (aq (Nat.beq k m) (Nat.beq s t)) (af.beq q j)
 |_=>false
def pf1 (F:ai) (m t:Nat) (j:af):Bool:=fN (bV F (af.EA (-1) j)) (dY (pfIs m t j) (fF F.fs m))
def Yg (T:TT) (F:ai) (b k t s:Nat):Bool:=Option.rec false (fun d=>Option.rec false (fun e=>aq (aq (eqB d.agg e.agg) (Nat.beq e.aV.length k)) (CO T F (eZ e.aV b) t)) (T.get s)) (T.get t)
def pfEl (T:TT) (F:ai) (m t:Nat) (j:af) (f:Fact):Bool:=match f with
 | .el n i b k=>aq (aq (Nat.beq n m) (af.beq (i.plus 1) j)) (aq (pf1 F m t i) (dY (Yg T F b k t) (nu F m)))
 |_=>false
def pfOk (T:TT) (F:ai) (m t:Nat) (j:af):Bool:=fN (pf1 F m t j) (dY (pfEl T F m t j) (fF F.fs m))
def axP1 (c:Int) (a:Nat) (x:Int) (b:Nat) (y:Int):Bool:=aq (aq (Bool.rec true false (isNeg (c+1))) (aq (isNeg x) (nB x))) (aq (aq (Bool.rec true false (isNeg y)) (nB y)) (aq (Nat.beq (a % 8) 4) (Nat.beq b (Lc a))))
def axW1 (c:Int) (a:Nat) (x:Int) (b:Nat) (y:Int):Bool:=aq (aq (Bool.rec true false (isNeg (c+1))) (aq (Bool.rec true false (isNeg x)) (nB x))) (aq (aq (isNeg y) (nB y)) (aq (Nat.beq (a % 8) 3) (Nat.beq (b+1) a)))
def axP (f:BF):Bool:=match f with
 | .ge ⟨c,[(a,x),(b,y)]⟩=>fN (axP1 c a x b y) (axW1 c a x b y)
 |_=>false
def isVar (x:SA) (n:Nat):Bool:=match x with
 | .var m=>Nat.beq m n
 |_=>false
def elIs (σ:Sub) (m:Nat) (j:af) (b k:Nat) (f:Fact):Bool:=match f with
 | .el n i c q=>aq (aq (Nat.beq n m) (af.beq i j)) (aq (Nat.beq q k) (aU (fun x=>isVar (σ (b+x)) (c+x)) (List.range k)))
 |_=>false
def zI (σ:Sub) (aV:List CT) (b:Nat):Option (List SA):=dO (SA.sub σ) (eZ aV b)
def HH (F:ai) (n:Nat):Bool:=dY (fun f=>match f with | .tp m=>Nat.beq m n |_=>false) (fF F.fs n)
def M6 (T:TT) (F:ai) (σ:Sub) (f:Fact):Bool:=match f with
 | .f b=>Option.rec false (fun g=>fN (axP g) (g.pr F true)) (b.sub σ)
 | .ty n t=>(match σ n with
  | .iD .az=>true
  |x=>Option.rec false (fun m=>tyV T F m t) (jQ x))
 | .sz n s=>(match σ n with
  | .iD .az=>true
  |x=>Option.rec false (fun m=>gF T F m s) (jQ x))
 | .el n i b k=>(match jQ (σ n),i.sub σ with
  |some m,some j=>dY (elIs σ m j b k) (fF F.fs m)
  |_,_=>false)
 | .pf n i t=>(match σ n with
  | .iD .az=>true
  |x=>(match jQ x,i.sub σ with
   |some m,some j=>pfOk T F m t j
   |_,_=>false))
 | .cd t b=>Option.rec false (fun cs=>aU (tZ T (I6 cs) F) (pN T t)) (zI σ (js T t) b)
 | .tp n=>(match σ n with
  | .iD .az=>true
  |x=>Option.rec false (fun m=>HH F m) (jQ x))
def T3 (ct:CT) (x:SA) (v:Nat):Bool:=match ct,x with
 | .int k,.int j l=>aq (Fi k j) (af.beq l (af.at (8*v)))
 | .str _,.str (.v n)=>Nat.beq n v
 | .bool,.bl (.u n)=>Nat.beq n v
 | .sl _ _,.sl n=>Nat.beq n v
 | .lens _,.sl n=>Nat.beq n v
 | .any,.var n=>Nat.beq n v
 |_,_=>false
def zz (aV:List CT):List SA->Nat->Bool :=
 List.rec (motive:=fun _=>List SA->Nat->Bool) (fun xs _=>isNil xs) (fun ct _ ih xs v=>List.rec (motive:=fun _=>Bool) false (fun x t _=>Bool.rec false (ih t (v+1)) (T3 ct x v)) xs) aV
def P3 (σ:Sub) (aV:List CT) (b:Nat):Option Nat:=Option.rec none (fun cs=>List.rec (motive:=fun _=>Option Nat) none (fun x _ _=>Option.rec none (fun c=>Bool.rec none (some c) (zz aV cs c)) (varOf x)) cs) (zI σ aV b)
def Bx (T:TT) (σ:Sub) (F:ai) (f:Fact):ai:=match f with
 | .f b=>Option.rec F (fun g=>assume T F g true) (b.sub σ)
 | .ty n t=>Option.rec F (fun m=>oN T F m t) (jQ (σ n))
 | .sz n s=>Option.rec F (fun m=>F.fact m (.sz m s)) (jQ (σ n))
 | .el n i b k=>(match jQ (σ n),i.sub σ,σ b with
  |some m,some j,.var c=>Bool.rec F (F.fact m (.el m j c k)) (aU (fun x=>isVar (σ (b+x)) (c+x)) (List.range k))
  |_,_,_=>F)
 | .pf n i t=>(match jQ (σ n),i.sub σ with
  |some m,some j=>F.fact m (.pf m j t)
  |_,_=>F)
 | .cd t b=>Option.rec F (fun c=>DU T F t c) (P3 σ (js T t) b)
 | .tp n=>Option.rec F (fun m=>F.fact m (.tp m)) (jQ (σ n))
def DB (σ:Sub) (F:ai) (f:Fact):Bool:=match f with
 | .f b=>Option.rec false (fun g=>g.pr F false) (b.sub σ)
 |_=>false
def Qw (T:TT) (σ:Sub) (l:List Fact):ai->Option ai :=
 List.rec (motive:=fun _=>ai->Option ai) (fun F=>some F) (fun f _ ih F=>Bool.rec (ih (Bx T σ F f)) none (DB σ (F.Ep 3) f)) l
def RN (n a:Nat):Bool:=Bool.rec (aq (Nat.blt (a / 8 / 4294967296-1) n) (fN (Nat.beq (a / 8 / 65536 % 65536) 0) (Nat.blt (a / 8 / 65536 % 65536-1) n))) (Nat.blt (a / 8) n) (Nat.ble (a % 8) 3)
def Mw (n:Nat) (l:af):Bool:=aU (fun p=>RN n p.1) l.ts
def scS (n:Nat) (s:SS):Bool:=SS.rec (fun m=>Nat.blt m n) (fun _=>true) s
def scB (n:Nat) (f:BF):Bool:=BF.rec (fun _=>true) (Mw n) (Mw n) (fun m=>Nat.blt m n) (fun x y=>aq (scS n x) (scS n y)) (fun m=>Nat.blt m n) (fun _ h=>h) (fun _ _ a b=>aq a b) (fun _ _ a b=>aq a b) (fun _ _ a b=>aq a b) f
def UB (n:Nat) (x:SA):Bool:=match x with
 | .int _ l=>Mw n l
 | .bl f=>scB n f
 | .str s=>scS n s
 | .sl m=>Nat.blt m n
 | .ptr m _=>Nat.blt m n
 | .ks m q=>aq (Nat.blt m n) (Nat.blt q n)
 | .var m=>Nat.blt m n
 | .iD _=>true
def scE (n:Nat) (x:SE):Bool:=match x with
 | .a x=>UB n x
 | .agg cs=>aU (UB n) cs
def scV (n:Nat) (x:SV):Bool:=match x with
 | .e x=>scE n x
 | .cv l=>aU (scE n) l
 | .ro cs _ m i=>aq (aU (UB n) cs) (aq (Nat.blt m n) (Mw n i))
 | .ap m i _ _=>aq (Nat.blt m n) (Mw n i)
def scF (T:TT) (n:Nat) (f:Fact):Bool:=match f with
 | .f b=>scB n b
 | .ty m _=>Nat.blt m n
 | .sz m _=>Nat.blt m n
 | .el m i b k=>aq (Nat.blt m n) (aq (Mw n i) (Nat.ble (b+k) n))
 | .pf m i _=>aq (Nat.blt m n) (Mw n i)
 | .cd t b=>Nat.ble (b+(js T t).length) n
 | .tp m=>Nat.blt m n
def My (n:Nat) (p:Nat × Nat × List SA):Bool:=aq (Nat.blt p.1 n) (aq (Nat.blt p.2.1 n) (aU (UB n) p.2.2))
def MC (n:Nat) (p:Nat × Nat × Nat × Nat):Bool:=aq (Nat.blt p.1 n) (aq (Nat.blt p.2.1 n) (Nat.blt p.2.2.1 n))
def Mv (T:TT) (n:Nat) (t:Tm):Bool :=
 aq (aU (fun p=>scV n p.2) t.sl) (aq (aU (My n) t.hp) (aq (aU (MC n) t.ar) (aq (aU (fun m=>Nat.blt m n) t.live) (aq (aU (scF T n) t.facts) (Mw n t.dE)))))
def EC (T:TT) (np:Nat) (p:QG):Bool :=
 aq (aU (scE (np+p.nv)) p.res) (aq (aU (My (np+p.nv)) p.hp) (aq (aU (MC (np+p.nv)) p.ar) (aq (aU (fun m=>Nat.blt m (np+p.nv)) p.live) (aU (scF T (np+p.nv)) p.facts))))
def nw (T:TT) (k:fS):Bool :=
 aq (aU (scE k.np) k.args) (aq (aU (My k.np) k.hp) (aq (aU (MC k.np) k.ar) (aq (aU (fun m=>Nat.blt m k.np) k.live) (aq (aU (scF T k.np) k.facts) (aq (Mw k.np k.dE) (aU (EC T k.np) k.ny))))))
abbrev PR:=Option (SV × ai × Nat × List Nat)
def rf (S:Sy) (x:XO):Option SV:=match x with
 | .t n=>S.sl.get n
 | .c v=>some (.e (AN v))
def FV (S:Sy) (x:XO):Option SE:=match rf S x with
 |some (.e x)=>some x
 |_=>none
def mo (S:Sy) (x:XO):Option SA:=match rf S x with
 |some (.e (.a x))=>some x
 |_=>none
def tk (S:Sy) (x:XO):Option af:=match mo S x with
 |some (.int _ l)=>some l
 |_=>none
def old (S:Sy) (v:SV):PR:=some (v,S.F,0,[])
def dW (S:Sy) (x:SA):PR:=old S (.e (.a x))
def ifF (b:Bool) (f:ai->ai) (F:ai):ai:=Bool.rec F (f F) b
def NO (F:ai) (k:IntKind) (v:Nat):ai:=match k with
 | .u8=>(F.ge (af.at (8*v))).ge (af.from 255 (af.at (8*v)))
 | .u64=>F.ge (af.at (8*v))
 |_=>F
def E5 (S:Sy) (k:IntKind):PR:=some (.e (.a (.int k (af.at (8*S.nx)))),NO S.F k S.nx,1,[])
def newR (S:Sy) (k:IntKind):PR:=some (.e (.a (.int k (af.at (8*S.nx)))),S.F,1,[])
def Nx (S:Sy):PR:=some (.e (.a (.bl (.u S.nx))),S.F,1,[])
def fits (F:ai) (k:IntKind) (l:af):Bool:=match k with
 | .i64=>aq (bV F (l.plus 9223372036854775808)) (bV F (af.from 9223372036854775807 l))
 | .u8=>aq (bV F l) (bV F (af.from 255 l))
 | .u64=>aq (bV F l) (bV F (af.from 18446744073709551615 l))
 |_=>false
def exact(S:Sy) (k:IntKind) (l:af):PR:=NU (fits S.F k l) (dW S (.int k l)) (E5 S k)
def gS (cs:List SA):Nat->List SA->List SA :=
 List.rec (motive:=fun _=>Nat->List SA->List SA) (fun _ vs=>vs) (fun c t ih n vs=>Bool.rec (c::ih (Nat.pred n) vs) (vs++(c::t).drop vs.length) (Nat.beq n 0)) cs
def zr (S:Sy) (parts:List (Nat × Nat × XO)):List SA->Option (List SA) :=
 List.rec (motive:=fun _=>List SA->Option (List SA)) (fun cs=>some cs)
  (fun p _ ih cs=>match FV S p.2.2 with
   |some x=>Option.rec none (fun vs=>Bool.rec none (ih (gS cs p.1 vs)) (Nat.beq vs.length p.2.1)) x.cells
   |none=>none) parts
def zq (S:Sy) (size:Nat) (parts:List (Nat × XO)):List SE->Option (List SE) :=
 List.rec (motive:=fun _=>List SE->Option (List SE)) (fun cs=>some cs)
  (fun p _ ih cs=>match FV S p.2 with
   |some x=>Option.rec none (fun vs=>Bool.rec none (ih (cs.set p.1 x)) (Nat.beq vs.length size)) x.cells
   |none=>none) parts
def wE (es:List SE):Option af:=List.rec (motive:=fun _=>Option af) (some (af.n 1))
 (fun x _ ih=>Option.rec none (fun cs=>Option.rec none (fun l=>Bool.rec none (some ((af.add l 1 (wS cs)).plus 1)) (aU SA.IS cs)) ih) x.cells) es
def eqO (F:ai) (w:Option af) (f:af->af):ai:=Option.rec F (fun w=>F.eq (f w)) w
def Lf (T:TT) (F:ai) (v:Nat) (len:af) (w:Option af) (size:Nat) (ts:List Nat):ai :=
 bm (fun F t=>oN T F v t) ts
  ((eqO (F.eq (af.add (af.at (8*v+2)) (-1) len)) w (fun w=>af.add (af.at (8*v+3)) (-1) w)).fact v (.sz v size))
def rn (p:Nat->Bool) (ts:List Nat):List Nat:=List.rec [] (fun t _ ih=>Bool.rec ih (t::ih) (p t)) ts
def Uy (T:TT) (size t:Nat):Bool:=Option.rec false (fun d=>Nat.beq d.aV.length size) (T.get t)
def lD (S:Sy) (n:af) (lo hi:Option XO):Option (af × af) :=
 match (match hi with |none=>some n |some v=>tk S v),(match lo with |none=>some (af.n 0) |some v=>tk S v) with
 |some h,some l=>Bool.rec none (some (l,h)) (aq (bV S.F l) (aq (bV S.F (af.add h (-1) l)) (bV S.F (af.add n (-1) h))))
 |_,_=>none
def Qg (S:Sy) (op:BinOp) (k:IntKind) (a b:af):PR:=match op with
 | .eql=>dW S (.bl (.eq (af.add a (-1) b)))
 | .neq=>dW S (.bl (.not (.eq (af.add a (-1) b))))
 | .lss=>dW S (.bl (.ge ((af.add b (-1) a).plus (-1))))
 | .leq=>dW S (.bl (.ge (af.add b (-1) a)))
 | .gtr=>dW S (.bl (.ge ((af.add a (-1) b).plus (-1))))
 | .geq=>dW S (.bl (.ge (af.add a (-1) b)))
 | .add=>exact S k (af.add a 1 b)
 | .sub=>exact S k (af.add a (-1) b)
 | .mul=>E5 S k
 | .quo=>br (JI S.F b) (match (motive:=IntKind->af->PR) k,b with
  | .u64,⟨.ofNat (c+1),[]⟩=>NU (bV S.F a) (some (.e (.a (.int k (af.at (8*S.nx)))),(S.F.ge (af.at (8*S.nx))).ge (af.add a (-((c+1:Nat):Int)) (af.at (8*S.nx))),1,[])) (E5 S k)
  |_,_=>E5 S k)
 | .rem=>br (JI S.F b) (NU (bV S.F (b.plus (-1)))
   (some (.e (.a (.int k (af.at (8*S.nx)))),ifF (bV S.F a) (fun F=>F.ge (af.at (8*S.nx))) ((S.F.ge ((af.add b (-1) (af.at (8*S.nx))).plus (-1))).ge ((af.add b 1 (af.at (8*S.nx))).plus (-1))),1,[])) (newR S k))
 |_=>none
def PK (F:ai) (x:SS):Bool:=match x with
 | .v n=>dY (wQ n) (fF F.fs n)
 | .c s=>Bool.rec true false (uF s)
def Qd (S:Sy) (op:BinOp) (x y:SS):PR:=match op with
 | .eql=>dW S (.bl (.seq x y))
 | .neq=>dW S (.bl (.not (.seq x y)))
 | .add=>br (bV S.F (af.from 9223372036854775807 (af.add x.len 1 y.len))) (match x,y with
  | .c s,.c t=>dW S (.str (.c (s++t)))
  |x,y=>some (.e (.a (.str (.v S.nx))),ifF (fN (PK S.F x) (PK S.F y)) (fun F=>F.fact S.nx (.f (.dot S.nx)))
    (S.F.eq (af.add (af.at (8*S.nx+1)) (-1) (af.add x.len 1 y.len))),1,[]))
 | .lss=>Nx S
 | .leq=>Nx S
 | .gtr=>Nx S
 | .geq=>Nx S
 |_=>none
def Qi (S:Sy) (op:BinOp) (f g:BF):PR:=match op with
 | .eql=>dW S (.bl (.or (.and f g) (.and (.not f) (.not g))))
 | .neq=>dW S (.bl (.not (.or (.and f g) (.and (.not f) (.not g)))))
 |_=>none
def WR (e:EK):Bool:=match e with
 | .bool=>true
 |_=>false
def Wc (S:Sy) (op:BinOp) (e:EK) (x y:SA):PR:=match x,y with
 | .int k a,.int j b=>Bool.rec none (Qg S op k a b) (Fi k j)
 | .str a,.str b=>Qd S op a b
 | .bl f,.bl g=>br (WR e) (Qi S op f g)
 |_,_=>none
def part (size:Nat) (agg:Bool) (cs:List SA) (off:Nat):Option SV :=
 Bool.rec (Option.rec none (fun x=>some (.e (.a x))) (nth cs off)) (Bool.rec none (some (.e (.agg ((cs.drop off).take size)))) (Nat.ble (off+size) cs.length)) agg
def idx (l:af):Option (Nat × Int):=match l with
 |⟨c,[]⟩=>some (0,c)
 |⟨c,[(a,.ofNat 1)]⟩=>Bool.rec none (some (a / 8+1,c)) (Nat.beq (a % 8) 0)
 |_=>none
def pwF (n:Nat) (i w:af) (F:ai):ai:=match idx i with
 |some (m,c)=>(match Lg n m c,Lg n m (c+1) with
  |some p,some q=>(match q.ts with
   | [(a,_)]=>(F.tell a ((af.add p 1 w).plus 1)).ge ((af.add (af.at (8*n+3)) (-1) q).plus (-1))
   |_=>F)
  |_,_=>F)
 |none=>F
def elF (C:Cx) (F:ai) (n:Nat) (i:af) (b:Nat) (d:Lr) (ts:List Nat):ai :=
 let cs:=eZ d.aV b
 let F1:=bm (kO C.T b) ts F
 let F2:=F1.fact n (.el n i b d.aV.length)
 Bool.rec F2 (Bool.rec (F2.ge ((af.add (af.at (8*n+3)) (-1) (wS cs)).plus (-2))) (pwF n i (wS cs) (F2.ge ((af.add (af.at (8*n+3)) (-1) (wS cs)).plus (-2)))) C.pw) (aU SA.IS cs)
def tt (C:Cx) (S:Sy) (size n:Nat) (i:af):Option (List SA × ai × Nat) :=
 match nu S.F n with
 | []=>none
 |t::ts=>match C.T.get t with
  |none=>none
  |some d=>br (aq (Nat.beq d.aV.length size) (aq (bV S.F i) (bV S.F ((af.add (af.at (8*n+2)) (-1) i).plus (-1))))) (match A7 S.F n i with
   |some b=>some (eZ d.aV b,S.F,0)
   |none=>some (eZ d.aV S.nx,elF C S.F n i S.nx d (t::ts),size))
def Rt (T:TT):Bool:=match T.get 0 with
 |some ⟨false,[.int .u8],_,_,_⟩=>true
 |_=>false
def VY (pw:Bool) (n v:Nat) (l:af):af:=Bool.rec (af.add (af.at (8*n+3)) (-1) (af.at (8*v+3))) (match idx l with
 |some (m,c)=>(match Lg n m c with
  |some p=>af.add (af.add (af.at (8*n+3)) (-1) (af.at (8*v+3))) (-1) p
  |none=>af.add (af.at (8*n+3)) (-1) (af.at (8*v+3)))
 |none=>af.add (af.at (8*n+3)) (-1) (af.at (8*v+3))) pw
def jr (C:Cx) (S:Sy) (cV:List Nat) (o:XP):PR:=match o with
 | .move x=>Option.rec none (old S) (rf S x)
 | .pick c a b=>none
 | .build z parts=>Option.rec none (fun cs=>old S (.e (.agg cs))) (zr S parts (z.map qF))
 | .fv size z parts=>Option.rec none (fun es=>some (.e (.a (.sl S.nx)),Lf C.T S.F S.nx (af.n es.length) (wE es) size (rn (fun t=>aq (Uy C.T size t) (aU (fun x=>ly C.T S.F x t) es)) cV),1,[S.nx])) (zq S size parts (z.map AN))
 | .WB x=>(match rf S x with
  |some (.e (.a (.ptr n o)))=>dW S (.ptr n o)
  |some (.ro cs o n i)=>old S (.ro cs o n i)
  |some (.ap n i s o)=>old S (.ap n i s o)
  |_=>none)
 | .bin op e x y=>(match mo S x,mo S y with
  |some a,some b=>Wc S op e a b
  |_,_=>none)
 | .not x=>(match mo S x with
  |some (.bl f)=>dW S (.bl (.not f))
  |_=>none)
 | .neg x=>(match mo S x with
  |some (.int k _)=>E5 S k
  |_=>none)
 | .mkf _ _ _=>none
 | .lZ x lo hi=>(match mo S x with
  |some (.str s)=>Option.rec none (fun p=>some (.e (.a (.str (.v S.nx))),S.F.eq (af.add (af.at (8*S.nx+1)) (-1) (af.add p.2 (-1) p.1)),1,[])) (lD S s.len lo hi)
  |_=>none)
 | .I5 size x lo hi=>(match mo S x with
  |some (.sl n)=>br (gF C.T S.F n size) (Option.rec none (fun p=>some (.e (.a (.sl S.nx)),
    ((Lf C.T S.F S.nx (af.add p.2 (-1) p.1) none size (nu S.F n)).ge (VY C.pw n S.nx p.1)),1,[])) (lD S (af.at (8*n+2)) lo hi))
  |some (.iD .az)=>Option.rec none (fun _=>dW S (.iD .az)) (lD S (af.n 0) lo hi)
  |_=>none)
 | .iq off x=>(match rf S x with
  |some (.e (.a (.ptr n o)))=>dW S (.ptr n (o+off))
  |some (.ro cs o n i)=>old S (.ro cs (o+off) n i)
  |some (.ap n i s o)=>old S (.ap n i s (o+off))
  |_=>none)
 | .field off size agg x=>(match FV S x with
  |some (.agg cs)=>Option.rec none (old S) (part size agg cs off)
  |_=>none)
 | .gE size x ix=>(match mo S x,tk S ix with
  |some (.sl n),some i=>Option.rec none (fun p=>some (.ro p.1 0 n i,p.2.1,p.2.2,[])) (tt C S size n i)
  |some (.ks n m),some i=>br (aq (bV S.F i) (bV S.F ((af.add (af.at (8*m+2)) (-1) i).plus (-1)))) (old S (.ap n i size 0))
  |_,_=>none)
 | .tz x ix=>(match mo S x,tk S ix with
  |some (.str s),some i=>br (aq (bV S.F i) (bV S.F ((af.add s.len (-1) i).plus (-1)))) (E5 S .u8)
  |_,_=>none)
 | .ext x i=>(match rf S x with
  |some (.cv l)=>Option.rec none (fun e=>old S (.e e)) (nth l i)
  |_=>none)
 | .lens x=>(match mo S x with
  |some (.str s)=>dW S (.int .i64 s.len)
  |_=>none)
 | .kA x=>(match mo S x with
  |some a=>Option.rec none (fun l=>dW S (.int .i64 l)) a.len
  |_=>none)
 | .max x y=>(match mo S x,mo S y with
  |some (.int k a),some (.int _ b)=>some (.e (.a (.int k (af.at (8*S.nx)))),((S.F.ge (af.add (af.at (8*S.nx)) (-1) a)).ge (af.add (af.at (8*S.nx)) (-1) b)).fact S.nx (.f (.or (.eq (af.add (af.at (8*S.nx)) (-1) a)) (.eq (af.add (af.at (8*S.nx)) (-1) b)))),1,[])
  |_,_=>none)
 | .min x y=>(match mo S x,mo S y with
  |some (.int k a),some (.int _ b)=>some (.e (.a (.int k (af.at (8*S.nx)))),(S.F.ge (af.add a (-1) (af.at (8*S.nx)))).ge (af.add b (-1) (af.at (8*S.nx))),1,[])
  |_,_=>none)
 | .KP k x=>(match mo S x with
  |some (.int _ l)=>exact S k l
  |_=>none)
 | .Yq x=>(match mo S x with
  |some (.str s)=>dW S (.str s)
  |_=>none)
 | .ud x=>(match mo S x with
  |some (.sl n)=>br (aq (Rt C.T) (Da S.F n 0)) (some (.e (.a (.str (.v S.nx))),S.F.eq (af.add (af.at (8*S.nx+1)) (-1) (af.at (8*n+2))),1,[]))
  |some (.iD .az)=>dW S (.str (.c []))
  |_=>none)
def qj (l:List (Nat × Nat × List SA)) (n:Nat):Option (Nat × List SA):=cX (fun p=>Bool.rec none (some p.2) (Nat.beq p.1 n)) l
def qk (l:List (Nat × Nat × Nat × Nat)) (n:Nat):Option (Nat × Nat × Nat):=cX (fun p=>Bool.rec none (some p.2) (Nat.beq p.1 n)) l
def fZ {α:Type} (l:List (Nat × α)) (n:Nat):List (Nat × α):=List.rec [] (fun p _ ih=>Bool.rec (p::ih) ih (Nat.beq p.1 n)) l
def Yo (C:Cx) (S:Sy) (o:XL):PR:=match o with
 | .load size agg a=>(match rf S a with
  |some (.e (.a (.ptr n off)))=>Option.rec none (fun p=>Option.rec none (old S) (part size agg p.2 off)) (qj S.hp n)
  |some (.ro cs off _ _)=>Option.rec none (old S) (part size agg cs off)
  |some (.ap n i sz off)=>(match qk S.ar n with
   |some (_,m,s)=>br (Nat.beq s sz) (match tt C S sz m i with
    |some p=>(match part size agg p.1 off with
     |some v=>some (v,p.2.1,p.2.2,[])
     |none=>none)
    |none=>none)
   |none=>none)
  |_=>none)
 | .look _ _ _ _ _=>none
abbrev ER:=Option (List (SV × Sy))
def uY (v:SV) (S:Sy):ER:=some [(v,S)]
def BR:SV:=.e (.a (.iD gg))
def EE (S:Sy) (cs:List SA):ER:=uY (.e (.a (.ptr S.nx 0))) {S with hp:=(S.nx,S.nx+1,cs)::S.hp,nx:=S.nx+2 }
def ni (T:TT) (S:Sy) (size:Nat) (x:SA):Option (Option Nat × af × af):=match x with
 | .iD .az=>some (none,af.n 0,af.n 1)
 | .sl n=>br (aq (qD n S.live) (gF T S.F n size)) (some (some n,af.at (8*n+2),af.at (8*n+3)))
 |_=>none
def tpF (b c:Bool) (v:Nat) (F:ai):ai:=Bool.rec F (Bool.rec F (F.fact v (.tp v)) c) b
def Cc (C:Cx) (S:Sy) (cV:List Nat) (size bytes:Nat) (s:SA) (lx wx:af) (tx:Nat->Bool):ER :=
 match ni C.T S size s with
 |some (n,ls,ws)=>br (aq (Nat.ble bytes 4096) (bV S.F (af.from 1073741824 (af.add ls 1 lx))))
  (uY (.e (.a (.sl S.nx))) {S with
   live:=S.nx::(Option.rec S.live (fun n=>lM n S.live) n),
   F:=tpF (qD 65535 cV) (fN (Option.rec true (fun n=>HH S.F n) n) (bV S.F (lx.plus (-1)))) S.nx (Lf C.T S.F S.nx (af.add ls 1 lx) (some (af.add ws 1 wx)) size (rn (fun t=>aq (Uy C.T size t) (aq (Option.rec true (fun n=>tyA C.T S.F n t) n) (tx t))) cV)),
   nx:=S.nx+1 })
 |none=>none
def AG (ct:CT):Bool:=match ct with
 | .any=>false
 |_=>true
def Me (T:TT) (F:ai) (off size:Nat) (vs:List SA) (t:Nat):Bool :=
 Option.rec false (fun d=>aq (isNil d.conds) (aq (fN d.agg (aU AG d.aV)) (kN (KG T F) ((d.aV.drop off).take size) vs))) (T.get t)
def u6 (C:Cx) (S:Sy) (cV:List Nat) (call:Nat->List SV->ER) (o:XE):ER:=match o with
 | .alloc cs=>EE S (cs.map qF)
 | .box size x=>(match FV S x with
  |some e=>(match e.cells with
   |some cs=>br (Nat.beq cs.length size) (EE S cs)
   |none=>none)
  |none=>none)
 | .store size a x=>(match FV S x with
  |some e=>(match e.cells with
   |some vs=>br (Nat.beq vs.length size) (match rf S a with
    |some (.e (.a (.ptr n off)))=>(match qj S.hp n with
     |some (_,cs)=>br (Nat.ble (off+size) cs.length) (uY BR {S with hp:=(n,S.nx,gS cs off vs)::fZ S.hp n,nx:=S.nx+1 })
     |none=>none)
    |some (.ap n i sz off)=>(match qk S.ar n with
     |some (_,m,s)=>br (aq (aq (Nat.beq s sz) (aq (Nat.ble 1 sz) (Nat.ble (off+size) sz))) (aq (bV S.F i) (bV S.F ((af.add (af.at (8*m+2)) (-1) i).plus (-1)))))
      (uY BR {S with ar:=(n,S.nx,S.nx+1,s)::fZ S.ar n,nx:=S.nx+2,F:=Lf C.T S.F (S.nx+1) (af.at (8*m+2)) none s (NU (aq (Nat.beq off 0) (Nat.beq size s)) (rn (fun t=>ly C.T S.F e t) (nu S.F m)) (rn (Me C.T S.F off size vs) (nu S.F m))) })
     |none=>none)
    |_=>none)
   |none=>none)
  |none=>none)
 | .Sn size bytes z l c=>(match tk S l,tk S c with
  |some l,some c=>br (aq (af.beq l c) (aq (Nat.ble bytes 4096) (aq (bV S.F l) (bV S.F (af.from 1073741824 l)))))
   (br (Nat.beq z.cells.length size) (uY (.e (.a (.ks S.nx (S.nx+2)))) {S with ar:=(S.nx,S.nx+1,S.nx+2,size)::S.ar,nx:=S.nx+3,F:=Lf C.T S.F (S.nx+2) l none size (rn (fun t=>aq (Uy C.T size t) (ly C.T S.F (AN z) t)) cV) }))
  |_,_=>none)
 | .He=>none
 | .put _ _ _ _=>none
 | .app size bytes s x=>(match mo S s,mo S x with
  |some s,some (.sl m)=>br (gF C.T S.F m size) (Cc C S cV size bytes s (af.at (8*m+2)) ((af.at (8*m+3)).plus (-1)) (fun t=>tyA C.T S.F m t))
  |some s,some (.iD .az)=>Cc C S cV size bytes s (af.n 0) (af.n 0) (fun t=>true)
  |_,_=>none)
 | .K6 size bytes s x q u=>(match mo S s,FV S x,tk S q,mo S u with
  |some s,some e,some q,some (.sl u)=>(match e.cells,ni C.T S size s with
   |some vs,some (_,ls,_)=>br (aq (Nat.beq vs.length size) (aq (yt S.F (af.add q (-1) ls)) (aq (gF C.T S.F u size) (aq (yt S.F ((af.at (8*u+2)).plus (-1))) (aU SA.IS vs)))))
    (Cc C S cV size bytes s (af.n 1) ((wS vs).plus 1) (fun t=>ly C.T S.F e t))
   |_,_=>none)
  |_,_,_,_=>none)
 | .dL size x=>(match mo S x with
  |some (.ks n q)=>(match qk S.ar n with
   |some (_,m,s)=>br (aq (aq (Nat.beq s size) (Nat.blt 1 size)) (yt S.F (af.add (af.at (8*q+2)) (-1) (af.at (8*m+2)))))
    (uY (.e (.a (.sl S.nx))) {S with ar:=fZ S.ar n,nx:=S.nx+1,F:=Lf C.T S.F S.nx (af.at (8*m+2)) (some (af.at (8*m+3))) size (nu S.F m) })
   |none=>none)
  |_=>none)
 | .call f args=>(match rf S f,dO (rf S) args with
  |some (.e (.a (.iD (.fn g [] [])))),some vs=>call g vs
  |_,_=>none)
def nF (lo hi:Nat) (n:Nat) (x:SA) (σ:Tr SA):Tr SA:=Bool.rec σ (Option.rec (σ.set n x) (fun _=>σ) (σ.get n)) (aq (Nat.ble lo n) (Nat.blt n hi))
def uS (lo hi:Nat) (σ:Tr SA) (p x:SA):Tr SA:=match p,x with
 | .int _ ⟨_,[(a,_)]⟩,.int k l=>Bool.rec σ (nF lo hi (a / 8) (.int k l) σ) (Nat.beq (a % 8) 0)
 | .bl (.u n),.bl f=>nF lo hi n (.bl f) σ
 | .str (.v n),.str s=>nF lo hi n (.str s) σ
 | .sl n,x=>nF lo hi n x σ
 | .ptr n _,.ptr m _=>nF lo hi n (.ptr m 0) σ
 | .ks n m,.ks a b=>nF lo hi m (.sl b) (nF lo hi n (.ptr a 0) σ)
 | .var n,x=>nF lo hi n x σ
 |_,_=>σ
def oM {α β γ:Type} (f:γ->α->β->γ) (x:List α):List β->γ->γ :=
 List.rec (motive:=fun _=>List β->γ->γ) (fun _ c=>c) (fun a _ ih y c=>List.rec (motive:=fun _=>γ) c (fun b t _=>ih t (f c a b)) y) x
def zK (lo hi:Nat) (σ:Tr SA) (p x:SE):Tr SA:=match p,x with
 | .a p,.a x=>uS lo hi σ p x
 | .agg p,.agg x=>oM (uS lo hi) p x σ
 |_,_=>σ
def bindV (lo hi:Nat) (σ:Tr SA) (p x:SV):Tr SA:=match p,x with
 | .e p,.e x=>zK lo hi σ p x
 | .cv p,.cv x=>oM (zK lo hi) p x σ
 | .ro p _ n i,.ro x _ m j=>uS lo hi (uS lo hi (oM (uS lo hi) p x σ) (.sl n) (.sl m)) (.int .i64 i) (.int .i64 j)
 | .ap n i _ _,.ap m j _ _=>uS lo hi (uS lo hi σ (.ptr n 0) (.ptr m 0)) (.int .i64 i) (.int .i64 j)
 |_,_=>σ
def nA (σ:Sub) (n:Nat):Option Nat:=match SA.sub σ (.ptr n 0) with
 |some (.ptr m _)=>some m
 |_=>none
def nG (lo:Nat) (t:Tr SA):Sub:=fun n=>Bool.rec (Option.rec (.iD .az) (fun x=>x) (t.get n)) (.var n) (Nat.blt n lo)
def xZ (lo hi:Nat) (hp:List (Nat × Nat × List SA)) (σ:Tr SA) (p:Nat × Nat × List SA):Tr SA :=
 match nA (nG lo σ) p.1 with
 |some m=>(match qj hp m with
  |some q=>nF lo hi p.2.1 (.var q.1) (oM (uS lo hi) p.2.2 q.2 σ)
  |none=>σ)
 |none=>σ
def x3 (lo hi:Nat) (ar:List (Nat × Nat × Nat × Nat)) (σ:Tr SA) (p:Nat × Nat × Nat × Nat):Tr SA :=
 match nA (nG lo σ) p.1 with
 |some m=>(match qk ar m with
  |some q=>nF lo hi p.2.1 (.var q.1) (nF lo hi p.2.2.1 (.sl q.2.1) σ)
  |none=>σ)
 |none=>σ
def eqVar (lo hi:Nat) (σ:Tr SA) (p:Nat × Int):Option (Nat × Int):=Bool.rec none (some p) (aq (aq (Nat.beq (p.1 % 8) 0) (nB p.2)) (aq (aq (Nat.ble lo (p.1 / 8)) (Nat.blt (p.1 / 8) hi)) (Option.rec true (fun _=>false) (σ.get (p.1 / 8)))))
def YB (lo:Nat) (σ:Tr SA) (l:af) (p:Nat × Int):Tr SA:=Option.rec σ (fun r=>σ.set (p.1 / 8) (.int .i64 (af.EA (-p.2) r))) ((af.add l (-p.2) (af.at p.1)).sub (nG lo σ))
def DN (lo hi:Nat) (F:ai) (σ:Tr SA) (f:Fact):Tr SA:=match f with
 | .f (.eq l)=>Option.rec σ (YB lo σ l) (cX (eqVar lo hi σ) l.ts)
 | .el n i b k=>(match jQ (nG lo σ n),i.sub (nG lo σ) with
  |some m,some j=>Option.rec σ (fun c=>bm (fun σ q=>nF lo hi (b+q) (.var (c+q)) σ) (List.range k) σ) (A7 F m j)
  |_,_=>σ)
 |_=>σ
def Mb (F:ai) (σ:Sub) (p x:SA):Bool:=Option.rec false (fun y=>SA.same F y x) (p.sub σ)
def vU (F:ai) (σ:Sub) (p x:SE):Bool:=Option.rec false (fun y=>SE.same F y x) (p.sub σ)
def Ad (F:ai) (σ:Sub) (p x:SV):Bool:=Option.rec false (fun y=>SV.same F y x) (p.sub σ)
def C2 (S:Sy) (σ:Sub) (p:Nat × Nat × List SA):Bool:=match nA σ p.1 with
 |some m=>(match qj S.hp m with
  |some q=>aq (match σ p.2.1 with | .var w=>Nat.beq w q.1 |_=>false) (kN (Mb S.F σ) p.2.2 q.2)
  |none=>false)
 |none=>false
def DP (S:Sy) (σ:Sub) (p:Nat × Nat × Nat × Nat):Bool:=match nA σ p.1 with
 |some m=>(match qk S.ar m with
  |some q=>aq (match σ p.2.1 with | .var w=>Nat.beq w q.1 |_=>false) (aq (match σ p.2.2.1 with | .sl w=>Nat.beq w q.2.1 | .var w=>Nat.beq w q.2.1 |_=>false) (Nat.beq p.2.2.2 q.2.2))
  |none=>false)
 |none=>false
def fe (σ:Sub) (l:List Nat):Option (List Nat):=List.rec (some []) (fun n _ ih=>Option.rec none (fun t=>match σ n with | .sl m=>some (m::t) | .var m=>some (m::t) | .iD .az=>some t |_=>none) ih) l
def eo {α:Type} (σ:Sub) (l:List (Nat × α)):Option (List Nat):=dO (fun p=>nA σ p.1) l
def subset (x y:List Nat):Bool:=aU (fun n=>qD n y) x
def tv (S:Sy) (σ:Sub) (l:List Nat):Bool:=Option.rec false (fun t=>aq (iG t) (subset t S.live)) (fe σ l)
def gY (np nx:Nat) (σ:Sub):Sub:=fun n=>Bool.rec (.var (nx+(n-np))) (σ n) (Nat.blt n np)
def B0 (σ:Sub) (p:Nat × Nat × List SA):Option (Nat × Nat × List SA):=match nA σ p.1,σ p.2.1,dO (SA.sub σ) p.2.2 with
 |some m,.var w,some cs=>some (m,w,cs)
 |_,_,_=>none
def B1 (σ:Sub) (p:Nat × Nat × Nat × Nat):Option (Nat × Nat × Nat × Nat):=match nA σ p.1,σ p.2.1,σ p.2.2.1 with
 |some m,.var w,.sl v=>some (m,w,v,p.2.2.2)
 |some m,.var w,.var v=>some (m,w,v,p.2.2.2)
 |_,_,_=>none
def EH (l:List SE):SV:=match l with
 | [x]=>.e x
 |l=>.cv l
def fR {α:Type} (ks:List Nat) (l:List (Nat × α)):List (Nat × α):=bm (fun l k=>fZ l k) ks l
def Cu (C:Cx) (S:Sy) (k:fS) (σ:Sub) (hs bh ls:List Nat) (p:QG):ER :=
 let σ':=gY k.np S.nx σ
 match dO (SE.sub σ') p.res,dO (B0 σ') p.hp,dO (B1 σ') p.ar,fe σ' p.live with
 |some r,some hp,some ar,some lv=>some (Option.rec [] (fun F=>[(EH r,{S with hp:=hp++fR hs S.hp,ar:=ar++fR bh S.ar,live:=lv++bm (fun l n=>lM n l) ls S.live,F:=F,nx:=S.nx+p.nv })]) (Qw C.T σ' p.facts S.F))
 |_,_,_,_=>none
def Gi (l:List SV):Option (List SE):=dO (fun v=>match v with | .e x=>some x |_=>none) l
def Io (S:Sy) (k:fS) (xs:List SE):Sub:=nG 0 (bm (DN 0 k.np S.F) k.facts (bm (x3 0 k.np S.ar) k.ar (bm (xZ 0 k.np S.hp) k.hp (oM (zK 0 k.np) k.args xs .nil))))
def Bs (C:Cx) (S:Sy) (xs:List SE) (k:fS):ER :=
 let σ:=Io S k xs
 match eo σ k.hp,eo σ k.ar,fe σ k.live with
 |some hs,some bh,some ls=>br
   (aq (kN (vU S.F σ) k.args xs) (aq (aU (C2 S σ) k.hp) (aq (aU (DP S σ) k.ar) (aq (iG hs) (aq (iG bh) (aq (tv S σ k.live) (aq (aU (fun n=>UB S.nx (σ n)) (List.range k.np)) (aq (aU (M6 C.T S.F σ) k.facts)
    (Bool.rec true (Option.rec false (fun m=>aq (bV S.F m) (bV S.F ((af.add C.dE (-1) m).plus (-1)))) (k.dE.sub σ)) (Nat.beq k.lz C.lz))))))))))
   (fE (Cu C S k σ hs bh ls) k.ny)
 |_,_,_=>none
def xW (C:Cx) (S:Sy) (f:Nat) (args:List SV):ER:=Option.rec none (fun xs=>cX (Bs C S xs) (C.K f)) (Gi args)
def ry (S:Sy) (d:Option Nat) (v:SV):Sy:=match d with
 |some d=>{S with sl:=S.sl.set d v }
 |none=>S
def xV (C:Cx) (d:Option Nat):List Nat:=match d with
 |some d=>Option.rec [] (fun l=>l) (C.cV.get d)
 |none=>[]
def ofP (S:Sy) (d:Option Nat) (r:PR):Option (List Sy):=Option.rec none (fun p=>some [ry {S with F:=p.2.1,nx:=S.nx+p.2.2.1,live:=p.2.2.2++S.live } d p.1]) r
def ofE (d:Option Nat) (r:ER):Option (List Sy):=Option.rec none (fun l=>some (l.map fun p=>ry p.2 d p.1)) r
def okS (p:Bool × Sy):List (Bool × Sy)->List (Bool × Sy):=fun l=>Bool.rec (p::l) l p.2.F.bad
def xA (T:TT) (S:Sy) (f:BF):List (Bool × Sy) :=
 Bool.rec (Bool.rec (okS (true,{S with F:=assume T S.F f true }) (okS (false,{S with F:=assume T S.F f false }) [])) [(false,S)] (f.pr (S.F.Ep 3) false)) [(true,S)] (f.pr (S.F.Ep 3) true)
def V8 (x:XO) (p:Bool × Sy):Bool × Sy:=match x with
 | .t n=>(p.1,{p.2 with sl:=p.2.sl.set n (.e (.a (.bl (.k p.1)))) })
 | .c _=>p
def uM (T:TT) (S:Sy) (x:XO) (f:BF):List (Bool × Sy):=match f with
 | .k b=>[(b,S)]
 |f=>(xA T S f).map (V8 x)
def UG (C:Cx) (S:Sy) (d:Option Nat) (c:XO) (f:BF) (a b:XO):Option (List Sy) :=
 dO (fun p=>Option.rec none (fun v=>some (ry p.2 d v)) (rf p.2 (Bool.rec b a p.1))) (uM C.T S c f)
def opS (C:Cx) (S:Sy) (d:Option Nat) (o:Iz):Option (List Sy):=match o with
 | .p (.pick c a b)=>(match mo S c with
  |some (.bl f)=>UG C S d c f a b
  |_=>none)
 | .p o=>ofP S d (jr C S (xV C d) o)
 | .l o=>ofP S d (Yo C S o)
 | .e o=>ofE d (u6 C S (xV C d) (xW C S) o)
def uA (C:Cx) (S:Sy) (o:XR):Option (List Sy):=match o.guard with
 |none=>opS C S o.dst o.op
 |some (g,c)=>(match S.sl.get g with
  |some (.e (.a (.bl f)))=>fE (fun p=>Bool.rec (some [ry p.2 o.dst BR]) (opS C p.2 o.dst o.op) (eqB p.1 c)) (uM C.T S (.t g) f)
  |some (.e (.a (.iD (.cv []))))=>some [ry S o.dst BR]
  |_=>none)
def Cf (C:Cx) (ops:List XR):Sy->Option (List Sy) :=
 List.rec (motive:=fun _=>Sy->Option (List Sy)) (fun S=>some [S]) (fun o _ ih S=>Option.rec none (fun l=>fE ih l) (uA C S o)) ops
def yX (S:Sy) (o:XR):Option (Option Nat):=match o.op with
 | .l (.load _ _ a)=>(match rf S a with
  |some (.e (.a (.ptr n _)))=>some (some n)
  |some (.ap n _ _ _)=>some (some n)
  |some (.ro _ _ _ _)=>some none
  |some (.e (.a (.iD (.cv _))))=>some none
  |some (.e (.a (.iD .iL)))=>some none
  |_=>none)
 | .l _=>none
 |_=>some none
def LI (p:List (Nat × Nat × List SA) × List (Nat × Nat × Nat × Nat)) (n:Nat):Option Nat:=match qj p.1 n with
 |some q=>some q.1
 |none=>(match qk p.2 n with
  |some q=>some q.1
  |none=>none)
abbrev Mem:=List (Nat × Nat × List SA) × List (Nat × Nat × Nat × Nat)
def qs (C:Cx) (ops:List XR):Sy->Option (List (Sy × List (Option (Option Nat) × Mem))) :=
 List.rec (motive:=fun _=>Sy->Option (List (Sy × List (Option (Option Nat) × Mem)))) (fun S=>some [(S,[(some none,(S.hp,S.ar))])])
  (fun o _ ih S=>Option.rec none (fun l=>fE (fun S'=>Option.rec none (fun r=>some (r.map fun q=>(q.1,(yX S o,(S.hp,S.ar))::q.2))) (ih S')) l) (uA C S o)) ops
def y1 (l:List (Option (Option Nat) × Mem)) (p:Nat × Nat):Bool:=match nth l p.1,nth l p.2,nth l (Nat.succ p.2) with
 |some (some none,_),_,_=>true
 |some (some (some k),_),some (_,H),some (_,H')=>(match LI H k,LI H' k with
  |some a,some b=>Nat.beq a b
  |_,_=>false)
 |_,_,_=>false
def AY (hs:List (Nat × List AV)):Sy->Sy :=
 List.rec (motive:=fun _=>Sy->Sy) (fun S=>S) (fun p _ ih S=>ih {S with sl:=S.sl.set p.1 (.e (.a (.ptr S.nx 0))),hp:=(S.nx,S.nx+1,p.2.map qF)::S.hp,nx:=S.nx+2 }) hs
def MJ (C:Cx) (ops:List XR) (b7:List (Nat × Nat)) (S:Sy):Option (List Sy):=match b7 with
 | []=>Cf C ops S
 |p::ps=>Option.rec none (fun l=>dO (fun q=>br (aU (y1 q.2) (p::ps)) (some q.1)) l) (qs C ops S)
def Tm.val (S:Sy) (T:TT) (t:Tm):Sy :=
 {sl:=bm (fun sl p=>Tr.set sl p.1 p.2) t.sl (bm (fun sl k=>Option.rec sl (fun v=>Tr.set sl k v) (S.sl.get k)) t.cI .nil),
  hp:=t.hp,ar:=t.ar,live:=t.live,F:=bm (Bx T .var) t.facts S.F,nx:=S.nx+t.nv }
def GD (S S':Sy) (t:Tm):Sub :=
 let lo:=S.nx
 let hi:=S.nx+t.nv
 nG lo (bm (DN lo hi S'.F) t.facts (bm (x3 lo hi S'.ar) t.ar (bm (xZ lo hi S'.hp) t.hp (bm (fun σ p=>Option.rec σ (fun v=>bindV lo hi σ p.2 v) (S'.sl.get p.1)) t.sl .nil))))
def NT (S S':Sy) (k:Nat):Bool:=match S.sl.get k,S'.sl.get k with
 |some v,some w=>SV.same S'.F v w
 |none,_=>true
 |_,_=>false
def VW (C:Cx) (S S':Sy) (σ:Sub) (t:Tm):Bool :=
 aq (aU (NT S S') t.cI) (aq (aU (fun p=>Option.rec false (fun v=>Ad S'.F σ p.2 v) (S'.sl.get p.1)) t.sl) (aq (aU (C2 S' σ) t.hp) (aq (aU (DP S' σ) t.ar)
  (aq (tv S' σ t.live) (aq (aU (M6 C.T S'.F σ) t.facts) (aq (Option.rec false iG (eo σ t.hp)) (Option.rec false iG (eo σ t.ar))))))))
def lk (C:Cx) (S S':Sy) (t:Tm):Option af:=Bool.rec none (t.dE.sub (GD S S' t)) (aq (Mv C.T (S.nx+t.nv) t) (VW C S S' (GD S S' t) t))
def vR (C:Cx) (S:Sy) (ts:List Tm) (S':Sy):Bool:=dY (fun t=>Option.rec false (fun _=>true) (lk C S S' t)) ts
def L0 (C:Cx) (S:Sy) (ts:List Tm) (m:af) (S':Sy):Bool:=dY (fun t=>Option.rec false (fun n=>aq (bV S'.F n) (bV S'.F ((af.add m (-1) n).plus (-1)))) (lk C S S' t)) ts
def normal (e:Ex):Bool:=match e with
 | .norm=>true
 |_=>false
abbrev fG:=Option (List (Ex × Sy))
def outs (l:Option (List Sy)):fG:=Option.rec none (fun l=>some (l.map fun S=>(.norm,S))) l
def jL (l:List (Ex × Sy)):List Sy:=(A8 (fun p=>normal p.1) l).map fun p=>p.2
def rC (l:List (Ex × Sy)):List (Ex × Sy):=A8 (fun p=>Bool.rec true false (normal p.1)) l
def K4 (x y:fG):fG:=match x,y with
 |some a,some b=>some (a++b)
 |_,_=>none
def jy {α:Type} (l:List α):List An->List (α × An) :=
 List.rec (motive:=fun _=>List An->List (α × An)) (fun _=>[]) (fun a _ ih bh=>List.rec ((a,.o)::ih []) (fun n t _=>(a,n)::ih t) bh) l
def Mt (C:Cx) (S:Sy) (ts:List Tm) (bs:List An) (a:fG) (b:An->Sy->fG):fG:=match a with
 |none=>none
 |some l=>K4 (some (rC l)) (match ts with
  | []=>fE (fun p=>b p.2 p.1) (jy (jL l) bs)
  |t::ts=>br (aU (vR C S (t::ts)) (jL l)) (fE (fun p=>b p.2 (p.1.val S C.T)) (jy (t::ts) bs)))
def NB (C:Cx) (S:Sy) (ts:List Tm) (bh:List An) (b:An->Sy->fG):fG:=br (vR C S ts S) (fE (fun p=>match b p.2 (p.1.val S C.T) with
 |none=>none
 |some l=>br (aU (L0 C S ts p.1.dE) (jL l)) (some (rC l))) (jy ts bh))
def oY (id:Nat) (e:Ex):Ex:=match e with
 | .exit i=>Bool.rec (.exit i) .norm (Nat.beq i id)
 |e=>e
def YF (an:An):List An:=match an with
 | .c bh=>bh
 |_=>[]
def eR (C:Cx) (c:XC):An->Sy->fG :=
 XC.rec (motive:=fun _=>An->Sy->fG)
  (fun _ S=>some [(.norm,S)])
  (fun ops _ S=>outs (Cf C ops S))
  (fun hs ops b7 _ S=>outs (MJ C ops b7 (AY hs S)))
  (fun _ _ sO qe an S=>match an with
   | .s ts aa bs=>Mt C S ts bs (sO aa S) qe
   |_=>Mt C S [] [] (sO .o S) qe)
  (fun x _ _ sO qe an S=>match mo S x with
   |some (.bl f)=>fE (fun p=>(Bool.rec (qe p.2 p.1.2) (sO p.2 p.1.2) p.1.1:fG)) (jy (uM C.T S x f) (YF an))
   |_=>none)
  (fun id _ qe an S=>Option.rec none (fun l=>some (l.map fun p=>(oY id p.1,p.2))) (qe an S))
  (fun _ qe an S=>match an with
   | .l ts bh=>NB C S ts bh qe
   |_=>none)
  (fun id _ S=>some [(.exit id,S)])
  (fun _ S=>some [(.ret,S)]) c
def Vl (l:List SE):Nat->Tr SV->Tr SV:=List.rec (motive:=fun _=>Nat->Tr SV->Tr SV) (fun _ t=>t) (fun v _ ih n t=>ih (n+1) (t.set n (.e v))) l
def s7 (T:TT) (st:Nat) (k:fS):Sy:={sl:=Vl k.args 0 .nil,hp:=k.hp,ar:=k.ar,live:=k.live,F:=bm (Bx T .var) k.facts ⟨.nil,.nil,.nil,.nil,false,st⟩,nx:=k.np }
def rD (S:Sy) (r:mv):Option SE:=match r with
 | .t n=>(match S.sl.get n with
  |some (.e x)=>some x
  |_=>none)
 | .cell a size agg=>(match S.sl.get a with
  |some (.e (.a (.ptr n off)))=>(match qj S.hp n with
   |some p=>(match part size agg p.2 off with
    |some (.e x)=>some x
    |_=>none)
   |none=>none)
  |_=>none)
def mI (C:Cx) (k:fS) (S:Sy) (rs:List SE) (p:QG):Bool :=
 let lo:=k.np
 let hi:=k.np+p.nv
 let σ:=nG lo (bm (DN lo hi S.F) p.facts (bm (x3 lo hi S.ar) p.ar (bm (xZ lo hi S.hp) p.hp (oM (zK lo hi) p.res rs .nil))))
 aq (kN (vU S.F σ) p.res rs) (aq (aU (C2 S σ) p.hp) (aq (aU (DP S σ) p.ar) (aq (tv S σ p.live) (aq (aU (M6 C.T S.F σ) p.facts)
  (aq (Option.rec false iG (eo σ p.hp)) (Option.rec false iG (eo σ p.ar)))))))
def Bh (F:ai) (x:SE):SE:=match x with
 | .a (.bl (.k b))=>.a (.bl (.k b))
 | .a (.bl f)=>Bool.rec (Bool.rec (.a (.bl f)) (.a (.bl (.k false))) (f.pr F false)) (.a (.bl (.k true))) (f.pr F true)
 |x=>x
def qm (T:TT) (l:List Sy) (x:SE):List Sy:=match x with
 | .a (.bl f)=>List.rec [] (fun S _ ih=>(xA T S f).map (fun p=>p.2)++ih) l
 |_=>l
def Kz (C:Cx) (k:fS) (res:List mv) (p:Ex × Sy):Bool:=match p.1 with
 | .exit _=>false
 |_=>Option.rec false (fun rs=>aU (fun S=>dY (mI C k S (rs.map (Bh S.F))) k.ny) (bm (qm C.T) rs [p.2])) (dO (rD p.2) res)
def Bm (C:Cx) (st:Nat) (k:fS) (x:XF) (an:An):Bool:=aq (nw C.T k) (Option.rec false (fun l=>aU (Kz C k x.res) l) (eR C x.body an (s7 C.T st k)))
end
end Go.Ab
theorem MT:type_of% @List.getElem?_eq_none_iff:=@List.getElem?_eq_none_iff
namespace Go.Ab
noncomputable section
open Go.Ev
open Classical
variable {ρ : cz} {T : TT} {F : ai} {σ : Sub}
abbrev Good (T:TT) (ρ:cz) (F:ai):Prop:=F.Ok ρ (Fact.ev T ρ)
theorem fj {α β:Type} {f:β->α->β} {P:β->Prop}:∀ {l:List α} {b:β},(∀ a∈l,∀ b,P b->P (f b a))->P b->P (bm f l b):=by
 intro l
 induction l with
 |nil=>intro b _ h; exact h
 |cons a t ih=>intro b hf h; exact ih (fun c hc=>hf c (.tail _ hc)) (hf a (.head _) b h)
theorem sG {α β:Type} {p:α->β->Bool}:∀ {x:List α} {y:List β},kN p x y=true->x.length=y.length/\∀ (j:Nat) a b,x[j]?=some a->y[j]?=some b->p a b=true:=by
 intro x
 induction x with
 |nil=>intro y h; cases y with
  |nil=>exact⟨rfl,fun j a b ha=>by simp at ha⟩
  |cons b t=>cases h
 |cons a x ih =>
  intro y h;cases y with
  |nil=>cases h
  |cons b t =>
   obtain⟨h1,h2⟩:=qW (show(Bool.rec false (kN p x t) (p a b):Bool)=true from h)
   obtain⟨h3,h4⟩:=ih h2;refine⟨by simp[h3],fun j c d hc hd=>?_⟩
   cases j with
   |zero=>simp at hc hd; subst hc; subst hd; exact h1
   |succ j=>simp at hc hd; exact h4 j c d hc hd
theorem cS {α:Type}:∀ (l:List α) (n:Nat),nth l n=l[n]?:=by
 intro l
 induction l with
 |nil=>intro n; simp[nth]
 |cons a t ih =>
  intro n;cases n with
  |zero=>rfl
  |succ n=>show nth t n=_; rw[ih]; simp
theorem pz {α β:Type} {f:α->Option β}:∀ {l:List α} {r:List β},dO f l=some r->l.length=r.length/\∀ (j:Nat) a b,l[j]?=some a->r[j]?=some b->f a=some b:=by
 intro l
 induction l with
 |nil=>intro r h; have h:some []=some r:=h; cases h; exact⟨rfl,fun j a b ha=>by simp at ha⟩
 |cons a t ih =>
  intro r h;have h:(Option.rec none (fun b=>Option.rec none (fun t=>some (b::t)) (dO f t)) (f a):Option (List β))=some r:=h
  cases h1:f a with
  |none=>rw[h1] at h; cases h
  |some b =>
   rw[h1] at h;have h:(Option.rec none (fun t=>some (b::t)) (dO f t):Option (List β))=some r:=h
   cases h2:dO f t with
   |none=>rw[h2] at h; cases h
   |some s =>
    rw[h2] at h;have h:some (b::s)=some r:=h;cases h;obtain⟨h3,h4⟩:=ih h2;refine⟨by simp[h3],fun j c d hc hd=>?_⟩
    cases j with
    |zero=>simp at hc hd; subst hc; subst hd; exact h1
    |succ j=>simp at hc hd; exact h4 j c d hc hd
theorem fW {α β γ:Type} {f:α->Option β} {g:α->γ} {h:β->γ} (hg:∀ a b,f a=some b->h b=g a):∀ {l:List α} {r:List β},dO f l=some r->r.map h=l.map g:=by
 intro l r hr;obtain⟨h1,h2⟩:=pz hr;apply Co;intro j;simp only[jB]
 cases hj:l[j]? with
 |none =>
  have:r[j]?=none:=by rw[MT] at hj ⊢; omega
  rw[this]; rfl
 |some a =>
  have:∃ b,r[j]?=some b:=by
   have aO:j<r.length:=by have:=fU.1 hj; obtain⟨q,_⟩:=this; omega
   exact⟨r[j],ey aO⟩
  obtain⟨b,hb⟩:=this;rw[hb]; simp[hg a b (h2 j a b hj hb)]
theorem vw {k j:IntKind} (h:Fi k j=true):k=j:=by simpa[Fi] using h
theorem bt {a b:Nat} (h:Nat.beq a b=true):a=b:=kr h
theorem tX (aV:List CT):∀ (b j:Nat),(eZ aV b)[j]?=(aV[j]?).map fun ct=>yF ct (b+j):=by
 induction aV with
 |nil=>intro b j; rfl
 |cons ct t ih =>
  intro b j;show(yF ct b::eZ t (b+1))[j]?=_
  cases j with
  |zero=>simp
  |succ j=>simp only[List.getElem?_cons_succ]; rw[ih]; simp only[qB,Nat.add_comm 1 j]
theorem Ic {ct:CT} {v:Nat} (h:HC T ct (ρ v)):(yF ct v).ev ρ=ρ v:=by
 generalize e:ρ v=u at h
 cases h<;>simp only[yF,SA.ev,SS.ev,BF.ev,af.aR,dz,e,intOf,strOf,bN]
 ·rename_i b; cases b<;>simp
 ·assumption
def nr (T:TT) (ρ:cz) (aV:List CT) (b:Nat):Prop:=∀ (j:Nat) ct,aV[j]?=some ct->HC T ct (ρ (b+j))
theorem KF {aV:List CT} {b:Nat} (h:nr T ρ aV b) (j:Nat):(kI aV b).val ρ j=if j<aV.length then ρ (b+j) else gg:=by
 unfold Sub.val kI;rw[cS];cases hj:aV[j]? with
 |none =>
  rw[MT] at hj
  rw[ba (by omega)]; rfl
 |some ct =>
  obtain⟨q,_⟩:=fU.1 hj
  rw[bJ q];exact Ic (h j ct hj)
theorem qZ.get:∀ {aV:List CT} {vs:List AV},qZ T aV vs->vs.length=aV.length/\∀ (j:Nat) ct v,aV[j]?=some ct->vs[j]?=some v->HC T ct v:=by
 intro aV
 induction aV with
 |nil=>intro vs h; cases h; exact⟨rfl,fun j ct v h=>by simp at h⟩
 |cons c t ih =>
  intro vs h;cases h with
  |cons h1 h2 =>
   obtain⟨h3,h4⟩:=ih h2;refine⟨by simp[h3],fun j ct v hc hv=>?_⟩
   cases j with
   |zero=>simp at hc hv; subst hc; subst hv; exact h1
   |succ j=>simp at hc hv; exact h4 j ct v hc hv
theorem qZ.of:∀ {aV:List CT} {vs:List AV},vs.length=aV.length->(∀ (j:Nat) ct v,aV[j]?=some ct->vs[j]?=some v->HC T ct v)->qZ T aV vs:=by
 intro aV
 induction aV with
 |nil=>intro vs h _; cases vs with
  |nil=>exact .nil
  |cons v t=>simp at h
 |cons c t ih =>
  intro vs h h1;cases vs with
  |nil=>simp at h
  |cons v s =>
   refine .cons (h1 0 c v rfl rfl) (ih (by simpa using h) (fun j ct v hc hv=>h1 (j+1) ct v (by simpa using hc) (by simpa using hv)))
theorem nr.of {aV:List CT} {vs:List AV} {b:Nat} (h:qZ T aV vs) (hv:∀ (j:Nat) c,vs[j]?=some c->ρ (b+j)=c):nr T ρ aV b:=by
 intro j ct hj;obtain⟨h1,h2⟩:=h.get;obtain⟨q,_⟩:=fU.1 hj
 have hq:vs[j]?=some vs[j]:=ey (by omega)
 rw[hv j _ hq];exact h2 j ct _ hj hq
theorem DC {aV:List CT} {vs:List AV} {b:Nat} (h:qZ T aV vs) (hv:∀ (j:Nat) c,vs[j]?=some c->ρ (b+j)=c):(kI aV b).val ρ=fq vs:=by
 funext j
 rw[KF (nr.of h hv)];obtain⟨h1,_⟩:=h.get;unfold fq
 by_cases hj:j<aV.length
 ·rw[bJ hj]
  have hq:vs[j]?=some vs[j]:=ey (by omega)
  rw[hv j _ hq,hq]; rfl
 ·rw[ba hj,wv (by omega)]; rfl
theorem kJ {aV:List CT} {vs:List AV} {b:Nat} (h:qZ T aV vs) (hv:∀ (j:Nat) c,vs[j]?=some c->ρ (b+j)=c):(eZ aV b).map (SA.ev ρ)=vs:=by
 obtain⟨h1,h2⟩:=h.get;apply Co;intro j;rw[jB,tX]
 cases hj:aV[j]? with
 |none =>
  rw[MT] at hj
  rw[wv (by omega)]; rfl
 |some ct =>
  obtain⟨q,_⟩:=fU.1 hj
  have hq:vs[j]?=some vs[j]:=ey (by omega)
  rw[hq];simp only[JD];rw[Ic (T:=T) (nr.of h hv j ct hj),hv j _ hq]
theorem Good.Ep (h:Good T ρ F) (n:Nat):Good T ρ (F.Ep n):=⟨h.ix,h.fs,h.df,h.bd,h.bad⟩
theorem mH (h:Good T ρ F) {f:BF} (hp:f.pr F true=true):f.ev ρ:=by simpa using BF.UF (Ak T ρ) f (b:=true) h hp
theorem mb (h:Good T ρ F) {f:BF} (hp:f.pr F false=true):¬ f.ev ρ:=by simpa using BF.UF (Ak T ρ) f (b:=false) h hp
theorem o5 (h:Good T ρ F) {f:BF} (hf:f.ev ρ):Good T ρ (f.add F true):=BF.Bv (Ak T ρ) f (b:=true) h (by simpa using hf)
theorem K7 (h:Good T ρ F) {f:BF} (hf:¬ f.ev ρ):Good T ρ (f.add F false):=BF.Bv (Ak T ρ) f (b:=false) h (by simpa using hf)
theorem Rn (hb:vf ρ F.bd) {l:af} {v:Int} (h:Ro F l=some v):l.ev ρ=v:=by
 obtain⟨c,ts⟩:=l;cases ts with
 |nil=>have h:c=v:=Option.some.inj h; show c+0=v; omega
 |cons p t =>
  have h:tight (wL F.bd (p::t) c) (IV F.bd (p::t) c)=some v:=h;unfold tight at h;split at h
  ·rename_i a b ha zg
   cases hz:yj (ia a (im JT b)) with
   |false=>rw[hz] at h; cases h
   |true =>
    rw[hz] at h;have h:a=v:=Option.some.inj h;have h1:=Hg hb ha;have h2:=Ed hb zg;have h3:=(mP _).1 hz;rw[oH,nC] at h3;have:JT = -1:=rfl;rw[this] at h3;show c+eA ρ (p::t)=v
    omega
  ·cases h
theorem Kn (h:Good T ρ F) {f:BF} (hp:tM f F=true):f.ev ρ:=by
 unfold tM at hp;split at hp
 ·rename_i l
  rcases bw hp with h1 |h1
  ·rw[h.bad] at h1; cases h1
  ·show l.ev ρ=0
   rw[<-h.norm l];cases hv:Ro F (F.norm l) with
   |none=>rw[hv] at h1; cases h1
   |some v =>
    rw[hv] at h1;rw[Rn h.bd hv];exact(mP v).1 h1
 ·exact mH (h.Ep 1) hp
theorem xB {α:Type} {p:α->Bool} {l:List α} {a:α}:a∈A8 p l↔a∈l/\p a=true:=by
 induction l with
 |nil=>exact⟨fun h=>(by cases h),fun h=>(by cases h.1)⟩
 |cons b t ih =>
  have e:A8 p (b::t)=(Bool.rec (A8 p t) (b::A8 p t) (p b):List α):=rfl;rw[e];cases hb:p b with
  |false =>
   show a∈A8 p t↔_
   rw[ih];refine⟨fun h=>⟨.tail _ h.1,h.2⟩,fun h=>?_⟩
   obtain⟨h1,h2⟩:=h;cases h1 with
   |head=>rw[hb] at h2; cases h2
   |tail _ h1=>exact⟨h1,h2⟩
  |true =>
   show a∈b::A8 p t↔_
   refine⟨fun h=>?_,fun h=>?_⟩
   ·cases h with
    |head=>exact⟨.head _,hb⟩
    |tail _ h=>have:=ih.1 h; exact⟨.tail _ this.1,this.2⟩
   ·obtain⟨h1,h2⟩:=h
    cases h1 with
    |head=>exact .head _
    |tail _ h1=>exact .tail _ (ih.2 ⟨h1,h2⟩)
theorem Ph (f:BF):∀ {F:ai},Good T ρ F->f.ev ρ->Good T ρ (Pj f F):=by
 induction f with
 |k b=>intro F h _; exact h
 |ge l=>intro F h hf; exact h.ge hf
 |eq l=>intro F h hf; exact h.eq hf
 |u n=>intro F h hf; exact o5 h hf
 |seq x y=>intro F h hf; exact o5 h hf
 |dot n=>intro F h hf; exact o5 h hf
 |not f ih=>intro F h hf; exact K7 h hf
 |and f g jU jl=>intro F h hf; exact o5 (o5 h hf.1) hf.2
 |or f g jU jl=>intro F h hf; exact h
 |imp f g jU jl =>
  intro F h hf;show Good T ρ (Bool.rec F (Pj g F) (tM f F))
  cases h1:tM f F with
  |false=>exact h
  |true=>exact jl h (hf (Kn h h1))
theorem Pf (h:Good T ρ F) {f:BF} (hf:f.ev (σ.val ρ)):Good T ρ (Pg σ F f):=by
 unfold Pg;cases h1:f.sub σ with
 |none=>exact h
 |some g=>exact Ph g h ((BF.bG h1).2 hf)
theorem P2 {t b:Nat} (h:Fact.ev T ρ (.cd t b)):∀ f∈pN T t,f.ev ((kI (js T t) b).val ρ):=by
 intro f hf;unfold pN at hf;unfold js;cases h1:T.get t with
 |none=>rw[h1] at hf; cases hf
 |some d=>rw[h1] at hf; exact h d h1 f hf
theorem Dj (h:Good T ρ F) {t b:Nat} (hc:Fact.ev T ρ (.cd t b)):Good T ρ (Pc T F t b) :=
 fj (fun f hf F hF=>Pf hF (P2 hc f (xB.1 hf).1)) h
theorem Pd (h:Good T ρ F) {f:Fact} (hf:Fact.ev T ρ f):Good T ρ (Pe T F f):=by
 unfold Pe;split
 ·exact Dj h hf
 ·exact h
theorem Pb (h:Good T ρ F) (v:Nat):Good T ρ (U9 T F v) :=
 fj (fun f hf G hG=>Pd hG (h.fs v f hf)) h
theorem zM (h:Good T ρ F) {f:BF} {b:Bool} (hf:if b then f.ev ρ else ¬ f.ev ρ):Good T ρ (assume T F f b) :=
 fj (fun v _ G hG=>Pb hG v) (BF.Bv (Ak T ρ) f h hf)
theorem uT (h:Good T ρ F) {f:BF} (hf:f.ev ρ):Good T ρ (assume T F f true):=zM h (by simpa using hf)
theorem DT (h:Good T ρ F) {t b:Nat} (hc:Fact.ev T ρ (.cd t b)):Good T ρ (DU T F t b):=by
 unfold DU;cases h1:T.get t with
 |none=>exact h
 |some d=>exact Dj (fj (fun j _ G hG=>hG.fact hc) h) hc
theorem PX {j c:Nat} {f:BF} {ρ:cz} (h:zB j f=some c) (hf:f.ev ρ):nX (ρ j)<=c:=by
 unfold zB at h;split at h
 ·rename_i c' a
  cases hb:Nat.beq a (8*j+3) with
  |false=>rw[hb] at h; cases h
  |true =>
   rw[hb] at h;have h:some c'=some c:=h;injection h with h
   subst h;have hf:0<=af.ev ρ ⟨.ofNat c',[(a,.negSucc 0)]⟩:=hf;rw[bt hb] at hf;simp only[af.ev,eA,ju,rH] at hf;omega
 ·cases h
theorem tY {j c:Nat} {l:List BF} {ρ:cz} (h:cX (zB j) l=some c) (hl:∀ f∈l,f.ev ρ):nX (ρ j)<=c:=by
 obtain⟨f,hf,h1⟩:=jo h;exact PX h1 (hl f hf)
theorem Ly {es:List AV} {w:Nat} (h:∀ e∈es,wt e<=w):eB es<=es.length*w:=by
 induction es with
 |nil=>simp[eB]
 |cons e t ih =>
  have h1:=h e (.head _);have h2:=ih fun x hx=>h x (.tail _ hx)
  simp only[eB,mE,jS]; omega
theorem HT.BN {t:Nat} {v:AV} (h:HT T t v):wt v=eB v.cells:=by
 cases h with
 |@mk _ _ d _ ha hn _ _ =>
  refine(sW ?_).symm
  cases hd:d.agg with
  |true=>exact .inl (ha hd)
  |false=>exact .inr (hn hd)
theorem VI {r:Nat->Option Nat} (hr:∀ t w v,r t=some w->HT T t v->eB v.cells<=w) {conds:List BF} {cs:List AV} (hf:∀ f∈conds,f.ev (fq cs)) {j:Nat} {ct:CT} {c:AV} (hc:HC T ct c) (hj:cs[j]?=some c) {b:Nat} (h:wbC r conds j ct=some b):wt c<=b:=by
 have ej:fq cs j=c:=by unfold fq; rw[hj]; rfl
 cases hc with
 |int=>cases h; exact dN _
 |bool=>cases h; exact dN _
 |str hs=>cases h; simp only[wt]; omega
 |any=>cases h
 |az =>
  simp only[wbC] at h;split at h
  ·rename_i hq
   cases h
   have:=tY hq hf;rw[ej] at this;exact this
  ·split at h
   ·cases h; simp only[wt]; omega
   ·cases h
 |@sl t m d es aN hd hl he =>
  simp only[wbC] at h;split at h
  ·rename_i hq
   cases h
   have:=tY hq hf;rw[ej] at this;exact this
  ·split at h
   ·rename_i w hw
    cases h
    have h1:=Ly (es:=es) (w:=w) fun e hm=>by rw[(he e hm).BN]; exact hr t w e hw (he e hm)
    have h2:es.length*(w+1)<=m*(w+1):=rI _ hl;rw[Nat.mul_add] at h2;simp only[wt]; omega
   ·cases h
 |lens h1 h2 =>
  have:=tY (show cX (zB j) conds=some b from h) hf
  rw[ej] at this;unfold nX at this;rwa[h1] at this
theorem VH {r:Nat->Option Nat} (hr:∀ t w v,r t=some w->HT T t v->eB v.cells<=w) {conds:List BF} {cs:List AV} (hf:∀ f∈conds,f.ev (fq cs)):∀ {aV:List CT} {l:List AV} {j b:Nat},qZ T aV l->cs.drop j=l->wbL r conds aV j=some b->eB l<=b:=by
 intro aV
 induction aV with
 |nil=>intro l j b h _ hb; cases h; exact tc _
 |cons ct aV ih =>
  intro l j b h hd hb;cases h with
  |@cons _ _ c l h1 h2 =>
   have hb:(match wbC r conds j ct,wbL r conds aV (j+1) with
    |some a,some b=>some (a+b)
    |_,_=>none)=some b:=hb
   split at hb
   ·rename_i a b' ha zg
    cases hb
    have hj:cs[j]?=some c:=by
     have:=congrArg (fun l:List AV=>l[0]?) hd
     simpa[rJ] using this
    have h3:=VI hr hf h1 hj ha;have h4:=ih (l:=l) (j:=j+1) h2 (by rw[<-yp,hd]; rfl) zg
    simp only[eB]; omega
   ·cases hb
theorem VG:∀ {fuel t b:Nat} {v:AV},wbT T fuel t=some b->HT T t v->eB v.cells<=b:=by
 intro fuel
 induction fuel with
 |zero=>intro t b v h; cases h
 |succ n ih =>
  intro t b v h ht;have h:(match T.get t with
   |some d=>wbL (wbT T n) d.conds d.aV 0
   |none=>none)=some b:=h
  cases ht with
  |@mk _ _ d hd _ _ hc hf =>
   rw[hd] at h;exact VH (fun t w v h1 h2=>ih h1 h2) hf hc rfl h
theorem mn (h:Good T ρ F) {v t:Nat} (hf:j3 T t (bN (ρ v))):Good T ρ (oN T F v t):=by
 have h1:Good T ρ (F.fact v (.ty v t)):=h.fact hf;unfold oN;cases hd:T.get t with
 |none=>exact h1
 |some d =>
  show Good T ρ (Bool.rec _ _ d.wb)
  cases d.wb with
  |false=>exact h1
  |true =>
   show Good T ρ (Option.rec _ _ (wbT T 6 t))
   cases hb:wbT T 6 t with
   |none=>exact h1
   |some b =>
    refine h1.ge ?_
    rw[af.bf,af.aP,af.mU,af.aR,af.aR,cU,ju];unfold nX;rw[<-cj];rcases hf with hf |⟨d',es,aN,_,hf,he⟩
    ·rw[hf]; simp[wt,bB]
    ·rw[hf]
     have h2:=Ly (es:=es) (w:=b) fun e hm=>by rw[(he e hm).BN]; exact VG hb (he e hm)
     have h3:((b+1:Nat):Int)*(es.length:Int)=((es.length*b+es.length:Nat):Int):=by
      rw[<-Int.natCast_mul,jS,wz b]; simp
     simp only[wt,bB];rw[h3];omega
theorem KH (h:Good T ρ F) {ct:CT} {v:Nat} (hc:HC T ct (ρ v)):Good T ρ (FX T F ct v):=by
 generalize e:ρ v=u at hc
 cases hc with
 |@int k n hk =>
  cases k<;>simp only[FX]<;>try exact h
  ·refine(h.ge ?_).ge ?_
   ·rw[af.aR,dz,e]; exact hk.1
   ·rw[af.da,af.aR,dz,e]; have:=hk.2; simp only[intOf]; omega
  ·refine h.ge ?_
   rw[af.aR,dz,e]; exact hk
 |str hs=>refine h.ge ?_; rw[af.da,af.aR,o4,e]; simp only[strOf]; omega
 |bool b=>exact h
 |@az t m =>
  refine mn (h.ge ?_) ?_
  ·rw[af.da,af.aR,cU,e]; simp only[bB]; omega
  ·show j3 T t (bN (ρ v)); rw[e]; exact .inl rfl
 |@sl t m d es aN hd hm he =>
  refine mn (h.ge ?_) ?_
  ·rw[af.da,af.aR,cU,e]; simp only[bB]; omega
  ·show j3 T t (bN (ρ v)); rw[e]; exact .inr ⟨d,es,aN,hd,rfl,he⟩
 |lens h1 h2=>refine h.ge ?_; rw[af.da,af.aR,cU,e]; omega
 |any v=>exact h
theorem FW {aV:List CT}:∀ {F:ai} {b:Nat},Good T ρ F->nr T ρ aV b->Good T ρ (Ig T aV F b):=by
 induction aV with
 |nil=>intro F b h _; exact h
 |cons ct t ih =>
  intro F b h hc;refine ih (KH h (hc 0 ct rfl)) ?_
  intro j c hj;rw[show b+1+j=b+(j+1) by omega]
  exact hc (j+1) c (by simpa using hj)
theorem sI (h:Good T ρ F) {t b:Nat} {v:AV} (ht:HT T t v) (hv:∀ (j:Nat) c,v.cells[j]?=some c->ρ (b+j)=c):Good T ρ (kO T b F t):=by
 cases ht with
 |@mk _ _ d hd ha hn hc hf =>
  unfold kO;rw[hd];refine DT (FW h (nr.of hc hv)) ?_
  intro d' dA f Tl;rw[hd] at dA; cases dA;rw[DC hc hv];exact hf f Tl
theorem sd (h:Good T ρ F) {n t:Nat} (hp:Da F n t=true):j3 T t (bN (ρ n)):=by
 obtain⟨f,hf,h1⟩:=bL hp;have h2:=h.fs _ f hf;split at h1
 ·rename_i m s
  obtain⟨h3,h4⟩:=ad h1;rw[bt h3,bt h4] at h2;exact h2
 ·cases h1
theorem lW (h:Good T ρ F) {n:Nat}:∀ t∈nu F n,j3 T t (bN (ρ n)):=by
 have key:∀ l:List Fact,(∀ f∈l,Fact.ev T ρ f)->∀ t∈VQ n l,j3 T t (bN (ρ n)):=by
  intro l
  induction l with
  |nil=>intro _ t ht; cases ht
  |cons f l ih =>
   intro hl t ht;have ih:=ih (fun g hg=>hl g (.tail _ hg))
   have ht:t∈VR n f (VQ n l):=ht;unfold VR at ht;split at ht
   ·rename_i q m _
    cases hm:Nat.beq q n with
    |false=>rw[hm] at ht; exact ih t ht
    |true =>
     rw[hm] at ht;cases ht with
     |head=>have:=hl _ (.head _); rw[bt hm] at this; exact this
     |tail _ ht=>exact ih t ht
   ·exact ih t ht
 exact key _ (h.fs n)
theorem ij (h:Good T ρ F) {n s:Nat} (hp:gF T F n s=true):zQ s (bN (ρ n)):=by
 obtain⟨f,hf,h1⟩:=bL hp;have h2:=h.fs _ f hf;split at h1
 ·rename_i m q
  obtain⟨h3,h4⟩:=ad h1;rw[bt h3,bt h4] at h2;exact h2
 ·rename_i m t
  obtain⟨h3,h4⟩:=ad h1;rw[bt h3] at h2;cases hd:T.get t with
  |none=>rw[hd] at h4; cases h4
  |some d =>
   rw[hd] at h4;have h4:=bt (show Nat.beq d.aV.length s=true from h4)
   rcases h2 with h2 |⟨d',es,aN,h5,h6,_⟩
   ·exact .inl h2
   ·rw[hd] at h5; cases h5; rw[<-h4]; exact .inr ⟨es,aN,h6⟩
 ·cases h1
theorem xq (h:Good T ρ F) {n:Nat} (hp:HH F n=true):yc (bN (ρ n)):=by
 obtain⟨f,hf,h1⟩:=bL hp;have h2:=h.fs _ f hf;split at h1
 ·rw[bt h1] at h2
  exact h2
 ·cases h1
theorem Kt (h:Good T ρ F) {n b:Nat} {i:af} (hp:A7 F n i=some b):∃ k,Fact.ev T ρ (.el n i b k):=by
 obtain⟨f,hf,h1⟩:=jo hp;have h2:=h.fs _ f hf;split at h1
 ·rename_i m j c k
  cases h3:aq (Nat.beq m n) (af.beq i j) with
  |false=>rw[h3] at h1; cases h1
  |true =>
   rw[h3] at h1;have h1:some c=some b:=h1;cases h1;obtain⟨h4,h5⟩:=ad h3;rw[bt h4,<-af.bU h5] at h2;exact⟨k,h2⟩
 ·cases h1
theorem CC (h:Good T ρ F) {n:Nat} (hp:Nv F n=true):bB (ρ n)=0:=by
 have:=aW h hp;rw[af.mU,af.aR,cU] at this;omega
theorem eW (v:AV):elems (bN v)=elems v:=by cases v<;>rfl
theorem zQ.ty {t:Nat} {d:Lr} {v:AV} (hd:T.get t=some d) (h:zQ d.aV.length v) (he:∀ e∈elems v,HT T t e):j3 T t v:=by
 rcases h with h |⟨es,aN,h⟩
 ·exact .inl h
 ·rw[h] at he; exact .inr ⟨d,es,aN,hd,h,he⟩
theorem j3.elem {t:Nat} {v e:AV} (h:j3 T t v) (he:e∈elems v):HT T t e:=by
 rcases h with h |⟨d,es,aN,hd,h,hh⟩
 ·rw[h] at he; cases he
 ·rw[h] at he; exact hh e he
theorem szd {t n:Nat} (h:Good T ρ F) (hp:(Option.rec false (fun d=>gF T F n d.aV.length) (T.get t):Bool)=true):∃ d,T.get t=some d/\zQ d.aV.length (bN (ρ n)):=by
 cases hd:T.get t with
 |none=>rw[hd] at hp; cases hp
 |some d=>rw[hd] at hp; exact⟨d,rfl,ij h hp⟩
theorem zQ.none {s:Nat} {v:AV} (h:zQ s v) (h0:bB v=0):elems v=[]:=by
 rcases h with h |⟨es,aN,h⟩
 ·rw[h]; rfl
 ·rw[h] at h0 ⊢; exact qz h0
theorem LR (h:Good T ρ F) {m t:Nat} (hp:tyV T F m t=true):j3 T t (bN (ρ m)):=by
 rcases bw hp with h1 |h1
 ·exact sd h h1
 obtain⟨h1,h2⟩:=ad h1;obtain⟨d,hd,hs⟩:=szd h h1;refine hs.ty hd ?_
 rcases bw h2 with h3 |h3
 ·rw[hs.none (by rw[cj]; exact CC h h3)]; intro e he; cases he
 ·obtain⟨f,hf,h4⟩:=bL h3
  have h5:=h.fs _ f hf;unfold UH at h4;split at h4
  ·rename_i k i s
   obtain⟨h6,h7⟩:=ad h4;obtain⟨h8,h9⟩:=ad h6;rw[bt h8,bt h9] at h5;have h7:=aW h h7;rw[af.aP,af.aR,cU] at h7;intro e he;refine h5 e ?_
   rw[eW] at he;rw[JF]
   ·exact he
   ·have:bB (bN (ρ m))=(elems (bN (ρ m))).length:=by
     rcases hs with hs |⟨es,aN,hs⟩<;>rw[hs]<;>rfl
    rw[cj,eW] at this;omega
  ·cases h4
theorem LU (h:Good T ρ F) {m t:Nat} (hp:tyA T F m t=true):j3 T t (bN (ρ m)):=by
 rcases bw hp with h1 |h1
 ·exact sd h h1
 obtain⟨h1,h2⟩:=ad h1;obtain⟨d,hd,hs⟩:=szd h h1;refine hs.ty hd ?_
 rw[hs.none (by rw[cj]; exact CC h h2)]; intro e he; cases he
theorem j3.hc {t m:Nat} {v:AV} (h:j3 T t v) (hm:bB v<=m):HC T (.sl t m) v:=by
 rcases h with h |⟨d,es,aN,hd,h,he⟩
 ·rw[h]; exact .az
 ·rw[h] at hm ⊢; exact .sl hd hm he
theorem Ie (h:Good T ρ F) {ct:CT} {x:SA} (hp:KG T F ct x=true):HC T ct (x.ev ρ):=by
 unfold KG at hp;split at hp
 ·rename_i k j l
  obtain⟨h1,h2⟩:=ad hp;rw[<-vw h1];refine .int ?_
  cases k<;>simp only[inK]<;>try trivial
  ·obtain⟨h3,h4⟩:=ad h2
   have h3:=aW h h3;have h4:=aW h h4;rw[af.da] at h4;exact⟨h3,by omega⟩
  ·exact aW h h2
 ·rename_i m s
  have:=aW h hp;rw[af.da,SS.fQ] at this;exact .str (by omega)
 ·exact .bool _
 ·exact .az
 ·rename_i t m n
  obtain⟨h1,h2⟩:=ad hp;have h2:=aW h h2;rw[af.da,af.aR,cU] at h2;exact(LR h h1).hc (by rw[cj]; omega)
 ·rename_i m
  cases hl:x.len with
  |none=>rw[hl] at hp; cases hp
  |some l =>
   rw[hl] at hp;have h1:=aW h (show bV F (af.from m l)=true from hp)
   obtain⟨h2,h3⟩:=SA.E9 (ρ:=ρ) hl;rw[af.da,h2] at h1;exact .lens h3 (by omega)
 ·exact .any _
 ·cases hp
theorem KM (f:BF):∀ {F:ai},Good T ρ F->F3 T f F=true->f.ev ρ:=by
 induction f with
 |imp f g jU jl =>
  intro F h hp;intro hf;rcases bw (show fN (f.pr F false) (fN (assume T F f true).bad (F3 T g (assume T F f true)))=true from hp) with h1 |h1
  ·exact absurd hf (mb h h1)
  have h2:=uT h hf;rcases bw h1 with h1 |h1
  ·rw[h2.bad] at h1; cases h1
  ·exact jl h2 h1
 |_=>intro F h hp; exact mH h hp
theorem zC (h:Good T ρ F) {f:BF} (hp:tZ T σ F f=true):f.ev (σ.val ρ):=by
 unfold tZ at hp;cases h1:f.sub σ with
 |none=>rw[h1] at hp; cases hp
 |some g=>rw[h1] at hp; exact(BF.bG h1).1 (KM g h hp)
theorem BZ (cs:List SA):(I6 cs).val ρ=fq (cs.map (SA.ev ρ)):=by
 funext j
 unfold Sub.val I6 fq;rw[cS,jB]
 cases cs[j]?<;>rfl
theorem Hr (h:Good T ρ F) {cs:List SA} {t:Nat} (hp:CO T F cs t=true):∃ d,T.get t=some d/\qZ T d.aV (cs.map (SA.ev ρ))/\∀ f∈d.conds,f.ev (fq (cs.map (SA.ev ρ))):=by
 unfold CO at hp;cases hd:T.get t with
 |none=>rw[hd] at hp; cases hp
 |some d =>
  rw[hd] at hp;obtain⟨h1,h2⟩:=ad (show aq (kN (KG T F) d.aV cs) (fN (isNil d.conds) (aU (tZ T (I6 cs) F) d.conds))=true from hp)
  obtain⟨h3,h4⟩:=sG h1;refine⟨d,rfl,qZ.of (by simp[h3]) ?_,?_⟩
  ·intro j ct v hc hv
   rw[jB] at hv
   cases hj:cs[j]? with
   |none=>rw[hj] at hv; cases hv
   |some x=>rw[hj] at hv; cases hv; exact Ie h (h4 j ct x hc hj)
  ·intro f hf
   rcases bw h2 with h5 |h5
   ·cases hc:d.conds with
    |nil=>rw[hc] at hf; cases hf
    |cons a t=>rw[hc] at h5; cases h5
   ·rw[<-BZ]; exact zC h (aB h5 f hf)
theorem Wy {b:Bool} (h:(Bool.rec true false b:Bool)=true):b=false:=by cases b with
 |false=>rfl
 |true=>cases h
theorem KT {y:SA} {cs:List SA} (h:(SE.a y).cells=some cs) (h1:cs.length=1):cs=[y]:=by
 cases y with
 |iD v=>cases v<;>simp[SE.cells] at h<;>first |exact h.symm |(subst h; simp at h1)
 |var n=>simp[SE.cells] at h
 |_=>simp[SE.cells] at h; exact h.symm
theorem kB (h:Good T ρ F) {x:SE} {t:Nat} (hp:ly T F x t=true):HT T t (x.ev ρ):=by
 unfold ly at hp;cases hd:T.get t with
 |none=>rw[hd] at hp; cases hp
 |some d =>
  rw[hd] at hp;have hp:(Option.rec false (fun cs=>aq (It d.agg cs.length x) (CO T F cs t)) x.cells:Bool)=true:=hp
  cases hc:x.cells with
  |none=>rw[hc] at hp; cases hp
  |some cs =>
   rw[hc] at hp;obtain⟨h1,h2⟩:=ad (show aq (It d.agg cs.length x) (CO T F cs t)=true from hp)
   obtain⟨d',dA,h3,h4⟩:=Hr h h2;rw[hd] at dA; cases dA;rw[<-SE.cY hc] at h3 h4;refine .mk hd ?_ ?_ h3 h4
   ·intro ha
    cases x with
    |agg ds=>exact⟨_,rfl⟩
    |a y=>obtain⟨_,h6⟩:=ad h1; rw[Wy h6] at ha; cases ha
   ·intro ha
    cases x with
    |agg ds=>rw[show It d.agg cs.length (.agg ds)=d.agg from rfl,ha] at h1; cases h1
    |a y =>
     obtain⟨h5,_⟩:=ad h1;have h5:=bt h5;have h6:=SE.cY (ρ:=ρ) hc;rw[KT hc h5] at h6;exact h6
theorem EZ (h:Good T ρ F) {m t:Nat} {j:af} (hp:pf1 F m t j=true):Fact.ev T ρ (.pf m j t):=by
 rcases bw hp with h1 |h1
 ·have:=aW h h1
  rw[af.mU] at this;intro e he;rw[show(j.ev ρ).toNat=0 by omega] at he
  simp at he
 ·obtain⟨f,hf,h2⟩:=bL h1
  have h3:=h.fs _ f hf;unfold pfIs at h2;split at h2
  ·obtain⟨h4,h5⟩:=ad h2
   obtain⟨h6,h7⟩:=ad h4;rw[bt h6,bt h7,af.bU h5] at h3;exact h3
  ·cases h2
theorem Yd {a b:Bool} (h:eqB a b=true):a=b:=by cases a<;>cases b<;>first |rfl |cases h
theorem TQ (h:Good T ρ F) {b k t s:Nat} {v:AV} (hp:Yg T F b k t s=true) (hv:HT T s v) (hc:∀ (j:Nat) c,v.cells[j]?=some c->ρ (b+j)=c):HT T t v:=by
 unfold Yg at hp;cases hd:T.get t with
 |none=>rw[hd] at hp; cases hp
 |some d =>
  rw[hd] at hp;have hp:(Option.rec false (fun e=>aq (aq (eqB d.agg e.agg) (Nat.beq e.aV.length k)) (CO T F (eZ e.aV b) t)) (T.get s):Bool)=true:=hp
  cases he:T.get s with
  |none=>rw[he] at hp; cases hp
  |some e =>
   rw[he] at hp;obtain⟨h1,h2⟩:=ad (show aq (aq (eqB d.agg e.agg) (Nat.beq e.aV.length k)) (CO T F (eZ e.aV b) t)=true from hp)
   obtain⟨h3,h4⟩:=ad h1;have h3:=Yd h3;obtain⟨d',dA,h5,h6⟩:=Hr h h2;rw[hd] at dA; cases dA;cases hv with
   |@mk _ _ e' eO ha hn hcs hf =>
    rw[he] at eO; cases eO;rw[kJ hcs hc] at h5 h6;exact .mk hd (fun q=>ha (by rw[<-h3]; exact q)) (fun q=>hn (by rw[<-h3]; exact q)) h5 h6
theorem yw {α:Type} {l:List α} {n:Nat} {x:α} (h:x∈l.take (n+1)):x∈l.take n\/l[n]?=some x:=by
 rw[List.take_add_one] at h;rcases ku.1 h with h |h
 ·exact .inl h
 ·right
  cases hn:l[n]? with
  |none=>rw[hn] at h; cases h
  |some y=>rw[hn] at h; simp at h; rw[h]
theorem R3 (h:Good T ρ F) {m t:Nat} {j:af} (hp:pfOk T F m t j=true):Fact.ev T ρ (.pf m j t):=by
 rcases bw hp with h1 |h1
 ·exact EZ h h1
 ·obtain⟨f,hf,h2⟩:=bL h1
  have h3:=h.fs _ f hf;unfold pfEl at h2;split at h2
  ·rename_i n i b k
   obtain⟨h4,h5⟩:=ad h2;obtain⟨h6,h7⟩:=ad h4;obtain⟨h8,h9⟩:=ad h5;have h8:=EZ h h8;obtain⟨s,hs,dc⟩:=bL h9;have ik:=lW h s hs;rw[bt h6] at h3;obtain⟨kG,v,kY,zi,Km⟩:=h3;have e:(j.ev ρ).toNat=(i.ev ρ).toNat+1:=by
    rw[<-af.bU h7,af.bf]; omega
   intro x hx;rw[e] at hx;rcases yw hx with hx |hx
   ·exact h8 x hx
   ·rw[kY] at hx
    cases hx
    refine TQ h dc (ik.elem ?_) Km
    rw[eW];exact pT kY
  ·cases h2
theorem za {q:Int} (h:nB q=true) (hn:isNeg q=true):q = -1:=by have:=wO h; rw[hn] at this; simpa using this
theorem y9 {q:Int} (h:nB q=true) (hn:isNeg q=false):q=1:=by have:=wO h; rw[hn] at this; simpa using this
theorem YE {f:BF} (h:axP f=true):f.ev ρ:=by
 unfold axP at h;split at h
 ·rename_i c a x b y
  rcases bw h with h |h
  ·obtain⟨h1,h2⟩:=ad h
   obtain⟨h3,h4⟩:=ad h1;obtain⟨h5,h6⟩:=ad h4;obtain⟨h7,h8⟩:=ad h2;obtain⟨h9,dc⟩:=ad h7;obtain⟨ik,kG⟩:=ad h8;have:=pt h3;have hp:=EW (ρ:=ρ) ik;rw[<-bt kG] at hp;show 0<=af.ev ρ _
   simp only[af.ev,eA,za h6 h5,y9 dc (Wy h9)];omega
  ·obtain⟨h1,h2⟩:=ad h
   obtain⟨h3,h4⟩:=ad h1;obtain⟨h5,h6⟩:=ad h4;obtain⟨h7,h8⟩:=ad h2;obtain⟨h9,dc⟩:=ad h7;obtain⟨ik,kG⟩:=ad h8;have:=pt h3;have hp:=NG (ρ:=ρ) ik;have hb:a-1=b:=by have:=bt kG; omega
   rw[hb] at hp;show 0<=af.ev ρ _
   simp only[af.ev,eA,y9 h6 (Wy h5),za dc h9];omega
 ·cases h
theorem iX {x:SA} {m:Nat} (h:jQ x=some m):bN (x.ev ρ)=bN (ρ m)/\elems (x.ev ρ)=elems (ρ m)/\bB (x.ev ρ)=bB (ρ m):=by
 unfold jQ at h;split at h<;>cases h
 ·exact⟨jR _,eW _,cj _⟩
 ·exact⟨rfl,rfl,rfl⟩
theorem CM {x:SA} {n:Nat} (h:isVar x n=true):x = .var n:=by
 unfold isVar at h;split at h
 ·rw[bt h]
 ·cases h
theorem DI {aV:List CT} {b:Nat} {cs:List SA} (h:zI σ aV b=some cs):(kI aV b).val (σ.val ρ)=fq (cs.map (SA.ev ρ)):=by
 have e:cs.map (SA.ev ρ)=(eZ aV b).map (SA.ev (σ.val ρ)):=fW (fun a c hc=>SA.bG hc) h
 funext j
 unfold Sub.val kI fq;rw[cS,e,jB,tX]
 cases aV[j]?<;>rfl
theorem td (h:Good T ρ F) {f:Fact} (hp:M6 T F σ f=true):Fact.ev T (σ.val ρ) f:=by
 cases f with
 |f b =>
  have hp:(Option.rec false (fun g=>fN (axP g) (g.pr F true)) (b.sub σ):Bool)=true:=hp
  cases hs:b.sub σ with
  |none=>rw[hs] at hp; cases hp
  |some g =>
   rw[hs] at hp;refine(BF.bG hs).1 ?_
   rcases bw (show fN (axP g) (g.pr F true)=true from hp) with h1 |h1
   ·exact YE h1
   ·exact mH h h1
 |ty n t =>
  show j3 T t (bN ((σ n).ev ρ))
  simp only[M6] at hp;split at hp
  ·rename_i e; rw[e]; exact .inl rfl
  ·cases hm:jQ (σ n) with
   |none=>rw[hm] at hp; cases hp
   |some m=>rw[hm] at hp; rw[(iX hm).1]; exact LR h hp
 |sz n s =>
  show zQ s (bN ((σ n).ev ρ))
  simp only[M6] at hp;split at hp
  ·rename_i e; rw[e]; exact .inl rfl
  ·cases hm:jQ (σ n) with
   |none=>rw[hm] at hp; cases hp
   |some m=>rw[hm] at hp; rw[(iX hm).1]; exact ij h hp
 |el n i b k =>
  simp only[M6] at hp;split at hp
  ·rename_i m j hm hj
   obtain⟨f,hf,h1⟩:=bL hp;have h2:=h.fs _ f hf;unfold elIs at h1;split at h1
   ·rename_i n' i' c q
    obtain⟨h3,h4⟩:=ad h1;obtain⟨h5,h6⟩:=ad h3;obtain⟨h7,h8⟩:=ad h4;rw[bt h5,af.bU h6,bt h7] at h2;obtain⟨h9,v,dc,ik,kG⟩:=h2;refine⟨by rw[<-af.bG hj]; exact h9,v,?_,ik,?_⟩
    ·show(elems ((σ n).ev ρ))[(i.ev (σ.val ρ)).toNat]?=_
     rw[<-af.bG hj,(iX hm).2.1]; exact dc
    ·intro x y hx
     have aO:x<k:=by have:=fU.1 hx; obtain⟨q,_⟩:=this; omega
     have:=CM (aB h8 x (tb.2 aO));show(σ (b+x)).ev ρ=y
     rw[this];exact kG x y hx
   ·cases h1
  ·cases hp
 |pf n i t =>
  intro e he;have he:e∈(elems ((σ n).ev ρ)).take (i.ev (σ.val ρ)).toNat:=he;simp only[M6] at hp;split at hp
  ·rename_i e1; rw[e1,show elems (SA.ev ρ (.iD .az))=[] from rfl,List.take_nil] at he; cases he
  ·split at hp
   ·rename_i m j hm hj
    rw[<-af.bG hj,(iX hm).2.1] at he;exact R3 h hp e he
   ·cases hp
 |cd t b =>
  intro d hd f hf;have hp:(Option.rec false (fun cs=>aU (tZ T (I6 cs) F) (pN T t)) (zI σ (js T t) b):Bool)=true:=hp
  rw[show js T t=d.aV by unfold js; rw[hd]] at hp
  cases hc:zI σ d.aV b with
  |none=>rw[hc] at hp; cases hp
  |some cs =>
   rw[hc] at hp;rw[DI hc,<-BZ];refine zC h (aB hp f ?_)
   unfold pN; rw[hd]; exact hf
 |tp n =>
  show yc (bN ((σ n).ev ρ))
  simp only[M6] at hp;split at hp
  ·rename_i e; rw[e]; exact .inl rfl
  ·cases hm:jQ (σ n) with
   |none=>rw[hm] at hp; cases hp
   |some m=>rw[hm] at hp; rw[(iX hm).1]; exact xq h hp
theorem T2 {ct:CT} {x:SA} {v:Nat} (h:T3 ct x v=true):x=yF ct v:=by
 unfold T3 at h;split at h
 ·obtain⟨h1,h2⟩:=ad h; rw[vw h1,af.bU h2]; rfl
 ·rw[bt h]; rfl
 ·rw[bt h]; rfl
 ·rw[bt h]; rfl
 ·rw[bt h]; rfl
 ·rw[bt h]; rfl
 ·cases h
theorem PT:∀ {aV:List CT} {xs:List SA} {v:Nat},zz aV xs v=true->xs=eZ aV v:=by
 intro aV
 induction aV with
 |nil=>intro xs v h; cases xs with
  |nil=>rfl
  |cons x t=>cases h
 |cons ct t ih =>
  intro xs v h;cases xs with
  |nil=>cases h
  |cons x s =>
   obtain⟨h1,h2⟩:=qW (show(Bool.rec false (zz t s (v+1)) (T3 ct x v):Bool)=true from h)
   rw[T2 h1,ih h2]; rfl
theorem T4 {aV:List CT} {b c:Nat} (h:P3 σ aV b=some c):(kI aV c).val ρ=(kI aV b).val (σ.val ρ):=by
 unfold P3 at h;cases hc:zI σ aV b with
 |none=>rw[hc] at h; cases h
 |some cs =>
  rw[hc] at h;cases cs with
  |nil=>cases h
  |cons x t =>
   have h:(Option.rec none (fun c=>Bool.rec none (some c) (zz aV (x::t) c)) (varOf x):Option Nat)=some c:=h
   cases hv:varOf x with
   |none=>rw[hv] at h; cases h
   |some c' =>
    rw[hv] at h;have h:(Bool.rec none (some c') (zz aV (x::t) c'):Option Nat)=some c:=h;cases he:zz aV (x::t) c' with
    |false=>rw[he] at h; cases h
    |true =>
     rw[he] at h;have h:some c'=some c:=h;cases h;rw[DI hc,PT he]
     funext j
     unfold Sub.val kI fq;rw[cS,jB,tX]
     cases aV[j]?<;>rfl
theorem Bw (h:Good T ρ F) {f:Fact} (hf:Fact.ev T (σ.val ρ) f):Good T ρ (Bx T σ F f):=by
 cases f with
 |f b =>
  show Good T ρ (Option.rec F (fun g=>assume T F g true) (b.sub σ))
  cases hs:b.sub σ with
  |none=>exact h
  |some g=>exact uT h ((BF.bG hs).2 hf)
 |ty n t =>
  show Good T ρ (Option.rec F (fun m=>oN T F m t) (jQ (σ n)))
  cases hm:jQ (σ n) with
  |none=>exact h
  |some m =>
   refine mn h ?_
   have hf:j3 T t (bN ((σ n).ev ρ)):=hf;rw[(iX hm).1] at hf; exact hf
 |sz n s =>
  show Good T ρ (Option.rec F (fun m=>F.fact m (.sz m s)) (jQ (σ n)))
  cases hm:jQ (σ n) with
  |none=>exact h
  |some m =>
   refine h.fact ?_
   have hf:zQ s (bN ((σ n).ev ρ)):=hf;rw[(iX hm).1] at hf; exact hf
 |el n i b k =>
  simp only[Bx];split
  ·rename_i m j c hm hj hb
   cases hr:aU (fun x=>isVar (σ (b+x)) (c+x)) (List.range k) with
   |false=>exact h
   |true =>
    refine h.fact ?_
    obtain⟨h9,v,dc,ik,kG⟩:=hf;rw[<-af.bG hj] at h9 dc;refine⟨h9,v,?_,ik,?_⟩
    ·have dc:(elems ((σ n).ev ρ))[(j.ev ρ).toNat]?=some v:=dc
     rw[(iX hm).2.1] at dc; exact dc
    ·intro x y hx
     have aO:x<k:=by have:=fU.1 hx; obtain⟨q,_⟩:=this; omega
     have:=CM (aB hr x (tb.2 aO));have kY:=kG x y hx;have kY:(σ (b+x)).ev ρ=y:=kY;rw[this] at kY; exact kY
  ·exact h
 |pf n i t =>
  simp only[Bx];split
  ·rename_i m j hm hj
   refine h.fact ?_
   intro e he;have hf:∀ e∈(elems ((σ n).ev ρ)).take (i.ev (σ.val ρ)).toNat,HT T t e:=hf;rw[<-af.bG hj,(iX hm).2.1] at hf;exact hf e he
  ·exact h
 |cd t b =>
  show Good T ρ (Option.rec F (fun c=>DU T F t c) (P3 σ (js T t) b))
  cases hc:P3 σ (js T t) b with
  |none=>exact h
  |some c =>
   refine DT h ?_
   intro d hd f Tl;rw[show js T t=d.aV by unfold js; rw[hd]] at hc
   rw[T4 hc];exact hf d hd f Tl
 |tp n =>
  show Good T ρ (Option.rec F (fun m=>F.fact m (.tp m)) (jQ (σ n)))
  cases hm:jQ (σ n) with
  |none=>exact h
  |some m =>
   refine h.fact ?_
   have hf:yc (bN ((σ n).ev ρ)):=hf;rw[(iX hm).1] at hf; exact hf
theorem zO {l:List Fact} (h:Good T ρ F) (hl:∀ f∈l,Fact.ev T (σ.val ρ) f):Good T ρ (bm (Bx T σ) l F) :=
 fj (fun f hf G hG=>Bw hG (hl f hf)) h
theorem PS (h:Good T ρ F) {f:Fact} (hf:Fact.ev T (σ.val ρ) f):DB σ F f=false:=by
 cases hp:DB σ F f with
 |false=>rfl
 |true =>
  unfold DB at hp;split at hp
  ·rename_i b
   cases hs:b.sub σ with
   |none=>rw[hs] at hp; cases hp
   |some g=>rw[hs] at hp; exact absurd ((BF.bG hs).2 hf) (mb h hp)
  ·cases hp
theorem sJ:∀ {l:List Fact} {F:ai},Good T ρ F->(∀ f∈l,Fact.ev T (σ.val ρ) f)->∃ G,Qw T σ l F=some G/\Good T ρ G:=by
 intro l
 induction l with
 |nil=>intro F h _; exact⟨F,rfl,h⟩
 |cons f t ih =>
  intro F h hl;obtain⟨G,h1,h2⟩:=ih (Bw h (hl f (.head _))) (fun g hg=>hl g (.tail _ hg))
  refine⟨G,?_,h2⟩
  show(Bool.rec (Qw T σ t (Bx T σ F f)) none (DB σ (F.Ep 3) f):Option ai)=some G
  rw[PS (h.Ep 3) (hl f (.head _))];exact h1
end
end Go.Ab
theorem wo:type_of% @List.map_congr_left:=@List.map_congr_left
theorem MS:type_of% @decide_eq_decide:=@decide_eq_decide
namespace Go.Ab
noncomputable section
open Go.Ev
open Classical
variable {ρ ρ' ca : cz} {T : TT} {F : ai} {σ : Sub}
def aj (ρ ρ':cz) (n:Nat):Prop:=∀ j,j<n->ρ' j=ρ j
theorem aj.refl (ρ:cz) (n:Nat):aj ρ ρ n:=fun _ _=>rfl
theorem aj.symm {n:Nat} (h:aj ρ ρ' n):aj ρ' ρ n:=fun j hj=>(h j hj).symm
theorem aj.trans {n:Nat} (h:aj ρ ρ' n) (h':aj ρ' ca n):aj ρ ca n:=fun j hj=>(h' j hj).trans (h j hj)
theorem aj.le {n m:Nat} (h:aj ρ ρ' n) (hm:m<=n):aj ρ ρ' m:=fun j hj=>h j (qy hj hm)
theorem bO {a b:Nat} (h:Nat.blt a b=true):a<b:=gW h
theorem iU {a b:Nat} (h:Nat.ble a b=true):a<=b:=gW h
variable {n : Nat}
theorem RM (h:aj ρ ρ' n) {a:Nat} (hs:RN n a=true):gf ρ' a=gf ρ a:=by
 unfold RN at hs;unfold gf;cases h1:Nat.ble (a % 8) 3 with
 |true =>
  rw[h1] at hs;have e:=h _ (bO (show Nat.blt (a / 8) n=true from hs))
  have h2:=iU h1;have:a % 8=0\/a % 8=1\/a % 8=2\/a % 8=3:=by omega
  rcases this with q |q |q |q<;>rw[q,e]<;>rfl
 |false =>
  rw[h1] at hs;obtain⟨h2,h3⟩:=ad (show aq (Nat.blt (a / 8 / 4294967296-1) n) (fN (Nat.beq (a / 8 / 65536 % 65536) 0) (Nat.blt (a / 8 / 65536 % 65536-1) n))=true from hs)
  rw[h _ (bO h2)];have hk:¬ a % 8<=3:=fun q=>by rw[Nat.ble_eq_true_of_le q] at h1; cases h1
  have hb:∀ c,c<=3->Nat.beq (a % 8) c=false:=by
   intro c hc;cases hq:Nat.beq (a % 8) c with
   |false=>rfl
   |true=>have:=bt hq; omega
  rw[hb 0 (by omega),hb 1 (by omega),hb 2 (by omega),hb 3 (by omega)]
  rcases bw h3 with h3 |h3
  ·rw[h3]; rfl
  ·rw[h _ (bO h3)]; rfl
theorem RJ (h:aj ρ ρ' n):∀ {ts:List (Nat × Int)},(∀ p∈ts,RN n p.1=true)->eA ρ' ts=eA ρ ts:=by
 intro ts
 induction ts with
 |nil=>intro _; rfl
 |cons p t ih=>intro hs; simp only[eA]; rw[RM h (hs p (.head _)),ih (fun q hq=>hs q (.tail _ hq))]
theorem iK (h:aj ρ ρ' n) {l:af} (hs:Mw n l=true):l.ev ρ'=l.ev ρ:=by
 simp only[af.ev]; rw[RJ h (aB hs)]
theorem EB (h:aj ρ ρ' n) {s:SS} (hs:scS n s=true):s.ev ρ'=s.ev ρ:=by
 cases s with
 |c s=>rfl
 |v m=>simp only[SS.ev]; rw[h _ (bO hs)]
theorem ED (h:aj ρ ρ' n) {f:BF}:scB n f=true->(f.ev ρ'↔f.ev ρ):=by
 induction f with
 |k b=>intro _; rfl
 |ge l=>intro hs; simp only[BF.ev]; rw[iK h hs]
 |eq l=>intro hs; simp only[BF.ev]; rw[iK h hs]
 |u m=>intro hs; simp only[BF.ev]; rw[h _ (bO hs)]
 |seq x y=>intro hs; obtain⟨h1,h2⟩:=ad hs; simp only[BF.ev]; rw[EB h h1,EB h h2]
 |dot m=>intro hs; simp only[BF.ev]; rw[h _ (bO hs)]
 |not f ih=>intro hs; simp only[BF.ev]; rw[ih hs]
 |and f g jU jl=>intro hs; obtain⟨h1,h2⟩:=ad hs; simp only[BF.ev]; rw[jU h1,jl h2]
 |or f g jU jl=>intro hs; obtain⟨h1,h2⟩:=ad hs; simp only[BF.ev]; rw[jU h1,jl h2]
 |imp f g jU jl=>intro hs; obtain⟨h1,h2⟩:=ad hs; simp only[BF.ev]; rw[jU h1,jl h2]
theorem oe (h:aj ρ ρ' n) {x:SA} (hs:UB n x=true):x.ev ρ'=x.ev ρ:=by
 cases x with
 |int k l=>simp only[SA.ev]; rw[iK h hs]
 |bl f=>simp only[SA.ev]; congr 1; simp only[MS]; exact ED h hs
 |str s=>simp only[SA.ev]; rw[EB h hs]
 |sl m=>simp only[SA.ev]; rw[h _ (bO hs)]
 |ptr m o=>simp only[SA.ev]; rw[h _ (bO hs)]
 |ks m q=>obtain⟨h1,h2⟩:=ad hs; simp only[SA.ev]; rw[h _ (bO h1),h _ (bO h2)]
 |var m=>simp only[SA.ev]; rw[h _ (bO hs)]
 |iD v=>rfl
theorem Aj (h:aj ρ ρ' n) {cs:List SA} (hs:aU (UB n) cs=true):cs.map (SA.ev ρ')=cs.map (SA.ev ρ) :=
 wo fun x hx=>oe h (aB hs x hx)
theorem Mz (h:aj ρ ρ' n) {x:SE} (hs:scE n x=true):x.ev ρ'=x.ev ρ:=by
 cases x with
 |a x=>exact oe h hs
 |agg cs=>simp only[SE.ev]; rw[Aj h hs]
theorem vl (h:aj ρ ρ' n) {l:List SE} (hs:aU (scE n) l=true):l.map (SE.ev ρ')=l.map (SE.ev ρ) :=
 wo fun x hx=>Mz h (aB hs x hx)
theorem Wa (h:aj ρ ρ' n) {x:SV} (hs:scV n x=true):x.ev ρ'=x.ev ρ:=by
 cases x with
 |e x=>exact Mz h hs
 |cv l=>simp only[SV.ev]; rw[vl h hs]
 |ro cs o m i =>
  obtain⟨h1,h2⟩:=ad hs;obtain⟨h2,h3⟩:=ad h2;simp only[SV.ev]; rw[Aj h h1,h _ (bO h2),iK h h3]
 |ap m i s o=>obtain⟨h1,h2⟩:=ad hs; simp only[SV.ev]; rw[h _ (bO h1),iK h h2]
theorem DD (h:aj ρ ρ' n) {aV:List CT} {b:Nat} (hs:b+aV.length<=n):(kI aV b).val ρ'=(kI aV b).val ρ:=by
 funext j
 unfold Sub.val kI;rw[cS];cases hj:aV[j]? with
 |none=>rfl
 |some ct =>
  obtain⟨q,_⟩:=fU.1 hj
  have e:ρ' (b+j)=ρ (b+j):=h _ (by omega)
  show(yF ct (b+j)).ev ρ'=(yF ct (b+j)).ev ρ
  cases ct<;>simp only[yF,SA.ev,SS.ev,BF.ev,af.aR,dz,e]
  congr
theorem Wb (h:aj ρ ρ' n) {f:Fact} (hs:scF T n f=true) (hf:Fact.ev T ρ f):Fact.ev T ρ' f:=by
 cases f with
 |f b=>exact(ED h hs).2 hf
 |ty m t=>show j3 T t (bN (ρ' m)); rw[h _ (bO hs)]; exact hf
 |sz m s=>show zQ s (bN (ρ' m)); rw[h _ (bO hs)]; exact hf
 |el m i b k =>
  obtain⟨h1,h2⟩:=ad hs;obtain⟨h2,h3⟩:=ad h2;obtain⟨h4,v,h5,h6,h7⟩:=hf;refine⟨by rw[iK h h2]; exact h4,v,by rw[iK h h2,h _ (bO h1)]; exact h5,h6,?_⟩
  intro j c hj;obtain⟨q,_⟩:=fU.1 hj
  have:=iU h3;rw[h _ (by omega)]; exact h7 j c hj
 |pf m i t =>
  obtain⟨h1,h2⟩:=ad hs;intro e he;rw[iK h h2,h _ (bO h1)] at he;exact hf e he
 |cd t b =>
  intro d hd f Tl;have hs:=iU (show Nat.ble (b+(js T t).length) n=true from hs)
  rw[show js T t=d.aV by unfold js; rw[hd]] at hs
  rw[DD h hs];exact hf d hd f Tl
 |tp m=>show yc (bN (ρ' m)); rw[h _ (bO hs)]; exact hf
theorem pn (h:aj ρ ρ' n) {l:List Fact} (hs:aU (scF T n) l=true) (hl:∀ f∈l,Fact.ev T ρ f):∀ f∈l,Fact.ev T ρ' f :=
 fun f hf=>Wb h (aB hs f hf) (hl f hf)
def aT (ρ:cz) (n:Nat):Nat:=keyOf (ρ n)
def dD (ρ:cz) (w:Nat):Nat:=(intOf (ρ w)).toNat
def cG:AV->Option Nat
 | .sl _ _ (.at id)=>some id
 |_=>none
abbrev uq:=Nat × Nat × List SA
abbrev yg:=Nat × Nat × Nat × Nat
structure vd (ρ:cz) (own:Nat->Prop) (st:St) (p:uq):Prop where
 own:own (aT ρ p.1)
 lt:aT ρ p.1<st.next
 box:st.heap.get (aT ρ p.1)=some (.box (dD ρ p.2.1) (p.2.2.map (SA.ev ρ)))
structure vg (ρ:cz) (own:Nat->Prop) (st:St) (p:yg):Prop where
 own:own (aT ρ p.1)
 lt:aT ρ p.1<st.next
 box:∃ es aN,bN (ρ p.2.2.1) = .sl p.2.2.2 es aN/\(∀ e∈es,e.cells.length=p.2.2.2)/\st.heap.get (aT ρ p.1)=some (.box (dD ρ p.2.1) (flat es))
def o8 (own:Nat->Prop) (st:St) (v:AV):Prop:=v = .az\/∃ s es,v = .sl s es .full\/∃ id,v = .sl s es (.at id)/\own id/\id<st.next/\st.heap.get id=some .aN
def bj (ρ:cz) (hp:List uq) (ar:List yg):List Nat:=hp.map (fun p=>aT ρ p.1)++ar.map (fun p=>aT ρ p.1)
def kp (ρ:cz) (live:List Nat):Prop:=live.Pairwise fun n m=>∀ id,cG (ρ n)=some id->cG (ρ m)≠some id
structure bA (ρ:cz) (own:Nat->Prop) (hp:List uq) (ar:List yg) (live:List Nat) (st:St):Prop where
 qM:∀ p∈hp,vd ρ own st p
 uU:∀ p∈ar,vg ρ own st p
 nz:∀ n∈live,o8 own st (bN (ρ n))
 keys:(bj ρ hp ar).Nodup
 rq:kp ρ live
theorem dG (v:AV):cG (bN v)=cG v:=by cases v<;>rfl
theorem Mx (h:aj ρ ρ' n) {own:Nat->Prop} {st:St} {hp:List uq} (hs:aU (My n) hp=true) (hm:∀ p∈hp,vd ρ own st p):∀ p∈hp,vd ρ' own st p:=by
 intro p dZ;obtain⟨h1,h2⟩:=ad (aB hs p dZ);obtain⟨h2,h3⟩:=ad h2;have e:=h _ (bO h1);have e2:=h _ (bO h2);obtain⟨a,b,c⟩:=hm p dZ;refine⟨?_,?_,?_⟩<;>unfold aT at *<;>rw[e]<;>try assumption
 unfold dD at *;rw[e2,Aj h h3]; exact c
theorem MB (h:aj ρ ρ' n) {own:Nat->Prop} {st:St} {ar:List yg} (hs:aU (MC n) ar=true) (hm:∀ p∈ar,vg ρ own st p):∀ p∈ar,vg ρ' own st p:=by
 intro p dZ;obtain⟨h1,h2⟩:=ad (aB hs p dZ);obtain⟨h2,h3⟩:=ad h2;have e:=h _ (bO h1);have e2:=h _ (bO h2);have e3:=h _ (bO h3);obtain⟨a,b,c⟩:=hm p dZ;refine⟨?_,?_,?_⟩<;>unfold aT at *<;>(try rw[e])<;>try assumption
 unfold dD at *;rw[e2,e3]; exact c
theorem bA.agree (h:aj ρ ρ' n) {own:Nat->Prop} {st:St} {hp:List uq} {ar:List yg} {live:List Nat} (hs:aU (My n) hp=true) (ha:aU (MC n) ar=true) (hl:aU (fun m=>Nat.blt m n) live=true) (hm:bA ρ own hp ar live st):bA ρ' own hp ar live st:=by
 obtain⟨a,b,c,d,e⟩:=hm;refine⟨Mx h hs a,MB h ha b,?_,?_,?_⟩
 ·intro m gO; rw[h _ (bO (aB hl m gO))]; exact c m gO
 ·have e1:bj ρ' hp ar=bj ρ hp ar:=by
   unfold bj aT
   congr 1
   ·exact wo fun p dZ=>by rw[h _ (bO (ad (aB hs p dZ)).1)]
   ·exact wo fun p dZ=>by rw[h _ (bO (ad (aB ha p dZ)).1)]
  rw[e1]; exact d
 ·unfold kp at e ⊢
  refine List.Pairwise.imp_of_mem ?_ e
  intro x y hx hy Fl;rw[h _ (bO (aB hl x hx)),h _ (bO (aB hl y hy))]; exact Fl
structure cp (T:TT) (own:Nat->Prop) (ρ:cz) (S:Sy) (tm:Tr AV) (st:St):Prop where
 sl:∀ k v,S.sl.get k=some v->tm.get k=some (v.ev ρ)
 mem:bA ρ own S.hp S.ar S.live st
 fs:Good T ρ S.F
structure Sat (T:TT) (own:Nat->Prop) (ρ:cz) (S:Sy) (tm:Tr AV) (st:St):Prop where
 lQ:∀ ρ',aj ρ ρ' S.nx->cp T own ρ' S tm st
 fresh:∀ k,st.next<=k->own k
structure Fr (own:Nat->Prop) (st ae:St):Prop where
 next:st.next<=ae.next
 same:∀ k,¬ own k->ae.heap.get k=st.heap.get k
theorem Fr.refl (own:Nat->Prop) (st:St):Fr own st st:=⟨dN _,fun _ _=>rfl⟩
theorem Fr.trans {own:Nat->Prop} {a b c:St} (h:Fr own a b) (h':Fr own b c):Fr own a c:=⟨lS h.next h'.next,fun k hk=>(h'.same k hk).trans (h.same k hk)⟩
variable {own : Nat → Prop} {S : Sy} {tm : Tr AV} {st : St}
theorem Sat.here (h:Sat T own ρ S tm st):cp T own ρ S tm st:=h.lQ ρ (aj.refl _ _)
theorem Sat.agree (h:Sat T own ρ S tm st) (ha:aj ρ ρ' S.nx):Sat T own ρ' S tm st:=⟨fun ca h'=>h.lQ ca (ha.trans h'),h.fresh⟩
theorem cq (h:cp T own ρ S tm st) {x:XO} {v:SV} (he:rf S x=some v):aD tm x=v.ev ρ:=by
 cases x with
 |t k =>
  have:=h.sl k v he;show(Option.rec gg (fun v=>v) (tm.get k):AV)=_
  rw[this]
 |c u=>cases he; exact(AM u).symm
theorem iu (h:cp T own ρ S tm st) {x:XO} {v:SE} (he:FV S x=some v):aD tm x=v.ev ρ:=by
 unfold FV at he;split at he
 ·rename_i y hy; cases he; exact cq h hy
 ·cases he
theorem bS (h:cp T own ρ S tm st) {x:XO} {v:SA} (he:mo S x=some v):aD tm x=v.ev ρ:=by
 unfold mo at he;split at he
 ·rename_i y hy; cases he; exact cq h hy
 ·cases he
theorem Sj (h:cp T own ρ S tm st) {x:XO} {l:af} (he:tk S x=some l):∃ k,aD tm x = .int k (l.ev ρ):=by
 unfold tk at he;split at he
 ·rename_i k y hy; cases he; exact⟨k,bS h hy⟩
 ·cases he
theorem JR {k:IntKind} {n:Int} (h:0<=n):ch (.int k n)=some n.toNat:=by
 cases n with
 |ofNat n=>rfl
 |negSucc n=>exact absurd h (by have:=Int.negSucc_lt_zero n; omega)
theorem gZ (h:cp T own ρ S tm st) {x:XO} {l:af} (he:tk S x=some l) (h0:0<=l.ev ρ):ch (aD tm x)=some (l.ev ρ).toNat:=by
 obtain⟨k,e⟩:=Sj h he;rw[e]; exact JR h0
def aL (T:TT) (ρ:cz) (nx:Nat) (r:PR) (x:Option AV):Prop :=
 ∀ v F n lv,r=some (v,F,n,lv)->∃ w ρ',x=some w/\aj ρ ρ' nx/\∀ ca,aj ρ' ca (nx+n)->w=v.ev ca/\Good T ca F/\∀ m∈lv,nx<=m/\∃ s es,ca m = .sl s es .full
theorem aL.none {nx:Nat} {x:Option AV}:aL T ρ nx none x:=fun v F n lv h=>by cases h
theorem aL.old (h:Sat T own ρ S tm st) {v:SV} {x:Option AV} (hx:∀ ρ',cp T own ρ' S tm st->x=some (v.ev ρ')):aL T ρ S.nx (old S v) x:=by
 intro v' F n lv hr;have hr:some (v,S.F,0,[])=some (v',F,n,lv):=hr;cases hr;refine⟨v.ev ρ,ρ,hx ρ h.here,aj.refl _ _,fun ca ha=>?_⟩
 have h1:=h.lQ ca (ha.le (by omega))
 refine⟨?_,h1.fs,fun m hm=>by cases hm⟩
 have:=(hx ρ h.here).symm.trans (hx ca h1);exact Option.some.inj this
theorem aL.dW (h:Sat T own ρ S tm st) {v:SA} {x:Option AV} (hx:∀ ρ',cp T own ρ' S tm st->x=some (v.ev ρ')):aL T ρ S.nx (dW S v) x:=aL.old h hx
def Ld (ρ:cz) (n:Nat) (u:AV):cz:=fun j=>if j=n then u else ρ j
theorem en (ρ:cz) (n:Nat) (u:AV):aj ρ (Ld ρ n u) n:=fun j hj=>by unfold Ld; rw[ba (by omega)]
theorem rj (ρ:cz) (n:Nat) (u:AV):Ld ρ n u n=u:=by unfold Ld; rw[bJ rfl]
theorem aL.new (h:Sat T own ρ S tm st) {v:SV} {F:ai} {lv:List Nat} {x:Option AV} (w u:AV) (hx:x=some w)
  (hn:∀ ρ',cp T own ρ' S tm st->ρ' S.nx=u->w=v.ev ρ'/\Good T ρ' F/\∀ m∈lv,S.nx<=m/\∃ s es,ρ' m = .sl s es .full):aL T ρ S.nx (some (v,F,1,lv)) x:=by
 intro v' F' n lv' hr;cases hr;refine⟨w,Ld ρ S.nx u,hx,en _ _ _,fun ca ha=>?_⟩
 exact hn ca (h.lQ ca ((en _ _ _).trans (ha.le (by omega)))) ((ha _ (by omega)).trans (rj _ _ _))
theorem aL.guard {nx:Nat} {b:Bool} {r:PR} {x:Option AV} (h:b=true->aL T ρ nx r x):aL T ρ nx (br b r) x:=by
 cases b with
 |false=>exact aL.none
 |true=>exact h rfl
theorem aL.ite {nx:Nat} {b:Bool} {r s:PR} {x:Option AV} (h:b=true->aL T ρ nx r x) (h':aL T ρ nx s x):aL T ρ nx (NU b r s) x:=by
 cases b with
 |false=>exact h'
 |true=>exact h rfl
end
end Go.Ab
