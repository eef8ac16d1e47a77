/- Parts of the proof; no condition. -/
import GoSem.Step
import Derived.Deep.MidRow
import Derived.Deep.AppendSrc
import Derived.Below
import Derived.WalkKit
import Derived.Laws.Slices
import Derived.Laws.StructEq
import Derived.Laws.BytesArg
import Derived.Great.BuildSlice
import Derived.Lib.LaidTab
set_option linter.unusedSimpArgs false
set_option linter.unusedVariables false
namespace Go.Ev
inductive Tr (α:Type) where
 |nil
 |node (v:Option α) (l r:Tr α)
noncomputable section
def Tr.get {α:Type} (t:Tr α):Nat->Option α :=
 Tr.rec (motive:=fun _=>Nat->Option α) (fun _=>none) (fun v _ _ gl gr k=>Bool.rec (Bool.rec (gr (Nat.sub (Nat.div k 2) 1)) (gl (Nat.div k 2)) (Nat.beq (Nat.mod k 2) 1)) v (Nat.beq k 0)) t
def Tr.uV {α:Type} (x:α) (f:Nat):Tr α->Nat->Tr α :=
 Nat.rec (motive:=fun _=>Tr α->Nat->Tr α) (fun t _=>t) (fun _ ih t k =>
  Tr.rec (motive:=fun _=>Tr α)
   (Bool.rec (Bool.rec (.node none .nil (ih .nil (Nat.sub (Nat.div k 2) 1))) (.node none (ih .nil (Nat.div k 2)) .nil) (Nat.beq (Nat.mod k 2) 1)) (.node (some x) .nil .nil) (Nat.beq k 0))
   (fun v l r _ _=>Bool.rec (Bool.rec (.node v l (ih r (Nat.sub (Nat.div k 2) 1))) (.node v (ih l (Nat.div k 2)) r) (Nat.beq (Nat.mod k 2) 1)) (.node (some x) l r) (Nat.beq k 0)) t) f
def Tr.set {α:Type} (t:Tr α) (k:Nat) (x:α):Tr α:=Tr.uV x (Nat.succ k) t k
inductive lV where
 |full
 |dead
 |at (id:Nat)
inductive AV where
 |bool (b:Bool)
 |int (k:IntKind) (n:Int)
 |str (s:List UInt8)
 |iL
 |ptr (key off:Nat)
 |ro (cs:List AV) (off:Nat) (home:Option (Nat × Nat))
 |az
 |sl (size:Nat) (es:List AV) (t:lV)
 |ks (key off n:Nat)
 |kU
 |mp (key:Nat)
 |kV
 |fn (f:Nat) (first la:List AV)
 |agg (cs:List AV)
 |cv (vs:List AV)
 |any
 deriving Inhabited
def AV.cells:AV->List AV
 | .agg cs=>cs
 | .cv _=>[]
 | .any=>[]
 |v=>[v]
def gg:AV:=.cv []
inductive dR where
 |box (bX:Nat) (cs:List AV)
 |map (bX:Nat) (kv:List (AV × AV))
 |aN
 |gone
structure St where
 heap:Tr dR
 next:Nat
inductive XO where
 |t (n:Nat)
 |c (v:AV)
inductive EK where
 |int |str |bool |ptr |slice |map |func |none
 |struct (z:List AV)
inductive XP where
 |move (x:XO)
 |pick (c a b:XO)
 |build (z:List AV) (parts:List (Nat × Nat × XO))
 |fv (size:Nat) (z:List AV) (parts:List (Nat × XO))
 |WB (x:XO)
 |bin (op:BinOp) (k:EK) (x y:XO)
 |not (x:XO)
 |neg (x:XO)
 |mkf (f:Nat) (first la:List XO)
 |lZ (x:XO) (lo hi:Option XO)
 |I5 (size:Nat) (x:XO) (lo hi:Option XO)
 |iq (off:Nat) (x:XO)
 |field (off size:Nat) (agg:Bool) (x:XO)
 |gE (size:Nat) (x ix:XO)
 |tz (x ix:XO)
 |ext (x:XO) (i:Nat)
 |lens (x:XO)
 |kA (x:XO)
 |max (x y:XO)
 |min (x y:XO)
 |KP (k:IntKind) (x:XO)
 |Yq (x:XO)
 |ud (x:XO)
inductive XL where
 |load (size:Nat) (agg:Bool) (a:XO)
 |look (k:EK) (z:AV) (ok:Bool) (m ix:XO)
inductive XE where
 |alloc (cs:List AV)
 |box (size:Nat) (x:XO)
 |store (size:Nat) (a x:XO)
 |Sn (size bytes:Nat) (z:AV) (l c:XO)
 |He
 |put (k:EK) (m q v:XO)
 |app (size bytes:Nat) (s x:XO)
 |K6 (size bytes:Nat) (s x q u:XO)
 |dL (size:Nat) (x:XO)
 |call (f:XO) (args:List XO)
inductive Iz where
 |p (o:XP)
 |l (o:XL)
 |e (o:XE)
structure XR where
 dst:Option Nat
 guard:Option (Nat × Bool)
 op:Iz
inductive XC where
 |skip
 |aQ (ops:List XR)
 |nL (hs:List (Nat × List AV)) (ops:List XR) (b7:List (Nat × Nat))
 |seq (a b:XC)
 |cond (c:XO) (a b:XC)
 |block (id:Nat) (b:XC)
 |loop (b:XC)
 |exit (id:Nat)
 |ret
inductive mv where
 |t (n:Nat)
 |cell (a size:Nat) (agg:Bool)
structure XF where
 body:XC
 res:List mv
def mW (s:List UInt8):List UInt8->Bool :=
 List.rec (motive:=fun _=>List UInt8->Bool) (fun t=>List.rec (motive:=fun _=>Bool) true (fun _ _ _=>false) t)
  (fun a _ ih t=>List.rec (motive:=fun _=>Bool) false (fun b t' _=>Bool.rec false (ih t') (Nat.beq a.toNat b.toNat)) t) s
def cE:Int->Int->Bool
 | .ofNat a,.ofNat b=>Nat.beq a b
 | .negSucc a,.negSucc b=>Nat.beq a b
 |_,_=>false
def nth {α:Type} (l:List α):Nat->Option α :=
 List.rec (motive:=fun _=>Nat->Option α) (fun _=>none) (fun a _ ih n=>Bool.rec (ih (Nat.pred n)) (some a) (Nat.beq n 0)) l
def aZ (cs:List AV):Nat->List AV->List AV :=
 List.rec (motive:=fun _=>Nat->List AV->List AV) (fun _ vs=>vs) (fun c t ih n vs=>Bool.rec (c::ih (Nat.pred n) vs) (vs++(c::t).drop vs.length) (Nat.beq n 0)) cs
def aD (tm:Tr AV) (x:XO):AV:=XO.rec (fun n=>Option.rec gg (fun v=>v) (tm.get n)) (fun v=>v) x
def nR (tm:Tr AV) (l:List XO):List AV:=List.rec (motive:=fun _=>List AV) [] (fun x _ ih=>aD tm x::ih) l
def ch:AV->Option Nat
 | .int _ (.ofNat n)=>some n
 |_=>none
def partOf (size:Nat) (agg:Bool) (cs:List AV) (off:Nat):Option AV :=
 Bool.rec (nth cs off) (Bool.rec none (some (.agg ((cs.drop off).take size))) (Nat.ble (off+size) cs.length)) agg
def qn (tm:Tr AV) (parts:List (Nat × Nat × XO)):List AV->Option (List AV) :=
 List.rec (motive:=fun _=>List AV->Option (List AV)) (fun cs=>some cs)
  (fun p _ ih cs=>Bool.rec none (ih (aZ cs p.1 (aD tm p.2.2).cells)) (Nat.beq (aD tm p.2.2).cells.length p.2.1)) parts
def qo (tm:Tr AV) (size:Nat) (parts:List (Nat × XO)):List AV->Option (List AV) :=
 List.rec (motive:=fun _=>List AV->Option (List AV)) (fun cs=>some cs)
  (fun p _ ih es=>Bool.rec none (ih (es.set p.1 (aD tm p.2))) (Nat.beq (aD tm p.2).cells.length size)) parts
def PA:AV->AV->Option Bool
 | .bool a,.bool b=>some (a==b)
 | .int k a,.int j b=>match decide (k=j) with
  |true=>some (cE a b)
  |false=>none
 | .str a,.str b=>some (mW a b)
 |_,_=>none
def pI:List AV->List AV->Option Bool
 | [],[]=>some true
 |a::s,b::t=>match PA a b,pI s t with
  |some x,some y=>some (x&&y)
  |_,_=>none
 |_,_=>none
def sameAt:AV->AV->Bool
 | .bool _,.bool _=>true
 | .int k _,.int j _=>decide (k=j)
 | .str _,.str _=>true
 |_,_=>false
def jg:List AV->List AV->Bool
 | [],[]=>true
 |a::s,b::t=>sameAt a b&&jg s t
 |_,_=>false
def D7 (k:EK) (x y:AV):Option Bool :=
 match k,x,y with
 | .bool,.bool a,.bool b=>some (a==b)
 | .int,.int j a,.int k b=>match decide (j=k) with
  |true=>some (cE a b)
  |false=>none
 | .str,.str a,.str b=>some (mW a b)
 | .ptr,.iL,.iL=>some true
 | .ptr,.iL,.ptr _ _=>some false
 | .ptr,.ptr _ _,.iL=>some false
 | .ptr,.iL,.ro _ _ _=>some false
 | .ptr,.ro _ _ _,.iL=>some false
 | .slice,.az,.az=>some true
 | .slice,.az,.sl _ _ _=>some false
 | .slice,.sl _ _ _,.az=>some false
 | .slice,.az,.ks _ _ _=>some false
 | .slice,.ks _ _ _,.az=>some false
 | .map,.kU,.kU=>some true
 | .map,.mp _,.kU=>some false
 | .map,.kU,.mp _=>some false
 | .func,.kV,.kV=>some true
 | .func,.fn _ _ _,.kV=>some false
 | .func,.kV,.fn _ _ _=>some false
 | .struct z,.agg a,.agg b=>match jg z a&&jg z b with
  |true=>pI a b
  |false=>none
 |_,_,_=>none
def Gg (op:BinOp) (a b:List UInt8):Option AV :=
 match op with
 | .add=>match Nat.ble (a.length+b.length) 9223372036854775807 with
  |true=>some (.str (a++b))
  |false=>none
 | .eql=>some (.bool (mW a b))
 | .neq=>some (.bool (!(mW a b)))
 | .lss=>some (.bool (Op.bytesLess a b))
 | .leq=>some (.bool (Op.bytesLess a b ||mW a b))
 | .gtr=>some (.bool (!(Op.bytesLess a b ||mW a b)))
 | .geq=>some (.bool (!(Op.bytesLess a b)))
 |_=>none
def y2:Sem Value->Option AV
 | .pure (.bool b)=>some (.bool b)
 | .pure (.int k n)=>some (.int k n)
 |_=>none
def DO (op:BinOp) (k:IntKind) (a b:Int):Option AV :=
 match op with
 | .eql=>some (.bool (cE a b))
 | .neq=>some (.bool (!(cE a b)))
 | .add | .sub | .mul=>y2 (Op.intArith op k a b)
 | .quo | .rem=>match cE b 0 with
  |true=>none
  |false=>y2 (Op.intDiv op k a b)
 | .and | .or | .xor | .andNot=>y2 (Op.intBits op k a b)
 | .shl | .shr=>none
 |_=>y2 (Op.intCmp op a b)
def bE (op:BinOp) (e:EK) (x y:AV):Option AV :=
 match x,y with
 | .int k a,.int j b=>match decide (k=j) with
  |true=>DO op k a b
  |false=>none
 | .str a,.str b=>Gg op a b
 |x,y=>match op with
  | .eql=>match D7 e x y with
   |some b=>some (.bool b)
   |none=>none
  | .neq=>match D7 e x y with
   |some b=>some (.bool (!b))
   |none=>none
  |_=>none
def byteOf:AV->Option UInt8
 | .int .u8 (.ofNat n)=>some (UInt8.ofNat n)
 |_=>none
def bytesOf:List AV->Option (List UInt8)
 | []=>some []
 |v::vs=>match byteOf v,bytesOf vs with
  |some b,some bs=>some (b::bs)
  |_,_=>none
def bounds (tm:Tr AV) (n:Nat) (lo hi:Option XO):Option (Nat × Nat) :=
 match (match hi with |none=>some n |some v=>ch (aD tm v)) with
 |none=>none
 |some h=>match (match lo with |none=>some 0 |some v=>ch (aD tm v)) with
  |none=>none
  |some l=>match Nat.ble l h&&Nat.ble h n with
   |true=>some (l,h)
   |false=>none
def aw (c a b:AV):Option AV:=match c with
 | .bool t=>some (Bool.rec b a t)
 |_=>none
def D8 (r:Option (List AV)):Option AV:=match r with
 |some cs=>some (.agg cs)
 |none=>none
def Rh (size:Nat) (r:Option (List AV)):Option AV:=match r with
 |some es=>some (.sl size es .full)
 |none=>none
def ri (x:AV):Option AV:=match x with
 | .ptr k o=>some (.ptr k o)
 | .ro c o h=>some (.ro c o h)
 |_=>none
def aF (x:AV):Option AV:=match x with
 | .bool b=>some (.bool (!b))
 |_=>none
def II (x:AV):Option AV:=match x with
 | .int k n=>some (.int k (k.wrap (0-n)))
 |_=>none
def kf (tm:Tr AV) (lo hi:Option XO) (x:AV):Option AV:=match x with
 | .str s=>match bounds tm s.length lo hi with
  |some (l,h)=>some (.str ((s.take h).drop l))
  |none=>none
 |_=>none
def nW (tm:Tr AV) (size:Nat) (lo hi:Option XO) (x:AV):Option AV:=match x with
 | .sl n es aN=>match Nat.beq n size with
  |true=>match bounds tm es.length lo hi with
   |some (l,h)=>some (.sl n ((es.take h).drop l) (match Nat.beq l 0&&Nat.beq h es.length with
    |true=>aN
    |false=>.dead))
   |none=>none
  |false=>none
 | .az=>match bounds tm 0 lo hi with
  |some _=>some .az
  |none=>none
 | .ks key off n=>match bounds tm n lo hi with
  |some (l,h)=>some (match Nat.blt l n ||Nat.beq l 0 with
   |true=>.ks key (off+l*size) (h-l)
   |false=>.sl size [] .dead)
  |none=>none
 |_=>none
def gR (off:Nat) (x:AV):Option AV:=match x with
 | .ptr k o=>some (.ptr k (o+off))
 | .ro c o h=>some (.ro c (o+off) h)
 |_=>none
def zW (off size:Nat) (agg:Bool) (x:AV):Option AV:=match x with
 | .agg cs=>partOf size agg cs off
 |_=>none
def kE (t:lV) (back:Nat):Option (Nat × Nat):=match t with
 | .at id=>some (id,back)
 |_=>none
def gQ (size:Nat) (x:AV) (ix:Option Nat):Option AV:=match ix with
 |some n=>match x with
  | .sl s es t=>match Nat.beq s size with
   |true=>match nth es n with
    |some v=>some (.ro v.cells 0 (kE t ((es.length-n)*s)))
    |none=>none
   |false=>none
  | .ks key off len=>match Nat.blt n len with
   |true=>some (.ptr key (off+n*size))
   |false=>none
  |_=>none
 |none=>none
def BL (x:AV) (ix:Option Nat):Option AV:=match ix with
 |some n=>match x with
  | .str s=>match nth s n with
   |some b=>some (.int .u8 (.ofNat b.toNat))
   |none=>none
  |_=>none
 |none=>none
def sR (x:AV) (i:Nat):Option AV:=match x with
 | .cv vs=>nth vs i
 |_=>none
def ur (x:AV):Option AV:=match x with
 | .str s=>some (.int .i64 (.ofNat s.length))
 |_=>none
def jI (x:AV):Option AV:=match x with
 | .sl _ es _=>some (.int .i64 (.ofNat es.length))
 | .az=>some (.int .i64 0)
 | .ks _ _ n=>some (.int .i64 (.ofNat n))
 |_=>none
def Rj (x y:AV):Option AV:=match x,y with
 | .int k a,.int _ b=>some (.int k (if b>a then b else a))
 |_,_=>none
def Ri (x y:AV):Option AV:=match x,y with
 | .int k a,.int _ b=>some (.int k (if b<a then b else a))
 |_,_=>none
def vM (k:IntKind) (x:AV):Option AV:=match x with
 | .int _ n=>some (.int k (k.wrap n))
 |_=>none
def Gt (x:AV):Option AV:=match x with
 | .str s=>some (.str s)
 |_=>none
def lg (x:AV):Option AV:=match x with
 | .sl s es _=>match Nat.beq s 1,bytesOf es with
  |true,some b=>some (.str b)
  |_,_=>none
 | .az=>some (.str [])
 |_=>none
def Vn (tm:Tr AV) (x:XO):Option AV:=some (aD tm x)
def aPick (tm:Tr AV) (c a b:XO):Option AV:=aw (aD tm c) (aD tm a) (aD tm b)
def QC (tm:Tr AV) (z:List AV) (parts:List (Nat × Nat × XO)):Option AV:=D8 (qn tm parts z)
def Bz (tm:Tr AV) (size:Nat) (z:List AV) (parts:List (Nat × XO)):Option AV:=Rh size (qo tm size parts z)
def Vm (tm:Tr AV) (x:XO):Option AV:=ri (aD tm x)
def aBin (tm:Tr AV) (op:BinOp) (k:EK) (x y:XO):Option AV:=bE op k (aD tm x) (aD tm y)
def aNot (tm:Tr AV) (x:XO):Option AV:=aF (aD tm x)
def aNeg (tm:Tr AV) (x:XO):Option AV:=II (aD tm x)
def aMkf (tm:Tr AV) (f:Nat) (first la:List XO):Option AV:=some (.fn f (nR tm first) (nR tm la))
def Qy (tm:Tr AV) (x:XO) (lo hi:Option XO):Option AV:=kf tm lo hi (aD tm x)
def Qz (tm:Tr AV) (size:Nat) (x:XO) (lo hi:Option XO):Option AV:=nW tm size lo hi (aD tm x)
def QB (tm:Tr AV) (off:Nat) (x:XO):Option AV:=gR off (aD tm x)
def QA (tm:Tr AV) (off size:Nat) (agg:Bool) (x:XO):Option AV:=zW off size agg (aD tm x)
def Gl (tm:Tr AV) (size:Nat) (x ix:XO):Option AV:=gQ size (aD tm x) (ch (aD tm ix))
def aIxs (tm:Tr AV) (x ix:XO):Option AV:=BL (aD tm x) (ch (aD tm ix))
def aExt (tm:Tr AV) (x:XO) (i:Nat):Option AV:=sR (aD tm x) i
def Vo (tm:Tr AV) (x:XO):Option AV:=ur (aD tm x)
def Vp (tm:Tr AV) (x:XO):Option AV:=jI (aD tm x)
def YO (tm:Tr AV) (x y:XO):Option AV:=Rj (aD tm x) (aD tm y)
def YN (tm:Tr AV) (x y:XO):Option AV:=Ri (aD tm x) (aD tm y)
def Vr (tm:Tr AV) (k:IntKind) (x:XO):Option AV:=vM k (aD tm x)
def Vq (tm:Tr AV) (x:XO):Option AV:=Gt (aD tm x)
def By (tm:Tr AV) (x:XO):Option AV:=lg (aD tm x)
def mw (tm:Tr AV) (o:XP):Option AV :=
 XP.rec (motive:=fun _=>Option AV) (Vn tm) (aPick tm) (QC tm) (Bz tm) (Vm tm) (aBin tm) (aNot tm) (aNeg tm) (aMkf tm) (Qy tm) (Qz tm) (QB tm) (QA tm)
  (Gl tm) (aIxs tm) (aExt tm) (Vo tm) (Vp tm) (YO tm) (YN tm) (Vr tm) (Vq tm) (By tm) o
def findKey (kd:EK) (k:AV):List (AV × AV)->Option (Option AV)
 | []=>some none
 |(q,v)::l=>match D7 kd k q with
  |some true=>some (some v)
  |some false=>findKey kd k l
  |none=>none
def putKey (kd:EK) (k v:AV):List (AV × AV)->Option (List (AV × AV))
 | []=>some [(k,v)]
 |(q,u)::l=>match D7 kd k q with
  |some true=>some ((k,v)::l)
  |some false=>match putKey kd k v l with
   |some l'=>some ((q,u)::l')
   |none=>none
  |none=>none
def cc (H:Tr dR) (key:Nat):Option (List AV):=match H.get key with
 |some (.box _ cs)=>some cs
 |_=>none
def fH (H:Tr dR) (size:Nat) (agg:Bool) (a:AV):Option AV:=match a with
 | .ptr key off=>match cc H key with
  |some cs=>partOf size agg cs off
  |none=>none
 | .ro cs off _=>partOf size agg cs off
 |_=>none
def yJ (H:Tr dR) (k:EK) (z:AV) (ok:Bool) (m ix:AV):Option AV:=match m with
 | .mp key=>match H.get key with
  |some (.map _ kv)=>match findKey k ix kv with
   |some (some v)=>some (match ok with |true=>.cv [v,.bool true] |false=>v)
   |some none=>some (match ok with |true=>.cv [z,.bool false] |false=>z)
   |none=>none
  |_=>none
 |_=>none
def aLoad (H:Tr dR) (tm:Tr AV) (size:Nat) (agg:Bool) (a:XO):Option AV:=fH H size agg (aD tm a)
def aLook (H:Tr dR) (tm:Tr AV) (k:EK) (z:AV) (ok:Bool) (m ix:XO):Option AV:=yJ H k z ok (aD tm m) (aD tm ix)
def KE (H:Tr dR) (tm:Tr AV) (o:XL):Option AV:=XL.rec (motive:=fun _=>Option AV) (aLoad H tm) (aLook H tm) o
def qa (size:Nat):AV->Option (List AV)
 | .az=>some []
 | .sl s es _=>match Nat.beq s size with
  |true=>some es
  |false=>none
 | .str s=>match Nat.beq size 1 with
  |true=>some (s.map fun b=>.int .u8 (.ofNat b.toNat))
  |false=>none
 |_=>none
def chunk (size:Nat):Nat->List AV->List AV
 |0,_=>[]
 |n+1,cs=>.agg (cs.take size)::chunk size n (cs.drop size)
def Mh (H:Tr dR) (size:Nat) (x:AV):Option (List AV):=match x with
 | .ks key off n=>match cc H key with
  |some cs=>match Nat.ble (off+n*size) cs.length with
   |true=>some (chunk size n (cs.drop off))
   |false=>none
  |none=>none
 |x=>qa size x
def zt (n bytes:Nat):Bool:=Nat.ble n 1073741824&&Nat.ble bytes 4096
def St.new (st:St) (e:dR):St:=⟨st.heap.set st.next e,Nat.succ st.next⟩
def St.put (st:St) (k:Nat) (e:dR):St:=⟨st.heap.set k e,st.next⟩
def fy (size bytes:Nat) (st:St) (s:AV) (xs:List AV):Option (AV × St) :=
 match xs with
 | []=>match s with
  | .az=>some (s,st)
  | .sl ..=>some (s,st)
  |_=>none
 |x::xs=>match s with
  | .az=>match zt (x::xs).length bytes with
   |true=>some (.sl size (x::xs) (.at st.next),st.new .aN)
   |false=>none
  | .sl n es aN=>match Nat.beq n size&&zt (es.length+(x::xs).length) bytes with
   |true=>match aN with
    | .full=>some (.sl size (es++(x::xs)) (.at st.next),st.new .aN)
    | .at id=>match st.heap.get id with
     |some .aN=>some (.sl size (es++(x::xs)) (.at st.next),(st.put id .gone).new .aN)
     |_=>none
    | .dead=>none
   |false=>none
  |_=>none
def flat (es:List AV):List AV:=es.flatMap AV.cells
def cZ (st:St) (size:Nat) (a x:AV):Option (AV × St):=match a with
 | .ptr key off=>match st.heap.get key with
  |some (.box bX cs)=>match Nat.beq x.cells.length size&&Nat.ble (off+size) cs.length with
   |true=>some (gg,st.put key (.box (Nat.succ bX) (aZ cs off x.cells)))
   |false=>none
  |_=>none
 |_=>none
def vL (st:St) (bytes:Nat) (z:AV) (l c:Option Nat):Option (AV × St):=match l,c with
 |some n,some m=>match Nat.beq n m&&zt n bytes with
  |true=>some (.ks st.next 0 n,st.new (.box 0 (flat (List.replicate n z))))
  |false=>none
 |_,_=>none
def Lw (st:St) (k:EK) (m q v:AV):Option (AV × St):=match m with
 | .mp key=>match st.heap.get key with
  |some (.map bX kv)=>match putKey k q v kv with
   |some l=>some (gg,st.put key (.map (Nat.succ bX) l))
   |none=>none
  |_=>none
 |_=>none
def sT (size bytes:Nat) (st:St) (s x:AV):Option (AV × St):=match Mh st.heap size x with
 |some xs=>fy size bytes st s xs
 |none=>none
def IJ (st:St) (size:Nat) (x:AV):Option (AV × St):=match x with
 | .ks key 0 n=>match st.heap.get key with
  |some (.box _ cs)=>match Nat.beq cs.length (n*size)&&Nat.blt 1 size with
   |true=>some (.sl size (chunk size n cs) .dead,st.put key .gone)
   |false=>none
  |_=>none
 |_=>none
def uu (call:Nat->List AV->St->Option (AV × St)) (st:St) (f:AV) (args:List AV):Option (AV × St):=match f with
 | .fn id first la=>call id (first++args++la) st
 |_=>none
def YP (st:St) (cs:List AV):Option (AV × St):=some (.ptr st.next 0,st.new (.box 0 cs))
def DX (st:St) (tm:Tr AV) (size:Nat) (x:XO):Option (AV × St):=match Nat.beq (aD tm x).cells.length size with
 |true=>some (.ptr st.next 0,st.new (.box 0 (aD tm x).cells))
 |false=>none
def o6 (st:St) (tm:Tr AV) (size:Nat) (a x:XO):Option (AV × St):=cZ st size (aD tm a) (aD tm x)
def Iy (st:St) (tm:Tr AV) (_ bytes:Nat) (z:AV) (l c:XO):Option (AV × St):=vL st bytes z (ch (aD tm l)) (ch (aD tm c))
def YM (st:St):Option (AV × St):=some (.mp st.next,st.new (.map 0 []))
def aPut (st:St) (tm:Tr AV) (k:EK) (m q v:XO):Option (AV × St):=Lw st k (aD tm m) (aD tm q) (aD tm v)
def K9 (st:St) (tm:Tr AV) (size bytes:Nat) (s x:XO):Option (AV × St):=sT size bytes st (aD tm s) (aD tm x)
def SF:AV->Option Nat
 | .az=>some 0
 | .sl _ es _=>some es.length
 |_=>none
def Py (a b:Option Nat):Bool:=match a,b with
 |some x,some y=>Nat.beq x y
 |_,_=>false
def tC (size:Nat) (u:AV):Bool:=match qa size u with
 |some [_]=>true
 |_=>false
def sL (st:St) (tm:Tr AV) (size bytes:Nat) (s x q u:XO):Option (AV × St):=match Nat.beq (aD tm x).cells.length size&&Py (ch (aD tm q)) (SF (aD tm s))&&tC size (aD tm u) with
 |true=>fy size bytes st (aD tm s) [aD tm x]
 |false=>none
def Uh (st:St) (tm:Tr AV) (size:Nat) (x:XO):Option (AV × St):=IJ st size (aD tm x)
def Vs (call:Nat->List AV->St->Option (AV × St)) (st:St) (tm:Tr AV) (f:XO) (args:List XO):Option (AV × St):=uu call st (aD tm f) (nR tm args)
def Yp (call:Nat->List AV->St->Option (AV × St)) (st:St) (tm:Tr AV) (o:XE):Option (AV × St) :=
 XE.rec (motive:=fun _=>Option (AV × St)) (YP st) (DX st tm) (o6 st tm) (Iy st tm) (YM st) (aPut st tm) (K9 st tm) (sL st tm) (Uh st tm) (Vs call st tm) o
def rM (st:St) (r:Option AV):Option (AV × St):=Option.rec (motive:=fun _=>Option (AV × St)) none (fun v=>some (v,st)) r
def oP (st:St) (tm:Tr AV) (o:XP):Option (AV × St):=rM st (mw tm o)
def oL (st:St) (tm:Tr AV) (o:XL):Option (AV × St):=rM st (KE st.heap tm o)
def mY (call:Nat->List AV->St->Option (AV × St)) (st:St) (tm:Tr AV) (o:Iz):Option (AV × St) :=
 Iz.rec (motive:=fun _=>Option (AV × St)) (oP st tm) (oL st tm) (Yp call st tm) o
def eH (tm:Tr AV) (d:Option Nat) (v:AV):Tr AV:=match d with
 |some d=>tm.set d v
 |none=>tm
def uv (c:Bool) (v:Option AV):Option Bool:=match v with
 |some (.bool b)=>some (b==c)
 |some (.cv [])=>some false
 |_=>none
def eg (tm:Tr AV) (g:Option (Nat × Bool)):Option Bool:=Option.rec (motive:=fun _=>Option Bool) (some true) (fun p=>uv p.2 (tm.get p.1)) g
def Step:=Tr AV->St->Option (Tr AV × St)
def qd (ih:Step) (tm:Tr AV) (d:Option Nat) (r:Option (AV × St)):Option (Tr AV × St) :=
 Option.rec (motive:=fun _=>Option (Tr AV × St)) none (fun p=>ih (eH tm d p.1) p.2) r
def p9 (call:Nat->List AV->St->Option (AV × St)) (ih:Step) (o:XR) (tm:Tr AV) (st:St) (w:Option Bool):Option (Tr AV × St) :=
 Option.rec (motive:=fun _=>Option (Tr AV × St)) none (fun b=>Bool.rec (ih (eH tm o.dst gg) st) (qd ih tm o.dst (mY call st tm o.op)) b) w
def consX (call:Nat->List AV->St->Option (AV × St)) (o:XR) (_:List XR) (ih:Step) (tm:Tr AV) (st:St):Option (Tr AV × St):=p9 call ih o tm st (eg tm o.guard)
def nilX (tm:Tr AV) (st:St):Option (Tr AV × St):=some (tm,st)
def dm (call:Nat->List AV->St->Option (AV × St)) (ops:List XR):Step:=List.rec (motive:=fun _=>Step) nilX (consX call) ops
def cO (tm:Tr AV) (o:XR):Option Nat:=match o.op with
 | .l (.load _ _ a)=>match aD tm a with
  | .ptr key _=>some key
  |_=>none
 | .l (.look _ _ _ m _)=>match aD tm m with
  | .mp key=>some key
  |_=>none
 |_=>none
def fI:Option dR->Option Nat
 |some (.box v _)=>some v
 |some (.map v _)=>some v
 |_=>none
def eJ (call:Nat->List AV->St->Option (AV × St)) (ops:List XR):Tr AV->St->Option (Tr AV × St × List (Option Nat × Tr dR)) :=
 List.rec (motive:=fun _=>Tr AV->St->Option (Tr AV × St × List (Option Nat × Tr dR))) (fun tm st=>some (tm,st,[(none,st.heap)]))
  (fun o _ ih tm st=>match eg tm o.guard with
   |some true=>match mY call st tm o.op with
    |some (v,ae)=>match ih (eH tm o.dst v) ae with
     |some (ay,gn,l)=>some (ay,gn,(cO tm o,st.heap)::l)
     |none=>none
    |none=>none
   |some false=>match ih (eH tm o.dst gg) st with
    |some (ay,gn,l)=>some (ay,gn,(none,st.heap)::l)
    |none=>none
   |none=>none) ops
def kx (l:List (Option Nat × Tr dR)) (p:Nat × Nat):Bool:=match nth l p.1,nth l p.2,nth l (Nat.succ p.2) with
 |some (none,_),_,_=>true
 |some (some k,_),some (_,H),some (_,H')=>match fI (H.get k),fI (H'.get k) with
  |some a,some b=>Nat.beq a b
  |_,_=>false
 |_,_,_=>false
def hoist:List (Nat × List AV)->Tr AV->St->Tr AV × St
 | [],tm,st=>(tm,st)
 |(d,cs)::l,tm,st=>hoist l (tm.set d (.ptr st.next 0)) (st.new (.box 0 cs))
def mC (call:Nat->List AV->St->Option (AV × St)) (ops:List XR) (b7:List (Nat × Nat)) (tm:Tr AV) (st:St):Option (Tr AV × St) :=
 match b7 with
 | []=>dm call ops tm st
 |p::ps=>match eJ call ops tm st with
  |some (ay,ae,l)=>match (p::ps).all (kx l) with
   |true=>some (ay,ae)
   |false=>none
  |none=>none
inductive Ex where
 |norm |exit (id:Nat) |ret
inductive R where
 |fail
 |ok (e:Ex) (tm:Tr AV) (st:St)
def R.of (r:Option (Tr AV × St)):R:=Option.rec (motive:=fun _=>R) .fail (fun p=>.ok .norm p.1 p.2) r
def R.andThen (r:R) (f:Tr AV->St->R):R :=
 R.rec (motive:=fun _=>R) .fail (fun e tm st=>Ex.rec (motive:=fun _=>R) (f tm st) (fun id=>.ok (.exit id) tm st) (.ok .ret tm st) e) r
def R.block (id:Nat) (r:R):R:=match r with
 | .ok (.exit i) tm st=>match Nat.beq i id with
  |true=>.ok .norm tm st
  |false=>.ok (.exit i) tm st
 |r=>r
def av (v:AV) (a b:R):R:=match v with
 | .bool true=>a
 | .bool false=>b
 |_=>.fail
def RF:=Tr AV->St->R
def fail0 (_:Tr AV) (_:St):R:=.fail
def loop1 (f:RF) (_:Nat) (ih:RF) (tm:Tr AV) (st:St):R:=(f tm st).andThen ih
def aY (f:RF) (n:Nat):RF:=Nat.rec (motive:=fun _=>RF) fail0 (loop1 f) n
def cSkip (tm:Tr AV) (st:St):R:=.ok .norm tm st
def cReg (call:Nat->List AV->St->Option (AV × St)) (ops:List XR) (tm:Tr AV) (st:St):R:=R.of (dm call ops tm st)
def cRegd (call:Nat->List AV->St->Option (AV × St)) (hs:List (Nat × List AV)) (ops:List XR) (b7:List (Nat × Nat)) (tm:Tr AV) (st:St):R:=R.of (mC call ops b7 (hoist hs tm st).1 (hoist hs tm st).2)
def cSeq (_ _:XC) (ia ib:RF) (tm:Tr AV) (st:St):R:=(ia tm st).andThen ib
def cCond (c:XO) (_ _:XC) (ia ib:RF) (tm:Tr AV) (st:St):R:=av (aD tm c) (ia tm st) (ib tm st)
def Yv (id:Nat) (_:XC) (ib:RF) (tm:Tr AV) (st:St):R:=(ib tm st).block id
def cLoop (ag:Nat) (_:XC) (ib:RF):RF:=aY ib ag
def cExit (id:Nat) (tm:Tr AV) (st:St):R:=.ok (.exit id) tm st
def cRet (tm:Tr AV) (st:St):R:=.ok .ret tm st
def ak (call:Nat->List AV->St->Option (AV × St)) (ag:Nat) (c:XC):RF :=
 XC.rec (motive:=fun _=>RF) cSkip (cReg call) (cRegd call) cSeq cCond Yv (cLoop ag) cExit cRet c
def bb (l:List AV):Nat->Tr AV->Tr AV :=
 List.rec (motive:=fun _=>Nat->Tr AV->Tr AV) (fun _ t=>t) (fun v _ ih n t=>ih (Nat.succ n) (t.set n v)) l
def l8 (tm:Tr AV) (st:St):mv->Option AV
 | .t n=>some (aD tm (.t n))
 | .cell a size agg=>match aD tm (.t a) with
  | .ptr key off=>match cc st.heap key with
   |some cs=>partOf size agg cs off
   |none=>none
  |_=>none
def gu (tm:Tr AV) (st:St):List mv->Option (List AV)
 | []=>some []
 |r::l=>match l8 tm st r,gu tm st l with
  |some v,some vs=>some (v::vs)
  |_,_=>none
def jJ:List AV->AV
 | [v]=>v
 |vs=>.cv vs
def bg (res:List mv) (r:R):Option (AV × St):=match r with
 | .ok (.exit _) _ _=>none
 | .ok _ tm st=>match gu tm st res with
  |some vs=>some (jJ vs,st)
  |none=>none
 | .fail=>none
structure Env where
 F:Tr XF
 AA:Nat->Option (List AV->Option AV)
def uE (E:Env) (f:Nat) (args:List AV):Option AV:=match E.AA f with
 |some p=>p args
 |none=>none
def oX (E:Env) (ag:Nat) (call:Nat->List AV->St->Option (AV × St)) (f:Nat) (args:List AV) (st:St):Option (AV × St) :=
 match uE E f args with
 |some r=>some (r,st)
 |none=>match E.F.get f with
  |some x=>bg x.res (ak call ag x.body (bb args 0 .nil) st)
  |none=>none
def call0 (_:Nat) (_:List AV) (_:St):Option (AV × St):=none
def call1 (E:Env) (ag:Nat) (_:Nat) (ih:Nat->List AV->St->Option (AV × St)) (f:Nat) (args:List AV) (st:St):Option (AV × St):=oX E ag ih f args st
def ao (E:Env) (ag:Nat) (d:Nat):Nat->List AV->St->Option (AV × St) :=
 Nat.rec (motive:=fun _=>Nat->List AV->St->Option (AV × St)) call0 (call1 E ag) d
end
end Go.Ev
namespace Go.Ev
inductive Kd where
 |bool |int (k:IntKind) |str |ptr |slice (e:Nat) |struct (fs:List (Nat × Nat)) |map (k e:Nat) |func
structure TI where
 kd:Kd
 size:Nat
 bytes:Nat
 zero:AV
 Ps:Bool
section
variable (T : Nat → Option TI)
def Iq:Value->Option AV
 | .bool b=>some (.bool b)
 | .int k n=>some (.int k n)
 | .string s=>some (.str s.data.toList)
 | .pointer none=>some .iL
 | .slice none 0 0=>some .az
 | .map none=>some .kU
 | .nilFunc=>some .kV
 |_=>none
def x5:List Value->Option (List AV)
 | []=>some []
 |v::l=>match Iq v,x5 l with
  |some a,some bh=>some (a::bh)
  |_,_=>none
def Ug:Value->Option AV
 | .agg cs=>match x5 cs.toList with
  |some l=>some (.agg l)
  |none=>none
 |v=>Iq v
def aH:Operand->Option XO
 | .tmp t=>some (.t t)
 | .const v=>match Ug v with
  |some a=>some (.c a)
  |none=>none
 | .func f=>some (.c (.fn f [] []))
 | .global _=>none
def jF:List Operand->Option (List XO)
 | []=>some []
 |x::l=>match aH x,jF l with
  |some a,some bh=>some (a::bh)
  |_,_=>none
def lO:Option Operand->Option (Option XO)
 |none=>some none
 |some x=>match aH x with
  |some a=>some (some a)
  |none=>none
def yE (t:Nat):EK:=match T t with
 |some i=>match i.kd with
  | .int _=>.int
  | .str=>.str
  | .bool=>.bool
  | .ptr=>.ptr
  | .slice _=>.slice
  | .map _ _=>.map
  | .func=>.func
  | .struct _=>match i.Ps with
   |true=>.struct i.zero.cells
   |false=>.none
 |none=>.none
def gG (i:TI):Bool:=match i.kd with
 | .struct _=>true
 |_=>false
def gi (t i:Nat):Option (Nat × Nat × Bool):=match T t with
 |some ti=>match ti.kd with
  | .struct fs=>match fs[i]? with
   |some (off,ft)=>match T ft with
    |some fi=>match Nat.beq fi.size 0 with
     |true=>none
     |false=>some (off,fi.size,gG fi)
    |none=>none
   |none=>none
  |_=>none
 |none=>none
def cN (t:Nat):Option TI:=match T t with
 |some ti=>match ti.kd with
  | .slice e=>match T e with
   |some i=>match Nat.beq i.size 0 with
    |true=>none
    |false=>some i
   |none=>none
  |_=>none
 |none=>none
def j9 (t n:Nat):List (Nat × Operand)->Option (List (Nat × Nat × XO))
 | []=>some []
 |(i,x)::l=>match gi T t i,aH x,j9 t n l with
  |some (off,size,_),some a,some bh=>match Nat.ble (off+size) n with
   |true=>some ((off,size,a)::bh)
   |false=>none
  |_,_,_=>none
def iT (n:Nat):List (Nat × Operand)->Option (List (Nat × XO))
 | []=>some []
 |(i,x)::l=>match aH x,iT n l with
  |some a,some bh=>match Nat.blt i n with
   |true=>some ((i,a)::bh)
   |false=>none
  |_,_=>none
def oE (t:Nat):Bool:=match T t with
 |some i=>match i.kd with
  | .str=>true
  |_=>false
 |none=>false
def WQ (i:TI):Bool:=match i.kd with
 | .int .u8=>true
 |_=>false
def JW (t:Nat):Option (EK × AV):=match T t with
 |some ti=>match ti.kd with
  | .map k e=>match T e with
   |some ei=>match yE T k with
    | .int=>some (.int,ei.zero)
    | .str=>some (.str,ei.zero)
    | .bool=>some (.bool,ei.zero)
    |_=>none
   |none=>none
  |_=>none
 |none=>none
def DG (s d:Nat) (x:XO):Option XP:=match T d with
 |some di=>match di.kd with
  | .int k=>match T s with
   |some si=>match si.kd with
    | .int _=>some (.KP k x)
    |_=>none
   |none=>none
  | .str=>match T s with
   |some si=>match si.kd with
    | .str=>some (.Yq x)
    | .slice e=>match T e with
     |some ei=>match WQ ei with
      |true=>some (.ud x)
      |false=>none
     |none=>none
    |_=>none
   |none=>none
  |_=>none
 |none=>none
def rv (t:Nat):Bool:=match T t with
 |some i=>match i.kd with
  | .slice _=>true
  | .str=>true
  |_=>false
 |none=>false
def opt {α β:Type} (r:Option α) (f:α->Option β):Option β:=match r with
 |some a=>f a
 |none=>none
def DH (c:Call):Option Iz:=match c.callee with
 | .value f=>opt (aH f) fun f=>opt (jF c.args.toList) fun l=>some (.e (.call f l))
 | .builtin .len=>match c.args.toList,c.argTypes.toList with
  | [x],[t]=>opt (aH x) fun a=>match oE T t with
   |true=>some (.p (.lens a))
   |false=>opt (cN T t) fun _=>some (.p (.kA a))
  |_,_=>none
 | .builtin .max=>match c.args.toList with
  | [x,y]=>opt (aH x) fun a=>opt (aH y) fun b=>some (.p (.max a b))
  |_=>none
 | .builtin .min=>match c.args.toList with
  | [x,y]=>opt (aH x) fun a=>opt (aH y) fun b=>some (.p (.min a b))
  |_=>none
 | .builtin .append=>match c.args.toList,c.argTypes.toList with
  | [x,y],[t,u]=>opt (cN T t) fun i=>opt (aH x) fun a=>opt (aH y) fun b=>match rv T u with
   |true=>some (.e (.app i.size i.bytes a b))
   |false=>none
  |_,_=>none
 |_=>none
def lN (kd:Nat):Op->Option Iz
 | .move x=>opt (aH x) fun a=>match Nat.beq kd 0 with
  |true=>some (.p (.move a))
  |false=>some (.e (.dL kd a))
 | .assign x=>opt (aH x) fun a=>some (.p (.move a))
 | .pick c x y=>opt (aH c) fun c=>opt (aH x) fun a=>opt (aH y) fun b=>some (.p (.pick c a b))
 | .alloc t=>opt (T t) fun i=>match i.zero.cells with
  | []=>none
  |z::zs=>some (.e (.alloc (z::zs)))
 | .box t x=>opt (T t) fun i=>match Nat.beq i.size 0 with
  |true=>none
  |false=>opt (aH x) fun a=>some (.e (.box i.size a))
 | .build t parts=>opt (T t) fun i=>match i.kd with
  | .struct _=>match Nat.beq i.size 0 with
   |true=>none
   |false=>opt (j9 T t i.zero.cells.length parts.toList) fun l=>some (.p (.build i.zero.cells l))
  |_=>none
 | .buildSlice t len parts=>opt (cN T t) fun i=>match Nat.ble (len*i.size) 65536 with
  |true=>opt (iT len parts.toList) fun l=>some (.p (.fv i.size (List.replicate len i.zero) l))
  |false=>none
 | .load t a=>opt (T t) fun i=>match gG i,Nat.beq i.size 1 with
  |true,_=>opt (aH a) fun a=>some (.l (.load i.size true a))
  |false,true=>opt (aH a) fun a=>some (.l (.load 1 false a))
  |false,false=>none
 | .store t a x=>opt (T t) fun i=>match Nat.beq i.size 0 with
  |true=>none
  |false=>opt (aH a) fun a=>opt (aH x) fun x=>some (.e (.store i.size a x))
 | .nilCheck x=>opt (aH x) fun a=>some (.p (.WB a))
 | .binOp op t x y _=>opt (aH x) fun a=>opt (aH y) fun b=>some (.p (.bin op (yE T t) a b))
 | .unOp .not _ x=>opt (aH x) fun a=>some (.p (.not a))
 | .unOp .neg _ x=>opt (aH x) fun a=>some (.p (.neg a))
 | .convert s d x=>opt (aH x) fun a=>opt (DG T s d a) fun o=>some (.p o)
 | .makeFunc (.func f) first la=>opt (jF first.toList) fun l=>opt (jF la.toList) fun m=>some (.p (.mkf f l m))
 | .makeSlice t l c=>opt (cN T t) fun i=>opt (aH l) fun l=>opt (aH c) fun c=>some (.e (.Sn i.size i.bytes i.zero l c))
 | .makeMap _ none=>some (.e .He)
 | .insert t m k x | .mapUpdate t m k x=>opt (JW T t) fun e=>opt (aH m) fun m=>opt (aH k) fun k=>opt (aH x) fun x=>some (.e (.put e.1 m k x))
 | .slice t x lo hi none=>opt (aH x) fun a=>opt (lO lo) fun lo=>opt (lO hi) fun hi=>match oE T t with
  |true=>some (.p (.lZ a lo hi))
  |false=>opt (cN T t) fun i=>some (.p (.I5 i.size a lo hi))
 | .fieldAddr t x i=>opt (gi T t i) fun f=>opt (aH x) fun a=>some (.p (.iq f.1 a))
 | .field t x i=>opt (gi T t i) fun f=>opt (aH x) fun a=>some (.p (.field f.1 f.2.1 f.2.2 a))
 | .indexAddr t x ix=>opt (cN T t) fun i=>opt (aH x) fun a=>opt (aH ix) fun b=>some (.p (.gE i.size a b))
 | .index t x ix=>match oE T t with
  |true=>opt (aH x) fun a=>opt (aH ix) fun b=>some (.p (.tz a b))
  |false=>none
 | .lookup t m ix ok=>opt (JW T t) fun e=>opt (aH m) fun m=>opt (aH ix) fun ix=>some (.l (.look e.1 e.2 ok m ix))
 | .extract x i=>opt (aH x) fun a=>some (.p (.ext a i))
 | .call c=>DH T c
 |_=>none
def Fh (kd:Nat->Nat) (d:Option Nat):Nat:=match d with
 |some d=>kd d
 |none=>0
def fK (kd:Nat->Nat) (n:Nat) (all:List Oper):List Oper->Option (List XR)
 | []=>some []
 |o::l=>opt (match o.dst with
   |none=>some none
   |some d=>match Nat.blt d n with
    |true=>some (some d)
    |false=>none) fun dst=>opt (match o.guard with
   |none=>some none
   |some (j,b)=>match all[j]? with
    |some q=>match q.dst with
     |some d=>some (some (d,b))
     |none=>none
    |none=>none) fun g=>opt (lN T (Fh kd o.dst) o.op) fun x=>opt (fK kd n all l) fun r=>some (⟨dst,g,x⟩::r)
end
def dK (e:Edge):Bool:=match e.ground with
 | .textOnly _=>false
 | .gcOnly _=>false
 |_=>true
def hU (ms:List Nat):List Edge->Nat
 | []=>0
 |e::l=>match dK e with
  |true=>Nat.lor (Nat.lor (2 ^ e.on) (ms.getD e.on 0)) (hU ms l)
  |false=>hU ms l
def cC:List Nat->List Oper->List Nat
 |ms,[]=>ms
 |ms,o::l=>cC (ms++[hU ms o.after.toList]) l
def oz:Nat->List Oper->Bool
 |_,[]=>true
 |i,o::l=>(o.after.toList.all fun e=>!(dK e) ||Nat.blt e.on i)&&(match o.guard with
  |none=>true
  |some (j,_)=>o.after.toList.any fun e=>dK e&&Nat.beq e.on j)&&oz (i+1) l
def cmp (ms:List Nat) (i j:Nat):Bool:=Nat.testBit (ms.getD (Nat.max i j) 0) (Nat.min i j)
def CN (t:Nat):Operand->Bool
 | .tmp u=>Nat.beq u t
 |_=>false
def kq (o:Oper) (t:Nat):Bool:=o.op.operands.toList.any (CN t)
def rA (a b:Option Nat):Bool:=match a,b with
 |some x,some y=>Nat.beq x y
 |_,_=>false
inductive Cl where
 |pure |load |rh
def Iz.cl:Iz->Cl
 | .p _=>.pure
 | .l _=>.load
 | .e _=>.rh
def isH (x:XR):Option Nat:=match x with
 |⟨some d,none,.p (.move (.t e))⟩=>match Nat.beq d e with
  |true=>some d
  |false=>none
 |_=>none
def bZ:List Oper->List XR->List XR × List (Nat × List AV)
 |o::l,x::m=>match o.op,x with
  | .alloc _,⟨some d,none,.e (.alloc cs)⟩=>(⟨some d,none,.p (.move (.t d))⟩::(bZ l m).1,(d,cs)::(bZ l m).2)
  |_,x=>(x::(bZ l m).1,(bZ l m).2)
 |_,m=>(m,[])
def lj (ms:List Nat) (i j:Nat) (oi oj:Oper) (xi xj:XR):Bool :=
 !(rA oi.dst oj.dst) &&
 (match oi.dst with
  |some t=>!(kq oj t) ||cmp ms i j
  |none=>true) &&
 (match oj.dst with
  |some t=>!(kq oi t) ||cmp ms i j
  |none=>true) &&
 (match xi.op.cl,xj.op.cl with
  | .rh,.rh=>cmp ms i j
  |_,_=>true) &&
 (match isH xj with
  |some d=>!(kq oi d)
  |none=>true)
def tf (ms:List Nat) (i j:Nat) (xi xj:XR):List (Nat × Nat):=match xi.op.cl,xj.op.cl with
 | .load,.rh=>match cmp ms i j with
  |true=>[]
  |false=>[(i,j)]
 | .rh,.load=>match cmp ms i j with
  |true=>[]
  |false=>[(j,i)]
 |_,_=>[]
def vh (f:Nat->Oper->XR->Bool):Nat->List Oper->List XR->Bool
 |_,[],[]=>true
 |i,o::l,x::m=>f i o x&&vh f (i+1) l m
 |_,_,_=>false
def sX (ms:List Nat):Nat->List Oper->List XR->Bool
 |_,[],[]=>true
 |i,o::l,x::m=>vh (fun j q y=>lj ms i j o q x y) (i+1) l m&&sX ms (i+1) l m
 |_,_,_=>false
def vp (f:Nat->XR->List (Nat × Nat)):Nat->List XR->List (Nat × Nat)
 |_,[]=>[]
 |i,x::m=>f i x++vp f (i+1) m
def vo (ms:List Nat):Nat->List XR->List (Nat × Nat)
 |_,[]=>[]
 |i,x::m=>vp (fun j y=>tf ms i j x y) (i+1) m++vo ms (i+1) m
def oU (ops:List Oper) (xs:List XR):Option XC :=
 match oz 0 ops&&sX (cC [] ops) 0 ops (bZ ops xs).1 with
 |true=>some (.nL (bZ ops xs).2 (bZ ops xs).1 (vo (cC [] ops) 0 (bZ ops xs).1))
 |false=>none
def DQ (o:Oper):Option (Nat × Operand × Nat × Nat × Nat):=match o.dst,o.guard,o.op with
 |some a,none,.call c=>match c.callee,c.args.toList,c.argTypes.toList with
  | .builtin .append,[s,.tmp u],[t,tu]=>some (a,s,u,t,tu)
  |_,_,_=>none
 |_,_,_=>none
def idxOf (o:Oper):Option (Nat × Nat × Nat × Nat):=match o.dst,o.guard,o.op with
 |some b,none,.indexAddr t (.tmp a) (.tmp q)=>some (b,t,a,q)
 |_,_,_=>none
def B3 (o:Oper):Option (Nat × Nat × Operand):=match o.dst,o.guard,o.op with
 |none,none,.store et (.tmp b) v=>some (et,b,v)
 |_,_,_=>none
def Pl:Nat->List Oper->Option Nat
 |k,o::p::q::l=>match DQ o,idxOf p,B3 q with
  |some (a,_),some (b,_,a',_),some (_,b',_)=>match Nat.beq a a'&&Nat.beq b b' with
   |true=>some k
   |false=>Pl (k+1) (p::q::l)
  |_,_,_=>Pl (k+1) (p::q::l)
 |_,_=>none
def oT (l:List Oper) (q:Nat):Bool:=l.any fun o=>rA o.dst (some q)
def En (o:Oper):Bool:=o.guard.isNone&&(match o.op with
 | .nilCheck _=>true
 | .fieldAddr _ _ _=>true
 | .store _ _ _=>true
 |_=>false)
def setAt {α:Type}:List α->Nat->α->List α
 | [],_,_=>[]
 |_::l,0,y=>y::l
 |x::l,n+1,y=>x::setAt l n y
section
variable (T : Nat → Option TI)
def Ij (ops:List Oper) (xs:List XR):Option XC:=opt (Pl 0 ops) fun k =>
 opt ((ops[k]?).bind DQ) fun f=>opt ((ops[k+1]?).bind idxOf) fun g=>opt ((ops[k+2]?).bind B3) fun h =>
 opt (cN T f.2.2.2.1) fun i=>opt (cN T g.2.1) fun i2=>opt (T h.1) fun ei=>opt (aH f.2.1) fun s =>
 match h.2.2 with
 | .tmp vt=>match Nat.beq f.1 g.2.2.1&&Nat.beq g.1 h.2.1&&Nat.beq i.size i2.size&&Nat.beq i.size ei.size&&rv T f.2.2.2.2&&oT (ops.take k) g.2.2.2&&oT (ops.take k) vt &&
   (List.range k).all (fun j=>cmp (cC [] ops) j k)&&(ops.drop (k+3)).all En with
  |false=>none
  |true=>oU ops (setAt (setAt (setAt xs k ⟨some f.1,none,.e (.K6 i.size i.bytes s (.t vt) (.t g.2.2.2) (.t f.2.2.1))⟩) (k+1) ⟨some g.1,none,.p (.move (.c .any))⟩) (k+2) ⟨none,none,.p (.move (.c gg))⟩)
 |_=>none
def ua (ops:List Oper) (xs:List XR):Option XC:=match oU ops xs with
 |some c=>some c
 |none=>Ij T ops xs
end
section
variable (T : Nat → Option TI)
def jP (kd:Nat->Nat) (n:Nat):Code->Option XC
 | .skip=>some .skip
 | .region id ops draw=>opt (fK T kd n ops.toList ops.toList) fun xs=>match draw with
  |true=>ua T ops.toList xs
  |false=>some (.aQ xs)
 | .seq a b=>opt (jP kd n a) fun a=>opt (jP kd n b) fun b=>some (.seq a b)
 | .cond c a b=>opt (aH c) fun c=>opt (jP kd n a) fun a=>opt (jP kd n b) fun b=>some (.cond c a b)
 | .block id b=>opt (jP kd n b) fun b=>some (.block id b)
 | .loop b=>opt (jP kd n b) fun b=>some (.loop b)
 | .exit id=>some (.exit id)
 | .ret=>some .ret
 |_=>none
def iy:List ResultVar->Option (List mv)
 | []=>some []
 | .tmp t::l=>opt (iy l) fun r=>some (.t t::r)
 | .cell a t::l=>opt (T t) fun i=>opt (iy l) fun r=>match gG i,Nat.beq i.size 1 with
  |true,_=>some (.cell a i.size true::r)
  |false,true=>some (.cell a 1 false::r)
  |false,false=>none
def mu (kd:Nat->Nat) (fn:Func):Option XF:=match fn.body,fn.name == "runtime.NumGoroutine" with
 |some c,false=>opt (jP T kd fn.ntmps c) fun b=>opt (iy T fn.results.toList) fun r=>some ⟨b,r⟩
 |_,_=>none
end
end Go.Ev
theorem rJ:type_of% @List.getElem?_drop:=@List.getElem?_drop
theorem pS:type_of% @List.getElem?_take:=@List.getElem?_take
theorem ku:type_of% @List.mem_append:=@List.mem_append
theorem pT:type_of% @List.mem_of_getElem?:=@List.mem_of_getElem?
theorem qB:type_of% @Nat.add_assoc:=@Nat.add_assoc
namespace Go.Ev
open Go.RowKit
structure G where
 key:Nat->Option Nat
 aN:Nat->Option (Nat × Nat × Nat)
 dL:Nat->Nat->Prop
 sz:Nat->Nat->Prop
 kZ:Nat
structure G.le (g g':G):Prop where
 key:∀ k b,g.key k=some b->g'.key k=some b
 aN:∀ k b,g.aN k=some b->g'.aN k=some b
 dL:∀ b i,g.dL b i->g'.dL b i
 sz:∀ b s,g.sz b s->g'.sz b s
 kZ:g'.kZ=g.kZ
theorem G.le.refl (g:G):g.le g:=⟨fun _ _ h=>h,fun _ _ h=>h,fun _ _ h=>h,fun _ _ h=>h,rfl⟩
theorem G.le.trans {a b c:G} (h:a.le b) (k:b.le c):a.le c:=⟨fun _ _ x=>k.key _ _ (h.key _ _ x),fun _ _ x=>k.aN _ _ (h.aN _ _ x),fun _ _ x=>k.dL _ _ (h.dL _ _ x),fun _ _ x=>k.sz _ _ (h.sz _ _ x),k.kZ.trans h.kZ⟩
def Row (w:World) (g:G) (b o:Nat) (vs:List Value):Prop:=∀ i v,vs[i]?=some v->g.dL b (o+i)/\w.cell? ⟨b,o+i,none⟩=some v
def One (vs:List Value):Prop:=∀ v∈vs,v.oneCell'=true
def zP (g:G) (size n cap b o:Nat):lV->Prop
 | .full=>cap=n
 | .dead=>True
 | .at id=>g.aN id=some (b,o+n*size,o+cap*size)
def Al (g:G) (b o s:Nat):Prop:=g.sz b s/\o % s=0
theorem Al.mono {g g':G} {b o s:Nat} (h:Al g b o s) (hl:g.le g'):Al g' b o s:=⟨hl.sz _ _ h.1,h.2⟩
theorem Al.add {g:G} {b o s:Nat} (h:Al g b o s) (n:Nat):Al g b (o+n*s) s:=⟨h.1,by rw[Nat.add_mul_mod_self_right]; exact h.2⟩
def Vy (g:G) (b o s:Nat) (es:List AV) (t:lV):Prop:=(es=[]/\∀ id,t≠.at id)\/Al g b o s
theorem Vy.mono {g g':G} {b o s:Nat} {es:List AV} {t:lV} (h:Vy g b o s es t) (hl:g.le g'):Vy g' b o s es t:=h.imp id (·.mono hl)
def o9 (g:G) (b o:Nat) (h:Option (Nat × Nat)):Prop:=∀ id back,h=some (id,back)->∃ e,g.aN id=some (b,o+back,e)
theorem o9.mono {g g':G} {b o:Nat} {h:Option (Nat × Nat)} (k:o9 g b o h) (hl:g.le g'):o9 g' b o h:=fun id back e=>let ⟨x,hx⟩:=k id back e; ⟨x,hl.aN _ _ hx⟩
mutual
inductive bI (w:World) (g:G):AV->Value->Prop where
 |bool (b:Bool):bI w g (.bool b) (.bool b)
 |int (k:IntKind) (n:Int):bI w g (.int k n) (.int k n)
 |str (s:List UInt8):bI w g (.str s) (.string ⟨s.toArray⟩)
 |iL:bI w g .iL (.pointer none)
 |ptr (key off b:Nat):g.key key=some b->bI w g (.ptr key off) (.pointer (some ⟨b,off,none⟩))
 |ro (cs:List AV) (off:Nat) (h:Option (Nat × Nat)) (vs:List Value) (b o:Nat):RL w g cs vs->Row w g b o vs->One vs->Al g b o cs.length->o9 g b o h->bI w g (.ro cs off h) (.pointer (some ⟨b,o+off,none⟩))
 |az:bI w g .az (.slice none 0 0)
 |sl (size:Nat) (es:List AV) (t:lV) (vs:List Value) (b o cap:Nat):RL w g (flat es) vs->Row w g b o vs->One vs->(∀ e∈es,e.cells.length=size)->es.length<=cap ->
   zP g size es.length cap b o t->Vy g b o size es t->bI w g (.sl size es t) (.slice (some ⟨b,o,none⟩) es.length cap)
 |ks (key off n b cap:Nat):g.key key=some b->n<=cap->bI w g (.ks key off n) (.slice (some ⟨b,off,none⟩) n cap)
 |kU:bI w g .kU (.map none)
 |mp (key b:Nat):g.key key=some b->bI w g (.mp key) (.map (some b))
 |kV:bI w g .kV .nilFunc
 |fn (f:Nat) (first la:List AV) (u v:List Value):RL w g first u->RL w g la v->bI w g (.fn f first la) (.func (.func f) u.toArray v.toArray)
 |agg (cs:List AV) (vs:List Value):RL w g cs vs->One vs->bI w g (.agg cs) (.agg vs.toArray)
 |cv (bh:List AV) (vs:List Value):RL w g bh vs->bI w g (.cv bh) (.tuple vs.toArray)
 |any (v:Value):bI w g .any v
inductive RL (w:World) (g:G):List AV->List Value->Prop where
 |nil:RL w g [] []
 |cons (a:AV) (v:Value) (bh:List AV) (vs:List Value):bI w g a v->RL w g bh vs->RL w g (a::bh) (v::vs)
end
def gN (g:G) (w w':World):Prop:=∀ b i,g.dL b i->w'.cell? ⟨b,i,none⟩=w.cell? ⟨b,i,none⟩
theorem Row.mono {w w':World} {g g':G} {b o:Nat} {vs:List Value} (h:Row w g b o vs) (hs:gN g w w') (hl:g.le g'):Row w' g' b o vs :=
 fun i v hv=>let ⟨h1,h2⟩:=h i v hv; ⟨hl.dL _ _ h1,(hs _ _ h1).trans h2⟩
theorem zP.mono {g g':G} {size n cap b o:Nat} {t:lV} (h:zP g size n cap b o t) (hl:g.le g'):zP g' size n cap b o t:=by
 cases t with
 |full=>exact h
 |dead=>trivial
 | «at» id=>exact hl.aN _ _ h
theorem bI.mono {w w':World} {g g':G} (hs:gN g w w') (hl:g.le g') {a:AV} {v:Value} (h:bI w g a v):bI w' g' a v :=
 bI.rec (motive_1:=fun a v _=>bI w' g' a v) (motive_2:=fun bh vs _=>RL w' g' bh vs)
  (fun b=>.bool b) (fun k n=>.int k n) (fun s=>.str s) .iL (fun key off b h=>.ptr key off b (hl.key _ _ h))
  (fun cs off h vs b o _ h2 h3 h4 h5 ih=>.ro cs off h vs b o ih (h2.mono hs hl) h3 (h4.mono hl) (h5.mono hl)) .az
  (fun size es t vs b o cap _ h2 h3 h4 h5 h6 h7 ih=>.sl size es t vs b o cap ih (h2.mono hs hl) h3 h4 h5 (h6.mono hl) (h7.mono hl))
  (fun key off n b cap h h'=>.ks key off n b cap (hl.key _ _ h) h') .kU (fun key b h=>.mp key b (hl.key _ _ h)) .kV
  (fun f first la u v _ _ i1 i2=>.fn f first la u v i1 i2) (fun cs vs _ h2 ih=>.agg cs vs ih h2) (fun bh vs _ ih=>.cv bh vs ih) (fun v=>.any v)
  .nil (fun a v bh vs _ _ i1 i2=>.cons a v bh vs i1 i2) h
theorem RL.mono {w w':World} {g g':G} (hs:gN g w w') (hl:g.le g') {bh:List AV} {vs:List Value} (h:RL w g bh vs):RL w' g' bh vs :=
 RL.rec (motive_1:=fun a v _=>bI w' g' a v) (motive_2:=fun bh vs _=>RL w' g' bh vs)
  (fun b=>.bool b) (fun k n=>.int k n) (fun s=>.str s) .iL (fun key off b h=>.ptr key off b (hl.key _ _ h))
  (fun cs off h vs b o _ h2 h3 h4 h5 ih=>.ro cs off h vs b o ih (h2.mono hs hl) h3 (h4.mono hl) (h5.mono hl)) .az
  (fun size es t vs b o cap _ h2 h3 h4 h5 h6 h7 ih=>.sl size es t vs b o cap ih (h2.mono hs hl) h3 h4 h5 (h6.mono hl) (h7.mono hl))
  (fun key off n b cap h h'=>.ks key off n b cap (hl.key _ _ h) h') .kU (fun key b h=>.mp key b (hl.key _ _ h)) .kV
  (fun f first la u v _ _ i1 i2=>.fn f first la u v i1 i2) (fun cs vs _ h2 ih=>.agg cs vs ih h2) (fun bh vs _ ih=>.cv bh vs ih) (fun v=>.any v)
  .nil (fun a v bh vs _ _ i1 i2=>.cons a v bh vs i1 i2) h
section
variable {w : World} {g : G}
theorem RL.length {bh:List AV} {vs:List Value} (h:RL w g bh vs):vs.length=bh.length:=by
 induction bh generalizing vs with
 |nil=>cases h; rfl
 |cons a bh ih=>cases h with
  |cons _ v _ vs h1 h2=>simp[ih h2]
theorem RL.get {bh:List AV} {vs:List Value} (h:RL w g bh vs) {i:Nat} {a:AV} (ha:bh[i]?=some a):∃ v,vs[i]?=some v/\bI w g a v:=by
 induction bh generalizing vs i with
 |nil=>simp at ha
 |cons b bh ih=>cases h with
  |cons _ v _ vs h1 h2=>cases i with
   |zero=>simp at ha; subst ha; exact⟨v,rfl,h1⟩
   |succ i=>simp at ha; simpa using ih h2 ha
theorem RL.append {bh bs:List AV} {us vs:List Value} (h:RL w g bh us) (k:RL w g bs vs):RL w g (bh++bs) (us++vs):=by
 induction bh generalizing us with
 |nil=>cases h; exact k
 |cons a bh ih=>cases h with
  |cons _ v _ vs h1 h2=>exact .cons _ _ _ _ h1 (ih h2)
theorem RL.drop {bh:List AV} {vs:List Value} (h:RL w g bh vs) (n:Nat):RL w g (bh.drop n) (vs.drop n):=by
 induction bh generalizing vs n with
 |nil=>cases h; simpa using RL.nil
 |cons a bh ih=>cases h with
  |cons _ v _ vs h1 h2=>cases n with
   |zero=>exact .cons _ _ _ _ h1 h2
   |succ n=>simpa using ih h2 n
theorem RL.take {bh:List AV} {vs:List Value} (h:RL w g bh vs) (n:Nat):RL w g (bh.take n) (vs.take n):=by
 induction bh generalizing vs n with
 |nil=>cases h; simpa using RL.nil
 |cons a bh ih=>cases h with
  |cons _ v _ vs h1 h2=>cases n with
   |zero=>simpa using RL.nil
   |succ n=>simpa using RL.cons _ _ _ _ h1 (ih h2 n)
theorem RL.one {a:AV} {v:Value} (h:bI w g a v):RL w g [a] [v]:=.cons _ _ _ _ h .nil
theorem RL.replicate {bh:List AV} {vs:List Value} (h:RL w g bh vs) (n:Nat):RL w g (List.replicate n bh).flatten (List.replicate n vs).flatten:=by
 induction n with
 |zero=>simpa using RL.nil
 |succ n ih=>simpa[List.replicate_succ] using h.append ih
theorem One.nil:One []:=fun _ h=>by cases h
theorem One.append {us vs:List Value} (h:One us) (k:One vs):One (us++vs):=fun v hv=>(ku.1 hv).elim (h v) (k v)
theorem One.drop {vs:List Value} (h:One vs) (n:Nat):One (vs.drop n):=fun v hv=>h v (List.mem_of_mem_drop hv)
theorem One.take {vs:List Value} (h:One vs) (n:Nat):One (vs.take n):=fun v hv=>h v (List.mem_of_mem_take hv)
theorem One.get {vs:List Value} (h:One vs) {i:Nat} {v:Value} (hv:vs[i]?=some v):v.oneCell'=true:=h v (pT hv)
theorem Row.nil (b o:Nat):Row w g b o []:=fun i v h=>by simp at h
theorem Row.drop {b o:Nat} {vs:List Value} (h:Row w g b o vs) (n:Nat):Row w g b (o+n) (vs.drop n):=fun i v hv=>by
 rw[rJ] at hv
 have:=h _ _ hv;rwa[<-qB] at this
theorem Row.take {b o:Nat} {vs:List Value} (h:Row w g b o vs) (n:Nat):Row w g b o (vs.take n):=fun i v hv=>by
 rw[pS] at hv
 split at hv
 ·exact h _ _ hv
 ·cases hv
theorem Row.append {b o:Nat} {us vs:List Value} (h:Row w g b o us) (k:Row w g b (o+us.length) vs):Row w g b o (us++vs):=fun i v hv=>by
 rw[List.getElem?_append] at hv
 split at hv
 ·exact h _ _ hv
 ·have:=k _ _ hv
  have e:o+us.length+(i-us.length)=o+i:=by omega
  rwa[e] at this
theorem Row.rangeAt {b o:Nat} {vs:List Value} (h:Row w g b o vs):w.rangeAt b o vs:=fun j v hv=>(h j v hv).2
theorem bI.cells {a:AV} {v:Value} (h:bI w g a v) (ha:a.cells≠[]):∃ vs,v.cells=vs.toArray/\RL w g a.cells vs/\One vs:=by
 have atom:∀ {a:AV} {v:Value},bI w g a v->v.oneCell'=true->a.cells=[a]->∃ vs,v.cells=vs.toArray/\RL w g a.cells vs/\One vs:=by
  intro a v h h1 h2;refine⟨[v],?_,?_,?_⟩
  ·cases v<;>first |rfl |simp[Value.oneCell'] at h1
  ·rw[h2]; exact RL.one h
  ·intro u hu
   simp at hu; subst hu; exact h1
 have h':=h;cases h with
 |agg cs vs h1 h2=>exact⟨vs,by simp[Value.cells],by simpa[AV.cells] using h1,h2⟩
 |_=>first
  |exact absurd rfl ha
  |exact atom h' rfl rfl
end
end Go.Ev
theorem JG:type_of% @Array.getElem?_push:=@Array.getElem?_push
theorem qz:type_of% @List.eq_nil_of_length_eq_zero:=@List.eq_nil_of_length_eq_zero
theorem Cp:type_of% @List.length_nil:=@List.length_nil
theorem kr:type_of% @Nat.eq_of_beq_eq_true:=@Nat.eq_of_beq_eq_true
theorem dN:type_of% @Nat.le_refl:=@Nat.le_refl
theorem ma:type_of% @Nat.le_succ:=@Nat.le_succ
theorem lS:type_of% @Nat.le_trans:=@Nat.le_trans
theorem qy:type_of% @Nat.lt_of_lt_of_le:=@Nat.lt_of_lt_of_le
theorem M1:type_of% @Nat.lt_succ_of_lt:=@Nat.lt_succ_of_lt
theorem qA:type_of% @Nat.lt_succ_self:=@Nat.lt_succ_self
theorem M3:type_of% @Nat.ne_of_beq_eq_false:=@Nat.ne_of_beq_eq_false
theorem ba:type_of% @if_neg:=@if_neg
theorem bJ:type_of% @if_pos:=@if_pos
namespace Go.Ev
open Go.RowKit
theorem bo (a b:Nat):Nat.beq a b=decide (a=b):=by
 cases h:Nat.beq a b with
 |true=>simpa using(kr h)
 |false=>simpa using(M3 h)
theorem xX {α:Type} (a b:Nat) (u v:α):(Bool.rec (motive:=fun _=>α) u v (Nat.beq a b))=if a=b then v else u:=by
 rw[bo]
 by_cases h:a=b<;>simp[h]
section
variable {α : Type}
theorem Tr.get_nil (k:Nat):(Tr.nil:Tr α).get k=none:=rfl
theorem Tr.eP (v:Option α) (l r:Tr α) (k:Nat):(Tr.node v l r).get k=if k=0 then v else if k % 2=1 then l.get (k / 2) else r.get (k / 2-1):=by
 show Bool.rec (motive:=fun _=>Option α) (Bool.rec (motive:=fun _=>Option α) (r.get (Nat.sub (Nat.div k 2) 1)) (l.get (Nat.div k 2)) (Nat.beq (Nat.mod k 2) 1)) v (Nat.beq k 0)=_
 rw[xX,xX]; rfl
theorem Tr.Mq (x:α) (f k:Nat):Tr.uV x (f+1) .nil k=if k=0 then .node (some x) .nil .nil else if k % 2=1 then .node none (Tr.uV x f .nil (k / 2)) .nil else .node none .nil (Tr.uV x f .nil (k / 2-1)):=by
 show Bool.rec (motive:=fun _=>Tr α) (Bool.rec (motive:=fun _=>Tr α) (.node none .nil (Tr.uV x f .nil (Nat.sub (Nat.div k 2) 1))) (.node none (Tr.uV x f .nil (Nat.div k 2)) .nil) (Nat.beq (Nat.mod k 2) 1)) (.node (some x) .nil .nil) (Nat.beq k 0)=_
 rw[xX,xX]; rfl
theorem Tr.Jl (x:α) (f k:Nat) (v:Option α) (l r:Tr α):Tr.uV x (f+1) (.node v l r) k=if k=0 then .node (some x) l r else if k % 2=1 then .node v (Tr.uV x f l (k / 2)) r else .node v l (Tr.uV x f r (k / 2-1)):=by
 show Bool.rec (motive:=fun _=>Tr α) (Bool.rec (motive:=fun _=>Tr α) (.node v l (Tr.uV x f r (Nat.sub (Nat.div k 2) 1))) (.node v (Tr.uV x f l (Nat.div k 2)) r) (Nat.beq (Nat.mod k 2) 1)) (.node (some x) l r) (Nat.beq k 0)=_
 rw[xX,xX]; rfl
theorem Tr.O5 (x:α):∀ (f:Nat) (t:Tr α) (k j:Nat),k<f->(Tr.uV x f t k).get j=if j=k then some x else t.get j:=by
 intro f
 induction f with
 |zero=>intro t k j h; omega
 |succ f ih =>
  intro t k j h;cases t with
  |nil =>
   rw[Tr.Mq]
   by_cases h0:k=0
   ·rw[bJ h0,Tr.eP]
    subst h0
    by_cases hj:j=0
    ·simp[hj]
    ·simp[hj,Tr.get_nil]
   ·rw[ba h0]
    by_cases h1:k % 2=1
    ·rw[bJ h1,Tr.eP]
     by_cases hj:j=0
     ·subst hj; rw[bJ rfl,ba (by omega)]; rfl
     ·rw[ba hj]
      by_cases Fy:j % 2=1
      ·rw[bJ Fy,ih _ _ _ (by omega)]
       by_cases e:j=k
       ·subst e; simp
       ·rw[ba (by omega),ba e]; rfl
      ·rw[ba Fy,ba (by omega)]; rfl
    ·rw[ba h1,Tr.eP]
     by_cases hj:j=0
     ·subst hj; rw[bJ rfl,ba (by omega)]; rfl
     ·rw[ba hj]
      by_cases Fy:j % 2=1
      ·rw[bJ Fy,ba (by omega)]; rfl
      ·rw[ba Fy,ih _ _ _ (by omega)]
       by_cases e:j=k
       ·subst e; simp
       ·rw[ba (by omega),ba e]; rfl
  |node v l r =>
   rw[Tr.Jl]
   by_cases h0:k=0
   ·rw[bJ h0,Tr.eP,Tr.eP]
    subst h0
    by_cases hj:j=0
    ·simp[hj]
    ·simp[hj]
   ·rw[ba h0]
    by_cases h1:k % 2=1
    ·rw[bJ h1,Tr.eP,Tr.eP]
     by_cases hj:j=0
     ·subst hj; rw[bJ rfl,ba (by omega),bJ rfl]
     ·rw[ba hj,ba hj]
      by_cases Fy:j % 2=1
      ·rw[bJ Fy,bJ Fy,ih _ _ _ (by omega)]
       by_cases e:j=k
       ·subst e; simp
       ·rw[ba (by omega),ba e]
      ·rw[ba Fy,ba Fy,ba (by omega)]
    ·rw[ba h1,Tr.eP,Tr.eP]
     by_cases hj:j=0
     ·subst hj; rw[bJ rfl,ba (by omega),bJ rfl]
     ·rw[ba hj,ba hj]
      by_cases Fy:j % 2=1
      ·rw[bJ Fy,bJ Fy,ba (by omega)]
      ·rw[ba Fy,ba Fy,ih _ _ _ (by omega)]
       by_cases e:j=k
       ·subst e; simp
       ·rw[ba (by omega),ba e]
theorem Tr.cb (t:Tr α) (k j:Nat) (x:α):(t.set k x).get j=if j=k then some x else t.get j:=Tr.O5 x _ t k j (qA k)
end
theorem jC {α:Type} (l:List α) (n:Nat):nth l n=l[n]?:=by
 induction l generalizing n with
 |nil=>rfl
 |cons a l ih =>
  show Bool.rec (motive:=fun _=>Option α) (nth l (Nat.pred n)) (some a) (Nat.beq n 0)=_
  rw[xX];cases n with
  |zero=>rfl
  |succ n=>simpa using ih n
theorem Ew (n:Nat) (vs:List AV):aZ [] n vs=vs:=rfl
theorem B6 (c:AV) (t:List AV) (n:Nat) (vs:List AV):aZ (c::t) n vs=if n=0 then vs++(c::t).drop vs.length else c::aZ t (n-1) vs:=by
 show Bool.rec (motive:=fun _=>List AV) (c::aZ t (Nat.pred n) vs) (vs++(c::t).drop vs.length) (Nat.beq n 0)=_
 rw[xX]; rfl
theorem l6 (cs:List AV) (n:Nat) (vs:List AV) (h:n+vs.length<=cs.length):aZ cs n vs=cs.take n++vs++cs.drop (n+vs.length):=by
 induction cs generalizing n with
 |nil =>
  have:vs=[]:=qz (by simp only[Cp] at h; omega)
  subst this;simp[Ew]
 |cons c t ih =>
  rw[B6]
  by_cases hn:n=0
  ·subst hn; simp
  ·rw[ba hn,ih (n-1) (by simp at h; omega)]
   obtain⟨m,rfl⟩:∃ m,n=m+1:=⟨n-1,by omega⟩
   have e:m+1+vs.length=m+vs.length+1:=by omega
   simp[e]
theorem lL (s t:List UInt8):mW s t=decide (s=t):=by
 induction s generalizing t with
 |nil=>cases t<;>simp[mW]
 |cons a s ih =>
  cases t with
  |nil=>simp[mW]
  |cons b t =>
   show Bool.rec (motive:=fun _=>Bool) false (mW s t) (Nat.beq a.toNat b.toNat)=_
   rw[xX,ih]
   by_cases h:a=b
   ·subst h; simp
   ·have:¬ a.toNat=b.toNat:=fun e=>h (UInt8.toNat_inj.1 e)
    simp[h,this]
theorem iV (a b:Int):cE a b=decide (a=b):=by
 cases a<;>cases b<;>simp only[cE,bo]<;>simp
 all_goals omega
def dR.obj:dR->Bool
 | .box _ _=>true
 | .map _ _=>true
 |_=>false
def live (H:Tr dR) (k:Nat):Prop:=∃ e,H.get k=some e/\e.obj=true
def qY (w:World) (g:G) (kv:List (AV × AV)) (es:List MapEntry):Prop:=RL w g (kv.map (·.1)) (es.map (·.key))/\RL w g (kv.map (·.2)) (es.map (·.val))
def nH (w:World) (g:G) (b:Nat):dR->Prop
 | .box _ cs=>∃ vs,RL w g cs vs/\One vs/\w.rangeAt b 0 vs/\w.there b 0 vs.length
 | .map _ kv=>∃ es clock,w.heap[b]?=some (.map es clock)/\qY w g kv es.toList
 |_=>True
theorem qc {w w':World} {b o:Nat} {vs:List Value} (h:w.rangeAt b o vs) (hb:w'.heap[b]?=w.heap[b]?):w'.rangeAt b o vs:=fun j v hv=>(World.cell?_of_block (a:=⟨b,o+j,none⟩) hb).trans (h j v hv)
theorem gB {w w':World} {b o n:Nat} (h:w.there b o n) (hb:w'.heap[b]?=w.heap[b]?):w'.there b o n:=fun j hj=>by
 obtain⟨h1,h2⟩:=h j hj;exact⟨by rw[World.cell?_of_block (a:=⟨b,o+j,none⟩) hb]; exact h1,by rw[World.frozen?_of_block (a:=⟨b,o+j,none⟩) hb]; exact h2⟩
theorem nH.mono {w w':World} {g g':G} {b:Nat} {e:dR} (h:nH w g b e) (hs:gN g w w') (hl:g.le g') (hb:w'.heap[b]?=w.heap[b]?):nH w' g' b e:=by
 cases e with
 |box v cs=>obtain⟨vs,h1,h2,h3,h4⟩:=h; exact⟨vs,h1.mono hs hl,h2,qc h3 hb,gB h4 hb⟩
 |map v kv=>obtain⟨es,c,h1,h2,h3⟩:=h; exact⟨es,c,hb.trans h1,h2.mono hs hl,h3.mono hs hl⟩
 |aN=>trivial
 |gone=>trivial
structure Uj (base:Nat) (g:G) (w:World):Prop where
 lt:∀ b s,g.sz b s->b<w.heap.size
 one:∀ b s t,g.sz b s->g.sz b t->s=t
 own:∀ b s,g.sz b s->s≠1->g.kZ<=b
 kZ:g.kZ<=base
 dL:∀ b s,g.sz b s->∃ i,g.dL b i
 Nw:∀ b s i,g.sz b s->s≠1->g.dL b i->w.frozen? ⟨b,i,none⟩=false
theorem Uj.le {base:Nat} {g:G} {w w':World} (h:Uj base g w) (hm:w.heap.size<=w'.heap.size) (hf:∀ b i,g.dL b i->b<w.heap.size->w'.frozen? ⟨b,i,none⟩=w.frozen? ⟨b,i,none⟩):Uj base g w' :=
 ⟨fun b s hb=>qy (h.lt b s hb) hm,h.one,h.own,h.kZ,h.dL,fun b s i hb hs hi=>(hf b i hi (h.lt b s hb)).trans (h.Nw b s i hb hs hi)⟩
structure Inv (base:Nat) (g:G) (st:St) (w:World):Prop where
 cf:base<=w.heap.size
 fl:∀ k e,st.heap.get k=some e->k<st.next
 cK:∀ k b,g.key k=some b->k<st.next/\b<w.heap.size
 dS:∀ k b s e,g.aN k=some (b,s,e)->k<st.next/\b<w.heap.size
 eQ:∀ b i,g.dL b i->∃ v,w.cell? ⟨b,i,none⟩=some v
 xI:∀ k e b,st.heap.get k=some e->g.key k=some b->nH w g b e/\(e.obj=true->base<=b)
 aN:∀ id b s e,st.heap.get id=some .aN->g.aN id=some (b,s,e)->base<=b/\s<=e/\w.there b s (e-s)/\∀ i,s<=i->i<e->¬ g.dL b i
 dP:∀ k b i,live st.heap k->g.key k=some b->¬ g.dL b i
 gv:∀ k j b,live st.heap k->live st.heap j->g.key k=some b->g.key j=some b->k=j
 eX:∀ k id b s e,live st.heap k->st.heap.get id=some .aN->g.key k=some b->¬ g.aN id=some (b,s,e)
 gk:∀ i j b s e s' e',st.heap.get i=some .aN->st.heap.get j=some .aN->i≠j->g.aN i=some (b,s,e)->g.aN j=some (b,s',e')->e<=s'\/e'<=s
 gH:Uj base g w
structure Ext (base:Nat) (g:G) (st:St) (w:World) (g':G) (ae:St) (w':World):Prop where
 le:g.le g'
 same:gN g w w'
 below:Below base w w'
 next:st.next<=ae.next
 Kr:∀ b i,g'.dL b i->g.dL b i\/base<=b
 jG:∀ k e,st.heap.get k=some e->e.obj=true->g.key k=none->ae.heap.get k=some e/\g'.key k=none
theorem Ext.refl (base:Nat) (g:G) (st:St) (w:World):Ext base g st w g st w:=⟨.refl g,fun _ _ _=>rfl,.refl base w,dN _,fun _ _ h=>.inl h,fun _ _ h _ hn=>⟨h,hn⟩⟩
theorem gN.trans {g g':G} {a b c:World} (h:gN g a b) (hl:g.le g') (k:gN g' b c):gN g a c:=fun x i hx=>(k x i (hl.dL _ _ hx)).trans (h x i hx)
theorem Ext.trans {base:Nat} {g g' zl:G} {st ae gn:St} {w w' IU:World} (h:Ext base g st w g' ae w') (k:Ext base g' ae w' zl gn IU):Ext base g st w zl gn IU :=
 ⟨h.le.trans k.le,h.same.trans h.le k.same,h.below.trans k.below,lS h.next k.next,fun b i hx=>(k.Kr b i hx).elim (h.Kr b i) .inr,fun j e hj ho hn =>
  let ⟨a,b⟩:=h.jG j e hj ho hn
  k.jG j e a ho b⟩
theorem bI.ext {base:Nat} {g g':G} {st ae:St} {w w':World} (h:Ext base g st w g' ae w') {a:AV} {v:Value} (hr:bI w g a v):bI w' g' a v:=hr.mono h.same h.le
theorem RL.ext {base:Nat} {g g':G} {st ae:St} {w w':World} (h:Ext base g st w g' ae w') {a:List AV} {v:List Value} (hr:RL w g a v):RL w' g' a v:=hr.mono h.same h.le
theorem gj {w:World} {b i:Nat} {v:Value} (h:w.cell? ⟨b,i,none⟩=some v):b<w.heap.size:=World.block_lt_of_cell? w ⟨b,i,none⟩ h
theorem aJ (st:St) (e:dR) (j:Nat):(st.new e).heap.get j=if j=st.next then some e else st.heap.get j:=Tr.cb _ _ _ _
theorem aK (st:St) (k:Nat) (e:dR) (j:Nat):(st.put k e).heap.get j=if j=k then some e else st.heap.get j:=Tr.cb _ _ _ _
section
variable {base : Nat} {g : G} {st : St} {w : World}
theorem Inv.other (h:Inv base g st w) {w':World} (hs:gN g w w') (hz:w.heap.size<=w'.heap.size) (qR:Below base w w') (A0:∀ b i,b<w.heap.size->w'.frozen? ⟨b,i,none⟩=w.frozen? ⟨b,i,none⟩)
  (hk:∀ k b,live st.heap k->g.key k=some b->w'.heap[b]?=w.heap[b]?) (ht:∀ id b s e,st.heap.get id=some .aN->g.aN id=some (b,s,e)->w'.heap[b]?=w.heap[b]?) :
  Inv base g st w'/\Ext base g st w g st w':=by
 refine⟨⟨lS h.cf hz,h.fl,fun k b bQ=>?_,fun k b s e bQ=>?_,fun b i hb=>?_,?_,?_,h.dP,h.gv,h.eX,h.gk,h.gH.le hz fun b i _ hb=>A0 b i hb⟩,⟨.refl g,hs,qR,dN _,fun _ _ h=>.inl h,fun _ _ h _ hn=>⟨h,hn⟩⟩⟩
 ·have:=h.cK k b bQ; exact⟨this.1,by omega⟩
 ·have:=h.dS k b s e bQ; exact⟨this.1,by omega⟩
 ·obtain⟨v,hv⟩:=h.eQ b i hb
  exact⟨v,(hs b i hb).trans hv⟩
 ·intro k e b bQ hb
  obtain⟨h1,h2⟩:=h.xI k e b bQ hb;refine⟨?_,h2⟩
  cases he:e.obj with
  |true=>exact h1.mono hs (.refl g) (hk k b ⟨e,bQ,he⟩ hb)
  |false=>cases e<;>first |trivial |simp[dR.obj] at he
 ·intro id b s e bQ hb
  obtain⟨h1,h2,h3,h4⟩:=h.aN id b s e bQ hb;exact⟨h1,h2,gB h3 (ht id b s e bQ hb),h4⟩
theorem hao (w:World) (o:Obj) (i:Nat) (h:i<w.heap.size):(w.alloc o).heap[i]?=w.heap[i]?:=by
 show(w.heap.push o)[i]?=w.heap[i]?
 rw[JG,ba (Nat.ne_of_lt h)]
theorem Inv.drew (h:Inv base g st w):Inv base g st w.drew/\Ext base g st w g st w.drew :=
 h.other (fun _ _ _=>rfl) (dN _) (Below.refl base w).drew (fun _ _ _=>rfl) (fun _ _ _ _=>rfl) (fun _ _ _ _ _ _=>rfl)
theorem Inv.alloc (h:Inv base g st w) (o:Obj):Inv base g st (w.alloc o)/\Ext base g st w g st (w.alloc o):=by
 have hs:gN g w (w.alloc o):=fun b i hb=>by
  obtain⟨v,hv⟩:=h.eQ b i hb;exact World.cell?_alloc_lt w o _ (gj hv)
 have hz:(w.alloc o).heap.size=w.heap.size+1:=by simp
 exact h.other hs (by omega) ((Below.refl base w).alloc h.cf o) (fun b i hb=>World.frozen?_alloc_past o b i hb) (fun k b _ hb=>hao w o b (h.cK k b hb).2) (fun id b s e _ hb=>hao w o b (h.dS id b s e hb).2)
theorem Inv.freeze (h:Inv base g st w) (b lo hi:Nat) (jx:base<=b) (hk:∀ k,live st.heap k->g.key k≠some b) (ht:∀ k s e,st.heap.get k=some .aN->g.aN k=some (b,s,e)->∀ i,s<=i->i<e->¬ (lo<=i/\i<hi)) (hc:∀ i,lo<=i->i<hi->∃ v,w.cell? ⟨b,i,none⟩=some v) (A0:∀ s i,g.sz b s->s≠1->lo<=i->i<hi->w.frozen? ⟨b,i,none⟩=false) :
  Inv base {g with dL:=fun c i=>g.dL c i\/(c=b/\lo<=i/\i<hi) } st w/\Ext base g st w {g with dL:=fun c i=>g.dL c i\/(c=b/\lo<=i/\i<hi) } st w:=by
 have hl:g.le {g with dL:=fun c i=>g.dL c i\/(c=b/\lo<=i/\i<hi) }:=⟨fun _ _ h=>h,fun _ _ h=>h,fun _ _ h=>.inl h,fun _ _ h=>h,rfl⟩
 have hs:gN g w w:=fun _ _ _=>rfl
 refine⟨⟨h.cf,h.fl,h.cK,h.dS,?_,?_,?_,?_,h.gv,h.eX,h.gk,⟨h.gH.lt,h.gH.one,h.gH.own,h.gH.kZ,fun b s hb=>(h.gH.dL b s hb).imp fun _ h=>.inl h,fun c s i hb hs hi=>hi.elim (h.gH.Nw c s i hb hs) (fun hi=>by obtain⟨rfl,q1,q2⟩:=hi; exact A0 s i hb hs q1 q2)⟩⟩,⟨hl,hs,.refl base w,dN _,fun c i hx=>hx.elim .inl (fun hx=>.inr (by rw[hx.1]; exact jx)),fun _ _ h _ hn=>⟨h,hn⟩⟩⟩
 ·rintro c i (jW |⟨rfl,hi,pF⟩)
  ·exact h.eQ c i jW
  ·exact hc i hi pF
 ·intro k e c bQ hb
  obtain⟨h1,h2⟩:=h.xI k e c bQ hb;exact⟨h1.mono hs hl rfl,h2⟩
 ·intro id c s e bQ hb
  obtain⟨h1,h2,h3,h4⟩:=h.aN id c s e bQ hb;refine⟨h1,h2,h3,fun i h5 h6=>?_⟩
  rintro (hf |⟨rfl,h7,h8⟩)
  ·exact h4 i h5 h6 hf
  ·exact ht id s e bQ hb i h5 h6 ⟨h7,h8⟩
 ·rintro k c i mR hb (hf |⟨rfl,_⟩)
  ·exact h.dP k c i mR hb hf
  ·exact hk k mR hb
theorem Inv.Qt (h:Inv base g st w) (b s:Nat) (jx:base<=b) (uJ:b<w.heap.size) (hn:∀ t,¬ g.sz b t) (hz:∃ i,g.dL b i) (A0:s≠1->∀ i,g.dL b i->w.frozen? ⟨b,i,none⟩=false) :
  Inv base {g with sz:=fun c t=>g.sz c t\/(c=b/\t=s) } st w/\Ext base g st w {g with sz:=fun c t=>g.sz c t\/(c=b/\t=s) } st w:=by
 have hl:g.le {g with sz:=fun c t=>g.sz c t\/(c=b/\t=s) }:=⟨fun _ _ h=>h,fun _ _ h=>h,fun _ _ h=>h,fun _ _ h=>.inl h,rfl⟩
 have hs:gN g w w:=fun _ _ _=>rfl
 refine⟨⟨h.cf,h.fl,h.cK,h.dS,h.eQ,?_,h.aN,h.dP,h.gv,h.eX,h.gk,⟨?_,?_,?_,h.gH.kZ,?_,?_⟩⟩,⟨hl,hs,.refl base w,dN _,fun c i hx=>.inl hx,fun _ _ h _ hn=>⟨h,hn⟩⟩⟩
 ·intro k e c bQ hb
  obtain⟨h1,h2⟩:=h.xI k e c bQ hb;exact⟨h1.mono hs hl rfl,h2⟩
 ·rintro c t (hc |⟨rfl,_⟩)
  ·exact h.gH.lt c t hc
  ·exact uJ
 ·rintro c t u (hc |⟨rfl,rfl⟩) (hd |⟨Ts,hd2⟩)
  ·exact h.gH.one c t u hc hd
  ·subst Ts; exact absurd hc (hn _)
  ·exact absurd hd (hn _)
  ·exact hd2.symm
 ·rintro c t (hc |⟨rfl,_⟩) ht
  ·exact h.gH.own c t hc ht
  ·exact lS h.gH.kZ jx
 ·rintro c t (hc |⟨rfl,_⟩)
  ·exact h.gH.dL c t hc
  ·exact hz
 ·rintro c t i (hc |⟨rfl,rfl⟩) ht hi
  ·exact h.gH.Nw c t i hc ht hi
  ·exact A0 ht i hi
theorem Inv.Qv (h:Inv base g st w) (b:Nat) (e:dR) (he:e.obj=true) (jx:base<=b) (uJ:b<w.heap.size) (hk:∀ k,live st.heap k->g.key k≠some b)
  (ht:∀ k s e,st.heap.get k=some .aN->g.aN k≠some (b,s,e)) (hf:∀ i,¬ g.dL b i) (nS:nH w g b e) :
  Inv base {g with key:=fun k=>if k=st.next then some b else g.key k } (st.new e) w/\Ext base g st w {g with key:=fun k=>if k=st.next then some b else g.key k } (st.new e) w:=by
 have hn:g.key st.next=none:=by
  cases hx:g.key st.next with
  |none=>rfl
  |some c=>have:=(h.cK _ _ hx).1; omega
 have hl:g.le {g with key:=fun k=>if k=st.next then some b else g.key k }:=⟨fun k c hc=>by
  have:k≠st.next:=fun e=>by rw[e,hn] at hc; cases hc
  simpa[this] using hc,fun _ _ h=>h,fun _ _ h=>h,fun _ _ h=>h,rfl⟩
 have hs:gN g w w:=fun _ _ _=>rfl
 have jO:e≠.aN:=fun e'=>by rw[e'] at he; cases he
 have mR:∀ k,live (st.new e).heap k->k=st.next\/(k≠st.next/\live st.heap k):=by
  rintro k ⟨x,hx,hy⟩
  rw[aJ] at hx
  by_cases bQ:k=st.next
  ·exact .inl bQ
  ·rw[ba bQ] at hx; exact .inr ⟨bQ,x,hx,hy⟩
 have mh:∀ k,(st.new e).heap.get k=some .aN->k≠st.next/\st.heap.get k=some .aN:=by
  intro k hx;rw[aJ] at hx
  by_cases bQ:k=st.next
  ·rw[bJ bQ] at hx; injection hx with hx; exact absurd hx jO
  ·rw[ba bQ] at hx; exact⟨bQ,hx⟩
 refine⟨⟨h.cf,?_,?_,?_,h.eQ,?_,?_,?_,?_,?_,?_,⟨h.gH.lt,h.gH.one,h.gH.own,h.gH.kZ,h.gH.dL,h.gH.Nw⟩⟩,⟨hl,hs,.refl base w,ma _,fun _ _ h=>.inl h,?_⟩⟩
 ·intro k x hx
  rw[aJ] at hx;show k<st.next+1
  by_cases bQ:k=st.next
  ·omega
  ·rw[ba bQ] at hx; have:=h.fl k x hx; omega
 ·intro k c hc
  show k<st.next+1/\_
  by_cases bQ:k=st.next
  ·simp[bQ] at hc; subst hc; exact⟨by omega,uJ⟩
  ·simp[bQ] at hc; have:=h.cK k c hc; exact⟨by omega,this.2⟩
 ·intro k c s x hx
  have:=h.dS k c s x hx;exact⟨M1 this.1,this.2⟩
 ·intro k x c hx hc
  rw[aJ] at hx
  by_cases bQ:k=st.next
  ·rw[bJ bQ] at hx
   injection hx with hx; subst hx
   simp[bQ] at hc; subst hc;exact⟨nS.mono hs hl rfl,fun _=>jx⟩
  ·rw[ba bQ] at hx
   simp[bQ] at hc;obtain⟨h1,h2⟩:=h.xI k x c hx hc;exact⟨h1.mono hs hl rfl,h2⟩
 ·intro id c s x hx hc
  exact h.aN id c s x (mh id hx).2 hc
 ·intro k c i hx hc
  rcases mR k hx with bQ |⟨bQ,kC⟩
  ·simp[bQ] at hc; subst hc; exact hf i
  ·simp[bQ] at hc; exact h.dP k c i kC hc
 ·intro k j c hx hy hc hd
  rcases mR k hx with bQ |⟨bQ,kC⟩<;>rcases mR j hy with uI |⟨uI,pC⟩
  ·rw[bQ,uI]
  ·simp[bQ] at hc; simp[uI] at hd; subst hc; exact absurd hd (hk j pC)
  ·simp[bQ] at hc; simp[uI] at hd; subst hd; exact absurd hc (hk k kC)
  ·simp[bQ] at hc; simp[uI] at hd; exact h.gv k j c kC pC hc hd
 ·intro k id c s x hx hy hc hd
  rcases mR k hx with bQ |⟨bQ,kC⟩
  ·simp[bQ] at hc; subst hc; exact ht id s x (mh id hy).2 hd
  ·simp[bQ] at hc; exact h.eX k id c s x kC (mh id hy).2 hc hd
 ·intro i j c s x s' x' hi hj Ow hc hd
  exact h.gk i j c s x s' x' (mh i hi).2 (mh j hj).2 Ow hc hd
 ·intro k e' bQ _ rX
  have aO:=h.fl k e' bQ;refine⟨?_,?_⟩
  ·rw[aJ,ba (by omega)]; exact bQ
  ·show(if k=st.next then some b else g.key k)=none
   rw[ba (by omega)]; exact rX
theorem Inv.YL (h:Inv base g st w) (b s e:Nat) (jx:base<=b) (uJ:b<w.heap.size) (hse:s<=e) (pU:w.there b s (e-s)) (hf:∀ i,s<=i->i<e->¬ g.dL b i)
  (hk:∀ k,live st.heap k->g.key k≠some b) (ht:∀ k s' e',st.heap.get k=some .aN->g.aN k=some (b,s',e')->e<=s'\/e'<=s) :
  Inv base {g with aN:=fun k=>if k=st.next then some (b,s,e) else g.aN k } (st.new .aN) w/\Ext base g st w {g with aN:=fun k=>if k=st.next then some (b,s,e) else g.aN k } (st.new .aN) w:=by
 have hn:g.aN st.next=none:=by
  cases hx:g.aN st.next with
  |none=>rfl
  |some c=>obtain⟨c,s',e'⟩:=c; have:=(h.dS _ _ _ _ hx).1; omega
 have hl:g.le {g with aN:=fun k=>if k=st.next then some (b,s,e) else g.aN k }:=⟨fun _ _ h=>h,fun k c hc=>by
  have:k≠st.next:=fun e=>by rw[e,hn] at hc; cases hc
  simpa[this] using hc,fun _ _ h=>h,fun _ _ h=>h,rfl⟩
 have hs:gN g w w:=fun _ _ _=>rfl
 have mR:∀ k,live (st.new .aN).heap k->live st.heap k:=by
  rintro k ⟨x,hx,hy⟩
  rw[aJ] at hx
  by_cases bQ:k=st.next
  ·rw[bJ bQ] at hx; injection hx with hx; subst hx; cases hy
  ·rw[ba bQ] at hx; exact⟨x,hx,hy⟩
 have mh:∀ k,(st.new .aN).heap.get k=some .aN->k≠st.next->st.heap.get k=some .aN:=by
  intro k hx bQ;rw[aJ,ba bQ] at hx; exact hx
 refine⟨⟨h.cf,?_,?_,?_,h.eQ,?_,?_,?_,?_,?_,?_,⟨h.gH.lt,h.gH.one,h.gH.own,h.gH.kZ,h.gH.dL,h.gH.Nw⟩⟩,⟨hl,hs,.refl base w,ma _,fun _ _ h=>.inl h,?_⟩⟩
 ·intro k x hx
  rw[aJ] at hx;show k<st.next+1
  by_cases bQ:k=st.next
  ·omega
  ·rw[ba bQ] at hx; have:=h.fl k x hx; omega
 ·intro k c hc
  have:=h.cK k c hc; exact⟨M1 this.1,this.2⟩
 ·intro k c s' x hx
  show k<st.next+1/\_
  by_cases bQ:k=st.next
  ·simp[bQ] at hx; obtain⟨rfl,_⟩:=hx; exact⟨by omega,uJ⟩
  ·simp[bQ] at hx; have:=h.dS k c s' x hx; exact⟨by omega,this.2⟩
 ·intro k x c hx hc
  rw[aJ] at hx
  by_cases bQ:k=st.next
  ·rw[bJ bQ] at hx
   injection hx with hx; subst hx
   exact⟨trivial,fun h=>by cases h⟩
  ·rw[ba bQ] at hx
   obtain⟨h1,h2⟩:=h.xI k x c hx hc;exact⟨h1.mono hs hl rfl,h2⟩
 ·intro id c s' x hx hc
  by_cases bQ:id=st.next
  ·simp[bQ] at hc
   obtain⟨rfl,rfl,rfl⟩:=hc;exact⟨jx,hse,pU,hf⟩
  ·simp[bQ] at hc
   exact h.aN id c s' x (mh id hx bQ) hc
 ·intro k c i hx hc
  exact h.dP k c i (mR k hx) hc
 ·intro k j c hx hy hc hd
  exact h.gv k j c (mR k hx) (mR j hy) hc hd
 ·intro k id c s' x hx hy hc hd
  by_cases bQ:id=st.next
  ·simp[bQ] at hd
   obtain⟨rfl,_⟩:=hd;exact hk k (mR k hx) hc
  ·simp[bQ] at hd
   exact h.eX k id c s' x (mR k hx) (mh id hy bQ) hc hd
 ·intro i j c s1 x s' x' hi hj jO hc hd
  by_cases pF:i=st.next<;>by_cases uI:j=st.next
  ·exact absurd (pF.trans uI.symm) jO
  ·simp[pF] at hc; simp[uI] at hd
   obtain⟨rfl,rfl,rfl⟩:=hc;exact ht j s' x' (mh j hj uI) hd
  ·simp[pF] at hc; simp[uI] at hd
   obtain⟨rfl,rfl,rfl⟩:=hd;exact(ht i s1 x (mh i hi pF) hc).symm
  ·simp[pF] at hc; simp[uI] at hd
   exact h.gk i j c s1 x s' x' (mh i hi pF) (mh j hj uI) jO hc hd
 ·intro k e' bQ _ rX
  have aO:=h.fl k e' bQ;exact⟨by rw[aJ,ba (by omega)]; exact bQ,rX⟩
theorem Inv.vN (h:Inv base g st w) {id b s e:Nat} (hid:st.heap.get id=some .aN) (hg:g.aN id=some (b,s,e)) {vs:List Value} (hle:s+vs.length<=e) (qR:Below base w (w.setCells b s vs))
  (dF:∀ c,c≠b->c<w.heap.size->(w.setCells b s vs).heap[c]?=w.heap[c]?):Inv base g st (w.setCells b s vs)/\Ext base g st w g st (w.setCells b s vs):=by
 obtain⟨h1,h2,h3,h4⟩:=h.aN id b s e hid hg;have hs:gN g w (w.setCells b s vs):=fun c i hc=>by
  refine World.cell?_setCells_out b vs s w ⟨c,i,none⟩ (fun hb _=>?_)
  have hb:c=b:=hb;subst hb
  by_cases h5:i<s
  ·exact .inl h5
  ·by_cases h6:e<=i
   ·exact .inr (by show s+vs.length<=i; omega)
   ·exact absurd hc (h4 i (by omega) (by omega))
 refine⟨⟨lS h.cf qR.size,h.fl,fun k c bQ=>?_,fun k c s e bQ=>?_,fun c i hc=>?_,?_,?_,h.dP,h.gv,h.eX,h.gk,h.gH.le qR.size fun _ _ _ _=>World.frozen?_setCells _ _ _ _ _⟩,⟨.refl g,hs,qR,dN _,fun _ _ h=>.inl h,fun _ _ h _ hn=>⟨h,hn⟩⟩⟩
 ·have:=h.cK k c bQ; have:=qR.size; exact⟨by omega,by omega⟩
 ·have:=h.dS k c s e bQ; have:=qR.size; exact⟨by omega,by omega⟩
 ·obtain⟨v,hv⟩:=h.eQ c i hc
  exact⟨v,(hs c i hc).trans hv⟩
 ·intro k x c bQ hc
  obtain⟨h5,h6⟩:=h.xI k x c bQ hc;refine⟨?_,h6⟩
  cases hx:x.obj with
  |true =>
   refine h5.mono hs (.refl g) (dF c (fun e'=>?_) (h.cK k c hc).2)
   subst e';exact h.eX k id c s e ⟨x,bQ,hx⟩ hid hc hg
  |false=>cases x<;>first |trivial |simp[dR.obj] at hx
 ·intro N8 c s' e' bQ hc
  obtain⟨h5,h6,h7,h8⟩:=h.aN N8 c s' e' bQ hc;exact⟨h5,h6,World.there_setCells h7 b s vs,h8⟩
theorem Inv.drop (h:Inv base g st w) (k:Nat) (hk:∃ e,st.heap.get k=some e):Inv base g (st.put k .gone) w:=by
 have mR:∀ j,live (st.put k .gone).heap j->live st.heap j:=by
  rintro j ⟨x,hx,hy⟩
  rw[aK] at hx
  by_cases hj:j=k
  ·rw[bJ hj] at hx; injection hx with hx; subst hx; cases hy
  ·rw[ba hj] at hx; exact⟨x,hx,hy⟩
 have mh:∀ j,(st.put k .gone).heap.get j=some .aN->st.heap.get j=some .aN:=by
  intro j hx;rw[aK] at hx
  by_cases hj:j=k
  ·rw[bJ hj] at hx; injection hx with hx; cases hx
  ·rw[ba hj] at hx; exact hx
 refine⟨h.cf,?_,h.cK,h.dS,h.eQ,?_,fun id b s e hx=>h.aN id b s e (mh id hx),fun j b i hx=>h.dP j b i (mR j hx),fun i j b hx hy=>h.gv i j b (mR i hx) (mR j hy),
  fun j id b s e hx hy=>h.eX j id b s e (mR j hx) (mh id hy),fun i j b s e s' e' hi hj=>h.gk i j b s e s' e' (mh i hi) (mh j hj),h.gH⟩
 ·intro j x hx
  rw[aK] at hx
  by_cases hj:j=k
  ·obtain⟨e,he⟩:=hk
   rw[hj]; exact h.fl k e he
  ·rw[ba hj] at hx; exact h.fl j x hx
 ·intro j x b hx hb
  rw[aK] at hx
  by_cases hj:j=k
  ·rw[bJ hj] at hx; injection hx with hx; subst hx; exact⟨trivial,fun h=>by cases h⟩
  ·rw[ba hj] at hx; exact h.xI j x b hx hb
theorem Inv.VS (h:Inv base g st w) (k b:Nat) (e0 e:dR) (QY:st.heap.get k=some e0) (ho:e0.obj=true) (he:e.obj=true) (hb:g.key k=some b) {w':World} (hz:w.heap.size<=w'.heap.size) (qR:base<=b->Below base w w')
  (dF:∀ c,c≠b->c<w.heap.size->w'.heap[c]?=w.heap[c]?) (nS:nH w' g b e) :
  Inv base g (st.put k e) w'/\Ext base g st w g (st.put k e) w':=by
 have D4:live st.heap k:=⟨e0,QY,ho⟩;have jx:base<=b:=(h.xI k e0 b QY hb).2 ho;have hs:gN g w w':=fun c i hc=>by
  obtain⟨v,hv⟩:=h.eQ c i hc;refine World.cell?_of_block (a:=⟨c,i,none⟩) (dF c (fun e=>?_) (gj hv))
  subst e;exact h.dP k c i D4 hb hc
 have mR:∀ j,live (st.put k e).heap j->live st.heap j:=by
  rintro j ⟨x,hx,hy⟩
  rw[aK] at hx
  by_cases hj:j=k
  ·rw[hj]; exact D4
  ·rw[ba hj] at hx; exact⟨x,hx,hy⟩
 have mh:∀ j,(st.put k e).heap.get j=some .aN->st.heap.get j=some .aN:=by
  intro j hx;rw[aK] at hx
  by_cases hj:j=k
  ·rw[bJ hj] at hx; injection hx with hx; rw[hx] at he; cases he
  ·rw[ba hj] at hx; exact hx
 refine⟨⟨lS h.cf hz,?_,fun j c hc=>?_,fun j c s x hc=>?_,fun c i hc=>?_,?_,?_,fun j b i hx=>h.dP j b i (mR j hx),fun i j b hx hy=>h.gv i j b (mR i hx) (mR j hy),
  fun j id b s e hx hy=>h.eX j id b s e (mR j hx) (mh id hy),fun i j b s e s' e' hi hj=>h.gk i j b s e s' e' (mh i hi) (mh j hj),h.gH.le hz fun c i hf hc=>World.frozen?_of_block (a:=⟨c,i,none⟩) (dF c (fun e=>by subst e; exact h.dP k c i D4 hb hf) hc)⟩,⟨.refl g,hs,qR jx,dN _,fun _ _ h=>.inl h,?_⟩⟩
 ·intro j x hx
  rw[aK] at hx
  by_cases hj:j=k
  ·rw[hj]; exact h.fl k e0 QY
  ·rw[ba hj] at hx; exact h.fl j x hx
 ·have:=h.cK j c hc; exact⟨this.1,by omega⟩
 ·have:=h.dS j c s x hc; exact⟨this.1,by omega⟩
 ·obtain⟨v,hv⟩:=h.eQ c i hc
  exact⟨v,(hs c i hc).trans hv⟩
 ·intro j x c hx hc
  rw[aK] at hx
  by_cases hj:j=k
  ·rw[bJ hj] at hx; injection hx with hx; subst hx
   rw[hj,hb] at hc; injection hc with hc; subst hc
   exact⟨nS,fun _=>jx⟩
  ·rw[ba hj] at hx
   obtain⟨h1,h2⟩:=h.xI j x c hx hc;refine⟨?_,h2⟩
   cases uZ:x.obj with
   |true =>
    refine h1.mono hs (.refl g) (dF c (fun e=>?_) (h.cK j c hc).2)
    subst e;exact hj (h.gv j k c ⟨x,hx,uZ⟩ D4 hc hb)
   |false=>cases x<;>first |trivial |simp[dR.obj] at uZ
 ·intro id c s x hx hc
  obtain⟨h1,h2,h3,h4⟩:=h.aN id c s x (mh id hx) hc;refine⟨h1,h2,gB h3 (dF c (fun e=>?_) (h.dS id c s x hc).2),h4⟩
  subst e;exact h.eX k id c s x D4 (mh id hx) hb hc
 ·intro j e' hj _ hn
  refine⟨?_,hn⟩
  rw[aK,ba (fun e=>by rw[e,hb] at hn; cases hn)]; exact hj
end
end Go.Ev
theorem jB:type_of% @List.getElem?_map:=@List.getElem?_map
theorem gL:type_of% @List.length_drop:=@List.length_drop
theorem mG:type_of% @List.length_take:=@List.length_take
theorem gW:type_of% @Nat.le_of_ble_eq_true:=@Nat.le_of_ble_eq_true
namespace Go.Ev
open Go.RowKit
def ld (P:Program):Kd->TypeDesc->Prop
 | .bool,.bool=>True
 | .int k,.int j=>k=j
 | .str,.string=>True
 | .ptr,.pointer _=>True
 | .slice e,.slice d=>e=d
 | .struct fs,.struct f=>f.toList.map (fun x=>(x.offset,x.type))=fs
 | .map k e,.map k' e'=>k=k'/\e=e'
 | .func,.func _ _ _=>True
 |_,_=>False
structure uj (P:Program) (t:TypeId) (i:TI):Prop where
 info:∃ inf z,P.info? t=some inf/\inf.size=i.size/\inf.bytes=i.bytes/\inf.zero=some z/\(∀ w g,bI w g i.zero z)/\i.zero.cells.length=i.size/\(i.size≠0->i.zero.cells≠[])
 kd:∃ d,P.underlying t=some d/\ld P i.kd d
 Wl:∀ k9,P.underlying t=some (.struct k9)->∃ pl,k9.toList.mapM (fun f=>(P.info? f.type).map fun i=>(f.offset,i.size))=some pl
 eq:i.Ps=true->P.eqGuardType P.depth t=false /\
  ∀ (w w':World) (g:G) (bh bs:List AV) (us vs:List Value) (r:Bool),RL w g bh us->RL w g bs vs->jg i.zero.cells bh=true->jg i.zero.cells bs=true->pI bh bs=some r->(Op.equal t (.agg us.toArray) (.agg vs.toArray)).run P w' = .ok r w'
def bD (P:Program) (T:Nat->Option TI):Prop:=∀ t i,T t=some i->uj P t i
section
variable {P : Program} {t : TypeId} {i : TI}
theorem uj.dj (h:uj P t i) (w:World):(sizeOf t).run P w = .ok i.size w:=by
 obtain⟨inf,z,h1,h2,_⟩:=h.info;simp[sizeOf,typeInfo,h1,h2]
theorem uj.rB (h:uj P t i):∃ inf,P.info? t=some inf/\inf.size=i.size/\inf.bytes=i.bytes:=by
 obtain⟨inf,z,h1,h2,h3,_⟩:=h.info;exact⟨inf,h1,h2,h3⟩
theorem uj.Ao (h:uj P t i) (w:World):(isAgg t).run P w = .ok (gG i) w:=by
 obtain⟨d,h1,h2⟩:=h.kd;unfold isAgg;rw[Sem.run_bind,run_underlying h1 w];unfold gG;cases hk:i.kd<;>rw[hk] at h2<;>cases d<;>simp_all [ld]
theorem uj.Mk (h:uj P t i) {n:Nat} (hn:n=i.size):(P.info? t).map (·.size)=some n:=by
 obtain⟨inf,h1,h2,_⟩:=h.rB;rw[h1,hn]; simp[h2]
theorem wC (size:Nat) (cs:List AV) (off:Nat):partOf size true cs off=if off+size<=cs.length then some (.agg ((cs.drop off).take size)) else none:=by
 show Bool.rec (motive:=fun _=>Option AV) none (some (.agg ((cs.drop off).take size))) (Nat.ble (off+size) cs.length)=_
 cases h:Nat.ble (off+size) cs.length with
 |true=>rw[bJ (gW h)]
 |false=>rw[ba (fun h'=>by rw[Nat.ble_eq_true_of_le h'] at h; cases h)]
theorem mK (size:Nat) (cs:List AV) (off:Nat):partOf size false cs off=cs[off]?:=by
 show nth cs off=_
 exact jC cs off
theorem Na (h:uj P t i) {w:World} {g:G} {cs:List AV} {vs:List Value} (hr:RL w g cs vs) (ho:One vs) {off:Nat} {r:AV} (hp:partOf i.size (gG i) cs off=some r) (w':World) :
  ∃ v,(part t vs.toArray off).run P w' = .ok v w'/\bI w g r v:=by
 unfold part;cases ha:gG i with
 |true =>
  rw[ha,wC] at hp;split at hp
  ·rename_i hle
   injection hp with hp
   subst hp;refine⟨.agg ((vs.drop off).take i.size).toArray,?_,.agg _ _ ((hr.drop off).take i.size) ((ho.drop off).take i.size)⟩
   simp[Sem.run_bind,h.Ao,ha,h.dj]
  ·cases hp
 |false =>
  rw[ha,mK] at hp;obtain⟨v,hv,Fs⟩:=hr.get hp;refine⟨v,?_,Fs⟩
  simp[Sem.run_bind,h.Ao,ha,hv]
theorem wM (h:uj P t i) {w:World} {g:G} {cs:List AV} {vs:List Value} (hr:RL w g cs vs) (ho:One vs) {off b o:Nat} {r:AV} (hp:partOf i.size (gG i) cs off=some r) (yy:w.rangeAt b o vs) :
  ∃ v,(Instr.loadAt t (.pointer (some ⟨b,o+off,none⟩))).run P w = .ok v w/\bI w g r v:=by
 cases ha:gG i with
 |true =>
  rw[ha,wC] at hp;split at hp
  ·rename_i hle
   injection hp with hp
   subst hp;obtain⟨d,h1,h2⟩:=h.kd;have hd:d.isRow=true:=by
    unfold gG at ha;cases hk:i.kd<;>rw[hk] at h2 ha<;>cases d<;>simp_all [ld]
   have hl:((vs.drop off).take i.size).length=i.size:=by
    have:=hr.length;rw[mG,gL]; omega
   refine⟨.agg ((vs.drop off).take i.size).toArray,?_,.agg _ _ ((hr.drop off).take i.size) ((ho.drop off).take i.size)⟩
   refine run_loadAt_mid w b (o+off) t _ d (fun j v hv=>?_) h1 hd (h.Mk hl)
   rw[pS] at hv
   split at hv
   ·rw[rJ] at hv
    have:=yy _ _ hv;rwa[<-qB] at this
   ·cases hv
  ·cases hp
 |false =>
  rw[ha,mK] at hp;obtain⟨v,hv,Fs⟩:=hr.get hp;refine⟨v,?_,Fs⟩
  have hc:=yy _ _ hv;simp[Instr.loadAt,Instr.sureAddr,loadVar,Sem.run_bind,h.Ao,ha,load,Sem.run,hc]
end
section
variable {w : World} {g : G} {v : Value}
theorem dI {b:Bool} (h:bI w g (.bool b) v):v = .bool b:=by cases h; rfl
theorem bK {k:IntKind} {n:Int} (h:bI w g (.int k n) v):v = .int k n:=by cases h; rfl
theorem cF {s:List UInt8} (h:bI w g (.str s) v):v = .string ⟨s.toArray⟩:=by cases h; rfl
theorem l9 (h:bI w g .iL v):v = .pointer none:=by cases h; rfl
theorem gV {k o:Nat} (h:bI w g (.ptr k o) v):∃ b,g.key k=some b/\v = .pointer (some ⟨b,o,none⟩):=by cases h with |ptr _ _ b h=>exact⟨b,h,rfl⟩
theorem oh {cs:List AV} {off:Nat} {hm:Option (Nat × Nat)} (h:bI w g (.ro cs off hm) v):∃ vs b o,RL w g cs vs/\Row w g b o vs/\One vs/\v = .pointer (some ⟨b,o+off,none⟩)/\Al g b o cs.length/\o9 g b o hm:=by
 cases h with |ro _ _ _ vs b o h1 h2 h3 h4 h5=>exact⟨vs,b,o,h1,h2,h3,rfl,h4,h5⟩
theorem dn (h:bI w g .az v):v = .slice none 0 0:=by cases h; rfl
theorem gU {size:Nat} {es:List AV} {t:lV} (h:bI w g (.sl size es t) v):∃ vs b o cap,RL w g (flat es) vs/\Row w g b o vs/\One vs/\(∀ e∈es,e.cells.length=size)/\es.length<=cap /\
  zP g size es.length cap b o t/\v = .slice (some ⟨b,o,none⟩) es.length cap/\Vy g b o size es t:=by
 cases h with |sl _ _ _ vs b o cap h1 h2 h3 h4 h5 h6 h7=>exact⟨vs,b,o,cap,h1,h2,h3,h4,h5,h6,rfl,h7⟩
theorem qw {k o n:Nat} (h:bI w g (.ks k o n) v):∃ b cap,g.key k=some b/\n<=cap/\v = .slice (some ⟨b,o,none⟩) n cap:=by cases h with |ks _ _ _ b cap h h'=>exact⟨b,cap,h,h',rfl⟩
theorem rE (h:bI w g .kU v):v = .map none:=by cases h; rfl
theorem As {k:Nat} (h:bI w g (.mp k) v):∃ b,g.key k=some b/\v = .map (some b):=by cases h with |mp _ b h=>exact⟨b,h,rfl⟩
theorem rF (h:bI w g .kV v):v = .nilFunc:=by cases h; rfl
theorem At {f:Nat} {a c:List AV} (h:bI w g (.fn f a c) v):∃ us vs,RL w g a us/\RL w g c vs/\v = .func (.func f) us.toArray vs.toArray:=by cases h with |fn _ _ _ u v h1 h2=>exact⟨u,v,h1,h2,rfl⟩
theorem rG {cs:List AV} (h:bI w g (.agg cs) v):∃ vs,RL w g cs vs/\One vs/\v = .agg vs.toArray:=by cases h with |agg _ vs h1 h2=>exact⟨vs,h1,h2,rfl⟩
theorem Ar {cs:List AV} (h:bI w g (.cv cs) v):∃ vs,RL w g cs vs/\v = .tuple vs.toArray:=by cases h with |cv _ vs h1=>exact⟨vs,h1,rfl⟩
theorem fC:bI w g gg undef:=.cv [] [] .nil
theorem kz {a:AV} {n:Nat} (h:ch a=some n):∃ k,a = .int k (n:Int):=by
 unfold ch at h;split at h
 ·rename_i k m
  injection h with h; subst h; exact⟨k,rfl⟩
 ·cases h
end
def fA (P:Program) (base:Nat) (g:G) (st:St) (w:World) (ρ:Operand->Value) (o:Oper) (r:AV):Prop :=
 ∃ v w' g',(execOp ρ o).run P w = .ok (.value v) w'/\bI w' g' r v/\Inv base g' st w'/\Ext base g st w g' st w'
section
variable {P : Program} {T : Nat → Option TI} {base : Nat} {g : G} {st : St} {w : World} {ρ : Operand → Value} {o : Oper} {tm : Tr AV} {r : AV}
theorem fA.of (hI:Inv base g st w) {v:Value} (h:(execOp ρ o).run P w = .ok (.value v) w) (hr:bI w g r v):fA P base g st w ρ o r:=⟨v,w,g,h,hr,hI,.refl ..⟩
def b6 (w:World) (g:G) (tm:Tr AV) (ρ:Operand->Value) (x:Operand):Prop:=∀ z,aH x=some z->bI w g (aD tm z) (ρ x)
theorem nd {l:List Operand} {xs:List XO} (h:jF l=some xs) (hρ:∀ x∈l,b6 w g tm ρ x):RL w g (nR tm xs) (l.map ρ):=by
 induction l generalizing xs with
 |nil=>simp[jF] at h; subst h; exact .nil
 |cons x l ih =>
  unfold jF at h;split at h
  ·rename_i a bh h1 h2
   injection h with h; subst h
   exact .cons _ _ _ _ (hρ x (by simp) a h1) (ih h2 fun y hy=>hρ y (by simp[hy]))
  ·cases h
theorem Nc {x:Operand} {a:XO} (ho:o.op = .move x\/o.op = .assign x) (hI:Inv base g st w) (ha:aH x=some a) (hx:b6 w g tm ρ x):fA P base g st w ρ o (aD tm a):=by
 refine fA.of hI (v:=ρ x) ?_ (hx a ha)
 rcases ho with ho |ho<;>simp[execOp,ho]
theorem Wq {c x y:Operand} {a b d:XO} (ho:o.op = .pick c x y) (hI:Inv base g st w) (hc:aH c=some d) (hx:aH x=some a) (hy:aH y=some b) (oc:b6 w g tm ρ c) (ox:b6 w g tm ρ x) (oy:b6 w g tm ρ y)
  (hr:aw (aD tm d) (aD tm a) (aD tm b)=some r):fA P base g st w ρ o r:=by
 have h1:=oc d hc;unfold aw at hr;split at hr
 ·rename_i t ht
  rw[ht] at h1;have hv:=dI h1;injection hr with hr
  cases t with
  |true =>
   subst hr;exact fA.of hI (v:=ρ x) (by simp[execOp,ho,hv,asBool]) (ox a hx)
  |false =>
   subst hr;exact fA.of hI (v:=ρ y) (by simp[execOp,ho,hv,asBool]) (oy b hy)
 ·cases hr
theorem Ws {x:Operand} {a:XO} (ho:o.op = .nilCheck x) (hI:Inv base g st w) (ha:aH x=some a) (hx:b6 w g tm ρ x) (hr:ri (aD tm a)=some r):fA P base g st w ρ o r:=by
 have h1:=hx a ha;unfold ri at hr;split at hr
 ·rename_i k off he
  injection hr with hr; subst hr
  rw[he] at h1;obtain⟨b,hb,hv⟩:=gV h1;exact fA.of hI (v:=ρ x) (by simp[execOp,ho,hv]) h1
 ·rename_i c off he
  injection hr with hr; subst hr
  rw[he] at h1;obtain⟨vs,b,o',_,_,_,hv,_⟩:=oh h1;exact fA.of hI (v:=ρ x) (by simp[execOp,ho,hv]) h1
 ·cases hr
theorem p_not {x:Operand} {a:XO} {t:TypeId} (ho:o.op = .unOp .not t x) (hI:Inv base g st w) (ha:aH x=some a) (hx:b6 w g tm ρ x) (hr:aF (aD tm a)=some r):fA P base g st w ρ o r:=by
 have h1:=hx a ha;unfold aF at hr;split at hr
 ·rename_i b he
  injection hr with hr; subst hr
  rw[he] at h1;have hv:=dI h1;exact fA.of hI (v:=.bool (!b)) (by simp[execOp,ho,hv,Op.unary]) (.bool _)
 ·cases hr
theorem p_neg {x:Operand} {a:XO} {t:TypeId} (ho:o.op = .unOp .neg t x) (hI:Inv base g st w) (ha:aH x=some a) (hx:b6 w g tm ρ x) (hr:II (aD tm a)=some r):fA P base g st w ρ o r:=by
 have h1:=hx a ha;unfold II at hr;split at hr
 ·rename_i k n he
  injection hr with hr; subst hr
  rw[he] at h1;have hv:=bK h1;exact fA.of hI (v:=.int k (k.wrap (0-n))) (by simp[execOp,ho,hv,Op.unary,Op.intArith]) (.int _ _)
 ·cases hr
theorem p_mkf {f:FuncId} {first la:Array Operand} {l m:List XO} (ho:o.op = .makeFunc (.func f) first la) (hI:Inv base g st w) (hl:jF first.toList=some l) (hm:jF la.toList=some m)
  (h1:∀ x∈first.toList,b6 w g tm ρ x) (h2:∀ x∈la.toList,b6 w g tm ρ x):fA P base g st w ρ o (.fn f (nR tm l) (nR tm m)):=by
 have hr:=bI.fn f _ _ _ _ (nd hl h1) (nd hm h2);refine fA.of hI ?_ hr
 simp[execOp,ho,Instr.makeFunc];constructor<;>(apply Array.ext'; simp)
theorem R6 {t:TypeId} {x:Operand} {i:Nat} {f:Nat × Nat × Bool} {a:XO} (hT:bD P T) (ho:o.op = .fieldAddr t x i) (hI:Inv base g st w) (hf:gi T t i=some f) (ha:aH x=some a) (hx:b6 w g tm ρ x)
  (hr:gR f.1 (aD tm a)=some r):fA P base g st w ρ o r:=by
 have h1:=hx a ha;unfold gi at hf;split at hf<;>try cases hf
 rename_i ti vA;split at hf<;>try cases hf
 rename_i fs hfs;split at hf<;>try cases hf
 rename_i off ft mi;split at hf<;>try cases hf
 rename_i fi Kh;split at hf<;>try cases hf
 rename_i cJ;obtain⟨d,hd,hk⟩:=(hT t ti vA).kd;rw[hfs] at hk;cases d<;>simp only[ld] at hk
 rename_i k9;have FA:∃ fd:Field,k9[i]?=some fd/\fd.offset=off/\fd.type=ft:=by
  rw[<-hk,jB] at mi
  cases hq:k9.toList[i]? with
  |none=>rw[hq] at mi; cases mi
  |some fd =>
   rw[hq] at mi;simp at mi;exact⟨fd,by simpa using hq,mi⟩
 obtain⟨fd,Tk,rfl,rfl⟩:=FA;have Ol:fi.size≠0:=by
  rw[bo] at cJ
  simpa using cJ
 unfold gR at hr;split at hr
 ·rename_i k off he
  injection hr with hr; subst hr
  rw[he] at h1;obtain⟨b,hb,hv⟩:=gV h1;refine fA.of hI (v:=.pointer (some ⟨b,off+fd.offset,none⟩)) ?_ (.ptr _ _ b hb)
  simp[execOp,ho,hv,Instr.fieldAt,Sem.run_bind,run_underlying hd,Tk,Instr.sureAddr,fieldPlace,(hT _ fi Kh).dj,Ol,Addr.add_mid]
 ·rename_i cs off hm he
  injection hr with hr; subst hr
  rw[he] at h1;obtain⟨vs,b,o',h2,h3,h4,hv,jX,hho⟩:=oh h1;refine fA.of hI (v:=.pointer (some ⟨b,o'+(off+fd.offset),none⟩)) ?_ (.ro _ _ _ vs b o' h2 h3 h4 jX hho)
  simp[execOp,ho,hv,Instr.fieldAt,Sem.run_bind,run_underlying hd,Tk,Instr.sureAddr,fieldPlace,(hT _ fi Kh).dj,Ol,Addr.add_mid,qB]
 ·cases hr
end
end Go.Ev
theorem EU:type_of% @List.drop_eq_getElem_cons:=@List.drop_eq_getElem_cons
theorem M0:type_of% @List.drop_eq_nil_of_le:=@List.drop_eq_nil_of_le
theorem ey:type_of% @List.getElem?_eq_getElem:=@List.getElem?_eq_getElem
theorem fU:type_of% @List.getElem?_eq_some_iff:=@List.getElem?_eq_some_iff
theorem mF:type_of% @List.length_append:=@List.length_append
theorem mE:type_of% @List.length_cons:=@List.length_cons
theorem EV:type_of% @List.nil_append:=@List.nil_append
theorem MZ:type_of% @List.take_append:=@List.take_append
theorem JF:type_of% @List.take_of_length_le:=@List.take_of_length_le
theorem jS:type_of% @Nat.add_mul:=@Nat.add_mul
theorem uX:type_of% @Nat.succ_mul:=@Nat.succ_mul
theorem jT:type_of% @of_decide_eq_true:=@of_decide_eq_true
namespace Go.Ev
open Go.RowKit
section
variable {P : Program} {T : Nat → Option TI} {base : Nat} {g : G} {st : St} {w : World} {ρ : Operand → Value} {o : Oper} {tm : Tr AV} {r : AV}
theorem xC (hT:bD P T) {t i:Nat} {f:Nat × Nat × Bool} (hf:gi T t i=some f):∃ k9 fd fi,P.underlying t=some (.struct k9)/\k9[i]?=some fd/\fd.offset=f.1/\T fd.type=some fi/\fi.size=f.2.1/\gG fi=f.2.2/\fi.size≠0:=by
 unfold gi at hf;split at hf<;>try cases hf
 rename_i ti vA;split at hf<;>try cases hf
 rename_i fs hfs;split at hf<;>try cases hf
 rename_i off ft mi;split at hf<;>try cases hf
 rename_i fi Kh;split at hf<;>try cases hf
 rename_i cJ;obtain⟨d,hd,hk⟩:=(hT t ti vA).kd;rw[hfs] at hk;cases d<;>simp only[ld] at hk
 rename_i k9;rw[<-hk,jB] at mi
 cases hq:k9.toList[i]? with
 |none=>rw[hq] at mi; cases mi
 |some fd =>
  rw[hq] at mi;simp at mi;obtain⟨rfl,rfl⟩:=mi;exact⟨k9,fd,fi,hd,by simpa using hq,rfl,Kh,rfl,rfl,by rw[bo] at cJ; simpa using cJ⟩
theorem dM (hT:bD P T) {t:Nat} {i:TI} (h:cN T t=some i):∃ e,P.underlying t=some (.slice e)/\T e=some i/\i.size≠0:=by
 unfold cN at h;split at h<;>try cases h
 rename_i ti vA;split at h<;>try cases h
 rename_i e he;split at h<;>try cases h
 rename_i j hj;split at h<;>try cases h
 rename_i cJ;obtain⟨d,hd,hk⟩:=(hT t ti vA).kd;rw[he] at hk;cases d<;>simp only[ld] at hk
 subst hk;exact⟨_,hd,hj,by rw[bo] at cJ; simpa using cJ⟩
theorem tB (hT:bD P T) {t:Nat} (h:oE T t=true):P.underlying t=some .string:=by
 unfold oE at h;split at h<;>try cases h
 rename_i ti vA;split at h<;>try cases h
 rename_i he;obtain⟨d,hd,hk⟩:=(hT t ti vA).kd;rw[he] at hk;cases d<;>simp only[ld] at hk
 exact hd
theorem R5 {t:TypeId} {x:Operand} {i:Nat} {f:Nat × Nat × Bool} {a:XO} (hT:bD P T) (ho:o.op = .field t x i) (hI:Inv base g st w) (hf:gi T t i=some f) (ha:aH x=some a) (hx:b6 w g tm ρ x)
  (hr:zW f.1 f.2.1 f.2.2 (aD tm a)=some r):fA P base g st w ρ o r:=by
 have h1:=hx a ha;obtain⟨k9,fd,fi,hu,Tk,zd,Kh,hs,hg,hz⟩:=xC hT hf;unfold zW at hr;split at hr<;>try cases hr
 rename_i cs he;rw[he] at h1;obtain⟨vs,h2,h3,hv⟩:=rG h1;rw[<-zd,<-hs,<-hg] at hr;obtain⟨v,vz,AW⟩:=Na (hT _ fi Kh) h2 h3 hr w;refine fA.of hI (v:=v) ?_ AW
 simp[execOp,ho,hv,Instr.field,Sem.run_bind,run_underlying hu,Tk,asAgg,vz]
theorem b8 (e:AV) (es:List AV):flat (e::es)=e.cells++flat es:=by simp[flat]
theorem uP (es fs:List AV):flat (es++fs)=flat es++flat fs:=by simp[flat]
theorem bC (es:List AV) (n:Nat) (h:∀ e∈es,e.cells.length=n):(flat es).length=es.length*n:=by
 induction es with
 |nil=>simp[flat]
 |cons e es ih=>rw[b8,mF,h e (by simp),ih (fun x hx=>h x (by simp[hx])),mE,uX,Nat.add_comm]
theorem tP (es:List AV) (n k:Nat) (h:∀ e∈es,e.cells.length=n):flat (es.drop k)=(flat es).drop (k*n):=by
 induction k generalizing es with
 |zero=>simp
 |succ k ih =>
  cases es with
  |nil=>simp[flat]
  |cons e es =>
   rw[List.drop_succ_cons,ih es (fun x hx=>h x (by simp[hx])),b8]
   have hl:=h e (by simp)
   rw[List.drop_append,hl];have e1:(k+1)*n-n=k*n:=by rw[uX]; omega
   have e2:e.cells.drop ((k+1)*n)=[]:=M0 (by rw[hl,uX]; omega)
   rw[e1,e2,EV]
theorem zo (es:List AV) (n k:Nat) (h:∀ e∈es,e.cells.length=n):flat (es.take k)=(flat es).take (k*n):=by
 induction k generalizing es with
 |zero=>simp[flat]
 |succ k ih =>
  cases es with
  |nil=>simp[flat]
  |cons e es =>
   rw[List.take_succ_cons,b8,ih es (fun x hx=>h x (by simp[hx])),b8]
   have hl:=h e (by simp)
   rw[MZ,hl];have e1:(k+1)*n-n=k*n:=by rw[uX]; omega
   have e2:e.cells.take ((k+1)*n)=e.cells:=JF (by rw[hl,uX]; omega)
   rw[e1,e2]
theorem Dw {size b o k:Nat} {es:List AV} {vs:List Value} {e:AV} (hr:RL w g (flat es) vs) (yy:Row w g b o vs) (qN:One vs) (hs:∀ e∈es,e.cells.length=size) (he:es[k]?=some e) :
  ∃ us,RL w g e.cells us/\Row w g b (o+k*size) us/\One us:=by
 refine⟨(vs.drop (k*size)).take size,?_,(yy.drop _).take _,(qN.drop _).take _⟩
 have h1:=(hr.drop (k*size)).take size;rw[<-tP es size k hs] at h1;have hk:k<es.length:=(fU.1 he).1
 have h2:es.drop k=e::es.drop (k+1):=by
  rw[ey hk] at he
  injection he with he
  rw[<-he]; exact EU hk
 rw[h2,b8,MZ] at h1;have hl:=hs e (pT he);rw[hl,Nat.sub_self,List.take_zero,List.append_nil,JF (by omega)] at h1
 exact h1
theorem R4 {t:TypeId} {x ix:Operand} {i:TI} {a b:XO} (hT:bD P T) (ho:o.op = .indexAddr t x ix) (hI:Inv base g st w) (hi:cN T t=some i) (ha:aH x=some a) (hb:aH ix=some b)
  (hx:b6 w g tm ρ x) (dX:b6 w g tm ρ ix) (hr:gQ i.size (aD tm a) (ch (aD tm b))=some r):fA P base g st w ρ o r:=by
 have h1:=hx a ha;have h2:=dX b hb;obtain⟨e,hu,pZ,hz⟩:=dM hT hi;unfold gQ at hr;split at hr<;>try cases hr
 rename_i n hn;obtain⟨k,hk⟩:=kz hn;rw[hk] at h2;have vz:=bK h2;split at hr
 ·rename_i s es aN he
  split at hr<;>try cases hr
  rename_i hs;rw[bo] at hs;have hs:=jT hs;subst hs;rw[jC] at hr;split at hr<;>try cases hr
  rename_i v hv;rw[he] at h1;obtain⟨vs,b',o',cap,h3,h4,h5,h6,h7,h8,qJ,jX⟩:=gU h1;obtain⟨us,h9,dc,ik⟩:=Dw h3 h4 h5 h6 hv;have aO:n<es.length:=(fU.1 hv).1
  have hal2:Al g b' (o'+n*i.size) v.cells.length:=by
   rw[h6 v (pT hv)];rcases jX with⟨jX,_⟩ |jX
   ·subst jX; exact absurd aO (Nat.not_lt_zero _)
   ·exact jX.add n
  have hho2:o9 g b' (o'+n*i.size) (kE aN ((es.length-n)*i.size)):=by
   intro id back hh;cases aN with
   | «at» N8 =>
    injection hh with hh
    injection hh with e1 e2
    subst e1 e2;refine⟨o'+cap*i.size,?_⟩
    have h8':g.aN N8=some (b',o'+es.length*i.size,o'+cap*i.size):=h8;rw[h8'];have:o'+es.length*i.size=o'+n*i.size+(es.length-n)*i.size:=by rw[qB,<-jS]; congr 2; omega
    rw[this]
   |_=>cases hh
  refine fA.of hI (v:=.pointer (some ⟨b',o'+n*i.size+0,none⟩)) ?_ (.ro _ 0 _ us b' _ h9 dc ik hal2 hho2)
  have h0:(0:Int)<=(n:Int)/\(n:Int)<(es.length:Int):=by omega
  simp[execOp,ho,qJ,vz,Instr.indexAt,asIntOf,Sem.run_bind,run_underlying hu,aO,(hT _ i pZ).dj,Addr.add_mid]
 ·rename_i key off len he
  split at hr<;>try cases hr
  rename_i aO;have aO:n<len:=Nat.lt_of_succ_le (gW aO);rw[he] at h1;obtain⟨b',cap,bQ,hc,qJ⟩:=qw h1;refine fA.of hI (v:=.pointer (some ⟨b',off+n*i.size,none⟩)) ?_ (.ptr _ _ b' bQ)
  simp[execOp,ho,qJ,vz,Instr.indexAt,asIntOf,Sem.run_bind,run_underlying hu,aO,(hT _ i pZ).dj,Addr.add_mid]
 ·cases hr
theorem p_ixs {t:TypeId} {x ix:Operand} {a b:XO} (hT:bD P T) (ho:o.op = .index t x ix) (hI:Inv base g st w) (hi:oE T t=true) (ha:aH x=some a) (hb:aH ix=some b)
  (hx:b6 w g tm ρ x) (dX:b6 w g tm ρ ix) (hr:BL (aD tm a) (ch (aD tm b))=some r):fA P base g st w ρ o r:=by
 have h1:=hx a ha;have h2:=dX b hb;have hu:=tB hT hi;unfold BL at hr;split at hr<;>try cases hr
 rename_i n hn;obtain⟨k,hk⟩:=kz hn;rw[hk] at h2;have vz:=bK h2;split at hr<;>try cases hr
 rename_i s he;rw[jC] at hr;split at hr<;>try cases hr
 rename_i c hc;rw[he] at h1;have qJ:=cF h1;have aO:n<s.length:=(fU.1 hc).1
 refine fA.of hI (v:=.int .u8 (c.toNat:Int)) ?_ (.int _ _)
 have hg:(⟨s.toArray⟩:ByteArray)[n]?=some c:=by
  have:n<(⟨s.toArray⟩:ByteArray).size:=aO;rw[getElem?_pos _ n this]
  have h3:=(fU.1 hc).2
  exact congrArg some h3
 simp[execOp,ho,qJ,vz,Instr.index,asIntOf,Sem.run_bind,run_underlying hu,hg]
theorem p_ext {x:Operand} {i:Nat} {a:XO} (ho:o.op = .extract x i) (hI:Inv base g st w) (ha:aH x=some a) (hx:b6 w g tm ρ x) (hr:sR (aD tm a) i=some r):fA P base g st w ρ o r:=by
 have h1:=hx a ha;unfold sR at hr;split at hr<;>try cases hr
 rename_i vs he;rw[he] at h1;obtain⟨us,h2,hv⟩:=Ar h1;rw[jC] at hr;obtain⟨u,hu,AW⟩:=h2.get hr;refine fA.of hI (v:=u) ?_ AW
 simp[execOp,ho,hv,Instr.extract,hu]
theorem Wu {c:Call} {x:Operand} {t:TypeId} {a:XO} (hT:bD P T) (ho:o.op = .call c) (hc:c.callee = .builtin .len) (hA:c.args.toList=[x]) (hB:c.argTypes.toList=[t]) (hI:Inv base g st w) (hi:oE T t=true) (ha:aH x=some a)
  (hx:b6 w g tm ρ x) (hr:ur (aD tm a)=some r):fA P base g st w ρ o r:=by
 have h1:=hx a ha;have hu:=tB hT hi;unfold ur at hr;split at hr<;>try cases hr
 rename_i s he;rw[he] at h1;have qJ:=cF h1;have BI:c.args = #[x]:=by cases jW:c.args; rw[jW] at hA; simp at hA; rw[hA]
 have Tw:c.argTypes = #[t]:=by cases jW:c.argTypes; rw[jW] at hB; simp at hB; rw[hB]
 refine fA.of hI (v:=.int .i64 (s.length:Int)) ?_ (.int _ _)
 have:(⟨s.toArray⟩:ByteArray).size=s.length:=rfl;simp[execOp,ho,resolve,hc,BI,Tw,invoke,builtin,qJ,Builtin.len_,Sem.run_bind,run_underlying hu,goInt,this]
theorem Wv {c:Call} {x:Operand} {t:TypeId} {i:TI} {a:XO} (hT:bD P T) (ho:o.op = .call c) (hc:c.callee = .builtin .len) (hA:c.args.toList=[x]) (hB:c.argTypes.toList=[t]) (hI:Inv base g st w) (hi:cN T t=some i) (ha:aH x=some a)
  (hx:b6 w g tm ρ x) (hr:jI (aD tm a)=some r):fA P base g st w ρ o r:=by
 have h1:=hx a ha;obtain⟨e,hu,pZ,hz⟩:=dM hT hi;have BI:c.args = #[x]:=by cases jW:c.args; rw[jW] at hA; simp at hA; rw[hA]
 have Tw:c.argTypes = #[t]:=by cases jW:c.argTypes; rw[jW] at hB; simp at hB; rw[hB]
 unfold jI at hr;split at hr<;>try cases hr
 ·rename_i s es aN he
  rw[he] at h1;obtain⟨vs,b',o',cap,h3,h4,h5,h6,h7,h8,qJ,_⟩:=gU h1;refine fA.of hI (v:=.int .i64 (es.length:Int)) ?_ (.int _ _)
  simp[execOp,ho,resolve,hc,BI,Tw,invoke,builtin,qJ,Builtin.len_,Sem.run_bind,run_underlying hu,goInt]
 ·rename_i he
  rw[he] at h1;have qJ:=dn h1;refine fA.of hI (v:=.int .i64 0) ?_ (.int _ _)
  simp[execOp,ho,resolve,hc,BI,Tw,invoke,builtin,qJ,Builtin.len_,Sem.run_bind,run_underlying hu,goInt]
 ·rename_i k off n he
  rw[he] at h1;obtain⟨b',cap,bQ,Ki,qJ⟩:=qw h1;refine fA.of hI (v:=.int .i64 (n:Int)) ?_ (.int _ _)
  simp[execOp,ho,resolve,hc,BI,Tw,invoke,builtin,qJ,Builtin.len_,Sem.run_bind,run_underlying hu,goInt]
theorem p_max {c:Call} {x y:Operand} {a b:XO} (ho:o.op = .call c) (hc:c.callee = .builtin .max) (hA:c.args.toList=[x,y]) (hI:Inv base g st w) (ha:aH x=some a) (hb:aH y=some b)
  (hx:b6 w g tm ρ x) (hy:b6 w g tm ρ y) (hr:Rj (aD tm a) (aD tm b)=some r):fA P base g st w ρ o r:=by
 have h1:=hx a ha;have h2:=hy b hb;have BI:c.args = #[x,y]:=by cases jW:c.args; rw[jW] at hA; simp at hA; rw[hA]
 unfold Rj at hr;split at hr<;>try cases hr
 rename_i k m j n he eO;rw[he] at h1; rw[eO] at h2;have qJ:=bK h1;have vz:=bK h2;refine fA.of hI (v:=.int k (if n>m then n else m)) ?_ (.int _ _)
 simp[execOp,ho,resolve,hc,BI,invoke,builtin,qJ,vz,Builtin.max_,Builtin.max2]
theorem p_min {c:Call} {x y:Operand} {a b:XO} (ho:o.op = .call c) (hc:c.callee = .builtin .min) (hA:c.args.toList=[x,y]) (hI:Inv base g st w) (ha:aH x=some a) (hb:aH y=some b)
  (hx:b6 w g tm ρ x) (hy:b6 w g tm ρ y) (hr:Ri (aD tm a) (aD tm b)=some r):fA P base g st w ρ o r:=by
 have h1:=hx a ha;have h2:=hy b hb;have BI:c.args = #[x,y]:=by cases jW:c.args; rw[jW] at hA; simp at hA; rw[hA]
 unfold Ri at hr;split at hr<;>try cases hr
 rename_i k m j n he eO;rw[he] at h1; rw[eO] at h2;have qJ:=bK h1;have vz:=bK h2;refine fA.of hI (v:=.int k (if n<m then n else m)) ?_ (.int _ _)
 simp[execOp,ho,resolve,hc,BI,invoke,builtin,qJ,vz,Builtin.min_,Builtin.min2]
theorem Wx {s d:TypeId} {x:Operand} {a:XO} {k:IntKind} {di si:TI} {q:IntKind} (hT:bD P T) (ho:o.op = .convert s d x) (hI:Inv base g st w) (hd:T d=some di) (hk:di.kd = .int k) (hs:T s=some si) (hq:si.kd = .int q) (ha:aH x=some a)
  (hx:b6 w g tm ρ x) (hr:vM k (aD tm a)=some r):fA P base g st w ρ o r:=by
 have h1:=hx a ha;obtain⟨dd,Ln,BD⟩:=(hT d di hd).kd;obtain⟨ss,US,tH⟩:=(hT s si hs).kd;rw[hk] at BD; rw[hq] at tH;cases dd<;>simp only[ld] at BD
 cases ss<;>simp only[ld] at tH
 subst BD tH;unfold vM at hr;split at hr<;>try cases hr
 rename_i j n he;rw[he] at h1;have qJ:=bK h1;refine fA.of hI (v:=.int k (k.wrap n)) ?_ (.int _ _)
 simp[execOp,ho,convert,qJ,Sem.run_bind,run_underlying US,run_underlying Ln,Conv.intToInt]
theorem Ww {s d:TypeId} {x:Operand} {a:XO} {di si:TI} (hT:bD P T) (ho:o.op = .convert s d x) (hI:Inv base g st w) (hd:T d=some di) (hk:di.kd = .str) (hs:T s=some si) (hq:si.kd = .str) (ha:aH x=some a)
  (hx:b6 w g tm ρ x) (hr:Gt (aD tm a)=some r):fA P base g st w ρ o r:=by
 have h1:=hx a ha;obtain⟨dd,Ln,BD⟩:=(hT d di hd).kd;obtain⟨ss,US,tH⟩:=(hT s si hs).kd;rw[hk] at BD; rw[hq] at tH;cases dd<;>simp only[ld] at BD
 cases ss<;>simp only[ld] at tH
 unfold Gt at hr;split at hr<;>try cases hr
 rename_i j he;rw[he] at h1;have qJ:=cF h1;refine fA.of hI (v:=.string ⟨j.toArray⟩) ?_ (.str _)
 simp[execOp,ho,convert,qJ,Sem.run_bind,run_underlying US,run_underlying Ln]
end
end Go.Ev
theorem kQ:type_of% @Bool.and_eq_true:=@Bool.and_eq_true
namespace Go.Ev
open Go.RowKit
section
variable {P : Program} {T : Nat → Option TI} {base : Nat} {g : G} {st : St} {w : World} {ρ : Operand → Value} {o : Oper} {tm : Tr AV} {r : AV}
theorem wD {s:Sem Value} {a:AV} (h:y2 s=some a) (w:World) (g:G):∃ v,s = .pure v/\bI w g a v:=by
 unfold y2 at h;split at h
 ·injection h with h; subst h; exact⟨_,rfl,.bool _⟩
 ·injection h with h; subst h; exact⟨_,rfl,.int _ _⟩
 ·cases h
theorem Qe {op:BinOp} {k:IntKind} {a b:Int} (h:DO op k a b=some r) (t:TypeId) (w:World) (g:G):∃ v,(binOp op t (.int k a) (.int k b)).run P w = .ok v w/\bI w g r v:=by
 cases op<;>simp only[DO] at h
 case eql=>injection h with h; subst h; rw[iV]; exact⟨.bool (a==b),by simp[binOp,Op.intCmp],by have:(a==b)=decide (a=b):=rfl; rw[this]; exact .bool _⟩
 case neq=>injection h with h; subst h; rw[iV]; exact⟨.bool (a != b),by simp[binOp,Op.intCmp],by have:(a != b) = !decide (a=b):=rfl; rw[this]; exact .bool _⟩
 case shl=>cases h
 case shr=>cases h
 case quo =>
  split at h
  ·cases h
  ·rename_i hb
   rw[iV] at hb;have zg:b≠0:=by simpa using hb
   obtain⟨v,h1,h2⟩:=wD h w g;refine⟨v,?_,h2⟩
   have:binOp .quo t (.int k a) (.int k b)=Op.intDiv .quo k a b:=by simp[binOp]
   rw[this,h1]; rfl
 case rem =>
  split at h
  ·cases h
  ·rename_i hb
   obtain⟨v,h1,h2⟩:=wD h w g;refine⟨v,?_,h2⟩
   have:binOp .rem t (.int k a) (.int k b)=Op.intDiv .rem k a b:=by simp[binOp]
   rw[this,h1]; rfl
 all_goals
  obtain⟨v,h1,h2⟩:=wD h w g;refine⟨v,?_,h2⟩
  first
   |(have:binOp .add t (.int k a) (.int k b)=Op.intArith .add k a b:=by simp[binOp]
     rw[this,h1]; rfl)
   |(have:binOp .sub t (.int k a) (.int k b)=Op.intArith .sub k a b:=by simp[binOp]
     rw[this,h1]; rfl)
   |(have:binOp .mul t (.int k a) (.int k b)=Op.intArith .mul k a b:=by simp[binOp]
     rw[this,h1]; rfl)
   |(have:binOp .and t (.int k a) (.int k b)=Op.intBits .and k a b:=by simp[binOp]
     rw[this,h1]; rfl)
   |(have:binOp .or t (.int k a) (.int k b)=Op.intBits .or k a b:=by simp[binOp]
     rw[this,h1]; rfl)
   |(have:binOp .xor t (.int k a) (.int k b)=Op.intBits .xor k a b:=by simp[binOp]
     rw[this,h1]; rfl)
   |(have:binOp .andNot t (.int k a) (.int k b)=Op.intBits .andNot k a b:=by simp[binOp]
     rw[this,h1]; rfl)
   |(have:binOp .lss t (.int k a) (.int k b)=Op.intCmp .lss a b:=by simp[binOp]
     rw[this,h1]; rfl)
   |(have:binOp .leq t (.int k a) (.int k b)=Op.intCmp .leq a b:=by simp[binOp]
     rw[this,h1]; rfl)
   |(have:binOp .gtr t (.int k a) (.int k b)=Op.intCmp .gtr a b:=by simp[binOp]
     rw[this,h1]; rfl)
   |(have:binOp .geq t (.int k a) (.int k b)=Op.intCmp .geq a b:=by simp[binOp]
     rw[this,h1]; rfl)
theorem uz (a b:List UInt8):((⟨a.toArray⟩:ByteArray).toList==(⟨b.toArray⟩:ByteArray).toList)=decide (a=b):=by
 rw[ByteArray.toList_mk,ByteArray.toList_mk]
 by_cases h:a=b<;>simp[h]
theorem bytes_beq (a b:List UInt8):(a==b)=decide (a=b):=by by_cases h:a=b<;>simp[h]
theorem Qb {op:BinOp} {a b:List UInt8} (h:Gg op a b=some r) (t:TypeId) (w:World) (g:G):∃ v,(binOp op t (.string ⟨a.toArray⟩) (.string ⟨b.toArray⟩)).run P w = .ok v w/\bI w g r v:=by
 have cW:binOp op t (.string ⟨a.toArray⟩) (.string ⟨b.toArray⟩)=Op.stringOp op ⟨a.toArray⟩ ⟨b.toArray⟩:=by cases op<;>simp[binOp]
 rw[cW];cases op<;>simp only[Gg] at h
 case add =>
  split at h
  ·rename_i hle
   injection h with h; subst h
   have hle:=gW hle;refine⟨.string ⟨(a++b).toArray⟩,?_,.str _⟩
   have h1:(⟨a.toArray⟩:ByteArray).size=a.length:=rfl;have h2:(⟨b.toArray⟩:ByteArray).size=b.length:=rfl;have h5:(a.length:Int)+(b.length:Int)<=9223372036854775807:=by omega
   have h4:(⟨a.toArray⟩:ByteArray)++⟨b.toArray⟩=⟨(a++b).toArray⟩:=by
    apply ByteArray.ext
    simp[ByteArray.data_append]
   simp[Op.stringOp,h1,h2,h4,h5]
  ·cases h
 case eql=>injection h with h; subst h; exact⟨.bool (decide (a=b)),by simp[Op.stringOp,bytes_beq],by rw[lL]; exact .bool _⟩
 case neq=>injection h with h; subst h; exact⟨.bool (!decide (a=b)),by simp[Op.stringOp,bytes_beq],by rw[lL]; exact .bool _⟩
 case lss=>injection h with h; subst h; exact⟨.bool (Op.bytesLess a b),by simp[Op.stringOp],.bool _⟩
 case leq=>injection h with h; subst h; exact⟨.bool (Op.bytesLess a b ||decide (a=b)),by simp[Op.stringOp,bytes_beq],by rw[lL]; exact .bool _⟩
 case gtr=>injection h with h; subst h; exact⟨.bool (!(Op.bytesLess a b ||decide (a=b))),by simp[Op.stringOp,bytes_beq],by rw[lL]; exact .bool _⟩
 case geq=>injection h with h; subst h; exact⟨.bool (!(Op.bytesLess a b)),by simp[Op.stringOp],.bool _⟩
 all_goals cases h
def YR (P:Program) (t:TypeId):EK->Prop
 | .bool=>P.underlying t=some .bool
 | .int=>∃ k,P.underlying t=some (.int k)
 | .str=>P.underlying t=some .string
 | .ptr=>∃ e,P.underlying t=some (.pointer e)
 | .slice=>∃ e,P.underlying t=some (.slice e)
 | .map=>∃ k e,P.underlying t=some (.map k e)
 | .func=>∃ a b c,P.underlying t=some (.func a b c)
 | .struct z=>P.eqGuardType P.depth t=false /\
  ∀ (w w':World) (g:G) (bh bs:List AV) (us vs:List Value) (r:Bool),RL w g bh us->RL w g bs vs->jg z bh=true->jg z bs=true->pI bh bs=some r->(Op.equal t (.agg us.toArray) (.agg vs.toArray)).run P w' = .ok r w'
 | .none=>True
theorem HW (hT:bD P T) (t:TypeId):YR P t (yE T t):=by
 unfold yE;split
 ·rename_i i hi
  have h:=hT t i hi;obtain⟨d,hd,hk⟩:=h.kd;split<;>rename_i BD<;>(try rw[BD] at hk)<;>(try (cases d<;>simp only[ld] at hk))<;>(try exact⟨_,hd⟩)<;>(try exact hd)<;>(try exact⟨_,_,hd⟩)<;>(try exact⟨_,_,_,hd⟩)
  split
  ·rename_i he; exact h.eq he
  ·trivial
 ·trivial
theorem eqd (t:TypeId) (u v:Value):Op.equal t u v=Op.equalIn (9999+1) t u v:=rfl
theorem X5 (d:Nat) {t e:TypeId} (h:P.underlying t=some (.pointer e)) (w:World):(Op.equalIn (d+1) t (.pointer none) (.pointer none)).run P w = .ok true w:=by simp[Op.equalIn,Sem.run_bind,run_underlying h]
theorem Pw (d:Nat) {t e:TypeId} (h:P.underlying t=some (.pointer e)) (a:Addr) (w:World):(Op.equalIn (d+1) t (.pointer none) (.pointer (some a))).run P w = .ok false w:=by simp[Op.equalIn,Sem.run_bind,run_underlying h]
theorem Px (d:Nat) {t e:TypeId} (h:P.underlying t=some (.pointer e)) (a:Addr) (w:World):(Op.equalIn (d+1) t (.pointer (some a)) (.pointer none)).run P w = .ok false w:=by simp[Op.equalIn,Sem.run_bind,run_underlying h]
theorem X4 (d:Nat) {t e:TypeId} (h:P.underlying t=some (.slice e)) (w:World):(Op.equalIn (d+1) t (.slice none 0 0) (.slice none 0 0)).run P w = .ok true w:=by simp[Op.equalIn,Sem.run_bind,run_underlying h]
theorem Pt (d:Nat) {t e:TypeId} (h:P.underlying t=some (.slice e)) (a:Addr) (n c:Nat) (w:World):(Op.equalIn (d+1) t (.slice none 0 0) (.slice (some a) n c)).run P w = .ok false w:=by simp[Op.equalIn,Sem.run_bind,run_underlying h]
theorem Pu (d:Nat) {t e:TypeId} (h:P.underlying t=some (.slice e)) (a:Addr) (n c:Nat) (w:World):(Op.equalIn (d+1) t (.slice (some a) n c) (.slice none 0 0)).run P w = .ok false w:=by simp[Op.equalIn,Sem.run_bind,run_underlying h]
theorem X6 (d:Nat) {t k e:TypeId} (h:P.underlying t=some (.map k e)) (w:World):(Op.equalIn (d+1) t (.map none) (.map none)).run P w = .ok true w:=by simp[Op.equalIn,Sem.run_bind,run_underlying h]
theorem X7 (d:Nat) {t k e:TypeId} (h:P.underlying t=some (.map k e)) (a:Nat) (w:World):(Op.equalIn (d+1) t (.map none) (.map (some a))).run P w = .ok false w:=by simp[Op.equalIn,Sem.run_bind,run_underlying h]
theorem X8 (d:Nat) {t k e:TypeId} (h:P.underlying t=some (.map k e)) (a:Nat) (w:World):(Op.equalIn (d+1) t (.map (some a)) (.map none)).run P w = .ok false w:=by simp[Op.equalIn,Sem.run_bind,run_underlying h]
theorem X9 (d:Nat) {t:TypeId} {a b:Array TypeId} {c:Bool} (h:P.underlying t=some (.func a b c)) (w:World):(Op.equalIn (d+1) t .nilFunc .nilFunc).run P w = .ok true w:=by simp[Op.equalIn,Sem.run_bind,run_underlying h]
theorem Ya (d:Nat) {t:TypeId} {a b:Array TypeId} {c:Bool} (h:P.underlying t=some (.func a b c)) (f:Fn) (x y:Array Value) (w:World):(Op.equalIn (d+1) t .nilFunc (.func f x y)).run P w = .ok false w:=by simp[Op.equalIn,Sem.run_bind,run_underlying h]
theorem Yb (d:Nat) {t:TypeId} {a b:Array TypeId} {c:Bool} (h:P.underlying t=some (.func a b c)) (f:Fn) (x y:Array Value) (w:World):(Op.equalIn (d+1) t (.func f x y) .nilFunc).run P w = .ok false w:=by simp[Op.equalIn,Sem.run_bind,run_underlying h]
theorem TL {k:EK} {t:TypeId} (hk:YR P t k) {x y:AV} {b:Bool} (h:D7 k x y=some b) {u v:Value} (hu:bI w g x u) (hv:bI w g y v) (w':World):(Op.equal t u v).run P w' = .ok b w':=by
 unfold D7 at h;split at h
 all_goals first |cases h |skip
 all_goals try (injection h with h; subst h)
 ·rw[dI hu,dI hv]; exact run_equal_bool w' t _ _ hk
 ·split at h
  ·rename_i oI
   have oI:=jT oI;subst oI;injection h with h; subst h
   rw[bK hu,bK hv];obtain⟨q,hq⟩:=hk;rw[iV];exact run_equalIn_int w' 9999 t _ q _ _ hq
  ·cases h
 ·rw[cF hu,cF hv]
  rw[lL,<-uz];exact run_equalIn_string (P:=P) w' 9999 t _ _ hk
 ·obtain⟨e,he⟩:=hk
  rw[l9 hu,l9 hv];exact X5 9999 he w'
 ·obtain⟨e,he⟩:=hk
  obtain⟨c,_,hc⟩:=gV hv;rw[l9 hu,hc];exact Pw 9999 he _ w'
 ·obtain⟨e,he⟩:=hk
  obtain⟨c,_,hc⟩:=gV hu;rw[l9 hv,hc];exact Px 9999 he _ w'
 ·obtain⟨e,he⟩:=hk
  obtain⟨_,_,_,_,_,_,hc,_⟩:=oh hv;rw[l9 hu,hc];exact Pw 9999 he _ w'
 ·obtain⟨e,he⟩:=hk
  obtain⟨_,_,_,_,_,_,hc,_⟩:=oh hu;rw[l9 hv,hc];exact Px 9999 he _ w'
 ·obtain⟨e,he⟩:=hk
  rw[dn hu,dn hv];exact X4 9999 he w'
 ·obtain⟨e,he⟩:=hk
  obtain⟨_,_,_,_,_,_,_,_,_,_,hc,_⟩:=gU hv;rw[dn hu,hc];exact Pt 9999 he _ _ _ w'
 ·obtain⟨e,he⟩:=hk
  obtain⟨_,_,_,_,_,_,_,_,_,_,hc,_⟩:=gU hu;rw[dn hv,hc];exact Pu 9999 he _ _ _ w'
 ·obtain⟨e,he⟩:=hk
  obtain⟨_,_,_,_,hc⟩:=qw hv;rw[dn hu,hc];exact Pt 9999 he _ _ _ w'
 ·obtain⟨e,he⟩:=hk
  obtain⟨_,_,_,_,hc⟩:=qw hu;rw[dn hv,hc];exact Pu 9999 he _ _ _ w'
 ·obtain⟨e,f,he⟩:=hk
  rw[rE hu,rE hv];exact X6 9999 he w'
 ·obtain⟨e,f,he⟩:=hk
  obtain⟨_,_,hc⟩:=As hu;rw[hc,rE hv];exact X8 9999 he _ w'
 ·obtain⟨e,f,he⟩:=hk
  obtain⟨_,_,hc⟩:=As hv;rw[hc,rE hu];exact X7 9999 he _ w'
 ·obtain⟨e,f,d,he⟩:=hk
  rw[rF hu,rF hv];exact X9 9999 he w'
 ·obtain⟨e,f,d,he⟩:=hk
  obtain⟨_,_,_,_,hc⟩:=At hu;rw[hc,rF hv];exact Yb 9999 he _ _ _ w'
 ·obtain⟨e,f,d,he⟩:=hk
  obtain⟨_,_,_,_,hc⟩:=At hv;rw[hc,rF hu];exact Ya 9999 he _ _ _ w'
 ·obtain⟨us,h1,_,h2⟩:=rG hu
  obtain⟨vs,h3,_,h4⟩:=rG hv;rw[h2,h4];split at h<;>try cases h
  rename_i hc;simp only[kQ] at hc;exact hk.2 w w' g _ _ us vs b h1 h3 hc.1 hc.2 h
theorem zj {k:EK} {t:TypeId} (hk:YR P t k) {x y:AV} {b:Bool} (h:D7 k x y=some b) {u v:Value} (hu:bI w g x u) (hv:bI w g y v) (op:BinOp) (p q:Operand) (w':World):(eqGuard op t p q u v).run P w' = .ok () w':=by
 by_cases hs:∃ a c,x = .agg a/\y = .agg c
 ·obtain⟨a,c,rfl,rfl⟩:=hs
  cases k<;>simp only[D7] at h<;>first |cases h |skip
  obtain⟨us,h1,_,h2⟩:=rG hu;obtain⟨vs,h3,_,h4⟩:=rG hv;rw[h2,h4];exact run_eqGuard_agg w' op t p q _ _ hk.1
 ·have Tf:(∀ us vs,¬ (u = .agg us/\v = .agg vs))/\¬ (u = .nilIface/\v = .nilIface):=by
   constructor
   ·rintro us vs ⟨rfl,rfl⟩
    cases hu<;>cases hv<;>first |exact hs ⟨_,_,rfl,rfl⟩ |(cases k<;>cases h)
   ·rintro ⟨rfl,rfl⟩
    cases hu; cases hv
    cases k<;>cases h
  by_cases cW:op = .eql\/op = .neq
  ·rcases cW with rfl |rfl
   ·unfold eqGuard
    rw[ba (by simp)]
    split
    ·exact absurd ⟨rfl,rfl⟩ Tf.2
    ·exact absurd ⟨rfl,rfl⟩ (Tf.1 _ _)
    ·rfl
   ·unfold eqGuard
    rw[ba (by simp)]
    split
    ·exact absurd ⟨rfl,rfl⟩ Tf.2
    ·exact absurd ⟨rfl,rfl⟩ (Tf.1 _ _)
    ·rfl
  ·cases op<;>first |exact absurd (.inl rfl) cW |exact absurd (.inr rfl) cW |simp[eqGuard]
theorem p_bin {op:BinOp} {t t':TypeId} {x y:Operand} {a b:XO} (hT:bD P T) (ho:o.op = .binOp op t x y t') (hI:Inv base g st w) (ha:aH x=some a) (hb:aH y=some b)
  (hx:b6 w g tm ρ x) (hy:b6 w g tm ρ y) (hr:bE op (yE T t) (aD tm a) (aD tm b)=some r):fA P base g st w ρ o r:=by
 have h1:=hx a ha;have h2:=hy b hb;have hk:=HW hT t;unfold bE at hr;split at hr
 ·rename_i k m j n he eO
  split at hr
  ·rename_i hkj
   have hkj:=jT hkj;subst hkj;rw[he] at h1; rw[eO] at h2;obtain⟨v,hv,AW⟩:=Qe (P:=P) hr t w g;refine fA.of hI (v:=v) ?_ AW
   have hg:(eqGuard op t x y (.int k m) (.int k n)).run P w = .ok () w:=by cases op<;>simp[eqGuard]
   simp[execOp,ho,bK h1,bK h2,Sem.run_bind,hg,hv]
  ·cases hr
 ·rename_i s u he eO
  rw[he] at h1; rw[eO] at h2;obtain⟨v,hv,AW⟩:=Qb (P:=P) hr t w g;refine fA.of hI (v:=v) ?_ AW
  have hg:(eqGuard op t x y (.string ⟨s.toArray⟩) (.string ⟨u.toArray⟩)).run P w = .ok () w:=by cases op<;>simp[eqGuard]
  simp[execOp,ho,cF h1,cF h2,Sem.run_bind,hg,hv]
 ·rename_i hni hns
  have key:∀ q,D7 (yE T t) (aD tm a) (aD tm b)=some q->(op = .eql\/op = .neq)->(binOp op t (ρ x) (ρ y)).run P w = .ok (.bool (if op = .eql then q else !q)) w:=by
   intro q hq cW;have he:=TL hk hq h1 h2 w;have hint:∀ k m j n,¬ (ρ x = .int k m/\ρ y = .int j n):=by
    rintro k m j n ⟨e1,e2⟩
    rw[e1] at h1; rw[e2] at h2
    generalize aD tm a=A at *
    generalize aD tm b=B at *
    cases h1<;>cases h2
    ·exact hni _ _ _ _ rfl rfl
    all_goals (generalize yE T t=K at hq; cases K<;>cases hq)
   have S7:∀ m n,¬ (ρ x = .string m/\ρ y = .string n):=by
    rintro m n ⟨e1,e2⟩
    rw[e1] at h1; rw[e2] at h2
    generalize aD tm a=A at *
    generalize aD tm b=B at *
    cases h1<;>cases h2
    ·exact hns _ _ rfl rfl
    all_goals (generalize yE T t=K at hq; cases K<;>cases hq)
   have FA:∀ k m j n,¬ (ρ x = .float k m/\ρ y = .float j n):=by
    rintro k m j n ⟨e1,e2⟩
    rw[e1] at h1; rw[e2] at h2
    generalize aD tm a=A at *
    generalize aD tm b=B at *
    cases h1<;>cases h2
    all_goals (generalize yE T t=K at hq; cases K<;>cases hq)
   have hcx:∀ k m m' j n n',¬ (ρ x = .complex k m m'/\ρ y = .complex j n n'):=by
    rintro k m m' j n n' ⟨e1,e2⟩
    rw[e1] at h1; rw[e2] at h2
    generalize aD tm a=A at *
    generalize aD tm b=B at *
    cases h1<;>cases h2
    all_goals (generalize yE T t=K at hq; cases K<;>cases hq)
   rcases cW with rfl |rfl
   ·unfold binOp
    split<;>first |exact absurd ⟨‹_›,‹_›⟩ (hint _ _ _ _) |exact absurd ⟨‹_›,‹_›⟩ (S7 _ _) |exact absurd ⟨‹_›,‹_›⟩ (FA _ _ _ _) |exact absurd ⟨‹_›,‹_›⟩ (hcx _ _ _ _ _ _) |skip
    all_goals first |(simp[Sem.run_bind,he]; done) |(cases ‹BinOp.eql=_›; done) |(exfalso; simp_all; done)
   ·unfold binOp
    split<;>first |exact absurd ⟨‹_›,‹_›⟩ (hint _ _ _ _) |exact absurd ⟨‹_›,‹_›⟩ (S7 _ _) |exact absurd ⟨‹_›,‹_›⟩ (FA _ _ _ _) |exact absurd ⟨‹_›,‹_›⟩ (hcx _ _ _ _ _ _) |skip
    all_goals first |(simp[Sem.run_bind,he]; done) |(cases ‹BinOp.neq=_›; done) |(exfalso; simp_all; done)
  split at hr
  ·split at hr
   ·rename_i q hq
    injection hr with hr; subst hr
    refine fA.of hI (v:=.bool q) ?_ (.bool _)
    simp[execOp,ho,Sem.run_bind,zj hk hq h1 h2,key q hq (.inl rfl)]
   ·cases hr
  ·split at hr
   ·rename_i q hq
    injection hr with hr; subst hr
    refine fA.of hI (v:=.bool (!q)) ?_ (.bool _)
    simp[execOp,ho,Sem.run_bind,zj hk hq h1 h2,key q hq (.inr rfl)]
   ·cases hr
  ·cases hr
end
end Go.Ev
