/- The evaluator's memory and the program's: what holds between them; plain laws of the trees; no condition. -/
import GoSem.Step
import Derived.Deep.MidRow
import Derived.Deep.AppendSrc
import Derived.Below
namespace Go.Ev

/-- A map from numbers, as a tree. -/
inductive Tr (α : Type) where
  | nil
  | node (v : Option α) (l r : Tr α)
noncomputable section
def Tr.get {α : Type} (t : Tr α) : Nat → Option α :=
  Tr.rec (motive := fun _ => Nat → Option α) (fun _ => none) (fun v _ _ gl gr k => Bool.rec (Bool.rec (gr (Nat.sub (Nat.div k 2) 1)) (gl (Nat.div k 2)) (Nat.beq (Nat.mod k 2) 1)) v (Nat.beq k 0)) t
def Tr.setF {α : Type} (x : α) (f : Nat) : Tr α → Nat → Tr α :=
  Nat.rec (motive := fun _ => Tr α → Nat → Tr α) (fun t _ => t) (fun _ ih t k =>
    Tr.rec (motive := fun _ => Tr α)
      (Bool.rec (Bool.rec (.node none .nil (ih .nil (Nat.sub (Nat.div k 2) 1))) (.node none (ih .nil (Nat.div k 2)) .nil) (Nat.beq (Nat.mod k 2) 1)) (.node (some x) .nil .nil) (Nat.beq k 0))
      (fun v l r _ _ => Bool.rec (Bool.rec (.node v l (ih r (Nat.sub (Nat.div k 2) 1))) (.node v (ih l (Nat.div k 2)) r) (Nat.beq (Nat.mod k 2) 1)) (.node (some x) l r) (Nat.beq k 0)) t) f
def Tr.set {α : Type} (t : Tr α) (k : Nat) (x : α) : Tr α := Tr.setF x (Nat.succ k) t k

/-- Whether the room behind a slice may be written. -/
inductive Tip where
  | full
  | dead
  | at (id : Nat)

/-- A value: slices that are not written hold their elements. -/
inductive AV where
  | bool (b : Bool)
  | int (k : IntKind) (n : Int)
  | str (s : List UInt8)
  | nilp
  | ptr (key off : Nat)
  | ro (cs : List AV) (off : Nat)
  | nils
  | sl (size : Nat) (es : List AV) (t : Tip)
  | ks (key off n : Nat)
  | nilm
  | mp (key : Nat)
  | nilf
  | fn (f : Nat) (first caps : List AV)
  | agg (cs : List AV)
  | tup (vs : List AV)
  | any
  deriving Inhabited
def AV.cells : AV → List AV
  | .agg cs => cs
  | .tup _ => []
  | .any => []
  | v => [v]
def und : AV := .tup []

/-- What is at a key: variables, a map, the right to write behind a slice. -/
inductive Ent where
  | box (ver : Nat) (cs : List AV)
  | map (ver : Nat) (kv : List (AV × AV))
  | tip
  | gone
structure St where
  heap : Tr Ent
  next : Nat

/-! ### The code -/
inductive XO where
  | t (n : Nat)
  | c (v : AV)
/-- How two values are compared. -/
inductive EK where
  | int | str | bool | ptr | slice | map | func | none
  | struct (z : List AV)
/-- What reads and writes no memory. -/
inductive XP where
  | move (x : XO)
  | pick (c a b : XO)
  | build (z : List AV) (parts : List (Nat × Nat × XO))
  | bslice (size : Nat) (z : List AV) (parts : List (Nat × XO))
  | nilc (x : XO)
  | bin (op : BinOp) (k : EK) (x y : XO)
  | not (x : XO)
  | neg (x : XO)
  | mkf (f : Nat) (first caps : List XO)
  | subs (x : XO) (lo hi : Option XO)
  | subl (size : Nat) (x : XO) (lo hi : Option XO)
  | faddr (off : Nat) (x : XO)
  | field (off size : Nat) (agg : Bool) (x : XO)
  | iaddr (size : Nat) (x ix : XO)
  | ixs (x ix : XO)
  | ext (x : XO) (i : Nat)
  | lens (x : XO)
  | lenl (x : XO)
  | max (x y : XO)
  | min (x y : XO)
  | cint (k : IntKind) (x : XO)
  | cstr (x : XO)
  | cbytes (x : XO)
/-- What reads memory. -/
inductive XL where
  | load (size : Nat) (agg : Bool) (a : XO)
  | look (k : EK) (z : AV) (ok : Bool) (m ix : XO)
/-- What turns memory. -/
inductive XE where
  | alloc (cs : List AV)
  | box (size : Nat) (x : XO)
  | store (size : Nat) (a x : XO)
  | mksl (size bytes : Nat) (z : AV) (l c : XO)
  | mkmap
  | put (k : EK) (m q v : XO)
  | app (size bytes : Nat) (s x : XO)
  | app1 (size bytes : Nat) (s x q u : XO)
  | appk (size bytes : Nat) (s x : XO)
  | call (f : XO) (args : List XO)
inductive XOp where
  | p (o : XP)
  | l (o : XL)
  | e (o : XE)
structure XR where
  dst : Option Nat
  guard : Option (Nat × Bool)
  op : XOp
inductive XC where
  | skip
  | reg (ops : List XR)
  | regd (hs : List (Nat × List AV)) (ops : List XR) (pairs : List (Nat × Nat))
  | seq (a b : XC)
  | cond (c : XO) (a b : XC)
  | block (id : Nat) (b : XC)
  | loop (b : XC)
  | exit (id : Nat)
  | ret
inductive XRes where
  | t (n : Nat)
  | cell (a size : Nat) (agg : Bool)
structure XF where
  body : XC
  res : List XRes

/-! ### How it runs -/
def eqL (s : List UInt8) : List UInt8 → Bool :=
  List.rec (motive := fun _ => List UInt8 → Bool) (fun t => List.rec (motive := fun _ => Bool) true (fun _ _ _ => false) t)
    (fun a _ ih t => List.rec (motive := fun _ => Bool) false (fun b t' _ => Bool.rec false (ih t') (Nat.beq a.toNat b.toNat)) t) s
def beqInt : Int → Int → Bool
  | .ofNat a, .ofNat b => Nat.beq a b
  | .negSucc a, .negSucc b => Nat.beq a b
  | _, _ => false
def nth {α : Type} (l : List α) : Nat → Option α :=
  List.rec (motive := fun _ => Nat → Option α) (fun _ => none) (fun a _ ih n => Bool.rec (ih (Nat.pred n)) (some a) (Nat.beq n 0)) l
def splice (cs : List AV) : Nat → List AV → List AV :=
  List.rec (motive := fun _ => Nat → List AV → List AV) (fun _ vs => vs) (fun c t ih n vs => Bool.rec (c :: ih (Nat.pred n) vs) (vs ++ (c :: t).drop vs.length) (Nat.beq n 0)) cs
def evX (tm : Tr AV) (x : XO) : AV := XO.rec (fun n => Option.rec und (fun v => v) (tm.get n)) (fun v => v) x
def evXs (tm : Tr AV) (l : List XO) : List AV := List.rec (motive := fun _ => List AV) [] (fun x _ ih => evX tm x :: ih) l
def natOf : AV → Option Nat
  | .int _ (.ofNat n) => some n
  | _ => none
/-- A part of the cells: one, or several as a struct. -/
def partOf (size : Nat) (agg : Bool) (cs : List AV) (off : Nat) : Option AV :=
  Bool.rec (nth cs off) (Bool.rec none (some (.agg ((cs.drop off).take size))) (Nat.ble (off + size) cs.length)) agg
def fillS (tm : Tr AV) (parts : List (Nat × Nat × XO)) : List AV → Option (List AV) :=
  List.rec (motive := fun _ => List AV → Option (List AV)) (fun cs => some cs)
    (fun p _ ih cs => Bool.rec none (ih (splice cs p.1 (evX tm p.2.2).cells)) (Nat.beq (evX tm p.2.2).cells.length p.2.1)) parts
def fillL (tm : Tr AV) (size : Nat) (parts : List (Nat × XO)) : List AV → Option (List AV) :=
  List.rec (motive := fun _ => List AV → Option (List AV)) (fun cs => some cs)
    (fun p _ ih es => Bool.rec none (ih (es.set p.1 (evX tm p.2))) (Nat.beq (evX tm p.2).cells.length size)) parts
def eqAtom : AV → AV → Option Bool
  | .bool a, .bool b => some (a == b)
  | .int k a, .int j b => match decide (k = j) with
    | true => some (beqInt a b)
    | false => none
  | .str a, .str b => some (eqL a b)
  | _, _ => none
def eqCells : List AV → List AV → Option Bool
  | [], [] => some true
  | a :: s, b :: t => match eqAtom a b, eqCells s t with
    | some x, some y => some (x && y)
    | _, _ => none
  | _, _ => none
def sameAt : AV → AV → Bool
  | .bool _, .bool _ => true
  | .int k _, .int j _ => decide (k = j)
  | .str _, .str _ => true
  | _, _ => false
def sameL : List AV → List AV → Bool
  | [], [] => true
  | a :: s, b :: t => sameAt a b && sameL s t
  | _, _ => false
def eqV (k : EK) (x y : AV) : Option Bool :=
  match k, x, y with
  | .bool, .bool a, .bool b => some (a == b)
  | .int, .int j a, .int k b => match decide (j = k) with
    | true => some (beqInt a b)
    | false => none
  | .str, .str a, .str b => some (eqL a b)
  | .ptr, .nilp, .nilp => some true
  | .ptr, .nilp, .ptr _ _ => some false
  | .ptr, .ptr _ _, .nilp => some false
  | .ptr, .nilp, .ro _ _ => some false
  | .ptr, .ro _ _, .nilp => some false
  | .slice, .nils, .nils => some true
  | .slice, .nils, .sl _ _ _ => some false
  | .slice, .sl _ _ _, .nils => some false
  | .slice, .nils, .ks _ _ _ => some false
  | .slice, .ks _ _ _, .nils => some false
  | .map, .nilm, .nilm => some true
  | .map, .mp _, .nilm => some false
  | .map, .nilm, .mp _ => some false
  | .func, .nilf, .nilf => some true
  | .func, .fn _ _ _, .nilf => some false
  | .func, .nilf, .fn _ _ _ => some false
  | .struct z, .agg a, .agg b => match sameL z a && sameL z b with
    | true => eqCells a b
    | false => none
  | _, _, _ => none
def binS (op : BinOp) (a b : List UInt8) : Option AV :=
  match op with
  | .add => match Nat.ble (a.length + b.length) 1099511627776 with
    | true => some (.str (a ++ b))
    | false => none
  | .eql => some (.bool (eqL a b))
  | .neq => some (.bool (!(eqL a b)))
  | .lss => some (.bool (Op.bytesLess a b))
  | .leq => some (.bool (Op.bytesLess a b || eqL a b))
  | .gtr => some (.bool (!(Op.bytesLess a b || eqL a b)))
  | .geq => some (.bool (!(Op.bytesLess a b)))
  | _ => none
def ofSem : Sem Value → Option AV
  | .pure (.bool b) => some (.bool b)
  | .pure (.int k n) => some (.int k n)
  | _ => none
def binI (op : BinOp) (k : IntKind) (a b : Int) : Option AV :=
  match op with
  | .eql => some (.bool (beqInt a b))
  | .neq => some (.bool (!(beqInt a b)))
  | .add | .sub | .mul => ofSem (Op.intArith op k a b)
  | .quo | .rem => match beqInt b 0 with
    | true => none
    | false => ofSem (Op.intDiv op k a b)
  | .and | .or | .xor | .andNot => ofSem (Op.intBits op k a b)
  | .shl | .shr => none
  | _ => ofSem (Op.intCmp op a b)
def binA (op : BinOp) (e : EK) (x y : AV) : Option AV :=
  match x, y with
  | .int k a, .int j b => match decide (k = j) with
    | true => binI op k a b
    | false => none
  | .str a, .str b => binS op a b
  | x, y => match op with
    | .eql => match eqV e x y with
      | some b => some (.bool b)
      | none => none
    | .neq => match eqV e x y with
      | some b => some (.bool (!b))
      | none => none
    | _ => none
def byteOf : AV → Option UInt8
  | .int .u8 (.ofNat n) => some (UInt8.ofNat n)
  | _ => none
def bytesOf : List AV → Option (List UInt8)
  | [] => some []
  | v :: vs => match byteOf v, bytesOf vs with
    | some b, some bs => some (b :: bs)
    | _, _ => none
def bounds (tm : Tr AV) (n : Nat) (lo hi : Option XO) : Option (Nat × Nat) :=
  match (match hi with | none => some n | some v => natOf (evX tm v)) with
  | none => none
  | some h => match (match lo with | none => some 0 | some v => natOf (evX tm v)) with
    | none => none
    | some l => match Nat.ble l h && Nat.ble h n with
      | true => some (l, h)
      | false => none

def xPick (c a b : AV) : Option AV := match c with
  | .bool t => some (Bool.rec b a t)
  | _ => none
def xAgg (r : Option (List AV)) : Option AV := match r with
  | some cs => some (.agg cs)
  | none => none
def xSl (size : Nat) (r : Option (List AV)) : Option AV := match r with
  | some es => some (.sl size es .full)
  | none => none
def xNilc (x : AV) : Option AV := match x with
  | .ptr k o => some (.ptr k o)
  | .ro c o => some (.ro c o)
  | _ => none
def xNot (x : AV) : Option AV := match x with
  | .bool b => some (.bool (!b))
  | _ => none
def xNeg (x : AV) : Option AV := match x with
  | .int k n => some (.int k (k.wrap (0 - n)))
  | _ => none
def xSubs (tm : Tr AV) (lo hi : Option XO) (x : AV) : Option AV := match x with
  | .str s => match bounds tm s.length lo hi with
    | some (l, h) => some (.str ((s.take h).drop l))
    | none => none
  | _ => none
def xSubl (tm : Tr AV) (size : Nat) (lo hi : Option XO) (x : AV) : Option AV := match x with
  | .sl n es tip => match Nat.beq n size with
    | true => match bounds tm es.length lo hi with
      | some (l, h) => some (.sl n ((es.take h).drop l) (match Nat.beq l 0 && Nat.beq h es.length with
        | true => tip
        | false => .dead))
      | none => none
    | false => none
  | .nils => match bounds tm 0 lo hi with
    | some _ => some .nils
    | none => none
  | _ => none
def xFaddr (off : Nat) (x : AV) : Option AV := match x with
  | .ptr k o => some (.ptr k (o + off))
  | .ro c o => some (.ro c (o + off))
  | _ => none
def xField (off size : Nat) (agg : Bool) (x : AV) : Option AV := match x with
  | .agg cs => partOf size agg cs off
  | _ => none
def xIaddr (size : Nat) (x : AV) (ix : Option Nat) : Option AV := match ix with
  | some n => match x with
    | .sl s es _ => match Nat.beq s size with
      | true => match nth es n with
        | some v => some (.ro v.cells 0)
        | none => none
      | false => none
    | .ks key off len => match Nat.blt n len with
      | true => some (.ptr key (off + n * size))
      | false => none
    | _ => none
  | none => none
def xIxs (x : AV) (ix : Option Nat) : Option AV := match ix with
  | some n => match x with
    | .str s => match nth s n with
      | some b => some (.int .u8 (.ofNat b.toNat))
      | none => none
    | _ => none
  | none => none
def xExt (x : AV) (i : Nat) : Option AV := match x with
  | .tup vs => nth vs i
  | _ => none
def xLens (x : AV) : Option AV := match x with
  | .str s => some (.int .i64 (.ofNat s.length))
  | _ => none
def xLenl (x : AV) : Option AV := match x with
  | .sl _ es _ => some (.int .i64 (.ofNat es.length))
  | .nils => some (.int .i64 0)
  | .ks _ _ n => some (.int .i64 (.ofNat n))
  | _ => none
def xMax (x y : AV) : Option AV := match x, y with
  | .int k a, .int _ b => some (.int k (if b > a then b else a))
  | _, _ => none
def xMin (x y : AV) : Option AV := match x, y with
  | .int k a, .int _ b => some (.int k (if b < a then b else a))
  | _, _ => none
def xCint (k : IntKind) (x : AV) : Option AV := match x with
  | .int _ n => some (.int k (k.wrap n))
  | _ => none
def xCstr (x : AV) : Option AV := match x with
  | .str s => some (.str s)
  | _ => none
def xCbytes (x : AV) : Option AV := match x with
  | .sl s es _ => match Nat.beq s 1, bytesOf es with
    | true, some b => some (.str b)
    | _, _ => none
  | .nils => some (.str [])
  | _ => none
def aMove (tm : Tr AV) (x : XO) : Option AV := some (evX tm x)
def aPick (tm : Tr AV) (c a b : XO) : Option AV := xPick (evX tm c) (evX tm a) (evX tm b)
def aBuild (tm : Tr AV) (z : List AV) (parts : List (Nat × Nat × XO)) : Option AV := xAgg (fillS tm parts z)
def aBslice (tm : Tr AV) (size : Nat) (z : List AV) (parts : List (Nat × XO)) : Option AV := xSl size (fillL tm size parts z)
def aNilc (tm : Tr AV) (x : XO) : Option AV := xNilc (evX tm x)
def aBin (tm : Tr AV) (op : BinOp) (k : EK) (x y : XO) : Option AV := binA op k (evX tm x) (evX tm y)
def aNot (tm : Tr AV) (x : XO) : Option AV := xNot (evX tm x)
def aNeg (tm : Tr AV) (x : XO) : Option AV := xNeg (evX tm x)
def aMkf (tm : Tr AV) (f : Nat) (first caps : List XO) : Option AV := some (.fn f (evXs tm first) (evXs tm caps))
def aSubs (tm : Tr AV) (x : XO) (lo hi : Option XO) : Option AV := xSubs tm lo hi (evX tm x)
def aSubl (tm : Tr AV) (size : Nat) (x : XO) (lo hi : Option XO) : Option AV := xSubl tm size lo hi (evX tm x)
def aFaddr (tm : Tr AV) (off : Nat) (x : XO) : Option AV := xFaddr off (evX tm x)
def aField (tm : Tr AV) (off size : Nat) (agg : Bool) (x : XO) : Option AV := xField off size agg (evX tm x)
def aIaddr (tm : Tr AV) (size : Nat) (x ix : XO) : Option AV := xIaddr size (evX tm x) (natOf (evX tm ix))
def aIxs (tm : Tr AV) (x ix : XO) : Option AV := xIxs (evX tm x) (natOf (evX tm ix))
def aExt (tm : Tr AV) (x : XO) (i : Nat) : Option AV := xExt (evX tm x) i
def aLens (tm : Tr AV) (x : XO) : Option AV := xLens (evX tm x)
def aLenl (tm : Tr AV) (x : XO) : Option AV := xLenl (evX tm x)
def aMax (tm : Tr AV) (x y : XO) : Option AV := xMax (evX tm x) (evX tm y)
def aMin (tm : Tr AV) (x y : XO) : Option AV := xMin (evX tm x) (evX tm y)
def aCint (tm : Tr AV) (k : IntKind) (x : XO) : Option AV := xCint k (evX tm x)
def aCstr (tm : Tr AV) (x : XO) : Option AV := xCstr (evX tm x)
def aCbytes (tm : Tr AV) (x : XO) : Option AV := xCbytes (evX tm x)
def doP (tm : Tr AV) (o : XP) : Option AV :=
  XP.rec (motive := fun _ => Option AV) (aMove tm) (aPick tm) (aBuild tm) (aBslice tm) (aNilc tm) (aBin tm) (aNot tm) (aNeg tm) (aMkf tm) (aSubs tm) (aSubl tm) (aFaddr tm) (aField tm)
    (aIaddr tm) (aIxs tm) (aExt tm) (aLens tm) (aLenl tm) (aMax tm) (aMin tm) (aCint tm) (aCstr tm) (aCbytes tm) o

def findKey (kd : EK) (k : AV) : List (AV × AV) → Option (Option AV)
  | [] => some none
  | (q, v) :: l => match eqV kd k q with
    | some true => some (some v)
    | some false => findKey kd k l
    | none => none
def putKey (kd : EK) (k v : AV) : List (AV × AV) → Option (List (AV × AV))
  | [] => some [(k, v)]
  | (q, u) :: l => match eqV kd k q with
    | some true => some ((k, v) :: l)
    | some false => match putKey kd k v l with
      | some l' => some ((q, u) :: l')
      | none => none
    | none => none
def cellsAt (H : Tr Ent) (key : Nat) : Option (List AV) := match H.get key with
  | some (.box _ cs) => some cs
  | _ => none
def xLoad (H : Tr Ent) (size : Nat) (agg : Bool) (a : AV) : Option AV := match a with
  | .ptr key off => match cellsAt H key with
    | some cs => partOf size agg cs off
    | none => none
  | .ro cs off => partOf size agg cs off
  | _ => none
def xLook (H : Tr Ent) (k : EK) (z : AV) (ok : Bool) (m ix : AV) : Option AV := match m with
  | .mp key => match H.get key with
    | some (.map _ kv) => match findKey k ix kv with
      | some (some v) => some (match ok with | true => .tup [v, .bool true] | false => v)
      | some none => some (match ok with | true => .tup [z, .bool false] | false => z)
      | none => none
    | _ => none
  | _ => none
def aLoad (H : Tr Ent) (tm : Tr AV) (size : Nat) (agg : Bool) (a : XO) : Option AV := xLoad H size agg (evX tm a)
def aLook (H : Tr Ent) (tm : Tr AV) (k : EK) (z : AV) (ok : Bool) (m ix : XO) : Option AV := xLook H k z ok (evX tm m) (evX tm ix)
def doL (H : Tr Ent) (tm : Tr AV) (o : XL) : Option AV := XL.rec (motive := fun _ => Option AV) (aLoad H tm) (aLook H tm) o

/-- The elements of what is appended. -/
def srcOf (size : Nat) : AV → Option (List AV)
  | .nils => some []
  | .sl s es _ => match Nat.beq s size with
    | true => some es
    | false => none
  | .str s => match Nat.beq size 1 with
    | true => some (s.map fun b => .int .u8 (.ofNat b.toNat))
    | false => none
  | _ => none
def few (n bytes : Nat) : Bool := Nat.ble n 1073741824 && Nat.ble bytes 4096
def St.new (st : St) (e : Ent) : St := ⟨st.heap.set st.next e, Nat.succ st.next⟩
def St.put (st : St) (k : Nat) (e : Ent) : St := ⟨st.heap.set k e, st.next⟩
def addOp (size bytes : Nat) (st : St) (s : AV) (xs : List AV) : Option (AV × St) :=
  match xs with
  | [] => match s with
    | .nils => some (s, st)
    | .sl .. => some (s, st)
    | _ => none
  | x :: xs => match s with
    | .nils => match few (x :: xs).length bytes with
      | true => some (.sl size (x :: xs) (.at st.next), st.new .tip)
      | false => none
    | .sl n es tip => match Nat.beq n size && few (es.length + (x :: xs).length) bytes with
      | true => match tip with
        | .full => some (.sl size (es ++ (x :: xs)) (.at st.next), st.new .tip)
        | .at id => match st.heap.get id with
          | some .tip => some (.sl size (es ++ (x :: xs)) (.at st.next), (st.put id .gone).new .tip)
          | _ => none
        | .dead => none
      | false => none
    | _ => none
def flat (es : List AV) : List AV := es.flatMap AV.cells
/-- The same where elements will be written. -/
def addK (size bytes : Nat) (st : St) (s : AV) (xs : List AV) : Option (AV × St) :=
  match s with
  | .nils => match xs with
    | [] => some (.nils, st)
    | x :: xs => match few (x :: xs).length bytes with
      | true => some (.ks st.next 0 (x :: xs).length, st.new (.box 0 (flat (x :: xs))))
      | false => none
  | .ks key 0 n => match cellsAt st.heap key with
    | some cs => match Nat.beq cs.length (n * size) && few (n + xs.length) bytes with
      | true => some (.ks st.next 0 (n + xs.length), (st.put key .gone).new (.box 0 (cs ++ flat xs)))
      | false => none
    | _ => none
  | _ => none
def xStore (st : St) (size : Nat) (a x : AV) : Option (AV × St) := match a with
  | .ptr key off => match st.heap.get key with
    | some (.box ver cs) => match Nat.beq x.cells.length size && Nat.ble (off + size) cs.length with
      | true => some (und, st.put key (.box (Nat.succ ver) (splice cs off x.cells)))
      | false => none
    | _ => none
  | _ => none
def xMksl (st : St) (bytes : Nat) (z : AV) (l c : Option Nat) : Option (AV × St) := match l, c with
  | some n, some m => match Nat.beq n m && few n bytes with
    | true => some (.ks st.next 0 n, st.new (.box 0 (flat (List.replicate n z))))
    | false => none
  | _, _ => none
def xPut (st : St) (k : EK) (m q v : AV) : Option (AV × St) := match m with
  | .mp key => match st.heap.get key with
    | some (.map ver kv) => match putKey k q v kv with
      | some l => some (und, st.put key (.map (Nat.succ ver) l))
      | none => none
    | _ => none
  | _ => none
def xApp (size bytes : Nat) (st : St) (s x : AV) : Option (AV × St) := match srcOf size x with
  | some xs => addOp size bytes st s xs
  | none => none
def xAppk (size bytes : Nat) (st : St) (s x : AV) : Option (AV × St) := match srcOf size x with
  | some xs => addK size bytes st s xs
  | none => none
def xCall (call : Nat → List AV → St → Option (AV × St)) (st : St) (f : AV) (args : List AV) : Option (AV × St) := match f with
  | .fn id first caps => call id (first ++ args ++ caps) st
  | _ => none
def aAlloc (st : St) (cs : List AV) : Option (AV × St) := some (.ptr st.next 0, st.new (.box 0 cs))
def aBox (st : St) (tm : Tr AV) (size : Nat) (x : XO) : Option (AV × St) := match Nat.beq (evX tm x).cells.length size with
  | true => some (.ptr st.next 0, st.new (.box 0 (evX tm x).cells))
  | false => none
def aStore (st : St) (tm : Tr AV) (size : Nat) (a x : XO) : Option (AV × St) := xStore st size (evX tm a) (evX tm x)
def aMksl (st : St) (tm : Tr AV) (_ bytes : Nat) (z : AV) (l c : XO) : Option (AV × St) := xMksl st bytes z (natOf (evX tm l)) (natOf (evX tm c))
def aMkmap (st : St) : Option (AV × St) := some (.mp st.next, st.new (.map 0 []))
def aPut (st : St) (tm : Tr AV) (k : EK) (m q v : XO) : Option (AV × St) := xPut st k (evX tm m) (evX tm q) (evX tm v)
def aApp (st : St) (tm : Tr AV) (size bytes : Nat) (s x : XO) : Option (AV × St) := xApp size bytes st (evX tm s) (evX tm x)
def lenA : AV → Option Nat
  | .nils => some 0
  | .sl _ es _ => some es.length
  | _ => none
def eqNO (a b : Option Nat) : Bool := match a, b with
  | some x, some y => Nat.beq x y
  | _, _ => false
def isOneA (size : Nat) (u : AV) : Bool := match srcOf size u with
  | some [_] => true
  | _ => false
def aApp1 (st : St) (tm : Tr AV) (size bytes : Nat) (s x q u : XO) : Option (AV × St) := match Nat.beq (evX tm x).cells.length size && eqNO (natOf (evX tm q)) (lenA (evX tm s)) && isOneA size (evX tm u) with
  | true => addOp size bytes st (evX tm s) [evX tm x]
  | false => none
def aAppk (st : St) (tm : Tr AV) (size bytes : Nat) (s x : XO) : Option (AV × St) := xAppk size bytes st (evX tm s) (evX tm x)
def aCall (call : Nat → List AV → St → Option (AV × St)) (st : St) (tm : Tr AV) (f : XO) (args : List XO) : Option (AV × St) := xCall call st (evX tm f) (evXs tm args)
def doE (call : Nat → List AV → St → Option (AV × St)) (st : St) (tm : Tr AV) (o : XE) : Option (AV × St) :=
  XE.rec (motive := fun _ => Option (AV × St)) (aAlloc st) (aBox st tm) (aStore st tm) (aMksl st tm) (aMkmap st) (aPut st tm) (aApp st tm) (aApp1 st tm) (aAppk st tm) (aCall call st tm) o

def okP (st : St) (r : Option AV) : Option (AV × St) := Option.rec (motive := fun _ => Option (AV × St)) none (fun v => some (v, st)) r
def oP (st : St) (tm : Tr AV) (o : XP) : Option (AV × St) := okP st (doP tm o)
def oL (st : St) (tm : Tr AV) (o : XL) : Option (AV × St) := okP st (doL st.heap tm o)
def doX (call : Nat → List AV → St → Option (AV × St)) (st : St) (tm : Tr AV) (o : XOp) : Option (AV × St) :=
  XOp.rec (motive := fun _ => Option (AV × St)) (oP st tm) (oL st tm) (doE call st tm) o
def setD (tm : Tr AV) (d : Option Nat) (v : AV) : Tr AV := match d with
  | some d => tm.set d v
  | none => tm
def wantV (c : Bool) (v : Option AV) : Option Bool := match v with
  | some (.bool b) => some (b == c)
  | some (.tup []) => some false
  | _ => none
/-- Is the operation wanted? -/
def wants (tm : Tr AV) (g : Option (Nat × Bool)) : Option Bool := Option.rec (motive := fun _ => Option Bool) (some true) (fun p => wantV p.2 (tm.get p.1)) g
def Step := Tr AV → St → Option (Tr AV × St)
def nextX (ih : Step) (tm : Tr AV) (d : Option Nat) (r : Option (AV × St)) : Option (Tr AV × St) :=
  Option.rec (motive := fun _ => Option (Tr AV × St)) none (fun p => ih (setD tm d p.1) p.2) r
def stepX (call : Nat → List AV → St → Option (AV × St)) (ih : Step) (o : XR) (tm : Tr AV) (st : St) (w : Option Bool) : Option (Tr AV × St) :=
  Option.rec (motive := fun _ => Option (Tr AV × St)) none (fun b => Bool.rec (ih (setD tm o.dst und) st) (nextX ih tm o.dst (doX call st tm o.op)) b) w
def consX (call : Nat → List AV → St → Option (AV × St)) (o : XR) (_ : List XR) (ih : Step) (tm : Tr AV) (st : St) : Option (Tr AV × St) := stepX call ih o tm st (wants tm o.guard)
def nilX (tm : Tr AV) (st : St) : Option (Tr AV × St) := some (tm, st)
def runX (call : Nat → List AV → St → Option (AV × St)) (ops : List XR) : Step := List.rec (motive := fun _ => Step) nilX (consX call) ops

/-- The key that an operation reads. -/
def keyRead (tm : Tr AV) (o : XR) : Option Nat := match o.op with
  | .l (.load _ _ a) => match evX tm a with
    | .ptr key _ => some key
    | _ => none
  | .l (.look _ _ _ m _) => match evX tm m with
    | .mp key => some key
    | _ => none
  | _ => none
def verOf : Option Ent → Option Nat
  | some (.box v _) => some v
  | some (.map v _) => some v
  | _ => none
/-- The run, with what each operation read and the memory ahead of it. -/
def traceX (call : Nat → List AV → St → Option (AV × St)) (ops : List XR) : Tr AV → St → Option (Tr AV × St × List (Option Nat × Tr Ent)) :=
  List.rec (motive := fun _ => Tr AV → St → Option (Tr AV × St × List (Option Nat × Tr Ent))) (fun tm st => some (tm, st, [(none, st.heap)]))
    (fun o _ ih tm st => match wants tm o.guard with
      | some true => match doX call st tm o.op with
        | some (v, st') => match ih (setD tm o.dst v) st' with
          | some (tm', st'', l) => some (tm', st'', (keyRead tm o, st.heap) :: l)
          | none => none
        | none => none
      | some false => match ih (setD tm o.dst und) st with
        | some (tm', st'', l) => some (tm', st'', (none, st.heap) :: l)
        | none => none
      | none => none) ops
/-- Did operation c leave alone what operation i reads? -/
def pairOk (l : List (Option Nat × Tr Ent)) (p : Nat × Nat) : Bool := match nth l p.1, nth l p.2, nth l (Nat.succ p.2) with
  | some (none, _), _, _ => true
  | some (some k, _), some (_, H), some (_, H') => match verOf (H.get k), verOf (H'.get k) with
    | some a, some b => Nat.beq a b
    | _, _ => false
  | _, _, _ => false
/-- The variables that a region makes are made ahead of it. -/
def hoist : List (Nat × List AV) → Tr AV → St → Tr AV × St
  | [], tm, st => (tm, st)
  | (d, cs) :: l, tm, st => hoist l (tm.set d (.ptr st.next 0)) (st.new (.box 0 cs))
def runD (call : Nat → List AV → St → Option (AV × St)) (ops : List XR) (pairs : List (Nat × Nat)) (tm : Tr AV) (st : St) : Option (Tr AV × St) :=
  match pairs with
  | [] => runX call ops tm st
  | p :: ps => match traceX call ops tm st with
    | some (tm', st', l) => match (p :: ps).all (pairOk l) with
      | true => some (tm', st')
      | false => none
    | none => none

inductive Ex where
  | norm | exit (id : Nat) | ret
inductive R where
  | fail
  | ok (e : Ex) (tm : Tr AV) (st : St)
def R.of (r : Option (Tr AV × St)) : R := Option.rec (motive := fun _ => R) .fail (fun p => .ok .norm p.1 p.2) r
def R.andThen (r : R) (f : Tr AV → St → R) : R :=
  R.rec (motive := fun _ => R) .fail (fun e tm st => Ex.rec (motive := fun _ => R) (f tm st) (fun id => .ok (.exit id) tm st) (.ok .ret tm st) e) r
def R.block (id : Nat) (r : R) : R := match r with
  | .ok (.exit i) tm st => match Nat.beq i id with
    | true => .ok .norm tm st
    | false => .ok (.exit i) tm st
  | r => r
def condV (v : AV) (a b : R) : R := match v with
  | .bool true => a
  | .bool false => b
  | _ => .fail
def RF := Tr AV → St → R
def fail0 (_ : Tr AV) (_ : St) : R := .fail
def loop1 (f : RF) (_ : Nat) (ih : RF) (tm : Tr AV) (st : St) : R := (f tm st).andThen ih
def loopN (f : RF) (n : Nat) : RF := Nat.rec (motive := fun _ => RF) fail0 (loop1 f) n
def cSkip (tm : Tr AV) (st : St) : R := .ok .norm tm st
def cReg (call : Nat → List AV → St → Option (AV × St)) (ops : List XR) (tm : Tr AV) (st : St) : R := R.of (runX call ops tm st)
def cRegd (call : Nat → List AV → St → Option (AV × St)) (hs : List (Nat × List AV)) (ops : List XR) (pairs : List (Nat × Nat)) (tm : Tr AV) (st : St) : R := R.of (runD call ops pairs (hoist hs tm st).1 (hoist hs tm st).2)
def cSeq (_ _ : XC) (ia ib : RF) (tm : Tr AV) (st : St) : R := (ia tm st).andThen ib
def cCond (c : XO) (_ _ : XC) (ia ib : RF) (tm : Tr AV) (st : St) : R := condV (evX tm c) (ia tm st) (ib tm st)
def cBlock (id : Nat) (_ : XC) (ib : RF) (tm : Tr AV) (st : St) : R := (ib tm st).block id
def cLoop (lim : Nat) (_ : XC) (ib : RF) : RF := loopN ib lim
def cExit (id : Nat) (tm : Tr AV) (st : St) : R := .ok (.exit id) tm st
def cRet (tm : Tr AV) (st : St) : R := .ok .ret tm st
def execX (call : Nat → List AV → St → Option (AV × St)) (lim : Nat) (c : XC) : RF :=
  XC.rec (motive := fun _ => RF) cSkip (cReg call) (cRegd call) cSeq cCond cBlock (cLoop lim) cExit cRet c
def argsT (l : List AV) : Nat → Tr AV → Tr AV :=
  List.rec (motive := fun _ => Nat → Tr AV → Tr AV) (fun _ t => t) (fun v _ ih n t => ih (Nat.succ n) (t.set n v)) l
def resOf (tm : Tr AV) (st : St) : XRes → Option AV
  | .t n => some (evX tm (.t n))
  | .cell a size agg => match evX tm (.t a) with
    | .ptr key off => match cellsAt st.heap key with
      | some cs => partOf size agg cs off
      | none => none
    | _ => none
def resL (tm : Tr AV) (st : St) : List XRes → Option (List AV)
  | [] => some []
  | r :: l => match resOf tm st r, resL tm st l with
    | some v, some vs => some (v :: vs)
    | _, _ => none
def tupOf : List AV → AV
  | [v] => v
  | vs => .tup vs
def endF (res : List XRes) (r : R) : Option (AV × St) := match r with
  | .ok (.exit _) _ _ => none
  | .ok _ tm st => match resL tm st res with
    | some vs => some (tupOf vs, st)
    | none => none
  | .fail => none
structure Env where
  F : Tr XF
  prim : Nat → Option (List AV → Option AV)
/-- The answer that is known beforehand, if there is one. -/
def primA (E : Env) (f : Nat) (args : List AV) : Option AV := match E.prim f with
  | some p => p args
  | none => none
def callF (E : Env) (lim : Nat) (call : Nat → List AV → St → Option (AV × St)) (f : Nat) (args : List AV) (st : St) : Option (AV × St) :=
  match primA E f args with
  | some r => some (r, st)
  | none => match E.F.get f with
    | some x => endF x.res (execX call lim x.body (argsT args 0 .nil) st)
    | none => none
def call0 (_ : Nat) (_ : List AV) (_ : St) : Option (AV × St) := none
def call1 (E : Env) (lim : Nat) (_ : Nat) (ih : Nat → List AV → St → Option (AV × St)) (f : Nat) (args : List AV) (st : St) : Option (AV × St) := callF E lim ih f args st
def callN (E : Env) (lim : Nat) (d : Nat) : Nat → List AV → St → Option (AV × St) :=
  Nat.rec (motive := fun _ => Nat → List AV → St → Option (AV × St)) call0 (call1 E lim) d
end
end Go.Ev
namespace Go.Ev

/-- What is known of a type. -/
inductive Kd where
  | bool | int (k : IntKind) | str | ptr | slice (e : Nat) | struct (fs : List (Nat × Nat)) | map (k e : Nat) | func
structure TI where
  kd : Kd
  size : Nat
  bytes : Nat
  zero : AV
  eqok : Bool

section
variable (T : Nat → Option TI)

def atomC : Value → Option AV
  | .bool b => some (.bool b)
  | .int k n => some (.int k n)
  | .string s => some (.str s.data.toList)
  | .pointer none => some .nilp
  | .slice none 0 0 => some .nils
  | .map none => some .nilm
  | .nilFunc => some .nilf
  | _ => none
def atomsC : List Value → Option (List AV)
  | [] => some []
  | v :: l => match atomC v, atomsC l with
    | some a, some as => some (a :: as)
    | _, _ => none
def absC : Value → Option AV
  | .agg cs => match atomsC cs.toList with
    | some l => some (.agg l)
    | none => none
  | v => atomC v
def compO : Operand → Option XO
  | .tmp t => some (.t t)
  | .const v => match absC v with
    | some a => some (.c a)
    | none => none
  | .func f => some (.c (.fn f [] []))
  | .global _ => none
def compOs : List Operand → Option (List XO)
  | [] => some []
  | x :: l => match compO x, compOs l with
    | some a, some as => some (a :: as)
    | _, _ => none
def compOO : Option Operand → Option (Option XO)
  | none => some none
  | some x => match compO x with
    | some a => some (some a)
    | none => none
def ekOf (t : Nat) : EK := match T t with
  | some i => match i.kd with
    | .int _ => .int
    | .str => .str
    | .bool => .bool
    | .ptr => .ptr
    | .slice _ => .slice
    | .map _ _ => .map
    | .func => .func
    | .struct _ => match i.eqok with
      | true => .struct i.zero.cells
      | false => .none
  | none => .none
def aggOf (i : TI) : Bool := match i.kd with
  | .struct _ => true
  | _ => false
def fieldOf (t i : Nat) : Option (Nat × Nat × Bool) := match T t with
  | some ti => match ti.kd with
    | .struct fs => match fs[i]? with
      | some (off, ft) => match T ft with
        | some fi => match Nat.beq fi.size 0 with
          | true => none
          | false => some (off, fi.size, aggOf fi)
        | none => none
      | none => none
    | _ => none
  | none => none
def sliceOf (t : Nat) : Option TI := match T t with
  | some ti => match ti.kd with
    | .slice e => match T e with
      | some i => match Nat.beq i.size 0 with
        | true => none
        | false => some i
      | none => none
    | _ => none
  | none => none
def compParts (t n : Nat) : List (Nat × Operand) → Option (List (Nat × Nat × XO))
  | [] => some []
  | (i, x) :: l => match fieldOf T t i, compO x, compParts t n l with
    | some (off, size, _), some a, some as => match Nat.ble (off + size) n with
      | true => some ((off, size, a) :: as)
      | false => none
    | _, _, _ => none
def compElems (n : Nat) : List (Nat × Operand) → Option (List (Nat × XO))
  | [] => some []
  | (i, x) :: l => match compO x, compElems n l with
    | some a, some as => match Nat.blt i n with
      | true => some ((i, a) :: as)
      | false => none
    | _, _ => none
def isStrT (t : Nat) : Bool := match T t with
  | some i => match i.kd with
    | .str => true
    | _ => false
  | none => false
def isU8 (i : TI) : Bool := match i.kd with
  | .int .u8 => true
  | _ => false
def keyT (t : Nat) : Option (EK × AV) := match T t with
  | some ti => match ti.kd with
    | .map k e => match T e with
      | some ei => match ekOf T k with
        | .int => some (.int, ei.zero)
        | .str => some (.str, ei.zero)
        | .bool => some (.bool, ei.zero)
        | _ => none
      | none => none
    | _ => none
  | none => none
def compConv (s d : Nat) (x : XO) : Option XP := match T d with
  | some di => match di.kd with
    | .int k => match T s with
      | some si => match si.kd with
        | .int _ => some (.cint k x)
        | _ => none
      | none => none
    | .str => match T s with
      | some si => match si.kd with
        | .str => some (.cstr x)
        | .slice e => match T e with
          | some ei => match isU8 ei with
            | true => some (.cbytes x)
            | false => none
          | none => none
        | _ => none
      | none => none
    | _ => none
  | none => none
def srcOk (t : Nat) : Bool := match T t with
  | some i => match i.kd with
    | .slice _ => true
    | .str => true
    | _ => false
  | none => false
def opt {α β : Type} (r : Option α) (f : α → Option β) : Option β := match r with
  | some a => f a
  | none => none
def compCall (kd : Bool) (c : Call) : Option XOp := match c.callee with
  | .value f => opt (compO f) fun f => opt (compOs c.args.toList) fun l => some (.e (.call f l))
  | .builtin .len => match c.args.toList, c.argTypes.toList with
    | [x], [t] => opt (compO x) fun a => match isStrT T t with
      | true => some (.p (.lens a))
      | false => opt (sliceOf T t) fun _ => some (.p (.lenl a))
    | _, _ => none
  | .builtin .max => match c.args.toList with
    | [x, y] => opt (compO x) fun a => opt (compO y) fun b => some (.p (.max a b))
    | _ => none
  | .builtin .min => match c.args.toList with
    | [x, y] => opt (compO x) fun a => opt (compO y) fun b => some (.p (.min a b))
    | _ => none
  | .builtin .append => match c.args.toList, c.argTypes.toList with
    | [x, y], [t, u] => opt (sliceOf T t) fun i => opt (compO x) fun a => opt (compO y) fun b => match srcOk T u with
      | true => match kd with
        | true => none
        | false => some (.e (.app i.size i.bytes a b))
      | false => none
    | _, _ => none
  | _ => none
def compOp (kd : Bool) : Op → Option XOp
  | .move x | .assign x => opt (compO x) fun a => some (.p (.move a))
  | .pick c x y => opt (compO c) fun c => opt (compO x) fun a => opt (compO y) fun b => some (.p (.pick c a b))
  | .alloc t => opt (T t) fun i => match i.zero.cells with
    | [] => none
    | z :: zs => some (.e (.alloc (z :: zs)))
  | .box t x => opt (T t) fun i => match Nat.beq i.size 0 with
    | true => none
    | false => opt (compO x) fun a => some (.e (.box i.size a))
  | .build t parts => opt (T t) fun i => match i.kd with
    | .struct _ => match Nat.beq i.size 0 with
      | true => none
      | false => opt (compParts T t i.zero.cells.length parts.toList) fun l => some (.p (.build i.zero.cells l))
    | _ => none
  | .buildSlice t len parts => opt (sliceOf T t) fun i => match Nat.ble (len * i.size) 65536 with
    | true => opt (compElems len parts.toList) fun l => some (.p (.bslice i.size (List.replicate len i.zero) l))
    | false => none
  | .load t a => opt (T t) fun i => match aggOf i, Nat.beq i.size 1 with
    | true, _ => opt (compO a) fun a => some (.l (.load i.size true a))
    | false, true => opt (compO a) fun a => some (.l (.load 1 false a))
    | false, false => none
  | .store t a x => opt (T t) fun i => match Nat.beq i.size 0 with
    | true => none
    | false => opt (compO a) fun a => opt (compO x) fun x => some (.e (.store i.size a x))
  | .nilCheck x => opt (compO x) fun a => some (.p (.nilc a))
  | .binOp op t x y _ => opt (compO x) fun a => opt (compO y) fun b => some (.p (.bin op (ekOf T t) a b))
  | .unOp .not _ x => opt (compO x) fun a => some (.p (.not a))
  | .unOp .neg _ x => opt (compO x) fun a => some (.p (.neg a))
  | .convert s d x => opt (compO x) fun a => opt (compConv T s d a) fun o => some (.p o)
  | .makeFunc (.func f) first caps => opt (compOs first.toList) fun l => opt (compOs caps.toList) fun m => some (.p (.mkf f l m))
  | .makeSlice t l c => opt (sliceOf T t) fun i => opt (compO l) fun l => opt (compO c) fun c => some (.e (.mksl i.size i.bytes i.zero l c))
  | .makeMap _ none => some (.e .mkmap)
  | .insert t m k x | .mapUpdate t m k x => opt (keyT T t) fun e => opt (compO m) fun m => opt (compO k) fun k => opt (compO x) fun x => some (.e (.put e.1 m k x))
  | .slice t x lo hi none => opt (compO x) fun a => opt (compOO lo) fun lo => opt (compOO hi) fun hi => match isStrT T t with
    | true => some (.p (.subs a lo hi))
    | false => opt (sliceOf T t) fun i => some (.p (.subl i.size a lo hi))
  | .fieldAddr t x i => opt (fieldOf T t i) fun f => opt (compO x) fun a => some (.p (.faddr f.1 a))
  | .field t x i => opt (fieldOf T t i) fun f => opt (compO x) fun a => some (.p (.field f.1 f.2.1 f.2.2 a))
  | .indexAddr t x ix => opt (sliceOf T t) fun i => opt (compO x) fun a => opt (compO ix) fun b => some (.p (.iaddr i.size a b))
  | .index t x ix => match isStrT T t with
    | true => opt (compO x) fun a => opt (compO ix) fun b => some (.p (.ixs a b))
    | false => none
  | .lookup t m ix ok => opt (keyT T t) fun e => opt (compO m) fun m => opt (compO ix) fun ix => some (.l (.look e.1 e.2 ok m ix))
  | .extract x i => opt (compO x) fun a => some (.p (.ext a i))
  | .call c => compCall T kd c
  | _ => none

/-- A region's operations; n: how many slots there are. -/
def compR (kd : Bool) (n : Nat) (all : List Oper) : List Oper → Option (List XR)
  | [] => some []
  | o :: l => opt (match o.dst with
      | none => some none
      | some d => match Nat.blt d n with
        | true => some (some d)
        | false => none) fun dst => opt (match o.guard with
      | none => some none
      | some (j, b) => match all[j]? with
        | some q => match q.dst with
          | some d => some (some (d, b))
          | none => none
        | none => none) fun g => opt (compOp T kd o.op) fun x => opt (compR kd n all l) fun r => some (⟨dst, g, x⟩ :: r)
end

/-! ### Regions that draw -/
def bindsAny (e : Edge) : Bool := match e.ground with
  | .textOnly _ => false
  | .gcOnly _ => false
  | _ => true
def maskOf (ms : List Nat) : List Edge → Nat
  | [] => 0
  | e :: l => match bindsAny e with
    | true => Nat.lor (Nat.lor (2 ^ e.on) (ms.getD e.on 0)) (maskOf ms l)
    | false => maskOf ms l
def masks : List Nat → List Oper → List Nat
  | ms, [] => ms
  | ms, o :: l => masks (ms ++ [maskOf ms o.after.toList]) l
def ordOk : Nat → List Oper → Bool
  | _, [] => true
  | i, o :: l => (o.after.toList.all fun e => !(bindsAny e) || Nat.blt e.on i) && (match o.guard with
    | none => true
    | some (j, _) => o.after.toList.any fun e => bindsAny e && Nat.beq e.on j) && ordOk (i + 1) l
def cmp (ms : List Nat) (i j : Nat) : Bool := Nat.testBit (ms.getD (Nat.max i j) 0) (Nat.min i j)
def isTmp (t : Nat) : Operand → Bool
  | .tmp u => Nat.beq u t
  | _ => false
def readsT (o : Oper) (t : Nat) : Bool := o.op.operands.toList.any (isTmp t)
def sameDst (a b : Option Nat) : Bool := match a, b with
  | some x, some y => Nat.beq x y
  | _, _ => false
inductive Cl where
  | pure | load | eff
def XOp.cl : XOp → Cl
  | .p _ => .pure
  | .l _ => .load
  | .e _ => .eff
/-- Is it a variable that was made ahead? -/
def isH (x : XR) : Option Nat := match x with
  | ⟨some d, none, .p (.move (.t e))⟩ => match Nat.beq d e with
    | true => some d
    | false => none
  | _ => none
def hoistL : List Oper → List XR → List XR × List (Nat × List AV)
  | o :: l, x :: m => match o.op, x with
    | .alloc _, ⟨some d, none, .e (.alloc cs)⟩ => (⟨some d, none, .p (.move (.t d))⟩ :: (hoistL l m).1, (d, cs) :: (hoistL l m).2)
    | _, x => (x :: (hoistL l m).1, (hoistL l m).2)
  | _, m => (m, [])
/-- Two operations, the first ahead of the second in the text. -/
def twoOk (ms : List Nat) (i j : Nat) (oi oj : Oper) (xi xj : XR) : Bool :=
  !(sameDst oi.dst oj.dst) &&
  (match oi.dst with
    | some t => !(readsT oj t) || cmp ms i j
    | none => true) &&
  (match oj.dst with
    | some t => !(readsT oi t) || cmp ms i j
    | none => true) &&
  (match xi.op.cl, xj.op.cl with
    | .eff, .eff => cmp ms i j
    | _, _ => true) &&
  (match isH xj with
    | some d => !(readsT oi d)
    | none => true)
def pairOf (ms : List Nat) (i j : Nat) (xi xj : XR) : List (Nat × Nat) := match xi.op.cl, xj.op.cl with
  | .load, .eff => match cmp ms i j with
    | true => []
    | false => [(i, j)]
  | .eff, .load => match cmp ms i j with
    | true => []
    | false => [(j, i)]
  | _, _ => []
def withAll (f : Nat → Oper → XR → Bool) : Nat → List Oper → List XR → Bool
  | _, [], [] => true
  | i, o :: l, x :: m => f i o x && withAll f (i + 1) l m
  | _, _, _ => false
def twosOk (ms : List Nat) : Nat → List Oper → List XR → Bool
  | _, [], [] => true
  | i, o :: l, x :: m => withAll (fun j q y => twoOk ms i j o q x y) (i + 1) l m && twosOk ms (i + 1) l m
  | _, _, _ => false
def pairsIn (f : Nat → XR → List (Nat × Nat)) : Nat → List XR → List (Nat × Nat)
  | _, [] => []
  | i, x :: m => f i x ++ pairsIn f (i + 1) m
def pairsOf (ms : List Nat) : Nat → List XR → List (Nat × Nat)
  | _, [] => []
  | i, x :: m => pairsIn (fun j y => pairOf ms i j x y) (i + 1) m ++ pairsOf ms (i + 1) m
def compD (ops : List Oper) (xs : List XR) : Option XC :=
  match ordOk 0 ops && twosOk (masks [] ops) 0 ops (hoistL ops xs).1 with
  | true => some (.regd (hoistL ops xs).2 (hoistL ops xs).1 (pairsOf (masks [] ops) 0 (hoistL ops xs).1))
  | false => none

/-! ### 's = append(s, v)' where the element is stored behind the growing -/
def operEq : Operand → Operand → Bool
  | .tmp a, .tmp b => Nat.beq a b
  | _, _ => false
/-- The operands of an append of what lies in a slot. -/
def appOf (o : Oper) : Option (Nat × Operand × Nat × Nat × Nat) := match o.dst, o.guard, o.op with
  | some a, none, .call c => match c.callee, c.args.toList, c.argTypes.toList with
    | .builtin .append, [s, .tmp u], [t, tu] => some (a, s, u, t, tu)
    | _, _, _ => none
  | _, _, _ => none
def idxOf (o : Oper) : Option (Nat × Nat × Nat × Nat) := match o.dst, o.guard, o.op with
  | some b, none, .indexAddr t (.tmp a) (.tmp q) => some (b, t, a, q)
  | _, _, _ => none
def stoOf (o : Oper) : Option (Nat × Nat × Operand) := match o.dst, o.guard, o.op with
  | none, none, .store et (.tmp b) v => some (et, b, v)
  | _, _, _ => none
/-- Where the three operations begin. -/
def findS : Nat → List Oper → Option Nat
  | k, o :: p :: q :: l => match appOf o, idxOf p, stoOf q with
    | some (a, _), some (b, _, a', _), some (_, b', _) => match Nat.beq a a' && Nat.beq b b' with
      | true => some k
      | false => findS (k + 1) (p :: q :: l)
    | _, _, _ => findS (k + 1) (p :: q :: l)
  | _, _ => none
def defAt (l : List Oper) (q : Nat) : Bool := l.any fun o => sameDst o.dst (some q)
def tailOk (o : Oper) : Bool := o.guard.isNone && (match o.op with
  | .nilCheck _ => true
  | .fieldAddr _ _ _ => true
  | .store _ _ _ => true
  | _ => false)
def setAt {α : Type} : List α → Nat → α → List α
  | [], _, _ => []
  | _ :: l, 0, y => y :: l
  | x :: l, n + 1, y => x :: setAt l n y
section
variable (T : Nat → Option TI)
def compS (ops : List Oper) (xs : List XR) : Option XC := opt (findS 0 ops) fun k =>
  opt ((ops[k]?).bind appOf) fun f => opt ((ops[k + 1]?).bind idxOf) fun g => opt ((ops[k + 2]?).bind stoOf) fun h =>
  opt (sliceOf T f.2.2.2.1) fun i => opt (sliceOf T g.2.1) fun i2 => opt (T h.1) fun ei => opt (compO f.2.1) fun s =>
  match h.2.2 with
  | .tmp vt => match Nat.beq f.1 g.2.2.1 && Nat.beq g.1 h.2.1 && Nat.beq i.size i2.size && Nat.beq i.size ei.size && srcOk T f.2.2.2.2 && defAt (ops.take k) g.2.2.2 && defAt (ops.take k) vt &&
      (List.range k).all (fun j => cmp (masks [] ops) j k) && (ops.drop (k + 3)).all tailOk with
    | false => none
    | true => compD ops (setAt (setAt (setAt xs k ⟨some f.1, none, .e (.app1 i.size i.bytes s (.t vt) (.t g.2.2.2) (.t f.2.2.1))⟩) (k + 1) ⟨some g.1, none, .p (.move (.c .any))⟩) (k + 2) ⟨none, none, .p (.move (.c und))⟩)
  | _ => none
def compDS (ops : List Oper) (xs : List XR) : Option XC := match compD ops xs with
  | some c => some c
  | none => compS T ops xs
end

section
variable (T : Nat → Option TI)
def compC (kd : Nat → Bool) (n : Nat) : Code → Option XC
  | .skip => some .skip
  | .region id ops draw => opt (compR T (kd id) n ops.toList ops.toList) fun xs => match draw with
    | true => compDS T ops.toList xs
    | false => some (.reg xs)
  | .seq a b => opt (compC kd n a) fun a => opt (compC kd n b) fun b => some (.seq a b)
  | .cond c a b => opt (compO c) fun c => opt (compC kd n a) fun a => opt (compC kd n b) fun b => some (.cond c a b)
  | .block id b => opt (compC kd n b) fun b => some (.block id b)
  | .loop b => opt (compC kd n b) fun b => some (.loop b)
  | .exit id => some (.exit id)
  | .ret => some .ret
  | _ => none
def compRes : List ResultVar → Option (List XRes)
  | [] => some []
  | .tmp t :: l => opt (compRes l) fun r => some (.t t :: r)
  | .cell a t :: l => opt (T t) fun i => opt (compRes l) fun r => match aggOf i, Nat.beq i.size 1 with
    | true, _ => some (.cell a i.size true :: r)
    | false, true => some (.cell a 1 false :: r)
    | false, false => none
def compF (kd : Nat → Bool) (fn : Func) : Option XF := match fn.body, fn.name == "runtime.NumGoroutine" with
  | some c, false => opt (compC T kd fn.ntmps c) fun b => opt (compRes T fn.results.toList) fun r => some ⟨b, r⟩
  | _, _ => none
end
end Go.Ev
namespace Go.Ev
open Go.RowKit
set_option linter.unusedVariables false

/-- Where the keys lie, the rooms behind slices, the cells that are not written any more. -/
structure G where
  key : Nat → Option Nat
  tip : Nat → Option (Nat × Nat × Nat)
  frz : Nat → Nat → Prop
structure G.le (g g' : G) : Prop where
  key : ∀ k b, g.key k = some b → g'.key k = some b
  tip : ∀ k b, g.tip k = some b → g'.tip k = some b
  frz : ∀ b i, g.frz b i → g'.frz b i
theorem G.le.refl (g : G) : g.le g := ⟨fun _ _ h => h, fun _ _ h => h, fun _ _ h => h⟩
theorem G.le.trans {a b c : G} (h : a.le b) (k : b.le c) : a.le c := ⟨fun _ _ x => k.key _ _ (h.key _ _ x), fun _ _ x => k.tip _ _ (h.tip _ _ x), fun _ _ x => k.frz _ _ (h.frz _ _ x)⟩

/-- The cells vs lie at the place and stay as they are. -/
def Row (w : World) (g : G) (b o : Nat) (vs : List Value) : Prop := ∀ i v, vs[i]? = some v → g.frz b (o + i) ∧ w.cell? ⟨b, o + i, none⟩ = some v
def One (vs : List Value) : Prop := ∀ v ∈ vs, v.oneCell' = true
/-- The room behind a slice: at o, of n elements and cap. -/
def TipOk (g : G) (size n cap b o : Nat) : Tip → Prop
  | .full => cap = n
  | .dead => True
  | .at id => g.tip id = some (b, o + n * size, o + cap * size)

mutual
inductive Rep (w : World) (g : G) : AV → Value → Prop where
  | bool (b : Bool) : Rep w g (.bool b) (.bool b)
  | int (k : IntKind) (n : Int) : Rep w g (.int k n) (.int k n)
  | str (s : List UInt8) : Rep w g (.str s) (.string ⟨s.toArray⟩)
  | nilp : Rep w g .nilp (.pointer none)
  | ptr (key off b : Nat) : g.key key = some b → Rep w g (.ptr key off) (.pointer (some ⟨b, off, none⟩))
  | ro (cs : List AV) (off : Nat) (vs : List Value) (b o : Nat) : RL w g cs vs → Row w g b o vs → One vs → Rep w g (.ro cs off) (.pointer (some ⟨b, o + off, none⟩))
  | nils : Rep w g .nils (.slice none 0 0)
  | sl (size : Nat) (es : List AV) (t : Tip) (vs : List Value) (b o cap : Nat) : RL w g (flat es) vs → Row w g b o vs → One vs → (∀ e ∈ es, e.cells.length = size) → es.length ≤ cap →
      TipOk g size es.length cap b o t → Rep w g (.sl size es t) (.slice (some ⟨b, o, none⟩) es.length cap)
  | ks (key off n b cap : Nat) : g.key key = some b → n ≤ cap → Rep w g (.ks key off n) (.slice (some ⟨b, off, none⟩) n cap)
  | nilm : Rep w g .nilm (.map none)
  | mp (key b : Nat) : g.key key = some b → Rep w g (.mp key) (.map (some b))
  | nilf : Rep w g .nilf .nilFunc
  | fn (f : Nat) (first caps : List AV) (u v : List Value) : RL w g first u → RL w g caps v → Rep w g (.fn f first caps) (.func (.func f) u.toArray v.toArray)
  | agg (cs : List AV) (vs : List Value) : RL w g cs vs → One vs → Rep w g (.agg cs) (.agg vs.toArray)
  | tup (as : List AV) (vs : List Value) : RL w g as vs → Rep w g (.tup as) (.tuple vs.toArray)
  | any (v : Value) : Rep w g .any v
inductive RL (w : World) (g : G) : List AV → List Value → Prop where
  | nil : RL w g [] []
  | cons (a : AV) (v : Value) (as : List AV) (vs : List Value) : Rep w g a v → RL w g as vs → RL w g (a :: as) (v :: vs)
end

/-- What has not been written is as it was. -/
def Same (g : G) (w w' : World) : Prop := ∀ b i, g.frz b i → w'.cell? ⟨b, i, none⟩ = w.cell? ⟨b, i, none⟩
theorem Row.mono {w w' : World} {g g' : G} {b o : Nat} {vs : List Value} (h : Row w g b o vs) (hs : Same g w w') (hl : g.le g') : Row w' g' b o vs :=
  fun i v hv => let ⟨h1, h2⟩ := h i v hv; ⟨hl.frz _ _ h1, (hs _ _ h1).trans h2⟩
theorem TipOk.mono {g g' : G} {size n cap b o : Nat} {t : Tip} (h : TipOk g size n cap b o t) (hl : g.le g') : TipOk g' size n cap b o t := by
  cases t with
  | full => exact h
  | dead => trivial
  | «at» id => exact hl.tip _ _ h
theorem Rep.mono {w w' : World} {g g' : G} (hs : Same g w w') (hl : g.le g') {a : AV} {v : Value} (h : Rep w g a v) : Rep w' g' a v :=
  Rep.rec (motive_1 := fun a v _ => Rep w' g' a v) (motive_2 := fun as vs _ => RL w' g' as vs)
    (fun b => .bool b) (fun k n => .int k n) (fun s => .str s) .nilp (fun key off b h => .ptr key off b (hl.key _ _ h))
    (fun cs off vs b o _ h2 h3 ih => .ro cs off vs b o ih (h2.mono hs hl) h3) .nils
    (fun size es t vs b o cap _ h2 h3 h4 h5 h6 ih => .sl size es t vs b o cap ih (h2.mono hs hl) h3 h4 h5 (h6.mono hl))
    (fun key off n b cap h h' => .ks key off n b cap (hl.key _ _ h) h') .nilm (fun key b h => .mp key b (hl.key _ _ h)) .nilf
    (fun f first caps u v _ _ i1 i2 => .fn f first caps u v i1 i2) (fun cs vs _ h2 ih => .agg cs vs ih h2) (fun as vs _ ih => .tup as vs ih) (fun v => .any v)
    .nil (fun a v as vs _ _ i1 i2 => .cons a v as vs i1 i2) h
theorem RL.mono {w w' : World} {g g' : G} (hs : Same g w w') (hl : g.le g') {as : List AV} {vs : List Value} (h : RL w g as vs) : RL w' g' as vs :=
  RL.rec (motive_1 := fun a v _ => Rep w' g' a v) (motive_2 := fun as vs _ => RL w' g' as vs)
    (fun b => .bool b) (fun k n => .int k n) (fun s => .str s) .nilp (fun key off b h => .ptr key off b (hl.key _ _ h))
    (fun cs off vs b o _ h2 h3 ih => .ro cs off vs b o ih (h2.mono hs hl) h3) .nils
    (fun size es t vs b o cap _ h2 h3 h4 h5 h6 ih => .sl size es t vs b o cap ih (h2.mono hs hl) h3 h4 h5 (h6.mono hl))
    (fun key off n b cap h h' => .ks key off n b cap (hl.key _ _ h) h') .nilm (fun key b h => .mp key b (hl.key _ _ h)) .nilf
    (fun f first caps u v _ _ i1 i2 => .fn f first caps u v i1 i2) (fun cs vs _ h2 ih => .agg cs vs ih h2) (fun as vs _ ih => .tup as vs ih) (fun v => .any v)
    .nil (fun a v as vs _ _ i1 i2 => .cons a v as vs i1 i2) h

section
variable {w : World} {g : G}
theorem RL.length {as : List AV} {vs : List Value} (h : RL w g as vs) : vs.length = as.length := by
  induction as generalizing vs with
  | nil => cases h; rfl
  | cons a as ih => cases h with
    | cons _ v _ vs h1 h2 => simp [ih h2]
theorem RL.get {as : List AV} {vs : List Value} (h : RL w g as vs) {i : Nat} {a : AV} (ha : as[i]? = some a) : ∃ v, vs[i]? = some v ∧ Rep w g a v := by
  induction as generalizing vs i with
  | nil => simp at ha
  | cons b as ih => cases h with
    | cons _ v _ vs h1 h2 => cases i with
      | zero => simp at ha; subst ha; exact ⟨v, rfl, h1⟩
      | succ i => simp at ha; simpa using ih h2 ha
theorem RL.append {as bs : List AV} {us vs : List Value} (h : RL w g as us) (k : RL w g bs vs) : RL w g (as ++ bs) (us ++ vs) := by
  induction as generalizing us with
  | nil => cases h; exact k
  | cons a as ih => cases h with
    | cons _ v _ vs h1 h2 => exact .cons _ _ _ _ h1 (ih h2)
theorem RL.drop {as : List AV} {vs : List Value} (h : RL w g as vs) (n : Nat) : RL w g (as.drop n) (vs.drop n) := by
  induction as generalizing vs n with
  | nil => cases h; simpa using RL.nil
  | cons a as ih => cases h with
    | cons _ v _ vs h1 h2 => cases n with
      | zero => exact .cons _ _ _ _ h1 h2
      | succ n => simpa using ih h2 n
theorem RL.take {as : List AV} {vs : List Value} (h : RL w g as vs) (n : Nat) : RL w g (as.take n) (vs.take n) := by
  induction as generalizing vs n with
  | nil => cases h; simpa using RL.nil
  | cons a as ih => cases h with
    | cons _ v _ vs h1 h2 => cases n with
      | zero => simpa using RL.nil
      | succ n => simpa using RL.cons _ _ _ _ h1 (ih h2 n)
theorem RL.one {a : AV} {v : Value} (h : Rep w g a v) : RL w g [a] [v] := .cons _ _ _ _ h .nil
theorem RL.replicate {as : List AV} {vs : List Value} (h : RL w g as vs) (n : Nat) : RL w g (List.replicate n as).flatten (List.replicate n vs).flatten := by
  induction n with
  | zero => simpa using RL.nil
  | succ n ih => simpa [List.replicate_succ] using h.append ih
theorem One.nil : One [] := fun _ h => by cases h
theorem One.append {us vs : List Value} (h : One us) (k : One vs) : One (us ++ vs) := fun v hv => (List.mem_append.1 hv).elim (h v) (k v)
theorem One.drop {vs : List Value} (h : One vs) (n : Nat) : One (vs.drop n) := fun v hv => h v (List.mem_of_mem_drop hv)
theorem One.take {vs : List Value} (h : One vs) (n : Nat) : One (vs.take n) := fun v hv => h v (List.mem_of_mem_take hv)
theorem One.get {vs : List Value} (h : One vs) {i : Nat} {v : Value} (hv : vs[i]? = some v) : v.oneCell' = true := h v (List.mem_of_getElem? hv)
theorem Row.nil (b o : Nat) : Row w g b o [] := fun i v h => by simp at h
theorem Row.drop {b o : Nat} {vs : List Value} (h : Row w g b o vs) (n : Nat) : Row w g b (o + n) (vs.drop n) := fun i v hv => by
  rw [List.getElem?_drop] at hv
  have := h _ _ hv
  rwa [← Nat.add_assoc] at this
theorem Row.take {b o : Nat} {vs : List Value} (h : Row w g b o vs) (n : Nat) : Row w g b o (vs.take n) := fun i v hv => by
  rw [List.getElem?_take] at hv
  split at hv
  · exact h _ _ hv
  · cases hv
theorem Row.append {b o : Nat} {us vs : List Value} (h : Row w g b o us) (k : Row w g b (o + us.length) vs) : Row w g b o (us ++ vs) := fun i v hv => by
  rw [List.getElem?_append] at hv
  split at hv
  · exact h _ _ hv
  · have := k _ _ hv
    have e : o + us.length + (i - us.length) = o + i := by omega
    rwa [e] at this
theorem Row.rangeAt {b o : Nat} {vs : List Value} (h : Row w g b o vs) : w.rangeAt b o vs := fun j v hv => (h j v hv).2

/-- A value and its cells. -/
theorem Rep.cells {a : AV} {v : Value} (h : Rep w g a v) (ha : a.cells ≠ []) : ∃ vs, v.cells = vs.toArray ∧ RL w g a.cells vs ∧ One vs := by
  have atom : ∀ {a : AV} {v : Value}, Rep w g a v → v.oneCell' = true → a.cells = [a] → ∃ vs, v.cells = vs.toArray ∧ RL w g a.cells vs ∧ One vs := by
    intro a v h h1 h2
    refine ⟨[v], ?_, ?_, ?_⟩
    · cases v <;> first | rfl | simp [Value.oneCell'] at h1
    · rw [h2]; exact RL.one h
    · intro u hu
      simp at hu; subst hu; exact h1
  have h' := h
  cases h with
  | agg cs vs h1 h2 => exact ⟨vs, by simp [Value.cells], by simpa [AV.cells] using h1, h2⟩
  | _ => first
    | exact absurd rfl ha
    | exact atom h' rfl rfl
end
end Go.Ev
namespace Go.Ev
open Go.RowKit
set_option linter.unusedVariables false

theorem natBeq (a b : Nat) : Nat.beq a b = decide (a = b) := by
  cases h : Nat.beq a b with
  | true => simpa using (Nat.eq_of_beq_eq_true h)
  | false => simpa using (Nat.ne_of_beq_eq_false h)
theorem brec {α : Type} (a b : Nat) (u v : α) : (Bool.rec (motive := fun _ => α) u v (Nat.beq a b)) = if a = b then v else u := by
  rw [natBeq]
  by_cases h : a = b <;> simp [h]
section
variable {α : Type}
theorem Tr.get_nil (k : Nat) : (Tr.nil : Tr α).get k = none := rfl
theorem Tr.get_node (v : Option α) (l r : Tr α) (k : Nat) : (Tr.node v l r).get k = if k = 0 then v else if k % 2 = 1 then l.get (k / 2) else r.get (k / 2 - 1) := by
  show Bool.rec (motive := fun _ => Option α) (Bool.rec (motive := fun _ => Option α) (r.get (Nat.sub (Nat.div k 2) 1)) (l.get (Nat.div k 2)) (Nat.beq (Nat.mod k 2) 1)) v (Nat.beq k 0) = _
  rw [brec, brec]; rfl
theorem Tr.setF_nil (x : α) (f k : Nat) : Tr.setF x (f + 1) .nil k = if k = 0 then .node (some x) .nil .nil else if k % 2 = 1 then .node none (Tr.setF x f .nil (k / 2)) .nil else .node none .nil (Tr.setF x f .nil (k / 2 - 1)) := by
  show Bool.rec (motive := fun _ => Tr α) (Bool.rec (motive := fun _ => Tr α) (.node none .nil (Tr.setF x f .nil (Nat.sub (Nat.div k 2) 1))) (.node none (Tr.setF x f .nil (Nat.div k 2)) .nil) (Nat.beq (Nat.mod k 2) 1)) (.node (some x) .nil .nil) (Nat.beq k 0) = _
  rw [brec, brec]; rfl
theorem Tr.setF_node (x : α) (f k : Nat) (v : Option α) (l r : Tr α) : Tr.setF x (f + 1) (.node v l r) k = if k = 0 then .node (some x) l r else if k % 2 = 1 then .node v (Tr.setF x f l (k / 2)) r else .node v l (Tr.setF x f r (k / 2 - 1)) := by
  show Bool.rec (motive := fun _ => Tr α) (Bool.rec (motive := fun _ => Tr α) (.node v l (Tr.setF x f r (Nat.sub (Nat.div k 2) 1))) (.node v (Tr.setF x f l (Nat.div k 2)) r) (Nat.beq (Nat.mod k 2) 1)) (.node (some x) l r) (Nat.beq k 0) = _
  rw [brec, brec]; rfl
theorem Tr.get_setF (x : α) : ∀ (f : Nat) (t : Tr α) (k j : Nat), k < f → (Tr.setF x f t k).get j = if j = k then some x else t.get j := by
  intro f
  induction f with
  | zero => intro t k j h; omega
  | succ f ih =>
    intro t k j h
    cases t with
    | nil =>
      rw [Tr.setF_nil]
      by_cases h0 : k = 0
      · rw [if_pos h0, Tr.get_node]
        subst h0
        by_cases hj : j = 0
        · simp [hj]
        · simp [hj, Tr.get_nil]
      · rw [if_neg h0]
        by_cases h1 : k % 2 = 1
        · rw [if_pos h1, Tr.get_node]
          by_cases hj : j = 0
          · subst hj; rw [if_pos rfl, if_neg (by omega)]; rfl
          · rw [if_neg hj]
            by_cases hj1 : j % 2 = 1
            · rw [if_pos hj1, ih _ _ _ (by omega)]
              by_cases e : j = k
              · subst e; simp
              · rw [if_neg (by omega), if_neg e]; rfl
            · rw [if_neg hj1, if_neg (by omega)]; rfl
        · rw [if_neg h1, Tr.get_node]
          by_cases hj : j = 0
          · subst hj; rw [if_pos rfl, if_neg (by omega)]; rfl
          · rw [if_neg hj]
            by_cases hj1 : j % 2 = 1
            · rw [if_pos hj1, if_neg (by omega)]; rfl
            · rw [if_neg hj1, ih _ _ _ (by omega)]
              by_cases e : j = k
              · subst e; simp
              · rw [if_neg (by omega), if_neg e]; rfl
    | node v l r =>
      rw [Tr.setF_node]
      by_cases h0 : k = 0
      · rw [if_pos h0, Tr.get_node, Tr.get_node]
        subst h0
        by_cases hj : j = 0
        · simp [hj]
        · simp [hj]
      · rw [if_neg h0]
        by_cases h1 : k % 2 = 1
        · rw [if_pos h1, Tr.get_node, Tr.get_node]
          by_cases hj : j = 0
          · subst hj; rw [if_pos rfl, if_neg (by omega), if_pos rfl]
          · rw [if_neg hj, if_neg hj]
            by_cases hj1 : j % 2 = 1
            · rw [if_pos hj1, if_pos hj1, ih _ _ _ (by omega)]
              by_cases e : j = k
              · subst e; simp
              · rw [if_neg (by omega), if_neg e]
            · rw [if_neg hj1, if_neg hj1, if_neg (by omega)]
        · rw [if_neg h1, Tr.get_node, Tr.get_node]
          by_cases hj : j = 0
          · subst hj; rw [if_pos rfl, if_neg (by omega), if_pos rfl]
          · rw [if_neg hj, if_neg hj]
            by_cases hj1 : j % 2 = 1
            · rw [if_pos hj1, if_pos hj1, if_neg (by omega)]
            · rw [if_neg hj1, if_neg hj1, ih _ _ _ (by omega)]
              by_cases e : j = k
              · subst e; simp
              · rw [if_neg (by omega), if_neg e]
theorem Tr.get_set (t : Tr α) (k j : Nat) (x : α) : (t.set k x).get j = if j = k then some x else t.get j := Tr.get_setF x _ t k j (Nat.lt_succ_self k)
end

theorem nth_eq {α : Type} (l : List α) (n : Nat) : nth l n = l[n]? := by
  induction l generalizing n with
  | nil => rfl
  | cons a l ih =>
    show Bool.rec (motive := fun _ => Option α) (nth l (Nat.pred n)) (some a) (Nat.beq n 0) = _
    rw [brec]
    cases n with
    | zero => rfl
    | succ n => simpa using ih n
theorem splice_nil (n : Nat) (vs : List AV) : splice [] n vs = vs := rfl
theorem splice_cons (c : AV) (t : List AV) (n : Nat) (vs : List AV) : splice (c :: t) n vs = if n = 0 then vs ++ (c :: t).drop vs.length else c :: splice t (n - 1) vs := by
  show Bool.rec (motive := fun _ => List AV) (c :: splice t (Nat.pred n) vs) (vs ++ (c :: t).drop vs.length) (Nat.beq n 0) = _
  rw [brec]; rfl
theorem splice_eq (cs : List AV) (n : Nat) (vs : List AV) (h : n + vs.length ≤ cs.length) : splice cs n vs = cs.take n ++ vs ++ cs.drop (n + vs.length) := by
  induction cs generalizing n with
  | nil =>
    have : vs = [] := List.eq_nil_of_length_eq_zero (by simp only [List.length_nil] at h; omega)
    subst this
    simp [splice_nil]
  | cons c t ih =>
    rw [splice_cons]
    by_cases hn : n = 0
    · subst hn; simp
    · rw [if_neg hn, ih (n - 1) (by simp at h; omega)]
      obtain ⟨m, rfl⟩ : ∃ m, n = m + 1 := ⟨n - 1, by omega⟩
      have e : m + 1 + vs.length = m + vs.length + 1 := by omega
      simp [e]
theorem eqL_eq (s t : List UInt8) : eqL s t = decide (s = t) := by
  induction s generalizing t with
  | nil => cases t <;> simp [eqL]
  | cons a s ih =>
    cases t with
    | nil => simp [eqL]
    | cons b t =>
      show Bool.rec (motive := fun _ => Bool) false (eqL s t) (Nat.beq a.toNat b.toNat) = _
      rw [brec, ih]
      by_cases h : a = b
      · subst h; simp
      · have : ¬ a.toNat = b.toNat := fun e => h (UInt8.toNat_inj.1 e)
        simp [h, this]
theorem beqInt_eq (a b : Int) : beqInt a b = decide (a = b) := by
  cases a <;> cases b <;> simp only [beqInt, natBeq] <;> simp
  all_goals omega

/-- Is it a variable or a map? -/
def Ent.obj : Ent → Bool
  | .box _ _ => true
  | .map _ _ => true
  | _ => false
def live (H : Tr Ent) (k : Nat) : Prop := ∃ e, H.get k = some e ∧ e.obj = true
/-- The entries of a map. -/
def MapRel (w : World) (g : G) (kv : List (AV × AV)) (es : List MapEntry) : Prop := RL w g (kv.map (·.1)) (es.map (·.key)) ∧ RL w g (kv.map (·.2)) (es.map (·.val))

/-- What lies at a key. -/
def EntOk (w : World) (g : G) (b : Nat) : Ent → Prop
  | .box _ cs => ∃ vs, RL w g cs vs ∧ One vs ∧ w.rangeAt b 0 vs ∧ w.there b 0 vs.length
  | .map _ kv => ∃ es clock, w.heap[b]? = some (.map es clock) ∧ MapRel w g kv es.toList
  | _ => True
theorem rangeAt_block {w w' : World} {b o : Nat} {vs : List Value} (h : w.rangeAt b o vs) (hb : w'.heap[b]? = w.heap[b]?) : w'.rangeAt b o vs := fun j v hv => (World.cell?_of_block (a := ⟨b, o + j, none⟩) hb).trans (h j v hv)
theorem there_block {w w' : World} {b o n : Nat} (h : w.there b o n) (hb : w'.heap[b]? = w.heap[b]?) : w'.there b o n := fun j hj => by
  obtain ⟨h1, h2⟩ := h j hj
  exact ⟨by rw [World.cell?_of_block (a := ⟨b, o + j, none⟩) hb]; exact h1, by rw [World.frozen?_of_block (a := ⟨b, o + j, none⟩) hb]; exact h2⟩
theorem EntOk.mono {w w' : World} {g g' : G} {b : Nat} {e : Ent} (h : EntOk w g b e) (hs : Same g w w') (hl : g.le g') (hb : w'.heap[b]? = w.heap[b]?) : EntOk w' g' b e := by
  cases e with
  | box v cs => obtain ⟨vs, h1, h2, h3, h4⟩ := h; exact ⟨vs, h1.mono hs hl, h2, rangeAt_block h3 hb, there_block h4 hb⟩
  | map v kv => obtain ⟨es, c, h1, h2, h3⟩ := h; exact ⟨es, c, hb.trans h1, h2.mono hs hl, h3.mono hs hl⟩
  | tip => trivial
  | gone => trivial

/-- The variables, maps and rooms lie in memory of the call's own, apart from each other and from what stays. -/
structure Inv (base : Nat) (g : G) (st : St) (w : World) : Prop where
  base_le : base ≤ w.heap.size
  entLt : ∀ k e, st.heap.get k = some e → k < st.next
  keyLt : ∀ k b, g.key k = some b → k < st.next ∧ b < w.heap.size
  tipLt : ∀ k b s e, g.tip k = some (b, s, e) → k < st.next ∧ b < w.heap.size
  frzIn : ∀ b i, g.frz b i → ∃ v, w.cell? ⟨b, i, none⟩ = some v
  ent : ∀ k e b, st.heap.get k = some e → g.key k = some b → EntOk w g b e ∧ (e.obj = true → base ≤ b)
  tip : ∀ id b s e, st.heap.get id = some .tip → g.tip id = some (b, s, e) → base ≤ b ∧ s ≤ e ∧ w.there b s (e - s) ∧ ∀ i, s ≤ i → i < e → ¬ g.frz b i
  keyFrz : ∀ k b i, live st.heap k → g.key k = some b → ¬ g.frz b i
  keyInj : ∀ k j b, live st.heap k → live st.heap j → g.key k = some b → g.key j = some b → k = j
  keyTip : ∀ k id b s e, live st.heap k → st.heap.get id = some .tip → g.key k = some b → ¬ g.tip id = some (b, s, e)
  tipInj : ∀ i j b s e s' e', st.heap.get i = some .tip → st.heap.get j = some .tip → i ≠ j → g.tip i = some (b, s, e) → g.tip j = some (b, s', e') → e ≤ s' ∨ e' ≤ s

/-- What a step does. -/
structure Ext (base : Nat) (g : G) (st : St) (w : World) (g' : G) (st' : St) (w' : World) : Prop where
  le : g.le g'
  same : Same g w w'
  below : Below base w w'
  next : st.next ≤ st'.next
  fnew : ∀ b i, g'.frz b i → g.frz b i ∨ base ≤ b
  absent : ∀ k e, st.heap.get k = some e → e.obj = true → g.key k = none → st'.heap.get k = some e ∧ g'.key k = none
theorem Ext.refl (base : Nat) (g : G) (st : St) (w : World) : Ext base g st w g st w := ⟨.refl g, fun _ _ _ => rfl, .refl base w, Nat.le_refl _, fun _ _ h => .inl h, fun _ _ h _ hn => ⟨h, hn⟩⟩
theorem Same.trans {g g' : G} {a b c : World} (h : Same g a b) (hl : g.le g') (k : Same g' b c) : Same g a c := fun x i hx => (k x i (hl.frz _ _ hx)).trans (h x i hx)
theorem Ext.trans {base : Nat} {g g' g'' : G} {st st' st'' : St} {w w' w'' : World} (h : Ext base g st w g' st' w') (k : Ext base g' st' w' g'' st'' w'') : Ext base g st w g'' st'' w'' :=
  ⟨h.le.trans k.le, h.same.trans h.le k.same, h.below.trans k.below, Nat.le_trans h.next k.next, fun b i hx => (k.fnew b i hx).elim (h.fnew b i) .inr, fun j e hj ho hn =>
    let ⟨a, b⟩ := h.absent j e hj ho hn
    k.absent j e a ho b⟩
theorem Rep.ext {base : Nat} {g g' : G} {st st' : St} {w w' : World} (h : Ext base g st w g' st' w') {a : AV} {v : Value} (hr : Rep w g a v) : Rep w' g' a v := hr.mono h.same h.le
theorem RL.ext {base : Nat} {g g' : G} {st st' : St} {w w' : World} (h : Ext base g st w g' st' w') {a : List AV} {v : List Value} (hr : RL w g a v) : RL w' g' a v := hr.mono h.same h.le
theorem cell_lt {w : World} {b i : Nat} {v : Value} (h : w.cell? ⟨b, i, none⟩ = some v) : b < w.heap.size := World.block_lt_of_cell? w ⟨b, i, none⟩ h

theorem get_new (st : St) (e : Ent) (j : Nat) : (st.new e).heap.get j = if j = st.next then some e else st.heap.get j := Tr.get_set _ _ _ _
theorem get_put (st : St) (k : Nat) (e : Ent) (j : Nat) : (st.put k e).heap.get j = if j = k then some e else st.heap.get j := Tr.get_set _ _ _ _
section
variable {base : Nat} {g : G} {st : St} {w : World}
/-- A change of memory that leaves what is owned. -/
theorem Inv.other (h : Inv base g st w) {w' : World} (hs : Same g w w') (hz : w.heap.size ≤ w'.heap.size) (hbl : Below base w w')
    (hk : ∀ k b, live st.heap k → g.key k = some b → w'.heap[b]? = w.heap[b]?) (ht : ∀ id b s e, st.heap.get id = some .tip → g.tip id = some (b, s, e) → w'.heap[b]? = w.heap[b]?) :
    Inv base g st w' ∧ Ext base g st w g st w' := by
  refine ⟨⟨Nat.le_trans h.base_le hz, h.entLt, fun k b hk' => ?_, fun k b s e hk' => ?_, fun b i hb => ?_, ?_, ?_, h.keyFrz, h.keyInj, h.keyTip, h.tipInj⟩, ⟨.refl g, hs, hbl, Nat.le_refl _, fun _ _ h => .inl h, fun _ _ h _ hn => ⟨h, hn⟩⟩⟩
  · have := h.keyLt k b hk'; exact ⟨this.1, by omega⟩
  · have := h.tipLt k b s e hk'; exact ⟨this.1, by omega⟩
  · obtain ⟨v, hv⟩ := h.frzIn b i hb
    exact ⟨v, (hs b i hb).trans hv⟩
  · intro k e b hk' hb
    obtain ⟨h1, h2⟩ := h.ent k e b hk' hb
    refine ⟨?_, h2⟩
    cases he : e.obj with
    | true => exact h1.mono hs (.refl g) (hk k b ⟨e, hk', he⟩ hb)
    | false => cases e <;> first | trivial | simp [Ent.obj] at he
  · intro id b s e hk' hb
    obtain ⟨h1, h2, h3, h4⟩ := h.tip id b s e hk' hb
    exact ⟨h1, h2, there_block h3 (ht id b s e hk' hb), h4⟩
/-- A draw. -/
theorem Inv.drew (h : Inv base g st w) : Inv base g st w.drew ∧ Ext base g st w g st w.drew :=
  h.other (fun _ _ _ => rfl) (Nat.le_refl _) (Below.refl base w).drew (fun _ _ _ _ => rfl) (fun _ _ _ _ _ _ => rfl)
/-- A block more, of which nothing is said. -/
theorem Inv.alloc (h : Inv base g st w) (o : Obj) : Inv base g st (w.alloc o) ∧ Ext base g st w g st (w.alloc o) := by
  have hs : Same g w (w.alloc o) := fun b i hb => by
    obtain ⟨v, hv⟩ := h.frzIn b i hb
    exact World.cell?_alloc_lt w o _ (cell_lt hv)
  have hz : (w.alloc o).heap.size = w.heap.size + 1 := by simp
  exact h.other hs (by omega) ((Below.refl base w).alloc h.base_le o) (fun k b _ hb => heap_alloc_old w o b (h.keyLt k b hb).2) (fun id b s e _ hb => heap_alloc_old w o b (h.tipLt id b s e hb).2)
/-- Cells that nobody writes stay from now on. -/
theorem Inv.freeze (h : Inv base g st w) (b lo hi : Nat) (hb0 : base ≤ b) (hk : ∀ k, live st.heap k → g.key k ≠ some b) (ht : ∀ k s e, st.heap.get k = some .tip → g.tip k = some (b, s, e) → ∀ i, s ≤ i → i < e → ¬ (lo ≤ i ∧ i < hi)) (hc : ∀ i, lo ≤ i → i < hi → ∃ v, w.cell? ⟨b, i, none⟩ = some v) :
    Inv base { g with frz := fun c i => g.frz c i ∨ (c = b ∧ lo ≤ i ∧ i < hi) } st w ∧ Ext base g st w { g with frz := fun c i => g.frz c i ∨ (c = b ∧ lo ≤ i ∧ i < hi) } st w := by
  have hl : g.le { g with frz := fun c i => g.frz c i ∨ (c = b ∧ lo ≤ i ∧ i < hi) } := ⟨fun _ _ h => h, fun _ _ h => h, fun _ _ h => .inl h⟩
  have hs : Same g w w := fun _ _ _ => rfl
  refine ⟨⟨h.base_le, h.entLt, h.keyLt, h.tipLt, ?_, ?_, ?_, ?_, h.keyInj, h.keyTip, h.tipInj⟩, ⟨hl, hs, .refl base w, Nat.le_refl _, fun c i hx => hx.elim .inl (fun hx => .inr (by rw [hx.1]; exact hb0)), fun _ _ h _ hn => ⟨h, hn⟩⟩⟩
  · rintro c i (hc' | ⟨rfl, hi, hi'⟩)
    · exact h.frzIn c i hc'
    · exact hc i hi hi'
  · intro k e c hk' hb
    obtain ⟨h1, h2⟩ := h.ent k e c hk' hb
    exact ⟨h1.mono hs hl rfl, h2⟩
  · intro id c s e hk' hb
    obtain ⟨h1, h2, h3, h4⟩ := h.tip id c s e hk' hb
    refine ⟨h1, h2, h3, fun i h5 h6 => ?_⟩
    rintro (hf | ⟨rfl, h7, h8⟩)
    · exact h4 i h5 h6 hf
    · exact ht id s e hk' hb i h5 h6 ⟨h7, h8⟩
  · rintro k c i hlv hb (hf | ⟨rfl, _⟩)
    · exact h.keyFrz k c i hlv hb hf
    · exact hk k hlv hb
/-- A block that nobody owns gets a key. -/
theorem Inv.addKey (h : Inv base g st w) (b : Nat) (e : Ent) (he : e.obj = true) (hb0 : base ≤ b) (hb1 : b < w.heap.size) (hk : ∀ k, live st.heap k → g.key k ≠ some b)
    (ht : ∀ k s e, st.heap.get k = some .tip → g.tip k ≠ some (b, s, e)) (hf : ∀ i, ¬ g.frz b i) (hok : EntOk w g b e) :
    Inv base { g with key := fun k => if k = st.next then some b else g.key k } (st.new e) w ∧ Ext base g st w { g with key := fun k => if k = st.next then some b else g.key k } (st.new e) w := by
  have hn : g.key st.next = none := by
    cases hx : g.key st.next with
    | none => rfl
    | some c => have := (h.keyLt _ _ hx).1; omega
  have hl : g.le { g with key := fun k => if k = st.next then some b else g.key k } := ⟨fun k c hc => by
    have : k ≠ st.next := fun e => by rw [e, hn] at hc; cases hc
    simpa [this] using hc, fun _ _ h => h, fun _ _ h => h⟩
  have hs : Same g w w := fun _ _ _ => rfl
  have hne : e ≠ .tip := fun e' => by rw [e'] at he; cases he
  have hlv : ∀ k, live (st.new e).heap k → k = st.next ∨ (k ≠ st.next ∧ live st.heap k) := by
    rintro k ⟨x, hx, hy⟩
    rw [get_new] at hx
    by_cases hk' : k = st.next
    · exact .inl hk'
    · rw [if_neg hk'] at hx; exact .inr ⟨hk', x, hx, hy⟩
  have htp : ∀ k, (st.new e).heap.get k = some .tip → k ≠ st.next ∧ st.heap.get k = some .tip := by
    intro k hx
    rw [get_new] at hx
    by_cases hk' : k = st.next
    · rw [if_pos hk'] at hx; injection hx with hx; exact absurd hx hne
    · rw [if_neg hk'] at hx; exact ⟨hk', hx⟩
  refine ⟨⟨h.base_le, ?_, ?_, ?_, h.frzIn, ?_, ?_, ?_, ?_, ?_, ?_⟩, ⟨hl, hs, .refl base w, Nat.le_succ _, fun _ _ h => .inl h, ?_⟩⟩
  · intro k x hx
    rw [get_new] at hx
    show k < st.next + 1
    by_cases hk' : k = st.next
    · omega
    · rw [if_neg hk'] at hx; have := h.entLt k x hx; omega
  · intro k c hc
    show k < st.next + 1 ∧ _
    by_cases hk' : k = st.next
    · simp [hk'] at hc; subst hc; exact ⟨by omega, hb1⟩
    · simp [hk'] at hc; have := h.keyLt k c hc; exact ⟨by omega, this.2⟩
  · intro k c s x hx
    have := h.tipLt k c s x hx
    exact ⟨Nat.lt_succ_of_lt this.1, this.2⟩
  · intro k x c hx hc
    rw [get_new] at hx
    by_cases hk' : k = st.next
    · rw [if_pos hk'] at hx
      injection hx with hx; subst hx
      simp [hk'] at hc; subst hc
      exact ⟨hok.mono hs hl rfl, fun _ => hb0⟩
    · rw [if_neg hk'] at hx
      simp [hk'] at hc
      obtain ⟨h1, h2⟩ := h.ent k x c hx hc
      exact ⟨h1.mono hs hl rfl, h2⟩
  · intro id c s x hx hc
    exact h.tip id c s x (htp id hx).2 hc
  · intro k c i hx hc
    rcases hlv k hx with hk' | ⟨hk', hx'⟩
    · simp [hk'] at hc; subst hc; exact hf i
    · simp [hk'] at hc; exact h.keyFrz k c i hx' hc
  · intro k j c hx hy hc hd
    rcases hlv k hx with hk' | ⟨hk', hx'⟩ <;> rcases hlv j hy with hj' | ⟨hj', hy'⟩
    · rw [hk', hj']
    · simp [hk'] at hc; simp [hj'] at hd; subst hc; exact absurd hd (hk j hy')
    · simp [hk'] at hc; simp [hj'] at hd; subst hd; exact absurd hc (hk k hx')
    · simp [hk'] at hc; simp [hj'] at hd; exact h.keyInj k j c hx' hy' hc hd
  · intro k id c s x hx hy hc hd
    rcases hlv k hx with hk' | ⟨hk', hx'⟩
    · simp [hk'] at hc; subst hc; exact ht id s x (htp id hy).2 hd
    · simp [hk'] at hc; exact h.keyTip k id c s x hx' (htp id hy).2 hc hd
  · intro i j c s x s' x' hi hj hne' hc hd
    exact h.tipInj i j c s x s' x' (htp i hi).2 (htp j hj).2 hne' hc hd
  · intro k e' hk' _ hnk
    have hlt := h.entLt k e' hk'
    refine ⟨?_, ?_⟩
    · rw [get_new, if_neg (by omega)]; exact hk'
    · show (if k = st.next then some b else g.key k) = none
      rw [if_neg (by omega)]; exact hnk
/-- The room behind a row gets a number. -/
theorem Inv.addTip (h : Inv base g st w) (b s e : Nat) (hb0 : base ≤ b) (hb1 : b < w.heap.size) (hse : s ≤ e) (hth : w.there b s (e - s)) (hf : ∀ i, s ≤ i → i < e → ¬ g.frz b i)
    (hk : ∀ k, live st.heap k → g.key k ≠ some b) (ht : ∀ k s' e', st.heap.get k = some .tip → g.tip k = some (b, s', e') → e ≤ s' ∨ e' ≤ s) :
    Inv base { g with tip := fun k => if k = st.next then some (b, s, e) else g.tip k } (st.new .tip) w ∧ Ext base g st w { g with tip := fun k => if k = st.next then some (b, s, e) else g.tip k } (st.new .tip) w := by
  have hn : g.tip st.next = none := by
    cases hx : g.tip st.next with
    | none => rfl
    | some c => obtain ⟨c, s', e'⟩ := c; have := (h.tipLt _ _ _ _ hx).1; omega
  have hl : g.le { g with tip := fun k => if k = st.next then some (b, s, e) else g.tip k } := ⟨fun _ _ h => h, fun k c hc => by
    have : k ≠ st.next := fun e => by rw [e, hn] at hc; cases hc
    simpa [this] using hc, fun _ _ h => h⟩
  have hs : Same g w w := fun _ _ _ => rfl
  have hlv : ∀ k, live (st.new .tip).heap k → live st.heap k := by
    rintro k ⟨x, hx, hy⟩
    rw [get_new] at hx
    by_cases hk' : k = st.next
    · rw [if_pos hk'] at hx; injection hx with hx; subst hx; cases hy
    · rw [if_neg hk'] at hx; exact ⟨x, hx, hy⟩
  have htp : ∀ k, (st.new .tip).heap.get k = some .tip → k ≠ st.next → st.heap.get k = some .tip := by
    intro k hx hk'
    rw [get_new, if_neg hk'] at hx; exact hx
  refine ⟨⟨h.base_le, ?_, ?_, ?_, h.frzIn, ?_, ?_, ?_, ?_, ?_, ?_⟩, ⟨hl, hs, .refl base w, Nat.le_succ _, fun _ _ h => .inl h, ?_⟩⟩
  · intro k x hx
    rw [get_new] at hx
    show k < st.next + 1
    by_cases hk' : k = st.next
    · omega
    · rw [if_neg hk'] at hx; have := h.entLt k x hx; omega
  · intro k c hc
    have := h.keyLt k c hc; exact ⟨Nat.lt_succ_of_lt this.1, this.2⟩
  · intro k c s' x hx
    show k < st.next + 1 ∧ _
    by_cases hk' : k = st.next
    · simp [hk'] at hx; obtain ⟨rfl, _⟩ := hx; exact ⟨by omega, hb1⟩
    · simp [hk'] at hx; have := h.tipLt k c s' x hx; exact ⟨by omega, this.2⟩
  · intro k x c hx hc
    rw [get_new] at hx
    by_cases hk' : k = st.next
    · rw [if_pos hk'] at hx
      injection hx with hx; subst hx
      exact ⟨trivial, fun h => by cases h⟩
    · rw [if_neg hk'] at hx
      obtain ⟨h1, h2⟩ := h.ent k x c hx hc
      exact ⟨h1.mono hs hl rfl, h2⟩
  · intro id c s' x hx hc
    by_cases hk' : id = st.next
    · simp [hk'] at hc
      obtain ⟨rfl, rfl, rfl⟩ := hc
      exact ⟨hb0, hse, hth, hf⟩
    · simp [hk'] at hc
      exact h.tip id c s' x (htp id hx hk') hc
  · intro k c i hx hc
    exact h.keyFrz k c i (hlv k hx) hc
  · intro k j c hx hy hc hd
    exact h.keyInj k j c (hlv k hx) (hlv j hy) hc hd
  · intro k id c s' x hx hy hc hd
    by_cases hk' : id = st.next
    · simp [hk'] at hd
      obtain ⟨rfl, _⟩ := hd
      exact hk k (hlv k hx) hc
    · simp [hk'] at hd
      exact h.keyTip k id c s' x (hlv k hx) (htp id hy hk') hc hd
  · intro i j c s1 x s' x' hi hj hne hc hd
    by_cases hi' : i = st.next <;> by_cases hj' : j = st.next
    · exact absurd (hi'.trans hj'.symm) hne
    · simp [hi'] at hc; simp [hj'] at hd
      obtain ⟨rfl, rfl, rfl⟩ := hc
      exact ht j s' x' (htp j hj hj') hd
    · simp [hi'] at hc; simp [hj'] at hd
      obtain ⟨rfl, rfl, rfl⟩ := hd
      exact (ht i s1 x (htp i hi hi') hc).symm
    · simp [hi'] at hc; simp [hj'] at hd
      exact h.tipInj i j c s1 x s' x' (htp i hi hi') (htp j hj hj') hne hc hd
  · intro k e' hk' _ hnk
    have hlt := h.entLt k e' hk'
    exact ⟨by rw [get_new, if_neg (by omega)]; exact hk', hnk⟩
/-- The room behind a slice is written. -/
theorem Inv.writeTip (h : Inv base g st w) {id b s e : Nat} (hid : st.heap.get id = some .tip) (hg : g.tip id = some (b, s, e)) {vs : List Value} (hle : s + vs.length ≤ e) (hbl : Below base w (w.setCells b s vs))
    (hother : ∀ c, c ≠ b → c < w.heap.size → (w.setCells b s vs).heap[c]? = w.heap[c]?) : Inv base g st (w.setCells b s vs) ∧ Ext base g st w g st (w.setCells b s vs) := by
  obtain ⟨h1, h2, h3, h4⟩ := h.tip id b s e hid hg
  have hs : Same g w (w.setCells b s vs) := fun c i hc => by
    refine World.cell?_setCells_out b vs s w ⟨c, i, none⟩ (fun hb _ => ?_)
    have hb : c = b := hb
    subst hb
    by_cases h5 : i < s
    · exact .inl h5
    · by_cases h6 : e ≤ i
      · exact .inr (by show s + vs.length ≤ i; omega)
      · exact absurd hc (h4 i (by omega) (by omega))
  refine ⟨⟨Nat.le_trans h.base_le hbl.size, h.entLt, fun k c hk' => ?_, fun k c s e hk' => ?_, fun c i hc => ?_, ?_, ?_, h.keyFrz, h.keyInj, h.keyTip, h.tipInj⟩, ⟨.refl g, hs, hbl, Nat.le_refl _, fun _ _ h => .inl h, fun _ _ h _ hn => ⟨h, hn⟩⟩⟩
  · have := h.keyLt k c hk'; have := hbl.size; exact ⟨by omega, by omega⟩
  · have := h.tipLt k c s e hk'; have := hbl.size; exact ⟨by omega, by omega⟩
  · obtain ⟨v, hv⟩ := h.frzIn c i hc
    exact ⟨v, (hs c i hc).trans hv⟩
  · intro k x c hk' hc
    obtain ⟨h5, h6⟩ := h.ent k x c hk' hc
    refine ⟨?_, h6⟩
    cases hx : x.obj with
    | true =>
      refine h5.mono hs (.refl g) (hother c (fun e' => ?_) (h.keyLt k c hc).2)
      subst e'
      exact h.keyTip k id c s e ⟨x, hk', hx⟩ hid hc hg
    | false => cases x <;> first | trivial | simp [Ent.obj] at hx
  · intro id' c s' e' hk' hc
    obtain ⟨h5, h6, h7, h8⟩ := h.tip id' c s' e' hk' hc
    exact ⟨h5, h6, World.there_setCells h7 b s vs, h8⟩
/-- A key or a room that is used no more. -/
theorem Inv.drop (h : Inv base g st w) (k : Nat) (hk : ∃ e, st.heap.get k = some e) : Inv base g (st.put k .gone) w := by
  have hlv : ∀ j, live (st.put k .gone).heap j → live st.heap j := by
    rintro j ⟨x, hx, hy⟩
    rw [get_put] at hx
    by_cases hj : j = k
    · rw [if_pos hj] at hx; injection hx with hx; subst hx; cases hy
    · rw [if_neg hj] at hx; exact ⟨x, hx, hy⟩
  have htp : ∀ j, (st.put k .gone).heap.get j = some .tip → st.heap.get j = some .tip := by
    intro j hx
    rw [get_put] at hx
    by_cases hj : j = k
    · rw [if_pos hj] at hx; injection hx with hx; cases hx
    · rw [if_neg hj] at hx; exact hx
  refine ⟨h.base_le, ?_, h.keyLt, h.tipLt, h.frzIn, ?_, fun id b s e hx => h.tip id b s e (htp id hx), fun j b i hx => h.keyFrz j b i (hlv j hx), fun i j b hx hy => h.keyInj i j b (hlv i hx) (hlv j hy),
    fun j id b s e hx hy => h.keyTip j id b s e (hlv j hx) (htp id hy), fun i j b s e s' e' hi hj => h.tipInj i j b s e s' e' (htp i hi) (htp j hj)⟩
  · intro j x hx
    rw [get_put] at hx
    by_cases hj : j = k
    · obtain ⟨e, he⟩ := hk
      rw [hj]; exact h.entLt k e he
    · rw [if_neg hj] at hx; exact h.entLt j x hx
  · intro j x b hx hb
    rw [get_put] at hx
    by_cases hj : j = k
    · rw [if_pos hj] at hx; injection hx with hx; subst hx; exact ⟨trivial, fun h => by cases h⟩
    · rw [if_neg hj] at hx; exact h.ent j x b hx hb
/-- What lies at a key is turned. -/
theorem Inv.turn (h : Inv base g st w) (k b : Nat) (e0 e : Ent) (he0 : st.heap.get k = some e0) (ho : e0.obj = true) (he : e.obj = true) (hb : g.key k = some b) {w' : World} (hz : w.heap.size ≤ w'.heap.size) (hbl : base ≤ b → Below base w w')
    (hother : ∀ c, c ≠ b → c < w.heap.size → w'.heap[c]? = w.heap[c]?) (hok : EntOk w' g b e) :
    Inv base g (st.put k e) w' ∧ Ext base g st w g (st.put k e) w' := by
  have hlk : live st.heap k := ⟨e0, he0, ho⟩
  have hb0 : base ≤ b := (h.ent k e0 b he0 hb).2 ho
  have hs : Same g w w' := fun c i hc => by
    obtain ⟨v, hv⟩ := h.frzIn c i hc
    refine World.cell?_of_block (a := ⟨c, i, none⟩) (hother c (fun e => ?_) (cell_lt hv))
    subst e
    exact h.keyFrz k c i hlk hb hc
  have hlv : ∀ j, live (st.put k e).heap j → live st.heap j := by
    rintro j ⟨x, hx, hy⟩
    rw [get_put] at hx
    by_cases hj : j = k
    · rw [hj]; exact hlk
    · rw [if_neg hj] at hx; exact ⟨x, hx, hy⟩
  have htp : ∀ j, (st.put k e).heap.get j = some .tip → st.heap.get j = some .tip := by
    intro j hx
    rw [get_put] at hx
    by_cases hj : j = k
    · rw [if_pos hj] at hx; injection hx with hx; rw [hx] at he; cases he
    · rw [if_neg hj] at hx; exact hx
  refine ⟨⟨Nat.le_trans h.base_le hz, ?_, fun j c hc => ?_, fun j c s x hc => ?_, fun c i hc => ?_, ?_, ?_, fun j b i hx => h.keyFrz j b i (hlv j hx), fun i j b hx hy => h.keyInj i j b (hlv i hx) (hlv j hy),
    fun j id b s e hx hy => h.keyTip j id b s e (hlv j hx) (htp id hy), fun i j b s e s' e' hi hj => h.tipInj i j b s e s' e' (htp i hi) (htp j hj)⟩, ⟨.refl g, hs, hbl hb0, Nat.le_refl _, fun _ _ h => .inl h, ?_⟩⟩
  · intro j x hx
    rw [get_put] at hx
    by_cases hj : j = k
    · rw [hj]; exact h.entLt k e0 he0
    · rw [if_neg hj] at hx; exact h.entLt j x hx
  · have := h.keyLt j c hc; exact ⟨this.1, by omega⟩
  · have := h.tipLt j c s x hc; exact ⟨this.1, by omega⟩
  · obtain ⟨v, hv⟩ := h.frzIn c i hc
    exact ⟨v, (hs c i hc).trans hv⟩
  · intro j x c hx hc
    rw [get_put] at hx
    by_cases hj : j = k
    · rw [if_pos hj] at hx; injection hx with hx; subst hx
      rw [hj, hb] at hc; injection hc with hc; subst hc
      exact ⟨hok, fun _ => hb0⟩
    · rw [if_neg hj] at hx
      obtain ⟨h1, h2⟩ := h.ent j x c hx hc
      refine ⟨?_, h2⟩
      cases hxo : x.obj with
      | true =>
        refine h1.mono hs (.refl g) (hother c (fun e => ?_) (h.keyLt j c hc).2)
        subst e
        exact hj (h.keyInj j k c ⟨x, hx, hxo⟩ hlk hc hb)
      | false => cases x <;> first | trivial | simp [Ent.obj] at hxo
  · intro id c s x hx hc
    obtain ⟨h1, h2, h3, h4⟩ := h.tip id c s x (htp id hx) hc
    refine ⟨h1, h2, there_block h3 (hother c (fun e => ?_) (h.tipLt id c s x hc).2), h4⟩
    subst e
    exact h.keyTip k id c s x hlk (htp id hx) hb hc
  · intro j e' hj _ hn
    refine ⟨?_, hn⟩
    rw [get_put, if_neg (fun e => by rw [e, hb] at hn; cases hn)]; exact hj
end
end Go.Ev
