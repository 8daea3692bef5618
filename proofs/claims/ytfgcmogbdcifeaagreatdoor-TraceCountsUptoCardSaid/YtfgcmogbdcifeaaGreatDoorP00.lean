/-
  Part of the proofs of TraceFigures and TraceCounts (PurA PurB PurC PurD PurE PurF PurG PurH PurI PurJ PurK PurKM PurKS PurL PurM)
-/
import Derived.Calls
import Derived.Orders
import Derived.Below
import Derived.Laws.Build
import Derived.Laws.AppendOwn
import Derived.Laws.Small
import Derived.MapKept
import Derived.Laws.Entries
import Derived.Laws.Strings
import Derived.IntWalk
import Derived.Laws.Slices
import Derived.Laws.BytesArg
import Derived.Laws.StructEq
import Derived.Laws.CopyRow
import Derived.Laws.Cells
import Derived.Great.FillDense
import Derived.Great.BuildSlice
import Derived.Laws.MakeOwn
import Derived.WideMake
import Derived.Lib.AppendStr
set_option maxRecDepth 10000
set_option linter.unusedSimpArgs false
set_option linter.unusedVariables false
namespace Go.Proofs.YtfgcmogbdcifeaaGreatDoor
namespace Pur
open Go.RowKit
section
inductive PV where
 |int (k:IntKind) (n:Int)
 |bool (b:Bool)
 |str (s:List UInt8)
 |agg (l:List PV)
 |tup (l:List PV)
 |nilsl
 |sl (n:Nat) (l:List PV)
 |val (v:Value)
 |iface
 |mp (l:List PV)
 deriving Inhabited
inductive AV where
 |pv (p:PV)
 |ref (b g off n:Nat)
 |ptr (b g off:Nat)
 |iptr (l:List PV) (off:Nat)
 |agg (l:List AV)
 |tup (l:List AV)
 |fn (f:FuncId) (caps:List AV)
 |bm (f:FuncId) (first:List AV)
 |map (b g:Nat)
 |ifb (c:Bool) (v:AV)
 |any
 deriving Inhabited
structure dI where
 cells:List AV
 gen:Nat
 sz:Nat
 elem:TypeId
 frozen:Bool
abbrev AM:=List dI
abbrev AF:=List (Nat×AV)
def get:AF→Nat→AV
 |[],_=>.any
 |(s,v)::r,t=>bif Nat.beq s t then v else get r t
def put (f:AF) (d:Option Nat) (v:AV):AF:=match d with
 |some d=>(d,v)::f
 |none=>f
inductive cn where
 |t (n:Nat)
 |c (p:PV)
 deriving Inhabited
inductive KD where
 |int (k:IntKind)
 |bool
 |str
 deriving Inhabited
inductive K where
 |mv (x:cn)
 |pick (c a b:cn)
 |bin (op:BinOp) (x y:cn)
 |binB (op:BinOp) (x y:cn)
 |un (op:UnOp) (x:cn)
 |isnil (kind:Nat) (neg:Bool) (x:cn)
 |field (x:cn) (off size:Nat) (ag:Bool)
 |fieldAddr (x:cn) (off:Nat)
 |indexSl (x i:cn) (size:Nat)
 |indexArr (x i:cn) (len size:Nat)
 |indexVal (x i:cn) (len size:Nat) (ag:Bool)
 |indexStr (x i:cn)
 |load (x:cn) (size:Nat) (ag:Bool)
 |store (x v:cn) (size:Nat)
 |alloc (elem:TypeId) (zero:List PV)
 |box (elem:TypeId) (x:cn) (size:Nat)
 |build (zero:List PV) (parts:List (Nat×Nat×cn))
 |lit (own:Bool) (elem:TypeId) (size len:Nat) (zero:List PV) (parts:List (Nat×Nat×cn))
 |slice (x:cn) (lo hi:Option cn) (size:Nat)
 |sliceStr (x:cn) (lo hi:Option cn)
 |len (x:cn)
 |lenS (x:cn)
 |append (s x:cn) (elem:TypeId) (size bytes:Nat)
 |appS (s x:cn) (elem:TypeId)
 |extract (x:cn) (i:Nat)
 |call (f:FuncId) (args:List cn)
 |callv (f:cn) (args:List cn)
 |callB (f:FuncId) (args:List cn)
 |nilCheck (x:cn)
 |mkfn (f:FuncId) (caps:List cn)
 |conv (k:IntKind) (x:cn)
 |convS (x:cn)
 |minmax (mx:Bool) (x y:cn)
 |convB (x:cn)
 |eqA (neg:Bool) (offs:List (Nat×Nat)) (x y:cn)
 |mkbm (f:FuncId) (first:List cn)
 |mkMap
 |mapSet (add:Bool) (kd:KD) (x k v:cn)
 |mapGet (ok:Bool) (kd:KD) (zero:PV) (x k:cn)
 |lenM (x:cn)
 |mkSl (elem:TypeId) (size:Nat) (zero:List PV) (n:cn)
 |mkI (t:TypeId) (x:cn)
 |pan (x:cn)
 |copy (x y:cn) (size:Nat)
 deriving Inhabited
structure bx where
 dst:Option Nat
 k:K
 guard:Option (Nat×Bool)
 deriving Inhabited
structure sQ where
 g:Nat
 x:cn
 len:Nat
 d1:Nat
 d2:Nat
 grd:Option (Nat×Bool)
 deriving Inhabited
inductive af where
 |skip
 |region (draw:Bool) (ops:List bx)
 |regionF (ops:List bx) (free:List (Nat×Nat))
 |seq (a b:af)
 |cond (c:cn) (thn els:af)
 |block (id:Nat) (body:af)
 |loop (body:af)
 |exit (id:Nat)
 |ret
 |range (g:cn) (ps:List Nat) (assign body:af)
 |stuck
 |raw (c:Code)
 |tab (pre:List bx) (t:sQ) (suf:List bx)
 deriving Inhabited
structure Hint where
 mode:Nat:=0
 val:Option AV:=none
 args:Option (List PV):=none
 mem:Option AM:=none
 frz:Bool:=false
 ro:Bool:=false
 upd:List (Nat×dI):=[]
 new:List dI:=[]
def aI:List (Int×Int)→Prop
 |[]=>True
 |(a,b)::l=>a≤b∧aI l
def dK:List (Int×Int)→Bool
 |[]=>true
 |(a,b)::l=>Int.ble' a b&&dK l
 where Int.ble' (a b:Int):Bool:=decide (a≤b)
abbrev VC:=List (Int×Int)
def ev (f:AF):cn→AV
 | .t n=>get f n
 | .c p=>.pv p
def ub:Int:= -9223372036854775808
def lE:Int:=9223372036854775807
def eI (mode:Nat) (k:IntKind):Bool:=match mode,k with
 |0,.i64=>true
 |_,_=>false
def eD (mode:Nat) (k:IntKind) (a b:Int):BinOp→Option (VC×PV)
 | .add=>match eI mode k with
  |true=>some ([(ub,a+b),(a+b,lE)],.int k (a+b))
  |false=>some ([],.int k (k.wrap (a+b)))
 | .sub=>match eI mode k with
  |true=>some ([(ub,a-b),(a-b,lE)],.int k (a-b))
  |false=>some ([],.int k (k.wrap (a-b)))
 | .mul=>match eI mode k with
  |true=>some ([(ub,a*b),(a*b,lE)],.int k (a*b))
  |false=>some ([],.int k (k.wrap (a*b)))
 | .quo=>match eI mode k with
  |true=>some ([(0,a),(a,lE),(1,b)],.int k (a / b))
  |false=>some ([(1,b)],.int k (k.wrap (a.tdiv b)))
 | .rem=>match eI mode k with
  |true=>some ([(0,a),(1,b)],.int k (a % b))
  |false=>some ([(1,b)],.int k (a.tmod b))
 | .eql=>some ([],.bool (a==b))
 | .neq=>some ([],.bool (a != b))
 | .lss=>some ([],.bool (decide (a<b)))
 | .leq=>some ([],.bool (decide (a≤b)))
 | .gtr=>some ([],.bool (decide (b<a)))
 | .geq=>some ([],.bool (decide (b≤a)))
 | .and=>some ([],.int k (k.wrap (BitVec.ofInt k.bits a &&& BitVec.ofInt k.bits b).toNat))
 | .or=>some ([],.int k (k.wrap (BitVec.ofInt k.bits a ||| BitVec.ofInt k.bits b).toNat))
 | .xor=>some ([],.int k (k.wrap (BitVec.ofInt k.bits a ^^^ BitVec.ofInt k.bits b).toNat))
 | .andNot=>some ([],.int k (k.wrap (BitVec.ofInt k.bits a &&& ~~~BitVec.ofInt k.bits b).toNat))
 |_=>none
def uc:BinOp→Bool
 | .shl=>true
 | .shr=>true
 |_=>false
def pJ (k:IntKind) (a b:Int):BinOp→Option (VC×PV)
 | .shl=>some ([(0,b)],.int k (k.wrap (a*2 ^ min b.toNat k.bits)))
 | .shr=>some ([(0,b)],.int k (a.fdiv (2 ^ min b.toNat k.bits)))
 |_=>none
def jK (a b:List UInt8):BinOp→Option (VC×PV)
 | .add=>some ([((a.length:Int)+b.length,lE)],.str (a++b))
 | .eql=>some ([],.bool (a==b))
 | .neq=>some ([],.bool (!(a==b)))
 |_=>none
def gg (a b:Bool):BinOp→Option (VC×PV)
 | .eql=>some ([],.bool (a==b))
 | .neq=>some ([],.bool (!(a==b)))
 |_=>none
def lr (mode:Nat) (op:BinOp) (x y:PV):Option (VC×PV):=match x,y with
 | .int k a,.int k' b=>bif uc op then pJ k a b op else bif k==k' then eD mode k a b op else none
 | .str a,.str b=>jK a b op
 |_,_=>none
def sR (op:UnOp) (x:PV):Option (VC×PV):=match op,x with
 | .not,.bool b=>some ([],.bool (!b))
 | .neg,.int k n=>match k with
  | .i64=>some ([(ub,-n),(-n,lE)],.int k (-n))
  |_=>none
 | .xor,.int k n=>some ([],.int k (k.wrap (BitVec.ofInt k.bits (bif k.signed then -1 else k.max) ^^^ BitVec.ofInt k.bits n).toNat))
 |_,_=>none
def qt (mode m:Nat):Bool:=match mode with|0=>Nat.beq m 0|1=>false|_=>true
def sS (mx:Bool) (x y:PV):Option PV:=match x,y with
 | .int k a,.int k' b=>bif k==k' then some (.int k (bif mx then (if a<b then b else a) else (if b<a then b else a))) else none
 |_,_=>none
def oJ (kind:Nat) (x y:PV):Option Bool:=match kind,x,y with
 |0,.int k a,.int k' b=>bif k==k' then some (a==b) else none
 |1,.bool a,.bool b=>some (a==b)
 |2,.str a,.str b=>some (a==b)
 |_,_,_=>none
def cY (l m:List PV):List (Nat×Nat)→Option Bool
 |[]=>some true
 |(o,t)::r=>match l[o]?,m[o]? with
  |some p,some q=>match oJ t p q,cY l m r with
   |some a,some b=>some (a&&b)
   |_,_=>none
  |_,_=>none
def bytesOf:List PV→Option (List UInt8)
 |[]=>some []
 | .int .u8 n::r=>match bytesOf r with
  |some l=>some (UInt8.ofNat n.toNat::l)
  |none=>none
 |_::_=>none
def eh:KD→PV→Bool
 | .int k,.int k' _=>k==k'
 | .bool,.bool _=>true
 | .str,.str _=>true
 |_,_=>false
def iL (kd:KD):AV→Bool
 | .pv p=>eh kd p
 |_=>false
def bj (kd:KD):List AV→Bool
 |k::_::r=>iL kd k&&bj kd r
 |_=>true
def bP:PV→AV→Bool
 | .int _ a,.pv (.int _ b)=>a==b
 | .str a,.pv (.str b)=>a==b
 | .bool a,.pv (.bool b)=>a==b
 |_,_=>false
def bN:List AV→PV→AV→AV
 |k::v::r,key,d=>bif bP key k then v else bN r key d
 |_,_,d=>d
def bY:List AV→PV→Bool
 |k::_::r,key=>bP key k||bY r key
 |_,_=>false
def lF:List AV→PV→AV→List AV
 |k::v::r,key,x=>bif bP key k then .pv key::x::r else k::v::lF r key x
 |_,key,x=>[.pv key,x]
def ju:List AV→Nat
 |_::_::r=>ju r+1
 |_=>0
def mN (b:Bool):Int:=bif b then 1 else 0
def dL (kind:Nat) (v:AV):Option Bool:=match kind,v with
 |0,.pv .nilsl=>some true
 |0,.pv (.sl (_+1) _)=>some false
 |0,.pv (.val (.slice (some _) _ _))=>some false
 |0,.ref _ _ _ _=>some false
 |1,.pv (.val (.map none))=>some true
 |1,.pv (.mp _)=>some false
 |1,.map _ _=>some false
 |2,.pv (.val .nilFunc)=>some true
 |2,.pv (.val (.func _ _ _))=>some false
 |2,.fn _ _=>some false
 |2,.bm _ _=>some false
 |3,.pv (.val (.pointer none))=>some true
 |3,.ptr _ _ _=>some false
 |3,.iptr _ _=>some false
 |4,.pv (.val .nilIface)=>some true
 |4,.pv .iface=>some false
 |_,_=>none
def cG:List AV→Option (List PV)
 |[]=>some []
 | .pv p::r=>match cG r with
  |some l=>some (p::l)
  |none=>none
 |_::_=>none
def ia (l:List AV):AV:=match cG l with
 |some ps=>.pv (.agg ps)
 |none=>.agg l
def iM (l:List AV):AV:=match cG l with
 |some ps=>.pv (.tup ps)
 |none=>.tup l
def cellsOf:AV→List AV
 | .pv (.agg l)=>l.map .pv
 | .agg l=>l
 |v=>[v]
def cH:AV→Bool
 | .pv (.agg _)=>false
 | .pv (.tup _)=>false
 | .pv (.val (.agg _))=>false
 | .pv (.val (.tuple _))=>false
 | .agg _=>false
 | .tup _=>false
 | .ifb _ _=>false
 | .any=>false
 |_=>true
def setAt:List AV→Nat→List AV→List AV
 |l,_,[]=>l
 |l,off,v::r=>setAt (l.set off v) (off+1) r
def gH (cells:List AV):List (Nat×Nat×AV)→Option (List AV)
 |[]=>some cells
 |(off,size,v)::r =>
  let cs:=cellsOf v
  bif Nat.beq cs.length size&&Nat.ble (off+size) cells.length&&cs.all cH then gH (setAt cells off cs) r else none
def dT (f:AF) (parts:List (Nat×Nat×cn)):List (Nat×Nat×AV):=parts.map fun (o,s,x)=>(o,s,ev f x)
def kh:AV→Option Int
 | .pv (.int _ n)=>some n
 |_=>none
def cZ (f:AF) (d:Int):Option cn→Option Int
 |none=>some d
 |some y=>kh (ev f y)
def cS (l:List AV) (off size:Nat) (ag:Bool):AV:=bif ag then ia ((l.drop off).take size) else l.getD off .any
def er (l:List PV) (off size:Nat) (ag:Bool):PV:=bif ag then .agg ((l.drop off).take size) else l.getD off default
def jv (μ:AM) (size:Nat):AV→Option (VC×List AV×Nat)
 | .pv .nilsl=>some ([],[],0)
 | .pv (.val (.slice (some _) 0 _))=>some ([],[],0)
 | .pv (.sl n l)=>some ([((n*size:Nat),(l.length:Int)),((l.length:Int),(n*size:Nat))],l.map .pv,n)
 | .ref b g off n=>match μ[b]? with
  |some k=>bif Nat.beq k.sz 0 then none else some ([((g:Int),(k.gen:Int)),((k.gen:Int),(g:Int)),((off+n*size:Nat),(k.cells.length:Int))],(k.cells.drop off).take (n*size),n)
  |none=>none
 |_=>none
def jL (l:List UInt8):List AV:=l.map fun c=>.pv (.int .u8 (c.toNat:Int))
def cj (zero:List PV):Nat→List PV
 |0=>[]
 |n+1=>zero++cj zero n
abbrev O3:=VC×AV×AM
def cT (f:AF) (μ:AM) (mode:Nat):K→Option O3
 | .mv x=>some ([],ev f x,μ)
 | .pick c a b=>match ev f c with
  | .pv (.bool t)=>some ([],bif t then ev f a else ev f b,μ)
  |_=>none
 | .bin op x y=>match ev f x,ev f y with
  | .pv p,.pv q=>match lr mode op p q with
   |some (vc,r)=>some (vc,.pv r,μ)
   |none=>none
  |_,_=>none
 | .binB op x y=>match ev f x,ev f y with
  | .pv (.bool p),.pv (.bool q)=>match gg p q op with
   |some (vc,r)=>some (vc,.pv r,μ)
   |none=>none
  |_,_=>none
 | .un op x=>match ev f x with
  | .pv p=>match sR op p with
   |some (vc,r)=>some (vc,.pv r,μ)
   |none=>none
  |_=>none
 | .isnil kind neg x=>match dL kind (ev f x) with
  |some b=>some ([],.pv (.bool (bif neg then !b else b)),μ)
  |none=>none
 | .field x off size ag=>match ev f x with
  | .pv (.agg l)=>some ([((off+size:Nat),(l.length:Int))],.pv (er l off size ag),μ)
  | .agg l=>some ([((off+size:Nat),(l.length:Int))],cS l off size ag,μ)
  |_=>none
 | .fieldAddr x off=>match ev f x with
  | .ptr b g o=>some ([],.ptr b g (o+off),μ)
  | .iptr l o=>some ([],.iptr l (o+off),μ)
  |_=>none
 | .indexSl x i size=>match ev f x,ev f i with
  | .pv (.sl n l),.pv (.int _ k)=>some ([(0,k),(k+1,n)],.iptr l (k.toNat*size),μ)
  | .ref b g off n,.pv (.int _ k)=>some ([(0,k),(k+1,n)],.ptr b g (off+k.toNat*size),μ)
  |_,_=>none
 | .indexArr x i len size=>match ev f x,ev f i with
  | .ptr b g o,.pv (.int _ k)=>some ([(0,k),(k+1,len)],.ptr b g (o+k.toNat*size),μ)
  | .iptr l o,.pv (.int _ k)=>some ([(0,k),(k+1,len)],.iptr l (o+k.toNat*size),μ)
  |_,_=>none
 | .indexVal x i len size ag=>match ev f x,ev f i with
  | .pv (.agg l),.pv (.int _ k)=>some ([(0,k),(k+1,len),((k.toNat*size+size:Nat),(l.length:Int))],.pv (er l (k.toNat*size) size ag),μ)
  | .agg l,.pv (.int _ k)=>some ([(0,k),(k+1,len),((k.toNat*size+size:Nat),(l.length:Int))],cS l (k.toNat*size) size ag,μ)
  |_,_=>none
 | .indexStr x i=>match ev f x,ev f i with
  | .pv (.str s),.pv (.int _ k)=>some ([(0,k),(k+1,s.length)],.pv (.int .u8 (s.getD k.toNat 0).toNat),μ)
  |_,_=>none
 | .load x size ag=>match ev f x with
  | .iptr l o=>some ([((o+size:Nat),(l.length:Int))],.pv (er l o size ag),μ)
  | .ptr b g o=>match μ[b]? with
   |some k=>bif Nat.beq k.sz 0 then none else some ([((g:Int),(k.gen:Int)),((k.gen:Int),(g:Int)),((o+size:Nat),(k.cells.length:Int))],cS k.cells o size ag,μ)
   |none=>none
  |_=>none
 | .store x v size=>match ev f x with
  | .ptr b g o=>match μ[b]? with
   |some k =>
    let cs:=cellsOf (ev f v)
    bif !(Nat.beq k.sz 0)&& !k.frozen&&Nat.beq cs.length size&&cs.all cH then
     some ([((g:Int),(k.gen:Int)),((k.gen:Int),(g:Int)),((o+size:Nat),(k.cells.length:Int))],.any,μ.set b {k with cells:=setAt k.cells o cs})
    else none
   |none=>none
  |_=>none
 | .alloc elem zero=>bif Nat.beq zero.length 0 then none else some ([],.ptr μ.length 0 0,μ++[⟨zero.map .pv,0,zero.length,elem,false⟩])
 | .box elem x size =>
  let cs:=cellsOf (ev f x)
  bif !(Nat.beq size 0)&&Nat.beq cs.length size&&cs.all cH then some ([],.ptr μ.length 0 0,μ++[⟨cs,0,size,elem,false⟩]) else none
 | .build zero parts=>match gH (zero.map .pv) (dT f parts) with
  |some cs=>some ([],ia cs,μ)
  |none=>none
 | .lit own elem size len zero parts=>match gH ((cj zero len).map .pv) (dT f parts) with
  |some cs=>bif own then some ([],.ref μ.length 0 0 len,μ++[⟨cs,0,size,elem,false⟩]) else
   match cG cs with
   |some ps=>some ([],.pv (.sl len ps),μ)
   |none=>none
  |none=>none
 | .slice x lo hi size =>
  match ev f x with
  | .pv (.sl n l) =>
   match cZ f 0 lo,cZ f n hi with
   |some a,some b=>some ([(0,a),(a,b),(b,n),((n*size:Nat),(l.length:Int))],.pv (.sl (b-a).toNat ((l.drop (a.toNat*size)).take ((b-a).toNat*size))),μ)
   |_,_=>none
  | .pv .nilsl =>
   match cZ f 0 lo,cZ f 0 hi with
   |some a,some b=>some ([(0,a),(a,b),(b,0)],.pv .nilsl,μ)
   |_,_=>none
  | .ref b g off n=>match μ[b]? with
   |some k=>bif !(Nat.beq k.sz size) then none else
    match cZ f 0 lo,cZ f n hi with
    |some a,some b'=>some ([(0,a),(a,b'),(b',n)],.ref b g (off+a.toNat*size) (b'-a).toNat,μ)
    |_,_=>none
   |none=>none
  |_=>none
 | .sliceStr x lo hi =>
  match ev f x with
  | .pv (.str s) =>
   match cZ f 0 lo,cZ f s.length hi with
   |some a,some b=>some ([(0,a),(a,b),(b,s.length)],.pv (.str ((s.take b.toNat).drop a.toNat)),μ)
   |_,_=>none
  |_=>none
 | .lenS x=>match ev f x with
  | .pv (.str s)=>some ([],.pv (.int .i64 s.length),μ)
  |_=>none
 | .len x=>match ev f x with
  | .pv .nilsl=>some ([],.pv (.int .i64 0),μ)
  | .pv (.sl n _)=>some ([],.pv (.int .i64 n),μ)
  | .ref _ _ _ n=>some ([],.pv (.int .i64 n),μ)
  |_=>none
 | .append s x elem size bytes=>match jv μ size (ev f x) with
  |some (vc,cs,m) =>
   match ev f s with
   | .pv .nilsl=>match qt mode m with
    |true=>some (vc++([((m:Int),0)]:VC),.pv .nilsl,μ)
    |false=>some (vc++([(1,(m:Int)),(((m*bytes:Nat):Int),140737488355328),((m:Int),lE)]:VC),.ref μ.length 0 0 m,μ++[⟨cs,0,size,elem,false⟩])
   | .ref b g off n=>match μ[b]? with
    |some k=>bif k.frozen|| !(Nat.beq k.sz size)|| !(Nat.beq k.elem elem) then none else
     some (vc++([((g:Int),(k.gen:Int)),((k.gen:Int),(g:Int)),((off:Int),0),(((n*size:Nat):Int),(k.cells.length:Int)),((k.cells.length:Int),((n*size:Nat):Int)),((((n+m)*bytes:Nat):Int),140737488355328),(((n+m:Nat):Int),lE)]:VC),
      .ref b (k.gen+1) 0 (n+m),μ.set b {k with cells:=k.cells++cs,gen:=k.gen+1})
    |none=>none
   |_=>none
  |none=>none
 | .appS s x elem=>match ev f x with
  | .pv (.str l)=>match ev f s with
   | .pv .nilsl=>match qt mode l.length with
    |true=>some ([((l.length:Int),0)],.pv .nilsl,μ)
    |false=>some ([(1,(l.length:Int)),((l.length:Int),140737488355328)],.ref μ.length 0 0 l.length,μ++[⟨jL l,0,1,elem,false⟩])
   | .ref b g off n=>match μ[b]? with
    |some k=>bif k.frozen|| !(Nat.beq k.sz 1)|| !(Nat.beq k.elem elem) then none else
     some ([((g:Int),(k.gen:Int)),((k.gen:Int),(g:Int)),((off:Int),0),((n:Int),(k.cells.length:Int)),((k.cells.length:Int),(n:Int)),(((n+l.length:Nat):Int),140737488355328)],
      .ref b (k.gen+1) 0 (n+l.length),μ.set b {k with cells:=k.cells++jL l,gen:=k.gen+1})
    |none=>none
   |_=>none
  |_=>none
 | .copy x y size=>match jv μ size (ev f y) with
  |some (vc,cs,m)=>match ev f x with
   | .ref b g off n=>match μ[b]? with
    |some k=>bif !(Nat.beq k.sz size)||k.frozen||Nat.beq size 0||Nat.beq m 0 then none else
     some (vc++([((g:Int),(k.gen:Int)),((k.gen:Int),(g:Int)),((m:Int),(n:Int)),((off+m*size:Nat),(k.cells.length:Int))]:VC),.pv (.int .i64 m),μ.set b {k with cells:=setAt k.cells off cs})
    |none=>none
   |_=>none
  |none=>none
 | .extract x i=>match ev f x with
  | .pv (.tup l)=>some ([((i:Int)+1,(l.length:Int))],.pv (l.getD i default),μ)
  | .tup l=>some ([((i:Int)+1,(l.length:Int))],l.getD i .any,μ)
  |_=>none
 | .nilCheck x=>match ev f x with
  | .ptr b g o=>some ([],.ptr b g o,μ)
  | .iptr l o=>some ([],.iptr l o,μ)
  |_=>none
 | .mkfn g caps=>some ([],.fn g (caps.map (ev f)),μ)
 | .conv k x=>match ev f x with
  | .pv (.int _ n)=>match Nat.beq mode 0 with
   |true=>some ([(k.min,n),(n,k.max)],.pv (.int k n),μ)
   |false=>some ([],.pv (.int k (k.wrap n)),μ)
  |_=>none
 | .convS x=>match ev f x with
  | .pv (.str s)=>some ([],.pv (.str s),μ)
  |_=>none
 | .minmax mx x y=>match ev f x,ev f y with
  | .pv p,.pv q=>match sS mx p q with
   |some r=>some ([],.pv r,μ)
   |none=>none
  |_,_=>none
 | .convB x=>match ev f x with
  | .pv (.sl n l)=>match bytesOf l with
   |some s=>some ([((n:Int),(l.length:Int)),((l.length:Int),(n:Int))],.pv (.str s),μ)
   |none=>none
  |_=>none
 | .eqA neg offs x y=>match ev f x,ev f y with
  | .pv (.agg l),.pv (.agg m)=>match cY l m offs with
   |some b=>some ([],.pv (.bool (bif neg then !b else b)),μ)
   |none=>none
  |_,_=>none
 | .mkbm g first=>some ([],.bm g (first.map (ev f)),μ)
 | .mkMap=>some ([],.map μ.length 0,μ++[⟨[],0,0,0,false⟩])
 | .mkI t x=>match ev f x with
  | .pv (.agg [])=>some ([],.pv (.val (.iface t (.agg #[]))),μ)
  |_=>none
 | .pan _=>none
 | .mkSl elem size zero n=>match ev f n with
  | .pv (.int .i64 x)=>bif Nat.beq size 0 then none else some ([(0,x),(x,1000000)],.ref μ.length 0 0 x.toNat,μ++[⟨(cj zero x.toNat).map .pv,0,size,elem,false⟩])
  |_=>none
 | .mapSet add kd x k v=>match ev f x,ev f k with
  | .map b g,.pv key=>match μ[b]? with
   |some e=>bif !(Nat.beq e.sz 0)||e.frozen|| !(eh kd key) then none else
    some ([((g:Int),(e.gen:Int)),((e.gen:Int),(g:Int)),(1,mN (bj kd e.cells)),(mN (add&&bY e.cells key),0)],.any,
     μ.set b {e with cells:=bif add then e.cells++[.pv key,ev f v] else lF e.cells key (ev f v)})
   |none=>none
  |_,_=>none
 | .mapGet ok kd zero x k=>match ev f k with
  | .pv key=>bif !(eh kd key) then none else match ev f x with
   | .map b g=>match μ[b]? with
    |some e=>bif !(Nat.beq e.sz 0) then none else
     some ([((g:Int),(e.gen:Int)),((e.gen:Int),(g:Int)),(1,mN (bj kd e.cells))],bif ok then iM [bN e.cells key (.pv zero),.pv (.bool (bY e.cells key))] else bN e.cells key (.pv zero),μ)
    |none=>none
   | .pv (.mp l)=>some ([(1,mN (bj kd (l.map .pv)))],bif ok then iM [bN (l.map .pv) key (.pv zero),.pv (.bool (bY (l.map .pv) key))] else bN (l.map .pv) key (.pv zero),μ)
   |_=>none
  |_=>none
 | .lenM x=>match ev f x with
  | .map b g=>match μ[b]? with
   |some e=>bif !(Nat.beq e.sz 0) then none else some ([((g:Int),(e.gen:Int)),((e.gen:Int),(g:Int))],.pv (.int .i64 (ju e.cells)),μ)
   |none=>none
  | .pv (.mp l)=>some ([],.pv (.int .i64 (ju (l.map .pv))),μ)
  |_=>none
 | .call _ _| .callv _ _| .callB _ _=>none
def dw (g:AV→Option PV):List AV→Option (List PV)
 |[]=>some []
 |v::r=>match g v,dw g r with
  |some p,some ps=>some (p::ps)
  |_,_=>none
def fD (μ:AM):Nat→AV→Option PV
 |0,.pv p=>some p
 |0,_=>none
 |d+1,v=>match v with
  | .pv p=>some p
  | .ref b g off n=>match μ[b]? with
   |some k=>bif !(Nat.beq k.sz 0)&&Nat.beq g k.gen&&Nat.ble (off+n*k.sz) k.cells.length then
     match dw (fD μ d) ((k.cells.drop off).take (n*k.sz)) with
     |some ps=>some (.sl n ps)
     |none=>none
    else none
   |none=>none
  | .map b g=>match μ[b]? with
   |some k=>bif Nat.beq k.sz 0&&Nat.beq g k.gen then
     match dw (fD μ d) k.cells with
     |some ps=>some (.mp ps)
     |none=>none
    else none
   |none=>none
  | .agg l=>match dw (fD μ d) l with
   |some ps=>some (.agg ps)
   |none=>none
  | .tup l=>match dw (fD μ d) l with
   |some ps=>some (.tup ps)
   |none=>none
  | .fn f []=>some (.val (.func (.func f) #[] #[]))
  |_=>none
def depth:Nat:=8
def bI (μ:AM):AV→Option PV
 | .pv p=>some p
 | .ref b g off n=>match μ[b]? with
  |some k=>bif !(Nat.beq k.sz 0)&&Nat.beq g k.gen&&Nat.ble (off+n*k.sz) k.cells.length then
    match cG ((k.cells.drop off).take (n*k.sz)) with
    |some ps=>some (.sl n ps)
    |none=>none
   else none
  |none=>none
 | .map b g=>match μ[b]? with
  |some k=>bif Nat.beq k.sz 0&&Nat.beq g k.gen then
    match cG k.cells with
    |some ps=>some (.mp ps)
    |none=>none
   else none
  |none=>none
 | .fn f []=>some (.val (.func (.func f) #[] #[]))
 |_=>none
def fq (μ:AM):AV→Option PV
 | .agg l=>match dw (bI μ) l with
  |some ps=>some (.agg ps)
  |none=>none
 |v=>bI μ v
def gI (μ:AM) (l:List AV):Option (List PV):=dw (fq μ) l
def cz:List AV→List Nat
 |[]=>[]
 | .ref b _ _ _::r=>b::cz r
 | .map b _::r=>b::cz r
 |_::r=>cz r
def refsOf:List AV→List Nat
 |[]=>[]
 | .ref b _ _ _::r=>b::refsOf r
 | .map b _::r=>b::refsOf r
 | .agg l::r=>cz l++refsOf r
 |_::r=>refsOf r
def fu:List PV→Bool
 |[]=>true
 | .sl _ _::_=>false
 | .agg _::_=>false
 | .tup _::_=>false
 | .val _::_=>false
 | .mp _::_=>false
 |_::r=>fu r
def scalar:PV→Bool
 | .sl _ _=>false
 | .agg l=>fu l
 | .tup l=>fu l
 | .val _=>false
 | .mp _=>false
 |_=>true
def freeze (μ:AM):List Nat→AM
 |[]=>μ
 |b::r=>match μ[b]? with
  |some k=>freeze (μ.set b {k with frozen:=true}) r
  |none=>freeze μ r
def after (μ:AM) (frz:Bool) (as:List AV) (r:PV):AM:=match refsOf as with
 |[]=>μ
 |bs=>bif frz then freeze μ bs else bif scalar r then μ else freeze μ bs
def dW (X:FuncId→List PV→PV→Prop) (Y:FuncId→List AV→AM→AV→AM→Prop) (μ:AM) (h:Hint) (g:FuncId) (as:List AV):Option (VC×List Prop×AV×AM) :=
 match h.val with
 |none=>none
 |some v=>match h.mem with
  |some μ'=>some ([],[Y g as μ v μ'],v,μ')
  |none=>match h.ro with
   |true=>some ([],[Y g as μ v μ],v,μ)
   |false=>match v with
   | .pv r=>match h.args with
    |some ps=>some ([],[gI μ as=some ps,X g ps r],v,after μ h.frz as r)
    |none=>match gI μ as with
     |some ps=>some ([],[X g ps r],v,after μ h.frz as r)
     |none=>none
   |_=>none
def gJ (μ:AM):List (Nat×dI)→AM
 |[]=>μ
 |(b,k)::r=>gJ (μ.set b k) r
def dn (μ:AM) (h:Hint):AM:=gJ μ h.upd++h.new
def bG (X:FuncId→List PV→PV→Prop) (Y:FuncId→List AV→AM→AV→AM→Prop) (f:AF) (μ:AM) (h:Hint):K→Option (VC×List Prop×AV×AM)
 | .call g args=>dW X Y μ h g (args.map (ev f))
 | .callv x args=>match ev f x with
  | .fn g caps=>dW X Y μ h g (args.map (ev f)++caps)
  | .bm g first=>dW X Y μ h g (first++args.map (ev f))
  | .pv (.val (.func (.func g) ⟨[]⟩ ⟨[]⟩))=>dW X Y μ h g (args.map (ev f))
  |_=>none
 | .callB g args=>match h.val with
  |some v=>some ([],[Y g (args.map (ev f)) μ v (dn μ h)],v,dn μ h)
  |none=>none
 |k=>match cT f μ h.mode k with
  |some (vc,v,μ')=>match h.val with
   |some v'=>some (vc,[v=v'],v',μ')
   |none=>some (vc,[],v,μ')
  |none=>none
def fi:cn→List Nat
 | .t n=>[n]
 | .c _=>[]
def qu:Option cn→List Nat
 |some x=>fi x
 |none=>[]
def nz:List cn→List Nat
 |[]=>[]
 |x::r=>fi x++nz r
def pK:List (Nat×Nat×cn)→List Nat
 |[]=>[]
 |(_,_,x)::r=>fi x++pK r
def tmpsOf:K→List Nat
 | .mv x| .un _ x| .isnil _ _ x| .field x _ _ _| .fieldAddr x _| .load x _ _| .box _ x _| .len x| .lenS x| .extract x _| .nilCheck x| .conv _ x| .convS x| .convB x| .lenM x| .mkSl _ _ _ x| .mkI _ x| .pan x=>fi x
 | .pick c a b| .mapSet _ _ c a b=>fi c++fi a++fi b
 | .bin _ x y| .binB _ x y| .indexSl x y _| .indexArr x y _ _| .indexVal x y _ _ _| .indexStr x y| .store x y _| .copy x y _| .append x y _ _ _| .appS x y _| .minmax _ x y| .eqA _ _ x y| .mapGet _ _ _ x y=>fi x++fi y
 | .alloc _ _| .mkMap=>[]
 | .build _ ps| .lit _ _ _ _ _ ps=>pK ps
 | .slice x l h _| .sliceStr x l h=>fi x++qu l++qu h
 | .call _ as| .callB _ as=>nz as
 | .callv x as=>fi x++nz as
 | .mkfn _ cs| .mkbm _ cs=>nz cs
def aN (f:AF):List Nat→AF
 |[]=>f
 |t::r=>match get f t with
  | .ifb _ v=>(t,v)::aN f r
  |_=>aN f r
def conds (c:Bool) (f:AF):List Nat→List Prop
 |[]=>[]
 |t::r=>match get f t with
  | .ifb c' _=>(c=true→c'=true)::conds c f r
  |_=>conds c f r
def calm:K→Bool
 | .store _ _ _| .copy _ _ _| .alloc _ _| .box _ _ _| .append _ _ _ _ _| .appS _ _ _| .mkMap| .mapSet _ _ _ _ _| .mkSl _ _ _ _| .callB _ _=>false
 | .lit own _ _ _ _ _=>!own
 |_=>true
def aP:List Prop→Prop
 |[]=>True
 |p::l=>p∧aP l
def eJ (c0:Bool) (f:AF) (c a b:cn):Option (List Prop×AV):=match ev f c with
 | .pv (.bool x)=>match ev f a,ev f b with
  | .ifb c1 (.pv (.bool p)),.ifb c2 (.pv (.bool q))=>some ([c0=true→x=true→c1=true,c0=true→x=false→c2=true],.pv (.bool (bif x then p else q)))
  | .ifb c1 (.pv (.bool p)),.pv (.bool q)=>some ([c0=true→x=true→c1=true],.pv (.bool (bif x then p else q)))
  | .pv (.bool p),.ifb c2 (.pv (.bool q))=>some ([c0=true→x=false→c2=true],.pv (.bool (bif x then p else q)))
  | .pv (.bool p),.pv (.bool q)=>some ([],.pv (.bool (bif x then p else q)))
  |_,_=>none
 | .ifb c3 (.pv (.bool x))=>match ev f a,ev f b with
  | .ifb c1 (.pv (.bool p)),.ifb c2 (.pv (.bool q))=>some ([c0=true→c3=true,c0=true→x=true→c1=true,c0=true→x=false→c2=true],.pv (.bool (bif x then p else q)))
  | .ifb c1 (.pv (.bool p)),.pv (.bool q)=>some ([c0=true→c3=true,c0=true→x=true→c1=true],.pv (.bool (bif x then p else q)))
  | .pv (.bool p),.ifb c2 (.pv (.bool q))=>some ([c0=true→c3=true,c0=true→x=false→c2=true],.pv (.bool (bif x then p else q)))
  | .pv (.bool p),.pv (.bool q)=>some ([c0=true→c3=true],.pv (.bool (bif x then p else q)))
  |_,_=>none
 |_=>none
def dD:AV→Bool
 | .pv r=>scalar r
 |_=>false
def cP (f:AF) (k:K) (v:AV):Bool:=match k with
 | .call _ as=>(refsOf (as.map (ev f))).isEmpty||dD v
 | .callv x as=>match ev f x with
  | .fn _ caps=>(refsOf (as.map (ev f)++caps)).isEmpty||dD v
  | .bm _ first=>(refsOf (first++as.map (ev f))).isEmpty||dD v
  |_=>(refsOf (as.map (ev f))).isEmpty||dD v
 |_=>true
def iN (f:AF):Option (Nat×Bool)→Option Bool
 |none=>some true
 |some (t,want)=>match get f t with
  | .pv (.bool b)=>some (bif want then b else !b)
  | .ifb c0 (.pv (.bool b))=>some (c0&&(bif want then b else !b))
  |_=>none
def still:K→Bool
 | .store _ _ _| .copy _ _ _| .alloc _ _| .box _ _ _| .append _ _ _ _ _| .appS _ _ _| .load _ _ _| .slice _ _ _ _| .call _ _| .callv _ _| .callB _ _| .mkMap| .mkSl _ _ _ _| .mapSet _ _ _ _ _| .mapGet _ _ _ _ _| .lenM _=>false
 | .lit own _ _ _ _ _=>!own
 |_=>true
def quiet (dr:Bool) (h:Hint) (f:AF) (k:K) (v:AV):Bool:=match dr with
 |false=>true
 |true=>match isCallK k with
  |false=>true
  |true=>match h.mem with
   |some _=>false
   |none=>h.ro||(!h.frz&&cP f k v)
 where isCallK:K→Bool
 | .call _ _=>true
 | .callv _ _=>true
 |_=>false
def cI (X:FuncId→List PV→PV→Prop) (Y:FuncId→List AV→AM→AV→AM→Prop) (cm dr:Bool) (f:AF) (μ:AM) (o:bx) (h:Hint):Option (VC×List Prop×AV×AM) :=
 match cm with
 |false=>match o.guard with
  |none=>match bG X Y f μ h o.k with
   |some (vc,pr,v,μ')=>bif quiet dr h f o.k v then some (vc,pr,v,μ') else none
   |none=>none
  |some (t,want)=>match get f t with
   | .pv (.bool b)=>match (bif want then b else !b) with
    |true=>match bG X Y f μ h o.k with
     |some (vc,pr,v,μ')=>bif quiet dr h f o.k v then some (vc,pr,v,μ') else none
     |none=>none
    |false=>some ([],[],.any,μ)
   |_=>none
 |true=>match o.guard with
  |none=>match o.k with
   | .pick c a b=>match eJ true f c a b with
    |some (pr,v)=>match h.val with
     |some v'=>some ([],(v=v')::pr,v',μ)
     |none=>some ([],pr,v,μ)
    |none=>none
   |k=>match bG X Y (aN f (tmpsOf k)) μ h k with
    |some (vc,pr,v,μ')=>bif quiet dr h (aN f (tmpsOf k)) k v then some (vc,conds true f (tmpsOf k)++pr,v,μ') else none
    |none=>none
  |some g=>match iN f (some g) with
   |none=>none
   |some c=>match o.k with
    | .pick x a b=>match eJ c f x a b with
     |some (pr,v)=>some ([],pr,.ifb c v,μ)
     |none=>none
    |k=>match calm k with
     |true=>match bG X Y (aN f (tmpsOf k)) μ h k with
      |some (vc,pr,v,_)=>bif quiet true h (aN f (tmpsOf k)) k v then some ([],[c=true→aI vc∧aP (conds true f (tmpsOf k))∧aP pr],.ifb c v,μ) else none
      |none=>none
     |false=>none
def ff (X:FuncId→List PV→PV→Prop) (Y:FuncId→List AV→AM→AV→AM→Prop) (cm dr:Bool) (f:AF) (μ:AM) (o:bx) (h:Hint):Option (VC×List Prop×AF×AM) :=
 match cI X Y cm dr f μ o h with
 |some (vc,pr,v,μ')=>some (vc,pr,put f o.dst v,μ')
 |none=>none
def bF:List (Nat×Hint)→Nat→Hint
 |[],_=>{}
 |(j,h)::r,i=>bif Nat.beq j i then h else bF r i
def cV (X:FuncId→List PV→PV→Prop) (Y:FuncId→List AV→AM→AV→AM→Prop) (cm dr:Bool):List bx→List (Nat×Hint)→Nat→VC→List Prop→AF→AM→Option (VC×List Prop×AF×AM)
 |[],_,_,vc,pr,f,μ=>some (vc,pr,f,μ)
 |o::os,hs,i,vc,pr,f,μ=>match ff X Y cm dr f μ o (bF hs i) with
  |some (vc',pr',f',μ')=>cV X Y cm dr os hs (i+1) (vc'++vc) (pr'++pr) f' μ'
  |none=>none
inductive dt where
 |none
 |rd (l:List Nat)
 |wr (b:Nat) (l:List Nat)
 |al (nb:Nat)
 |big (l:List Nat) (n:Nat)
 |top
 deriving Inhabited
def dx (l:List Nat):dt:=match l with
 |[]=>.none
 |l=>.rd l
def aV (μ:AM) (f:AF) (h:Hint) (k:K):dt:=match k with
 | .alloc _ _=>.al μ.length
 | .box _ _ _=>.al μ.length
 | .lit own _ _ _ _ _=>match own with
  |true=>.al μ.length
  |false=>.none
 | .mkMap=>.al μ.length
 | .mkSl _ _ _ _=>.al μ.length
 | .mapSet _ _ x _ _=>match ev f x with
  | .map b _=>.wr b [b]
  |_=>.top
 | .mapGet _ _ _ x _=>match ev f x with
  | .map b _=>.rd [b]
  | .pv _=>.none
  |_=>.top
 | .lenM x=>match ev f x with
  | .map b _=>.rd [b]
  | .pv _=>.none
  |_=>.top
 | .load x _ _=>match ev f x with
  | .ptr b _ _=>.rd [b]
  | .iptr _ _=>.none
  |_=>.top
 | .slice x _ _ _=>match ev f x with
  | .ref b _ _ _=>.rd [b]
  | .pv _=>.none
  |_=>.top
 | .call _ as=>match h.ro,h.mem with
  |false,none=>dx (refsOf (as.map (ev f)))
  |_,_=>.top
 | .callv x as=>match h.ro,h.mem with
  |false,none=>match ev f x with
   | .fn _ caps=>dx (refsOf (as.map (ev f)++caps))
   | .bm _ first=>dx (refsOf (first++as.map (ev f)))
   |_=>dx (refsOf (as.map (ev f)))
  |_,_=>.top
 | .store x _ _=>match ev f x with
  | .ptr b _ _=>.wr b [b]
  |_=>.top
 | .callB _ _=>.big (h.upd.map (·.1)) μ.length
 |k=>match still k with
  |true=>.none
  |false=>.top
def fG (b:Nat):List Nat→Bool
 |[]=>true
 |c::r=>!(Nat.beq b c)&&fG b r
def apart (m:List Nat) (n:Nat):List Nat→Bool
 |[]=>true
 |b::r=>Nat.blt b n&&fG b m&&apart m n r
def cv:dt→dt→Bool
 | .none,_=>true
 |_,.none=>true
 | .rd _,.rd _=>true
 | .rd l,.wr b _=>fG b l
 | .wr b _,.rd l=>fG b l
 | .wr b l,.wr c m=>fG b m&&fG c l
 | .al a,.rd l=>fG a l
 | .rd l,.al a=>fG a l
 | .al a,.wr _ l=>fG a l
 | .wr _ l,.al a=>fG a l
 | .rd l,.big m n=>apart m n l
 | .big m n,.rd l=>apart m n l
 |_,_=>false
def dp:List dt→Nat→dt
 |[],_=>.top
 |x::_,0=>x
 |_::r,n+1=>dp r n
def eK (fs:List dt):List (Nat×Nat)→Bool
 |[]=>true
 |(p,q)::r=>cv (dp fs p) (dp fs q)&&eK fs r
def cA (X:FuncId→List PV→PV→Prop) (Y:FuncId→List AV→AM→AV→AM→Prop):List bx→List (Nat×Hint)→Nat→VC→List Prop→List dt→AF→AM→Option (VC×List Prop×List dt×AF×AM)
 |[],_,_,vc,pr,fs,f,μ=>some (vc,pr,fs,f,μ)
 |o::os,hs,i,vc,pr,fs,f,μ=>match ff X Y true true f μ o (bF hs i) with
  |some (vc',pr',f',μ')=>cA X Y os hs (i+1) (vc'++vc) (pr'++pr) (fs++[aV μ (aN f (tmpsOf o.k)) (bF hs i) o.k]) f' μ'
  |none=>none
end
section
def oK:Value→Option PV
 | .int k n=>some (.int k n)
 | .bool b=>some (.bool b)
 | .string s=>some (.str s.data.toList)
 | .slice none 0 0=>some .nilsl
 | .pointer none=>some (.val (.pointer none))
 | .map none=>some (.val (.map none))
 | .nilFunc=>some (.val .nilFunc)
 | .nilIface=>some (.val .nilIface)
 |_=>none
def eS:List Value→Option (List PV)
 |[]=>some []
 |v::r=>match oK v,eS r with
  |some p,some ps=>some (p::ps)
  |_,_=>none
def BG:Value→Option PV
 | .agg cs=>(eS cs.toList).map .agg
 |v=>oK v
def aB:Operand→Option cn
 | .tmp t=>some (.t t)
 | .const v=>(BG v).map .c
 | .func f=>some (.c (.val (.func (.func f) #[] #[])))
 | .global _=>none
def fv:List Operand→Option (List cn)
 |[]=>some []
 |x::r=>match aB x,fv r with
  |some p,some ps=>some (p::ps)
  |_,_=>none
def fW (P:Program) (t:TypeId):Option Bool:=match P.underlying t with
 |some (.struct _)=>some true
 |some (.array _ _)=>some true
 |some _=>some false
 |none=>none
def bQ (P:Program) (t:TypeId):Option Nat:=(P.info? t).map (·.size)
def jw (P:Program) (t:TypeId):Option (List PV):=match P.info? t with
 |some i=>match i.zero with
  |some z=>match eS z.cells.toList with
   |some l=>bif Nat.beq l.length i.size then some l else none
   |none=>none
  |none=>none
 |none=>none
def partsOf (place:Nat→Option (Nat×Nat)):List (Nat×Operand)→Option (List (Nat×Nat×cn))
 |[]=>some []
 |(i,x)::r=>match place i,aB x,partsOf place r with
  |some (o,s),some y,some l=>some ((o,s,y)::l)
  |_,_,_=>none
def ki (P:Program):List Field→Option (List (Nat×Nat))
 |[]=>some []
 |f::r=>match bQ P f.type,ki P r with
  |some s,some l=>some ((f.offset,s)::l)
  |_,_=>none
def gj:Option Operand→Option (Option cn)
 |none=>some none
 |some x=>(aB x).map some
def nA:TypeDesc→Operand→Option Nat
 | .slice _,.const (.slice none 0 0)=>some 0
 | .map _ _,.const (.map none)=>some 1
 | .func _ _ _,.const .nilFunc=>some 2
 | .pointer _,.const (.pointer none)=>some 3
 | .interface _,.const .nilIface=>some 4
 |_,_=>none
def jM (P:Program):List Field→Option (List (Nat×Nat))
 |[]=>some []
 |f :: r => bif f.name == "_" then none else
  match P.underlying f.type,jM P r with
  |some (.int _),some l=>some ((f.offset,0)::l)
  |some .bool,some l=>some ((f.offset,1)::l)
  |some .string,some l=>some ((f.offset,2)::l)
  |_,_=>none
def fx (P:Program):List Field→Option (List (Nat×Nat))
 |[]=>some []
 |f :: r => bif f.name == "_" then none else
  match P.underlying f.type,fx P r with
  |some (.int _),some l=>some ((f.offset,0)::l)
  |some .bool,some l=>some ((f.offset,1)::l)
  |some .string,some l=>some ((f.offset,2)::l)
  |some (.struct fs),some l=>bif P.stoodInHeld f.type then none else match jM P fs.toList,bQ P f.type with
   |some s,some n=>bif (s.all fun q=>Nat.blt q.1 n)&&(s.any fun q=>Nat.beq (q.1+1) n) then some (s.map (fun q=>(f.offset+q.1,q.2))++l) else none
   |_,_=>none
  |_,_=>none
def xr:TypeDesc→Option KD
 | .int k=>some (.int k)
 | .bool=>some .bool
 | .string=>some .str
 |_=>none
def nC (P:Program) (t:TypeId):Option KD:=match P.underlying t with
 |some (.map kt _)=>match P.underlying kt with
  |some d=>xr d
  |none=>none
 |_=>none
def zeroV (P:Program) (t:TypeId):Option PV:=match P.info? t with
 |some i=>match i.zero with
  |some v=>BG v
  |none=>none
 |none=>none
def nD (P:Program) (t:TypeId):Option PV:=match P.underlying t with
 |some (.map _ et)=>zeroV P et
 |_=>none
def ie (P:Program) (op:BinOp) (xt:TypeId) (x y:Operand):Option K :=
 match P.underlying xt with
 |some (.int _)=>match aB x,aB y with
  |some a,some b=>some (.bin op a b)
  |_,_=>none
 |some .string=>match aB x,aB y with
  |some a,some b=>some (.bin op a b)
  |_,_=>none
 |some .bool=>match op,aB x,aB y with
  | .eql,some a,some b=>some (.binB op a b)
  | .neq,some a,some b=>some (.binB op a b)
  |_,_,_=>none
 |some (.struct fs)=>bif P.stoodInHeld xt||P.eqGuardType P.depth xt then none else
  match op,fx P fs.toList,aB x,aB y with
  | .eql,some l,some a,some b=>some (.eqA false l a b)
  | .neq,some l,some a,some b=>some (.eqA true l a b)
  |_,_,_,_=>none
 |some d=>match op,nA d y,aB x with
  | .eql,some k,some a=>some (.isnil k false a)
  | .neq,some k,some a=>some (.isnil k true a)
  |_,_,_=>none
 |none=>none
def HN:Option Value→Bool
 |some (.int .u8 0)=>true
 |_=>false
theorem Er {v:Option Value} (h:HN v=true):v=some (.int .u8 0):=by
 unfold HN at h;split at h
 ·rfl
 cases h
def eT (P:Program) (b:Builtin) (args:List Operand) (argTypes:List TypeId):Option K :=
 match b,args,argTypes with
 | .len,[x],[t]=>match P.underlying t,aB x with
  |some (.slice _),some a=>some (.len a)
  |some .string,some a=>some (.lenS a)
  |some (.map _ _),some a=>some (.lenM a)
  |_,_=>none
 | .max,[x,y],_=>match aB x,aB y with
  |some a,some b=>some (.minmax true a b)
  |_,_=>none
 | .min,[x,y],_=>match aB x,aB y with
  |some a,some b=>some (.minmax false a b)
  |_,_=>none
 | .copy,[x,y],[t,_]=>match P.underlying t,aB x,aB y with
  |some (.slice e),some a,some b=>match bQ P e with
   |some s=>bif Nat.ble 1 s then some (.copy a b s) else none
   |none=>none
  |_,_,_=>none
 | .append,[s,x],[t,u]=>match P.underlying t,aB s,aB x,Nat.beq t u with
  |some (.slice e),some a,some b,true=>match P.info? e,jw P e with
   |some i,some _=>bif Nat.ble 1 i.size then some (.append a b e i.size i.bytes) else none
   |_,_=>none
  |some (.slice e),some a,some b,false=>match P.underlying u,P.info? e with
   |some .string,some i=>bif Nat.beq i.size 1&&(Nat.beq i.bytes 1&&HN i.zero) then some (.appS a b e) else none
   |_,_=>none
  |_,_,_,_=>none
 |_,_,_=>none
def dX (P:Program) (c:Call):Option K:=match c.callee with
 | .value (.func f)=>(fv c.args.toList).map (.call f)
 | .value (.tmp t)=>(fv c.args.toList).map (.callv (.t t))
 | .value _=>none
 | .invoke _ _=>none
 | .builtin b=>eT P b c.args.toList c.argTypes.toList
def pV (P:Program) (c:Call):Option K:=match c.callee with
 | .value (.func f)=>(fv c.args.toList).map (.callB f)
 |_=>dX P c
def ud (P:Program) (e:TypeId):Bool:=match P.info? e with
 |some i=>Nat.ble i.bytes 65536
 |none=>false
def jx (P:Program) (own:Bool):Op→Option K
 | .move x=>(aB x).map .mv
 | .assign x=>(aB x).map .mv
 | .pick c a b=>match aB c,aB a,aB b with
  |some c,some a,some b=>some (.pick c a b)
  |_,_,_=>none
 | .binOp op xt x y _=>ie P op xt x y
 | .unOp op _ x=>(aB x).map (.un op)
 | .alloc e=>(jw P e).map (.alloc e)
 | .box e x=>match aB x,bQ P e with
  |some a,some s=>some (.box e a s)
  |_,_=>none
 | .build t parts=>match P.underlying t,jw P t with
  |some (.struct fs),some z=>match ki P fs.toList with
   |some qs=>(partsOf (fun i=>qs[i]?) parts.toList).map (.build z)
   |none=>none
  |some (.array _ e),some z=>match bQ P e with
   |some s=>(partsOf (fun i=>some (i*s,s)) parts.toList).map (.build z)
   |none=>none
  |_,_=>none
 | .buildSlice t len parts=>match P.underlying t with
  |some (.slice e)=>match bQ P e,jw P e with
   |some s,some z=>bif Nat.ble (len*s) 16777216&&Nat.ble 1 s&&(Nat.ble 1 len||parts.isEmpty) then (partsOf (fun i=>some (i*s,s)) parts.toList).map (.lit own e s len z) else none
   |_,_=>none
  |_=>none
 | .load t a=>match fW P t,bQ P t,aB a with
  |some ag,some s,some x=>bif ag||Nat.beq s 1 then some (.load x s ag) else none
  |_,_,_=>none
 | .store t a v=>match bQ P t,aB a,aB v with
  |some s,some x,some y=>some (.store x y s)
  |_,_,_=>none
 | .fieldAddr s x f=>match P.underlying s,aB x with
  |some (.struct fs),some a=>match fs[f]? with
   |some fd=>match bQ P fd.type with
    |some (_+1)=>some (.fieldAddr a fd.offset)
    |_=>none
   |none=>none
  |_,_=>none
 | .field s x f=>match P.underlying s,aB x with
  |some (.struct fs),some a=>match fs[f]? with
   |some fd=>match fW P fd.type,bQ P fd.type with
    |some ag,some z=>bif ag||Nat.beq z 1 then some (.field a fd.offset z ag) else none
    |_,_=>none
   |none=>none
  |_,_=>none
 | .indexAddr t x i=>match P.underlying t,aB x,aB i with
  |some (.slice e),some a,some b=>(bQ P e).map (.indexSl a b)
  |some (.array n e),some a,some b=>bif Nat.ble 2 n then (bQ P e).map (.indexArr a b n) else none
  |_,_,_=>none
 | .index t x i=>match P.underlying t,aB x,aB i with
  |some .string,some a,some b=>some (.indexStr a b)
  |some (.array n e),some a,some b=>match fW P e,bQ P e with
   |some ag,some z=>bif ag||Nat.beq z 1 then some (.indexVal a b n z ag) else none
   |_,_=>none
  |_,_,_=>none
 | .slice t x lo hi none=>match P.underlying t,aB x,gj lo,gj hi with
  |some (.slice e),some a,some l,some h=>match bQ P e with
   |some (s+1)=>some (.slice a l h (s+1))
   |_=>none
  |some .string,some a,some l,some h=>some (.sliceStr a l h)
  |_,_,_,_=>none
 | .makeMap t none=>match nC P t with
  |some _=>some .mkMap
  |none=>none
 | .makeInterface t x=>bif P.concrete t then (aB x).map (.mkI t) else none
 | .panic x=>(aB x).map .pan
 | .makeSlice t l c=>match P.underlying t,aB l,aB c with
  |some (.slice e),some (.t a),some (.t b)=>bif Nat.beq a b&&ud P e then (match bQ P e,jw P e with
   |some s,some z=>some (.mkSl e s z (.t a))
   |_,_=>none) else none
  |_,_,_=>none
 | .insert t m k x=>match nC P t,aB m,aB k,aB x with
  |some kd,some a,some b,some c=>some (.mapSet true kd a b c)
  |_,_,_,_=>none
 | .mapUpdate t m k x=>match nC P t,aB m,aB k,aB x with
  |some kd,some a,some b,some c=>some (.mapSet false kd a b c)
  |_,_,_,_=>none
 | .lookup t x i ok=>match nC P t,nD P t,aB x,aB i with
  |some kd,some z,some a,some b=>some (.mapGet ok kd z a b)
  |_,_,_,_=>none
 | .extract x i=>(aB x).map (.extract · i)
 | .call c=>match own with
  |true=>pV P c
  |false=>dX P c
 | .nilCheck x=>(aB x).map .nilCheck
 | .makeFunc (.func f) first caps=>bif first.isEmpty then (fv caps.toList).map (.mkfn f) else bif caps.isEmpty then (fv first.toList).map (.mkbm f) else none
 | .convert s d x=>match P.underlying s,P.underlying d,aB x with
  |some (.int _),some (.int k),some a=>some (.conv k a)
  |some .string,some .string,some a=>some (.convS a)
  |some (.slice e),some .string,some a=>match P.underlying e with
   |some (.int .u8)=>some (.convB a)
   |_=>none
  |_,_,_=>none
 |_=>none
def eu (P:Program) (own:Nat→Bool) (n:Nat) (ops:Array Oper) (o:Oper):Option bx :=
 match jx P (match o.dst with|some d=>own d|none=>false) o.op with
 |none=>none
 |some k =>
  match (match o.dst with|some d=>Nat.blt d n|none=>true),o.guard with
  |true,none=>some ⟨o.dst,k,none⟩
  |true,some (j,want)=>match (ops[j]?).bind (·.dst) with
   |some t=>some ⟨o.dst,k,some (t,want)⟩
   |none=>none
  |false,_=>none
def dM (P:Program) (own:Nat→Bool) (n:Nat) (ops:Array Oper):List Oper→Option (List bx)
 |[]=>some []
 |o::r=>match eu P own n ops o,dM P own n ops r with
  |some a,some l=>some (a::l)
  |_,_=>none
def Es (ops:Array Oper):Option (Nat×Bool)→Option (Nat×Bool)→Option (Option (Nat×Bool))
 |none,none=>some none
 |some (j,b),some (j',b')=>bif Nat.beq j j'&&(b==b') then match (ops[j]?).bind (·.dst) with
  |some t=>some (some (t,b))
  |none=>none
  else none
 |_,_=>none
def xu (d:Nat):Option (Nat×Bool)→Bool
 |some (s,_)=>!(Nat.beq s d)
 |none=>true
def Et (P:Program) (n:Nat) (ops:Array Oper) (o1 o2:Oper):Option sQ:=match o1.op,o1.dst,o2.op,o2.dst with
 | .indexAddr ty (.global g) i,some d1,.load ty2 (.tmp d),some d2=>match P.underlying ty,aB i,bQ P ty2,fW P ty2,Es ops o1.guard o2.guard with
  |some (.array len e),some x,some 1,some false,some grd=>match bQ P e with
   |some 1=>bif Nat.beq d d1&&(Nat.blt d1 n&&(Nat.blt d2 n&&xu d1 grd)) then some ⟨g,x,len,d1,d2,grd⟩ else none
   |_=>none
  |_,_,_,_,_=>none
 |_,_,_,_=>none
def vp (P:Program) (own:Nat→Bool) (n:Nat) (ops:Array Oper):List Oper→Option (List bx×sQ×List bx)
 |o1::o2::r=>match Et P n ops o1 o2 with
  |some t=>match dM P own n ops r with
   |some suf=>some ([],t,suf)
   |none=>none
  |none=>match eu P own n ops o1,vp P own n ops (o2::r) with
   |some a,some (pre,t,suf)=>some (a::pre,t,suf)
   |_,_=>none
 |_=>none
end
section
def fc:List MapEntry→List Value
 |[]=>[]
 |e::r=>e.key::e.val::fc r
inductive Is (w:World) (S:Nat→Prop):PV→Value→Prop where
 |int (k n):Is w S (.int k n) (.int k n)
 |bool (b):Is w S (.bool b) (.bool b)
 |str (s:List UInt8):Is w S (.str s) (.string ⟨s.toArray⟩)
 |agg (l:List PV) (cs:List Value):l.length=cs.length→(∀(i:Nat) p v,l[i]?=some p→cs[i]?=some v→Is w S p v)→Is w S (.agg l) (.agg cs.toArray)
 |tup (l:List PV) (cs:List Value):l.length=cs.length→(∀(i:Nat) p v,l[i]?=some p→cs[i]?=some v→Is w S p v)→Is w S (.tup l) (.tuple cs.toArray)
 |nilsl:Is w S .nilsl (.slice none 0 0)
 |sl (n:Nat) (l:List PV) (g o cap:Nat) (c:Nat→Value):S g→n≤cap→cap≤maxLen→(∀(i:Nat) p,l[i]?=some p→w.cell? ⟨g,o+i,none⟩=some (c i)) →
   (∀(i:Nat) p,l[i]?=some p→(c i).oneCell'=true)→(∀(i:Nat) p,l[i]?=some p→Is w S p (c i))→Is w S (.sl n l) (.slice (some ⟨g,o,none⟩) n cap)
 |sl0:Is w S (.sl 0 []) (.slice none 0 0)
 |slz (a:Addr) (cap:Nat):cap≤maxLen→Is w S (.sl 0 []) (.slice (some a) 0 cap)
 |val (v):Is w S (.val v) v
 |iface (t:TypeId) (p:Value):Is w S .iface (.iface t p)
 |mp (l:List PV) (r:Nat) (es:Array MapEntry) (clock:Nat):S r→w.heap[r]?=some (.map es clock)→l.length=(fc es.toList).length →
   (∀(i:Nat) p v,l[i]?=some p→(fc es.toList)[i]?=some v→Is w S p v)→Is w S (.mp l) (.map (some r))
structure sO where
 gen:Nat
 cb:Nat
 cap:Nat
 sz:Nat
abbrev Gh:=Nat→Option sO
inductive VR (w:World) (S:Nat→Prop) (γ:Gh):AV→Value→Prop where
 |pv (p v):Is w S p v→VR w S γ (.pv p) v
 |ref (b g off n:Nat) (v:Value) (e:sO) (a:Addr) (c:Nat):γ b=some e→g≤e.gen→v= .slice (some a) n c∧n≤c →
   (g=e.gen→(∃cap,v= .slice (some ⟨e.cb,off,none⟩) n cap∧off+cap*e.sz=e.cap∧n≤cap∧cap≤maxLen)∨(n=0∧0<off∧∃o' cap,v= .slice (some ⟨e.cb,o',none⟩) 0 cap∧cap≤maxLen))→VR w S γ (.ref b g off n) v
 |ptr (b g off:Nat) (v:Value) (e:sO) (a:Addr):γ b=some e→g≤e.gen→v= .pointer (some a)→(g=e.gen→v= .pointer (some ⟨e.cb,off,none⟩))→VR w S γ (.ptr b g off) v
 |iptr (l:List PV) (off g o:Nat) (c:Nat→Value):S g→(∀(i:Nat) p,l[i]?=some p→w.cell? ⟨g,o+i,none⟩=some (c i)) →
   (∀(i:Nat) p,l[i]?=some p→Is w S p (c i))→VR w S γ (.iptr l off) (.pointer (some ⟨g,o+off,none⟩))
 |agg (l:List AV) (cs:List Value):l.length=cs.length→(∀(i:Nat) p v,l[i]?=some p→cs[i]?=some v→VR w S γ p v)→VR w S γ (.agg l) (.agg cs.toArray)
 |tup (l:List AV) (cs:List Value):l.length=cs.length→(∀(i:Nat) p v,l[i]?=some p→cs[i]?=some v→VR w S γ p v)→VR w S γ (.tup l) (.tuple cs.toArray)
 |fn (f:FuncId) (l:List AV) (cs:List Value):l.length=cs.length→(∀(i:Nat) p v,l[i]?=some p→cs[i]?=some v→VR w S γ p v)→VR w S γ (.fn f l) (.func (.func f) #[] cs.toArray)
 |bm (f:FuncId) (l:List AV) (cs:List Value):l.length=cs.length→(∀(i:Nat) p v,l[i]?=some p→cs[i]?=some v→VR w S γ p v)→VR w S γ (.bm f l) (.func (.func f) cs.toArray #[])
 |map (b g:Nat) (v:Value) (e:sO) (r:Nat):γ b=some e→g≤e.gen→v= .map (some r)→(g=e.gen→v= .map (some e.cb))→VR w S γ (.map b g) v
 |ifb (c:Bool) (a:AV) (v:Value):(c=true→VR w S γ a v)→(c=false→v=undef)→VR w S γ (.ifb c a) v
 |any (v):VR w S γ .any v
structure PW {α β:Type} (R:α→β→Prop) (l:List α) (m:List β):Prop where
 len:l.length=m.length
 at_:∀(i:Nat) (a:α) (b:β),l[i]?=some a→m[i]?=some b→R a b
structure pL (S S':Nat→Prop) (w w':World):Prop where
 set:∀g,S g→S' g
 blk:∀g,S g→w'.heap[g]?=w.heap[g]?
theorem pL.cell {S S':Nat→Prop} {w w':World} (h:pL S S' w w') {g:Nat} (hg:S g) (o:Nat):w'.cell? ⟨g,o,none⟩=w.cell? ⟨g,o,none⟩ :=
 World.cell?_of_block (h.blk g hg)
theorem Is.stay {S S':Nat→Prop} {w w':World} (h:pL S S' w w') {p:PV} {v:Value} (hp:Is w S p v):Is w' S' p v:=by
 induction hp with
 |int k n=>exact .int k n
 |bool b=>exact .bool b
 |str s=>exact .str s
 |agg l cs hl _ ih=>exact .agg l cs hl ih
 |tup l cs hl _ ih=>exact .tup l cs hl ih
 |nilsl=>exact .nilsl
 |sl n l g o cap c hS h1 h2 hc h3 _ ih=>exact .sl n l g o cap c (h.set g hS) h1 h2 (fun i p hi=>(h.cell hS _).trans (hc i p hi)) h3 ih
 |sl0=>exact .sl0
 |slz a cap h=>exact .slz a cap h
 |val v=>exact .val v
 |iface t p=>exact .iface t p
 |mp l r es clock hS hh hl _ ih=>exact .mp l r es clock (h.set r hS) ((h.blk r hS).trans hh) hl ih
structure ig (w:World) (S:Nat→Prop) (γ:Gh) (w':World) (S':Nat→Prop) (γ':Gh):Prop where
 stay:pL S S' w w'
 gh:∀b e,γ b=some e→∃e',γ' b=some e'∧e.gen≤e'.gen∧(e'.gen=e.gen→e'=e)
 more:∀g,S' g→S g∨(∃b e,γ b=some e∧e.cb=g)∨w.heap.size≤g
 cbs:∀b e',γ' b=some e'→(∃b0 e,γ b0=some e∧e.cb=e'.cb)∨w.heap.size≤e'.cb
 size:w.heap.size≤w'.heap.size
structure Ext (w:World) (S:Nat→Prop) (γ:Gh) (w':World) (S':Nat→Prop) (γ':Gh):Prop where
 stay:pL S S' w w'
 gh:∀b e,γ b=some e→∃e',γ' b=some e'∧e.gen≤e'.gen∧(e'.gen=e.gen→e'=e)
 more:∀g,S' g→S g∨(∃b e,γ b=some e∧e.cb=g)∨w.heap.size≤g
 cbs:∀b e',γ' b=some e'→(∃b0 e,γ b0=some e∧e.cb=e'.cb)∨w.heap.size≤e'.cb
 size:w.heap.size≤w'.heap.size
 frame:∀g,g<w.heap.size→(∀b e,γ b=some e→e.cb≠g)→w'.heap[g]?=w.heap[g]?
theorem Ext.z {w w':World} {S S':Nat→Prop} {γ γ':Gh} (h:Ext w S γ w' S' γ'):ig w S γ w' S' γ':=⟨h.stay,h.gh,h.more,h.cbs,h.size⟩
theorem ig.refl (w:World) (S:Nat→Prop) (γ:Gh):ig w S γ w S γ:=⟨⟨fun _ h=>h,fun _ _=>rfl⟩,fun _ e h=>⟨e,h,Nat.le_refl _,fun _=>rfl⟩,fun _ h=>.inl h,fun b e h=>.inl ⟨b,e,h,rfl⟩,Nat.le_refl _⟩
theorem Ext.refl (w:World) (S:Nat→Prop) (γ:Gh):Ext w S γ w S γ:=⟨⟨fun _ h=>h,fun _ _=>rfl⟩,fun _ e h=>⟨e,h,Nat.le_refl _,fun _=>rfl⟩,fun _ h=>.inl h,fun b e h=>.inl ⟨b,e,h,rfl⟩,Nat.le_refl _,fun _ _ _=>rfl⟩
theorem pL.trans {S S' S'':Nat→Prop} {w w' w'':World} (h:pL S S' w w') (k:pL S' S'' w' w''):pL S S'' w w'' :=
 ⟨fun g hg=>k.set g (h.set g hg),fun g hg=>(k.blk g (h.set g hg)).trans (h.blk g hg)⟩
theorem ig.trans {w w' w'':World} {S S' S'':Nat→Prop} {γ γ' γ'':Gh} (h:ig w S γ w' S' γ') (k:ig w' S' γ' w'' S'' γ''):ig w S γ w'' S'' γ'' :=
 ⟨h.stay.trans k.stay,fun b e hb=>by
  obtain⟨e',h1,h2,h3⟩:=h.gh b e hb;obtain⟨e'',k1,k2,k3⟩:=k.gh b e' h1;refine⟨e'',k1,by omega,fun he=>?_⟩;have:e'.gen=e.gen:=by omega
  rw[k3 (by omega),h3 this],fun g hg=>by
  rcases k.more g hg with h1|⟨b,e',h1,h2⟩|h1
  ·exact h.more g h1
  ·rcases h.cbs b e' h1 with⟨b0,e,h3,h4⟩|h3
   ·exact .inr (.inl ⟨b0,e,h3,h4.trans h2⟩)
   exact .inr (.inr (h2▸h3))
  ·exact .inr (.inr (Nat.le_trans h.size h1)),fun b e'' hb=>by
  rcases k.cbs b e'' hb with⟨b0,e',h1,h2⟩|h1
  ·rcases h.cbs b0 e' h1 with⟨b1,e,h3,h4⟩|h3
   ·exact .inl ⟨b1,e,h3,h4.trans h2⟩
   exact .inr (h2▸h3)
  exact .inr (Nat.le_trans h.size h1),Nat.le_trans h.size k.size⟩
theorem Ext.trans {w w' w'':World} {S S' S'':Nat→Prop} {γ γ' γ'':Gh} (h:Ext w S γ w' S' γ') (k:Ext w' S' γ' w'' S'' γ''):Ext w S γ w'' S'' γ'':=by
 have h0:=h.z.trans k.z;refine⟨h0.stay,h0.gh,h0.more,h0.cbs,h0.size,fun g hg hn=>?_⟩;refine(k.frame g (Nat.lt_of_lt_of_le hg h.size) fun b e' hb he=>?_).trans (h.frame g hg hn);rcases h.cbs b e' hb with⟨b0,e,h1,h2⟩|h1
 ·exact hn b0 e h1 (h2.trans he)
 omega
theorem VR.sT {w w':World} {S S':Nat→Prop} {γ γ':Gh} (h:ig w S γ w' S' γ') {a:AV} {v:Value} (ha:VR w S γ a v):VR w' S' γ' a v:=by
 induction ha with
 |pv p v hp=>exact .pv p v (hp.stay h.stay)
 |ref b g off n v e a c hb hg hv hs =>
  obtain⟨e',h1,h2,h3⟩:=h.gh b e hb;refine .ref b g off n v e' a c h1 (by omega) hv fun he=>?_
  have he':e'=e:=h3 (by omega);subst he';exact hs he
 |ptr b g off v e a hb hg hv hs =>
  obtain⟨e',h1,h2,h3⟩:=h.gh b e hb;refine .ptr b g off v e' a h1 (by omega) hv fun he=>?_
  have he':e'=e:=h3 (by omega);subst he';exact hs he
 |iptr l off g o c hS hc hi=>exact .iptr l off g o c (h.stay.set g hS) (fun i p hp=>(h.stay.cell hS _).trans (hc i p hp)) fun i p hp=>(hi i p hp).stay h.stay
 |agg l cs hl _ ih=>exact .agg l cs hl ih
 |tup l cs hl _ ih=>exact .tup l cs hl ih
 |fn f l cs hl _ ih=>exact .fn f l cs hl ih
 |bm f l cs hl _ ih=>exact .bm f l cs hl ih
 |map b g v e r hb hg hv hs =>
  obtain⟨e',h1,h2,h3⟩:=h.gh b e hb;refine .map b g v e' r h1 (by omega) hv fun he=>?_
  have he':e'=e:=h3 (by omega);subst he';exact hs he
 |ifb c a v _ h2 ih=>exact .ifb c a v ih h2
 |any v=>exact .any v
theorem VR.ext {w w':World} {S S':Nat→Prop} {γ γ':Gh} (h:Ext w S γ w' S' γ') {a:AV} {v:Value} (ha:VR w S γ a v):VR w' S' γ' a v:=ha.sT h.z
structure ib (m:Nat) (w:World) (S:Nat→Prop) (γ:Gh) (w':World) (S':Nat→Prop) (γ':Gh):Prop where
 stay:pL S S' w w'
 gh:∀b e,b<m→γ b=some e→∃e',γ' b=some e'∧e.gen≤e'.gen∧(e'.gen=e.gen→e'=e)
 more:∀g,S' g→S g∨(∃b e,γ b=some e∧e.cb=g)∨w.heap.size≤g
 cbs:∀b e',γ' b=some e'→(∃b0 e,γ b0=some e∧e.cb=e'.cb)∨w.heap.size≤e'.cb
 size:w.heap.size≤w'.heap.size
structure fH (m:Nat) (w:World) (S:Nat→Prop) (γ:Gh) (w':World) (S':Nat→Prop) (γ':Gh):Prop where
 stay:pL S S' w w'
 gh:∀b e,b<m→γ b=some e→∃e',γ' b=some e'∧e.gen≤e'.gen∧(e'.gen=e.gen→e'=e)
 more:∀g,S' g→S g∨(∃b e,γ b=some e∧e.cb=g)∨w.heap.size≤g
 cbs:∀b e',γ' b=some e'→(∃b0 e,γ b0=some e∧e.cb=e'.cb)∨w.heap.size≤e'.cb
 size:w.heap.size≤w'.heap.size
 frame:∀g,g<w.heap.size→(∀b e,γ b=some e→e.cb≠g)→w'.heap[g]?=w.heap[g]?
theorem fH.z {m:Nat} {w w':World} {S S':Nat→Prop} {γ γ':Gh} (h:fH m w S γ w' S' γ'):ib m w S γ w' S' γ':=⟨h.stay,h.gh,h.more,h.cbs,h.size⟩
theorem ig.ue {w w':World} {S S':Nat→Prop} {γ γ':Gh} (h:ig w S γ w' S' γ') (m:Nat):ib m w S γ w' S' γ' :=
 ⟨h.stay,fun b e _ hb=>h.gh b e hb,h.more,h.cbs,h.size⟩
theorem Ext.ue {w w':World} {S S':Nat→Prop} {γ γ':Gh} (h:Ext w S γ w' S' γ') (m:Nat):fH m w S γ w' S' γ' :=
 ⟨h.stay,fun b e _ hb=>h.gh b e hb,h.more,h.cbs,h.size,h.frame⟩
theorem ib.refl (m:Nat) (w:World) (S:Nat→Prop) (γ:Gh):ib m w S γ w S γ:=(ig.refl w S γ).ue m
theorem fH.refl (m:Nat) (w:World) (S:Nat→Prop) (γ:Gh):fH m w S γ w S γ:=(Ext.refl w S γ).ue m
theorem ib.trans {m:Nat} {w w' w'':World} {S S' S'':Nat→Prop} {γ γ' γ'':Gh} (h:ib m w S γ w' S' γ') (k:ib m w' S' γ' w'' S'' γ''):ib m w S γ w'' S'' γ'' :=
 ⟨h.stay.trans k.stay,fun b e hbm hb=>by
  obtain⟨e',h1,h2,h3⟩:=h.gh b e hbm hb;obtain⟨e'',k1,k2,k3⟩:=k.gh b e' hbm h1;refine⟨e'',k1,by omega,fun he=>?_⟩;have:e'.gen=e.gen:=by omega
  rw[k3 (by omega),h3 this],fun g hg=>by
  rcases k.more g hg with h1|⟨b,e',h1,h2⟩|h1
  ·exact h.more g h1
  ·rcases h.cbs b e' h1 with⟨b0,e,h3,h4⟩|h3
   ·exact .inr (.inl ⟨b0,e,h3,h4.trans h2⟩)
   exact .inr (.inr (h2▸h3))
  ·exact .inr (.inr (Nat.le_trans h.size h1)),fun b e'' hb=>by
  rcases k.cbs b e'' hb with⟨b0,e',h1,h2⟩|h1
  ·rcases h.cbs b0 e' h1 with⟨b1,e,h3,h4⟩|h3
   ·exact .inl ⟨b1,e,h3,h4.trans h2⟩
   exact .inr (h2▸h3)
  exact .inr (Nat.le_trans h.size h1),Nat.le_trans h.size k.size⟩
theorem fH.trans {m:Nat} {w w' w'':World} {S S' S'':Nat→Prop} {γ γ' γ'':Gh} (h:fH m w S γ w' S' γ') (k:fH m w' S' γ' w'' S'' γ''):fH m w S γ w'' S'' γ'':=by
 have h0:=h.z.trans k.z;refine⟨h0.stay,h0.gh,h0.more,h0.cbs,h0.size,fun g hg hn=>?_⟩;refine(k.frame g (Nat.lt_of_lt_of_le hg h.size) fun b e' hb he=>?_).trans (h.frame g hg hn);rcases h.cbs b e' hb with⟨b0,e,h1,h2⟩|h1
 ·exact hn b0 e h1 (h2.trans he)
 omega
structure Ctx where
 P:Program
 E:World→Prop
 hE:∀w w',E w→Below w.heap.size w w'→E w'
 mixed:P.follows .mixedOrders=true
 D:List Deferred:=[]
def eU (P:Program) (f:FuncId):Bool:=match P.funcs[f]? with
 |some fn => fn.body.isSome && !(fn.name == "runtime.NumGoroutine")
 |none=>false
def ah (C:Ctx) (f:FuncId) (ps:List PV) (r:PV):Prop :=
 eU C.P f=true∧∀(w:World) (S:Nat→Prop) (vs:List Value),C.E w→(∀g,S g→g<w.heap.size)→PW (Is w S) ps vs →
  Calls C.P f vs.toArray w fun e w'=>∃v,e= .returned v∧Below w.heap.size w w'∧Is w' (fun g=>S g∨(w.heap.size≤g∧g<w'.heap.size)) r v
def vt (w:World) (S:Nat→Prop) (γ:Gh) (k:dI) (cb:Nat):Prop :=
 ∃es clock,w.heap[cb]?=some (.map es clock)∧PW (VR w S γ) k.cells (fc es.toList)∧MapKept.Stamped es clock
theorem vt.sT {w w':World} {S S':Nat→Prop} {γ γ':Gh} {k:dI} {cb:Nat} (hE:ig w S γ w' S' γ') (h:w'.heap[cb]?=w.heap[cb]?) (hM:vt w S γ k cb):vt w' S' γ' k cb:=by
 obtain⟨es,clock,h1,h2,h3⟩:=hM;exact⟨es,clock,h.trans h1,⟨h2.len,fun i a b ha hb=>(h2.at_ i a b ha hb).sT hE⟩,h3⟩
theorem vt.ext {w w':World} {S S':Nat→Prop} {γ γ':Gh} {k:dI} {cb:Nat} (hE:Ext w S γ w' S' γ') (h:w'.heap[cb]?=w.heap[cb]?) (hM:vt w S γ k cb):vt w' S' γ' k cb:=hM.sT hE.z h
def nE (w:World) (cb:Nat) (cs:Array Value) (k:dI):Prop:=∃fz,w.heap[cb]?=some (.cells cs k.elem fz)∧(k.frozen=false→fz=(0,0))
theorem nE.of {w:World} {cb:Nat} {cs:Array Value} {k:dI} (h:w.heap[cb]?=some (.cells cs k.elem (0,0))):nE w cb cs k:=⟨_,h,fun _=>rfl⟩
theorem nE.free {w:World} {cb:Nat} {cs:Array Value} {k:dI} (h:nE w cb cs k) (hf:k.frozen=false):w.heap[cb]?=some (.cells cs k.elem (0,0)):=by
 obtain⟨fz,h1,h2⟩:=h;rw[h1,h2 hf]
theorem nE.congr {w w':World} {cb:Nat} {cs:Array Value} {k k':dI} (h:nE w cb cs k) (hh:w'.heap[cb]?=w.heap[cb]?) (he:k'.elem=k.elem) (hf:k'.frozen=false→k.frozen=false):nE w' cb cs k':=by
 obtain⟨fz,h1,h2⟩:=h;exact⟨fz,by rw[hh,he];exact h1,fun h=>h2 (hf h)⟩
structure iO (w0:World) (S:Nat→Prop) (γ:Gh) (μ:AM) (w:World):Prop where
 blk:∀(b:Nat) k,μ[b]?=some k→k.sz≠0→∃e cs,γ b=some e∧e.gen=k.gen∧e.sz=k.sz∧nE w e.cb cs k∧cs.size=e.cap∧k.cells.length≤e.cap ∧
  (∀(i:Nat) a,k.cells[i]?=some a→∃v,cs[i]?=some v∧VR w S γ a v∧v.oneCell'=true)∧w0.heap.size≤e.cb∧(k.frozen=false→¬S e.cb)
 mp:∀(b:Nat) k,μ[b]?=some k→k.sz=0→∃e,γ b=some e∧e.gen=k.gen∧e.sz=k.sz∧vt w S γ k e.cb∧w0.heap.size≤e.cb∧(k.frozen=false→¬S e.cb)
 none:∀b,μ.length≤b→γ b=none
 inj:∀b b' e e',γ b=some e→γ b'=some e'→e.cb=e'.cb→b=b'
theorem iO.Aa {w0 w:World} {S:Nat→Prop} {γ:Gh} {μ:AM} (h:iO w0 S γ μ w) {b:Nat} {k:dI} (hk:μ[b]?=some k) :
  ∃e,γ b=some e∧e.gen=k.gen∧e.sz=k.sz∧e.cb<w.heap.size∧w0.heap.size≤e.cb∧(k.frozen=false→¬S e.cb):=by
 have lt:∀{cb:Nat} {o:Obj},w.heap[cb]?=some o→cb<w.heap.size:=fun h=>(Array.getElem?_eq_some_iff.mp h).1
 by_cases hz:k.sz=0
 ·obtain⟨e,h1,h2,h3,⟨es,clock,h4,-⟩,h5,h6⟩:=h.mp b k hk hz;exact⟨e,h1,h2,h3,lt h4,h5,h6⟩
 obtain⟨e,cs,h1,h2,h3,⟨_,h4,-⟩,-,-,-,h5,h6⟩:=h.blk b k hk hz;exact⟨e,h1,h2,h3,lt h4,h5,h6⟩
theorem iO.stay {w0 w w':World} {S S':Nat→Prop} {γ:Gh} {μ:AM} (h:iO w0 S γ μ w) (hE:ig w S γ w' S' γ) (hh:∀b e,γ b=some e→e.cb<w.heap.size→w'.heap[e.cb]?=w.heap[e.cb]?)
  (hS:∀b k e,μ[b]?=some k→γ b=some e→e.cb<w.heap.size→k.frozen=false→¬S e.cb→¬S' e.cb):iO w0 S' γ μ w':=by
 refine⟨fun b k hk hz=>?_,fun b k hk hz=>?_,h.none,h.inj⟩
 ·obtain⟨e0,q1,-,-,q4,-⟩:=h.Aa hk;obtain⟨e,cs,h1,h2,h3,h4,h5,h6,h7,h8,h9⟩:=h.blk b k hk hz;rw[q1]at h1;injection h1 with h1;subst h1
  exact⟨e0,cs,q1,h2,h3,h4.congr (hh b e0 q1 q4) rfl id,h5,h6,fun i x hx=>by
   obtain⟨v,g1,g2,g3⟩:=h7 i x hx;exact⟨v,g1,g2.sT hE,g3⟩,h8,fun hf=>hS b k e0 hk q1 q4 hf (h9 hf)⟩
 obtain⟨e0,q1,-,-,q4,-⟩:=h.Aa hk;obtain⟨e,h1,h2,h3,h4,h5,h6⟩:=h.mp b k hk hz;rw[q1]at h1;injection h1 with h1;subst h1
 exact⟨e0,q1,h2,h3,h4.sT hE (hh b e0 q1 q4),h5,fun hf=>hS b k e0 hk q1 q4 hf (h6 hf)⟩
structure Wd (C:Ctx) (w0:World) (S:Nat→Prop) (γ:Gh) (μ:AM) (w:World):Prop where
 mem:iO w0 S γ μ w
 below:Below w0.heap.size w0 w
 live:∀g,S g→g<w.heap.size
 env:C.E w0
theorem Wd.E {C:Ctx} {w0 w:World} {S:Nat→Prop} {γ:Gh} {μ:AM} (h:Wd C w0 S γ μ w):C.E w:=C.hE w0 w h.env h.below
def aA (C:Ctx) (f:FuncId) (as:List AV) (μ:AM) (r:AV) (μ':AM):Prop :=
 eU C.P f=true∧∀(w0:World) (S:Nat→Prop) (γ:Gh) (w:World) (vs:List Value),Wd C w0 S γ μ w→PW (VR w S γ) as vs →
  Calls C.P f vs.toArray w fun e w'=>∃v S' γ',e= .returned v∧Ext w S γ w' S' γ'∧Wd C w0 S' γ' μ' w'∧VR w' S' γ' r v
structure FR (D:List Deferred) (n:Nat) (w:World) (S:Nat→Prop) (γ:Gh) (f:AF) (a:Act):Prop where
 size:a.tmps.size=n
 defers:a.defers=D
 val:∀t,VR w S γ (get f t) (a.eval (.tmp t))
theorem FR.sT {D:List Deferred} {n:Nat} {w w':World} {S S':Nat→Prop} {γ γ':Gh} {f:AF} {a:Act} (h:FR D n w S γ f a) (he:ig w S γ w' S' γ'):FR D n w' S' γ' f a :=
 ⟨h.size,h.defers,fun t=>(h.val t).sT he⟩
theorem FR.ext {D:List Deferred} {n:Nat} {w w':World} {S S':Nat→Prop} {γ γ':Gh} {f:AF} {a:Act} (h:FR D n w S γ f a) (he:Ext w S γ w' S' γ'):FR D n w' S' γ' f a :=
 ⟨h.size,h.defers,fun t=>(h.val t).ext he⟩
theorem FR.put {D:List Deferred} {n:Nat} {w:World} {S:Nat→Prop} {γ:Gh} {f:AF} {a:Act} (h:FR D n w S γ f a) {v:AV} {u:Value} (hv:VR w S γ v u) {d:Option Nat} (hd:∀t,d=some t→t<n):FR D n w S γ (Pur.put f d v) (a.put d u):=by
 cases d with
 |none=>exact h
 |some d =>
  have hdn:=hd d rfl;refine⟨by simp[Act.put,h.size],h.defers,fun t=>?_⟩;show VR w S γ (Pur.get ((d,v)::f) t) _;simp only[Pur.get];by_cases hdt:d=t
  ·subst hdt;simp only[Nat.beq_refl,cond_true];have:(a.put (some d) u).eval (.tmp d)=u:=by
    simp[Act.put,Act.eval,Array.getD,h.size,hdn]
   rw[this];exact hv
  have hne:Nat.beq d t=false:=by
   rw[Bool.eq_false_iff];intro hb;exact hdt (Nat.eq_of_beq_eq_true hb)
  rw[hne,cond_false];have:(a.put (some d) u).eval (.tmp t)=a.eval (.tmp t):=by
   simp[Act.put,Act.eval,Array.getElem?_setIfInBounds_ne hdt]
  rw[this];exact h.val t
theorem BH (w:World) (S:Nat→Prop) (s:ByteArray):Is w S (.str s.data.toList) (.string s):=by
 have:Is w S (.str s.data.toList) (.string ⟨s.data.toList.toArray⟩):=.str _;simpa using this
theorem ti {v:Value} {p:PV} (h:oK v=some p) (w:World) (S:Nat→Prop):Is w S p v:=by
 unfold oK at h;split at h;all_goals first
  |(injection h with h;subst h;first|exact .int _ _|exact .bool _|exact .nilsl|exact .val _|exact BH _ _ _)
  |cases h
theorem dN {w:World} {S:Nat→Prop}:∀{l:List Value} {ps:List PV},eS l=some ps→PW (Is w S) ps l
 |[],ps,h=>by
  simp only[eS,Option.some.injEq]at h;subst h;exact⟨rfl,fun i a b h=>by simp at h⟩
 |v::r,ps,h=>by
  simp only[eS]at h;split at h
  ·rename_i p q hp hq;injection h with h
   subst h;have ih:=dN (w:=w) (S:=S) hq;refine⟨by simp[ih.len],fun i a b h1 h2=>?_⟩;cases i with
   |zero =>
    simp only[List.getElem?_cons_zero,Option.some.injEq]at h1 h2;subst h1 h2;exact ti hp w S
   |succ i=>exact ih.at_ i a b (by simpa using h1) (by simpa using h2)
  cases h
theorem yU {v:Value} {p:PV} (h:BG v=some p) (w:World) (S:Nat→Prop):Is w S p v:=by
 unfold BG at h;split at h
 ·rename_i cs;cases hl:eS cs.toList with
  |none=>rw[hl]at h;cases h
  |some ps =>
   rw[hl]at h;simp only[Option.map_some,Option.some.injEq]at h;subst h;have hp:=dN (w:=w) (S:=S) hl;have:=Is.agg (w:=w) (S:=S) ps cs.toList hp.len hp.at_;simpa using this
 exact ti h w S
theorem aO {w:World} {S:Nat→Prop} {γ:Gh} {f:AF} {a:Act} {x:Operand} {y:cn} (h:aB x=some y) (hf:∀t∈fi y,VR w S γ (get f t) (a.eval (.tmp t))):VR w S γ (ev f y) (a.eval x):=by
 unfold aB at h;split at h
 ·injection h with h;subst h
  exact hf _ (by simp[fi])
 ·rename_i v;cases hv:BG v with
  |none=>rw[hv]at h;cases h
  |some p =>
   rw[hv]at h;simp only[Option.map_some,Option.some.injEq]at h;subst h;exact .pv p v (yU hv w S)
 ·injection h with h;subst h
  exact .pv _ _ (.val _)
 cases h
theorem ij {w:World} {S:Nat→Prop} {γ:Gh} {f:AF} {a:Act}:∀{xs:List Operand} {ys:List cn},fv xs=some ys→(∀t∈nz ys,VR w S γ (get f t) (a.eval (.tmp t)))→PW (VR w S γ) (ys.map (ev f)) (xs.map a.eval)
 |[],ys,h,_=>by
  simp only[fv,Option.some.injEq]at h;subst h;exact⟨rfl,fun i a b h=>by simp at h⟩
 |x::r,ys,h,hf=>by
  simp only[fv]at h;split at h
  ·rename_i p q hp hq;injection h with h
   subst h;have ih:=ij (w:=w) (S:=S) (γ:=γ) (f:=f) (a:=a) hq fun t ht=>hf t (by simp[nz,ht])
   refine⟨by simpa using ih.len,fun i c b h1 h2=>?_⟩;cases i with
   |zero =>
    simp only[List.map_cons,List.getElem?_cons_zero,Option.some.injEq]at h1 h2;subst h1 h2;exact aO hp fun t ht=>hf t (by simp[nz,ht])
   |succ i=>exact ih.at_ i c b (by simpa using h1) (by simpa using h2)
  cases h
end
section
section
variable {C:Ctx} {w0 w:World} {S:Nat→Prop} {γ:Gh} {μ:AM} {f:AF} {a:Act} {o:Oper}
def cq (C:Ctx) (w0:World) (o:Oper) (a:Act) (S:Nat→Prop) (γ:Gh) (v:AV) (μ':AM) (w:World):Prop :=
 ∃r u w' S' γ',(execOp a.eval o).run C.P w= .ok r w'∧(r= .value u∨(r= .skip∧u=undef))∧Ext w S γ w' S' γ'∧Wd C w0 S' γ' μ' w'∧VR w' S' γ' v u
theorem cq.same (hW:Wd C w0 S γ μ w) {u:Value} {v:AV} (hr:(execOp a.eval o).run C.P w= .ok (.value u) w) (hv:VR w S γ v u):cq C w0 o a S γ v μ w :=
 ⟨_,u,w,S,γ,hr,.inl rfl,Ext.refl _ _ _,hW,hv⟩
def Reads (w:World) (S:Nat→Prop) (γ:Gh) (f:AF) (a:Act) (k:K):Prop:=∀t∈tmpsOf k,VR w S γ (get f t) (a.eval (.tmp t))
theorem dU {k:IntKind} {n:Int} {v:Value} (h:VR w S γ (.pv (.int k n)) v):v= .int k n:=by
 cases h with|pv _ _ h=>cases h;rfl
theorem cd {b:Bool} {v:Value} (h:VR w S γ (.pv (.bool b)) v):v= .bool b:=by
 cases h with|pv _ _ h=>cases h;rfl
theorem jy {s:List UInt8} {v:Value} (h:VR w S γ (.pv (.str s)) v):v= .string ⟨s.toArray⟩:=by
 cases h with|pv _ _ h=>cases h;rfl
theorem iG {v:Value} (h:VR w S γ (.pv .nilsl) v):v= .slice none 0 0:=by
 cases h with|pv _ _ h=>cases h;rfl
theorem dq {u v:Value} (h:VR w S γ (.pv (.val u)) v):v=u:=by
 cases h with|pv _ _ h=>cases h;rfl
theorem cB {p:PV} {v:Value} (h:VR w S γ (.pv p) v):Is w S p v:=by
 cases h with|pv _ _ h=>exact h
theorem vu {x:Operand} {y:cn} (hW:Wd C w0 S γ μ w) (ho:o.op= .move x∨o.op= .assign x) (hx:aB x=some y) (hf:Reads w S γ f a (.mv y)):cq C w0 o a S γ (ev f y) μ w:=by
 refine .same hW (u:=a.eval x) ?_ (aO hx hf);rcases ho with ho|ho<;>simp[execOp,ho]
theorem xw {c x y:Operand} {c' x' y':cn} {t:Bool} (hW:Wd C w0 S γ μ w) (ho:o.op= .pick c x y) (hc:aB c=some c') (hx:aB x=some x') (hy:aB y=some y')
  (ht:ev f c'= .pv (.bool t)) (hf:Reads w S γ f a (.pick c' x' y')):cq C w0 o a S γ (bif t then ev f x' else ev f y') μ w:=by
 have h1:=aO (w:=w) (S:=S) (γ:=γ) hc fun t ht=>hf t (by simp[tmpsOf,ht])
 have h2:=aO (w:=w) (S:=S) (γ:=γ) hx fun t ht=>hf t (by simp[tmpsOf,ht])
 have h3:=aO (w:=w) (S:=S) (γ:=γ) hy fun t ht=>hf t (by simp[tmpsOf,ht])
 rw[ht]at h1;have h1:=cd h1;refine .same hW (u:=if t then a.eval x else a.eval y) ?_ ?_
 ·simp[execOp,ho,h1,asBool]
 cases t<;>simp[h2,h3]
theorem uf {k k':IntKind} (h:(k==k')=true):k=k':=by simpa using h
theorem xx (s t:List UInt8):((⟨s.toArray⟩:ByteArray).toList==(⟨t.toArray⟩:ByteArray).toList)=(s==t):=by
 rw[ByteArray.toList_eq,ByteArray.toList_eq]
theorem iH {n:Int} (h1:ub≤n) (h2:n≤lE):IntKind.i64.wrap n=n:=IntWalk.i64_in n (by unfold ub at h1;unfold lE at h2;omega)
theorem gK {mode:Nat} {k:IntKind} (h:eI mode k=true):k= .i64:=by
 unfold eI at h;split at h
 ·rfl
 cases h
theorem Eu {mode:Nat} {op:BinOp} {k:IntKind} {x y:Int} {r:PV} {vc:VC} {t:TypeId} (he:eD mode k x y op=some (vc,r)) (hvc:aI vc) :
  ∃z,(binOp op t (.int k x) (.int k y)).run C.P w= .ok z w∧Is w S r z:=by
 cases op;case add =>
  simp only[eD]at he;cases hx:eI mode k with
  |true =>
   have hk:=gK hx;subst hk;rw[hx]at he;injection he with he;injection he with h1 h2;subst h1 h2
   refine⟨.int .i64 (IntKind.i64.wrap (x+y)),by simp[binOp,Op.intArith],?_⟩;rw[iH hvc.1 hvc.2.1];exact .int _ _
  |false =>
   rw[hx]at he;injection he with he;injection he with h1 h2;subst h1 h2
   exact⟨_,by simp[binOp,Op.intArith],.int _ _⟩
 case sub =>
  simp only[eD]at he;cases hx:eI mode k with
  |true =>
   have hk:=gK hx;subst hk;rw[hx]at he;injection he with he;injection he with h1 h2;subst h1 h2
   refine⟨.int .i64 (IntKind.i64.wrap (x-y)),by simp[binOp,Op.intArith],?_⟩;rw[iH hvc.1 hvc.2.1];exact .int _ _
  |false =>
   rw[hx]at he;injection he with he;injection he with h1 h2;subst h1 h2
   exact⟨_,by simp[binOp,Op.intArith],.int _ _⟩
 case mul =>
  simp only[eD]at he;cases hx:eI mode k with
  |true =>
   have hk:=gK hx;subst hk;rw[hx]at he;injection he with he;injection he with h1 h2;subst h1 h2
   refine⟨.int .i64 (IntKind.i64.wrap (x*y)),by simp[binOp,Op.intArith],?_⟩;rw[iH hvc.1 hvc.2.1];exact .int _ _
  |false =>
   rw[hx]at he;injection he with he;injection he with h1 h2;subst h1 h2
   exact⟨_,by simp[binOp,Op.intArith],.int _ _⟩
 case quo =>
  simp only[eD]at he;cases hx:eI mode k with
  |true =>
   have hk:=gK hx;subst hk;rw[hx]at he;injection he with he;injection he with h1 h2;subst h1 h2
   simp only[aI]at hvc;have hy:y≠0:=by omega
   have hq:x.tdiv y=x / y:=Int.tdiv_eq_ediv_of_nonneg hvc.1;have h0:0≤x / y:=Int.ediv_nonneg hvc.1 (by omega);have h1:x / y≤x:=Int.ediv_le_self _ hvc.1;have hm:=hvc.2.1;refine⟨.int .i64 (IntKind.i64.wrap (x / y)),by simp[binOp,Op.intDiv,hy,hq],?_⟩;rw[iH (by unfold ub;omega) (by omega)];exact .int _ _
  |false =>
   rw[hx]at he;injection he with he;injection he with h1 h2;subst h1 h2
   simp only[aI]at hvc;have hy:y≠0:=by omega
   exact⟨_,by simp[binOp,Op.intDiv,hy],.int _ _⟩
 case rem =>
  simp only[eD]at he;cases hx:eI mode k with
  |true =>
   have hk:=gK hx;subst hk;rw[hx]at he;injection he with he;injection he with h1 h2;subst h1 h2
   simp only[aI]at hvc;have hy:y≠0:=by omega
   have hq:x.tmod y=x % y:=Int.tmod_eq_emod_of_nonneg hvc.1;exact⟨.int .i64 (x % y),by simp[binOp,Op.intDiv,hy,hq],.int _ _⟩
  |false =>
   rw[hx]at he;injection he with he;injection he with h1 h2;subst h1 h2
   simp only[aI]at hvc;have hy:y≠0:=by omega
   exact⟨_,by simp[binOp,Op.intDiv,hy],.int _ _⟩
 case eql =>
  simp only[eD]at he;injection he with he;injection he with h1 h2;subst h1 h2
  exact⟨_,by simp[binOp,Op.intCmp],.bool _⟩
 case neq =>
  simp only[eD]at he;injection he with he;injection he with h1 h2;subst h1 h2
  exact⟨_,by simp[binOp,Op.intCmp],.bool _⟩
 case lss =>
  simp only[eD]at he;injection he with he;injection he with h1 h2;subst h1 h2
  exact⟨_,by simp[binOp,Op.intCmp],.bool _⟩
 case leq =>
  simp only[eD]at he;injection he with he;injection he with h1 h2;subst h1 h2
  exact⟨_,by simp[binOp,Op.intCmp],.bool _⟩
 case gtr =>
  simp only[eD]at he;injection he with he;injection he with h1 h2;subst h1 h2
  exact⟨_,by simp[binOp,Op.intCmp],.bool _⟩
 case geq =>
  simp only[eD]at he;injection he with he;injection he with h1 h2;subst h1 h2
  exact⟨_,by simp[binOp,Op.intCmp],.bool _⟩
 case and =>
  simp only[eD]at he;injection he with he;injection he with h1 h2;subst h1 h2
  exact⟨_,by simp[binOp,Op.intBits],.int _ _⟩
 case or =>
  simp only[eD]at he;injection he with he;injection he with h1 h2;subst h1 h2
  exact⟨_,by simp[binOp,Op.intBits],.int _ _⟩
 case xor =>
  simp only[eD]at he;injection he with he;injection he with h1 h2;subst h1 h2
  exact⟨_,by simp[binOp,Op.intBits],.int _ _⟩
 case andNot =>
  simp only[eD]at he;injection he with he;injection he with h1 h2;subst h1 h2
  exact⟨_,by simp[binOp,Op.intBits],.int _ _⟩
 all_goals (simp only[eD]at he;cases he)
theorem HO {op:BinOp} {k k':IntKind} {x y:Int} {r:PV} {vc:VC} {t:TypeId} (he:pJ k x y op=some (vc,r)) (hvc:aI vc) :
  ∃z,(binOp op t (.int k x) (.int k' y)).run C.P w= .ok z w∧Is w S r z:=by
 cases op;case shl =>
  simp only[pJ]at he;injection he with he;injection he with h1 h2;subst h1 h2
  simp only[aI]at hvc;have hy:¬y<0:=by omega
  exact⟨_,by simp[binOp,Op.shift,hy],.int _ _⟩
 case shr =>
  simp only[pJ]at he;injection he with he;injection he with h1 h2;subst h1 h2
  simp only[aI]at hvc;have hy:¬y<0:=by omega
  exact⟨_,by simp[binOp,Op.shift,hy],.int _ _⟩
 all_goals (simp only[pJ]at he;cases he)
theorem Ew {op:BinOp} {x y:List UInt8} {r:PV} {vc:VC} {t:TypeId} (he:jK x y op=some (vc,r)) (hvc:aI vc) :
  ∃z,(binOp op t (.string ⟨x.toArray⟩) (.string ⟨y.toArray⟩)).run C.P w= .ok z w∧Is w S r z:=by
 cases op;case add =>
  simp only[jK]at he;injection he with he;injection he with h1 h2;subst h1 h2
  simp only[aI,lE]at hvc;have e:(⟨x.toArray⟩:ByteArray)++⟨y.toArray⟩=⟨(x++y).toArray⟩:=by
   apply ByteArray.ext;simp
  have hn:¬(((x.length+y.length:Nat):Int)>IntKind.i64.max):=by
   have:IntKind.i64.max=9223372036854775807:=by decide
   rw[this];omega
  refine⟨.string ⟨(x++y).toArray⟩,?_,.str _⟩;simp only[binOp,Op.stringOp,ByteArray.size,List.size_toArray,if_neg hn,Sem.run_pure,e]
 case eql =>
  simp only[jK]at he;injection he with he;injection he with h1 h2;subst h1 h2
  exact⟨.bool (x==y),by simp only[binOp,Op.stringOp,xx,Sem.run_pure],.bool _⟩
 case neq =>
  simp only[jK]at he;injection he with he;injection he with h1 h2;subst h1 h2
  exact⟨.bool (!(x==y)),by simp only[binOp,Op.stringOp,xx,Sem.run_pure],.bool _⟩
 all_goals (simp only[jK]at he;cases he)
theorem BI {op:BinOp} {x y:Bool} {r:PV} {vc:VC} {t:TypeId} (he:gg x y op=some (vc,r)) (ht:C.P.underlying t=some .bool) :
  ∃z,(binOp op t (.bool x) (.bool y)).run C.P w= .ok z w∧Is w S r z:=by
 cases op;case eql =>
  simp only[gg]at he;injection he with he;injection he with h1 h2;subst h1 h2
  exact⟨_,run_eql_bool w t x y ht,.bool _⟩
 case neq =>
  simp only[gg]at he;injection he with he;injection he with h1 h2;subst h1 h2
  exact⟨_,run_neq_bool w t x y ht,.bool _⟩
 all_goals (simp only[gg]at he;cases he)
theorem Ex {mode:Nat} {op:BinOp} {p q r:PV} {vc:VC} {u v:Value} {t:TypeId} (he:lr mode op p q=some (vc,r)) (hvc:aI vc) (hu:Is w S p u) (hv:Is w S q v):∃z,(binOp op t u v).run C.P w= .ok z w∧Is w S r z:=by
 unfold lr at he;split at he
 ·rename_i k x k' y;cases hsh:uc op with
  |true =>
   rw[hsh,cond_true]at he;cases hu;cases hv;exact HO he hvc
  |false =>
  rw[hsh,cond_false]at he;cases hk:k==k' with
  |false=>rw[hk]at he;cases he
  |true =>
   rw[hk,cond_true]at he;have:=uf hk;subst this;cases hu;cases hv;exact Eu he hvc
 ·cases hu;cases hv;exact Ew he hvc
 cases he
theorem qv (op:BinOp) (t:TypeId) (x y:Operand) {u v:Value} (hu:u.oneCell'=true) (hn:u≠.nilIface):(eqGuard op t x y u v).run C.P w= .ok () w:=by
 cases u;all_goals first
  |(simp[Value.oneCell']at hu;done)
  |exact absurd rfl hn
  |(simp only[eqGuard];rw[Sem.run_ite];split<;>rfl)
theorem Ab {op:BinOp} {xt yt:TypeId} {x y:Operand} {x' y':cn} {mode:Nat} {p q r:PV} {vc:VC} (hW:Wd C w0 S γ μ w) (ho:o.op= .binOp op xt x y yt) (hx:aB x=some x') (hy:aB y=some y')
  (hp:ev f x'= .pv p) (hq:ev f y'= .pv q) (he:lr mode op p q=some (vc,r)) (hvc:aI vc) (hf:Reads w S γ f a (.bin op x' y')):cq C w0 o a S γ (.pv r) μ w:=by
 have h1:=aO (w:=w) (S:=S) (γ:=γ) hx fun t ht=>hf t (by simp[tmpsOf,ht])
 have h2:=aO (w:=w) (S:=S) (γ:=γ) hy fun t ht=>hf t (by simp[tmpsOf,ht])
 rw[hp]at h1;rw[hq]at h2;obtain⟨z,hz,hi⟩:=Ex (C:=C) (t:=xt) he hvc (cB h1) (cB h2);have hl:(a.eval x).oneCell'=true∧a.eval x≠.nilIface:=by
  unfold lr at he;split at he
  ·have:=dU h1;rw[this];exact⟨rfl,by simp⟩
  ·have:=jy h1;rw[this];exact⟨rfl,by simp⟩
  cases he
 refine .same hW (u:=z) ?_ (.pv _ _ hi);have hg:=qv (C:=C) (w:=w) op xt x y (v:=a.eval y) hl.1 hl.2;simp only[execOp,ho,Sem.run_bind,hg,hz,Result.andThen_ok,Sem.run_pure]
theorem xy {op:BinOp} {xt yt:TypeId} {x y:Operand} {x' y':cn} {p q:Bool} {r:PV} {vc:VC} (hW:Wd C w0 S γ μ w) (ho:o.op= .binOp op xt x y yt) (hx:aB x=some x') (hy:aB y=some y')
  (hp:ev f x'= .pv (.bool p)) (hq:ev f y'= .pv (.bool q)) (he:gg p q op=some (vc,r)) (ht:C.P.underlying xt=some .bool) (hf:Reads w S γ f a (.binB op x' y')):cq C w0 o a S γ (.pv r) μ w:=by
 have h1:=aO (w:=w) (S:=S) (γ:=γ) hx fun t ht=>hf t (by simp[tmpsOf,ht])
 have h2:=aO (w:=w) (S:=S) (γ:=γ) hy fun t ht=>hf t (by simp[tmpsOf,ht])
 rw[hp]at h1;rw[hq]at h2;have h1:=cd h1;have h2:=cd h2;obtain⟨z,hz,hi⟩:=BI (C:=C) (w:=w) (S:=S) (t:=xt) he ht;refine .same hW (u:=z) ?_ (.pv _ _ hi);have hg:=qv (C:=C) (w:=w) op xt x y (u:=.bool p) (v:=.bool q) rfl (by simp);simp only[execOp,ho,h1,h2,Sem.run_bind,hg,hz,Result.andThen_ok,Sem.run_pure]
theorem BJ {op:UnOp} {xt:TypeId} {x:Operand} {x':cn} {p r:PV} {vc:VC} (hW:Wd C w0 S γ μ w) (ho:o.op= .unOp op xt x) (hx:aB x=some x')
  (hp:ev f x'= .pv p) (he:sR op p=some (vc,r)) (hvc:aI vc) (hf:Reads w S γ f a (.un op x')):cq C w0 o a S γ (.pv r) μ w:=by
 have h1:=aO (w:=w) (S:=S) (γ:=γ) hx fun t ht=>hf t (by simp[tmpsOf,ht])
 rw[hp]at h1;unfold sR at he;split at he
 ·injection he with he;injection he with e1 e2;subst e1 e2
  have:=cd h1;exact .same hW (u:=.bool _) (by simp[execOp,ho,this,Op.unary]) (.pv _ _ (.bool _))
 ·rename_i k n;split at he
  ·injection he with he;injection he with e1 e2;subst e1 e2
   have:=dU h1;refine .same hW (u:=.int .i64 (IntKind.i64.wrap (0-n))) (by simp[execOp,ho,this,Op.unary,Op.intArith]) ?_;rw[show(0:Int)-n= -n by omega,iH hvc.1 hvc.2.1];exact .pv _ _ (.int _ _)
  cases he
 ·rename_i k n;injection he with he;injection he with e1 e2;subst e1 e2
  have:=dU h1;refine .same hW (u:=.int k _) ?_ (.pv _ _ (.int _ _));cases hs:k.signed<;>simp[execOp,ho,this,Op.unary,Op.intBits,hs]
 cases he
theorem qw (d:Nat) {t e:TypeId} (h:C.P.underlying t=some (.slice e)) (x:Option Addr) (n c:Nat):(Op.equalIn (d+1) t (.slice x n c) (.slice none 0 0)).run C.P w= .ok x.isNone w:=by
 cases x<;>simp[Op.equalIn,run_underlying h]
theorem ug (d:Nat) {t k e:TypeId} (h:C.P.underlying t=some (.map k e)) (x:Option Nat):(Op.equalIn (d+1) t (.map x) (.map none)).run C.P w= .ok x.isNone w:=by
 cases x<;>simp[Op.equalIn,run_underlying h]
theorem uh (d:Nat) {t e:TypeId} (h:C.P.underlying t=some (.pointer e)) (x:Option Addr):(Op.equalIn (d+1) t (.pointer x) (.pointer none)).run C.P w= .ok x.isNone w:=by
 cases x<;>simp[Op.equalIn,run_underlying h]
theorem vv (d:Nat) {t:TypeId} {ps rs:Array TypeId} {b:Bool} (h:C.P.underlying t=some (.func ps rs b)) (g:Fn) (x y:Array Value):(Op.equalIn (d+1) t (.func g x y) .nilFunc).run C.P w= .ok false w:=by
 simp[Op.equalIn,run_underlying h]
theorem qx (d:Nat) {t:TypeId} {ps rs:Array TypeId} {b:Bool} (h:C.P.underlying t=some (.func ps rs b)):(Op.equalIn (d+1) t .nilFunc .nilFunc).run C.P w= .ok true w:=by
 simp[Op.equalIn,run_underlying h]
theorem N3 {v:AV} {u:Value} {b:Bool} (hn:dL 0 v=some b) (hv:VR w S γ v u):∃x n c,u= .slice x n c∧b=x.isNone:=by
 unfold dL at hn;split at hn;all_goals first
  |(cases hn;done)
  |(rename_i h;cases h;done)
  |(injection hn with hn;subst hn)
 ·have:=iG hv;exact⟨_,_,_,this,rfl⟩
 ·have:=cB hv;cases this;exact⟨_,_,_,rfl,rfl⟩
 ·exact⟨_,_,_,dq hv,rfl⟩
 cases hv with|ref _ _ _ _ _ _ a c _ _ h _=>exact⟨_,_,_,h.1,rfl⟩
theorem N4 {v:AV} {u:Value} {b:Bool} (hn:dL 1 v=some b) (hv:VR w S γ v u):∃x,u= .map x∧b=x.isNone:=by
 unfold dL at hn;split at hn;all_goals first
  |(cases hn;done)
  |(rename_i h;cases h;done)
  |(injection hn with hn;subst hn)
 ·exact⟨_,dq hv,rfl⟩
 ·have:=cB hv;cases this;exact⟨_,rfl,rfl⟩
 cases hv with|map _ _ _ _ r _ _ h _=>exact⟨_,h,rfl⟩
theorem N5 {v:AV} {u:Value} {b:Bool} (hn:dL 2 v=some b) (hv:VR w S γ v u):(u= .nilFunc∧b=true)∨(∃g x y,u= .func g x y∧b=false):=by
 unfold dL at hn;split at hn;all_goals first
  |(cases hn;done)
  |(rename_i h;cases h;done)
  |(injection hn with hn;subst hn)
 ·exact .inl ⟨dq hv,rfl⟩
 ·exact .inr ⟨_,_,_,dq hv,rfl⟩
 ·cases hv;exact .inr ⟨_,_,_,rfl,rfl⟩
 cases hv;exact .inr ⟨_,_,_,rfl,rfl⟩
theorem N6 {v:AV} {u:Value} {b:Bool} (hn:dL 3 v=some b) (hv:VR w S γ v u):∃x,u= .pointer x∧b=x.isNone:=by
 unfold dL at hn;split at hn;all_goals first
  |(cases hn;done)
  |(rename_i h;cases h;done)
  |(injection hn with hn;subst hn)
 ·exact⟨_,dq hv,rfl⟩
 ·cases hv with|ptr _ _ _ _ _ a _ _ h _=>exact⟨_,h,rfl⟩
 cases hv;exact⟨_,rfl,rfl⟩
theorem N7 {v:AV} {u:Value} {b:Bool} (hn:dL 4 v=some b) (hv:VR w S γ v u):(u= .nilIface∧b=true)∨(∃t p,u= .iface t p∧b=false):=by
 unfold dL at hn;split at hn;all_goals first
  |(cases hn;done)
  |(rename_i h;cases h;done)
  |(injection hn with hn;subst hn)
 ·exact .inl ⟨dq hv,rfl⟩
 have:=cB hv;cases this;exact .inr ⟨_,_,rfl,rfl⟩
theorem qy (d:Nat) {t:TypeId} {ms:Array (String×TypeId)} (h:C.P.underlying t=some (.interface ms)) (x:TypeId) (y:Value):(Op.equalIn (d+1) t (.iface x y) .nilIface).run C.P w= .ok false w:=by
 simp[Op.equalIn,run_underlying h]
theorem nF (d:Nat) {t:TypeId} {ms:Array (String×TypeId)} (h:C.P.underlying t=some (.interface ms)):(Op.equalIn (d+1) t .nilIface .nilIface).run C.P w= .ok true w:=by
 simp[Op.equalIn,run_underlying h]
theorem vx (op:BinOp) (t:TypeId) (x:Operand) {u v c:Value} (hu:u.oneCell'=true):(eqGuard op t x (.const c) u v).run C.P w= .ok () w:=by
 cases u;all_goals first
  |(simp[Value.oneCell']at hu;done)
  |(simp only[eqGuard];rw[Sem.run_ite];split<;>rfl)
  |(cases v<;>(simp only[eqGuard];rw[Sem.run_ite];split<;>first|rfl|(rw[Sem.run_ite];split<;>first|rfl|simp_all)))
theorem Ey {d:TypeDesc} {y:Operand} {k:Nat} {t:TypeId} {v:AV} {u:Value} {b:Bool} (ht:C.P.underlying t=some d) (hk:nA d y=some k) (hn:dL k v=some b) (hv:VR w S γ v u) :
  (Op.equal t u (a.eval y)).run C.P w= .ok b w∧u.oneCell'=true∧(∃c,y= .const c)∧(∀z z',binOp .eql t u (a.eval y)=z→binOp .neq t u (a.eval y)=z'→z=(do pure (.bool (←Op.equal t u (a.eval y))))∧z'=(do pure (.bool (!(←Op.equal t u (a.eval y)))))):=by
 unfold nA at hk;split at hk
 ·injection hk with hk;subst hk
  obtain⟨x,n,c,rfl,rfl⟩:=N3 hn hv;exact⟨qw 9999 ht x n c,rfl,⟨_,rfl⟩,fun _ _ h h'=>⟨h▸rfl,h'▸rfl⟩⟩
 ·injection hk with hk;subst hk
  obtain⟨x,rfl,rfl⟩:=N4 hn hv;exact⟨ug 9999 ht x,rfl,⟨_,rfl⟩,fun _ _ h h'=>⟨h▸rfl,h'▸rfl⟩⟩
 ·injection hk with hk;subst hk
  rcases N5 hn hv with⟨rfl,rfl⟩|⟨g,x,y,rfl,rfl⟩
  ·exact⟨qx 9999 ht,rfl,⟨_,rfl⟩,fun _ _ h h'=>⟨h▸rfl,h'▸rfl⟩⟩
  exact⟨vv 9999 ht g x y,rfl,⟨_,rfl⟩,fun _ _ h h'=>⟨h▸rfl,h'▸rfl⟩⟩
 ·injection hk with hk;subst hk
  obtain⟨x,rfl,rfl⟩:=N6 hn hv;exact⟨uh 9999 ht x,rfl,⟨_,rfl⟩,fun _ _ h h'=>⟨h▸rfl,h'▸rfl⟩⟩
 ·injection hk with hk;subst hk
  rcases N7 hn hv with⟨rfl,rfl⟩|⟨g,x,rfl,rfl⟩
  ·exact⟨nF 9999 ht,rfl,⟨_,rfl⟩,fun _ _ h h'=>⟨h▸rfl,h'▸rfl⟩⟩
  exact⟨qy 9999 ht g x,rfl,⟨_,rfl⟩,fun _ _ h h'=>⟨h▸rfl,h'▸rfl⟩⟩
 cases hk
theorem vy {op:BinOp} {xt yt:TypeId} {x y:Operand} {x':cn} {d:TypeDesc} {k:Nat} {b:Bool} {neg:Bool} (hW:Wd C w0 S γ μ w) (ho:o.op= .binOp op xt x y yt) (hx:aB x=some x')
  (ht:C.P.underlying xt=some d) (hk:nA d y=some k) (hop:(op= .eql∧neg=false)∨(op= .neq∧neg=true)) (hn:dL k (ev f x')=some b) (hf:Reads w S γ f a (.isnil k neg x')) :
  cq C w0 o a S γ (.pv (.bool (bif neg then !b else b))) μ w:=by
 have h1:=aO (w:=w) (S:=S) (γ:=γ) hx fun t ht=>hf t (by simp[tmpsOf,ht])
 obtain⟨hr,hl,hl2,hz⟩:=Ey (a:=a) ht hk hn h1;obtain⟨e1,e2⟩:=hz _ _ rfl rfl;obtain⟨c,rfl⟩:=hl2;have hg:=vx (C:=C) (w:=w) op xt x (v:=a.eval (.const c)) (c:=c) hl;rcases hop with⟨rfl,rfl⟩|⟨rfl,rfl⟩
 ·refine .same hW (u:=.bool b) ?_ (.pv _ _ (.bool _));simp only[execOp,ho,Sem.run_bind,hg,Result.andThen_ok,Sem.run_pure,e1,hr]
 refine .same hW (u:=.bool !b) ?_ (.pv _ _ (.bool _));simp only[execOp,ho,Sem.run_bind,hg,Result.andThen_ok,Sem.run_pure,e2,hr]
end
end
section
section
variable {C:Ctx} {w0 w:World} {S:Nat→Prop} {γ:Gh} {μ:AM} {f:AF} {a:Act} {o:Oper}
theorem gm:∀{l:List AV} {ps:List PV},cG l=some ps→l=ps.map .pv
 |[],ps,h=>by simp only[cG,Option.some.injEq]at h;subst h;rfl
 |v::r,ps,h=>by
  cases v with
  |pv p =>
   simp only[cG]at h;cases hr:cG r with
   |none=>rw[hr]at h;cases h
   |some qs =>
    rw[hr]at h;injection h with h
    subst h;rw[gm hr];rfl
  |_=>simp[cG]at h
theorem jN {l:List AV} {cs:List Value} (h:PW (VR w S γ) l cs):VR w S γ (ia l) (.agg cs.toArray):=by
 unfold ia;cases hp:cG l with
 |none=>exact .agg l cs h.len h.at_
 |some ps =>
  have:=gm hp;subst this;refine .pv _ _ (.agg ps cs (by simpa using h.len) fun i p v h1 h2=>?_);exact cB (h.at_ i (.pv p) v (by simp[h1]) h2)
theorem PW.sub {α β:Type} {R:α→β→Prop} {l:List α} {m:List β} (h:PW R l m) (off n:Nat):PW R ((l.drop off).take n) ((m.drop off).take n):=by
 refine⟨by simp[h.len],fun i x y h1 h2=>?_⟩;rw[List.getElem?_take]at h1 h2;split at h1
 ·rename_i hi;rw[if_pos hi]at h2;rw[List.getElem?_drop]at h1 h2;exact h.at_ _ _ _ h1 h2
 cases h1
theorem PW.getD {α β:Type} {R:α→β→Prop} {l:List α} {m:List β} (h:PW R l m) {i:Nat} (hi:i<l.length) (d:α):∃y,m[i]?=some y∧R (l.getD i d) y:=by
 have hm:i<m.length:=by rw[←h.len];exact hi
 refine⟨m[i],List.getElem?_eq_getElem hm,?_⟩;rw[List.getD,List.getElem?_eq_getElem hi];exact h.at_ i _ _ (List.getElem?_eq_getElem hi) (List.getElem?_eq_getElem hm)
theorem PW.iP {l:List PV} {m:List Value} (h:PW (Is w S) l m):PW (VR w S γ) (l.map .pv) m:=by
 refine⟨by simpa using h.len,fun i x y h1 h2=>?_⟩;rw[List.getElem?_map]at h1;cases hl:l[i]? with
 |none=>rw[hl]at h1;cases h1
 |some p=>rw[hl]at h1;simp at h1;subst h1;exact .pv _ _ (h.at_ i p y hl h2)
theorem PW.mo {l:List PV} {m:List Value} (h:PW (VR w S γ) (l.map .pv) m):PW (Is w S) l m :=
 ⟨by simpa using h.len,fun i x y h1 h2=>cB (h.at_ i (.pv x) y (by simp[h1]) h2)⟩
theorem dc {t:TypeId} {s:Nat} (h:bQ C.P t=some s):(sizeOf t).run C.P w= .ok s w:=by
 unfold bQ at h;cases hi:C.P.info? t with
 |none=>rw[hi]at h;cases h
 |some i=>rw[hi]at h;simp at h;subst h;simp[sizeOf,typeInfo,hi]
theorem iQ {t:TypeId} {b:Bool} (h:fW C.P t=some b):(isAgg t).run C.P w= .ok b w:=by
 unfold fW at h;split at h<;>rename_i hu
 ·injection h with h;subst h;simp[isAgg,run_underlying hu]
 ·injection h with h;subst h;simp[isAgg,run_underlying hu]
 ·injection h with h;subst h
  rename_i h1 h2;rename_i d;cases d<;>first|(simp[isAgg,run_underlying hu];done)|exact(h1 _ rfl).elim|exact(h2 _ _ rfl).elim
 cases h
theorem nG {t:TypeId} {ag:Bool} {s off:Nat} {cs:List Value} {l:List PV} (ha:fW C.P t=some ag) (hs:bQ C.P t=some s) (hag:(ag||Nat.beq s 1)=true) (h:PW (Is w S) l cs) (hl:off+s≤l.length) :
  ∃u,(part t cs.toArray off).run C.P w= .ok u w∧Is w S (er l off s ag) u:=by
 cases ag with
 |true =>
  refine⟨.agg ((cs.drop off).take s).toArray,?_,?_⟩
  ·simp only[part,Sem.run_bind,iQ ha,dc hs,Result.andThen_ok,if_true,Sem.run_pure,List.extract_toArray];congr 3;rw[List.extract_eq_take_drop];congr 1;omega
  have:=h.sub off s;exact .agg _ _ this.len this.at_
 |false =>
  have hs1:s=1:=by simpa using hag
  subst hs1;obtain⟨u,hu,hi⟩:=h.getD (i:=off) (by omega) (default:PV);refine⟨u,?_,hi⟩;simp only[part,Sem.run_bind,iQ ha,Result.andThen_ok,Bool.false_eq_true,if_false];simp[hu]
theorem vz {s:TypeId} {x:Operand} {x':cn} {i:Nat} {fs:Array Field} {fd:Field} {ag:Bool} {z:Nat} {l:List PV} (hW:Wd C w0 S γ μ w) (ho:o.op= .field s x i) (hx:aB x=some x')
  (hu:C.P.underlying s=some (.struct fs)) (hfd:fs[i]?=some fd) (ha:fW C.P fd.type=some ag) (hs:bQ C.P fd.type=some z) (hag:(ag||Nat.beq z 1)=true)
  (hp:ev f x'= .pv (.agg l)) (hl:fd.offset+z≤l.length) (hf:Reads w S γ f a (.field x' fd.offset z ag)):cq C w0 o a S γ (.pv (er l fd.offset z ag)) μ w:=by
 have h1:=aO (w:=w) (S:=S) (γ:=γ) hx fun t ht=>hf t (by simp[tmpsOf,ht])
 rw[hp]at h1;have h2:=cB h1;generalize hxe:a.eval x=xv at h2;cases h2 with
 |agg _ cs hlen hat =>
  obtain⟨u,hr,hi⟩:=nG (C:=C) ha hs hag (⟨hlen,hat⟩:PW (Is w S) l cs) hl;refine .same hW (u:=u) ?_ (.pv _ _ hi);simp only[execOp,ho,Instr.field,Sem.run_bind,run_underlying hu,Result.andThen_ok,hfd,hxe,asAgg,Sem.run_pure,hr]
theorem yV {t:TypeId} {ag:Bool} {s off:Nat} {cs:List Value} {l:List AV} (ha:fW C.P t=some ag) (hs:bQ C.P t=some s) (hag:(ag||Nat.beq s 1)=true) (h:PW (VR w S γ) l cs) (hl:off+s≤l.length) :
  ∃u,(part t cs.toArray off).run C.P w= .ok u w∧VR w S γ (cS l off s ag) u:=by
 cases ag with
 |true =>
  refine⟨.agg ((cs.drop off).take s).toArray,?_,jN (h.sub off s)⟩;simp only[part,Sem.run_bind,iQ ha,dc hs,Result.andThen_ok,if_true,Sem.run_pure,List.extract_toArray];congr 3;rw[List.extract_eq_take_drop];congr 1;omega
 |false =>
  have hs1:s=1:=by simpa using hag
  subst hs1;obtain⟨u,hu,hi⟩:=h.getD (i:=off) (by omega) (AV.any);refine⟨u,?_,hi⟩;simp only[part,Sem.run_bind,iQ ha,Result.andThen_ok,Bool.false_eq_true,if_false];simp[hu]
theorem qz {s:TypeId} {x:Operand} {x':cn} {i:Nat} {fs:Array Field} {fd:Field} {ag:Bool} {z:Nat} {l:List AV} (hW:Wd C w0 S γ μ w) (ho:o.op= .field s x i) (hx:aB x=some x')
  (hu:C.P.underlying s=some (.struct fs)) (hfd:fs[i]?=some fd) (ha:fW C.P fd.type=some ag) (hs:bQ C.P fd.type=some z) (hag:(ag||Nat.beq z 1)=true)
  (hp:ev f x'= .agg l) (hl:fd.offset+z≤l.length) (hf:Reads w S γ f a (.field x' fd.offset z ag)):cq C w0 o a S γ (cS l fd.offset z ag) μ w:=by
 have h1:=aO (w:=w) (S:=S) (γ:=γ) hx fun t ht=>hf t (by simp[tmpsOf,ht])
 rw[hp]at h1;generalize hxe:a.eval x=xv at h1;cases h1 with
 |agg _ cs hlen hat =>
  obtain⟨u,hr,hi⟩:=yV (C:=C) ha hs hag (⟨hlen,hat⟩:PW (VR w S γ) l cs) hl;refine .same hW (u:=u) ?_ hi;simp only[execOp,ho,Instr.field,Sem.run_bind,run_underlying hu,Result.andThen_ok,hfd,hxe,asAgg,Sem.run_pure,hr]
theorem mO {b g off n:Nat} {v:Value} (h:VR w S γ (.ptr b g off) v):∃x,v= .pointer (some x)∧VR w S γ (.ptr b g (off+n)) (.pointer (some (x.add n))):=by
 cases h with
 |ptr _ _ _ _ e x hb hg hv hs =>
  refine⟨x,hv,.ptr _ _ _ _ e _ hb hg rfl fun he=>?_⟩;have:=hs he;rw[hv]at this;injection this with this
  injection this with this
  subst this;rw[Addr.add_lit]
theorem lG {l:List PV} {off n:Nat} {v:Value} (h:VR w S γ (.iptr l off) v):∃x,v= .pointer (some x)∧VR w S γ (.iptr l (off+n)) (.pointer (some (x.add n))):=by
 cases h with
 |iptr _ _ g o c hS hc hi =>
  refine⟨_,rfl,?_⟩;rw[Addr.add_lit,Nat.add_assoc];exact .iptr l (off+n) g o c hS hc hi
theorem px {s:TypeId} {i:Nat} {fs:Array Field} {fd:Field} {z:Nat} (hu:C.P.underlying s=some (.struct fs)) (hfd:fs[i]?=some fd) (hz:bQ C.P fd.type=some (z+1)) (x:Addr) :
  (Instr.fieldAt s (.pointer (some x)) i).run C.P w= .ok (.pointer (some (x.add fd.offset))) w:=by
 simp only[Instr.fieldAt,Sem.run_bind,run_underlying hu,Result.andThen_ok,hfd,Instr.sureAddr,Sem.run_pure,fieldPlace,dc hz];simp
theorem lu {s:TypeId} {x:Operand} {x':cn} {i:Nat} {fs:Array Field} {fd:Field} {z:Nat} {v:AV} (hW:Wd C w0 S γ μ w) (ho:o.op= .fieldAddr s x i) (hx:aB x=some x')
  (hu:C.P.underlying s=some (.struct fs)) (hfd:fs[i]?=some fd) (hz:bQ C.P fd.type=some (z+1))
  (hp:(∃b g n,ev f x'= .ptr b g n∧v= .ptr b g (n+fd.offset))∨(∃l n,ev f x'= .iptr l n∧v= .iptr l (n+fd.offset))) (hf:Reads w S γ f a (.fieldAddr x' fd.offset)):cq C w0 o a S γ v μ w:=by
 have h1:=aO (w:=w) (S:=S) (γ:=γ) hx fun t ht=>hf t (by simp[tmpsOf,ht])
 rcases hp with⟨b,g,n,he,rfl⟩|⟨l,n,he,rfl⟩
 ·rw[he]at h1;obtain⟨p,hv,hr⟩:=mO (n:=fd.offset) h1;refine .same hW (u:=.pointer (some (p.add fd.offset))) ?_ hr;simp only[execOp,ho,hv,Sem.run_bind,px hu hfd hz,Result.andThen_ok,Sem.run_pure]
 rw[he]at h1;obtain⟨p,hv,hr⟩:=lG (n:=fd.offset) h1;refine .same hW (u:=.pointer (some (p.add fd.offset))) ?_ hr;simp only[execOp,ho,hv,Sem.run_bind,px hu hfd hz,Result.andThen_ok,Sem.run_pure]
theorem lH {t e:TypeId} {z:Nat} {k:IntKind} {i:Int} {n c:Nat} {x:Addr} (hu:C.P.underlying t=some (.slice e)) (hz:bQ C.P e=some z) (h0:0≤i) (h1:i+1≤n) :
  (Instr.indexAt t (.slice (some x) n c) (.int k i)).run C.P w= .ok (.pointer (some (x.add (i.toNat*z)))) w:=by
 have h2:i<n:=by omega
 simp[Instr.indexAt,asIntOf,run_underlying hu,dc hz,h0,h2]
theorem gV {t e:TypeId} {z len:Nat} {k:IntKind} {i:Int} {x:Addr} (hu:C.P.underlying t=some (.array len e)) (hz:bQ C.P e=some z) (h0:0≤i) (h1:i+1≤len) :
  (Instr.indexAt t (.pointer (some x)) (.int k i)).run C.P w= .ok (.pointer (some (x.add (i.toNat*z)))) w:=by
 have h2:i<len:=by omega
 simp[Instr.indexAt,asIntOf,run_underlying hu,dc hz,h0,h2,Instr.sureAddr]
theorem mJ {t e:TypeId} {x y:Operand} {x' y':cn} {z:Nat} {v:AV} {k:IntKind} {i:Int} (hW:Wd C w0 S γ μ w) (ho:o.op= .indexAddr t x y) (hx:aB x=some x') (hy:aB y=some y')
  (hu:C.P.underlying t=some (.slice e)) (hz:bQ C.P e=some z) (hi:ev f y'= .pv (.int k i)) (h0:0≤i)
  (hp:(∃n l,ev f x'= .pv (.sl n l)∧i+1≤n∧v= .iptr l (i.toNat*z))∨(∃b g off n,ev f x'= .ref b g off n∧i+1≤n∧v= .ptr b g (off+i.toNat*z)))
  (hf:Reads w S γ f a (.indexSl x' y' z)):cq C w0 o a S γ v μ w:=by
 have h1:=aO (w:=w) (S:=S) (γ:=γ) hx fun t ht=>hf t (by simp[tmpsOf,ht])
 have h2:=aO (w:=w) (S:=S) (γ:=γ) hy fun t ht=>hf t (by simp[tmpsOf,ht])
 rw[hi]at h2;have h2:=dU h2;rcases hp with⟨n,l,he,hn,rfl⟩|⟨b,g,off,n,he,hn,rfl⟩
 ·rw[he]at h1;have h1:=cB h1;generalize hxe:a.eval x=xv at h1;cases h1 with
  |sl _ _ g o cap c hS hc1 hc2 hc _ hI =>
   refine .same hW (u:=.pointer (some ⟨g,o+i.toNat*z,none⟩)) ?_ (.iptr l _ g o c hS hc hI);simp only[execOp,ho,hxe,h2,Sem.run_bind,lH hu hz h0 hn,Result.andThen_ok,Sem.run_pure,Addr.add_lit]
  |sl0=>exact absurd hn (by omega)
  |slz=>exact absurd hn (by omega)
 rw[he]at h1;generalize hxe:a.eval x=xv at h1;cases h1 with
 |ref _ _ _ _ _ e' ad c hb hg hvc hs =>
  have hv:=hvc.1;have hr:=lH (C:=C) (w:=w) (k:=k) (n:=n) (c:=c) (x:=ad) hu hz h0 hn;refine .same hW (u:=.pointer (some (ad.add (i.toNat*z)))) ?_ (.ptr b g _ _ e' _ hb hg rfl fun hge=>?_)
  ·subst hv;simp only[execOp,ho,hxe,h2,Sem.run_bind,hr,Result.andThen_ok,Sem.run_pure]
  rcases hs hge with⟨cap,hv',-⟩|⟨hn0,-⟩
  ·rw[hv]at hv';injection hv' with hv'
   injection hv' with hv'
   subst hv';rw[Addr.add_lit]
  omega
theorem lI {t e:TypeId} {x y:Operand} {x' y':cn} {z len:Nat} {v:AV} {k:IntKind} {i:Int} (hW:Wd C w0 S γ μ w) (ho:o.op= .indexAddr t x y) (hx:aB x=some x') (hy:aB y=some y')
  (hu:C.P.underlying t=some (.array len e)) (hz:bQ C.P e=some z) (hi:ev f y'= .pv (.int k i)) (h0:0≤i) (h1:i+1≤len)
  (hp:(∃b g n,ev f x'= .ptr b g n∧v= .ptr b g (n+i.toNat*z))∨(∃l n,ev f x'= .iptr l n∧v= .iptr l (n+i.toNat*z)))
  (hf:Reads w S γ f a (.indexArr x' y' len z)):cq C w0 o a S γ v μ w:=by
 have g1:=aO (w:=w) (S:=S) (γ:=γ) hx fun t ht=>hf t (by simp[tmpsOf,ht])
 have g2:=aO (w:=w) (S:=S) (γ:=γ) hy fun t ht=>hf t (by simp[tmpsOf,ht])
 rw[hi]at g2;have g2:=dU g2;rcases hp with⟨b,g,n,he,rfl⟩|⟨l,n,he,rfl⟩
 ·rw[he]at g1;obtain⟨p,hv,hr⟩:=mO (n:=i.toNat*z) g1;refine .same hW (u:=.pointer (some (p.add (i.toNat*z)))) ?_ hr;simp only[execOp,ho,hv,g2,Sem.run_bind,gV hu hz h0 h1,Result.andThen_ok,Sem.run_pure]
 rw[he]at g1;obtain⟨p,hv,hr⟩:=lG (n:=i.toNat*z) g1;refine .same hW (u:=.pointer (some (p.add (i.toNat*z)))) ?_ hr;simp only[execOp,ho,hv,g2,Sem.run_bind,gV hu hz h0 h1,Result.andThen_ok,Sem.run_pure]
theorem qA {t e:TypeId} {x y:Operand} {x' y':cn} {z len:Nat} {ag:Bool} {k:IntKind} {i:Int} {l:List PV} (hW:Wd C w0 S γ μ w) (ho:o.op= .index t x y) (hx:aB x=some x') (hy:aB y=some y')
  (hu:C.P.underlying t=some (.array len e)) (ha:fW C.P e=some ag) (hz:bQ C.P e=some z) (hag:(ag||Nat.beq z 1)=true) (hi:ev f y'= .pv (.int k i)) (h0:0≤i) (h1:i+1≤len)
  (hp:ev f x'= .pv (.agg l)) (hl:i.toNat*z+z≤l.length) (hf:Reads w S γ f a (.indexVal x' y' len z ag)):cq C w0 o a S γ (.pv (er l (i.toNat*z) z ag)) μ w:=by
 have g1:=aO (w:=w) (S:=S) (γ:=γ) hx fun t ht=>hf t (by simp[tmpsOf,ht])
 have g2:=aO (w:=w) (S:=S) (γ:=γ) hy fun t ht=>hf t (by simp[tmpsOf,ht])
 rw[hi]at g2;have g2:=dU g2;rw[hp]at g1;have g1:=cB g1;generalize hxe:a.eval x=xv at g1;have h2:i<len:=by omega
 cases g1 with
 |agg _ cs hlen hat =>
  obtain⟨u,hr,hI⟩:=nG (C:=C) ha hz hag (⟨hlen,hat⟩:PW (Is w S) l cs) hl;refine .same hW (u:=u) ?_ (.pv _ _ hI);simp only[execOp,ho,Instr.index,hxe,g2,asIntOf,Sem.run_bind,Sem.run_pure,Result.andThen_ok,run_underlying hu];rw[Sem.run_ite,if_pos ⟨h0,h2⟩];simp only[Sem.run_bind,dc hz,Result.andThen_ok,hr]
theorem nH {t e:TypeId} {x y:Operand} {x' y':cn} {z len:Nat} {ag:Bool} {k:IntKind} {i:Int} {l:List AV} (hW:Wd C w0 S γ μ w) (ho:o.op= .index t x y) (hx:aB x=some x') (hy:aB y=some y')
  (hu:C.P.underlying t=some (.array len e)) (ha:fW C.P e=some ag) (hz:bQ C.P e=some z) (hag:(ag||Nat.beq z 1)=true) (hi:ev f y'= .pv (.int k i)) (h0:0≤i) (h1:i+1≤len)
  (hp:ev f x'= .agg l) (hl:i.toNat*z+z≤l.length) (hf:Reads w S γ f a (.indexVal x' y' len z ag)):cq C w0 o a S γ (cS l (i.toNat*z) z ag) μ w:=by
 have g1:=aO (w:=w) (S:=S) (γ:=γ) hx fun t ht=>hf t (by simp[tmpsOf,ht])
 have g2:=aO (w:=w) (S:=S) (γ:=γ) hy fun t ht=>hf t (by simp[tmpsOf,ht])
 rw[hi]at g2;have g2:=dU g2;rw[hp]at g1;generalize hxe:a.eval x=xv at g1;have h2:i<len:=by omega
 cases g1 with
 |agg _ cs hlen hat =>
  obtain⟨u,hr,hI⟩:=yV (C:=C) ha hz hag (⟨hlen,hat⟩:PW (VR w S γ) l cs) hl;refine .same hW (u:=u) ?_ hI;simp only[execOp,ho,Instr.index,hxe,g2,asIntOf,Sem.run_bind,Sem.run_pure,Result.andThen_ok,run_underlying hu];rw[Sem.run_ite,if_pos ⟨h0,h2⟩];simp only[Sem.run_bind,dc hz,Result.andThen_ok,hr]
theorem qB {t:TypeId} {x y:Operand} {x' y':cn} {k:IntKind} {i:Int} {s:List UInt8} (hW:Wd C w0 S γ μ w) (ho:o.op= .index t x y) (hx:aB x=some x') (hy:aB y=some y')
  (hu:C.P.underlying t=some .string) (hi:ev f y'= .pv (.int k i)) (h0:0≤i) (h1:i+1≤s.length)
  (hp:ev f x'= .pv (.str s)) (hf:Reads w S γ f a (.indexStr x' y')):cq C w0 o a S γ (.pv (.int .u8 (s.getD i.toNat 0).toNat)) μ w:=by
 have g1:=aO (w:=w) (S:=S) (γ:=γ) hx fun t ht=>hf t (by simp[tmpsOf,ht])
 have g2:=aO (w:=w) (S:=S) (γ:=γ) hy fun t ht=>hf t (by simp[tmpsOf,ht])
 rw[hi]at g2;have g2:=dU g2;rw[hp]at g1;have g1:=jy g1;have hlt:i.toNat<s.length:=by omega
 refine .same hW (u:=.int .u8 (s.getD i.toNat 0).toNat) ?_ (.pv _ _ (.int _ _));have hb:(⟨s.toArray⟩:ByteArray)[i.toNat]?=some (s.getD i.toNat 0):=by
  rw[List.getD,List.getElem?_eq_getElem hlt];have hsz:i.toNat<(⟨s.toArray⟩:ByteArray).size:=by simpa [ByteArray.size]using hlt
  rw[getElem?_pos (⟨s.toArray⟩:ByteArray) i.toNat hsz];rfl
 simp only[execOp,ho,Instr.index,g1,g2,asIntOf,Sem.run_bind,Sem.run_pure,Result.andThen_ok,run_underlying hu,if_pos h0,hb]
theorem sU {x:Operand} {x':cn} {i:Nat} {l:List PV} (hW:Wd C w0 S γ μ w) (ho:o.op= .extract x i) (hx:aB x=some x') (hp:ev f x'= .pv (.tup l)) (hl:(i:Int)+1≤l.length)
  (hf:Reads w S γ f a (.extract x' i)):cq C w0 o a S γ (.pv (l.getD i default)) μ w:=by
 have g1:=aO (w:=w) (S:=S) (γ:=γ) hx fun t ht=>hf t (by simp[tmpsOf,ht])
 rw[hp]at g1;have g1:=cB g1;generalize hxe:a.eval x=xv at g1;cases g1 with
 |tup _ cs hlen hat =>
  obtain⟨u,hu,hI⟩:=(⟨hlen,hat⟩:PW (Is w S) l cs).getD (i:=i) (by omega) (default:PV);refine .same hW (u:=u) ?_ (.pv _ _ hI);simp[execOp,ho,hxe,Instr.extract,hu]
theorem oL {x:Operand} {x':cn} {i:Nat} {l:List AV} (hW:Wd C w0 S γ μ w) (ho:o.op= .extract x i) (hx:aB x=some x') (hp:ev f x'= .tup l) (hl:(i:Int)+1≤l.length)
  (hf:Reads w S γ f a (.extract x' i)):cq C w0 o a S γ (l.getD i .any) μ w:=by
 have g1:=aO (w:=w) (S:=S) (γ:=γ) hx fun t ht=>hf t (by simp[tmpsOf,ht])
 rw[hp]at g1;generalize hxe:a.eval x=xv at g1;cases g1 with
 |tup _ cs hlen hat =>
  obtain⟨u,hu,hI⟩:=(⟨hlen,hat⟩:PW (VR w S γ) l cs).getD (i:=i) (by omega) (AV.any);refine .same hW (u:=u) ?_ hI;simp[execOp,ho,hxe,Instr.extract,hu]
theorem lJ {x:Operand} {x':cn} (hW:Wd C w0 S γ μ w) (ho:o.op= .nilCheck x) (hx:aB x=some x') (hp:(∃b g n,ev f x'= .ptr b g n)∨(∃l n,ev f x'= .iptr l n))
  (hf:Reads w S γ f a (.nilCheck x')):cq C w0 o a S γ (ev f x') μ w:=by
 have g1:=aO (w:=w) (S:=S) (γ:=γ) hx fun t ht=>hf t (by simp[tmpsOf,ht])
 have:∃p,a.eval x= .pointer (some p):=by
  rcases hp with⟨b,g,n,he⟩|⟨l,n,he⟩
  ·rw[he]at g1;obtain⟨p,hv,-⟩:=mO (n:=0) g1;exact⟨p,hv⟩
  rw[he]at g1;obtain⟨p,hv,-⟩:=lG (n:=0) g1;exact⟨p,hv⟩
 obtain⟨p,hv⟩:=this;refine .same hW (u:=a.eval x) ?_ g1;simp[execOp,ho,hv]
theorem xz {g:FuncId} {first caps:Array Operand} {caps':List cn} (hW:Wd C w0 S γ μ w) (ho:o.op= .makeFunc (.func g) first caps) (h1:first.isEmpty=true) (hx:fv caps.toList=some caps')
  (hf:Reads w S γ f a (.mkfn g caps')):cq C w0 o a S γ (.fn g (caps'.map (ev f))) μ w:=by
 have g1:=ij (w:=w) (S:=S) (γ:=γ) hx fun t ht=>hf t (by simpa [tmpsOf]using ht)
 have h0:first=#[]:=by simpa using h1
 subst h0;refine .same hW (u:=.func (.func g) #[] (caps.toList.map a.eval).toArray) ?_ (.fn g _ _ g1.len g1.at_);have:(caps.toList.map a.eval).toArray=caps.map a.eval:=by rw[←Array.toList_map]
 rw[this];simp[execOp,ho,Instr.makeFunc]
theorem Ez {k:IntKind} {n:Int} (h1:k.min≤n) (h2:n≤k.max):k.wrap n=n:=by
 cases k
 ·exact IntWalk.i8_in n (by simpa [IntKind.min,IntKind.max,IntKind.bits,IntKind.signed]using And.intro h1 h2)
 ·exact IntWalk.i16_in n (by simpa [IntKind.min,IntKind.max,IntKind.bits,IntKind.signed]using And.intro h1 h2)
 ·exact IntWalk.i32_in n (by simpa [IntKind.min,IntKind.max,IntKind.bits,IntKind.signed]using And.intro h1 h2)
 ·exact IntWalk.i64_in n (by simpa [IntKind.min,IntKind.max,IntKind.bits,IntKind.signed]using And.intro h1 h2)
 ·exact IntWalk.u8_in n (by simpa [IntKind.min,IntKind.max,IntKind.bits,IntKind.signed]using And.intro h1 h2)
 ·exact IntWalk.u16_in n (by simpa [IntKind.min,IntKind.max,IntKind.bits,IntKind.signed]using And.intro h1 h2)
 ·exact IntWalk.u32_in n (by simpa [IntKind.min,IntKind.max,IntKind.bits,IntKind.signed]using And.intro h1 h2)
 exact IntWalk.u64_in n (by simpa [IntKind.min,IntKind.max,IntKind.bits,IntKind.signed]using And.intro h1 h2)
theorem qC {s d:TypeId} {k k0 k1:IntKind} {x:Operand} {x':cn} {n m:Int} (hW:Wd C w0 S γ μ w) (ho:o.op= .convert s d x) (hx:aB x=some x') (hs:C.P.underlying s=some (.int k0)) (hd:C.P.underlying d=some (.int k))
  (hp:ev f x'= .pv (.int k1 n)) (hm:m=k.wrap n) (hf:Reads w S γ f a (.conv k x')):cq C w0 o a S γ (.pv (.int k m)) μ w:=by
 have g1:=aO (w:=w) (S:=S) (γ:=γ) hx fun t ht=>hf t (by simpa [tmpsOf]using ht)
 rw[hp]at g1;have g1:=dU g1;subst hm;refine .same hW (u:=.int k (k.wrap n)) ?_ (.pv _ _ (.int _ _));simp[execOp,ho,g1,convert,run_underlying hs,run_underlying hd,Conv.intToInt]
theorem sV {s d:TypeId} {x:Operand} {x':cn} {n:List UInt8} (hW:Wd C w0 S γ μ w) (ho:o.op= .convert s d x) (hx:aB x=some x') (hs:C.P.underlying s=some .string) (hd:C.P.underlying d=some .string)
  (hp:ev f x'= .pv (.str n)) (hf:Reads w S γ f a (.convS x')):cq C w0 o a S γ (.pv (.str n)) μ w:=by
 have g1:=aO (w:=w) (S:=S) (γ:=γ) hx fun t ht=>hf t (by simpa [tmpsOf]using ht)
 rw[hp]at g1;have g2:=jy g1;refine .same hW (u:=a.eval x) ?_ g1;simp[execOp,ho,g2,convert,run_underlying hs,run_underlying hd]
theorem xA {g:FuncId} {first caps:Array Operand} {first':List cn} (hW:Wd C w0 S γ μ w) (ho:o.op= .makeFunc (.func g) first caps) (h1:caps.isEmpty=true) (hx:fv first.toList=some first')
  (hf:Reads w S γ f a (.mkbm g first')):cq C w0 o a S γ (.bm g (first'.map (ev f))) μ w:=by
 have g1:=ij (w:=w) (S:=S) (γ:=γ) hx fun t ht=>hf t (by simpa [tmpsOf]using ht)
 have h0:caps=#[]:=by simpa using h1
 subst h0;refine .same hW (u:=.func (.func g) (first.toList.map a.eval).toArray #[]) ?_ (.bm g _ _ g1.len g1.at_);have:(first.toList.map a.eval).toArray=first.map a.eval:=by rw[←Array.toList_map]
 rw[this];simp[execOp,ho,Instr.makeFunc]
theorem nI {mx:Bool} {x y:Operand} {x' y':cn} {ts:Array TypeId} {k:IntKind} {p q:Int} (hW:Wd C w0 S γ μ w) (ho:o.op= .call {callee:=.builtin (bif mx then .max else .min),args:=#[x,y],argTypes:=ts}) (hx:aB x=some x') (hy:aB y=some y')
  (hp:ev f x'= .pv (.int k p)) (hq:ev f y'= .pv (.int k q)) (hf:Reads w S γ f a (.minmax mx x' y')) :
  cq C w0 o a S γ (.pv (.int k (bif mx then (if p<q then q else p) else (if q<p then q else p)))) μ w:=by
 have h1:=aO (w:=w) (S:=S) (γ:=γ) hx fun t ht=>hf t (by simp[tmpsOf,ht])
 have h2:=aO (w:=w) (S:=S) (γ:=γ) hy fun t ht=>hf t (by simp[tmpsOf,ht])
 rw[hp]at h1;rw[hq]at h2;have h1:=dU h1;have h2:=dU h2;cases mx with
 |true =>
  refine .same hW (u:=.int k (if p<q then q else p)) ?_ (.pv _ _ (.int _ _));simp only[cond_true]at ho;simp[execOp,ho,resolve,invoke,builtin,h1,h2,run_max_int2]
 |false =>
  refine .same hW (u:=.int k (if q<p then q else p)) ?_ (.pv _ _ (.int _ _));simp only[cond_false]at ho;simp[execOp,ho,resolve,invoke,builtin,h1,h2,run_min_int2]
theorem nJ:∀{l:List PV} {s:List UInt8},bytesOf l=some s→∃xs:List Int,l=xs.map (.int .u8)∧s=xs.map fun n=>UInt8.ofNat n.toNat
 |[],s,h=>by
  simp only[bytesOf,Option.some.injEq]at h;subst h;exact⟨[],rfl,rfl⟩
 |p::r,s,h=>by
  cases p with
  |int k n =>
   cases k<;>simp only[bytesOf]at h<;>first|(cases h;done)|skip
   split at h
   ·rename_i l hl;injection h with h;subst h
    obtain⟨xs,rfl,rfl⟩:=nJ hl;exact⟨n::xs,rfl,rfl⟩
   cases h
  |_=>simp[bytesOf]at h
theorem vA {s d e:TypeId} {x:Operand} {x':cn} {n:Nat} {l:List PV} {bs:List UInt8} (hW:Wd C w0 S γ μ w) (ho:o.op= .convert s d x) (hx:aB x=some x') (hs:C.P.underlying s=some (.slice e)) (hd:C.P.underlying d=some .string) (he:C.P.underlying e=some (.int .u8))
  (hp:ev f x'= .pv (.sl n l)) (hb:bytesOf l=some bs) (hn:l.length=n) (hf:Reads w S γ f a (.convB x')):cq C w0 o a S γ (.pv (.str bs)) μ w:=by
 have g1:=aO (w:=w) (S:=S) (γ:=γ) hx fun t ht=>hf t (by simpa [tmpsOf]using ht)
 rw[hp]at g1;obtain⟨xs,rfl,rfl⟩:=nJ hb;have g2:=cB g1;generalize ha:a.eval x=u at g2;refine .same hW (u:=.string ⟨(xs.map fun n=>UInt8.ofNat n.toNat).toArray⟩) ?_ (.pv _ _ (.str _));simp only[List.length_map]at hn;generalize hl0:xs.map (PV.int .u8)=l0 at g2;cases g2 with
 |sl n l g o' cap c hS h1 h2 hc h3 hi =>
  subst hl0;have hcell:∀i,i<n→w.cell? ⟨g,o'+i,none⟩=some (.int .u8 (xs.getD i 0)):=fun i hin=>by
   have hl:(xs.map (PV.int .u8))[i]?=some (.int .u8 (xs.getD i 0)):=by
    rw[List.getElem?_map,List.getElem?_eq_getElem (by omega)];simp[List.getD,List.getElem?_eq_getElem (show i<xs.length by omega)]
   have h4:=hi i _ hl;rw[hc i _ hl];generalize c i=ci at h4;cases h4;rfl
  have hr:=run_convert_bytes_arg (P:=C.P) w s e hs he g o' n cap xs hn hcell d hd;simp only[execOp,ho,ha,Sem.run_bind,hr,Result.andThen_ok,Sem.run_pure];rfl
 |sl0 =>
  have hxs:xs=[]:=by simpa using hl0
  subst hxs;have hr:=run_convert_bytes_nil (P:=C.P) w s e hs he 0 0 d hd;simp only[execOp,ho,ha,Sem.run_bind,hr,Result.andThen_ok,Sem.run_pure];rfl
 |slz ad cap h =>
  have hxs:xs=[]:=by simpa using hl0
  subst hxs;have hr:(convert s d (.slice (some ad) 0 cap)).run C.P w= .ok (.string ByteArray.empty) w:=by
   rw[run_convert_bytes_string w s d e _ 0 cap hs he hd];have:=run_loadCells_list (P:=C.P) w ad [] (fun j v hj=>by simp at hj);simp at this;simp[Conv.bytesToString,this]
  simp only[execOp,ho,ha,Sem.run_bind,hr,Result.andThen_ok,Sem.run_pure];rfl
theorem qD {d kind:Nat} {t:TypeId} {p q:PV} {u v:Value} {b:Bool} (he:oJ kind p q=some b) (hu:Is w S p u) (hv:Is w S q v)
  (h0:kind=0→∃k',C.P.underlying t=some (.int k')) (h1:kind=1→C.P.underlying t=some .bool) (h2:kind=2→C.P.underlying t=some .string):(Op.equalIn (d+1) t u v).run C.P w= .ok b w:=by
 unfold oJ at he;split at he
 ·rename_i k x k' y;cases hk:k==k' with
  |false=>rw[hk]at he;cases he
  |true =>
   rw[hk,cond_true]at he;injection he with he;subst he
   have:=uf hk;subst this;cases hu;cases hv;obtain⟨k',h⟩:=h0 rfl;exact run_equalIn_int w d t _ k' _ _ h
 ·injection he with he;subst he
  cases hu;cases hv;exact run_equalIn_bool' w d t _ _ (h1 rfl)
 ·injection he with he;subst he
  cases hu;cases hv;rw[run_equalIn_string w d t _ _ (h2 rfl),xx]
 cases he
theorem gD {t:TypeId} {cs:List Value} {off:Nat} {u:Value} (hu:fW C.P t=some false) (h:cs[off]?=some u):(part t cs.toArray off).run C.P w= .ok u w:=by
 simp only[part,Sem.run_bind,iQ hu,Result.andThen_ok,Bool.false_eq_true,if_false];simp[h]
theorem qE {d:Nat} {l m:List PV} {cs ds:List Value} (hl:PW (Is w S) l cs) (hm:PW (Is w S) m ds):∀(fs:List Field) (offs:List (Nat×Nat)),jM C.P fs=some offs→∀b,cY l m offs=some b→(Op.eqFields (d+1) cs.toArray ds.toArray fs).run C.P w= .ok b w
 |[],offs,h,b,he=>by
  simp only[jM,Option.some.injEq]at h;subst h;simp only[cY,Option.some.injEq]at he;subst he;simp[Op.eqFields]
 |fd::fs,offs,h,b,he=>by
  simp only[jM]at h;cases hn : fd.name == "_" with
  |true=>rw[hn]at h;cases h
  |false =>
   rw[hn,cond_false]at h;have hne : fd.name ≠ "_" := by simpa using hn
   have key:∀(kind:Nat) (r:List (Nat×Nat)),jM C.P fs=some r→offs=(fd.offset,kind)::r→(kind=0→∃k',C.P.underlying fd.type=some (.int k'))→(kind=1→C.P.underlying fd.type=some .bool)→(kind=2→C.P.underlying fd.type=some .string)→fW C.P fd.type=some false →
     (Op.eqFields (d+1) cs.toArray ds.toArray (fd::fs)).run C.P w= .ok b w:=by
    intro kind r hr ho h0 h1 h2 hag;subst ho;simp only[cY]at he;split at he
    ·rename_i p q hp hq;split at he
     ·rename_i x y hx hy;injection he with he;subst he
      obtain⟨u,hu1,hu2⟩:=hl.getD (i:=fd.offset) (List.getElem?_eq_some_iff.mp hp).1 default;obtain⟨v,hv1,hv2⟩:=hm.getD (i:=fd.offset) (List.getElem?_eq_some_iff.mp hq).1 default;rw[List.getD,hp,Option.getD_some]at hu2;rw[List.getD,hq,Option.getD_some]at hv2;simp only[Op.eqFields,if_pos hne,Sem.run_bind,gD hag hu1,gD hag hv1,Result.andThen_ok,qD (C:=C) (d:=d) (t:=fd.type) hx hu2 hv2 h0 h1 h2,Sem.run_ite];cases x with
      |true=>simpa using qE hl hm fs r hr y hy
      |false=>simp
     cases he
    cases he
   split at h
   ·rename_i k r hk hr;injection h with h
    exact key 0 r hr h.symm (fun _=>⟨_,hk⟩) (fun h=>by cases h) (fun h=>by cases h) (by simp[fW,hk])
   ·rename_i r hk hr;injection h with h
    exact key 1 r hr h.symm (fun h=>by cases h) (fun _=>hk) (fun h=>by cases h) (by simp[fW,hk])
   ·rename_i r hk hr;injection h with h
    exact key 2 r hr h.symm (fun h=>by cases h) (fun h=>by cases h) (fun _=>hk) (by simp[fW,hk])
   cases h
theorem qF {l m:List PV}:∀{a b:List (Nat×Nat)} {r:Bool},cY l m (a++b)=some r→∃x y,cY l m a=some x∧cY l m b=some y∧r=(x&&y)
 |[],b,r,h=>⟨true,r,rfl,h,rfl⟩
 |(o,t)::a,b,r,h=>by
  simp only[List.cons_append,cY]at h;split at h
  ·rename_i p q hp hq;split at h
   ·rename_i x y hx hy;injection h with h
    obtain⟨x',y',h1,h2,h3⟩:=qF hy;refine⟨x&&x',y',?_,h2,by rw[←h,h3,Bool.and_assoc]⟩;simp only[cY,hp,hq,hx,h1]
   cases h
  cases h
theorem tj {l m:List PV}:∀{a:List (Nat×Nat)} {r:Bool},cY l m a=some r→∀q∈a,q.1<l.length∧q.1<m.length
 |[],_,_,q,hq=>by cases hq
 |(o,t)::a,r,h,q,hq=>by
  simp only[cY]at h;split at h
  ·rename_i p p' hp hp';split at h
   ·rename_i x y hx hy;rcases List.mem_cons.mp hq with rfl|hq
    ·exact⟨(List.getElem?_eq_some_iff.mp hp).1,(List.getElem?_eq_some_iff.mp hp').1⟩
    exact tj hy q hq
   cases h
  cases h
theorem nK {l m:List PV} {off n:Nat}:∀{a:List (Nat×Nat)} {r:Bool},(∀q∈a,q.1<n)→cY l m (a.map fun q=>(off+q.1,q.2))=some r→cY ((l.drop off).take n) ((m.drop off).take n) a=some r
 |[],_,_,h=>h
 |(o,t)::a,r,hn,h=>by
  have ho:=hn (o,t) (by simp);simp only[List.map_cons,cY]at h ⊢;rw[List.getElem?_take,if_pos ho,List.getElem?_drop,List.getElem?_take,if_pos ho,List.getElem?_drop];split at h
  ·rename_i p q hp hq;split at h
   ·rename_i x y hx hy;simp only[hx,nK (fun q hq=>hn q (by simp[hq])) hy];exact h
   cases h
  cases h
theorem lK {d:Nat} {l m:List PV} {cs ds:List Value} (hl:PW (Is w S) l cs) (hm:PW (Is w S) m ds):∀(fs:List Field) (offs:List (Nat×Nat)),fx C.P fs=some offs→∀b,cY l m offs=some b→(Op.eqFields (d+2) cs.toArray ds.toArray fs).run C.P w= .ok b w
 |[],offs,h,b,he=>by
  simp only[fx,Option.some.injEq]at h;subst h;simp only[cY,Option.some.injEq]at he;subst he;simp[Op.eqFields]
 |fd::fs,offs,h,b,he=>by
  simp only[fx]at h;cases hn : fd.name == "_" with
  |true=>rw[hn]at h;cases h
  |false =>
   rw[hn,cond_false]at h;have hne : fd.name ≠ "_" := by simpa using hn
   have key:∀(kind:Nat) (r:List (Nat×Nat)),fx C.P fs=some r→offs=(fd.offset,kind)::r→(kind=0→∃k',C.P.underlying fd.type=some (.int k'))→(kind=1→C.P.underlying fd.type=some .bool)→(kind=2→C.P.underlying fd.type=some .string)→fW C.P fd.type=some false →
     (Op.eqFields (d+2) cs.toArray ds.toArray (fd::fs)).run C.P w= .ok b w:=by
    intro kind r hr ho h0 h1 h2 hag;subst ho;simp only[cY]at he;split at he
    ·rename_i p q hp hq;split at he
     ·rename_i x y hx hy;injection he with he;subst he
      obtain⟨u,hu1,hu2⟩:=hl.getD (i:=fd.offset) (List.getElem?_eq_some_iff.mp hp).1 default;obtain⟨v,hv1,hv2⟩:=hm.getD (i:=fd.offset) (List.getElem?_eq_some_iff.mp hq).1 default;rw[List.getD,hp,Option.getD_some]at hu2;rw[List.getD,hq,Option.getD_some]at hv2;simp only[Op.eqFields,if_pos hne,Sem.run_bind,gD hag hu1,gD hag hv1,Result.andThen_ok,qD (C:=C) (d:=d+1) (t:=fd.type) hx hu2 hv2 h0 h1 h2,Sem.run_ite];cases x with
      |true=>simpa using lK hl hm fs r hr y hy
      |false=>simp
     cases he
    cases he
   split at h
   ·rename_i k r hk hr;injection h with h
    exact key 0 r hr h.symm (fun _=>⟨_,hk⟩) (fun h=>by cases h) (fun h=>by cases h) (by simp[fW,hk])
   ·rename_i r hk hr;injection h with h
    exact key 1 r hr h.symm (fun h=>by cases h) (fun _=>hk) (fun h=>by cases h) (by simp[fW,hk])
   ·rename_i r hk hr;injection h with h
    exact key 2 r hr h.symm (fun h=>by cases h) (fun h=>by cases h) (fun _=>hk) (by simp[fW,hk])
   ·rename_i gs r hk hr;cases hst:C.P.stoodInHeld fd.type with
    |true=>rw[hst]at h;cases h
    |false =>
     rw[hst,cond_false]at h;split at h
     ·rename_i s n hs hz;cases hb:(s.all fun q=>Nat.blt q.1 n)&&(s.any fun q=>Nat.beq (q.1+1) n) with
      |false=>rw[hb]at h;cases h
      |true =>
       rw[hb,cond_true]at h;injection h with h
       subst h;rw[Bool.and_eq_true,List.all_eq_true,List.any_eq_true]at hb;obtain⟨x,y,hx,hy,rfl⟩:=qF he;have hin:=tj hx;obtain⟨q,hq,hqn⟩:=hb.2;have hqn:=Nat.eq_of_beq_eq_true hqn;have hq2:=hin (fd.offset+q.1,q.2) (List.mem_map.mpr ⟨q,hq,rfl⟩);simp only at hq2;have hx2:=nK (n:=n) (fun q hq=>Nat.le_of_ble_eq_true (hb.1 q hq)) hx;have hag:fW C.P fd.type=some true:=by simp[fW,hk]
       obtain⟨u,hu1,hu2⟩:=nG (C:=C) (off:=fd.offset) hag hz rfl hl (by omega);obtain⟨v,hv1,hv2⟩:=nG (C:=C) (off:=fd.offset) hag hz rfl hm (by omega);simp only[er,cond_true]at hu2 hv2;have hfo:C.P.fieldsOf fd.type=gs:=by simp[Program.fieldsOf,hk]
       have heq:(Op.equalIn (d+2) fd.type u v).run C.P w= .ok x w:=by
        cases hu2 with
        |agg _ us hul hat =>
         cases hv2 with
         |agg _ vs hvl hat2 =>
          rw[run_equalIn_struct (P:=C.P) w (d+1) fd.type us.toArray vs.toArray (by rw[hfo];exact hk) hst,hfo];exact qE (C:=C) (d:=d) ⟨hul,hat⟩ ⟨hvl,hat2⟩ gs.toList s hs x hx2
       simp only[Op.eqFields,if_pos hne,Sem.run_bind,hu1,hv1,Result.andThen_ok,heq,Sem.run_ite];cases x with
       |true=>simpa using lK hl hm fs r hr y hy
       |false=>simp
     cases h
   cases h
theorem Ac {op:BinOp} {xt yt:TypeId} {x y:Operand} {x' y':cn} {fs:Array Field} {offs:List (Nat×Nat)} {l m:List PV} {b neg:Bool} (hW:Wd C w0 S γ μ w) (ho:o.op= .binOp op xt x y yt) (hx:aB x=some x') (hy:aB y=some y')
  (hu:C.P.underlying xt=some (.struct fs)) (hs:C.P.stoodInHeld xt=false) (hg:C.P.eqGuardType C.P.depth xt=false) (hfs:fx C.P fs.toList=some offs) (hop:(op= .eql∧neg=false)∨(op= .neq∧neg=true))
  (hp:ev f x'= .pv (.agg l)) (hq:ev f y'= .pv (.agg m)) (he:cY l m offs=some b) (hf:Reads w S γ f a (.eqA neg offs x' y')):cq C w0 o a S γ (.pv (.bool (bif neg then !b else b))) μ w:=by
 have h1:=aO (w:=w) (S:=S) (γ:=γ) hx fun t ht=>hf t (by simp[tmpsOf,ht])
 have h2:=aO (w:=w) (S:=S) (γ:=γ) hy fun t ht=>hf t (by simp[tmpsOf,ht])
 rw[hp]at h1;rw[hq]at h2;have h1:=cB h1;have h2:=cB h2;generalize ha:a.eval x=u at h1;generalize hb:a.eval y=v at h2;cases h1 with
 |agg _ cs hl hat =>
  cases h2 with
  |agg _ ds hl2 hat2 =>
   have hfo:C.P.fieldsOf xt=fs:=by simp[Program.fieldsOf,hu]
   have hr:=lK (C:=C) (d:=9997) (⟨hl,hat⟩:PW (Is w S) l cs) (⟨hl2,hat2⟩:PW (Is w S) m ds) fs.toList offs hfs b he;have hr2:=run_equalIn_struct (P:=C.P) w 9999 xt cs.toArray ds.toArray (by rw[hfo];exact hu) hs;rw[hfo]at hr2;have hgd:=run_eqGuard_agg (P:=C.P) w op xt x y cs.toArray ds.toArray hg;rcases hop with⟨rfl,rfl⟩|⟨rfl,rfl⟩
   ·refine .same hW (u:=.bool b) ?_ (.pv _ _ (.bool _));simp only[execOp,ho,ha,hb,Sem.run_bind,hgd,Result.andThen_ok,run_eql_struct,hr2,hr,Sem.run_pure]
   refine .same hW (u:=.bool !b) ?_ (.pv _ _ (.bool _));simp only[execOp,ho,ha,hb,Sem.run_bind,hgd,Result.andThen_ok,run_neq_struct,hr2,hr,Sem.run_pure]
end
end
section
section
variable {C:Ctx} {w0 w:World} {S:Nat→Prop} {γ:Gh} {μ:AM} {f:AF} {a:Act} {o:Oper}
def vB (a:Act) (x:Option Operand) (d:Int) (n:Int):Prop:=match x with
 |none=>n=d
 |some x=>∃k,a.eval x= .int k n
theorem gL {x:Option Operand} {y:Option cn} {d n:Int} (hx:gj x=some y) (hn:cZ f d y=some n) (hf:∀t∈qu y,VR w S γ (get f t) (a.eval (.tmp t))) :
  vB a x d n:=by
 cases x with
 |none =>
  simp only[gj,Option.some.injEq]at hx;subst hx;simp only[cZ,Option.some.injEq]at hn;exact hn.symm
 |some x =>
  simp only[gj]at hx;cases ho:aB x with
  |none=>rw[ho]at hx;cases hx
  |some z =>
   rw[ho]at hx;simp only[Option.map_some,Option.some.injEq]at hx;subst hx;have h1:=aO (w:=w) (S:=S) (γ:=γ) (f:=f) (a:=a) ho fun t ht=>hf t (by simpa [qu]using ht)
   simp only[cZ]at hn;unfold kh at hn;split at hn
   ·rename_i k m he;injection hn with hn;subst hn
    rw[he]at h1;exact⟨k,dU h1⟩
   cases hn
theorem qG {isS:Bool} {n cap:Nat} {lo hi:Option Operand} {l h:Int} (h1:vB a lo 0 l) (h2:vB a hi n h) (g0:0≤l) (g1:l≤h) (g2:h≤n) (g3:n≤cap) :
  (Instr.sliceBounds isS n cap (lo.map a.eval) (hi.map a.eval) none).run C.P w= .ok (l.toNat,h.toNat,cap) w:=by
 have e1:(h.toNat:Int)=h:=Int.toNat_of_nonneg (by omega);cases lo with
 |none =>
  have hl:l=0:=h1;subst hl;cases hi with
  |none =>
   have hh:h=n:=h2;subst hh;simp[Instr.sliceBounds]
  |some y =>
   obtain⟨k,hk⟩:=h2;simp[Instr.sliceBounds,hk,run_sliceBound,(by omega:0≤h),(by omega:h≤cap)]
 |some x =>
  obtain⟨k1,hk1⟩:=h1;cases hi with
  |none =>
   have hh:h=n:=h2;subst hh;simp[Instr.sliceBounds,hk1,run_sliceBound,g0,g1]
  |some y =>
   obtain⟨k,hk⟩:=h2;simp[Instr.sliceBounds,hk,hk1,run_sliceBound,(by omega:0≤h),(by omega:h≤cap),g0,e1,g1]
theorem fI {t e:TypeId} {z:Nat} {x:Option Addr} {n cap:Nat} {lo hi:Option Operand} {l h:Int} (hu:C.P.underlying t=some (.slice e)) (hz:bQ C.P e=some z)
  (h1:vB a lo 0 l) (h2:vB a hi n h) (g0:0≤l) (g1:l≤h) (g2:h≤n) (g3:n≤cap) :
  (Instr.sliceAt t (.slice x n cap) (lo.map a.eval) (hi.map a.eval) none).run C.P w =
   .ok (.slice (if cap=l.toNat then x else x.map (·.add (l.toNat*z))) (h.toNat-l.toNat) (cap-l.toNat)) w:=by
 simp only[Instr.sliceAt,Sem.run_bind,run_underlying hu,Result.andThen_ok,Instr.slice,qG h1 h2 g0 g1 g2 g3,dc hz,Sem.run_pure]
theorem vC {t e:TypeId} {x:Operand} {lo hi:Option Operand} {x':cn} {lo' hi':Option cn} {z n:Nat} {l:List PV} {i j:Int} (hW:Wd C w0 S γ μ w) (ho:o.op= .slice t x lo hi none) (hx:aB x=some x')
  (hlo:gj lo=some lo') (hhi:gj hi=some hi') (hu:C.P.underlying t=some (.slice e)) (hz:bQ C.P e=some z) (hp:ev f x'= .pv (.sl n l))
  (hi1:cZ f 0 lo'=some i) (hj1:cZ f (n:Int) hi'=some j)
  (g0:0≤i) (g1:i≤j) (g2:j≤n) (hf:Reads w S γ f a (.slice x' lo' hi' z)) :
  cq C w0 o a S γ (.pv (.sl (j-i).toNat ((l.drop (i.toNat*z)).take ((j-i).toNat*z)))) μ w:=by
 have k1:=aO (w:=w) (S:=S) (γ:=γ) hx fun t ht=>hf t (by simp[tmpsOf,ht])
 have k2:=gL (w:=w) (S:=S) (γ:=γ) (f:=f) (a:=a) hlo hi1 fun t ht=>hf t (by simp[tmpsOf,ht])
 have k3:=gL (w:=w) (S:=S) (γ:=γ) (f:=f) (a:=a) hhi hj1 fun t ht=>hf t (by simp[tmpsOf,ht])
 rw[hp]at k1;have k1:=cB k1;generalize hxe:a.eval x=xv at k1;have ej:j.toNat-i.toNat=(j-i).toNat:=by omega
 cases k1 with
 |sl _ _ g o' cap c hS hc1 hc2 hc h1c hI =>
  have hr:=fI (w:=w) (x:=some ⟨g,o',none⟩) (cap:=cap) hu hz k2 k3 g0 g1 g2 hc1;refine .same hW (u:=.slice (if cap=i.toNat then some ⟨g,o',none⟩ else some ⟨g,o'+i.toNat*z,none⟩) (j-i).toNat (cap-i.toNat)) ?_ ?_
  ·simp only[execOp,ho,hxe,Sem.run_bind,hr,Result.andThen_ok,Sem.run_pure,Option.map_some,Addr.add_lit,ej,Option.map_none]
  by_cases hci:cap=i.toNat
  ·rw[if_pos hci];have h0:(j-i).toNat=0:=by omega
   rw[h0];refine .pv _ _ (.sl 0 _ g o' _ c hS (by omega) (by omega) ?_ ?_ ?_)
   ·intro m p hm;simp at hm
   ·intro m p hm;simp at hm
   intro m p hm;simp at hm
  rw[if_neg hci];refine .pv _ _ (.sl _ _ g (o'+i.toNat*z) _ (fun m=>c (i.toNat*z+m)) hS (by omega) (by omega) ?_ ?_ ?_)
  ·intro m p hm;rw[List.getElem?_take]at hm;split at hm
   ·rw[List.getElem?_drop]at hm;rw[Nat.add_assoc];exact hc _ p hm
   cases hm
  ·intro m p hm;rw[List.getElem?_take]at hm;split at hm
   ·rw[List.getElem?_drop]at hm;exact h1c _ p hm
   cases hm
  intro m p hm;rw[List.getElem?_take]at hm;split at hm
  ·rw[List.getElem?_drop]at hm;exact hI _ p hm
  cases hm
 |sl0 =>
  have hr:=fI (w:=w) (x:=none) (n:=0) (cap:=0) hu hz k2 k3 g0 g1 g2 (Nat.le_refl _);have e1:i.toNat=0:=by omega
  have e2:j.toNat=0:=by omega
  have e3:(j-i).toNat=0:=by omega
  rw[e1,e2]at hr;refine .same hW (u:=.slice none 0 0) ?_ ?_
  ·simp only[execOp,ho,hxe,Sem.run_bind,Option.map_none,hr,Result.andThen_ok,Sem.run_pure];simp
  rw[e3,Nat.zero_mul,List.take_zero];exact .pv _ _ .sl0
 |slz ad cap hcap =>
  have hr:=fI (w:=w) (x:=some ad) (n:=0) (cap:=cap) hu hz k2 k3 g0 g1 g2 (Nat.zero_le _);have e1:i.toNat=0:=by omega
  have e2:j.toNat=0:=by omega
  have e3:(j-i).toNat=0:=by omega
  rw[e1,e2]at hr;refine .same hW (u:=.slice (if cap=0 then some ad else Option.map (·.add (0*z)) (some ad)) (0-0) (cap-0)) ?_ ?_
  ·rw[show(none:Option Value)=Option.map a.eval none from rfl]at hr;simp only[execOp,ho,hxe,Sem.run_bind,hr,Result.andThen_ok,Sem.run_pure]
  rw[e3,Nat.zero_mul,List.take_zero];split
  ·exact .pv _ _ (.slz _ _ (Nat.le_trans (Nat.sub_le _ _) hcap))
  exact .pv _ _ (.slz _ _ (Nat.le_trans (Nat.sub_le _ _) hcap))
theorem pM {t e:TypeId} {x:Operand} {lo hi:Option Operand} {x':cn} {lo' hi':Option cn} {z:Nat} {i j:Int} (hW:Wd C w0 S γ μ w) (ho:o.op= .slice t x lo hi none) (hx:aB x=some x')
  (hlo:gj lo=some lo') (hhi:gj hi=some hi') (hu:C.P.underlying t=some (.slice e)) (hz:bQ C.P e=some z) (hp:ev f x'= .pv .nilsl)
  (hi1:cZ f 0 lo'=some i) (hj1:cZ f (0:Int) hi'=some j)
  (g0:0≤i) (g1:i≤j) (g2:j≤0) (hf:Reads w S γ f a (.slice x' lo' hi' z)):cq C w0 o a S γ (.pv .nilsl) μ w:=by
 have k1:=aO (w:=w) (S:=S) (γ:=γ) hx fun t ht=>hf t (by simp[tmpsOf,ht])
 have k2:=gL (w:=w) (S:=S) (γ:=γ) (f:=f) (a:=a) hlo hi1 fun t ht=>hf t (by simp[tmpsOf,ht])
 have k3:=gL (w:=w) (S:=S) (γ:=γ) (f:=f) (a:=a) hhi hj1 fun t ht=>hf t (by simp[tmpsOf,ht])
 rw[hp]at k1;have k1:=iG k1;have hr:=fI (w:=w) (x:=none) (n:=0) (cap:=0) hu hz k2 k3 g0 g1 g2 (Nat.le_refl _);have e1:i.toNat=0:=by omega
 have e2:j.toNat=0:=by omega
 rw[e1,e2]at hr;refine .same hW (u:=.slice none 0 0) ?_ (.pv _ _ .nilsl);simp only[execOp,ho,k1,Sem.run_bind,hr,Result.andThen_ok,Sem.run_pure,Option.map_none];simp
theorem pN {t e:TypeId} {x:Operand} {lo hi:Option Operand} {x':cn} {lo' hi':Option cn} {z n b g off:Nat} {i j:Int} (hW:Wd C w0 S γ μ w) (ho:o.op= .slice t x lo hi none) (hx:aB x=some x')
  (hlo:gj lo=some lo') (hhi:gj hi=some hi') (hu:C.P.underlying t=some (.slice e)) (hz:bQ C.P e=some z) (hz0:0<z) (hp:ev f x'= .ref b g off n)
  (hi1:cZ f 0 lo'=some i) (hj1:cZ f (n:Int) hi'=some j)
  (g0:0≤i) (g1:i≤j) (g2:j≤n) (hsz:∀e,γ b=some e→e.sz=z) (hf:Reads w S γ f a (.slice x' lo' hi' z)) :
  cq C w0 o a S γ (.ref b g (off+i.toNat*z) (j-i).toNat) μ w:=by
 have k1:=aO (w:=w) (S:=S) (γ:=γ) hx fun t ht=>hf t (by simp[tmpsOf,ht])
 have k2:=gL (w:=w) (S:=S) (γ:=γ) (f:=f) (a:=a) hlo hi1 fun t ht=>hf t (by simp[tmpsOf,ht])
 have k3:=gL (w:=w) (S:=S) (γ:=γ) (f:=f) (a:=a) hhi hj1 fun t ht=>hf t (by simp[tmpsOf,ht])
 rw[hp]at k1;generalize hxe:a.eval x=xv at k1;have ej:j.toNat-i.toNat=(j-i).toNat:=by omega
 cases k1 with
 |ref _ _ _ _ _ e' ad c hb hg hvc hs =>
  have hnc:=hvc.2;have hv:=hvc.1;have hr:=fI (w:=w) (x:=some ad) (cap:=c) hu hz k2 k3 g0 g1 g2 hnc;have hsub:(j-i).toNat≤c-i.toNat:=by clear hs;omega
  refine .same hW (u:=.slice (some (if c=i.toNat then ad else ad.add (i.toNat*z))) (j-i).toNat (c-i.toNat)) ?_ (.ref _ _ _ _ _ e' (if c=i.toNat then ad else ad.add (i.toNat*z)) (c-i.toNat) hb hg ⟨rfl,hsub⟩ fun hge=>?_)
  ·subst hv;simp only[execOp,ho,hxe,Sem.run_bind,Option.map_none,hr,Result.andThen_ok,Sem.run_pure,ej,Option.map_some];by_cases hci:c=i.toNat<;>simp[hci]
  have hez:=hsz e' hb;rcases hs hge with⟨cap,hv',h1,h2,h3⟩|⟨hn0,h0,o',cap,hv',h3⟩
  ·rw[hv]at hv';injection hv' with h4 h5 h6
   injection h4 with h4
   subst h4 h6;by_cases hci:c=i.toNat
   ·rw[if_pos hci];by_cases hi0:i.toNat=0
    ·left;refine⟨c-i.toNat,?_,?_,by omega,by omega⟩
     ·rw[hi0,Nat.zero_mul,Nat.add_zero]
     rw[hi0,Nat.zero_mul,Nat.add_zero,Nat.sub_zero];exact h1
    right;have h7:(j-i).toNat=0:=by omega
    have:0<i.toNat*z:=Nat.mul_pos (by omega) hz0;refine⟨h7,by omega,off,c-i.toNat,by rw[h7],by omega⟩
   rw[if_neg hci];left;refine⟨c-i.toNat,by rw[Addr.add_lit],?_,by omega,by omega⟩;rw[hez]at h1 ⊢;have:i.toNat≤c:=by omega
   rw[Nat.add_assoc,←Nat.add_mul];rw[show i.toNat+(c-i.toNat)=c by omega];exact h1
  have h7:i.toNat=0:=by omega
  have h8:(j-i).toNat=0:=by omega
  rw[hv]at hv';injection hv' with h4 h5 h6
  injection h4 with h4
  subst h4 h6;right;refine⟨h8,by omega,?_⟩;by_cases hci:c=i.toNat
  ·rw[if_pos hci];exact⟨o',c-i.toNat,by rw[h8],by omega⟩
  rw[if_neg hci,Addr.add_lit];exact⟨_,c-i.toNat,by rw[h8],by omega⟩
theorem qH {t:TypeId} {x:Operand} {lo hi:Option Operand} {x':cn} {lo' hi':Option cn} {s:List UInt8} {i j:Int} (hW:Wd C w0 S γ μ w) (ho:o.op= .slice t x lo hi none) (hx:aB x=some x')
  (hlo:gj lo=some lo') (hhi:gj hi=some hi') (hu:C.P.underlying t=some .string) (hp:ev f x'= .pv (.str s))
  (hi1:cZ f 0 lo'=some i) (hj1:cZ f (s.length:Int) hi'=some j)
  (g0:0≤i) (g1:i≤j) (g2:j≤s.length) (hf:Reads w S γ f a (.sliceStr x' lo' hi')):cq C w0 o a S γ (.pv (.str ((s.take j.toNat).drop i.toNat))) μ w:=by
 have k1:=aO (w:=w) (S:=S) (γ:=γ) hx fun t ht=>hf t (by simp[tmpsOf,ht])
 have k2:=gL (w:=w) (S:=S) (γ:=γ) (f:=f) (a:=a) hlo hi1 fun t ht=>hf t (by simp[tmpsOf,ht])
 have k3:=gL (w:=w) (S:=S) (γ:=γ) (f:=f) (a:=a) hhi hj1 fun t ht=>hf t (by simp[tmpsOf,ht])
 rw[hp]at k1;have k1:=jy k1;have hsz:(⟨s.toArray⟩:ByteArray).size=s.length:=by simp[ByteArray.size]
 have hr:=qG (C:=C) (w:=w) (isS:=false) (n:=s.length) (cap:=s.length) k2 k3 g0 g1 g2 (Nat.le_refl _);have he:(⟨s.toArray⟩:ByteArray).extract i.toNat j.toNat=⟨((s.take j.toNat).drop i.toNat).toArray⟩:=by
  apply ByteArray.ext;rw[ByteArray.data_extract];simp[List.extract_eq_take_drop,List.drop_take]
 refine .same hW (u:=.string ⟨((s.take j.toNat).drop i.toNat).toArray⟩) ?_ (.pv _ _ (.str _));simp only[execOp,ho,k1,Instr.sliceAt,Sem.run_bind,run_underlying hu,Result.andThen_ok,Instr.slice,hsz,hr,Sem.run_pure,Option.map_none,Option.isSome_none,Bool.false_eq_true,if_false,he]
theorem oM {x:Operand} {x':cn} {t e:TypeId} {n:Nat} (hW:Wd C w0 S γ μ w) (ho:o.op= .call {callee:=.builtin .len,args:=#[x],argTypes:=#[t]}) (hx:aB x=some x')
  (hu:C.P.underlying t=some (.slice e)) (h:(ev f x'= .pv .nilsl∧n=0)∨(∃l,ev f x'= .pv (.sl n l))∨(∃b g off,ev f x'= .ref b g off n))
  (hf:Reads w S γ f a (.len x')):cq C w0 o a S γ (.pv (.int .i64 n)) μ w:=by
 have k1:=aO (w:=w) (S:=S) (γ:=γ) hx fun t ht=>hf t (by simpa [tmpsOf]using ht)
 refine .same hW (u:=.int .i64 n) ?_ (.pv _ _ (.int _ _));have:∃ad c,a.eval x= .slice ad n c:=by
  rcases h with⟨he,rfl⟩|⟨l,he⟩|⟨b,g,off,he⟩
  ·rw[he]at k1;exact⟨_,_,iG k1⟩
  ·rw[he]at k1;have k1:=cB k1;generalize a.eval x=xv at k1;cases k1<;>exact⟨_,_,rfl⟩
  rw[he]at k1;cases k1 with|ref _ _ _ _ _ _ ad c _ _ h _=>exact⟨_,_,h.1⟩
 obtain⟨ad,c,hv⟩:=this;simp[execOp,ho,resolve,invoke,builtin,Builtin.len_,run_underlying hu,hv,goInt]
theorem xC {x:Operand} {x':cn} {t:TypeId} {s:List UInt8} (hW:Wd C w0 S γ μ w) (ho:o.op= .call {callee:=.builtin .len,args:=#[x],argTypes:=#[t]}) (hx:aB x=some x')
  (hu:C.P.underlying t=some .string) (he:ev f x'= .pv (.str s)) (hf:Reads w S γ f a (.lenS x')):cq C w0 o a S γ (.pv (.int .i64 s.length)) μ w:=by
 have k1:=aO (w:=w) (S:=S) (γ:=γ) hx fun t ht=>hf t (by simpa [tmpsOf]using ht)
 refine .same hW (u:=.int .i64 s.length) ?_ (.pv _ _ (.int _ _));rw[he]at k1;have k1:=jy k1;have hsz:(⟨s.toArray⟩:ByteArray).size=s.length:=by simp[ByteArray.size]
 simp[execOp,ho,resolve,invoke,builtin,Builtin.len_,run_underlying hu,k1,goInt,hsz]
end
end
section
section
variable {C:Ctx} {w0 w:World} {S:Nat→Prop} {γ:Gh} {μ:AM} {f:AF} {a:Act} {o:Oper}
theorem jz {t:TypeId} {ag:Bool} {s g o':Nat} {d:Nat→Value} (ha:fW C.P t=some ag) (hs:bQ C.P t=some s) (hag:(ag||Nat.beq s 1)=true) (h:∀j,j<s→w.cell? ⟨g,o'+j,none⟩=some (d j)) :
  (loadVar t ⟨g,o',none⟩).run C.P w= .ok (bif ag then .agg ((List.range s).map d).toArray else d 0) w:=by
 cases ag with
 |true =>
  simp only[loadVar,Sem.run_bind,iQ ha,Result.andThen_ok,if_true,dc hs];rw[run_loadCells w ⟨g,o',none⟩ s d (fun j hj=>by rw[Addr.add_lit];exact h j hj)];rfl
 |false =>
  have hs1:s=1:=by simpa using hag
  subst hs1;have:=h 0 (by omega);rw[Nat.add_zero]at this;simp only[loadVar,Sem.run_bind,iQ ha,Result.andThen_ok,Bool.false_eq_true,if_false,run_load,this];rfl
theorem dY {s i:Nat} {d:Nat→Value} {v:Value} (h:((List.range s).map d)[i]?=some v):i<s∧v=d i:=by
 rw[List.getElem?_map]at h;by_cases hi:i<s
 ·rw[List.getElem?_range hi]at h;simp at h;exact⟨hi,h.symm⟩
 rw[List.getElem?_eq_none (by simpa using hi)]at h;cases h
theorem ui {t:TypeId} {ag:Bool} {s off:Nat} {x:Operand} {x':cn} {l:List PV} (hW:Wd C w0 S γ μ w) (ho:o.op= .load t x) (hx:aB x=some x') (ha:fW C.P t=some ag) (hs:bQ C.P t=some s)
  (hag:(ag||Nat.beq s 1)=true) (hp:ev f x'= .iptr l off) (hl:off+s≤l.length) (hf:Reads w S γ f a (.load x' s ag)):cq C w0 o a S γ (.pv (er l off s ag)) μ w:=by
 have k1:=aO (w:=w) (S:=S) (γ:=γ) hx fun t ht=>hf t (by simpa [tmpsOf]using ht)
 rw[hp]at k1;generalize hxe:a.eval x=xv at k1;cases k1 with
 |iptr _ _ g o' c hS hc hI =>
  have hcell:∀j,j<s→w.cell? ⟨g,o'+off+j,none⟩=some (c (off+j)):=fun j hj=>by
   have:=hc (off+j) (l[off+j]'(by omega)) (List.getElem?_eq_getElem (by omega));rw[Nat.add_assoc];exact this
  have hr:=jz (C:=C) ha hs hag hcell;refine .same hW (u:=bif ag then .agg ((List.range s).map fun j=>c (off+j)).toArray else c off) ?_ (.pv _ _ ?_)
  ·simp only[execOp,ho,hxe,Instr.loadAt,Instr.sureAddr,Sem.run_bind,Sem.run_pure,Result.andThen_ok,hr,Nat.add_zero]
  cases ag with
  |true =>
   refine .agg _ _ (by simp;omega) fun i p v h1 h2=>?_
   obtain⟨hi,rfl⟩:=dY h2;rw[List.getElem?_take,if_pos hi,List.getElem?_drop]at h1;exact hI _ p h1
  |false =>
   have hs1:s=1:=by simpa using hag
   subst hs1;show Is w S (l.getD off default) (c off);rw[List.getD,List.getElem?_eq_getElem (by omega)];exact hI _ _ (List.getElem?_eq_getElem (by omega))
theorem uj {t:TypeId} {ag:Bool} {s off b g:Nat} {k:dI} {x:Operand} {x':cn} (hW:Wd C w0 S γ μ w) (ho:o.op= .load t x) (hx:aB x=some x') (ha:fW C.P t=some ag) (hs:bQ C.P t=some s)
  (hag:(ag||Nat.beq s 1)=true) (hp:ev f x'= .ptr b g off) (hk:μ[b]?=some k) (hz:k.sz≠0) (hg:g=k.gen) (hl:off+s≤k.cells.length) (hf:Reads w S γ f a (.load x' s ag)):cq C w0 o a S γ (cS k.cells off s ag) μ w:=by
 have k1:=aO (w:=w) (S:=S) (γ:=γ) hx fun t ht=>hf t (by simpa [tmpsOf]using ht)
 rw[hp]at k1;obtain⟨e,cs,he,hgen,-,⟨_,hheap,-⟩,hcs,hlen,hcells,-⟩:=hW.mem.blk b k hk hz;have hxv:a.eval x= .pointer (some ⟨e.cb,off,none⟩):=by
  generalize a.eval x=xv at k1;cases k1 with
  |ptr _ _ _ _ e' ad hb hg' hv hs' =>
   rw[he]at hb;injection hb with hb;subst hb
   exact hs' (by omega)
 have hcell:∀j,j<s→w.cell? ⟨e.cb,off+j,none⟩=some (cs.getD (off+j) undef):=fun j hj=>by
  obtain⟨v,hv,-⟩:=hcells (off+j) _ (List.getElem?_eq_getElem (by omega));simp[World.cell?,hheap,hv]
 have hr:=jz (C:=C) ha hs hag hcell;refine .same hW (u:=bif ag then .agg ((List.range s).map fun j=>cs.getD (off+j) undef).toArray else cs.getD off undef) ?_ ?_
 ·simp only[execOp,ho,hxv,Instr.loadAt,Instr.sureAddr,Sem.run_bind,Sem.run_pure,Result.andThen_ok,hr,Nat.add_zero]
 cases ag with
 |true =>
  refine jN ⟨by simp;omega,fun i p v h1 h2=>?_⟩;obtain⟨hi,rfl⟩:=dY h2;rw[List.getElem?_take,if_pos hi,List.getElem?_drop]at h1;obtain⟨v,hv,hvr,-⟩:=hcells _ p h1;simp only[Array.getD_eq_getD_getElem?,hv,Option.getD_some];exact hvr
 |false =>
  have hs1:s=1:=by simpa using hag
  subst hs1;show VR w S γ (k.cells.getD off .any) _;rw[List.getD,List.getElem?_eq_getElem (by omega)];obtain⟨v,hv,hvr,-⟩:=hcells off _ (List.getElem?_eq_getElem (by omega));simp only[Array.getD_eq_getD_getElem?,hv,Option.getD_some];exact hvr
theorem qI {v:AV} {u:Value} (h1:(cellsOf v).all cH=true) (h:VR w S γ v u):PW (VR w S γ) (cellsOf v) u.cells.toList∧∀x∈u.cells.toList,x.oneCell'=true:=by
 have one:∀{v:AV} {u:Value},cH v=true→VR w S γ v u→u.oneCell'=true:=by
  intro v u ho hv;cases hv with
  |pv p _ hp =>
   cases hp with
   |val=>cases u<;>first|rfl|(simp[cH]at ho)
   |agg=>simp[cH]at ho
   |tup=>simp[cH]at ho
   |_=>rfl
  |ref=>rename_i h _;rw[h.1];rfl
  |ptr=>rename_i h _;rw[h];rfl
  |iptr=>rfl
  |agg=>simp[cH]at ho
  |tup=>simp[cH]at ho
  |fn=>rfl
  |bm=>rfl
  |map=>rename_i h _;rw[h];rfl
  |ifb=>simp[cH]at ho
  |any=>simp[cH]at ho
 have single:cellsOf v=[v]→PW (VR w S γ) (cellsOf v) u.cells.toList∧∀x∈u.cells.toList,x.oneCell'=true:=by
  intro hc;rw[hc]at h1 ⊢;have h2:cH v=true:=by simpa using h1
  have h3:=one h2 h;have h4:u.cells=#[u]:=by cases u<;>first|rfl|(simp[Value.oneCell']at h3)
  rw[h4];refine⟨⟨rfl,fun i x y hx hy=>?_⟩,fun x hx=>?_⟩
  ·cases i with
   |zero=>simp at hx hy;subst hx hy;exact h
   |succ i=>simp at hx
  simp at hx;subst hx;exact h3
 have many:∀{l:List AV} {cs:List Value},cellsOf v=l→u= .agg cs.toArray→PW (VR w S γ) l cs→PW (VR w S γ) (cellsOf v) u.cells.toList∧∀x∈u.cells.toList,x.oneCell'=true:=by
  intro l cs hc hu hp;subst hu;rw[hc]at h1 ⊢;refine⟨by simpa [Value.cells]using hp,fun x hx=>?_⟩;have hx:x∈cs:=by simpa [Value.cells]using hx
  obtain⟨i,hi⟩:=List.mem_iff_getElem?.mp hx;have hil:i<l.length:=by
   rw[hp.len];exact(List.getElem?_eq_some_iff.mp hi).1
  have h2:=List.getElem?_eq_getElem hil;exact one (List.all_eq_true.mp h1 _ (List.mem_iff_getElem?.mpr ⟨i,h2⟩)) (hp.at_ i _ x h2 hi)
 cases h with
 |pv p _ hp =>
  cases hp with
  |agg l cs hl hat=>exact many (l:=l.map .pv) rfl rfl (PW.iP ⟨hl,hat⟩)
  |_=>exact single rfl
 |agg l cs hl hat=>exact many (l:=l) rfl rfl ⟨hl,hat⟩
 |ref=>exact single rfl
 |ptr=>exact single rfl
 |iptr=>exact single rfl
 |tup=>exact single rfl
 |fn=>exact single rfl
 |bm=>exact single rfl
 |map=>exact single rfl
 |ifb=>exact single rfl
 |any=>exact single rfl
theorem mq:∀(cs l:List AV) (off:Nat),off+cs.length≤l.length→∀i,(setAt l off cs)[i]?=if off≤i∧i<off+cs.length then cs[i-off]? else l[i]?
 |[],l,off,_,i=>by
  simp only[setAt,List.length_nil,Nat.add_zero];rw[if_neg (by omega)]
 |v::r,l,off,h,i=>by
  simp only[List.length_cons]at h;rw[setAt,mq r (l.set off v) (off+1) (by rw[List.length_set];omega) i];by_cases h1:off=i
  ·subst h1;rw[if_neg (by omega),if_pos (by simp)];simp[List.getElem?_set];omega
  by_cases h2:off+1≤i∧i<off+1+r.length
  ·rw[if_pos h2,if_pos (by simp only[List.length_cons];omega)];rw[show i-off=(i-(off+1))+1 by omega,List.getElem?_cons_succ]
  rw[if_neg h2,if_neg (by simp only[List.length_cons];omega),List.getElem?_set_ne h1]
theorem fJ:∀(cs l:List AV) (off:Nat),(setAt l off cs).length=l.length
 |[],l,off=>rfl
 |v::r,l,off=>by rw[setAt,fJ r,List.length_set]
end
end
section
section
variable {C:Ctx} {w0 w:World} {S:Nat→Prop} {γ:Gh} {μ:AM} {f:AF} {a:Act} {o:Oper}
theorem Wd.write (hW:Wd C w0 S γ μ w) {b:Nat} {k:dI} {e:sO} {cs:Array Value} (hk:μ[b]?=some k) (he:γ b=some e) (hheap:w.heap[e.cb]?=some (.cells cs k.elem (0,0))) (hcs:cs.size=e.cap)
  (hz:k.sz≠0) (hfz:k.frozen=false) {avs:List AV} {ncs:Array Value} (hn:ncs.size=cs.size) (hlen:avs.length≤ncs.size)
  (hv:∀(i:Nat) x,avs[i]?=some x→∃v,ncs[i]?=some v∧VR w S γ x v∧v.oneCell'=true) :
  Wd C w0 S γ (μ.set b {k with cells:=avs}) (w.setRow e.cb ncs)∧Ext w S γ (w.setRow e.cb ncs) S γ:=by
 obtain⟨e',cs',he',hgen,hsz,hheap',hcs',hlen',hcells,hB,hS⟩:=hW.mem.blk b k hk hz;rw[he]at he';injection he' with he';subst he'
 have hE:Ext w S γ (w.setRow e.cb ncs) S γ:=⟨⟨fun _ h=>h,fun g hg=>setRow_other w e.cb g ncs (fun h=>hS hfz (h▸hg))⟩,fun b e h=>⟨e,h,Nat.le_refl _,fun _=>rfl⟩,fun _ h=>.inl h,fun b e h=>.inl ⟨b,e,h,rfl⟩,by simp,fun g _ hn=>setRow_other w e.cb g ncs (fun h=>hn b e he h.symm)⟩
 refine⟨⟨⟨fun b' k' hk' hz'=>?_,fun b' k' hk' hz'=>?_,fun b' hb'=>hW.mem.none b' (by simpa using hb'),hW.mem.inj⟩,?_,fun g hg=>by have:=hW.live g hg;simpa using this,hW.env⟩,hE⟩
 ·by_cases hbb:b=b'
  ·subst hbb;have hbl:b<μ.length:=(List.getElem?_eq_some_iff.mp hk).1;rw[List.getElem?_set_self hbl]at hk';injection hk' with hk'
   subst hk';exact⟨e,ncs,he,hgen,hsz,.of (setRow_heap w e.cb cs ncs k.elem (0,0) hheap),hn.trans hcs,by show avs.length≤_;omega,fun i x hx=>by
    obtain⟨v,h1,h2,h3⟩:=hv i x hx;exact⟨v,h1,h2.ext hE,h3⟩,hB,fun h=>hS h⟩
  rw[List.getElem?_set_ne hbb]at hk';obtain⟨e2,cs2,h1,h2,h3,h4,h5,h6,h7,h8,h9⟩:=hW.mem.blk b' k' hk' hz';have hne:e2.cb≠e.cb:=fun h=>hbb (hW.mem.inj b b' e e2 he h1 h.symm)
  exact⟨e2,cs2,h1,h2,h3,h4.congr (setRow_other w e.cb e2.cb ncs hne) rfl id,h5,h6,fun i x hx=>by
   obtain⟨v,g1,g2,g3⟩:=h7 i x hx;exact⟨v,g1,g2.ext hE,g3⟩,h8,h9⟩
 ·have hbb:b≠b':=fun h=>by
   subst h;have hbl:b<μ.length:=(List.getElem?_eq_some_iff.mp hk).1;rw[List.getElem?_set_self hbl]at hk';injection hk' with hk'
   subst hk';exact hz hz'
  rw[List.getElem?_set_ne hbb]at hk';obtain⟨e2,h1,h2,h3,h4,h5,h6⟩:=hW.mem.mp b' k' hk' hz';have hne:e2.cb≠e.cb:=fun h=>hbb (hW.mem.inj b b' e e2 he h1 h.symm)
  exact⟨e2,h1,h2,h3,h4.ext hE (setRow_other w e.cb e2.cb ncs hne),h5,h6⟩
 refine hW.below.trans ⟨rfl,rfl,rfl,by simp,fun g hg=>setRow_other w e.cb g ncs (by omega)⟩
def eM (γ:Gh) (n:Nat) (e:sO):Gh:=fun b=>if b=n then some e else γ b
theorem Wd.HP (hW:Wd C w0 S γ μ w) {avs:List AV} {cs:List Value} {elem:TypeId} (sz:Nat) (hz:sz≠0) (hlen:avs.length≤cs.length) (hv:∀(i:Nat) x,avs[i]?=some x→∃v,cs[i]?=some v∧VR w S γ x v∧v.oneCell'=true) :
  Wd C w0 S (eM γ μ.length ⟨0,w.heap.size,cs.length,sz⟩) (μ++[⟨avs,0,sz,elem,false⟩]) (w.alloc (.cells cs.toArray elem)) ∧
  Ext w S γ (w.alloc (.cells cs.toArray elem)) S (eM γ μ.length ⟨0,w.heap.size,cs.length,sz⟩):=by
 have hlt:∀b e,γ b=some e→b<μ.length:=fun b e h=>by
  apply Classical.byContradiction;intro hn;rw[hW.mem.none b (by omega)]at h;cases h
 have hold:∀b e,γ b=some e→eM γ μ.length ⟨0,w.heap.size,cs.length,sz⟩ b=some e:=fun b e h=>by
  have:=hlt b e h;simp[eM,h];omega
 have hnew:eM γ μ.length ⟨0,w.heap.size,cs.length,sz⟩ μ.length=some ⟨0,w.heap.size,cs.length,sz⟩:=by simp[eM]
 have hE:Ext w S γ (w.alloc (.cells cs.toArray elem)) S (eM γ μ.length ⟨0,w.heap.size,cs.length,sz⟩) :=
  ⟨⟨fun _ h=>h,fun g hg=>Below.heap_alloc w _ g (hW.live g hg)⟩,fun b e h=>⟨e,hold b e h,Nat.le_refl _,fun _=>rfl⟩,fun _ h=>.inl h,fun b e h=>by
   unfold eM at h;split at h
   ·injection h with h;subst h;exact .inr (Nat.le_refl _)
   exact .inl ⟨b,e,h,rfl⟩,by simp,fun g hg _=>Below.heap_alloc w _ g hg⟩
 have hcb:∀b e,γ b=some e→e.cb<w.heap.size:=fun b e h=>by
  have hb:=hlt b e h;obtain⟨e2,g1,-,-,g4,-⟩:=hW.mem.Aa (List.getElem?_eq_getElem hb);rw[h]at g1;injection g1 with g1;subst g1
  exact g4
 refine⟨⟨⟨fun b k hk hkz=>?_,fun b k hk hkz=>?_,fun b hb=>?_,fun b b' e e' hb hb' hcc=>?_⟩,hW.below.alloc hW.below.size _,fun g hg=>by have:=hW.live g hg;simp;omega,hW.env⟩,hE⟩
 ·by_cases hbn:b<μ.length
  ·rw[List.getElem?_append_left hbn]at hk;obtain⟨e2,cs2,g1,g2,g3,g4,g5,g6,g7,g8,g9⟩:=hW.mem.blk b k hk hkz;refine⟨e2,cs2,hold b e2 g1,g2,g3,g4.congr (Below.heap_alloc w _ _ (hcb b e2 g1)) rfl id,g5,g6,fun i x hx=>?_,g8,g9⟩;obtain⟨v,k1,k2,k3⟩:=g7 i x hx;exact⟨v,k1,k2.ext hE,k3⟩
  rw[List.getElem?_append_right (by omega)]at hk;have hb0:b=μ.length:=by
   have:=(List.getElem?_eq_some_iff.mp hk).1;simp at this;omega
  subst hb0;simp at hk;subst hk;refine⟨_,cs.toArray,hnew,rfl,rfl,.of (heap_alloc_new w _),by simp,hlen,fun i x hx=>?_,hW.below.size,fun _ hS=>?_⟩
  ·obtain⟨v,g1,g2,g3⟩:=hv i x hx;exact⟨v,by rw[List.getElem?_toArray];exact g1,g2.ext hE,g3⟩
  have:=hW.live _ hS;simp at this
 ·by_cases hbn:b<μ.length
  ·rw[List.getElem?_append_left hbn]at hk;obtain⟨e2,g1,g2,g3,g4,g5,g6⟩:=hW.mem.mp b k hk hkz;exact⟨e2,hold b e2 g1,g2,g3,g4.ext hE (Below.heap_alloc w _ _ (hcb b e2 g1)),g5,g6⟩
  rw[List.getElem?_append_right (by omega)]at hk;have hb0:b=μ.length:=by
   have:=(List.getElem?_eq_some_iff.mp hk).1;simp at this;omega
  subst hb0;simp at hk;subst hk;exact absurd hkz hz
 ·have:b≠μ.length:=by simp at hb;omega
  simp only[eM,if_neg this];exact hW.mem.none b (by simp at hb;omega)
 unfold eM at hb hb';by_cases h1:b=μ.length<;>by_cases h2:b'=μ.length
 ·omega
 ·rw[if_pos h1]at hb;rw[if_neg h2]at hb';injection hb with hb
  have:=hcb b' e' hb';rw[←hcc,←hb]at this;simp at this
 ·rw[if_neg h1]at hb;rw[if_pos h2]at hb';injection hb' with hb'
  have:=hcb b e hb;rw[hcc,←hb']at this;simp at this
 rw[if_neg h1]at hb;rw[if_neg h2]at hb';exact hW.mem.inj b b' e e' hb hb' hcc
theorem Wd.new (hW:Wd C w0 S γ μ w) {avs:List AV} {cs:List Value} {elem:TypeId} (sz:Nat) (hz:sz≠0) (hp:PW (VR w S γ) avs cs) (h1:∀x∈cs,x.oneCell'=true) :
  Wd C w0 S (eM γ μ.length ⟨0,w.heap.size,cs.length,sz⟩) (μ++[⟨avs,0,sz,elem,false⟩]) (w.alloc (.cells cs.toArray elem)) ∧
  Ext w S γ (w.alloc (.cells cs.toArray elem)) S (eM γ μ.length ⟨0,w.heap.size,cs.length,sz⟩) :=
 hW.HP sz hz (Nat.le_of_eq hp.len) fun i x hx=>by
  have hi:i<cs.length:=by rw[←hp.len];exact(List.getElem?_eq_some_iff.mp hx).1
  exact⟨cs[i],List.getElem?_eq_getElem hi,hp.at_ i x _ hx (List.getElem?_eq_getElem hi),h1 _ (List.getElem_mem hi)⟩
end
end
section
section
variable {C:Ctx} {w0 w:World} {S:Nat→Prop} {γ:Gh} {μ:AM} {f:AF} {a:Act} {o:Oper}
theorem Ad {avs:List AV} {cells:Array Value} {cs:List AV} {u:Value} {off size:Nat} (hp:PW (VR w S γ) avs cells.toList) (hc:PW (VR w S γ) cs u.cells.toList) (hs:cs.length=size) (hl:off+size≤avs.length) :
  ¬(u.cells.size≠size∨off+u.cells.size>cells.size) ∧
  PW (VR w S γ) (setAt avs off cs) (u.cells.zipIdx.foldl (fun cs (x:Value×Nat)=>cs.setIfInBounds (off+x.2) x.1) cells).toList ∧
  (∀(i:Nat) x,(u.cells.zipIdx.foldl (fun cs (x:Value×Nat)=>cs.setIfInBounds (off+x.2) x.1) cells)[i]?=some x→x∈u.cells.toList∨cells[i]?=some x):=by
 have hul:u.cells.size=size:=by have:=hc.len;simp at this;omega
 have hcl:cells.size=avs.length:=by have:=hp.len;simp at this;omega
 have hfold:u.cells.zipIdx.foldl (fun cs (x:Value×Nat)=>cs.setIfInBounds (off+x.2) x.1) cells=(u.cells.toList.zipIdx 0).foldl (fun cs (x:Value×Nat)=>cs.setIfInBounds (off+x.2) x.1) cells:=by
  rw[←Array.foldl_toList,Array.toList_zipIdx]
 obtain⟨h1,h2⟩:=Great.foldl_set off u.cells.toList 0 cells;rw[hfold];refine⟨by omega,⟨(fJ cs avs off).trans (hcl.symm.trans h1.symm),fun i x y hx hy=>?_⟩,fun i x hx=>?_⟩
 ·rw[mq cs avs off (by omega)]at hx;rw[Array.getElem?_toList,h2 i,Array.length_toList,Nat.add_zero]at hy;by_cases hi:off≤i∧i<off+cs.length
  ·rw[if_pos hi]at hx;rw[if_pos (by omega)]at hy;exact hc.at_ _ x y hx hy
  rw[if_neg hi]at hx;rw[if_neg (by omega)]at hy;exact hp.at_ _ x y hx (by rw[Array.getElem?_toList];exact hy)
 rw[h2 i]at hx;split at hx
 ·left;exact List.mem_of_getElem? hx
 right;exact hx
theorem kj {place:Nat→Option (Nat×Nat)}:∀{ps:List (Nat×Operand)} {qs:List (Nat×Nat×cn)},partsOf place ps=some qs→(∀t∈pK qs,VR w S γ (get f t) (a.eval (.tmp t)))→∀{avs avs':List AV} {cells:Array Value},
  PW (VR w S γ) avs cells.toList→gH avs (dT f qs)=some avs'→(∀x∈cells.toList,x.oneCell'=true) →
  ∃cells',Instr.fill place cells (ps.map fun (i,x)=>(i,a.eval x))=some cells'∧PW (VR w S γ) avs' cells'.toList∧cells'.size=cells.size∧(∀x∈cells'.toList,x.oneCell'=true)
 |[],qs,h,_,avs,avs',cells,hp,hf,h1=>by
  simp only[partsOf,Option.some.injEq]at h;subst h;simp only[dT,List.map_nil,gH,Option.some.injEq]at hf;subst hf;exact⟨cells,rfl,hp,rfl,h1⟩
 |(i,x)::r,qs,h,ht,avs,avs',cells,hp,hf,h1=>by
  simp only[partsOf]at h;cases hpl:place i with
  |none=>rw[hpl]at h;cases h
  |some os =>
   obtain⟨off,size⟩:=os;rw[hpl]at h;cases hox:aB x with
   |none=>rw[hox]at h;cases h
   |some y =>
    rw[hox]at h;cases hr:partsOf place r with
    |none=>rw[hr]at h;cases h
    |some qr =>
     rw[hr]at h;simp only[Option.some.injEq]at h;subst h;simp only[dT,List.map_cons,gH]at hf;cases hc:(Nat.beq (cellsOf (ev f y)).length size&&Nat.ble (off+size) avs.length&&(cellsOf (ev f y)).all cH) with
     |false=>rw[hc]at hf;cases hf
     |true =>
      rw[hc,cond_true]at hf;simp only[Bool.and_eq_true]at hc;have hb:=Nat.eq_of_beq_eq_true hc.1.1;have hle:=Nat.le_of_ble_eq_true hc.1.2;have hv:=aO (w:=w) (S:=S) (γ:=γ) (f:=f) (a:=a) hox fun t h=>ht t (by simp[pK,h])
      obtain⟨hcv,hone⟩:=qI hc.2 hv;obtain⟨g1,g2,g3⟩:=Ad hp hcv hb hle;obtain⟨cells',k1,k2,k3,k4⟩:=kj hr (fun t h=>ht t (by simp[pK,h])) g2 hf (fun z hz=>by
       obtain⟨j,hj⟩:=List.mem_iff_getElem?.mp hz;rcases g3 j z (by rw[Array.getElem?_toList]at hj;exact hj) with h|h
       ·exact hone z h
       exact h1 z (List.mem_of_getElem? (by rw[Array.getElem?_toList];exact h)))
      refine⟨cells',?_,k2,?_,k4⟩
      ·simp only[List.map_cons,Instr.fill,hpl];have hg:((decide ((a.eval x).cells.size≠size))||decide (off+(a.eval x).cells.size>cells.size))=false:=by
        rw[Bool.or_eq_false_iff];constructor
        ·rw[decide_eq_false_iff_not];exact fun h=>g1 (.inl h)
        rw[decide_eq_false_iff_not];exact fun h=>g1 (.inr h)
       simp only[hg,Bool.false_eq_true,if_false];exact k1
      rw[k3];have h6:=g2.len;have h7:=fJ (cellsOf (ev f y)) avs off;have h5:=hp.len;exact(h6.symm.trans h7).trans h5
theorem xD {v:Value} {p:PV} (h:oK v=some p):v.oneCell'=true:=by
 unfold oK at h;split at h<;>first|rfl|cases h
theorem eX:∀{l:List Value} {ps:List PV},eS l=some ps→∀x∈l,x.oneCell'=true
 |[],_,_,x,hx=>by cases hx
 |v::r,ps,h,x,hx=>by
  simp only[eS]at h;split at h
  ·rename_i p q hp hq;cases hx with
   |head=>exact xD hp
   |tail _ hx=>exact eX hq x hx
  cases h
theorem gp {t:TypeId} {z:List PV} (h:jw C.P t=some z):∃i v,C.P.info? t=some i∧i.zero=some v∧eS v.cells.toList=some z∧z.length=i.size∧(zeroValue t).run C.P w= .ok v w:=by
 unfold jw at h;cases hi:C.P.info? t with
 |none=>rw[hi]at h;cases h
 |some i =>
  rw[hi]at h;cases hz:i.zero with
  |none=>simp only[hz]at h;cases h
  |some v =>
   simp only[hz]at h;cases hl:eS v.cells.toList with
   |none=>rw[hl]at h;cases h
   |some l =>
    rw[hl]at h;cases hb:Nat.beq l.length i.size with
    |false=>simp only[hb,cond_false]at h;cases h
    |true =>
     simp only[hb,cond_true,Option.some.injEq]at h;subst h;exact⟨i,v,rfl,hz,hl,Nat.eq_of_beq_eq_true hb,by simp[zeroValue,typeInfo,hi,hz]⟩
end
end
section
section
variable {C:Ctx} {w0 w:World} {S:Nat→Prop} {γ:Gh} {μ:AM} {f:AF} {a:Act} {o:Oper}
theorem eV (γ:Gh) (n:Nat) (e:sO):eM γ n e n=some e:=by simp[eM]
theorem vD {t:TypeId} {s off b g:Nat} {k:dI} {x y:Operand} {x' y':cn} (hW:Wd C w0 S γ μ w) (ho:o.op= .store t x y) (hx:aB x=some x') (hy:aB y=some y') (hs:bQ C.P t=some s)
  (hp:ev f x'= .ptr b g off) (hk:μ[b]?=some k) (hz:k.sz≠0) (hfz:k.frozen=false) (hlen:(cellsOf (ev f y')).length=s) (hone:(cellsOf (ev f y')).all cH=true) (hg:g=k.gen) (hl:off+s≤k.cells.length)
  (hf:Reads w S γ f a (.store x' y' s)):cq C w0 o a S γ .any (μ.set b {k with cells:=setAt k.cells off (cellsOf (ev f y'))}) w:=by
 have k1:=aO (w:=w) (S:=S) (γ:=γ) hx fun t ht=>hf t (by simp[tmpsOf,ht])
 have k2:=aO (w:=w) (S:=S) (γ:=γ) hy fun t ht=>hf t (by simp[tmpsOf,ht])
 rw[hp]at k1;obtain⟨hcv,hone'⟩:=qI hone k2;obtain⟨e,cs,he,hgen,-,hheap,hcs,hkl,hcells,-⟩:=hW.mem.blk b k hk hz;replace hheap:=hheap.free hfz;have hxv:a.eval x= .pointer (some ⟨e.cb,off,none⟩):=by
  generalize a.eval x=xv at k1;cases k1 with
  |ptr _ _ _ _ e' ad hb hg' hv hs' =>
   rw[he]at hb;injection hb with hb;subst hb
   exact hs' (by omega)
 have hul:(a.eval y).cells.toList.length=s:=by rw[←hcv.len];exact hlen
 have hst:=run_storeCells_at C.P e.cb off k.elem (a.eval y).cells.toList 0 cs w hheap (by rw[hul];omega) hone';rw[Nat.add_zero,hul]at hst;generalize hnc:(cs.toList.take off++(a.eval y).cells.toList++cs.toList.drop (off+s)).toArray=ncs at hst;have hncs:ncs.size=cs.size:=by
  rw[←hnc];simp only[List.size_toArray,List.length_append,List.length_take,List.length_drop,Array.length_toList,hul];omega
 have hget:∀i:Nat,ncs[i]?=if off≤i∧i<off+s then (a.eval y).cells.toList[i-off]? else cs[i]?:=fun i=>by
  rw[←hnc,List.getElem?_toArray];by_cases h1:i<off
  ·rw[if_neg (by omega),List.append_assoc,List.getElem?_append_left (by simp;omega),List.getElem?_take,if_pos h1,Array.getElem?_toList]
  by_cases h2:i<off+s
  ·rw[if_pos ⟨by omega,h2⟩,List.getElem?_append_left (by simp only[List.length_append,List.length_take,Array.length_toList,hul];omega),List.getElem?_append_right (by simp;omega)];congr 1;simp;omega
  rw[if_neg (by omega),List.getElem?_append_right (by simp only[List.length_append,List.length_take,Array.length_toList,hul];omega),List.getElem?_drop,Array.getElem?_toList];congr 1;simp only[List.length_append,List.length_take,Array.length_toList,hul];omega
 obtain⟨hW',hE⟩:=hW.write (avs:=setAt k.cells off (cellsOf (ev f y'))) (ncs:=ncs) hk he hheap hcs hz hfz hncs (by rw[fJ];omega) fun i z hz=>by
  rw[mq _ _ _ (by omega)]at hz;rw[hget i];by_cases hi:off≤i∧i<off+s
  ·rw[if_pos (by omega)]at hz;rw[if_pos hi];have hil:i-off<(a.eval y).cells.toList.length:=by omega
   exact⟨_,List.getElem?_eq_getElem hil,hcv.at_ _ z _ hz (List.getElem?_eq_getElem hil),hone' _ (List.getElem_mem hil)⟩
  rw[if_neg (by omega)]at hz;rw[if_neg hi];exact hcells i z hz
 refine⟨.skip,undef,_,S,γ,?_,.inr ⟨rfl,rfl⟩,hE,hW',.any _⟩;have hsz:¬((a.eval y).cells.size≠s):=by simp at hul;omega
 simp only[execOp,ho,hxv,Instr.storeAt,Instr.sureAddr,storeVar,Sem.run_bind,Sem.run_pure,Result.andThen_ok,dc hs,hsz,if_false,hst]
theorem vE {e:TypeId} {z:List PV} (hW:Wd C w0 S γ μ w) (ho:o.op= .alloc e) (hz:jw C.P e=some z) (hz0:z.length≠0) :
  cq C w0 o a S γ (.ptr μ.length 0 0) (μ++[⟨z.map .pv,0,z.length,e,false⟩]) w:=by
 obtain⟨i,v,hi,hv,hl,hlen,hr⟩:=gp (w:=w) hz;have hp:PW (VR w S γ) (z.map .pv) v.cells.toList:=PW.iP (dN hl);obtain⟨hW',hE⟩:=hW.new (elem:=e) z.length hz0 hp (eX hl);refine⟨.value (.pointer (some ⟨w.heap.size,0,none⟩)),_,_,S,_,?_,.inl rfl,hE,hW',.ptr _ _ _ _ _ ⟨w.heap.size,0,none⟩ (eV _ _ _) (Nat.le_refl _) rfl fun _=>rfl⟩;simp[execOp,ho,Instr.alloc,hr,newVar,newRow]
theorem Ae {e:TypeId} {x:Operand} {x':cn} {s:Nat} (hW:Wd C w0 S γ μ w) (ho:o.op= .box e x) (hx:aB x=some x') (hs0:s≠0) (hone:(cellsOf (ev f x')).all cH=true) (hf:Reads w S γ f a (.box e x' s)) :
  cq C w0 o a S γ (.ptr μ.length 0 0) (μ++[⟨cellsOf (ev f x'),0,s,e,false⟩]) w:=by
 have k1:=aO (w:=w) (S:=S) (γ:=γ) hx fun t ht=>hf t (by simpa [tmpsOf]using ht)
 obtain⟨hcv,hone'⟩:=qI hone k1;obtain⟨hW',hE⟩:=hW.new (elem:=e) s hs0 hcv hone';refine⟨.value (.pointer (some ⟨w.heap.size,0,none⟩)),_,_,S,_,?_,.inl rfl,hE,hW',.ptr _ _ _ _ _ ⟨w.heap.size,0,none⟩ (eV _ _ _) (Nat.le_refl _) rfl fun _=>rfl⟩;simp[execOp,ho,Instr.box,newVar,newRow]
theorem run_places:∀(l:List Field) (qs:List (Nat×Nat)),ki C.P l=some qs →
  (l.mapM (fun f=>(do pure (f.offset,←sizeOf f.type):Sem (Nat×Nat)))).run C.P w= .ok qs w
 |[],qs,h=>by simp[ki]at h;subst h;simp
 |x::r,qs,h=>by
  simp only[ki]at h;cases hs:bQ C.P x.type with
  |none=>rw[hs]at h;cases h
  |some s =>
   rw[hs]at h;cases hr:ki C.P r with
   |none=>rw[hr]at h;cases h
   |some q =>
    rw[hr]at h;simp only[Option.some.injEq]at h;subst h;have ih:=run_places r q hr;simp only[List.mapM_cons,Sem.run_bind,dc hs,Result.andThen_ok,Sem.run_pure,ih]
theorem oN (a:Act) (parts:Array (Nat×Operand)):(parts.map fun ((i,x):Nat×Operand)=>(i,a.eval x)).toList=parts.toList.map fun (i,x)=>(i,a.eval x):=by simp
theorem mP {t:TypeId} {fs:Array Field} {z:List PV} {qs:List (Nat×Nat)} {parts:Array (Nat×Operand)} {parts':List (Nat×Nat×cn)} {cs:List AV} (hW:Wd C w0 S γ μ w) (ho:o.op= .build t parts)
  (hu:C.P.underlying t=some (.struct fs)) (hz:jw C.P t=some z) (hq:ki C.P fs.toList=some qs) (hps:partsOf (fun i=>qs[i]?) parts.toList=some parts') (hfill:gH (z.map .pv) (dT f parts')=some cs)
  (hf:Reads w S γ f a (.build z parts')):cq C w0 o a S γ (ia cs) μ w:=by
 obtain⟨i,v,hi,hv,hl,hlen,hr⟩:=gp (w:=w) hz;have hp:PW (VR w S γ) (z.map .pv) v.cells.toList:=PW.iP (dN hl);obtain⟨cells',h1,h2,-,-⟩:=kj (a:=a) hps (fun t ht=>hf t ht) hp hfill (eX hl);have:=jN h2;refine .same hW (u:=.agg cells') ?_ (by simpa using this);have hpl:=run_places (C:=C) (w:=w) fs.toList qs hq;simp only[execOp,ho,Instr.build,Sem.run_bind,hr,Result.andThen_ok,run_underlying hu,Array.mapM_eq_mapM_toList,Sem.run_map,hpl,oN,List.getElem?_toArray,h1,Sem.run_pure]
theorem nL {t e:TypeId} {n s:Nat} {z:List PV} {parts:Array (Nat×Operand)} {parts':List (Nat×Nat×cn)} {cs:List AV} (hW:Wd C w0 S γ μ w) (ho:o.op= .build t parts)
  (hu:C.P.underlying t=some (.array n e)) (hz:jw C.P t=some z) (hs:bQ C.P e=some s) (hps:partsOf (fun i=>some (i*s,s)) parts.toList=some parts') (hfill:gH (z.map .pv) (dT f parts')=some cs)
  (hf:Reads w S γ f a (.build z parts')):cq C w0 o a S γ (ia cs) μ w:=by
 obtain⟨i,v,hi,hv,hl,hlen,hr⟩:=gp (w:=w) hz;have hp:PW (VR w S γ) (z.map .pv) v.cells.toList:=PW.iP (dN hl);obtain⟨cells',h1,h2,-,-⟩:=kj (a:=a) hps (fun t ht=>hf t ht) hp hfill (eX hl);have:=jN h2;refine .same hW (u:=.agg cells') ?_ (by simpa using this);simp only[execOp,ho,Instr.build,Sem.run_bind,hr,Result.andThen_ok,run_underlying hu,dc hs,oN,h1,Sem.run_pure]
theorem kl (z:List PV):∀n,(cj z n).length=n*z.length
 |0=>by simp[cj]
 |n+1=>by rw[cj,List.length_append,kl z n,Nat.succ_mul,Nat.add_comm]
theorem tm (z:List PV) (hz:0<z.length):∀(n i:Nat),i<n*z.length→(cj z n)[i]?=z[i % z.length]?
 |0,i,h=>by omega
 |n+1,i,h=>by
  rw[cj];by_cases hi:i<z.length
  ·rw[List.getElem?_append_left hi,Nat.mod_eq_of_lt hi]
  rw[List.getElem?_append_right (by omega),tm z hz n _ (by rw[Nat.succ_mul]at h;omega)];congr 1;rw[Nat.mod_eq_sub_mod (a:=i) (by omega)]
theorem qJ {z:List PV} {cs:Array Value} (hp:PW (Is w S) z cs.toList) (h0:0<z.length) (n:Nat) :
  PW (Is w S) (cj z n) ((Array.range (n*z.length)).map (cs[· % cs.size]!)).toList:=by
 have hl:cs.size=z.length:=by have:=hp.len;simp at this;omega
 refine⟨by simp[kl],fun i p v h1 h2=>?_⟩;have hi:i<n*z.length:=by rw[←kl];exact(List.getElem?_eq_some_iff.mp h1).1
 rw[tm z h0 n i hi]at h1;have hm:i % z.length<z.length:=Nat.mod_lt _ h0;refine hp.at_ (i % z.length) p v h1 ?_;simp[hi,hl]at h2;rw[Array.getElem?_toList,←h2,getElem!_pos cs _ (by omega)];simp[hm,hl]
theorem Af {t e:TypeId} {s len:Nat} {z:List PV} {own:Bool} {parts:Array (Nat×Operand)} {parts':List (Nat×Nat×cn)} {cs:List AV} (hW:Wd C w0 S γ μ w) (ho:o.op= .buildSlice t len parts)
  (hu:C.P.underlying t=some (.slice e)) (hs:bQ C.P e=some s) (hz:jw C.P e=some z) (hsmall:len*s≤16777216) (h1s:1≤s) (hlen0:0<len) (hps:partsOf (fun i=>some (i*s,s)) parts.toList=some parts')
  (hfill:gH ((cj z len).map .pv) (dT f parts')=some cs) (hf:Reads w S γ f a (.lit own e s len z parts')) :
  cq C w0 o a S γ (.ref μ.length 0 0 len) (μ++[⟨cs,0,s,e,false⟩]) w∧(∀ps,cG cs=some ps→cq C w0 o a S γ (.pv (.sl len ps)) μ w):=by
 obtain⟨i,v,hi,hv,hl,hlen,hr⟩:=gp (w:=w) hz;have his:i.size=s:=by simpa [bQ,hi]using hs
 have hzl:z.length=s:=by rw[hlen,his]
 have hp0:PW (Is w S) z v.cells.toList:=dN hl;have hp:=qJ hp0 (by omega) len;have hone:∀x∈((Array.range (len*z.length)).map (v.cells[· % v.cells.size]!)).toList,x.oneCell'=true:=fun x hx=>by
  obtain⟨j,hj⟩:=List.mem_iff_getElem?.mp hx;have hvs:v.cells.size=z.length:=by have:=hp0.len;simp at this;omega
  have hjl:j<len*z.length:=by have:=(List.getElem?_eq_some_iff.mp hj).1;simpa using this
  simp[hjl]at hj;refine eX hl x ?_;have hm:j % v.cells.size<v.cells.size:=Nat.mod_lt _ (by omega);rw[←hj,getElem!_pos v.cells _ hm];exact Array.getElem_mem_toList hm
 obtain⟨cells',g1,g2,g3,g4⟩:=kj (a:=a) hps (fun t ht=>hf t ht) hp.iP hfill hone;have hcl:cells'.size=len*s:=by rw[g3];simp[hzl]
 have hrun:=run_buildSlice (P:=C.P) w t e len (parts.map fun (i,x)=>(i,a.eval x)) cells' i v hu hi hv (by rw[his];omega) (by rw[his];exact Nat.mul_ne_zero (by omega) (by omega)) (by
  rw[oN,his,←hzl];rw[hzl];rw[hzl]at g1;exact g1)
 have hex:(execOp a.eval o).run C.P w= .ok (.value (.slice (some ⟨w.heap.size,0,none⟩) len len)) (w.alloc (.cells cells' e)):=by
  simp only[execOp,ho,Sem.run_bind,hrun,Result.andThen_ok,Sem.run_pure]
 have hml:len≤maxLen:=by
  have:=Nat.le_mul_of_pos_right len h1s;simp only[maxLen];omega
 refine⟨?_,fun ps hpl=>?_⟩
 ·obtain⟨hW',hE⟩:=hW.new (elem:=e) s (by omega) g2 g4;rw[Array.toArray_toList]at hW' hE;refine⟨_,_,_,S,_,hex,.inl rfl,hE,hW',.ref _ _ _ _ _ _ ⟨w.heap.size,0,none⟩ len (eV _ _ _) (Nat.le_refl _) ⟨rfl,Nat.le_refl _⟩ fun _=>.inl ⟨len,rfl,?_,Nat.le_refl _,hml⟩⟩;show 0+len*s=cells'.toList.length;rw[Array.length_toList,hcl];omega
 have hcs:=gm hpl;subst hcs;have hE:Ext w S γ (w.alloc (.cells cells' e)) (fun g=>S g∨g=w.heap.size) γ:=⟨⟨fun _ h=>.inl h,fun g hg=>Below.heap_alloc w _ g (hW.live g hg)⟩,fun b e h=>⟨e,h,Nat.le_refl _,fun _=>rfl⟩,fun g h=>h.elim .inl fun h=>.inr (.inr (Nat.le_of_eq h.symm)),fun b e h=>.inl ⟨b,e,h,rfl⟩,by simp,fun g hg _=>Below.heap_alloc w _ g hg⟩
 refine⟨_,_,_,_,γ,hex,.inl rfl,hE,⟨hW.mem.stay hE.z (fun b e _ hl=>Below.heap_alloc w _ _ hl) (fun b k e _ _ hl _ hn h=>h.elim hn fun h=>by omega),hW.below.alloc hW.below.size _,fun g hg=>?_,hW.env⟩,.pv _ _ (.sl _ _ w.heap.size 0 len (fun i=>cells'.getD i undef) (.inr rfl) (Nat.le_refl _) hml ?_ ?_ ?_)⟩
 ·rcases hg with h|h
  ·have:=hW.live g h;simp;omega
  simp[h]
 ·intro i p hp';have hil:i<cells'.size:=by
   have h5:=g2.len;simp at h5;have:=(List.getElem?_eq_some_iff.mp hp').1;omega
  rw[Nat.zero_add,World.cell?,heap_alloc_new];simp[hil]
 ·intro i p hp';have hil:i<cells'.size:=by
   have h5:=g2.len;simp at h5;have:=(List.getElem?_eq_some_iff.mp hp').1;omega
  simp only[Array.getD_eq_getD_getElem?,Array.getElem?_eq_getElem hil,Option.getD_some];exact g4 _ (Array.getElem_mem_toList hil)
 intro i p hp';have hil:i<cells'.size:=by
  have h5:=g2.len;simp at h5;have:=(List.getElem?_eq_some_iff.mp hp').1;omega
 have:=(PW.mo g2).at_ i p cells'[i] hp' (by simp[hil]);have h6:=this.stay hE.stay;simpa [hil]using h6
theorem Ag {t:TypeId} {x:Operand} {x':cn} (hW:Wd C w0 S γ μ w) (ho:o.op= .makeInterface t x) (hc:C.P.concrete t=true) (hx:aB x=some x') (hv:ev f x'= .pv (.agg [])) (hf:Reads w S γ f a (.mkI t x')) :
  cq C w0 o a S γ (.pv (.val (.iface t (.agg #[])))) μ w:=by
 have g1:=aO (w:=w) (S:=S) (γ:=γ) hx fun t ht=>hf t (by simpa [tmpsOf]using ht)
 rw[hv]at g1;have g1:=cB g1;generalize hxe:a.eval x=xv at g1;cases g1 with
 |agg _ cs hlen hat =>
  have hcs:cs=[]:=List.eq_nil_of_length_eq_zero (by simpa using hlen.symm);subst hcs;refine⟨.value (.iface t (.agg #[])),_,w,S,γ,?_,.inl rfl,Ext.refl _ _ _,hW,.pv _ _ (.val _)⟩;simp only[execOp,ho,hxe,Sem.run_bind,run_makeInterface w t _ hc,Result.andThen_ok,Sem.run_pure]
theorem xE {t e:TypeId} {s t0:Nat} {z:List PV} {l c:Operand} {x:Int} (hW:Wd C w0 S γ μ w) (ho:o.op= .makeSlice t l c) (hu:C.P.underlying t=some (.slice e)) (hl:aB l=some (.t t0)) (hc:aB c=some (.t t0))
  (hb:ud C.P e=true) (hs:bQ C.P e=some s) (hz:jw C.P e=some z) (hs0:s≠0) (hx:ev f (.t t0)= .pv (.int .i64 x)) (h0:0≤x) (h1:x≤1000000) (hf:Reads w S γ f a (.mkSl e s z (.t t0))) :
  cq C w0 o a S γ (.ref μ.length 0 0 x.toNat) (μ++[⟨(cj z x.toNat).map .pv,0,s,e,false⟩]) w:=by
 have g1:=aO (w:=w) (S:=S) (γ:=γ) hl fun t ht=>hf t (by simpa [tmpsOf]using ht)
 have g2:=aO (w:=w) (S:=S) (γ:=γ) hc fun t ht=>hf t (by simpa [tmpsOf]using ht)
 rw[hx]at g1 g2;have g1:=dU g1;have g2:=dU g2;obtain⟨i,v,hi,hv,hl,hlen,hr⟩:=gp (w:=w) hz;have his:i.size=s:=by simpa [bQ,hi]using hs
 have hzl:z.length=s:=by rw[hlen,his]
 have hby:i.bytes≤65536:=by simpa [ud,hi]using hb
 have hp0:PW (Is w S) z v.cells.toList:=dN hl;have hp:=qJ hp0 (by omega) x.toNat;have hone:∀y∈((Array.range (x.toNat*z.length)).map (v.cells[· % v.cells.size]!)).toList,y.oneCell'=true:=fun y hy=>by
  obtain⟨j,hj⟩:=List.mem_iff_getElem?.mp hy;have hvs:v.cells.size=z.length:=by have:=hp0.len;simp at this;omega
  have hjl:j<x.toNat*z.length:=by have:=(List.getElem?_eq_some_iff.mp hj).1;simpa using this
  simp[hjl]at hj;refine eX hl y ?_;have hm:j % v.cells.size<v.cells.size:=Nat.mod_lt _ (by omega);rw[←hj,getElem!_pos v.cells _ hm];exact Array.getElem_mem_toList hm
 have hbx:(i.bytes:Int)*x≤281474976710656:=by
  have h3:(i.bytes:Int)*x≤65536*x:=Int.mul_le_mul_of_nonneg_right (by omega) h0;omega
 have hrun:=run_make (P:=C.P) w t e i v hu hi hv .i64 .i64 x x h0 (Int.le_refl _) hbx (by omega);have hmc:madeCells v.cells (x.toNat*i.size)=(Array.range (x.toNat*z.length)).map (v.cells[· % v.cells.size]!):=by rw[madeCells,his,hzl]
 rw[hmc]at hrun;have hex:(execOp a.eval o).run C.P w= .ok (.value (.slice (some ⟨w.heap.size,0,none⟩) x.toNat x.toNat)) (w.alloc (.cells ((Array.range (x.toNat*z.length)).map (v.cells[· % v.cells.size]!)) e)):=by
  simp only[execOp,ho,g1,g2,Sem.run_bind,hrun,Result.andThen_ok,Sem.run_pure]
 have hml:x.toNat≤maxLen:=by simp only[maxLen];omega
 obtain⟨hW',hE⟩:=hW.new (elem:=e) s hs0 (PW.iP hp) hone;rw[Array.toArray_toList]at hW' hE;refine⟨_,_,_,S,_,hex,.inl rfl,hE,hW',.ref _ _ _ _ _ _ ⟨w.heap.size,0,none⟩ x.toNat (eV _ _ _) (Nat.le_refl _) ⟨rfl,Nat.le_refl _⟩ fun _=>.inl ⟨x.toNat,rfl,?_,Nat.le_refl _,hml⟩⟩;show 0+x.toNat*s=_;simp[hzl]
theorem xF {t e:TypeId} {s:Nat} {parts:Array (Nat×Operand)} (hs0:s≠0) (hW:Wd C w0 S γ μ w) (ho:o.op= .buildSlice t 0 parts) (hp:parts=#[])
  (hu:C.P.underlying t=some (.slice e)) (hs:bQ C.P e=some s) :
  cq C w0 o a S γ (.ref μ.length 0 0 0) (μ++[⟨[],0,s,e,false⟩]) w∧cq C w0 o a S γ (.pv (.sl 0 [])) μ w:=by
 subst hp;have hex:(execOp a.eval o).run C.P w= .ok (.value (.slice (some ⟨w.heap.size,0,none⟩) 0 0)) (w.alloc (.cells #[] e)):=by
  simp[execOp,ho,Instr.buildSlice,run_underlying hu,dc hs,Instr.fill,newRow];rw[show Array.map (fun _=>(default:Value)) (Array.range 0)=#[] from Array.eq_empty_of_size_eq_zero (by simp)]
 refine⟨?_,?_⟩
 ·obtain⟨hW',hE⟩:=hW.new (elem:=e) s hs0 (avs:=[]) (cs:=[]) ⟨rfl,fun i x y h=>by simp at h⟩ (fun x hx=>by simp at hx);refine⟨_,_,_,S,_,hex,.inl rfl,hE,hW',.ref _ _ _ _ _ _ ⟨w.heap.size,0,none⟩ 0 (eV _ _ _) (Nat.le_refl _) ⟨rfl,Nat.le_refl _⟩ fun _=>.inl ⟨0,rfl,by simp,Nat.le_refl _,Nat.zero_le _⟩⟩
 have hE:Ext w S γ (w.alloc (.cells #[] e)) (fun g=>S g∨g=w.heap.size) γ:=⟨⟨fun _ h=>.inl h,fun g hg=>Below.heap_alloc w _ g (hW.live g hg)⟩,fun b e h=>⟨e,h,Nat.le_refl _,fun _=>rfl⟩,fun g h=>h.elim .inl fun h=>.inr (.inr (Nat.le_of_eq h.symm)),fun b e h=>.inl ⟨b,e,h,rfl⟩,by simp,fun g hg _=>Below.heap_alloc w _ g hg⟩
 refine⟨_,_,_,_,γ,hex,.inl rfl,hE,⟨hW.mem.stay hE.z (fun b e _ hl=>Below.heap_alloc w _ _ hl) (fun b k e _ _ hl _ hn h=>h.elim hn fun h=>by omega),hW.below.alloc hW.below.size _,fun g hg=>?_,hW.env⟩,.pv _ _ (.sl _ _ w.heap.size 0 0 (fun _=>undef) (.inr rfl) (Nat.le_refl _) (Nat.zero_le _) (fun i p h=>by simp at h) (fun i p h=>by simp at h) (fun i p h=>by simp at h))⟩
 ·rcases hg with h|h
  ·have:=hW.live g h;simp;omega
  simp[h]
end
end
section
section
variable {C:Ctx} {w0 w:World} {S:Nat→Prop} {γ:Gh} {μ:AM} {f:AF} {a:Act} {o:Oper}
theorem Wd.drew (hW:Wd C w0 S γ μ w):Wd C w0 S γ μ w.drew∧Ext w S γ w.drew S γ:=by
 have hE:Ext w S γ w.drew S γ:=⟨⟨fun _ h=>h,fun _ _=>rfl⟩,fun b e h=>⟨e,h,Nat.le_refl _,fun _=>rfl⟩,fun _ h=>.inl h,fun b e h=>.inl ⟨b,e,h,rfl⟩,Nat.le_refl _,fun _ _ _=>rfl⟩
 exact⟨⟨hW.mem.stay hE.z (fun _ _ _ _=>rfl) (fun _ _ _ _ _ _ _ h=>h),hW.below.drew,hW.live,hW.env⟩,hE⟩
def qK (γ:Gh) (n:Nat) (e:sO):Gh:=fun b=>if b=n then some e else γ b
theorem dO (γ:Gh) (n:Nat) (e:sO):qK γ n e n=some e:=by simp[qK]
theorem fK (γ:Gh) {n b:Nat} (e:sO) (h:b≠n):qK γ n e b=γ b:=by simp[qK,h]
theorem Wd.fY (hW:Wd C w0 S γ μ w) {b:Nat} {e:sO} (h:γ b=some e):e.cb<w.heap.size:=by
 have hb:b<μ.length:=by
  apply Classical.byContradiction;intro hn;rw[hW.mem.none b (by omega)]at h;cases h
 obtain⟨e2,g1,-,-,g4,-⟩:=hW.mem.Aa (List.getElem?_eq_getElem hb);rw[h]at g1;injection g1 with g1;subst g1
 exact g4
theorem Wd.move (hW:Wd C w0 S γ μ w) {b:Nat} {k:dI} {e:sO} {w':World} {cb:Nat} {ncs:Array Value} {avs:List AV} (hk:μ[b]?=some k) (he:γ b=some e) (hz:k.sz≠0) (hfz:k.frozen=false)
  (hos:w'.os=w.os) (htape:w'.tape=w.tape) (hout:w'.output=w.output) (hsize:w.heap.size≤w'.heap.size) (hblk:∀g,g<w.heap.size→g≠e.cb→w'.heap[g]?=w.heap[g]?)
  (hcb:cb=e.cb∨w.heap.size≤cb) (hheap:w'.heap[cb]?=some (.cells ncs k.elem (0,0))) (hlen:avs.length≤ncs.size) (hv:∀(i:Nat) x,avs[i]?=some x→∃v,ncs[i]?=some v∧VR w S γ x v∧v.oneCell'=true) :
  Wd C w0 S (qK γ b ⟨k.gen+1,cb,ncs.size,k.sz⟩) (μ.set b {k with cells:=avs,gen:=k.gen+1}) w'∧Ext w S γ w' S (qK γ b ⟨k.gen+1,cb,ncs.size,k.sz⟩):=by
 obtain⟨e',cs',he',hgen,hsz,hheap',hcs',hlen',hcells,hB,hS⟩:=hW.mem.blk b k hk hz;rw[he]at he';injection he' with he';subst he'
 have hE:Ext w S γ w' S (qK γ b ⟨k.gen+1,cb,ncs.size,k.sz⟩):=by
  refine⟨⟨fun _ h=>h,fun g hg=>hblk g (hW.live g hg) fun h=>hS hfz (h▸hg)⟩,fun b' e' h=>?_,fun _ h=>.inl h,fun b' e' h=>?_,hsize,fun g hg hn=>hblk g hg fun h=>hn b e he h.symm⟩
  ·by_cases hbb:b'=b
   ·subst hbb;rw[he]at h;injection h with h;subst h
    exact⟨_,dO _ _ _,by show _≤k.gen+1;omega,fun h=>absurd h (by show ¬(k.gen+1=_);omega)⟩
   exact⟨e',(fK _ _ hbb).trans h,Nat.le_refl _,fun _=>rfl⟩
  by_cases hbb:b'=b
  ·subst hbb;rw[dO]at h;injection h with h;subst h
   rcases hcb with h|h
   ·exact .inl ⟨_,e,he,h.symm⟩
   exact .inr h
  rw[fK _ _ hbb]at h;exact .inl ⟨b',e',h,rfl⟩
 have hcbB:w0.heap.size≤cb:=by
  rcases hcb with h|h
  ·omega
  have:=hW.below.size;omega
 refine⟨⟨⟨fun b' k' hk' hz'=>?_,fun b' k' hk' hz'=>?_,fun b' hb'=>?_,fun b1 b2 e1 e2 h1 h2 hcc=>?_⟩,?_,fun g hg=>by have:=hW.live g hg;omega,hW.env⟩,hE⟩
 ·by_cases hbb:b=b'
  ·subst hbb;have hbl:b<μ.length:=(List.getElem?_eq_some_iff.mp hk).1;rw[List.getElem?_set_self hbl]at hk';injection hk' with hk'
   subst hk';refine⟨_,ncs,dO _ _ _,rfl,rfl,.of hheap,rfl,hlen,fun i x hx=>?_,hcbB,fun _ hs=>?_⟩
   ·obtain⟨v,h1,h2,h3⟩:=hv i x hx;exact⟨v,h1,h2.ext hE,h3⟩
   rcases hcb with h|h
   ·exact hS hfz (h▸hs)
   have:=hW.live _ hs;show False;simp only at this;omega
  rw[List.getElem?_set_ne hbb]at hk';obtain⟨e2,cs2,h1,h2,h3,h4,h5,h6,h7,h8,h9⟩:=hW.mem.blk b' k' hk' hz';have hne:e2.cb≠e.cb:=fun h=>hbb (hW.mem.inj b b' e e2 he h1 h.symm)
  exact⟨e2,cs2,(fK _ _ (Ne.symm hbb)).trans h1,h2,h3,h4.congr (hblk _ (hW.fY h1) hne) rfl id,h5,h6,fun i x hx=>by
   obtain⟨v,g1,g2,g3⟩:=h7 i x hx;exact⟨v,g1,g2.ext hE,g3⟩,h8,h9⟩
 ·have hbb:b≠b':=fun h=>by
   subst h;have hbl:b<μ.length:=(List.getElem?_eq_some_iff.mp hk).1;rw[List.getElem?_set_self hbl]at hk';injection hk' with hk'
   subst hk';exact hz hz'
  rw[List.getElem?_set_ne hbb]at hk';obtain⟨e2,h1,h2,h3,h4,h5,h6⟩:=hW.mem.mp b' k' hk' hz';have hne:e2.cb≠e.cb:=fun h=>hbb (hW.mem.inj b b' e e2 he h1 h.symm)
  exact⟨e2,(fK _ _ (Ne.symm hbb)).trans h1,h2,h3,h4.ext hE (hblk _ (hW.fY h1) hne),h5,h6⟩
 ·have hbl:b<μ.length:=(List.getElem?_eq_some_iff.mp hk).1;have:b'≠b:=by simp at hb';omega
  rw[fK _ _ this];exact hW.mem.none b' (by simpa using hb')
 ·by_cases g1:b1=b<;>by_cases g2:b2=b
  ·omega
  ·subst g1;rw[dO]at h1;rw[fK _ _ g2]at h2;injection h1 with h1
   subst h1;rcases hcb with h|h
   ·exact hW.mem.inj _ _ _ _ he h2 (by rw[←hcc];exact h.symm)
   have:=hW.fY h2;simp only at hcc;omega
  ·subst g2;rw[dO]at h2;rw[fK _ _ g1]at h1;injection h2 with h2
   subst h2;rcases hcb with h|h
   ·exact hW.mem.inj _ _ _ _ h1 he (by rw[hcc];exact h)
   have:=hW.fY h1;simp only at hcc;omega
  rw[fK _ _ g1]at h1;rw[fK _ _ g2]at h2;exact hW.mem.inj _ _ _ _ h1 h2 hcc
 exact hW.below.trans ⟨hos,htape,hout,hsize,fun g hg=>hblk g (by have:=hW.below.size;omega) (by omega)⟩
theorem oO (hW:Wd C w0 S γ μ w) {size m:Nat} {v:AV} {u:Value} {vc:VC} {cs:List AV} (hs:jv μ size v=some (vc,cs,m)) (hvc:aI vc) (hv:VR w S γ v u) :
  (cs=[]∧m=0∧u= .slice none 0 0)∨∃ad c news,u= .slice (some ad) m c∧news.length=m*size∧PW (VR w S γ) cs news∧(∀(j:Nat) x,news[j]?=some x→w.cell? (ad.add j)=some x)∧(∀x∈news,x.oneCell'=true):=by
 unfold jv at hs;split at hs
 ·injection hs with hs;injection hs with h1 h2;injection h2 with h2 h3
  subst h1 h2 h3;exact .inl ⟨rfl,rfl,iG hv⟩
 ·injection hs with hs;injection hs with h1 h2;injection h2 with h2 h3
  subst h1 h2 h3;exact .inr ⟨_,_,[],dq hv,by simp,⟨rfl,fun i p x hp=>by simp at hp⟩,fun j x hx=>by simp at hx,fun x hx=>by simp at hx⟩
 ·rename_i n l;injection hs with hs;injection hs with h1 h2;injection h2 with h2 h3
  subst h1 h2 h3;simp only[aI]at hvc;have hl:l.length=n*size:=by omega
  have hv:=cB hv;cases hv with
  |sl0=>exact .inl ⟨rfl,rfl,rfl⟩
  |slz ad cap h=>exact .inr ⟨ad,cap,[],rfl,by simp,⟨rfl,fun i p x hp=>by simp at hp⟩,fun j x hx=>by simp at hx,fun x hx=>by simp at hx⟩
  |sl _ _ g o' cap c hS h1 h2 hc h3 hI =>
   refine .inr ⟨_,_,(List.range l.length).map c,rfl,by simp[hl],PW.iP ⟨by simp,fun i p x hp hx=>?_⟩,fun j x hx=>?_,fun x hx=>?_⟩
   ·obtain⟨hi,rfl⟩:=dY hx;exact hI i p hp
   ·obtain⟨hi,rfl⟩:=dY hx;rw[Addr.add_lit];exact hc j _ (List.getElem?_eq_getElem hi)
   obtain⟨j,hj⟩:=List.mem_iff_getElem?.mp hx;obtain⟨hi,rfl⟩:=dY hj;exact h3 j _ (List.getElem?_eq_getElem hi)
 ·rename_i b g off n;split at hs
  ·rename_i k hk;cases hkz:Nat.beq k.sz 0 with
   |true=>rw[hkz]at hs;cases hs
   |false =>
   rw[hkz,cond_false]at hs;have hkz:k.sz≠0:=fun h=>by rw[h]at hkz;cases hkz
   injection hs with hs;injection hs with h1 h2;injection h2 with h2 h3
   subst h1 h2 h3;simp only[aI]at hvc;obtain⟨e,cs0,he,hgen,hsz,⟨_,hheap,-⟩,hcs,hkl,hcells,-,-⟩:=hW.mem.blk b k hk hkz;cases hv with
   |ref _ _ _ _ _ e' ad c hb hg hvc' hs' =>
    rw[he]at hb;injection hb with hb;subst hb
    rcases hs' (by omega) with⟨cap,hv',-,-,-⟩|⟨hn0,-,o',cap,hv',-⟩
    ·refine .inr ⟨⟨e.cb,off,none⟩,cap,(cs0.toList.drop off).take (n*size),hv',?_,⟨?_,fun i p x hp hx=>?_⟩,fun j x hx=>?_,fun x hx=>?_⟩
     ·simp;omega
     ·simp;omega
     ·rw[List.getElem?_take]at hp hx;split at hp
      ·rename_i hi;rw[if_pos hi]at hx;rw[List.getElem?_drop]at hp hx;obtain⟨v,g1,g2,g3⟩:=hcells _ p hp;rw[Array.getElem?_toList,g1]at hx;injection hx with hx;subst hx
       exact g2
      cases hp
     ·rw[List.getElem?_take]at hx;split at hx
      ·rw[List.getElem?_drop,Array.getElem?_toList]at hx;rw[Addr.add_lit,World.cell?,hheap];exact hx
      cases hx
     obtain⟨j,hj⟩:=List.mem_iff_getElem?.mp hx;rw[List.getElem?_take]at hj;split at hj
     ·rename_i hi;rw[List.getElem?_drop,Array.getElem?_toList]at hj;obtain⟨v,g1,g2,g3⟩:=hcells (off+j) _ (List.getElem?_eq_getElem (by omega));rw[g1]at hj;injection hj with hj;subst hj
      exact g3
     cases hj
    subst hn0;refine .inr ⟨⟨e.cb,o',none⟩,cap,[],hv',by simp,⟨by simp,fun i p x hp hx=>by simp at hx⟩,fun j x hx=>by simp at hx,fun x hx=>by cases hx⟩
  cases hs
 cases hs
theorem lv {t ty e:TypeId} {i:TypeInfo} (ht:C.P.underlying t=some (.slice e)) (hi:C.P.info? e=some i) {base:Option Addr} {n cap:Nat} (hn:n≤cap) {src:Value}
  (hsrc:src= .slice none 0 0∨∃ad c,src= .slice (some ad) 0 c):(Builtin.append_ #[t,t] ty #[.slice base n cap,src]).run C.P w= .ok (.slice base n cap) w:=by
 rcases hsrc with rfl|⟨ad,c,rfl⟩<;>cases base <;>
  simp[Builtin.append_,run_underlying ht,sizeOf,typeInfo,hi,Builtin.lenOf,hn,Builtin.firstCells,loadCells,loadCellsFrom,storeCells]
theorem Ah {s x:Operand} {t t':TypeId} {v u r:Value} {w':World} (ho:o.op= .call {callee:=.builtin .copy,args:=#[s,x],argTypes:=#[t,t']}) (hs:a.eval s=v) (hx:a.eval x=u)
  (hr:(Builtin.copy_ #[t,t'] o.type #[v,u]).run C.P w= .ok r w'):(execOp a.eval o).run C.P w= .ok (.value r) w':=by
 simp only[execOp,ho,resolve,invoke,builtin,Sem.run_bind,Sem.run_pure,Result.andThen_ok,List.map_toArray,List.map_cons,List.map_nil,hs,hx,hr]
theorem xG {x y:Operand} {x' y':cn} {t t' e:TypeId} {m n size b g off:Nat} {k:dI} {vc:VC} {cs:List AV} (hW:Wd C w0 S γ μ w) (ho:o.op= .call {callee:=.builtin .copy,args:=#[x,y],argTypes:=#[t,t']})
  (hx:aB x=some x') (hy:aB y=some y') (ht:C.P.underlying t=some (.slice e)) (hi:bQ C.P e=some size)
  (hp:ev f x'= .ref b g off n) (hk:μ[b]?=some k) (hksz:k.sz=size) (hfz:k.frozen=false) (hs1:size≠0) (hm1:1≤m) (hg:g=k.gen) (hmn:m≤n) (hl:off+m*size≤k.cells.length)
  (hsrc:jv μ size (ev f y')=some (vc,cs,m)) (hvc:aI vc) (hf:Reads w S γ f a (.copy x' y' size)) :
  cq C w0 o a S γ (.pv (.int .i64 m)) (μ.set b {k with cells:=setAt k.cells off cs}) w:=by
 have k1:=aO (w:=w) (S:=S) (γ:=γ) hx fun t ht=>hf t (by simp[tmpsOf,ht])
 have k2:=aO (w:=w) (S:=S) (γ:=γ) hy fun t ht=>hf t (by simp[tmpsOf,ht])
 rw[hp]at k1;obtain⟨en,cs0,he,hgen,hesz,hheap,hcs,hkl,hcells,hB,hS⟩:=hW.mem.blk b k hk (by omega);replace hheap:=hheap.free hfz;obtain⟨ad,c,news,hu,hnl,hpw,hcell,hone⟩:∃ad c news,a.eval y= .slice (some ad) m c∧news.length=m*size∧PW (VR w S γ) cs news∧(∀(j:Nat) x,news[j]?=some x→w.cell? (ad.add j)=some x)∧(∀x∈news,x.oneCell'=true):=by
  rcases oO hW hsrc hvc k2 with⟨-,h0,-⟩|h
  ·omega
  exact h
 have hsv:∃cap,a.eval x= .slice (some ⟨en.cb,off,none⟩) n cap:=by
  generalize a.eval x=sv at k1;cases k1 with
  |ref _ _ _ _ _ e' ad c hb hg' hvc' hs' =>
   rw[he]at hb;injection hb with hb;subst hb
   rcases hs' (by omega) with⟨cap,h,-⟩|⟨h,-,-⟩
   ·exact⟨cap,h⟩
   omega
 obtain⟨cap,hsv⟩:=hsv;have hcl:cs.length=m*size:=hpw.len.trans hnl;have hst:=run_storeCells_at C.P en.cb off k.elem news 0 cs0 w hheap (by rw[hnl];omega) hone;rw[Nat.add_zero,hnl]at hst;generalize hnc:(cs0.toList.take off++news++cs0.toList.drop (off+m*size)).toArray=ncs at hst;have hncs:ncs.size=cs0.size:=by
  rw[←hnc];simp only[List.size_toArray,List.length_append,List.length_take,List.length_drop,Array.length_toList,hnl];omega
 have hget:∀i:Nat,ncs[i]?=if off≤i∧i<off+m*size then news[i-off]? else cs0[i]?:=fun i=>by
  rw[←hnc,List.getElem?_toArray];by_cases h1:i<off
  ·rw[if_neg (by omega),List.append_assoc,List.getElem?_append_left (by simp;omega),List.getElem?_take,if_pos h1,Array.getElem?_toList]
  by_cases h2:i<off+m*size
  ·rw[if_pos ⟨by omega,h2⟩,List.getElem?_append_left (by simp only[List.length_append,List.length_take,Array.length_toList,hnl];omega),List.getElem?_append_right (by simp;omega)];congr 1;simp;omega
  rw[if_neg (by omega),List.getElem?_append_right (by simp only[List.length_append,List.length_take,Array.length_toList,hnl];omega),List.getElem?_drop,Array.getElem?_toList];congr 1;simp only[List.length_append,List.length_take,Array.length_toList,hnl];omega
 obtain⟨hW',hE⟩:=hW.write (avs:=setAt k.cells off cs) (ncs:=ncs) hk he hheap hcs (by omega) hfz hncs (by rw[fJ];omega) fun i z hz=>by
  rw[mq _ _ _ (by omega)]at hz;rw[hget i];by_cases hi:off≤i∧i<off+m*size
  ·rw[if_pos (by omega)]at hz;rw[if_pos hi];have hil:i-off<news.length:=by omega
   exact⟨_,List.getElem?_eq_getElem hil,hpw.at_ _ z _ hz (List.getElem?_eq_getElem hil),hone _ (List.getElem_mem hil)⟩
  rw[if_neg (by omega)]at hz;rw[if_neg hi];exact hcells i z hz
 have hfc:=run_firstCells_some (P:=C.P) w size m ad m c news hnl hcell;have hmin:Nat.min m n=m:=Nat.min_eq_left hmn;refine⟨.value (.int .i64 m),_,_,S,γ,Ah ho hsv hu ?_,.inl rfl,hE,hW',.pv _ _ (.int _ _)⟩;simp[Builtin.copy_,run_underlying ht,Builtin.lenOf,hmin,hfc,dc hi,hst,goInt]
theorem gM {s x:Operand} {t:TypeId} {v u r:Value} {w':World} (ho:o.op= .call {callee:=.builtin .append,args:=#[s,x],argTypes:=#[t,t]}) (hs:a.eval s=v) (hx:a.eval x=u)
  (hr:(Builtin.append_ #[t,t] o.type #[v,u]).run C.P w= .ok r w'):(execOp a.eval o).run C.P w= .ok (.value r) w':=by
 simp only[execOp,ho,resolve,invoke,builtin,Sem.run_bind,Sem.run_pure,Result.andThen_ok,List.map_toArray,List.map_cons,List.map_nil,hs,hx,hr]
theorem jO {s x:Operand} {s' x':cn} {t e:TypeId} {i:TypeInfo} {z:List PV} {m size bytes:Nat} {vc:VC} {cs:List AV} (hW:Wd C w0 S γ μ w) (ho:o.op= .call {callee:=.builtin .append,args:=#[s,x],argTypes:=#[t,t]})
  (hs:aB s=some s') (hx:aB x=some x') (ht:C.P.underlying t=some (.slice e)) (hi:C.P.info? e=some i) (hz:jw C.P e=some z) (hs1:size≠0) (hsz:i.size=size) (hby:i.bytes=bytes)
  (hp:ev f s'= .pv .nilsl) (hsrc:jv μ size (ev f x')=some (vc,cs,m)) (hvc:aI vc) (hf:Reads w S γ f a (.append s' x' e size bytes)) :
  (m=0→cq C w0 o a S γ (.pv .nilsl) μ w)∧(1≤m→m*bytes≤140737488355328→(m:Int)≤lE→cq C w0 o a S γ (.ref μ.length 0 0 m) (μ++[⟨cs,0,size,e,false⟩]) w):=by
 have k1:=aO (w:=w) (S:=S) (γ:=γ) hs fun t ht=>hf t (by simp[tmpsOf,ht])
 have k2:=aO (w:=w) (S:=S) (γ:=γ) hx fun t ht=>hf t (by simp[tmpsOf,ht])
 rw[hp]at k1;have k1:=iG k1;have k3:=oO hW hsrc hvc k2;refine⟨fun hm=>?_,fun hm hb hI=>?_⟩
 ·subst hm;refine .same hW (u:=.slice none 0 0) (gM ho k1 rfl (lv ht hi (Nat.le_refl _) ?_)) (.pv _ _ .nilsl);rcases k3 with⟨-,-,h⟩|⟨ad,c,news,h,-⟩
  ·exact .inl h
  exact .inr ⟨ad,c,h⟩
 rcases k3 with⟨-,h,-⟩|⟨ad,c,news,hu,hl,hpw,hcell,hone⟩
 ·omega
 obtain⟨i',zv,hi',hzv,hzl,hzlen,-⟩:=gp (w:=w) hz;rw[hi]at hi';injection hi' with hi';subst hi'
 have hmx:(m:Int)≤9223372036854775807:=hI;have hr:=run_append_nil (P:=C.P) w t o.type e i zv ht hi hzv ad m c news (by rw[hsz];exact hl) hcell (by omega) hmx (by rw[hby];omega);obtain⟨hW1,hE1⟩:=hW.drew;obtain⟨hW2,hE2⟩:=hW1.HP (avs:=cs) (cs:=news++(Builtin.zeroCells zv.cells (grownCap w m 0 e-m)).toList) (elem:=e) size hs1 (by rw[List.length_append];have:=hpw.len;omega) fun j y hy=>by
  have hj:j<news.length:=by rw[←hpw.len];exact(List.getElem?_eq_some_iff.mp hy).1
  refine⟨news[j],?_,(hpw.at_ j y _ hy (List.getElem?_eq_getElem hj)).ext hE1,hone _ (List.getElem_mem hj)⟩;rw[List.getElem?_append_left hj,List.getElem?_eq_getElem hj]
 have hco:(news++(Builtin.zeroCells zv.cells (grownCap w m 0 e-m)).toList).toArray=news.toArray++Builtin.zeroCells zv.cells (grownCap w m 0 e-m):=by
  apply Array.ext';simp
 rw[hco]at hW2 hE2;have hmm:m≤maxLen:=by simp only[maxLen];omega
 have hge:=grownCap_ge w m 0 e;refine⟨_,_,_,S,_,gM ho k1 hu hr,.inl rfl,hE1.trans hE2,hW2,.ref _ _ _ _ _ _ ⟨w.heap.size,0,none⟩ (grownCap w m 0 e) (eV _ _ _) (Nat.le_refl _) ⟨rfl,hge⟩ fun _=>.inl ⟨grownCap w m 0 e,rfl,?_,hge,grownCap_le_maxLen w m 0 e hmm⟩⟩;have hzc:zv.cells.size=size:=by
  have:=(dN (w:=w) (S:=S) hzl).len;simp at this;omega
 show 0+grownCap w m 0 e*size=(news++(Builtin.zeroCells zv.cells (grownCap w m 0 e-m)).toList).length;rw[List.length_append,hl,Array.length_toList,size_zeroCells,hzc,←Nat.add_mul];rw[show m+(grownCap w m 0 e-m)=grownCap w m 0 e by omega];omega
theorem oP {s x:Operand} {s' x':cn} {t e:TypeId} {i:TypeInfo} {z:List PV} {m n size bytes b g:Nat} {k:dI} {vc:VC} {cs:List AV} (hW:Wd C w0 S γ μ w) (ho:o.op= .call {callee:=.builtin .append,args:=#[s,x],argTypes:=#[t,t]})
  (hs:aB s=some s') (hx:aB x=some x') (ht:C.P.underlying t=some (.slice e)) (hi:C.P.info? e=some i) (hz:jw C.P e=some z) (hs1:size≠0) (hsz:i.size=size) (hby:i.bytes=bytes)
  (hp:ev f s'= .ref b g 0 n) (hk:μ[b]?=some k) (hfz:k.frozen=false) (hksz:k.sz=size) (hkel:k.elem=e) (hg:g=k.gen) (hnl:n*size=k.cells.length)
  (hsrc:jv μ size (ev f x')=some (vc,cs,m)) (hvc:aI vc) (hb:(n+m)*bytes≤140737488355328) (hI:((n+m:Nat):Int)≤lE) (hf:Reads w S γ f a (.append s' x' e size bytes)) :
  cq C w0 o a S γ (.ref b (k.gen+1) 0 (n+m)) (μ.set b {k with cells:=k.cells++cs,gen:=k.gen+1}) w:=by
 have k1:=aO (w:=w) (S:=S) (γ:=γ) hs fun t ht=>hf t (by simp[tmpsOf,ht])
 have k2:=aO (w:=w) (S:=S) (γ:=γ) hx fun t ht=>hf t (by simp[tmpsOf,ht])
 rw[hp]at k1;have k3:=oO hW hsrc hvc k2;obtain⟨en,cs0,he,hgen,hesz,hheap,hcs,hkl,hcells,hB,hS⟩:=hW.mem.blk b k hk (by omega);replace hheap:=hheap.free hfz;have hshape:∃cap,a.eval s= .slice (some ⟨en.cb,0,none⟩) n cap∧0+cap*en.sz=en.cap∧n≤cap∧cap≤maxLen:=by
  generalize a.eval s=sv at k1;cases k1 with
  |ref _ _ _ _ _ e' ad c hb hg' hvc' hs' =>
   rw[he]at hb;injection hb with hb;subst hb
   rcases hs' (by omega) with h|⟨-,h,-⟩
   ·exact h
   omega
 obtain⟨cap,hsv,hcapc,hncap,hcapm⟩:=hshape;subst hkel;have hmm:n+m≤maxLen:=by simp only[maxLen];unfold lE at hI;omega
 have hVR:∀{γ':Gh} {c':Nat} {cb sz' cap':Nat},γ' b=some ⟨k.gen+1,cb,cap',sz'⟩→c'*sz'=cap'→n+m≤c'→c'≤maxLen→∀{w'},VR w' S γ' (.ref b (k.gen+1) 0 (n+m)) (.slice (some ⟨cb,0,none⟩) (n+m) c'):=by
  intro γ' c' cb sz' cap' h1 h2 h3 h4 w';exact .ref _ _ _ _ _ _ ⟨cb,0,none⟩ c' h1 (Nat.le_refl _) ⟨rfl,h3⟩ fun _=>.inl ⟨c',rfl,(Nat.zero_add _).trans h2,h3,h4⟩
 have hkcs:cs0.size=cap*size:=by rw[hcs,←hcapc,hesz,hksz];omega
 rcases k3 with⟨rfl,rfl,hu⟩|⟨ad,c,news,hu,hl,hpw,hcell,hone⟩
 ·
  have hr:=lv (C:=C) (w:=w) (ty:=o.type) (base:=some ⟨en.cb,0,none⟩) ht hi hncap (src:=.slice none 0 0) (.inl rfl);obtain⟨hW',hE⟩:=hW.move (avs:=k.cells++[]) (ncs:=cs0) (cb:=en.cb) (w':=w) hk he (by omega) hfz rfl rfl rfl (Nat.le_refl _) (fun _ _ _=>rfl) (.inl rfl) hheap (by rw[List.append_nil];omega) (by rw[List.append_nil];exact hcells);exact⟨_,_,_,S,_,gM ho hsv hu hr,.inl rfl,hE,hW',hVR (dO _ _ _) (by rw[hksz];exact hkcs.symm) hncap hcapm⟩
 have hnl':news.length=m*size:=hl;have hVRn:∀(ncs:Array Value),(∀j:Nat,j<n*size→ncs[j]?=cs0[j]?)→(∀j:Nat,j<m*size→ncs[n*size+j]?=news[j]?)→∀(j:Nat) y,(k.cells++cs)[j]?=some y→∃v,ncs[j]?=some v∧VR w S γ y v∧v.oneCell'=true:=by
  intro ncs h1 h2 j y hy;by_cases hj:j<k.cells.length
  ·rw[List.getElem?_append_left hj]at hy;obtain⟨v,g1,g2,g3⟩:=hcells j y hy;exact⟨v,by rw[h1 j (by omega)];exact g1,g2,g3⟩
  rw[List.getElem?_append_right (by omega)]at hy;have hjm:j-k.cells.length<m*size:=by rw[←hl,←hpw.len];exact(List.getElem?_eq_some_iff.mp hy).1
  have h3:=h2 (j-k.cells.length) hjm;rw[show n*size+(j-k.cells.length)=j by omega]at h3;have hjn:j-k.cells.length<news.length:=by omega
  exact⟨news[j-k.cells.length],by rw[h3,List.getElem?_eq_getElem hjn],hpw.at_ _ y _ hy (List.getElem?_eq_getElem hjn),hone _ (List.getElem_mem hjn)⟩
 by_cases hroom:n+m≤cap
 ·have hfit:n*i.size+news.length≤cs0.size:=by
   rw[hsz,hl,←Nat.add_mul,hkcs];exact Nat.mul_le_mul_right _ hroom
  have hr:=run_append_room (P:=C.P) w t o.type k.elem i ht hi en.cb n cap cs0 hheap ad m c news (by rw[hsz];exact hl) hcell hone hroom hfit;generalize hnc:(cs0.toList.take (n*i.size)++news++cs0.toList.drop (n*i.size+news.length)).toArray=ncs at hr;rw[hsz]at hnc hfit;have hncs:ncs.size=cs0.size:=by
   rw[←hnc];simp only[List.size_toArray,List.length_append,List.length_take,List.length_drop,Array.length_toList];omega
  obtain⟨hW',hE⟩:=hW.move (avs:=k.cells++cs) (ncs:=ncs) (cb:=en.cb) (w':=w.setRow en.cb ncs) hk he (by omega) hfz rfl rfl rfl (by simp) (fun g _ h=>setRow_other w en.cb g ncs h) (.inl rfl) (setRow_heap w en.cb cs0 ncs k.elem (0,0) hheap)
   (by rw[List.length_append,hncs,hpw.len];omega) (hVRn ncs (fun j hj=>by
    rw[←hnc,List.getElem?_toArray,List.append_assoc,List.getElem?_append_left (by simp;omega),List.getElem?_take,if_pos hj,Array.getElem?_toList]) fun j hj=>by
    rw[←hnc,List.getElem?_toArray,List.getElem?_append_left (by simp;omega),List.getElem?_append_right (by simp;omega)];congr 1;simp;omega)
  exact⟨_,_,_,S,_,gM ho hsv hu hr,.inl rfl,hE,hW',hVR (dO _ _ _) (by rw[hksz,hncs];exact hkcs.symm) hroom hcapm⟩
 obtain⟨i',zv,hi',hzv,hzl,hzlen,-⟩:=gp (w:=w) hz;rw[hi]at hi';injection hi' with hi';subst hi'
 have holdl:(cs0.toList.take (n*size)).length=n*i.size:=by rw[hsz,List.length_take,Array.length_toList];omega
 have hr:=run_append_grow (P:=C.P) w t o.type k.elem i zv ht hi hzv ⟨en.cb,0,none⟩ n cap (cs0.toList.take (n*size)) holdl (fun j v hj=>by
  rw[List.getElem?_take]at hj;split at hj
  ·rw[Addr.add_lit,Nat.zero_add,World.cell?,hheap];rw[Array.getElem?_toList]at hj;exact hj
  cases hj) ad m c news (by rw[hsz];exact hl) hcell (by omega) (by unfold lE at hI;exact hI) (growslice_fits (by omega) (by rw[hby];exact hb))
 have hge:=grownCap_ge w (n+m) cap k.elem;have hgm:=grownCap_le_maxLen w (n+m) cap k.elem hmm;generalize hG:grownCap w (n+m) cap k.elem=G at hr hge hgm;have hzc:zv.cells.size=size:=by
  have:=(dN (w:=w) (S:=S) hzl).len;simp at this;omega
 generalize hnc:(cs0.toList.take (n*size)).toArray++news.toArray++Builtin.zeroCells zv.cells (G-(n+m))=ncs at hr;have hncs:ncs.size=G*size:=by
  rw[←hnc];simp only[Array.size_append,List.size_toArray,size_zeroCells,hzc,holdl,hl,hsz,←Nat.add_mul];rw[show n+m+(G-(n+m))=G by omega]
 have hle:(n+m)*size≤G*size:=Nat.mul_le_mul_right _ hge;rw[Nat.add_mul]at hle;obtain⟨hW',hE⟩:=hW.move (avs:=k.cells++cs) (ncs:=ncs) (cb:=w.heap.size) (w':=w.drew.alloc (.cells ncs k.elem)) hk he (by omega) hfz rfl rfl rfl (by simp) (fun g hg _=>Below.heap_alloc w.drew _ g hg) (.inr (Nat.le_refl _)) (heap_alloc_new w.drew _)
  (by rw[List.length_append,hncs,hpw.len];omega) (hVRn ncs (fun j hj=>by
   rw[←hnc,Array.append_assoc,Array.getElem?_append_left (by simp;omega),List.getElem?_toArray,List.getElem?_take,if_pos hj,Array.getElem?_toList]) fun j hj=>by
   rw[←hnc,Array.getElem?_append_left (by simp;omega),Array.getElem?_append_right (by simp;omega),List.getElem?_toArray];congr 1;simp;omega)
 exact⟨_,_,_,S,_,gM ho hsv hu hr,.inl rfl,hE,hW',hVR (dO _ _ _) (by rw[hksz,hncs]) hge hgm⟩
end
end
section
section
variable {C:Ctx} {w0 w:World} {S:Nat→Prop} {γ:Gh} {μ:AM} {f:AF} {a:Act} {o:Oper}
theorem Wd.HQ (hW:Wd C w0 S γ μ w) :
  Wd C w0 S (eM γ μ.length ⟨0,w.heap.size,0,0⟩) (μ++[⟨[],0,0,0,false⟩]) (w.alloc (.map #[] 0)) ∧
  Ext w S γ (w.alloc (.map #[] 0)) S (eM γ μ.length ⟨0,w.heap.size,0,0⟩):=by
 have hlt:∀b e,γ b=some e→b<μ.length:=fun b e h=>by
  apply Classical.byContradiction;intro hn;rw[hW.mem.none b (by omega)]at h;cases h
 have hold:∀b e,γ b=some e→eM γ μ.length ⟨0,w.heap.size,0,0⟩ b=some e:=fun b e h=>by
  have:=hlt b e h;simp[eM,h];omega
 have hnew:eM γ μ.length ⟨0,w.heap.size,0,0⟩ μ.length=some ⟨0,w.heap.size,0,0⟩:=by simp[eM]
 have hE:Ext w S γ (w.alloc (.map #[] 0)) S (eM γ μ.length ⟨0,w.heap.size,0,0⟩) :=
  ⟨⟨fun _ h=>h,fun g hg=>Below.heap_alloc w _ g (hW.live g hg)⟩,fun b e h=>⟨e,hold b e h,Nat.le_refl _,fun _=>rfl⟩,fun _ h=>.inl h,fun b e h=>by
   unfold eM at h;split at h
   ·injection h with h;subst h;exact .inr (Nat.le_refl _)
   exact .inl ⟨b,e,h,rfl⟩,by simp,fun g hg _=>Below.heap_alloc w _ g hg⟩
 refine⟨⟨⟨fun b k hk hkz=>?_,fun b k hk hkz=>?_,fun b hb=>?_,fun b b' e e' hb hb' hcc=>?_⟩,hW.below.alloc hW.below.size _,fun g hg=>by have:=hW.live g hg;simp;omega,hW.env⟩,hE⟩
 ·by_cases hbn:b<μ.length
  ·rw[List.getElem?_append_left hbn]at hk;obtain⟨e2,cs2,g1,g2,g3,g4,g5,g6,g7,g8,g9⟩:=hW.mem.blk b k hk hkz;refine⟨e2,cs2,hold b e2 g1,g2,g3,g4.congr (Below.heap_alloc w _ _ (hW.fY g1)) rfl id,g5,g6,fun i x hx=>?_,g8,g9⟩;obtain⟨v,k1,k2,k3⟩:=g7 i x hx;exact⟨v,k1,k2.ext hE,k3⟩
  rw[List.getElem?_append_right (by omega)]at hk;have hb0:b=μ.length:=by
   have:=(List.getElem?_eq_some_iff.mp hk).1;simp at this;omega
  subst hb0;simp at hk;subst hk;exact absurd rfl hkz
 ·by_cases hbn:b<μ.length
  ·rw[List.getElem?_append_left hbn]at hk;obtain⟨e2,g1,g2,g3,g4,g5,g6⟩:=hW.mem.mp b k hk hkz;exact⟨e2,hold b e2 g1,g2,g3,g4.ext hE (Below.heap_alloc w _ _ (hW.fY g1)),g5,g6⟩
  rw[List.getElem?_append_right (by omega)]at hk;have hb0:b=μ.length:=by
   have:=(List.getElem?_eq_some_iff.mp hk).1;simp at this;omega
  subst hb0;simp at hk;subst hk;refine⟨_,hnew,rfl,rfl,⟨#[],0,heap_alloc_new w _,⟨rfl,fun i a b h=>by simp at h⟩,MapKept.stamped_empty 0⟩,hW.below.size,fun _ hS=>?_⟩;have:=hW.live _ hS;simp at this
 ·have:b≠μ.length:=by simp at hb;omega
  simp only[eM,if_neg this];exact hW.mem.none b (by simp at hb;omega)
 unfold eM at hb hb';by_cases h1:b=μ.length<;>by_cases h2:b'=μ.length
 ·omega
 ·rw[if_pos h1]at hb;rw[if_neg h2]at hb';injection hb with hb
  have:=hW.fY hb';rw[←hcc,←hb]at this;simp at this
 ·rw[if_neg h1]at hb;rw[if_pos h2]at hb';injection hb' with hb'
  have:=hW.fY hb;rw[hcc,←hb']at this;simp at this
 rw[if_neg h1]at hb;rw[if_neg h2]at hb';exact hW.mem.inj b b' e e' hb hb' hcc
theorem Wd.vF (hW:Wd C w0 S γ μ w) {b:Nat} {k:dI} {e:sO} {es es':Array MapEntry} {clock clock':Nat} (hk:μ[b]?=some k) (he:γ b=some e) (hheap:w.heap[e.cb]?=some (.map es clock)) (hz:k.sz=0)
  (hfz:k.frozen=false) {avs:List AV} (hv:PW (VR w S γ) avs (fc es'.toList)) (hs:MapKept.Stamped es' clock') :
  Wd C w0 S γ (μ.set b {k with cells:=avs}) {w with heap:=w.heap.setIfInBounds e.cb (.map es' clock')}∧Ext w S γ {w with heap:=w.heap.setIfInBounds e.cb (.map es' clock')} S γ:=by
 obtain⟨e0,he0,hgen,hsz,-,hB,hS⟩:=hW.mem.mp b k hk hz;rw[he]at he0;injection he0 with he0;subst he0
 obtain⟨hh1,hh2⟩:=MapKept.heap_set (o':=.map es' clock') hheap;have hE:Ext w S γ {w with heap:=w.heap.setIfInBounds e.cb (.map es' clock')} S γ:=⟨⟨fun _ h=>h,fun g hg=>hh2 g (fun h=>hS hfz (h▸hg))⟩,fun b e h=>⟨e,h,Nat.le_refl _,fun _=>rfl⟩,fun _ h=>.inl h,fun b e h=>.inl ⟨b,e,h,rfl⟩,by simp,fun g _ hn=>hh2 g (fun h=>hn b e he h.symm)⟩
 have hbl:b<μ.length:=(List.getElem?_eq_some_iff.mp hk).1;refine⟨⟨⟨fun b' k' hk' hz'=>?_,fun b' k' hk' hz'=>?_,fun b' hb'=>hW.mem.none b' (by simpa using hb'),hW.mem.inj⟩,?_,fun g hg=>by have:=hW.live g hg;simpa using this,hW.env⟩,hE⟩
 ·have hbb:b≠b':=fun h=>by
   subst h;rw[List.getElem?_set_self hbl]at hk';injection hk' with hk'
   subst hk';exact hz' hz
  rw[List.getElem?_set_ne hbb]at hk';obtain⟨e2,cs2,h1,h2,h3,h4,h5,h6,h7,h8,h9⟩:=hW.mem.blk b' k' hk' hz';have hne:e2.cb≠e.cb:=fun h=>hbb (hW.mem.inj b b' e e2 he h1 h.symm)
  exact⟨e2,cs2,h1,h2,h3,h4.congr (hh2 e2.cb hne) rfl id,h5,h6,fun i x hx=>by
   obtain⟨v,g1,g2,g3⟩:=h7 i x hx;exact⟨v,g1,g2.ext hE,g3⟩,h8,h9⟩
 ·by_cases hbb:b=b'
  ·subst hbb;rw[List.getElem?_set_self hbl]at hk';injection hk' with hk'
   subst hk';exact⟨e,he,hgen,hsz,⟨es',clock',hh1,⟨hv.len,fun i a b ha hb=>(hv.at_ i a b ha hb).ext hE⟩,hs⟩,hB,fun h=>hS h⟩
  rw[List.getElem?_set_ne hbb]at hk';obtain⟨e2,h1,h2,h3,h4,h5,h6⟩:=hW.mem.mp b' k' hk' hz';have hne:e2.cb≠e.cb:=fun h=>hbb (hW.mem.inj b b' e e2 he h1 h.symm)
  exact⟨e2,h1,h2,h3,h4.ext hE (hh2 e2.cb hne),h5,h6⟩
 exact hW.below.trans ⟨rfl,rfl,rfl,by simp,fun g hg=>hh2 g (by omega)⟩
theorem vG {d:TypeDesc} {kd:KD} {key:PV} {kv:Value} (hd:xr d=some kd) (hl:eh kd key=true) (hk:Is w S key kv):MapKept.IsKey d kv:=by
 cases d<;>simp only[xr]at hd<;>first|(cases hd;done)|skip
 all_goals injection hd with hd;subst hd
 all_goals cases hk<;>simp[eh]at hl
 ·trivial
 ·exact hl.symm
 trivial
theorem Ai {kd:KD} {d:TypeDesc} {key k:PV} {kv u:Value} (hd:xr d=some kd) (h1:eh kd key=true) (h2:eh kd k=true) (hk:Is w S key kv) (hu:Is w S k u):Instr.sameNow d kv u=some (bP key (.pv k))∧(bP key (.pv k)=true↔u=kv):=by
 cases d<;>simp only[xr]at hd<;>first|(cases hd;done)|skip
 all_goals injection hd with hd;subst hd
 ·cases hk<;>simp[eh]at h1;cases hu<;>simp[eh]at h2;refine⟨rfl,?_⟩;simp only[bP,beq_iff_eq,Value.bool.injEq];exact eq_comm
 ·cases hk<;>simp[eh]at h1;cases hu<;>simp[eh]at h2;subst h1;subst h2;refine⟨by simp[Instr.sameNow,bP],?_⟩;simp only[bP,beq_iff_eq,Value.int.injEq,true_and];exact eq_comm
 cases hk<;>simp[eh]at h1;cases hu<;>simp[eh]at h2;rename_i s1 s2;refine⟨?_,?_⟩
 ·simp only[Instr.sameNow,bP,Option.some.injEq];rw[Bool.eq_iff_iff,MapKept.bytes_beq];simp
 simp only[bP,beq_iff_eq,Value.string.injEq,ByteArray.mk.injEq];constructor
 ·rintro rfl;rfl
 intro h;exact(congrArg Array.toList h).symm
theorem PW.FQ {α β:Type} {R:α→β→Prop} {x y:β} {l:List β} {m:List α} (h:PW R m (x::y::l)):∃a b r,m=a::b::r∧R a x∧R b y∧PW R r l:=by
 match m,h with
 |[],h=>exact absurd h.len (by simp)
 |[_],h=>exact absurd h.len (by simp)
 |a::b::r,h=>exact⟨a,b,r,rfl,h.at_ 0 a x rfl rfl,h.at_ 1 b y rfl rfl,by have:=h.len;simp at this;exact this,fun i p q hp hq=>h.at_ (i+2) p q (by simpa using hp) (by simpa using hq)⟩
theorem PW.two {α β:Type} {R:α→β→Prop} {x y:β} {l:List β} {a b:α} {r:List α} (h1:R a x) (h2:R b y) (h:PW R r l):PW R (a::b::r) (x::y::l) :=
 ⟨by simp[h.len],fun i p q hp hq=>by
  match i with
  |0=>simp at hp hq;subst hp hq;exact h1
  |1=>simp at hp hq;subst hp hq;exact h2
  |i+2=>exact h.at_ i p q (by simpa using hp) (by simpa using hq)⟩
theorem qL {kd:KD} {d:TypeDesc} {key:PV} {kv:Value} (hd:xr d=some kd) (hlk:eh kd key=true) (hkv:Is w S key kv):∀(l:List MapEntry) (cells:List AV) (i:Nat),PW (VR w S γ) cells (fc l)→bj kd cells=true →
  (bY cells key=false∧Instr.findNow d kv l i=some none∧(∀d0,bN cells key d0=d0)∧(∀x,lF cells key x=cells++[.pv key,x])∧∀x∈l,x.key≠kv) ∨
  (∃j e,bY cells key=true∧Instr.findNow d kv l i=some (some (i+j,e.val))∧l[j]?=some e∧e.key=kv∧(∀d0,VR w S γ (bN cells key d0) e.val) ∧
   (∀x u,VR w S γ x u→PW (VR w S γ) (lF cells key x) (fc (l.modify j fun e=>{e with key:=kv,val:=u}))))
 |[],cells,i,h,_=>by
  have:cells=[]:=List.length_eq_zero_iff.mp h.len;subst this;exact .inl ⟨rfl,rfl,fun _=>rfl,fun _=>rfl,by simp⟩
 |e::r,cells,i,h,hok=>by
  obtain⟨k,v,cr,rfl,h1,h2,h3⟩:=h.FQ;simp only[bj,Bool.and_eq_true]at hok;have hkp:∃p,k= .pv p:=by cases k<;>simp[iL]at hok;exact⟨_,rfl⟩
  obtain⟨p,rfl⟩:=hkp;obtain⟨q1,q2⟩:=Ai hd hlk hok.1 hkv (cB h1);cases hq:bP key (.pv p) with
  |true =>
   have hek:=q2.mp hq;refine .inr ⟨0,e,by simp[bY,hq],by simp[Instr.findNow,q1,hq],rfl,hek,fun d0=>by simp[bN,hq,h2],fun x u hx=>?_⟩;simp only[lF,hq,cond_true,List.modify_zero_cons,fc];exact PW.two (.pv _ _ hkv) hx h3
  |false =>
   have hne:e.key≠kv:=fun hh=>by have:=q2.mpr hh;rw[hq]at this;cases this
   rcases qL hd hlk hkv r cr (i+1) h3 hok.2 with⟨g1,g2,g3,g4,g5⟩|⟨j,e',g1,g2,g3,g4,g5,g6⟩
   ·refine .inl ⟨by simp[bY,hq,g1],by simp[Instr.findNow,q1,hq,g2],fun d0=>by simp[bN,hq,g3],fun x=>by simp[lF,hq,g4],fun x hx=>?_⟩;cases hx with
    |head=>exact hne
    |tail _ hx=>exact g5 x hx
   refine .inr ⟨j+1,e',by simp[bY,hq,g1],by simp[Instr.findNow,q1,hq,g2];omega,by simpa using g3,g4,fun d0=>by simp[bN,hq,g5],fun x u hx=>?_⟩;simp only[lF,hq,cond_false,List.modify_succ_cons,fc];exact PW.two h1 h2 (g6 x u hx)
theorem nM {b:Bool} (h:1≤mN b):b=true:=by cases b<;>simp[mN]at h ⊢
theorem tn {b:Bool} (h:mN b≤0):b=false:=by cases b<;>simp[mN]at h ⊢
theorem tp {t:TypeId} {kd:KD} (h:nC C.P t=some kd):∃kt et d,C.P.underlying t=some (.map kt et)∧C.P.underlying kt=some d∧xr d=some kd:=by
 unfold nC at h;split at h
 ·rename_i kt et hu;split at h
  ·rename_i d hd;exact⟨kt,et,d,hu,hd,h⟩
  cases h
 cases h
theorem vH {t:TypeId} (hW:Wd C w0 S γ μ w) (ho:o.op= .makeMap t none):cq C w0 o a S γ (.map μ.length 0) (μ++[⟨[],0,0,0,false⟩]) w:=by
 obtain⟨hW',hE⟩:=hW.HQ;refine⟨.value (.map (some w.heap.size)),_,_,S,_,?_,.inl rfl,hE,hW',.map _ _ _ _ w.heap.size (eV _ _ _) (Nat.le_refl _) rfl fun _=>rfl⟩;simp[execOp,ho,run_makeMap_plain]
theorem qM (hW:Wd C w0 S γ μ w) {b g:Nat} {k:dI} {u:Value} (hk:μ[b]?=some k) (hz:k.sz=0) (hg:g=k.gen) (hv:VR w S γ (.map b g) u) :
  ∃e es clock,γ b=some e∧u= .map (some e.cb)∧w.heap[e.cb]?=some (.map es clock)∧PW (VR w S γ) k.cells (fc es.toList)∧MapKept.Stamped es clock:=by
 obtain⟨e,he,hgen,-,⟨es,clock,h1,h2,h3⟩,-⟩:=hW.mem.mp b k hk hz;cases hv with
 |map _ _ _ e' r hb hg' hv hs =>
  rw[he]at hb;injection hb with hb;subst hb
  exact⟨e,es,clock,he,hs (by omega),h1,h2,h3⟩
theorem uk (l:List MapEntry) (e:MapEntry):fc (l++[e])=fc l++[e.key,e.val]:=by
 induction l with
 |nil=>rfl
 |cons x r ih=>simp[fc,ih]
theorem PW.EA {α β:Type} {R:α→β→Prop} {l l':List α} {m m':List β} (h:PW R l m) (h':PW R l' m'):PW R (l++l') (m++m') :=
 ⟨by simp[h.len,h'.len],fun i a b ha hb=>by
  by_cases hi:i<l.length
  ·rw[List.getElem?_append_left hi]at ha;rw[List.getElem?_append_left (by rw[←h.len];exact hi)]at hb;exact h.at_ i a b ha hb
  rw[List.getElem?_append_right (by omega)]at ha;rw[List.getElem?_append_right (by rw[←h.len];omega),←h.len]at hb;exact h'.at_ _ a b ha hb⟩
theorem nN {t:TypeId} {m k x:Operand} {m' k' x':cn} {add:Bool} {kd:KD} {b g:Nat} {e:dI} {key:PV} (hW:Wd C w0 S γ μ w) (ho:o.op= .mapUpdate t m k x∨o.op= .insert t m k x) (hkd:nC C.P t=some kd) (hm:aB m=some m') (hk:aB k=some k') (hx:aB x=some x')
  (hp:ev f m'= .map b g) (hq:ev f k'= .pv key) (he:μ[b]?=some e) (hz:e.sz=0) (hfz:e.frozen=false) (hlk:eh kd key=true) (hg:g=e.gen) (hok:bj kd e.cells=true) (hadd:(add&&bY e.cells key)=false)
  (hf:Reads w S γ f a (.mapSet add kd m' k' x')):cq C w0 o a S γ .any (μ.set b {e with cells:=bif add then e.cells++[.pv key,ev f x'] else lF e.cells key (ev f x')}) w:=by
 have k1:=aO (w:=w) (S:=S) (γ:=γ) hm fun t ht=>hf t (by simp[tmpsOf,ht])
 have k2:=aO (w:=w) (S:=S) (γ:=γ) hk fun t ht=>hf t (by simp[tmpsOf,ht])
 have k3:=aO (w:=w) (S:=S) (γ:=γ) hx fun t ht=>hf t (by simp[tmpsOf,ht])
 rw[hp]at k1;rw[hq]at k2;have k2:=cB k2;obtain⟨en,es,clock,h1,h2,h3,h4,h5⟩:=qM hW he hz hg k1;obtain⟨kt,et,d,u1,u2,u3⟩:=tp hkd;have hkey:=vG u3 hlk k2;have hop:(execOp a.eval o).run C.P w=(do Instr.mapUpdate t (.map (some en.cb)) (a.eval k) (a.eval x);pure Next.skip:Sem Next).run C.P w:=by
  rcases ho with ho|ho<;>simp only[execOp,ho,h2]
 rcases qL u3 hlk k2 es.toList e.cells 0 h4 hok with⟨f1,f2,f3,f4,f5⟩|⟨j,e',f1,f2,f3,f4,f5,f6⟩
 ·have hcells:(bif add then e.cells++[.pv key,ev f x'] else lF e.cells key (ev f x'))=e.cells++[.pv key,ev f x']:=by cases add<;>simp[f4]
  rw[hcells];have hpw:PW (VR w S γ) (e.cells++[.pv key,ev f x']) (fc (es.push {key:=a.eval k,val:=a.eval x,born:=clock}).toList):=by
   rw[Array.toList_push,uk];exact h4.EA (PW.two (.pv _ _ k2) k3 ⟨rfl,fun i _ _ h=>by simp at h⟩)
  obtain⟨hW',hE⟩:=hW.vF (clock':=clock+1) he h1 h3 hz hfz hpw (MapKept.stamped_push h5 f5);refine⟨.skip,undef,_,S,γ,?_,.inr ⟨rfl,rfl⟩,hE,hW',.any _⟩;rw[hop];simp[Instr.mapUpdate,run_underlying u1,MapKept.run_getObj_map h3,MapKept.run_checkKey u2 hkey,MapKept.run_findKey u2 f2,MapKept.run_setObj_map _ h3,Result.andThen]
 have hadd':add=false:=by rw[f1]at hadd;simpa using hadd
 subst hadd';simp only[cond_false];have hj:es[j]?=some e':=by simpa using f3
 have hpw:=f6 _ _ k3;rw[←Array.toList_modify]at hpw;have hkk:∀e'':MapEntry,es[j]?=some e''→({e'' with key:=a.eval k,val:=a.eval x}:MapEntry).key=e''.key:=fun e'' he'=>by rw[hj]at he';cases he';exact f4.symm
 obtain⟨hW',hE⟩:=hW.vF (clock':=clock) he h1 h3 hz hfz hpw (MapKept.stamped_modify h5 _ _ (fun _ _=>rfl) fun e'' _ he'=>hkk e'' he');refine⟨.skip,undef,_,S,γ,?_,.inr ⟨rfl,rfl⟩,hE,hW',.any _⟩;rw[hop];have f2':Instr.findNow d (a.eval k) es.toList 0=some (some (j,e'.val)):=by simpa using f2
 simp[Instr.mapUpdate,run_underlying u1,MapKept.run_getObj_map h3,MapKept.run_checkKey u2 hkey,MapKept.run_findKey u2 f2',hj,f4,MapKept.run_keyThatStays hkey,MapKept.run_setObj_map _ h3,Result.andThen]
theorem vI {t:TypeId} {z:PV} {kt et:TypeId} (hu:C.P.underlying t=some (.map kt et)) (h:nD C.P t=some z):∃v,(zeroValue et).run C.P w= .ok v w∧Is w S z v:=by
 unfold nD at h;rw[hu]at h;simp only[zeroV]at h;split at h
 ·rename_i i hi;split at h
  ·rename_i v hv;exact⟨v,by simp[zeroValue,typeInfo,hi,hv],yU h w S⟩
  cases h
 cases h
theorem tq {x y:AV} {u v:Value} (h1:VR w S γ x u) (h2:VR w S γ y v):VR w S γ (iM [x,y]) (.tuple #[u,v]):=by
 have hp:PW (VR w S γ) [x,y] [u,v]:=PW.two h1 h2 ⟨rfl,fun i _ _ h=>by simp at h⟩;unfold iM;split
 ·rename_i ps hps;have:=gm hps;rw[this]at hp;have hq:=PW.mo hp;exact .pv _ _ (.tup ps [u,v] hq.len hq.at_)
 exact .tup [x,y] [u,v] hp.len hp.at_
theorem xH {t:TypeId} {kd:KD} {zero key:PV} {kv:Value} {cells:List AV} {r clock:Nat} {es:Array MapEntry} {ok:Bool} (hkd:nC C.P t=some kd) (hz:nD C.P t=some zero) (hlk:eh kd key=true) (hk:Is w S key kv)
  (hh:w.heap[r]?=some (.map es clock)) (hp:PW (VR w S γ) cells (fc es.toList)) (hok:bj kd cells=true) :
  ∃u,(Instr.lookup t (.map (some r)) kv ok).run C.P w= .ok u w∧VR w S γ (bif ok then iM [bN cells key (.pv zero),.pv (.bool (bY cells key))] else bN cells key (.pv zero)) u:=by
 obtain⟨kt,et,d,u1,u2,u3⟩:=tp hkd;have hkey:=vG u3 hlk hk;rcases qL (γ:=γ) u3 hlk hk es.toList cells 0 hp hok with⟨f1,f2,f3,f4,f5⟩|⟨j,e',f1,f2,f3,f4,f5,f6⟩
 ·obtain⟨z,hz1,hz2⟩:=vI (w:=w) (S:=S) u1 hz;cases ok with
  |true =>
   refine⟨.tuple #[z,.bool false],?_,?_⟩
   ·simp[Instr.lookup,run_underlying u1,MapKept.run_getObj_map hh,MapKept.run_checkKey u2 hkey,MapKept.run_findKey u2 f2,hz1,Result.andThen]
   rw[cond_true,f3,f1];exact tq (.pv _ _ hz2) (.pv _ _ (.bool _))
  |false =>
   refine⟨z,?_,?_⟩
   ·simp[Instr.lookup,run_underlying u1,MapKept.run_getObj_map hh,MapKept.run_checkKey u2 hkey,MapKept.run_findKey u2 f2,hz1,Result.andThen]
   rw[cond_false,f3];exact .pv _ _ hz2
 cases ok with
 |true =>
  refine⟨.tuple #[e'.val,.bool true],?_,?_⟩
  ·simp[Instr.lookup,run_underlying u1,MapKept.run_getObj_map hh,MapKept.run_checkKey u2 hkey,MapKept.run_findKey u2 f2,Result.andThen]
  rw[cond_true,f1];exact tq (f5 _) (.pv _ _ (.bool _))
 |false =>
  refine⟨e'.val,?_,?_⟩
  ·simp[Instr.lookup,run_underlying u1,MapKept.run_getObj_map hh,MapKept.run_checkKey u2 hkey,MapKept.run_findKey u2 f2,Result.andThen]
  rw[cond_false];exact f5 _
theorem nO {t:TypeId} {x k:Operand} {x' k':cn} {ok:Bool} {kd:KD} {zero key:PV} {cells:List AV} (hW:Wd C w0 S γ μ w) (ho:o.op= .lookup t x k ok) (hkd:nC C.P t=some kd) (hz:nD C.P t=some zero) (hx:aB x=some x') (hk:aB k=some k')
  (hq:ev f k'= .pv key) (hlk:eh kd key=true) (hok:bj kd cells=true)
  (hp:(∃b g e,ev f x'= .map b g∧μ[b]?=some e∧e.sz=0∧g=e.gen∧cells=e.cells)∨(∃l,ev f x'= .pv (.mp l)∧cells=l.map .pv))
  (hf:Reads w S γ f a (.mapGet ok kd zero x' k')):cq C w0 o a S γ (bif ok then iM [bN cells key (.pv zero),.pv (.bool (bY cells key))] else bN cells key (.pv zero)) μ w:=by
 have k1:=aO (w:=w) (S:=S) (γ:=γ) hx fun t ht=>hf t (by simp[tmpsOf,ht])
 have k2:=aO (w:=w) (S:=S) (γ:=γ) hk fun t ht=>hf t (by simp[tmpsOf,ht])
 rw[hq]at k2;have k2:=cB k2;have hm:∃r es clock,a.eval x= .map (some r)∧w.heap[r]?=some (.map es clock)∧PW (VR w S γ) cells (fc es.toList):=by
  rcases hp with⟨b,g,e,h1,h2,h3,h4,rfl⟩|⟨l,h1,rfl⟩
  ·rw[h1]at k1;obtain⟨en,es,clock,-,g2,g3,g4,-⟩:=qM hW h2 h3 h4 k1;exact⟨en.cb,es,clock,g2,g3,g4⟩
  rw[h1]at k1;have k1:=cB k1;generalize a.eval x=xv at k1;cases k1 with
  |mp _ r es clock hS hh hl hat=>exact⟨r,es,clock,rfl,hh,PW.iP ⟨hl,hat⟩⟩
 obtain⟨r,es,clock,h1,h2,h3⟩:=hm;obtain⟨u,g1,g2⟩:=xH (ok:=ok) hkd hz hlk k2 h2 h3 hok;refine .same hW (u:=u) ?_ g2;simp only[execOp,ho,h1,g1,Sem.run_bind,Result.andThen_ok,Sem.run_pure]
theorem qN:∀(l:List MapEntry) (cells:List AV),PW (VR w S γ) cells (fc l)→ju cells=l.length
 |[],cells,h=>by
  have:cells=[]:=List.length_eq_zero_iff.mp h.len;subst this;rfl
 |e::r,cells,h=>by
  obtain⟨k,v,cr,rfl,-,-,h3⟩:=h.FQ;simp only[ju,List.length_cons,qN r cr h3]
theorem qO {x:Operand} {x':cn} {t kt et:TypeId} {cells:List AV} (hW:Wd C w0 S γ μ w) (ho:o.op= .call {callee:=.builtin .len,args:=#[x],argTypes:=#[t]}) (hx:aB x=some x') (hu:C.P.underlying t=some (.map kt et))
  (hp:(∃b g e,ev f x'= .map b g∧μ[b]?=some e∧e.sz=0∧g=e.gen∧cells=e.cells)∨(∃l,ev f x'= .pv (.mp l)∧cells=l.map .pv))
  (hf:Reads w S γ f a (.lenM x')):cq C w0 o a S γ (.pv (.int .i64 (ju cells))) μ w:=by
 have k1:=aO (w:=w) (S:=S) (γ:=γ) hx fun t ht=>hf t (by simpa [tmpsOf]using ht)
 have hm:∃r es clock,a.eval x= .map (some r)∧w.heap[r]?=some (.map es clock)∧PW (VR w S γ) cells (fc es.toList):=by
  rcases hp with⟨b,g,e,h1,h2,h3,h4,rfl⟩|⟨l,h1,rfl⟩
  ·rw[h1]at k1;obtain⟨en,es,clock,-,g2,g3,g4,-⟩:=qM hW h2 h3 h4 k1;exact⟨en.cb,es,clock,g2,g3,g4⟩
  rw[h1]at k1;have k1:=cB k1;generalize a.eval x=xv at k1;cases k1 with
  |mp _ r es clock hS hh hl hat=>exact⟨r,es,clock,rfl,hh,PW.iP ⟨hl,hat⟩⟩
 obtain⟨r,es,clock,h1,h2,h3⟩:=hm;refine .same hW (u:=.int .i64 (ju cells)) ?_ (.pv _ _ (.int _ _));rw[qN _ _ h3];simp[execOp,ho,resolve,invoke,builtin,Builtin.len_,run_underlying hu,h1,MapKept.run_getObj_map h2,goInt,Result.andThen]
end
end
section
section
variable {C:Ctx} {w0 w:World} {S:Nat→Prop} {γ:Gh} {μ:AM} {f:AF} {a:Act} {o:Oper}
theorem ik {s x:Operand} {t t':TypeId} {v u r:Value} {w':World} (ho:o.op= .call {callee:=.builtin .append,args:=#[s,x],argTypes:=#[t,t']}) (hs:a.eval s=v) (hx:a.eval x=u)
  (hr:(Builtin.append_ #[t,t'] o.type #[v,u]).run C.P w= .ok r w'):(execOp a.eval o).run C.P w= .ok (.value r) w':=by
 simp only[execOp,ho,resolve,invoke,builtin,Sem.run_bind,Sem.run_pure,Result.andThen_ok,List.map_toArray,List.map_cons,List.map_nil,hs,hx,hr]
theorem vJ (l:List UInt8):PW (VR w S γ) (jL l) (Lib.strCells ⟨l.toArray⟩):=by
 refine⟨by simp[jL,Lib.strCells],fun i x y hx hy=>?_⟩;simp only[jL,Lib.strCells,List.getElem?_map,Option.map_eq_some_iff]at hx hy;obtain⟨c,hc,rfl⟩:=hx;obtain⟨d,hd,rfl⟩:=hy;rw[hc]at hd;injection hd with hd
 subst hd;exact .pv _ _ (.int _ _)
theorem dZ (l:List UInt8):(ByteArray.mk l.toArray).size=l.length:=by simp[ByteArray.size]
theorem km {t u ty e:TypeId} {i:TypeInfo} (ht:C.P.underlying t=some (.slice e)) (hu:C.P.underlying u=some .string) (hi:C.P.info? e=some i) {base:Option Addr} {n cap:Nat} (hn:n≤cap) :
  (Builtin.append_ #[t,u] ty #[.slice base n cap,.string ⟨#[]⟩]).run C.P w= .ok (.slice base n cap) w:=by
 have:(ByteArray.mk #[]).size=0:=rfl;cases base <;>
  simp[Builtin.append_,run_underlying ht,run_underlying hu,sizeOf,typeInfo,hi,Builtin.lenOf,hn,Builtin.firstCells,loadCells,loadCellsFrom,storeCells,this]
theorem oQ (l:List UInt8):(jL l).length=l.length:=by simp[jL]
theorem lL {s x:Operand} {s' x':cn} {t u e:TypeId} {i:TypeInfo} {l:List UInt8} (hW:Wd C w0 S γ μ w) (ho:o.op= .call {callee:=.builtin .append,args:=#[s,x],argTypes:=#[t,u]})
  (hs:aB s=some s') (hx:aB x=some x') (ht:C.P.underlying t=some (.slice e)) (hu:C.P.underlying u=some .string) (hi:C.P.info? e=some i) (hz:i.zero=some (.int .u8 0)) (hsz:i.size=1) (hby:i.bytes=1)
  (hp:ev f s'= .pv .nilsl) (hsrc:ev f x'= .pv (.str l)) (hf:Reads w S γ f a (.appS s' x' e)) :
  (l.length=0→cq C w0 o a S γ (.pv .nilsl) μ w)∧(1≤l.length→l.length≤140737488355328→cq C w0 o a S γ (.ref μ.length 0 0 l.length) (μ++[⟨jL l,0,1,e,false⟩]) w):=by
 have k1:=aO (w:=w) (S:=S) (γ:=γ) hs fun t ht=>hf t (by simp[tmpsOf,ht])
 have k2:=aO (w:=w) (S:=S) (γ:=γ) hx fun t ht=>hf t (by simp[tmpsOf,ht])
 rw[hp]at k1;rw[hsrc]at k2;have k1:=iG k1;have k2:=jy k2;refine⟨fun hm=>?_,fun hm hb=>?_⟩
 ·have hl:l=[]:=List.length_eq_zero_iff.mp hm;subst hl;exact .same hW (u:=.slice none 0 0) (ik ho k1 k2 (km ht hu hi (Nat.le_refl _))) (.pv _ _ .nilsl)
 have hr:=run_append_nil_string (P:=C.P) (w:=w) t u o.type e i (.int .u8 0) ht hu hi hz ⟨l.toArray⟩ (by rw[dZ];omega) (by rw[dZ];omega) (by rw[dZ,hby];omega);rw[dZ]at hr;obtain⟨hW1,hE1⟩:=hW.drew;have hpw:=vJ (w:=w) (S:=S) (γ:=γ) l;obtain⟨hW2,hE2⟩:=hW1.HP (avs:=jL l) (cs:=Lib.strCells ⟨l.toArray⟩++(Builtin.zeroCells (Value.int .u8 0).cells (grownCap w l.length 0 e-l.length)).toList) (elem:=e) 1 (by decide) (by rw[List.length_append];have:=hpw.len;omega) fun j y hy=>by
  have hj:j<(Lib.strCells ⟨l.toArray⟩).length:=by rw[←hpw.len];exact(List.getElem?_eq_some_iff.mp hy).1
  refine⟨(Lib.strCells ⟨l.toArray⟩)[j],?_,(hpw.at_ j y _ hy (List.getElem?_eq_getElem hj)).ext hE1,Lib.strCells_oneCell _ _ (List.getElem_mem hj)⟩;rw[List.getElem?_append_left hj,List.getElem?_eq_getElem hj]
 have hco:(Lib.strCells ⟨l.toArray⟩++(Builtin.zeroCells (Value.int .u8 0).cells (grownCap w l.length 0 e-l.length)).toList).toArray=(ByteArray.mk l.toArray).data.map (fun b=>Value.int .u8 b.toNat)++Builtin.zeroCells (Value.int .u8 0).cells (grownCap w l.length 0 e-l.length):=by
  apply Array.ext';simp[Lib.strCells]
 rw[hco]at hW2 hE2;have hmm:l.length≤maxLen:=by simp only[maxLen];omega
 have hge:=grownCap_ge w l.length 0 e;refine⟨_,_,_,S,_,ik ho k1 k2 hr,.inl rfl,hE1.trans hE2,hW2,.ref _ _ _ _ _ _ ⟨w.heap.size,0,none⟩ (grownCap w l.length 0 e) (eV _ _ _) (Nat.le_refl _) ⟨rfl,hge⟩ fun _=>.inl ⟨grownCap w l.length 0 e,rfl,?_,hge,grownCap_le_maxLen w l.length 0 e hmm⟩⟩;have hzc:(Value.int .u8 0).cells.size=1:=rfl;show 0+grownCap w l.length 0 e*1=(Lib.strCells ⟨l.toArray⟩++(Builtin.zeroCells (Value.int .u8 0).cells (grownCap w l.length 0 e-l.length)).toList).length
 have hzl:(Builtin.zeroCells (Value.int .u8 0).cells (grownCap w l.length 0 e-l.length)).toList.length=grownCap w l.length 0 e-l.length:=by
  rw[Array.length_toList,size_zeroCells,hzc];omega
 rw[List.length_append,Lib.strCells_length,dZ,hzl];omega
theorem qP {s x:Operand} {s' x':cn} {t u e:TypeId} {i:TypeInfo} {l:List UInt8} {n b g:Nat} {k:dI} (hW:Wd C w0 S γ μ w) (ho:o.op= .call {callee:=.builtin .append,args:=#[s,x],argTypes:=#[t,u]})
  (hs:aB s=some s') (hx:aB x=some x') (ht:C.P.underlying t=some (.slice e)) (hu:C.P.underlying u=some .string) (hi:C.P.info? e=some i) (hz:i.zero=some (.int .u8 0)) (hsz:i.size=1) (hby:i.bytes=1)
  (hp:ev f s'= .ref b g 0 n) (hk:μ[b]?=some k) (hfz:k.frozen=false) (hksz:k.sz=1) (hkel:k.elem=e) (hg:g=k.gen) (hnl:n=k.cells.length)
  (hsrc:ev f x'= .pv (.str l)) (hb:n+l.length≤140737488355328) (hf:Reads w S γ f a (.appS s' x' e)) :
  cq C w0 o a S γ (.ref b (k.gen+1) 0 (n+l.length)) (μ.set b {k with cells:=k.cells++jL l,gen:=k.gen+1}) w:=by
 have k1:=aO (w:=w) (S:=S) (γ:=γ) hs fun t ht=>hf t (by simp[tmpsOf,ht])
 have k2:=aO (w:=w) (S:=S) (γ:=γ) hx fun t ht=>hf t (by simp[tmpsOf,ht])
 rw[hp]at k1;rw[hsrc]at k2;have hxv:=jy k2;have hpw:=vJ (w:=w) (S:=S) (γ:=γ) l;have hone:=Lib.strCells_oneCell ⟨l.toArray⟩;obtain⟨en,cs0,he,hgen,hesz,hheap,hcs,hkl,hcells,hB,hS⟩:=hW.mem.blk b k hk (by omega);replace hheap:=hheap.free hfz;have hshape:∃cap,a.eval s= .slice (some ⟨en.cb,0,none⟩) n cap∧0+cap*en.sz=en.cap∧n≤cap∧cap≤maxLen:=by
  generalize a.eval s=sv at k1;cases k1 with
  |ref _ _ _ _ _ e' ad c hb hg' hvc' hs' =>
   rw[he]at hb;injection hb with hb;subst hb
   rcases hs' (by omega) with h|⟨-,h,-⟩
   ·exact h
   omega
 obtain⟨cap,hsv,hcapc,hncap,hcapm⟩:=hshape;subst hkel;have hmm:n+l.length≤maxLen:=by simp only[maxLen];omega
 have hVR:∀{γ':Gh} {c':Nat} {cb sz' cap':Nat},γ' b=some ⟨k.gen+1,cb,cap',sz'⟩→c'*sz'=cap'→n+l.length≤c'→c'≤maxLen→∀{w'},VR w' S γ' (.ref b (k.gen+1) 0 (n+l.length)) (.slice (some ⟨cb,0,none⟩) (n+l.length) c'):=by
  intro γ' c' cb sz' cap' h1 h2 h3 h4 w';exact .ref _ _ _ _ _ _ ⟨cb,0,none⟩ c' h1 (Nat.le_refl _) ⟨rfl,h3⟩ fun _=>.inl ⟨c',rfl,(Nat.zero_add _).trans h2,h3,h4⟩
 have hkcs:cs0.size=cap:=by rw[hcs,←hcapc,hesz,hksz];omega
 have hnew:(Lib.strCells ⟨l.toArray⟩).length=l.length:=by rw[Lib.strCells_length,dZ]
 generalize hnews:Lib.strCells ⟨l.toArray⟩=news at *;have hVRn:∀(ncs:Array Value),(∀j:Nat,j<n→ncs[j]?=cs0[j]?)→(∀j:Nat,j<l.length→ncs[n+j]?=news[j]?)→∀(j:Nat) y,(k.cells++jL l)[j]?=some y→∃v,ncs[j]?=some v∧VR w S γ y v∧v.oneCell'=true:=by
  intro ncs h1 h2 j y hy;by_cases hj:j<k.cells.length
  ·rw[List.getElem?_append_left hj]at hy;obtain⟨v,g1,g2,g3⟩:=hcells j y hy;exact⟨v,by rw[h1 j (by omega)];exact g1,g2,g3⟩
  rw[List.getElem?_append_right (by omega)]at hy;have hjm:j-k.cells.length<l.length:=by rw[←oQ l];exact(List.getElem?_eq_some_iff.mp hy).1
  have h3:=h2 (j-k.cells.length) hjm;rw[show n+(j-k.cells.length)=j by omega]at h3;have hjn:j-k.cells.length<news.length:=by omega
  exact⟨news[j-k.cells.length],by rw[h3,List.getElem?_eq_getElem hjn],hpw.at_ _ y _ hy (List.getElem?_eq_getElem hjn),hone _ (List.getElem_mem hjn)⟩
 by_cases hroom:n+l.length≤cap
 ·have hr:=Lib.run_append_room_string (P:=C.P) (w:=w) t u o.type k.elem i ht hu hi hsz en.cb n cap cs0 hheap ⟨l.toArray⟩ (by rw[dZ];exact hroom) (by rw[dZ];omega);rw[dZ,hnews]at hr;generalize hnc:(cs0.toList.take n++news++cs0.toList.drop (n+l.length)).toArray=ncs at hr;have hncs:ncs.size=cs0.size:=by
   rw[←hnc];simp only[List.size_toArray,List.length_append,List.length_take,List.length_drop,Array.length_toList];omega
  obtain⟨hW',hE⟩:=hW.move (avs:=k.cells++jL l) (ncs:=ncs) (cb:=en.cb) (w':=w.setRow en.cb ncs) hk he (by omega) hfz rfl rfl rfl (by simp) (fun g _ h=>setRow_other w en.cb g ncs h) (.inl rfl) (setRow_heap w en.cb cs0 ncs k.elem (0,0) hheap)
   (by rw[List.length_append,hncs,oQ];omega) (hVRn ncs (fun j hj=>by
    rw[←hnc,List.getElem?_toArray,List.append_assoc,List.getElem?_append_left (by simp;omega),List.getElem?_take,if_pos hj,Array.getElem?_toList]) fun j hj=>by
    rw[←hnc,List.getElem?_toArray,List.getElem?_append_left (by simp;omega),List.getElem?_append_right (by simp;omega)];congr 1;simp;omega)
  exact⟨_,_,_,S,_,ik ho hsv hxv hr,.inl rfl,hE,hW',hVR (dO _ _ _) (by rw[hksz,hncs];omega) hroom hcapm⟩
 have holdl:(cs0.toList.take n).length=n*i.size:=by rw[hsz,List.length_take,Array.length_toList];omega
 have hr:=Lib.run_append_grow_string (P:=C.P) (w:=w) t u o.type k.elem i (.int .u8 0) ht hu hi hz ⟨en.cb,0,none⟩ n cap (cs0.toList.take n) holdl (fun j v hj=>by
  rw[List.getElem?_take]at hj;split at hj
  ·rw[Addr.add_lit,Nat.zero_add,World.cell?,hheap];rw[Array.getElem?_toList]at hj;exact hj
  cases hj) ⟨l.toArray⟩ (by rw[dZ];omega) (by rw[dZ];omega) (by rw[dZ];exact growslice_fits (by omega) (by rw[hby];omega))
 rw[dZ,hnews]at hr;have hge:=grownCap_ge w (n+l.length) cap k.elem;have hgm:=grownCap_le_maxLen w (n+l.length) cap k.elem hmm;generalize hG:grownCap w (n+l.length) cap k.elem=G at hr hge hgm;have hzc:(Value.int .u8 0).cells.size=1:=rfl;generalize hnc:(cs0.toList.take n).toArray++news.toArray++Builtin.zeroCells (Value.int .u8 0).cells (G-(n+l.length))=ncs at hr;have hncs:ncs.size=G:=by
  rw[←hnc];simp only[Array.size_append,List.size_toArray,size_zeroCells,hzc,holdl,hnew,hsz];omega
 obtain⟨hW',hE⟩:=hW.move (avs:=k.cells++jL l) (ncs:=ncs) (cb:=w.heap.size) (w':=w.drew.alloc (.cells ncs k.elem)) hk he (by omega) hfz rfl rfl rfl (by simp) (fun g hg _=>Below.heap_alloc w.drew _ g hg) (.inr (Nat.le_refl _)) (heap_alloc_new w.drew _)
  (by rw[List.length_append,hncs,oQ];omega) (hVRn ncs (fun j hj=>by
   rw[←hnc,Array.append_assoc,Array.getElem?_append_left (by simp;omega),List.getElem?_toArray,List.getElem?_take,if_pos hj,Array.getElem?_toList]) fun j hj=>by
   rw[←hnc,Array.getElem?_append_left (by simp;omega),Array.getElem?_append_right (by simp;omega),List.getElem?_toArray];congr 1;simp;omega)
 exact⟨_,_,_,S,_,ik ho hsv hxv hr,.inl rfl,hE,hW',hVR (dO _ _ _) (by rw[hksz,hncs];omega) hge hgm⟩
end
end
section
section
variable {C:Ctx} {w0 w:World} {S:Nat→Prop} {γ:Gh} {μ:AM} {f:AF} {a:Act} {o:Oper}
theorem map_some {α β:Type} {x:Option α} {g:α→β} {y:β} (h:x.map g=some y):∃z,x=some z∧g z=y:=by
 cases x with
 |none=>cases h
 |some z=>exact⟨z,rfl,by simpa using h⟩
theorem ew {l m:VC} (h:aI (l++m)):aI l∧aI m:=by
 induction l with
 |nil=>exact⟨trivial,h⟩
 |cons x r ih =>
  obtain⟨p,q⟩:=x;obtain⟨h1,h2⟩:=h;exact⟨⟨h1,(ih h2).1⟩,(ih h2).2⟩
theorem aS {α β γ:Type} {a a':α} {b b':β} {c c':γ} (h:some (a,b,c)=some (a',b',c')):a=a'∧b=b'∧c=c':=by
 injection h with h;injection h with h1 h2;injection h2 with h2 h3;exact⟨h1,h2,h3⟩
theorem tr {op:BinOp} {xt yt:TypeId} {x y:Operand} {a1 b1:cn} {mode:Nat} {vc:VC} {v:AV} {μ':AM} (hW:Wd C w0 S γ μ w) (ho:o.op= .binOp op xt x y yt) (h1:aB x=some a1) (h2:aB y=some b1)
  (he:cT f μ mode (.bin op a1 b1)=some (vc,v,μ')) (hvc:aI vc) (hf:Reads w S γ f a (.bin op a1 b1)):cq C w0 o a S γ v μ' w:=by
 simp only[cT]at he;split at he
 ·rename_i p q hp hq;split at he
  ·rename_i vc' r hr;obtain⟨rfl,rfl,rfl⟩:=aS he;exact Ab hW ho h1 h2 hp hq hr hvc hf
  cases he
 cases he
theorem bE {α:Type} {b:Bool} {x:α} {y:Option α} (h:(bif b then none else y)=some x):b=false∧y=some x:=by
 cases b with
 |true=>cases h
 |false=>exact⟨rfl,h⟩
theorem aQ {α:Type} {b:Bool} {x:α} {y:Option α} (h:(bif b then y else none)=some x):b=true∧y=some x:=by
 cases b with
 |true=>exact⟨rfl,h⟩
 |false=>cases h
theorem qQ {α β δ:Type} {b c:Bool} {x:Option α} {y:Option β} {f:α→δ} {g:β→δ} {k:δ} (h:(bif b then x.map f else bif c then y.map g else none)=some k):(∃z,f z=k)∨(∃z,g z=k):=by
 cases b with
 |true=>obtain⟨z,_,h2⟩:=map_some h;exact .inl ⟨z,h2⟩
 |false =>
  cases c with
  |true=>obtain⟨z,_,h2⟩:=map_some h;exact .inr ⟨z,h2⟩
  |false=>cases h
theorem tt {mx:Bool} {p q r:PV} (h:sS mx p q=some r):∃k a b,p= .int k a∧q= .int k b∧r= .int k (bif mx then (if a<b then b else a) else (if b<a then b else a)):=by
 unfold sS at h;split at h
 ·obtain⟨hk,h2⟩:=aQ h;have:=uf hk;subst this;injection h2 with h2
  exact⟨_,_,_,rfl,rfl,h2.symm⟩
 cases h
theorem sW {op:BinOp} {xt yt:TypeId} {x y:Operand} {k:K} {mode:Nat} {vc:VC} {v:AV} {μ':AM} (hW:Wd C w0 S γ μ w) (ho:o.op= .binOp op xt x y yt) (hk:ie C.P op xt x y=some k)
  (he:cT f μ mode k=some (vc,v,μ')) (hvc:aI vc) (hf:Reads w S γ f a k):cq C w0 o a S γ v μ' w:=by
 unfold ie at hk;split at hk
 ·split at hk
  ·rename_i a1 b1 h1 h2;injection hk with hk;subst hk
   exact tr hW ho h1 h2 he hvc hf
  cases hk
 ·split at hk
  ·rename_i a1 b1 h1 h2;injection hk with hk;subst hk
   exact tr hW ho h1 h2 he hvc hf
  cases hk
 ·rename_i hu;have fin:∀{a1 b1:cn},aB x=some a1→aB y=some b1→k= .binB op a1 b1→cq C w0 o a S γ v μ' w:=by
   intro a1 b1 h1 h2 hkk;subst hkk;simp only[cT]at he;split at he
   ·rename_i p q hp hq;split at he
    ·rename_i vc' r hr;obtain⟨rfl,rfl,rfl⟩:=aS he;exact xy hW ho h1 h2 hp hq hr hu hf
    cases he
   cases he
  split at hk
  ·rename_i h1 h2;injection hk with hk
   exact fin h1 h2 hk.symm
  ·rename_i h1 h2;injection hk with hk
   exact fin h1 h2 hk.symm
  cases hk
 ·rename_i fs hu;obtain⟨hb,hk⟩:=bE hk;simp only[Bool.or_eq_false_iff]at hb;have fin:∀{neg:Bool} {l:List (Nat×Nat)} {a1 b1:cn},fx C.P fs.toList=some l→aB x=some a1→aB y=some b1→k= .eqA neg l a1 b1→((op= .eql∧neg=false)∨(op= .neq∧neg=true))→cq C w0 o a S γ v μ' w:=by
   intro neg l a1 b1 h0 h1 h2 hkk hop;subst hkk;simp only[cT]at he;split at he
   ·rename_i l' m' hp hq;split at he
    ·rename_i b hr;obtain⟨rfl,rfl,rfl⟩:=aS he;exact Ac hW ho h1 h2 hu hb.1 hb.2 h0 hop hp hq hr hf
    cases he
   cases he
  split at hk
  ·injection hk with hk
   refine fin ?_ ?_ ?_ hk.symm (.inl ⟨rfl,rfl⟩)<;>assumption
  ·injection hk with hk
   refine fin ?_ ?_ ?_ hk.symm (.inr ⟨rfl,rfl⟩)<;>assumption
  cases hk
 ·rename_i d _ _ _ _ hu;have fin:∀{kk:Nat} {neg:Bool} {a1:cn},nA d y=some kk→aB x=some a1→k= .isnil kk neg a1→((op= .eql∧neg=false)∨(op= .neq∧neg=true))→cq C w0 o a S γ v μ' w:=by
   intro kk neg a1 h1 h2 hkk hop;subst hkk;simp only[cT]at he;split at he
   ·rename_i b hb;obtain⟨rfl,rfl,rfl⟩:=aS he;exact vy hW ho h2 hu h1 hop hb hf
   cases he
  split at hk
  ·rename_i h1 h2;injection hk with hk
   exact fin h1 h2 hk.symm (.inl ⟨rfl,rfl⟩)
  ·rename_i h1 h2;injection hk with hk
   exact fin h1 h2 hk.symm (.inr ⟨rfl,rfl⟩)
  cases hk
 cases hk
theorem nP {b:Builtin} {args:Array Operand} {argTypes:Array TypeId} {k:K} {mode:Nat} {vc:VC} {v:AV} {μ':AM} (hW:Wd C w0 S γ μ w) (ho:o.op= .call {callee:=.builtin b,args,argTypes})
  (hk:eT C.P b args.toList argTypes.toList=some k) (he:cT f μ mode k=some (vc,v,μ')) (hvc:aI vc) (hf:Reads w S γ f a k):cq C w0 o a S γ v μ' w:=by
 obtain⟨args⟩:=args;obtain⟨argTypes⟩:=argTypes;simp only at hk;unfold eT at hk;split at hk
 ·rename_i x t;split at hk;all_goals first
   |(cases hk;done)
   |(injection hk with hk;subst hk)
  ·rename_i e a1 hu h1;simp only[cT]at he;split at he
   ·rename_i hs;obtain⟨rfl,rfl,rfl⟩:=aS he;exact oM hW ho h1 hu (.inl ⟨hs,rfl⟩) hf
   ·rename_i n l hs;obtain⟨rfl,rfl,rfl⟩:=aS he;exact oM hW ho h1 hu (.inr (.inl ⟨l,hs⟩)) hf
   ·rename_i b1 g1 o1 n hs;obtain⟨rfl,rfl,rfl⟩:=aS he;exact oM hW ho h1 hu (.inr (.inr ⟨_,_,_,hs⟩)) hf
   cases he
  ·rename_i a1 hu h1;simp only[cT]at he;split at he
   ·rename_i s hs;obtain⟨rfl,rfl,rfl⟩:=aS he;exact xC hW ho h1 hu hs hf
   cases he
  rename_i kt et a1 hu h1;simp only[cT]at he;split at he
  ·rename_i b1 g1 hs;split at he
   ·rename_i e1 he1;obtain⟨hb,he⟩:=bE he;obtain⟨rfl,rfl,rfl⟩:=aS he;simp only[aI]at hvc;exact qO hW ho h1 hu (.inl ⟨b1,g1,e1,hs,he1,Nat.eq_of_beq_eq_true (by simpa using hb),by omega,rfl⟩) hf
   cases he
  ·rename_i l hs;obtain⟨rfl,rfl,rfl⟩:=aS he;exact qO hW ho h1 hu (.inr ⟨l,hs,rfl⟩) hf
  cases he
 ·rename_i x y ts;split at hk
  ·rename_i a1 b1 h1 h2;injection hk with hk;subst hk
   simp only[cT]at he;split at he
   ·rename_i p q hp hq;split at he
    ·rename_i r hr;obtain⟨rfl,rfl,rfl⟩:=aS he;obtain⟨k1,x1,y1,rfl,rfl,rfl⟩:=tt hr;exact nI (mx:=true) hW ho h1 h2 hp hq hf
    cases he
   cases he
  cases hk
 ·rename_i x y ts;split at hk
  ·rename_i a1 b1 h1 h2;injection hk with hk;subst hk
   simp only[cT]at he;split at he
   ·rename_i p q hp hq;split at he
    ·rename_i r hr;obtain⟨rfl,rfl,rfl⟩:=aS he;obtain⟨k1,x1,y1,rfl,rfl,rfl⟩:=tt hr;exact nI (mx:=false) hW ho h1 h2 hp hq hf
    cases he
   cases he
  cases hk
 ·rename_i x y t u;split at hk
  ·rename_i e a1 b1 hu h1 h2;split at hk
   ·rename_i s hs;obtain⟨-,hk⟩:=aQ hk;injection hk with hk;subst hk
    simp only[cT]at he;split at he
    ·rename_i vc' cs m hsrc;split at he
     ·rename_i b g off n hp;split at he
      ·rename_i kk hkk;obtain⟨hfl,he⟩:=bE he;simp only[Bool.or_eq_false_iff,Bool.not_eq_false']at hfl;obtain⟨rfl,rfl,rfl⟩:=aS he;obtain⟨g1,g2⟩:=ew hvc;simp only[aI]at g2;exact xG hW ho h1 h2 hu hs hp hkk (Nat.eq_of_beq_eq_true hfl.1.1.1) hfl.1.1.2 (Nat.ne_of_beq_eq_false hfl.1.2) (by have:=Nat.ne_of_beq_eq_false hfl.2;omega) (by omega) (by omega) (by omega) hsrc g1 hf
      cases he
     cases he
    cases he
   cases hk
  cases hk
 ·rename_i s x t u;split at hk
  ·rename_i e a1 b1 hu h1 h2 htu;have htu:=Nat.eq_of_beq_eq_true htu;subst htu;split at hk
   ·rename_i i z hi hz;obtain⟨hs1,hk⟩:=aQ hk;injection hk with hk;subst hk
    have h1s:1≤i.size:=Nat.le_of_ble_eq_true hs1;simp only[cT]at he;split at he
    ·rename_i vc' cs m hsrc;split at he
     ·rename_i hs;split at he
      ·obtain⟨rfl,rfl,rfl⟩:=aS he;obtain⟨g1,g2⟩:=ew hvc;exact(jO hW ho h1 h2 hu hi hz (by omega) rfl rfl hs hsrc g1 hf).1 (by have:=g2.1;omega)
      obtain⟨rfl,rfl,rfl⟩:=aS he;obtain⟨g1,g2⟩:=ew hvc;simp only[aI]at g2;exact(jO hW ho h1 h2 hu hi hz (by omega) rfl rfl hs hsrc g1 hf).2 (by omega) (by omega) (by omega)
     ·rename_i b g off n hs;split at he
      ·rename_i kk hkk;obtain⟨hfl,he⟩:=bE he;simp only[Bool.or_eq_false_iff,Bool.not_eq_false']at hfl;obtain⟨rfl,rfl,rfl⟩:=aS he;obtain⟨g1,g2⟩:=ew hvc;simp only[aI]at g2;have hoff:off=0:=by omega
       subst hoff;exact oP hW ho h1 h2 hu hi hz (by omega) rfl rfl hs hkk hfl.1.1 (Nat.eq_of_beq_eq_true hfl.1.2) (Nat.eq_of_beq_eq_true hfl.2) (by omega) (by omega) hsrc g1 (by omega) (by omega) hf
      cases he
     cases he
    cases he
   cases hk
  ·rename_i e a1 b1 hu h1 h2 htu;split at hk
   ·rename_i i hu2 hi;obtain⟨hc,hk⟩:=aQ hk;simp only[Bool.and_eq_true]at hc;injection hk with hk;subst hk
    have hs1:=Nat.eq_of_beq_eq_true hc.1;have hb1:=Nat.eq_of_beq_eq_true hc.2.1;have hz:=Er hc.2.2;simp only[cT]at he;split at he
    ·rename_i l hsrc;split at he
     ·rename_i hs;split at he
      ·obtain⟨rfl,rfl,rfl⟩:=aS he;exact(lL hW ho h1 h2 hu hu2 hi hz hs1 hb1 hs hsrc hf).1 (by have:=hvc.1;omega)
      obtain⟨rfl,rfl,rfl⟩:=aS he;simp only[aI]at hvc;exact(lL hW ho h1 h2 hu hu2 hi hz hs1 hb1 hs hsrc hf).2 (by omega) (by omega)
     ·rename_i b g off n hs;split at he
      ·rename_i kk hkk;obtain⟨hfl,he⟩:=bE he;simp only[Bool.or_eq_false_iff,Bool.not_eq_false']at hfl;obtain⟨rfl,rfl,rfl⟩:=aS he;simp only[aI]at hvc;have hoff:off=0:=by omega
       subst hoff;exact qP hW ho h1 h2 hu hu2 hi hz hs1 hb1 hs hkk hfl.1.1 (Nat.eq_of_beq_eq_true hfl.1.2) (Nat.eq_of_beq_eq_true hfl.2) (by omega) (by omega) hsrc (by omega) hf
      cases he
     cases he
    cases he
   cases hk
  cases hk
 cases hk
theorem tu {own:Bool} {k:K} {mode:Nat} {vc:VC} {v:AV} {μ':AM} (hW:Wd C w0 S γ μ w) (hk:jx C.P own o.op=some k) (he:cT f μ mode k=some (vc,v,μ')) (hvc:aI vc) (hf:Reads w S γ f a k):cq C w0 o a S γ v μ' w:=by
 generalize hop:o.op=op at hk;cases op;all_goals (simp only[jx]at hk)
 all_goals first
  |(cases hk;done)
  |skip
 case move x =>
  obtain⟨y,h1,rfl⟩:=map_some hk;obtain⟨rfl,rfl,rfl⟩:=aS he;exact vu hW (.inl hop) h1 hf
 case assign x =>
  obtain⟨y,h1,rfl⟩:=map_some hk;obtain⟨rfl,rfl,rfl⟩:=aS he;exact vu hW (.inr hop) h1 hf
 case pick c x y =>
  split at hk
  ·rename_i c' x' y' h1 h2 h3;injection hk with hk;subst hk
   simp only[cT]at he;split at he
   ·rename_i t ht;obtain⟨rfl,rfl,rfl⟩:=aS he;exact xw hW hop h1 h2 h3 ht hf
   cases he
  cases hk
 case alloc e =>
  obtain⟨z,h1,rfl⟩:=map_some hk;simp only[cT]at he;obtain⟨hb,he⟩:=bE he;obtain⟨rfl,rfl,rfl⟩:=aS he;exact vE hW hop h1 fun h=>by rw[h]at hb;cases hb
 case box e x =>
  split at hk
  ·rename_i x' s h1 h2;injection hk with hk;subst hk
   simp only[cT]at he;obtain⟨hb,he⟩:=aQ he;simp only[Bool.and_eq_true,Bool.not_eq_true']at hb;obtain⟨rfl,rfl,rfl⟩:=aS he;exact Ae hW hop h1 (fun h=>by rw[h]at hb;cases hb.1.1) hb.2 hf
  cases hk
 case build t parts =>
  split at hk
  ·rename_i fs z hu hz;split at hk
   ·rename_i qs hq;obtain⟨ps,hps,rfl⟩:=map_some hk;simp only[cT]at he;split at he
    ·rename_i cs hcs;obtain⟨rfl,rfl,rfl⟩:=aS he;exact mP hW hop hu hz hq hps hcs hf
    cases he
   cases hk
  ·rename_i n e z hu hz;split at hk
   ·rename_i s hs;obtain⟨ps,hps,rfl⟩:=map_some hk;simp only[cT]at he;split at he
    ·rename_i cs hcs;obtain⟨rfl,rfl,rfl⟩:=aS he;exact nL hW hop hu hz hs hps hcs hf
    cases he
   cases hk
  cases hk
 case buildSlice t len parts =>
  split at hk
  ·rename_i e hu;split at hk
   ·rename_i s z hs hz;obtain⟨hb,hk⟩:=aQ hk;simp only[Bool.and_eq_true]at hb;obtain⟨ps,hps,rfl⟩:=map_some hk;simp only[cT]at he;split at he
    ·rename_i cs hcs;have hboth:cq C w0 o a S γ (.ref μ.length 0 0 len) (μ++[⟨cs,0,s,e,false⟩]) w∧(∀ps,cG cs=some ps→cq C w0 o a S γ (.pv (.sl len ps)) μ w):=by
      by_cases hl0:len=0
      ·subst hl0;have hpe:parts=#[]:=by simpa using hb.2
       subst hpe;simp only[partsOf,Option.some.injEq]at hps;subst hps;simp only[cj,List.map_nil,dT,gH,Option.some.injEq]at hcs;subst hcs;obtain⟨g1,g2⟩:=xF (s:=s) (by have:=Nat.le_of_ble_eq_true hb.1.2;omega) hW hop rfl hu hs;refine⟨g1,fun ps hps=>?_⟩;simp only[cG,Option.some.injEq]at hps;subst hps;exact g2
      exact Af hW hop hu hs hz (Nat.le_of_ble_eq_true hb.1.1) (Nat.le_of_ble_eq_true hb.1.2) (by omega) hps hcs hf
     obtain⟨g1,g2⟩:=hboth;cases own with
     |true =>
      obtain⟨rfl,rfl,rfl⟩:=aS he;exact g1
     |false =>
      simp only[cond_false]at he;split at he
      ·rename_i pl hpl;obtain⟨rfl,rfl,rfl⟩:=aS he;exact g2 pl hpl
      cases he
    cases he
   cases hk
  cases hk
 case load t x =>
  split at hk
  ·rename_i ag s x' h1 h2 h3;obtain⟨hb,hk⟩:=aQ hk;injection hk with hk;subst hk
   simp only[cT]at he;split at he
   ·rename_i l off hs;obtain⟨rfl,rfl,rfl⟩:=aS he;exact ui hW hop h3 h1 h2 hb hs (by have:=hvc.1;omega) hf
   ·rename_i b g off hs;split at he
    ·rename_i kk hkk;obtain⟨hkz,he⟩:=bE he;obtain⟨rfl,rfl,rfl⟩:=aS he;simp only[aI]at hvc;exact uj hW hop h3 h1 h2 hb hs hkk (fun h=>by rw[h]at hkz;cases hkz) (by omega) (by omega) hf
    cases he
   cases he
  cases hk
 case store t x y =>
  split at hk
  ·rename_i s x' y' h1 h2 h3;injection hk with hk;subst hk
   simp only[cT]at he;split at he
   ·rename_i b g off hs;split at he
    ·rename_i kk hkk;obtain⟨hb,he⟩:=aQ he;simp only[Bool.and_eq_true,Bool.not_eq_true']at hb;obtain⟨rfl,rfl,rfl⟩:=aS he;simp only[aI]at hvc;exact vD hW hop h2 h3 h1 hs hkk (fun h=>by rw[h]at hb;cases hb.1.1.1) hb.1.1.2 (Nat.eq_of_beq_eq_true hb.1.2) hb.2 (by omega) (by omega) hf
    cases he
   cases he
  cases hk
 case nilCheck x =>
  obtain⟨y,h1,rfl⟩:=map_some hk;simp only[cT]at he;split at he
  ·rename_i b g n hs;obtain⟨rfl,rfl,rfl⟩:=aS he;rw[←hs];exact lJ hW hop h1 (.inl ⟨_,_,_,hs⟩) hf
  ·rename_i l n hs;obtain⟨rfl,rfl,rfl⟩:=aS he;rw[←hs];exact lJ hW hop h1 (.inr ⟨_,_,hs⟩) hf
  cases he
 case binOp op xt x y yt=>exact sW hW hop hk he hvc hf
 case unOp op t x =>
  obtain⟨y,h1,rfl⟩:=map_some hk;simp only[cT]at he;split at he
  ·rename_i p hp;split at he
   ·rename_i vc' r hr;obtain⟨rfl,rfl,rfl⟩:=aS he;exact BJ hW hop h1 hp hr hvc hf
   cases he
  cases he
 case convert s d x =>
  split at hk
  ·rename_i k0 k1 x' h1 h2 h3;injection hk with hk;subst hk
   simp only[cT]at he;split at he
   ·rename_i kk n hp;split at he
    ·obtain⟨rfl,rfl,rfl⟩:=aS he;simp only[aI]at hvc;exact qC hW hop h3 h1 h2 hp (Ez hvc.1 hvc.2.1).symm hf
    obtain⟨rfl,rfl,rfl⟩:=aS he;exact qC hW hop h3 h1 h2 hp rfl hf
   cases he
  ·rename_i x' h1 h2 h3;injection hk with hk;subst hk
   simp only[cT]at he;split at he
   ·rename_i n hp;obtain⟨rfl,rfl,rfl⟩:=aS he;exact sV hW hop h3 h1 h2 hp hf
   cases he
  ·rename_i e x' h1 h2 h3;split at hk
   ·rename_i h4;injection hk with hk;subst hk
    simp only[cT]at he;split at he
    ·rename_i n l hp;split at he
     ·rename_i bs hbs;obtain⟨rfl,rfl,rfl⟩:=aS he;simp only[aI]at hvc;exact vA hW hop h3 h1 h2 h4 hp hbs (by omega) hf
     cases he
    cases he
   cases hk
  cases hk
 case makeFunc fn first caps =>
  cases fn<;>simp only at hk<;>first|(cases hk;done)|skip
  cases hb:first.isEmpty with
  |true =>
   rw[hb,cond_true]at hk;obtain⟨cs,h1,rfl⟩:=map_some hk;obtain⟨rfl,rfl,rfl⟩:=aS he;exact xz hW hop hb h1 hf
  |false =>
   rw[hb,cond_false]at hk;obtain⟨hb2,hk⟩:=aQ hk;obtain⟨cs,h1,rfl⟩:=map_some hk;obtain⟨rfl,rfl,rfl⟩:=aS he;exact xA hW hop hb2 h1 hf
 case slice t x lo hi mx =>
  cases mx with
  |some m=>simp only at hk;cases hk
  |none =>
  simp only at hk;split at hk
  ·rename_i e x' l' h' hu h1 h2 h3;split at hk
   ·rename_i s hs;injection hk with hk;subst hk
    simp only[cT]at he;split at he
    ·rename_i n l hp;split at he
     ·rename_i i j hi hj;obtain⟨rfl,rfl,rfl⟩:=aS he;simp only[aI]at hvc;exact vC hW hop h1 h2 h3 hu hs hp hi hj (by omega) (by omega) (by omega) hf
     cases he
    ·rename_i hp;split at he
     ·rename_i i j hi hj;obtain⟨rfl,rfl,rfl⟩:=aS he;simp only[aI]at hvc;exact pM hW hop h1 h2 h3 hu hs hp hi hj (by omega) (by omega) (by omega) hf
     cases he
    ·rename_i b g off n hp;split at he
     ·rename_i kk hkk;obtain⟨hb,he⟩:=bE he;split at he
      ·rename_i i j hi hj;obtain⟨rfl,rfl,rfl⟩:=aS he;simp only[aI]at hvc;refine pN hW hop h1 h2 h3 hu hs (by omega) hp hi hj (by omega) (by omega) (by omega) (fun e he=>?_) hf;obtain⟨e2,g1,g2,g3,-⟩:=hW.mem.Aa hkk;rw[he]at g1;injection g1 with g1;subst g1
       rw[g3];exact Nat.eq_of_beq_eq_true (by simpa using hb)
      cases he
     cases he
    cases he
   cases hk
  ·rename_i x' l' h' hu h1 h2 h3;injection hk with hk;subst hk
   simp only[cT]at he;split at he
   ·rename_i s hp;split at he
    ·rename_i i j hi hj;obtain⟨rfl,rfl,rfl⟩:=aS he;simp only[aI]at hvc;exact qH hW hop h1 h2 h3 hu hp hi hj (by omega) (by omega) (by omega) hf
    cases he
   cases he
  cases hk
 case fieldAddr s x i =>
  split at hk
  ·rename_i fs x' hu h1;split at hk
   ·rename_i fd hfd;split at hk
    ·rename_i z hz;injection hk with hk;subst hk
     simp only[cT]at he;split at he
     ·rename_i b g n hp;obtain⟨rfl,rfl,rfl⟩:=aS he;exact lu hW hop h1 hu hfd hz (.inl ⟨_,_,_,hp,rfl⟩) hf
     ·rename_i l n hp;obtain⟨rfl,rfl,rfl⟩:=aS he;exact lu hW hop h1 hu hfd hz (.inr ⟨_,_,hp,rfl⟩) hf
     cases he
    cases hk
   cases hk
  cases hk
 case field s x i =>
  split at hk
  ·rename_i fs x' hu h1;split at hk
   ·rename_i fd hfd;split at hk
    ·rename_i ag z ha hz;obtain⟨hb,hk⟩:=aQ hk;injection hk with hk;subst hk
     simp only[cT]at he;split at he
     ·rename_i l hp;obtain⟨rfl,rfl,rfl⟩:=aS he;exact vz hW hop h1 hu hfd ha hz hb hp (by have:=hvc.1;omega) hf
     ·rename_i l hp;obtain⟨rfl,rfl,rfl⟩:=aS he;exact qz hW hop h1 hu hfd ha hz hb hp (by have:=hvc.1;omega) hf
     cases he
    cases hk
   cases hk
  cases hk
 case indexAddr t x i =>
  split at hk
  ·rename_i e x' i' hu h1 h2;obtain⟨z,hz,rfl⟩:=map_some hk;simp only[cT]at he;split at he
   ·rename_i n l kk m hp hi;obtain⟨rfl,rfl,rfl⟩:=aS he;simp only[aI]at hvc;exact mJ hW hop h1 h2 hu hz hi hvc.1 (.inl ⟨n,l,hp,hvc.2.1,rfl⟩) hf
   ·rename_i b g off n kk m hp hi;obtain⟨rfl,rfl,rfl⟩:=aS he;simp only[aI]at hvc;exact mJ hW hop h1 h2 hu hz hi hvc.1 (.inr ⟨b,g,off,n,hp,hvc.2.1,rfl⟩) hf
   cases he
  ·rename_i n e x' i' hu h1 h2;obtain⟨hb,hk⟩:=aQ hk;obtain⟨z,hz,rfl⟩:=map_some hk;simp only[cT]at he;split at he
   ·rename_i b g off kk m hp hi;obtain⟨rfl,rfl,rfl⟩:=aS he;simp only[aI]at hvc;exact lI hW hop h1 h2 hu hz hi hvc.1 hvc.2.1 (.inl ⟨_,_,_,hp,rfl⟩) hf
   ·rename_i l off kk m hp hi;obtain⟨rfl,rfl,rfl⟩:=aS he;simp only[aI]at hvc;exact lI hW hop h1 h2 hu hz hi hvc.1 hvc.2.1 (.inr ⟨_,_,hp,rfl⟩) hf
   cases he
  cases hk
 case index t x i =>
  split at hk
  ·rename_i x' i' hu h1 h2;injection hk with hk;subst hk
   simp only[cT]at he;split at he
   ·rename_i s kk m hp hi;obtain⟨rfl,rfl,rfl⟩:=aS he;simp only[aI]at hvc;exact qB hW hop h1 h2 hu hi hvc.1 hvc.2.1 hp hf
   cases he
  ·rename_i n e x' i' hu h1 h2;split at hk
   ·rename_i ag z ha hz;obtain⟨hb,hk⟩:=aQ hk;injection hk with hk;subst hk
    simp only[cT]at he;split at he
    ·rename_i l kk m hp hi;obtain⟨rfl,rfl,rfl⟩:=aS he;simp only[aI]at hvc;exact qA hW hop h1 h2 hu ha hz hb hi hvc.1 hvc.2.1 hp (by omega) hf
    ·rename_i l kk m hp hi;obtain⟨rfl,rfl,rfl⟩:=aS he;simp only[aI]at hvc;exact nH hW hop h1 h2 hu ha hz hb hi hvc.1 hvc.2.1 hp (by omega) hf
    cases he
   cases hk
  cases hk
 case makeMap t r =>
  cases r with
  |some r=>simp only at hk;cases hk
  |none =>
   simp only at hk;split at hk
   ·injection hk with hk;subst hk
    simp only[cT]at he;obtain⟨rfl,rfl,rfl⟩:=aS he;exact vH hW hop
   cases hk
 case makeInterface t x =>
  obtain⟨hc,hk2⟩:=aQ hk;obtain⟨y,h1,rfl⟩:=map_some hk2;simp only[cT]at he;split at he
  ·rename_i hx;obtain⟨rfl,rfl,rfl⟩:=aS he;exact Ag hW hop hc h1 hx hf
  cases he
 case panic x =>
  obtain⟨y,h1,rfl⟩:=map_some hk;simp only[cT]at he;cases he
 case makeSlice t l c =>
  split at hk
  ·rename_i e a1 b1 hu h1 h2;obtain⟨hb,hk2⟩:=aQ hk;clear hk;rw[Bool.and_eq_true]at hb;obtain rfl:=Nat.eq_of_beq_eq_true hb.1;split at hk2
   ·rename_i s z hs hz;injection hk2 with hk2;subst hk2
    simp only[cT]at he;split at he
    ·rename_i x hx;obtain⟨hs0,he⟩:=bE he;obtain⟨rfl,rfl,rfl⟩:=aS he;simp only[aI]at hvc;exact xE hW hop hu h1 h2 hb.2 hs hz (fun h=>by rw[h]at hs0;cases hs0) hx hvc.1 hvc.2.1 hf
    cases he
   cases hk2
  cases hk
 case insert t m k x =>
  split at hk
  ·rename_i kd m' k' x' hkd h1 h2 h3;injection hk with hk;subst hk
   simp only[cT]at he;split at he
   ·rename_i b g key hp hq;split at he
    ·rename_i e hmem;obtain⟨hfl,he⟩:=bE he;simp only[Bool.or_eq_false_iff,Bool.not_eq_false']at hfl;obtain⟨rfl,rfl,rfl⟩:=aS he;simp only[aI]at hvc;exact nN (add:=true) hW (.inr hop) hkd h1 h2 h3 hp hq hmem (Nat.eq_of_beq_eq_true hfl.1.1) hfl.1.2 hfl.2 (by omega) (nM hvc.2.2.1) (tn hvc.2.2.2.1) hf
    cases he
   cases he
  cases hk
 case mapUpdate t m k x =>
  split at hk
  ·rename_i kd m' k' x' hkd h1 h2 h3;injection hk with hk;subst hk
   simp only[cT]at he;split at he
   ·rename_i b g key hp hq;split at he
    ·rename_i e hmem;obtain⟨hfl,he⟩:=bE he;simp only[Bool.or_eq_false_iff,Bool.not_eq_false']at hfl;obtain⟨rfl,rfl,rfl⟩:=aS he;simp only[aI]at hvc;exact nN (add:=false) hW (.inl hop) hkd h1 h2 h3 hp hq hmem (Nat.eq_of_beq_eq_true hfl.1.1) hfl.1.2 hfl.2 (by omega) (nM hvc.2.2.1) (tn hvc.2.2.2.1) hf
    cases he
   cases he
  cases hk
 case lookup t x i ok =>
  split at hk
  ·rename_i kd z x' k' hkd hz h1 h2;injection hk with hk;subst hk
   simp only[cT]at he;split at he
   ·rename_i key hq;obtain⟨hfl,he⟩:=bE he;simp only[Bool.not_eq_false']at hfl;split at he
    ·rename_i b g hp;split at he
     ·rename_i e hmem;obtain⟨hb,he⟩:=bE he;obtain⟨rfl,rfl,rfl⟩:=aS he;simp only[aI]at hvc;exact nO hW hop hkd hz h1 h2 hq hfl (nM hvc.2.2.1) (.inl ⟨b,g,e,hp,hmem,Nat.eq_of_beq_eq_true (by simpa using hb),by omega,rfl⟩) hf
     cases he
    ·rename_i l hp;obtain⟨rfl,rfl,rfl⟩:=aS he;simp only[aI]at hvc;exact nO hW hop hkd hz h1 h2 hq hfl (nM hvc.1) (.inr ⟨l,hp,rfl⟩) hf
    cases he
   cases he
  cases hk
 case extract x i =>
  obtain⟨y,h1,rfl⟩:=map_some hk;simp only[cT]at he;split at he
  ·rename_i l hp;obtain⟨rfl,rfl,rfl⟩:=aS he;exact sU hW hop h1 hp hvc.1 hf
  ·rename_i l hp;obtain⟨rfl,rfl,rfl⟩:=aS he;exact oL hW hop h1 hp hvc.1 hf
  cases he
 case call c =>
  have hk2:dX C.P c=some k:=by
   split at hk
   ·unfold pV at hk;split at hk
    ·obtain⟨y,h1,rfl⟩:=map_some hk;simp only[cT]at he;cases he
    exact hk
   exact hk
  clear hk;rename dX C.P c=some k=>hk
  unfold dX at hk;obtain⟨callee,args,argTypes⟩:=c;simp only at hk;split at hk
  ·obtain⟨y,h1,rfl⟩:=map_some hk;simp only[cT]at he;cases he
  ·obtain⟨y,h1,rfl⟩:=map_some hk;simp only[cT]at he;cases he
  ·cases hk
  ·cases hk
  exact nP hW hop hk he hvc hf
end
end
section
section
variable {C:Ctx} {w0 w:World} {S T:Nat→Prop} {γ:Gh} {μ:AM} {f:AF} {a:Act} {o:Oper}
theorem jP (hT:∀g,S g→T g):pL S T w w:=⟨hT,fun _ _=>rfl⟩
theorem kn (hW:Wd C w0 S γ μ w) (hT:∀g,S g→T g) {v:AV} {u:Value} {p:PV} (hb:∀b e,b∈cz [v]→γ b=some e→T e.cb) (h:bI μ v=some p) (hv:VR w S γ v u):Is w T p u:=by
 unfold bI at h;split at h
 ·injection h with h;subst h
  exact(cB hv).stay (jP hT)
 ·rename_i b g off n;split at h
  ·rename_i k hk;obtain⟨hc,h⟩:=aQ h;simp only[Bool.and_eq_true]at hc;have hkz:k.sz≠0:=fun h=>by rw[h]at hc;cases hc.1.1
   have hg:=Nat.eq_of_beq_eq_true hc.1.2;have hle:=Nat.le_of_ble_eq_true hc.2;split at h
   ·rename_i ps hps;injection h with h;subst h
    obtain⟨e,cs,he,hgen,hsz,⟨_,hheap,-⟩,hcs,hkl,hcells,-,-⟩:=hW.mem.blk b k hk hkz;cases hv with
    |ref _ _ _ _ _ e' ad c hb' hg' hvc hs =>
     rw[he]at hb';injection hb' with hb';subst hb'
     have hTc:=hb b e (by simp[cz]) he;have hps':=gm hps;have hlen:ps.length=n*k.sz:=by
      have:=congrArg List.length hps';simp at this;omega
     have hget:∀(i:Nat) q,ps[i]?=some q→∃x,cs[off+i]?=some x∧Is w S q x∧x.oneCell'=true:=fun i q hq=>by
      have hi:i<n*k.sz:=by rw[←hlen];exact(List.getElem?_eq_some_iff.mp hq).1
      have h1:((k.cells.drop off).take (n*k.sz))[i]?=some (.pv q):=by rw[hps'];simp[hq]
      rw[List.getElem?_take,if_pos hi,List.getElem?_drop]at h1;obtain⟨x,g1,g2,g3⟩:=hcells _ _ h1;exact⟨x,g1,cB g2,g3⟩
     rcases hs (by omega) with⟨cap,hv',-,h2,h3⟩|⟨hn0,-,o',cap,hv',h3⟩
     ·rw[hv'];refine .sl n ps e.cb off cap (fun i=>cs.getD (off+i) undef) hTc h2 h3 (fun i q hq=>?_) (fun i q hq=>?_) (fun i q hq=>?_)
      ·obtain⟨x,g1,-,-⟩:=hget i q hq;simp[World.cell?,hheap,g1]
      ·obtain⟨x,g1,-,g3⟩:=hget i q hq;simpa [g1]using g3
      obtain⟨x,g1,g2,-⟩:=hget i q hq;have:=g2.stay (jP hT);simpa [g1]using this
     subst hn0;have:ps=[]:=List.eq_nil_of_length_eq_zero (by rw[hlen];simp);subst this;rw[hv'];exact .sl 0 [] e.cb o' cap (fun _=>undef) hTc (Nat.zero_le _) h3 (fun i q hq=>by simp at hq) (fun i q hq=>by simp at hq) (fun i q hq=>by simp at hq)
   cases h
  cases h
 ·rename_i b g;split at h
  ·rename_i k hk;obtain⟨hc,h⟩:=aQ h;simp only[Bool.and_eq_true]at hc;have hkz:=Nat.eq_of_beq_eq_true hc.1;have hg:=Nat.eq_of_beq_eq_true hc.2;split at h
   ·rename_i ps hps;injection h with h;subst h
    obtain⟨e,es,clock,g1,rfl,g3,g4,-⟩:=qM hW hk hkz hg hv;rw[gm hps]at g4;have g5:=PW.mo g4;exact .mp ps e.cb es clock (hb b e (by simp[cz]) g1) g3 g5.len fun i p v h1 h2=>(g5.at_ i p v h1 h2).stay (jP hT)
   cases h
  cases h
 ·injection h with h;subst h
  cases hv with
  |fn _ _ cs hl _ =>
   have:cs=[]:=List.eq_nil_of_length_eq_zero (by simpa using hl.symm);subst this;exact .val _
 cases h
theorem gq {g:AV→Option PV} {R:AV→Value→Prop} {Q:PV→Value→Prop}:∀{l:List AV} {ps:List PV} {cs:List Value},dw g l=some ps→PW R l cs→(∀v∈l,∀p u,g v=some p→R v u→Q p u)→PW Q ps cs
 |[],ps,cs,h,hp,_=>by
  simp only[dw,Option.some.injEq]at h;subst h;exact⟨hp.len,fun i a b h=>by simp at h⟩
 |v::r,ps,cs,h,hp,hq=>by
  simp only[dw]at h;split at h
  ·rename_i p qs h1 h2;injection h with h;subst h
   cases cs with
   |nil=>have:=hp.len;simp at this
   |cons c ct =>
    have hr:PW R r ct:=⟨by have:=hp.len;simpa using this,fun i a b ha hb=>hp.at_ (i+1) a b (by simpa using ha) (by simpa using hb)⟩
    have ih:=gq h2 hr fun v hv=>hq v (by simp[hv])
    refine⟨by simp[ih.len],fun i a b ha hb=>?_⟩;cases i with
    |zero =>
     simp only[List.getElem?_cons_zero,Option.some.injEq]at ha hb;subst ha hb;exact hq v (by simp) _ _ h1 (hp.at_ 0 v _ (by simp) (by simp))
    |succ i=>exact ih.at_ i a b (by simpa using ha) (by simpa using hb)
  cases h
theorem mQ {b:Nat} {u:AV} (hu:b∈cz [u]):∀{l:List AV},u∈l→b∈cz l
 |v::r,h=>by
  cases h with
  |head=>cases u<;>simp[cz]at hu ⊢<;>simp[hu]
  |tail _ h =>
   have ih:=mQ hu h;cases v<;>simp[cz,ih]
theorem ko {b:Nat} {u:AV} (hu:b∈cz [u]):∀{l:List AV},u∈l→b∈refsOf l
 |v::r,h=>by
  cases h with
  |head=>cases u<;>simp[cz]at hu<;>simp[refsOf,hu]
  |tail _ h =>
   have ih:=ko hu h;cases v<;>simp[refsOf,ih]
theorem iR {b:Nat} {m:List AV} (hb:b∈cz m):∀{l:List AV},AV.agg m∈l→b∈refsOf l
 |v::r,h=>by
  cases h with
  |head=>simp[refsOf,hb]
  |tail _ h =>
   have ih:=iR hb h;cases v<;>simp[refsOf,ih]
def Seen (S:Nat→Prop) (γ:Gh) (bs:List Nat) (g:Nat):Prop:=S g∨∃b∈bs,∃e,γ b=some e∧e.cb=g
theorem BK (hW:Wd C w0 S γ μ w) {as:List AV} {us:List Value} {ps:List PV} (h:gI μ as=some ps) (hv:PW (VR w S γ) as us):PW (Is w (Seen S γ (refsOf as))) ps us:=by
 refine gq h hv fun v hmem p u hp hvu=>?_
 have hT:∀g,S g→Seen S γ (refsOf as) g:=fun _ h=>.inl h
 unfold fq at hp;split at hp
 ·rename_i l;split at hp
  ·rename_i qs hq;injection hp with hp;subst hp
   cases hvu with
   |agg _ cs hl hat =>
    have:=gq (Q:=Is w (Seen S γ (refsOf as))) hq (⟨hl,hat⟩:PW (VR w S γ) l cs) fun v hv p u h1 h2=>kn hW hT (fun b e hb hγ=>.inr ⟨b,iR (mQ hb hv) hmem,e,hγ,rfl⟩) h1 h2
    exact .agg _ _ this.len this.at_
  cases hp
 exact kn hW hT (fun b e hb hγ=>.inr ⟨b,ko hb hmem,e,hγ,rfl⟩) hp hvu
theorem lM:∀{l:List PV},fu l=true→∀p∈l,(∀n m,p≠.sl n m)∧(∀m,p≠.agg m)∧(∀m,p≠.tup m)∧(∀m,p≠.mp m)
 |[],_,p,h=>by cases h
 |v::r,h,p,hp=>by
  cases v<;>simp only[fu]at h<;>first|(cases h;done)|skip
  all_goals
   cases hp with
   |head=>exact⟨by simp,by simp,by simp,by simp⟩
   |tail _ hp=>exact lM h p hp
theorem vK {S':Nat→Prop} {w':World} {p:PV} {u:Value} (h:(∀n m,p≠.sl n m)∧(∀m,p≠.agg m)∧(∀m,p≠.tup m)∧(∀m,p≠.mp m)) (hu:Is w S p u):Is w' S' p u:=by
 cases hu with
 |sl=>exact absurd rfl (h.1 _ _)
 |sl0=>exact absurd rfl (h.1 _ _)
 |slz=>exact absurd rfl (h.1 _ _)
 |agg=>exact absurd rfl (h.2.1 _)
 |tup=>exact absurd rfl (h.2.2.1 _)
 |mp=>exact absurd rfl (h.2.2.2 _)
 |int=>exact .int _ _
 |bool=>exact .bool _
 |str=>exact .str _
 |nilsl=>exact .nilsl
 |val=>exact .val _
 |iface=>exact .iface _ _
theorem xI {S':Nat→Prop} {w':World} {p:PV} {u:Value} (h:scalar p=true) (hu:Is w S p u):Is w' S' p u:=by
 cases hu with
 |sl=>simp[scalar]at h
 |sl0=>simp[scalar]at h
 |slz=>simp[scalar]at h
 |mp=>simp[scalar]at h
 |agg l cs hl hat=>exact .agg l cs hl fun i p v h1 h2=>vK (lM h p (List.mem_of_getElem? h1)) (hat i p v h1 h2)
 |tup l cs hl hat=>exact .tup l cs hl fun i p v h1 h2=>vK (lM h p (List.mem_of_getElem? h1)) (hat i p v h1 h2)
 |int=>exact .int _ _
 |bool=>exact .bool _
 |str=>exact .str _
 |nilsl=>exact .nilsl
 |val=>exact .val _
 |iface=>exact .iface _ _
theorem Wd.behind (hW:Wd C w0 S γ μ w) {w':World} (hb:Below w.heap.size w w') (hT:∀g,S g→T g) (hlive:∀g,T g→g<w'.heap.size) {μ':AM} (hlen:μ'.length=μ.length)
  (hμ:∀(b:Nat) k',μ'[b]?=some k'→∃k,μ[b]?=some k∧k'.cells=k.cells∧k'.gen=k.gen∧k'.sz=k.sz∧k'.elem=k.elem∧(k'.frozen=false→k.frozen=false))
  (hmore:∀g,T g→S g∨(∃b e,γ b=some e∧e.cb=g)∨w.heap.size≤g) (hfz:∀(b:Nat) k' e,μ'[b]?=some k'→k'.frozen=false→γ b=some e→T e.cb→S e.cb):Wd C w0 T γ μ' w'∧Ext w S γ w' T γ:=by
 have hE:Ext w S γ w' T γ:=⟨⟨hT,fun g hg=>hb.block g (hW.live g hg)⟩,fun b e h=>⟨e,h,Nat.le_refl _,fun _=>rfl⟩,hmore,fun b e h=>.inl ⟨b,e,h,rfl⟩,hb.size,fun g hg _=>hb.block g hg⟩
 refine⟨⟨⟨fun b k' hk' hz'=>?_,fun b k' hk' hz'=>?_,fun b hb'=>hW.mem.none b (by omega),hW.mem.inj⟩,hW.below.trans (hb.mono hW.below.size),hlive,hW.env⟩,hE⟩
 ·obtain⟨k,hk,e1,e2,e3,e4,e5⟩:=hμ b k' hk';obtain⟨e,cs,h1,h2,h3,h4,h5,h6,h7,h8,h9⟩:=hW.mem.blk b k hk (by omega);refine⟨e,cs,h1,by rw[e2];exact h2,by rw[e3];exact h3,h4.congr (hb.block _ (hW.fY h1)) e4 e5,h5,by rw[e1];exact h6,fun i x hx=>?_,h8,fun hf hT'=>?_⟩
  ·rw[e1]at hx;obtain⟨v,g1,g2,g3⟩:=h7 i x hx;exact⟨v,g1,g2.ext hE,g3⟩
  exact h9 (e5 hf) (hfz b k' e hk' hf h1 hT')
 obtain⟨k,hk,e1,e2,e3,e4,e5⟩:=hμ b k' hk';obtain⟨e,h1,h2,h3,h4,h5,h6⟩:=hW.mem.mp b k hk (by omega);refine⟨e,h1,by rw[e2];exact h2,by rw[e3];exact h3,?_,h5,fun hf hT'=>h6 (e5 hf) (hfz b k' e hk' hf h1 hT')⟩;obtain⟨es,clock,q1,q2,q3⟩:=h4.ext hE (hb.block _ (hW.fY h1));exact⟨es,clock,q1,by rw[e1];exact q2,q3⟩
theorem jA:∀(bs:List Nat) (μ:AM),(freeze μ bs).length=μ.length∧(∀(b:Nat) k',(freeze μ bs)[b]?=some k'→∃k,μ[b]?=some k∧k'.cells=k.cells∧k'.gen=k.gen∧k'.sz=k.sz∧k'.elem=k.elem∧(k'.frozen=false→k.frozen=false∧b ∉ bs))
 |[],μ=>⟨rfl,fun b k' h=>⟨k',h,rfl,rfl,rfl,rfl,fun h=>⟨h,by simp⟩⟩⟩
 |c::r,μ=>by
  simp only[freeze];cases hc:μ[c]? with
  |none =>
   obtain⟨h1,h2⟩:=jA r μ;refine⟨h1,fun b k' hk'=>?_⟩;obtain⟨k,g1,g2,g3,g4,g5,g6⟩:=h2 b k' hk';refine⟨k,g1,g2,g3,g4,g5,fun hf=>⟨(g6 hf).1,fun hm=>?_⟩⟩;cases hm with
   |head=>rw[hc]at g1;cases g1
   |tail _ hm=>exact(g6 hf).2 hm
  |some kc =>
   obtain⟨h1,h2⟩:=jA r (μ.set c {kc with frozen:=true});refine⟨by rw[h1,List.length_set],fun b k' hk'=>?_⟩;obtain⟨k,g1,g2,g3,g4,g5,g6⟩:=h2 b k' hk';by_cases hbc:c=b
   ·subst hbc;rw[List.getElem?_set_self (List.getElem?_eq_some_iff.mp hc).1]at g1;injection g1 with g1
    subst g1;exact⟨kc,hc,g2,g3,g4,g5,fun hf=>absurd (g6 hf).1 (by simp)⟩
   rw[List.getElem?_set_ne hbc]at g1;refine⟨k,g1,g2,g3,g4,g5,fun hf=>⟨(g6 hf).1,fun hm=>?_⟩⟩;cases hm with
   |head=>exact hbc rfl
   |tail _ hm=>exact(g6 hf).2 hm
end
end
end Pur
end Go.Proofs.YtfgcmogbdcifeaaGreatDoor
