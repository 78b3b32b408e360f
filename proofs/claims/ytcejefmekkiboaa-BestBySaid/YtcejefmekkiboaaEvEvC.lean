/-
  From the loaded code to the evaluator's code.
-/
import Derived.Test.YtcejefmekkiboaaEvEvO
import Derived.Still
set_option linter.unusedVariables false
set_option linter.unusedSimpArgs false
set_option linter.unnecessarySimpa false
namespace Go.Ev
mutual
def bw:Value→Option D
 | .bool b=>some (.bool b)
 | .int k n=>some (.int k n)
 | .string s=>some (.str s)
 | .pointer none=>some .nilptr
 | .slice none 0 0=>some (.slice .isnil 0 [])
 | .map none=>some .nilmap
 | .nilFunc=>some .nilfunc
 | .agg cs=>match cs with
   |⟨l⟩=>(jW l).map .agg
 |_=>none
def jW:List Value→Option (List D)
 |[]=>some []
 |v::r=>match bw v,jW r with
  |some d,some ds=>if d.one then some (d::ds)else none
  |_,_=>none
end
def aT:Operand→Option A
 | .tmp t=>some (.tmp t)
 | .const v=>(bw v).map .lit
 | .func f=>some (.lit (.func f []))
 | .global _=>none
def jH:Option Operand→Option (Option A)
 |none=>some none
 |some z=>(aT z).map some
def eO (P:Program) (t:TypeId):Option Nat:=(P.info? t).map (·.size)
def bN (P:Program) (t:TypeId):Option Bool:=
 match P.underlying t with
 |some (.struct _)|some (.array _ _)=>some true
 |some _=>some false
 |none=>none
def mV (P:Program) (t:TypeId):Option D:=((P.info? t).bind (·.zero)).bind bw
def fQ (P:Program):Nat→TypeId→Nat→Option (List Nat)
 |0,_,_=>none
 |n+1,t,base=>match P.underlying t with
  |some (.int _)=>if eO P t=some 1 then some [base]else none
  |some (.struct fs)=>if P.stoodInHeld t then none else(fs.toList.mapM fun f=>if f.name= "_" then none else match eO P f.type,eO P t with
    |some s,some z=>if f.offset+s≤z then fQ P n f.type (base+f.offset)else none
    |_,_=>none).map List.flatten
  |some (.array len e)=>match eO P e,eO P t with
   |some s,some z=>if len*s≤z then((List.range len).mapM fun i=>fQ P n e (base+i*s)).map List.flatten else none
   |_,_=>none
  |_=>none
def kF (xs:List Operand):Option (List A):=xs.mapM aT
def mG (P:Program) (args:List Operand) (tys:List TypeId):Option O:=
 match args,tys with
 |[x],t::_=>match P.underlying t with
  |some (.slice _)=>do some (.lenS (←aT x))
  |some (.map _ _)=>do some (.lenM (←aT x))
  |_=>none
 |_,_=>none
def mD (P:Program) (args:List Operand) (tys:List TypeId):Option O:=
 match args,tys with
 |[x],t::_=>match P.underlying t with
  |some (.slice _)=>do some (.capS (←aT x))
  |_=>none
 |_,_=>none
def Io (P:Program) (args:List Operand) (tys:List TypeId):Option O:=
 match args,tys with
 |[x],t::_=>match P.underlying t with
  |some (.slice e)=>do some (.clear (←mV P e).cells (←aT x))
  |_=>none
 |_,_=>none
def gD (P:Program) (args:List Operand) (tys:List TypeId):Option O:=
 match args,tys with
 |[x,y],[t,u]=>match P.underlying t,P.underlying u with
  |some (.slice e),some (.slice _)=>match P.info? e with
   |some i=>match i.zero with
    |some z=>if decide (0<i.size)&&decide (0<i.bytes)&&z.cells.size==i.size&&t==u then do some (.append i.size i.bytes (←aT x) (←aT y))else none
    |none=>none
   |none=>none
  |some (.slice e),some (.int _)=>match P.info? e with
   |some i=>match mV P e with
    |some z=>if decide (0<i.size)&&decide (0<i.bytes)&&z.cells.length==i.size then do some (.appendZ i.size i.bytes z.cells (←aT x) (←aT y))else none
    |none=>none
   |none=>none
  |_,_=>none
 |_,_=>none
def kn (P:Program) (b:Builtin) (args:List Operand) (tys:List TypeId):Option O:=
 match b with
 | .len=>mG P args tys
 | .cap=>mD P args tys
 | .clear=>Io P args tys
 | .append=>gD P args tys
 | .min=>(kF args).map .min
 | .max=>(kF args).map .max
 |_=>none
def aq (P:Program) (o:Op):Option O:=
 match o with
 | .move x| .assign x=>(aT x).map .mov
 | .pick c a b=>do some (.pick (←aT c) (←aT a) (←aT b))
 | .binOp op xT x y _=>do
   let x' ←aT x
   let y' ←aT y
   match op,P.underlying xT with
   | .eql,some .bool=>some (.eqlB false x' y')
   | .neq,some .bool=>some (.eqlB true x' y')
   | .eql,some (.pointer _)=>match y' with| .lit .nilptr=>some (.eqlNil false x')|_=>none
   | .neq,some (.pointer _)=>match y' with| .lit .nilptr=>some (.eqlNil true x')|_=>none
   | .eql,some (.slice _)=>match y' with| .lit (.slice .isnil _ [])=>some (.eqlS false x')|_=>none
   | .neq,some (.slice _)=>match y' with| .lit (.slice .isnil _ [])=>some (.eqlS true x')|_=>none
   | .eql,some (.struct _)| .eql,some (.array _ _)=>if P.eqGuardType P.depth xT then none else match fQ P 20 xT 0,eO P xT with|some offs,some sz=>some (.eqlP false sz offs x' y')|_,_=>none
   | .neq,some (.struct _)| .neq,some (.array _ _)=>if P.eqGuardType P.depth xT then none else match fQ P 20 xT 0,eO P xT with|some offs,some sz=>some (.eqlP true sz offs x' y')|_,_=>none
   |op,some (.int _)=>some (.bin op x' y')
   |_,_=>none
 | .unOp op _ x=>do
   let x' ←aT x
   match op with
   | .not=>some (.not x')
   | .neg=>some (.neg x')
   |_=>none
 | .convert s d x=>do
   match P.underlying s,P.underlying d with
   |some (.int _),some (.int k)=>some (.conv k (←aT x))
   |_,_=>none
 | .nilCheck x=>(aT x).map .nilCheck
 | .alloc T=>do some (.alloc (←mV P T).cells)
 | .box T x=>do some (.box (←eO P T) (←aT x))
 | .build T parts=>do
   let z ←mV P T
   match P.underlying T with
   |some (.struct fs)=>
    let fills ←parts.toList.mapM fun(i,x)=>do let f ←fs[i]?;some (f.offset,←eO P f.type,←aT x)
    if(fs.toList.mapM fun f=>(P.info? f.type).map fun i=>(f.offset,i.size)).isSome then some (.build z.cells fills)else none
   |some (.array _ e)=>
    let s ←eO P e
    let fills ←parts.toList.mapM fun(i,x)=>do some (i*s,s,←aT x)
    some (.build z.cells fills)
   |_=>none
 | .buildSlice T len parts=>do
   let some (.slice e):=P.underlying T|none
   let s ←eO P e
   let z ←mV P e
   if parts.toList.map (·.1)=List.range len&&z.cells.length==s&&decide (0<s)then some (.bslice s (←kF (parts.toList.map (·.2))))else none
 | .load T x=>do some (.load (←bN P T) (←eO P T) (←aT x))
 | .store T a x=>do some (.store (←eO P T) (←aT a) (←aT x))
 | .fieldAddr T x f=>do
   let some (.struct fs):=P.underlying T|none
   let f ←fs[f]?
   if(←eO P f.type)=0 then none else some (.faddr f.offset (←aT x))
 | .indexAddr T x i=>do
   match P.underlying T with
   |some (.slice e)=>do
    let s ←eO P e
    if s=0 then none else some (.iaddrS s (←aT x) (←aT i))
   |some (.array n e)=>if n≤1 then none else some (.iaddrA n (←eO P e) (←aT x) (←aT i))
   |_=>none
 | .index T x i=>do
   match P.underlying T with
   |some (.array n e)=>some (.indexA n (←eO P e) (←bN P e) (←aT x) (←aT i))
   |_=>none
 | .slice T x lo hi mx=>do
   match P.underlying T with
   |some (.slice e)=>
    let lo' ←jH lo
    let hi' ←jH hi
    let mx' ←jH mx
    if mx.isSome&&hi.isNone then none else some (.slice (←eO P e) (←aT x) lo' hi' mx')
   |some (.array n e)=>if mx.isSome then none else some (.sliceA n (←eO P e) (←aT x) (←jH lo) (←jH hi))
   |_=>none
 | .extract x i=>do some (.extract (←aT x) i)
 | .makeFunc (.func f) first caps=>do if first.isEmpty then some (.mkfunc f (←kF caps.toList))else none
 | .makeMap T none=>match P.underlying T with
   |some (.map _ _)=>some .mkmap
   |_=>none
 | .lookup T x k ok=>do
   match P.underlying T with
   |some (.map kt e)=>match P.underlying kt with
    |some (.int .i64)=>some (.lookup (←mV P e) ok (←aT x) (←aT k))
    |_=>none
   |_=>none
 | .mapUpdate T m k v| .insert T m k v=>do
   match P.underlying T with
   |some (.map kt e)=>match P.underlying kt with
    |some (.int .i64)=>some (.mapset (←eO P e) (←aT m) (←aT k) (←aT v))
    |_=>none
   |_=>none
 | .range T x=>match P.underlying T with
   |some (.map kt _)=>match P.underlying kt with
    |some (.int .i64)=>(aT x).map .rangeM
    |_=>none
   |_=>none
 | .next x false=>(aT x).map .nextM
 | .entry x=>(aT x).map .entryM
 | .call c=>
   match c.callee with
   | .value f=>do some (.call (←aT f) (←kF c.args.toList))
   | .builtin b=>kn P b c.args.toList c.argTypes.toList
   | .invoke _ _=>none
 |_=>none
def iV (P:Program) (mu:List Nat) (n:Nat) (ops:Array Oper) (o:Oper):Option Op1:=
 if o.dst.any (fun d=>decide (n≤d))then some ⟨none,none,false,.bad⟩else
 match o.guard with
 |none=>some ⟨o.dst,none,o.dst.any (fun d=>mu.contains d),(aq P o.op).getD .bad⟩
 |some (j,want)=>match (ops[j]?).bind (·.dst)with
  |some g=>some ⟨o.dst,some (g,want),o.dst.any (fun d=>mu.contains d),(aq P o.op).getD .bad⟩
  |none=>some ⟨none,none,false,.bad⟩
def cW (P:Program) (mu:List Nat) (n:Nat) (ops:Array Oper):List Oper→Option (List Op1)
 |[]=>some []
 |o::r=>match iV P mu n ops o,cW P mu n ops r with
  |some a,some b=>some (a::b)
  |_,_=>none
def kY (ops:List Oper):List (List Nat):=ops.foldl (fun acc o=>acc++[((o.after.toList.filter (Region.binds .any)).flatMap fun e=>e.on::acc.getD e.on []).eraseDups]) []
def clash (x y:Op1):Bool:=
 (match x.dst with|some d=>y.rd.contains d||y.dst==some d|none=>false)||(match y.dst with|some d=>x.rd.contains d|none=>false)
def ut (bef:List (List Nat)) (l:List Op1):Bool:=
 (List.range l.length).all fun j=>(List.range j).all fun i=>
  match l[i]?,l[j]? with
  |some x,some y=> !clash x y||(bef.getD j []).contains i
  |_,_=>false
def uL (ops:List Oper):Bool:=(List.range ops.length).all fun i=>match ops[i]? with|some o=>o.after.toList.all fun e=> !Region.binds .any e||decide (e.on<i)|none=>false
def jP:Code→C→Nat→Option C
 | .seq a b,.seq a' b',l=>match jP a a' l with
   |some r=>some (.seq r b')
   |none=>jP b b' l
 | .label l',_,l=>if l'==l then some .skip else none
 |_,_,_=>none
def tK:Code→Option Nat
 | .seq a b=>match tK a with
   |some l=>some l
   |none=>tK b
 | .label l=>some l
 |_=>none
def aV (P:Program) (mu:List Nat) (n:Nat):Code→Option C
 | .skip=>some .skip
 | .region _ ops draw=>match cW P mu n ops ops.toList with
   |some l=>if draw then(if ut (kY ops.toList) l&&uL ops.toList then(if mu.contains 1000000&&l.any (fun o=>match o.op with| .alloc _=>true|_=>false)then(if FL l then some (.drawA (kY ops.toList) l)else some .bad)else some (.draw (kY ops.toList) l))else some .bad)else some (.ops false l)
   |none=>none
 | .seq a b=>match aV P mu n a,aV P mu n b with
   |some x,some y=>some (.seq x y)
   |_,_=>none
 | .cond c a b=>match aT c,aV P mu n a,aV P mu n b with
   |some c,some x,some y=>some (.cond c x y)
   |_,_,_=>some .bad
 | .block id b=>(aV P mu n b).map (.block id)
 | .loop b=>(aV P mu n b).map .loop
 | .exit id=>some (.exit id)
 | .ret=>some .ret
 | .label _=>some .skip
 | .goto l=>some (.goto l)
 | .scope c=>match aV P mu n c,tK c with
   |some c',some l=>match jP c c' l with
    |some r'=>some (.scope c' l r')
    |none=>some .bad
   |_,_=>some .bad
 |_=>some .bad
def qW (P:Program):ResultVar→Option Rs
 | .tmp t=>some (.tmp t)
 | .cell t T=>match bN P T,eO P T with
   |some a,some s=>some (.cell t a s)
   |_,_=>none
def aG (P:Program) (f:FuncId) (ro:Bool) (mu:List Nat):Option CF:=
 match P.funcs[f]? with
 |none=>none
 |some fn=>match fn.body with
  |none=>none
  |some c=>if fn.name== "runtime.NumGoroutine" then none else match aV P mu fn.ntmps c,fn.results.toList.mapM (qW P)with
   |some b,some rs=>some ⟨fn.ntmps,rs,ro,mu,b⟩
   |_,_=>none
end Go.Ev
