/-
  From the loaded code to the evaluator's code.
-/
import Derived.Test.YtjcilbnbciclpaaEvEvO
import Derived.Still
set_option linter.unusedVariables false
set_option linter.unusedSimpArgs false
set_option linter.unnecessarySimpa false
namespace Go.Ev
mutual
def aY:Value→Option D
 | .bool b=>some (.bool b)
 | .int k n=>some (.int k n)
 | .string s=>some (.str s)
 | .pointer none=>some .nilptr
 | .slice none 0 0=>some (.slice .isnil 0 [])
 | .map none=>some .nilmap
 | .nilFunc=>some .nilfunc
 | .agg cs=>match cs with
   |⟨l⟩=>(gE l).map .agg
 |_=>none
def gE:List Value→Option (List D)
 |[]=>some []
 |v::r=>match aY v,gE r with
  |some d,some ds=>if d.one then some (d::ds)else none
  |_,_=>none
end
def aF:Operand→Option A
 | .tmp t=>some (.tmp t)
 | .const v=>(aY v).map .lit
 | .func f=>some (.lit (.func f []))
 | .global _=>none
def gb:Option Operand→Option (Option A)
 |none=>some none
 |some z=>(aF z).map some
def dg (P:Program) (t:TypeId):Option Nat:=(P.info? t).map (·.size)
def ba (P:Program) (t:TypeId):Option Bool:=
 match P.underlying t with
 |some (.struct _)|some (.array _ _)=>some true
 |some _=>some false
 |none=>none
def jV (P:Program) (t:TypeId):Option D:=((P.info? t).bind (·.zero)).bind aY
def dJ (P:Program):Nat→TypeId→Nat→Option (List Nat)
 |0,_,_=>none
 |n+1,t,base=>match P.underlying t with
  |some (.int _)=>if dg P t=some 1 then some [base]else none
  |some (.struct fs)=>if P.stoodInHeld t then none else(fs.toList.mapM fun f=>if f.name= "_" then none else match dg P f.type,dg P t with
    |some s,some z=>if f.offset+s≤z then dJ P n f.type (base+f.offset)else none
    |_,_=>none).map List.flatten
  |some (.array len e)=>match dg P e,dg P t with
   |some s,some z=>if len*s≤z then((List.range len).mapM fun i=>dJ P n e (base+i*s)).map List.flatten else none
   |_,_=>none
  |_=>none
def iv (xs:List Operand):Option (List A):=xs.mapM aF
def jv (P:Program) (args:List Operand) (tys:List TypeId):Option O:=
 match args,tys with
 |[x],t::_=>match P.underlying t with
  |some (.slice _)=>do some (.lenS (←aF x))
  |some (.map _ _)=>do some (.lenM (←aF x))
  |_=>none
 |_,_=>none
def jF (P:Program) (args:List Operand) (tys:List TypeId):Option O:=
 match args,tys with
 |[x],t::_=>match P.underlying t with
  |some (.slice _)=>do some (.capS (←aF x))
  |_=>none
 |_,_=>none
def eo (P:Program) (args:List Operand) (tys:List TypeId):Option O:=
 match args,tys with
 |[x],t::_=>match P.underlying t with
  |some (.slice e)=>do some (.clear (←jV P e).cells (←aF x))
  |_=>none
 |_,_=>none
def ek (P:Program) (args:List Operand) (tys:List TypeId):Option O:=
 match args,tys with
 |[x,y],[t,u]=>match P.underlying t,P.underlying u with
  |some (.slice e),some (.slice _)=>match P.info? e with
   |some i=>match i.zero with
    |some z=>if decide (0<i.size)&&decide (0<i.bytes)&&z.cells.size==i.size&&t==u then do some (.append i.size i.bytes (←aF x) (←aF y))else none
    |none=>none
   |none=>none
  |some (.slice e),some (.int _)=>match P.info? e with
   |some i=>match jV P e with
    |some z=>if decide (0<i.size)&&decide (0<i.bytes)&&z.cells.length==i.size then do some (.appendZ i.size i.bytes z.cells (←aF x) (←aF y))else none
    |none=>none
   |none=>none
  |_,_=>none
 |_,_=>none
def gQ (P:Program) (b:Builtin) (args:List Operand) (tys:List TypeId):Option O:=
 match b with
 | .len=>jv P args tys
 | .cap=>jF P args tys
 | .clear=>eo P args tys
 | .append=>ek P args tys
 | .min=>(iv args).map .min
 | .max=>(iv args).map .max
 |_=>none
def ao (P:Program) (o:Op):Option O:=
 match o with
 | .move x| .assign x=>(aF x).map .mov
 | .pick c a b=>do some (.pick (←aF c) (←aF a) (←aF b))
 | .binOp op xT x y _=>do
   let x' ←aF x
   let y' ←aF y
   match op,P.underlying xT with
   | .eql,some .bool=>some (.eqlB false x' y')
   | .neq,some .bool=>some (.eqlB true x' y')
   | .eql,some (.pointer _)=>match y' with| .lit .nilptr=>some (.eqlNil false x')|_=>none
   | .neq,some (.pointer _)=>match y' with| .lit .nilptr=>some (.eqlNil true x')|_=>none
   | .eql,some (.slice _)=>match y' with| .lit (.slice .isnil _ [])=>some (.eqlS false x')|_=>none
   | .neq,some (.slice _)=>match y' with| .lit (.slice .isnil _ [])=>some (.eqlS true x')|_=>none
   | .eql,some (.struct _)| .eql,some (.array _ _)=>if P.eqGuardType P.depth xT then none else match dJ P 20 xT 0,dg P xT with|some offs,some sz=>some (.eqlP false sz offs x' y')|_,_=>none
   | .neq,some (.struct _)| .neq,some (.array _ _)=>if P.eqGuardType P.depth xT then none else match dJ P 20 xT 0,dg P xT with|some offs,some sz=>some (.eqlP true sz offs x' y')|_,_=>none
   |op,some (.int _)=>some (.bin op x' y')
   |_,_=>none
 | .unOp op _ x=>do
   let x' ←aF x
   match op with
   | .not=>some (.not x')
   | .neg=>some (.neg x')
   |_=>none
 | .convert s d x=>do
   match P.underlying s,P.underlying d with
   |some (.int _),some (.int k)=>some (.conv k (←aF x))
   |_,_=>none
 | .nilCheck x=>(aF x).map .nilCheck
 | .alloc T=>do some (.alloc (←jV P T).cells)
 | .box T x=>do some (.box (←dg P T) (←aF x))
 | .build T parts=>do
   let z ←jV P T
   match P.underlying T with
   |some (.struct fs)=>
    let fills ←parts.toList.mapM fun(i,x)=>do let f ←fs[i]?;some (f.offset,←dg P f.type,←aF x)
    if(fs.toList.mapM fun f=>(P.info? f.type).map fun i=>(f.offset,i.size)).isSome then some (.build z.cells fills)else none
   |some (.array _ e)=>
    let s ←dg P e
    let fills ←parts.toList.mapM fun(i,x)=>do some (i*s,s,←aF x)
    some (.build z.cells fills)
   |_=>none
 | .buildSlice T len parts=>do
   let some (.slice e):=P.underlying T|none
   let s ←dg P e
   let z ←jV P e
   if parts.toList.map (·.1)=List.range len&&z.cells.length==s&&decide (0<s)then some (.bslice s (←iv (parts.toList.map (·.2))))else none
 | .load T x=>do some (.load (←ba P T) (←dg P T) (←aF x))
 | .store T a x=>do some (.store (←dg P T) (←aF a) (←aF x))
 | .fieldAddr T x f=>do
   let some (.struct fs):=P.underlying T|none
   let f ←fs[f]?
   if(←dg P f.type)=0 then none else some (.faddr f.offset (←aF x))
 | .indexAddr T x i=>do
   match P.underlying T with
   |some (.slice e)=>do
    let s ←dg P e
    if s=0 then none else some (.iaddrS s (←aF x) (←aF i))
   |some (.array n e)=>if n≤1 then none else some (.iaddrA n (←dg P e) (←aF x) (←aF i))
   |_=>none
 | .index T x i=>do
   match P.underlying T with
   |some (.array n e)=>some (.indexA n (←dg P e) (←ba P e) (←aF x) (←aF i))
   |_=>none
 | .slice T x lo hi mx=>do
   match P.underlying T with
   |some (.slice e)=>
    let lo' ←gb lo
    let hi' ←gb hi
    let mx' ←gb mx
    if mx.isSome&&hi.isNone then none else some (.slice (←dg P e) (←aF x) lo' hi' mx')
   |some (.array n e)=>if mx.isSome then none else some (.sliceA n (←dg P e) (←aF x) (←gb lo) (←gb hi))
   |_=>none
 | .extract x i=>do some (.extract (←aF x) i)
 | .makeFunc (.func f) first caps=>do if first.isEmpty then some (.mkfunc f (←iv caps.toList))else none
 | .makeMap T none=>match P.underlying T with
   |some (.map _ _)=>some .mkmap
   |_=>none
 | .lookup T x k ok=>do
   match P.underlying T with
   |some (.map kt e)=>match P.underlying kt with
    |some (.int .i64)=>some (.lookup (←jV P e) ok (←aF x) (←aF k))
    |_=>none
   |_=>none
 | .mapUpdate T m k v| .insert T m k v=>do
   match P.underlying T with
   |some (.map kt e)=>match P.underlying kt with
    |some (.int .i64)=>some (.mapset (←dg P e) (←aF m) (←aF k) (←aF v))
    |_=>none
   |_=>none
 | .range T x=>match P.underlying T with
   |some (.map kt _)=>match P.underlying kt with
    |some (.int .i64)=>(aF x).map .rangeM
    |_=>none
   |_=>none
 | .next x false=>(aF x).map .nextM
 | .entry x=>(aF x).map .entryM
 | .call c=>
   match c.callee with
   | .value f=>do some (.call (←aF f) (←iv c.args.toList))
   | .builtin b=>gQ P b c.args.toList c.argTypes.toList
   | .invoke _ _=>none
 |_=>none
def fI (P:Program) (mu:List Nat) (n:Nat) (ops:Array Oper) (o:Oper):Option Op1:=
 if o.dst.any (fun d=>decide (n≤d))then some ⟨none,none,false,.bad⟩else
 match o.guard with
 |none=>some ⟨o.dst,none,o.dst.any (fun d=>mu.contains d),(ao P o.op).getD .bad⟩
 |some (j,want)=>match (ops[j]?).bind (·.dst)with
  |some g=>some ⟨o.dst,some (g,want),o.dst.any (fun d=>mu.contains d),(ao P o.op).getD .bad⟩
  |none=>some ⟨none,none,false,.bad⟩
def bV (P:Program) (mu:List Nat) (n:Nat) (ops:Array Oper):List Oper→Option (List Op1)
 |[]=>some []
 |o::r=>match fI P mu n ops o,bV P mu n ops r with
  |some a,some b=>some (a::b)
  |_,_=>none
def iu (ops:List Oper):List (List Nat):=ops.foldl (fun acc o=>acc++[((o.after.toList.filter (Region.binds .any)).flatMap fun e=>e.on::acc.getD e.on []).eraseDups]) []
def clash (x y:Op1):Bool:=
 (match x.dst with|some d=>y.rd.contains d||y.dst==some d|none=>false)||(match y.dst with|some d=>x.rd.contains d|none=>false)
def pU (bef:List (List Nat)) (l:List Op1):Bool:=
 (List.range l.length).all fun j=>(List.range j).all fun i=>
  match l[i]?,l[j]? with
  |some x,some y=> !clash x y||(bef.getD j []).contains i
  |_,_=>false
def pk (ops:List Oper):Bool:=(List.range ops.length).all fun i=>match ops[i]? with|some o=>o.after.toList.all fun e=> !Region.binds .any e||decide (e.on<i)|none=>false
def gx:Code→C→Nat→Option C
 | .seq a b,.seq a' b',l=>match gx a a' l with
   |some r=>some (.seq r b')
   |none=>gx b b' l
 | .label l',_,l=>if l'==l then some .skip else none
 |_,_,_=>none
def pP:Code→Option Nat
 | .seq a b=>match pP a with
   |some l=>some l
   |none=>pP b
 | .label l=>some l
 |_=>none
def aH (P:Program) (mu:List Nat) (n:Nat):Code→Option C
 | .skip=>some .skip
 | .region _ ops draw=>match bV P mu n ops ops.toList with
   |some l=>if draw then(if pU (iu ops.toList) l&&pk ops.toList then(if mu.contains 1000000&&l.any (fun o=>match o.op with| .alloc _=>true|_=>false)then(if AC l then some (.drawA (iu ops.toList) l)else some .bad)else some (.draw (iu ops.toList) l))else some .bad)else some (.ops false l)
   |none=>none
 | .seq a b=>match aH P mu n a,aH P mu n b with
   |some x,some y=>some (.seq x y)
   |_,_=>none
 | .cond c a b=>match aF c,aH P mu n a,aH P mu n b with
   |some c,some x,some y=>some (.cond c x y)
   |_,_,_=>some .bad
 | .block id b=>(aH P mu n b).map (.block id)
 | .loop b=>(aH P mu n b).map .loop
 | .exit id=>some (.exit id)
 | .ret=>some .ret
 | .label _=>some .skip
 | .goto l=>some (.goto l)
 | .scope c=>match aH P mu n c,pP c with
   |some c',some l=>match gx c c' l with
    |some r'=>some (.scope c' l r')
    |none=>some .bad
   |_,_=>some .bad
 |_=>some .bad
def m8 (P:Program):ResultVar→Option Rs
 | .tmp t=>some (.tmp t)
 | .cell t T=>match ba P T,dg P T with
   |some a,some s=>some (.cell t a s)
   |_,_=>none
def aC (P:Program) (f:FuncId) (ro:Bool) (mu:List Nat):Option CF:=
 match P.funcs[f]? with
 |none=>none
 |some fn=>match fn.body with
  |none=>none
  |some c=>if fn.name== "runtime.NumGoroutine" then none else match aH P mu fn.ntmps c,fn.results.toList.mapM (m8 P)with
   |some b,some rs=>some ⟨fn.ntmps,rs,ro,mu,b⟩
   |_,_=>none
end Go.Ev
